/- Tells: part 5 of 6 of what the law rests on. -/
import Derived.Test.YtgnpldackjbdjaaGreatTellsD
namespace Go.Proofs.YtgnpldackjbdjaaGreat
open Go.Proofs
open Go.W Go.RowKit
attribute [local irreducible] Decidable.decide
set_option linter.unusedSimpArgs false
set_option linter.unusedVariables false
theorem Tryz.agg77 : aggB Tryz.prog 77 = some true := by kernel_rfl
theorem Tryz.build77 : Build Tryz.prog 77 #[(0, 1), (1, 1)] #[.slice none 0 0, .bool false] := ⟨_, .agg #[.slice none 0 0, .bool false], Tryz.underlying77, by kernel_rfl, rfl, fun w => by kernel_rfl⟩
theorem Tryz.fld77_0 : fieldB Tryz.prog 77 0 = some 0 := by kernel_rfl
theorem Tryz.fld77_1 : fieldB Tryz.prog 77 1 = some 1 := by kernel_rfl
theorem Tryz.size77 : sizeB Tryz.prog 77 = some 2 := by kernel_rfl
theorem Tryz.zero77 : zeroB Tryz.prog 77 = some #[.slice none 0 0, .bool false] := by kernel_rfl
theorem rnone_ok {X : List Nat} {w : World} {v : Value} {l : Lv} (hL : RLv X w v l) : Calls Tryz.prog 90 #[v] w (Ret fun r w' => r = .bool (lnone l) ∧ Evo [] w w') := by
  obtain ⟨sa, sn, sc, rfl, hr⟩ := hL.get; obtain ⟨sa', sc', hv, hcc, e1⟩ := id hr; cases hv; obtain ⟨lw, lm⟩ := l; simp only at hcc e1 hr
  try dsimp only
  refine calls_of_cw (N := 12) Tryz.func90 rfl rfl rfl ?_; refine cw_seq ?_; refine cw_region ?_; refine wl_boxA rfl rfl fun b1 w2 hB3 hs4 hw5 => ?_; have hG6 := Ge.new (Evo.refl [] w) hs4; have hE7 := (Evo.refl [] w).then hw5; refine wl_a ?_; refine wl_nil (nrm_then ?_); refine cw_seq ?_; refine cw_region ?_; refine wl_val rfl (ex_fieldAddr rfl Tryz.fld77_1) ?_; refine wl_val rfl (ex_load1 rfl Tryz.agg4 (cell_nth hB3 rfl)) ?_; refine wl_val rfl (ex_notb rfl) ?_; refine wl_m ?_; refine wl_splitb (t := 6) rfl (fun hs6 => ?_) (fun hs6 => ?_)
  ·skip
   refine wl_g ?_; refine wl_val rfl (ex_fieldAddr rfl Tryz.fld77_0) ?_; refine wl_g ?_; refine wl_val rfl (ex_load1 rfl Tryz.agg26 (cell_nth hB3 rfl)) ?_; refine wl_g ?_; refine wl_val rfl (ex_len_slice rfl Tryz.underlying26 rfl) ?_; refine wl_g ?_; refine wl_val rfl (ex_eql rfl rfl) ?_; refine wl_pt ?_; refine wl_a ?_; refine wl_nil (nrm_then ?_); refine cw_ret (body_ret1 rfl rfl ?_); refine ⟨congrArg Value.bool ?_, hE7⟩; unfold lnone
   cases lm <;> simp_all
  ·skip
   refine wl_n ?_; refine wl_n ?_; refine wl_n ?_; refine wl_n ?_; refine wl_pf ?_; refine wl_a ?_; refine wl_nil (nrm_then ?_); refine cw_ret (body_ret1 rfl rfl ?_); refine ⟨congrArg Value.bool ?_, hE7⟩; unfold lnone
   cases lm <;> simp_all
theorem rblank_ok {X : List Nat} {w : World} {v : Value} {l : Lv} (hL : RLv X w v l) : Calls Tryz.prog 89 #[v] w (Ret fun r w' => r = .bool (lempty l) ∧ Evo [] w w') := by
  obtain ⟨sa, sn, sc, rfl, hr⟩ := hL.get; obtain ⟨sa', sc', hv, hcc, e1⟩ := id hr; cases hv; obtain ⟨lw, lm⟩ := l; simp only at hcc e1 hr
  try dsimp only
  refine calls_of_cw (N := 19) Tryz.func89 rfl rfl rfl ?_; refine cw_seq ?_; refine cw_region ?_; refine wl_boxA rfl rfl fun b1 w2 hB3 hs4 hw5 => ?_; have hG6 := Ge.new (Evo.refl [] w) hs4; have hE7 := (Evo.refl [] w).then hw5; refine wl_a ?_; refine wl_nil (nrm_then ?_); refine cw_seq ?_; refine cw_region ?_; refine wl_val rfl (ex_fieldAddr rfl Tryz.fld77_1) ?_; refine wl_val rfl (ex_load1 rfl Tryz.agg4 (cell_nth hB3 rfl)) ?_; refine wl_val rfl (ex_notb rfl) ?_; refine wl_m ?_; refine wl_splitb (t := 6) rfl (fun hs6 => ?_) (fun hs6 => ?_)
  ·skip
   refine wl_g ?_; refine wl_val rfl (ex_fieldAddr rfl Tryz.fld77_0) ?_; refine wl_g ?_; refine wl_val rfl (ex_load1 rfl Tryz.agg26 (cell_nth hB3 rfl)) ?_; refine wl_g ?_; refine wl_val rfl (ex_len_slice rfl Tryz.underlying26 rfl) ?_; refine wl_g ?_; refine wl_val rfl (ex_eql rfl rfl) ?_; refine wl_pt ?_; refine wl_m ?_; refine wl_split (t := 12) rfl (fun hs12 => ?_) (fun hs12 => ?_)
   ·skip
    refine wl_g ?_; refine wl_val rfl (ex_fieldAddr rfl Tryz.fld77_0) ?_; refine wl_g ?_; refine wl_val rfl (ex_load1 rfl Tryz.agg26 (cell_nth hB3 rfl)) ?_; refine wl_g ?_; obtain ⟨b1, o1, vs1, ha1, hb1, hvl1, hc1, rfl⟩ := e1 0 (by omega)
    refine wl_val rfl (ex_indexAddrZ (n := 0) (by rw [ha1]; rfl) rfl rfl Tryz.elem26 (by omega)) ?_
    refine wl_g ?_; refine wl_val rfl (ex_load1 rfl Tryz.agg9 ((hc1.evo hE7 (by simp)) 0 _ rfl)) ?_; refine wl_g ?_; refine wl_val rfl (ex_eqs rfl rfl) ?_; refine wl_pt ?_; refine wl_a ?_; refine wl_nil (nrm_then ?_); refine cw_ret (body_ret1 rfl rfl ?_); refine ⟨congrArg Value.bool ?_, hE7⟩; obtain ⟨x, rfl⟩ := List.length_eq_one_iff.1 (show lw.length = 1 by omega)
    have hlm : lm = false := by cases lm <;> simp_all
    unfold lempty; simp [hlm]
   ·skip
    refine wl_n ?_; refine wl_n ?_; refine wl_n ?_; refine wl_n ?_; refine wl_n ?_; refine wl_pf ?_; refine wl_a ?_; refine wl_nil (nrm_then ?_); refine cw_ret (body_ret1 rfl rfl ?_); refine ⟨congrArg Value.bool ?_, hE7⟩
    have hne : lw ≠ [nob] := fun e => hs12 (by rw [e]; rfl)
    unfold lempty; simp [hne]
  ·skip
   refine wl_n ?_; refine wl_n ?_; refine wl_n ?_; refine wl_n ?_; refine wl_pf ?_; refine wl_m ?_; refine wl_n ?_; refine wl_n ?_; refine wl_n ?_; refine wl_n ?_; refine wl_n ?_; refine wl_pf ?_; refine wl_a ?_; refine wl_nil (nrm_then ?_); refine cw_ret (body_ret1 rfl rfl ?_); refine ⟨congrArg Value.bool ?_, hE7⟩; unfold lempty
   cases lm <;> simp_all
end Go.Proofs.YtgnpldackjbdjaaGreat
namespace Go.W
section
variable {P : Program} {σ : Env} {w : World} {dst : Option Nat} {T : TypeId} {pos : String} {after : Array Edge} {g : Option (Nat × Bool)}
theorem ex_sgtr {x y : Operand} {t t' : TypeId} {a b : ByteArray} (hx : σ.ev x = some (.string a)) (hy : σ.ev y = some (.string b)) : Ex P σ ⟨dst, .binOp .gtr t x y t', T, pos, after, g⟩ w (.bool (decide (b.toList < a.toList))) w := fun ρ h => by
  have : (!(Op.bytesLess a.toList b.toList || a.toList == b.toList)) = decide (b.toList < a.toList) := by
    rw [Go.Proofs.bytesLess_eq, Bool.eq_iff_iff, decide_eq_true_eq, Bool.not_eq_true', Bool.or_eq_false_iff, decide_eq_false_iff_not, beq_eq_false_iff_ne]
    exact ⟨fun h => Std.lt_of_le_of_ne (List.not_lt.1 h.1) (fun e => h.2 e.symm), fun h => ⟨fun h2 => List.lt_asymm h h2, fun e => by rw [e] at h; exact List.lt_irrefl _ h⟩⟩
  simp [execOp, h x _ hx, h y _ hy, eqGuard, Go.binOp_string_gtr, this]
end
end Go.W
namespace Go.Proofs.YtgnpldackjbdjaaGreat
open Go.Proofs Go.W Go.RowKit
attribute [local irreducible] Decidable.decide
set_option linter.unusedSimpArgs false
set_option linter.unusedVariables false
theorem lt_of_not {a b : ByteArray} (h : ¬ a.toList < b.toList) (hne : b ≠ a) : b.toList < a.toList := by
  have h1 : b.toList ≤ a.toList := List.not_lt.1 h
  exact Std.lt_of_le_of_ne h1 (fun e => hne (toList_inj e))
theorem srs_snoc {o : List ByteArray} {x : ByteArray} (h : SRs o) (hx : ∀ u, u ∈ o → u.toList < x.toList) : SRs (o ++ [x]) :=
  List.pairwise_append.2 ⟨h, List.pairwise_singleton _ _, fun a ha b hb => by rw [List.mem_singleton.1 hb]; exact hx a ha⟩
structure WG where
  i : Nat
  put : Bool
  o : List ByteArray
  n : Nat
  ta : Option Addr
  tc : Nat
  tob : Option Nat
structure WP (ll : List ByteArray) (s : ByteArray) (i : Nat) (put : Bool) (o : List ByteArray) : Prop where
  srs : SRs o
  mem : ∀ u, u ∈ o ↔ u ∈ ll.take i ∨ (put = true ∧ u = s)
  len : o.length = i + (if put = true then 1 else 0)
  low : put = false → ∀ u, u ∈ o → u.toList < s.toList
  high : put = true → ∀ j (h : j < ll.length), i ≤ j → s.toList < ll[j].toList
  ne : ∀ u, u ∈ ll.take i → u ≠ s
structure WI (w wr : World) (b2 b4 : Nat) (lv : Value) (ll : List ByteArray) (s : ByteArray) (x : WG) : Prop where
  hi : x.i ≤ ll.length
  h2 : wr.heap[b2]? = some (.cells #[lv, .bool false] 77 (0, 0))
  h4 : wr.heap[b4]? = some (.cells #[.slice none 0 0, .bool false] 77 (0, 0))
  own : OwnS wr 9 1 x.ta x.n x.tc (x.o.map sv) x.tob
  ge : Ge w x.tob
  a2 : ∀ g, x.tob = some g → g ≠ b2
  a4 : ∀ g, x.tob = some g → g ≠ b4
  hn : x.o.length = x.n
  wp : WP ll s x.i x.put x.o
theorem wp_zero (ll : List ByteArray) (s : ByteArray) : WP ll s 0 false [] := ⟨List.Pairwise.nil, fun u => by simp, rfl, fun _ u h => (by cases h), fun h => (by cases h), fun u h => by simp at h⟩
theorem lt_later {ll : List ByteArray} (h : SRs ll) {i j : Nat} (hi : i < ll.length) (hj : j < ll.length) (hij : i < j) : ll[i].toList < ll[j].toList := List.pairwise_iff_getElem.1 h i j hi hj hij
theorem mem_take {ll : List ByteArray} {i : Nat} {u : ByteArray} (h : u ∈ ll.take i) : ∃ j, ∃ hj : j < ll.length, j < i ∧ u = ll[j] := by
  obtain ⟨j, hj, rfl⟩ := List.getElem_of_mem h
  rw [List.length_take] at hj
  exact ⟨j, by omega, by omega, by rw [List.getElem_take]⟩
theorem wp_lt {ll o : List ByteArray} {s : ByteArray} {i : Nat} {put : Bool} (hs : SRs ll) (h : WP ll s i put o) (hi : i < ll.length) : ∀ u, u ∈ o → u.toList < ll[i].toList := fun u hu => by
  rcases (h.mem u).1 hu with h1 | ⟨h1, rfl⟩
  · obtain ⟨j, hj, hlt, rfl⟩ := mem_take h1
    exact lt_later hs hj hi hlt
  · exact h.high h1 i hi (Nat.le_refl _)
theorem wp_put {ll o : List ByteArray} {s : ByteArray} {i : Nat} (hs : SRs ll) (h : WP ll s i false o) (hi : i < ll.length) (hgt : s.toList < ll[i].toList) : WP ll s i true (o ++ [s]) where
  srs := srs_snoc h.srs (h.low rfl)
  mem u := by rw [List.mem_append, h.mem u, List.mem_singleton]; simp
  len := by rw [List.length_append, h.len]; simp
  low e := by cases e
  high _ j hj hij := by
    by_cases e : j = i
    · subst e; exact hgt
    · exact Std.lt_trans hgt (lt_later hs hi hj (by omega))
  ne := h.ne
theorem wp_next {ll o : List ByteArray} {s : ByteArray} {i : Nat} {put : Bool} (hs : SRs ll) (h : WP ll s i put o) (hi : i < ll.length) (hne : ¬ ll[i] = s) (hlo : put = false → ¬ s.toList < ll[i].toList) : WP ll s (i + 1) put (o ++ [ll[i]]) where
  srs := srs_snoc h.srs (wp_lt hs h hi)
  mem u := by
    rw [List.mem_append, h.mem u, List.mem_singleton, List.take_add_one, List.getElem?_eq_getElem hi, List.mem_append]
    simp only [Option.toList_some, List.mem_singleton]
    constructor
    · rintro ((h | h) | h); exact .inl (.inl h); exact .inr h; exact .inl (.inr h)
    · rintro ((h | h) | h); exact .inl (.inl h); exact .inr h; exact .inl (.inr h)
  len := by rw [List.length_append, h.len]; simp; omega
  low e u hu := by
    rcases List.mem_append.1 hu with hu | hu
    · exact h.low e u hu
    · rw [List.mem_singleton.1 hu]; exact lt_of_not (hlo e) hne
  high e j hj hij := h.high e j hj (by omega)
  ne u hu := by
    rw [List.take_add_one, List.getElem?_eq_getElem hi, List.mem_append] at hu
    simp only [Option.toList_some, List.mem_singleton] at hu
    rcases hu with hu | rfl
    · exact h.ne u hu
    · exact hne
theorem wp_done {ll o : List ByteArray} {s : ByteArray} {B : Nat} {S : Tx} (hI : LIs (ll, false) B S) (hsz : s.size ≤ B) (h : WP ll s ll.length true o) :
    (64 < o.length → LIs ([], true) B (fun u => S u ∨ u = s)) ∧ (¬ 64 < o.length → LIs (o, false) B (fun u => S u ∨ u = s)) := by
  obtain ⟨h1, h2, h3, h4⟩ := hI.few rfl
  have hm : ∀ u, u ∈ o ↔ S u ∨ u = s := fun u => by
    rw [h.mem u, List.take_of_length_le (Nat.le_refl _), ← h3 u]; simp
  refine ⟨fun hl => LIs.many ⟨o, SRs.nodup h.srs, hl, fun u hu => (hm u).1 hu⟩, fun hl => ⟨fun _ => ⟨h.srs, by show o.length ≤ 64; omega, hm, fun u hu => ?_⟩, fun e => by cases e⟩⟩
  rcases (h.mem u).1 hu with hu | ⟨-, rfl⟩
  · exact h4 u (List.mem_of_mem_take hu)
  · exact hsz
theorem wp_end {ll o : List ByteArray} {s : ByteArray} (h : WP ll s ll.length false o) : WP ll s ll.length true (o ++ [s]) where
  srs := srs_snoc h.srs (h.low rfl)
  mem u := by rw [List.mem_append, h.mem u, List.mem_singleton]; simp
  len := by rw [List.length_append, h.len]; simp
  low e := by cases e
  high _ j hj hij := by omega
  ne := h.ne
theorem lis_has {ll : List ByteArray} {B : Nat} {S : Tx} (h : LIs (ll, false) B S) {s : ByteArray} (hs : s ∈ ll) : LIs (ll, false) B (fun u => S u ∨ u = s) :=
  h.congr fun u => ⟨.inl, fun h1 => h1.elim id fun e => e ▸ ((h.few rfl).2.2.1 s).1 hs⟩
theorem lis_manyw {l : Lv} {B : Nat} {S : Tx} (h : LIs l B S) (h2 : l.2 = true) (s : ByteArray) : LIs l B (fun u => S u ∨ u = s) := by
  rw [many_eq h h2]
  exact LIs.many ((h.isLots h2).mono fun u hu => .inl hu)
set_option maxHeartbeats 4000000 in
theorem rwith_ok {X : List Nat} {w : World} {v : Value} {l : Lv} {B : Nat} {S : Tx} {s : ByteArray} (hX : ∀ b, b ∈ X → b < w.heap.size) (hL : RLv X w v l) (hI : LIs l B S) (hsz : s.size ≤ B) :
    Calls Tryz.prog 135 #[v, .string s] w (Ret fun r w' => ∃ l', RLv X w' r l' ∧ LIs l' B (fun u => S u ∨ u = s) ∧ Evo [] w w') := by
  obtain ⟨la, ln, lc, rfl, hr⟩ := hL.get; obtain ⟨_, _, hv, hcc, e1⟩ := id hr; cases hv; obtain ⟨ll, lb⟩ := l; simp only at hcc e1 hr
  try dsimp only
  have hlen := hI.len; simp only at hlen; refine calls_of_cw (N := 61) Tryz.func135 rfl rfl rfl ?_; refine cw_seq ?_; refine cw_region ?_; refine wl_boxA rfl rfl fun b2 w1 hB2 hs3 hw4 => ?_; have hsz_b2 := hs3; have hG5 := Ge.new (Evo.refl [] w) hs3; have hE6 := (Evo.refl [] w).then hw4; refine wl_alloc rfl Tryz.zero77 fun b4 w7 hB8 hs9 hw10 => ?_; have hsz_b4 := hs9; have hA11 := Apart.new (Lt.blk hB2) hs9; have hG12 := Ge.new hE6 hs9; have hE13 := hE6.then hw10; have hB14 := hw10.blk0 hB2; refine wl_nil (nrm_then ?_); refine cw_seq ?_; refine cw_seq ?_; refine cw_region ?_; refine wl_val rfl (ex_fieldAddr rfl Tryz.fld77_1) ?_; refine wl_val rfl (ex_load1 rfl Tryz.agg4 (cell_nth hB14 rfl)) ?_; refine wl_nil (nrm_then ?_); refine cw_ifb rfl (fun hc9 => ?_) (fun hc9 => ?_)
  ·skip
   refine cw_seq ?_; refine cw_region ?_; refine wl_val rfl (ex_loadBlk rfl Tryz.agg77 Tryz.size77 hB14 rfl) ?_; refine wl_storeBlk rfl rfl Tryz.size77 hB8 rfl rfl ⟨by first | rfl | assumption, by first | rfl | assumption, trivial⟩ fun w15 hB16 hw17 => ?_; have hE18 := hE13.step hw17 hG12.mem1; have hB19 := hw17.blk hB14 hA11.nmem1
   try simp only [List.setIfInBounds_toArray, List.set_cons_zero, List.set_cons_succ, Nat.reduceAdd, Nat.zero_add, Nat.add_zero] at hB16
   refine wl_nil (nrm_then ?_); refine cw_ret (ret_then (body_retC1 rfl (ResOk.cellA rfl Tryz.agg77 Tryz.size77 hB16 rfl) ?_)); exact ⟨(ll, lb), hL.evo ((hE18).any _), lis_manyw hI hc9 s, hE18⟩
  ·skip
   subst hc9; have hSR := (hI.few rfl).1; refine cw_skip (nrm_then ?_); refine cw_seq ?_; refine cw_region ?_; refine wl_a ?_; refine wl_nil (nrm_then ?_); refine cw_seq ?_; refine cw_region ?_; refine wl_a ?_; refine wl_nil (nrm_then ?_); refine cw_seq ?_; refine cw_seq ?_; refine cw_region ?_; refine wl_a ?_; refine wl_nil (nrm_then ?_); refine cw_block ?_; refine cw_loop (α := WG) (⟨0, false, [], 0, none, 0, none⟩) (fun x => [(7, .int .i64 (x.i : Nat)), (6, .bool x.put), (5, .slice x.ta x.n x.tc)]) [(1, _), (2, _), (4, _)] (fun x wr => Evo [] w wr ∧ (WI w wr b2 b4 (.slice la ll.length lc) ll s x)) (fun x => ll.length - x.i) ⟨rfl, rfl, rfl, trivial⟩ ⟨rfl, rfl, rfl, trivial⟩ ⟨hE13, ⟨Nat.zero_le _, hB14, hB8, OwnS.nil _ _ _, Ge.nil _, (fun g h => by cases h), (fun g h => by cases h), rfl, wp_zero ll s⟩⟩ ?_; rintro ⟨i, put, o, n, ta, tc, tob⟩ wr20 ⟨hV21, ⟨hi, hb2, hb4, hT, hge, ha2, ha4, hnn, hwp⟩⟩; show CW _ _ _ _ [(7, .int .i64 (i : Nat)), (6, .bool put), (5, .slice ta n tc), (1, _), (2, _), (4, _)] _
   try dsimp only at hi
   try dsimp only at hb2
   try dsimp only at hb4
   try dsimp only at hT
   try dsimp only at hge
   try dsimp only at ha2
   try dsimp only at ha4
   try dsimp only at hnn
   try dsimp only at hwp
   have hA2 : Apart (some b2) tob := fun g h1 h2 => ha2 g h2 (by cases h1; rfl)
   have hA4 : Apart (some b4) tob := fun g h1 h2 => ha4 g h2 (by cases h1; rfl)
   refine cw_seq ?_; refine cw_seq ?_; refine cw_region ?_; refine wl_m ?_; refine wl_val rfl (ex_fieldAddr rfl Tryz.fld77_0) ?_; refine wl_val rfl (ex_load1 rfl Tryz.agg26 (cell_nth hb2 rfl)) ?_; refine wl_val rfl (ex_len_slice rfl Tryz.underlying26 rfl) ?_; refine wl_val rfl (ex_lss rfl rfl) ?_; refine wl_nil (nrm_then ?_); refine cw_if rfl (fun hc15 => ?_) (fun hc15 => ?_)
   ·skip
    have hi' : i < ll.length := by omega
    obtain ⟨b7, o7, vs7, ha7, hb7, hvl7, hc7, rfl⟩ := e1 i hi'; refine cw_skip (nrm_then ?_); refine cw_seq ?_; refine cw_block ?_; refine cw_seq ?_; refine cw_seq ?_; refine cw_region ?_; refine wl_val rfl (ex_fieldAddr rfl Tryz.fld77_0) ?_; refine wl_val rfl (ex_load1 rfl Tryz.agg26 (cell_nth hb2 rfl)) ?_; refine wl_m ?_
    refine wl_val rfl (ex_indexAddr (n := i) (by rw [ha7]; rfl) rfl Tryz.elem26 (by omega)) ?_
    refine wl_val rfl (ex_load1 rfl Tryz.agg9 ((hc7.evo hV21 (by simp)) 0 _ rfl)) ?_; refine wl_m ?_; refine wl_val rfl (ex_eqs rfl rfl) ?_; refine wl_nil (nrm_then ?_); refine cw_if rfl (fun hc24 => ?_) (fun hc24 => ?_)
    ·skip
     refine cw_seq ?_; refine cw_region ?_; refine wl_val rfl (ex_loadBlk rfl Tryz.agg77 Tryz.size77 hb2 rfl) ?_; refine wl_storeBlk rfl rfl Tryz.size77 hb4 rfl rfl ⟨by first | rfl | assumption, by first | rfl | assumption, trivial⟩ fun w22 hB23 hw24 => ?_; have hE25 := hV21.step hw24 hG12.mem1; have hB26 := hw24.blk hb2 hA11.nmem1; have hO27 := hT.evo hw24 hA4.symm.own1
     try simp only [List.setIfInBounds_toArray, List.set_cons_zero, List.set_cons_succ, Nat.reduceAdd, Nat.zero_add, Nat.add_zero] at hB23
     refine wl_nil (nrm_then ?_); refine cw_ret (ret_then (ret_block (ret_then (ret_then (ret_block (ret_then (body_retC1 rfl (ResOk.cellA rfl Tryz.agg77 Tryz.size77 hB23 rfl) ?_))))))); exact ⟨(ll, false), hL.evo ((hE25).any _), lis_has hI (hc24 ▸ List.getElem_mem hi'), hE25⟩
    ·skip
     refine cw_skip (nrm_then ?_); refine cw_seq ?_; refine cw_seq ?_; refine cw_region ?_; refine wl_m ?_; refine wl_val rfl (ex_notb rfl) ?_; refine wl_m ?_; refine wl_splitb (t := 28) rfl (fun hs28 => ?_) (fun hs28 => ?_)
     ·skip
      obtain rfl : put = false := by simpa using hs28
      refine wl_g ?_; refine wl_val rfl (ex_fieldAddr rfl Tryz.fld77_0) ?_; refine wl_g ?_; refine wl_val rfl (ex_load1 rfl Tryz.agg26 (cell_nth hb2 rfl)) ?_; refine wl_g ?_; refine wl_m ?_; refine wl_g ?_
      refine wl_val rfl (ex_indexAddr (n := i) (by rw [ha7]; rfl) rfl Tryz.elem26 (by omega)) ?_
      refine wl_g ?_; refine wl_val rfl (ex_load1 rfl Tryz.agg9 ((hc7.evo hV21 (by simp)) 0 _ rfl)) ?_; refine wl_g ?_; refine wl_m ?_; refine wl_g ?_; refine wl_val rfl (ex_sgtr rfl rfl) ?_; refine wl_pt ?_; refine wl_nil (nrm_then ?_); refine cw_if rfl (fun hc36 => ?_) (fun hc36 => ?_)
      ·skip
       have hwp2 := wp_put hSR hwp hi' hc36; have hwn := wp_next hSR hwp2 hi' hc24 (fun e => by cases e); refine cw_seq ?_; refine cw_region ?_; refine wl_m ?_; refine wl_m ?_; refine wl_bslice (vs := [_]) rfl Tryz.slice26 rfl rfl rfl rfl fun b28 w29 hO30 hs31 hw32 => ?_; have hA33 := Apart.new (Lt.blk hb2) hs31; have hA34 := Apart.new (Lt.blk hb4) hs31; have hA35 := Apart.new (Lt.own hT) hs31; have hG36 := Ge.new hV21 hs31; have hE37 := hV21.then hw32; have hB38 := hw32.blk0 hb2; have hB39 := hw32.blk0 hb4; have hO40 := hT.evo0 hw32
       refine wl_append rfl rfl rfl rfl Tryz.app26_26 hO40 (Src.ofOwn hO30 ⟨by first | rfl | assumption, trivial⟩) (by have := hwp.len; split at this <;> omega) fun ta2 tc2 w43 tob2 hT2 hw46 hob47 => ?_
       have hA48 := hA2.app (Lt.blk hB38) hob47; have hA49 := hA4.app (Lt.blk hB39) hob47; have hA50 := hA35.symm.app (Lt.own hO30) hob47; have hG51 := hge.app hE37 hob47; have hE52 := hE37.step hw46 hge.mem; have hB53 := hw46.blk hB38 hA2.nmem; have hB54 := hw46.blk hB39 hA4.nmem; have hO55 := hO30.evo hw46 hA35.symm.own; refine wl_a ?_; refine wl_nil (nrm_then ?_); refine cw_region ?_; refine wl_a ?_; refine wl_nil (nrm_then ?_); refine cw_region ?_; refine wl_m ?_; refine wl_val rfl (ex_fieldAddr rfl Tryz.fld77_0) ?_; refine wl_val rfl (ex_load1 rfl Tryz.agg26 (cell_nth hB53 rfl)) ?_; refine wl_m ?_
       refine wl_val rfl (ex_indexAddr (n := i) (by rw [ha7]; rfl) rfl Tryz.elem26 (by omega)) ?_
       refine wl_val rfl (ex_load1 rfl Tryz.agg9 ((hc7.evo hE52 (by simp)) 0 _ rfl)) ?_; refine wl_bslice (vs := [_]) rfl Tryz.slice26 rfl rfl rfl rfl fun b56 w57 hO58 hs59 hw60 => ?_; have hA61 := Apart.new (Lt.blk hB53) hs59; have hA62 := Apart.new (Lt.blk hB54) hs59; have hA63 := Apart.new (Lt.own hT2) hs59; have hG64 := Ge.new hE52 hs59; have hE65 := hE52.then hw60; have hB66 := hw60.blk0 hB53; have hB67 := hw60.blk0 hB54; have hO68 := hT2.evo0 hw60
       refine wl_append rfl rfl rfl rfl Tryz.app26_26 hO68 (Src.ofOwn hO58 ⟨by first | rfl | assumption, trivial⟩) (by have := hwp.len; split at this <;> omega) fun ta3 tc3 w71 tob3 hT3 hw74 hob75 => ?_
       have hA76 := hA48.app (Lt.blk hB66) hob75; have hA77 := hA49.app (Lt.blk hB67) hob75; have hA78 := hA63.symm.app (Lt.own hO58) hob75; have hG79 := hG51.app hE65 hob75; have hE80 := hE65.step hw74 hG51.mem; have hB81 := hw74.blk hB66 hA48.nmem; have hB82 := hw74.blk hB67 hA49.nmem; have hO83 := hO58.evo hw74 hA63.symm.own; refine wl_a ?_; refine wl_nil (nrm_block (nrm_then ?_)); refine cw_region ?_; refine wl_m ?_; refine wl_val rfl (ex_add_i64 rfl rfl (by omega) (by omega)) ?_; refine wl_a ?_; refine wl_nil (nrm_same ?_); refine ⟨⟨i + 1, true, o ++ [s] ++ [ll[i]], n + 1 + 1, ta3, tc3, tob3⟩, ?_, ⟨rfl, rfl, rfl, trivial⟩, ⟨rfl, rfl, rfl, trivial⟩, hE80, ?_⟩
       · (try dsimp only); omega
       ·skip
        try dsimp only
        refine ⟨by show i + 1 ≤ _; omega, hB81, hB82, ?_, hG79, ?_, ?_, ?_, hwn⟩
        · have h9 := hT3; rw [List.map_append, List.map_append]; exact h9
        · intro g h1 e; subst e; exact hA76 _ rfl h1
        · intro g h1 e; subst e; exact hA77 _ rfl h1
        · simp only [List.length_append, List.length_cons, List.length_nil]; omega
      ·skip
       have hwn := wp_next hSR hwp hi' hc24 (fun _ => hc36); refine cw_skip (nrm_then ?_); refine cw_region ?_; refine wl_m ?_; refine wl_val rfl (ex_fieldAddr rfl Tryz.fld77_0) ?_; refine wl_val rfl (ex_load1 rfl Tryz.agg26 (cell_nth hb2 rfl)) ?_; refine wl_m ?_
       refine wl_val rfl (ex_indexAddr (n := i) (by rw [ha7]; rfl) rfl Tryz.elem26 (by omega)) ?_
       refine wl_val rfl (ex_load1 rfl Tryz.agg9 ((hc7.evo hV21 (by simp)) 0 _ rfl)) ?_; refine wl_bslice (vs := [_]) rfl Tryz.slice26 rfl rfl rfl rfl fun b84 w85 hO86 hs87 hw88 => ?_; have hA89 := Apart.new (Lt.blk hb2) hs87; have hA90 := Apart.new (Lt.blk hb4) hs87; have hA91 := Apart.new (Lt.own hT) hs87; have hG92 := Ge.new hV21 hs87; have hE93 := hV21.then hw88; have hB94 := hw88.blk0 hb2; have hB95 := hw88.blk0 hb4; have hO96 := hT.evo0 hw88
       refine wl_append rfl rfl rfl rfl Tryz.app26_26 hO96 (Src.ofOwn hO86 ⟨by first | rfl | assumption, trivial⟩) (by have := hwp.len; split at this <;> omega) fun ta3 tc3 w99 tob3 hT3 hw102 hob103 => ?_
       have hA104 := hA2.app (Lt.blk hB94) hob103; have hA105 := hA4.app (Lt.blk hB95) hob103; have hA106 := hA91.symm.app (Lt.own hO86) hob103; have hG107 := hge.app hE93 hob103; have hE108 := hE93.step hw102 hge.mem; have hB109 := hw102.blk hB94 hA2.nmem; have hB110 := hw102.blk hB95 hA4.nmem; have hO111 := hO86.evo hw102 hA91.symm.own; refine wl_a ?_; refine wl_nil (nrm_block (nrm_then ?_)); refine cw_region ?_; refine wl_m ?_; refine wl_val rfl (ex_add_i64 rfl rfl (by omega) (by omega)) ?_; refine wl_a ?_; refine wl_nil (nrm_same ?_); refine ⟨⟨i + 1, _, o ++ [ll[i]], n + 1, ta3, tc3, tob3⟩, ?_, ⟨rfl, rfl, rfl, trivial⟩, ⟨rfl, rfl, rfl, trivial⟩, hE108, ?_⟩
       · (try dsimp only); omega
       ·skip
        try dsimp only
        refine ⟨by show i + 1 ≤ _; omega, hB109, hB110, ?_, hG107, ?_, ?_, ?_, hwn⟩
        · have h9 := hT3; rw [List.map_append]; exact h9
        · intro g h1 e; subst e; exact hA104 _ rfl h1
        · intro g h1 e; subst e; exact hA105 _ rfl h1
        · simp only [List.length_append, List.length_cons, List.length_nil]; omega
     ·skip
      obtain rfl : put = true := by simpa using hs28
      have hwn := wp_next hSR hwp hi' hc24 (fun e => by cases e); refine wl_n ?_; refine wl_n ?_; refine wl_n ?_; refine wl_n ?_; refine wl_n ?_; refine wl_n ?_; refine wl_n ?_; refine wl_pf ?_; refine wl_nil (nrm_then ?_); refine cw_false rfl ?_; refine cw_skip (nrm_then ?_); refine cw_region ?_; refine wl_m ?_; refine wl_val rfl (ex_fieldAddr rfl Tryz.fld77_0) ?_; refine wl_val rfl (ex_load1 rfl Tryz.agg26 (cell_nth hb2 rfl)) ?_; refine wl_m ?_
      refine wl_val rfl (ex_indexAddr (n := i) (by rw [ha7]; rfl) rfl Tryz.elem26 (by omega)) ?_
      refine wl_val rfl (ex_load1 rfl Tryz.agg9 ((hc7.evo hV21 (by simp)) 0 _ rfl)) ?_; refine wl_bslice (vs := [_]) rfl Tryz.slice26 rfl rfl rfl rfl fun b112 w113 hO114 hs115 hw116 => ?_; have hA117 := Apart.new (Lt.blk hb2) hs115; have hA118 := Apart.new (Lt.blk hb4) hs115; have hA119 := Apart.new (Lt.own hT) hs115; have hG120 := Ge.new hV21 hs115; have hE121 := hV21.then hw116; have hB122 := hw116.blk0 hb2; have hB123 := hw116.blk0 hb4; have hO124 := hT.evo0 hw116
      refine wl_append rfl rfl rfl rfl Tryz.app26_26 hO124 (Src.ofOwn hO114 ⟨by first | rfl | assumption, trivial⟩) (by have := hwp.len; split at this <;> omega) fun ta3 tc3 w127 tob3 hT3 hw130 hob131 => ?_
      have hA132 := hA2.app (Lt.blk hB122) hob131; have hA133 := hA4.app (Lt.blk hB123) hob131; have hA134 := hA119.symm.app (Lt.own hO114) hob131; have hG135 := hge.app hE121 hob131; have hE136 := hE121.step hw130 hge.mem; have hB137 := hw130.blk hB122 hA2.nmem; have hB138 := hw130.blk hB123 hA4.nmem; have hO139 := hO114.evo hw130 hA119.symm.own; refine wl_a ?_; refine wl_nil (nrm_block (nrm_then ?_)); refine cw_region ?_; refine wl_m ?_; refine wl_val rfl (ex_add_i64 rfl rfl (by omega) (by omega)) ?_; refine wl_a ?_; refine wl_nil (nrm_same ?_); refine ⟨⟨i + 1, _, o ++ [ll[i]], n + 1, ta3, tc3, tob3⟩, ?_, ⟨rfl, rfl, rfl, trivial⟩, ⟨rfl, rfl, rfl, trivial⟩, hE136, ?_⟩
      · (try dsimp only); omega
      ·skip
       try dsimp only
       refine ⟨by show i + 1 ≤ _; omega, hB137, hB138, ?_, hG135, ?_, ?_, ?_, hwn⟩
       · have h9 := hT3; rw [List.map_append]; exact h9
       · intro g h1 e; subst e; exact hA132 _ rfl h1
       · intro g h1 e; subst e; exact hA133 _ rfl h1
       · simp only [List.length_append, List.length_cons, List.length_nil]; omega
   ·skip
    obtain rfl : i = ll.length := by omega
    refine cw_exit (ex_then (ex_then (ex_here (nrm_then ?_)))); refine cw_seq ?_; refine cw_seq ?_; refine cw_region ?_; refine wl_m ?_; refine wl_val rfl (ex_notb rfl) ?_; refine wl_nil (nrm_then ?_); refine cw_ifb rfl (fun hc50 => ?_) (fun hc50 => ?_)
    ·skip
     obtain rfl : put = false := by simpa using hc50
     have hwd := wp_done hI hsz (wp_end hwp); refine cw_region ?_; refine wl_m ?_; refine wl_m ?_; refine wl_bslice (vs := [_]) rfl Tryz.slice26 rfl rfl rfl rfl fun b140 w141 hO142 hs143 hw144 => ?_; have hA145 := Apart.new (Lt.blk hb2) hs143; have hA146 := Apart.new (Lt.blk hb4) hs143; have hA147 := Apart.new (Lt.own hT) hs143; have hG148 := Ge.new hV21 hs143; have hE149 := hV21.then hw144; have hB150 := hw144.blk0 hb2; have hB151 := hw144.blk0 hb4; have hO152 := hT.evo0 hw144
     refine wl_append rfl rfl rfl rfl Tryz.app26_26 hO152 (Src.ofOwn hO142 ⟨by first | rfl | assumption, trivial⟩) (by have := hwp.len; split at this <;> omega) fun ta2 tc2 w155 tob2 hT2 hw158 hob159 => ?_
     have hA160 := hA2.app (Lt.blk hB150) hob159; have hA161 := hA4.app (Lt.blk hB151) hob159; have hA162 := hA147.symm.app (Lt.own hO142) hob159; have hG163 := hge.app hE149 hob159; have hE164 := hE149.step hw158 hge.mem; have hB165 := hw158.blk hB150 hA2.nmem; have hB166 := hw158.blk hB151 hA4.nmem; have hO167 := hO142.evo hw158 hA147.symm.own; refine wl_a ?_; refine wl_nil (nrm_then ?_); refine cw_seq ?_; refine cw_seq ?_; refine cw_region ?_; refine wl_m ?_; refine wl_val rfl (ex_len_slice rfl Tryz.underlying26 rfl) ?_; refine wl_val rfl (ex_gtr rfl rfl) ?_; refine wl_nil (nrm_then ?_); refine cw_if rfl (fun hc57 => ?_) (fun hc57 => ?_)
     ·skip
      refine cw_seq ?_; refine cw_region ?_; refine wl_val rfl (ex_build (vs := [(1, _)]) Tryz.build77 rfl (cells := [_, _]) rfl) ?_; refine wl_storeBlk rfl rfl Tryz.size77 hB166 rfl rfl ⟨by first | rfl | assumption, by first | rfl | assumption, trivial⟩ fun w168 hB169 hw170 => ?_; have hE171 := hE164.step hw170 hG12.mem1; have hB172 := hw170.blk hB165 hA11.nmem1; have hO173 := hT2.evo hw170 hA161.symm.own1
      try simp only [List.setIfInBounds_toArray, List.set_cons_zero, List.set_cons_succ, Nat.reduceAdd, Nat.zero_add, Nat.add_zero] at hB169
      refine wl_nil (nrm_then ?_); refine cw_ret (ret_then (body_retC1 rfl (ResOk.cellA rfl Tryz.agg77 Tryz.size77 hB169 rfl) ?_)); refine ⟨([], true), rlv_none _ _ true, hwd.1 ?_, hE171⟩
      first | (rw [List.length_append]; show 64 < o.length + 1; omega) | omega
     ·skip
      refine cw_skip (nrm_then ?_); refine cw_seq ?_; refine cw_region ?_; refine wl_m ?_; refine wl_val rfl (ex_build (vs := [(0, _)]) Tryz.build77 rfl (cells := [_, _]) rfl) ?_; refine wl_storeBlk rfl rfl Tryz.size77 hB166 rfl rfl ⟨by first | rfl | assumption, by first | rfl | assumption, trivial⟩ fun w174 hB175 hw176 => ?_; have hE177 := hE164.step hw176 hG12.mem1; have hB178 := hw176.blk hB165 hA11.nmem1; have hO179 := hT2.evo hw176 hA161.symm.own1
      try simp only [List.setIfInBounds_toArray, List.set_cons_zero, List.set_cons_succ, Nat.reduceAdd, Nat.zero_add, Nat.add_zero] at hB175
      refine wl_nil (nrm_then ?_); refine cw_ret (body_retC1 rfl (ResOk.cellA rfl Tryz.agg77 Tryz.size77 hB175 rfl) ?_); refine ⟨(o ++ [s], false), ?_, hwd.2 ?_, hE177⟩
      · exact ⟨_, _, _, rfl, own_rts (by first | (rw [List.map_append]; exact hO179) | exact hO179) (fun g hg hm => by have h8 := hG163 g hg; have h7 := hX g hm; omega)⟩
      · first | (rw [List.length_append]; show ¬ 64 < o.length + 1; omega) | omega
    ·skip
     obtain rfl : put = true := by simpa using hc50
     have hwd := wp_done hI hsz hwp; refine cw_skip (nrm_then ?_); refine cw_seq ?_; refine cw_seq ?_; refine cw_region ?_; refine wl_m ?_; refine wl_val rfl (ex_len_slice rfl Tryz.underlying26 rfl) ?_; refine wl_val rfl (ex_gtr rfl rfl) ?_; refine wl_nil (nrm_then ?_); refine cw_if rfl (fun hc57 => ?_) (fun hc57 => ?_)
     ·skip
      refine cw_seq ?_; refine cw_region ?_; refine wl_val rfl (ex_build (vs := [(1, _)]) Tryz.build77 rfl (cells := [_, _]) rfl) ?_; refine wl_storeBlk rfl rfl Tryz.size77 hb4 rfl rfl ⟨by first | rfl | assumption, by first | rfl | assumption, trivial⟩ fun w180 hB181 hw182 => ?_; have hE183 := hV21.step hw182 hG12.mem1; have hB184 := hw182.blk hb2 hA11.nmem1; have hO185 := hT.evo hw182 hA4.symm.own1
      try simp only [List.setIfInBounds_toArray, List.set_cons_zero, List.set_cons_succ, Nat.reduceAdd, Nat.zero_add, Nat.add_zero] at hB181
      refine wl_nil (nrm_then ?_); refine cw_ret (ret_then (body_retC1 rfl (ResOk.cellA rfl Tryz.agg77 Tryz.size77 hB181 rfl) ?_)); refine ⟨([], true), rlv_none _ _ true, hwd.1 ?_, hE183⟩
      first | (rw [List.length_append]; show 64 < o.length + 1; omega) | omega
     ·skip
      refine cw_skip (nrm_then ?_); refine cw_seq ?_; refine cw_region ?_; refine wl_m ?_; refine wl_val rfl (ex_build (vs := [(0, _)]) Tryz.build77 rfl (cells := [_, _]) rfl) ?_; refine wl_storeBlk rfl rfl Tryz.size77 hb4 rfl rfl ⟨by first | rfl | assumption, by first | rfl | assumption, trivial⟩ fun w186 hB187 hw188 => ?_; have hE189 := hV21.step hw188 hG12.mem1; have hB190 := hw188.blk hb2 hA11.nmem1; have hO191 := hT.evo hw188 hA4.symm.own1
      try simp only [List.setIfInBounds_toArray, List.set_cons_zero, List.set_cons_succ, Nat.reduceAdd, Nat.zero_add, Nat.add_zero] at hB187
      refine wl_nil (nrm_then ?_); refine cw_ret (body_retC1 rfl (ResOk.cellA rfl Tryz.agg77 Tryz.size77 hB187 rfl) ?_); refine ⟨(o, false), ?_, hwd.2 ?_, hE189⟩
      · exact ⟨_, _, _, rfl, own_rts (by first | (rw [List.map_append]; exact hO191) | exact hO191) (fun g hg hm => by have h8 := hge g hg; have h7 := hX g hm; omega)⟩
      · first | (rw [List.length_append]; show ¬ 64 < o.length + 1; omega) | omega
end Go.Proofs.YtgnpldackjbdjaaGreat
namespace Go.Proofs.YtgnpldackjbdjaaGreat
open Go.Proofs
open Go.W Go.RowKit
attribute [local irreducible] Decidable.decide
set_option linter.unusedSimpArgs false
set_option linter.unusedVariables false
theorem Tryz.goes135 : Goes Tryz.prog 135 := ⟨_, Tryz.func135, by kernel_rfl, by kernel_rfl⟩
theorem Tryz.goes90 : Goes Tryz.prog 90 := ⟨_, Tryz.func90, by kernel_rfl, by kernel_rfl⟩
theorem lots_left {l m : Lv} {B C : Nat} {S T : Tx} (hI : LIs l B S) (hJ : LIs m C T) (h : l.2 = true ∨ m.2 = true) : LIs ([], true) (max B C) (fun u => S u ∨ T u) := by
  rcases h with h | h
  · exact LIs.many ((hI.isLots h).mono fun u hu => .inl hu)
  · exact LIs.many ((hJ.isLots h).mono fun u hu => .inr hu)
theorem lots_then {l m : Lv} {B C : Nat} {S T : Tx} (hI : LIs l B S) (hJ : LIs m C T) (h1 : ¬ lnone l = true) (h2 : ¬ lnone m = true) (h : l.2 = true ∨ m.2 = true) : LIs ([], true) (B + C) (Cc S T) := by
  have e : lthen l m = ([], true) := by rw [lthen, if_neg (fun h => h.elim h1 h2), if_pos h]
  have := hI.then hJ
  rwa [e] at this
theorem none_then {l m : Lv} {B C : Nat} {S T : Tx} (hI : LIs l B S) (hJ : LIs m C T) (h : lnone l = true ∨ lnone m = true) : LIs ([], false) (B + C) (Cc S T) := by
  have e : lthen l m = ([], false) := by rw [lthen, if_pos h]
  have := hI.then hJ
  rwa [e] at this
theorem tkm {L : List ByteArray} {k : Nat} (h : k < L.length) (u : ByteArray) : u ∈ L.take (k + 1) ↔ u ∈ L.take k ∨ u = L[k] := by
  rw [List.take_add_one, List.getElem?_eq_getElem h, List.mem_append]
  simp
structure AnG where
  k : Nat
  pa : Option Addr
  pn : Nat
  pc : Nat
  p : Lv
structure AnI (X : List Nat) (wr : World) (b2 b3 b4 : Nat) (mv : Value) (lm : List ByteArray) (B : Nat) (S : Tx) (x : AnG) : Prop where
  hk : x.k ≤ lm.length
  h2 : wr.heap[b2]? = some (.cells #[.slice x.pa x.pn x.pc, .bool x.p.2] 77 (0, 0))
  h3 : wr.heap[b3]? = some (.cells #[mv, .bool false] 77 (0, 0))
  h4 : wr.heap[b4]? = some (.cells #[.slice none 0 0, .bool false] 77 (0, 0))
  rp : RLv (X ++ [b2, b4]) wr (.agg #[.slice x.pa x.pn x.pc, .bool x.p.2]) x.p
  is : LIs x.p B (fun u => S u ∨ u ∈ lm.take x.k)
structure TnI (X : List Nat) (wr : World) (b2 b3 b4 b5 : Nat) (lv mv : Value) (n : Nat) (B : Nat) (D : Nat → Tx) (x : AnG) : Prop where
  hk : x.k ≤ n
  h2 : wr.heap[b2]? = some (.cells #[lv, .bool false] 77 (0, 0))
  h3 : wr.heap[b3]? = some (.cells #[mv, .bool false] 77 (0, 0))
  h4 : wr.heap[b4]? = some (.cells #[.slice none 0 0, .bool false] 77 (0, 0))
  h5 : wr.heap[b5]? = some (.cells #[.slice x.pa x.pn x.pc, .bool x.p.2] 77 (0, 0))
  rp : RLv (X ++ [b4, b5]) wr (.agg #[.slice x.pa x.pn x.pc, .bool x.p.2]) x.p
  is : LIs x.p B (D x.k)
structure AnJ where
  j : Nat
  pa : Option Addr
  pn : Nat
  pc : Nat
  p : Lv
structure TnJ (X : List Nat) (wr : World) (b2 b3 b4 b5 : Nat) (lv mv : Value) (n : Nat) (B : Nat) (D : Nat → Tx) (x : AnJ) : Prop where
  hk : x.j ≤ n
  h2 : wr.heap[b2]? = some (.cells #[lv, .bool false] 77 (0, 0))
  h3 : wr.heap[b3]? = some (.cells #[mv, .bool false] 77 (0, 0))
  h4 : wr.heap[b4]? = some (.cells #[.slice none 0 0, .bool false] 77 (0, 0))
  h5 : wr.heap[b5]? = some (.cells #[.slice x.pa x.pn x.pc, .bool x.p.2] 77 (0, 0))
  rp : RLv (X ++ [b4, b5]) wr (.agg #[.slice x.pa x.pn x.pc, .bool x.p.2]) x.p
  is : LIs x.p B (D x.j)
def Dn (ll lm : List ByteArray) (i : Nat) : Tx := fun u => ∃ a b, a ∈ ll.take i ∧ b ∈ lm ∧ u = a ++ b
def Dp (ll lm : List ByteArray) (i : Nat) (x : ByteArray) (j : Nat) : Tx := fun u => Dn ll lm i u ∨ ∃ b, b ∈ lm.take j ∧ u = x ++ b
theorem dn_zero (ll lm : List ByteArray) (B : Nat) : LIs ([], false) B (Dn ll lm 0) := LIs.nil fun u ⟨a, b, h, _⟩ => by simp at h
theorem dp_zero (ll lm : List ByteArray) (i : Nat) (x u : ByteArray) : Dn ll lm i u ↔ Dp ll lm i x 0 u := ⟨.inl, fun h => h.elim id fun ⟨b, h, _⟩ => by simp at h⟩
theorem dp_step {ll lm : List ByteArray} {i : Nat} {x : ByteArray} {j : Nat} (h : j < lm.length) (u : ByteArray) : (Dp ll lm i x j u ∨ u = x ++ lm[j]) ↔ Dp ll lm i x (j + 1) u := by
  constructor
  · rintro ((h1 | ⟨b, h1, h2⟩) | h1)
    · exact .inl h1
    · exact .inr ⟨b, (tkm h b).2 (.inl h1), h2⟩
    · exact .inr ⟨lm[j], (tkm h _).2 (.inr rfl), h1⟩
  · rintro (h1 | ⟨b, h1, h2⟩)
    · exact .inl (.inl h1)
    · rcases (tkm h b).1 h1 with h1 | rfl
      · exact .inl (.inr ⟨b, h1, h2⟩)
      · exact .inr h2
theorem dp_end {ll lm : List ByteArray} {i j : Nat} (hi : i < ll.length) (h : lm.length ≤ j) (u : ByteArray) : Dp ll lm i ll[i] j u ↔ Dn ll lm (i + 1) u := by
  unfold Dp
  rw [List.take_of_length_le h]
  constructor
  · rintro (⟨a, b, h1, h2, h3⟩ | ⟨b, h1, h2⟩)
    · exact ⟨a, b, (tkm hi a).2 (.inl h1), h2, h3⟩
    · exact ⟨ll[i], b, (tkm hi _).2 (.inr rfl), h1, h2⟩
  · rintro ⟨a, b, h1, h2, h3⟩
    rcases (tkm hi a).1 h1 with h1 | rfl
    · exact .inl ⟨a, b, h1, h2, h3⟩
    · exact .inr ⟨b, h2, h3⟩
theorem dn_end {ll lm : List ByteArray} {i B C : Nat} {S T : Tx} (hI : LIs (ll, false) B S) (hJ : LIs (lm, false) C T) (h : ll.length ≤ i) (u : ByteArray) : Dn ll lm i u ↔ Cc S T u := by
  unfold Dn
  rw [List.take_of_length_le h]
  constructor
  · rintro ⟨a, b, h1, h2, h3⟩; exact ⟨a, b, ((hI.few rfl).2.2.1 a).1 h1, ((hJ.few rfl).2.2.1 b).1 h2, h3⟩
  · rintro ⟨a, b, h1, h2, h3⟩; exact ⟨a, b, ((hI.few rfl).2.2.1 a).2 h1, ((hJ.few rfl).2.2.1 b).2 h2, h3⟩
set_option maxHeartbeats 4000000 in
theorem rand_ok {X : List Nat} {w : World} {v1 v2 : Value} {l m : Lv} {B C : Nat} {S T : Tx} (hX : ∀ b, b ∈ X → b < w.heap.size) (hL : RLv X w v1 l) (hM : RLv X w v2 m) (hI : LIs l B S) (hJ : LIs m C T) :
    Calls Tryz.prog 88 #[v1, v2] w (Ret fun r w' => ∃ l', RLv X w' r l' ∧ LIs l' (max B C) (fun u => S u ∨ T u) ∧ Evo [] w w') := by
  have hL0 := hL; have hM0 := hM; obtain ⟨la, ln, lc, rfl, hr1⟩ := hL.get; obtain ⟨_, _, hv, hcc1, e1⟩ := id hr1; cases hv; obtain ⟨ma, mn, mc, rfl, hr2⟩ := hM.get; obtain ⟨_, _, hv, hcc2, e2⟩ := id hr2; cases hv; obtain ⟨ll, lb⟩ := l; obtain ⟨lm, mb⟩ := m; simp only at hcc1 e1 hr1 hcc2 e2 hr2
  try dsimp only
  have hI0 := hI; have hJ0 := hJ; have hl1 := hI.len; have hl2 := hJ.len; simp only at hl1 hl2; refine calls_of_cw (N := 28) Tryz.func88 rfl rfl rfl ?_; refine cw_seq ?_; refine cw_region ?_; refine wl_boxA rfl rfl fun b2 w1 hB2 hs3 hw4 => ?_; have hsz_b2 := hs3; have hG5 := Ge.new (Evo.refl [] w) hs3; have hE6 := (Evo.refl [] w).then hw4; refine wl_boxA rfl rfl fun b3 w7 hB8 hs9 hw10 => ?_; have hsz_b3 := hs9; have hA11 := Apart.new (Lt.blk hB2) hs9; have hG12 := Ge.new hE6 hs9; have hE13 := hE6.then hw10; have hB14 := hw10.blk0 hB2; refine wl_alloc rfl Tryz.zero77 fun b4 w15 hB16 hs17 hw18 => ?_; have hsz_b4 := hs17; have hA19 := Apart.new (Lt.blk hB14) hs17; have hA20 := Apart.new (Lt.blk hB8) hs17; have hG21 := Ge.new hE13 hs17; have hE22 := hE13.then hw18; have hB23 := hw18.blk0 hB14; have hB24 := hw18.blk0 hB8; refine wl_nil (nrm_then ?_); refine cw_seq ?_; refine cw_seq ?_; refine cw_region ?_; refine wl_val rfl (ex_fieldAddr rfl Tryz.fld77_1) ?_; refine wl_val rfl (ex_load1 rfl Tryz.agg4 (cell_nth hB23 rfl)) ?_; refine wl_m ?_; refine wl_splitb (t := 8) rfl (fun hs8 => ?_) (fun hs8 => ?_)
  ·skip
   refine wl_n ?_; refine wl_n ?_; refine wl_pt ?_; refine wl_nil (nrm_then ?_); refine cw_true rfl ?_; refine cw_seq ?_; refine cw_region ?_; refine wl_val rfl (ex_build (vs := [(1, _)]) Tryz.build77 rfl (cells := [_, _]) rfl) ?_; refine wl_storeBlk rfl rfl Tryz.size77 hB16 rfl rfl ⟨by first | rfl | assumption, by first | rfl | assumption, trivial⟩ fun w25 hB26 hw27 => ?_; have hE28 := hE22.step hw27 hG21.mem1; have hB29 := hw27.blk hB23 hA19.nmem1; have hB30 := hw27.blk hB24 hA20.nmem1
   try simp only [List.setIfInBounds_toArray, List.set_cons_zero, List.set_cons_succ, Nat.reduceAdd, Nat.zero_add, Nat.add_zero] at hB26
   refine wl_nil (nrm_then ?_); refine cw_ret (ret_then (body_retC1 rfl (ResOk.cellA rfl Tryz.agg77 Tryz.size77 hB26 rfl) ?_)); exact ⟨([], true), rlv_none _ _ true, lots_left hI0 hJ0 (.inl hs8), hE28⟩
  ·skip
   refine wl_g ?_; refine wl_val rfl (ex_fieldAddr rfl Tryz.fld77_1) ?_; refine wl_g ?_; refine wl_val rfl (ex_load1 rfl Tryz.agg4 (cell_nth hB24 rfl)) ?_; refine wl_pf ?_; refine wl_nil (nrm_then ?_); refine cw_ifb rfl (fun hc11 => ?_) (fun hc11 => ?_)
   ·skip
    refine cw_seq ?_; refine cw_region ?_; refine wl_val rfl (ex_build (vs := [(1, _)]) Tryz.build77 rfl (cells := [_, _]) rfl) ?_; refine wl_storeBlk rfl rfl Tryz.size77 hB16 rfl rfl ⟨by first | rfl | assumption, by first | rfl | assumption, trivial⟩ fun w31 hB32 hw33 => ?_; have hE34 := hE22.step hw33 hG21.mem1; have hB35 := hw33.blk hB23 hA19.nmem1; have hB36 := hw33.blk hB24 hA20.nmem1
    try simp only [List.setIfInBounds_toArray, List.set_cons_zero, List.set_cons_succ, Nat.reduceAdd, Nat.zero_add, Nat.add_zero] at hB32
    refine wl_nil (nrm_then ?_); refine cw_ret (ret_then (body_retC1 rfl (ResOk.cellA rfl Tryz.agg77 Tryz.size77 hB32 rfl) ?_)); exact ⟨([], true), rlv_none _ _ true, lots_left hI0 hJ0 (.inr hc11), hE34⟩
   ·skip
    subst hs8; subst hc11
    have hL2 : RLv (X ++ [b2, b4]) w _ _ := hL.fresh (fun y hy => by rcases List.mem_append.1 hy with h | h; exact .inl h; simp at h; rcases h with rfl | rfl; exact .inr (hG5 _ rfl); exact .inr (hG21 _ rfl))
    refine cw_skip (nrm_then ?_); refine cw_seq ?_; refine cw_seq ?_; refine cw_region ?_; refine wl_a ?_; refine wl_nil (nrm_then ?_); refine cw_block ?_; refine cw_loop (α := AnG) (⟨0, la, ll.length, lc, (ll, false)⟩) (fun x => [(5, .int .i64 (x.k : Nat))]) [(2, _), (3, _), (4, _)] (fun x wr => Evo [] w wr ∧ (AnI X wr b2 b3 b4 (.slice ma lm.length mc) lm (max B C) S x)) (fun x => lm.length - x.k) ⟨rfl, trivial⟩ ⟨rfl, rfl, rfl, trivial⟩ ⟨hE22, ⟨Nat.zero_le _, hB23, hB24, hB16, hL2.evo ((hE22).any _), (hI0.wide (Nat.le_max_left B C)).congr (fun u => by simp)⟩⟩ ?_; rintro ⟨k, pa, pn, pc, p⟩ wr37 ⟨hV38, ⟨hk, hb2, hb3, hb4, hrp, his⟩⟩; show CW _ _ _ _ [(5, .int .i64 (k : Nat)), (2, _), (3, _), (4, _)] _
    try dsimp only at hk
    try dsimp only at hb2
    try dsimp only at hb3
    try dsimp only at hb4
    try dsimp only at hrp
    try dsimp only at his
    have hE39 := Evo.refl (X ++ [b2, b4]) wr37; refine cw_seq ?_; refine cw_seq ?_; refine cw_region ?_; refine wl_m ?_; refine wl_val rfl (ex_fieldAddr rfl Tryz.fld77_0) ?_; refine wl_val rfl (ex_load1 rfl Tryz.agg26 (cell_nth hb3 rfl)) ?_; refine wl_val rfl (ex_len_slice rfl Tryz.underlying26 rfl) ?_; refine wl_val rfl (ex_lss rfl rfl) ?_; refine wl_nil (nrm_then ?_); refine cw_if rfl (fun hc17 => ?_) (fun hc17 => ?_)
    ·skip
     have hk' : k < lm.length := by omega
     obtain ⟨b7, o7, vs7, ha7, hb7, hvl7, hc7, rfl⟩ := e2 k hk'; have hsz7 : lm[k].size ≤ C := hJ0.size lm[k] (List.getElem_mem hk'); refine cw_skip (nrm_then ?_); refine cw_seq ?_; refine cw_block ?_; refine cw_any (fun w0 w' => Evo [] w0 w') (by kernel_rfl) (fun w40 hw41 => ?_); have hE42 := hV38.then hw41; have hE43 := hE39.then hw41; have hB44 := hw41.blk0 hb2; have hB45 := hw41.blk0 hb3; have hB46 := hw41.blk0 hb4; refine ae_take 0 rfl (by kernel_rfl) (by kernel_rfl) (by kernel_rfl) rfl (fun _ hS => ex_loadBlk rfl Tryz.agg77 Tryz.size77 (hS.blk0 hB44) rfl) (Evo.refl [] w40) ?_; refine ae_take 1 rfl (by kernel_rfl) (by kernel_rfl) (by kernel_rfl) rfl (fun _ hS => ex_fieldAddr rfl Tryz.fld77_0) (Evo.refl [] w40) ?_; refine ae_take 2 rfl (by kernel_rfl) (by kernel_rfl) (by kernel_rfl) rfl (fun _ hS => ex_load1 rfl Tryz.agg26 (cell_nth (hS.blk0 hB45) rfl)) (Evo.refl [] w40) ?_; refine ae_take 3 rfl (by kernel_rfl) (by kernel_rfl) (by kernel_rfl) rfl (fun _ hS => ex_move rfl) (Evo.refl [] w40) ?_; refine ae_take 4 rfl (by kernel_rfl) (by kernel_rfl) (by kernel_rfl) rfl (fun _ hS => ex_indexAddrA rfl rfl ha7 Tryz.elem26 hk') (Evo.refl [] w40) ?_; refine ae_take 5 rfl (by kernel_rfl) (by kernel_rfl) (by kernel_rfl) rfl (fun _ hS => ex_load1 rfl Tryz.agg9 ((hc7.evo (hE42.then hS) (by simp)) 0 _ rfl)) (Evo.refl [] w40) ?_; refine ae_loud [6] (by kernel_rfl) rfl ⟨?_, trivial⟩; refine a_step rfl ?_; refine wl_call1 (vs := [_, _]) Tryz.goes135 rfl (rwith_ok (X := X ++ [b2, b4]) (mem_x2 hX hE42 (blk_lt hB44) (blk_lt hB46)) (hrp.evo hE43) his (Nat.le_trans hsz7 (Nat.le_max_right B C))) rfl ?_; rintro rv w47 ⟨lr, hR, hIr, hw48⟩; have hE49 := hE42.then hw48; have hE50 := hE43.then hw48; have hE51 := (Evo.refl [] w40).then hw48; have hB52 := hw48.blk0 hB44
     have hB53 := hw48.blk0 hB45; have hB54 := hw48.blk0 hB46; obtain ⟨ra, rn, rc, rfl, hrr⟩ := hR.get; refine wl_nil (ae_next (.inl hE51) ?_); refine ae_loud [7] (by kernel_rfl) rfl ⟨?_, trivial⟩; refine a_step rfl ?_; refine wl_storeBlk rfl rfl Tryz.size77 hB52 rfl rfl ⟨by first | rfl | assumption, by first | rfl | assumption, trivial⟩ fun w55 hB56 hw57 => ?_; have hE58 := hE49.step hw57 hG5.mem1
     have hE59 := hE50.step hw57 (fun y hy => .inl (by rw [List.mem_singleton.1 hy]; simp))
     have hE61 := (Evo.refl (X ++ [b2, b4]) w47).step hw57 (fun y hy => .inl (by rw [List.mem_singleton.1 hy]; simp))
     have hB62 := hw57.blk hB53 hA11.symm.nmem1; have hB63 := hw57.blk hB54 hA19.symm.nmem1
     try simp only [List.setIfInBounds_toArray, List.set_cons_zero, List.set_cons_succ, Nat.reduceAdd, Nat.zero_add, Nat.add_zero] at hB56
     refine wl_nil (ae_next (.inr (by kernel_rfl)) ?_); refine ae_done (by kernel_rfl) (nrm_block (nrm_then ?_)); refine cw_region ?_; refine wl_m ?_; refine wl_val rfl (ex_add_i64 rfl rfl (by omega) (by omega)) ?_; refine wl_a ?_; refine wl_nil (nrm_same ?_); refine ⟨⟨k + 1, ra, rn, rc, lr⟩, ?_, ⟨rfl, trivial⟩, ⟨rfl, rfl, rfl, trivial⟩, hE58, ?_⟩
     · (try dsimp only); omega
     ·skip
      try dsimp only
      exact ⟨by show k + 1 ≤ _; omega, hB56, hB62, hB63, hR.evo hE61, hIr.congr (fun u => by rw [tkm hk' u]; exact ⟨fun h => h.elim (fun h => h.elim .inl (fun h => .inr (.inl h))) (fun h => .inr (.inr h)), fun h => h.elim (fun h => .inl (.inl h)) (fun h => h.elim (fun h => .inl (.inr h)) .inr)⟩)⟩
    ·skip
     refine cw_exit (ex_then (ex_then (ex_here (nrm_then ?_)))); refine cw_seq ?_; refine cw_region ?_; refine wl_val rfl (ex_loadBlk rfl Tryz.agg77 Tryz.size77 hb2 rfl) ?_; refine wl_storeBlk rfl rfl Tryz.size77 hb4 rfl rfl ⟨by first | rfl | assumption, by first | rfl | assumption, trivial⟩ fun w64 hB65 hw66 => ?_; have hE67 := hV38.step hw66 hG21.mem1
     have hE68 := hE39.step hw66 (fun y hy => .inl (by rw [List.mem_singleton.1 hy]; simp))
     have hB69 := hw66.blk hb2 hA19.nmem1; have hB70 := hw66.blk hb3 hA20.nmem1
     try simp only [List.setIfInBounds_toArray, List.set_cons_zero, List.set_cons_succ, Nat.reduceAdd, Nat.zero_add, Nat.add_zero] at hB65
     refine wl_nil (nrm_then ?_); refine cw_ret (body_retC1 rfl (ResOk.cellA rfl Tryz.agg77 Tryz.size77 hB65 rfl) ?_); refine ⟨p, (hrp.evo hE68).left, his.congr (fun u => ?_), hE67⟩; rw [List.take_of_length_le (show lm.length ≤ k by omega), (hJ0.few rfl).2.2.1 u]
set_option maxHeartbeats 4000000 in
theorem rthen_ok {X : List Nat} {w : World} {v1 v2 : Value} {l m : Lv} {B C : Nat} {S T : Tx} (hX : ∀ b, b ∈ X → b < w.heap.size) (hL : RLv X w v1 l) (hM : RLv X w v2 m) (hI : LIs l B S) (hJ : LIs m C T) (hB : B ≤ 1000000) (hC : C ≤ 1000000) :
    Calls Tryz.prog 87 #[v1, v2] w (Ret fun r w' => ∃ l', RLv X w' r l' ∧ LIs l' (B + C) (Cc S T) ∧ Evo [] w w') := by
  have hL0 := hL; have hM0 := hM; obtain ⟨la, ln, lc, rfl, hr1⟩ := hL.get; obtain ⟨_, _, hv, hcc1, e1⟩ := id hr1; cases hv; obtain ⟨ma, mn, mc, rfl, hr2⟩ := hM.get; obtain ⟨_, _, hv, hcc2, e2⟩ := id hr2; cases hv; obtain ⟨ll, lb⟩ := l; obtain ⟨lm, mb⟩ := m; simp only at hcc1 e1 hr1 hcc2 e2 hr2
  try dsimp only
  have hI0 := hI; have hJ0 := hJ; have hl1 := hI.len; have hl2 := hJ.len; simp only at hl1 hl2; refine calls_of_cw (N := 51) Tryz.func87 rfl rfl rfl ?_; refine cw_seq ?_; refine cw_region ?_; refine wl_boxA rfl rfl fun b2 w1 hB2 hs3 hw4 => ?_; have hsz_b2 := hs3; have hG5 := Ge.new (Evo.refl [] w) hs3; have hE6 := (Evo.refl [] w).then hw4; refine wl_boxA rfl rfl fun b3 w7 hB8 hs9 hw10 => ?_; have hsz_b3 := hs9; have hA11 := Apart.new (Lt.blk hB2) hs9; have hG12 := Ge.new hE6 hs9; have hE13 := hE6.then hw10; have hB14 := hw10.blk0 hB2; refine wl_alloc rfl Tryz.zero77 fun b4 w15 hB16 hs17 hw18 => ?_; have hsz_b4 := hs17; have hA19 := Apart.new (Lt.blk hB14) hs17; have hA20 := Apart.new (Lt.blk hB8) hs17; have hG21 := Ge.new hE13 hs17; have hE22 := hE13.then hw18; have hB23 := hw18.blk0 hB14; have hB24 := hw18.blk0 hB8; refine wl_nil (nrm_then ?_); refine cw_seq ?_; refine cw_seq ?_; refine cw_region ?_; refine wl_val rfl (ex_loadBlk rfl Tryz.agg77 Tryz.size77 hB23 rfl) ?_; refine wl_call1 (vs := [_]) Tryz.goes90 rfl (rnone_ok (hL0.evo ((hE22).any _))) rfl ?_; rintro _ w25 ⟨rfl, hw26⟩; have hE27 := hE22.then hw26; have hB28 := hw26.blk0 hB23; have hB29 := hw26.blk0 hB24; have hB30 := hw26.blk0 hB16; refine wl_m ?_; refine wl_splitb (t := 10) rfl (fun hs10 => ?_) (fun hs10 => ?_)
  ·skip
   refine wl_n ?_; refine wl_n ?_; refine wl_pt ?_; refine wl_nil (nrm_then ?_); refine cw_true rfl ?_; refine cw_seq ?_; refine cw_region ?_; refine wl_val rfl (ex_build (vs := []) Tryz.build77 rfl (cells := [_, _]) rfl) ?_; refine wl_storeBlk rfl rfl Tryz.size77 hB30 rfl rfl ⟨by first | rfl | assumption, by first | rfl | assumption, trivial⟩ fun w31 hB32 hw33 => ?_; have hE34 := hE27.step hw33 hG21.mem1; have hB35 := hw33.blk hB28 hA19.nmem1; have hB36 := hw33.blk hB29 hA20.nmem1
   try simp only [List.setIfInBounds_toArray, List.set_cons_zero, List.set_cons_succ, Nat.reduceAdd, Nat.zero_add, Nat.add_zero] at hB32
   refine wl_nil (nrm_then ?_); refine cw_ret (ret_then (body_retC1 rfl (ResOk.cellA rfl Tryz.agg77 Tryz.size77 hB32 rfl) ?_)); exact ⟨([], false), rlv_none _ _ false, none_then hI0 hJ0 (.inl hs10), hE34⟩
  ·skip
   refine wl_g ?_; refine wl_val rfl (ex_loadBlk rfl Tryz.agg77 Tryz.size77 hB29 rfl) ?_; refine wl_g ?_; refine wl_call1 (vs := [_]) Tryz.goes90 rfl (rnone_ok (hM0.evo ((hE27).any _))) rfl ?_; rintro _ w37 ⟨rfl, hw38⟩; have hE39 := hE27.then hw38; have hB40 := hw38.blk0 hB28; have hB41 := hw38.blk0 hB29; have hB42 := hw38.blk0 hB30; refine wl_pf ?_; refine wl_nil (nrm_then ?_); refine cw_ifb rfl (fun hc13 => ?_) (fun hc13 => ?_)
   ·skip
    refine cw_seq ?_; refine cw_region ?_; refine wl_val rfl (ex_build (vs := []) Tryz.build77 rfl (cells := [_, _]) rfl) ?_; refine wl_storeBlk rfl rfl Tryz.size77 hB42 rfl rfl ⟨by first | rfl | assumption, by first | rfl | assumption, trivial⟩ fun w43 hB44 hw45 => ?_; have hE46 := hE39.step hw45 hG21.mem1; have hB47 := hw45.blk hB40 hA19.nmem1; have hB48 := hw45.blk hB41 hA20.nmem1
    try simp only [List.setIfInBounds_toArray, List.set_cons_zero, List.set_cons_succ, Nat.reduceAdd, Nat.zero_add, Nat.add_zero] at hB44
    refine wl_nil (nrm_then ?_); refine cw_ret (ret_then (body_retC1 rfl (ResOk.cellA rfl Tryz.agg77 Tryz.size77 hB44 rfl) ?_)); exact ⟨([], false), rlv_none _ _ false, none_then hI0 hJ0 (.inr hc13), hE46⟩
   ·skip
    refine cw_skip (nrm_then ?_); refine cw_seq ?_; refine cw_seq ?_; refine cw_region ?_; refine wl_val rfl (ex_fieldAddr rfl Tryz.fld77_1) ?_; refine wl_val rfl (ex_load1 rfl Tryz.agg4 (cell_nth hB40 rfl)) ?_; refine wl_m ?_; refine wl_splitb (t := 17) rfl (fun hs17 => ?_) (fun hs17 => ?_)
    ·skip
     refine wl_n ?_; refine wl_n ?_; refine wl_pt ?_; refine wl_nil (nrm_then ?_); refine cw_true rfl ?_; refine cw_seq ?_; refine cw_region ?_; refine wl_val rfl (ex_build (vs := [(1, _)]) Tryz.build77 rfl (cells := [_, _]) rfl) ?_; refine wl_storeBlk rfl rfl Tryz.size77 hB42 rfl rfl ⟨by first | rfl | assumption, by first | rfl | assumption, trivial⟩ fun w49 hB50 hw51 => ?_; have hE52 := hE39.step hw51 hG21.mem1; have hB53 := hw51.blk hB40 hA19.nmem1; have hB54 := hw51.blk hB41 hA20.nmem1
     try simp only [List.setIfInBounds_toArray, List.set_cons_zero, List.set_cons_succ, Nat.reduceAdd, Nat.zero_add, Nat.add_zero] at hB50
     refine wl_nil (nrm_then ?_); refine cw_ret (ret_then (body_retC1 rfl (ResOk.cellA rfl Tryz.agg77 Tryz.size77 hB50 rfl) ?_))
     exact ⟨([], true), rlv_none _ _ true, lots_then hI0 hJ0 (by rw [hs10]; decide) (by rw [hc13]; decide) (.inl hs17), hE52⟩
    ·skip
     refine wl_g ?_; refine wl_val rfl (ex_fieldAddr rfl Tryz.fld77_1) ?_; refine wl_g ?_; refine wl_val rfl (ex_load1 rfl Tryz.agg4 (cell_nth hB41 rfl)) ?_; refine wl_pf ?_; refine wl_nil (nrm_then ?_); refine cw_ifb rfl (fun hc20 => ?_) (fun hc20 => ?_)
     ·skip
      refine cw_seq ?_; refine cw_region ?_; refine wl_val rfl (ex_build (vs := [(1, _)]) Tryz.build77 rfl (cells := [_, _]) rfl) ?_; refine wl_storeBlk rfl rfl Tryz.size77 hB42 rfl rfl ⟨by first | rfl | assumption, by first | rfl | assumption, trivial⟩ fun w55 hB56 hw57 => ?_; have hE58 := hE39.step hw57 hG21.mem1; have hB59 := hw57.blk hB40 hA19.nmem1; have hB60 := hw57.blk hB41 hA20.nmem1
      try simp only [List.setIfInBounds_toArray, List.set_cons_zero, List.set_cons_succ, Nat.reduceAdd, Nat.zero_add, Nat.add_zero] at hB56
      refine wl_nil (nrm_then ?_); refine cw_ret (ret_then (body_retC1 rfl (ResOk.cellA rfl Tryz.agg77 Tryz.size77 hB56 rfl) ?_))
      exact ⟨([], true), rlv_none _ _ true, lots_then hI0 hJ0 (by rw [hs10]; decide) (by rw [hc13]; decide) (.inr hc20), hE58⟩
     ·skip
      subst hs17; subst hc20
      refine cw_skip (nrm_then ?_); refine cw_seq ?_; refine cw_region ?_; refine wl_val rfl (ex_build (vs := []) Tryz.build77 rfl (cells := [_, _]) rfl) ?_; refine wl_alloc rfl Tryz.zero77 fun b5 w61 hB62 hs63 hw64 => ?_; have hsz_b5 := hs63; have hA65 := Apart.new (Lt.blk hB40) hs63; have hA66 := Apart.new (Lt.blk hB41) hs63; have hA67 := Apart.new (Lt.blk hB42) hs63; have hG68 := Ge.new hE39 hs63; have hE69 := hE39.then hw64; have hB70 := hw64.blk0 hB40; have hB71 := hw64.blk0 hB41; have hB72 := hw64.blk0 hB42; refine wl_storeBlk rfl rfl Tryz.size77 hB62 rfl rfl ⟨by first | rfl | assumption, by first | rfl | assumption, trivial⟩ fun w73 hB74 hw75 => ?_; have hE76 := hE69.step hw75 hG68.mem1; have hB77 := hw75.blk hB70 hA65.nmem1; have hB78 := hw75.blk hB71 hA66.nmem1; have hB79 := hw75.blk hB72 hA67.nmem1
      try simp only [List.setIfInBounds_toArray, List.set_cons_zero, List.set_cons_succ, Nat.reduceAdd, Nat.zero_add, Nat.add_zero] at hB74
      refine wl_nil (nrm_then ?_); refine cw_seq ?_; refine cw_seq ?_; refine cw_region ?_; refine wl_a ?_; refine wl_nil (nrm_then ?_); refine cw_block ?_; refine cw_loop (α := AnG) (⟨0, none, 0, 0, ([], false)⟩) (fun x => [(6, .int .i64 (x.k : Nat))]) [(2, _), (3, _), (4, _), (5, _)] (fun x wr => Evo [] w wr ∧ (TnI X wr b2 b3 b4 b5 (.slice la ll.length lc) (.slice ma lm.length mc) ll.length (B + C) (Dn ll lm) x)) (fun x => ll.length - x.k) ⟨rfl, trivial⟩ ⟨rfl, rfl, rfl, rfl, trivial⟩ ⟨hE76, ⟨Nat.zero_le _, hB77, hB78, hB79, hB74, rlv_none _ _ false, dn_zero ll lm _⟩⟩ ?_; rintro ⟨k, pa, pn, pc, p⟩ wr80 ⟨hV81, ⟨hk, hb2, hb3, hb4, hb5, hrp, his⟩⟩; show CW _ _ _ _ [(6, .int .i64 (k : Nat)), (2, _), (3, _), (4, _), (5, _)] _
      try dsimp only at hk
      try dsimp only at hb2
      try dsimp only at hb3
      try dsimp only at hb4
      try dsimp only at hb5
      try dsimp only at hrp
      try dsimp only at his
      have hE82 := Evo.refl (X ++ [b4, b5]) wr80; refine cw_seq ?_; refine cw_seq ?_; refine cw_region ?_; refine wl_m ?_; refine wl_val rfl (ex_fieldAddr rfl Tryz.fld77_0) ?_; refine wl_val rfl (ex_load1 rfl Tryz.agg26 (cell_nth hb2 rfl)) ?_; refine wl_val rfl (ex_len_slice rfl Tryz.underlying26 rfl) ?_; refine wl_val rfl (ex_lss rfl rfl) ?_; refine wl_nil (nrm_then ?_); refine cw_if rfl (fun hc27 => ?_) (fun hc27 => ?_)
      ·skip
       have hi' : k < ll.length := by omega
       obtain ⟨b7, o7, vs7, ha7, hb7, hvl7, hc7, rfl⟩ := e1 k hi'; have hsz7 : ll[k].size ≤ B := hI0.size ll[k] (List.getElem_mem hi'); refine cw_skip (nrm_then ?_); refine cw_seq ?_; refine cw_block ?_; refine cw_seq ?_; refine cw_region ?_; refine wl_a ?_; refine wl_nil (nrm_then ?_); refine cw_block ?_; refine cw_loop (α := AnJ) (⟨0, pa, pn, pc, p⟩) (fun x => [(7, .int .i64 (x.j : Nat))]) [(2, _), (3, _), (4, _), (5, _), (6, _)] (fun x wr => Evo [] w wr ∧ (TnJ X wr b2 b3 b4 b5 (.slice la ll.length lc) (.slice ma lm.length mc) lm.length (B + C) (Dp ll lm k ll[k]) x)) (fun x => lm.length - x.j) ⟨rfl, trivial⟩ ⟨rfl, rfl, rfl, rfl, rfl, trivial⟩ ⟨hV81, ⟨Nat.zero_le _, hb2, hb3, hb4, hb5, hrp.evo hE82, his.congr (dp_zero ll lm k _)⟩⟩ ?_; rintro ⟨j, pa, pn, pc, p⟩ wr83 ⟨hV84, ⟨hj, hb2, hb3, hb4, hb5, hrp, his⟩⟩; show CW _ _ _ _ [(7, .int .i64 (j : Nat)), (2, _), (3, _), (4, _), (5, _), (6, _)] _
       try dsimp only at hj
       try dsimp only at hb2
       try dsimp only at hb3
       try dsimp only at hb4
       try dsimp only at hb5
       try dsimp only at hrp
       try dsimp only at his
       have hE85 := Evo.refl (X ++ [b4, b5]) wr83; refine cw_seq ?_; refine cw_seq ?_; refine cw_region ?_; refine wl_m ?_; refine wl_val rfl (ex_fieldAddr rfl Tryz.fld77_0) ?_; refine wl_val rfl (ex_load1 rfl Tryz.agg26 (cell_nth hb3 rfl)) ?_; refine wl_val rfl (ex_len_slice rfl Tryz.underlying26 rfl) ?_; refine wl_val rfl (ex_lss rfl rfl) ?_; refine wl_nil (nrm_then ?_); refine cw_if rfl (fun hc34 => ?_) (fun hc34 => ?_)
       ·skip
        have hj' : j < lm.length := by omega
        obtain ⟨b8, o8, vs8, ha8, hb8, hvl8, hc8, rfl⟩ := e2 j hj'; have hsz8 : lm[j].size ≤ C := hJ0.size lm[j] (List.getElem_mem hj')
        have hsa : ll[k].size + lm[j].size ≤ 9223372036854775807 := by omega
        have hsb : (ll[k] ++ lm[j]).size ≤ B + C := by rw [ByteArray.size_append]; omega
        refine cw_skip (nrm_then ?_); refine cw_seq ?_; refine cw_block ?_; refine cw_any (fun w0 w' => Evo [] w0 w') (by kernel_rfl) (fun w86 hw87 => ?_); have hE88 := hV84.then hw87; have hE89 := hE85.then hw87; have hB90 := hw87.blk0 hb2; have hB91 := hw87.blk0 hb3; have hB92 := hw87.blk0 hb4; have hB93 := hw87.blk0 hb5; refine ae_take 0 rfl (by kernel_rfl) (by kernel_rfl) (by kernel_rfl) rfl (fun _ hS => ex_loadBlk rfl Tryz.agg77 Tryz.size77 (hS.blk0 hB93) rfl) (Evo.refl [] w86) ?_; refine ae_take 1 rfl (by kernel_rfl) (by kernel_rfl) (by kernel_rfl) rfl (fun _ hS => ex_fieldAddr rfl Tryz.fld77_0) (Evo.refl [] w86) ?_; refine ae_take 2 rfl (by kernel_rfl) (by kernel_rfl) (by kernel_rfl) rfl (fun _ hS => ex_load1 rfl Tryz.agg26 (cell_nth (hS.blk0 hB90) rfl)) (Evo.refl [] w86) ?_; refine ae_take 3 rfl (by kernel_rfl) (by kernel_rfl) (by kernel_rfl) rfl (fun _ hS => ex_move rfl) (Evo.refl [] w86) ?_; refine ae_take 4 rfl (by kernel_rfl) (by kernel_rfl) (by kernel_rfl) rfl (fun _ hS => ex_indexAddrA rfl rfl ha7 Tryz.elem26 hi') (Evo.refl [] w86) ?_; refine ae_take 5 rfl (by kernel_rfl) (by kernel_rfl) (by kernel_rfl) rfl (fun _ hS => ex_load1 rfl Tryz.agg9 ((hc7.evo (hE88.then hS) (by simp)) 0 _ rfl)) (Evo.refl [] w86) ?_; refine ae_take 6 rfl (by kernel_rfl) (by kernel_rfl) (by kernel_rfl) rfl (fun _ hS => ex_fieldAddr rfl Tryz.fld77_0) (Evo.refl [] w86) ?_; refine ae_take 7 rfl (by kernel_rfl) (by kernel_rfl) (by kernel_rfl) rfl (fun _ hS => ex_load1 rfl Tryz.agg26 (cell_nth (hS.blk0 hB91) rfl)) (Evo.refl [] w86) ?_; refine ae_take 8 rfl (by kernel_rfl) (by kernel_rfl) (by kernel_rfl) rfl (fun _ hS => ex_move rfl) (Evo.refl [] w86) ?_
        refine ae_take 9 rfl (by kernel_rfl) (by kernel_rfl) (by kernel_rfl) rfl (fun _ hS => ex_indexAddrA rfl rfl ha8 Tryz.elem26 hj') (Evo.refl [] w86) ?_; refine ae_take 10 rfl (by kernel_rfl) (by kernel_rfl) (by kernel_rfl) rfl (fun _ hS => ex_load1 rfl Tryz.agg9 ((hc8.evo (hE88.then hS) (by simp)) 0 _ rfl)) (Evo.refl [] w86) ?_; refine ae_take 11 rfl (by kernel_rfl) (by kernel_rfl) (by kernel_rfl) rfl (fun _ hS => ex_sadd rfl rfl hsa) (Evo.refl [] w86) ?_; refine ae_loud [12] (by kernel_rfl) rfl ⟨?_, trivial⟩; refine a_step rfl ?_; refine wl_call1 (vs := [_, _]) Tryz.goes135 rfl (rwith_ok (X := X ++ [b4, b5]) (mem_x2 hX hE88 (blk_lt hB92) (blk_lt hB93)) (hrp.evo hE89) his hsb) rfl ?_; rintro rv w94 ⟨lr, hR, hIr, hw95⟩; have hE96 := hE88.then hw95; have hE97 := hE89.then hw95; have hE98 := (Evo.refl [] w86).then hw95; have hB99 := hw95.blk0 hB90; have hB100 := hw95.blk0 hB91; have hB101 := hw95.blk0 hB92; have hB102 := hw95.blk0 hB93; obtain ⟨ra, rn, rc, rfl, hrr⟩ := hR.get; refine wl_nil (ae_next (.inl hE98) ?_); refine ae_loud [13] (by kernel_rfl) rfl ⟨?_, trivial⟩; refine a_step rfl ?_; refine wl_storeBlk rfl rfl Tryz.size77 hB102 rfl rfl ⟨by first | rfl | assumption, by first | rfl | assumption, trivial⟩ fun w103 hB104 hw105 => ?_; have hE106 := hE96.step hw105 hG68.mem1
        have hE107 := hE97.step hw105 (fun y hy => .inl (by rw [List.mem_singleton.1 hy]; simp))
        have hE109 := (Evo.refl (X ++ [b4, b5]) w94).step hw105 (fun y hy => .inl (by rw [List.mem_singleton.1 hy]; simp))
        have hB110 := hw105.blk hB99 hA65.nmem1; have hB111 := hw105.blk hB100 hA66.nmem1; have hB112 := hw105.blk hB101 hA67.nmem1
        try simp only [List.setIfInBounds_toArray, List.set_cons_zero, List.set_cons_succ, Nat.reduceAdd, Nat.zero_add, Nat.add_zero] at hB104
        refine wl_nil (ae_next (.inr (by kernel_rfl)) ?_); refine ae_done (by kernel_rfl) (nrm_block (nrm_then ?_)); refine cw_region ?_; refine wl_m ?_; refine wl_val rfl (ex_add_i64 rfl rfl (by omega) (by omega)) ?_; refine wl_a ?_; refine wl_nil (nrm_same ?_); refine ⟨⟨j + 1, ra, rn, rc, lr⟩, ?_, ⟨rfl, trivial⟩, ⟨rfl, rfl, rfl, rfl, rfl, trivial⟩, hE106, ?_⟩
        · (try dsimp only); omega
        ·skip
         try dsimp only
         exact ⟨by show j + 1 ≤ _; omega, hB110, hB111, hB112, hB104, hR.evo hE109, hIr.congr (dp_step hj')⟩
       ·skip
        refine cw_exit (ex_then (ex_then (ex_here (nrm_block (nrm_then ?_))))); refine cw_region ?_; refine wl_m ?_; refine wl_val rfl (ex_add_i64 rfl rfl (by omega) (by omega)) ?_; refine wl_a ?_; refine wl_nil (nrm_same ?_); refine ⟨⟨k + 1, pa, pn, pc, p⟩, ?_, ⟨rfl, trivial⟩, ⟨rfl, rfl, rfl, rfl, trivial⟩, hV84, ?_⟩
        · (try dsimp only); omega
        ·skip
         try dsimp only
         exact ⟨by show k + 1 ≤ _; omega, hb2, hb3, hb4, hb5, hrp.evo hE85, his.congr (dp_end hi' (by omega))⟩
      ·skip
       refine cw_exit (ex_then (ex_then (ex_here (nrm_then ?_)))); refine cw_seq ?_; refine cw_region ?_; refine wl_val rfl (ex_loadBlk rfl Tryz.agg77 Tryz.size77 hb5 rfl) ?_; refine wl_storeBlk rfl rfl Tryz.size77 hb4 rfl rfl ⟨by first | rfl | assumption, by first | rfl | assumption, trivial⟩ fun w113 hB114 hw115 => ?_; have hE116 := hV81.step hw115 hG21.mem1
       have hE117 := hE82.step hw115 (fun y hy => .inl (by rw [List.mem_singleton.1 hy]; simp))
       have hB118 := hw115.blk hb2 hA19.nmem1; have hB119 := hw115.blk hb3 hA20.nmem1; have hB120 := hw115.blk hb5 hA67.symm.nmem1
       try simp only [List.setIfInBounds_toArray, List.set_cons_zero, List.set_cons_succ, Nat.reduceAdd, Nat.zero_add, Nat.add_zero] at hB114
       refine wl_nil (nrm_then ?_); refine cw_ret (body_retC1 rfl (ResOk.cellA rfl Tryz.agg77 Tryz.size77 hB114 rfl) ?_); exact ⟨p, (hrp.evo hE117).left, his.congr (dn_end hI0 hJ0 (by omega)), hE116⟩
end Go.Proofs.YtgnpldackjbdjaaGreat
namespace Go.Proofs.YtgnpldackjbdjaaGreat
open Go.Proofs
open Go.W Go.RowKit
attribute [local irreducible] Decidable.decide
set_option linter.unusedSimpArgs false
set_option linter.unusedVariables false
theorem lis_up {l : Lv} {B : Nat} {S T : Tx} (h : LIs l B S) (h2 : l.2 = true) (hm : ∀ u, S u → T u) : LIs l B T := by
  rw [many_eq h h2]
  exact LIs.many ((h.isLots h2).mono hm)
def Po (rs : List (Int × Int)) (k : Nat) : Tx := fun u => ∃ c, IsR c ∧ InR c (rs.take k) ∧ u = tx c
def Pi (rs : List (Int × Int)) (k : Nat) (g : Int × Int) (r : Int) : Tx := fun u => ∃ c, IsR c ∧ (InR c (rs.take k) ∨ (g.1 ≤ c ∧ c ≤ g.2 ∧ c < r)) ∧ u = tx c
theorem po_zero (rs : List (Int × Int)) (B : Nat) : LIs ([], false) B (Po rs 0) := LIs.nil fun u ⟨c, _, h, _⟩ => inR_nil c (by simpa using h)
theorem pi_start {rs : List (Int × Int)} {k : Nat} {g : Int × Int} (u : ByteArray) : Po rs k u ↔ Pi rs k g g.1 u :=
  ⟨fun ⟨c, h1, h2, h3⟩ => ⟨c, h1, .inl h2, h3⟩, fun ⟨c, h1, h2, h3⟩ => ⟨c, h1, h2.resolve_right (by omega), h3⟩⟩
theorem pi_step {rs : List (Int × Int)} {k : Nat} {g : Int × Int} {r : Int} (h0 : g.1 ≤ r) (h1 : r ≤ g.2) (hr : IsR r) (u : ByteArray) : (Pi rs k g r u ∨ u = tx r) ↔ Pi rs k g (r + 1) u := by
  constructor
  · rintro (⟨c, h2, h3, h4⟩ | rfl)
    · exact ⟨c, h2, h3.imp id fun h => ⟨h.1, h.2.1, by omega⟩, h4⟩
    · exact ⟨r, hr, .inr ⟨h0, h1, by omega⟩, rfl⟩
  · rintro ⟨c, h2, h3, h4⟩
    by_cases e : c = r
    · subst e; exact .inr h4
    · exact .inl ⟨c, h2, h3.imp id fun h => ⟨h.1, h.2.1, by omega⟩, h4⟩
theorem pi_skip {rs : List (Int × Int)} {k : Nat} {g : Int × Int} {r q : Int} (h1 : r ≤ q) (hq : ∀ c, r ≤ c → c < q → ¬ IsR c) (u : ByteArray) : Pi rs k g r u ↔ Pi rs k g q u := by
  constructor
  · rintro ⟨c, h2, h3, h4⟩; exact ⟨c, h2, h3.imp id fun h => ⟨h.1, h.2.1, by omega⟩, h4⟩
  · rintro ⟨c, h2, h3, h4⟩
    refine ⟨c, h2, h3.imp id fun h => ⟨h.1, h.2.1, ?_⟩, h4⟩
    by_cases e : c < r
    · exact e
    · exact (hq c (by omega) h.2.2 h2).elim
theorem pi_stop {rs : List (Int × Int)} {k : Nat} {r : Int} (hk : k < rs.length) (hr : ¬ r ≤ rs[k].2) (u : ByteArray) : Pi rs k rs[k] r u ↔ Po rs (k + 1) u := by
  constructor
  · rintro ⟨c, h1, h2, h3⟩; exact ⟨c, h1, (inR_snoc hk).2 (h2.imp id fun h => ⟨h.1, h.2.1⟩), h3⟩
  · rintro ⟨c, h1, h2, h3⟩; exact ⟨c, h1, ((inR_snoc hk).1 h2).imp id fun h => ⟨h.1, h.2, by omega⟩, h3⟩
theorem pi_many {rs : List (Int × Int)} {k : Nat} {r : Int} (hk : k < rs.length) (u : ByteArray) (h : Pi rs k rs[k] r u) : Po rs (k + 1) u := by
  obtain ⟨c, h1, h2, h3⟩ := h
  exact ⟨c, h1, (inR_snoc hk).2 (h2.imp id fun h => ⟨h.1, h.2.1⟩), h3⟩
theorem po_end {rs : List (Int × Int)} {k : Nat} (h : rs.length ≤ k) (u : ByteArray) : Po rs k u ↔ Tcl rs u := by unfold Po Tcl; rw [List.take_of_length_le h]
structure RrG where
  k : Nat
  pa : Option Addr
  pn : Nat
  pc : Nat
  p : Lv
structure RrJ where
  r : Int
  pa : Option Addr
  pn : Nat
  pc : Nat
  p : Lv
structure RrI (X : List Nat) (wr : World) (b2 b3 : Nat) (rs : List (Int × Int)) (x : RrG) : Prop where
  hk : x.k ≤ rs.length
  h2 : wr.heap[b2]? = some (.cells #[.slice none 0 0, .bool false] 77 (0, 0))
  h3 : wr.heap[b3]? = some (.cells #[.slice x.pa x.pn x.pc, .bool x.p.2] 77 (0, 0))
  rp : RLv (X ++ [b2, b3]) wr (.agg #[.slice x.pa x.pn x.pc, .bool x.p.2]) x.p
  is : LIs x.p 4 (Po rs x.k)
structure RrI2 (X : List Nat) (wr : World) (b2 b3 : Nat) (rs : List (Int × Int)) (k : Nat) (g : Int × Int) (x : RrJ) : Prop where
  lo : g.1 ≤ x.r
  h2 : wr.heap[b2]? = some (.cells #[.slice none 0 0, .bool false] 77 (0, 0))
  h3 : wr.heap[b3]? = some (.cells #[.slice x.pa x.pn x.pc, .bool x.p.2] 77 (0, 0))
  rp : RLv (X ++ [b2, b3]) wr (.agg #[.slice x.pa x.pn x.pc, .bool x.p.2]) x.p
  is : LIs x.p 4 (Pi rs k g x.r)
theorem i64_rg {r : Int} (h0 : -2147483648 ≤ r) (h1 : r ≤ 2147483647) : IntKind.i64.min ≤ r ∧ r ≤ IntKind.i64.max := by
  constructor <;> simp [IntKind.min, IntKind.max, IntKind.signed, IntKind.bits] <;> omega
set_option maxHeartbeats 4000000 in
theorem runes_ok {X : List Nat} {w : World} {v : Value} {rs : List (Int × Int)} (hX : ∀ b, b ∈ X → b < w.heap.size) (hs : RSl 2 RRg [] w v rs) (hl : rs.length ≤ 140737488351232) (hc : Cls rs) :
    Calls Tryz.prog 86 #[v] w (Ret fun r w' => ∃ l, RLv X w' r l ∧ LIs l 4 (Tcl rs) ∧ Evo [] w w') := by
  obtain ⟨va, vc, rfl, hcc, e1⟩ := id hs; refine calls_of_cw (N := 44) Tryz.func86 rfl rfl rfl ?_; refine cw_seq ?_; refine cw_region ?_; refine wl_alloc rfl Tryz.zero77 fun b2 w1 hB2 hs3 hw4 => ?_; have hsz_b2 := hs3; have hG5 := Ge.new (Evo.refl [] w) hs3; have hE6 := (Evo.refl [] w).then hw4; refine wl_nil (nrm_then ?_); refine cw_seq ?_; refine cw_region ?_; refine wl_val rfl (ex_build (vs := []) Tryz.build77 rfl (cells := [_, _]) rfl) ?_; refine wl_alloc rfl Tryz.zero77 fun b3 w7 hB8 hs9 hw10 => ?_; have hsz_b3 := hs9; have hA11 := Apart.new (Lt.blk hB2) hs9; have hG12 := Ge.new hE6 hs9; have hE13 := hE6.then hw10; have hB14 := hw10.blk0 hB2; refine wl_storeBlk rfl rfl Tryz.size77 hB8 rfl rfl ⟨by first | rfl | assumption, by first | rfl | assumption, trivial⟩ fun w15 hB16 hw17 => ?_; have hE18 := hE13.step hw17 hG12.mem1; have hB19 := hw17.blk hB14 hA11.nmem1
  try simp only [List.setIfInBounds_toArray, List.set_cons_zero, List.set_cons_succ, Nat.reduceAdd, Nat.zero_add, Nat.add_zero] at hB16
  refine wl_nil (nrm_then ?_); refine cw_seq ?_; refine cw_seq ?_; refine cw_region ?_; refine wl_a ?_; refine wl_nil (nrm_then ?_); refine cw_block ?_; refine cw_loop (α := RrG) (⟨0, none, 0, 0, ([], false)⟩) (fun x => [(4, .int .i64 (x.k : Nat))]) [(0, _), (2, _), (3, _)] (fun x wr => Evo [] w wr ∧ (RrI X wr b2 b3 rs x)) (fun x => rs.length - x.k) ⟨rfl, trivial⟩ ⟨rfl, rfl, rfl, trivial⟩ ⟨hE18, ⟨Nat.zero_le _, hB19, hB16, rlv_none _ _ false, po_zero rs 4⟩⟩ ?_; rintro ⟨k, pa, pn, pc, p⟩ wr20 ⟨hV21, ⟨hk, hb2, hb3, hrp, his⟩⟩; show CW _ _ _ _ [(4, .int .i64 (k : Nat)), (0, _), (2, _), (3, _)] _
  try dsimp only at hk
  try dsimp only at hb2
  try dsimp only at hb3
  try dsimp only at hrp
  try dsimp only at his
  have hE22 := Evo.refl (X ++ [b2, b3]) wr20; refine cw_seq ?_; refine cw_seq ?_; refine cw_region ?_; refine wl_m ?_; refine wl_m ?_; refine wl_val rfl (ex_len_slice rfl Tryz.underlying22 rfl) ?_; refine wl_val rfl (ex_lss rfl rfl) ?_; refine wl_nil (nrm_then ?_); refine cw_if rfl (fun hc10 => ?_) (fun hc10 => ?_)
  ·skip
   have hk' : k < rs.length := by omega
   obtain ⟨b7, o7, vs7, ha7, hb7, hvl7, hc7, rfl⟩ := e1 k hk'; have hck := hc k hk'; refine cw_skip (nrm_then ?_); refine cw_seq ?_; refine cw_block ?_; refine cw_seq ?_; refine cw_region ?_; refine wl_m ?_; refine wl_m ?_
   refine wl_val rfl (ex_indexAddr (n := k) (by rw [ha7]; rfl) rfl Tryz.elem22 (by omega)) ?_
   refine wl_val rfl (ex_fieldAddr rfl Tryz.fld129_0) ?_; refine wl_val rfl (ex_load1 rfl Tryz.agg21 ((hc7.evo hV21 (by simp)) 0 _ rfl)) ?_; refine wl_a ?_; refine wl_nil (nrm_then ?_); refine cw_block ?_; refine cw_loop (α := RrJ) (⟨rs[k].1, pa, pn, pc, p⟩) (fun x => [(5, .int .i32 x.r)]) [(0, _), (2, _), (3, _), (4, _)] (fun x wr => Evo [] w wr ∧ (RrI2 X wr b2 b3 rs k rs[k] x)) (fun x => (rs[k].2 + 1 - x.r).toNat) ⟨rfl, trivial⟩ ⟨rfl, rfl, rfl, rfl, trivial⟩ ⟨hV21, ⟨Int.le_refl _, hb2, hb3, hrp.evo hE22, his.congr pi_start⟩⟩ ?_; rintro ⟨r, pa, pn, pc, p⟩ wr23 ⟨hV24, ⟨hlo, hb2, hb3, hrp, his⟩⟩; show CW _ _ _ _ [(5, .int .i32 r), (0, _), (2, _), (3, _), (4, _)] _
   try dsimp only at hlo
   try dsimp only at hb2
   try dsimp only at hb3
   try dsimp only at hrp
   try dsimp only at his
   have hE25 := Evo.refl (X ++ [b2, b3]) wr23; refine cw_seq ?_; refine cw_seq ?_; refine cw_region ?_; refine wl_m ?_; refine wl_m ?_; refine wl_m ?_
   refine wl_val rfl (ex_indexAddr (n := k) (by rw [ha7]; rfl) rfl Tryz.elem22 (by omega)) ?_
   refine wl_val rfl (ex_fieldAddr rfl Tryz.fld129_1) ?_; refine wl_val rfl (ex_load1 rfl Tryz.agg21 ((hc7.evo hV24 (by simp)) 1 _ rfl)) ?_; refine wl_val rfl (ex_leq rfl rfl) ?_; refine wl_m ?_; refine wl_split (t := 25) rfl (fun hs25 => ?_) (fun hs25 => ?_)
   ·skip
    have hr1 : r ≤ rs[k].2 := by omega
    refine wl_g ?_; refine wl_val rfl (ex_fieldAddr rfl Tryz.fld77_1) ?_; refine wl_g ?_; refine wl_val rfl (ex_load1 rfl Tryz.agg4 (cell_nth hb3 rfl)) ?_; refine wl_g ?_; refine wl_val rfl (ex_notb rfl) ?_; refine wl_pt ?_; refine wl_nil (nrm_then ?_); refine cw_ifb rfl (fun hc29 => ?_) (fun hc29 => ?_)
    ·skip
     refine cw_skip (nrm_then ?_); refine cw_seq ?_; refine cw_block ?_; refine cw_seq ?_; refine cw_seq ?_; refine cw_region ?_; refine wl_m ?_; refine wl_val rfl (ex_geq rfl rfl) ?_; refine wl_m ?_; refine wl_split (t := 34) rfl (fun hs34 => ?_) (fun hs34 => ?_)
     ·skip
      refine wl_g ?_; refine wl_m ?_; refine wl_g ?_; refine wl_val rfl (ex_leq rfl rfl) ?_; refine wl_pt ?_; refine wl_nil (nrm_then ?_); refine cw_if rfl (fun hc37 => ?_) (fun hc37 => ?_)
      ·skip
       refine cw_seq ?_; refine cw_region ?_; refine wl_a ?_; refine wl_nil (nrm_then ?_); refine cw_exit (ex_then (ex_here (nrm_then ?_))); refine cw_region ?_; refine wl_m ?_; refine wl_val rfl (ex_add_i32 rfl rfl (by omega) (by omega)) ?_; refine wl_a ?_; refine wl_nil (nrm_same ?_); refine ⟨⟨57344, pa, pn, pc, p⟩, ?_, ⟨rfl, trivial⟩, ⟨rfl, rfl, rfl, rfl, trivial⟩, hV24, ?_⟩
       · (try dsimp only); show (rs[k].2 + 1 - _).toNat < (rs[k].2 + 1 - r).toNat; omega
       ·skip
        try dsimp only
        exact ⟨by show _ ≤ (57344 : Int); omega, hb2, hb3, hrp.evo hE25, his.congr (pi_skip (by show r ≤ (57344 : Int); omega) (fun c h1 h2 h3 => by have h4 : c < 57344 := h2; have := h3.2.2; omega))⟩
      ·skip
       refine cw_skip (nrm_then ?_); refine cw_any (fun w0 w' => Evo [] w0 w') (by kernel_rfl) (fun w26 hw27 => ?_); have hE28 := hV24.then hw27; have hE29 := hE25.then hw27; have hB30 := hw27.blk0 hb2; have hB31 := hw27.blk0 hb3; have hir : IsR r := ⟨by omega, by omega, by omega⟩; have hcv := i64_rg (r := r) (by omega) (by omega); refine ae_take 0 rfl (by kernel_rfl) (by kernel_rfl) (by kernel_rfl) rfl (fun _ hS => ex_loadBlk rfl Tryz.agg77 Tryz.size77 (hS.blk0 hB31) rfl) (Evo.refl [] w26) ?_; refine ae_take 1 rfl (by kernel_rfl) (by kernel_rfl) (by kernel_rfl) rfl (fun _ hS => ex_move rfl) (Evo.refl [] w26) ?_; refine ae_take 2 rfl (by kernel_rfl) (by kernel_rfl) (by kernel_rfl) rfl (fun _ hS => ex_convF rfl Tryz.underlying21 Tryz.underlying3 hcv.1 hcv.2) (Evo.refl [] w26) ?_; refine ae_loud [3] (by kernel_rfl) rfl ⟨?_, trivial⟩; refine a_step rfl ?_; refine wl_call1 (vs := [_]) Tryz.goes91 rfl (form_ok r (by omega) (by omega)) rfl ?_; rintro _ w32 ⟨rfl, hw33⟩; have hE34 := hE28.then hw33; have hE35 := hE29.then hw33; have hE36 := (Evo.refl [] w26).then hw33; have hB37 := hw33.blk0 hB30; have hB38 := hw33.blk0 hB31; refine wl_nil (ae_next (.inl hE36) ?_); refine ae_loud [4] (by kernel_rfl) rfl ⟨?_, trivial⟩; refine a_step rfl ?_; refine wl_call1 (vs := [_, _]) Tryz.goes135 rfl (rwith_ok (X := X ++ [b2, b3]) (mem_x2 hX hE34 (blk_lt hB37) (blk_lt hB38)) (hrp.evo hE35) his (tx_size r)) rfl ?_; rintro rv w39 ⟨lr, hR, hIr, hw40⟩; have hE41 := hE34.then hw40; have hE42 := hE35.then hw40; have hE43 := hE36.then hw40; have hB44 := hw40.blk0 hB37; have hB45 := hw40.blk0 hB38; obtain ⟨ra, rn, rc, rfl, hrr⟩ := hR.get; refine wl_nil (ae_next (.inl hE43) ?_); refine ae_loud [5] (by kernel_rfl) rfl ⟨?_, trivial⟩; refine a_step rfl ?_
       refine wl_storeBlk rfl rfl Tryz.size77 hB45 rfl rfl ⟨by first | rfl | assumption, by first | rfl | assumption, trivial⟩ fun w46 hB47 hw48 => ?_; have hE49 := hE41.step hw48 hG12.mem1
       have hE50 := hE42.step hw48 (fun y hy => .inl (by rw [List.mem_singleton.1 hy]; simp))
       have hE52 := (Evo.refl (X ++ [b2, b3]) w39).step hw48 (fun y hy => .inl (by rw [List.mem_singleton.1 hy]; simp))
       have hB53 := hw48.blk hB44 hA11.nmem1
       try simp only [List.setIfInBounds_toArray, List.set_cons_zero, List.set_cons_succ, Nat.reduceAdd, Nat.zero_add, Nat.add_zero] at hB47
       refine wl_nil (ae_next (.inr (by kernel_rfl)) ?_); refine ae_done (by kernel_rfl) (nrm_block (nrm_then ?_)); refine cw_region ?_; refine wl_m ?_; refine wl_val rfl (ex_add_i32 rfl rfl (by omega) (by omega)) ?_; refine wl_a ?_; refine wl_nil (nrm_same ?_); refine ⟨⟨r + 1, ra, rn, rc, lr⟩, ?_, ⟨rfl, trivial⟩, ⟨rfl, rfl, rfl, rfl, trivial⟩, hE49, ?_⟩
       · (try dsimp only); show (rs[k].2 + 1 - _).toNat < (rs[k].2 + 1 - r).toNat; omega
       ·skip
        try dsimp only
        exact ⟨by show _ ≤ r + 1; omega, hB53, hB47, hR.evo hE52, hIr.congr (pi_step hlo hr1 hir)⟩
     ·skip
      refine wl_n ?_; refine wl_n ?_; refine wl_pf ?_; refine wl_nil (nrm_then ?_); refine cw_false rfl ?_; refine cw_skip (nrm_then ?_); refine cw_any (fun w0 w' => Evo [] w0 w') (by kernel_rfl) (fun w54 hw55 => ?_); have hE56 := hV24.then hw55; have hE57 := hE25.then hw55; have hB58 := hw55.blk0 hb2; have hB59 := hw55.blk0 hb3; have hir : IsR r := ⟨by omega, by omega, by omega⟩; have hcv := i64_rg (r := r) (by omega) (by omega); refine ae_take 0 rfl (by kernel_rfl) (by kernel_rfl) (by kernel_rfl) rfl (fun _ hS => ex_loadBlk rfl Tryz.agg77 Tryz.size77 (hS.blk0 hB59) rfl) (Evo.refl [] w54) ?_; refine ae_take 1 rfl (by kernel_rfl) (by kernel_rfl) (by kernel_rfl) rfl (fun _ hS => ex_move rfl) (Evo.refl [] w54) ?_; refine ae_take 2 rfl (by kernel_rfl) (by kernel_rfl) (by kernel_rfl) rfl (fun _ hS => ex_convF rfl Tryz.underlying21 Tryz.underlying3 hcv.1 hcv.2) (Evo.refl [] w54) ?_; refine ae_loud [3] (by kernel_rfl) rfl ⟨?_, trivial⟩; refine a_step rfl ?_; refine wl_call1 (vs := [_]) Tryz.goes91 rfl (form_ok r (by omega) (by omega)) rfl ?_; rintro _ w60 ⟨rfl, hw61⟩; have hE62 := hE56.then hw61; have hE63 := hE57.then hw61; have hE64 := (Evo.refl [] w54).then hw61; have hB65 := hw61.blk0 hB58; have hB66 := hw61.blk0 hB59; refine wl_nil (ae_next (.inl hE64) ?_); refine ae_loud [4] (by kernel_rfl) rfl ⟨?_, trivial⟩; refine a_step rfl ?_; refine wl_call1 (vs := [_, _]) Tryz.goes135 rfl (rwith_ok (X := X ++ [b2, b3]) (mem_x2 hX hE62 (blk_lt hB65) (blk_lt hB66)) (hrp.evo hE63) his (tx_size r)) rfl ?_; rintro rv w67 ⟨lr, hR, hIr, hw68⟩; have hE69 := hE62.then hw68; have hE70 := hE63.then hw68; have hE71 := hE64.then hw68; have hB72 := hw68.blk0 hB65; have hB73 := hw68.blk0 hB66; obtain ⟨ra, rn, rc, rfl, hrr⟩ := hR.get; refine wl_nil (ae_next (.inl hE71) ?_)
      refine ae_loud [5] (by kernel_rfl) rfl ⟨?_, trivial⟩; refine a_step rfl ?_; refine wl_storeBlk rfl rfl Tryz.size77 hB73 rfl rfl ⟨by first | rfl | assumption, by first | rfl | assumption, trivial⟩ fun w74 hB75 hw76 => ?_; have hE77 := hE69.step hw76 hG12.mem1
      have hE78 := hE70.step hw76 (fun y hy => .inl (by rw [List.mem_singleton.1 hy]; simp))
      have hE80 := (Evo.refl (X ++ [b2, b3]) w67).step hw76 (fun y hy => .inl (by rw [List.mem_singleton.1 hy]; simp))
      have hB81 := hw76.blk hB72 hA11.nmem1
      try simp only [List.setIfInBounds_toArray, List.set_cons_zero, List.set_cons_succ, Nat.reduceAdd, Nat.zero_add, Nat.add_zero] at hB75
      refine wl_nil (ae_next (.inr (by kernel_rfl)) ?_); refine ae_done (by kernel_rfl) (nrm_block (nrm_then ?_)); refine cw_region ?_; refine wl_m ?_; refine wl_val rfl (ex_add_i32 rfl rfl (by omega) (by omega)) ?_; refine wl_a ?_; refine wl_nil (nrm_same ?_); refine ⟨⟨r + 1, ra, rn, rc, lr⟩, ?_, ⟨rfl, trivial⟩, ⟨rfl, rfl, rfl, rfl, trivial⟩, hE77, ?_⟩
      · (try dsimp only); show (rs[k].2 + 1 - _).toNat < (rs[k].2 + 1 - r).toNat; omega
      ·skip
       try dsimp only
       exact ⟨by show _ ≤ r + 1; omega, hB81, hB75, hR.evo hE80, hIr.congr (pi_step hlo hr1 hir)⟩
    ·skip
     refine cw_exit (ex_then (ex_then (ex_here (nrm_block (nrm_then ?_))))); refine cw_region ?_; refine wl_m ?_; refine wl_val rfl (ex_add_i64 rfl rfl (by omega) (by omega)) ?_; refine wl_a ?_; refine wl_nil (nrm_same ?_); refine ⟨⟨k + 1, pa, pn, pc, p⟩, ?_, ⟨rfl, trivial⟩, ⟨rfl, rfl, rfl, trivial⟩, hV24, ?_⟩
     · (try dsimp only); omega
     ·skip
      try dsimp only
      have hp2 : p.2 = true := by simpa using hc29
      exact ⟨by show k + 1 ≤ _; omega, hb2, hb3, hrp.evo hE25, lis_up his hp2 (pi_many hk')⟩
   ·skip
    refine wl_n ?_; refine wl_n ?_; refine wl_n ?_; refine wl_pf ?_; refine wl_nil (nrm_then ?_); refine cw_false rfl ?_; refine cw_exit (ex_then (ex_then (ex_here (nrm_block (nrm_then ?_))))); refine cw_region ?_; refine wl_m ?_; refine wl_val rfl (ex_add_i64 rfl rfl (by omega) (by omega)) ?_; refine wl_a ?_; refine wl_nil (nrm_same ?_); refine ⟨⟨k + 1, pa, pn, pc, p⟩, ?_, ⟨rfl, trivial⟩, ⟨rfl, rfl, rfl, trivial⟩, hV24, ?_⟩
    · (try dsimp only); omega
    ·skip
     try dsimp only
     exact ⟨by show k + 1 ≤ _; omega, hb2, hb3, hrp.evo hE25, his.congr (pi_stop hk' (by omega))⟩
  ·skip
   refine cw_exit (ex_then (ex_then (ex_here (nrm_then ?_)))); refine cw_seq ?_; refine cw_region ?_; refine wl_val rfl (ex_loadBlk rfl Tryz.agg77 Tryz.size77 hb3 rfl) ?_; refine wl_storeBlk rfl rfl Tryz.size77 hb2 rfl rfl ⟨by first | rfl | assumption, by first | rfl | assumption, trivial⟩ fun w82 hB83 hw84 => ?_; have hE85 := hV21.step hw84 hG5.mem1
   have hE86 := hE22.step hw84 (fun y hy => .inl (by rw [List.mem_singleton.1 hy]; simp))
   have hB87 := hw84.blk hb3 hA11.symm.nmem1
   try simp only [List.setIfInBounds_toArray, List.set_cons_zero, List.set_cons_succ, Nat.reduceAdd, Nat.zero_add, Nat.add_zero] at hB83
   refine wl_nil (nrm_then ?_); refine cw_ret (body_retC1 rfl (ResOk.cellA rfl Tryz.agg77 Tryz.size77 hB83 rfl) ?_); exact ⟨p, (hrp.evo hE86).left, his.congr (po_end (by omega)), hE85⟩
end Go.Proofs.YtgnpldackjbdjaaGreat
namespace Go.Proofs.YtgnpldackjbdjaaGreat
open Go.Proofs
open Go.W Go.RowKit
attribute [local irreducible] Decidable.decide
set_option linter.unusedSimpArgs false
set_option linter.unusedVariables false
theorem Tryz.goes44 : Goes Tryz.prog 44 := ⟨_, Tryz.func44, by kernel_rfl, by kernel_rfl⟩
theorem Tryz.goes86 : Goes Tryz.prog 86 := ⟨_, Tryz.func86, by kernel_rfl, by kernel_rfl⟩
theorem Tryz.goes87 : Goes Tryz.prog 87 := ⟨_, Tryz.func87, by kernel_rfl, by kernel_rfl⟩
theorem Tryz.goes88 : Goes Tryz.prog 88 := ⟨_, Tryz.func88, by kernel_rfl, by kernel_rfl⟩
theorem Tryz.goes89 : Goes Tryz.prog 89 := ⟨_, Tryz.func89, by kernel_rfl, by kernel_rfl⟩
theorem lis_grp {t : Rx} {l : Lv} (hk : t.kind = 7) (hl : t.kids.length = 1) (h : LIs l (4 * (t.kids[0]'(by omega)).esz) (Tg (t.kids[0]'(by omega)))) : LIs l (4 * t.esz) (Tg t) := by
  have e7 := esz7 hk
  have he := eszs_one hl
  refine (h.wide (by omega)).congr fun u => ?_
  rw [tg4 (.inr hk)]
  have e : t.kids = [t.kids[0]'(by omega)] := single_of hl
  have e2 : Tgs t.kids u ↔ Tgs [t.kids[0]'(by omega)] u := Iff.of_eq (congrArg (fun l => Tgs l u) e)
  exact (e2.trans (tgs_one _ u)).symm
theorem lis_rep_of {t : Rx} {l : Lv} {C : Nat} (hk : t.kind = 6) (hl : t.kids.length = 1) (h : LIs l C (Rp (Tg (t.kids[0]'(by omega))) t.min t.max)) (hC : C ≤ 4 * t.esz) : LIs l (4 * t.esz) (Tg t) := by
  refine (h.wide hC).congr fun u => ?_
  rw [tg6 hk]
  refine rp_congr (fun v => ?_) u
  have e : t.kids = [t.kids[0]'(by omega)] := single_of hl
  have e2 : Tgs t.kids v ↔ Tgs [t.kids[0]'(by omega)] v := Iff.of_eq (congrArg (fun l => Tgs l v) e)
  exact (e2.trans (tgs_one _ v)).symm
theorem rp_blank {l : Lv} {B : Nat} {S : Tx} {mn mx : Int} (h : LIs l B S) (h0 : 0 ≤ mn) (h1 : mx = -1 ∨ mn ≤ mx) (he : lempty l = true) (C : Nat) : LIs (lone nob) C (Rp S mn mx) := by
  have hs := lempty_iff h he
  refine (LIs.one nob (Nat.zero_le _)).congr fun u => ?_
  constructor
  · rintro rfl
    exact ⟨mn.toNat, Nat.le_refl _, by omega, by rw [Pw.single hs, brep_nob]⟩
  · rintro ⟨c, _, _, h3⟩
    rw [Pw.single hs, brep_nob] at h3; exact h3
theorem rp_none {l : Lv} {B : Nat} {S : Tx} {mn mx : Int} (h : LIs l B S) (hn : lnone l = true) (h1 : mx = -1 ∨ mn ≤ mx) :
    (mn = 0 → ∀ C, LIs (lone nob) C (Rp S mn mx)) ∧ (0 < mn → ∀ C, B ≤ C → LIs l C (Rp S mn mx)) := by
  have hs := h.none.1 hn
  refine ⟨fun e C => (LIs.one nob (Nat.zero_le _)).congr fun u => ⟨?_, ?_⟩, fun e C hC => (h.wide hC).congr fun u => ⟨fun hu => (hs u hu).elim, ?_⟩⟩
  · rintro rfl; exact ⟨0, by omega, by omega, rfl⟩
  · rintro ⟨c, _, _, h3⟩
    rcases Nat.eq_zero_or_pos c with rfl | hc
    · exact h3
    · exact (Pw.empty hs hc u h3).elim
  · rintro ⟨c, h2, _, h3⟩
    exact (Pw.empty hs (by omega) u h3).elim
theorem rp_many {l : Lv} {B : Nat} {S : Tx} {mn mx : Int} (h : LIs l B S) (h0 : 0 ≤ mn) (h1 : mx = -1 ∨ mn ≤ mx) (hx : mx ≠ 0) (hne : ¬ lempty l = true) (hnn : ¬ lnone l = true) (hm : l.2 = true ∨ mx = -1) (C : Nat) : LIs ([], true) C (Rp S mn mx) := by
  have hr := h.rep h0 h1
  have e : lrep l mn mx = ([], true) := by
    rw [lrep, if_neg hx, if_neg (fun h => hnn h.1)]
    by_cases c : l.2 = true
    · rw [if_pos (.inr (.inl c))]; exact many_eq h c
    · rw [if_neg (fun h => h.elim hnn (fun h => h.elim c hne)), if_pos (by have := hm.resolve_left c; omega)]
  rw [e] at hr
  exact LIs.many (hr.isLots rfl)
def Ru (S : Tx) (a j : Nat) : Tx := fun u => ∃ c, a ≤ c ∧ c ≤ j ∧ Pw S c u
theorem ru_zero {l : Lv} {S : Tx} {a B : Nat} (h : LIs l B (Pw S a)) : LIs l B (Ru S a a) := h.congr fun u => ⟨fun h => ⟨a, Nat.le_refl _, Nat.le_refl _, h⟩, fun ⟨c, h1, h2, h3⟩ => (Nat.le_antisymm h2 h1) ▸ h3⟩
theorem ru_step {S : Tx} {a j : Nat} (h : a ≤ j) (u : ByteArray) : (Ru S a j u ∨ Pw S (j + 1) u) ↔ Ru S a (j + 1) u := by
  constructor
  · rintro (⟨c, h1, h2, h3⟩ | h1)
    · exact ⟨c, h1, by omega, h3⟩
    · exact ⟨j + 1, by omega, Nat.le_refl _, h1⟩
  · rintro ⟨c, h1, h2, h3⟩
    by_cases e : c = j + 1
    · subst e; exact .inr h3
    · exact .inl ⟨c, h1, by omega, h3⟩
theorem ru_end {S : Tx} {mn mx : Int} {j : Nat} (h0 : 0 ≤ mn) (hx : mn ≤ mx) (h : j = mx.toNat) (u : ByteArray) : Ru S mn.toNat j u ↔ Rp S mn mx u :=
  ⟨fun ⟨c, h1, h2, h3⟩ => ⟨c, h1, .inr (by omega), h3⟩, fun ⟨c, h1, h2, h3⟩ => ⟨c, h1, by omega, h3⟩⟩
theorem ru_up {S : Tx} {mn mx : Int} {j : Nat} (h : j ≤ mx.toNat) (u : ByteArray) (hu : Ru S mn.toNat j u) : Rp S mn mx u := by
  obtain ⟨c, h1, h2, h3⟩ := hu
  exact ⟨c, h1, .inr (by omega), h3⟩
theorem rcat_step {t : Rx} {k : Nat} {m : Lv} (hk : k < t.kids.length) (h : LIs m (4 * eszs (t.kids.take k) + 4 * t.kids[k].esz) (Cc (Tgs (t.kids.take k)) (Tg t.kids[k]))) : LIs m (4 * eszs (t.kids.take (k + 1))) (Tgs (t.kids.take (k + 1))) := by
  refine (h.wide (by rw [eszs_take hk]; omega)).congr fun u => ?_
  rw [take_snoc hk]; exact (tgs_snoc _ _ u).symm
theorem ralt_step {t : Rx} {k : Nat} {m : Lv} (hk : k < t.kids.length) (h : LIs m (max (4 * eszs (t.kids.take k)) (4 * t.kids[k].esz)) (fun u => TgA (t.kids.take k) u ∨ Tg t.kids[k] u)) : LIs m (4 * eszs (t.kids.take (k + 1))) (TgA (t.kids.take (k + 1))) := by
  refine (h.wide (by rw [eszs_take hk]; omega)).congr fun u => ?_
  rw [take_snoc hk]; exact (tga_snoc _ _ u).symm
structure RwG where
  k : Nat
  pa : Option Addr
  pn : Nat
  pc : Nat
  p : Lv
structure RwI (X : List Nat) (wr : World) (b1 b2 b3 b4 : Nat) (xv : Array Value) (bv : Value) (n : Nat) (D : Nat → Lv → Prop) (x : RwG) : Prop where
  hk : x.k ≤ n
  h1 : wr.heap[b1]? = some (.cells xv 25 (0, 0))
  h2 : wr.heap[b2]? = some (.cells #[.slice none 0 0, .bool false] 77 (0, 0))
  h4 : wr.heap[b4]? = some (.cells #[.slice x.pa x.pn x.pc, .bool x.p.2] 77 (0, 0))
  rp : RLv (X ++ [b2, b4]) wr (.agg #[.slice x.pa x.pn x.pc, .bool x.p.2]) x.p
  is : D x.k x.p
structure RvG where
  j : Nat
  pa : Option Addr
  pn : Nat
  pc : Nat
  p : Lv
structure RvI (X : List Nat) (wr : World) (b1 b2 b8 b9 : Nat) (xv : Array Value) (kv : Value) (kt : List ByteArray) (n : Nat) (B : Nat) (S : Tx) (x : RvG) : Prop where
  hk : x.j ≤ n
  h1 : wr.heap[b1]? = some (.cells xv 25 (0, 0))
  h2 : wr.heap[b2]? = some (.cells #[.slice none 0 0, .bool false] 77 (0, 0))
  h8 : wr.heap[b8]? = some (.cells #[kv, .bool false] 77 (0, 0))
  h9 : wr.heap[b9]? = some (.cells #[.slice x.pa x.pn x.pc, .bool x.p.2] 77 (0, 0))
  rk : RLv (X ++ [b2, b9]) wr (.agg #[kv, .bool false]) (kt, false)
  rp : RLv (X ++ [b2, b9]) wr (.agg #[.slice x.pa x.pn x.pc, .bool x.p.2]) x.p
  is : LIs x.p (x.j * B) (Pw S x.j)
structure RuG where
  z : Int
  pa : Option Addr
  pn : Nat
  pc : Nat
  p : Lv
  qa : Option Addr
  qn : Nat
  qc : Nat
  q : Lv
structure RuI (X : List Nat) (wr : World) (b1 b2 b8 b9 b11 : Nat) (xv : Array Value) (kv : Value) (kt : List ByteArray) (mn mx : Int) (B : Nat) (S : Tx) (x : RuG) : Prop where
  lo : mn ≤ x.z
  hk : x.z ≤ mx
  h1 : wr.heap[b1]? = some (.cells xv 25 (0, 0))
  h2 : wr.heap[b2]? = some (.cells #[.slice none 0 0, .bool false] 77 (0, 0))
  h8 : wr.heap[b8]? = some (.cells #[kv, .bool false] 77 (0, 0))
  h9 : wr.heap[b9]? = some (.cells #[.slice x.pa x.pn x.pc, .bool x.p.2] 77 (0, 0))
  h11 : wr.heap[b11]? = some (.cells #[.slice x.qa x.qn x.qc, .bool x.q.2] 77 (0, 0))
  rk : RLv (X ++ [b2, b9, b11]) wr (.agg #[kv, .bool false]) (kt, false)
  rp : RLv (X ++ [b2, b9, b11]) wr (.agg #[.slice x.pa x.pn x.pc, .bool x.p.2]) x.p
  rq : RLv (X ++ [b2, b9, b11]) wr (.agg #[.slice x.qa x.qn x.qc, .bool x.q.2]) x.q
  is : LIs x.p (x.z.toNat * B) (Pw S x.z.toNat)
  iq : LIs x.q (x.z.toNat * B) (Ru S mn.toNat x.z.toNat)
theorem z_succ {z : Int} (h : 0 ≤ z) : (z + 1).toNat = z.toNat + 1 := by omega
theorem ru_more {p q m : Lv} {B a : Nat} {S : Tx} {z : Int} (h0 : 0 ≤ z) (ha : a ≤ z.toNat) (hq : LIs m (max (z.toNat * B) (z.toNat * B + B)) (fun u => Ru S a z.toNat u ∨ Cc (Pw S z.toNat) S u)) : LIs m ((z + 1).toNat * B) (Ru S a (z + 1).toNat) := by
  rw [z_succ h0, Nat.succ_mul]
  exact (hq.wide (by omega)).congr (ru_step ha)
theorem pw_more {p : Lv} {B : Nat} {S : Tx} {z : Int} (h0 : 0 ≤ z) (h : LIs p (z.toNat * B + B) (Cc (Pw S z.toNat) S)) : LIs p ((z + 1).toNat * B) (Pw S (z + 1).toNat) := by
  rw [z_succ h0, Nat.succ_mul]; exact h
theorem zB_le {z mx : Int} {B N : Nat} (h : z ≤ mx) (hm : mx.toNat * B ≤ N) : z.toNat * B ≤ N := Nat.le_trans (Nat.mul_le_mul_right B (by omega)) hm
set_option maxHeartbeats 8000000 in
theorem rwords_step {n : Nat} (ih : ∀ {X Y : List Nat} {w : World} {vs : List Value} {t : Rx} (hX : ∀ b, b ∈ X → b < w.heap.size) (hx : RRx n Y w vs t) (hg : Good t) (hno : NoLook t) (hl : t.esz ≤ 9999), Calls Tryz.prog 44 #[.agg vs.toArray] w (Ret fun r w' => ∃ l, RLv X w' r l ∧ LIs l (4 * t.esz) (Tg t) ∧ Evo [] w w')) {X Y : List Nat} {w : World} {vs : List Value} {t : Rx} (hX : ∀ b, b ∈ X → b < w.heap.size) (hx : RRx (n + 1) Y w vs t) (hg : Good t) (hno : NoLook t) (hl : t.esz ≤ 9999) : Calls Tryz.prog 44 #[.agg vs.toArray] w (Ret fun r w' => ∃ l, RLv X w' r l ∧ LIs l (4 * t.esz) (Tg t) ∧ Evo [] w w') := by
  have hx0 := hx; obtain ⟨m, ra, rc, ka, kc, hm, rfl, hrg, hk, bl1, bl2, bl3⟩ := hx.get
  obtain rfl : m = n := by omega
  obtain ⟨_, _, hke, hkc, e1⟩ := hk; cases hke; have hn := (nodeP_iff t).1 hg.node; have hno8 := nolook_kind hno; refine calls_of_cw (N := 142) Tryz.func44 rfl rfl rfl ?_; refine cw_seq ?_; refine cw_region ?_; refine wl_boxA rfl rfl fun b1 w1 hB2 hs3 hw4 => ?_; have hsz_b1 := hs3; have hG5 := Ge.new (Evo.refl [] w) hs3; have hE6 := (Evo.refl [] w).then hw4; refine wl_alloc rfl Tryz.zero77 fun b2 w7 hB8 hs9 hw10 => ?_; have hsz_b2 := hs9; have hA11 := Apart.new (Lt.blk hB2) hs9; have hG12 := Ge.new hE6 hs9; have hE13 := hE6.then hw10; have hB14 := hw10.blk0 hB2; refine wl_nil (nrm_then ?_); refine cw_seq ?_; refine cw_region ?_; refine wl_bslice (vs := [_]) rfl Tryz.slice26 rfl rfl rfl rfl fun b15 w16 hO17 hs18 hw19 => ?_; have hA20 := Apart.new (Lt.blk hB14) hs18; have hA21 := Apart.new (Lt.blk hB8) hs18; have hG22 := Ge.new hE13 hs18; have hE23 := hE13.then hw19; have hB24 := hw19.blk0 hB14; have hB25 := hw19.blk0 hB8
  have hO9 := hO17; have hG9 := hG22; have hA9 := hA21
  have hBk : RLv (X ++ [b2]) w16 (.agg #[.slice (some ⟨b15, 0, none⟩) 1 1, .bool false]) (lone nob) := ⟨_, _, _, rfl, own_rts (zs := [nob]) hO9 (fun g hg hm => by rcases List.mem_append.1 hm with h9 | h9; (have h8 := hG9 g hg; have h7 := hX g h9; omega); exact hA9 g (by rw [List.mem_singleton.1 h9]) hg)⟩
  refine wl_val rfl (ex_build (vs := [(0, _)]) Tryz.build77 rfl (cells := [_, _]) rfl) ?_; refine wl_alloc rfl Tryz.zero77 fun b3 w26 hB27 hs28 hw29 => ?_; have hsz_b3 := hs28; have hA30 := Apart.new (Lt.blk hB24) hs28; have hA31 := Apart.new (Lt.blk hB25) hs28; have hA32 := Apart.new (Lt.own hO17) hs28; have hG33 := Ge.new hE23 hs28; have hG34 := Ge.new (Evo.refl (X ++ [b2]) w16) hs28; have hG35 := Ge.new (Evo.refl [] w16) hs28; have hE36 := hE23.then hw29; have hE37 := (Evo.refl (X ++ [b2]) w16).then hw29; have hE38 := (Evo.refl [] w16).then hw29; have hB39 := hw29.blk0 hB24; have hB40 := hw29.blk0 hB25; have hO41 := hO17.evo0 hw29; refine wl_storeBlk rfl rfl Tryz.size77 hB27 rfl rfl ⟨by first | rfl | assumption, by first | rfl | assumption, trivial⟩ fun w42 hB43 hw44 => ?_; have hE45 := hE36.step hw44 hG33.mem1; have hE46 := hE37.step hw44 hG34.mem1; have hE47 := hE38.step hw44 hG35.mem1; have hB48 := hw44.blk hB39 hA30.nmem1; have hB49 := hw44.blk hB40 hA31.nmem1; have hO50 := hO41.evo hw44 hA32.own1
  try simp only [List.setIfInBounds_toArray, List.set_cons_zero, List.set_cons_succ, Nat.reduceAdd, Nat.zero_add, Nat.add_zero] at hB43
  refine wl_nil (nrm_then ?_); refine cw_seq ?_; refine cw_seq ?_; refine cw_region ?_; refine wl_val rfl (ex_fieldAddr rfl Tryz.fld25_0) ?_; refine wl_val rfl (ex_load1 rfl Tryz.agg3 (cell_nth hB48 rfl)) ?_; refine wl_nil (nrm_then ?_); refine cw_block ?_; refine cw_seq ?_; refine cw_region ?_; refine wl_val rfl (ex_eql rfl rfl) ?_; refine wl_a ?_; refine wl_nil (nrm_then ?_); refine cw_if rfl (fun hc17 => ?_) (fun hc17 => ?_)
  ·skip
   refine cw_seq ?_; refine cw_region ?_; refine wl_val rfl (ex_loadBlk rfl Tryz.agg77 Tryz.size77 hB43 rfl) ?_; refine wl_storeBlk rfl rfl Tryz.size77 hB49 rfl rfl ⟨by first | rfl | assumption, by first | rfl | assumption, trivial⟩ fun w51 hB52 hw53 => ?_; have hE54 := hE45.step hw53 hG12.mem1
   have hE55 := hE46.step hw53 (fun y hy => .inl (by rw [List.mem_singleton.1 hy]; simp))
   have hB57 := hw53.blk hB48 hA11.nmem1; have hB58 := hw53.blk hB43 hA31.symm.nmem1
   try simp only [List.setIfInBounds_toArray, List.set_cons_zero, List.set_cons_succ, Nat.reduceAdd, Nat.zero_add, Nat.add_zero] at hB52
   refine wl_nil (nrm_then ?_); refine cw_ret (ret_block (ret_then (body_retC1 rfl (ResOk.cellA rfl Tryz.agg77 Tryz.size77 hB52 rfl) ?_))); exact ⟨_, (hBk.evo hE55).left, lis_eps (by omega), hE54⟩
  ·skip
   refine cw_seq ?_; refine cw_region ?_; refine wl_val rfl (ex_eql rfl rfl) ?_; refine wl_a ?_; refine wl_nil (nrm_then ?_); refine cw_if rfl (fun hc20 => ?_) (fun hc20 => ?_)
   ·skip
    refine cw_seq ?_; refine cw_region ?_; refine wl_val rfl (ex_fieldAddr rfl Tryz.fld25_1) ?_; refine wl_val rfl (ex_load1 rfl Tryz.agg21 (cell_nth hB48 rfl)) ?_; refine wl_val rfl (ex_fieldAddr rfl Tryz.fld25_1) ?_; refine wl_val rfl (ex_load1 rfl Tryz.agg21 (cell_nth hB48 rfl)) ?_; refine wl_val rfl (ex_build (vs := [(0, _), (1, _)]) Tryz.build129 rfl (cells := [_, _]) rfl) ?_; refine wl_bslice (vs := [_]) rfl Tryz.slice22 rfl rfl rfl rfl fun b59 w60 hO61 hs62 hw63 => ?_; have hA64 := Apart.new (Lt.blk hB48) hs62; have hA65 := Apart.new (Lt.blk hB49) hs62; have hA66 := Apart.new (Lt.blk hB43) hs62; have hG67 := Ge.new hE45 hs62; have hG68 := Ge.new hE46 hs62; have hG69 := Ge.new hE47 hs62; have hE70 := hE45.then hw63; have hE71 := hE46.then hw63; have hE72 := hE47.then hw63; have hB73 := hw63.blk0 hB48; have hB74 := hw63.blk0 hB49; have hB75 := hw63.blk0 hB43
    refine wl_call1 (vs := [_]) Tryz.goes86 rfl (runes_ok (X := X ++ [b2]) (rs := [(t.r, t.r)]) (mem_x1 hX hE70 (blk_lt hB74)) (RSl.ofOwn (rows := [[.int .i32 t.r, .int .i32 t.r]]) hO61 (rows_rr _ _ _ _) rfl (fun _ _ h => by cases h)) (by show 1 ≤ _; decide) (cls_one (hn.lit1 (by omega)) (hn.lit2 (by omega)))) rfl ?_
    rintro rv w76 ⟨ol, hR, hI, hw77⟩; have hE78 := hE70.then hw77; have hE79 := hE71.then hw77; have hE80 := hE72.then hw77; have hB81 := hw77.blk0 hB73; have hB82 := hw77.blk0 hB74; have hB83 := hw77.blk0 hB75; have hO84 := hO61.evo0 hw77; obtain ⟨ra, rn, rc, rfl, hrr⟩ := hR.get; refine wl_storeBlk rfl rfl Tryz.size77 hB82 rfl rfl ⟨by first | rfl | assumption, by first | rfl | assumption, trivial⟩ fun w85 hB86 hw87 => ?_; have hE88 := hE78.step hw87 hG12.mem1
    have hE89 := hE79.step hw87 (fun y hy => .inl (by rw [List.mem_singleton.1 hy]; simp))
    have hE91 := (Evo.refl (X ++ [b2]) w76).step hw87 (fun y hy => .inl (by rw [List.mem_singleton.1 hy]; simp))
    have hB92 := hw87.blk hB81 hA11.nmem1; have hB93 := hw87.blk hB83 hA31.symm.nmem1; have hO94 := hO84.evo hw87 hA65.symm.own1
    try simp only [List.setIfInBounds_toArray, List.set_cons_zero, List.set_cons_succ, Nat.reduceAdd, Nat.zero_add, Nat.add_zero] at hB86
    refine wl_nil (nrm_then ?_); refine cw_ret (ret_block (ret_then (body_retC1 rfl (ResOk.cellA rfl Tryz.agg77 Tryz.size77 hB86 rfl) ?_))); exact ⟨ol, (hR.evo hE91).left, lis_lit (by omega) hI, hE88⟩
   ·skip
    refine cw_seq ?_; refine cw_region ?_; refine wl_val rfl (ex_eql rfl rfl) ?_; refine wl_a ?_; refine wl_nil (nrm_then ?_); refine cw_if rfl (fun hc29 => ?_) (fun hc29 => ?_)
    ·skip
     refine cw_seq ?_; refine cw_region ?_; refine wl_val rfl (ex_fieldAddr rfl Tryz.fld25_2) ?_; refine wl_val rfl (ex_load1 rfl Tryz.agg22 (cell_nth hB48 rfl)) ?_; refine wl_call1 (vs := [_]) Tryz.goes86 rfl (runes_ok (X := X ++ [b2]) (rs := t.ranges) (mem_x1 hX hE45 (blk_lt hB49)) (RSl.evo RRg.pers hE45 (RSl.fresh (by decide) RRg.fresh (fun y hy => by cases hy) hrg)) (bl1) (cls_of (hn.cls (by omega)))) rfl ?_; rintro rv w95 ⟨ol, hR, hI, hw96⟩; have hE97 := hE45.then hw96; have hE98 := hE46.then hw96; have hE99 := hE47.then hw96; have hB100 := hw96.blk0 hB48; have hB101 := hw96.blk0 hB49; have hB102 := hw96.blk0 hB43; obtain ⟨ra, rn, rc, rfl, hrr⟩ := hR.get; refine wl_storeBlk rfl rfl Tryz.size77 hB101 rfl rfl ⟨by first | rfl | assumption, by first | rfl | assumption, trivial⟩ fun w103 hB104 hw105 => ?_; have hE106 := hE97.step hw105 hG12.mem1
     have hE107 := hE98.step hw105 (fun y hy => .inl (by rw [List.mem_singleton.1 hy]; simp))
     have hE109 := (Evo.refl (X ++ [b2]) w95).step hw105 (fun y hy => .inl (by rw [List.mem_singleton.1 hy]; simp))
     have hB110 := hw105.blk hB100 hA11.nmem1; have hB111 := hw105.blk hB102 hA31.symm.nmem1
     try simp only [List.setIfInBounds_toArray, List.set_cons_zero, List.set_cons_succ, Nat.reduceAdd, Nat.zero_add, Nat.add_zero] at hB104
     refine wl_nil (nrm_then ?_); refine cw_ret (ret_block (ret_then (body_retC1 rfl (ResOk.cellA rfl Tryz.agg77 Tryz.size77 hB104 rfl) ?_))); exact ⟨ol, (hR.evo hE109).left, lis_cls (by omega) hI, hE106⟩
    ·skip
     refine cw_seq ?_; refine cw_region ?_; refine wl_val rfl (ex_eql rfl rfl) ?_; refine wl_a ?_; refine wl_nil (nrm_then ?_); refine cw_if rfl (fun hc34 => ?_) (fun hc34 => ?_)
     ·skip
      have hl1 : t.kids.length = 1 := by have h1 := hn.rep4; have h2 := hn.grp; omega
      have hj' : 0 < t.kids.length := by omega
      obtain ⟨b5, o1, vs1, ha1, hnb1, hvl1, hc1, hrk⟩ := e1 0 hj'; obtain ⟨m1, ra1, rc1, ka1, kc1, rfl, rfl, -⟩ := id hrk.get; have he1 := eszs_one hl1
      have hkk : t.kids[0].esz ≤ 9999 := by have := esz7 (t := t) (by omega); omega
      refine cw_seq ?_; refine cw_region ?_; refine wl_val rfl (ex_fieldAddr rfl Tryz.fld25_8) ?_; refine wl_val rfl (ex_load1 rfl Tryz.agg23 (cell_nth hB48 rfl)) ?_
      refine wl_val rfl (ex_indexAddrZ (n := 0) (by rw [ha1]; rfl) rfl rfl Tryz.elem23 (by omega)) ?_
      refine wl_val rfl (ex_loadA rfl Tryz.agg25 Tryz.size25 (vs := [_, _, _, _, _, _, _, _, _]) rfl (hc1.evo hE45 (by simp))) ?_; refine wl_call1 (vs := [_]) Tryz.goes44 rfl (ih (X := X ++ [b2]) (mem_x1 hX hE45 (blk_lt hB49)) (RRx.pers _ _ _ _ _ _ (hE45.mono (fun b hb => by cases hb)) hrk) (hg.kid _ (List.getElem_mem hj')) (nolook_kid hno _ (List.getElem_mem hj')) hkk) rfl ?_; rintro kv w112 ⟨kl, hkR, hkI, hw113⟩; have hE114 := hE45.then hw113; have hE115 := hE46.then hw113; have hE116 := hE47.then hw113; have hB117 := hw113.blk0 hB48; have hB118 := hw113.blk0 hB49; have hB119 := hw113.blk0 hB43; obtain ⟨xa, xn, xc, rfl, hxr⟩ := hkR.get; refine wl_storeBlk rfl rfl Tryz.size77 hB118 rfl rfl ⟨by first | rfl | assumption, by first | rfl | assumption, trivial⟩ fun w120 hB121 hw122 => ?_; have hE123 := hE114.step hw122 hG12.mem1
      have hE124 := hE115.step hw122 (fun y hy => .inl (by rw [List.mem_singleton.1 hy]; simp))
      have hE126 := (Evo.refl (X ++ [b2]) w112).step hw122 (fun y hy => .inl (by rw [List.mem_singleton.1 hy]; simp))
      have hB127 := hw122.blk hB117 hA11.nmem1; have hB128 := hw122.blk hB119 hA31.symm.nmem1
      try simp only [List.setIfInBounds_toArray, List.set_cons_zero, List.set_cons_succ, Nat.reduceAdd, Nat.zero_add, Nat.add_zero] at hB121
      refine wl_nil (nrm_then ?_); refine cw_ret (ret_block (ret_then (body_retC1 rfl (ResOk.cellA rfl Tryz.agg77 Tryz.size77 hB121 rfl) ?_))); exact ⟨kl, (hkR.evo hE126).left, lis_grp (by omega) hl1 hkI, hE123⟩
     ·skip
      refine cw_seq ?_; refine cw_region ?_; refine wl_val rfl (ex_eql rfl rfl) ?_; refine wl_a ?_; refine wl_nil (nrm_then ?_); refine cw_if rfl (fun hc41 => ?_) (fun hc41 => ?_)
      ·skip
       refine cw_seq ?_; refine cw_region ?_; refine wl_val rfl (ex_loadBlk rfl Tryz.agg77 Tryz.size77 hB43 rfl) ?_; refine wl_alloc rfl Tryz.zero77 fun b4 w129 hB130 hs131 hw132 => ?_; have hsz_b4 := hs131; have hA133 := Apart.new (Lt.blk hB48) hs131; have hA134 := Apart.new (Lt.blk hB49) hs131; have hA135 := Apart.new (Lt.blk hB43) hs131; have hG136 := Ge.new hE45 hs131; have hG137 := Ge.new hE46 hs131; have hG138 := Ge.new hE47 hs131; have hE139 := hE45.then hw132; have hE140 := hE46.then hw132; have hE141 := hE47.then hw132; have hB142 := hw132.blk0 hB48; have hB143 := hw132.blk0 hB49; have hB144 := hw132.blk0 hB43; refine wl_storeBlk rfl rfl Tryz.size77 hB130 rfl rfl ⟨by first | rfl | assumption, by first | rfl | assumption, trivial⟩ fun w145 hB146 hw147 => ?_; have hE148 := hE139.step hw147 hG136.mem1; have hE149 := hE140.step hw147 hG137.mem1; have hE150 := hE141.step hw147 hG138.mem1; have hB151 := hw147.blk hB142 hA133.nmem1; have hB152 := hw147.blk hB143 hA134.nmem1; have hB153 := hw147.blk hB144 hA135.nmem1
       try simp only [List.setIfInBounds_toArray, List.set_cons_zero, List.set_cons_succ, Nat.reduceAdd, Nat.zero_add, Nat.add_zero] at hB146
       refine wl_nil (nrm_then ?_); refine cw_seq ?_; refine cw_seq ?_; refine cw_region ?_
       have hB4 : RLv (X ++ [b2, b4]) w145 _ _ := (hBk.fresh (fun y hy => by rcases List.mem_append.1 hy with h | h; exact .inl (List.mem_append_left _ h); simp at h; rcases h with rfl | rfl; exact .inl (by simp); exact .inr (hG138 _ rfl))).evo ((hE150).any _)
       refine wl_a ?_; refine wl_nil (nrm_then ?_); refine cw_block ?_; refine cw_loop (α := RwG) (⟨0, _, 1, 1, lone nob⟩) (fun x => [(5, .int .i64 (x.k : Nat))]) [(1, _), (2, _), (3, _), (4, _)] (fun x wr => Evo [] w wr ∧ (RwI X wr b1 b2 b2 b4 #[iv t.kind, .int .i32 t.r, .slice ra t.ranges.length rc, iv t.min, iv t.max, .bool t.lazy, iv t.cap, .string t.name, .slice ka t.kids.length kc] (.bool false) t.kids.length (fun k p => LIs p (4 * eszs (t.kids.take k)) (Tgs (t.kids.take k))) x)) (fun x => t.kids.length - x.k) ⟨rfl, trivial⟩ ⟨rfl, rfl, rfl, rfl, trivial⟩ ⟨hE148, ⟨Nat.zero_le _, hB151, hB152, hB146, hB4, lis_cat0 t⟩⟩ ?_; rintro ⟨k, pa, pn, pc, p⟩ wr154 ⟨hV155, ⟨hk, hb1, hb2, hb4, hrp, his⟩⟩; show CW _ _ _ _ [(5, .int .i64 (k : Nat)), (1, _), (2, _), (3, _), (4, _)] _
       try dsimp only at hk
       try dsimp only at hb1
       try dsimp only at hb2
       try dsimp only at hb4
       try dsimp only at hrp
       try dsimp only at his
       have hE156 := Evo.refl (X ++ [b2, b4]) wr154; refine cw_seq ?_; refine cw_seq ?_; refine cw_region ?_; refine wl_m ?_; refine wl_val rfl (ex_fieldAddr rfl Tryz.fld25_8) ?_; refine wl_val rfl (ex_load1 rfl Tryz.agg23 (cell_nth hb1 rfl)) ?_; refine wl_val rfl (ex_len_slice rfl Tryz.underlying23 rfl) ?_; refine wl_val rfl (ex_lss rfl rfl) ?_; refine wl_nil (nrm_then ?_); refine cw_if rfl (fun hc48 => ?_) (fun hc48 => ?_)
       ·skip
        have hez := kids_le (t := t) (by omega)
        have hj' : k < t.kids.length := by omega
        obtain ⟨b5, o1, vs1, ha1, hnb1, hvl1, hc1, hrk⟩ := e1 k hj'; obtain ⟨m1, ra1, rc1, ka1, kc1, rfl, rfl, -⟩ := id hrk.get; have hek := eszs_le hj'
        have hkk : t.kids[k].esz ≤ 9999 := by omega
        have hz9 := eszs_tk t.kids k; refine cw_skip (nrm_then ?_); refine cw_seq ?_; refine cw_block ?_; refine cw_any (fun w0 w' => Evo [] w0 w') (by kernel_rfl) (fun w157 hw158 => ?_); have hE159 := hV155.then hw158; have hE160 := hE156.then hw158; have hB161 := hw158.blk0 hb1; have hB162 := hw158.blk0 hb2; have hB163 := hw158.blk0 hb4; refine ae_take 0 rfl (by kernel_rfl) (by kernel_rfl) (by kernel_rfl) rfl (fun _ hS => ex_loadBlk rfl Tryz.agg77 Tryz.size77 (hS.blk0 hB163) rfl) (Evo.refl [] w157) ?_; refine ae_take 1 rfl (by kernel_rfl) (by kernel_rfl) (by kernel_rfl) rfl (fun _ hS => ex_fieldAddr rfl Tryz.fld25_8) (Evo.refl [] w157) ?_; refine ae_take 2 rfl (by kernel_rfl) (by kernel_rfl) (by kernel_rfl) rfl (fun _ hS => ex_load1 rfl Tryz.agg23 (cell_nth (hS.blk0 hB161) rfl)) (Evo.refl [] w157) ?_; refine ae_take 3 rfl (by kernel_rfl) (by kernel_rfl) (by kernel_rfl) rfl (fun _ hS => ex_move rfl) (Evo.refl [] w157) ?_; refine ae_take 4 rfl (by kernel_rfl) (by kernel_rfl) (by kernel_rfl) rfl (fun _ hS => ex_indexAddrA rfl rfl ha1 Tryz.elem23 hj') (Evo.refl [] w157) ?_; refine ae_take 5 rfl (by kernel_rfl) (by kernel_rfl) (by kernel_rfl) rfl (fun _ hS => ex_loadA rfl Tryz.agg25 Tryz.size25 (vs := [_, _, _, _, _, _, _, _, _]) rfl (hc1.evo (hE159.then hS) (by simp))) (Evo.refl [] w157) ?_; refine ae_loud [6] (by kernel_rfl) rfl ⟨?_, trivial⟩; refine a_step rfl ?_; refine wl_call1 (vs := [_]) Tryz.goes44 rfl (ih (X := X ++ [b2, b4]) (mem_x2 hX hE159 (blk_lt hB162) (blk_lt hB163)) (RRx.pers _ _ _ _ _ _ (hE159.mono (fun b hb => by cases hb)) hrk) (hg.kid _ (List.getElem_mem hj')) (nolook_kid hno _ (List.getElem_mem hj')) hkk) rfl ?_; rintro kv w164 ⟨kl, hkR, hkI, hw165⟩; have hE166 := hE159.then hw165; have hE167 := hE160.then hw165
        have hE168 := (Evo.refl [] w157).then hw165; have hB169 := hw165.blk0 hB161; have hB170 := hw165.blk0 hB162; have hB171 := hw165.blk0 hB163; refine wl_nil (ae_next (.inl hE168) ?_); refine ae_loud [7] (by kernel_rfl) rfl ⟨?_, trivial⟩; refine a_step rfl ?_; refine wl_call1 (vs := [_, _]) Tryz.goes87 rfl (rthen_ok (X := X ++ [b2, b4]) (mem_x2 hX hE166 (blk_lt hB170) (blk_lt hB171)) (hrp.evo hE167) (hkR.evo (Evo.refl (X ++ [b2, b4]) w164)) his hkI (by omega) (by omega)) rfl ?_; rintro rv w172 ⟨lr, hR, hIr, hw173⟩; have hE174 := hE166.then hw173; have hE175 := hE167.then hw173; have hE176 := hE168.then hw173; have hE177 := (Evo.refl (X ++ [b2, b4]) w164).then hw173; have hB178 := hw173.blk0 hB169; have hB179 := hw173.blk0 hB170; have hB180 := hw173.blk0 hB171; obtain ⟨ra, rn, rc, rfl, hrr⟩ := hR.get; refine wl_nil (ae_next (.inl hE176) ?_); refine ae_loud [8] (by kernel_rfl) rfl ⟨?_, trivial⟩; refine a_step rfl ?_; refine wl_storeBlk rfl rfl Tryz.size77 hB180 rfl rfl ⟨by first | rfl | assumption, by first | rfl | assumption, trivial⟩ fun w181 hB182 hw183 => ?_; have hE184 := hE174.step hw183 hG136.mem1
        have hE185 := hE175.step hw183 (fun y hy => .inl (by rw [List.mem_singleton.1 hy]; simp))
        have hE187 := hE177.step hw183 (fun y hy => .inl (by rw [List.mem_singleton.1 hy]; simp))
        have hE188 := (Evo.refl (X ++ [b2, b4]) w172).step hw183 (fun y hy => .inl (by rw [List.mem_singleton.1 hy]; simp))
        have hB189 := hw183.blk hB178 hA133.nmem1; have hB190 := hw183.blk hB179 hA134.nmem1
        try simp only [List.setIfInBounds_toArray, List.set_cons_zero, List.set_cons_succ, Nat.reduceAdd, Nat.zero_add, Nat.add_zero] at hB182
        refine wl_nil (ae_next (.inr (by kernel_rfl)) ?_); refine ae_done (by kernel_rfl) (nrm_block (nrm_then ?_)); refine cw_region ?_; refine wl_m ?_; refine wl_val rfl (ex_add_i64 rfl rfl (by omega) (by omega)) ?_; refine wl_a ?_; refine wl_nil (nrm_same ?_); refine ⟨⟨k + 1, ra, rn, rc, lr⟩, ?_, ⟨rfl, trivial⟩, ⟨rfl, rfl, rfl, rfl, trivial⟩, hE184, ?_⟩
        · (try dsimp only); omega
        ·skip
         try dsimp only
         exact ⟨by show k + 1 ≤ _; omega, hB189, hB190, hB182, hR.evo hE188, rcat_step hj' hIr⟩
       ·skip
        refine cw_exit (ex_then (ex_then (ex_here (nrm_then ?_)))); refine cw_seq ?_; refine cw_region ?_; refine wl_val rfl (ex_loadBlk rfl Tryz.agg77 Tryz.size77 hb4 rfl) ?_; refine wl_storeBlk rfl rfl Tryz.size77 hb2 rfl rfl ⟨by first | rfl | assumption, by first | rfl | assumption, trivial⟩ fun w191 hB192 hw193 => ?_; have hE194 := hV155.step hw193 hG12.mem1
        have hE195 := hE156.step hw193 (fun y hy => .inl (by rw [List.mem_singleton.1 hy]; simp))
        have hB196 := hw193.blk hb1 hA11.nmem1; have hB197 := hw193.blk hb4 hA134.symm.nmem1
        try simp only [List.setIfInBounds_toArray, List.set_cons_zero, List.set_cons_succ, Nat.reduceAdd, Nat.zero_add, Nat.add_zero] at hB192
        refine wl_nil (nrm_then ?_); refine cw_ret (ret_block (ret_then (body_retC1 rfl (ResOk.cellA rfl Tryz.agg77 Tryz.size77 hB192 rfl) ?_))); exact ⟨p, (hrp.evo hE195).left, lis_cat (by omega) (by omega) his, hE194⟩
      ·skip
       refine cw_seq ?_; refine cw_region ?_; refine wl_val rfl (ex_eql rfl rfl) ?_; refine wl_a ?_; refine wl_nil (nrm_then ?_); refine cw_if rfl (fun hc60 => ?_) (fun hc60 => ?_)
       ·skip
        refine cw_seq ?_; refine cw_region ?_; refine wl_val rfl (ex_build (vs := []) Tryz.build77 rfl (cells := [_, _]) rfl) ?_; refine wl_alloc rfl Tryz.zero77 fun b6 w198 hB199 hs200 hw201 => ?_; have hsz_b6 := hs200; have hA202 := Apart.new (Lt.blk hB48) hs200; have hA203 := Apart.new (Lt.blk hB49) hs200; have hA204 := Apart.new (Lt.blk hB43) hs200; have hG205 := Ge.new hE45 hs200; have hG206 := Ge.new hE46 hs200; have hG207 := Ge.new hE47 hs200; have hE208 := hE45.then hw201; have hE209 := hE46.then hw201; have hE210 := hE47.then hw201; have hB211 := hw201.blk0 hB48; have hB212 := hw201.blk0 hB49; have hB213 := hw201.blk0 hB43; refine wl_storeBlk rfl rfl Tryz.size77 hB199 rfl rfl ⟨by first | rfl | assumption, by first | rfl | assumption, trivial⟩ fun w214 hB215 hw216 => ?_; have hE217 := hE208.step hw216 hG205.mem1; have hE218 := hE209.step hw216 hG206.mem1; have hE219 := hE210.step hw216 hG207.mem1; have hB220 := hw216.blk hB211 hA202.nmem1; have hB221 := hw216.blk hB212 hA203.nmem1; have hB222 := hw216.blk hB213 hA204.nmem1
        try simp only [List.setIfInBounds_toArray, List.set_cons_zero, List.set_cons_succ, Nat.reduceAdd, Nat.zero_add, Nat.add_zero] at hB215
        refine wl_nil (nrm_then ?_); refine cw_seq ?_; refine cw_seq ?_; refine cw_region ?_; have hB6 : RLv (X ++ [b2, b6]) w214 _ _ := rlv_none _ _ false; refine wl_a ?_; refine wl_nil (nrm_then ?_); refine cw_block ?_; refine cw_loop (α := RwG) (⟨0, none, 0, 0, ([], false)⟩) (fun x => [(7, .int .i64 (x.k : Nat))]) [(1, _), (2, _), (3, _), (6, _)] (fun x wr => Evo [] w wr ∧ (RwI X wr b1 b2 b2 b6 #[iv t.kind, .int .i32 t.r, .slice ra t.ranges.length rc, iv t.min, iv t.max, .bool t.lazy, iv t.cap, .string t.name, .slice ka t.kids.length kc] (.bool false) t.kids.length (fun k p => LIs p (4 * eszs (t.kids.take k)) (TgA (t.kids.take k))) x)) (fun x => t.kids.length - x.k) ⟨rfl, trivial⟩ ⟨rfl, rfl, rfl, rfl, trivial⟩ ⟨hE217, ⟨Nat.zero_le _, hB220, hB221, hB215, hB6, lis_alt0 t⟩⟩ ?_; rintro ⟨k, pa, pn, pc, p⟩ wr223 ⟨hV224, ⟨hk, hb1, hb2, hb6, hrp, his⟩⟩; show CW _ _ _ _ [(7, .int .i64 (k : Nat)), (1, _), (2, _), (3, _), (6, _)] _
        try dsimp only at hk
        try dsimp only at hb1
        try dsimp only at hb2
        try dsimp only at hb6
        try dsimp only at hrp
        try dsimp only at his
        have hE225 := Evo.refl (X ++ [b2, b6]) wr223; refine cw_seq ?_; refine cw_seq ?_; refine cw_region ?_; refine wl_m ?_; refine wl_val rfl (ex_fieldAddr rfl Tryz.fld25_8) ?_; refine wl_val rfl (ex_load1 rfl Tryz.agg23 (cell_nth hb1 rfl)) ?_; refine wl_val rfl (ex_len_slice rfl Tryz.underlying23 rfl) ?_; refine wl_val rfl (ex_lss rfl rfl) ?_; refine wl_nil (nrm_then ?_); refine cw_if rfl (fun hc67 => ?_) (fun hc67 => ?_)
        ·skip
         have hez := kids_le5 (t := t) (by omega) (hn.two (by omega) |> Int.ofNat_le.1)
         have hj' : k < t.kids.length := by omega
         obtain ⟨b5, o1, vs1, ha1, hnb1, hvl1, hc1, hrk⟩ := e1 k hj'; obtain ⟨m1, ra1, rc1, ka1, kc1, rfl, rfl, -⟩ := id hrk.get; have hek := eszs_le hj'
         have hkk : t.kids[k].esz ≤ 9999 := by omega
         have hz9 := eszs_tk t.kids k; refine cw_skip (nrm_then ?_); refine cw_seq ?_; refine cw_block ?_; refine cw_any (fun w0 w' => Evo [] w0 w') (by kernel_rfl) (fun w226 hw227 => ?_); have hE228 := hV224.then hw227; have hE229 := hE225.then hw227; have hB230 := hw227.blk0 hb1; have hB231 := hw227.blk0 hb2; have hB232 := hw227.blk0 hb6; refine ae_take 0 rfl (by kernel_rfl) (by kernel_rfl) (by kernel_rfl) rfl (fun _ hS => ex_loadBlk rfl Tryz.agg77 Tryz.size77 (hS.blk0 hB232) rfl) (Evo.refl [] w226) ?_; refine ae_take 1 rfl (by kernel_rfl) (by kernel_rfl) (by kernel_rfl) rfl (fun _ hS => ex_fieldAddr rfl Tryz.fld25_8) (Evo.refl [] w226) ?_; refine ae_take 2 rfl (by kernel_rfl) (by kernel_rfl) (by kernel_rfl) rfl (fun _ hS => ex_load1 rfl Tryz.agg23 (cell_nth (hS.blk0 hB230) rfl)) (Evo.refl [] w226) ?_; refine ae_take 3 rfl (by kernel_rfl) (by kernel_rfl) (by kernel_rfl) rfl (fun _ hS => ex_move rfl) (Evo.refl [] w226) ?_; refine ae_take 4 rfl (by kernel_rfl) (by kernel_rfl) (by kernel_rfl) rfl (fun _ hS => ex_indexAddrA rfl rfl ha1 Tryz.elem23 hj') (Evo.refl [] w226) ?_; refine ae_take 5 rfl (by kernel_rfl) (by kernel_rfl) (by kernel_rfl) rfl (fun _ hS => ex_loadA rfl Tryz.agg25 Tryz.size25 (vs := [_, _, _, _, _, _, _, _, _]) rfl (hc1.evo (hE228.then hS) (by simp))) (Evo.refl [] w226) ?_; refine ae_loud [6] (by kernel_rfl) rfl ⟨?_, trivial⟩; refine a_step rfl ?_; refine wl_call1 (vs := [_]) Tryz.goes44 rfl (ih (X := X ++ [b2, b6]) (mem_x2 hX hE228 (blk_lt hB231) (blk_lt hB232)) (RRx.pers _ _ _ _ _ _ (hE228.mono (fun b hb => by cases hb)) hrk) (hg.kid _ (List.getElem_mem hj')) (nolook_kid hno _ (List.getElem_mem hj')) hkk) rfl ?_; rintro kv w233 ⟨kl, hkR, hkI, hw234⟩; have hE235 := hE228.then hw234; have hE236 := hE229.then hw234
         have hE237 := (Evo.refl [] w226).then hw234; have hB238 := hw234.blk0 hB230; have hB239 := hw234.blk0 hB231; have hB240 := hw234.blk0 hB232; refine wl_nil (ae_next (.inl hE237) ?_); refine ae_loud [7] (by kernel_rfl) rfl ⟨?_, trivial⟩; refine a_step rfl ?_; refine wl_call1 (vs := [_, _]) Tryz.goes88 rfl (rand_ok (X := X ++ [b2, b6]) (mem_x2 hX hE235 (blk_lt hB239) (blk_lt hB240)) (hrp.evo hE236) (hkR.evo (Evo.refl (X ++ [b2, b6]) w233)) his hkI) rfl ?_; rintro rv w241 ⟨lr, hR, hIr, hw242⟩; have hE243 := hE235.then hw242; have hE244 := hE236.then hw242; have hE245 := hE237.then hw242; have hE246 := (Evo.refl (X ++ [b2, b6]) w233).then hw242; have hB247 := hw242.blk0 hB238; have hB248 := hw242.blk0 hB239; have hB249 := hw242.blk0 hB240; obtain ⟨ra, rn, rc, rfl, hrr⟩ := hR.get; refine wl_nil (ae_next (.inl hE245) ?_); refine ae_loud [8] (by kernel_rfl) rfl ⟨?_, trivial⟩; refine a_step rfl ?_; refine wl_storeBlk rfl rfl Tryz.size77 hB249 rfl rfl ⟨by first | rfl | assumption, by first | rfl | assumption, trivial⟩ fun w250 hB251 hw252 => ?_; have hE253 := hE243.step hw252 hG205.mem1
         have hE254 := hE244.step hw252 (fun y hy => .inl (by rw [List.mem_singleton.1 hy]; simp))
         have hE256 := hE246.step hw252 (fun y hy => .inl (by rw [List.mem_singleton.1 hy]; simp))
         have hE257 := (Evo.refl (X ++ [b2, b6]) w241).step hw252 (fun y hy => .inl (by rw [List.mem_singleton.1 hy]; simp))
         have hB258 := hw252.blk hB247 hA202.nmem1; have hB259 := hw252.blk hB248 hA203.nmem1
         try simp only [List.setIfInBounds_toArray, List.set_cons_zero, List.set_cons_succ, Nat.reduceAdd, Nat.zero_add, Nat.add_zero] at hB251
         refine wl_nil (ae_next (.inr (by kernel_rfl)) ?_); refine ae_done (by kernel_rfl) (nrm_block (nrm_then ?_)); refine cw_region ?_; refine wl_m ?_; refine wl_val rfl (ex_add_i64 rfl rfl (by omega) (by omega)) ?_; refine wl_a ?_; refine wl_nil (nrm_same ?_); refine ⟨⟨k + 1, ra, rn, rc, lr⟩, ?_, ⟨rfl, trivial⟩, ⟨rfl, rfl, rfl, rfl, trivial⟩, hE253, ?_⟩
         · (try dsimp only); omega
         ·skip
          try dsimp only
          exact ⟨by show k + 1 ≤ _; omega, hB258, hB259, hB251, hR.evo hE257, ralt_step hj' hIr⟩
        ·skip
         refine cw_exit (ex_then (ex_then (ex_here (nrm_then ?_)))); refine cw_seq ?_; refine cw_region ?_; refine wl_val rfl (ex_loadBlk rfl Tryz.agg77 Tryz.size77 hb6 rfl) ?_; refine wl_storeBlk rfl rfl Tryz.size77 hb2 rfl rfl ⟨by first | rfl | assumption, by first | rfl | assumption, trivial⟩ fun w260 hB261 hw262 => ?_; have hE263 := hV224.step hw262 hG12.mem1
         have hE264 := hE225.step hw262 (fun y hy => .inl (by rw [List.mem_singleton.1 hy]; simp))
         have hB265 := hw262.blk hb1 hA11.nmem1; have hB266 := hw262.blk hb6 hA203.symm.nmem1
         try simp only [List.setIfInBounds_toArray, List.set_cons_zero, List.set_cons_succ, Nat.reduceAdd, Nat.zero_add, Nat.add_zero] at hB261
         refine wl_nil (nrm_then ?_); refine cw_ret (ret_block (ret_then (body_retC1 rfl (ResOk.cellA rfl Tryz.agg77 Tryz.size77 hB261 rfl) ?_))); exact ⟨p, (hrp.evo hE264).left, lis_alt (by omega) (hn.two (by omega) |> Int.ofNat_le.1) (by omega) his, hE263⟩
       ·skip
        refine cw_skip (nrm_block (nrm_then ?_)); refine cw_seq ?_; refine cw_seq ?_
        have hk6 : t.kind = 6 := by have := hn.kind1; omega
        have h6 := hn.rep1 hk6; have h62 := hn.rep2 hk6; have h63 := hn.rep3 hk6; refine cw_region ?_; refine wl_val rfl (ex_fieldAddr rfl Tryz.fld25_4) ?_; refine wl_val rfl (ex_load1 rfl Tryz.agg3 (cell_nth hB48 rfl)) ?_; refine wl_val rfl (ex_eql rfl rfl) ?_; refine wl_nil (nrm_then ?_); refine cw_if rfl (fun hc81 => ?_) (fun hc81 => ?_)
        ·skip
         have h61 : t.max = 0 := by omega
         refine cw_seq ?_; refine cw_region ?_; refine wl_val rfl (ex_loadBlk rfl Tryz.agg77 Tryz.size77 hB43 rfl) ?_; refine wl_storeBlk rfl rfl Tryz.size77 hB49 rfl rfl ⟨by first | rfl | assumption, by first | rfl | assumption, trivial⟩ fun w267 hB268 hw269 => ?_; have hE270 := hE45.step hw269 hG12.mem1
         have hE271 := hE46.step hw269 (fun y hy => .inl (by rw [List.mem_singleton.1 hy]; simp))
         have hB273 := hw269.blk hB48 hA11.nmem1; have hB274 := hw269.blk hB43 hA31.symm.nmem1
         try simp only [List.setIfInBounds_toArray, List.set_cons_zero, List.set_cons_succ, Nat.reduceAdd, Nat.zero_add, Nat.add_zero] at hB268
         refine wl_nil (nrm_then ?_); refine cw_ret (ret_then (body_retC1 rfl (ResOk.cellA rfl Tryz.agg77 Tryz.size77 hB268 rfl) ?_)); exact ⟨_, (hBk.evo hE271).left, lis_rep0 hk6 h61 h6 (by omega), hE270⟩
        ·skip
         have hl1 : t.kids.length = 1 := by have h1 := hn.rep4; have h2 := hn.grp; omega
         have hj' : 0 < t.kids.length := by omega
         obtain ⟨b5, o1, vs1, ha1, hnb1, hvl1, hc1, hrk⟩ := e1 0 hj'; obtain ⟨m1, ra1, rc1, ka1, kc1, rfl, rfl, -⟩ := id hrk.get; have he1 := eszs_one hl1
         have hx0' : t.max ≠ 0 := by omega
         have hkz := rep_kid hk6 h6 (by omega) hx0'
         have hkk : t.kids[0].esz ≤ 9999 := by omega
         have hrs := rep_sizes (t := t) (by omega) h6 (by omega) (h := 4 * t.kids[0].esz) (by omega); refine cw_skip (nrm_then ?_); refine cw_seq ?_; refine cw_region ?_; refine wl_val rfl (ex_fieldAddr rfl Tryz.fld25_8) ?_; refine wl_val rfl (ex_load1 rfl Tryz.agg23 (cell_nth hB48 rfl)) ?_
         refine wl_val rfl (ex_indexAddrZ (n := 0) (by rw [ha1]; rfl) rfl rfl Tryz.elem23 (by omega)) ?_
         refine wl_val rfl (ex_loadA rfl Tryz.agg25 Tryz.size25 (vs := [_, _, _, _, _, _, _, _, _]) rfl (hc1.evo hE45 (by simp))) ?_; refine wl_call1 (vs := [_]) Tryz.goes44 rfl (ih (X := X ++ [b2]) (mem_x1 hX hE45 (blk_lt hB49)) (RRx.pers _ _ _ _ _ _ (hE45.mono (fun b hb => by cases hb)) hrk) (hg.kid _ (List.getElem_mem hj')) (nolook_kid hno _ (List.getElem_mem hj')) hkk) rfl ?_; rintro kv w275 ⟨kl, hkR, hkI, hw276⟩; have hE277 := hE45.then hw276; have hE278 := hE46.then hw276; have hE279 := hE47.then hw276; have hB280 := hw276.blk0 hB48; have hB281 := hw276.blk0 hB49; have hB282 := hw276.blk0 hB43; obtain ⟨xa, xn, xc, rfl, hxr⟩ := hkR.get; obtain ⟨kt, kb⟩ := kl; refine wl_alloc rfl Tryz.zero77 fun b8 w283 hB284 hs285 hw286 => ?_; have hsz_b8 := hs285; have hA287 := Apart.new (Lt.blk hB280) hs285; have hA288 := Apart.new (Lt.blk hB281) hs285; have hA289 := Apart.new (Lt.blk hB282) hs285; have hG290 := Ge.new hE277 hs285; have hG291 := Ge.new hE278 hs285; have hG292 := Ge.new hE279 hs285; have hG293 := Ge.new (Evo.refl (X ++ [b2]) w275) hs285; have hG294 := Ge.new (Evo.refl [] w275) hs285; have hE295 := hE277.then hw286; have hE296 := hE278.then hw286; have hE297 := hE279.then hw286; have hE298 := (Evo.refl (X ++ [b2]) w275).then hw286; have hE299 := (Evo.refl [] w275).then hw286; have hB300 := hw286.blk0 hB280; have hB301 := hw286.blk0 hB281; have hB302 := hw286.blk0 hB282; refine wl_storeBlk rfl rfl Tryz.size77 hB284 rfl rfl ⟨by first | rfl | assumption, by first | rfl | assumption, trivial⟩ fun w303 hB304 hw305 => ?_; have hE306 := hE295.step hw305 hG290.mem1; have hE307 := hE296.step hw305 hG291.mem1; have hE308 := hE297.step hw305 hG292.mem1; have hE309 := hE298.step hw305 hG293.mem1; have hE310 := hE299.step hw305 hG294.mem1
         have hB311 := hw305.blk hB300 hA287.nmem1; have hB312 := hw305.blk hB301 hA288.nmem1; have hB313 := hw305.blk hB302 hA289.nmem1
         try simp only [List.setIfInBounds_toArray, List.set_cons_zero, List.set_cons_succ, Nat.reduceAdd, Nat.zero_add, Nat.add_zero] at hB304
         refine wl_nil (nrm_then ?_); refine cw_seq ?_; refine cw_seq ?_; refine cw_region ?_; refine wl_val rfl (ex_loadBlk rfl Tryz.agg77 Tryz.size77 hB304 rfl) ?_; refine wl_call1 (vs := [_]) Tryz.goes89 rfl (rblank_ok (hkR.evo hE309)) rfl ?_; rintro _ w314 ⟨rfl, hw315⟩; have hE316 := hE306.then hw315; have hE317 := hE307.then hw315; have hE318 := hE308.then hw315; have hE319 := hE309.then hw315; have hE320 := hE310.then hw315; have hB321 := hw315.blk0 hB311; have hB322 := hw315.blk0 hB312; have hB323 := hw315.blk0 hB313; have hB324 := hw315.blk0 hB304; refine wl_m ?_; refine wl_splitb (t := 90) rfl (fun hs90 => ?_) (fun hs90 => ?_)
         ·skip
          refine wl_n ?_; refine wl_n ?_; refine wl_n ?_; refine wl_u ?_; refine wl_u ?_; refine wl_u ?_; refine wl_n ?_; refine wl_pt ?_; refine wl_nil (nrm_then ?_); refine cw_true rfl ?_; refine cw_seq ?_; refine cw_region ?_; refine wl_val rfl (ex_loadBlk rfl Tryz.agg77 Tryz.size77 hB323 rfl) ?_; refine wl_storeBlk rfl rfl Tryz.size77 hB322 rfl rfl ⟨by first | rfl | assumption, by first | rfl | assumption, trivial⟩ fun w325 hB326 hw327 => ?_; have hE328 := hE316.step hw327 hG12.mem1
          have hE329 := hE317.step hw327 (fun y hy => .inl (by rw [List.mem_singleton.1 hy]; simp))
          have hE331 := hE319.step hw327 (fun y hy => .inl (by rw [List.mem_singleton.1 hy]; simp))
          have hB333 := hw327.blk hB321 hA11.nmem1; have hB334 := hw327.blk hB323 hA31.symm.nmem1; have hB335 := hw327.blk hB324 hA288.symm.nmem1
          try simp only [List.setIfInBounds_toArray, List.set_cons_zero, List.set_cons_succ, Nat.reduceAdd, Nat.zero_add, Nat.add_zero] at hB326
          refine wl_nil (nrm_then ?_); refine cw_ret (ret_then (body_retC1 rfl (ResOk.cellA rfl Tryz.agg77 Tryz.size77 hB326 rfl) ?_)); exact ⟨_, (hBk.evo hE329).left, lis_rep_of hk6 hl1 (rp_blank hkI h6 (by omega) hs90 0) (Nat.zero_le _), hE328⟩
         ·skip
          refine wl_g ?_; refine wl_val rfl (ex_loadBlk rfl Tryz.agg77 Tryz.size77 hB324 rfl) ?_; refine wl_g ?_; refine wl_call1 (vs := [_]) Tryz.goes90 rfl (rnone_ok (hkR.evo hE319)) rfl ?_; rintro _ w336 ⟨rfl, hw337⟩; have hE338 := hE316.then hw337; have hE339 := hE317.then hw337; have hE340 := hE318.then hw337; have hE341 := hE319.then hw337; have hE342 := hE320.then hw337; have hB343 := hw337.blk0 hB321; have hB344 := hw337.blk0 hB322; have hB345 := hw337.blk0 hB323; have hB346 := hw337.blk0 hB324; refine wl_g ?_; refine wl_m ?_; refine wl_splitb (t := 93) rfl (fun hs93 => ?_) (fun hs93 => ?_)
          ·skip
           refine wl_g ?_; refine wl_val rfl (ex_fieldAddr rfl Tryz.fld25_3) ?_; refine wl_g ?_; refine wl_val rfl (ex_load1 rfl Tryz.agg3 (cell_nth hB343 rfl)) ?_; refine wl_g ?_; refine wl_val rfl (ex_eql rfl rfl) ?_; refine wl_g ?_; refine wl_pt ?_; refine wl_pf ?_; refine wl_nil (nrm_then ?_); refine cw_if rfl (fun hc98 => ?_) (fun hc98 => ?_)
           ·skip
            refine cw_seq ?_; refine cw_region ?_; refine wl_val rfl (ex_loadBlk rfl Tryz.agg77 Tryz.size77 hB345 rfl) ?_; refine wl_storeBlk rfl rfl Tryz.size77 hB344 rfl rfl ⟨by first | rfl | assumption, by first | rfl | assumption, trivial⟩ fun w347 hB348 hw349 => ?_; have hE350 := hE338.step hw349 hG12.mem1
            have hE351 := hE339.step hw349 (fun y hy => .inl (by rw [List.mem_singleton.1 hy]; simp))
            have hE353 := hE341.step hw349 (fun y hy => .inl (by rw [List.mem_singleton.1 hy]; simp))
            have hB355 := hw349.blk hB343 hA11.nmem1; have hB356 := hw349.blk hB345 hA31.symm.nmem1; have hB357 := hw349.blk hB346 hA288.symm.nmem1
            try simp only [List.setIfInBounds_toArray, List.set_cons_zero, List.set_cons_succ, Nat.reduceAdd, Nat.zero_add, Nat.add_zero] at hB348
            refine wl_nil (nrm_then ?_); refine cw_ret (ret_then (body_retC1 rfl (ResOk.cellA rfl Tryz.agg77 Tryz.size77 hB348 rfl) ?_)); exact ⟨_, (hBk.evo hE351).left, lis_rep_of hk6 hl1 ((rp_none hkI hs93 (by omega)).1 hc98 0) (Nat.zero_le _), hE350⟩
           ·skip
            refine cw_skip (nrm_then ?_); refine cw_seq ?_; refine cw_seq ?_; refine cw_region ?_; refine wl_val rfl (ex_loadBlk rfl Tryz.agg77 Tryz.size77 hB346 rfl) ?_; refine wl_call1 (vs := [_]) Tryz.goes90 rfl (rnone_ok (hkR.evo hE341)) rfl ?_; rintro _ w358 ⟨rfl, hw359⟩; have hE360 := hE338.then hw359; have hE361 := hE339.then hw359; have hE362 := hE340.then hw359; have hE363 := hE341.then hw359; have hE364 := hE342.then hw359; have hB365 := hw359.blk0 hB343; have hB366 := hw359.blk0 hB344; have hB367 := hw359.blk0 hB345; have hB368 := hw359.blk0 hB346; refine wl_nil (nrm_then ?_); refine cw_ifb rfl (fun hc101 => ?_) (fun hc101 => ?_)
            ·skip
             refine cw_seq ?_; refine cw_region ?_; refine wl_val rfl (ex_loadBlk rfl Tryz.agg77 Tryz.size77 hB368 rfl) ?_; refine wl_storeBlk rfl rfl Tryz.size77 hB366 rfl rfl ⟨by first | rfl | assumption, by first | rfl | assumption, trivial⟩ fun w369 hB370 hw371 => ?_; have hE372 := hE360.step hw371 hG12.mem1
             have hE373 := hE361.step hw371 (fun y hy => .inl (by rw [List.mem_singleton.1 hy]; simp))
             have hE375 := hE363.step hw371 (fun y hy => .inl (by rw [List.mem_singleton.1 hy]; simp))
             have hB377 := hw371.blk hB365 hA11.nmem1; have hB378 := hw371.blk hB367 hA31.symm.nmem1; have hB379 := hw371.blk hB368 hA288.symm.nmem1
             try simp only [List.setIfInBounds_toArray, List.set_cons_zero, List.set_cons_succ, Nat.reduceAdd, Nat.zero_add, Nat.add_zero] at hB370
             refine wl_nil (nrm_then ?_); refine cw_ret (ret_then (body_retC1 rfl (ResOk.cellA rfl Tryz.agg77 Tryz.size77 hB370 rfl) ?_)); exact ⟨_, (hkR.evo hE375).left, lis_rep_of hk6 hl1 ((rp_none hkI hc101 (by omega)).2 (by omega) _ (Nat.le_refl _)) (by omega), hE372⟩
            ·skip
             refine cw_skip (nrm_then ?_); refine cw_seq ?_; refine cw_seq ?_; refine cw_region ?_; refine wl_val rfl (ex_fieldAddr rfl Tryz.fld77_1) ?_; refine wl_val rfl (ex_load1 rfl Tryz.agg4 (cell_nth hB368 rfl)) ?_; refine wl_m ?_; refine wl_splitb (t := 105) rfl (fun hs105 => ?_) (fun hs105 => ?_)
             ·skip
              refine wl_n ?_; refine wl_n ?_; refine wl_n ?_; refine wl_pt ?_; refine wl_nil (nrm_then ?_); refine cw_true rfl ?_; refine cw_seq ?_; refine cw_region ?_; refine wl_val rfl (ex_build (vs := [(1, _)]) Tryz.build77 rfl (cells := [_, _]) rfl) ?_; refine wl_storeBlk rfl rfl Tryz.size77 hB366 rfl rfl ⟨by first | rfl | assumption, by first | rfl | assumption, trivial⟩ fun w380 hB381 hw382 => ?_; have hE383 := hE360.step hw382 hG12.mem1
              have hE384 := hE361.step hw382 (fun y hy => .inl (by rw [List.mem_singleton.1 hy]; simp))
              have hE386 := hE363.step hw382 (fun y hy => .inl (by rw [List.mem_singleton.1 hy]; simp))
              have hB388 := hw382.blk hB365 hA11.nmem1; have hB389 := hw382.blk hB367 hA31.symm.nmem1; have hB390 := hw382.blk hB368 hA288.symm.nmem1
              try simp only [List.setIfInBounds_toArray, List.set_cons_zero, List.set_cons_succ, Nat.reduceAdd, Nat.zero_add, Nat.add_zero] at hB381
              refine wl_nil (nrm_then ?_); refine cw_ret (ret_then (body_retC1 rfl (ResOk.cellA rfl Tryz.agg77 Tryz.size77 hB381 rfl) ?_))
              exact ⟨([], true), rlv_none _ _ true, lis_rep_of hk6 hl1 (rp_many hkI h6 (by omega) hx0' (by rw [hs90]; decide) (by rw [hc101]; decide) (.inl hs105) 0) (Nat.zero_le _), hE383⟩
             ·skip
              refine wl_g ?_; refine wl_val rfl (ex_fieldAddr rfl Tryz.fld25_4) ?_; refine wl_g ?_; refine wl_val rfl (ex_load1 rfl Tryz.agg3 (cell_nth hB365 rfl)) ?_; refine wl_g ?_; refine wl_val rfl (ex_eql rfl rfl) ?_; refine wl_pf ?_; refine wl_nil (nrm_then ?_); refine cw_if rfl (fun hc109 => ?_) (fun hc109 => ?_)
              ·skip
               refine cw_seq ?_; refine cw_region ?_; refine wl_val rfl (ex_build (vs := [(1, _)]) Tryz.build77 rfl (cells := [_, _]) rfl) ?_; refine wl_storeBlk rfl rfl Tryz.size77 hB366 rfl rfl ⟨by first | rfl | assumption, by first | rfl | assumption, trivial⟩ fun w391 hB392 hw393 => ?_; have hE394 := hE360.step hw393 hG12.mem1
               have hE395 := hE361.step hw393 (fun y hy => .inl (by rw [List.mem_singleton.1 hy]; simp))
               have hE397 := hE363.step hw393 (fun y hy => .inl (by rw [List.mem_singleton.1 hy]; simp))
               have hB399 := hw393.blk hB365 hA11.nmem1; have hB400 := hw393.blk hB367 hA31.symm.nmem1; have hB401 := hw393.blk hB368 hA288.symm.nmem1
               try simp only [List.setIfInBounds_toArray, List.set_cons_zero, List.set_cons_succ, Nat.reduceAdd, Nat.zero_add, Nat.add_zero] at hB392
               refine wl_nil (nrm_then ?_); refine cw_ret (ret_then (body_retC1 rfl (ResOk.cellA rfl Tryz.agg77 Tryz.size77 hB392 rfl) ?_))
               exact ⟨([], true), rlv_none _ _ true, lis_rep_of hk6 hl1 (rp_many hkI h6 (by omega) hx0' (by rw [hs90]; decide) (by rw [hc101]; decide) (.inr hc109) 0) (Nat.zero_le _), hE394⟩
              ·skip
               obtain rfl : kb = false := hs105
               have hmx : t.min ≤ t.max := by omega
               refine cw_skip (nrm_then ?_); refine cw_seq ?_; refine cw_region ?_; refine wl_val rfl (ex_loadBlk rfl Tryz.agg77 Tryz.size77 hB367 rfl) ?_; refine wl_alloc rfl Tryz.zero77 fun b9 w402 hB403 hs404 hw405 => ?_; have hsz_b9 := hs404; have hA406 := Apart.new (Lt.blk hB365) hs404; have hA407 := Apart.new (Lt.blk hB366) hs404; have hA408 := Apart.new (Lt.blk hB367) hs404; have hA409 := Apart.new (Lt.blk hB368) hs404; have hG410 := Ge.new hE360 hs404; have hG411 := Ge.new hE361 hs404; have hG412 := Ge.new hE362 hs404; have hG413 := Ge.new hE363 hs404; have hG414 := Ge.new hE364 hs404; have hE415 := hE360.then hw405; have hE416 := hE361.then hw405; have hE417 := hE362.then hw405; have hE418 := hE363.then hw405; have hE419 := hE364.then hw405; have hB420 := hw405.blk0 hB365; have hB421 := hw405.blk0 hB366; have hB422 := hw405.blk0 hB367; have hB423 := hw405.blk0 hB368; refine wl_storeBlk rfl rfl Tryz.size77 hB403 rfl rfl ⟨by first | rfl | assumption, by first | rfl | assumption, trivial⟩ fun w424 hB425 hw426 => ?_; have hE427 := hE415.step hw426 hG410.mem1; have hE428 := hE416.step hw426 hG411.mem1; have hE429 := hE417.step hw426 hG412.mem1; have hE430 := hE418.step hw426 hG413.mem1; have hE431 := hE419.step hw426 hG414.mem1; have hB432 := hw426.blk hB420 hA406.nmem1; have hB433 := hw426.blk hB421 hA407.nmem1; have hB434 := hw426.blk hB422 hA408.nmem1; have hB435 := hw426.blk hB423 hA409.nmem1
               try simp only [List.setIfInBounds_toArray, List.set_cons_zero, List.set_cons_succ, Nat.reduceAdd, Nat.zero_add, Nat.add_zero] at hB425
               refine wl_nil (nrm_then ?_); refine cw_seq ?_; refine cw_seq ?_; refine cw_region ?_
               have hK9 : RLv (X ++ [b2, b9]) w424 _ _ := (hkR.fresh (fun y hy => by rcases List.mem_append.1 hy with h | h; exact .inl (List.mem_append_left _ h); simp at h; rcases h with rfl | rfl; exact .inl (by simp); exact .inr (hG414 _ rfl))).evo ((hE431).any _)
               have hB9 : RLv (X ++ [b2, b9]) w424 _ _ := (hBk.fresh (fun y hy => by rcases List.mem_append.1 hy with h | h; exact .inl (List.mem_append_left _ h); simp at h; rcases h with rfl | rfl; exact .inl (by simp); exact .inr (hG412 _ rfl))).evo ((hE429).any _)
               refine wl_a ?_; refine wl_nil (nrm_then ?_); refine cw_block ?_; refine cw_loop (α := RvG) (⟨0, _, 1, 1, lone nob⟩) (fun x => [(10, .int .i64 (x.j : Nat))]) [(1, _), (2, _), (8, _), (9, _)] (fun x wr => Evo [] w wr ∧ (RvI X wr b1 b2 b8 b9 #[iv t.kind, .int .i32 t.r, .slice ra t.ranges.length rc, iv t.min, iv t.max, .bool t.lazy, iv t.cap, .string t.name, .slice ka t.kids.length kc] (.slice xa xn xc) kt t.min.toNat (4 * t.kids[0].esz) (Tg t.kids[0]) x)) (fun x => t.min.toNat - x.j) ⟨rfl, trivial⟩ ⟨rfl, rfl, rfl, rfl, trivial⟩ ⟨hE427, ⟨Nat.zero_le _, hB432, hB433, hB435, hB425, hK9, hB9, LIs.one nob (Nat.zero_le _)⟩⟩ ?_; rintro ⟨j, pa, pn, pc, p⟩ wr436 ⟨hV437, ⟨hjn, hb1, hb2, hb8, hb9, hrk, hrp, his⟩⟩; show CW _ _ _ _ [(10, .int .i64 (j : Nat)), (1, _), (2, _), (8, _), (9, _)] _
               try dsimp only at hjn
               try dsimp only at hb1
               try dsimp only at hb2
               try dsimp only at hb8
               try dsimp only at hb9
               try dsimp only at hrk
               try dsimp only at hrp
               try dsimp only at his
               have hE438 := Evo.refl (X ++ [b2, b9]) wr436; refine cw_seq ?_; refine cw_seq ?_; refine cw_region ?_; refine wl_m ?_; refine wl_val rfl (ex_fieldAddr rfl Tryz.fld25_3) ?_; refine wl_val rfl (ex_load1 rfl Tryz.agg3 (cell_nth hb1 rfl)) ?_; refine wl_val rfl (ex_lss rfl rfl) ?_; refine wl_nil (nrm_then ?_); refine cw_if rfl (fun hc115 => ?_) (fun hc115 => ?_)
               ·skip
                have hjm : j < t.min.toNat := by omega
                have hjB := zB_le (z := j) (mx := t.min) (B := 4 * t.kids[0].esz) (by omega) hrs.1; rw [show ((j : Nat) : Int).toNat = j from rfl] at hjB; refine cw_skip (nrm_then ?_); refine cw_seq ?_; refine cw_block ?_; refine cw_region ?_; refine wl_val rfl (ex_loadBlk rfl Tryz.agg77 Tryz.size77 hb9 rfl) ?_; refine wl_val rfl (ex_loadBlk rfl Tryz.agg77 Tryz.size77 hb8 rfl) ?_; refine wl_call1 (vs := [_, _]) Tryz.goes87 rfl (rthen_ok (X := X ++ [b2, b9]) (mem_x2 hX hV437 (blk_lt hb2) (blk_lt hb9)) (hrp.evo hE438) (hrk.evo hE438) his hkI (by omega) (by omega)) rfl ?_; rintro rv w439 ⟨lr, hR, hIr, hw440⟩; have hE441 := hV437.then hw440; have hE442 := hE438.then hw440; have hB443 := hw440.blk0 hb1; have hB444 := hw440.blk0 hb2; have hB445 := hw440.blk0 hb8; have hB446 := hw440.blk0 hb9; obtain ⟨ra, rn, rc, rfl, hrr⟩ := hR.get; refine wl_storeBlk rfl rfl Tryz.size77 hB446 rfl rfl ⟨by first | rfl | assumption, by first | rfl | assumption, trivial⟩ fun w447 hB448 hw449 => ?_; have hE450 := hE441.step hw449 hG410.mem1
                have hE451 := hE442.step hw449 (fun y hy => .inl (by rw [List.mem_singleton.1 hy]; simp))
                have hE452 := (Evo.refl (X ++ [b2, b9]) w439).step hw449 (fun y hy => .inl (by rw [List.mem_singleton.1 hy]; simp))
                have hB453 := hw449.blk hB443 hA406.nmem1; have hB454 := hw449.blk hB444 hA407.nmem1; have hB455 := hw449.blk hB445 hA409.nmem1
                try simp only [List.setIfInBounds_toArray, List.set_cons_zero, List.set_cons_succ, Nat.reduceAdd, Nat.zero_add, Nat.add_zero] at hB448
                refine wl_nil (nrm_block (nrm_then ?_)); refine cw_region ?_; refine wl_m ?_; refine wl_val rfl (ex_add_i64 rfl rfl (by omega) (by omega)) ?_; refine wl_a ?_; refine wl_nil (nrm_same ?_); refine ⟨⟨j + 1, ra, rn, rc, lr⟩, ?_, ⟨rfl, trivial⟩, ⟨rfl, rfl, rfl, rfl, trivial⟩, hE450, ?_⟩
                · (try dsimp only); omega
                ·skip
                 try dsimp only
                 refine ⟨by show j + 1 ≤ _; omega, hB453, hB454, hB455, hB448, hrk.evo hE451, hR.evo hE452, ?_⟩
                 show LIs _ ((j + 1) * _) _
                 rw [Nat.succ_mul]; exact hIr
               ·skip
                obtain rfl : j = t.min.toNat := by omega
                have hisM := his; refine cw_exit (ex_then (ex_then (ex_here (nrm_then ?_)))); refine cw_seq ?_; refine cw_region ?_; have hk39 := hrk.evo hE438; have hp39 := hrp.evo hE438; refine wl_val rfl (ex_loadBlk rfl Tryz.agg77 Tryz.size77 hb9 rfl) ?_; refine wl_alloc rfl Tryz.zero77 fun b11 w456 hB457 hs458 hw459 => ?_; have hsz_b11 := hs458; have hA460 := Apart.new (Lt.blk hb1) hs458; have hA461 := Apart.new (Lt.blk hb2) hs458; have hA462 := Apart.new (Lt.blk hb8) hs458; have hA463 := Apart.new (Lt.blk hb9) hs458; have hG464 := Ge.new hV437 hs458; have hG465 := Ge.new hE438 hs458; have hG466 := Ge.new (Evo.refl [] wr436) hs458; have hE467 := hV437.then hw459; have hE468 := hE438.then hw459; have hE469 := (Evo.refl [] wr436).then hw459; have hB470 := hw459.blk0 hb1; have hB471 := hw459.blk0 hb2; have hB472 := hw459.blk0 hb8; have hB473 := hw459.blk0 hb9; refine wl_storeBlk rfl rfl Tryz.size77 hB457 rfl rfl ⟨by first | rfl | assumption, by first | rfl | assumption, trivial⟩ fun w474 hB475 hw476 => ?_; have hE477 := hE467.step hw476 hG464.mem1; have hE478 := hE468.step hw476 hG465.mem1; have hE479 := hE469.step hw476 hG466.mem1; have hB480 := hw476.blk hB470 hA460.nmem1; have hB481 := hw476.blk hB471 hA461.nmem1; have hB482 := hw476.blk hB472 hA462.nmem1; have hB483 := hw476.blk hB473 hA463.nmem1
                try simp only [List.setIfInBounds_toArray, List.set_cons_zero, List.set_cons_succ, Nat.reduceAdd, Nat.zero_add, Nat.add_zero] at hB475
                refine wl_nil (nrm_then ?_); refine cw_seq ?_; refine cw_seq ?_; refine cw_region ?_
                have hF11 : ∀ y, y ∈ X ++ [b2, b9, b11] → y ∈ X ++ [b2, b9] ∨ (wr436).heap.size ≤ y := fun y hy => by rcases List.mem_append.1 hy with h | h; exact .inl (List.mem_append_left _ h); simp at h; rcases h with rfl | rfl | rfl; exact .inl (by simp); exact .inl (by simp); exact .inr (hG466 _ rfl)
                have hK11 : RLv (X ++ [b2, b9, b11]) w474 _ _ := (hk39.fresh hF11).evo ((hE479).any _); have hP11 : RLv (X ++ [b2, b9, b11]) w474 _ _ := (hp39.fresh hF11).evo ((hE479).any _); refine wl_val rfl (ex_fieldAddr rfl Tryz.fld25_3) ?_; refine wl_val rfl (ex_load1 rfl Tryz.agg3 (cell_nth hB480 rfl)) ?_; refine wl_a ?_; refine wl_nil (nrm_then ?_); refine cw_block ?_; refine cw_loop (α := RuG) (⟨t.min, pa, pn, pc, p, pa, pn, pc, p⟩) (fun x => [(12, .int .i64 x.z)]) [(1, _), (2, _), (8, _), (9, _), (11, _)] (fun x wr => Evo [] w wr ∧ (RuI X wr b1 b2 b8 b9 b11 #[iv t.kind, .int .i32 t.r, .slice ra t.ranges.length rc, iv t.min, iv t.max, .bool t.lazy, iv t.cap, .string t.name, .slice ka t.kids.length kc] (.slice xa xn xc) kt t.min t.max (4 * t.kids[0].esz) (Tg t.kids[0]) x)) (fun x => (t.max - x.z).toNat) ⟨rfl, trivial⟩ ⟨rfl, rfl, rfl, rfl, rfl, trivial⟩ ⟨hE477, ⟨Int.le_refl _, hmx, hB480, hB481, hB482, hB483, hB475, hK11, hP11, hP11, hisM, ru_zero hisM⟩⟩ ?_; rintro ⟨z, pa, pn, pc, p, qa, qn, qc, q⟩ wr484 ⟨hV485, ⟨hlo, hhi, hb1, hb2, hb8, hb9, hb11, hrk, hrp, hrq, his, hiq⟩⟩; show CW _ _ _ _ [(12, .int .i64 z), (1, _), (2, _), (8, _), (9, _), (11, _)] _
                try dsimp only at hlo
                try dsimp only at hhi
                try dsimp only at hb1
                try dsimp only at hb2
                try dsimp only at hb8
                try dsimp only at hb9
                try dsimp only at hb11
                try dsimp only at hrk
                try dsimp only at hrp
                try dsimp only at hrq
                try dsimp only at his
                try dsimp only at hiq
                have hE486 := Evo.refl (X ++ [b2, b9, b11]) wr484; refine cw_seq ?_; refine cw_seq ?_; refine cw_region ?_; refine wl_m ?_; refine wl_val rfl (ex_fieldAddr rfl Tryz.fld25_4) ?_; refine wl_val rfl (ex_load1 rfl Tryz.agg3 (cell_nth hb1 rfl)) ?_; refine wl_val rfl (ex_lss rfl rfl) ?_; refine wl_m ?_; refine wl_split (t := 128) rfl (fun hs128 => ?_) (fun hs128 => ?_)
                ·skip
                 have hzB := zB_le hhi hrs.2; refine wl_g ?_; refine wl_val rfl (ex_fieldAddr rfl Tryz.fld77_1) ?_; refine wl_g ?_; refine wl_val rfl (ex_load1 rfl Tryz.agg4 (cell_nth hb11 rfl)) ?_; refine wl_g ?_; refine wl_val rfl (ex_notb rfl) ?_; refine wl_pt ?_; refine wl_nil (nrm_then ?_); refine cw_ifb rfl (fun hc132 => ?_) (fun hc132 => ?_)
                 ·skip
                  refine cw_skip (nrm_then ?_); refine cw_seq ?_; refine cw_block ?_; refine cw_seq ?_; refine cw_region ?_; refine wl_val rfl (ex_loadBlk rfl Tryz.agg77 Tryz.size77 hb9 rfl) ?_; refine wl_val rfl (ex_loadBlk rfl Tryz.agg77 Tryz.size77 hb8 rfl) ?_; refine wl_call1 (vs := [_, _]) Tryz.goes87 rfl (rthen_ok (X := X ++ [b2, b9, b11]) (mem_x3 hX hV485 (blk_lt hb2) (blk_lt hb9) (blk_lt hb11)) (hrp.evo hE486) (hrk.evo hE486) his hkI (by omega) (by omega)) rfl ?_; rintro rv w487 ⟨ly, hRy, hIy, hw488⟩; have hE489 := hV485.then hw488; have hE490 := hE486.then hw488; have hB491 := hw488.blk0 hb1; have hB492 := hw488.blk0 hb2; have hB493 := hw488.blk0 hb8; have hB494 := hw488.blk0 hb9; have hB495 := hw488.blk0 hb11; obtain ⟨ya, yn, yc, rfl, hyr⟩ := hRy.get; refine wl_storeBlk rfl rfl Tryz.size77 hB494 rfl rfl ⟨by first | rfl | assumption, by first | rfl | assumption, trivial⟩ fun w496 hB497 hw498 => ?_; have hE499 := hE489.step hw498 hG410.mem1
                  have hE500 := hE490.step hw498 (fun y hy => .inl (by rw [List.mem_singleton.1 hy]; simp))
                  have hE501 := (Evo.refl (X ++ [b2, b9, b11]) w487).step hw498 (fun y hy => .inl (by rw [List.mem_singleton.1 hy]; simp))
                  have hB502 := hw498.blk hB491 hA406.nmem1; have hB503 := hw498.blk hB492 hA407.nmem1; have hB504 := hw498.blk hB493 hA409.nmem1; have hB505 := hw498.blk hB495 hA463.symm.nmem1
                  try simp only [List.setIfInBounds_toArray, List.set_cons_zero, List.set_cons_succ, Nat.reduceAdd, Nat.zero_add, Nat.add_zero] at hB497
                  refine wl_nil (nrm_then ?_); refine cw_region ?_; refine wl_val rfl (ex_loadBlk rfl Tryz.agg77 Tryz.size77 hB505 rfl) ?_; refine wl_val rfl (ex_loadBlk rfl Tryz.agg77 Tryz.size77 hB497 rfl) ?_; refine wl_call1 (vs := [_, _]) Tryz.goes88 rfl (rand_ok (X := X ++ [b2, b9, b11]) (mem_x3 hX hE499 (blk_lt hB503) (blk_lt hB497) (blk_lt hB505)) (hrq.evo hE500) (hRy.evo hE501) hiq hIy) rfl ?_; rintro rv w506 ⟨ls, hRs, hIs, hw507⟩; have hE508 := hE499.then hw507; have hE509 := hE500.then hw507; have hE510 := hE501.then hw507; have hB511 := hw507.blk0 hB502; have hB512 := hw507.blk0 hB503; have hB513 := hw507.blk0 hB504; have hB514 := hw507.blk0 hB497; have hB515 := hw507.blk0 hB505; obtain ⟨sa, sn, sc, rfl, hsr⟩ := hRs.get; refine wl_storeBlk rfl rfl Tryz.size77 hB515 rfl rfl ⟨by first | rfl | assumption, by first | rfl | assumption, trivial⟩ fun w516 hB517 hw518 => ?_; have hE519 := hE508.step hw518 hG464.mem1
                  have hE520 := hE509.step hw518 (fun y hy => .inl (by rw [List.mem_singleton.1 hy]; simp))
                  have hE521 := hE510.step hw518 (fun y hy => .inl (by rw [List.mem_singleton.1 hy]; simp))
                  have hE522 := (Evo.refl (X ++ [b2, b9, b11]) w506).step hw518 (fun y hy => .inl (by rw [List.mem_singleton.1 hy]; simp))
                  have hB523 := hw518.blk hB511 hA460.nmem1; have hB524 := hw518.blk hB512 hA461.nmem1; have hB525 := hw518.blk hB513 hA462.nmem1; have hB526 := hw518.blk hB514 hA463.nmem1
                  try simp only [List.setIfInBounds_toArray, List.set_cons_zero, List.set_cons_succ, Nat.reduceAdd, Nat.zero_add, Nat.add_zero] at hB517
                  refine wl_nil (nrm_block (nrm_then ?_)); refine cw_region ?_; refine wl_m ?_; refine wl_val rfl (ex_add_i64 rfl rfl (by omega) (by omega)) ?_; refine wl_a ?_; refine wl_nil (nrm_same ?_); refine ⟨⟨z + 1, ya, yn, yc, ly, sa, sn, sc, ls⟩, ?_, ⟨rfl, trivial⟩, ⟨rfl, rfl, rfl, rfl, rfl, trivial⟩, hE519, ?_⟩
                  · (try dsimp only); show (t.max - _).toNat < (t.max - z).toNat; omega
                  ·skip
                   try dsimp only
                   exact ⟨by show _ ≤ z + 1; omega, by show z + 1 ≤ _; omega, hB523, hB524, hB525, hB526, hB517, hrk.evo hE520, hRy.evo hE521, hRs.evo hE522, pw_more (by omega) hIy, ru_more (p := p) (q := q) (by omega) (by omega) hIs⟩
                 ·skip
                  refine cw_exit (ex_then (ex_then (ex_here (nrm_then ?_)))); refine cw_seq ?_; refine cw_region ?_; refine wl_val rfl (ex_loadBlk rfl Tryz.agg77 Tryz.size77 hb11 rfl) ?_; refine wl_storeBlk rfl rfl Tryz.size77 hb2 rfl rfl ⟨by first | rfl | assumption, by first | rfl | assumption, trivial⟩ fun w527 hB528 hw529 => ?_; have hE530 := hV485.step hw529 hG12.mem1
                  have hE531 := hE486.step hw529 (fun y hy => .inl (by rw [List.mem_singleton.1 hy]; simp))
                  have hB532 := hw529.blk hb1 hA11.nmem1; have hB533 := hw529.blk hb8 hA288.symm.nmem1; have hB534 := hw529.blk hb9 hA407.symm.nmem1; have hB535 := hw529.blk hb11 hA461.symm.nmem1
                  try simp only [List.setIfInBounds_toArray, List.set_cons_zero, List.set_cons_succ, Nat.reduceAdd, Nat.zero_add, Nat.add_zero] at hB528
                  refine wl_nil (nrm_then ?_); refine cw_ret (body_retC1 rfl (ResOk.cellA rfl Tryz.agg77 Tryz.size77 hB528 rfl) ?_)
                  have hq2 : q.2 = true := by simpa using hc132
                  exact ⟨q, (hrq.evo hE531).left, lis_rep_of hk6 hl1 (lis_up hiq hq2 (ru_up (by omega))) (zB_le hhi hrs.2), hE530⟩
                ·skip
                 refine wl_n ?_; refine wl_n ?_; refine wl_n ?_; refine wl_pf ?_; refine wl_nil (nrm_then ?_); refine cw_false rfl ?_; refine cw_exit (ex_then (ex_then (ex_here (nrm_then ?_)))); refine cw_seq ?_; refine cw_region ?_; refine wl_val rfl (ex_loadBlk rfl Tryz.agg77 Tryz.size77 hb11 rfl) ?_; refine wl_storeBlk rfl rfl Tryz.size77 hb2 rfl rfl ⟨by first | rfl | assumption, by first | rfl | assumption, trivial⟩ fun w536 hB537 hw538 => ?_; have hE539 := hV485.step hw538 hG12.mem1
                 have hE540 := hE486.step hw538 (fun y hy => .inl (by rw [List.mem_singleton.1 hy]; simp))
                 have hB541 := hw538.blk hb1 hA11.nmem1; have hB542 := hw538.blk hb8 hA288.symm.nmem1; have hB543 := hw538.blk hb9 hA407.symm.nmem1; have hB544 := hw538.blk hb11 hA461.symm.nmem1
                 try simp only [List.setIfInBounds_toArray, List.set_cons_zero, List.set_cons_succ, Nat.reduceAdd, Nat.zero_add, Nat.add_zero] at hB537
                 refine wl_nil (nrm_then ?_); refine cw_ret (body_retC1 rfl (ResOk.cellA rfl Tryz.agg77 Tryz.size77 hB537 rfl) ?_); exact ⟨q, (hrq.evo hE540).left, lis_rep_of hk6 hl1 (hiq.congr (ru_end h6 hmx (by omega))) (zB_le hhi hrs.2), hE539⟩
          ·skip
           refine wl_n ?_; refine wl_n ?_; refine wl_n ?_; refine wl_g ?_; refine wl_pf ?_; refine wl_pf ?_; refine wl_nil (nrm_then ?_); refine cw_false rfl ?_; refine cw_skip (nrm_then ?_); refine cw_seq ?_; refine cw_seq ?_; refine cw_region ?_; refine wl_val rfl (ex_loadBlk rfl Tryz.agg77 Tryz.size77 hB346 rfl) ?_; refine wl_call1 (vs := [_]) Tryz.goes90 rfl (rnone_ok (hkR.evo hE341)) rfl ?_; rintro _ w545 ⟨rfl, hw546⟩; have hE547 := hE338.then hw546; have hE548 := hE339.then hw546; have hE549 := hE340.then hw546; have hE550 := hE341.then hw546; have hE551 := hE342.then hw546; have hB552 := hw546.blk0 hB343; have hB553 := hw546.blk0 hB344; have hB554 := hw546.blk0 hB345; have hB555 := hw546.blk0 hB346; refine wl_nil (nrm_then ?_); refine cw_ifb rfl (fun hc101 => ?_) (fun hc101 => ?_)
           ·skip
            rw [hs93] at hc101; cases hc101
           ·skip
            refine cw_skip (nrm_then ?_); refine cw_seq ?_; refine cw_seq ?_; refine cw_region ?_; refine wl_val rfl (ex_fieldAddr rfl Tryz.fld77_1) ?_; refine wl_val rfl (ex_load1 rfl Tryz.agg4 (cell_nth hB555 rfl)) ?_; refine wl_m ?_; refine wl_splitb (t := 105) rfl (fun hs105 => ?_) (fun hs105 => ?_)
            ·skip
             refine wl_n ?_; refine wl_n ?_; refine wl_n ?_; refine wl_pt ?_; refine wl_nil (nrm_then ?_); refine cw_true rfl ?_; refine cw_seq ?_; refine cw_region ?_; refine wl_val rfl (ex_build (vs := [(1, _)]) Tryz.build77 rfl (cells := [_, _]) rfl) ?_; refine wl_storeBlk rfl rfl Tryz.size77 hB553 rfl rfl ⟨by first | rfl | assumption, by first | rfl | assumption, trivial⟩ fun w556 hB557 hw558 => ?_; have hE559 := hE547.step hw558 hG12.mem1
             have hE560 := hE548.step hw558 (fun y hy => .inl (by rw [List.mem_singleton.1 hy]; simp))
             have hE562 := hE550.step hw558 (fun y hy => .inl (by rw [List.mem_singleton.1 hy]; simp))
             have hB564 := hw558.blk hB552 hA11.nmem1; have hB565 := hw558.blk hB554 hA31.symm.nmem1; have hB566 := hw558.blk hB555 hA288.symm.nmem1
             try simp only [List.setIfInBounds_toArray, List.set_cons_zero, List.set_cons_succ, Nat.reduceAdd, Nat.zero_add, Nat.add_zero] at hB557
             refine wl_nil (nrm_then ?_); refine cw_ret (ret_then (body_retC1 rfl (ResOk.cellA rfl Tryz.agg77 Tryz.size77 hB557 rfl) ?_))
             exact ⟨([], true), rlv_none _ _ true, lis_rep_of hk6 hl1 (rp_many hkI h6 (by omega) hx0' (by rw [hs90]; decide) (by rw [hc101]; decide) (.inl hs105) 0) (Nat.zero_le _), hE559⟩
            ·skip
             refine wl_g ?_; refine wl_val rfl (ex_fieldAddr rfl Tryz.fld25_4) ?_; refine wl_g ?_; refine wl_val rfl (ex_load1 rfl Tryz.agg3 (cell_nth hB552 rfl)) ?_; refine wl_g ?_; refine wl_val rfl (ex_eql rfl rfl) ?_; refine wl_pf ?_; refine wl_nil (nrm_then ?_); refine cw_if rfl (fun hc109 => ?_) (fun hc109 => ?_)
             ·skip
              refine cw_seq ?_; refine cw_region ?_; refine wl_val rfl (ex_build (vs := [(1, _)]) Tryz.build77 rfl (cells := [_, _]) rfl) ?_; refine wl_storeBlk rfl rfl Tryz.size77 hB553 rfl rfl ⟨by first | rfl | assumption, by first | rfl | assumption, trivial⟩ fun w567 hB568 hw569 => ?_; have hE570 := hE547.step hw569 hG12.mem1
              have hE571 := hE548.step hw569 (fun y hy => .inl (by rw [List.mem_singleton.1 hy]; simp))
              have hE573 := hE550.step hw569 (fun y hy => .inl (by rw [List.mem_singleton.1 hy]; simp))
              have hB575 := hw569.blk hB552 hA11.nmem1; have hB576 := hw569.blk hB554 hA31.symm.nmem1; have hB577 := hw569.blk hB555 hA288.symm.nmem1
              try simp only [List.setIfInBounds_toArray, List.set_cons_zero, List.set_cons_succ, Nat.reduceAdd, Nat.zero_add, Nat.add_zero] at hB568
              refine wl_nil (nrm_then ?_); refine cw_ret (ret_then (body_retC1 rfl (ResOk.cellA rfl Tryz.agg77 Tryz.size77 hB568 rfl) ?_))
              exact ⟨([], true), rlv_none _ _ true, lis_rep_of hk6 hl1 (rp_many hkI h6 (by omega) hx0' (by rw [hs90]; decide) (by rw [hc101]; decide) (.inr hc109) 0) (Nat.zero_le _), hE570⟩
             ·skip
              obtain rfl : kb = false := hs105
              have hmx : t.min ≤ t.max := by omega
              refine cw_skip (nrm_then ?_); refine cw_seq ?_; refine cw_region ?_; refine wl_val rfl (ex_loadBlk rfl Tryz.agg77 Tryz.size77 hB554 rfl) ?_; refine wl_alloc rfl Tryz.zero77 fun b9 w578 hB579 hs580 hw581 => ?_; have hsz_b9 := hs580; have hA582 := Apart.new (Lt.blk hB552) hs580; have hA583 := Apart.new (Lt.blk hB553) hs580; have hA584 := Apart.new (Lt.blk hB554) hs580; have hA585 := Apart.new (Lt.blk hB555) hs580; have hG586 := Ge.new hE547 hs580; have hG587 := Ge.new hE548 hs580; have hG588 := Ge.new hE549 hs580; have hG589 := Ge.new hE550 hs580; have hG590 := Ge.new hE551 hs580; have hE591 := hE547.then hw581; have hE592 := hE548.then hw581; have hE593 := hE549.then hw581; have hE594 := hE550.then hw581; have hE595 := hE551.then hw581; have hB596 := hw581.blk0 hB552; have hB597 := hw581.blk0 hB553; have hB598 := hw581.blk0 hB554; have hB599 := hw581.blk0 hB555; refine wl_storeBlk rfl rfl Tryz.size77 hB579 rfl rfl ⟨by first | rfl | assumption, by first | rfl | assumption, trivial⟩ fun w600 hB601 hw602 => ?_; have hE603 := hE591.step hw602 hG586.mem1; have hE604 := hE592.step hw602 hG587.mem1; have hE605 := hE593.step hw602 hG588.mem1; have hE606 := hE594.step hw602 hG589.mem1; have hE607 := hE595.step hw602 hG590.mem1; have hB608 := hw602.blk hB596 hA582.nmem1; have hB609 := hw602.blk hB597 hA583.nmem1; have hB610 := hw602.blk hB598 hA584.nmem1; have hB611 := hw602.blk hB599 hA585.nmem1
              try simp only [List.setIfInBounds_toArray, List.set_cons_zero, List.set_cons_succ, Nat.reduceAdd, Nat.zero_add, Nat.add_zero] at hB601
              refine wl_nil (nrm_then ?_); refine cw_seq ?_; refine cw_seq ?_; refine cw_region ?_
              have hK9 : RLv (X ++ [b2, b9]) w600 _ _ := (hkR.fresh (fun y hy => by rcases List.mem_append.1 hy with h | h; exact .inl (List.mem_append_left _ h); simp at h; rcases h with rfl | rfl; exact .inl (by simp); exact .inr (hG590 _ rfl))).evo ((hE607).any _)
              have hB9 : RLv (X ++ [b2, b9]) w600 _ _ := (hBk.fresh (fun y hy => by rcases List.mem_append.1 hy with h | h; exact .inl (List.mem_append_left _ h); simp at h; rcases h with rfl | rfl; exact .inl (by simp); exact .inr (hG588 _ rfl))).evo ((hE605).any _)
              refine wl_a ?_; refine wl_nil (nrm_then ?_); refine cw_block ?_; refine cw_loop (α := RvG) (⟨0, _, 1, 1, lone nob⟩) (fun x => [(10, .int .i64 (x.j : Nat))]) [(1, _), (2, _), (8, _), (9, _)] (fun x wr => Evo [] w wr ∧ (RvI X wr b1 b2 b8 b9 #[iv t.kind, .int .i32 t.r, .slice ra t.ranges.length rc, iv t.min, iv t.max, .bool t.lazy, iv t.cap, .string t.name, .slice ka t.kids.length kc] (.slice xa xn xc) kt t.min.toNat (4 * t.kids[0].esz) (Tg t.kids[0]) x)) (fun x => t.min.toNat - x.j) ⟨rfl, trivial⟩ ⟨rfl, rfl, rfl, rfl, trivial⟩ ⟨hE603, ⟨Nat.zero_le _, hB608, hB609, hB611, hB601, hK9, hB9, LIs.one nob (Nat.zero_le _)⟩⟩ ?_; rintro ⟨j, pa, pn, pc, p⟩ wr612 ⟨hV613, ⟨hjn, hb1, hb2, hb8, hb9, hrk, hrp, his⟩⟩; show CW _ _ _ _ [(10, .int .i64 (j : Nat)), (1, _), (2, _), (8, _), (9, _)] _
              try dsimp only at hjn
              try dsimp only at hb1
              try dsimp only at hb2
              try dsimp only at hb8
              try dsimp only at hb9
              try dsimp only at hrk
              try dsimp only at hrp
              try dsimp only at his
              have hE614 := Evo.refl (X ++ [b2, b9]) wr612; refine cw_seq ?_; refine cw_seq ?_; refine cw_region ?_; refine wl_m ?_; refine wl_val rfl (ex_fieldAddr rfl Tryz.fld25_3) ?_; refine wl_val rfl (ex_load1 rfl Tryz.agg3 (cell_nth hb1 rfl)) ?_; refine wl_val rfl (ex_lss rfl rfl) ?_; refine wl_nil (nrm_then ?_); refine cw_if rfl (fun hc115 => ?_) (fun hc115 => ?_)
              ·skip
               have hjm : j < t.min.toNat := by omega
               have hjB := zB_le (z := j) (mx := t.min) (B := 4 * t.kids[0].esz) (by omega) hrs.1; rw [show ((j : Nat) : Int).toNat = j from rfl] at hjB; refine cw_skip (nrm_then ?_); refine cw_seq ?_; refine cw_block ?_; refine cw_region ?_; refine wl_val rfl (ex_loadBlk rfl Tryz.agg77 Tryz.size77 hb9 rfl) ?_; refine wl_val rfl (ex_loadBlk rfl Tryz.agg77 Tryz.size77 hb8 rfl) ?_; refine wl_call1 (vs := [_, _]) Tryz.goes87 rfl (rthen_ok (X := X ++ [b2, b9]) (mem_x2 hX hV613 (blk_lt hb2) (blk_lt hb9)) (hrp.evo hE614) (hrk.evo hE614) his hkI (by omega) (by omega)) rfl ?_; rintro rv w615 ⟨lr, hR, hIr, hw616⟩; have hE617 := hV613.then hw616; have hE618 := hE614.then hw616; have hB619 := hw616.blk0 hb1; have hB620 := hw616.blk0 hb2; have hB621 := hw616.blk0 hb8; have hB622 := hw616.blk0 hb9; obtain ⟨ra, rn, rc, rfl, hrr⟩ := hR.get; refine wl_storeBlk rfl rfl Tryz.size77 hB622 rfl rfl ⟨by first | rfl | assumption, by first | rfl | assumption, trivial⟩ fun w623 hB624 hw625 => ?_; have hE626 := hE617.step hw625 hG586.mem1
               have hE627 := hE618.step hw625 (fun y hy => .inl (by rw [List.mem_singleton.1 hy]; simp))
               have hE628 := (Evo.refl (X ++ [b2, b9]) w615).step hw625 (fun y hy => .inl (by rw [List.mem_singleton.1 hy]; simp))
               have hB629 := hw625.blk hB619 hA582.nmem1; have hB630 := hw625.blk hB620 hA583.nmem1; have hB631 := hw625.blk hB621 hA585.nmem1
               try simp only [List.setIfInBounds_toArray, List.set_cons_zero, List.set_cons_succ, Nat.reduceAdd, Nat.zero_add, Nat.add_zero] at hB624
               refine wl_nil (nrm_block (nrm_then ?_)); refine cw_region ?_; refine wl_m ?_; refine wl_val rfl (ex_add_i64 rfl rfl (by omega) (by omega)) ?_; refine wl_a ?_; refine wl_nil (nrm_same ?_); refine ⟨⟨j + 1, ra, rn, rc, lr⟩, ?_, ⟨rfl, trivial⟩, ⟨rfl, rfl, rfl, rfl, trivial⟩, hE626, ?_⟩
               · (try dsimp only); omega
               ·skip
                try dsimp only
                refine ⟨by show j + 1 ≤ _; omega, hB629, hB630, hB631, hB624, hrk.evo hE627, hR.evo hE628, ?_⟩
                show LIs _ ((j + 1) * _) _
                rw [Nat.succ_mul]; exact hIr
              ·skip
               obtain rfl : j = t.min.toNat := by omega
               have hisM := his; refine cw_exit (ex_then (ex_then (ex_here (nrm_then ?_)))); refine cw_seq ?_; refine cw_region ?_; have hk39 := hrk.evo hE614; have hp39 := hrp.evo hE614; refine wl_val rfl (ex_loadBlk rfl Tryz.agg77 Tryz.size77 hb9 rfl) ?_; refine wl_alloc rfl Tryz.zero77 fun b11 w632 hB633 hs634 hw635 => ?_; have hsz_b11 := hs634; have hA636 := Apart.new (Lt.blk hb1) hs634; have hA637 := Apart.new (Lt.blk hb2) hs634; have hA638 := Apart.new (Lt.blk hb8) hs634; have hA639 := Apart.new (Lt.blk hb9) hs634; have hG640 := Ge.new hV613 hs634; have hG641 := Ge.new hE614 hs634; have hG642 := Ge.new (Evo.refl [] wr612) hs634; have hE643 := hV613.then hw635; have hE644 := hE614.then hw635; have hE645 := (Evo.refl [] wr612).then hw635; have hB646 := hw635.blk0 hb1; have hB647 := hw635.blk0 hb2; have hB648 := hw635.blk0 hb8; have hB649 := hw635.blk0 hb9; refine wl_storeBlk rfl rfl Tryz.size77 hB633 rfl rfl ⟨by first | rfl | assumption, by first | rfl | assumption, trivial⟩ fun w650 hB651 hw652 => ?_; have hE653 := hE643.step hw652 hG640.mem1; have hE654 := hE644.step hw652 hG641.mem1; have hE655 := hE645.step hw652 hG642.mem1; have hB656 := hw652.blk hB646 hA636.nmem1; have hB657 := hw652.blk hB647 hA637.nmem1; have hB658 := hw652.blk hB648 hA638.nmem1; have hB659 := hw652.blk hB649 hA639.nmem1
               try simp only [List.setIfInBounds_toArray, List.set_cons_zero, List.set_cons_succ, Nat.reduceAdd, Nat.zero_add, Nat.add_zero] at hB651
               refine wl_nil (nrm_then ?_); refine cw_seq ?_; refine cw_seq ?_; refine cw_region ?_
               have hF11 : ∀ y, y ∈ X ++ [b2, b9, b11] → y ∈ X ++ [b2, b9] ∨ (wr612).heap.size ≤ y := fun y hy => by rcases List.mem_append.1 hy with h | h; exact .inl (List.mem_append_left _ h); simp at h; rcases h with rfl | rfl | rfl; exact .inl (by simp); exact .inl (by simp); exact .inr (hG642 _ rfl)
               have hK11 : RLv (X ++ [b2, b9, b11]) w650 _ _ := (hk39.fresh hF11).evo ((hE655).any _); have hP11 : RLv (X ++ [b2, b9, b11]) w650 _ _ := (hp39.fresh hF11).evo ((hE655).any _); refine wl_val rfl (ex_fieldAddr rfl Tryz.fld25_3) ?_; refine wl_val rfl (ex_load1 rfl Tryz.agg3 (cell_nth hB656 rfl)) ?_; refine wl_a ?_; refine wl_nil (nrm_then ?_); refine cw_block ?_; refine cw_loop (α := RuG) (⟨t.min, pa, pn, pc, p, pa, pn, pc, p⟩) (fun x => [(12, .int .i64 x.z)]) [(1, _), (2, _), (8, _), (9, _), (11, _)] (fun x wr => Evo [] w wr ∧ (RuI X wr b1 b2 b8 b9 b11 #[iv t.kind, .int .i32 t.r, .slice ra t.ranges.length rc, iv t.min, iv t.max, .bool t.lazy, iv t.cap, .string t.name, .slice ka t.kids.length kc] (.slice xa xn xc) kt t.min t.max (4 * t.kids[0].esz) (Tg t.kids[0]) x)) (fun x => (t.max - x.z).toNat) ⟨rfl, trivial⟩ ⟨rfl, rfl, rfl, rfl, rfl, trivial⟩ ⟨hE653, ⟨Int.le_refl _, hmx, hB656, hB657, hB658, hB659, hB651, hK11, hP11, hP11, hisM, ru_zero hisM⟩⟩ ?_; rintro ⟨z, pa, pn, pc, p, qa, qn, qc, q⟩ wr660 ⟨hV661, ⟨hlo, hhi, hb1, hb2, hb8, hb9, hb11, hrk, hrp, hrq, his, hiq⟩⟩; show CW _ _ _ _ [(12, .int .i64 z), (1, _), (2, _), (8, _), (9, _), (11, _)] _
               try dsimp only at hlo
               try dsimp only at hhi
               try dsimp only at hb1
               try dsimp only at hb2
               try dsimp only at hb8
               try dsimp only at hb9
               try dsimp only at hb11
               try dsimp only at hrk
               try dsimp only at hrp
               try dsimp only at hrq
               try dsimp only at his
               try dsimp only at hiq
               have hE662 := Evo.refl (X ++ [b2, b9, b11]) wr660; refine cw_seq ?_; refine cw_seq ?_; refine cw_region ?_; refine wl_m ?_; refine wl_val rfl (ex_fieldAddr rfl Tryz.fld25_4) ?_; refine wl_val rfl (ex_load1 rfl Tryz.agg3 (cell_nth hb1 rfl)) ?_; refine wl_val rfl (ex_lss rfl rfl) ?_; refine wl_m ?_; refine wl_split (t := 128) rfl (fun hs128 => ?_) (fun hs128 => ?_)
               ·skip
                have hzB := zB_le hhi hrs.2; refine wl_g ?_; refine wl_val rfl (ex_fieldAddr rfl Tryz.fld77_1) ?_; refine wl_g ?_; refine wl_val rfl (ex_load1 rfl Tryz.agg4 (cell_nth hb11 rfl)) ?_; refine wl_g ?_; refine wl_val rfl (ex_notb rfl) ?_; refine wl_pt ?_; refine wl_nil (nrm_then ?_); refine cw_ifb rfl (fun hc132 => ?_) (fun hc132 => ?_)
                ·skip
                 refine cw_skip (nrm_then ?_); refine cw_seq ?_; refine cw_block ?_; refine cw_seq ?_; refine cw_region ?_; refine wl_val rfl (ex_loadBlk rfl Tryz.agg77 Tryz.size77 hb9 rfl) ?_; refine wl_val rfl (ex_loadBlk rfl Tryz.agg77 Tryz.size77 hb8 rfl) ?_; refine wl_call1 (vs := [_, _]) Tryz.goes87 rfl (rthen_ok (X := X ++ [b2, b9, b11]) (mem_x3 hX hV661 (blk_lt hb2) (blk_lt hb9) (blk_lt hb11)) (hrp.evo hE662) (hrk.evo hE662) his hkI (by omega) (by omega)) rfl ?_; rintro rv w663 ⟨ly, hRy, hIy, hw664⟩; have hE665 := hV661.then hw664; have hE666 := hE662.then hw664; have hB667 := hw664.blk0 hb1; have hB668 := hw664.blk0 hb2; have hB669 := hw664.blk0 hb8; have hB670 := hw664.blk0 hb9; have hB671 := hw664.blk0 hb11; obtain ⟨ya, yn, yc, rfl, hyr⟩ := hRy.get; refine wl_storeBlk rfl rfl Tryz.size77 hB670 rfl rfl ⟨by first | rfl | assumption, by first | rfl | assumption, trivial⟩ fun w672 hB673 hw674 => ?_; have hE675 := hE665.step hw674 hG586.mem1
                 have hE676 := hE666.step hw674 (fun y hy => .inl (by rw [List.mem_singleton.1 hy]; simp))
                 have hE677 := (Evo.refl (X ++ [b2, b9, b11]) w663).step hw674 (fun y hy => .inl (by rw [List.mem_singleton.1 hy]; simp))
                 have hB678 := hw674.blk hB667 hA582.nmem1; have hB679 := hw674.blk hB668 hA583.nmem1; have hB680 := hw674.blk hB669 hA585.nmem1; have hB681 := hw674.blk hB671 hA639.symm.nmem1
                 try simp only [List.setIfInBounds_toArray, List.set_cons_zero, List.set_cons_succ, Nat.reduceAdd, Nat.zero_add, Nat.add_zero] at hB673
                 refine wl_nil (nrm_then ?_); refine cw_region ?_; refine wl_val rfl (ex_loadBlk rfl Tryz.agg77 Tryz.size77 hB681 rfl) ?_; refine wl_val rfl (ex_loadBlk rfl Tryz.agg77 Tryz.size77 hB673 rfl) ?_; refine wl_call1 (vs := [_, _]) Tryz.goes88 rfl (rand_ok (X := X ++ [b2, b9, b11]) (mem_x3 hX hE675 (blk_lt hB679) (blk_lt hB673) (blk_lt hB681)) (hrq.evo hE676) (hRy.evo hE677) hiq hIy) rfl ?_; rintro rv w682 ⟨ls, hRs, hIs, hw683⟩; have hE684 := hE675.then hw683; have hE685 := hE676.then hw683; have hE686 := hE677.then hw683; have hB687 := hw683.blk0 hB678; have hB688 := hw683.blk0 hB679; have hB689 := hw683.blk0 hB680; have hB690 := hw683.blk0 hB673; have hB691 := hw683.blk0 hB681; obtain ⟨sa, sn, sc, rfl, hsr⟩ := hRs.get; refine wl_storeBlk rfl rfl Tryz.size77 hB691 rfl rfl ⟨by first | rfl | assumption, by first | rfl | assumption, trivial⟩ fun w692 hB693 hw694 => ?_; have hE695 := hE684.step hw694 hG640.mem1
                 have hE696 := hE685.step hw694 (fun y hy => .inl (by rw [List.mem_singleton.1 hy]; simp))
                 have hE697 := hE686.step hw694 (fun y hy => .inl (by rw [List.mem_singleton.1 hy]; simp))
                 have hE698 := (Evo.refl (X ++ [b2, b9, b11]) w682).step hw694 (fun y hy => .inl (by rw [List.mem_singleton.1 hy]; simp))
                 have hB699 := hw694.blk hB687 hA636.nmem1; have hB700 := hw694.blk hB688 hA637.nmem1; have hB701 := hw694.blk hB689 hA638.nmem1; have hB702 := hw694.blk hB690 hA639.nmem1
                 try simp only [List.setIfInBounds_toArray, List.set_cons_zero, List.set_cons_succ, Nat.reduceAdd, Nat.zero_add, Nat.add_zero] at hB693
                 refine wl_nil (nrm_block (nrm_then ?_)); refine cw_region ?_; refine wl_m ?_; refine wl_val rfl (ex_add_i64 rfl rfl (by omega) (by omega)) ?_; refine wl_a ?_; refine wl_nil (nrm_same ?_); refine ⟨⟨z + 1, ya, yn, yc, ly, sa, sn, sc, ls⟩, ?_, ⟨rfl, trivial⟩, ⟨rfl, rfl, rfl, rfl, rfl, trivial⟩, hE695, ?_⟩
                 · (try dsimp only); show (t.max - _).toNat < (t.max - z).toNat; omega
                 ·skip
                  try dsimp only
                  exact ⟨by show _ ≤ z + 1; omega, by show z + 1 ≤ _; omega, hB699, hB700, hB701, hB702, hB693, hrk.evo hE696, hRy.evo hE697, hRs.evo hE698, pw_more (by omega) hIy, ru_more (p := p) (q := q) (by omega) (by omega) hIs⟩
                ·skip
                 refine cw_exit (ex_then (ex_then (ex_here (nrm_then ?_)))); refine cw_seq ?_; refine cw_region ?_; refine wl_val rfl (ex_loadBlk rfl Tryz.agg77 Tryz.size77 hb11 rfl) ?_; refine wl_storeBlk rfl rfl Tryz.size77 hb2 rfl rfl ⟨by first | rfl | assumption, by first | rfl | assumption, trivial⟩ fun w703 hB704 hw705 => ?_; have hE706 := hV661.step hw705 hG12.mem1
                 have hE707 := hE662.step hw705 (fun y hy => .inl (by rw [List.mem_singleton.1 hy]; simp))
                 have hB708 := hw705.blk hb1 hA11.nmem1; have hB709 := hw705.blk hb8 hA288.symm.nmem1; have hB710 := hw705.blk hb9 hA583.symm.nmem1; have hB711 := hw705.blk hb11 hA637.symm.nmem1
                 try simp only [List.setIfInBounds_toArray, List.set_cons_zero, List.set_cons_succ, Nat.reduceAdd, Nat.zero_add, Nat.add_zero] at hB704
                 refine wl_nil (nrm_then ?_); refine cw_ret (body_retC1 rfl (ResOk.cellA rfl Tryz.agg77 Tryz.size77 hB704 rfl) ?_)
                 have hq2 : q.2 = true := by simpa using hc132
                 exact ⟨q, (hrq.evo hE707).left, lis_rep_of hk6 hl1 (lis_up hiq hq2 (ru_up (by omega))) (zB_le hhi hrs.2), hE706⟩
               ·skip
                refine wl_n ?_; refine wl_n ?_; refine wl_n ?_; refine wl_pf ?_; refine wl_nil (nrm_then ?_); refine cw_false rfl ?_; refine cw_exit (ex_then (ex_then (ex_here (nrm_then ?_)))); refine cw_seq ?_; refine cw_region ?_; refine wl_val rfl (ex_loadBlk rfl Tryz.agg77 Tryz.size77 hb11 rfl) ?_; refine wl_storeBlk rfl rfl Tryz.size77 hb2 rfl rfl ⟨by first | rfl | assumption, by first | rfl | assumption, trivial⟩ fun w712 hB713 hw714 => ?_; have hE715 := hV661.step hw714 hG12.mem1
                have hE716 := hE662.step hw714 (fun y hy => .inl (by rw [List.mem_singleton.1 hy]; simp))
                have hB717 := hw714.blk hb1 hA11.nmem1; have hB718 := hw714.blk hb8 hA288.symm.nmem1; have hB719 := hw714.blk hb9 hA583.symm.nmem1; have hB720 := hw714.blk hb11 hA637.symm.nmem1
                try simp only [List.setIfInBounds_toArray, List.set_cons_zero, List.set_cons_succ, Nat.reduceAdd, Nat.zero_add, Nat.add_zero] at hB713
                refine wl_nil (nrm_then ?_); refine cw_ret (body_retC1 rfl (ResOk.cellA rfl Tryz.agg77 Tryz.size77 hB713 rfl) ?_); exact ⟨q, (hrq.evo hE716).left, lis_rep_of hk6 hl1 (hiq.congr (ru_end h6 hmx (by omega))) (zB_le hhi hrs.2), hE715⟩
end Go.Proofs.YtgnpldackjbdjaaGreat
namespace Go.Proofs.YtgnpldackjbdjaaGreat
open Go.Proofs
open Go.W Go.RowKit
attribute [local irreducible] Decidable.decide
set_option linter.unusedSimpArgs false
set_option linter.unusedVariables false
theorem Tryz.goes39 : Goes Tryz.prog 39 := ⟨_, Tryz.func39, by kernel_rfl, by kernel_rfl⟩
theorem Tryz.goes42 : Goes Tryz.prog 42 := ⟨_, Tryz.func42, by kernel_rfl, by kernel_rfl⟩
theorem Tryz.goes43 : Goes Tryz.prog 43 := ⟨_, Tryz.func43, by kernel_rfl, by kernel_rfl⟩
theorem Tryz.goes83 : Goes Tryz.prog 83 := ⟨_, Tryz.func83, by kernel_rfl, by kernel_rfl⟩
theorem rwords_ok : ∀ {n : Nat} {X Y : List Nat} {w : World} {vs : List Value} {t : Rx} (hX : ∀ b, b ∈ X → b < w.heap.size) (hx : RRx n Y w vs t) (hg : Good t) (hno : NoLook t) (hl : t.esz ≤ 9999), Calls Tryz.prog 44 #[.agg vs.toArray] w (Ret fun r w' => ∃ l, RLv X w' r l ∧ LIs l (4 * t.esz) (Tg t) ∧ Evo [] w w')
  | 0, X, Y, w, vs, t, hX, hx, hg, hno, hl => hx.elim
  | n + 1, X, Y, w, vs, t, hX, hx, hg, hno, hl => rwords_step (n := n) (fun hX hx hg hno hl => rwords_ok hX hx hg hno hl) hX hx hg hno hl
structure PlI (t : Rx) (p : Rx → Prop) (k : Nat) : Prop where
  hk : k ≤ t.kids.length
  all : ∀ x, x ∈ t.kids.take k → p x
theorem pl_zero (t : Rx) (p : Rx → Prop) : PlI t p 0 := ⟨Nat.zero_le _, fun x hx => by simp at hx⟩
theorem pl_step {t : Rx} {p : Rx → Prop} {k : Nat} (h : PlI t p k) (hk : k < t.kids.length) (hp : p t.kids[k]) : PlI t p (k + 1) := ⟨hk, fun x hx => by
  rw [take_snoc hk] at hx
  rcases List.mem_append.1 hx with h1 | h1
  · exact h.all x h1
  · rw [List.mem_singleton.1 h1]; exact hp⟩
theorem pl_end {t : Rx} {p : Rx → Prop} {k : Nat} (h : PlI t p k) (hk : t.kids.length ≤ k) : ∀ x, x ∈ t.kids → p x := fun x hx => h.all x (by rw [List.take_of_length_le hk]; exact hx)
theorem places_step {n : Nat} (ih : ∀ {X : List Nat} {w : World} {vs : List Value} {t : Rx} (hx : RRx n X w vs t), Calls Tryz.prog 42 #[.agg vs.toArray] w (Ret fun r w' => r = .bool (tf (¬ NoLook t)) ∧ Evo [] w w')) {X : List Nat} {w : World} {vs : List Value} {t : Rx} (hx : RRx (n + 1) X w vs t) : Calls Tryz.prog 42 #[.agg vs.toArray] w (Ret fun r w' => r = .bool (tf (¬ NoLook t)) ∧ Evo [] w w') := by
  have hx0 := hx; obtain ⟨m, ra, rc, ka, kc, hm, rfl, hrg, hk, bl1, bl2, bl3⟩ := hx.get
  obtain rfl : m = n := by omega
  obtain ⟨_, _, hke, hkc, e1⟩ := hk; cases hke; refine calls_of_cw (N := 20) Tryz.func42 rfl rfl rfl ?_; refine cw_seq ?_; refine cw_region ?_; refine wl_boxA rfl rfl fun b1 w1 hB2 hs3 hw4 => ?_; have hsz_b1 := hs3; have hG5 := Ge.new (Evo.refl [] w) hs3; have hE6 := (Evo.refl [] w).then hw4; refine wl_a ?_; refine wl_nil (nrm_then ?_); refine cw_seq ?_; refine cw_seq ?_; refine cw_region ?_; refine wl_val rfl (ex_fieldAddr rfl Tryz.fld25_0) ?_; refine wl_val rfl (ex_load1 rfl Tryz.agg3 (cell_nth hB2 rfl)) ?_; refine wl_val rfl (ex_geq rfl rfl) ?_; refine wl_nil (nrm_then ?_); refine cw_if rfl (fun hc6 => ?_) (fun hc6 => ?_)
  ·skip
   refine cw_seq ?_; refine cw_region ?_; refine wl_a ?_; refine wl_nil (nrm_then ?_); refine cw_ret (ret_then (body_ret1 rfl rfl ?_))
   exact ⟨congrArg Value.bool (tf_iff.2 (fun h => by have := nolook_kind h; omega)).symm, hE6⟩
  ·skip
   refine cw_skip (nrm_then ?_); refine cw_seq ?_; refine cw_seq ?_; refine cw_region ?_; refine wl_a ?_; refine wl_nil (nrm_then ?_); refine cw_block ?_; refine cw_loop (α := Nat) (0) (fun k => [(3, .int .i64 (k : Nat))]) [(1, _)] (fun k wr => Evo [] w1 wr ∧ (PlI t NoLook k)) (fun k => t.kids.length - k) ⟨rfl, trivial⟩ ⟨rfl, trivial⟩ ⟨Evo.refl _ _, pl_zero t _⟩ ?_; rintro k wr7 ⟨hV8, hpl⟩; show CW _ _ _ _ [(3, _), (1, _)] _; have hE9 := hE6.then hV8; have hB10 := hV8.blk0 hB2; have hk9 := hpl.hk; refine cw_seq ?_; refine cw_seq ?_; refine cw_region ?_; refine wl_m ?_; refine wl_val rfl (ex_fieldAddr rfl Tryz.fld25_8) ?_; refine wl_val rfl (ex_load1 rfl Tryz.agg23 (cell_nth hB10 rfl)) ?_; refine wl_val rfl (ex_len_slice rfl Tryz.underlying23 rfl) ?_; refine wl_val rfl (ex_lss rfl rfl) ?_; refine wl_nil (nrm_then ?_); refine cw_if rfl (fun hc11 => ?_) (fun hc11 => ?_)
   ·skip
    have hj' : k < t.kids.length := by omega
    obtain ⟨b5, o1, vs1, ha1, hnb1, hvl1, hc1, hrk⟩ := e1 k hj'; have hrk0 := hrk; obtain ⟨m1, ra1, rc1, ka1, kc1, _, rfl, -⟩ := id hrk.get; refine cw_skip (nrm_then ?_); refine cw_seq ?_; refine cw_block ?_; refine cw_seq ?_; refine cw_region ?_; refine wl_val rfl (ex_fieldAddr rfl Tryz.fld25_8) ?_; refine wl_val rfl (ex_load1 rfl Tryz.agg23 (cell_nth hB10 rfl)) ?_; refine wl_m ?_; refine wl_val rfl (ex_indexAddrA rfl rfl ha1 Tryz.elem23 hj') ?_; refine wl_val rfl (ex_loadA rfl Tryz.agg25 Tryz.size25 (vs := [_, _, _, _, _, _, _, _, _]) rfl (hc1.evo hE9 (by simp))) ?_; refine wl_call1 (vs := [_]) Tryz.goes42 rfl (ih (RRx.pers _ _ _ _ _ _ (hE9.mono (fun b hb => by cases hb)) hrk0)) rfl ?_; rintro _ w11 ⟨rfl, hw12⟩; have hE13 := hE9.then hw12; have hE14 := hV8.then hw12; have hB15 := hw12.blk0 hB10; refine wl_nil (nrm_then ?_); refine cw_ifb rfl (fun hc19 => ?_) (fun hc19 => ?_)
    ·skip
     refine cw_seq ?_; refine cw_region ?_; refine wl_a ?_; refine wl_nil (nrm_then ?_); refine cw_ret (ret_block (ret_then (ret_then (ret_block (ret_then (body_ret1 rfl rfl ?_)))))); exact ⟨congrArg Value.bool (tf_iff.2 (fun h => tf_iff.1 hc19 (nolook_kid h _ (List.getElem_mem hj')))).symm, hE13⟩
    ·skip
     refine cw_skip (nrm_block (nrm_then ?_)); refine cw_region ?_; refine wl_m ?_; refine wl_val rfl (ex_add_i64 rfl rfl (by omega) (by omega)) ?_; refine wl_a ?_; refine wl_nil (nrm_same ?_); refine ⟨k + 1, ?_, ⟨rfl, trivial⟩, ⟨rfl, trivial⟩, hE14, ?_⟩
     · omega
     ·skip
      exact pl_step hpl hj' (Classical.not_not.1 (tf_no.1 hc19))
   ·skip
    refine cw_exit (ex_then (ex_then (ex_here (nrm_then ?_)))); refine cw_seq ?_; refine cw_region ?_; refine wl_a ?_; refine wl_nil (nrm_then ?_); refine cw_ret (body_ret1 rfl rfl ?_); exact ⟨congrArg Value.bool (tf_no.2 (fun h => h (nolook_of (by omega) (pl_end hpl (by omega))))).symm, hE9⟩
theorem places_ok : ∀ {n : Nat} {X : List Nat} {w : World} {vs : List Value} {t : Rx} (hx : RRx n X w vs t), Calls Tryz.prog 42 #[.agg vs.toArray] w (Ret fun r w' => r = .bool (tf (¬ NoLook t)) ∧ Evo [] w w')
  | 0, X, w, vs, t, hx => hx.elim
  | n + 1, X, w, vs, t, hx => places_step (n := n) (fun hx => places_ok hx) hx
theorem refWords_ok {n : Nat} {w : World} {vs : List Value} {t : Rx} (hx : RRx n [] w vs t) :
    Calls Tryz.prog 14 #[.agg vs.toArray] w (Ret fun v w' => ∃ a k c ok l, v = .tuple #[.slice a k c, .bool ok] ∧ WordsIs [] t w' a k c ok l ∧ Evo [] w w') := by
  have hx0 := hx; obtain ⟨m, ra, rc, ka, kc, hm, rfl, hrg, hk, bl1, bl2, bl3⟩ := hx.get; refine calls_of_cw (N := 25) Tryz.func14 rfl rfl rfl ?_; refine cw_seq ?_; refine cw_region ?_; refine wl_boxA rfl rfl fun b1 w2 hB3 hs4 hw5 => ?_; have hG6 := Ge.new (Evo.refl [] w) hs4; have hE7 := (Evo.refl [] w).then hw5; refine wl_a ?_; refine wl_a ?_; refine wl_nil (nrm_then ?_); refine cw_seq ?_; refine cw_seq ?_; refine cw_region ?_; refine wl_val rfl (ex_loadBlk rfl Tryz.agg25 Tryz.size25 hB3 rfl) ?_; refine wl_call1 (vs := [_]) Tryz.goes41 rfl (refValid_ok (RRx.pers _ _ _ _ _ _ hE7 hx0)) rfl ?_; rintro _ w8 ⟨vb, rfl, hvb, hw9⟩; have hE10 := hE7.then hw9; have hB11 := hw9.blk0 hB3; refine wl_val rfl (ex_notb rfl) ?_; refine wl_m ?_; refine wl_splitb (t := 8) rfl (fun hs8 => ?_) (fun hs8 => ?_)
  ·skip
   refine wl_n ?_; refine wl_n ?_; refine wl_pt ?_; refine wl_m ?_; refine wl_n ?_; refine wl_n ?_; refine wl_n ?_; refine wl_pt ?_; refine wl_nil (nrm_then ?_); refine cw_true rfl ?_; refine cw_seq ?_; refine cw_region ?_; refine wl_a ?_; refine wl_a ?_; refine wl_nil (nrm_then ?_); refine cw_ret (ret_then (body_ret2 rfl rfl rfl ?_))
   exact ⟨none, 0, 0, false, [], rfl, .inl ⟨rfl, rfl, rfl, rfl, rfl, fun h1 h2 h3 => by have := hvb.2 h1; rw [this] at hs8; cases hs8⟩, hE10⟩
  ·skip
   refine wl_g ?_; refine wl_val rfl (ex_loadBlk rfl Tryz.agg25 Tryz.size25 hB11 rfl) ?_; refine wl_g ?_; refine wl_call1 (vs := [_]) Tryz.goes42 rfl (places_ok (RRx.pers _ _ _ _ _ _ hE10 hx0)) rfl ?_; rintro _ w12 ⟨rfl, hw13⟩; have hE14 := hE10.then hw13; have hB15 := hw13.blk0 hB11; refine wl_pf ?_; refine wl_m ?_; refine wl_splitb (t := 12) rfl (fun hs12 => ?_) (fun hs12 => ?_)
   ·skip
    refine wl_n ?_; refine wl_n ?_; refine wl_n ?_; refine wl_pt ?_; refine wl_nil (nrm_then ?_); refine cw_true rfl ?_; refine cw_seq ?_; refine cw_region ?_; refine wl_a ?_; refine wl_a ?_; refine wl_nil (nrm_then ?_); refine cw_ret (ret_then (body_ret2 rfl rfl rfl ?_)); exact ⟨none, 0, 0, false, [], rfl, .inl ⟨rfl, rfl, rfl, rfl, rfl, fun h1 h2 h3 => (tf_iff.1 hs12 h3).elim⟩, hE14⟩
   ·skip
    refine wl_g ?_; refine wl_val rfl (ex_loadBlk rfl Tryz.agg25 Tryz.size25 hB15 rfl) ?_; refine wl_g ?_; refine wl_call1 (vs := [_]) Tryz.goes43 rfl (rSize_ok (RRx.pers _ _ _ _ _ _ hE14 hx0)) rfl ?_; rintro _ w16 ⟨sz, rfl, hsz, hw17⟩; have hE18 := hE14.then hw17; have hB19 := hw17.blk0 hB15; refine wl_g ?_; refine wl_val rfl (ex_gtr rfl rfl) ?_; refine wl_pf ?_; refine wl_nil (nrm_then ?_); refine cw_if rfl (fun hc16 => ?_) (fun hc16 => ?_)
    ·skip
     refine cw_seq ?_; refine cw_region ?_; refine wl_a ?_; refine wl_a ?_; refine wl_nil (nrm_then ?_); refine cw_ret (ret_then (body_ret2 rfl rfl rfl ?_))
     exact ⟨none, 0, 0, false, [], rfl, .inl ⟨rfl, rfl, rfl, rfl, rfl, fun h1 h2 h3 => by have := hsz.1 h1; omega⟩, hE18⟩
    ·skip
     refine cw_skip (nrm_then ?_); refine cw_seq ?_; refine cw_region ?_; have hok : t.Ok := hvb.1 (by simpa using hs8)
     have hszE : t.esz + 1 ≤ 10000 := by have := hsz.1 hok; omega
     refine wl_val rfl (ex_loadBlk rfl Tryz.agg25 Tryz.size25 hB19 rfl) ?_; refine wl_call1 (vs := [_]) Tryz.goes44 rfl (rwords_ok (X := []) (fun b hb => by cases hb) (RRx.pers _ _ _ _ _ _ hE18 hx0) hok.good (Classical.not_not.1 (tf_no.1 hs12)) (size_lt2 hszE)) rfl ?_; rintro rv w20 ⟨l, hR, hI, hw21⟩; have hE22 := hE18.then hw21; have hB23 := hw21.blk0 hB19; obtain ⟨ra, rn, rc, rfl, hrr⟩ := hR.get; obtain ⟨_, _, hv9, hcc9, e9⟩ := id hrr; cases hv9; refine wl_alloc rfl Tryz.zero77 fun b4 w24 hB25 hs26 hw27 => ?_; have hsz_b4 := hs26; have hA28 := Apart.new (Lt.blk hB23) hs26; have hG29 := Ge.new hE22 hs26; have hG30 := Ge.new (Evo.refl [] w20) hs26; have hE31 := hE22.then hw27; have hE32 := (Evo.refl [] w20).then hw27; have hB33 := hw27.blk0 hB23; refine wl_storeBlk rfl rfl Tryz.size77 hB25 rfl rfl ⟨by first | rfl | assumption, by first | rfl | assumption, trivial⟩ fun w34 hB35 hw36 => ?_; have hE37 := hE31.step hw36 hG29.mem1; have hE38 := hE32.step hw36 hG30.mem1; have hB39 := hw36.blk hB33 hA28.nmem1
     try simp only [List.setIfInBounds_toArray, List.set_cons_zero, List.set_cons_succ, Nat.reduceAdd, Nat.zero_add, Nat.add_zero] at hB35
     refine wl_nil (nrm_then ?_); refine cw_seq ?_; refine cw_seq ?_; refine cw_region ?_; refine wl_val rfl (ex_fieldAddr rfl Tryz.fld77_1) ?_; refine wl_val rfl (ex_load1 rfl Tryz.agg4 (cell_nth hB35 rfl)) ?_; refine wl_nil (nrm_then ?_); refine cw_ifb rfl (fun hc20 => ?_) (fun hc20 => ?_)
     ·skip
      refine cw_seq ?_; refine cw_region ?_; refine wl_a ?_; refine wl_a ?_; refine wl_nil (nrm_then ?_); refine cw_ret (ret_then (body_ret2 rfl rfl rfl ?_)); obtain ⟨lw, lm⟩ := l; obtain rfl : lm = true := hc20; have h9 := (hI.lots rfl).1; subst h9; exact ⟨none, 0, 0, false, [], rfl, .inl ⟨rfl, rfl, rfl, rfl, rfl, fun _ _ _ => hI⟩, hE37⟩
     ·skip
      refine cw_skip (nrm_then ?_); refine cw_seq ?_; refine cw_region ?_; refine wl_bslice (vs := []) rfl Tryz.slice26 rfl rfl rfl rfl fun b40 w41 hO42 hs43 hw44 => ?_; have hA45 := Apart.new (Lt.blk hB35) hs43; have hG46 := Ge.new hE37 hs43; have hG47 := Ge.new hE38 hs43; have hE48 := hE37.then hw44; have hE49 := hE38.then hw44; have hB50 := hw44.blk0 hB35; refine wl_val rfl (ex_fieldAddr rfl Tryz.fld77_0) ?_; refine wl_val rfl (ex_load1 rfl Tryz.agg26 (cell_nth hB50 rfl)) ?_
      refine wl_append rfl rfl rfl rfl Tryz.app26_26 hO42 (src_ts (RSl.evo RTs.pers hE49 hrr)) (by have := hI.len; omega) fun a51 c52 w53 ob9 hO9 hw56 hob57 => ?_
      have hA58 := hA45.app (Lt.blk hB50) hob57; have hG59 := hG46.app hE48 hob57; have hG60 := hG47.app hE49 hob57; have hE61 := hE48.step hw56 hG46.mem; have hE62 := hE49.step hw56 hG47.mem; have hB63 := hw56.blk hB50 hA45.nmem; refine wl_a ?_; refine wl_a ?_; refine wl_nil (nrm_then ?_); refine cw_ret (body_ret2 rfl rfl rfl ?_); obtain ⟨lw, lm⟩ := l; obtain rfl : lm = false := hc20; refine ⟨_, _, _, true, lw, rfl, .inr ⟨rfl, hok, hszE, Classical.not_not.1 (tf_no.1 hs12), ?_, hI⟩, hE61⟩; have h9 := hO9; simp only [List.flatMap_nil, List.nil_append, Nat.zero_add] at h9 ⊢; exact own_rts h9 (fun g hg hm => by cases hm)
end Go.Proofs.YtgnpldackjbdjaaGreat
namespace Go.Proofs.YtgnpldackjbdjaaGreat
open Go.Proofs
open Go.W Go.RowKit
attribute [local irreducible] Decidable.decide
set_option linter.unusedSimpArgs false
set_option linter.unusedVariables false
theorem Tryz.goes46 : Goes Tryz.prog 46 := ⟨_, Tryz.func46, by kernel_rfl, by kernel_rfl⟩
mutual
def Hol : Rx → Prop
  | .mk k _ _ mn _ _ _ _ ks => if k = 2 ∨ k = 3 ∨ k = 12 then False else if k = 4 then HolA ks else if k = 5 ∨ k = 7 then HolE ks else if k = 6 then mn = 0 ∨ HolE ks else True
def HolA : List Rx → Prop
  | [] => True
  | x :: xs => Hol x ∧ HolA xs
def HolE : List Rx → Prop
  | [] => False
  | x :: xs => Hol x ∨ HolE xs
end
theorem holA_iff : ∀ {l : List Rx}, HolA l ↔ ∀ x, x ∈ l → Hol x
  | [] => ⟨fun _ x h => (by cases h), fun _ => by rw [HolA]; trivial⟩
  | y :: l => by
    rw [HolA, holA_iff (l := l)]
    constructor
    · rintro ⟨h1, h2⟩ x hx
      cases hx with
      | head => exact h1
      | tail _ hx => exact h2 x hx
    · exact fun h => ⟨h y (List.mem_cons_self ..), fun x hx => h x (List.mem_cons_of_mem _ hx)⟩
theorem holE_iff : ∀ {l : List Rx}, HolE l ↔ ∃ x, x ∈ l ∧ Hol x
  | [] => ⟨fun h => (by rw [HolE] at h; exact h.elim), fun ⟨x, h, _⟩ => by cases h⟩
  | y :: l => by
    rw [HolE, holE_iff (l := l)]
    constructor
    · rintro (h1 | ⟨x, h1, h2⟩)
      · exact ⟨y, List.mem_cons_self .., h1⟩
      · exact ⟨x, List.mem_cons_of_mem _ h1, h2⟩
    · rintro ⟨x, hx, h2⟩
      cases hx with
      | head => exact .inl h2
      | tail _ hx => exact .inr ⟨x, hx, h2⟩
theorem hol_eq (t : Rx) : Hol t ↔ if t.kind = 2 ∨ t.kind = 3 ∨ t.kind = 12 then False else if t.kind = 4 then (∀ x, x ∈ t.kids → Hol x) else if t.kind = 5 ∨ t.kind = 7 then (∃ x, x ∈ t.kids ∧ Hol x) else if t.kind = 6 then t.min = 0 ∨ (∃ x, x ∈ t.kids ∧ Hol x) else True := by
  cases t with
  | mk k r rs mn mx lz cp nm ks =>
    rw [Hol, holA_iff, holE_iff]
    exact Iff.rfl
theorem hol_no {t : Rx} (h : t.kind = 2 ∨ t.kind = 3 ∨ t.kind = 12) : tf (Hol t) = false := tf_no.2 fun h1 => by rw [hol_eq, if_pos h] at h1; exact h1
theorem hol4 {t : Rx} (h : t.kind = 4) : Hol t ↔ ∀ x, x ∈ t.kids → Hol x := by rw [hol_eq, if_neg (by omega), if_pos h]
theorem hol57 {t : Rx} (h : t.kind = 5 ∨ t.kind = 7) : Hol t ↔ ∃ x, x ∈ t.kids ∧ Hol x := by rw [hol_eq, if_neg (by omega), if_neg (by omega), if_pos h]
theorem hol6 {t : Rx} (h : t.kind = 6) : Hol t ↔ t.min = 0 ∨ ∃ x, x ∈ t.kids ∧ Hol x := by rw [hol_eq, if_neg (by omega), if_neg (by omega), if_neg (by omega), if_pos h]
theorem hol_yes {t : Rx} (h : ¬ (t.kind = 2 ∨ t.kind = 3 ∨ t.kind = 12)) (h2 : ¬ (t.kind = 4 ∨ t.kind = 5 ∨ t.kind = 6 ∨ t.kind = 7)) : tf (Hol t) = true := tf_iff.2 (by rw [hol_eq, if_neg h, if_neg (by omega), if_neg (by omega), if_neg (by omega)]; trivial)
theorem one_mem {l : List Rx} (h : l.length = 1) {p : Rx → Prop} : (∃ x, x ∈ l ∧ p x) ↔ p (l[0]'(by omega)) := by
  obtain ⟨y, rfl⟩ := List.length_eq_one_iff.1 h
  exact ⟨fun ⟨x, hx, hp⟩ => by rw [List.mem_singleton.1 hx] at hp; exact hp, fun hp => ⟨y, List.mem_singleton_self _, hp⟩⟩
theorem tf_all {l : List Rx} {p : Rx → Prop} : (!tf (∃ x, x ∈ l ∧ ¬ p x)) = tf (∀ x, x ∈ l → p x) := by
  rw [Bool.eq_iff_iff, Bool.not_eq_true', tf_no, tf_iff]
  exact ⟨fun h x hx => Classical.not_not.1 fun h2 => h ⟨x, hx, h2⟩, fun h ⟨x, hx, h2⟩ => h2 (h x hx)⟩
structure IxP (ks : List Rx) (p : Rx → Prop) (k : Nat) : Prop where
  hk : k ≤ ks.length
  all : ∀ x, x ∈ ks.take k → ¬ p x
theorem idxP_ok {n : Nat} {fn : FuncId} (hgo : Goes Tryz.prog fn) {p : Rx → Prop} {X : List Nat} {w : World} {v : Value} {ks : List Rx} (hf : ∀ {w : World} {vs : List Value} {x : Rx}, x ∈ ks → RRx n X w vs x → Calls Tryz.prog fn #[.agg vs.toArray] w (Ret fun r w' => r = .bool (tf (p x)) ∧ Evo [] w w')) (hk : RSl 9 (RRx n) X w v ks) (hl : ks.length ≤ 140737488351232) :
    Calls Tryz.prog 119 #[v, .func (.func fn) #[] #[]] w (Ret fun v w' => ∃ z, v = .int .i64 z ∧ (0 ≤ z ↔ ∃ x, x ∈ ks ∧ p x) ∧ Evo [] w w') := by
  obtain ⟨ka, kc, rfl, hkc, e1⟩ := hk; refine calls_of_cw (N := 19) Tryz.func119 rfl rfl rfl ?_; refine cw_seq ?_; refine cw_region ?_; refine wl_a ?_; refine wl_nil (nrm_then ?_); refine cw_seq ?_; refine cw_seq ?_; refine cw_region ?_; refine wl_m ?_; refine wl_val rfl (ex_len_slice rfl Tryz.underlying23 rfl) ?_; refine wl_m ?_; refine wl_nil (nrm_then ?_); refine cw_block ?_; refine cw_loop (α := Nat) (0) (fun k => [(8, .int .i64 (k : Nat))]) [(0, _), (1, _), (7, _)] (fun k wr => Evo [] w wr ∧ (IxP ks p k)) (fun k => ks.length - k) ⟨rfl, trivial⟩ ⟨rfl, rfl, rfl, trivial⟩ ⟨Evo.refl _ _, ⟨Nat.zero_le _, fun x hx => by simp at hx⟩⟩ ?_; rintro k wr1 ⟨hV2, ⟨hk, hall⟩⟩; show CW _ _ _ _ [(8, _), (0, _), (1, _), (7, _)] _; have hE3 := (Evo.refl [] w).then hV2; refine cw_seq ?_; refine cw_region ?_; refine wl_val rfl (ex_lss rfl rfl) ?_; refine wl_nil (nrm_then ?_); refine cw_seq ?_; refine cw_if rfl (fun hc9 => ?_) (fun hc9 => ?_)
  ·skip
   have hk' : k < ks.length := by omega
   obtain ⟨b1, o1, vs1, ha1, hb1, hvl1, hc1, hrk⟩ := e1 k hk'; have hrk0 := hrk
   obtain ⟨p0, p1, p2, p3, p4, p5, p6, p7, p8, rfl⟩ : ∃ p0 p1 p2 p3 p4 p5 p6 p7 p8, vs1 = [p0, p1, p2, p3, p4, p5, p6, p7, p8] := by cases n with | zero => exact hrk.elim | succ n => (obtain ⟨m1, ra1, rc1, ka1, kc1, _, rfl, -⟩ := id hrk.get; exact ⟨_, _, _, _, _, _, _, _, _, rfl⟩)
   refine cw_skip (nrm_then ?_); refine cw_seq ?_; refine cw_block ?_; refine cw_seq ?_; refine cw_region ?_; refine wl_m ?_; refine wl_a ?_; refine wl_nil (nrm_then ?_); refine cw_seq ?_; refine cw_region ?_; refine wl_m ?_; refine wl_m ?_; refine wl_m ?_
   refine wl_val rfl (ex_indexAddr (n := k) (by rw [ha1]; rfl) rfl Tryz.elem23 (by omega)) ?_
   refine wl_val rfl (ex_loadA rfl Tryz.agg25 Tryz.size25 (vs := [_, _, _, _, _, _, _, _, _]) rfl (hc1.evo hE3 (by simp))) ?_; refine wl_callv1 (vs := [_]) hgo rfl rfl (hf (List.getElem_mem hk') (RRx.pers _ _ _ _ _ _ ((hE3).any X) hrk0)) rfl ?_; rintro _ w4 ⟨rfl, hw5⟩; have hE6 := hE3.then hw5; have hE7 := hV2.then hw5; refine wl_nil (nrm_then ?_); refine cw_ifb rfl (fun hc16 => ?_) (fun hc16 => ?_)
   ·skip
    refine cw_seq ?_; refine cw_region ?_; refine wl_m ?_; refine wl_a ?_; refine wl_nil (nrm_then ?_); refine cw_ret (ret_block (ret_then (ret_then (ret_block (ret_then (body_ret1 rfl rfl ?_)))))); exact ⟨_, rfl, ⟨fun _ => ⟨ks[k], List.getElem_mem hk', tf_iff.1 hc16⟩, fun _ => by omega⟩, hE6⟩
   ·skip
    refine cw_skip (nrm_block (nrm_then ?_)); refine cw_region ?_; refine wl_val rfl (ex_add_i64 rfl rfl (by omega) (by omega)) ?_; refine wl_m ?_; refine wl_nil (nrm_same ?_); refine ⟨k + 1, ?_, ⟨rfl, trivial⟩, ⟨rfl, rfl, rfl, trivial⟩, hE7, ?_⟩
    · omega
    ·skip
     refine ⟨by omega, fun x hx => ?_⟩; rw [take_snoc hk'] at hx
     rcases List.mem_append.1 hx with h | h
     · exact hall x h
     · rw [List.mem_singleton.1 h]; exact tf_no.1 hc16
  ·skip
   refine cw_exit (ex_then (ex_then (ex_here (nrm_then ?_)))); refine cw_seq ?_; refine cw_region ?_; refine wl_a ?_; refine wl_nil (nrm_then ?_); refine cw_ret (body_ret1 rfl rfl ?_)
   exact ⟨_, rfl, ⟨fun h => by omega, fun ⟨x, h1, h2⟩ => (hall x (by rw [List.take_of_length_le (by omega)]; exact h1) h2).elim⟩, hE3⟩
theorem contP_ok {n : Nat} {fn : FuncId} (hgo : Goes Tryz.prog fn) {p : Rx → Prop} {X : List Nat} {w : World} {v : Value} {ks : List Rx} (hf : ∀ {w : World} {vs : List Value} {x : Rx}, x ∈ ks → RRx n X w vs x → Calls Tryz.prog fn #[.agg vs.toArray] w (Ret fun r w' => r = .bool (tf (p x)) ∧ Evo [] w w')) (hk : RSl 9 (RRx n) X w v ks) (hl : ks.length ≤ 140737488351232) :
    Calls Tryz.prog 72 #[v, .func (.func fn) #[] #[]] w (Ret fun v w' => v = .bool (tf (∃ x, x ∈ ks ∧ p x)) ∧ Evo [] w w') := by
  refine calls_of_cw (N := 9) Tryz.func72 rfl rfl rfl ?_; refine cw_seq ?_; refine cw_region ?_; refine wl_a ?_; refine wl_nil (nrm_then ?_); refine cw_seq ?_; refine cw_region ?_; refine wl_m ?_; refine wl_m ?_; refine wl_call1 (vs := [_, _]) Tryz.goes119 rfl (idxP_ok hgo hf (RSl.evo (RRx.pers n) (((Evo.refl [] w)).any X) hk) hl) rfl ?_; rintro _ w1 ⟨z, rfl, hz, hw2⟩; have hE3 := (Evo.refl [] w).then hw2; refine wl_val rfl (ex_geq rfl rfl) ?_; refine wl_a ?_; refine wl_nil (nrm_then ?_); refine cw_ret (body_ret1 rfl rfl ?_); refine ⟨congrArg Value.bool ?_, hE3⟩
  rw [Bool.eq_iff_iff, tf_iff, decide_eq_true_eq]; exact hz
theorem hol1_ok {n : Nat} (ih : ∀ {X : List Nat} {w : World} {vs : List Value} {t : Rx} (hx : RRx n X w vs t) (hg : Good t), Calls Tryz.prog 39 #[.agg vs.toArray] w (Ret fun r w' => r = .bool (tf (Hol t)) ∧ Evo [] w w')) {X : List Nat} {w : World} {vs : List Value} {t : Rx} (hx : RRx n X w vs t) (hg : Good t) : Calls Tryz.prog 83 #[.agg vs.toArray] w (Ret fun r w' => r = .bool (tf (¬ Hol t)) ∧ Evo [] w w') := by
  obtain ⟨p0, p1, p2, p3, p4, p5, p6, p7, p8, rfl⟩ : ∃ p0 p1 p2 p3 p4 p5 p6 p7 p8, vs = [p0, p1, p2, p3, p4, p5, p6, p7, p8] := by cases n with | zero => exact hx.elim | succ n => (obtain ⟨m1, ra1, rc1, ka1, kc1, _, rfl, -⟩ := id hx.get; exact ⟨_, _, _, _, _, _, _, _, _, rfl⟩)
  refine calls_of_cw (N := 6) Tryz.func83 rfl rfl rfl ?_; refine cw_seq ?_; refine cw_region ?_; refine wl_boxA rfl rfl fun b1 w2 hB3 hs4 hw5 => ?_; have hG6 := Ge.new (Evo.refl [] w) hs4; have hE7 := (Evo.refl [] w).then hw5; refine wl_a ?_; refine wl_nil (nrm_then ?_); refine cw_seq ?_; refine cw_region ?_; refine wl_val rfl (ex_loadBlk rfl Tryz.agg25 Tryz.size25 hB3 rfl) ?_; refine wl_call1 (vs := [_]) Tryz.goes39 rfl (ih (RRx.pers _ _ _ _ _ _ ((hE7).any X) hx) hg) rfl ?_; rintro _ w8 ⟨rfl, hw9⟩; have hE10 := hE7.then hw9; have hB11 := hw9.blk0 hB3; refine wl_val rfl (ex_notb rfl) ?_; refine wl_a ?_; refine wl_nil (nrm_then ?_); refine cw_ret (body_ret1 rfl rfl ?_); refine ⟨congrArg Value.bool ?_, hE10⟩; rw [Bool.eq_iff_iff, Bool.not_eq_true', tf_no, tf_iff]
theorem hollow_step {n : Nat} (ih : ∀ {X : List Nat} {w : World} {vs : List Value} {t : Rx} (hx : RRx n X w vs t) (hg : Good t), Calls Tryz.prog 39 #[.agg vs.toArray] w (Ret fun r w' => r = .bool (tf (Hol t)) ∧ Evo [] w w')) {X : List Nat} {w : World} {vs : List Value} {t : Rx} (hx : RRx (n + 1) X w vs t) (hg : Good t) : Calls Tryz.prog 39 #[.agg vs.toArray] w (Ret fun r w' => r = .bool (tf (Hol t)) ∧ Evo [] w w') := by
  have hx0 := hx; obtain ⟨m, ra, rc, ka, kc, hm, rfl, hrg, hk, bl1, bl2, bl3⟩ := hx.get
  obtain rfl : m = n := by omega
  have hk0 := hk; obtain ⟨_, _, hke, hkc, e1⟩ := hk; cases hke; have hn := (nodeP_iff t).1 hg.node; refine calls_of_cw (N := 33) Tryz.func39 rfl rfl rfl ?_; refine cw_seq ?_; refine cw_region ?_; refine wl_boxA rfl rfl fun b1 w1 hB2 hs3 hw4 => ?_; have hsz_b1 := hs3; have hG5 := Ge.new (Evo.refl [] w) hs3; have hE6 := (Evo.refl [] w).then hw4; refine wl_a ?_; refine wl_nil (nrm_then ?_); refine cw_seq ?_; refine cw_seq ?_; refine cw_region ?_; refine wl_val rfl (ex_fieldAddr rfl Tryz.fld25_0) ?_; refine wl_val rfl (ex_load1 rfl Tryz.agg3 (cell_nth hB2 rfl)) ?_; refine wl_nil (nrm_then ?_); refine cw_block ?_; refine cw_seq ?_; refine cw_seq ?_; refine cw_region ?_; refine wl_val rfl (ex_eql rfl rfl) ?_; refine wl_a ?_; refine wl_nil (nrm_then ?_); refine cw_if rfl (fun hc5 => ?_) (fun hc5 => ?_)
  ·skip
   refine cw_skip (nrm_then ?_); refine cw_if rfl (fun hc5 => ?_) (fun hc5 => ?_)
   ·skip
    refine cw_seq ?_; refine cw_region ?_; refine wl_a ?_; refine wl_nil (nrm_then ?_); refine cw_ret (ret_block (ret_then (body_ret1 rfl rfl ?_))); refine ⟨congrArg Value.bool ?_, hE6⟩; exact (hol_no (by omega)).symm
   ·skip
    exfalso; omega
  ·skip
   refine cw_seq ?_; refine cw_region ?_; refine wl_val rfl (ex_eql rfl rfl) ?_; refine wl_a ?_; refine wl_nil (nrm_then ?_); refine cw_if rfl (fun hc5 => ?_) (fun hc5 => ?_)
   ·skip
    refine cw_skip (nrm_then ?_); refine cw_if rfl (fun hc5 => ?_) (fun hc5 => ?_)
    ·skip
     refine cw_seq ?_; refine cw_region ?_; refine wl_a ?_; refine wl_nil (nrm_then ?_); refine cw_ret (ret_block (ret_then (body_ret1 rfl rfl ?_))); refine ⟨congrArg Value.bool ?_, hE6⟩; exact (hol_no (by omega)).symm
    ·skip
     exfalso; omega
   ·skip
    refine cw_region ?_; refine wl_val rfl (ex_eql rfl rfl) ?_; refine wl_a ?_; refine wl_nil (nrm_then ?_); refine cw_if rfl (fun hc5 => ?_) (fun hc5 => ?_)
    ·skip
     refine cw_seq ?_; refine cw_region ?_; refine wl_a ?_; refine wl_nil (nrm_then ?_); refine cw_ret (ret_block (ret_then (body_ret1 rfl rfl ?_))); refine ⟨congrArg Value.bool ?_, hE6⟩; exact (hol_no (by omega)).symm
    ·skip
     refine cw_seq ?_; refine cw_region ?_; refine wl_val rfl (ex_eql rfl rfl) ?_; refine wl_a ?_; refine wl_nil (nrm_then ?_); refine cw_if rfl (fun hc9 => ?_) (fun hc9 => ?_)
     ·skip
      refine cw_seq ?_; refine cw_region ?_; refine wl_val rfl (ex_fieldAddr rfl Tryz.fld25_8) ?_; refine wl_val rfl (ex_load1 rfl Tryz.agg23 (cell_nth hB2 rfl)) ?_; refine wl_call1 (vs := [_, _]) Tryz.goes72 rfl (contP_ok Tryz.goes83 (p := fun x => ¬ Hol x) (fun hm hx => hol1_ok ih hx (hg.kid _ hm)) (RSl.evo (RRx.pers m) ((hE6).any X) hk0) bl3) rfl ?_; rintro _ w7 ⟨rfl, hw8⟩; have hE9 := hE6.then hw8; have hB10 := hw8.blk0 hB2; refine wl_val rfl (ex_notb rfl) ?_; refine wl_a ?_; refine wl_nil (nrm_then ?_); refine cw_ret (ret_block (ret_then (body_ret1 rfl rfl ?_))); refine ⟨congrArg Value.bool ?_, hE9⟩
      rw [tf_all]; exact tf_congr (hol4 (by omega)).symm
     ·skip
      refine cw_seq ?_; refine cw_seq ?_; refine cw_region ?_; refine wl_val rfl (ex_eql rfl rfl) ?_; refine wl_a ?_; refine wl_nil (nrm_then ?_); refine cw_if rfl (fun hc15 => ?_) (fun hc15 => ?_)
      ·skip
       refine cw_skip (nrm_then ?_); refine cw_if rfl (fun hc15 => ?_) (fun hc15 => ?_)
       ·skip
        refine cw_seq ?_; refine cw_region ?_; refine wl_val rfl (ex_fieldAddr rfl Tryz.fld25_8) ?_; refine wl_val rfl (ex_load1 rfl Tryz.agg23 (cell_nth hB2 rfl)) ?_; refine wl_call1 (vs := [_, _]) Tryz.goes72 rfl (contP_ok Tryz.goes39 (p := Hol) (fun hm hx => ih hx (hg.kid _ hm)) (RSl.evo (RRx.pers m) ((hE6).any X) hk0) bl3) rfl ?_; rintro _ w11 ⟨rfl, hw12⟩; have hE13 := hE6.then hw12; have hB14 := hw12.blk0 hB2; refine wl_a ?_; refine wl_nil (nrm_then ?_); refine cw_ret (ret_block (ret_then (body_ret1 rfl rfl ?_))); refine ⟨congrArg Value.bool ?_, hE13⟩; exact tf_congr (hol57 (by omega)).symm
       ·skip
        exfalso; omega
      ·skip
       refine cw_region ?_; refine wl_val rfl (ex_eql rfl rfl) ?_; refine wl_a ?_; refine wl_nil (nrm_then ?_); refine cw_if rfl (fun hc15 => ?_) (fun hc15 => ?_)
       ·skip
        refine cw_seq ?_; refine cw_region ?_; refine wl_val rfl (ex_fieldAddr rfl Tryz.fld25_8) ?_; refine wl_val rfl (ex_load1 rfl Tryz.agg23 (cell_nth hB2 rfl)) ?_; refine wl_call1 (vs := [_, _]) Tryz.goes72 rfl (contP_ok Tryz.goes39 (p := Hol) (fun hm hx => ih hx (hg.kid _ hm)) (RSl.evo (RRx.pers m) ((hE6).any X) hk0) bl3) rfl ?_; rintro _ w15 ⟨rfl, hw16⟩; have hE17 := hE6.then hw16; have hB18 := hw16.blk0 hB2; refine wl_a ?_; refine wl_nil (nrm_then ?_); refine cw_ret (ret_block (ret_then (body_ret1 rfl rfl ?_))); refine ⟨congrArg Value.bool ?_, hE17⟩; exact tf_congr (hol57 (by omega)).symm
       ·skip
        refine cw_seq ?_; refine cw_region ?_; refine wl_val rfl (ex_eql rfl rfl) ?_; refine wl_a ?_; refine wl_nil (nrm_then ?_); refine cw_if rfl (fun hc21 => ?_) (fun hc21 => ?_)
        ·skip
         refine cw_seq ?_; refine cw_region ?_; refine wl_val rfl (ex_fieldAddr rfl Tryz.fld25_3) ?_; refine wl_val rfl (ex_load1 rfl Tryz.agg3 (cell_nth hB2 rfl)) ?_; refine wl_val rfl (ex_eql rfl rfl) ?_; refine wl_m ?_; refine wl_split (t := 26) rfl (fun hs26 => ?_) (fun hs26 => ?_)
         ·skip
          refine wl_n ?_; refine wl_n ?_; refine wl_n ?_; refine wl_n ?_; refine wl_n ?_; refine wl_pt ?_; refine wl_a ?_; refine wl_nil (nrm_then ?_); refine cw_ret (ret_block (ret_then (body_ret1 rfl rfl ?_))); refine ⟨congrArg Value.bool ?_, hE6⟩; exact (tf_iff.2 ((hol6 (by omega)).2 (.inl hs26))).symm
         ·skip
          have hl1 : t.kids.length = 1 := by have h1 := hn.rep4; have h2 := hn.grp; omega
          have hj' : 0 < t.kids.length := by omega
          obtain ⟨b5, o1, vs1, ha1, hnb1, hvl1, hc1, hrk⟩ := e1 0 hj'; have hrk0 := hrk; obtain ⟨m1, ra1, rc1, ka1, kc1, _, rfl, -⟩ := id hrk.get; refine wl_g ?_; refine wl_val rfl (ex_fieldAddr rfl Tryz.fld25_8) ?_; refine wl_g ?_; refine wl_val rfl (ex_load1 rfl Tryz.agg23 (cell_nth hB2 rfl)) ?_; refine wl_g ?_
          refine wl_val rfl (ex_indexAddrZ (n := 0) (by rw [ha1]; rfl) rfl rfl Tryz.elem23 (by omega)) ?_
          refine wl_g ?_; refine wl_val rfl (ex_loadA rfl Tryz.agg25 Tryz.size25 (vs := [_, _, _, _, _, _, _, _, _]) rfl (hc1.evo hE6 (by simp))) ?_; refine wl_g ?_; refine wl_call1 (vs := [_]) Tryz.goes39 rfl (ih (RRx.pers _ _ _ _ _ _ (hE6.mono (fun b hb => by cases hb)) hrk0) (hg.kid _ (List.getElem_mem hj'))) rfl ?_; rintro _ w19 ⟨rfl, hw20⟩; have hE21 := hE6.then hw20; have hB22 := hw20.blk0 hB2; refine wl_pf ?_; refine wl_a ?_; refine wl_nil (nrm_then ?_); refine cw_ret (ret_block (ret_then (body_ret1 rfl rfl ?_))); refine ⟨congrArg Value.bool ?_, hE21⟩
          exact tf_congr (by rw [hol6 (t := t) (by omega), one_mem hl1]; exact ⟨.inr, fun h => h.resolve_left hs26⟩)
        ·skip
         refine cw_skip (nrm_block (nrm_then ?_)); refine cw_seq ?_; refine cw_region ?_; refine wl_a ?_; refine wl_nil (nrm_then ?_); refine cw_ret (body_ret1 rfl rfl ?_); refine ⟨congrArg Value.bool ?_, hE6⟩; exact (hol_yes (by omega) (by omega)).symm
theorem hollow_ok : ∀ {n : Nat} {X : List Nat} {w : World} {vs : List Value} {t : Rx} (hx : RRx n X w vs t) (hg : Good t), Calls Tryz.prog 39 #[.agg vs.toArray] w (Ret fun r w' => r = .bool (tf (Hol t)) ∧ Evo [] w w')
  | 0, X, w, vs, t, hx, hg => hx.elim
  | n + 1, X, w, vs, t, hx, hg => hollow_step (n := n) (fun hx hg => hollow_ok hx hg) hx hg
theorem rhollow_step {n : Nat} (ih : ∀ {X : List Nat} {w : World} {vs : List Value} {t : Rx} (hx : RRx n X w vs t) (hg : Good t), Calls Tryz.prog 46 #[.agg vs.toArray] w (Ret fun r w' => r = .bool (tf (Hol t)) ∧ Evo [] w w')) {X : List Nat} {w : World} {vs : List Value} {t : Rx} (hx : RRx (n + 1) X w vs t) (hg : Good t) : Calls Tryz.prog 46 #[.agg vs.toArray] w (Ret fun r w' => r = .bool (tf (Hol t)) ∧ Evo [] w w') := by
  have hx0 := hx; obtain ⟨m, ra, rc, ka, kc, hm, rfl, hrg, hk, bl1, bl2, bl3⟩ := hx.get
  obtain rfl : m = n := by omega
  have hk0 := hk; obtain ⟨_, _, hke, hkc, e1⟩ := hk; cases hke; have hn := (nodeP_iff t).1 hg.node; refine calls_of_cw (N := 61) Tryz.func46 rfl rfl rfl ?_; refine cw_seq ?_; refine cw_region ?_; refine wl_boxA rfl rfl fun b1 w1 hB2 hs3 hw4 => ?_; have hsz_b1 := hs3; have hG5 := Ge.new (Evo.refl [] w) hs3; have hE6 := (Evo.refl [] w).then hw4; refine wl_a ?_; refine wl_nil (nrm_then ?_); refine cw_seq ?_; refine cw_seq ?_; refine cw_region ?_; refine wl_val rfl (ex_fieldAddr rfl Tryz.fld25_0) ?_; refine wl_val rfl (ex_load1 rfl Tryz.agg3 (cell_nth hB2 rfl)) ?_; refine wl_nil (nrm_then ?_); refine cw_block ?_; refine cw_seq ?_; refine cw_seq ?_; refine cw_region ?_; refine wl_val rfl (ex_eql rfl rfl) ?_; refine wl_a ?_; refine wl_nil (nrm_then ?_); refine cw_if rfl (fun hc7 => ?_) (fun hc7 => ?_)
  ·skip
   refine cw_skip (nrm_then ?_); refine cw_if rfl (fun hc7 => ?_) (fun hc7 => ?_)
   ·skip
    refine cw_seq ?_; refine cw_region ?_; refine wl_a ?_; refine wl_nil (nrm_then ?_); refine cw_ret (ret_block (ret_then (body_ret1 rfl rfl ?_))); refine ⟨congrArg Value.bool ?_, hE6⟩; exact (hol_no (by omega)).symm
   ·skip
    exfalso; omega
  ·skip
   refine cw_seq ?_; refine cw_region ?_; refine wl_val rfl (ex_eql rfl rfl) ?_; refine wl_a ?_; refine wl_nil (nrm_then ?_); refine cw_if rfl (fun hc7 => ?_) (fun hc7 => ?_)
   ·skip
    refine cw_skip (nrm_then ?_); refine cw_if rfl (fun hc7 => ?_) (fun hc7 => ?_)
    ·skip
     refine cw_seq ?_; refine cw_region ?_; refine wl_a ?_; refine wl_nil (nrm_then ?_); refine cw_ret (ret_block (ret_then (body_ret1 rfl rfl ?_))); refine ⟨congrArg Value.bool ?_, hE6⟩; exact (hol_no (by omega)).symm
    ·skip
     exfalso; omega
   ·skip
    refine cw_region ?_; refine wl_val rfl (ex_eql rfl rfl) ?_; refine wl_a ?_; refine wl_nil (nrm_then ?_); refine cw_if rfl (fun hc7 => ?_) (fun hc7 => ?_)
    ·skip
     refine cw_seq ?_; refine cw_region ?_; refine wl_a ?_; refine wl_nil (nrm_then ?_); refine cw_ret (ret_block (ret_then (body_ret1 rfl rfl ?_))); refine ⟨congrArg Value.bool ?_, hE6⟩; exact (hol_no (by omega)).symm
    ·skip
     refine cw_seq ?_; refine cw_region ?_; refine wl_val rfl (ex_eql rfl rfl) ?_; refine wl_a ?_; refine wl_nil (nrm_then ?_); refine cw_if rfl (fun hc11 => ?_) (fun hc11 => ?_)
     ·skip
      refine cw_seq ?_; refine cw_region ?_; refine wl_a ?_; refine wl_nil (nrm_then ?_); refine cw_block ?_; refine cw_loop (α := Nat) (0) (fun k => [(3, .int .i64 (k : Nat))]) [(1, _)] (fun k wr => Evo [] w1 wr ∧ (PlI t Hol k)) (fun k => t.kids.length - k) ⟨rfl, trivial⟩ ⟨rfl, trivial⟩ ⟨Evo.refl _ _, pl_zero t _⟩ ?_; rintro k wr7 ⟨hV8, hpl⟩; show CW _ _ _ _ [(3, _), (1, _)] _; have hE9 := hE6.then hV8; have hB10 := hV8.blk0 hB2; have hk9 := hpl.hk; refine cw_seq ?_; refine cw_seq ?_; refine cw_region ?_; refine wl_m ?_; refine wl_val rfl (ex_fieldAddr rfl Tryz.fld25_8) ?_; refine wl_val rfl (ex_load1 rfl Tryz.agg23 (cell_nth hB10 rfl)) ?_; refine wl_val rfl (ex_len_slice rfl Tryz.underlying23 rfl) ?_; refine wl_val rfl (ex_lss rfl rfl) ?_; refine wl_nil (nrm_then ?_); refine cw_if rfl (fun hc17 => ?_) (fun hc17 => ?_)
      ·skip
       have hj' : k < t.kids.length := by omega
       obtain ⟨b5, o1, vs1, ha1, hnb1, hvl1, hc1, hrk⟩ := e1 k hj'; have hrk0 := hrk; obtain ⟨m1, ra1, rc1, ka1, kc1, _, rfl, -⟩ := id hrk.get; refine cw_skip (nrm_then ?_); refine cw_seq ?_; refine cw_block ?_; refine cw_seq ?_; refine cw_region ?_; refine wl_val rfl (ex_fieldAddr rfl Tryz.fld25_8) ?_; refine wl_val rfl (ex_load1 rfl Tryz.agg23 (cell_nth hB10 rfl)) ?_; refine wl_m ?_; refine wl_val rfl (ex_indexAddrA rfl rfl ha1 Tryz.elem23 hj') ?_; refine wl_val rfl (ex_loadA rfl Tryz.agg25 Tryz.size25 (vs := [_, _, _, _, _, _, _, _, _]) rfl (hc1.evo hE9 (by simp))) ?_; refine wl_call1 (vs := [_]) Tryz.goes46 rfl (ih (RRx.pers _ _ _ _ _ _ (hE9.mono (fun b hb => by cases hb)) hrk0) (hg.kid _ (List.getElem_mem hj'))) rfl ?_; rintro _ w11 ⟨rfl, hw12⟩; have hE13 := hE9.then hw12; have hE14 := hV8.then hw12; have hB15 := hw12.blk0 hB10; refine wl_val rfl (ex_notb rfl) ?_; refine wl_nil (nrm_then ?_); refine cw_ifb rfl (fun hc26 => ?_) (fun hc26 => ?_)
       ·skip
        refine cw_seq ?_; refine cw_region ?_; refine wl_a ?_; refine wl_nil (nrm_then ?_); refine cw_ret (ret_block (ret_then (ret_then (ret_block (ret_block (ret_then (body_ret1 rfl rfl ?_))))))); refine ⟨congrArg Value.bool ?_, hE13⟩
        exact (tf_no.2 (fun h => by have h1 := (hol4 (by omega)).1 h _ (List.getElem_mem hj'); rw [tf_iff.2 h1] at hc26; cases hc26)).symm
       ·skip
        refine cw_skip (nrm_block (nrm_then ?_)); refine cw_region ?_; refine wl_m ?_; refine wl_val rfl (ex_add_i64 rfl rfl (by omega) (by omega)) ?_; refine wl_a ?_; refine wl_nil (nrm_same ?_); refine ⟨k + 1, ?_, ⟨rfl, trivial⟩, ⟨rfl, trivial⟩, hE14, ?_⟩
        · omega
        ·skip
         exact pl_step hpl hj' (tf_iff.1 (by simpa using hc26))
      ·skip
       refine cw_exit (ex_then (ex_then (ex_here (nrm_block (nrm_then ?_))))); refine cw_seq ?_; refine cw_region ?_; refine wl_a ?_; refine wl_nil (nrm_then ?_); refine cw_ret (body_ret1 rfl rfl ?_); refine ⟨congrArg Value.bool ?_, hE9⟩; exact (tf_iff.2 ((hol4 (by omega)).2 (pl_end hpl (by omega)))).symm
     ·skip
      refine cw_seq ?_; refine cw_region ?_; refine wl_val rfl (ex_eql rfl rfl) ?_; refine wl_a ?_; refine wl_nil (nrm_then ?_); refine cw_if rfl (fun hc27 => ?_) (fun hc27 => ?_)
      ·skip
       refine cw_seq ?_; refine cw_seq ?_; refine cw_region ?_; refine wl_a ?_; refine wl_nil (nrm_then ?_); refine cw_block ?_; refine cw_loop (α := Nat) (0) (fun k => [(4, .int .i64 (k : Nat))]) [(1, _)] (fun k wr => Evo [] w1 wr ∧ (PlI t (fun x => ¬ Hol x) k)) (fun k => t.kids.length - k) ⟨rfl, trivial⟩ ⟨rfl, trivial⟩ ⟨Evo.refl _ _, pl_zero t _⟩ ?_; rintro k wr16 ⟨hV17, hpl⟩; show CW _ _ _ _ [(4, _), (1, _)] _; have hE18 := hE6.then hV17; have hB19 := hV17.blk0 hB2; have hk9 := hpl.hk; refine cw_seq ?_; refine cw_seq ?_; refine cw_region ?_; refine wl_m ?_; refine wl_val rfl (ex_fieldAddr rfl Tryz.fld25_8) ?_; refine wl_val rfl (ex_load1 rfl Tryz.agg23 (cell_nth hB19 rfl)) ?_; refine wl_val rfl (ex_len_slice rfl Tryz.underlying23 rfl) ?_; refine wl_val rfl (ex_lss rfl rfl) ?_; refine wl_nil (nrm_then ?_); refine cw_if rfl (fun hc33 => ?_) (fun hc33 => ?_)
       ·skip
        have hj' : k < t.kids.length := by omega
        obtain ⟨b5, o1, vs1, ha1, hnb1, hvl1, hc1, hrk⟩ := e1 k hj'; have hrk0 := hrk; obtain ⟨m1, ra1, rc1, ka1, kc1, _, rfl, -⟩ := id hrk.get; refine cw_skip (nrm_then ?_); refine cw_seq ?_; refine cw_block ?_; refine cw_seq ?_; refine cw_region ?_; refine wl_val rfl (ex_fieldAddr rfl Tryz.fld25_8) ?_; refine wl_val rfl (ex_load1 rfl Tryz.agg23 (cell_nth hB19 rfl)) ?_; refine wl_m ?_; refine wl_val rfl (ex_indexAddrA rfl rfl ha1 Tryz.elem23 hj') ?_; refine wl_val rfl (ex_loadA rfl Tryz.agg25 Tryz.size25 (vs := [_, _, _, _, _, _, _, _, _]) rfl (hc1.evo hE18 (by simp))) ?_; refine wl_call1 (vs := [_]) Tryz.goes46 rfl (ih (RRx.pers _ _ _ _ _ _ (hE18.mono (fun b hb => by cases hb)) hrk0) (hg.kid _ (List.getElem_mem hj'))) rfl ?_; rintro _ w20 ⟨rfl, hw21⟩; have hE22 := hE18.then hw21; have hE23 := hV17.then hw21; have hB24 := hw21.blk0 hB19; refine wl_nil (nrm_then ?_); refine cw_ifb rfl (fun hc41 => ?_) (fun hc41 => ?_)
        ·skip
         refine cw_seq ?_; refine cw_region ?_; refine wl_a ?_; refine wl_nil (nrm_then ?_); refine cw_ret (ret_block (ret_then (ret_then (ret_block (ret_then (ret_block (ret_then (body_ret1 rfl rfl ?_)))))))); refine ⟨congrArg Value.bool ?_, hE22⟩; exact (tf_iff.2 ((hol57 (by omega)).2 ⟨_, List.getElem_mem hj', tf_iff.1 hc41⟩)).symm
        ·skip
         refine cw_skip (nrm_block (nrm_then ?_)); refine cw_region ?_; refine wl_m ?_; refine wl_val rfl (ex_add_i64 rfl rfl (by omega) (by omega)) ?_; refine wl_a ?_; refine wl_nil (nrm_same ?_); refine ⟨k + 1, ?_, ⟨rfl, trivial⟩, ⟨rfl, trivial⟩, hE23, ?_⟩
         · omega
         ·skip
          exact pl_step hpl hj' (tf_no.1 hc41)
       ·skip
        refine cw_exit (ex_then (ex_then (ex_here (nrm_then ?_)))); refine cw_seq ?_; refine cw_region ?_; refine wl_a ?_; refine wl_nil (nrm_then ?_); refine cw_ret (ret_block (ret_then (body_ret1 rfl rfl ?_))); refine ⟨congrArg Value.bool ?_, hE18⟩
        exact (tf_no.2 (fun h => by obtain ⟨x, h1, h2⟩ := (hol57 (by omega)).1 h; exact pl_end hpl (by omega) x h1 h2)).symm
      ·skip
       refine cw_seq ?_; refine cw_region ?_; refine wl_val rfl (ex_eql rfl rfl) ?_; refine wl_a ?_; refine wl_nil (nrm_then ?_); refine cw_if rfl (fun hc42 => ?_) (fun hc42 => ?_)
       ·skip
        refine cw_seq ?_; refine cw_region ?_; refine wl_val rfl (ex_fieldAddr rfl Tryz.fld25_3) ?_; refine wl_val rfl (ex_load1 rfl Tryz.agg3 (cell_nth hB2 rfl)) ?_; refine wl_val rfl (ex_eql rfl rfl) ?_; refine wl_m ?_; refine wl_split (t := 47) rfl (fun hs47 => ?_) (fun hs47 => ?_)
        ·skip
         refine wl_n ?_; refine wl_n ?_; refine wl_n ?_; refine wl_n ?_; refine wl_n ?_; refine wl_pt ?_; refine wl_a ?_; refine wl_nil (nrm_then ?_); refine cw_ret (ret_block (ret_then (body_ret1 rfl rfl ?_))); refine ⟨congrArg Value.bool ?_, hE6⟩; exact (tf_iff.2 ((hol6 (by omega)).2 (.inl hs47))).symm
        ·skip
         have hl1 : t.kids.length = 1 := by have h1 := hn.rep4; have h2 := hn.grp; omega
         have hj' : 0 < t.kids.length := by omega
         obtain ⟨b5, o1, vs1, ha1, hnb1, hvl1, hc1, hrk⟩ := e1 0 hj'; have hrk0 := hrk; obtain ⟨m1, ra1, rc1, ka1, kc1, _, rfl, -⟩ := id hrk.get; refine wl_g ?_; refine wl_val rfl (ex_fieldAddr rfl Tryz.fld25_8) ?_; refine wl_g ?_; refine wl_val rfl (ex_load1 rfl Tryz.agg23 (cell_nth hB2 rfl)) ?_; refine wl_g ?_
         refine wl_val rfl (ex_indexAddrZ (n := 0) (by rw [ha1]; rfl) rfl rfl Tryz.elem23 (by omega)) ?_
         refine wl_g ?_; refine wl_val rfl (ex_loadA rfl Tryz.agg25 Tryz.size25 (vs := [_, _, _, _, _, _, _, _, _]) rfl (hc1.evo hE6 (by simp))) ?_; refine wl_g ?_; refine wl_call1 (vs := [_]) Tryz.goes46 rfl (ih (RRx.pers _ _ _ _ _ _ (hE6.mono (fun b hb => by cases hb)) hrk0) (hg.kid _ (List.getElem_mem hj'))) rfl ?_; rintro _ w25 ⟨rfl, hw26⟩; have hE27 := hE6.then hw26; have hB28 := hw26.blk0 hB2; refine wl_pf ?_; refine wl_a ?_; refine wl_nil (nrm_then ?_); refine cw_ret (ret_block (ret_then (body_ret1 rfl rfl ?_))); refine ⟨congrArg Value.bool ?_, hE27⟩
         exact tf_congr (by rw [hol6 (t := t) (by omega), one_mem hl1]; exact ⟨.inr, fun h => h.resolve_left hs47⟩)
       ·skip
        refine cw_seq ?_; refine cw_region ?_; refine wl_val rfl (ex_eql rfl rfl) ?_; refine wl_a ?_; refine wl_nil (nrm_then ?_); refine cw_if rfl (fun hc54 => ?_) (fun hc54 => ?_)
        ·skip
         have hl1 : t.kids.length = 1 := by have h1 := hn.rep4; have h2 := hn.grp; omega
         have hj' : 0 < t.kids.length := by omega
         obtain ⟨b5, o1, vs1, ha1, hnb1, hvl1, hc1, hrk⟩ := e1 0 hj'; have hrk0 := hrk; obtain ⟨m1, ra1, rc1, ka1, kc1, _, rfl, -⟩ := id hrk.get; refine cw_seq ?_; refine cw_region ?_; refine wl_val rfl (ex_fieldAddr rfl Tryz.fld25_8) ?_; refine wl_val rfl (ex_load1 rfl Tryz.agg23 (cell_nth hB2 rfl)) ?_
         refine wl_val rfl (ex_indexAddrZ (n := 0) (by rw [ha1]; rfl) rfl rfl Tryz.elem23 (by omega)) ?_
         refine wl_val rfl (ex_loadA rfl Tryz.agg25 Tryz.size25 (vs := [_, _, _, _, _, _, _, _, _]) rfl (hc1.evo hE6 (by simp))) ?_; refine wl_call1 (vs := [_]) Tryz.goes46 rfl (ih (RRx.pers _ _ _ _ _ _ (hE6.mono (fun b hb => by cases hb)) hrk0) (hg.kid _ (List.getElem_mem hj'))) rfl ?_; rintro _ w29 ⟨rfl, hw30⟩; have hE31 := hE6.then hw30; have hB32 := hw30.blk0 hB2; refine wl_a ?_; refine wl_nil (nrm_then ?_); refine cw_ret (ret_block (ret_then (body_ret1 rfl rfl ?_))); refine ⟨congrArg Value.bool ?_, hE31⟩; exact tf_congr (by rw [hol57 (t := t) (by omega), one_mem hl1])
        ·skip
         refine cw_skip (nrm_block (nrm_then ?_)); refine cw_seq ?_; refine cw_region ?_; refine wl_a ?_; refine wl_nil (nrm_then ?_); refine cw_ret (body_ret1 rfl rfl ?_); refine ⟨congrArg Value.bool ?_, hE6⟩; exact (hol_yes (by omega) (by omega)).symm
theorem rhollow_ok : ∀ {n : Nat} {X : List Nat} {w : World} {vs : List Value} {t : Rx} (hx : RRx n X w vs t) (hg : Good t), Calls Tryz.prog 46 #[.agg vs.toArray] w (Ret fun r w' => r = .bool (tf (Hol t)) ∧ Evo [] w w')
  | 0, X, w, vs, t, hx, hg => hx.elim
  | n + 1, X, w, vs, t, hx, hg => rhollow_step (n := n) (fun hx hg => rhollow_ok hx hg) hx hg
theorem Hollow_ok {n : Nat} {w : World} {vs : List Value} {t : Rx} (hx : RRx n [] w vs t) : Calls Tryz.prog 12 #[.agg vs.toArray] w (Ret fun r w' => r = .bool (tf (t.Ok ∧ Hol t)) ∧ Evo [] w w') := by
  have hx0 := hx; obtain ⟨m, ra, rc, ka, kc, hm, rfl, hrg, hk, bl1, bl2, bl3⟩ := hx.get; refine calls_of_cw (N := 9) Tryz.func12 rfl rfl rfl ?_; refine cw_seq ?_; refine cw_region ?_; refine wl_boxA rfl rfl fun b1 w2 hB3 hs4 hw5 => ?_; have hG6 := Ge.new (Evo.refl [] w) hs4; have hE7 := (Evo.refl [] w).then hw5; refine wl_a ?_; refine wl_nil (nrm_then ?_); refine cw_seq ?_; refine cw_region ?_; refine wl_val rfl (ex_loadBlk rfl Tryz.agg25 Tryz.size25 hB3 rfl) ?_; refine wl_call1 (vs := [_]) Tryz.goes38 rfl (valid_ok (RRx.pers _ _ _ _ _ _ hE7 hx0)) rfl ?_; rintro _ w8 ⟨vb, rfl, hvb, hw9⟩; have hE10 := hE7.then hw9; have hB11 := hw9.blk0 hB3; refine wl_m ?_; refine wl_splitb (t := 5) rfl (fun hs5 => ?_) (fun hs5 => ?_)
  ·skip
   refine wl_g ?_; refine wl_val rfl (ex_loadBlk rfl Tryz.agg25 Tryz.size25 hB11 rfl) ?_; refine wl_g ?_; refine wl_call1 (vs := [_]) Tryz.goes39 rfl (hollow_ok (RRx.pers _ _ _ _ _ _ hE10 hx0) (hvb.1 hs5).good) rfl ?_; rintro _ w12 ⟨rfl, hw13⟩; have hE14 := hE10.then hw13; have hB15 := hw13.blk0 hB11; refine wl_pt ?_; refine wl_a ?_; refine wl_nil (nrm_then ?_); refine cw_ret (body_ret1 rfl rfl ?_); refine ⟨congrArg Value.bool ?_, hE14⟩; exact tf_congr ⟨fun h => ⟨hvb.1 hs5, h⟩, fun h => h.2⟩
  ·skip
   refine wl_n ?_; refine wl_n ?_; refine wl_pf ?_; refine wl_a ?_; refine wl_nil (nrm_then ?_); refine cw_ret (body_ret1 rfl rfl ?_); refine ⟨congrArg Value.bool ?_, hE10⟩
   exact (tf_no.2 (fun h => by rw [hvb.2 h.1] at hs5; cases hs5)).symm
theorem rHollow_ok {n : Nat} {w : World} {vs : List Value} {t : Rx} (hx : RRx n [] w vs t) : Calls Tryz.prog 16 #[.agg vs.toArray] w (Ret fun r w' => r = .bool (tf (t.Ok ∧ Hol t)) ∧ Evo [] w w') := by
  have hx0 := hx; obtain ⟨m, ra, rc, ka, kc, hm, rfl, hrg, hk, bl1, bl2, bl3⟩ := hx.get; refine calls_of_cw (N := 9) Tryz.func16 rfl rfl rfl ?_; refine cw_seq ?_; refine cw_region ?_; refine wl_boxA rfl rfl fun b1 w2 hB3 hs4 hw5 => ?_; have hG6 := Ge.new (Evo.refl [] w) hs4; have hE7 := (Evo.refl [] w).then hw5; refine wl_a ?_; refine wl_nil (nrm_then ?_); refine cw_seq ?_; refine cw_region ?_; refine wl_val rfl (ex_loadBlk rfl Tryz.agg25 Tryz.size25 hB3 rfl) ?_; refine wl_call1 (vs := [_]) Tryz.goes41 rfl (refValid_ok (RRx.pers _ _ _ _ _ _ hE7 hx0)) rfl ?_; rintro _ w8 ⟨vb, rfl, hvb, hw9⟩; have hE10 := hE7.then hw9; have hB11 := hw9.blk0 hB3; refine wl_m ?_; refine wl_splitb (t := 5) rfl (fun hs5 => ?_) (fun hs5 => ?_)
  ·skip
   refine wl_g ?_; refine wl_val rfl (ex_loadBlk rfl Tryz.agg25 Tryz.size25 hB11 rfl) ?_; refine wl_g ?_; refine wl_call1 (vs := [_]) Tryz.goes46 rfl (rhollow_ok (RRx.pers _ _ _ _ _ _ hE10 hx0) (hvb.1 hs5).good) rfl ?_; rintro _ w12 ⟨rfl, hw13⟩; have hE14 := hE10.then hw13; have hB15 := hw13.blk0 hB11; refine wl_pt ?_; refine wl_a ?_; refine wl_nil (nrm_then ?_); refine cw_ret (body_ret1 rfl rfl ?_); refine ⟨congrArg Value.bool ?_, hE14⟩; exact tf_congr ⟨fun h => ⟨hvb.1 hs5, h⟩, fun h => h.2⟩
  ·skip
   refine wl_n ?_; refine wl_n ?_; refine wl_pf ?_; refine wl_a ?_; refine wl_nil (nrm_then ?_); refine cw_ret (body_ret1 rfl rfl ?_); refine ⟨congrArg Value.bool ?_, hE10⟩
   exact (tf_no.2 (fun h => by rw [hvb.2 h.1] at hs5; cases hs5)).symm
end Go.Proofs.YtgnpldackjbdjaaGreat
namespace Go.Proofs.YtgnpldackjbdjaaGreat
open Go.Proofs
open Go.W Go.RowKit
attribute [local irreducible] Decidable.decide
set_option linter.unusedSimpArgs false
set_option linter.unusedVariables false
theorem offs_past {s : ByteArray} {N : Nat} (hU : Utf s N) : ∀ j, offs s (N + j) = s.size
  | 0 => hU.1
  | j + 1 => by
    show offs s (N + j) + (nextR s (offs s (N + j))).2 = s.size
    rw [offs_past hU j, next_out (Nat.le_refl _)]
    rfl
theorem comm_any {x y : List Int} (hx : VR x) (hy : VR y) {k e : Nat} (he : e = offs (txt x) k) (h1 : e ≤ (txt y).size) (h2 : (txt x).extract 0 e = (txt y).extract 0 e)
    (h3 : (∃ M, Utf (txt x) M) → e = (txt x).size ∨ (nextR (txt y) e).1 ≠ (nextR (txt x) e).1) : (txt x).extract 0 e = txt (cpre x y) := by
  have hU := (utf_txt hx).1
  have h4 := h3 ⟨_, hU⟩
  by_cases hk : k ≤ x.length
  · exact comm_eq hx hy hk he h1 h2 h4
  · have h5 := offs_past hU (k - x.length)
    rw [show x.length + (k - x.length) = k by omega] at h5
    exact comm_eq hx hy (Nat.le_refl _) (by rw [he, h5]; exact hU.1.symm) h1 h2 h4
theorem esz_pos2 {t : Rx} (h : t.kind = 2) : 1 ≤ t.esz := by have := esz0 (t := t) (by omega); omega
theorem repH_len {t : Rx} (hk : t.kind = 6) (h6 : 0 ≤ t.min) (h63 : t.max = -1 ∨ t.min ≤ t.max) {h : List Int × Bool} (hh : h.1.length ≤ eszs t.kids) : (repH t.min t.max h).1.length ≤ t.esz := by
  unfold repH
  split
  · exact Nat.zero_le _
  split
  · exact Nat.zero_le _
  split
  · have := rep_kid hk h6 h63 (by assumption); omega
  · have h1 := rep_le hk h6 h63 (h := 4 * h.1.length) (by omega)
    have e : (List.replicate t.min.toNat h.1).flatten.length = t.min.toNat * h.1.length := by simp
    have h2 := h1.1
    have h3 : t.min.toNat * (4 * h.1.length) = 4 * (t.min.toNat * h.1.length) := Nat.mul_left_comm ..
    show (List.replicate t.min.toNat h.1).flatten.length ≤ t.esz
    omega
mutual
theorem headR_len : ∀ t : Rx, Good t → (headR t).1.length ≤ t.esz
  | .mk k r g mn mx lz cp nm ks, hg => by
    have hn := (nodeP_iff _).1 hg.node
    have hkids : ∀ x, x ∈ ks → Good x := hg.kid
    have h1 := headC_len ks hkids []
    have h2 := headB_len ks hkids
    have h3 := headK_len ks hkids
    rw [headR_eq]
    split
    · rename_i hk
      split
      · exact esz_pos2 hk
      · exact Nat.zero_le _
    split
    · exact Nat.zero_le _
    split
    · rename_i hk
      have e7 := esz7 hk
      exact Nat.le_trans h3 (by show eszs ks ≤ _; have : (eszs ks : Int) = eszs (Rx.mk k r g mn mx lz cp nm ks).kids := rfl; omega)
    split
    · rename_i hk
      have e4 := esz4 hk
      exact Nat.le_trans h1 (by show 0 + eszs ks ≤ _; have : (eszs ks : Int) = eszs (Rx.mk k r g mn mx lz cp nm ks).kids := rfl; omega)
    split
    · rename_i hk
      have hl := hn.two (.inr hk)
      have e5 := esz5 hk (by omega)
      exact Nat.le_trans h2 (by show eszs ks ≤ _; have : (eszs ks : Int) = eszs (Rx.mk k r g mn mx lz cp nm ks).kids := rfl; omega)
    split
    · rename_i hk
      exact repH_len hk (hn.rep1 hk) (by have := hn.rep3 hk; omega) h3
    · exact Nat.zero_le _
theorem headK_len : ∀ l : List Rx, (∀ x, x ∈ l → Good x) → (headK l).1.length ≤ eszs l
  | [], _ => Nat.zero_le _
  | x :: l, h => by
    rw [headK, eszs]
    have := headR_len x (h x (List.mem_cons_self ..))
    omega
theorem headC_len : ∀ (l : List Rx), (∀ x, x ∈ l → Good x) → ∀ b, (headC l b).1.length ≤ b.length + eszs l
  | [], _, b => by rw [headC]; exact Nat.le_add_right _ _
  | x :: l, h, b => by
    have h1 := headR_len x (h x (List.mem_cons_self ..))
    have h2 := headC_len l (fun y hy => h y (List.mem_cons_of_mem _ hy)) (b ++ (headR x).1)
    rw [headC, eszs]
    rw [List.length_append] at h2
    split
    · omega
    · show (b ++ (headR x).1).length ≤ _
      rw [List.length_append]; omega
theorem headB_len : ∀ l : List Rx, (∀ x, x ∈ l → Good x) → (headB l).1.length ≤ eszs l
  | [], _ => Nat.zero_le _
  | x :: l, h => by
    rw [headB, eszs]
    have h1 := headR_len x (h x (List.mem_cons_self ..))
    have h2 := headA_len l (headR x)
    omega
theorem headA_len : ∀ (l : List Rx) (h : List Int × Bool), (headA l h).1.length ≤ h.1.length
  | [], h => by rw [headA]; exact Nat.le_refl _
  | x :: l, h => by
    rw [headA]
    exact Nat.le_trans (headA_len l _) (cpre_len _ _)
end
theorem head_sz {t : Rx} (hg : Good t) : (txt (headR t).1).size ≤ 4 * t.esz := by have h1 := headR_len t hg; have h2 := txt_len (headR t).1; omega
abbrev hv (h : List Int × Bool) : Value := .agg #[.string (txt h.1), .bool h.2]
abbrev dat (s : ByteArray) : List UInt8 := s.data.toList
theorem dat_app (a b : ByteArray) : dat a ++ dat b = dat (a ++ b) := by simp [dat]
theorem dat_len (s : ByteArray) : (dat s).length = s.size := rfl
theorem hv_lit {t : Rx} (hk : t.kind = 2) : hv (headR t) = .agg #[.string (bstr (formB t.r)), .bool (decide ((if IsR t.r then (0 : Int) else 12) = 0))] := by
  rw [headR_eq, if_pos hk]
  by_cases h : IsR t.r
  · rw [if_pos h, if_pos h]; simp [hv, txt, frm]
  · rw [if_neg h, if_neg h, formB_no h, show decide ((12 : Int) = 0) = false from decide_eq_false (by omega)]; rfl
theorem hv_cls {t : Rx} (hk : t.kind = 3) : headR t = ([], false) := by rw [headR_eq, if_neg (by omega), if_pos hk]
theorem hv_grp {t : Rx} (hk : t.kind = 7) (h0 : 0 < t.kids.length) : headR t = headR t.kids[0] := by rw [headR_eq, if_neg (by omega), if_neg (by omega), if_pos hk, headK_one h0]
theorem hv_cat {t : Rx} (hk : t.kind = 4) : headR t = headC t.kids [] := by rw [headR_eq, if_neg (by omega), if_neg (by omega), if_neg (by omega), if_pos hk]
theorem hv_alt {t : Rx} (hk : t.kind = 5) : headR t = headB t.kids := by rw [headR_eq, if_neg (by omega), if_neg (by omega), if_neg (by omega), if_neg (by omega), if_pos hk]
theorem hv_rep {t : Rx} (hk : t.kind = 6) (h0 : 0 < t.kids.length) : headR t = repH t.min t.max (headR t.kids[0]) := by rw [headR_eq, if_neg (by omega), if_neg (by omega), if_neg (by omega), if_neg (by omega), if_neg (by omega), if_pos hk, headK_one h0]
theorem hv_eps {t : Rx} (hk : t.kind = 1 ∨ 8 ≤ t.kind) : headR t = ([], true) := by rw [headR_eq, if_neg (by omega), if_neg (by omega), if_neg (by omega), if_neg (by omega), if_neg (by omega), if_neg (by omega)]
theorem dec_txt {x y : List Int} (hx : VR x) (hy : VR y) : decide (x = y) = decide (txt x = txt y) := decide_eq_decide.2 (txt_eq_iff hx hy).symm
structure CxG where
  k : Nat
  b : List Int
  ob : Option Nat
structure CxI (t : Rx) (wr : World) (b2 b5 : Nat) (x : CxG) : Prop where
  hk : x.k ≤ t.kids.length
  h2 : wr.heap[b2]? = some (.cells #[.string nob, .bool false] 72 (0, 0))
  bd : BdAt wr b5 (dat (txt x.b)) x.ob
  ge : ∀ g, x.ob = some g → b5 ≤ g
  eq : headC (t.kids.drop x.k) x.b = headC t.kids []
  len : x.b.length ≤ eszs (t.kids.take x.k)
structure AxG where
  k : Nat
  h : List Int
  x : Bool
structure AxI (t : Rx) (wr : World) (b2 b9 : Nat) (y : AxG) : Prop where
  hk : y.k + 1 ≤ t.kids.length
  h2 : wr.heap[b2]? = some (.cells #[.string nob, .bool false] 72 (0, 0))
  h9 : wr.heap[b9]? = some (.cells #[.string (txt y.h), .bool y.x] 72 (0, 0))
  vr : VR y.h
  eq : headA (t.kids.drop (y.k + 1)) (y.h, y.x) = headB t.kids
  len : y.h.length ≤ eszs t.kids
set_option maxHeartbeats 4000000 in
theorem hrepx_step {n : Nat} (ih : ∀ {X : List Nat} {w : World} {vs : List Value} {t : Rx} (hx : RRx n X w vs t) (hg : Good t) (hl : t.esz ≤ 9999), Calls Tryz.prog 37 #[.agg vs.toArray] w (Ret fun v w' => v = hv (headR t) ∧ Evo [] w w')) {X : List Nat} {w : World} {vs : List Value} {t : Rx} (hx : RRx (n + 1) X w vs t) (hg : Good t) (hl : t.esz ≤ 9999) (h6 : t.kind = 6) : Calls Tryz.prog 81 #[.agg vs.toArray] w (Ret fun v w' => v = hv (headR t) ∧ Evo [] w w') := by
  have hx0 := hx; obtain ⟨m, ra, rc, ka, kc, hm, rfl, hrg, hk, bl1, bl2, bl3⟩ := hx.get
  obtain rfl : m = n := by omega
  obtain ⟨_, _, hke, hkc, e1⟩ := hk; cases hke; have hn := (nodeP_iff t).1 hg.node; have g6 := hn.rep1 h6; have g62 := hn.rep2 h6; have g63 := hn.rep3 h6
  have hl1 : t.kids.length = 1 := by have h1 := hn.rep4; omega
  have hj' : 0 < t.kids.length := by omega
  have hvr := headR_vr t.kids[0]; refine calls_of_cw (N := 46) Tryz.func81 rfl rfl rfl ?_; refine cw_seq ?_; refine cw_region ?_; refine wl_boxA rfl rfl fun b1 w2 hB3 hs4 hw5 => ?_; have hG6 := Ge.new (Evo.refl [] w) hs4; have hE7 := (Evo.refl [] w).then hw5; refine wl_alloc rfl Tryz.zero72 fun b2 w8 hB9 hs10 hw11 => ?_; have hsz_b2 := hs10; have hA12 := Apart.new (Lt.blk hB3) hs10; have hG13 := Ge.new hE7 hs10; have hE14 := hE7.then hw11; have hB15 := hw11.blk0 hB3; refine wl_nil (nrm_then ?_); refine cw_seq ?_; refine cw_seq ?_; refine cw_region ?_; refine wl_val rfl (ex_fieldAddr rfl Tryz.fld25_4) ?_; refine wl_val rfl (ex_load1 rfl Tryz.agg3 (cell_nth hB15 rfl)) ?_; refine wl_val rfl (ex_eql rfl rfl) ?_; refine wl_nil (nrm_then ?_); refine cw_if rfl (fun hc6 => ?_) (fun hc6 => ?_)
  ·skip
   refine cw_seq ?_; refine cw_region ?_; refine wl_val rfl (ex_build (vs := [(1, _)]) Tryz.build72 rfl (cells := [_, _]) rfl) ?_; refine wl_storeBlk rfl rfl Tryz.size72 hB9 rfl rfl ⟨by first | rfl | assumption, by first | rfl | assumption, trivial⟩ fun w16 hB17 hw18 => ?_; have hE19 := hE14.step hw18 hG13.mem1; have hB20 := hw18.blk hB15 hA12.nmem1
   try simp only [List.setIfInBounds_toArray, List.set_cons_zero, List.set_cons_succ, Nat.reduceAdd, Nat.zero_add, Nat.add_zero] at hB17
   refine wl_nil (nrm_then ?_); refine cw_ret (ret_then (body_retC1 rfl (ResOk.cellA rfl Tryz.agg72 Tryz.size72 hB17 rfl) ?_)); refine ⟨?_, hE19⟩; rw [hv_rep h6 hj', repH, if_pos (by omega)]
   rfl
  ·skip
   refine cw_skip (nrm_then ?_); refine cw_seq ?_; refine cw_region ?_; obtain ⟨b1, o1, vs1, ha1, hb1, hvl1, hc1, hrk⟩ := e1 0 hj'; obtain ⟨m1, ra1, rc1, ka1, kc1, rfl, rfl, -⟩ := id hrk.get; have he1 := eszs_one hl1; have hkz := rep_kid h6 g6 (by omega) (by omega)
   have hkk : t.kids[0].esz ≤ 9999 := by omega
   have hsz := head_sz (hg.kid _ (List.getElem_mem hj'))
   have hsz2 : (txt (headR t.kids[0]).1).size ≤ 100000 := by omega
   refine wl_val rfl (ex_fieldAddr rfl Tryz.fld25_8) ?_; refine wl_val rfl (ex_load1 rfl Tryz.agg23 (cell_nth hB15 rfl)) ?_
   refine wl_val rfl (ex_indexAddrZ (n := 0) (by rw [ha1]; rfl) rfl rfl Tryz.elem23 (by omega)) ?_
   refine wl_val rfl (ex_loadA rfl Tryz.agg25 Tryz.size25 (vs := [_, _, _, _, _, _, _, _, _]) rfl (hc1.evo hE14 (by simp))) ?_; refine wl_call1 (vs := [_]) Tryz.goes37 rfl (ih (RRx.pers _ _ _ _ _ _ (hE14.mono (fun b hb => by cases hb)) hrk) (hg.kid _ (List.getElem_mem hj')) hkk) rfl ?_; rintro _ w21 ⟨rfl, hw22⟩; have hE23 := hE14.then hw22; have hB24 := hw22.blk0 hB15; have hB25 := hw22.blk0 hB9; refine wl_alloc rfl Tryz.zero72 fun b3 w26 hB27 hs28 hw29 => ?_; have hsz_b3 := hs28; have hA30 := Apart.new (Lt.blk hB24) hs28; have hA31 := Apart.new (Lt.blk hB25) hs28; have hG32 := Ge.new hE23 hs28; have hE33 := hE23.then hw29; have hB34 := hw29.blk0 hB24; have hB35 := hw29.blk0 hB25; refine wl_storeBlk rfl rfl Tryz.size72 hB27 rfl rfl ⟨by first | rfl | assumption, by first | rfl | assumption, trivial⟩ fun w36 hB37 hw38 => ?_; have hE39 := hE33.step hw38 hG32.mem1; have hB40 := hw38.blk hB34 hA30.nmem1; have hB41 := hw38.blk hB35 hA31.nmem1
   try simp only [List.setIfInBounds_toArray, List.set_cons_zero, List.set_cons_succ, Nat.reduceAdd, Nat.zero_add, Nat.add_zero] at hB37
   refine wl_nil (nrm_then ?_); refine cw_seq ?_; refine cw_block ?_; refine cw_seq ?_; refine cw_region ?_; refine wl_val rfl (ex_fieldAddr rfl Tryz.fld25_3) ?_; refine wl_val rfl (ex_load1 rfl Tryz.agg3 (cell_nth hB40 rfl)) ?_; refine wl_val rfl (ex_eql rfl rfl) ?_; refine wl_a ?_; refine wl_nil (nrm_then ?_); refine cw_if rfl (fun hc13 => ?_) (fun hc13 => ?_)
   ·skip
    refine cw_seq ?_; refine cw_region ?_; refine wl_val rfl (ex_fieldAddr rfl Tryz.fld72_1) ?_; refine wl_val rfl (ex_load1 rfl Tryz.agg4 (cell_nth hB37 rfl)) ?_; refine wl_m ?_; refine wl_splitb (t := 19) rfl (fun hs19 => ?_) (fun hs19 => ?_)
    ·skip
     refine wl_g ?_; refine wl_val rfl (ex_fieldAddr rfl Tryz.fld72_0) ?_; refine wl_g ?_; refine wl_val rfl (ex_load1 rfl Tryz.agg9 (cell_nth hB37 rfl)) ?_; refine wl_g ?_; refine wl_val rfl (ex_eqs rfl rfl) ?_; refine wl_pt ?_; refine wl_val rfl (ex_build (vs := [(1, _)]) Tryz.build72 rfl (cells := [_, _]) rfl) ?_; refine wl_storeBlk rfl rfl Tryz.size72 hB41 rfl rfl ⟨by first | rfl | assumption, by first | rfl | assumption, trivial⟩ fun w42 hB43 hw44 => ?_; have hE45 := hE39.step hw44 hG13.mem1; have hB46 := hw44.blk hB40 hA12.nmem1; have hB47 := hw44.blk hB37 hA31.symm.nmem1
     try simp only [List.setIfInBounds_toArray, List.set_cons_zero, List.set_cons_succ, Nat.reduceAdd, Nat.zero_add, Nat.add_zero] at hB43
     refine wl_nil (nrm_then ?_); refine cw_ret (ret_block (ret_then (body_retC1 rfl (ResOk.cellA rfl Tryz.agg72 Tryz.size72 hB43 rfl) ?_))); refine ⟨?_, hE45⟩; rw [hv_rep h6 hj', repH, if_neg (by omega), if_pos (by omega)]
     first | (rw [hs19, Bool.true_and, decide_eq_decide.2 (txt_nob hvr).symm]; rfl) | (rw [hs19, Bool.false_and]; rfl)
    ·skip
     refine wl_n ?_; refine wl_n ?_; refine wl_n ?_; refine wl_pf ?_; refine wl_val rfl (ex_build (vs := [(1, _)]) Tryz.build72 rfl (cells := [_, _]) rfl) ?_; refine wl_storeBlk rfl rfl Tryz.size72 hB41 rfl rfl ⟨by first | rfl | assumption, by first | rfl | assumption, trivial⟩ fun w48 hB49 hw50 => ?_; have hE51 := hE39.step hw50 hG13.mem1; have hB52 := hw50.blk hB40 hA12.nmem1; have hB53 := hw50.blk hB37 hA31.symm.nmem1
     try simp only [List.setIfInBounds_toArray, List.set_cons_zero, List.set_cons_succ, Nat.reduceAdd, Nat.zero_add, Nat.add_zero] at hB49
     refine wl_nil (nrm_then ?_); refine cw_ret (ret_block (ret_then (body_retC1 rfl (ResOk.cellA rfl Tryz.agg72 Tryz.size72 hB49 rfl) ?_))); refine ⟨?_, hE51⟩; rw [hv_rep h6 hj', repH, if_neg (by omega), if_pos (by omega)]
     first | (rw [hs19, Bool.true_and, decide_eq_decide.2 (txt_nob hvr).symm]; rfl) | (rw [hs19, Bool.false_and]; rfl)
   ·skip
    refine cw_seq ?_; refine cw_region ?_; refine wl_val rfl (ex_fieldAddr rfl Tryz.fld72_1) ?_; refine wl_val rfl (ex_load1 rfl Tryz.agg4 (cell_nth hB37 rfl)) ?_; refine wl_val rfl (ex_notb rfl) ?_; refine wl_m ?_; refine wl_splitb (t := 29) rfl (fun hs29 => ?_) (fun hs29 => ?_)
    ·skip
     refine wl_n ?_; refine wl_n ?_; refine wl_n ?_; refine wl_pt ?_; refine wl_a ?_; refine wl_nil (nrm_then ?_); refine cw_true rfl ?_; refine cw_seq ?_; refine cw_region ?_; refine wl_val rfl (ex_loadBlk rfl Tryz.agg72 Tryz.size72 hB37 rfl) ?_; refine wl_storeBlk rfl rfl Tryz.size72 hB41 rfl rfl ⟨by first | rfl | assumption, by first | rfl | assumption, trivial⟩ fun w54 hB55 hw56 => ?_; have hE57 := hE39.step hw56 hG13.mem1; have hB58 := hw56.blk hB40 hA12.nmem1; have hB59 := hw56.blk hB37 hA31.symm.nmem1
     try simp only [List.setIfInBounds_toArray, List.set_cons_zero, List.set_cons_succ, Nat.reduceAdd, Nat.zero_add, Nat.add_zero] at hB55
     refine wl_nil (nrm_then ?_); refine cw_ret (ret_block (ret_then (body_retC1 rfl (ResOk.cellA rfl Tryz.agg72 Tryz.size72 hB55 rfl) ?_))); refine ⟨?_, hE57⟩; rw [hv_rep h6 hj', repH, if_neg (by omega), if_neg (by omega), if_pos (.inl (by simpa using hs29))]
    ·skip
     refine wl_g ?_; refine wl_val rfl (ex_fieldAddr rfl Tryz.fld72_0) ?_; refine wl_g ?_; refine wl_val rfl (ex_load1 rfl Tryz.agg9 (cell_nth hB37 rfl)) ?_; refine wl_g ?_; refine wl_val rfl (ex_eqs rfl rfl) ?_; refine wl_pf ?_; refine wl_a ?_; refine wl_nil (nrm_then ?_); refine cw_if rfl (fun hc25 => ?_) (fun hc25 => ?_)
     ·skip
      refine cw_seq ?_; refine cw_region ?_; refine wl_val rfl (ex_loadBlk rfl Tryz.agg72 Tryz.size72 hB37 rfl) ?_; refine wl_storeBlk rfl rfl Tryz.size72 hB41 rfl rfl ⟨by first | rfl | assumption, by first | rfl | assumption, trivial⟩ fun w60 hB61 hw62 => ?_; have hE63 := hE39.step hw62 hG13.mem1; have hB64 := hw62.blk hB40 hA12.nmem1; have hB65 := hw62.blk hB37 hA31.symm.nmem1
      try simp only [List.setIfInBounds_toArray, List.set_cons_zero, List.set_cons_succ, Nat.reduceAdd, Nat.zero_add, Nat.add_zero] at hB61
      refine wl_nil (nrm_then ?_); refine cw_ret (ret_block (ret_then (body_retC1 rfl (ResOk.cellA rfl Tryz.agg72 Tryz.size72 hB61 rfl) ?_))); refine ⟨?_, hE63⟩; rw [hv_rep h6 hj', repH, if_neg (by omega), if_neg (by omega), if_pos (.inr ((txt_nob hvr).1 (by simpa using hc25)))]
     ·skip
      refine cw_skip (nrm_block (nrm_then ?_)); refine cw_seq ?_; refine cw_any (fun w0 w' => Evo [] w0 w') (by kernel_rfl) (fun w66 hw67 => ?_); have hE68 := hE39.then hw67; have hB69 := hw67.blk0 hB40; have hB70 := hw67.blk0 hB41; have hB71 := hw67.blk0 hB37; refine ae_take 0 rfl (by kernel_rfl) (by kernel_rfl) (by kernel_rfl) rfl (fun _ hS => ex_fieldAddr rfl Tryz.fld72_0) (Evo.refl [] w66) ?_; refine ae_take 1 rfl (by kernel_rfl) (by kernel_rfl) (by kernel_rfl) rfl (fun _ hS => ex_load1 rfl Tryz.agg9 (cell_nth (hS.blk0 hB71) rfl)) (Evo.refl [] w66) ?_; refine ae_take 2 rfl (by kernel_rfl) (by kernel_rfl) (by kernel_rfl) rfl (fun _ hS => ex_fieldAddr rfl Tryz.fld25_3) (Evo.refl [] w66) ?_; refine ae_take 3 rfl (by kernel_rfl) (by kernel_rfl) (by kernel_rfl) rfl (fun _ hS => ex_load1 rfl Tryz.agg3 (cell_nth (hS.blk0 hB69) rfl)) (Evo.refl [] w66) ?_; refine ae_take 5 rfl (by kernel_rfl) (by kernel_rfl) (by kernel_rfl) rfl (fun _ hS => ex_fieldAddr rfl Tryz.fld25_4) (Evo.refl [] w66) ?_; refine ae_take 6 rfl (by kernel_rfl) (by kernel_rfl) (by kernel_rfl) rfl (fun _ hS => ex_load1 rfl Tryz.agg3 (cell_nth (hS.blk0 hB69) rfl)) (Evo.refl [] w66) ?_; refine ae_take 7 rfl (by kernel_rfl) (by kernel_rfl) (by kernel_rfl) rfl (fun _ hS => ex_fieldAddr rfl Tryz.fld25_3) (Evo.refl [] w66) ?_; refine ae_take 8 rfl (by kernel_rfl) (by kernel_rfl) (by kernel_rfl) rfl (fun _ hS => ex_load1 rfl Tryz.agg3 (cell_nth (hS.blk0 hB69) rfl)) (Evo.refl [] w66) ?_; refine ae_take 9 rfl (by kernel_rfl) (by kernel_rfl) (by kernel_rfl) rfl (fun _ hS => ex_eql rfl rfl) (Evo.refl [] w66) ?_; refine ae_loud [4] (by kernel_rfl) rfl ⟨?_, trivial⟩; refine a_step rfl ?_; refine wl_call1 (vs := [_, _]) Tryz.goes128 rfl (repI_ok (txt (headR t.kids[0]).1) t.min g6 g62 hsz2) rfl ?_; rintro _ w72 ⟨rfl, hw73⟩
      have hE74 := hE68.then hw73; have hE75 := (Evo.refl [] w66).then hw73; have hB76 := hw73.blk0 hB69; have hB77 := hw73.blk0 hB70; have hB78 := hw73.blk0 hB71; refine wl_nil (ae_next (.inl hE75) ?_); refine ae_take 10 rfl (by kernel_rfl) (by kernel_rfl) (by kernel_rfl) rfl (fun _ hS => ex_build (vs := [(0, _), (1, _)]) Tryz.build72 rfl (cells := [_, _]) rfl) hE75 ?_; refine ae_loud [11] (by kernel_rfl) rfl ⟨?_, trivial⟩; refine a_step rfl ?_; refine wl_storeBlk rfl rfl Tryz.size72 hB77 rfl rfl ⟨by first | rfl | assumption, by first | rfl | assumption, trivial⟩ fun w79 hB80 hw81 => ?_; have hE82 := hE74.step hw81 hG13.mem1; have hB84 := hw81.blk hB76 hA12.nmem1; have hB85 := hw81.blk hB78 hA31.symm.nmem1
      try simp only [List.setIfInBounds_toArray, List.set_cons_zero, List.set_cons_succ, Nat.reduceAdd, Nat.zero_add, Nat.add_zero] at hB80
      refine wl_nil (ae_next (.inr (by kernel_rfl)) ?_); refine ae_done (by kernel_rfl) (nrm_then ?_); refine cw_ret (body_retC1 rfl (ResOk.cellA rfl Tryz.agg72 Tryz.size72 hB80 rfl) ?_); refine ⟨?_, hE82⟩; rw [hv_rep h6 hj', repH, if_neg (by omega), if_neg (by omega), if_neg (fun h => h.elim (fun h => by simp [h] at hs29) (fun h => hc25 ((txt_nob hvr).2 h)))]; show _ = Value.agg #[.string (txt (List.replicate _ _).flatten), _]; rw [txt_repl]
set_option maxHeartbeats 8000000 in
theorem headx_step {n : Nat} (ih : ∀ {X : List Nat} {w : World} {vs : List Value} {t : Rx} (hx : RRx n X w vs t) (hg : Good t) (hl : t.esz ≤ 9999), Calls Tryz.prog 37 #[.agg vs.toArray] w (Ret fun v w' => v = hv (headR t) ∧ Evo [] w w')) {X : List Nat} {w : World} {vs : List Value} {t : Rx} (hx : RRx (n + 1) X w vs t) (hg : Good t) (hl : t.esz ≤ 9999) : Calls Tryz.prog 37 #[.agg vs.toArray] w (Ret fun v w' => v = hv (headR t) ∧ Evo [] w w') := by
  have hx0 := hx; obtain ⟨m, ra, rc, ka, kc, hm, rfl, hrg, hk, bl1, bl2, bl3⟩ := hx.get
  obtain rfl : m = n := by omega
  obtain ⟨_, _, hke, hkc, e1⟩ := hk; cases hke; have hn := (nodeP_iff t).1 hg.node; refine calls_of_cw (N := 103) Tryz.func37 rfl rfl rfl ?_; refine cw_seq ?_; refine cw_region ?_; refine wl_boxA rfl rfl fun b1 w2 hB3 hs4 hw5 => ?_; have hG6 := Ge.new (Evo.refl [] w) hs4; have hE7 := (Evo.refl [] w).then hw5; refine wl_alloc rfl Tryz.zero72 fun b2 w8 hB9 hs10 hw11 => ?_; have hsz_b2 := hs10; have hA12 := Apart.new (Lt.blk hB3) hs10; have hG13 := Ge.new hE7 hs10; have hE14 := hE7.then hw11; have hB15 := hw11.blk0 hB3; refine wl_nil (nrm_then ?_); refine cw_seq ?_; refine cw_seq ?_; refine cw_region ?_; refine wl_val rfl (ex_fieldAddr rfl Tryz.fld25_0) ?_; refine wl_val rfl (ex_load1 rfl Tryz.agg3 (cell_nth hB15 rfl)) ?_; refine wl_nil (nrm_then ?_); refine cw_block ?_; refine cw_seq ?_; refine cw_region ?_; refine wl_val rfl (ex_eql rfl rfl) ?_; refine wl_a ?_; refine wl_nil (nrm_then ?_); refine cw_if rfl (fun hc15 => ?_) (fun hc15 => ?_)
  ·skip
   refine cw_seq ?_; refine cw_region ?_; refine wl_val rfl (ex_fieldAddr rfl Tryz.fld25_1) ?_; refine wl_val rfl (ex_load1 rfl Tryz.agg21 (cell_nth hB15 rfl)) ?_; refine wl_bslice (vs := [_]) rfl Tryz.slice135 rfl rfl rfl rfl fun b16 w17 hO18 hs19 hw20 => ?_; have hA21 := Apart.new (Lt.blk hB15) hs19; have hA22 := Apart.new (Lt.blk hB9) hs19; have hG23 := Ge.new hE14 hs19; have hE24 := hE14.then hw20; have hB25 := hw20.blk0 hB15; have hB26 := hw20.blk0 hB9; refine wl_call1 (vs := [_]) Tryz.goes78 rfl (lit_text (r := t.r) hO18) rfl ?_; rintro _ w27 ⟨rfl, hw28⟩; have hE29 := hE24.then hw28; have hB30 := hw28.blk0 hB25; have hB31 := hw28.blk0 hB26; have hO32 := hO18.evo0 hw28; refine wl_m ?_; refine wl_val rfl (ex_extract rfl rfl) ?_; refine wl_val rfl (ex_extract rfl rfl) ?_; refine wl_a ?_; refine wl_a ?_; refine wl_nil (nrm_then ?_); refine cw_seq ?_; refine cw_region ?_; refine wl_m ?_; refine wl_m ?_; refine wl_val rfl (ex_eql rfl rfl) ?_; refine wl_val rfl (ex_build (vs := [(0, _), (1, _)]) Tryz.build72 rfl (cells := [_, _]) rfl) ?_; refine wl_storeBlk rfl rfl Tryz.size72 hB31 rfl rfl ⟨by first | rfl | assumption, by first | rfl | assumption, trivial⟩ fun w33 hB34 hw35 => ?_; have hE36 := hE29.step hw35 hG13.mem1
   try simp only [List.setIfInBounds_toArray, List.set_cons_zero, List.set_cons_succ, Nat.reduceAdd, Nat.zero_add, Nat.add_zero] at hB34
   refine wl_nil (nrm_then ?_); refine cw_ret (ret_block (ret_then (body_retC1 rfl (ResOk.cellA rfl Tryz.agg72 Tryz.size72 hB34 rfl) ?_))); exact ⟨(hv_lit (by omega)).symm, hE36⟩
  ·skip
   refine cw_seq ?_; refine cw_region ?_; refine wl_val rfl (ex_eql rfl rfl) ?_; refine wl_a ?_; refine wl_nil (nrm_then ?_); refine cw_if rfl (fun hc28 => ?_) (fun hc28 => ?_)
   ·skip
    refine cw_seq ?_; refine cw_region ?_; refine wl_val rfl (ex_build (vs := []) Tryz.build72 rfl (cells := [_, _]) rfl) ?_; refine wl_storeBlk rfl rfl Tryz.size72 hB9 rfl rfl ⟨by first | rfl | assumption, by first | rfl | assumption, trivial⟩ fun w37 hB38 hw39 => ?_; have hE40 := hE14.step hw39 hG13.mem1; have hB41 := hw39.blk hB15 hA12.nmem1
    try simp only [List.setIfInBounds_toArray, List.set_cons_zero, List.set_cons_succ, Nat.reduceAdd, Nat.zero_add, Nat.add_zero] at hB38
    refine wl_nil (nrm_then ?_); refine cw_ret (ret_block (ret_then (body_retC1 rfl (ResOk.cellA rfl Tryz.agg72 Tryz.size72 hB38 rfl) ?_)))
    exact ⟨(by rw [hv_cls (t := t) (by omega)]; rfl), hE40⟩
   ·skip
    refine cw_seq ?_; refine cw_region ?_; refine wl_val rfl (ex_eql rfl rfl) ?_; refine wl_a ?_; refine wl_nil (nrm_then ?_); refine cw_if rfl (fun hc31 => ?_) (fun hc31 => ?_)
    ·skip
     have hl1 : t.kids.length = 1 := by have h1 := hn.rep4; have h2 := hn.grp; omega
     have hj' : 0 < t.kids.length := by omega
     obtain ⟨b1, o1, vs1, ha1, hb1, hvl1, hc1, hrk⟩ := e1 0 hj'; obtain ⟨m1, ra1, rc1, ka1, kc1, rfl, rfl, -⟩ := id hrk.get; have he1 := eszs_one hl1; have he7 := esz7 (t := t) (by omega)
     have hkk : t.kids[0].esz ≤ 9999 := by omega
     refine cw_seq ?_; refine cw_region ?_; refine wl_val rfl (ex_fieldAddr rfl Tryz.fld25_8) ?_; refine wl_val rfl (ex_load1 rfl Tryz.agg23 (cell_nth hB15 rfl)) ?_
     refine wl_val rfl (ex_indexAddrZ (n := 0) (by rw [ha1]; rfl) rfl rfl Tryz.elem23 (by omega)) ?_
     refine wl_val rfl (ex_loadA rfl Tryz.agg25 Tryz.size25 (vs := [_, _, _, _, _, _, _, _, _]) rfl (hc1.evo hE14 (by simp))) ?_; refine wl_call1 (vs := [_]) Tryz.goes37 rfl (ih (RRx.pers _ _ _ _ _ _ (hE14.mono (fun b hb => by cases hb)) hrk) (hg.kid _ (List.getElem_mem hj')) hkk) rfl ?_; rintro _ w42 ⟨rfl, hw43⟩; have hE44 := hE14.then hw43; have hB45 := hw43.blk0 hB15; have hB46 := hw43.blk0 hB9; refine wl_storeBlk rfl rfl Tryz.size72 hB46 rfl rfl ⟨by first | rfl | assumption, by first | rfl | assumption, trivial⟩ fun w47 hB48 hw49 => ?_; have hE50 := hE44.step hw49 hG13.mem1; have hB51 := hw49.blk hB45 hA12.nmem1
     try simp only [List.setIfInBounds_toArray, List.set_cons_zero, List.set_cons_succ, Nat.reduceAdd, Nat.zero_add, Nat.add_zero] at hB48
     refine wl_nil (nrm_then ?_); refine cw_ret (ret_block (ret_then (body_retC1 rfl (ResOk.cellA rfl Tryz.agg72 Tryz.size72 hB48 rfl) ?_))); exact ⟨by rw [hv_grp (t := t) (by omega) hj'], hE50⟩
    ·skip
     refine cw_seq ?_; refine cw_region ?_; refine wl_val rfl (ex_eql rfl rfl) ?_; refine wl_a ?_; refine wl_nil (nrm_then ?_); refine cw_if rfl (fun hc38 => ?_) (fun hc38 => ?_)
     ·skip
      have he4 := esz4 (t := t) (by omega); refine cw_seq ?_; refine cw_region ?_; have hlt2 := blk_lt hB9; refine wl_alloc rfl Tryz.zero85 fun b5 w52 hB53 hs54 hw55 => ?_; have hsz_b5 := hs54; have hA56 := Apart.new (Lt.blk hB15) hs54; have hA57 := Apart.new (Lt.blk hB9) hs54; have hG58 := Ge.new hE14 hs54; have hG59 := Ge.new (Evo.refl [] w8) hs54; have hE60 := hE14.then hw55; have hE61 := (Evo.refl [] w8).then hw55; have hB62 := hw55.blk0 hB15; have hB63 := hw55.blk0 hB9; refine wl_nil (nrm_then ?_); refine cw_seq ?_; refine cw_seq ?_; refine cw_region ?_; have hwb := hG58 _ rfl; have hb25 : b2 < b5 := Nat.lt_of_lt_of_le hlt2 (hG59 _ rfl); refine wl_val rfl (ex_fieldAddr rfl Tryz.fld25_8) ?_; refine wl_val rfl (ex_load1 rfl Tryz.agg23 (cell_nth hB62 rfl)) ?_; refine wl_val rfl (ex_len_slice rfl Tryz.underlying23 rfl) ?_; refine wl_m ?_; refine wl_nil (nrm_then ?_); refine cw_block ?_; refine cw_loop (α := CxG) (⟨0, [], none⟩) (fun x => [(43, .int .i64 (x.k : Nat))]) [(2, _), (5, _), (41, _), (42, _)] (fun x wr => Evo [] w wr ∧ (CxI t wr b2 b5 x)) (fun x => t.kids.length - x.k) ⟨rfl, trivial⟩ ⟨rfl, rfl, rfl, rfl, trivial⟩ ⟨hE60, ⟨Nat.zero_le _, hB63, BdAt.new hB53, (fun g h => by cases h), rfl, Nat.zero_le _⟩⟩ ?_; rintro ⟨k, b, ob⟩ wr64 ⟨hV65, ⟨hk, hb2, hbd, hbg, heq, hcl⟩⟩; show CW _ _ _ _ [(43, .int .i64 (k : Nat)), (2, _), (5, _), (41, _), (42, _)] _
      try dsimp only at hk
      try dsimp only at hb2
      try dsimp only at hbd
      try dsimp only at hbg
      try dsimp only at heq
      try dsimp only at hcl
      have hE66 := Evo.refl ([]) wr64; have hlt5 := hbd.lt; have hltO := hbd.ltO; refine cw_seq ?_; refine cw_region ?_; refine wl_val rfl (ex_lss rfl rfl) ?_; refine wl_nil (nrm_then ?_); refine cw_seq ?_; refine cw_if rfl (fun hc44 => ?_) (fun hc44 => ?_)
      ·skip
       have hj' : k < t.kids.length := by omega
       obtain ⟨b1, o1, vs1, ha1, hb1, hvl1, hc1, hrk⟩ := e1 k hj'; obtain ⟨m1, ra1, rc1, ka1, kc1, rfl, rfl, -⟩ := id hrk.get; have hek := eszs_le hj'; have hkg := hg.kid _ (List.getElem_mem hj'); have hkz := head_sz hkg
       have hkk : t.kids[k].esz ≤ 9999 := by omega
       refine cw_skip (nrm_then ?_); refine cw_seq ?_; refine cw_block ?_; refine cw_seq ?_; refine cw_region ?_
       refine wl_val rfl (ex_indexAddr (n := k) (by rw [ha1]; rfl) rfl Tryz.elem23 (by omega)) ?_
       refine wl_val rfl (ex_loadA rfl Tryz.agg25 Tryz.size25 (vs := [_, _, _, _, _, _, _, _, _]) rfl (hc1.evo hV65 (by simp))) ?_; refine wl_alloc rfl Tryz.zero25 fun b7 w67 hB68 hs69 hw70 => ?_; have hsz_b7 := hs69; have hA71 := Apart.new (Lt.blk hb2) hs69; have hG72 := Ge.new hV65 hs69; have hG73 := Ge.new hE66 hs69; have hE74 := hV65.then hw70; have hE75 := hE66.then hw70; have hB76 := hw70.blk0 hb2; have hF77 := hbd.evo0 hw70; refine wl_storeBlk rfl rfl Tryz.size25 hB68 rfl rfl ⟨by first | rfl | assumption, by first | rfl | assumption, by first | rfl | assumption, by first | rfl | assumption, by first | rfl | assumption, by first | rfl | assumption, by first | rfl | assumption, by first | rfl | assumption, by first | rfl | assumption, trivial⟩ fun w78 hB79 hw80 => ?_; have hE81 := hE74.step hw80 hG72.mem1; have hE82 := hE75.step hw80 hG73.mem1; have hB83 := hw80.blk hB76 hA71.nmem1
       have hF84 := hF77.evo hw80 (fun h => by have h8 := hG73 _ rfl; have h9 := List.mem_singleton.1 h; omega) (fun g hg hm => by have h8 := hG73 _ rfl; have h9 := hltO g hg; have h10 := List.mem_singleton.1 hm; omega)
       try simp only [List.setIfInBounds_toArray, List.set_cons_zero, List.set_cons_succ, Nat.reduceAdd, Nat.zero_add, Nat.add_zero] at hB79
       refine wl_nil (nrm_then ?_); refine cw_seq ?_; refine cw_region ?_; refine wl_val rfl (ex_loadBlk rfl Tryz.agg25 Tryz.size25 hB79 rfl) ?_; refine wl_call1 (vs := [_]) Tryz.goes37 rfl (ih (RRx.pers _ _ _ _ _ _ (hE81.mono (fun b hb => by cases hb)) hrk) (hg.kid _ (List.getElem_mem hj')) hkk) rfl ?_; rintro _ w85 ⟨rfl, hw86⟩; have hE87 := hE81.then hw86; have hE88 := hE82.then hw86; have hB89 := hw86.blk0 hB83; have hF90 := hF84.evo0 hw86; have hB91 := hw86.blk0 hB79; refine wl_alloc rfl Tryz.zero72 fun b8 w92 hB93 hs94 hw95 => ?_; have hsz_b8 := hs94; have hA96 := Apart.new (Lt.blk hB89) hs94; have hA97 := Apart.new (Lt.blk hB91) hs94; have hG98 := Ge.new hE87 hs94; have hG99 := Ge.new hE88 hs94; have hE100 := hE87.then hw95; have hE101 := hE88.then hw95; have hB102 := hw95.blk0 hB89; have hF103 := hF90.evo0 hw95; have hB104 := hw95.blk0 hB91; refine wl_storeBlk rfl rfl Tryz.size72 hB93 rfl rfl ⟨by first | rfl | assumption, by first | rfl | assumption, trivial⟩ fun w105 hB106 hw107 => ?_; have hE108 := hE100.step hw107 hG98.mem1; have hE109 := hE101.step hw107 hG99.mem1; have hB110 := hw107.blk hB102 hA96.nmem1
       have hF111 := hF103.evo hw107 (fun h => by have h8 := hG99 _ rfl; have h9 := List.mem_singleton.1 h; omega) (fun g hg hm => by have h8 := hG99 _ rfl; have h9 := hltO g hg; have h10 := List.mem_singleton.1 hm; omega)
       have hB112 := hw107.blk hB104 hA97.nmem1
       try simp only [List.setIfInBounds_toArray, List.set_cons_zero, List.set_cons_succ, Nat.reduceAdd, Nat.zero_add, Nat.add_zero] at hB106
       refine wl_nil (nrm_then ?_); refine cw_seq ?_; refine cw_region ?_; refine wl_val rfl (ex_fieldAddr rfl Tryz.fld72_0) ?_; refine wl_val rfl (ex_load1 rfl Tryz.agg9 (cell_nth hB106 rfl)) ?_; have hb9 := eszs_tk t.kids k; have hl9 := (hF111).lt; have ht9 := txt_len b
       refine wl_call1 (vs := [_, _]) Tryz.goes79 rfl (write_ok hF111 (txt (headR t.kids[k]).1) (by rw [dat_len]; omega)) rfl ?_
       rintro _ w113 ⟨ob2, hbd2, hw114, hob2⟩
       have hE115 := hE108.step hw114 (fun y hy => .inr (by rcases List.mem_cons.1 hy with rfl | h; exact hwb; exact Nat.le_trans hwb (hbg y (by simpa using h))))
       have hB116 := hw114.blk hB110 (fun h => by rcases List.mem_cons.1 h with h9 | h9; omega; (have := hbg b2 (by simpa using h9); omega))
       have hB117 := hw114.blk hB106 (fun h => by have h8 := hG99 _ rfl; rcases List.mem_cons.1 h with h9 | h9; omega; (have := hltO b8 (by simpa using h9); omega))
       rw [dat_app, ← txt_app] at hbd2
       have hbg2 : ∀ g, ob2 = some g → b5 ≤ g := fun g hg => by rcases hob2 with h9 | ⟨g', h9, h10⟩; exact hbg g (h9 ▸ hg); (rw [h9] at hg; cases hg; omega)
       have hcd := headC_drop hj' b; refine wl_nil (nrm_then ?_); refine cw_seq ?_; refine cw_region ?_; refine wl_val rfl (ex_fieldAddr rfl Tryz.fld72_1) ?_; refine wl_val rfl (ex_load1 rfl Tryz.agg4 (cell_nth hB117 rfl)) ?_; refine wl_val rfl (ex_notb rfl) ?_; refine wl_nil (nrm_then ?_); refine cw_ifb rfl (fun hc54 => ?_) (fun hc54 => ?_)
       ·skip
        refine cw_seq ?_; refine cw_region ?_; refine wl_call1 (vs := [_]) Tryz.goes51 rfl (bstring_ok hbd2 hbg2) rfl ?_; rintro _ w118 ⟨rfl, hw119⟩; have hE120 := hE115.step hw119 (fun y hy => .inr (Nat.le_trans hwb (mem_xb.1 hy).2))
        have hB121 := hw119.blk hB116 (fun h => by have := (mem_xb.1 h).2; omega)
        refine wl_val rfl (ex_build (vs := [(0, _)]) Tryz.build72 rfl (cells := [_, _]) rfl) ?_; refine wl_storeBlk rfl rfl Tryz.size72 hB121 rfl rfl ⟨by first | rfl | assumption, by first | rfl | assumption, trivial⟩ fun w122 hB123 hw124 => ?_; have hE125 := hE120.step hw124 hG13.mem1
        try simp only [List.setIfInBounds_toArray, List.set_cons_zero, List.set_cons_succ, Nat.reduceAdd, Nat.zero_add, Nat.add_zero] at hB123
        refine wl_nil (nrm_then ?_); refine cw_ret (ret_block (ret_then (ret_then (ret_block (ret_then (ret_block (ret_then (body_retC1 rfl (ResOk.cellA rfl Tryz.agg72 Tryz.size72 hB123 rfl) ?_))))))))
        have hkx : (headR t.kids[k]).2 = false := by simpa using hc54
        rw [if_neg (by rw [hkx]; decide)] at hcd
        exact ⟨by rw [hv_cat (t := t) (by omega), ← heq, hcd], hE125⟩
       ·skip
        refine cw_skip (nrm_block (nrm_then ?_)); refine cw_region ?_; refine wl_val rfl (ex_add_i64 rfl rfl (by omega) (by omega)) ?_; refine wl_m ?_; refine wl_nil (nrm_same ?_); refine ⟨⟨k + 1, b ++ (headR t.kids[k]).1, ob2⟩, ?_, ⟨rfl, trivial⟩, ⟨rfl, rfl, rfl, rfl, trivial⟩, hE115, ?_⟩
        · (try dsimp only); omega
        ·skip
         try dsimp only
         have hkx : (headR t.kids[k]).2 = true := by simpa using hc54
         rw [if_pos hkx] at hcd
         exact ⟨by show k + 1 ≤ _; omega, hB116, hbd2, hbg2, hcd.symm.trans heq, by show (b ++ _).length ≤ eszs (t.kids.take (k + 1)); rw [List.length_append, eszs_take hj']; have := headR_len _ hkg; omega⟩
      ·skip
       refine cw_exit (ex_then (ex_then (ex_here (nrm_then ?_)))); refine cw_seq ?_; refine cw_region ?_; refine wl_call1 (vs := [_]) Tryz.goes51 rfl (bstring_ok hbd hbg) rfl ?_; rintro _ w126 ⟨rfl, hw127⟩; have hE128 := hV65.step hw127 (fun y hy => .inr (Nat.le_trans hwb (mem_xb.1 hy).2))
       have hB129 := hw127.blk hb2 (fun h => by have := (mem_xb.1 h).2; omega)
       refine wl_val rfl (ex_build (vs := [(0, _), (1, _)]) Tryz.build72 rfl (cells := [_, _]) rfl) ?_; refine wl_storeBlk rfl rfl Tryz.size72 hB129 rfl rfl ⟨by first | rfl | assumption, by first | rfl | assumption, trivial⟩ fun w130 hB131 hw132 => ?_; have hE133 := hE128.step hw132 hG13.mem1
       try simp only [List.setIfInBounds_toArray, List.set_cons_zero, List.set_cons_succ, Nat.reduceAdd, Nat.zero_add, Nat.add_zero] at hB131
       refine wl_nil (nrm_then ?_); refine cw_ret (ret_block (ret_then (body_retC1 rfl (ResOk.cellA rfl Tryz.agg72 Tryz.size72 hB131 rfl) ?_))); exact ⟨by rw [hv_cat (t := t) (by omega), ← heq, headC_end (by omega)], hE133⟩
     ·skip
      refine cw_seq ?_; refine cw_region ?_; refine wl_val rfl (ex_eql rfl rfl) ?_; refine wl_a ?_; refine wl_nil (nrm_then ?_); refine cw_if rfl (fun hc60 => ?_) (fun hc60 => ?_)
      ·skip
       have hal := hn.two (by omega); have he5' := esz5 (t := t) (by omega) (by omega)
       have hj' : 0 < t.kids.length := by omega
       obtain ⟨b1, o1, vs1, ha1, hb1, hvl1, hc1, hrk⟩ := e1 0 hj'; obtain ⟨m1, ra1, rc1, ka1, kc1, rfl, rfl, -⟩ := id hrk.get; have hek := eszs_le hj'
       have hkk : t.kids[0].esz ≤ 9999 := by omega
       have hkl := headR_len _ (hg.kid _ (List.getElem_mem hj')); refine cw_seq ?_; refine cw_region ?_; refine wl_val rfl (ex_fieldAddr rfl Tryz.fld25_8) ?_; refine wl_val rfl (ex_load1 rfl Tryz.agg23 (cell_nth hB15 rfl)) ?_
       refine wl_val rfl (ex_indexAddrZ (n := 0) (by rw [ha1]; rfl) rfl rfl Tryz.elem23 (by omega)) ?_
       refine wl_val rfl (ex_loadA rfl Tryz.agg25 Tryz.size25 (vs := [_, _, _, _, _, _, _, _, _]) rfl (hc1.evo hE14 (by simp))) ?_; refine wl_call1 (vs := [_]) Tryz.goes37 rfl (ih (RRx.pers _ _ _ _ _ _ (hE14.mono (fun b hb => by cases hb)) hrk) (hg.kid _ (List.getElem_mem hj')) hkk) rfl ?_; rintro _ w134 ⟨rfl, hw135⟩; have hE136 := hE14.then hw135; have hB137 := hw135.blk0 hB15; have hB138 := hw135.blk0 hB9; refine wl_alloc rfl Tryz.zero72 fun b9 w139 hB140 hs141 hw142 => ?_; have hsz_b9 := hs141; have hA143 := Apart.new (Lt.blk hB137) hs141; have hA144 := Apart.new (Lt.blk hB138) hs141; have hG145 := Ge.new hE136 hs141; have hE146 := hE136.then hw142; have hB147 := hw142.blk0 hB137; have hB148 := hw142.blk0 hB138; refine wl_storeBlk rfl rfl Tryz.size72 hB140 rfl rfl ⟨by first | rfl | assumption, by first | rfl | assumption, trivial⟩ fun w149 hB150 hw151 => ?_; have hE152 := hE146.step hw151 hG145.mem1; have hB153 := hw151.blk hB147 hA143.nmem1; have hB154 := hw151.blk hB148 hA144.nmem1
       try simp only [List.setIfInBounds_toArray, List.set_cons_zero, List.set_cons_succ, Nat.reduceAdd, Nat.zero_add, Nat.add_zero] at hB150
       refine wl_nil (nrm_then ?_); refine cw_seq ?_; refine cw_seq ?_; refine cw_region ?_; refine wl_val rfl (ex_fieldAddr rfl Tryz.fld25_8) ?_; refine wl_val rfl (ex_load1 rfl Tryz.agg23 (cell_nth hB153 rfl)) ?_; refine wl_val rfl (ex_sliceFrom (l := 1) rfl rfl Tryz.underlying23 Tryz.size25 rfl (by omega) hkc) ?_; refine wl_val rfl (ex_len_slice rfl Tryz.underlying23 rfl) ?_; refine wl_m ?_; refine wl_nil (nrm_then ?_); refine cw_block ?_
       refine cw_loop (α := AxG) (⟨0, (headR t.kids[0]).1, (headR t.kids[0]).2⟩) (fun y => [(71, .int .i64 (y.k : Nat))]) [(2, _), (9, _), (69, _), (70, _)] (fun y wr => Evo [] w wr ∧ (AxI t wr b2 b9 y)) (fun y => t.kids.length - y.k) ⟨rfl, trivial⟩ ⟨rfl, rfl, rfl, rfl, trivial⟩ ⟨hE152, ⟨by show 0 + 1 ≤ _; omega, hB154, hB150, headR_vr _, (headB_one hj').symm, by have := eszs_le hj'; show (headR t.kids[0]).1.length ≤ _; omega⟩⟩ ?_
       rintro ⟨k, h, x⟩ wr155 ⟨hV156, ⟨hk, hb2, hb9, hvr, heq, hcl⟩⟩; show CW _ _ _ _ [(71, .int .i64 (k : Nat)), (2, _), (9, _), (69, _), (70, _)] _
       try dsimp only at hk
       try dsimp only at hb2
       try dsimp only at hb9
       try dsimp only at hvr
       try dsimp only at heq
       try dsimp only at hcl
       refine cw_seq ?_; refine cw_region ?_; refine wl_val rfl (ex_lss rfl rfl) ?_; refine wl_nil (nrm_then ?_); refine cw_seq ?_; refine cw_if rfl (fun hc72 => ?_) (fun hc72 => ?_)
       ·skip
        have hj2 : k + 1 < t.kids.length := by omega
        obtain ⟨b3, o2, vs2, ha2, hb3, hvl2, hc2, hrk2⟩ := e1 (k + 1) hj2; obtain ⟨m2, ra2, rc2, ka2, kc2, hm2, rfl, -⟩ := id hrk2.get; have hek2 := eszs_le hj2
        have hkk2 : t.kids[k + 1].esz ≤ 9999 := by omega
        have hkz2 := head_sz (hg.kid _ (List.getElem_mem hj2)); refine cw_skip (nrm_then ?_); refine cw_seq ?_; refine cw_block ?_; refine cw_seq ?_; refine cw_region ?_
        refine wl_val rfl (ex_indexAddr (n := k) (by rw [if_neg (by omega), ha2]; rfl) rfl Tryz.elem23 (by omega)) ?_
        refine wl_val rfl (ex_loadA rfl Tryz.agg25 Tryz.size25 (vs := [_, _, _, _, _, _, _, _, _]) rfl (by have h9 := hc2.evo hV156 (by simp); rwa [show o2 + (k + 1) * 9 = o2 + 1 * 9 + k * 9 from by omega] at h9)) ?_
        refine wl_alloc rfl Tryz.zero25 fun b11 w157 hB158 hs159 hw160 => ?_; have hsz_b11 := hs159; have hA161 := Apart.new (Lt.blk hb2) hs159; have hA162 := Apart.new (Lt.blk hb9) hs159; have hG163 := Ge.new hV156 hs159; have hE164 := hV156.then hw160; have hB165 := hw160.blk0 hb2; have hB166 := hw160.blk0 hb9; refine wl_storeBlk rfl rfl Tryz.size25 hB158 rfl rfl ⟨by first | rfl | assumption, by first | rfl | assumption, by first | rfl | assumption, by first | rfl | assumption, by first | rfl | assumption, by first | rfl | assumption, by first | rfl | assumption, by first | rfl | assumption, by first | rfl | assumption, trivial⟩ fun w167 hB168 hw169 => ?_; have hE170 := hE164.step hw169 hG163.mem1; have hB171 := hw169.blk hB165 hA161.nmem1; have hB172 := hw169.blk hB166 hA162.nmem1
        try simp only [List.setIfInBounds_toArray, List.set_cons_zero, List.set_cons_succ, Nat.reduceAdd, Nat.zero_add, Nat.add_zero] at hB168
        refine wl_nil (nrm_then ?_); refine cw_seq ?_; refine cw_region ?_; refine wl_val rfl (ex_loadBlk rfl Tryz.agg25 Tryz.size25 hB168 rfl) ?_; refine wl_call1 (vs := [_]) Tryz.goes37 rfl (ih (RRx.pers _ _ _ _ _ _ (hE170.mono (fun b hb => by cases hb)) hrk2) (hg.kid _ (List.getElem_mem hj2)) hkk2) rfl ?_; rintro _ w173 ⟨rfl, hw174⟩; have hE175 := hE170.then hw174; have hB176 := hw174.blk0 hB171; have hB177 := hw174.blk0 hB172; have hB178 := hw174.blk0 hB168; refine wl_alloc rfl Tryz.zero72 fun b12 w179 hB180 hs181 hw182 => ?_; have hsz_b12 := hs181; have hA183 := Apart.new (Lt.blk hB176) hs181; have hA184 := Apart.new (Lt.blk hB177) hs181; have hA185 := Apart.new (Lt.blk hB178) hs181; have hG186 := Ge.new hE175 hs181; have hE187 := hE175.then hw182; have hB188 := hw182.blk0 hB176; have hB189 := hw182.blk0 hB177; have hB190 := hw182.blk0 hB178; refine wl_storeBlk rfl rfl Tryz.size72 hB180 rfl rfl ⟨by first | rfl | assumption, by first | rfl | assumption, trivial⟩ fun w191 hB192 hw193 => ?_; have hE194 := hE187.step hw193 hG186.mem1; have hB195 := hw193.blk hB188 hA183.nmem1; have hB196 := hw193.blk hB189 hA184.nmem1; have hB197 := hw193.blk hB190 hA185.nmem1
        try simp only [List.setIfInBounds_toArray, List.set_cons_zero, List.set_cons_succ, Nat.reduceAdd, Nat.zero_add, Nat.add_zero] at hB192
        refine wl_nil (nrm_then ?_); refine cw_any (fun w0 w' => Evo [] w0 w') (by kernel_rfl) (fun w198 hw199 => ?_); have hE200 := hE194.then hw199; have hB201 := hw199.blk0 hB195; have hB202 := hw199.blk0 hB196; have hB203 := hw199.blk0 hB192; refine ae_take 0 rfl (by kernel_rfl) (by kernel_rfl) (by kernel_rfl) rfl (fun _ hS => ex_fieldAddr rfl Tryz.fld72_0) (Evo.refl [] w198) ?_; refine ae_take 1 rfl (by kernel_rfl) (by kernel_rfl) (by kernel_rfl) rfl (fun _ hS => ex_load1 rfl Tryz.agg9 (cell_nth (hS.blk0 hB202) rfl)) (Evo.refl [] w198) ?_; refine ae_take 2 rfl (by kernel_rfl) (by kernel_rfl) (by kernel_rfl) rfl (fun _ hS => ex_fieldAddr rfl Tryz.fld72_0) (Evo.refl [] w198) ?_; refine ae_take 3 rfl (by kernel_rfl) (by kernel_rfl) (by kernel_rfl) rfl (fun _ hS => ex_load1 rfl Tryz.agg9 (cell_nth (hS.blk0 hB203) rfl)) (Evo.refl [] w198) ?_; refine ae_take 5 rfl (by kernel_rfl) (by kernel_rfl) (by kernel_rfl) rfl (fun _ hS => ex_fieldAddr rfl Tryz.fld72_1) (Evo.refl [] w198) ?_; refine ae_take 6 rfl (by kernel_rfl) (by kernel_rfl) (by kernel_rfl) rfl (fun _ hS => ex_load1 rfl Tryz.agg4 (cell_nth (hS.blk0 hB202) rfl)) (Evo.refl [] w198) ?_; refine ae_loud [4] (by kernel_rfl) rfl ⟨?_, trivial⟩; refine a_step rfl ?_
        refine wl_call1 (vs := [_, _]) Tryz.goes80 rfl (common_ok (txt h) (txt (headR t.kids[k + 1]).1) (by have h9 := txt_len h; omega) (by omega)) rfl ?_
        rintro _ w204 ⟨e, rfl, he1, he2, he3, he4, ⟨ke, he5, he6⟩, hw205⟩; have hE206 := hE200.then hw205; have hE207 := (Evo.refl [] w198).then hw205; have hB208 := hw205.blk0 hB201; have hB209 := hw205.blk0 hB202; have hB210 := hw205.blk0 hB203; rw [comm_any hvr (headR_vr _) he5 he2 he3 he6]; refine wl_nil (ae_next (.inl hE207) ?_); refine ae_take 7 rfl (by kernel_rfl) (by kernel_rfl) (by kernel_rfl) rfl (fun _ hS => ex_move rfl) hE207 ?_; refine ae_splitb (t := 84) rfl (fun hs84 => ?_) (fun hs84 => ?_)
        ·skip
         refine ae_takeG 8 rfl rfl rfl rfl rfl (by kernel_rfl) (by kernel_rfl) (by kernel_rfl) rfl (fun _ hS => ex_fieldAddr rfl Tryz.fld72_1) hE207 ?_; refine ae_takeG 9 rfl rfl rfl rfl rfl (by kernel_rfl) (by kernel_rfl) (by kernel_rfl) rfl (fun _ hS => ex_load1 rfl Tryz.agg4 (cell_nth (hS.blk0 hB203) rfl)) hE207 ?_; refine ae_take 10 rfl (by kernel_rfl) (by kernel_rfl) (by kernel_rfl) rfl (fun _ hS => ex_pick_t rfl rfl) hE207 ?_; refine ae_take 11 rfl (by kernel_rfl) (by kernel_rfl) (by kernel_rfl) rfl (fun _ hS => ex_move rfl) hE207 ?_; refine ae_splitb (t := 88) rfl (fun hs88 => ?_) (fun hs88 => ?_)
         ·skip
          refine ae_takeG 12 rfl rfl rfl rfl rfl (by kernel_rfl) (by kernel_rfl) (by kernel_rfl) rfl (fun _ hS => ex_fieldAddr rfl Tryz.fld72_0) hE207 ?_; refine ae_takeG 13 rfl rfl rfl rfl rfl (by kernel_rfl) (by kernel_rfl) (by kernel_rfl) rfl (fun _ hS => ex_load1 rfl Tryz.agg9 (cell_nth (hS.blk0 hB202) rfl)) hE207 ?_; refine ae_takeG 14 rfl rfl rfl rfl rfl (by kernel_rfl) (by kernel_rfl) (by kernel_rfl) rfl (fun _ hS => ex_fieldAddr rfl Tryz.fld72_0) hE207 ?_; refine ae_takeG 15 rfl rfl rfl rfl rfl (by kernel_rfl) (by kernel_rfl) (by kernel_rfl) rfl (fun _ hS => ex_load1 rfl Tryz.agg9 (cell_nth (hS.blk0 hB203) rfl)) hE207 ?_; refine ae_takeG 16 rfl rfl rfl rfl rfl (by kernel_rfl) (by kernel_rfl) (by kernel_rfl) rfl (fun _ hS => ex_eqs rfl rfl) hE207 ?_; refine ae_take 17 rfl (by kernel_rfl) (by kernel_rfl) (by kernel_rfl) rfl (fun _ hS => ex_pick_t rfl rfl) hE207 ?_; refine ae_take 18 rfl (by kernel_rfl) (by kernel_rfl) (by kernel_rfl) rfl (fun _ hS => ex_build (vs := [(0, _), (1, _)]) Tryz.build72 rfl (cells := [_, _]) rfl) hE207 ?_; refine ae_loud [19] (by kernel_rfl) rfl ⟨?_, trivial⟩; refine a_step rfl ?_; refine wl_storeBlk rfl rfl Tryz.size72 hB209 rfl rfl ⟨by first | rfl | assumption, by first | rfl | assumption, trivial⟩ fun w211 hB212 hw213 => ?_; have hE214 := hE206.step hw213 hG145.mem1; have hB216 := hw213.blk hB208 hA144.nmem1; have hB217 := hw213.blk hB210 hA184.symm.nmem1
          try simp only [List.setIfInBounds_toArray, List.set_cons_zero, List.set_cons_succ, Nat.reduceAdd, Nat.zero_add, Nat.add_zero] at hB212
          refine wl_nil (ae_next (.inr (by kernel_rfl)) ?_); refine ae_done (by kernel_rfl) (nrm_block (nrm_then ?_)); refine cw_region ?_; refine wl_val rfl (ex_add_i64 rfl rfl (by omega) (by omega)) ?_; refine wl_m ?_; refine wl_nil (nrm_same ?_); refine ⟨⟨k + 1, cpre h (headR t.kids[k + 1]).1, x && (headR t.kids[k + 1]).2 && decide (h = (headR t.kids[k + 1]).1)⟩, ?_, ⟨rfl, trivial⟩, ⟨rfl, rfl, rfl, rfl, trivial⟩, hE214, ?_⟩
          · (try dsimp only); omega
          ·skip
           try dsimp only
           have had := headA_drop hj2 (h, x)
           refine ⟨by show k + 1 + 1 ≤ _; omega, hB216, ?_, vr_cpre hvr, had.symm.trans heq, Nat.le_trans (cpre_len _ _) hcl⟩
           have h9 := hB212; rw [dec_txt hvr (headR_vr _)]
           first | (rw [hs84, hs88, Bool.true_and, Bool.true_and]; exact h9) | (rw [hs84, hs88, Bool.true_and, Bool.false_and]; exact h9) | (rw [hs84, Bool.false_and, Bool.false_and]; exact h9)
         ·skip
          refine ae_takeN 12 rfl rfl rfl rfl rfl rfl (by kernel_rfl) (by kernel_rfl) (by kernel_rfl) rfl hE207 ?_; refine ae_takeN 13 rfl rfl rfl rfl rfl rfl (by kernel_rfl) (by kernel_rfl) (by kernel_rfl) rfl hE207 ?_; refine ae_takeN 14 rfl rfl rfl rfl rfl rfl (by kernel_rfl) (by kernel_rfl) (by kernel_rfl) rfl hE207 ?_; refine ae_takeN 15 rfl rfl rfl rfl rfl rfl (by kernel_rfl) (by kernel_rfl) (by kernel_rfl) rfl hE207 ?_; refine ae_takeN 16 rfl rfl rfl rfl rfl rfl (by kernel_rfl) (by kernel_rfl) (by kernel_rfl) rfl hE207 ?_; refine ae_take 17 rfl (by kernel_rfl) (by kernel_rfl) (by kernel_rfl) rfl (fun _ hS => ex_pick_f rfl rfl) hE207 ?_; refine ae_take 18 rfl (by kernel_rfl) (by kernel_rfl) (by kernel_rfl) rfl (fun _ hS => ex_build (vs := [(0, _), (1, _)]) Tryz.build72 rfl (cells := [_, _]) rfl) hE207 ?_; refine ae_loud [19] (by kernel_rfl) rfl ⟨?_, trivial⟩; refine a_step rfl ?_; refine wl_storeBlk rfl rfl Tryz.size72 hB209 rfl rfl ⟨by first | rfl | assumption, by first | rfl | assumption, trivial⟩ fun w218 hB219 hw220 => ?_; have hE221 := hE206.step hw220 hG145.mem1; have hB223 := hw220.blk hB208 hA144.nmem1; have hB224 := hw220.blk hB210 hA184.symm.nmem1
          try simp only [List.setIfInBounds_toArray, List.set_cons_zero, List.set_cons_succ, Nat.reduceAdd, Nat.zero_add, Nat.add_zero] at hB219
          refine wl_nil (ae_next (.inr (by kernel_rfl)) ?_); refine ae_done (by kernel_rfl) (nrm_block (nrm_then ?_)); refine cw_region ?_; refine wl_val rfl (ex_add_i64 rfl rfl (by omega) (by omega)) ?_; refine wl_m ?_; refine wl_nil (nrm_same ?_); refine ⟨⟨k + 1, cpre h (headR t.kids[k + 1]).1, x && (headR t.kids[k + 1]).2 && decide (h = (headR t.kids[k + 1]).1)⟩, ?_, ⟨rfl, trivial⟩, ⟨rfl, rfl, rfl, rfl, trivial⟩, hE221, ?_⟩
          · (try dsimp only); omega
          ·skip
           try dsimp only
           have had := headA_drop hj2 (h, x)
           refine ⟨by show k + 1 + 1 ≤ _; omega, hB223, ?_, vr_cpre hvr, had.symm.trans heq, Nat.le_trans (cpre_len _ _) hcl⟩
           have h9 := hB219; rw [dec_txt hvr (headR_vr _)]
           first | (rw [hs84, hs88, Bool.true_and, Bool.true_and]; exact h9) | (rw [hs84, hs88, Bool.true_and, Bool.false_and]; exact h9) | (rw [hs84, Bool.false_and, Bool.false_and]; exact h9)
        ·skip
         refine ae_takeN 8 rfl rfl rfl rfl rfl rfl (by kernel_rfl) (by kernel_rfl) (by kernel_rfl) rfl hE207 ?_; refine ae_takeN 9 rfl rfl rfl rfl rfl rfl (by kernel_rfl) (by kernel_rfl) (by kernel_rfl) rfl hE207 ?_; refine ae_take 10 rfl (by kernel_rfl) (by kernel_rfl) (by kernel_rfl) rfl (fun _ hS => ex_pick_f rfl rfl) hE207 ?_; refine ae_take 11 rfl (by kernel_rfl) (by kernel_rfl) (by kernel_rfl) rfl (fun _ hS => ex_move rfl) hE207 ?_; refine ae_takeN 12 rfl rfl rfl rfl rfl rfl (by kernel_rfl) (by kernel_rfl) (by kernel_rfl) rfl hE207 ?_; refine ae_takeN 13 rfl rfl rfl rfl rfl rfl (by kernel_rfl) (by kernel_rfl) (by kernel_rfl) rfl hE207 ?_; refine ae_takeN 14 rfl rfl rfl rfl rfl rfl (by kernel_rfl) (by kernel_rfl) (by kernel_rfl) rfl hE207 ?_; refine ae_takeN 15 rfl rfl rfl rfl rfl rfl (by kernel_rfl) (by kernel_rfl) (by kernel_rfl) rfl hE207 ?_; refine ae_takeN 16 rfl rfl rfl rfl rfl rfl (by kernel_rfl) (by kernel_rfl) (by kernel_rfl) rfl hE207 ?_; refine ae_take 17 rfl (by kernel_rfl) (by kernel_rfl) (by kernel_rfl) rfl (fun _ hS => ex_pick_f rfl rfl) hE207 ?_; refine ae_take 18 rfl (by kernel_rfl) (by kernel_rfl) (by kernel_rfl) rfl (fun _ hS => ex_build (vs := [(0, _), (1, _)]) Tryz.build72 rfl (cells := [_, _]) rfl) hE207 ?_; refine ae_loud [19] (by kernel_rfl) rfl ⟨?_, trivial⟩; refine a_step rfl ?_; refine wl_storeBlk rfl rfl Tryz.size72 hB209 rfl rfl ⟨by first | rfl | assumption, by first | rfl | assumption, trivial⟩ fun w225 hB226 hw227 => ?_; have hE228 := hE206.step hw227 hG145.mem1; have hB230 := hw227.blk hB208 hA144.nmem1; have hB231 := hw227.blk hB210 hA184.symm.nmem1
         try simp only [List.setIfInBounds_toArray, List.set_cons_zero, List.set_cons_succ, Nat.reduceAdd, Nat.zero_add, Nat.add_zero] at hB226
         refine wl_nil (ae_next (.inr (by kernel_rfl)) ?_); refine ae_done (by kernel_rfl) (nrm_block (nrm_then ?_)); refine cw_region ?_; refine wl_val rfl (ex_add_i64 rfl rfl (by omega) (by omega)) ?_; refine wl_m ?_; refine wl_nil (nrm_same ?_); refine ⟨⟨k + 1, cpre h (headR t.kids[k + 1]).1, x && (headR t.kids[k + 1]).2 && decide (h = (headR t.kids[k + 1]).1)⟩, ?_, ⟨rfl, trivial⟩, ⟨rfl, rfl, rfl, rfl, trivial⟩, hE228, ?_⟩
         · (try dsimp only); omega
         ·skip
          try dsimp only
          have had := headA_drop hj2 (h, x)
          refine ⟨by show k + 1 + 1 ≤ _; omega, hB230, ?_, vr_cpre hvr, had.symm.trans heq, Nat.le_trans (cpre_len _ _) hcl⟩
          have h9 := hB226; rw [dec_txt hvr (headR_vr _)]
          first | (rw [hs84, hs88, Bool.true_and, Bool.true_and]; exact h9) | (rw [hs84, hs88, Bool.true_and, Bool.false_and]; exact h9) | (rw [hs84, Bool.false_and, Bool.false_and]; exact h9)
       ·skip
        refine cw_exit (ex_then (ex_then (ex_here (nrm_then ?_)))); refine cw_seq ?_; refine cw_region ?_; refine wl_val rfl (ex_loadBlk rfl Tryz.agg72 Tryz.size72 hb9 rfl) ?_; refine wl_storeBlk rfl rfl Tryz.size72 hb2 rfl rfl ⟨by first | rfl | assumption, by first | rfl | assumption, trivial⟩ fun w232 hB233 hw234 => ?_; have hE235 := hV156.step hw234 hG13.mem1; have hB236 := hw234.blk hb9 hA144.symm.nmem1
        try simp only [List.setIfInBounds_toArray, List.set_cons_zero, List.set_cons_succ, Nat.reduceAdd, Nat.zero_add, Nat.add_zero] at hB233
        refine wl_nil (nrm_then ?_); refine cw_ret (ret_block (ret_then (body_retC1 rfl (ResOk.cellA rfl Tryz.agg72 Tryz.size72 hB233 rfl) ?_))); exact ⟨by rw [hv_alt (t := t) (by omega), ← heq, headA_end (by omega)], hE235⟩
      ·skip
       refine cw_seq ?_; refine cw_region ?_; refine wl_val rfl (ex_eql rfl rfl) ?_; refine wl_a ?_; refine wl_nil (nrm_then ?_); refine cw_if rfl (fun hc98 => ?_) (fun hc98 => ?_)
       ·skip
        refine cw_seq ?_; refine cw_region ?_; refine wl_val rfl (ex_loadBlk rfl Tryz.agg25 Tryz.size25 hB15 rfl) ?_; refine wl_call1 (vs := [_]) Tryz.goes81 rfl (hrepx_step ih (RRx.pers _ _ _ _ _ _ (hE14.mono (fun b hb => by cases hb)) hx0) hg hl (by omega)) rfl ?_; rintro _ w237 ⟨rfl, hw238⟩; have hE239 := hE14.then hw238; have hB240 := hw238.blk0 hB15; have hB241 := hw238.blk0 hB9; refine wl_storeBlk rfl rfl Tryz.size72 hB241 rfl rfl ⟨by first | rfl | assumption, by first | rfl | assumption, trivial⟩ fun w242 hB243 hw244 => ?_; have hE245 := hE239.step hw244 hG13.mem1; have hB246 := hw244.blk hB240 hA12.nmem1
        try simp only [List.setIfInBounds_toArray, List.set_cons_zero, List.set_cons_succ, Nat.reduceAdd, Nat.zero_add, Nat.add_zero] at hB243
        refine wl_nil (nrm_then ?_); refine cw_ret (ret_block (ret_then (body_retC1 rfl (ResOk.cellA rfl Tryz.agg72 Tryz.size72 hB243 rfl) ?_))); exact ⟨rfl, hE245⟩
       ·skip
        refine cw_skip (nrm_block (nrm_then ?_)); refine cw_seq ?_; refine cw_region ?_; refine wl_val rfl (ex_build (vs := [(1, _)]) Tryz.build72 rfl (cells := [_, _]) rfl) ?_; refine wl_storeBlk rfl rfl Tryz.size72 hB9 rfl rfl ⟨by first | rfl | assumption, by first | rfl | assumption, trivial⟩ fun w247 hB248 hw249 => ?_; have hE250 := hE14.step hw249 hG13.mem1; have hB251 := hw249.blk hB15 hA12.nmem1
        try simp only [List.setIfInBounds_toArray, List.set_cons_zero, List.set_cons_succ, Nat.reduceAdd, Nat.zero_add, Nat.add_zero] at hB248
        refine wl_nil (nrm_then ?_); refine cw_ret (body_retC1 rfl (ResOk.cellA rfl Tryz.agg72 Tryz.size72 hB248 rfl) ?_)
        exact ⟨(by rw [hv_eps (t := t) (by have := hn.kind1; have := hn.kind2; omega)]; rfl), hE250⟩
theorem headx_ok : ∀ {n : Nat} {X : List Nat} {w : World} {vs : List Value} {t : Rx} (hx : RRx n X w vs t) (hg : Good t) (hl : t.esz ≤ 9999), Calls Tryz.prog 37 #[.agg vs.toArray] w (Ret fun v w' => v = hv (headR t) ∧ Evo [] w w')
  | 0, X, w, vs, t, hx, hg, hl => hx.elim
  | n + 1, X, w, vs, t, hx, hg, hl => headx_step (n := n) (fun hx hg hl => headx_ok hx hg hl) hx hg hl
noncomputable def prefT (t : Rx) : ByteArray := open Classical in if t.Ok ∧ t.esz + 1 ≤ 10000 then txt (headR t).1 else nob
theorem prefixx_ok {n : Nat} {w : World} {vs : List Value} {t : Rx} (hx : RRx n [] w vs t) :
    Calls Tryz.prog 11 #[.agg vs.toArray] w (Ret fun v w' => v = .string (prefT t) ∧ Evo [] w w') := by
  have hx0 := hx; obtain ⟨m, ra, rc, ka, kc, hm, rfl, hrg, hk, bl1, bl2, bl3⟩ := hx.get; refine calls_of_cw (N := 15) Tryz.func11 rfl rfl rfl ?_; refine cw_seq ?_; refine cw_region ?_; refine wl_boxA rfl rfl fun b1 w2 hB3 hs4 hw5 => ?_; have hG6 := Ge.new (Evo.refl [] w) hs4; have hE7 := (Evo.refl [] w).then hw5; refine wl_a ?_; refine wl_nil (nrm_then ?_); refine cw_seq ?_; refine cw_seq ?_; refine cw_region ?_; refine wl_val rfl (ex_loadBlk rfl Tryz.agg25 Tryz.size25 hB3 rfl) ?_; refine wl_call1 (vs := [_]) Tryz.goes34 rfl (Size_ok (RRx.pers _ _ _ _ _ _ hE7 hx0)) rfl ?_; rintro _ w8 ⟨sz, rfl, hsz, hw9⟩; have hE10 := hE7.then hw9; have hB11 := hw9.blk0 hB3; refine wl_a ?_; refine wl_nil (nrm_then ?_); refine cw_seq ?_; refine cw_region ?_; refine wl_m ?_; refine wl_val rfl (ex_eql rfl rfl) ?_; refine wl_m ?_; refine wl_split (t := 8) rfl (fun hs8 => ?_) (fun hs8 => ?_)
  ·skip
   refine wl_n ?_; refine wl_n ?_; refine wl_pt ?_; refine wl_nil (nrm_then ?_); refine cw_true rfl ?_; refine cw_seq ?_; refine cw_region ?_; refine wl_a ?_; refine wl_nil (nrm_then ?_); refine cw_ret (ret_then (body_ret1 rfl rfl ?_))
   exact ⟨by rw [prefT, if_neg (fun h => by have := hsz.1 h.1; omega)], hE10⟩
  ·skip
   refine wl_g ?_; refine wl_m ?_; refine wl_g ?_; refine wl_val rfl (ex_gtr rfl rfl) ?_; refine wl_pf ?_; refine wl_nil (nrm_then ?_); refine cw_if rfl (fun hc11 => ?_) (fun hc11 => ?_)
   ·skip
    refine cw_seq ?_; refine cw_region ?_; refine wl_a ?_; refine wl_nil (nrm_then ?_); refine cw_ret (ret_then (body_ret1 rfl rfl ?_))
    exact ⟨by rw [prefT, if_neg (fun h => by have := hsz.1 h.1; omega)], hE10⟩
   ·skip
    refine cw_skip (nrm_then ?_); refine cw_seq ?_; refine cw_region ?_
    have hok : t.Ok := Classical.byContradiction fun h => (by have := hsz.2 h; omega)
    have hszE : t.esz + 1 ≤ 10000 := by have := hsz.1 hok; omega
    refine wl_val rfl (ex_loadBlk rfl Tryz.agg25 Tryz.size25 hB11 rfl) ?_; refine wl_call1 (vs := [_]) Tryz.goes37 rfl (headx_ok (RRx.pers _ _ _ _ _ _ hE10 hx0) hok.good (size_lt2 hszE)) rfl ?_; rintro _ w12 ⟨rfl, hw13⟩; have hE14 := hE10.then hw13; have hB15 := hw13.blk0 hB11; refine wl_val rfl (ex_field0 rfl) ?_; refine wl_a ?_; refine wl_nil (nrm_then ?_); refine cw_ret (body_ret1 rfl rfl ?_); exact ⟨by rw [prefT, if_pos ⟨hok, hszE⟩], hE14⟩
end Go.Proofs.YtgnpldackjbdjaaGreat
