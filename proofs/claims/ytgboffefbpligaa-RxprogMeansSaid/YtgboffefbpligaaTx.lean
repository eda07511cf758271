/- The reference's Matches; lit, wide. -/
import Derived.Test.YtgboffefbpligaaTw
namespace Go.Proofs.Ytgboffefbpligaa
open Go.Proofs
open Go.W Go.RowKit
attribute [local irreducible] Decidable.decide
set_option linter.unusedSimpArgs false
set_option linter.unusedVariables false
theorem Try.build25 : Build Try.prog 25 #[(0, 1), (1, 1), (2, 1), (3, 1), (4, 1), (5, 1), (6, 1), (7, 1), (8, 1)] #[.int .i64 0, .int .i32 0, .slice none 0 0, .int .i64 0, .int .i64 0, .bool false, .int .i64 0, .string ByteArray.empty, .slice none 0 0] := ⟨_, .agg #[.int .i64 0, .int .i32 0, .slice none 0 0, .int .i64 0, .int .i64 0, .bool false, .int .i64 0, .string ByteArray.empty, .slice none 0 0], Try.underlying25, by kernel_rfl, rfl, fun w => by kernel_rfl⟩
theorem Try.build64 : Build Try.prog 64 #[(0, 1), (1, 1)] #[.slice none 0 0, .slice none 0 0] := ⟨_, .agg #[.slice none 0 0, .slice none 0 0], Try.underlying64, by kernel_rfl, rfl, fun w => by kernel_rfl⟩
theorem Try.goes20 : Goes Try.prog 20 := ⟨_, Try.func20, by kernel_rfl, by kernel_rfl⟩
theorem Try.goes23 : Goes Try.prog 23 := ⟨_, Try.func23, by kernel_rfl, by kernel_rfl⟩
theorem Try.zero3 : zeroB Try.prog 3 = some #[.int .i64 0] := by kernel_rfl


theorem from_ok {H : Sheet} {lo id : Nat} {x : Rx} (hl : Lays H.nds lo id x) : Good x → FromSpec Try.prog H id x := by
  induction hl with
  | mk a b c d ih =>
    rename_i id nd
    intro hg
    obtain ⟨hid, hnd⟩ := List.getElem?_eq_some_iff.1 b
    subst hnd
    exact from_of hid rfl (reckon_of hid rfl hg c (fun j h h' => ih j h h' (hg.kid _ (List.getElem_mem h'))))
theorem ShAt.new {w : World} {hb N : Nat} {ra : Option Addr} {rc : Nat} {Z : List Nat} (h : w.heap[hb]? = some (.cells #[.slice none 0 0, .slice ra N rc] 64 (0, 0))) : ShAt w hb N ra rc [] none 0 none Z :=
  ⟨h, OwnS.nil _ _ _, fun g hg => (by cases hg), fun nd hn => (by cases hn), fun nd hn => (by cases hn), fun nd hn => (by cases hn), List.nodup_nil⟩
theorem ShAt.asked {w : World} {hb : Nat} {rs : List Int} {ra : Option Addr} {rc : Nat} {ro : Option Nat} {nds : List Nd} {a : Option Addr} {c : Nat} {ob : Option Nat} (h : ShAt w hb rs.length ra rc nds a c ob ro.toList) (hr : OwnS w 21 1 ra rs.length rc (i32s rs) ro) (hs : rs.length ≤ 1000) :
    Sh2 ⟨hb, rs, ra, rc, ro, nds, a, c, ob⟩ w [] := by
  have hcl : ∀ x, x ∈ SB nds → x ∉ hb :: (ob.toList ++ ro.toList) := fun x hx => by
    obtain ⟨nd, hn, rfl⟩ := List.mem_map.1 hx
    exact (h.seen nd hn).2
  refine ⟨h.blk, h.own, hr, fun nd hn => (h.nd nd hn).step (Evo.refl _ _) (fun y hy => .inl (memZ (List.mem_append_left _ (by simpa using hy)))), h.nine, fun nd hn => ⟨_, (h.seen nd hn).1, fun i hi => ⟨.slice none 0 0, ?_, .inl rfl⟩⟩, fun x hx => ?_, fun e he => (by cases he), fun e he => (by cases he), h.dist, hs⟩
  · rw [zeros_get (by decide) (by simpa using (show i < rs.length + 1 by have : i ≤ rs.length := hi; omega))]; simp
  · have h1 := hcl x (by simpa using hx)
    refine ⟨fun e => h1 (by rw [e]; exact List.mem_cons_self ..), fun g hg e => h1 ?_, fun g hg e => h1 ?_⟩
    · subst e; exact List.mem_cons_of_mem _ (List.mem_append_left _ (by have : ob = some g := hg; simp [this]))
    · subst e; exact memZ (by have : ro = some g := hg; simp [this])
mutual
theorem fine_cnt : ∀ (x : Rx) (b : Int) (st st' : St), x.fine b st = some st' → st'.1 = st.1 + x.cnt ∧ (st.1 ≤ 8194 → st'.1 ≤ 8194)
  | .mk k r rs mn mx lz cp nm ks, b, st, st', h => by
    rw [Rx.fine] at h
    by_cases hc : st.1 + 1 ≤ 8194 ∧ (if k = 7 then b + 1 else b) ≤ 250 ∧ NodeP (.mk k r rs mn mx lz cp nm ks) ∧ (k = 7 → GroupOk cp nm st.2)
    · rw [if_pos hc] at h
      have := fineKids_cnt ks k _ _ st' h
      rw [Rx.cnt]
      exact ⟨by have := this.1; simp only at this; omega, fun _ => this.2 hc.1⟩
    · rw [if_neg hc] at h; cases h
theorem fineKids_cnt : ∀ (l : List Rx) (k b : Int) (st st' : St), fineKids l k b st = some st' → st'.1 = st.1 + cnts l ∧ (st.1 ≤ 8194 → st'.1 ≤ 8194)
  | [], k, b, st, st', h => by rw [fineKids] at h; cases h; rw [cnts]; exact ⟨rfl, fun h => h⟩
  | x :: xs, k, b, st, st', h => by
    rw [fineKids] at h
    split at h
    · cases h
    · rename_i st1 h1
      have i1 := fine_cnt x _ st st1 h1
      have i2 := fineKids_cnt xs k b st1 st' h
      rw [cnts]
      exact ⟨by have := i1.1; have := i2.1; omega, fun h => i2.2 (i1.2 h)⟩
end
theorem Rx.Ok.cnt {x : Rx} (h : x.Ok) : x.cnt ≤ 8194 := by
  obtain ⟨st, h⟩ := h
  have := fine_cnt x 0 _ _ h
  have h2 := this.2 (by decide)
  have h1 := this.1
  simp only at h1
  omega

theorem matches_ok {n : Nat} {w : World} {vs : List Value} {t : Rx} {s : ByteArray} (hx : RRx n [] w vs t) (hok : t.Ok) (hs : s.size ≤ 1000) :
    Calls Try.prog 12 #[.agg vs.toArray, .string s] w (Ret fun v w' => Evo [] w w' ∧ ∃ b, v = .bool b ∧ (b = true ↔ ∃ N, Utf s N ∧ Mt (runesK s N) t 0 N)) := by
  have hx0 := hx
  obtain ⟨m, xa, xc, ka, kc, hm, rfl, hrg, hk, bl1, bl2, bl3⟩ := hx.get
  refine calls_of_cw (N := 29) Try.func12 rfl rfl rfl ?_
  refine cw_seq ?_
  refine cw_region ?_
  refine wl_boxA rfl rfl fun b2 w1 hB2 hs3 hw4 => ?_
  have hsz_b2 := hs3
  have hG5 := Ge.new (Evo.refl [] w) hs3
  have hE6 := (Evo.refl [] w).then hw4
  refine wl_a ?_
  refine wl_nil (nrm_then ?_)
  refine cw_seq ?_
  refine cw_region ?_
  refine wl_m ?_
  refine wl_call1 (vs := [_]) Try.goes23 rfl (refRunes_ok s (by omega)) rfl ?_
  rintro _ w7 ⟨hw8, ra, rn, rc, e, rfl, hr⟩
  have hev := hE6
  have hE9 := hE6.then hw8
  have hB10 := hw8.blk0 hB2
  refine wl_m ?_
  refine wl_val rfl (ex_extract rfl rfl) ?_
  refine wl_val rfl (ex_extract rfl rfl) ?_
  refine wl_a ?_
  refine wl_a ?_
  refine wl_nil (nrm_then ?_)
  refine cw_seq ?_
  refine cw_seq ?_
  refine cw_region ?_
  refine wl_m ?_
  refine wl_val rfl (ex_neq rfl rfl) ?_
  refine wl_nil (nrm_then ?_)
  refine cw_if rfl (fun hc15 => ?_) (fun hc15 => ?_)
  ·skip
   refine cw_seq ?_
   refine cw_region ?_
   refine wl_a ?_
   refine wl_nil (nrm_then ?_)
   refine cw_ret (ret_then (body_ret1 rfl rfl ?_))
   refine ⟨hE9, false, rfl, ?_⟩
   rcases hr with ⟨-, h⟩ | ⟨h, -⟩
   · simp only [Bool.false_eq_true, false_iff]; rintro ⟨N, hU, -⟩; exact h ⟨N, hU⟩
   · exact (hc15 h).elim
  ·skip
   obtain ⟨-, hU, ro, hRO, hgr⟩ := hr.resolve_left (fun h => hc15 (by rw [h.1]; decide))
   have hgro : Ge w ro := Ge.fresh hev hgr
   have hrn := offs_ge hU.2
   rw [hU.1] at hrn
   refine cw_skip (nrm_then ?_)
   refine cw_seq ?_
   refine cw_region ?_
   refine wl_m ?_
   refine wl_val rfl (ex_build (vs := [(1, _)]) Try.build64 rfl (cells := [_, _]) rfl) ?_
   refine wl_boxA rfl rfl fun hb w11 hB12 hs13 hw14 => ?_
   have hsz_hb := hs13
   have hA15 := Apart.new (Lt.blk hB10) hs13
   have hA16 := Apart.new (Lt.own hRO) hs13
   have hG17 := Ge.new hE9 hs13
   have hE18 := hE9.then hw14
   have hB19 := hw14.blk0 hB10
   have hO20 := hRO.evo0 hw14
   refine wl_a ?_
   refine wl_nil (nrm_then ?_)
   refine cw_seq ?_
   refine cw_region ?_
   refine wl_m ?_
   refine wl_val rfl (ex_loadBlk rfl Try.agg25 Try.size25 hB19 rfl) ?_
   refine wl_call1 (vs := [_, _]) Try.goes24 rfl (lay_ok (N := rn) (Z := ro.toList) (ShAt.new hB12) (RRx.step hx0 hE18 (fun y hy => by rcases List.mem_cons.1 hy with e | e; (rw [e]; exact .inr (hG17 hb rfl)); exact .inr (hgro y (by simpa using e))) (fun b hb => by cases hb)) (by omega) (by have := hok.cnt; show 0 + _ ≤ _; omega) (fun z hz => Lt.own hO20 z (by simpa using hz))) rfl ?_
   rintro _ w21 ⟨hw22, rfl, more, hto, hlays, -, hfr⟩
   have hev21 := hE18
   have hE23 := hE18.step hw22 (hG17.mem1)
   have hB24 := hO20.evo hw22 (hA16.own1)
   obtain ⟨qa, qc, qo, hS1, hqo⟩ := hto
   rw [List.nil_append] at hS1 hlays
   have hsbw : ∀ y, y ∈ SB more → y ∈ ([] : List Nat) ∨ w.heap.size ≤ y := fun y hy => by obtain ⟨nd, hn, rfl⟩ := List.mem_map.1 hy; exact .inr (Nat.le_trans hev21.size (hfr nd hn))
   have hlr := runesK_len s rn
   have hro2 := hB24
   have hS2 := ShAt.asked (rs := runesK s rn) (ro := ro) (by rw [hlr]; exact hS1) (by rw [hlr]; exact hro2) (by rw [hlr]; omega)
   have hFS : FromSpec Try.prog ⟨hb, runesK s rn, ra, rc, ro, more, qa, qc, qo⟩ 0 t := from_ok (H := ⟨hb, runesK s rn, ra, rc, ro, more, qa, qc, qo⟩) hlays hok.good
   refine wl_a ?_
   refine wl_nil (nrm_then ?_)
   refine cw_seq ?_
   refine cw_region ?_
   refine wl_m ?_
   refine wl_m ?_
   refine wl_call1 (vs := [_, _, _]) Try.goes25 rfl (hFS hS2 (Nat.zero_le _)) rfl ?_
   rintro rv w25 ⟨hw26, -, hrv⟩
   have hE27 := hE23.step hw26 (hsbw)
   simp only [hlr] at hrv
   obtain ⟨va, vc, rfl, hvc⟩ := rsl_bl hrv
   obtain ⟨bV, oV, rfl, hbV, hcV⟩ := hvc rn (by omega)
   refine wl_m ?_
   refine wl_val rfl (ex_len_slice rfl Try.underlying58 rfl) ?_
   refine wl_val rfl (ex_indexAddrZ (n := rn) rfl rfl rfl Try.elem65 (by omega)) ?_
   refine wl_val rfl (ex_load1 rfl Try.agg4 hcV) ?_
   refine wl_a ?_
   refine wl_nil (nrm_then ?_)
   refine cw_ret (body_ret1 rfl rfl ?_)
   refine ⟨hE27, _, rfl, ?_⟩
   rw [tf_iff]
   exact ⟨fun h => ⟨rn, hU, h⟩, fun ⟨N, hU2, h⟩ => by obtain rfl := utf_uniq hU.2 (.inl hU.1) hU2; exact h⟩


def litX (r : Int) : Rx := .mk 2 r [] 0 0 false 0 (ByteArray.mk #[]) []
abbrev litV (r : Int) : List Value := [iv 2, .int .i32 r, .slice none 0 0, iv 0, iv 0, .bool false, iv 0, .string (ByteArray.mk #[]), .slice none 0 0]
theorem litX_rx (r : Int) (X : List Nat) (w : World) : RRx 1 X w (litV r) (litX r) := ⟨_, _, rfl, rnil0, rnil0, Nat.zero_le _, Nat.zero_le _, Nat.zero_le _⟩
theorem litX_ok {r : Int} (h0 : 0 ≤ r) (h1 : r ≤ 1114111) : (litX r).Ok := by
  have hp : NodeP (litX r) := ⟨by show (1 : Int) ≤ 2; decide, by show (2 : Int) ≤ 13; decide, .inl rfl, .inr rfl, .inr ⟨rfl, rfl, rfl⟩, .inr ⟨rfl, rfl⟩, fun _ => ⟨h0, h1⟩, fun h => absurd (show (2 : Int) = 3 from h) (by decide), fun h => absurd (show (2 : Int) = 4 ∨ (2 : Int) = 5 from h) (by decide), fun h => absurd (show (2 : Int) = 6 from h) (by decide), fun h => absurd (show (2 : Int) = 7 from h) (by decide), fun _ => rfl⟩
  refine ⟨(1, []), ?_⟩
  rw [fine_yes (x := litX r) (b := 0) (st := (0, [])) ⟨by decide, by show (if (2 : Int) = 7 then _ else _) ≤ 250; decide, hp, fun h => absurd (show (2 : Int) = 7 from h) (by decide)⟩]
  show fineKids [] _ _ _ = _
  rw [fineKids]
  rfl

theorem lit_ok {w : World} (r : Int) : Calls Try.prog 7 #[.int .i32 r] w (Ret fun v w' => v = .agg (litV r).toArray ∧ Evo [] w w') := by
  refine calls_of_cw (N := 5) Try.func7 rfl rfl rfl ?_
  refine cw_seq ?_
  refine cw_region ?_
  refine wl_alloc rfl Try.zero25 fun b1 w2 hB3 hs4 hw5 => ?_
  have hG6 := Ge.new (Evo.refl [] w) hs4
  have hE7 := (Evo.refl [] w).then hw5
  refine wl_nil (nrm_then ?_)
  refine cw_seq ?_
  refine cw_region ?_
  refine wl_m ?_
  refine wl_val rfl (ex_build (vs := [(0, _), (1, _)]) Try.build25 rfl (cells := [_, _, _, _, _, _, _, _, _]) rfl) ?_
  refine wl_storeBlk rfl rfl Try.size25 hB3 rfl rfl ⟨by first | rfl | assumption, by first | rfl | assumption, by first | rfl | assumption, by first | rfl | assumption, by first | rfl | assumption, by first | rfl | assumption, by first | rfl | assumption, by first | rfl | assumption, by first | rfl | assumption, trivial⟩ fun w8 hB9 hw10 => ?_
  have hE11 := hE7.step hw10 hG6.mem1
  refine wl_nil (nrm_then ?_)
  refine cw_ret (body_retC1 rfl (ResOk.cellA rfl Try.agg25 Try.size25 hB9 rfl) ?_)
  exact ⟨rfl, hE11⟩

set_option maxHeartbeats 4000000 in
theorem counted_step {n : Nat} (ih : ∀ {w : World} {bc : Nat} {k : Int} {vs : List Value} {t : Rx} (hB : w.heap[bc]? = some (.cells #[iv k] 3 (0, 0))) (h0 : 0 ≤ k) (h1 : k ≤ 200000) (hx : RRx n [bc] w vs t), Calls Try.prog 20 #[.agg vs.toArray, .pointer (some ⟨bc, 0, none⟩)] w (Ret fun v w' => ∃ bv k', v = .bool bv ∧ 0 ≤ k' ∧ k' ≤ 200001 ∧ w'.heap[bc]? = some (.cells #[iv k'] 3 (0, 0)) ∧ Evo [bc] w w')) {w : World} {bc : Nat} {k : Int} {vs : List Value} {t : Rx} (hB : w.heap[bc]? = some (.cells #[iv k] 3 (0, 0))) (h0 : 0 ≤ k) (h1 : k ≤ 200000) (hx : RRx (n + 1) [bc] w vs t) : Calls Try.prog 20 #[.agg vs.toArray, .pointer (some ⟨bc, 0, none⟩)] w (Ret fun v w' => ∃ bv k', v = .bool bv ∧ 0 ≤ k' ∧ k' ≤ 200001 ∧ w'.heap[bc]? = some (.cells #[iv k'] 3 (0, 0)) ∧ Evo [bc] w w') := by
  have hx0 := hx
  obtain ⟨m, xa, xc, ka, kc, hm, rfl, hrg, hk, bl1, bl2, bl3⟩ := hx.get
  obtain rfl : m = n := by omega
  obtain ⟨_, _, hke, hkc, e1⟩ := hk
  cases hke
  refine calls_of_cw (N := 41) Try.func20 rfl rfl rfl ?_
  refine cw_seq ?_
  refine cw_region ?_
  refine wl_boxA rfl rfl fun b2 w1 hB2 hs3 hw4 => ?_
  have hsz_b2 := hs3
  have hA5 := Apart.new (Lt.blk hB) hs3
  have hG6 := Ge.new (Evo.refl [bc] w) hs3
  have hE7 := (Evo.refl [bc] w).then hw4
  have hB8 := hw4.blk0 hB
  have hA2c := hA5.symm
  refine wl_a ?_
  refine wl_nil (nrm_then ?_)
  refine cw_seq ?_
  refine cw_region ?_
  refine wl_m ?_
  refine wl_val rfl (ex_nilCheck rfl) ?_
  refine wl_val rfl (ex_load1 rfl Try.agg3 (cell_nth hB8 rfl)) ?_
  refine wl_val rfl (ex_add_i64 rfl rfl (by omega) (by omega)) ?_
  refine wl_val rfl (ex_nilCheck rfl) ?_
  refine wl_store1 rfl rfl (by first | rfl | assumption) Try.size3 hB8 rfl fun w9 hB10 hw11 => ?_
  have hE12 := hE7.step hw11 (fun y hy => .inl hy)
  have hB13 := hw11.blk hB2 hA5.symm.nmem1
  try simp only [List.setIfInBounds_toArray, List.set_cons_zero, List.set_cons_succ, Nat.reduceAdd, Nat.zero_add, Nat.add_zero] at hB10
  refine wl_nil (nrm_then ?_)
  refine cw_seq ?_
  refine cw_seq ?_
  refine cw_region ?_
  refine wl_val rfl (ex_fieldAddr rfl Try.fld25_2) ?_
  refine wl_val rfl (ex_load1 rfl Try.agg22 (cell_nth hB13 rfl)) ?_
  refine wl_val rfl (ex_len_slice rfl Try.underlying22 rfl) ?_
  refine wl_val rfl (ex_gtr rfl rfl) ?_
  refine wl_nil (nrm_then ?_)
  refine cw_if rfl (fun hc14 => ?_) (fun hc14 => ?_)
  ·skip
   refine cw_region ?_
   refine wl_m ?_
   refine wl_val rfl (ex_nilCheck rfl) ?_
   refine wl_store1 rfl rfl (by first | rfl | assumption) Try.size3 hB10 rfl fun w14 hB15 hw16 => ?_
   have hE17 := hE12.step hw16 (fun y hy => .inl hy)
   have hB18 := hw16.blk hB13 hA5.symm.nmem1
   try simp only [List.setIfInBounds_toArray, List.set_cons_zero, List.set_cons_succ, Nat.reduceAdd, Nat.zero_add, Nat.add_zero] at hB15
   refine wl_nil (nrm_then ?_)
   refine cw_seq ?_
   refine cw_seq ?_
   refine cw_region ?_
   refine wl_a ?_
   refine wl_nil (nrm_then ?_)
   refine cw_block ?_
   refine cw_loop (α := Nat × Int) ((0, _)) (fun x => [(5, .int .i64 (x.1 : Nat))]) [(1, _), (2, _), (4, _)] (fun x wr => Evo [bc] w wr ∧ (x.1 ≤ t.kids.length ∧ 0 ≤ x.2 ∧ x.2 ≤ 200001 ∧ wr.heap[bc]? = some (.cells #[iv x.2] 3 (0, 0)) ∧ wr.heap[b2]? = some (.cells #[iv t.kind, .int .i32 t.r, .slice xa t.ranges.length xc, iv t.min, iv t.max, .bool t.lazy, iv t.cap, .string t.name, .slice ka t.kids.length kc] 25 (0, 0)))) (fun x => t.kids.length - x.1) ⟨rfl, trivial⟩ ⟨rfl, rfl, rfl, trivial⟩ ⟨hE17, ⟨Nat.zero_le _, by omega, by omega, hB15, hB18⟩⟩ ?_
   rintro ⟨j, q⟩ wr19 ⟨hV20, ⟨hj, hq0, hq1, hBC, hb2⟩⟩
   show CW _ _ _ _ [(5, .int .i64 (j : Nat)), (1, _), (2, _), (4, _)] _
   try dsimp only at hj
   try dsimp only at hq0
   try dsimp only at hq1
   try dsimp only at hBC
   try dsimp only at hb2
   refine cw_seq ?_
   refine cw_seq ?_
   refine cw_region ?_
   refine wl_m ?_
   refine wl_val rfl (ex_fieldAddr rfl Try.fld25_8) ?_
   refine wl_val rfl (ex_load1 rfl Try.agg23 (cell_nth hb2 rfl)) ?_
   refine wl_val rfl (ex_len_slice rfl Try.underlying23 rfl) ?_
   refine wl_val rfl (ex_lss rfl rfl) ?_
   refine wl_m ?_
   refine wl_split (t := 22) rfl (fun hs22 => ?_) (fun hs22 => ?_)
   ·skip
    refine wl_g ?_
    refine wl_m ?_
    refine wl_g ?_
    refine wl_val rfl (ex_nilCheck rfl) ?_
    refine wl_g ?_
    refine wl_val rfl (ex_load1 rfl Try.agg3 (cell_nth hBC rfl)) ?_
    refine wl_g ?_
    refine wl_val rfl (ex_leq rfl rfl) ?_
    refine wl_pt ?_
    refine wl_nil (nrm_then ?_)
    refine cw_if rfl (fun hc27 => ?_) (fun hc27 => ?_)
    ·skip
     have hj' : j < t.kids.length := by omega
     obtain ⟨b1, o1, vs1, ha1, hb1, hvl1, hc1, hrk⟩ := e1 j hj'
     obtain ⟨m1, ra1, rc1, ka1, kc1, rfl, rfl, -⟩ := id hrk.get
     refine cw_skip (nrm_then ?_)
     refine cw_seq ?_
     refine cw_block ?_
     refine cw_region ?_
     refine wl_val rfl (ex_fieldAddr rfl Try.fld25_8) ?_
     refine wl_val rfl (ex_load1 rfl Try.agg23 (cell_nth hb2 rfl)) ?_
     refine wl_m ?_
     refine wl_val rfl (ex_indexAddr (n := j) (by rw [ha1]; rfl) rfl Try.elem23 (by omega)) ?_
     refine wl_val rfl (ex_loadA rfl Try.agg25 Try.size25 (vs := [_, _, _, _, _, _, _, _, _]) rfl (hc1.evo hV20 hb1)) ?_
     refine wl_m ?_
     refine wl_call1 (vs := [_, _]) Try.goes20 rfl (ih hBC (by omega) (by omega) (RRx.pers _ _ _ _ _ _ hV20 hrk)) rfl ?_
     rintro _ w21 ⟨bv2, k2, rfl, hk20, hk21, hBk, hw22⟩
     have hE23 := hV20.step hw22 (fun y hy => .inl hy)
     have hB24 := hw22.blk hb2 (hA2c.nmem1)
     refine wl_nil (nrm_block (nrm_then ?_))
     refine cw_region ?_
     refine wl_m ?_
     refine wl_val rfl (ex_add_i64 rfl rfl (by omega) (by omega)) ?_
     refine wl_a ?_
     refine wl_nil (nrm_same ?_)
     refine ⟨(j + 1, k2), ?_, ⟨rfl, trivial⟩, ⟨rfl, rfl, rfl, trivial⟩, hE23, ?_⟩
     · (try dsimp only); omega
     ·skip
      try dsimp only
      exact ⟨by omega, hk20, hk21, hBk, hB24⟩
    ·skip
     refine cw_exit (ex_then (ex_then (ex_here (nrm_then ?_))))
     refine cw_seq ?_
     refine cw_region ?_
     refine wl_m ?_
     refine wl_val rfl (ex_nilCheck rfl) ?_
     refine wl_val rfl (ex_load1 rfl Try.agg3 (cell_nth hBC rfl)) ?_
     refine wl_val rfl (ex_leq rfl rfl) ?_
     refine wl_a ?_
     refine wl_nil (nrm_then ?_)
     refine cw_ret (body_ret1 rfl rfl ?_)
     exact ⟨_, q, rfl, hq0, hq1, hBC, hV20⟩
   ·skip
    refine wl_n ?_
    refine wl_n ?_
    refine wl_n ?_
    refine wl_n ?_
    refine wl_pf ?_
    refine wl_nil (nrm_then ?_)
    refine cw_false rfl ?_
    refine cw_exit (ex_then (ex_then (ex_here (nrm_then ?_))))
    refine cw_seq ?_
    refine cw_region ?_
    refine wl_m ?_
    refine wl_val rfl (ex_nilCheck rfl) ?_
    refine wl_val rfl (ex_load1 rfl Try.agg3 (cell_nth hBC rfl)) ?_
    refine wl_val rfl (ex_leq rfl rfl) ?_
    refine wl_a ?_
    refine wl_nil (nrm_then ?_)
    refine cw_ret (body_ret1 rfl rfl ?_)
    exact ⟨_, q, rfl, hq0, hq1, hBC, hV20⟩
  ·skip
   refine cw_skip (nrm_then ?_)
   refine cw_seq ?_
   refine cw_seq ?_
   refine cw_region ?_
   refine wl_a ?_
   refine wl_nil (nrm_then ?_)
   refine cw_block ?_
   refine cw_loop (α := Nat × Int) ((0, _)) (fun x => [(5, .int .i64 (x.1 : Nat))]) [(1, _), (2, _), (4, _)] (fun x wr => Evo [bc] w wr ∧ (x.1 ≤ t.kids.length ∧ 0 ≤ x.2 ∧ x.2 ≤ 200001 ∧ wr.heap[bc]? = some (.cells #[iv x.2] 3 (0, 0)) ∧ wr.heap[b2]? = some (.cells #[iv t.kind, .int .i32 t.r, .slice xa t.ranges.length xc, iv t.min, iv t.max, .bool t.lazy, iv t.cap, .string t.name, .slice ka t.kids.length kc] 25 (0, 0)))) (fun x => t.kids.length - x.1) ⟨rfl, trivial⟩ ⟨rfl, rfl, rfl, trivial⟩ ⟨hE12, ⟨Nat.zero_le _, by omega, by omega, hB10, hB13⟩⟩ ?_
   rintro ⟨j, q⟩ wr25 ⟨hV26, ⟨hj, hq0, hq1, hBC, hb2⟩⟩
   show CW _ _ _ _ [(5, .int .i64 (j : Nat)), (1, _), (2, _), (4, _)] _
   try dsimp only at hj
   try dsimp only at hq0
   try dsimp only at hq1
   try dsimp only at hBC
   try dsimp only at hb2
   refine cw_seq ?_
   refine cw_seq ?_
   refine cw_region ?_
   refine wl_m ?_
   refine wl_val rfl (ex_fieldAddr rfl Try.fld25_8) ?_
   refine wl_val rfl (ex_load1 rfl Try.agg23 (cell_nth hb2 rfl)) ?_
   refine wl_val rfl (ex_len_slice rfl Try.underlying23 rfl) ?_
   refine wl_val rfl (ex_lss rfl rfl) ?_
   refine wl_m ?_
   refine wl_split (t := 22) rfl (fun hs22 => ?_) (fun hs22 => ?_)
   ·skip
    refine wl_g ?_
    refine wl_m ?_
    refine wl_g ?_
    refine wl_val rfl (ex_nilCheck rfl) ?_
    refine wl_g ?_
    refine wl_val rfl (ex_load1 rfl Try.agg3 (cell_nth hBC rfl)) ?_
    refine wl_g ?_
    refine wl_val rfl (ex_leq rfl rfl) ?_
    refine wl_pt ?_
    refine wl_nil (nrm_then ?_)
    refine cw_if rfl (fun hc27 => ?_) (fun hc27 => ?_)
    ·skip
     have hj' : j < t.kids.length := by omega
     obtain ⟨b1, o1, vs1, ha1, hb1, hvl1, hc1, hrk⟩ := e1 j hj'
     obtain ⟨m1, ra1, rc1, ka1, kc1, rfl, rfl, -⟩ := id hrk.get
     refine cw_skip (nrm_then ?_)
     refine cw_seq ?_
     refine cw_block ?_
     refine cw_region ?_
     refine wl_val rfl (ex_fieldAddr rfl Try.fld25_8) ?_
     refine wl_val rfl (ex_load1 rfl Try.agg23 (cell_nth hb2 rfl)) ?_
     refine wl_m ?_
     refine wl_val rfl (ex_indexAddr (n := j) (by rw [ha1]; rfl) rfl Try.elem23 (by omega)) ?_
     refine wl_val rfl (ex_loadA rfl Try.agg25 Try.size25 (vs := [_, _, _, _, _, _, _, _, _]) rfl (hc1.evo hV26 hb1)) ?_
     refine wl_m ?_
     refine wl_call1 (vs := [_, _]) Try.goes20 rfl (ih hBC (by omega) (by omega) (RRx.pers _ _ _ _ _ _ hV26 hrk)) rfl ?_
     rintro _ w27 ⟨bv2, k2, rfl, hk20, hk21, hBk, hw28⟩
     have hE29 := hV26.step hw28 (fun y hy => .inl hy)
     have hB30 := hw28.blk hb2 (hA2c.nmem1)
     refine wl_nil (nrm_block (nrm_then ?_))
     refine cw_region ?_
     refine wl_m ?_
     refine wl_val rfl (ex_add_i64 rfl rfl (by omega) (by omega)) ?_
     refine wl_a ?_
     refine wl_nil (nrm_same ?_)
     refine ⟨(j + 1, k2), ?_, ⟨rfl, trivial⟩, ⟨rfl, rfl, rfl, trivial⟩, hE29, ?_⟩
     · (try dsimp only); omega
     ·skip
      try dsimp only
      exact ⟨by omega, hk20, hk21, hBk, hB30⟩
    ·skip
     refine cw_exit (ex_then (ex_then (ex_here (nrm_then ?_))))
     refine cw_seq ?_
     refine cw_region ?_
     refine wl_m ?_
     refine wl_val rfl (ex_nilCheck rfl) ?_
     refine wl_val rfl (ex_load1 rfl Try.agg3 (cell_nth hBC rfl)) ?_
     refine wl_val rfl (ex_leq rfl rfl) ?_
     refine wl_a ?_
     refine wl_nil (nrm_then ?_)
     refine cw_ret (body_ret1 rfl rfl ?_)
     exact ⟨_, q, rfl, hq0, hq1, hBC, hV26⟩
   ·skip
    refine wl_n ?_
    refine wl_n ?_
    refine wl_n ?_
    refine wl_n ?_
    refine wl_pf ?_
    refine wl_nil (nrm_then ?_)
    refine cw_false rfl ?_
    refine cw_exit (ex_then (ex_then (ex_here (nrm_then ?_))))
    refine cw_seq ?_
    refine cw_region ?_
    refine wl_m ?_
    refine wl_val rfl (ex_nilCheck rfl) ?_
    refine wl_val rfl (ex_load1 rfl Try.agg3 (cell_nth hBC rfl)) ?_
    refine wl_val rfl (ex_leq rfl rfl) ?_
    refine wl_a ?_
    refine wl_nil (nrm_then ?_)
    refine cw_ret (body_ret1 rfl rfl ?_)
    exact ⟨_, q, rfl, hq0, hq1, hBC, hV26⟩

theorem counted_ok : ∀ {n : Nat} {w : World} {bc : Nat} {k : Int} {vs : List Value} {t : Rx} (hB : w.heap[bc]? = some (.cells #[iv k] 3 (0, 0))) (h0 : 0 ≤ k) (h1 : k ≤ 200000) (hx : RRx n [bc] w vs t), Calls Try.prog 20 #[.agg vs.toArray, .pointer (some ⟨bc, 0, none⟩)] w (Ret fun v w' => ∃ bv k', v = .bool bv ∧ 0 ≤ k' ∧ k' ≤ 200001 ∧ w'.heap[bc]? = some (.cells #[iv k'] 3 (0, 0)) ∧ Evo [bc] w w')
  | 0, w, bc, k, vs, t, hB, h0, h1, hx => hx.elim
  | n + 1, w, bc, k, vs, t, hB, h0, h1, hx => counted_step (n := n) (fun hB h0 h1 hx => counted_ok hB h0 h1 hx) hB h0 h1 hx

theorem wide_ok {n : Nat} {w : World} {vs : List Value} {t : Rx} (hx : RRx n [] w vs t) : Calls Try.prog 9 #[.agg vs.toArray] w (Ret fun v w' => ∃ b, v = .bool b ∧ Evo [] w w') := by
  have hx0 := hx
  obtain ⟨m, xa, xc, ka, kc, hm, rfl, hrg, hk, bl1, bl2, bl3⟩ := hx.get
  refine calls_of_cw (N := 7) Try.func9 rfl rfl rfl ?_
  refine cw_seq ?_
  refine cw_region ?_
  refine wl_boxA rfl rfl fun b1 w1 hB2 hs3 hw4 => ?_
  have hsz_b1 := hs3
  have hG5 := Ge.new (Evo.refl [] w) hs3
  have hE6 := (Evo.refl [] w).then hw4
  refine wl_a ?_
  refine wl_nil (nrm_then ?_)
  refine cw_seq ?_
  refine cw_region ?_
  refine wl_alloc rfl Try.zero3 fun bc w7 hB8 hs9 hw10 => ?_
  have hsz_bc := hs9
  have hA11 := Apart.new (Lt.blk hB2) hs9
  have hG12 := Ge.new hE6 hs9
  have hE13 := hE6.then hw10
  have hB14 := hw10.blk0 hB2
  refine wl_store1 rfl rfl (by first | rfl | assumption) Try.size3 hB8 rfl fun w15 hB16 hw17 => ?_
  have hE18 := hE13.step hw17 hG12.mem1
  have hB19 := hw17.blk hB14 hA11.nmem1
  try simp only [List.setIfInBounds_toArray, List.set_cons_zero, List.set_cons_succ, Nat.reduceAdd, Nat.zero_add, Nat.add_zero] at hB16
  refine wl_nil (nrm_then ?_)
  refine cw_seq ?_
  refine cw_region ?_
  refine wl_val rfl (ex_loadBlk rfl Try.agg25 Try.size25 hB19 rfl) ?_
  refine wl_call1 (vs := [_, _]) Try.goes20 rfl (counted_ok hB16 (by decide) (by decide) (RRx.step hx0 hE18 hG12.mem1 (fun b hb => by cases hb))) rfl ?_
  rintro _ w20 ⟨bv, k', rfl, -, -, -, hw21⟩
  have hE22 := hE18.step hw21 (hG12.mem1)
  refine wl_val rfl (ex_notb rfl) ?_
  refine wl_a ?_
  refine wl_nil (nrm_then ?_)
  refine cw_ret (body_ret1 rfl rfl ?_)
  exact ⟨_, rfl, hE22⟩

end Go.Proofs.Ytgboffefbpligaa
