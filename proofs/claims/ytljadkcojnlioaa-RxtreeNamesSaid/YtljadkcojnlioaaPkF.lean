/- RxtreeNames: the numbers of layer 8's errors, limits and kinds, and what stands at each limit, are the document's: the law answers true. -/
import Derived.Test.YtljadkcojnlioaaPkE
namespace Go.Proofs.Ytljadkcojnlioaa
open Go.Proofs
open Go.W Go.RowKit
attribute [local irreducible] Decidable.decide
set_option linter.unusedSimpArgs false
set_option linter.unusedVariables false
theorem Try.goes4 : Goes Try.prog 4 := ⟨_, Try.func4, by kernel_rfl, by kernel_rfl⟩
theorem Try.goes5 : Goes Try.prog 5 := ⟨_, Try.func5, by kernel_rfl, by kernel_rfl⟩
theorem Try.goes6 : Goes Try.prog 6 := ⟨_, Try.func6, by kernel_rfl, by kernel_rfl⟩
theorem Try.make23 : makeB Try.prog 23 = some (25, 9, 112, #[.int .i64 0, .int .i32 0, .slice none 0 0, .int .i64 0, .int .i64 0, .bool false, .int .i64 0, .string ByteArray.empty, .slice none 0 0]) := by kernel_rfl
theorem repN_mem {b : Nat} {l : List Nat} : ∀ {n : Nat}, b ∈ repN n l → b ∈ l
  | 0, h => by cases h
  | n + 1, h => by
    rcases List.mem_append.1 h with h | h
    · exact repN_mem h
    · exact h
theorem repN_split (l : List Nat) : ∀ {n i : Nat}, i < n → ∃ r, repN n l = repN i l ++ l ++ r
  | n + 1, i, h => by
    rcases Nat.eq_or_lt_of_le (Nat.le_of_lt_succ h) with rfl | h2
    · exact ⟨[], by rw [repN, List.append_nil]⟩
    · obtain ⟨r, hr⟩ := repN_split l h2
      exact ⟨r ++ l, by rw [repN, hr]; simp⟩
theorem at_rep {s : ByteArray} {p n i : Nat} {l : List Nat} (h : At s p (repN n l)) (hi : i < n) : At s (p + i * l.length) l := by
  obtain ⟨r, hr⟩ := repN_split l hi
  rw [hr, List.append_assoc] at h
  have := (At.app.1 (At.app.1 h).2).1
  rw [repN_len] at this
  exact this
theorem at_bstr {l : List Nat} (h : ∀ b, b ∈ l → b < 256) : At (bstr l) 0 l := At.of fun k hk => by
  rw [Nat.zero_add]
  exact ⟨by rw [bstr_size]; exact hk, sb_bstr hk h⟩
theorem asc_bstr {l : List Nat} (h : ∀ b, b ∈ l → b < 128) : ∀ k, k < (bstr l).size → sb (bstr l) k < 128 := fun k hk => by
  rw [bstr_size] at hk
  rw [sb_bstr hk (fun b hb => by have := h b hb; omega)]
  exact h _ (List.getElem_mem _)
theorem nm_a {n : Nat} (hn : n ≤ 4096) : ∃ x, pParse (bstr (repN n [97])) = .ok x := by
  have hm : ∀ b, b ∈ repN n [97] → b < 256 := fun b hb => by rw [List.mem_singleton.1 (repN_mem hb)]; decide
  refine parse_a (n := n) (by rw [bstr_size, repN_len]; simp) (fun k hk => ?_) hn
  have := at_rep (at_bstr hm) hk
  have h1 := this.1.2
  simpa using h1
theorem nm_long : pParse (bstr (repN 4097 [97])) = .error 1 := pp_long (by rw [bstr_size, repN_len]; decide)
def dp (n : Nat) : List Nat := repN n [40, 63, 58] ++ repN n [41]
theorem dp_asc {n : Nat} : ∀ b, b ∈ dp n → b < 128 := fun b hb => by
  rcases List.mem_append.1 hb with h | h
  · have := repN_mem h; simp at this; omega
  · have := repN_mem h; simp at this; omega
theorem dp_size (n : Nat) : (bstr (dp n)).size = 4 * n := by rw [bstr_size, dp, List.length_append, repN_len, repN_len]; simp; omega
theorem dp_open {n i : Nat} (hi : i < n) : At (bstr (dp n)) (3 * i) [40, 63, 58] := by
  have h1 := (At.app.1 (at_bstr (l := dp n) (fun b hb => by have := dp_asc b hb; omega))).1
  have := at_rep h1 hi
  rw [Nat.zero_add, Nat.mul_comm] at this
  exact this
theorem dp_close {n j : Nat} (hj : j < n) : isB (bstr (dp n)) (3 * n + j) 41 := by
  have h1 := (At.app.1 (at_bstr (l := dp n) (fun b hb => by have := dp_asc b hb; omega))).2
  have := (at_rep h1 hj).1
  rw [Nat.zero_add, repN_len] at this
  simpa [Nat.mul_comm] using this
theorem nm_deep {n : Nat} (hn : n ≤ 250) : ∃ x, pParse (bstr (repN n [40, 63, 58]) ++ bstr (repN n [41])) = .ok x := by
  rw [← bstr_app]
  exact parse_deep (dp_size n) (fun i hi => dp_open hi) (fun j hj => dp_close hj) (asc_bstr dp_asc) hn
theorem nm_deepE : pParse (bstr (repN 251 [40, 63, 58]) ++ bstr (repN 251 [41])) = .error 3 := by
  rw [← bstr_app]
  exact parse_deepE (s := bstr (dp 251)) (by rw [dp_size]; decide) (fun i hi => dp_open hi) (asc_bstr dp_asc)
theorem gp_asc {n : Nat} : ∀ b, b ∈ repN n [40, 41] → b < 128 := fun b hb => by have := repN_mem hb; simp at this; omega
theorem gp_size (n : Nat) : (bstr (repN n [40, 41])).size = 2 * n := by rw [bstr_size, repN_len]; simp; omega
theorem gp_open {n i : Nat} (hi : i < n) : At (bstr (repN n [40, 41])) (2 * i) [40, 41] := by
  have := at_rep (at_bstr (l := repN n [40, 41]) (fun b hb => by have := gp_asc b hb; omega)) hi
  rw [Nat.zero_add, Nat.mul_comm] at this
  exact this
theorem nm_grps {n : Nat} (hn : n ≤ 100) : ∃ x, pParse (bstr (repN n [40, 41])) = .ok x := parse_grps (gp_size n) (fun i hi => gp_open hi) (asc_bstr gp_asc) hn
theorem nm_grpsE : pParse (bstr (repN 101 [40, 41])) = .error 85 := parse_grpsE (by rw [gp_size]; decide) (by rw [gp_size]; decide) (fun i hi => gp_open hi) (asc_bstr gp_asc)
theorem parse_yes {w : World} {s : ByteArray} (hG : Glb w) (h : ∃ x, pParse s = .ok x) : Calls Try.prog 4 #[.string s] w (Ret fun v w' => ∃ a0 a1 a2 a3 a4 a5 a6 a7 ra rn rc ka kn kc, v = .tuple #[.agg #[iv a0, .int .i32 a1, .slice ra rn rc, iv a3, iv a4, .bool a5, iv a6, .string a7, .slice ka kn kc], iv 0] ∧ a2 = 0 ∧ Evo [] w w') := by
  obtain ⟨x, hx⟩ := h
  refine (parse_ok s hG).mono ?_
  rintro e w' ⟨v, rfl, hv, h1 | ⟨x2, vs, bs, h2, rfl, h4, h5⟩⟩
  · obtain ⟨e, h1, -⟩ := h1
    rw [hx] at h1; cases h1
  · obtain ⟨ra, rc, ka, kc, rfl⟩ := id h4.nine
    exact ⟨_, rfl, _, _, 0, _, _, _, _, _, _, _, _, _, _, _, rfl, rfl, hv⟩
theorem parse_no {w : World} {s : ByteArray} {e : Int} (hG : Glb w) (h : pParse s = .error e) : Calls Try.prog 4 #[.string s] w (Ret fun v w' => v = .tuple #[zRx, iv e] ∧ Evo [] w w') := by
  refine (parse_ok s hG).mono ?_
  rintro e9 w' ⟨v, rfl, hv, h1 | ⟨x2, vs, bs, h2, rfl, h4, h5⟩⟩
  · obtain ⟨e2, h1, h3⟩ := h1
    rw [h] at h1; cases h1
    exact ⟨_, rfl, h3, hv⟩
  · rw [h] at h2; cases h2
abbrev epC : List Value := [iv 1, .int .i32 0, .slice none 0 0, iv 0, iv 0, .bool false, iv 0, .string ByteArray.empty, .slice none 0 0]
def epCs : Nat → List Value
  | 0 => []
  | k + 1 => epCs k ++ epC
theorem epCs_len : ∀ k, (epCs k).length = k * 9
  | 0 => rfl
  | k + 1 => by rw [epCs, List.length_append, epCs_len k]; simp; omega
theorem epCs_get {k j i : Nat} {v : Value} (hj : j < k) (hi : epC[i]? = some v) : (epCs k)[j * 9 + i]? = some v := by
  induction k with
  | zero => omega
  | succ k ih =>
    have hi9 : i < 9 := by have := (List.getElem?_eq_some_iff.1 hi).1; simpa using this
    rw [epCs]
    rcases Nat.lt_or_ge j k with h | h
    · rw [List.getElem?_append_left (by rw [epCs_len]; omega)]; exact ih h
    · obtain rfl : j = k := by omega
      rw [List.getElem?_append_right (by rw [epCs_len]; omega), epCs_len, Nat.add_sub_cancel_left]; exact hi
def epX : Rx := rxK 1
theorem epX_rx (X : List Nat) (w : World) : RRx 1 X w epC epX := ⟨_, _, rfl, rnil0, rnil0, Nat.zero_le _, Nat.zero_le _, Nat.zero_le _⟩
theorem kids_rsl {w : World} {a : Option Addr} {n c : Nat} {ob : Option Nat} (h : OwnS w 25 9 a n c (epCs n) ob) : RSl 9 (RRx 1) [] w (.slice a n c) (List.replicate n epX) := by
  refine ⟨a, c, by simp, by simpa using h.le, fun k hk => ?_⟩
  have hk' : k < n := by simpa using hk
  obtain ⟨g, hg, ha, hc⟩ := h.cells (by omega)
  refine ⟨g, 0, epC, ha, by simp, rfl, fun j v hj => ?_, by simpa using epX_rx [] w⟩
  have := hc (k * 9 + j) v (epCs_get hk' hj)
  rw [Nat.zero_add] at this ⊢
  exact this
theorem eps_node : NodeP epX := ⟨by show (1 : Int) ≤ 1; decide, by show (1 : Int) ≤ 13; decide, .inr rfl, .inr rfl, .inr ⟨rfl, rfl, rfl⟩, .inr ⟨rfl, rfl⟩, fun h => absurd (show (1 : Int) = 2 from h) (by decide), fun h => absurd (show (1 : Int) = 3 from h) (by decide), fun h => absurd (show (1 : Int) = 4 ∨ (1 : Int) = 5 from h) (by decide), fun h => absurd (show (1 : Int) = 6 from h) (by decide), fun h => absurd (show (1 : Int) = 7 from h) (by decide), fun _ => rfl⟩
theorem fine_eps {b : Int} {st : St} (hb : b ≤ 250) : epX.fine b st = if st.1 + 1 ≤ 8194 then some (st.1 + 1, st.2) else none := by
  split
  · rename_i h
    rw [fine_yes ⟨h, by rw [if_neg (show ¬ epX.kind = 7 by decide)]; exact hb, eps_node, fun h => absurd (show (1 : Int) = 7 from h) (by decide)⟩]
    show fineKids [] _ _ _ = _
    rw [fineKids]
    rfl
  · rename_i h
    exact fine_no fun h2 => h h2.1
theorem fine_kids {b : Int} (hb : b ≤ 250) : ∀ (n : Nat) (st : St), fineKids (List.replicate n epX) 5 b st = if st.1 + n ≤ 8194 ∨ n = 0 then some (st.1 + n, st.2) else none
  | 0, st => by rw [List.replicate_zero, fineKids, if_pos (.inr rfl)]; rfl
  | n + 1, st => by
    rw [List.replicate_succ, fineKids, if_neg (show ¬ Brk epX.kind 5 by decide), fine_eps (by omega)]
    by_cases h : st.1 + 1 ≤ 8194
    · rw [if_pos h]
      simp only
      rw [fine_kids hb n]
      simp only
      by_cases h2 : st.1 + 1 + n ≤ 8194 ∨ n = 0
      · rw [if_pos h2, if_pos (by omega)]
        have : st.1 + 1 + n = st.1 + (n + 1) := by omega
        rw [this]
      · rw [if_neg h2, if_neg (by omega)]
    · rw [if_neg h]
      simp only
      rw [if_neg (by omega)]
def altX (n : Nat) : Rx := rxRow 5 (List.replicate n epX)
theorem alt_node {n : Nat} (hn : 2 ≤ n) : NodeP (altX n) := ⟨by show (1 : Int) ≤ 5; decide, by show (5 : Int) ≤ 13; decide, .inr rfl, .inr rfl, .inr ⟨rfl, rfl, rfl⟩, .inr ⟨rfl, rfl⟩, fun h => absurd (show (5 : Int) = 2 from h) (by decide), fun h => absurd (show (5 : Int) = 3 from h) (by decide), fun _ => by show 2 ≤ (List.replicate n epX).length; simpa using hn, fun h => absurd (show (5 : Int) = 6 from h) (by decide), fun h => absurd (show (5 : Int) = 7 from h) (by decide), fun h => (h (.inr (.inl rfl))).elim⟩
theorem alt_ok {n : Nat} (hn : 2 ≤ n) : (altX n).Ok ↔ n + 1 ≤ 8194 := by
  have h1 : (altX n).fine 0 (0, []) = fineKids (List.replicate n epX) 5 0 (0 + 1, []) := by
    rw [fine_yes ⟨by decide, by rw [if_neg (show ¬ (altX n).kind = 7 from by show ¬ (5 : Int) = 7; decide)]; decide, alt_node hn, fun h => absurd (show (5 : Int) = 7 from h) (by decide)⟩]
    rfl
  unfold Rx.Ok
  rw [h1, fine_kids (by decide)]
  simp only
  constructor
  · rintro ⟨st, h⟩
    split at h
    · omega
    · cases h
  · intro h
    exact ⟨_, if_pos (by omega)⟩
theorem alt_rx {w : World} {a : Option Addr} {n c : Nat} {ob : Option Nat} (h : OwnS w 25 9 a n c (epCs n) ob) (hn : n ≤ 10000) : RRx 2 [] w [iv 5, .int .i32 0, .slice none 0 0, iv 0, iv 0, .bool false, iv 0, .string ByteArray.empty, .slice a n c] (altX n) :=
  ⟨_, _, rfl, rnil0, kids_rsl h, Nat.zero_le _, Nat.zero_le _, by show (List.replicate n epX).length ≤ _; simp; omega⟩
theorem valid_alt {w : World} {a : Option Addr} {n c : Nat} {ob : Option Nat} (h : OwnS w 25 9 a n c (epCs n) ob) (hn : n ≤ 10000) (h2 : 2 ≤ n) :
    Calls Try.prog 6 #[.agg #[iv 5, .int .i32 0, .slice none 0 0, iv 0, iv 0, .bool false, iv 0, .string ByteArray.empty, .slice a n c]] w (Ret fun v w' => v = .bool (decide (n + 1 ≤ 8194)) ∧ Evo [] w w') := by
  refine (valid_ok (alt_rx h hn)).mono ?_
  rintro e w' ⟨v, rfl, r, rfl, hr, he⟩
  refine ⟨_, rfl, congrArg Value.bool (Bool.eq_iff_iff.2 ?_), he⟩
  rw [hr, alt_ok h2, decide_eq_true_iff]
theorem valid_altb {w : World} {a : Option Addr} {n c : Nat} {ob : Option Nat} (b : Bool) (h : OwnS w 25 9 a n c (epCs n) ob) (hn : n ≤ 10000) (h2 : 2 ≤ n) (hb : decide (n + 1 ≤ 8194) = b) :
    Calls Try.prog 6 #[.agg #[iv 5, .int .i32 0, .slice none 0 0, iv 0, iv 0, .bool false, iv 0, .string ByteArray.empty, .slice a n c]] w (Ret fun v w' => v = .bool b ∧ Evo [] w w') := by
  rw [← hb]; exact valid_alt h hn h2
structure KdG where
  k : Nat
  a : Option Addr
  c : Nat
  ob : Option Nat
structure KdI (w wr : World) (k : Nat) (a : Option Addr) (c : Nat) (ob : Option Nat) : Prop where
  own : OwnS wr 25 9 a k c (epCs k) ob
  ge : Ge w ob
set_option maxHeartbeats 8000000 in
theorem names_law {w : World} (hG : Glb w) : Calls Try.prog 3 #[] w (Ret fun v w' => v = .bool true ∧ Evo [] w w') := by
  refine calls_of_cw (N := 115) Try.func3 rfl rfl rfl ?_; refine cw_seq ?_; refine cw_region ?_; refine wl_a ?_; refine wl_nil (nrm_then ?_); refine cw_seq ?_; refine cw_false rfl ?_; refine cw_skip (nrm_then ?_); refine cw_seq ?_; refine cw_false rfl ?_; refine cw_skip (nrm_then ?_); refine cw_seq ?_; refine cw_region ?_; refine wl_call1 (vs := [_, _]) Try.goes5 rfl (times_ok (ByteArray.mk #[97]) [97] (by decide +kernel) (by decide) 4096 (by decide) (by decide)) rfl ?_; rintro _ w1 ⟨rfl, hw2⟩; have hE3 := (Evo.refl [] w).then hw2; refine wl_call1 (vs := [_]) Try.goes4 rfl (parse_yes (hG.evo hE3 (by simp)) (nm_a (by decide))) rfl ?_; rintro _ w4 ⟨a0, a1, a2, a3, a4, a5, a6, a7, ra, rn, rc, ka, kn, kc, rfl, -, hw5⟩; have hE6 := hE3.then hw5; refine wl_m ?_; refine wl_val rfl (ex_extract rfl rfl) ?_; refine wl_val rfl (ex_extract rfl rfl) ?_; refine wl_alloc rfl Try.zero25 fun b7 w8 hB9 hs10 hw11 => ?_; have hG12 := Ge.new hE6 hs10; have hE13 := hE6.then hw11; refine wl_storeBlk rfl rfl Try.size25 hB9 rfl rfl ⟨by first | rfl | assumption, by first | rfl | assumption, by first | rfl | assumption, by first | rfl | assumption, by first | rfl | assumption, by first | rfl | assumption, by first | rfl | assumption, by first | rfl | assumption, by first | rfl | assumption, trivial⟩ fun w14 hB15 hw16 => ?_; have hE17 := hE13.step hw16 hG12.mem1; refine wl_a ?_; refine wl_nil (nrm_then ?_); refine cw_seq ?_; refine cw_region ?_; refine wl_call1 (vs := [_, _]) Try.goes5 rfl (times_ok (ByteArray.mk #[97]) [97] (by decide +kernel) (by decide) 4097 (by decide) (by decide)) rfl ?_; rintro _ w18 ⟨rfl, hw19⟩; have hE20 := hE17.then hw19; refine wl_call1 (vs := [_]) Try.goes4 rfl (parse_no (hG.evo hE20 (by simp)) nm_long) rfl ?_; rintro _ w21 ⟨rfl, hw22⟩; have hE23 := hE20.then hw22
  refine wl_m ?_; refine wl_val rfl (ex_extract rfl rfl) ?_; refine wl_val rfl (ex_extract rfl rfl) ?_; refine wl_alloc rfl Try.zero25 fun b24 w25 hB26 hs27 hw28 => ?_; have hG29 := Ge.new hE23 hs27; have hE30 := hE23.then hw28; refine wl_storeBlk rfl rfl Try.size25 hB26 rfl rfl ⟨by first | rfl | assumption, by first | rfl | assumption, by first | rfl | assumption, by first | rfl | assumption, by first | rfl | assumption, by first | rfl | assumption, by first | rfl | assumption, by first | rfl | assumption, by first | rfl | assumption, trivial⟩ fun w31 hB32 hw33 => ?_; have hE34 := hE30.step hw33 hG29.mem1; refine wl_a ?_; refine wl_nil (nrm_then ?_); refine cw_seq ?_; refine cw_region ?_; refine wl_call1 (vs := [_, _]) Try.goes5 rfl (times_ok (ByteArray.mk #[40, 63, 58]) [40, 63, 58] (by decide +kernel) (by decide) 250 (by decide) (by decide)) rfl ?_; rintro _ w35 ⟨rfl, hw36⟩; have hE37 := hE34.then hw36; refine wl_call1 (vs := [_, _]) Try.goes5 rfl (times_ok (ByteArray.mk #[41]) [41] (by decide +kernel) (by decide) 250 (by decide) (by decide)) rfl ?_; rintro _ w38 ⟨rfl, hw39⟩; have hE40 := hE37.then hw39
  refine wl_val rfl (ex_sadd rfl rfl (by rw [bstr_size, bstr_size, repN_len, repN_len]; decide)) ?_
  refine wl_call1 (vs := [_]) Try.goes4 rfl (parse_yes (hG.evo hE40 (by simp)) (nm_deep (by decide))) rfl ?_; rintro _ w41 ⟨a0, a1, a2, a3, a4, a5, a6, a7, ra, rn, rc, ka, kn, kc, rfl, -, hw42⟩; have hE43 := hE40.then hw42; refine wl_m ?_; refine wl_val rfl (ex_extract rfl rfl) ?_; refine wl_val rfl (ex_extract rfl rfl) ?_; refine wl_alloc rfl Try.zero25 fun b44 w45 hB46 hs47 hw48 => ?_; have hG49 := Ge.new hE43 hs47; have hE50 := hE43.then hw48; refine wl_storeBlk rfl rfl Try.size25 hB46 rfl rfl ⟨by first | rfl | assumption, by first | rfl | assumption, by first | rfl | assumption, by first | rfl | assumption, by first | rfl | assumption, by first | rfl | assumption, by first | rfl | assumption, by first | rfl | assumption, by first | rfl | assumption, trivial⟩ fun w51 hB52 hw53 => ?_; have hE54 := hE50.step hw53 hG49.mem1; refine wl_a ?_; refine wl_nil (nrm_then ?_); refine cw_seq ?_; refine cw_region ?_; refine wl_call1 (vs := [_, _]) Try.goes5 rfl (times_ok (ByteArray.mk #[40, 63, 58]) [40, 63, 58] (by decide +kernel) (by decide) 251 (by decide) (by decide)) rfl ?_; rintro _ w55 ⟨rfl, hw56⟩; have hE57 := hE54.then hw56; refine wl_call1 (vs := [_, _]) Try.goes5 rfl (times_ok (ByteArray.mk #[41]) [41] (by decide +kernel) (by decide) 251 (by decide) (by decide)) rfl ?_; rintro _ w58 ⟨rfl, hw59⟩; have hE60 := hE57.then hw59
  refine wl_val rfl (ex_sadd rfl rfl (by rw [bstr_size, bstr_size, repN_len, repN_len]; decide)) ?_
  refine wl_call1 (vs := [_]) Try.goes4 rfl (parse_no (hG.evo hE60 (by simp)) nm_deepE) rfl ?_; rintro _ w61 ⟨rfl, hw62⟩; have hE63 := hE60.then hw62; refine wl_m ?_; refine wl_val rfl (ex_extract rfl rfl) ?_; refine wl_val rfl (ex_extract rfl rfl) ?_; refine wl_alloc rfl Try.zero25 fun b64 w65 hB66 hs67 hw68 => ?_; have hG69 := Ge.new hE63 hs67; have hE70 := hE63.then hw68; refine wl_storeBlk rfl rfl Try.size25 hB66 rfl rfl ⟨by first | rfl | assumption, by first | rfl | assumption, by first | rfl | assumption, by first | rfl | assumption, by first | rfl | assumption, by first | rfl | assumption, by first | rfl | assumption, by first | rfl | assumption, by first | rfl | assumption, trivial⟩ fun w71 hB72 hw73 => ?_; have hE74 := hE70.step hw73 hG69.mem1; refine wl_a ?_; refine wl_nil (nrm_then ?_); refine cw_seq ?_; refine cw_region ?_; refine wl_call1 (vs := [_, _]) Try.goes5 rfl (times_ok (ByteArray.mk #[40, 41]) [40, 41] (by decide +kernel) (by decide) 100 (by decide) (by decide)) rfl ?_; rintro _ w75 ⟨rfl, hw76⟩; have hE77 := hE74.then hw76; refine wl_call1 (vs := [_]) Try.goes4 rfl (parse_yes (hG.evo hE77 (by simp)) (nm_grps (by decide))) rfl ?_; rintro _ w78 ⟨a0, a1, a2, a3, a4, a5, a6, a7, ra, rn, rc, ka, kn, kc, rfl, -, hw79⟩; have hE80 := hE77.then hw79; refine wl_m ?_; refine wl_val rfl (ex_extract rfl rfl) ?_; refine wl_val rfl (ex_extract rfl rfl) ?_; refine wl_alloc rfl Try.zero25 fun b81 w82 hB83 hs84 hw85 => ?_; have hG86 := Ge.new hE80 hs84; have hE87 := hE80.then hw85
  refine wl_storeBlk rfl rfl Try.size25 hB83 rfl rfl ⟨by first | rfl | assumption, by first | rfl | assumption, by first | rfl | assumption, by first | rfl | assumption, by first | rfl | assumption, by first | rfl | assumption, by first | rfl | assumption, by first | rfl | assumption, by first | rfl | assumption, trivial⟩ fun w88 hB89 hw90 => ?_; have hE91 := hE87.step hw90 hG86.mem1; refine wl_a ?_; refine wl_nil (nrm_then ?_); refine cw_seq ?_; refine cw_region ?_; refine wl_call1 (vs := [_, _]) Try.goes5 rfl (times_ok (ByteArray.mk #[40, 41]) [40, 41] (by decide +kernel) (by decide) 101 (by decide) (by decide)) rfl ?_; rintro _ w92 ⟨rfl, hw93⟩; have hE94 := hE91.then hw93; refine wl_call1 (vs := [_]) Try.goes4 rfl (parse_no (hG.evo hE94 (by simp)) nm_grpsE) rfl ?_; rintro _ w95 ⟨rfl, hw96⟩; have hE97 := hE94.then hw96; refine wl_m ?_; refine wl_val rfl (ex_extract rfl rfl) ?_; refine wl_val rfl (ex_extract rfl rfl) ?_; refine wl_alloc rfl Try.zero25 fun b98 w99 hB100 hs101 hw102 => ?_; have hG103 := Ge.new hE97 hs101; have hE104 := hE97.then hw102; refine wl_storeBlk rfl rfl Try.size25 hB100 rfl rfl ⟨by first | rfl | assumption, by first | rfl | assumption, by first | rfl | assumption, by first | rfl | assumption, by first | rfl | assumption, by first | rfl | assumption, by first | rfl | assumption, by first | rfl | assumption, by first | rfl | assumption, trivial⟩ fun w105 hB106 hw107 => ?_; have hE108 := hE104.step hw107 hG103.mem1; refine wl_a ?_; refine wl_nil (nrm_then ?_); refine cw_seq ?_; refine cw_region ?_; refine wl_make (len := 0) (c := 8194) rfl rfl rfl Try.make23 (by rfl) (by rfl) (by omega) (by decide) (by omega) (by omega) fun b0 w110 hO0 hs112 hw113 => ?_; have hG114 := Ge.new hE108 hs112; have hE115 := hE108.then hw113; refine wl_a ?_
  refine wl_nil (nrm_then ?_); refine cw_seq ?_; refine cw_seq ?_; refine cw_region ?_; refine wl_a ?_; refine wl_nil (nrm_then ?_); refine cw_block ?_; refine cw_loop (α := KdG) (⟨0, some ⟨b0, 0, none⟩, 8194, some b0⟩) (fun x => [(13, .slice x.a x.k x.c), (14, .int .i64 (x.k : Nat))]) [(0, _), (2, _), (4, _), (6, _), (8, _), (10, _), (12, _)] (fun x wr => Evo [] w wr ∧ (x.k ≤ 8193 ∧ KdI w wr x.k x.a x.c x.ob)) (fun x => 8193 - x.k) ⟨rfl, rfl, trivial⟩ ⟨rfl, rfl, rfl, rfl, rfl, rfl, rfl, trivial⟩ ⟨hE115, ⟨Nat.zero_le _, by simpa [epCs, zeros] using hO0, hG114⟩⟩ ?_; rintro ⟨k, a, c, ob⟩ wr116 ⟨hV117, ⟨hkN, hown, hge⟩⟩; show CW _ _ _ _ [(13, .slice a k c), (14, .int .i64 (k : Nat)), (0, _), (2, _), (4, _), (6, _), (8, _), (10, _), (12, _)] _
  try dsimp only at hkN
  try dsimp only at hown
  try dsimp only at hge
  refine cw_seq ?_; refine cw_seq ?_; refine cw_region ?_; refine wl_m ?_; refine wl_val rfl (ex_lss rfl rfl) ?_; refine wl_nil (nrm_then ?_); refine cw_if rfl (fun hc57 => ?_) (fun hc57 => ?_)
  ·skip
   refine cw_skip (nrm_then ?_); refine cw_seq ?_; refine cw_block ?_; refine cw_region ?_; refine wl_m ?_; refine wl_val rfl (ex_build (vs := [(0, _)]) Try.build25 rfl (cells := [_, _, _, _, _, _, _, _, _]) rfl) ?_; refine wl_bslice (vs := [_]) rfl Try.slice23 rfl rfl rfl rfl fun b118 w119 hO120 hs121 hw122 => ?_; have hA123 := Apart.new (Lt.own hown) hs121; have hG124 := Ge.new hV117 hs121; have hE125 := hV117.then hw122; have hO126 := hown.evo0 hw122; refine wl_append rfl rfl rfl rfl Try.app23_23 hO126 (Src.ofOwn hO120 ⟨by first | rfl | assumption, by first | rfl | assumption, by first | rfl | assumption, by first | rfl | assumption, by first | rfl | assumption, by first | rfl | assumption, by first | rfl | assumption, by first | rfl | assumption, by first | rfl | assumption, trivial⟩) (by omega) fun a2 c2 w129 ob2 hO2 hw132 hob133 => ?_; have hA134 := hA123.symm.app (Lt.own hO120) hob133; have hG135 := hge.app hE125 hob133; have hE136 := hE125.step hw132 hge.mem; have hO137 := hO120.evo hw132 hA123.symm.own; have hO3 := hO2; refine wl_a ?_; refine wl_nil (nrm_block (nrm_then ?_)); refine cw_region ?_; refine wl_m ?_; refine wl_val rfl (ex_add_i64 rfl rfl (by omega) (by omega)) ?_; refine wl_a ?_; refine wl_nil (nrm_same ?_); refine ⟨⟨k + 1, a2, c2, ob2⟩, ?_, ⟨rfl, rfl, trivial⟩, ⟨rfl, rfl, rfl, rfl, rfl, rfl, rfl, trivial⟩, hE136, ?_⟩
   · (try dsimp only); omega
   ·skip
    try dsimp only
    exact ⟨by omega, by rw [epCs]; exact hO2, hG135⟩
  ·skip
   obtain rfl : k = 8193 := by omega
   refine cw_exit (ex_then (ex_then (ex_here (nrm_then ?_)))); refine cw_seq ?_; refine cw_region ?_; refine wl_m ?_; refine wl_val rfl (ex_build (vs := [(0, _), (8, _)]) Try.build25 rfl (cells := [_, _, _, _, _, _, _, _, _]) rfl) ?_; refine wl_call1 (vs := [_]) Try.goes6 rfl (valid_altb true hown (by decide) (by decide) (by decide +kernel)) rfl ?_; rintro _ w138 ⟨rfl, hw139⟩; have hE140 := hV117.then hw139; have hO141 := hown.evo0 hw139; refine wl_a ?_; refine wl_nil (nrm_then ?_); refine cw_seq ?_; refine cw_region ?_; refine wl_m ?_; refine wl_val rfl (ex_build (vs := [(0, _)]) Try.build25 rfl (cells := [_, _, _, _, _, _, _, _, _]) rfl) ?_; refine wl_bslice (vs := [_]) rfl Try.slice23 rfl rfl rfl rfl fun b142 w143 hO144 hs145 hw146 => ?_; have hA147 := Apart.new (Lt.own hO141) hs145; have hG148 := Ge.new hE140 hs145; have hE149 := hE140.then hw146; have hO150 := hO141.evo0 hw146; refine wl_append rfl rfl rfl rfl Try.app23_23 hO150 (Src.ofOwn hO144 ⟨by first | rfl | assumption, by first | rfl | assumption, by first | rfl | assumption, by first | rfl | assumption, by first | rfl | assumption, by first | rfl | assumption, by first | rfl | assumption, by first | rfl | assumption, by first | rfl | assumption, trivial⟩) (by omega) fun a2 c2 w153 ob2 hO2 hw156 hob157 => ?_; have hA158 := hA147.symm.app (Lt.own hO144) hob157; have hG159 := hge.app hE149 hob157; have hE160 := hE149.step hw156 hge.mem; have hO161 := hO144.evo hw156 hA147.symm.own; have hO3 := hO2; refine wl_a ?_; refine wl_nil (nrm_then ?_); refine cw_seq ?_; refine cw_region ?_; refine wl_m ?_; refine wl_val rfl (ex_build (vs := [(0, _), (8, _)]) Try.build25 rfl (cells := [_, _, _, _, _, _, _, _, _]) rfl) ?_
   refine wl_call1 (vs := [_]) Try.goes6 rfl (valid_altb false hO2 (by decide) (by decide) (by decide +kernel)) rfl ?_; rintro _ w162 ⟨rfl, hw163⟩; have hE164 := hE160.then hw163; have hO165 := hO2.evo0 hw163; refine wl_a ?_; refine wl_nil (nrm_then ?_); refine cw_seq ?_; refine cw_seq ?_; refine cw_region ?_; refine wl_m ?_; refine wl_val rfl (ex_notb rfl) ?_; refine wl_m ?_; refine wl_g ?_; refine wl_m ?_; refine wl_pf ?_; refine wl_nil (nrm_then ?_); refine cw_false rfl ?_; refine cw_skip (nrm_then ?_); refine cw_seq ?_; refine cw_region ?_; refine wl_call1 (vs := [_]) Try.goes4 rfl (parse_yes (hG.evo hE164 (by simp)) parse_g) rfl ?_; rintro _ w166 ⟨a0, a1, a2, a3, a4, a5, a6, a7, ra, rn, rc, ka, kn, kc, rfl, -, hw167⟩; have hE168 := hE164.then hw167; have hO169 := hO165.evo0 hw167; refine wl_m ?_; refine wl_val rfl (ex_extract rfl rfl) ?_; refine wl_val rfl (ex_extract rfl rfl) ?_; refine wl_alloc rfl Try.zero25 fun b170 w171 hB172 hs173 hw174 => ?_; have hA175 := Apart.new (Lt.own hO169) hs173; have hG176 := Ge.new hE168 hs173; have hE177 := hE168.then hw174; have hO178 := hO169.evo0 hw174; refine wl_storeBlk rfl rfl Try.size25 hB172 rfl rfl ⟨by first | rfl | assumption, by first | rfl | assumption, by first | rfl | assumption, by first | rfl | assumption, by first | rfl | assumption, by first | rfl | assumption, by first | rfl | assumption, by first | rfl | assumption, by first | rfl | assumption, trivial⟩ fun w179 hB180 hw181 => ?_; have hE182 := hE177.step hw181 hG176.mem1; have hO183 := hO178.evo hw181 hA175.own1; refine wl_a ?_; refine wl_nil (nrm_then ?_); refine cw_seq ?_; refine cw_region ?_; refine wl_call1 (vs := [_]) Try.goes4 rfl (parse_no (hG.evo hE182 (by simp)) parse_gE) rfl ?_; rintro _ w184 ⟨rfl, hw185⟩; have hE186 := hE182.then hw185
   have hO187 := hO183.evo0 hw185; refine wl_m ?_; refine wl_val rfl (ex_extract rfl rfl) ?_; refine wl_val rfl (ex_extract rfl rfl) ?_; refine wl_alloc rfl Try.zero25 fun b188 w189 hB190 hs191 hw192 => ?_; have hA193 := Apart.new (Lt.own hO187) hs191; have hG194 := Ge.new hE186 hs191; have hE195 := hE186.then hw192; have hO196 := hO187.evo0 hw192; refine wl_storeBlk rfl rfl Try.size25 hB190 rfl rfl ⟨by first | rfl | assumption, by first | rfl | assumption, by first | rfl | assumption, by first | rfl | assumption, by first | rfl | assumption, by first | rfl | assumption, by first | rfl | assumption, by first | rfl | assumption, by first | rfl | assumption, trivial⟩ fun w197 hB198 hw199 => ?_; have hE200 := hE195.step hw199 hG194.mem1; have hO201 := hO196.evo hw199 hA193.own1; refine wl_a ?_; refine wl_nil (nrm_then ?_); refine cw_seq ?_; refine cw_seq ?_; refine cw_region ?_; refine wl_m ?_; refine wl_val rfl (ex_binR (r := .bool false) rfl rfl (fun w => by kernel_rfl)) ?_; refine wl_m ?_; refine wl_g ?_; refine wl_m ?_; refine wl_g ?_; refine wl_val rfl (ex_binR (r := .bool false) rfl rfl (fun w => by kernel_rfl)) ?_; refine wl_pf ?_; refine wl_m ?_; refine wl_g ?_; refine wl_m ?_; refine wl_g ?_; refine wl_val rfl (ex_binR (r := .bool false) rfl rfl (fun w => by kernel_rfl)) ?_; refine wl_pf ?_; refine wl_m ?_; refine wl_g ?_; refine wl_m ?_; refine wl_g ?_; refine wl_val rfl (ex_binR (r := .bool false) rfl rfl (fun w => by kernel_rfl)) ?_; refine wl_pf ?_; refine wl_nil (nrm_then ?_); refine cw_false rfl ?_; refine cw_skip (nrm_then ?_); refine cw_seq ?_; refine cw_region ?_; refine wl_m ?_; refine wl_val rfl (ex_binR (r := .bool true) rfl rfl (fun w => by kernel_rfl)) ?_; refine wl_m ?_; refine wl_g ?_; refine wl_m ?_; refine wl_g ?_
   refine wl_val rfl (ex_binR (r := .bool true) rfl rfl (fun w => by kernel_rfl)) ?_; refine wl_pt ?_; refine wl_m ?_; refine wl_g ?_; refine wl_m ?_; refine wl_g ?_; refine wl_val rfl (ex_binR (r := .bool true) rfl rfl (fun w => by kernel_rfl)) ?_; refine wl_pt ?_; refine wl_m ?_; refine wl_g ?_; refine wl_m ?_; refine wl_g ?_; refine wl_val rfl (ex_binR (r := .bool true) rfl rfl (fun w => by kernel_rfl)) ?_; refine wl_pt ?_; refine wl_a ?_; refine wl_nil (nrm_then ?_); refine cw_ret (body_ret1 rfl rfl ?_); exact ⟨rfl, hE200⟩
end Go.Proofs.Ytljadkcojnlioaa
namespace Go.W
set_option linter.unusedSimpArgs false
set_option linter.unusedVariables false
def Opens {α : Type} (P : Program) (t : TypeId) (R : Rel α) : Prop :=
  ∀ (H : Type) (enc : TypeId × Value → H) (w : World) (fuel : Nat) (cs : List Value) (x : DataW H × List MemPlace), DataW.trod enc P w 0 (fun _ => true) true fuel t cs = some x →
    (∀ n, n ∈ x.1.weights P t → n ≤ reachBytes) → ∃ d, R [] w cs d
end Go.W
namespace Go.W
open Go.RowKit Go.ChangeShapes
set_option linter.unusedVariables false
set_option linter.unusedSimpArgs false
def OpensF {α : Type} (F : Nat) (P : Program) (t : TypeId) (R : Rel α) : Prop :=
  ∀ (H : Type) (enc : TypeId × Value → H) (w : World) (fuel : Nat) (cs : List Value) (x : DataW H × List MemPlace), fuel ≤ F → DataW.trod enc P w 0 (fun _ => true) true fuel t cs = some x →
    (∀ n, n ∈ x.1.weights P t → n ≤ reachBytes) → ∃ d, R [] w cs d
theorem Opens.fuel {α : Type} {P : Program} {t : TypeId} {R : Rel α} (h : Opens P t R) (F : Nat) : OpensF F P t R := fun H enc w fuel cs x _ h1 h2 => h H enc w fuel cs x h1 h2
theorem OpensF.all {α : Type} {P : Program} {t : TypeId} {R : Rel α} (h : ∀ F, OpensF F P t R) : Opens P t R := fun H enc w fuel cs x h1 h2 => h fuel H enc w fuel cs x (Nat.le_refl _) h1 h2
end Go.W
namespace Go.Proofs.Ytljadkcojnlioaa
open Go.Proofs
open Go.W Go.ChangeShapes Go.WideShapes Go.ChangeAt Go.RowKit
set_option linter.unusedVariables false
set_option linter.unusedSimpArgs false
set_option linter.unusedVariables false
theorem own : ownKnob Try.prog.godebug = none := by kernel_rfl
set_option maxRecDepth 100000 in
theorem lifted (os : Os) (started : os.Started) (H : Type) (enc : TypeId × Value → H) :
    ReturnsInHanded {} Try.checked os 3 .any (Rows.rxtreeNamesSpec.pre6 enc Try.prog Try.f3 Rows.rxtreeNamesRow.domain false) (Rows.rxtreeNamesSpec.post enc Try.prog Try.f3 false true false false) := by
  refine returnsInHanded_of_change_shaped (C := Try.checked) own started (by kernel_rfl) Try.func3
    (ChangeSpec.witness6 (enc := enc) (C := Try.checked) false ⟨#[], #[], []⟩ 8 (by kernel_rfl) (by kernel_rfl) (by kernel_rfl) (by kernel_rfl)) ?_
  intro W base args ds gs before hval0 hW hcnd hsz0 hsh _
  have hW' := hW
  obtain ⟨p, q, hA0, hV, rfl, hfz, hnd⟩ := hW
  have hA : DataW.TrodAll enc Try.prog W 0 (fun _ => true) true Try.f3.params.toList args.toList ds p := hA0
  rw [Try.params3] at hA
  obtain ⟨hn1, rfl, rfl⟩ := trodAll_nil hA
  obtain rfl : args = #[] := by cases args; simp_all
  obtain ⟨rfl, rfl⟩ := trodVars_none hV
  refine (names_law (Try.laysM143.s1_3 W hsh)).mono fun e W' ⟨v, he, hv, bel⟩ => ?_
  subst he hv
  exact ⟨_, rfl, _, _, _, [], _, [], hW', trodAll_mk1 (shut_bool Try.underlying4 _), trodAll_mk0, rfl, bel.below.frame _, fun h => by cases h⟩
theorem over : Rows.rxtreeNamesRow.holds Try.pinned (OpenSpec.ofChange Rows.rxtreeNamesSpec) :=
  OpenClaim.holds_of_wide 3 Try.f3 rfl rfl rfl rfl rfl rfl rfl ⟨rfl, rfl, rfl, rfl, rfl⟩ rfl rfl rfl rfl rfl (by kernel_rfl) Try.func3 (by kernel_rfl)
    (of_decide_eq_true (by kernel_rfl)) (by unfold Func.isWrapper; first | (rw [if_pos (by decide +kernel)]; kernel_rfl) | (rw [if_neg (by decide +kernel)]; exact ⟨rfl, rfl⟩))
    (fun os started H enc _ => lifted os started H enc)
theorem rxtreeNames_holds : Rows.RxtreeNamesSaid := over
#print axioms rxtreeNames_holds
end Go.Proofs.Ytljadkcojnlioaa
