/- RxprogListed: the program of a tree takes a text just where it stands in the list of Words, where there is one; the list rises and has at most 64 words; for every tree and text. -/
import Derived.Test.YtgboffefbpligaaListedD
namespace Go.Proofs.Ytgboffefbpligaa
open Go.Proofs
open Go.W Go.RowKit
attribute [local irreducible] Decidable.decide
set_option linter.unusedSimpArgs false
set_option linter.unusedVariables false
theorem Try.goes14 : Goes Try.prog 14 := ⟨_, Try.func14, by kernel_rfl, by kernel_rfl⟩
end Go.Proofs.Ytgboffefbpligaa
namespace Go.W
section
variable {P : Program} {σ : Env} {w : World} {dst : Option Nat} {T : TypeId} {pos : String} {after : Array Edge} {g : Option (Nat × Bool)}
theorem ex_sleqF {x y : Operand} {t t' : TypeId} {a b : ByteArray} (hx : σ.ev x = some (.string a)) (hy : σ.ev y = some (.string b)) (h : b.toList < a.toList) : Ex P σ ⟨dst, .binOp .leq t x y t', T, pos, after, g⟩ w (.bool false) w := fun ρ hr => by
  have : (Op.bytesLess a.toList b.toList || a.toList == b.toList) = false := by
    rw [Go.Proofs.bytesLess_eq, Bool.eq_false_iff]
    intro h1
    simp at h1
    rcases h1 with h1 | h1
    · exact List.lt_asymm h h1
    · rw [h1] at h; exact List.lt_irrefl _ h
  simp [execOp, hr x _ hx, hr y _ hy, eqGuard, Go.binOp_string_leq, this]
theorem ex_assignE {x : Operand} {v u : Value} (hx : σ.ev x = some v) (he : v = u) : Ex P σ ⟨dst, .assign x, T, pos, after, g⟩ w u w := by subst he; exact ex_assign hx
theorem ex_pickT {c x y : Operand} {v u : Value} (hc : σ.ev c = some (.bool true)) (hx : σ.ev x = some v) (he : v = u) : Ex P σ ⟨dst, .pick c x y, T, pos, after, g⟩ w u w := by subst he; exact ex_pick_t hc hx
theorem ex_pickF {c x y : Operand} {v u : Value} (hc : σ.ev c = some (.bool false)) (hx : σ.ev y = some v) (he : v = u) : Ex P σ ⟨dst, .pick c x y, T, pos, after, g⟩ w u w := by subst he; exact ex_pick_f hc hx
theorem ex_indexAddrZA {x i : Operand} {t : TypeId} {k : IntKind} {z : Int} {n sz b o len c : Nat} {a : Option Addr} (hx : σ.ev x = some (.slice a len c)) (hi : σ.ev i = some (.int k z)) (ha : a = some ⟨b, o, none⟩) (hz : z = n) (he : elemB P t = some sz) (hlt : n < len) :
    Ex P σ ⟨dst, .indexAddr t x i, T, pos, after, g⟩ w (.pointer (some ⟨b, o + n * sz, none⟩)) w := by subst ha; exact ex_indexAddrZ hx hi hz he hlt
end
end Go.W
namespace Go.Proofs.Ytgboffefbpligaa
open Go.Proofs Go.W Go.RowKit
attribute [local irreducible] Decidable.decide
set_option linter.unusedSimpArgs false
set_option linter.unusedVariables false
def abX : Rx := .mk 4 0 [] 0 0 false 0 (ByteArray.mk #[]) [litX 97, litX 98]
theorem ab_rx {w : World} {b : Nat} (hO : OwnS w 25 9 (some ⟨b, 0, none⟩) 2 2 (litV 97 ++ litV 98) (some b)) :
    RRx 2 [] w [iv 4, .int .i32 0, .slice none 0 0, iv 0, iv 0, .bool false, iv 0, .string (ByteArray.mk #[]), .slice (some ⟨b, 0, none⟩) 2 2] abX := by
  refine ⟨_, _, rfl, rnil0, RSl.ofOwn (rows := [litV 97, litV 98]) hO ⟨rfl, fun k hk hk' => ?_⟩ rfl (fun _ _ h => by cases h), Nat.zero_le _, Nat.zero_le _, by show 2 ≤ _; decide⟩
  have hk2 : k < 2 := hk
  rcases (show k = 0 ∨ k = 1 by omega) with rfl | rfl
  · exact ⟨rfl, litX_rx 97 _ _⟩
  · exact ⟨rfl, litX_rx 98 _ _⟩
theorem ab_ok : abX.Ok := by
  obtain ⟨st1, h1⟩ := litX_ok (r := 97) (by decide) (by decide)
  obtain ⟨st2, h2⟩ := litX_ok (r := 98) (by decide) (by decide)
  have hp : NodeP abX := ⟨by show (1 : Int) ≤ 4; decide, by show (4 : Int) ≤ 13; decide, .inr rfl, .inr rfl, .inr ⟨rfl, rfl, rfl⟩, .inr ⟨rfl, rfl⟩, fun h => absurd (show (4 : Int) = 2 from h) (by decide), fun h => absurd (show (4 : Int) = 3 from h) (by decide), fun _ => by show 2 ≤ 2; decide, fun h => absurd (show (4 : Int) = 6 from h) (by decide), fun h => absurd (show (4 : Int) = 7 from h) (by decide), fun h => absurd h (by unfold Leafy; show ¬ ¬ ((4 : Int) = 4 ∨ (4 : Int) = 5 ∨ (4 : Int) = 6 ∨ (4 : Int) = 7); decide)⟩
  have hl : NodeP (litX 97) := (fine_good _ _ _ _ h1).node
  have hl2 : NodeP (litX 98) := (fine_good _ _ _ _ h2).node
  refine ⟨(3, []), ?_⟩
  rw [fine_yes (x := abX) (b := 0) (st := (0, [])) ⟨by decide, by show (if (4 : Int) = 7 then _ else _) ≤ 250; decide, hp, fun h => absurd (show (4 : Int) = 7 from h) (by decide)⟩]
  show fineKids [litX 97, litX 98] 4 0 (1, []) = _
  have e : ∀ (r : Int) (n : Nat), NodeP (litX r) → n ≤ 2 → (litX r).fine (0 + if Brk (litX r).kind 4 then 1 else 0) (n, []) = some (n + 1, []) := fun r n hl hn => by
    have hb : ¬ Brk (litX r).kind 4 := by show ¬ Brk 2 4; decide
    rw [if_neg hb]
    rw [fine_yes (x := litX r) (b := 0 + 0) (st := (n, [])) ⟨by show n + 1 ≤ 8194; omega, by show (if (2 : Int) = 7 then _ else _) ≤ 250; decide, hl, fun h => absurd (show (2 : Int) = 7 from h) (by decide)⟩]
    show fineKids [] _ _ _ = _
    rw [fineKids]
    rfl
  rw [fineKids, e 97 1 hl (by decide)]
  show fineKids [litX 98] 4 0 (2, []) = _
  rw [fineKids, e 98 2 hl2 (by decide)]
  show fineKids [] _ _ _ = _
  rw [fineKids]
theorem ab_esz : abX.esz = 2 := by
  have h1 : ∀ r, (litX r).esz = 1 := fun r => by rw [Rx.esz_eq]; rfl
  have h2 := esz4 (t := abX) rfl
  have h3 : eszs abX.kids = 2 := by show eszs [litX 97, litX 98] = 2; rw [eszs, eszs, eszs, h1, h1]
  omega
theorem ab_nolook : NoLook abX := by
  have h : ∀ r, NoLook (litX r) := fun r => nolook_of (by show (2 : Int) < 8; decide) (fun k hk => by cases hk)
  refine nolook_of (by show (4 : Int) < 8; decide) (fun k hk => ?_)
  have hk2 : k ∈ [litX 97, litX 98] := hk
  simp at hk2
  rcases hk2 with rfl | rfl <;> exact h _
abbrev abT : ByteArray := ByteArray.mk #[97, 98]
theorem ab_tg (u : ByteArray) : Tg abX u ↔ u = abT := by
  rw [tg4 (x := abX) (.inl rfl)]
  have h1 : ∀ r u, 0 ≤ r → r < 128 → (Tg (litX r) u ↔ u = bstr (formB r)) := fun r u h0 h1 => by
    rw [tg2 (x := litX r) rfl]
    exact ⟨fun h => h.2, fun h => ⟨show IsR r by unfold IsR; omega, h⟩⟩
  have e1 : bstr (formB 97) = ByteArray.mk #[97] := by rw [formB, if_pos (by unfold IsR; omega)]; rfl
  have e2 : bstr (formB 98) = ByteArray.mk #[98] := by rw [formB, if_pos (by unfold IsR; omega)]; rfl
  have e3 : Tgs abX.kids u ↔ Tgs [litX 97, litX 98] u := Iff.rfl
  rw [e3, tgs_cons]
  constructor
  · rintro ⟨a, b, ha, hb, rfl⟩
    rw [(h1 97 a (by decide) (by decide)).1 ha, (h1 98 b (by decide) (by decide)).1 ((tgs_one _ _).1 hb), e1, e2]
    rfl
  · rintro rfl
    exact ⟨ByteArray.mk #[97], ByteArray.mk #[98], (h1 97 _ (by decide) (by decide)).2 e1.symm, (tgs_one _ _).2 ((h1 98 _ (by decide) (by decide)).2 e2.symm), rfl⟩
theorem sample_words {w : World} {a : Option Addr} {n c : Nat} {ok : Bool} {l : List ByteArray} (h : WordsIs [] abX w a n c ok l) : ok = true ∧ n = 1 ∧ RSl 1 RTs [] w (.slice a 1 c) [abT] := by
  rcases h with ⟨-, -, -, -, -, h⟩ | ⟨h1, -, -, -, h5, h6⟩
  · obtain ⟨-, ws, h2, h3, h4⟩ := (h ab_ok (by rw [ab_esz]; decide) ab_nolook).lots rfl
    exfalso
    have h7 : ∀ u, u ∈ ws → u = abT := fun u hu => (ab_tg u).1 (h4 u hu)
    cases ws with
    | nil => cases h3
    | cons x ws =>
      cases ws with
      | nil => have h3' : 64 < 1 := h3; omega
      | cons y ws =>
        have h8 := (List.pairwise_cons.1 h2).1 y (List.mem_cons_self ..)
        exact h8 ((h7 x (List.mem_cons_self ..)).trans (h7 y (List.mem_cons_of_mem _ (List.mem_cons_self ..))).symm)
  · obtain ⟨h2, -, h3, -⟩ := h6.few rfl
    have hm : ∀ u, u ∈ l ↔ u = abT := fun u => (h3 u).trans (ab_tg u)
    have hnd : l.Nodup := SRs.nodup h2
    have e : l = [abT] := by
      cases l with
      | nil => have := (hm abT).2 rfl; cases this
      | cons x l =>
        have hx := (hm x).1 (List.mem_cons_self ..)
        subst hx
        cases l with
        | nil => rfl
        | cons y l =>
          have hy := (hm y).1 (List.mem_cons_of_mem _ (List.mem_cons_self ..))
          exact absurd hy.symm ((List.pairwise_cons.1 hnd).1 y (List.mem_cons_self ..))
    subst e
    obtain ⟨a', c', h7, h8, h9⟩ := id h5
    cases h7
    exact ⟨h1, rfl, h5⟩
theorem CompIs.zero {X : List Nat} {t : Rx} {w : World} {ps : List Value} {e : Int} (h : CompIs X t w ps e) (h1 : t.Ok) (h2 : t.esz + 1 ≤ 10000) : e = 0 := by
  rcases h with ⟨h, -⟩ | ⟨-, h, -⟩ | ⟨-, -, h, -⟩
  · exact (h h1).elim
  · omega
  · exact h
theorem WordsIs.no {X : List Nat} {t : Rx} {w : World} {a : Option Addr} {n c : Nat} {ok : Bool} {l : List ByteArray} (h : WordsIs X t w a n c ok l) (ho : ok = false) : n = 0 := by
  rcases h with ⟨-, -, h, -⟩ | ⟨h, -⟩
  · exact h
  · rw [h] at ho; cases ho
theorem WordsIs.yes {X : List Nat} {t : Rx} {w : World} {a : Option Addr} {n c : Nat} {ok : Bool} {l : List ByteArray} (h : WordsIs X t w a n c ok l) (ho : ok = true) :
    t.Ok ∧ t.esz + 1 ≤ 10000 ∧ NoLook t ∧ RSl 1 RTs X w (.slice a n c) l ∧ LIs (l, false) (4 * t.esz) (Tg t) := by
  rcases h with ⟨h, -⟩ | ⟨-, h⟩
  · rw [h] at ho; cases ho
  · exact h
theorem listed_fin {s : ByteArray} {t : Rx} {l : List In} {n B : Nat} {r : Int} {L : List ByteArray} (hT : TakenIs l s r) (hP : ProgOk t l n) (hno : NoLook t) (hI : LIs (L, false) B (Tg t)) : (r = 2 ∧ s ∉ L) ∨ (r = 1 ∧ s ∈ L) ∨ (r = 0 ∧ s ∉ L) := by
  have hm : s ∈ L ↔ Tg t s := (hI.few rfl).2.2.1 s
  rw [hm, tg_mt hno]
  rcases hT with ⟨h2, h3⟩ | ⟨N, hN, h2⟩
  · exact .inl ⟨h2, fun ⟨N, hN, _⟩ => h3 ⟨N, hN⟩⟩
  · rw [taken_iff hP hN] at h2
    rcases h2 with ⟨h2, h3⟩ | ⟨h2, h3⟩
    · exact .inr (.inl ⟨h2, N, hN, h3⟩)
    · refine .inr (.inr ⟨h2, fun ⟨M, hM, h4⟩ => h3 ?_⟩)
      obtain rfl : N = M := utf_uniq hN.2 (.inl hN.1) hM
      exact h4
theorem tk_step {L : List ByteArray} {s : ByteArray} {k : Nat} (h : k < L.length) : s ∈ L.take (k + 1) ↔ s ∈ L.take k ∨ L[k] = s := by
  rw [List.take_add_one, List.getElem?_eq_getElem h, List.mem_append]
  simp [eq_comm]
set_option maxHeartbeats 8000000 in
theorem listed_law {n : Nat} {w : World} {vs : List Value} {t : Rx} {s : ByteArray} (hx : RRx n [] w vs t) (hs : s.size ≤ 140737488351232) :
    Calls Try.prog 5 #[.agg vs.toArray, .string s] w (Ret fun v w' => v = .bool true ∧ Evo [] w w') := by
  have hx0 := hx; obtain ⟨m, xa, xc, ka, kc, hm, rfl, hrg, hk, bl1, bl2, bl3⟩ := hx.get; refine calls_of_cw (N := 135) Try.func5 rfl rfl rfl ?_; refine cw_seq ?_; refine cw_region ?_; refine wl_boxA rfl rfl fun b2 w1 hB2 hs3 hw4 => ?_; have hsz_b2 := hs3; have hG5 := Ge.new (Evo.refl [] w) hs3; have hE6 := (Evo.refl [] w).then hw4; refine wl_a ?_; refine wl_nil (nrm_then ?_); refine cw_seq ?_; refine cw_region ?_; refine wl_call1 (vs := [_]) Try.goes7 rfl (lit_ok 97) rfl ?_; rintro _ w7 ⟨rfl, hw8⟩; have hE9 := hE6.then hw8; have hB10 := hw8.blk0 hB2; refine wl_call1 (vs := [_]) Try.goes7 rfl (lit_ok 98) rfl ?_; rintro _ w11 ⟨rfl, hw12⟩; have hE13 := hE9.then hw12; have hB14 := hw12.blk0 hB10; refine wl_bslice (vs := [_, _]) rfl Try.slice23 rfl rfl rfl rfl fun b15 w16 hO17 hs18 hw19 => ?_; have hA20 := Apart.new (Lt.blk hB14) hs18; have hG21 := Ge.new hE13 hs18; have hE22 := hE13.then hw19; have hB23 := hw19.blk0 hB14; refine wl_val rfl (ex_build (vs := [(0, _), (8, _)]) Try.build25 rfl (cells := [_, _, _, _, _, _, _, _, _]) rfl) ?_; refine wl_call1 (vs := [_]) Try.goes14 rfl (words_ok (X := []) (fun b hb => by cases hb) (n := 2) (t := abX) (ab_rx hO17)) rfl ?_; rintro _ w24 ⟨a1, k1, c1, ok1, l1, rfl, hW1, hw25⟩; have hE26 := hE22.then hw25; have hB27 := hw25.blk0 hB23; have hO28 := hO17.evo0 hw25; obtain ⟨rfl, rfl, hr1⟩ := sample_words hW1; obtain ⟨_, _, hv1, hcc1, e1⟩ := id hr1; cases hv1; refine wl_m ?_; refine wl_val rfl (ex_extract rfl rfl) ?_; refine wl_val rfl (ex_extract rfl rfl) ?_; refine wl_a ?_; refine wl_a ?_; refine wl_nil (nrm_then ?_); refine cw_seq ?_; refine cw_seq ?_; refine cw_region ?_; refine wl_m ?_; refine wl_val rfl (ex_notb rfl) ?_; refine wl_m ?_; refine wl_g ?_; refine wl_m ?_; refine wl_g ?_
  refine wl_val rfl (ex_len_slice rfl Try.underlying27 rfl) ?_; refine wl_g ?_; refine wl_val rfl (ex_neq rfl rfl) ?_; refine wl_pf ?_; refine wl_m ?_; refine wl_split (t := 27) rfl (fun hs27 => ?_) (fun hs27 => ?_)
  ·skip
   exact (hs27 rfl).elim
  ·skip
   refine wl_g ?_; refine wl_m ?_; obtain ⟨b6, o6, vs6, ha6, hb6, hvl6, hc6, rfl⟩ := e1 0 (by decide); refine wl_g ?_; refine wl_val rfl (ex_indexAddrZA (n := 0) rfl rfl ha6 rfl Try.elem27 (by decide)) ?_; refine wl_g ?_; refine wl_val rfl (ex_load1 rfl Try.agg9 ((hc6.evo (Evo.refl [] w24) (by simp)) 0 _ rfl)) ?_; refine wl_g ?_; refine wl_val rfl (ex_neqs rfl rfl) ?_; refine wl_pf ?_; refine wl_nil (nrm_then ?_); refine cw_if rfl (fun hc32 => ?_) (fun hc32 => ?_)
   ·skip
    exact (hc32 rfl).elim
   ·skip
    refine cw_skip (nrm_then ?_); refine cw_seq ?_; refine cw_seq ?_; refine cw_region ?_; refine wl_val rfl (ex_loadBlk rfl Try.agg25 Try.size25 hB27 rfl) ?_; refine wl_call1 (vs := [_]) Try.goes9 rfl (wide_ok (RRx.pers _ _ _ _ _ _ hE26 hx0)) rfl ?_; rintro _ w29 ⟨wb, rfl, hw30⟩; have hE31 := hE26.then hw30; have hE32 := (Evo.refl [] w24).then hw30; have hB33 := hw30.blk0 hB27; refine wl_nil (nrm_then ?_); refine cw_ifb rfl (fun hc34 => ?_) (fun hc34 => ?_)
    ·skip
     refine cw_seq ?_; refine cw_region ?_; refine wl_a ?_; refine wl_nil (nrm_then ?_); refine cw_ret (ret_then (body_ret1 rfl rfl ?_)); exact ⟨rfl, hE31⟩
    ·skip
     refine cw_skip (nrm_then ?_); refine cw_seq ?_; refine cw_region ?_; refine wl_val rfl (ex_loadBlk rfl Try.agg25 Try.size25 hB33 rfl) ?_; refine wl_call1 (vs := [_]) Try.goes14 rfl (words_ok (X := []) (fun b hb => by cases hb) (RRx.pers _ _ _ _ _ _ hE31 hx0)) rfl ?_; rintro _ w34 ⟨a2, k2, c2, ok2, l2, rfl, hW2, hw35⟩; have hE36 := hE31.then hw35; have hE37 := hE32.then hw35; have hB38 := hw35.blk0 hB33; refine wl_m ?_; refine wl_val rfl (ex_extract rfl rfl) ?_; refine wl_val rfl (ex_extract rfl rfl) ?_; refine wl_a ?_; refine wl_a ?_; refine wl_nil (nrm_then ?_); refine cw_seq ?_; refine cw_seq ?_; refine cw_region ?_; refine wl_m ?_; refine wl_val rfl (ex_notb rfl) ?_; refine wl_nil (nrm_then ?_); refine cw_ifb rfl (fun hc41 => ?_) (fun hc41 => ?_)
     ·skip
      refine cw_seq ?_; refine cw_region ?_; refine wl_m ?_; refine wl_val rfl (ex_len_slice rfl Try.underlying27 rfl) ?_; refine wl_val rfl (ex_eql rfl rfl) ?_; refine wl_a ?_; refine wl_nil (nrm_then ?_); refine cw_ret (ret_then (body_ret1 rfl rfl ?_)); have h0 := hW2.no (by simpa using hc41); exact ⟨congrArg Value.bool (decide_eq_true (by omega)), hE36⟩
     ·skip
      obtain ⟨hok, hz2, hno2, hr2, hI2⟩ := hW2.yes (by simpa using hc41); have hlen2 : l2.length ≤ 64 := hI2.len; have hsz2 : ∀ u, u ∈ l2 → u.size ≤ 4 * t.esz := hI2.size; have hSR := (hI2.few rfl).1; obtain ⟨_, _, hv2, hcc2, f2⟩ := id hr2; cases hv2; refine cw_skip (nrm_then ?_); refine cw_seq ?_; refine cw_region ?_; refine wl_val rfl (ex_loadBlk rfl Try.agg25 Try.size25 hB38 rfl) ?_; refine wl_call1 (vs := [_]) Try.goes6 rfl (compile_ok (X := []) (fun b hb => by cases hb) (RRx.pers _ _ _ _ _ _ hE36 hx0)) rfl ?_; rintro _ w39 ⟨hw40, ps2, e2, rfl, hc2⟩; have hE41 := hE36.then hw40; have hE42 := hE37.then hw40; have hE43 := (Evo.refl [] w34).then hw40; have hB44 := hw40.blk0 hB38; have he0 := hc2.zero hok hz2; obtain ⟨pa2, pn2, pc2, pg2, pm2, rfl, hpg2, hpm2⟩ := hc2.shp; refine wl_m ?_; refine wl_val rfl (ex_extract rfl rfl) ?_; refine wl_val rfl (ex_extract rfl rfl) ?_; refine wl_alloc rfl Try.zero29 fun bp w45 hB46 hs47 hw48 => ?_; have hsz_bp := hs47; have hA49 := Apart.new (Lt.blk hB44) hs47; have hG50 := Ge.new hE41 hs47; have hG51 := Ge.new hE42 hs47; have hG52 := Ge.new hE43 hs47; have hG53 := Ge.new (Evo.refl [] w39) hs47; have hE54 := hE41.then hw48; have hE55 := hE42.then hw48; have hE56 := hE43.then hw48; have hE57 := (Evo.refl [] w39).then hw48; have hB58 := hw48.blk0 hB44; refine wl_storeBlk rfl rfl Try.size29 hB46 rfl rfl ⟨by first | rfl | assumption, by first | rfl | assumption, by first | rfl | assumption, by first | rfl | assumption, trivial⟩ fun w59 hB60 hw61 => ?_; have hE62 := hE54.step hw61 hG50.mem1; have hE63 := hE55.step hw61 hG51.mem1; have hE64 := hE56.step hw61 hG52.mem1; have hE65 := hE57.step hw61 hG53.mem1; have hB66 := hw61.blk hB58 hA49.nmem1
      try simp only [List.setIfInBounds_toArray, List.set_cons_zero, List.set_cons_succ, Nat.reduceAdd, Nat.zero_add, Nat.add_zero] at hB60
      refine wl_a ?_; refine wl_nil (nrm_then ?_); refine cw_seq ?_; refine cw_seq ?_; refine cw_region ?_; refine wl_m ?_; refine wl_val rfl (ex_neq rfl rfl) ?_; refine wl_m ?_; refine wl_split (t := 52) rfl (fun hs52 => ?_) (fun hs52 => ?_)
      ·skip
       exfalso; omega
      ·skip
       refine wl_g ?_; refine wl_m ?_; refine wl_g ?_; refine wl_val rfl (ex_len_slice rfl Try.underlying27 rfl) ?_; refine wl_g ?_; refine wl_val rfl (ex_gtr rfl rfl) ?_; refine wl_pf ?_; refine wl_nil (nrm_then ?_); refine cw_if rfl (fun hc56 => ?_) (fun hc56 => ?_)
       ·skip
        exfalso; omega
       ·skip
        refine cw_skip (nrm_then ?_); refine cw_seq ?_; refine cw_region ?_; obtain ⟨-, -, l3, n3, hp3, hP3⟩ := hc2.fit he0
        obtain ⟨rfl, hll3⟩ := hp3.at
        have hps3 := progOk_pos hP3; have hT0 : Value.bool false = .bool (tf (s ∈ l2.take 0)) := congrArg Value.bool (tf_no.2 (fun h => by simp at h)).symm; refine wl_val rfl (ex_assignE rfl hT0) ?_; refine wl_nil (nrm_then ?_); refine cw_seq ?_; refine cw_seq ?_; refine cw_region ?_; refine wl_a ?_; refine wl_nil (nrm_then ?_); refine cw_block ?_; refine cw_loop (α := Nat) (0) (fun k => [(10, .int .i64 (k : Nat)), (9, .bool (tf (s ∈ l2.take k)))]) [(1, _), (5, _), (7, _)] (fun k wr => Evo [] w59 wr ∧ (k ≤ l2.length)) (fun k => l2.length - k) ⟨rfl, rfl, trivial⟩ ⟨rfl, rfl, rfl, trivial⟩ ⟨Evo.refl _ _, Nat.zero_le _⟩ ?_; rintro k wr67 ⟨hV68, hk9⟩; show CW _ _ _ _ [(10, _), (9, _), (1, _), (5, _), (7, _)] _; have hE69 := hE62.then hV68; have hE70 := hE63.then hV68; have hE71 := hE64.then hV68; have hE72 := hE65.then hV68; have hB73 := hV68.blk0 hB66; have hB74 := hV68.blk0 hB60; refine cw_seq ?_; refine cw_seq ?_; refine cw_region ?_; refine wl_m ?_; refine wl_m ?_; refine wl_val rfl (ex_len_slice rfl Try.underlying27 rfl) ?_; refine wl_val rfl (ex_lss rfl rfl) ?_; refine wl_nil (nrm_then ?_); refine cw_if rfl (fun hc60 => ?_) (fun hc60 => ?_)
        ·skip
         have hk' : k < l2.length := by omega
         obtain ⟨b7, o7, vs7, ha7, hb7, hvl7, hc7, rfl⟩ := f2 k hk'
         have hls7 : l2[k].size ≤ 40000 := by have := hsz2 l2[k] (List.getElem_mem hk'); omega
         have hmu7 := mul_bd (m := (l2[k].size : Int)) (k := (l3.length : Int)) (a := 40000) (b := 10000) (by omega) (by omega) (by omega) (by omega); refine cw_skip (nrm_then ?_); refine cw_seq ?_; refine cw_block ?_; refine cw_seq ?_; refine cw_seq ?_; refine cw_quiet (by kernel_rfl) (by kernel_rfl) ?_; refine ql_val rfl (fun _ hq76 => ex_move rfl) ?_; refine ql_val rfl (fun _ hq76 => ex_gtr rfl rfl) ?_; refine ql_val rfl (fun _ hq76 => ex_move rfl) ?_; refine ql_split (t := 65) rfl (fun hs65 => ?_) (fun hs65 => ?_)
         ·skip
          have hk8 : k - 1 < l2.length := by omega
          obtain ⟨b8, o8, vs8, ha8, hb8, hvl8, hc8, rfl⟩ := f2 (k - 1) hk8; have hlt8 : l2[k - 1].toList < l2[k].toList := List.pairwise_iff_getElem.1 hSR (k - 1) k hk8 hk' (by omega); refine ql_go rfl rfl rfl rfl ?_; refine ql_val rfl (fun _ hq76 => ex_move rfl) ?_; refine ql_go rfl rfl rfl rfl ?_; refine ql_val rfl (fun _ hq76 => ex_move rfl) ?_; refine ql_go rfl rfl rfl rfl ?_; refine ql_val rfl (fun _ hq76 => ex_indexAddrZA (n := k) rfl rfl ha7 (by omega) Try.elem27 (hk')) ?_; refine ql_go rfl rfl rfl rfl ?_; refine ql_val rfl (fun _ hq76 => ex_load1 rfl Try.agg9 ((hc7.evo (hE71.then hq76) (by simp)) 0 _ rfl)) ?_; refine ql_go rfl rfl rfl rfl ?_; refine ql_val rfl (fun _ hq76 => ex_move rfl) ?_; refine ql_go rfl rfl rfl rfl ?_; refine ql_val rfl (fun _ hq76 => ex_move rfl) ?_; refine ql_go rfl rfl rfl rfl ?_; refine ql_val rfl (fun _ hq76 => ex_sub_i64 rfl rfl (by omega) (by omega)) ?_; refine ql_go rfl rfl rfl rfl ?_; refine ql_val rfl (fun _ hq76 => ex_indexAddrZA (n := k - 1) rfl rfl ha8 (by omega) Try.elem27 (hk8)) ?_; refine ql_go rfl rfl rfl rfl ?_; refine ql_val rfl (fun _ hq76 => ex_load1 rfl Try.agg9 ((hc8.evo (hE71.then hq76) (by simp)) 0 _ rfl)) ?_; refine ql_go rfl rfl rfl rfl ?_; refine ql_val rfl (fun _ hq76 => ex_sleqF rfl rfl hlt8) ?_; refine ql_val rfl (fun _ hq76 => ex_pick_t rfl rfl) ?_; refine ql_nil (fun wq75 hq76 => nrm_then ?_); have hE77 := hE69.then hq76; have hE78 := hE70.then hq76; have hE79 := hE71.then hq76; have hE80 := hE72.then hq76; have hE81 := hV68.then hq76; have hB82 := hq76.blk0 hB73; have hB83 := hq76.blk0 hB74; refine cw_false rfl ?_; refine cw_skip (nrm_then ?_); refine cw_seq ?_; refine cw_region ?_; refine wl_m ?_; refine wl_m ?_; refine wl_splitb (t := 78) rfl (fun hs78 => ?_) (fun hs78 => ?_)
          ·skip
           have hT7 : Value.bool true = .bool (tf (s ∈ l2.take (k + 1))) := congrArg Value.bool (tf_iff.2 ((tk_step hk').2 (.inl (tf_iff.1 hs78)))).symm; refine wl_n ?_; refine wl_n ?_; refine wl_n ?_; refine wl_n ?_; refine wl_n ?_; refine wl_n ?_; refine wl_val rfl (ex_pickT rfl rfl hT7) ?_; refine wl_a ?_; refine wl_nil (nrm_then ?_); refine cw_seq ?_; refine cw_any (fun w0 w' => Evo [] w0 w') (by kernel_rfl) (fun w84 hw85 => ?_); have hE86 := hE77.then hw85; have hE87 := hE78.then hw85; have hE88 := hE79.then hw85; have hE89 := hE80.then hw85; have hE90 := hE81.then hw85; have hB91 := hw85.blk0 hB82; have hB92 := hw85.blk0 hB83; refine ae_take 0 rfl (by kernel_rfl) (by kernel_rfl) (by kernel_rfl) rfl (fun _ hS => ex_move rfl) (Evo.refl [] w84) ?_; refine ae_take 1 rfl (by kernel_rfl) (by kernel_rfl) (by kernel_rfl) rfl (fun _ hS => ex_move rfl) (Evo.refl [] w84) ?_; refine ae_take 2 rfl (by kernel_rfl) (by kernel_rfl) (by kernel_rfl) rfl (fun _ hS => ex_indexAddrZA (n := k) rfl rfl ha7 (by omega) Try.elem27 (hk')) (Evo.refl [] w84) ?_; refine ae_take 3 rfl (by kernel_rfl) (by kernel_rfl) (by kernel_rfl) rfl (fun _ hS => ex_load1 rfl Try.agg9 ((hc7.evo (hE88.then hS) (by simp)) 0 _ rfl)) (Evo.refl [] w84) ?_; refine ae_take 4 rfl (by kernel_rfl) (by kernel_rfl) (by kernel_rfl) rfl (fun _ hS => ex_len_str rfl Try.underlying9 rfl) (Evo.refl [] w84) ?_; refine ae_take 5 rfl (by kernel_rfl) (by kernel_rfl) (by kernel_rfl) rfl (fun _ hS => ex_fieldAddr rfl Try.fld29_0) (Evo.refl [] w84) ?_; refine ae_take 6 rfl (by kernel_rfl) (by kernel_rfl) (by kernel_rfl) rfl (fun _ hS => ex_load1 rfl Try.agg26 (cell_nth (hS.blk0 hB92) rfl)) (Evo.refl [] w84) ?_
           refine ae_take 7 rfl (by kernel_rfl) (by kernel_rfl) (by kernel_rfl) rfl (fun _ hS => ex_len_slice rfl Try.underlying26 rfl) (Evo.refl [] w84) ?_; refine ae_take 8 rfl (by kernel_rfl) (by kernel_rfl) (by kernel_rfl) rfl (fun _ hS => ex_mul_i64 rfl rfl (by omega) (by omega)) (Evo.refl [] w84) ?_; refine ae_take 9 rfl (by kernel_rfl) (by kernel_rfl) (by kernel_rfl) rfl (fun _ hS => ex_lss rfl rfl) (Evo.refl [] w84) ?_; refine ae_take 10 rfl (by kernel_rfl) (by kernel_rfl) (by kernel_rfl) rfl (fun _ hS => ex_move rfl) (Evo.refl [] w84) ?_; refine ae_split (t := 96) rfl (fun hs96 => ?_) (fun hs96 => ?_)
           ·skip
            refine ae_takeG 11 rfl rfl rfl rfl rfl (by kernel_rfl) (by kernel_rfl) (by kernel_rfl) rfl (fun _ hS => ex_loadBlk rfl Try.agg29 Try.size29 (hS.blk0 hB92) rfl) (Evo.refl [] w84) ?_; refine ae_takeG 12 rfl rfl rfl rfl rfl (by kernel_rfl) (by kernel_rfl) (by kernel_rfl) rfl (fun _ hS => ex_move rfl) (Evo.refl [] w84) ?_; refine ae_takeG 13 rfl rfl rfl rfl rfl (by kernel_rfl) (by kernel_rfl) (by kernel_rfl) rfl (fun _ hS => ex_move rfl) (Evo.refl [] w84) ?_; refine ae_takeG 14 rfl rfl rfl rfl rfl (by kernel_rfl) (by kernel_rfl) (by kernel_rfl) rfl (fun _ hS => ex_indexAddrZA (n := k) rfl rfl ha7 (by omega) Try.elem27 (hk')) (Evo.refl [] w84) ?_; refine ae_takeG 15 rfl rfl rfl rfl rfl (by kernel_rfl) (by kernel_rfl) (by kernel_rfl) rfl (fun _ hS => ex_load1 rfl Try.agg9 ((hc7.evo (hE88.then hS) (by simp)) 0 _ rfl)) (Evo.refl [] w84) ?_; refine ae_loud [16] (by kernel_rfl) rfl ⟨?_, trivial⟩; refine a_step rfl ?_; refine wl_g ?_
            refine wl_call1 (vs := [_, _]) Try.goes8 rfl (taken_ok (RProg.pers _ _ _ _ _ hE89 hp3) hP3.rng (progOk_pos hP3) (by have := hls7; omega)) rfl ?_
            rintro _ w93 ⟨hw94, r3, rfl, hT3⟩; have hE95 := hE86.then hw94; have hE96 := hE87.then hw94; have hE97 := hE88.then hw94; have hE98 := hE89.then hw94; have hE99 := hE90.then hw94; have hE100 := (Evo.refl [] w84).then hw94; have hB101 := hw94.blk0 hB91; have hB102 := hw94.blk0 hB92; have hF3 := listed_fin hT3 hP3 hno2 hI2; refine wl_nil (ae_next (.inl hE100) ?_); refine ae_takeG 17 rfl rfl rfl rfl rfl (by kernel_rfl) (by kernel_rfl) (by kernel_rfl) rfl (fun _ hS => ex_neq rfl rfl) hE100 ?_; refine ae_take 18 rfl (by kernel_rfl) (by kernel_rfl) (by kernel_rfl) rfl (fun _ hS => ex_pick_t rfl rfl) hE100 ?_; refine ae_done (by kernel_rfl) (nrm_then ?_); refine cw_if rfl (fun hc104 => ?_) (fun hc104 => ?_)
            ·skip
             exfalso
             have hm7 : l2[k] ∈ l2 := List.getElem_mem hk'
             rcases hF3 with ⟨h1, h2⟩ | ⟨h1, h2⟩ | ⟨h1, h2⟩
             · exact h2 hm7
             · exact hc104 h1
             · exact h2 hm7
            ·skip
             refine cw_skip (nrm_block (nrm_then ?_)); refine cw_region ?_; refine wl_m ?_; refine wl_val rfl (ex_add_i64 rfl rfl (by omega) (by omega)) ?_; refine wl_a ?_; refine wl_nil (nrm_same ?_); refine ⟨k + 1, ?_, ⟨rfl, rfl, trivial⟩, ⟨rfl, rfl, rfl, trivial⟩, hE99, ?_⟩
             · omega
             ·skip
              show k + 1 ≤ _; omega
           ·skip
            refine ae_takeN 11 rfl rfl rfl rfl rfl rfl (by kernel_rfl) (by kernel_rfl) (by kernel_rfl) rfl (Evo.refl [] w84) ?_; refine ae_takeN 12 rfl rfl rfl rfl rfl rfl (by kernel_rfl) (by kernel_rfl) (by kernel_rfl) rfl (Evo.refl [] w84) ?_; refine ae_takeN 13 rfl rfl rfl rfl rfl rfl (by kernel_rfl) (by kernel_rfl) (by kernel_rfl) rfl (Evo.refl [] w84) ?_; refine ae_takeN 14 rfl rfl rfl rfl rfl rfl (by kernel_rfl) (by kernel_rfl) (by kernel_rfl) rfl (Evo.refl [] w84) ?_; refine ae_takeN 15 rfl rfl rfl rfl rfl rfl (by kernel_rfl) (by kernel_rfl) (by kernel_rfl) rfl (Evo.refl [] w84) ?_; refine ae_loud [16] (by kernel_rfl) rfl ⟨?_, trivial⟩; refine a_step rfl ?_; refine wl_n ?_; refine wl_nil (ae_next (.inl (Evo.refl [] w84)) ?_); refine ae_takeN 17 rfl rfl rfl rfl rfl rfl (by kernel_rfl) (by kernel_rfl) (by kernel_rfl) rfl (Evo.refl [] w84) ?_; refine ae_take 18 rfl (by kernel_rfl) (by kernel_rfl) (by kernel_rfl) rfl (fun _ hS => ex_pick_f rfl rfl) (Evo.refl [] w84) ?_; refine ae_done (by kernel_rfl) (nrm_then ?_); refine cw_false rfl ?_; refine cw_skip (nrm_block (nrm_then ?_)); refine cw_region ?_; refine wl_m ?_; refine wl_val rfl (ex_add_i64 rfl rfl (by omega) (by omega)) ?_; refine wl_a ?_; refine wl_nil (nrm_same ?_); refine ⟨k + 1, ?_, ⟨rfl, rfl, trivial⟩, ⟨rfl, rfl, rfl, trivial⟩, hE90, ?_⟩
            · omega
            ·skip
             show k + 1 ≤ _; omega
          ·skip
           have hT7 : Value.bool (decide (l2[k] = s)) = .bool (tf (s ∈ l2.take (k + 1))) := congrArg Value.bool (by rw [Bool.eq_iff_iff, tf_iff, decide_eq_true_eq, tk_step hk']; exact ⟨.inr, fun h => h.resolve_left (tf_no.1 hs78)⟩)
           refine wl_g ?_; refine wl_m ?_; refine wl_g ?_; refine wl_m ?_; refine wl_g ?_; refine wl_val rfl (ex_indexAddrZA (n := k) rfl rfl ha7 (by omega) Try.elem27 (hk')) ?_; refine wl_g ?_; refine wl_val rfl (ex_load1 rfl Try.agg9 ((hc7.evo hE79 (by simp)) 0 _ rfl)) ?_; refine wl_g ?_; refine wl_m ?_; refine wl_g ?_; refine wl_val rfl (ex_eqs rfl rfl) ?_; refine wl_val rfl (ex_pickF rfl rfl hT7) ?_; refine wl_a ?_; refine wl_nil (nrm_then ?_); refine cw_seq ?_; refine cw_any (fun w0 w' => Evo [] w0 w') (by kernel_rfl) (fun w103 hw104 => ?_); have hE105 := hE77.then hw104; have hE106 := hE78.then hw104; have hE107 := hE79.then hw104; have hE108 := hE80.then hw104; have hE109 := hE81.then hw104; have hB110 := hw104.blk0 hB82; have hB111 := hw104.blk0 hB83; refine ae_take 0 rfl (by kernel_rfl) (by kernel_rfl) (by kernel_rfl) rfl (fun _ hS => ex_move rfl) (Evo.refl [] w103) ?_; refine ae_take 1 rfl (by kernel_rfl) (by kernel_rfl) (by kernel_rfl) rfl (fun _ hS => ex_move rfl) (Evo.refl [] w103) ?_; refine ae_take 2 rfl (by kernel_rfl) (by kernel_rfl) (by kernel_rfl) rfl (fun _ hS => ex_indexAddrZA (n := k) rfl rfl ha7 (by omega) Try.elem27 (hk')) (Evo.refl [] w103) ?_; refine ae_take 3 rfl (by kernel_rfl) (by kernel_rfl) (by kernel_rfl) rfl (fun _ hS => ex_load1 rfl Try.agg9 ((hc7.evo (hE107.then hS) (by simp)) 0 _ rfl)) (Evo.refl [] w103) ?_; refine ae_take 4 rfl (by kernel_rfl) (by kernel_rfl) (by kernel_rfl) rfl (fun _ hS => ex_len_str rfl Try.underlying9 rfl) (Evo.refl [] w103) ?_; refine ae_take 5 rfl (by kernel_rfl) (by kernel_rfl) (by kernel_rfl) rfl (fun _ hS => ex_fieldAddr rfl Try.fld29_0) (Evo.refl [] w103) ?_
           refine ae_take 6 rfl (by kernel_rfl) (by kernel_rfl) (by kernel_rfl) rfl (fun _ hS => ex_load1 rfl Try.agg26 (cell_nth (hS.blk0 hB111) rfl)) (Evo.refl [] w103) ?_; refine ae_take 7 rfl (by kernel_rfl) (by kernel_rfl) (by kernel_rfl) rfl (fun _ hS => ex_len_slice rfl Try.underlying26 rfl) (Evo.refl [] w103) ?_; refine ae_take 8 rfl (by kernel_rfl) (by kernel_rfl) (by kernel_rfl) rfl (fun _ hS => ex_mul_i64 rfl rfl (by omega) (by omega)) (Evo.refl [] w103) ?_; refine ae_take 9 rfl (by kernel_rfl) (by kernel_rfl) (by kernel_rfl) rfl (fun _ hS => ex_lss rfl rfl) (Evo.refl [] w103) ?_; refine ae_take 10 rfl (by kernel_rfl) (by kernel_rfl) (by kernel_rfl) rfl (fun _ hS => ex_move rfl) (Evo.refl [] w103) ?_; refine ae_split (t := 96) rfl (fun hs96 => ?_) (fun hs96 => ?_)
           ·skip
            refine ae_takeG 11 rfl rfl rfl rfl rfl (by kernel_rfl) (by kernel_rfl) (by kernel_rfl) rfl (fun _ hS => ex_loadBlk rfl Try.agg29 Try.size29 (hS.blk0 hB111) rfl) (Evo.refl [] w103) ?_; refine ae_takeG 12 rfl rfl rfl rfl rfl (by kernel_rfl) (by kernel_rfl) (by kernel_rfl) rfl (fun _ hS => ex_move rfl) (Evo.refl [] w103) ?_; refine ae_takeG 13 rfl rfl rfl rfl rfl (by kernel_rfl) (by kernel_rfl) (by kernel_rfl) rfl (fun _ hS => ex_move rfl) (Evo.refl [] w103) ?_; refine ae_takeG 14 rfl rfl rfl rfl rfl (by kernel_rfl) (by kernel_rfl) (by kernel_rfl) rfl (fun _ hS => ex_indexAddrZA (n := k) rfl rfl ha7 (by omega) Try.elem27 (hk')) (Evo.refl [] w103) ?_; refine ae_takeG 15 rfl rfl rfl rfl rfl (by kernel_rfl) (by kernel_rfl) (by kernel_rfl) rfl (fun _ hS => ex_load1 rfl Try.agg9 ((hc7.evo (hE107.then hS) (by simp)) 0 _ rfl)) (Evo.refl [] w103) ?_; refine ae_loud [16] (by kernel_rfl) rfl ⟨?_, trivial⟩; refine a_step rfl ?_; refine wl_g ?_
            refine wl_call1 (vs := [_, _]) Try.goes8 rfl (taken_ok (RProg.pers _ _ _ _ _ hE108 hp3) hP3.rng (progOk_pos hP3) (by have := hls7; omega)) rfl ?_
            rintro _ w112 ⟨hw113, r3, rfl, hT3⟩; have hE114 := hE105.then hw113; have hE115 := hE106.then hw113; have hE116 := hE107.then hw113; have hE117 := hE108.then hw113; have hE118 := hE109.then hw113; have hE119 := (Evo.refl [] w103).then hw113; have hB120 := hw113.blk0 hB110; have hB121 := hw113.blk0 hB111; have hF3 := listed_fin hT3 hP3 hno2 hI2; refine wl_nil (ae_next (.inl hE119) ?_); refine ae_takeG 17 rfl rfl rfl rfl rfl (by kernel_rfl) (by kernel_rfl) (by kernel_rfl) rfl (fun _ hS => ex_neq rfl rfl) hE119 ?_; refine ae_take 18 rfl (by kernel_rfl) (by kernel_rfl) (by kernel_rfl) rfl (fun _ hS => ex_pick_t rfl rfl) hE119 ?_; refine ae_done (by kernel_rfl) (nrm_then ?_); refine cw_if rfl (fun hc104 => ?_) (fun hc104 => ?_)
            ·skip
             exfalso
             have hm7 : l2[k] ∈ l2 := List.getElem_mem hk'
             rcases hF3 with ⟨h1, h2⟩ | ⟨h1, h2⟩ | ⟨h1, h2⟩
             · exact h2 hm7
             · exact hc104 h1
             · exact h2 hm7
            ·skip
             refine cw_skip (nrm_block (nrm_then ?_)); refine cw_region ?_; refine wl_m ?_; refine wl_val rfl (ex_add_i64 rfl rfl (by omega) (by omega)) ?_; refine wl_a ?_; refine wl_nil (nrm_same ?_); refine ⟨k + 1, ?_, ⟨rfl, rfl, trivial⟩, ⟨rfl, rfl, rfl, trivial⟩, hE118, ?_⟩
             · omega
             ·skip
              show k + 1 ≤ _; omega
           ·skip
            refine ae_takeN 11 rfl rfl rfl rfl rfl rfl (by kernel_rfl) (by kernel_rfl) (by kernel_rfl) rfl (Evo.refl [] w103) ?_; refine ae_takeN 12 rfl rfl rfl rfl rfl rfl (by kernel_rfl) (by kernel_rfl) (by kernel_rfl) rfl (Evo.refl [] w103) ?_; refine ae_takeN 13 rfl rfl rfl rfl rfl rfl (by kernel_rfl) (by kernel_rfl) (by kernel_rfl) rfl (Evo.refl [] w103) ?_; refine ae_takeN 14 rfl rfl rfl rfl rfl rfl (by kernel_rfl) (by kernel_rfl) (by kernel_rfl) rfl (Evo.refl [] w103) ?_; refine ae_takeN 15 rfl rfl rfl rfl rfl rfl (by kernel_rfl) (by kernel_rfl) (by kernel_rfl) rfl (Evo.refl [] w103) ?_; refine ae_loud [16] (by kernel_rfl) rfl ⟨?_, trivial⟩; refine a_step rfl ?_; refine wl_n ?_; refine wl_nil (ae_next (.inl (Evo.refl [] w103)) ?_); refine ae_takeN 17 rfl rfl rfl rfl rfl rfl (by kernel_rfl) (by kernel_rfl) (by kernel_rfl) rfl (Evo.refl [] w103) ?_; refine ae_take 18 rfl (by kernel_rfl) (by kernel_rfl) (by kernel_rfl) rfl (fun _ hS => ex_pick_f rfl rfl) (Evo.refl [] w103) ?_; refine ae_done (by kernel_rfl) (nrm_then ?_); refine cw_false rfl ?_; refine cw_skip (nrm_block (nrm_then ?_)); refine cw_region ?_; refine wl_m ?_; refine wl_val rfl (ex_add_i64 rfl rfl (by omega) (by omega)) ?_; refine wl_a ?_; refine wl_nil (nrm_same ?_); refine ⟨k + 1, ?_, ⟨rfl, rfl, trivial⟩, ⟨rfl, rfl, rfl, trivial⟩, hE109, ?_⟩
            · omega
            ·skip
             show k + 1 ≤ _; omega
         ·skip
          refine ql_no rfl rfl rfl rfl rfl rfl ?_; refine ql_no rfl rfl rfl rfl rfl rfl ?_; refine ql_no rfl rfl rfl rfl rfl rfl ?_; refine ql_no rfl rfl rfl rfl rfl rfl ?_; refine ql_no rfl rfl rfl rfl rfl rfl ?_; refine ql_no rfl rfl rfl rfl rfl rfl ?_; refine ql_no rfl rfl rfl rfl rfl rfl ?_; refine ql_no rfl rfl rfl rfl rfl rfl ?_; refine ql_no rfl rfl rfl rfl rfl rfl ?_; refine ql_no rfl rfl rfl rfl rfl rfl ?_; refine ql_val rfl (fun _ hq76 => ex_pick_f rfl rfl) ?_; refine ql_nil (fun wq75 hq76 => nrm_then ?_); have hE122 := hE69.then hq76; have hE123 := hE70.then hq76; have hE124 := hE71.then hq76; have hE125 := hE72.then hq76; have hE126 := hV68.then hq76; have hB127 := hq76.blk0 hB73; have hB128 := hq76.blk0 hB74; refine cw_false rfl ?_; refine cw_skip (nrm_then ?_); refine cw_seq ?_; refine cw_region ?_; refine wl_m ?_; refine wl_m ?_; refine wl_splitb (t := 78) rfl (fun hs78 => ?_) (fun hs78 => ?_)
          ·skip
           have hT7 : Value.bool true = .bool (tf (s ∈ l2.take (k + 1))) := congrArg Value.bool (tf_iff.2 ((tk_step hk').2 (.inl (tf_iff.1 hs78)))).symm; refine wl_n ?_; refine wl_n ?_; refine wl_n ?_; refine wl_n ?_; refine wl_n ?_; refine wl_n ?_; refine wl_val rfl (ex_pickT rfl rfl hT7) ?_; refine wl_a ?_; refine wl_nil (nrm_then ?_); refine cw_seq ?_; refine cw_any (fun w0 w' => Evo [] w0 w') (by kernel_rfl) (fun w129 hw130 => ?_); have hE131 := hE122.then hw130; have hE132 := hE123.then hw130; have hE133 := hE124.then hw130; have hE134 := hE125.then hw130; have hE135 := hE126.then hw130; have hB136 := hw130.blk0 hB127; have hB137 := hw130.blk0 hB128; refine ae_take 0 rfl (by kernel_rfl) (by kernel_rfl) (by kernel_rfl) rfl (fun _ hS => ex_move rfl) (Evo.refl [] w129) ?_; refine ae_take 1 rfl (by kernel_rfl) (by kernel_rfl) (by kernel_rfl) rfl (fun _ hS => ex_move rfl) (Evo.refl [] w129) ?_; refine ae_take 2 rfl (by kernel_rfl) (by kernel_rfl) (by kernel_rfl) rfl (fun _ hS => ex_indexAddrZA (n := k) rfl rfl ha7 (by omega) Try.elem27 (hk')) (Evo.refl [] w129) ?_; refine ae_take 3 rfl (by kernel_rfl) (by kernel_rfl) (by kernel_rfl) rfl (fun _ hS => ex_load1 rfl Try.agg9 ((hc7.evo (hE133.then hS) (by simp)) 0 _ rfl)) (Evo.refl [] w129) ?_; refine ae_take 4 rfl (by kernel_rfl) (by kernel_rfl) (by kernel_rfl) rfl (fun _ hS => ex_len_str rfl Try.underlying9 rfl) (Evo.refl [] w129) ?_; refine ae_take 5 rfl (by kernel_rfl) (by kernel_rfl) (by kernel_rfl) rfl (fun _ hS => ex_fieldAddr rfl Try.fld29_0) (Evo.refl [] w129) ?_; refine ae_take 6 rfl (by kernel_rfl) (by kernel_rfl) (by kernel_rfl) rfl (fun _ hS => ex_load1 rfl Try.agg26 (cell_nth (hS.blk0 hB137) rfl)) (Evo.refl [] w129) ?_
           refine ae_take 7 rfl (by kernel_rfl) (by kernel_rfl) (by kernel_rfl) rfl (fun _ hS => ex_len_slice rfl Try.underlying26 rfl) (Evo.refl [] w129) ?_; refine ae_take 8 rfl (by kernel_rfl) (by kernel_rfl) (by kernel_rfl) rfl (fun _ hS => ex_mul_i64 rfl rfl (by omega) (by omega)) (Evo.refl [] w129) ?_; refine ae_take 9 rfl (by kernel_rfl) (by kernel_rfl) (by kernel_rfl) rfl (fun _ hS => ex_lss rfl rfl) (Evo.refl [] w129) ?_; refine ae_take 10 rfl (by kernel_rfl) (by kernel_rfl) (by kernel_rfl) rfl (fun _ hS => ex_move rfl) (Evo.refl [] w129) ?_; refine ae_split (t := 96) rfl (fun hs96 => ?_) (fun hs96 => ?_)
           ·skip
            refine ae_takeG 11 rfl rfl rfl rfl rfl (by kernel_rfl) (by kernel_rfl) (by kernel_rfl) rfl (fun _ hS => ex_loadBlk rfl Try.agg29 Try.size29 (hS.blk0 hB137) rfl) (Evo.refl [] w129) ?_; refine ae_takeG 12 rfl rfl rfl rfl rfl (by kernel_rfl) (by kernel_rfl) (by kernel_rfl) rfl (fun _ hS => ex_move rfl) (Evo.refl [] w129) ?_; refine ae_takeG 13 rfl rfl rfl rfl rfl (by kernel_rfl) (by kernel_rfl) (by kernel_rfl) rfl (fun _ hS => ex_move rfl) (Evo.refl [] w129) ?_; refine ae_takeG 14 rfl rfl rfl rfl rfl (by kernel_rfl) (by kernel_rfl) (by kernel_rfl) rfl (fun _ hS => ex_indexAddrZA (n := k) rfl rfl ha7 (by omega) Try.elem27 (hk')) (Evo.refl [] w129) ?_; refine ae_takeG 15 rfl rfl rfl rfl rfl (by kernel_rfl) (by kernel_rfl) (by kernel_rfl) rfl (fun _ hS => ex_load1 rfl Try.agg9 ((hc7.evo (hE133.then hS) (by simp)) 0 _ rfl)) (Evo.refl [] w129) ?_; refine ae_loud [16] (by kernel_rfl) rfl ⟨?_, trivial⟩; refine a_step rfl ?_; refine wl_g ?_
            refine wl_call1 (vs := [_, _]) Try.goes8 rfl (taken_ok (RProg.pers _ _ _ _ _ hE134 hp3) hP3.rng (progOk_pos hP3) (by have := hls7; omega)) rfl ?_
            rintro _ w138 ⟨hw139, r3, rfl, hT3⟩; have hE140 := hE131.then hw139; have hE141 := hE132.then hw139; have hE142 := hE133.then hw139; have hE143 := hE134.then hw139; have hE144 := hE135.then hw139; have hE145 := (Evo.refl [] w129).then hw139; have hB146 := hw139.blk0 hB136; have hB147 := hw139.blk0 hB137; have hF3 := listed_fin hT3 hP3 hno2 hI2; refine wl_nil (ae_next (.inl hE145) ?_); refine ae_takeG 17 rfl rfl rfl rfl rfl (by kernel_rfl) (by kernel_rfl) (by kernel_rfl) rfl (fun _ hS => ex_neq rfl rfl) hE145 ?_; refine ae_take 18 rfl (by kernel_rfl) (by kernel_rfl) (by kernel_rfl) rfl (fun _ hS => ex_pick_t rfl rfl) hE145 ?_; refine ae_done (by kernel_rfl) (nrm_then ?_); refine cw_if rfl (fun hc104 => ?_) (fun hc104 => ?_)
            ·skip
             exfalso
             have hm7 : l2[k] ∈ l2 := List.getElem_mem hk'
             rcases hF3 with ⟨h1, h2⟩ | ⟨h1, h2⟩ | ⟨h1, h2⟩
             · exact h2 hm7
             · exact hc104 h1
             · exact h2 hm7
            ·skip
             refine cw_skip (nrm_block (nrm_then ?_)); refine cw_region ?_; refine wl_m ?_; refine wl_val rfl (ex_add_i64 rfl rfl (by omega) (by omega)) ?_; refine wl_a ?_; refine wl_nil (nrm_same ?_); refine ⟨k + 1, ?_, ⟨rfl, rfl, trivial⟩, ⟨rfl, rfl, rfl, trivial⟩, hE144, ?_⟩
             · omega
             ·skip
              show k + 1 ≤ _; omega
           ·skip
            refine ae_takeN 11 rfl rfl rfl rfl rfl rfl (by kernel_rfl) (by kernel_rfl) (by kernel_rfl) rfl (Evo.refl [] w129) ?_; refine ae_takeN 12 rfl rfl rfl rfl rfl rfl (by kernel_rfl) (by kernel_rfl) (by kernel_rfl) rfl (Evo.refl [] w129) ?_; refine ae_takeN 13 rfl rfl rfl rfl rfl rfl (by kernel_rfl) (by kernel_rfl) (by kernel_rfl) rfl (Evo.refl [] w129) ?_; refine ae_takeN 14 rfl rfl rfl rfl rfl rfl (by kernel_rfl) (by kernel_rfl) (by kernel_rfl) rfl (Evo.refl [] w129) ?_; refine ae_takeN 15 rfl rfl rfl rfl rfl rfl (by kernel_rfl) (by kernel_rfl) (by kernel_rfl) rfl (Evo.refl [] w129) ?_; refine ae_loud [16] (by kernel_rfl) rfl ⟨?_, trivial⟩; refine a_step rfl ?_; refine wl_n ?_; refine wl_nil (ae_next (.inl (Evo.refl [] w129)) ?_); refine ae_takeN 17 rfl rfl rfl rfl rfl rfl (by kernel_rfl) (by kernel_rfl) (by kernel_rfl) rfl (Evo.refl [] w129) ?_; refine ae_take 18 rfl (by kernel_rfl) (by kernel_rfl) (by kernel_rfl) rfl (fun _ hS => ex_pick_f rfl rfl) (Evo.refl [] w129) ?_; refine ae_done (by kernel_rfl) (nrm_then ?_); refine cw_false rfl ?_; refine cw_skip (nrm_block (nrm_then ?_)); refine cw_region ?_; refine wl_m ?_; refine wl_val rfl (ex_add_i64 rfl rfl (by omega) (by omega)) ?_; refine wl_a ?_; refine wl_nil (nrm_same ?_); refine ⟨k + 1, ?_, ⟨rfl, rfl, trivial⟩, ⟨rfl, rfl, rfl, trivial⟩, hE135, ?_⟩
            · omega
            ·skip
             show k + 1 ≤ _; omega
          ·skip
           have hT7 : Value.bool (decide (l2[k] = s)) = .bool (tf (s ∈ l2.take (k + 1))) := congrArg Value.bool (by rw [Bool.eq_iff_iff, tf_iff, decide_eq_true_eq, tk_step hk']; exact ⟨.inr, fun h => h.resolve_left (tf_no.1 hs78)⟩)
           refine wl_g ?_; refine wl_m ?_; refine wl_g ?_; refine wl_m ?_; refine wl_g ?_; refine wl_val rfl (ex_indexAddrZA (n := k) rfl rfl ha7 (by omega) Try.elem27 (hk')) ?_; refine wl_g ?_; refine wl_val rfl (ex_load1 rfl Try.agg9 ((hc7.evo hE124 (by simp)) 0 _ rfl)) ?_; refine wl_g ?_; refine wl_m ?_; refine wl_g ?_; refine wl_val rfl (ex_eqs rfl rfl) ?_; refine wl_val rfl (ex_pickF rfl rfl hT7) ?_; refine wl_a ?_; refine wl_nil (nrm_then ?_); refine cw_seq ?_; refine cw_any (fun w0 w' => Evo [] w0 w') (by kernel_rfl) (fun w148 hw149 => ?_); have hE150 := hE122.then hw149; have hE151 := hE123.then hw149; have hE152 := hE124.then hw149; have hE153 := hE125.then hw149; have hE154 := hE126.then hw149; have hB155 := hw149.blk0 hB127; have hB156 := hw149.blk0 hB128; refine ae_take 0 rfl (by kernel_rfl) (by kernel_rfl) (by kernel_rfl) rfl (fun _ hS => ex_move rfl) (Evo.refl [] w148) ?_; refine ae_take 1 rfl (by kernel_rfl) (by kernel_rfl) (by kernel_rfl) rfl (fun _ hS => ex_move rfl) (Evo.refl [] w148) ?_; refine ae_take 2 rfl (by kernel_rfl) (by kernel_rfl) (by kernel_rfl) rfl (fun _ hS => ex_indexAddrZA (n := k) rfl rfl ha7 (by omega) Try.elem27 (hk')) (Evo.refl [] w148) ?_; refine ae_take 3 rfl (by kernel_rfl) (by kernel_rfl) (by kernel_rfl) rfl (fun _ hS => ex_load1 rfl Try.agg9 ((hc7.evo (hE152.then hS) (by simp)) 0 _ rfl)) (Evo.refl [] w148) ?_; refine ae_take 4 rfl (by kernel_rfl) (by kernel_rfl) (by kernel_rfl) rfl (fun _ hS => ex_len_str rfl Try.underlying9 rfl) (Evo.refl [] w148) ?_; refine ae_take 5 rfl (by kernel_rfl) (by kernel_rfl) (by kernel_rfl) rfl (fun _ hS => ex_fieldAddr rfl Try.fld29_0) (Evo.refl [] w148) ?_
           refine ae_take 6 rfl (by kernel_rfl) (by kernel_rfl) (by kernel_rfl) rfl (fun _ hS => ex_load1 rfl Try.agg26 (cell_nth (hS.blk0 hB156) rfl)) (Evo.refl [] w148) ?_; refine ae_take 7 rfl (by kernel_rfl) (by kernel_rfl) (by kernel_rfl) rfl (fun _ hS => ex_len_slice rfl Try.underlying26 rfl) (Evo.refl [] w148) ?_; refine ae_take 8 rfl (by kernel_rfl) (by kernel_rfl) (by kernel_rfl) rfl (fun _ hS => ex_mul_i64 rfl rfl (by omega) (by omega)) (Evo.refl [] w148) ?_; refine ae_take 9 rfl (by kernel_rfl) (by kernel_rfl) (by kernel_rfl) rfl (fun _ hS => ex_lss rfl rfl) (Evo.refl [] w148) ?_; refine ae_take 10 rfl (by kernel_rfl) (by kernel_rfl) (by kernel_rfl) rfl (fun _ hS => ex_move rfl) (Evo.refl [] w148) ?_; refine ae_split (t := 96) rfl (fun hs96 => ?_) (fun hs96 => ?_)
           ·skip
            refine ae_takeG 11 rfl rfl rfl rfl rfl (by kernel_rfl) (by kernel_rfl) (by kernel_rfl) rfl (fun _ hS => ex_loadBlk rfl Try.agg29 Try.size29 (hS.blk0 hB156) rfl) (Evo.refl [] w148) ?_; refine ae_takeG 12 rfl rfl rfl rfl rfl (by kernel_rfl) (by kernel_rfl) (by kernel_rfl) rfl (fun _ hS => ex_move rfl) (Evo.refl [] w148) ?_; refine ae_takeG 13 rfl rfl rfl rfl rfl (by kernel_rfl) (by kernel_rfl) (by kernel_rfl) rfl (fun _ hS => ex_move rfl) (Evo.refl [] w148) ?_; refine ae_takeG 14 rfl rfl rfl rfl rfl (by kernel_rfl) (by kernel_rfl) (by kernel_rfl) rfl (fun _ hS => ex_indexAddrZA (n := k) rfl rfl ha7 (by omega) Try.elem27 (hk')) (Evo.refl [] w148) ?_; refine ae_takeG 15 rfl rfl rfl rfl rfl (by kernel_rfl) (by kernel_rfl) (by kernel_rfl) rfl (fun _ hS => ex_load1 rfl Try.agg9 ((hc7.evo (hE152.then hS) (by simp)) 0 _ rfl)) (Evo.refl [] w148) ?_; refine ae_loud [16] (by kernel_rfl) rfl ⟨?_, trivial⟩; refine a_step rfl ?_; refine wl_g ?_
            refine wl_call1 (vs := [_, _]) Try.goes8 rfl (taken_ok (RProg.pers _ _ _ _ _ hE153 hp3) hP3.rng (progOk_pos hP3) (by have := hls7; omega)) rfl ?_
            rintro _ w157 ⟨hw158, r3, rfl, hT3⟩; have hE159 := hE150.then hw158; have hE160 := hE151.then hw158; have hE161 := hE152.then hw158; have hE162 := hE153.then hw158; have hE163 := hE154.then hw158; have hE164 := (Evo.refl [] w148).then hw158; have hB165 := hw158.blk0 hB155; have hB166 := hw158.blk0 hB156; have hF3 := listed_fin hT3 hP3 hno2 hI2; refine wl_nil (ae_next (.inl hE164) ?_); refine ae_takeG 17 rfl rfl rfl rfl rfl (by kernel_rfl) (by kernel_rfl) (by kernel_rfl) rfl (fun _ hS => ex_neq rfl rfl) hE164 ?_; refine ae_take 18 rfl (by kernel_rfl) (by kernel_rfl) (by kernel_rfl) rfl (fun _ hS => ex_pick_t rfl rfl) hE164 ?_; refine ae_done (by kernel_rfl) (nrm_then ?_); refine cw_if rfl (fun hc104 => ?_) (fun hc104 => ?_)
            ·skip
             exfalso
             have hm7 : l2[k] ∈ l2 := List.getElem_mem hk'
             rcases hF3 with ⟨h1, h2⟩ | ⟨h1, h2⟩ | ⟨h1, h2⟩
             · exact h2 hm7
             · exact hc104 h1
             · exact h2 hm7
            ·skip
             refine cw_skip (nrm_block (nrm_then ?_)); refine cw_region ?_; refine wl_m ?_; refine wl_val rfl (ex_add_i64 rfl rfl (by omega) (by omega)) ?_; refine wl_a ?_; refine wl_nil (nrm_same ?_); refine ⟨k + 1, ?_, ⟨rfl, rfl, trivial⟩, ⟨rfl, rfl, rfl, trivial⟩, hE163, ?_⟩
             · omega
             ·skip
              show k + 1 ≤ _; omega
           ·skip
            refine ae_takeN 11 rfl rfl rfl rfl rfl rfl (by kernel_rfl) (by kernel_rfl) (by kernel_rfl) rfl (Evo.refl [] w148) ?_; refine ae_takeN 12 rfl rfl rfl rfl rfl rfl (by kernel_rfl) (by kernel_rfl) (by kernel_rfl) rfl (Evo.refl [] w148) ?_; refine ae_takeN 13 rfl rfl rfl rfl rfl rfl (by kernel_rfl) (by kernel_rfl) (by kernel_rfl) rfl (Evo.refl [] w148) ?_; refine ae_takeN 14 rfl rfl rfl rfl rfl rfl (by kernel_rfl) (by kernel_rfl) (by kernel_rfl) rfl (Evo.refl [] w148) ?_; refine ae_takeN 15 rfl rfl rfl rfl rfl rfl (by kernel_rfl) (by kernel_rfl) (by kernel_rfl) rfl (Evo.refl [] w148) ?_; refine ae_loud [16] (by kernel_rfl) rfl ⟨?_, trivial⟩; refine a_step rfl ?_; refine wl_n ?_; refine wl_nil (ae_next (.inl (Evo.refl [] w148)) ?_); refine ae_takeN 17 rfl rfl rfl rfl rfl rfl (by kernel_rfl) (by kernel_rfl) (by kernel_rfl) rfl (Evo.refl [] w148) ?_; refine ae_take 18 rfl (by kernel_rfl) (by kernel_rfl) (by kernel_rfl) rfl (fun _ hS => ex_pick_f rfl rfl) (Evo.refl [] w148) ?_; refine ae_done (by kernel_rfl) (nrm_then ?_); refine cw_false rfl ?_; refine cw_skip (nrm_block (nrm_then ?_)); refine cw_region ?_; refine wl_m ?_; refine wl_val rfl (ex_add_i64 rfl rfl (by omega) (by omega)) ?_; refine wl_a ?_; refine wl_nil (nrm_same ?_); refine ⟨k + 1, ?_, ⟨rfl, rfl, trivial⟩, ⟨rfl, rfl, rfl, trivial⟩, hE154, ?_⟩
            · omega
            ·skip
             show k + 1 ≤ _; omega
        ·skip
         refine cw_exit (ex_then (ex_then (ex_here (nrm_then ?_)))); refine cw_seq ?_; refine cw_seq ?_; refine cw_region ?_; have hmu9 := mul_bd (m := (s.size : Int)) (k := (l3.length : Int)) (a := 140737488351232) (b := 10000) (by omega) (by omega) (by omega) (by omega); have hls9 := le_mul_len (a := s.size) hps3; refine wl_m ?_; refine wl_val rfl (ex_len_str rfl Try.underlying9 rfl) ?_; refine wl_val rfl (ex_fieldAddr rfl Try.fld29_0) ?_; refine wl_val rfl (ex_load1 rfl Try.agg26 (cell_nth hB74 rfl)) ?_; refine wl_val rfl (ex_len_slice rfl Try.underlying26 rfl) ?_; refine wl_val rfl (ex_mul_i64 rfl rfl (by omega) (by omega)) ?_; refine wl_val rfl (ex_gtr rfl rfl) ?_; refine wl_nil (nrm_then ?_); refine cw_if rfl (fun hc111 => ?_) (fun hc111 => ?_)
         ·skip
          refine cw_seq ?_; refine cw_region ?_; refine wl_a ?_; refine wl_nil (nrm_then ?_); refine cw_ret (ret_then (body_ret1 rfl rfl ?_)); exact ⟨rfl, hE69⟩
         ·skip
          have hs9 : s.size ≤ 1000000000 := by omega
          refine cw_skip (nrm_then ?_); refine cw_seq ?_; refine cw_region ?_; refine wl_val rfl (ex_loadBlk rfl Try.agg29 Try.size29 hB74 rfl) ?_; refine wl_m ?_; refine wl_call1 (vs := [_, _]) Try.goes8 rfl (taken_ok (RProg.pers _ _ _ _ _ hE72 hp3) hP3.rng (progOk_pos hP3) hs9) rfl ?_; rintro _ w167 ⟨hw168, r4, rfl, hT4⟩; have hE169 := hE69.then hw168; have hE170 := hE70.then hw168; have hE171 := hE71.then hw168; have hE172 := hE72.then hw168; have hE173 := hV68.then hw168; have hB174 := hw168.blk0 hB73; have hB175 := hw168.blk0 hB74; have hF4 := listed_fin hT4 hP3 hno2 hI2; rw [List.take_of_length_le (show l2.length ≤ k by omega)]; refine wl_a ?_; refine wl_nil (nrm_then ?_); refine cw_seq ?_; refine cw_region ?_; refine wl_m ?_; refine wl_val rfl (ex_eql rfl rfl) ?_; refine wl_m ?_; refine wl_split (t := 117) rfl (fun hs117 => ?_) (fun hs117 => ?_)
          ·skip
           refine wl_g ?_; refine wl_m ?_; refine wl_g ?_; refine wl_val rfl (ex_notb rfl) ?_; refine wl_pt ?_; refine wl_m ?_; refine wl_splitb (t := 121) rfl (fun hs121 => ?_) (fun hs121 => ?_)
           ·skip
            refine wl_n ?_; refine wl_n ?_; refine wl_n ?_; refine wl_u ?_; refine wl_u ?_; refine wl_n ?_; refine wl_n ?_; refine wl_u ?_; refine wl_u ?_; refine wl_u ?_; refine wl_u ?_; refine wl_n ?_; refine wl_pt ?_; refine wl_a ?_; refine wl_nil (nrm_then ?_); refine cw_ret (body_ret1 rfl rfl ?_); exact ⟨rfl, hE169⟩
           ·skip
            exfalso
            rcases hF4 with ⟨h1, h2⟩ | ⟨h1, h2⟩ | ⟨h1, h2⟩
            · rw [tf_no.2 h2] at hs121; cases hs121
            · omega
            · omega
          ·skip
           refine wl_n ?_; refine wl_n ?_; refine wl_pf ?_; refine wl_m ?_; refine wl_g ?_; refine wl_m ?_; refine wl_g ?_; refine wl_val rfl (ex_geq rfl rfl) ?_; refine wl_g ?_; refine wl_m ?_; refine wl_split (t := 124) rfl (fun hs124 => ?_) (fun hs124 => ?_)
           ·skip
            refine wl_g ?_; refine wl_m ?_; refine wl_g ?_; refine wl_val rfl (ex_lss rfl rfl) ?_; refine wl_g ?_; refine wl_pt ?_; refine wl_g ?_; refine wl_m ?_; refine wl_split (t := 128) rfl (fun hs128 => ?_) (fun hs128 => ?_)
            ·skip
             refine wl_g ?_; refine wl_m ?_; refine wl_g ?_; refine wl_val rfl (ex_eql rfl rfl) ?_; refine wl_g ?_; refine wl_m ?_; refine wl_g ?_; refine wl_val rfl (ex_eqB rfl rfl Try.underlying4) ?_; refine wl_g ?_; refine wl_pt ?_; refine wl_pf ?_; refine wl_a ?_; refine wl_nil (nrm_then ?_); refine cw_ret (body_ret1 rfl rfl ?_); refine ⟨congrArg Value.bool ?_, hE169⟩
             rcases hF4 with ⟨h1, h2⟩ | ⟨h1, h2⟩ | ⟨h1, h2⟩
             · omega
             · rw [tf_iff.2 h2]; simp [h1]
             · rw [tf_no.2 h2]; simp [h1]
            ·skip
             exfalso; omega
           ·skip
            exfalso; omega
end Go.Proofs.Ytgboffefbpligaa
namespace Go.W
set_option linter.unusedSimpArgs false
set_option linter.unusedVariables false
def Opens {α : Type} (P : Program) (t : TypeId) (R : Rel α) : Prop :=
  ∀ (H : Type) (enc : TypeId × Value → H) (w : World) (fuel : Nat) (cs : List Value) (x : DataW H × List MemPlace), DataW.trod enc P w 0 (fun _ => true) true fuel t cs = some x →
    (∀ n, n ∈ x.1.weights P t → n ≤ reachBytes) → ∃ d, R [] w cs d
theorem opens_int {P : Program} {t : TypeId} {k : IntKind} (ht : P.underlying t = some (.int k)) : Opens P t (RInt k) := by
  intro H enc w fuel cs x h _
  obtain ⟨n, hcs, _, hw⟩ := DataW.trod_int ht h
  refine ⟨n, hcs, ?_⟩
  simpa [Lit.wf] using hw
theorem opens_bool {P : Program} {t : TypeId} (ht : P.underlying t = some .bool) : Opens P t RBool := by
  intro H enc w fuel cs x h _
  obtain ⟨b, hcs, _⟩ := DataW.trod_bool ht h
  exact ⟨b, hcs⟩
def RStrB : Rel ByteArray := fun _ _ vs s => vs = [.string s] ∧ s.size ≤ 140737488351232
theorem opens_str {P : Program} {t : TypeId} (ht : P.underlying t = some .string) : Opens P t RStrB := by
  intro H enc w fuel cs x h hw
  obtain ⟨s, hcs, rfl, _⟩ := DataW.trod_string ht h
  refine ⟨s, hcs, ?_⟩
  have := hw s.data.toList.length (by simp [DataW.weights])
  simpa [reachBytes] using this
theorem cells?_at {w : World} {a : Addr} {n : Nat} {vs : List Value} (h : w.cells? 0 a n = some vs) : vs.length = n ∧ ∀ j v, vs[j]? = some v → w.cell? (a.add j) = some v := by
  unfold World.cells? at h
  rw [if_pos (Nat.zero_le _)] at h
  have hl := mapM_some_length h
  refine ⟨by simpa using hl, fun j v hv => ?_⟩
  have hj : j < n := by have := (List.getElem?_eq_some_iff.1 hv).1; simp at hl; omega
  have := mapM_some_get h j j (by simp [hj])
  rw [hv] at this
  exact this
theorem weights_all {H : Type} {P : Program} {e : TypeId} : ∀ {l : List (DataW H)} {d : DataW H}, d ∈ l → ∀ n, n ∈ d.weights P e → n ∈ DataW.weightsAll P e l
  | [], _, h, _, _ => by cases h
  | x :: l, d, h, n, hn => by
    simp only [DataW.weightsAll, List.mem_append]
    rcases List.mem_cons.1 h with rfl | h
    · exact .inl hn
    · exact .inr (weights_all h n hn)
def RSlB {α : Type} (sz bytes : Nat) (R : Rel α) : Rel (List α) := fun X w vs ds => ∃ v, vs = [v] ∧ RSl sz R X w v ds ∧ ds.length * bytes ≤ 140737488351232
theorem opens_slice {α : Type} {P : Program} {t e : TypeId} {R : Rel α} {sz bytes : Nat} (ht : P.underlying t = some (.slice e)) (hs : P.cellsOf e = sz) (hb : P.bytesOf e = bytes) (h0 : 0 < sz) (hR : Opens P e R) : Opens P t (RSlB sz bytes R) := by
  subst hs hb
  intro H enc w fuel cs x h hw
  rcases DataW.trod_slice ht h with ⟨rfl, rfl⟩ | ⟨a, len, cap, elems, rest, n, rfl, rfl, rfl, _, hle, _, hel, hat, _, _⟩
  · exact ⟨[], .slice none 0 0, rfl, ⟨none, 0, rfl, Nat.le_refl _, fun k hk => by simp at hk⟩, by simp⟩
  · have hwl : (elems.length + rest.length) * P.bytesOf e ≤ 140737488351232 := by
      have := hw _ (by simp [DataW.weights, ht]; exact .inl rfl)
      simpa [reachBytes] using this
    have hwe : ∀ i (hi : i < elems.length) m, m ∈ (elems[i]).1.weights P e → m ≤ reachBytes := fun i hi m hm => by
      refine hw m ?_
      simp only [DataW.weights, ht, List.mem_cons, List.mem_append]
      exact .inr (.inl (weights_all (List.mem_map.2 ⟨elems[i], List.getElem_mem hi, rfl⟩) m hm))
    have key : ∀ i (hi : i < len), ∃ b o vs d, a = ⟨b, o, none⟩ ∧ vs.length = P.cellsOf e ∧ CellsAt w b (o + i * P.cellsOf e) vs ∧ R [] w vs d := by
      intro i hi
      have h1 := hat i hi
      have hi' : i < elems.length := by omega
      rw [List.getElem?_eq_getElem hi'] at h1
      obtain ⟨vs, hvs, htr⟩ := Option.bind_eq_some_iff.1 h1
      obtain ⟨hl, hc⟩ := cells?_at hvs
      obtain ⟨d, hd⟩ := hR H enc w n vs _ htr (hwe i hi')
      obtain ⟨b, o, spot⟩ := a
      have hspot : spot = none := by
        cases vs with
        | nil => simp at hl; omega
        | cons v0 vs =>
          have h2 := hc 0 v0 (by simp)
          have h3 := World.cell?_spot h2
          by_cases hz : i * P.cellsOf e = 0
          · rw [hz] at h3; simpa [Addr.add] using h3
          · have hz' : i * P.cellsOf e ≠ 0 := hz
            have hat0 := hat 0 (by omega)
            rw [List.getElem?_eq_getElem (by omega)] at hat0
            obtain ⟨us, hus, _⟩ := Option.bind_eq_some_iff.1 hat0
            obtain ⟨hul, huc⟩ := cells?_at hus
            cases us with
            | nil => simp at hul; omega
            | cons u0 us =>
              have h4 := World.cell?_spot (huc 0 u0 (by simp))
              simpa [Addr.add] using h4
      subst hspot
      refine ⟨b, o, vs, d, rfl, hl, fun j v hv => ?_, hd⟩
      have h2 := hc j v hv
      have hadd : ((⟨b, o, none⟩ : Addr).add (i * P.cellsOf e)).add j = ⟨b, o + i * P.cellsOf e + j, none⟩ := by
        unfold Addr.add
        split <;> split <;> simp_all
      rw [hadd] at h2
      exact h2
    have hex : ∀ m, m ≤ len → ∃ ds : List α, ds.length = m ∧ ∀ k (hk : k < ds.length), ∃ b o vs, some a = some ⟨b, o, none⟩ ∧ b ∉ ([] : List Nat) ∧ vs.length = P.cellsOf e ∧ CellsAt w b (o + k * P.cellsOf e) vs ∧ R [] w vs ds[k] := by
      intro m
      induction m with
      | zero => exact fun _ => ⟨[], rfl, fun k hk => by simp at hk⟩
      | succ m ih =>
        intro hm
        obtain ⟨ds, hl, hds⟩ := ih (by omega)
        obtain ⟨b, o, vs, d, ha, h1, h2, h3⟩ := key m (by omega)
        refine ⟨ds ++ [d], by simp [hl], fun k hk => ?_⟩
        by_cases hkm : k < ds.length
        · rw [List.getElem_append_left hkm]; exact hds k hkm
        · obtain rfl : k = m := by simp at hk; omega
          rw [List.getElem_append_right (by omega)]
          simp only [hl, Nat.sub_self, List.getElem_cons_zero]
          exact ⟨b, o, vs, by rw [ha], by simp, h1, h2, h3⟩
    obtain ⟨ds, hl, hds⟩ := hex len (Nat.le_refl _)
    refine ⟨ds, .slice (some a) len cap, rfl, ⟨some a, cap, by rw [hl], by omega, hds⟩, ?_⟩
    rw [hl, ← hel]
    exact Nat.le_trans (Nat.mul_le_mul_right _ (Nat.le_add_right _ _)) hwl
theorem weights_field {H : Type} {P : Program} {t : TypeId} {fs : Array Field} (ht : P.underlying t = some (.struct fs)) {xs : List (DataW H)} {i : Nat} {f : Field} {d : DataW H} (hf : fs[i]? = some f) (hd : xs[i]? = some d) : ∀ n, n ∈ d.weights P f.type → n ∈ (DataW.agg xs).weights P t := fun n hn => by
  simp only [DataW.weights, ht]
  exact DataW.weights_mem_each (j := i) (by simp [hf]) hd n hn
theorem opens_field {α H : Type} {P : Program} {t : TypeId} {fs : Array Field} {enc : TypeId × Value → H} {w : World} {fuel : Nat} {cs : List Value} {x : DataW H × List MemPlace} (ht : P.underlying t = some (.struct fs))
    (h : DataW.trod enc P w 0 (fun _ => true) true fuel t cs = some x) (hw : ∀ n, n ∈ x.1.weights P t → n ≤ reachBytes) (i : Nat) {f : Field} (hf : fs[i]? = some f) {R : Rel α} (hR : Opens P f.type R) : ∃ d, R [] w ((cs.drop f.offset).take (P.cellsOf f.type)) d := by
  obtain ⟨xs, n, rfl, rfl, hl, hlen, hx⟩ := DataW.trod_struct ht h
  have hi : i < xs.length := by rw [hlen]; exact (Array.getElem?_eq_some_iff.1 hf).1
  have h1 := hx i f hf
  rw [List.getElem?_eq_getElem hi] at h1
  exact hR H enc w n _ _ h1 (fun m hm => hw m (weights_field ht hf (by simp [hi]) m hm))
theorem opens_fieldN {α H : Type} {P : Program} {t T off m : Nat} {fs : Array Field} {enc : TypeId × Value → H} {w : World} {fuel : Nat} {cs : List Value} {x : DataW H × List MemPlace} (ht : P.underlying t = some (.struct fs))
    (h : DataW.trod enc P w 0 (fun _ => true) true fuel t cs = some x) (hw : ∀ n, n ∈ x.1.weights P t → n ≤ reachBytes) (i : Nat) {f : Field} (hf : fs[i]? = some f) (hT : f.type = T) (ho : f.offset = off) (hm : P.cellsOf T = m) {R : Rel α} (hR : Opens P T R) : ∃ d, R [] w ((cs.drop off).take m) d := by
  subst hT ho hm
  exact opens_field ht h hw i hf hR
theorem opens_len {H : Type} {P : Program} {t : TypeId} {fs : Array Field} {enc : TypeId × Value → H} {w : World} {fuel : Nat} {cs : List Value} {x : DataW H × List MemPlace} (ht : P.underlying t = some (.struct fs))
    (h : DataW.trod enc P w 0 (fun _ => true) true fuel t cs = some x) : cs.length = P.cellsOf t := by
  obtain ⟨_, _, _, _, hl, _⟩ := DataW.trod_struct ht h
  exact hl
end Go.W
namespace Go.W
open Go.RowKit Go.ChangeShapes
set_option linter.unusedVariables false
set_option linter.unusedSimpArgs false
def OpensF {α : Type} (F : Nat) (P : Program) (t : TypeId) (R : Rel α) : Prop :=
  ∀ (H : Type) (enc : TypeId × Value → H) (w : World) (fuel : Nat) (cs : List Value) (x : DataW H × List MemPlace), fuel ≤ F → DataW.trod enc P w 0 (fun _ => true) true fuel t cs = some x →
    (∀ n, n ∈ x.1.weights P t → n ≤ reachBytes) → ∃ d, R [] w cs d
theorem Opens.fuel {α : Type} {P : Program} {t : TypeId} {R : Rel α} (h : Opens P t R) (F : Nat) : OpensF F P t R := fun H enc w fuel cs x _ h1 h2 => h H enc w fuel cs x h1 h2
theorem OpensF.all {α : Type} {P : Program} {t : TypeId} {R : Rel α} (h : ∀ F, OpensF F P t R) : Opens P t R := fun H enc w fuel cs x h1 h2 => h fuel H enc w fuel cs x (Nat.le_refl _) h1 h2
theorem opensF_slice {α : Type} {F : Nat} {P : Program} {t e : TypeId} {R : Rel α} {sz bytes : Nat} (ht : P.underlying t = some (.slice e)) (hs : P.cellsOf e = sz) (hb : P.bytesOf e = bytes) (h0 : 0 < sz) (hR : OpensF F P e R) : OpensF F P t (RSlB sz bytes R) := by
  subst hs hb
  intro H enc w fuel cs x hfu h hw
  rcases DataW.trod_slice ht h with ⟨rfl, rfl⟩ | ⟨a, len, cap, elems, rest, n, rfl, rfl, rfl, _, hle, _, hel, hat, _, _⟩
  · exact ⟨[], .slice none 0 0, rfl, ⟨none, 0, rfl, Nat.le_refl _, fun k hk => by simp at hk⟩, by simp⟩
  · have hwl : (elems.length + rest.length) * P.bytesOf e ≤ 140737488351232 := by
      have := hw _ (by simp [DataW.weights, ht]; exact .inl rfl)
      simpa [reachBytes] using this
    have hwe : ∀ i (hi : i < elems.length) m, m ∈ (elems[i]).1.weights P e → m ≤ reachBytes := fun i hi m hm => by
      refine hw m ?_
      simp only [DataW.weights, ht, List.mem_cons, List.mem_append]
      exact .inr (.inl (weights_all (List.mem_map.2 ⟨elems[i], List.getElem_mem hi, rfl⟩) m hm))
    have key : ∀ i (hi : i < len), ∃ b o vs d, a = ⟨b, o, none⟩ ∧ vs.length = P.cellsOf e ∧ CellsAt w b (o + i * P.cellsOf e) vs ∧ R [] w vs d := by
      intro i hi
      have h1 := hat i hi
      have hi' : i < elems.length := by omega
      rw [List.getElem?_eq_getElem hi'] at h1
      obtain ⟨vs, hvs, htr⟩ := Option.bind_eq_some_iff.1 h1
      obtain ⟨hl, hc⟩ := cells?_at hvs
      obtain ⟨d, hd⟩ := hR H enc w n vs _ (by omega) htr (hwe i hi')
      obtain ⟨b, o, spot⟩ := a
      have hspot : spot = none := by
        cases vs with
        | nil => simp at hl; omega
        | cons v0 vs =>
          have h2 := hc 0 v0 (by simp)
          have h3 := World.cell?_spot h2
          by_cases hz : i * P.cellsOf e = 0
          · rw [hz] at h3; simpa [Addr.add] using h3
          · have hz' : i * P.cellsOf e ≠ 0 := hz
            have hat0 := hat 0 (by omega)
            rw [List.getElem?_eq_getElem (by omega)] at hat0
            obtain ⟨us, hus, _⟩ := Option.bind_eq_some_iff.1 hat0
            obtain ⟨hul, huc⟩ := cells?_at hus
            cases us with
            | nil => simp at hul; omega
            | cons u0 us =>
              have h4 := World.cell?_spot (huc 0 u0 (by simp))
              simpa [Addr.add] using h4
      subst hspot
      refine ⟨b, o, vs, d, rfl, hl, fun j v hv => ?_, hd⟩
      have h2 := hc j v hv
      have hadd : ((⟨b, o, none⟩ : Addr).add (i * P.cellsOf e)).add j = ⟨b, o + i * P.cellsOf e + j, none⟩ := by
        unfold Addr.add
        split <;> split <;> simp_all
      rw [hadd] at h2
      exact h2
    have hex : ∀ m, m ≤ len → ∃ ds : List α, ds.length = m ∧ ∀ k (hk : k < ds.length), ∃ b o vs, some a = some ⟨b, o, none⟩ ∧ b ∉ ([] : List Nat) ∧ vs.length = P.cellsOf e ∧ CellsAt w b (o + k * P.cellsOf e) vs ∧ R [] w vs ds[k] := by
      intro m
      induction m with
      | zero => exact fun _ => ⟨[], rfl, fun k hk => by simp at hk⟩
      | succ m ih =>
        intro hm
        obtain ⟨ds, hl, hds⟩ := ih (by omega)
        obtain ⟨b, o, vs, d, ha, h1, h2, h3⟩ := key m (by omega)
        refine ⟨ds ++ [d], by simp [hl], fun k hk => ?_⟩
        by_cases hkm : k < ds.length
        · rw [List.getElem_append_left hkm]; exact hds k hkm
        · obtain rfl : k = m := by simp at hk; omega
          rw [List.getElem_append_right (by omega)]
          simp only [hl, Nat.sub_self, List.getElem_cons_zero]
          exact ⟨b, o, vs, by rw [ha], by simp, h1, h2, h3⟩
    obtain ⟨ds, hl, hds⟩ := hex len (Nat.le_refl _)
    refine ⟨ds, .slice (some a) len cap, rfl, ⟨some a, cap, by rw [hl], by omega, hds⟩, ?_⟩
    rw [hl, ← hel]
    exact Nat.le_trans (Nat.mul_le_mul_right _ (Nat.le_add_right _ _)) hwl
theorem opensF_field {α H : Type} {F : Nat} {P : Program} {t : TypeId} {fs : Array Field} {enc : TypeId × Value → H} {w : World} {fuel : Nat} {cs : List Value} {x : DataW H × List MemPlace} (ht : P.underlying t = some (.struct fs))
    (h : DataW.trod enc P w 0 (fun _ => true) true fuel t cs = some x) (hw : ∀ n, n ∈ x.1.weights P t → n ≤ reachBytes) (i : Nat) {f : Field} (hf : fs[i]? = some f) {R : Rel α} (hfu : fuel ≤ F + 1) (hR : OpensF F P f.type R) : ∃ d, R [] w ((cs.drop f.offset).take (P.cellsOf f.type)) d := by
  obtain ⟨xs, n, rfl, rfl, hl, hlen, hx⟩ := DataW.trod_struct ht h
  have hi : i < xs.length := by rw [hlen]; exact (Array.getElem?_eq_some_iff.1 hf).1
  have h1 := hx i f hf
  rw [List.getElem?_eq_getElem hi] at h1
  exact hR H enc w n _ _ (by omega) h1 (fun m hm => hw m (weights_field ht hf (by simp [hi]) m hm))
theorem opensF_fieldN {α H : Type} {F : Nat} {P : Program} {t T off m : Nat} {fs : Array Field} {enc : TypeId × Value → H} {w : World} {fuel : Nat} {cs : List Value} {x : DataW H × List MemPlace} (ht : P.underlying t = some (.struct fs))
    (h : DataW.trod enc P w 0 (fun _ => true) true fuel t cs = some x) (hw : ∀ n, n ∈ x.1.weights P t → n ≤ reachBytes) (i : Nat) {f : Field} (hf : fs[i]? = some f) (hT : f.type = T) (ho : f.offset = off) (hm : P.cellsOf T = m) {R : Rel α} (hfu : fuel ≤ F + 1) (hR : OpensF F P T R) : ∃ d, R [] w ((cs.drop off).take m) d := by
  subst hT ho hm
  exact opensF_field ht h hw i hf hfu hR
end Go.W
namespace Go.Proofs.Ytgboffefbpligaa
open Go.Proofs
open Go.W Go.ChangeShapes Go.WideShapes Go.ChangeAt Go.RowKit
set_option linter.unusedVariables false
set_option linter.unusedSimpArgs false
set_option linter.unusedVariables false
theorem opens51 : Opens Try.prog 51 RRg := by
  intro H enc w fuel cs x h hw
  obtain ⟨a, ea, _⟩ := opens_fieldN (T := 21) (off := 0) (m := 1) Try.underlying51 h hw 0 rfl rfl rfl (by kernel_rfl) (opens_int Try.underlying21)
  obtain ⟨b, eb, _⟩ := opens_fieldN (T := 21) (off := 1) (m := 1) Try.underlying51 h hw 1 rfl rfl rfl (by kernel_rfl) (opens_int Try.underlying21)
  have hl := opens_len Try.underlying51 h
  rw [show Try.prog.cellsOf 51 = 2 from by kernel_rfl] at hl
  match cs, hl with
  | [c0, c1], _ =>
    simp at ea eb
    subst ea eb
    exact ⟨(a, b), rfl⟩
theorem opens22 : Opens Try.prog 22 (RSlB 2 8 RRg) := opens_slice Try.underlying22 (by kernel_rfl) (by kernel_rfl) (by decide) opens51
theorem openRx : ∀ F, OpensF F Try.prog 25 (RRx F)
  | 0 => fun H enc w fuel cs x hfu h hw => by
    obtain ⟨xs, n, h0, -⟩ := DataW.trod_struct Try.underlying25 h
    omega
  | F + 1 => fun H enc w fuel cs x hfu h hw => by
    have hk : OpensF F Try.prog 23 (RSlB 9 112 (RRx F)) := opensF_slice Try.underlying23 (by kernel_rfl) (by kernel_rfl) (by decide) (openRx F)
    obtain ⟨d0, e0, _⟩ := opens_fieldN (T := 3) (off := 0) (m := 1) Try.underlying25 h hw 0 rfl rfl rfl (by kernel_rfl) (opens_int Try.underlying3)
    obtain ⟨d1, e1, _⟩ := opens_fieldN (T := 21) (off := 1) (m := 1) Try.underlying25 h hw 1 rfl rfl rfl (by kernel_rfl) (opens_int Try.underlying21)
    obtain ⟨d2, v2, e2, h2, hl2⟩ := opens_fieldN (T := 22) (off := 2) (m := 1) Try.underlying25 h hw 2 rfl rfl rfl (by kernel_rfl) opens22
    obtain ⟨d3, e3, _⟩ := opens_fieldN (T := 3) (off := 3) (m := 1) Try.underlying25 h hw 3 rfl rfl rfl (by kernel_rfl) (opens_int Try.underlying3)
    obtain ⟨d4, e4, _⟩ := opens_fieldN (T := 3) (off := 4) (m := 1) Try.underlying25 h hw 4 rfl rfl rfl (by kernel_rfl) (opens_int Try.underlying3)
    obtain ⟨d5, e5⟩ := opens_fieldN (T := 4) (off := 5) (m := 1) Try.underlying25 h hw 5 rfl rfl rfl (by kernel_rfl) (opens_bool Try.underlying4)
    obtain ⟨d6, e6, _⟩ := opens_fieldN (T := 3) (off := 6) (m := 1) Try.underlying25 h hw 6 rfl rfl rfl (by kernel_rfl) (opens_int Try.underlying3)
    obtain ⟨d7, e7, hl7⟩ := opens_fieldN (T := 9) (off := 7) (m := 1) Try.underlying25 h hw 7 rfl rfl rfl (by kernel_rfl) (opens_str Try.underlying9)
    obtain ⟨d8, v8, e8, h8, hl8⟩ := opensF_fieldN (T := 23) (off := 8) (m := 1) Try.underlying25 h hw 8 rfl rfl rfl (by kernel_rfl) hfu hk
    replace e5 : (cs.drop 5).take 1 = [Value.bool d5] := e5
    have hl := opens_len Try.underlying25 h
    rw [show Try.prog.cellsOf 25 = 9 from by kernel_rfl] at hl
    match cs, hl with
    | [c0, c1, c2, c3, c4, c5, c6, c7, c8], _ =>
      simp at e0 e1 e2 e3 e4 e5 e6 e7 e8
      subst e0 e1 e2 e3 e4 e5 e6 e7 e8
      exact ⟨.mk d0 d1 d2 d3 d4 d5 d6 d7 d8, _, _, rfl, h2, h8, by show d2.length ≤ _; omega, hl7, by show d8.length ≤ _; omega⟩
theorem own : ownKnob Try.prog.godebug = none := by kernel_rfl
theorem laidOut : laidOutB Try.prog = true := by kernel_rfl
set_option maxRecDepth 100000 in
theorem lifted (os : Os) (started : os.Started) (H : Type) (enc : TypeId × Value → H) :
    ReturnsInHanded {} Try.checked os 5 .any (Rows.rxprogListedSpec.pre6 enc Try.prog Try.f5 Rows.rxprogListedRow.domain false) (Rows.rxprogListedSpec.post enc Try.prog Try.f5 false true false false) := by
  refine returnsInHanded_of_change_sized (C := Try.checked) own started (by kernel_rfl) Try.func5
    (ChangeSpec.witness6 (enc := enc) (C := Try.checked) false ⟨#[], #[.agg #[.int .i64 0, .int .i32 0, .slice none 0 0, .int .i64 0, .int .i64 0, .bool false, .int .i64 0, .string ByteArray.empty, .slice none 0 0], .string ByteArray.empty], []⟩ 8 (by kernel_rfl) (by kernel_rfl) (by kernel_rfl) (by kernel_rfl)) ?_
  intro W base args ds gs before hval0 hW hcnd hsz0 _
  have hval : ∀ (j : Nat) t v, Try.f5.params[j]? = some t → args[j]? = some v → Value.okWide Try.prog W .any base t v := hval0
  have hsz : (DataW.weightsEach Try.prog (Try.f5.params.toList ++ Rows.rxprogListedSpec.plain.varTypes Try.prog) (ds ++ gs)).all (· ≤ reachBytes) = true := hsz0
  have hW' := hW
  obtain ⟨p, q, hA0, hV, rfl, hfz, hnd⟩ := hW
  have hA : DataW.TrodAll enc Try.prog W 0 (fun _ => true) true Try.f5.params.toList args.toList ds p := hA0
  rw [Try.params5] at hA hval hsz
  obtain ⟨v0, vs0, d0, ds0, p0, q0, hargs, rfl, rfl, h0, r0⟩ := trodAll_cons hA
  obtain ⟨v1, vs1, d1, ds1, p1, q1, hargs1, rfl, rfl, h1, r1⟩ := trodAll_cons r0
  obtain ⟨rfl, rfl, rfl⟩ := trodAll_nil r1
  subst hargs1
  obtain rfl : args = #[v0, v1] := by cases args; simp_all
  obtain ⟨rfl, rfl⟩ := trodVars_none hV
  have k0 := h0
  have k1 := h1
  have lt0 : ∀ x ∈ p0, x.block < W.heap.size := by obtain ⟨m, hm⟩ := k0; exact DataW.trod_lt m _ _ _ hm
  have lt1 : ∀ x ∈ p1, x.block < W.heap.size := by obtain ⟨m, hm⟩ := k1; exact DataW.trod_lt m _ _ _ hm
  obtain ⟨fuel, hf⟩ := h0
  obtain ⟨fuel1, hf1⟩ := h1
  have hwt : ∀ n, n ∈ d0.weights Try.prog 25 → n ≤ reachBytes := fun n hn => by
    have := List.all_eq_true.1 hsz n (DataW.weights_mem_each (j := 0) rfl rfl n hn)
    simpa using this
  have hwt1 : ∀ n, n ∈ d1.weights Try.prog 9 → n ≤ reachBytes := fun n hn => by
    have := List.all_eq_true.1 hsz n (DataW.weights_mem_each (j := 1) rfl rfl n hn)
    simpa using this
  obtain ⟨pr, hpr⟩ := openRx fuel H enc W fuel _ _ (Nat.le_refl _) hf hwt
  obtain ⟨s, hse, hss⟩ := opens_str Try.underlying9 H enc W fuel1 _ _ hf1 hwt1
  have hv0 : v0 = .agg v0.cells.toList.toArray := by
    obtain ⟨m, ra, rc, ka, kc, -, hcs, -⟩ := hpr.get
    cases v0 <;> simp [Value.cells] at hcs ⊢
  obtain ⟨s1, rfl⟩ := okWide_string Try.underlying9 (hval 1 9 _ rfl rfl)
  have hse2 : [Value.string s1] = [Value.string s] := hse
  cases hse2
  rw [hv0]
  refine (listed_law hpr hss).mono fun e W' ⟨v, he, hv, bel⟩ => ?_
  subst he hv
  rw [← hv0]
  exact ⟨_, rfl, _, _, _, [], _, [], hW', trodAll_mk1 (shut_bool Try.underlying4 _), (trodAll_cons_mk (Below.trod laidOut (by kernel_rfl) (of_decide_eq_true (by kernel_rfl)) k0 bel.below lt0) (trodAll_cons_mk (Below.trod laidOut (by kernel_rfl) (of_decide_eq_true (by kernel_rfl)) k1 bel.below lt1) trodAll_mk0)), rfl, bel.below.frame _, fun h => by cases h⟩
theorem over : Rows.rxprogListedRow.holds Try.pinned (OpenSpec.ofChange Rows.rxprogListedSpec) :=
  OpenClaim.holds_of_wide 5 Try.f5 rfl rfl rfl rfl rfl rfl rfl ⟨rfl, rfl, rfl, rfl, rfl⟩ rfl rfl rfl rfl rfl (by kernel_rfl) Try.func5 (by kernel_rfl)
    (of_decide_eq_true (by kernel_rfl)) (by unfold Func.isWrapper; first | (rw [if_pos (by decide +kernel)]; kernel_rfl) | (rw [if_neg (by decide +kernel)]; exact ⟨rfl, rfl⟩))
    (fun os started H enc _ => lifted os started H enc)
theorem rxprogListed_holds : Rows.RxprogListedSaid := over
#print axioms rxprogListed_holds
end Go.Proofs.Ytgboffefbpligaa
