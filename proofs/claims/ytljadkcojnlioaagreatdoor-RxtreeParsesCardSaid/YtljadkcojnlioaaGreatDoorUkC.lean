/- Parses: part 3 of 7 of what the law rests on. -/
import Derived.Test.YtljadkcojnlioaaGreatDoorUkB
set_option linter.unusedSectionVars false
set_option linter.unusedSimpArgs false
set_option linter.unusedVariables false
namespace Go.Proofs.YtljadkcojnlioaaGreatDoor
open Go.RowKit Go.W
attribute [local irreducible] Decidable.decide
theorem GI : dW Tryz.prog 135 := ⟨_, Tryz.func135, by kernel_rfl, by kernel_rfl⟩
theorem GA : dW Tryz.prog 149 := ⟨_, Tryz.func149, by kernel_rfl, by kernel_rfl⟩
theorem qE : dW Tryz.prog 41 := ⟨_, Tryz.func41, by kernel_rfl, by kernel_rfl⟩
def Bd (s : ByteArray) (i : Nat) : Prop := ∃ N k, Utf s N ∧ k ≤ N ∧ aU s k = i
theorem Bd.le {s : ByteArray} {i : Nat} (h : Bd s i) : i ≤ s.size := by obtain ⟨N, k, _, _, rfl⟩ := h; exact jF s k
theorem Bd.zero {s : ByteArray} {N : Nat} (h : Utf s N) : Bd s 0 := ⟨N, 0, h, Nat.zero_le _, rfl⟩
theorem Bd.next {s : ByteArray} {i : Nat} (h : Bd s i) (hi : i < s.size) : 0 < (cL s i).2 ∧ i + (cL s i).2 ≤ s.size ∧ Bd s (i + (cL s i).2) ∧ 0 ≤ (cL s i).1 ∧ (cL s i).1 ≤ 1114111 := by
  obtain ⟨N, k, hU, hk, rfl⟩ := h
  have hkN : k < N := by
    rcases Nat.lt_or_ge k N with h | h
    · exact h
    · obtain rfl : k = N := by omega
      rw [hU.1] at hi; omega
  have h0 := hU.2 k hkN
  have h1 : Bd s (aU s k + (cL s (aU s k)).2) := ⟨N, k + 1, hU, hkN, rfl⟩
  rcases tV s (aU s k) with h2 | h2
  · rw [h2] at h0; cases h0
  · exact ⟨h0, h1.le, h1, h2.1, h2.2.1⟩
theorem Bd.asc {s : ByteArray} {i : Nat} (h : Bd s i) (hi : i < s.size) (hb : sb s i < 128) : Bd s (i + 1) ∧ (cL s i).1 = (sb s i : Int) ∧ (cL s i).2 = 1 := by
  obtain ⟨h0, h1, h2, h3, h4⟩ := h.next hi
  obtain ⟨h5, h6, h7, h8⟩ := tA h0
  by_cases hc : (cL s i).1 < 128
  · obtain ⟨h9, h10⟩ := h6 hc
    rw [h9] at h2
    exact ⟨h2, h10.symm, h9⟩
  · have := h7 (by omega); omega
theorem isB.asc {s : ByteArray} {i b : Nat} (h : isB s i b) (hb : b < 128) (hd : Bd s i) : Bd s (i + 1) := (hd.asc h.1 (by rw [h.2]; exact hb)).1
theorem yK {w : World} {b : Nat} {s : ByteArray} {st : PS} {a : Option Addr} {c : Nat} {ob : Option Nat} (hR : RdAt w b s st a c ob) (hs : s.size ≤ 1000000) (hb : Bd s st.pos) :
    Calls Tryz.prog 112 #[.pointer (some ⟨b, 0, none⟩)] w (Ret fun v w' => v = .int .i32 (cL s st.pos).1 ∧ Evo [b] w w' ∧ RdAt w' b s (adv st (cL s st.pos).2) a c ob) := by
  have hap := hR.ap; have hle := hb.le
  have hnx : st.pos + (cL s st.pos).2 ≤ s.size + 4 := by rcases tV s st.pos with h | h; rw [h]; (show st.pos + 0 ≤ s.size + 4; omega); omega
  refine bE (N := 26) Tryz.func112 rfl rfl rfl ?_; refine csr (wan (aM ?_)); refine fR (fun w0 w' => Evo [] w0 w') (by kernel_rfl) (fun w1 F => ?_); have E := F.blk0 hR.blk; refine aet 0 rfl (fun _ hS => bC rfl) (Evo.refl [] w1) ?_; refine aet 1 rfl (fun _ hS => aH rfl) (Evo.refl [] w1) ?_; refine aet 2 rfl (fun _ hS => aD rfl eA) (Evo.refl [] w1) ?_; refine aet 3 rfl (fun _ hS => aX rfl dG (bI (hS.blk0 E) rfl)) (Evo.refl [] w1) ?_; refine aet 4 rfl (fun _ hS => bC rfl) (Evo.refl [] w1) ?_; refine aet 5 rfl (fun _ hS => aH rfl) (Evo.refl [] w1) ?_; refine aet 6 rfl (fun _ hS => aD rfl bP) (Evo.refl [] w1) ?_; refine aet 7 rfl (fun _ hS => aX rfl bD (bI (hS.blk0 E) rfl)) (Evo.refl [] w1) ?_; refine cA [8] (by kernel_rfl) rfl ⟨?_, trivial⟩; refine cG rfl ?_; refine aG (vs := [_, _]) GI rfl (next_ok s st.pos hle (by omega)) rfl ?_; rintro _ w6 ⟨rfl, D⟩; have B := (Evo.refl [] w1).then D; refine aR (bV (.inl B) ?_); refine aet 9 rfl (fun _ hS => bC rfl) B ?_
  refine aet 10 rfl (fun _ hS => cC rfl rfl) B ?_; refine aet 11 rfl (fun _ hS => cC rfl rfl) B ?_; refine aet 12 rfl (fun _ hS => cR rfl) B ?_; refine aet 13 rfl (fun _ hS => cR rfl) B ?_; refine dB (by kernel_rfl) (aC ?_); refine csr (aA (aB (aH rfl) (wfl rfl bP rfl bD (D.blk0 E) rfl (aA ?_)))); refine aB (aI rfl rfl (by omega) (by omega)) ?_; refine aB (aH rfl) (aB (aD rfl bP) (bJ rfl rfl (rfl) bY (D.blk0 E) rfl fun I G H => ?_))
  try simp only [cH, Nat.reduceAdd] at G
  refine wnn (csr (aA (wan (aK (br1 ?_))))); exact ⟨rfl, ((((Evo.refl [b] w).then F).then D).step H (fun y hy => .inl hy)), G, (((hR.own.evo0 F).evo0 D).evo H hap.symm.own1), hR.ne⟩
theorem hexD_lo {c d : Nat} (h : nS c = some d) : c < 128 ∧ d < 16 := by
  unfold nS at h
  split at h
  · cases h; omega
  · split at h
    · cases h; omega
    · split at h
      · cases h; omega
      · cases h
theorem yO {s : ByteArray} {i d j : Nat} (h : gL s i = .ok (d, j)) (hb : Bd s i) : Bd s j ∧ j = i + 1 ∧ d < 16 := by
  unfold gL at h
  split at h
  · rename_i hi
    split at h
    · rename_i d' hd
      cases h
      obtain ⟨h1, h2⟩ := hexD_lo hd
      exact ⟨(hb.asc hi h1).1, rfl, h2⟩
    · cases h
  · cases h
theorem NI {s : ByteArray} : ∀ {f n i m j : Nat}, kG s f n i = .ok (m, j) → Bd s i → n ≤ 1114111 → Bd s j ∧ i < j ∧ m ≤ 1114111
  | 0, n, i, m, j, h, _, _ => by cases h
  | f + 1, n, i, m, j, h, hb, hn => by
    rw [kG] at h
    split at h
    · rename_i hi
      cases h
      exact ⟨hi.asc (by decide) hb, by omega, hn⟩
    · split at h
      · cases h
      · rename_i d k hd
        obtain ⟨h1, h2, h3⟩ := yO hd hb
        split at h
        · cases h
        · obtain ⟨h4, h5, h6⟩ := NI h h1 (by omega)
          exact ⟨h4, by omega, h6⟩
theorem pHex_b {s : ByteArray} {i m j : Nat} (h : kT s i = .ok (m, j)) (hb : Bd s i) : Bd s j ∧ i < j ∧ m ≤ 1114111 := by
  unfold kT at h
  split at h
  · rename_i hi
    split at h
    · cases h
    · rename_i d k hd
      obtain ⟨h1, h2, h3⟩ := yO hd (hi.asc (by decide) hb)
      obtain ⟨h4, h5, h6⟩ := NI h h1 (by omega)
      exact ⟨h4, by omega, h6⟩
  · split at h
    · cases h
    · rename_i d k hd
      obtain ⟨h1, h2, h3⟩ := yO hd hb
      split at h
      · cases h
      · rename_i e q he
        cases h
        obtain ⟨h4, h5, h6⟩ := yO he h1
        exact ⟨h4, by omega, by omega⟩
def IV (c : Nat) : Int := if c = 97 then 0 else if c = 102 then 1 else if c = 116 then 2 else if c = 110 then 3 else if c = 114 then 4 else if c = 118 then 5 else -1
def escT : ByteArray := ByteArray.mk #[7, 12, 9, 10, 13, 11]
theorem WN {c : Nat} (h : 0 ≤ IV c) : ∃ k, IV c = ((k : Nat) : Int) ∧ k < escT.size ∧ uA c = some (sb escT k) ∧ sb escT k < 128 := by
  unfold IV at *
  unfold uA
  by_cases h1 : c = 97
  · subst h1; exact ⟨0, rfl, by decide, rfl, by decide⟩
  · by_cases h2 : c = 102
    · subst h2; exact ⟨1, rfl, by decide, rfl, by decide⟩
    · by_cases h3 : c = 116
      · subst h3; exact ⟨2, rfl, by decide, rfl, by decide⟩
      · by_cases h4 : c = 110
        · subst h4; exact ⟨3, rfl, by decide, rfl, by decide⟩
        · by_cases h5 : c = 114
          · subst h5; exact ⟨4, rfl, by decide, rfl, by decide⟩
          · by_cases h6 : c = 118
            · subst h6; exact ⟨5, rfl, by decide, rfl, by decide⟩
            · rw [if_neg h1, if_neg h2, if_neg h3, if_neg h4, if_neg h5, if_neg h6] at h; omega
theorem escI_no {c : Nat} (h : ¬ 0 ≤ IV c) : uA c = none := by
  unfold IV at h
  unfold uA
  by_cases h1 : c = 97
  · subst h1; exact (h (by decide)).elim
  · by_cases h2 : c = 102
    · subst h2; exact (h (by decide)).elim
    · by_cases h3 : c = 116
      · subst h3; exact (h (by decide)).elim
      · by_cases h4 : c = 110
        · subst h4; exact (h (by decide)).elim
        · by_cases h5 : c = 114
          · subst h5; exact (h (by decide)).elim
          · by_cases h6 : c = 118
            · subst h6; exact (h (by decide)).elim
            · rw [if_neg h1, if_neg h2, if_neg h3, if_neg h4, if_neg h5, if_neg h6]
theorem escIdx (c : Nat) (hc : c < 256) : Go.Lib.indexByte [97, 102, 116, 110, 114, 118] ((c : Int)).toNat.toUInt8 = IV c := by
  have h : ∀ c : Fin 256, Go.Lib.indexByte [97, 102, 116, 110, 114, 118] ((c.1 : Int)).toNat.toUInt8 = IV c.1 := by decide +kernel
  exact h ⟨c, hc⟩
theorem QO {w : World} (c : Nat) (hc : c < 256) : Calls Tryz.prog 41 #[.string (ByteArray.mk #[97, 102, 116, 110, 114, 118]), .int .u8 (c : Nat)] w (Ret fun v w' => v = iv (IV c) ∧ Evo [] w w') := by
  refine (kN _ _ w).mono ?_
  rintro e w' ⟨rfl, rfl⟩
  exact ⟨_, rfl, congrArg iv (escIdx c hc), Evo.refl _ _⟩
theorem uN {s : ByteArray} {i : Nat} (h : s.size ≤ i + 1) : lN s i = .error 83 := by unfold lN; rw [if_pos h]
theorem TU {s : ByteArray} {i v : Nat} (h : ¬ s.size ≤ i + 1) (h2 : uA (sb s (i + 1)) = some v) : lN s i = .ok (v, i + 2) := by unfold lN; rw [if_neg h, h2]
theorem LG {s : ByteArray} {i : Nat} (h : ¬ s.size ≤ i + 1) (h2 : sb s (i + 1) = 120) : lN s i = kT s (i + 2) := by
  unfold lN; rw [if_neg h, h2, show uA 120 = none from rfl]; rfl
theorem uO {s : ByteArray} {i : Nat} (h : ¬ s.size ≤ i + 1) (h2 : uA (sb s (i + 1)) = none) (h3 : sb s (i + 1) ≠ 120) (h4 : 128 ≤ sb s (i + 1) ∨ (iH (sb s (i + 1)) ∧ sb s (i + 1) ≠ 95)) : lN s i = .error 83 := by
  unfold lN; rw [if_neg h, h2]; show (if sb s (i + 1) = 120 then _ else _) = _; rw [if_neg h3, if_pos h4]
theorem EJ {s : ByteArray} {i : Nat} (h : ¬ s.size ≤ i + 1) (h2 : uA (sb s (i + 1)) = none) (h3 : sb s (i + 1) ≠ 120) (h4 : ¬ (128 ≤ sb s (i + 1) ∨ (iH (sb s (i + 1)) ∧ sb s (i + 1) ≠ 95))) : lN s i = .ok (sb s (i + 1), i + 2) := by
  unfold lN; rw [if_neg h, h2]; show (if sb s (i + 1) = 120 then _ else _) = _; rw [if_neg h3, if_neg h4]
theorem OR {c v : Nat} (h : uA c = some v) : c < 128 := by
  unfold uA at h
  by_cases h1 : c < 128
  · exact h1
  · rw [if_neg (by omega), if_neg (by omega), if_neg (by omega), if_neg (by omega), if_neg (by omega), if_neg (by omega)] at h; cases h
theorem TV {s : ByteArray} {i n j : Nat} (h : lN s i = .ok (n, j)) (hb : Bd s i) (h0 : sb s i = 92) : Bd s j ∧ i < j ∧ n ≤ 1114111 := by
  have hi : i < s.size := by
    rcases Nat.lt_or_ge i s.size with h1 | h1
    · exact h1
    · rw [uN (by omega)] at h; cases h
  have hb1 := (hb.asc hi (by omega)).1
  unfold lN at h
  split at h
  · cases h
  · rename_i h1
    split at h
    · rename_i v hv
      cases h
      have hv2 : n < 128 := by
        unfold uA at hv
        split at hv
        · cases hv; omega
        · split at hv
          · cases hv; omega
          · split at hv
            · cases hv; omega
            · split at hv
              · cases hv; omega
              · split at hv
                · cases hv; omega
                · split at hv
                  · cases hv; omega
                  · cases hv
      exact ⟨(hb1.asc (by omega) (OR hv)).1, by omega, by omega⟩
    · split at h
      · rename_i hx
        obtain ⟨h2, h3, h4⟩ := pHex_b h ((hb1.asc (by omega) (by omega)).1)
        exact ⟨h2, by omega, h4⟩
      · split at h
        · cases h
        · rename_i h5
          cases h
          exact ⟨(hb1.asc (by omega) (by omega)).1, by omega, by omega⟩
theorem AU {w : World} {b : Nat} {s : ByteArray} {st : PS} {a : Option Addr} {c : Nat} {ob : Option Nat} (hR : RdAt w b s st a c ob) (hs : s.size ≤ 1000000) (hlt : st.pos < s.size) :
    Calls Tryz.prog 134 #[.pointer (some ⟨b, 0, none⟩)] w (RetP (fun v w' => ∃ n j, lN s st.pos = .ok (n, j) ∧ v = .int .i32 (n : Nat) ∧ Evo [b] w w' ∧ RdAt w' b s (jY st j) a c ob) (fun v w' => lN s st.pos = .error 83 ∧ v = flt 83 ∧ Evo [b] w w')) := by
  have hap := hR.ap; have hb9 := iC s (st.pos + 1); refine bE (N := 63) Tryz.func134 rfl rfl rfl ?_; refine csr (wan (csr (aA (aB (aH rfl) (wfl rfl bP rfl bD hR.blk rfl ?_))))); refine aB (aI rfl rfl (by omega) (by omega)) ?_; refine aB (aH rfl) (aB (aD rfl bP) (bJ rfl rfl (rfl) bY hR.blk rfl fun w1 U a1 => ?_))
  try simp only [cH, Nat.reduceAdd] at U
  refine wnn (aM (aM ?_)); refine eK (by kernel_rfl) (by kernel_rfl) ?_; refine bG (fun _ D => bC rfl) ?_; refine bG (fun _ D => aH rfl) ?_; refine bG (fun _ D => aD rfl bP) ?_; refine bG (fun _ D => aX rfl bD (bI (D.blk0 U) rfl)) ?_; refine bG (fun _ D => bC rfl) ?_; refine bG (fun _ D => aH rfl) ?_; refine bG (fun _ D => aD rfl eA) ?_; refine bG (fun _ D => aX rfl dG (bI (D.blk0 U) rfl)) ?_; refine bG (fun _ D => cQ rfl Tryz.underlying9 rfl) ?_; refine bG (fun _ D => kK rfl rfl) ?_; refine eN (fun a9 D => aC ?_); have a2 := ((Evo.refl [b] w).step a1 (fun y hy => .inl hy)).then D; have V := D.blk0 U; refine aZ rfl (fun a3 => ?_) (fun a3 => ?_)
  ·refine aF (cT (vs := [_]) dJ rfl (fU 83) rfl ?_ ?_)
   ·intro pv wp hpp; obtain ⟨rfl, hpw⟩ := hpp; exact And.intro rfl ⟨_, rfl, uN (by omega), rfl, (a2).then hpw⟩
   intro _ _ hF; exact hF.elim
  have hlt2 : st.pos + 1 < s.size := by omega
  have hle2 : ¬ s.size ≤ st.pos + 1 := by omega
  refine aN (aC (aM ?_)); refine eK (by kernel_rfl) (by kernel_rfl) ?_; refine bG (fun _ B => bC rfl) ?_; refine bG (fun _ B => aH rfl) ?_; refine bG (fun _ B => aD rfl eA) ?_; refine bG (fun _ B => aX rfl dG (bI (B.blk0 V) rfl)) ?_; refine bG (fun _ B => bC rfl) ?_; refine bG (fun _ B => aH rfl) ?_; refine bG (fun _ B => aD rfl bP) ?_; refine bG (fun _ B => aX rfl bD (bI (B.blk0 V) rfl)) ?_; refine bG (fun _ B => fN (n := st.pos + 1) rfl rfl Tryz.underlying9 rfl hlt2) ?_; refine bG (fun _ B => cR rfl) ?_; refine eN (fun a8 B => aC ?_); refine csr (aA (aB (aH rfl) (wfl rfl bP rfl bD (B.blk0 V) rfl ?_))); refine aB (aI rfl rfl (by omega) (by omega)) ?_; refine aB (aH rfl) (aB (aD rfl bP) (bJ rfl rfl (rfl) bY (B.blk0 V) rfl fun b4 W Y => ?_))
  try simp only [cH, Nat.reduceAdd] at W
  refine wnn (aM (csr (aA (aG (vs := [_, _]) qE rfl (QO (sb s (st.pos + 1)) hb9) rfl ?_)))); rintro _ b5 ⟨rfl, G⟩; have E := ((a2.then B).step Y (fun y hy => .inl hy)).then G; have H := G.blk0 W; have I := ((((hR.own.evo a1 hap.symm.own1).evo0 D).evo0 B).evo Y hap.symm.own1).evo0 G; refine wan (csr (aA (aB (dQ rfl rfl) ?_))); refine wnn (aZ rfl (fun J => ?_) (fun J => ?_))
  ·obtain ⟨k, hk1, hk2, hk3, hk4⟩ := WN J; refine csr (aA (aB (fN (s := escT) (n := k) rfl rfl Tryz.underlying9 hk1 hk2) ?_)); refine aB (fM rfl Tryz.underlying5 Tryz.underlying21 (uX (by omega) (by omega)).1 (uX (by omega) (by omega)).2) ?_; refine wan (aK (aE (cU (br1 ?_)))); exact ⟨_, _, TU hle2 hk3, rfl, E, ⟨H, I, hR.ne⟩⟩
  have hno := escI_no J; refine aN (aC (aM (csr (aA (wel ?_))))); refine wnn (aZ rfl (fun a4 => ?_) (fun a4 => ?_))
  ·refine csr (aA (cT (vs := [_]) GA rfl (hex_ok (st := jY st (st.pos + 1 + 1)) ⟨H, I, hR.ne⟩ hs) rfl ?_ ?_))
   ·intro pv wp hpp; obtain ⟨hpe, rfl, hpw⟩ := hpp; exact And.intro rfl ⟨_, rfl, (LG hle2 (by omega)).trans hpe, rfl, (E).step hpw (fun y hy => .inl hy)⟩
   rintro _ b6 ⟨n, j, hx, rfl, a5, a7⟩; refine wan (aK (aE (cU (br1 ?_)))); exact ⟨_, _, (LG hle2 (by omega)).trans hx, rfl, (E.step a5 (fun y hy => .inl hy)), a7⟩
  have hnx : sb s (st.pos + 1) ≠ 120 := by omega
  refine aN (aC (aM (csr (aA (aB (dQ rfl rfl) ?_))))); refine aA (bH (t := 52) rfl (fun a6 => ?_) (fun a6 => ?_))
  ·refine aP (aP (aP (eS ?_))); refine eS ?_; refine aP (bW (wnn (cZ rfl ?_))); refine aF (cT (vs := [_]) dJ rfl (fU 83) rfl ?_ ?_)
   ·intro pv wp hpp; obtain ⟨rfl, hpw⟩ := hpp; exact And.intro rfl ⟨_, rfl, uO hle2 hno hnx (by omega), rfl, (E).then hpw⟩
   intro _ _ hF; exact hF.elim
  refine aW (aA (aW (aG (vs := [_]) oT rfl (yH (sb s (st.pos + 1))) rfl ?_))); rintro _ b7 ⟨rfl, L⟩; have M := E.then L; have Z := L.blk0 H; have a0 := I.evo0 L; refine aW (aA (bH (t := 55) rfl (fun F => ?_) (fun F => ?_)))
  ·refine aW (aA (aW (aB (fE rfl rfl) ?_))); refine aW (bW (bR (wnn (aZ rfl (fun O => ?_) (fun O => ?_)))))
   ·refine aF (cT (vs := [_]) dJ rfl (fU 83) rfl ?_ ?_)
    ·intro pv wp hpp; obtain ⟨rfl, hpw⟩ := hpp
     exact And.intro rfl ⟨_, rfl, uO hle2 hno hnx (by right; exact ⟨F, by omega⟩), rfl, (M).then hpw⟩
    intro _ _ hF; exact hF.elim
   refine aN (aC (csr (aA ?_))); refine aB (fM rfl Tryz.underlying5 Tryz.underlying21 (uX (by omega) (by omega)).1 (uX (by omega) (by omega)).2) ?_; refine wan (aK (cU (br1 ?_)))
   exact ⟨_, _, EJ hle2 hno hnx (by rintro (h1 | ⟨h1, h2⟩); omega; first | exact F h1 | (exact O (by omega))), rfl, M, ⟨Z, a0, hR.ne⟩⟩
  refine aP (aP (aW (bR (bR (wnn (cF rfl ?_)))))); refine aN (aC (csr (aA ?_))); refine aB (fM rfl Tryz.underlying5 Tryz.underlying21 (uX (by omega) (by omega)).1 (uX (by omega) (by omega)).2) ?_; refine wan (aK (cU (br1 ?_)))
  exact ⟨_, _, EJ hle2 hno hnx (by rintro (h1 | ⟨h1, h2⟩); omega; first | exact F h1 | (exact O (by omega))), rfl, M, ⟨Z, a0, hR.ne⟩⟩
end Go.Proofs.YtljadkcojnlioaaGreatDoor
namespace Go.Proofs.YtljadkcojnlioaaGreatDoor
open Go.RowKit Go.W
theorem gF {s : ByteArray} {a b : Nat} (h : b ≤ s.size) : (s.extract a b).size = b - a := by rw [ByteArray.size_extract]; omega
theorem IZ (s : ByteArray) (j : Nat) : (s.extract j s.size).data.toList = s.data.toList.drop j := by
  rw [ByteArray.data_extract]
  have : s.size = s.data.size := rfl
  rw [this]
  simp only [Array.toList_extract, List.extract]
  exact List.take_of_length_le (by simp)
theorem MV (s : ByteArray) {n : Nat} (h : n < s.size) : s.data.toList[n]? = some (UInt8.ofNat (sb s n)) := by
  have h' : n < s.data.size := h
  rw [Array.getElem?_toList, Array.getElem?_eq_getElem h', tQ s n h]
  show some s.data[n] = some (UInt8.ofNat (s.data[n]).toNat)
  rw [UInt8.ofNat_toNat]
def Occ (s : ByteArray) (a b k : Nat) : Prop := k + 1 < s.size ∧ sb s k = a ∧ sb s (k + 1) = b
instance (s : ByteArray) (a b k : Nat) : Decidable (Occ s a b k) := by unfold Occ; infer_instance
theorem RR {a b : Nat} (ha : a < 256) (hb : b < 256) (h : UInt8.ofNat a = UInt8.ofNat b) : a = b := by
  have := congrArg UInt8.toNat h
  rw [UInt8.toNat_ofNat', UInt8.toNat_ofNat'] at this
  omega
theorem LN {s : ByteArray} {a b j i : Nat} (ha : a < 256) (hb : b < 256) (hj : j ≤ s.size) : Go.Lib.occAt (s.extract j s.size).data.toList [UInt8.ofNat a, UInt8.ofNat b] i = decide (Occ s a b (j + i)) := by
  unfold Go.Lib.occAt
  rw [IZ, List.drop_drop]
  have hlen : s.data.toList.length = s.size := by simp
  by_cases h : j + i + 1 < s.size
  · have e : s.data.toList.drop (j + i) = UInt8.ofNat (sb s (j + i)) :: UInt8.ofNat (sb s (j + i + 1)) :: s.data.toList.drop (j + i + 2) := by
      have h0 := MV s (n := j + i) (by omega)
      have h1 := MV s (n := j + i + 1) h
      obtain ⟨h2, h3⟩ := List.getElem?_eq_some_iff.1 h0
      obtain ⟨h4, h5⟩ := List.getElem?_eq_some_iff.1 h1
      rw [List.drop_eq_getElem_cons h2, List.drop_eq_getElem_cons h4, h3, h5]
    rw [e]
    have l1 := iC s (j + i)
    have l2 := iC s (j + i + 1)
    simp only [List.isPrefixOf, Bool.and_true]
    rw [Bool.eq_iff_iff]
    simp only [Bool.and_eq_true, beq_iff_eq, decide_eq_true_eq]
    unfold Occ
    constructor
    · rintro ⟨h6, h7⟩; exact ⟨h, (RR ha l1 h6).symm, (RR hb l2 h7).symm⟩
    · rintro ⟨-, h6, h7⟩; rw [h6, h7]; exact ⟨rfl, rfl⟩
  · rw [decide_eq_false (fun h2 => h h2.1)]
    have hl : (s.data.toList.drop (j + i)).length < 2 := by rw [List.length_drop, hlen]; omega
    match s.data.toList.drop (j + i), hl with
    | [], _ => rfl
    | [x], _ => simp [List.isPrefixOf]
theorem lU (s : ByteArray) (a b : Nat) : ∀ (f j : Nat), s.size ≤ j + f → (∀ k, jL s a b f j = some k → j ≤ k ∧ Occ s a b k ∧ ∀ m, j ≤ m → m < k → ¬ Occ s a b m) ∧ (jL s a b f j = none → ∀ m, j ≤ m → ¬ Occ s a b m)
  | 0, j, hf => ⟨(fun k h => by cases h), fun _ m hm ho => by have := ho.1; omega⟩
  | f + 1, j, hf => by
    obtain ⟨i1, i2⟩ := lU s a b f (j + 1) (by omega)
    rw [jL]
    by_cases h : j + 1 < s.size ∧ sb s j = a ∧ sb s (j + 1) = b
    · rw [if_pos h]
      exact ⟨fun k hk => by cases hk; exact ⟨Nat.le_refl _, h, fun m h1 h2 => by omega⟩, fun h2 => by cases h2⟩
    · rw [if_neg h]
      refine ⟨fun k hk => ?_, fun hk m hm ho => ?_⟩
      · obtain ⟨h1, h2, h3⟩ := i1 k hk
        exact ⟨by omega, h2, fun m h4 h5 ho => by
          rcases Nat.eq_or_lt_of_le h4 with e | e
          · subst e; exact h ho
          · exact h3 m e h5 ho⟩
      · rcases Nat.eq_or_lt_of_le hm with e | e
        · subst e; exact h ho
        · exact i2 hk m e ho
def IN (s : ByteArray) (a b j : Nat) : Int := match jL s a b s.size j with | none => -1 | some k => (k : Int) - j
theorem idx_two {s : ByteArray} {a b j : Nat} (ha : a < 256) (hb : b < 256) (hj : j ≤ s.size) : Go.Lib.index (s.extract j s.size).data.toList [UInt8.ofNat a, UInt8.ofNat b] = IN s a b j := by
  obtain ⟨h1, h2⟩ := lU s a b s.size j (by omega)
  have hlen : (s.extract j s.size).data.toList.length = s.size - j := by rw [IZ, List.length_drop]; simp
  unfold IN
  cases h : jL s a b s.size j with
  | none =>
    refine Go.Lib.index_none fun i _ => ?_
    rw [LN ha hb hj]
    exact decide_eq_false (h2 h _ (by omega))
  | some k =>
    obtain ⟨h3, h4, h5⟩ := h1 k h
    have e : (k : Int) - j = ((k - j : Nat) : Int) := by omega
    show _ = (k : Int) - j
    rw [e]
    refine Go.Lib.index_first (by rw [hlen]; have := h4.1; omega) ?_ fun i hi => ?_
    · rw [LN ha hb hj, show j + (k - j) = k by omega]; exact decide_eq_true h4
    · rw [LN ha hb hj]; exact decide_eq_false (h5 _ (by omega) (by omega))
theorem BB {s t : ByteArray} (h : s.size = t.size) (h2 : ∀ k, k < s.size → sb s k = sb t k) : s = t := by
  apply ByteArray.ext
  apply Array.ext h
  intro i h3 h4
  have h5 := h2 i h3
  rw [tQ s i h3, tQ t i h4] at h5
  have : (s.data[i]).toNat = (t.data[i]).toNat := h5
  exact UInt8.toNat_inj.1 this
theorem yM {t p : ByteArray} {i : Nat} (hi : i ≤ t.size) : (p.size ≤ (t.extract i t.size).size ∧ (t.extract i t.size).extract 0 p.size = p) ↔ ∀ k, k < p.size → isB t (i + k) (sb p k) := by
  have hs := gF (s := t) (a := i) (Nat.le_refl t.size)
  constructor
  · rintro ⟨h1, h2⟩ k hk
    refine ⟨by omega, ?_⟩
    have e : sb ((t.extract i t.size).extract 0 p.size) k = sb p k := by rw [h2]
    rw [fP h1 (by omega), Nat.zero_add, fP (Nat.le_refl _) (by omega)] at e
    exact e
  · intro h
    have h1 : p.size ≤ (t.extract i t.size).size := by
      rcases Nat.eq_zero_or_pos p.size with h0 | h0
      · omega
      · have := (h (p.size - 1) (by omega)).1; omega
    refine ⟨h1, BB (by rw [gF h1]; omega) fun k hk => ?_⟩
    rw [gF h1] at hk
    rw [fP h1 (by omega), Nat.zero_add, fP (Nat.le_refl _) (by omega)]
    exact (h k (by omega)).2
end Go.Proofs.YtljadkcojnlioaaGreatDoor
namespace Go.Proofs.YtljadkcojnlioaaGreatDoor
open Go.RowKit Go.W
attribute [local irreducible] Decidable.decide
theorem oV : dW Tryz.prog 112 := ⟨_, Tryz.func112, by kernel_rfl, by kernel_rfl⟩
theorem vR : dW Tryz.prog 134 := ⟨_, Tryz.func134, by kernel_rfl, by kernel_rfl⟩
theorem vL : dW Tryz.prog 158 := ⟨_, Tryz.func158, by kernel_rfl, by kernel_rfl⟩
theorem FX : dW Tryz.prog 160 := ⟨_, Tryz.func160, by kernel_rfl, by kernel_rfl⟩
theorem WC {s : ByteArray} {i k : Nat} (h : i ≤ s.size) : (s.extract i s.size).extract k (s.extract i s.size).size = s.extract (i + k) s.size := by
  have hs := gF (s := s) (a := i) (Nat.le_refl s.size)
  rcases Nat.lt_or_ge s.size (i + k) with hk | hk
  · apply BB
    · rw [gF (Nat.le_refl _), gF (Nat.le_refl _), gF (Nat.le_refl _)]; omega
    · intro j hj; rw [gF (Nat.le_refl _), hs] at hj; omega
  · apply BB
    · rw [gF (Nat.le_refl _), gF (Nat.le_refl _), gF (Nat.le_refl _)]; omega
    · intro j hj
      rw [gF (Nat.le_refl _), hs] at hj
      rw [fP (Nat.le_refl _) (by rw [hs]; omega), fP (Nat.le_refl _) (by omega), fP (Nat.le_refl _) (by omega), Nat.add_assoc]
theorem AS {s : ByteArray} {i k m : Nat} (h : i + m ≤ s.size) (hk : k ≤ m) : (s.extract i s.size).extract k m = s.extract (i + k) (i + m) := by
  have hs := gF (s := s) (a := i) (Nat.le_refl s.size)
  apply BB
  · rw [gF (by rw [hs]; omega), gF h]; omega
  · intro j hj
    rw [gF (by rw [hs]; omega)] at hj
    rw [fP (by rw [hs]; omega) (by omega), fP (Nat.le_refl _) (by omega), fP h (by omega), Nat.add_assoc]
theorem iU {s : ByteArray} {i k : Nat} (h : i + k < s.size) : sb (s.extract i s.size) k = sb s (i + k) := fP (Nat.le_refl _) h
def Pre (t p : ByteArray) : Prop := p.size ≤ t.size ∧ t.extract 0 p.size = p
instance (t p : ByteArray) : Decidable (Pre t p) := by unfold Pre; infer_instance
theorem pre1 {t : ByteArray} {x : UInt8} {i : Nat} (hi : i ≤ t.size) : Pre (t.extract i t.size) (ByteArray.mk #[x]) ↔ isB t i x.toNat := by
  unfold Pre
  rw [yM hi]
  constructor
  · intro h; exact h 0 (by show 0 < 1; omega)
  · intro h k hk
    have hk' : k < 1 := hk
    obtain rfl : k = 0 := by omega
    exact h
theorem pre2 {t : ByteArray} {x y : UInt8} {i : Nat} (hi : i ≤ t.size) : Pre (t.extract i t.size) (ByteArray.mk #[x, y]) ↔ isB t i x.toNat ∧ isB t (i + 1) y.toNat := by
  unfold Pre
  rw [yM hi]
  constructor
  · intro h; exact ⟨h 0 (by show 0 < 2; omega), h 1 (by show 1 < 2; omega)⟩
  · rintro ⟨h0, h1⟩ k hk
    have hk' : k < 2 := hk
    match k, hk' with
    | 0, _ => exact h0
    | 1, _ => exact h1
theorem pre3 {t : ByteArray} {x y z : UInt8} {i : Nat} (hi : i ≤ t.size) : Pre (t.extract i t.size) (ByteArray.mk #[x, y, z]) ↔ isB t i x.toNat ∧ isB t (i + 1) y.toNat ∧ isB t (i + 2) z.toNat := by
  unfold Pre
  rw [yM hi]
  constructor
  · intro h; exact ⟨h 0 (by show 0 < 3; omega), h 1 (by show 1 < 3; omega), h 2 (by show 2 < 3; omega)⟩
  · rintro ⟨h0, h1, h2⟩ k hk
    have hk' : k < 3 := hk
    match k, hk' with
    | 0, _ => exact h0
    | 1, _ => exact h1
    | 2, _ => exact h2
theorem pre4 {t : ByteArray} {x y z u : UInt8} {i : Nat} (hi : i ≤ t.size) : Pre (t.extract i t.size) (ByteArray.mk #[x, y, z, u]) ↔ isB t i x.toNat ∧ isB t (i + 1) y.toNat ∧ isB t (i + 2) z.toNat ∧ isB t (i + 3) u.toNat := by
  unfold Pre
  rw [yM hi]
  constructor
  · intro h; exact ⟨h 0 (by show 0 < 4; omega), h 1 (by show 1 < 4; omega), h 2 (by show 2 < 4; omega), h 3 (by show 3 < 4; omega)⟩
  · rintro ⟨h0, h1, h2, h3⟩ k hk
    have hk' : k < 4 := hk
    match k, hk' with
    | 0, _ => exact h0
    | 1, _ => exact h1
    | 2, _ => exact h2
    | 3, _ => exact h3
theorem TE {t : ByteArray} {x : UInt8} : Pre t (ByteArray.mk #[x]) ↔ isB t 0 x.toNat := by
  have h := pre1 (t := t) (x := x) (i := 0) (Nat.zero_le _)
  rwa [ByteArray.extract_zero_size] at h
def pR : Nat := 0
def Glb (w : World) : Prop := ∃ m : Int, w.cell? ⟨pR, 0, none⟩ = some (.int .i64 m)
theorem Glb.evo {X : List Nat} {w w' : World} (h : Glb w) (he : Evo X w w') (hx : pR ∉ X) : Glb w' := by obtain ⟨m, h⟩ := h; exact ⟨m, he.cell h hx⟩
theorem RdAt.glb {w : World} {b : Nat} {s : ByteArray} {st : PS} {a : Option Addr} {c : Nat} {ob : Option Nat} (h : RdAt w b s st a c ob) (hg : Glb w) : b ≠ pR := fun e => by
  obtain ⟨m, hm⟩ := hg
  subst e
  have := iS (o := 0) h.blk (v := .string s) rfl
  rw [this] at hm; cases hm
theorem OC {w : World} (s : ByteArray) (x y : UInt8) (j : Nat) (hj : j ≤ s.size) (hs : s.size ≤ 1000000) (hg : Glb w) : Calls Tryz.prog 144 #[.string (s.extract j s.size), .string (ByteArray.mk #[x, y])] w (Ret fun v w' => v = iv (IN s x.toNat y.toNat j) ∧ Evo [] w w') := by
  obtain ⟨m, hm⟩ := hg
  refine (uE _ _ m w (by rw [gF (Nat.le_refl _)]; omega) hm).mono ?_
  rintro e w' ⟨rfl, rfl⟩
  have h := idx_two (s := s) (a := x.toNat) (b := y.toNat) (j := j) x.toNat_lt y.toNat_lt hj
  rw [UInt8.ofNat_toNat, UInt8.ofNat_toNat] at h
  exact ⟨_, rfl, congrArg iv h, Evo.refl _ _⟩
theorem IH {w : World} (s p : ByteArray) (hs : s.size ≤ 140737488355328) (hp : p.size ≤ 140737488355328) : Calls Tryz.prog 158 #[.string s, .string p] w (Ret fun v w' => v = .bool (decide (Pre s p)) ∧ Evo [] w w') := by
  refine bE (N := 18) Tryz.func158 rfl rfl rfl ?_; refine csr (wan (csr (aA (aB (cQ rfl Tryz.underlying9 rfl) ?_)))); refine aA (aB (cQ rfl Tryz.underlying9 rfl) ?_); refine aB (dQ rfl rfl) ?_; refine aA (bH (t := 10) rfl (fun B => ?_) (fun B => ?_))
  ·refine aW (aA (aW (aA (aW (aB (cQ rfl Tryz.underlying9 rfl) ?_))))); refine aW ?_; refine aB (QV (h := p.size) rfl rfl Tryz.underlying9 rfl (by omega)) ?_; refine aW (aA (aW (aB (fX rfl rfl) ?_))); refine bW (wan (aK (br1 ?_))); refine ⟨congrArg Value.bool (decide_eq_decide.2 ?_), (Evo.refl [] w)⟩; exact ⟨fun h => ⟨by omega, h⟩, fun h => h.2⟩
  refine aP (aP (aP (aP (aP (aP (bR (wan (aK (br1 ?_)))))))))
  exact ⟨congrArg Value.bool (decide_eq_false (fun h => by have := h.1; omega)).symm, (Evo.refl [] w)⟩
theorem yS {w : World} (s p : ByteArray) (hs : s.size ≤ 140737488355328) (hp : p.size ≤ 140737488355328) : Calls Tryz.prog 142 #[.string s, .string p] w (Ret fun v w' => v = .bool (decide (Pre s p)) ∧ Evo [] w w') := by
  refine bE (N := 8) Tryz.func142 rfl rfl rfl ?_; refine csr (wan (csr (aA (aA (aG (vs := [_, _]) vL rfl (IH s p hs hp) rfl ?_))))); rintro _ w1 ⟨rfl, B⟩; refine wan (aK (br1 ?_)); exact ⟨rfl, ((Evo.refl [] w).then B)⟩
theorem cutI_ok {w : World} (s p : ByteArray) (hs : s.size ≤ 140737488355328) (hp : p.size ≤ 140737488355328) : Calls Tryz.prog 160 #[.string s, .string p] w (Ret fun v w' => v = .tuple #[.string (if Pre s p then s.extract p.size s.size else s), .bool (decide (Pre s p))] ∧ Evo [] w w') := by
  refine bE (N := 15) Tryz.func160 rfl rfl rfl ?_; refine csr (bN (wan (aM (csr (aA (aA (aG (vs := [_, _]) vL rfl (IH s p hs hp) rfl ?_))))))); rintro _ w1 ⟨rfl, E⟩; have D := (Evo.refl [] w).then E; refine aB (mS rfl) ?_; refine wnn (aZ rfl (fun B => ?_) (fun B => ?_))
  ·refine csr (aA (bN (wan (aK (aE (cE rfl rfl rfl ?_)))))); exact ⟨by rw [if_neg B, decide_eq_false B], D⟩
  refine aN (aC (csr (aA (aA (aB (cQ rfl Tryz.underlying9 rfl) ?_)))))
  refine aB (lG (l := p.size) rfl rfl Tryz.underlying9 rfl (by have := Classical.not_not.1 B; exact this.1)) ?_
  refine bN (wan (aK (cE rfl rfl rfl ?_))); have h9 := Classical.not_not.1 B; exact ⟨by rw [if_pos h9, decide_eq_true h9], D⟩
theorem cut_ok {w : World} (s p : ByteArray) (hs : s.size ≤ 140737488355328) (hp : p.size ≤ 140737488355328) : Calls Tryz.prog 145 #[.string s, .string p] w (Ret fun v w' => v = .tuple #[.string (if Pre s p then s.extract p.size s.size else s), .bool (decide (Pre s p))] ∧ Evo [] w w') := by
  refine bE (N := 11) Tryz.func145 rfl rfl rfl ?_; refine csr (bN (wan (csr (aA (aA (aG (vs := [_, _]) FX rfl (cutI_ok s p hs hp) rfl ?_)))))); rintro _ w1 ⟨rfl, B⟩; refine aB (cC rfl rfl) ?_; refine aB (cC rfl rfl) ?_; refine bN (wan (aK (cE rfl rfl rfl ?_))); exact ⟨rfl, ((Evo.refl [] w).then B)⟩
theorem TR {s : ByteArray} {i v j : Nat} (h : sb s i = 92) (h2 : lN s i = .ok (v, j)) : kZ s i = .ok ((v : Int), j) := by unfold kZ; rw [if_pos h, h2]
theorem TS {s : ByteArray} {i : Nat} {e : Int} (h : sb s i = 92) (h2 : lN s i = .error e) : kZ s i = .error e := by unfold kZ; rw [if_pos h, h2]
theorem uM {s : ByteArray} {i : Nat} (h : ¬ sb s i = 92) : kZ s i = .ok ((cL s i).1, i + (cL s i).2) := by unfold kZ; rw [if_neg h]
theorem EI {s : ByteArray} {i j : Nat} {r : Int} (h : kZ s i = .ok (r, j)) (hb : Bd s i) (hi : i < s.size) : Bd s j ∧ i < j ∧ 0 ≤ r ∧ r ≤ 1114111 := by
  by_cases h1 : sb s i = 92
  · unfold kZ at h
    rw [if_pos h1] at h
    cases h2 : lN s i with
    | error e => rw [h2] at h; cases h
    | ok x =>
      obtain ⟨n, k⟩ := x
      rw [h2] at h
      cases h
      obtain ⟨h3, h4, h5⟩ := TV h2 hb h1
      exact ⟨h3, h4, by omega, by omega⟩
  · rw [uM h1] at h
    cases h
    obtain ⟨h3, h4, h5, h6, h7⟩ := hb.next hi
    exact ⟨h5, by omega, h6, h7⟩
theorem CE {w : World} {b : Nat} {s : ByteArray} {st : PS} {a : Option Addr} {c : Nat} {ob : Option Nat} (hR : RdAt w b s st a c ob) (hs : s.size ≤ 1000000) (hlt : st.pos < s.size) (hb : Bd s st.pos) :
    Calls Tryz.prog 147 #[.pointer (some ⟨b, 0, none⟩)] w (RetP (fun v w' => ∃ r j, kZ s st.pos = .ok (r, j) ∧ v = .int .i32 r ∧ Evo [b] w w' ∧ RdAt w' b s (jY st j) a c ob) (fun v w' => kZ s st.pos = .error 83 ∧ v = flt 83 ∧ Evo [b] w w')) := by
  have hap := hR.ap; refine bE (N := 17) Tryz.func147 rfl rfl rfl ?_; refine csr (wan (aM (aM ?_))); refine eK (by kernel_rfl) (by kernel_rfl) ?_; refine bG (fun _ B => bC rfl) ?_; refine bG (fun _ B => aH rfl) ?_; refine bG (fun _ B => aD rfl eA) ?_; refine bG (fun _ B => aX rfl dG (bI (B.blk0 hR.blk) rfl)) ?_; refine bG (fun _ B => bC rfl) ?_; refine bG (fun _ B => aH rfl) ?_; refine bG (fun _ B => aD rfl bP) ?_; refine bG (fun _ B => aX rfl bD (bI (B.blk0 hR.blk) rfl)) ?_; refine bG (fun _ B => fN (n := st.pos) rfl rfl Tryz.underlying9 rfl hlt) ?_; refine bG (fun _ B => kK rfl rfl) ?_; refine eN (fun J B => aC ?_); have D := (Evo.refl [b] w).then B; refine aZ rfl (fun E => ?_) (fun E => ?_)
  ·refine csr (aA (cT (vs := [_]) vR rfl (AU ⟨(B.blk0 hR.blk), (hR.own.evo0 B), hR.ne⟩ hs hlt) rfl ?_ ?_))
   ·intro pv wp hpp; obtain ⟨hpe, rfl, hpw⟩ := hpp; exact And.intro rfl ⟨_, rfl, TS (by omega) hpe, rfl, (D).step hpw (fun y hy => .inl hy)⟩
   rintro _ w6 ⟨n, j, hx, rfl, G, H⟩; refine wan (aK (aE (cU (br1 ?_)))); exact ⟨_, _, TR (by omega) hx, rfl, (D.step G (fun y hy => .inl hy)), H⟩
  refine aN (aC (csr (aA (aG (vs := [_]) oV rfl (yK ⟨(B.blk0 hR.blk), (hR.own.evo0 B), hR.ne⟩ hs hb) rfl ?_)))); rintro _ w9 ⟨rfl, F, I⟩; refine wan (aK (cU (br1 ?_))); exact ⟨_, _, uM (by omega), rfl, (D.step F (fun y hy => .inl hy)), I⟩
end Go.Proofs.YtljadkcojnlioaaGreatDoor
namespace Go.Proofs.YtljadkcojnlioaaGreatDoor
open Go.RowKit Go.W
def PN : List Nat := [92, 46, 43, 42, 63, 40, 41, 124, 91, 93, 123, 125, 94, 36]
def uB (n : Nat) : List Nat := (Lib.decDigits n).map UInt8.toNat
def nmL (s : ByteArray) : List Nat := s.data.toList.map UInt8.toNat
theorem MR (l : List UInt8) : bstr (l.map UInt8.toNat) = ⟨l.toArray⟩ := by
  have h : UInt8.ofNat ∘ UInt8.toNat = id := funext fun x => UInt8.ofNat_toNat
  unfold bstr
  rw [List.map_map, h, List.map_id]
theorem UQ (s : ByteArray) : bstr (nmL s) = s := by unfold nmL; rw [MR]
theorem RQ (l : List UInt8) : Lo (l.map UInt8.toNat) := fun b hb => by
  obtain ⟨x, _, rfl⟩ := List.mem_map.1 hb
  exact x.toNat_lt
theorem NT (s : ByteArray) : (nmL s).length = s.size := by
  unfold nmL
  rw [List.length_map]
  rfl
def LU (c : Int) : List Nat := [92, 120, 123] ++ uZ c.toNat ++ [125]
def Odd (c : Int) : Prop := c < 32 ∨ c = 127 ∨ (55296 ≤ c ∧ c ≤ 57343)
instance (c : Int) : Decidable (Odd c) := by unfold Odd; infer_instance
def sC (c : Int) : List Nat := if Odd c then LU c else if c < 128 ∧ c.toNat ∈ PN then [92, c.toNat] else eJ c
def MM (c : Int) : Prop := c < 128 ∧ iH c.toNat ∧ c ≠ 95
instance (c : Int) : Decidable (MM c) := by unfold MM; infer_instance
def vD (c : Int) : List Nat := if MM c then eJ c else LU c
def wJ (g : Int × Int) : List Nat := vD g.1 ++ (if g.1 < g.2 then 45 :: vD g.2 else [])
def WR : List Nat := [91, 94, 92, 120, 123, 48, 125, 45, 92, 120, 123, 49, 48, 102, 102, 102, 102, 125, 93]
def BP (l : List (Int × Int)) : List Nat := if l = [] then WR else [91] ++ l.flatMap wJ ++ [93]
def wF (lo hi : Int) : List Nat :=
  if lo = 0 ∧ hi = -1 then [42] else if lo = 1 ∧ hi = -1 then [43] else if lo = 0 ∧ hi = 1 then [63]
  else if hi = -1 then [123] ++ uB lo.toNat ++ [44, 125] else if hi = lo then [123] ++ uB lo.toNat ++ [125] else [123] ++ uB lo.toNat ++ [44] ++ uB hi.toNat ++ [125]
def ED (k r : Int) (rs : List (Int × Int)) (nm : ByteArray) : List Nat :=
  if k = 2 then sC r else if k = 3 then BP rs else if k = 7 then [40] ++ (if nm = ByteArray.mk #[] then [] else [63, 80, 60] ++ nmL nm ++ [62]) else if k = 8 then [92, 65] else if k = 9 then [92, 122]
  else if k = 10 then [94] else if k = 11 then [36] else if k = 12 then [92, 98] else if k = 13 then [92, 66] else []
def DK (k mn mx : Int) (lz : Bool) : List Nat := if k = 6 then wF mn mx ++ (if lz = true then [63] else []) else if k = 7 then [41] else []
def brW (p : Prop) [Decidable p] (l : List Nat) : List Nat := if p then [40, 63, 58] ++ l ++ [41] else l
def BA (k : Int) (fst : Bool) : List Nat := if k = 5 ∧ fst = false then [124] else []
mutual
def Rx.w : Rx → List Nat
  | .mk k r rs mn mx lz cp nm ks => ED k r rs nm ++ gO k true ks ++ DK k mn mx lz
def gO (k : Int) : Bool → List Rx → List Nat
  | _, [] => []
  | fst, x :: xs => BA k fst ++ brW (Brk x.kind k) x.w ++ gO k false xs
end
mutual
def Rx.ms : Rx → Nat
  | .mk k r rs mn mx lz cp nm ks => 40 + nm.size + 26 * rs.length + kms ks
def kms : List Rx → Nat
  | [] => 0
  | x :: xs => x.ms + kms xs
end
theorem Rx.w_eq (x : Rx) : x.w = ED x.kind x.r x.ranges x.name ++ gO x.kind true x.kids ++ DK x.kind x.min x.max x.lazy := by cases x; rw [Rx.w]; rfl
theorem Rx.ms_eq (x : Rx) : x.ms = 40 + x.name.size + 26 * x.ranges.length + kms x.kids := by cases x; rw [Rx.ms]; rfl
theorem AI (k : Int) (y : Rx) : ∀ (l : List Rx) (fst : Bool), gO k fst (l ++ [y]) = gO k fst l ++ (BA k (fst && l.isEmpty) ++ brW (Brk y.kind k) y.w)
  | [], fst => by rw [List.nil_append, gO, gO, gO]; simp
  | x :: xs, fst => by rw [List.cons_append, gO, AI k y xs false, gO]; simp
theorem pN {k : Int} {l : List Rx} {j : Nat} (hj : j < l.length) : gO k true (l.take (j + 1)) = gO k true (l.take j) ++ (BA k (decide (j = 0)) ++ brW (Brk l[j].kind k) l[j].w) := by
  rw [List.take_add_one, List.getElem?_eq_getElem hj, Option.toList_some, AI]
  have : (true && (l.take j).isEmpty) = decide (j = 0) := by
    rw [Bool.true_and, Bool.eq_iff_iff, decide_eq_true_iff, List.isEmpty_iff, List.take_eq_nil_iff]
    constructor
    · rintro (h | h)
      · exact h
      · rw [h] at hj; cases hj
    · exact .inl
  rw [this]
theorem uV {l : List Rx} {j : Nat} (hj : j < l.length) : kms (l.take (j + 1)) = kms (l.take j) + l[j].ms := by
  induction l generalizing j with
  | nil => cases hj
  | cons x l ih => cases j with
    | zero => simp [kms]
    | succ j => simp only [List.take_succ_cons, kms, List.getElem_cons_succ, ih (by simpa using hj)]; omega
theorem VC {l : List Rx} (j : Nat) : kms (l.take j) ≤ kms l := by
  induction l generalizing j with
  | nil => simp [kms]
  | cons x l ih => cases j with
    | zero => simp [kms]
    | succ j => simp only [List.take_succ_cons, kms]; have := ih j; omega
theorem EX : ∀ (f n : Nat), n < 16 ^ (f + 1) → (uZ n).length ≤ f + 1 ∧ Lo (uZ n)
  | 0, n, h => by
    rw [EW (by simpa using h)]
    have h16 : n < 16 := by simpa using h
    exact ⟨Nat.le_refl _, fun b hb => by rw [List.mem_singleton.1 hb]; unfold hx; split <;> omega⟩
  | f + 1, n, h => by
    by_cases c : n < 16
    · rw [EW c]
      exact ⟨by simp, fun b hb => by rw [List.mem_singleton.1 hb]; unfold hx; split <;> omega⟩
    · rw [OG c]
      obtain ⟨h1, h2⟩ := EX f (n / 16) (Nat.div_lt_of_lt_mul (by rw [Nat.mul_comm, ← Nat.pow_succ]; exact h))
      refine ⟨by simp; omega, fun b hb => ?_⟩
      rcases List.mem_append.1 hb with hb | hb
      · exact h2 b hb
      · rw [List.mem_singleton.1 hb]; unfold hx; split <;> omega
theorem Lo.app {a b : List Nat} (h : Lo a) (k : Lo b) : Lo (a ++ b) := fun x hx => (List.mem_append.1 hx).elim (h x) (k x)
theorem EV {c : Int} (h0 : 0 ≤ c) (h1 : c ≤ 1114111) : (LU c).length ≤ 12 ∧ Lo (LU c) := by
  obtain ⟨h2, h3⟩ := EX 7 c.toNat (by show c.toNat < 4294967296; omega)
  refine ⟨by simp [LU]; omega, ?_⟩
  exact ((show Lo [92, 120, 123] by unfold Lo; decide).app h3).app (by unfold Lo; decide)
theorem OH (c : Int) : Lo (eJ c) := IJ c
theorem NW {c : Int} (h0 : 0 ≤ c) (h1 : c ≤ 1114111) : (sC c).length ≤ 12 ∧ Lo (sC c) := by
  unfold sC
  split
  · exact EV h0 h1
  · split
    · refine ⟨by simp, fun b hb => ?_⟩
      simp at hb
      rcases hb with rfl | rfl <;> omega
    · exact ⟨by have := tC c; omega, OH c⟩
theorem FC {c : Int} (h0 : 0 ≤ c) (h1 : c ≤ 1114111) : (vD c).length ≤ 12 ∧ Lo (vD c) := by
  unfold vD
  split
  · exact ⟨by have := tC c; omega, OH c⟩
  · exact EV h0 h1
theorem MZ {g : Int × Int} (h0 : 0 ≤ g.1) (h1 : g.1 ≤ g.2) (h2 : g.2 ≤ 1114111) : (wJ g).length ≤ 26 ∧ Lo (wJ g) := by
  obtain ⟨a1, a2⟩ := FC h0 (show g.1 ≤ 1114111 by omega)
  obtain ⟨b1, b2⟩ := FC (show 0 ≤ g.2 by omega) h2
  unfold wJ
  split
  · refine ⟨by rw [List.length_append, List.length_cons]; omega, a2.app fun b hb => ?_⟩
    rcases List.mem_cons.1 hb with rfl | hb
    · decide
    · exact b2 b hb
  · exact ⟨by simp; omega, a2.app (fun b hb => by cases hb)⟩
def RgB (l : List (Int × Int)) : Prop := ∀ g, g ∈ l → 0 ≤ g.1 ∧ g.1 ≤ g.2 ∧ g.2 ≤ 1114111
theorem RangesOk.b {l : List (Int × Int)} (h : RangesOk l) : RgB l := fun g hg => by
  obtain ⟨i, hi, rfl⟩ := List.getElem_of_mem hg
  obtain ⟨h1, h2, h3, -⟩ := h.1 i hi
  exact ⟨h1, h2, h3⟩
theorem yL : ∀ {l : List (Int × Int)}, RgB l → (l.flatMap wJ).length ≤ 26 * l.length
  | [], _ => by simp
  | g :: l, h => by
    obtain ⟨h1, h2, h3⟩ := h g (List.mem_cons_self ..)
    have := (MZ h1 h2 h3).1
    have := yL (l := l) (fun g hg => h g (List.mem_cons_of_mem _ hg))
    rw [List.flatMap_cons, List.length_append, List.length_cons]; omega
theorem HL {l : List (Int × Int)} {k : Nat} (hk : k < l.length) : (l.take (k + 1)).flatMap wJ = (l.take k).flatMap wJ ++ wJ l[k] := by
  rw [List.take_add_one, List.getElem?_eq_getElem hk, List.flatMap_append]; simp
theorem yZ (n : Nat) : Lo (uB n) := RQ _
end Go.Proofs.YtljadkcojnlioaaGreatDoor
namespace Go.Proofs.YtljadkcojnlioaaGreatDoor
open Go.RowKit Go.W
attribute [local irreducible] Decidable.decide
theorem mV : dW Tryz.prog 100 := ⟨_, Tryz.func100, by kernel_rfl, by kernel_rfl⟩
theorem wA : dW Tryz.prog 101 := ⟨_, Tryz.func101, by kernel_rfl, by kernel_rfl⟩
theorem oW : dW Tryz.prog 102 := ⟨_, Tryz.func102, by kernel_rfl, by kernel_rfl⟩
theorem GM : dW Tryz.prog 123 := ⟨_, Tryz.func123, by kernel_rfl, by kernel_rfl⟩
theorem dI : dW Tryz.prog 49 := ⟨_, Tryz.func49, by kernel_rfl, by kernel_rfl⟩
theorem mL : dW Tryz.prog 99 := ⟨_, Tryz.func99, by kernel_rfl, by kernel_rfl⟩
structure Gw (w : World) : Prop where
  glb : Glb w
  t64 : Tab64 w
  t10 : Lib.TabIs Tryz.prog w "internal/strconv.uint64pow10" .u64 Lib.pow10Tab
theorem PI {w w' : World} {nm : String} {k : IntKind} {zs : List Int} (h : Lib.TabIs Tryz.prog w nm k zs) (he : Evo [] w w') : Lib.TabIs Tryz.prog w' nm k zs := by
  unfold Lib.TabIs World.var? at h ⊢
  cases hg : Tryz.prog.globalNamed nm with
  | none => rw [hg] at h; exact absurd h (by simp)
  | some g =>
    rw [hg] at h
    simp only [Option.bind_eq_bind, Option.bind_some] at h ⊢
    cases hb : w.heap[g]? with
    | none => rw [hb] at h; exact absurd h (by simp)
    | some o => rw [he.block g (fF hb) (by simp), ]; exact h
theorem Gw.evo0 {w w' : World} (h : Gw w) (he : Evo [] w w') : Gw w' := ⟨h.glb.evo he (by simp), h.t64.evo he (by simp), PI h.t10 he⟩
theorem WK (w : World) (k : Nat) (os : Array Obj) : Evo [] w (Sort.grow (w.drewN k) os) := by
  refine ⟨rfl, rfl, rfl, ?_, fun b hb hx => ?_⟩
  · simp [Sort.grow]
  · simp only [Sort.grow]
    rw [Array.getElem?_append_left (by simpa using hb)]
    rfl
theorem yQ {w : World} (hG : Gw w) (n : Int) (h0 : 0 ≤ n) (h1 : n ≤ 1000000) : Calls Tryz.prog 102 #[.int .i64 n] w (Ret fun v w' => v = .string (bstr (uB n.toNat)) ∧ Evo [] w w') := by
  refine (vI n (by omega) (by omega) w hG.t10).mono ?_
  rintro e w' ⟨rfl, k, os, rfl⟩
  refine ⟨_, rfl, ?_, WK w k os⟩
  rw [uB, MR, Lib.itoa, if_neg (by omega)]
theorem eF {w w1 : World} {o o1 o2 : Option Nat} (h : o1 = o ∨ ∃ g, o1 = some g ∧ w.heap.size ≤ g) (h2 : o2 = o1 ∨ ∃ g, o2 = some g ∧ w1.heap.size ≤ g) (hw : w.heap.size ≤ w1.heap.size) : o2 = o ∨ ∃ g, o2 = some g ∧ w.heap.size ≤ g := by
  rcases h2 with rfl | ⟨g, rfl, hg⟩
  · exact h
  · exact .inr ⟨g, rfl, Nat.le_trans hw hg⟩
theorem eG {w : World} {b : Nat} {o o1 : Option Nat} (h : o1 = o ∨ ∃ g, o1 = some g ∧ w.heap.size ≤ g) : ∀ y, y ∈ b :: o1.toList → y ∈ b :: o.toList ∨ w.heap.size ≤ y := fun y hy => by
  rcases h with rfl | ⟨g, rfl, hg⟩
  · exact .inl hy
  · rcases List.mem_cons.1 hy with rfl | hy
    · exact .inl (List.mem_cons_self ..)
    · rw [List.mem_singleton.1 hy]; exact .inr hg
theorem iI {w0 : World} {b : Nat} {o : Option Nat} (hub : w0.heap.size ≤ b) (h : Ge w0 o) : ∀ y, y ∈ b :: o.toList → y ∈ ([] : List Nat) ∨ w0.heap.size ≤ y := fun y hy => by
  rcases List.mem_cons.1 hy with rfl | hy
  · exact .inr hub
  · cases o with
    | none => cases hy
    | some g => rw [List.mem_singleton.1 hy]; exact .inr (h g rfl)
theorem oE {q b : Nat} {o : Option Nat} (h1 : Apart (some q) (some b)) (h2 : Apart (some q) o) : q ∉ b :: o.toList := fun h => by
  rcases List.mem_cons.1 h with rfl | h
  · exact h1 q rfl rfl
  · exact h2.nmem h
theorem gT {w w1 : World} {b : Nat} {L l X : List Nat} {ob ob1 : Option Nat} (h : BdN w1 b L ob1) (e : L = l ++ X) (hE : Evo (b :: ob.toList) w w1) (hN : ob1 = ob ∨ ∃ g, ob1 = some g ∧ w.heap.size ≤ g) : Wr w b (l ++ X) ob w1 := ⟨ob1, e ▸ h, hE, hN⟩
theorem bap (a b : List Nat) : bstr a ++ bstr b = bstr (a ++ b) := by
  apply ByteArray.ext; simp [bstr]
theorem bsz (l : List Nat) : (bstr l).size = l.length := by simp [bstr, ByteArray.size]
theorem dV {l : List Nat} (h : l.all (fun b => decide (b < 256)) = true) : Lo l := fun b hb => by have := List.all_eq_true.1 h b hb; exact of_decide_eq_true this
theorem mA {w0 w : World} {b : Nat} {l : List Nat} {ob : Option Nat} {c : Int} (hG : Gw w0) (E : Evo [] w0 w) (hub : w0.heap.size ≤ b) (huo : Ge w0 ob) (h : BdN w b l ob) (hl : l.length ≤ 90000000) (h0 : 0 ≤ c) (h1 : c ≤ 1114111) :
    Calls Tryz.prog 99 #[.pointer (some ⟨b, 0, none⟩), .int .i32 c] w (Ret fun v w' => Wr w b (l ++ LU c) ob w') := by
  obtain ⟨n, rfl⟩ : ∃ n : Nat, c = (n : Int) := ⟨c.toNat, by omega⟩; obtain ⟨hxw1, hxw⟩ := EV h0 h1
  have hlen := (EX 7 n (by show n < 4294967296; omega)).1
  refine bE (N := 11) Tryz.func99 rfl rfl rfl ?_; refine aF (aA (aA ?_))
  refine aB (fY n rfl Tryz.underlying21 Tryz.underlying2 rfl (by show ((n : Nat) : Int) ≤ 9223372036854775807; omega)) ?_
  refine aG (vs := [_, _]) GM rfl (VX (hG.evo0 E).t64 n (by show n < 4294967296; omega)) rfl ?_
  rintro _ w1 ⟨rfl, B⟩; have D := (Evo.refl (b :: ob.toList) w).then B
  refine aB (lC rfl rfl (by rw [bsz]; show 3 + _ ≤ _; omega)) ?_
  rw [show ByteArray.mk #[92, 120, 123] = bstr [92, 120, 123] from by decide +kernel, bap]
  refine aB (lC rfl rfl (by rw [bsz]; show _ + 1 ≤ _; simp; omega)) ?_
  rw [show ByteArray.mk #[125] = bstr [125] from by decide +kernel, bap]; refine aG (vs := [_, _]) dI rfl (eV (h.evo0 B) (m := LU (n : Int)) rfl hxw (by omega) (by omega)) rfl ?_; rintro _ w6 ⟨obw1, hBDw1, F, hnb1⟩; refine aR (dD rfl ?_); exact gT hBDw1 (rfl) (D.step F (eG (Or.inl rfl))) (eF (Or.inl rfl) hnb1 D.size)
theorem RY : ∀ m, m < 128 → (0 ≤ Lib.indexByte (ByteArray.mk #[92, 46, 43, 42, 63, 40, 41, 124, 91, 93, 123, 125, 94, 36]).data.toList (UInt8.ofNat m) ↔ m ∈ PN) := by decide +kernel
theorem HH {w : World} (m : Nat) (hm : m < 128) : Calls Tryz.prog 41 #[.string (ByteArray.mk #[92, 46, 43, 42, 63, 40, 41, 124, 91, 93, 123, 125, 94, 36]), .int .u8 (m : Nat)] w (Ret fun v w' => ∃ z, v = .int .i64 z ∧ (0 ≤ z ↔ m ∈ PN) ∧ Evo [] w w') := by
  refine (kN _ _ w).mono ?_
  rintro e w' ⟨rfl, rfl⟩
  refine ⟨_, rfl, _, rfl, ?_, Evo.refl _ _⟩
  rw [← RY m hm]
  simp
theorem xF {w0 w : World} {b : Nat} {l : List Nat} {ob : Option Nat} {c : Int} (hG : Gw w0) (J : Evo [] w0 w) (hub : w0.heap.size ≤ b) (huo : Ge w0 ob) (h : BdN w b l ob) (hl : l.length ≤ 90000000) (h0 : 0 ≤ c) (h1 : c ≤ 1114111) :
    Calls Tryz.prog 101 #[.pointer (some ⟨b, 0, none⟩), .int .i32 c] w (Ret fun v w' => Wr w b (l ++ vD c) ob w') := by
  obtain ⟨n, rfl⟩ : ∃ n : Nat, c = (n : Int) := ⟨c.toNat, by omega⟩; refine bE (N := 21) Tryz.func101 rfl rfl rfl ?_; refine aM (csr (aA (aB (dA rfl rfl) ?_))); refine aA (bH (t := 6) rfl (fun I => ?_) (fun I => ?_))
  ·refine aW (aA (aW ?_))
   refine aB (fY n rfl Tryz.underlying21 Tryz.underlying5 rfl (by show ((n : Nat) : Int) ≤ 255; omega)) ?_
   refine aW (aG (vs := [_]) oT rfl (yH n) rfl ?_); rintro _ w1 ⟨rfl, L⟩; have G := (Evo.refl (b :: ob.toList) w).then L; have H := J.then L; have M := h.evo0 L; refine bW (aA (bH (t := 11) rfl (fun D => ?_) (fun D => ?_)))
   ·refine aW (aA (aW (aB (fE rfl rfl) ?_))); refine bW (wnn (aZ rfl (fun U => ?_) (fun U => ?_)))
    ·refine csr (aA (aA ?_))
     refine aG (vs := [_, _]) mV rfl (mN M (by unfold IsR; omega) (by omega)) rfl ?_
     rintro _ w6 ⟨obw1, hBDw1, Z, hnb1⟩; have E := G; have B := H; have F := eF (Or.inl rfl) hnb1 E.size; have O := fG huo B.size hnb1; refine wnn (aK (aE (xA rfl ?_)))
     exact gT hBDw1 (by rw [vD, if_pos (show MM (n : Int) from ⟨by omega, by rw [Int.toNat_natCast]; exact D, by omega⟩)]) (G.step Z (eG (Or.inl rfl))) F
    refine aN (aC (aF (aA (aA (aG (vs := [_, _]) mL rfl (mA hG H hub huo M hl h0 h1) rfl ?_))))); rintro _ a0 ⟨obw1, hBDw1, V, hnb1⟩; have E := G; have B := H; have F := eF (Or.inl rfl) hnb1 E.size; have O := fG huo B.size hnb1; refine aR (dD rfl ?_)
    exact gT hBDw1 (by rw [vD, if_neg (fun hq : MM (n : Int) => by obtain ⟨q1, q2, q3⟩ := hq; rw [Int.toNat_natCast] at q2; first | omega | exact D q2 | exact I q2)]) (G.step V (eG (Or.inl rfl))) F
   refine aP (aP (bR (wnn (cF rfl ?_)))); refine aN (aC (aF (aA (aA (aG (vs := [_, _]) mL rfl (mA hG H hub huo M hl h0 h1) rfl ?_))))); rintro _ a1 ⟨obw1, hBDw1, W, hnb1⟩; have E := G; have B := H; have F := eF (Or.inl rfl) hnb1 E.size; have O := fG huo B.size hnb1; refine aR (dD rfl ?_)
   exact gT hBDw1 (by rw [vD, if_neg (fun hq : MM (n : Int) => by obtain ⟨q1, q2, q3⟩ := hq; rw [Int.toNat_natCast] at q2; first | omega | exact D q2 | exact I q2)]) (G.step W (eG (Or.inl rfl))) F
  refine aP (aP (aP (bR (aA (aP (aP (bR (wnn (cF rfl ?_))))))))); refine aN (aC (aF (aA (aA (aG (vs := [_, _]) mL rfl (mA hG J hub huo h hl h0 h1) rfl ?_))))); rintro _ a2 ⟨obw1, hBDw1, Y, hnb1⟩; have E := (Evo.refl (b :: ob.toList) w); have B := J; have F := eF (Or.inl rfl) hnb1 E.size; have O := fG huo B.size hnb1; refine aR (dD rfl ?_)
  exact gT hBDw1 (by rw [vD, if_neg (fun hq : MM (n : Int) => by obtain ⟨q1, q2, q3⟩ := hq; rw [Int.toNat_natCast] at q2; first | omega | exact D q2 | exact I q2)]) ((Evo.refl (b :: ob.toList) w).step Y (eG (Or.inl rfl))) F
theorem HD {w0 w : World} {b : Nat} {l : List Nat} {ob : Option Nat} {c : Int} (hG : Gw w0) (F : Evo [] w0 w) (hub : w0.heap.size ≤ b) (huo : Ge w0 ob) (h : BdN w b l ob) (hl : l.length ≤ 90000000) (h0 : 0 ≤ c) (h1 : c ≤ 1114111) :
    Calls Tryz.prog 72 #[.pointer (some ⟨b, 0, none⟩), .int .i32 c] w (Ret fun v w' => Wr w b (l ++ sC c) ob w') := by
  obtain ⟨n, rfl⟩ : ∃ n : Nat, c = (n : Int) := ⟨c.toNat, by omega⟩; refine bE (N := 39) Tryz.func72 rfl rfl rfl ?_; refine bK (csr (aA (aB (dA rfl rfl) ?_))); refine aA (bH (t := 10) rfl (fun U => ?_) (fun U => ?_))
  ·refine aP (aP (bW (aA (aP (aP (aP (eS ?_))))))); refine eS ?_; refine aP (bW (wan (cZ rfl ?_))); refine aF (aA (aA (aG (vs := [_, _]) mL rfl (mA hG F hub huo h hl h0 h1) rfl ?_))); rintro _ w1 ⟨obw1, hBDw1, a5, hnb1⟩; have D := (Evo.refl (b :: ob.toList) w); have B := F; have E := eF (Or.inl rfl) hnb1 D.size; have G := fG huo B.size hnb1; refine aR (aQ (dD rfl ?_))
   exact gT hBDw1 (by rw [sC, if_pos (show Odd (n : Int) from by unfold Odd; omega)]) ((Evo.refl (b :: ob.toList) w).step a5 (eG (Or.inl rfl))) E
  refine aW (aA (aW (wel ?_))); refine bR (aA (bH (t := 14) rfl (fun V => ?_) (fun V => ?_)))
  ·refine aP (aP (aP (eS ?_))); refine eS ?_; refine aP (bW (wan (cZ rfl ?_))); refine aF (aA (aA (aG (vs := [_, _]) mL rfl (mA hG F hub huo h hl h0 h1) rfl ?_))); rintro _ w5 ⟨obw1, hBDw1, a6, hnb1⟩; have D := (Evo.refl (b :: ob.toList) w); have B := F; have E := eF (Or.inl rfl) hnb1 D.size; have G := fG huo B.size hnb1; refine aR (aQ (dD rfl ?_))
   exact gT hBDw1 (by rw [sC, if_pos (show Odd (n : Int) from by unfold Odd; omega)]) ((Evo.refl (b :: ob.toList) w).step a6 (eG (Or.inl rfl))) E
  refine aW (aA (aW (aB (dQ rfl rfl) ?_))); refine aW (aA (bH (t := 17) rfl (fun W => ?_) (fun W => ?_)))
  ·refine aW (aA (aW (aB (dM rfl rfl) ?_))); refine aW (bW (bR (wan (aZ rfl (fun a7 => ?_) (fun a7 => ?_)))))
   ·refine aF (aA (aA (aG (vs := [_, _]) mL rfl (mA hG F hub huo h hl h0 h1) rfl ?_))); rintro _ w9 ⟨obw1, hBDw1, Y, hnb1⟩; have D := (Evo.refl (b :: ob.toList) w); have B := F; have E := eF (Or.inl rfl) hnb1 D.size; have G := fG huo B.size hnb1; refine aR (aQ (dD rfl ?_))
    exact gT hBDw1 (by rw [sC, if_pos (show Odd (n : Int) from by unfold Odd; omega)]) ((Evo.refl (b :: ob.toList) w).step Y (eG (Or.inl rfl))) E
   refine aM ?_
   have hOdd : ¬ Odd (n : Int) := by unfold Odd; omega
   have hIR : IsR (n : Int) := by unfold IsR; omega
   refine aF (aA (aB (dA rfl rfl) ?_)); refine aA (bH (t := 28) rfl (fun M => ?_) (fun M => ?_))
   ·refine aW (aA (aW ?_))
    refine aB (fY n rfl Tryz.underlying21 Tryz.underlying5 rfl (by show ((n : Nat) : Int) ≤ 255; omega)) ?_
    refine aW ?_; refine aG (vs := [_, _]) qE rfl (HH n (by omega)) rfl ?_; rintro _ a8 ⟨z, rfl, hz, H⟩; have J := (Evo.refl (b :: ob.toList) w).then H; refine aW (aB (dQ rfl rfl) ?_); refine bW (wan (aZ rfl (fun O => ?_) (fun O => ?_)))
    ·refine aF (aA (aA (aB (AT rfl Tryz.underlying21 Tryz.underlying9) ?_))); rw [AV hIR, lT hIR, show iN n = [n] by rw [iN, if_pos (by omega)]]
     refine aB (lC rfl rfl (by rw [bsz]; show 1 + 1 ≤ _; omega)) ?_
     rw [show ByteArray.mk #[92] = bstr [92] from by decide +kernel, bap]
     refine aG (vs := [_, _]) dI rfl (eV (h.evo0 H) (m := [92, n]) rfl (fun x hx => by simp at hx; omega) (by first | omega | (simp only [List.length_append]; omega)) (by simp only [List.length_append, List.length_cons, List.length_nil]; omega)) rfl ?_
     rintro _ a9 ⟨obw1, hBDw1, Z, hnb1⟩; have D := J; have B := (F.then H); have E := eF (Or.inl rfl) hnb1 D.size; have G := fG huo B.size hnb1; refine aR (aQ (dD rfl ?_))
     exact gT hBDw1 (by rw [sC, if_neg hOdd, if_pos ⟨by omega, by rw [Int.toNat_natCast]; exact hz.1 (by omega)⟩]; rfl) (J.step Z (eG (Or.inl rfl))) E
    refine aF (aA (aA ?_)); refine aG (vs := [_, _]) mV rfl (mN (h.evo0 H) hIR (by omega)) rfl ?_; rintro _ b4 ⟨obw1, hBDw1, a0, hnb1⟩; have D := J; have B := (F.then H); have E := eF (Or.inl rfl) hnb1 D.size; have G := fG huo B.size hnb1; refine aR (aQ (dD rfl ?_))
    exact gT hBDw1 (by rw [sC, if_neg hOdd, if_neg (fun hq => by obtain ⟨q1, q2⟩ := hq; rw [Int.toNat_natCast] at q2; first | omega | (have h8 := hz.2 q2; omega))]) (J.step a0 (eG (Or.inl rfl))) E
   refine aP (aP (aP (aP (bR (wan (cF rfl ?_)))))); refine aF (aA (aA ?_)); refine aG (vs := [_, _]) mV rfl (mN h hIR (by omega)) rfl ?_; rintro _ b5 ⟨obw1, hBDw1, a1, hnb1⟩; have D := (Evo.refl (b :: ob.toList) w); have B := F; have E := eF (Or.inl rfl) hnb1 D.size; have G := fG huo B.size hnb1; refine aR (aQ (dD rfl ?_))
   exact gT hBDw1 (by rw [sC, if_neg hOdd, if_neg (fun hq => by obtain ⟨q1, q2⟩ := hq; rw [Int.toNat_natCast] at q2; first | omega | (have h8 := hz.2 q2; omega))]) ((Evo.refl (b :: ob.toList) w).step a1 (eG (Or.inl rfl))) E
  refine aP (aP (aW (bR (bR (wan (cF rfl ?_)))))); refine aM ?_
  have hOdd : ¬ Odd (n : Int) := by unfold Odd; omega
  have hIR : IsR (n : Int) := by unfold IsR; omega
  refine aF (aA (aB (dA rfl rfl) ?_)); refine aA (bH (t := 28) rfl (fun M => ?_) (fun M => ?_))
  ·refine aW (aA (aW ?_))
   refine aB (fY n rfl Tryz.underlying21 Tryz.underlying5 rfl (by show ((n : Nat) : Int) ≤ 255; omega)) ?_
   refine aW ?_; refine aG (vs := [_, _]) qE rfl (HH n (by omega)) rfl ?_; rintro _ b6 ⟨z, rfl, hz, I⟩; have L := (Evo.refl (b :: ob.toList) w).then I; refine aW (aB (dQ rfl rfl) ?_); refine bW (wan (aZ rfl (fun O => ?_) (fun O => ?_)))
   ·refine aF (aA (aA (aB (AT rfl Tryz.underlying21 Tryz.underlying9) ?_))); rw [AV hIR, lT hIR, show iN n = [n] by rw [iN, if_pos (by omega)]]
    refine aB (lC rfl rfl (by rw [bsz]; show 1 + 1 ≤ _; omega)) ?_
    rw [show ByteArray.mk #[92] = bstr [92] from by decide +kernel, bap]
    refine aG (vs := [_, _]) dI rfl (eV (h.evo0 I) (m := [92, n]) rfl (fun x hx => by simp at hx; omega) (by first | omega | (simp only [List.length_append]; omega)) (by simp only [List.length_append, List.length_cons, List.length_nil]; omega)) rfl ?_
    rintro _ b7 ⟨obw1, hBDw1, a2, hnb1⟩; have D := L; have B := (F.then I); have E := eF (Or.inl rfl) hnb1 D.size; have G := fG huo B.size hnb1; refine aR (aQ (dD rfl ?_))
    exact gT hBDw1 (by rw [sC, if_neg hOdd, if_pos ⟨by omega, by rw [Int.toNat_natCast]; exact hz.1 (by omega)⟩]; rfl) (L.step a2 (eG (Or.inl rfl))) E
   refine aF (aA (aA ?_)); refine aG (vs := [_, _]) mV rfl (mN (h.evo0 I) hIR (by omega)) rfl ?_; rintro _ b8 ⟨obw1, hBDw1, a3, hnb1⟩; have D := L; have B := (F.then I); have E := eF (Or.inl rfl) hnb1 D.size; have G := fG huo B.size hnb1; refine aR (aQ (dD rfl ?_))
   exact gT hBDw1 (by rw [sC, if_neg hOdd, if_neg (fun hq => by obtain ⟨q1, q2⟩ := hq; rw [Int.toNat_natCast] at q2; first | omega | (have h8 := hz.2 q2; omega))]) (L.step a3 (eG (Or.inl rfl))) E
  refine aP (aP (aP (aP (bR (wan (cF rfl ?_)))))); refine aF (aA (aA ?_)); refine aG (vs := [_, _]) mV rfl (mN h hIR (by omega)) rfl ?_; rintro _ b9 ⟨obw1, hBDw1, a4, hnb1⟩; have D := (Evo.refl (b :: ob.toList) w); have B := F; have E := eF (Or.inl rfl) hnb1 D.size; have G := fG huo B.size hnb1; refine aR (aQ (dD rfl ?_))
  exact gT hBDw1 (by rw [sC, if_neg hOdd, if_neg (fun hq => by obtain ⟨q1, q2⟩ := hq; rw [Int.toNat_natCast] at q2; first | omega | (have h8 := hz.2 q2; omega))]) ((Evo.refl (b :: ob.toList) w).step a4 (eG (Or.inl rfl))) E
theorem yY (n : Nat) (h : n ≤ 1000) : (uB n).length ≤ 4 := by
  have : ∀ n, n ≤ 1000 → (uB n).length ≤ 4 := by
    intro n h
    unfold uB
    rw [List.length_map]
    have hh : ∀ (f n : Nat), n < 10 ^ (f + 1) → (Lib.decDigits n).length ≤ f + 1 := by
      intro f
      induction f with
      | zero => intro n h; rw [Lib.decDigits, dif_pos (by simpa using h)]; simp
      | succ f ih =>
        intro n h
        rw [Lib.decDigits]
        split
        · simp
        · rw [List.length_append]
          have := ih (n / 10) (Nat.div_lt_of_lt_mul (by rw [Nat.mul_comm, ← Nat.pow_succ]; exact h))
          simp; omega
    exact hh 3 n (by show n < 10000; omega)
  exact this n h
theorem oG : ByteArray.mk #[123] = bstr [123] := by decide +kernel
theorem kA : ByteArray.mk #[44, 125] = bstr [44, 125] := by decide +kernel
theorem oF : ByteArray.mk #[125] = bstr [125] := by decide +kernel
theorem tF : ByteArray.mk #[44] = bstr [44] := by decide +kernel
theorem BK {w0 w : World} {b : Nat} {l : List Nat} {ob : Option Nat} {lo hi : Int} (hG : Gw w0) (F : Evo [] w0 w) (hub : w0.heap.size ≤ b) (huo : Ge w0 ob) (h : BdN w b l ob) (hl : l.length ≤ 90000000) (h0 : 0 ≤ lo) (h1 : lo ≤ 1000) (h2 : hi = -1 ∨ (lo ≤ hi ∧ hi ≤ 1000)) :
    Calls Tryz.prog 75 #[.pointer (some ⟨b, 0, none⟩), .int .i64 lo, .int .i64 hi] w (Ret fun v w' => Wr w b (l ++ wF lo hi) ob w') := by
  have hd1 := yY lo.toNat (by omega); have hd2 : hi ≠ -1 → (uB hi.toNat).length ≤ 4 := fun h => yY hi.toNat (by omega); have V := yZ lo.toNat; have b4 := yZ hi.toNat; refine bE (N := 62) Tryz.func75 rfl rfl rfl ?_; refine bK (aM (gR (α := Bool) (fun z16 => [(16, .bool z16)]) [(0, _), (1, _), (2, _)] (fun z16 wr => w = wr ∧ (z16 = true ↔ (lo = 0 ∧ hi = -1))) ⟨rfl, rfl, rfl, trivial⟩ ?_ ?_))
  ·refine aF (aA (wel ?_)); refine aA (bH (t := 19) rfl (fun a0 => ?_) (fun a0 => ?_))
   ·refine aW (aA (aW (wel ?_))); refine bW (bN (aR (aY ?_))); refine ⟨_, ⟨rfl, trivial⟩, ⟨rfl, rfl, rfl, trivial⟩, rfl, ?_⟩
    simp only [decide_eq_true_eq, Bool.false_eq_true, Bool.true_eq_false, true_iff, false_iff, eq_self, iff_true]; omega
   refine aP (aP (bR (bN (aR (aY ?_))))); refine ⟨_, ⟨rfl, trivial⟩, ⟨rfl, rfl, rfl, trivial⟩, rfl, ?_⟩
   simp only [decide_eq_true_eq, Bool.false_eq_true, Bool.true_eq_false, true_iff, false_iff, eq_self, iff_true]; omega
  rintro z16 _ ⟨rfl, hz16⟩; refine aC ?_; show CW _ _ _ _ [(16, _), (0, _), (1, _), (2, _)] _; refine eO rfl (fun I => ?_) (fun I => ?_)
  ·subst I; have hj16 := hz16.1 rfl; refine aF (aA ?_)
   refine aG (vs := [_, _]) dI rfl (eV h (m := [42]) (by decide +kernel) (dV (by decide +kernel)) (by first | omega | (simp only [List.length_append]; omega)) (by decide)) rfl ?_
   rintro _ w3 ⟨obw1, hBDw1, b5, hnb1⟩; have D := (Evo.refl (b :: ob.toList) w); have B := F; have E := eF (Or.inl rfl) hnb1 D.size; have H := fG huo B.size hnb1; refine aR (aQ (dD rfl ?_))
   exact gT hBDw1 (by unfold wF; rw [if_pos (by omega)]) ((Evo.refl (b :: ob.toList) w).step b5 (eG (Or.inl rfl))) E
  subst I
  have hj16 : ¬ (lo = 0 ∧ hi = -1) := fun h9 => by have := hz16.2 h9; cases this
  refine aM (gR (α := Bool) (fun z25 => [(25, .bool z25)]) [(0, _), (1, _), (2, _)] (fun z25 wr => w = wr ∧ (z25 = true ↔ (lo = 1 ∧ hi = -1))) ⟨rfl, rfl, rfl, trivial⟩ ?_ ?_)
  ·refine aF (aA (wel ?_)); refine aA (bH (t := 28) rfl (fun a1 => ?_) (fun a1 => ?_))
   ·refine aW (aA (aW (wel ?_))); refine bW (bN (aR (aY ?_))); refine ⟨_, ⟨rfl, trivial⟩, ⟨rfl, rfl, rfl, trivial⟩, rfl, ?_⟩
    simp only [decide_eq_true_eq, Bool.false_eq_true, Bool.true_eq_false, true_iff, false_iff, eq_self, iff_true]; omega
   refine aP (aP (bR (bN (aR (aY ?_))))); refine ⟨_, ⟨rfl, trivial⟩, ⟨rfl, rfl, rfl, trivial⟩, rfl, ?_⟩
   simp only [decide_eq_true_eq, Bool.false_eq_true, Bool.true_eq_false, true_iff, false_iff, eq_self, iff_true]; omega
  rintro z25 _ ⟨rfl, hz25⟩; refine aC ?_; show CW _ _ _ _ [(25, _), (0, _), (1, _), (2, _)] _; refine eO rfl (fun J => ?_) (fun J => ?_)
  ·subst J; have hj25 := hz25.1 rfl; refine aF (aA ?_)
   refine aG (vs := [_, _]) dI rfl (eV h (m := [43]) (by decide +kernel) (dV (by decide +kernel)) (by first | omega | (simp only [List.length_append]; omega)) (by decide)) rfl ?_
   rintro _ w9 ⟨obw1, hBDw1, a2, hnb1⟩; have D := (Evo.refl (b :: ob.toList) w); have B := F; have E := eF (Or.inl rfl) hnb1 D.size; have H := fG huo B.size hnb1; refine aR (aQ (dD rfl ?_))
   exact gT hBDw1 (by unfold wF; rw [if_neg (by omega), if_pos (by omega)]) ((Evo.refl (b :: ob.toList) w).step a2 (eG (Or.inl rfl))) E
  subst J
  have hj25 : ¬ (lo = 1 ∧ hi = -1) := fun h9 => by have := hz25.2 h9; cases this
  refine aM (gR (α := Bool) (fun z34 => [(34, .bool z34)]) [(0, _), (1, _), (2, _)] (fun z34 wr => w = wr ∧ (z34 = true ↔ (lo = 0 ∧ hi = 1))) ⟨rfl, rfl, rfl, trivial⟩ ?_ ?_)
  ·refine aF (aA (wel ?_)); refine aA (bH (t := 37) rfl (fun a3 => ?_) (fun a3 => ?_))
   ·refine aW (aA (aW (wel ?_))); refine bW (bN (aR (aY ?_))); refine ⟨_, ⟨rfl, trivial⟩, ⟨rfl, rfl, rfl, trivial⟩, rfl, ?_⟩
    simp only [decide_eq_true_eq, Bool.false_eq_true, Bool.true_eq_false, true_iff, false_iff, eq_self, iff_true]; omega
   refine aP (aP (bR (bN (aR (aY ?_))))); refine ⟨_, ⟨rfl, trivial⟩, ⟨rfl, rfl, rfl, trivial⟩, rfl, ?_⟩
   simp only [decide_eq_true_eq, Bool.false_eq_true, Bool.true_eq_false, true_iff, false_iff, eq_self, iff_true]; omega
  rintro z34 _ ⟨rfl, hz34⟩; refine aC ?_; show CW _ _ _ _ [(34, _), (0, _), (1, _), (2, _)] _; refine eO rfl (fun L => ?_) (fun L => ?_)
  ·subst L; have hj34 := hz34.1 rfl; refine aF (aA ?_)
   refine aG (vs := [_, _]) dI rfl (eV h (m := [63]) (by decide +kernel) (dV (by decide +kernel)) (by first | omega | (simp only [List.length_append]; omega)) (by decide)) rfl ?_
   rintro _ b6 ⟨obw1, hBDw1, a4, hnb1⟩; have D := (Evo.refl (b :: ob.toList) w); have B := F; have E := eF (Or.inl rfl) hnb1 D.size; have H := fG huo B.size hnb1; refine aR (aQ (dD rfl ?_))
   exact gT hBDw1 (by unfold wF; rw [if_neg (by omega), if_neg (by omega), if_pos (by omega)]) ((Evo.refl (b :: ob.toList) w).step a4 (eG (Or.inl rfl))) E
  subst L
  have hj34 : ¬ (lo = 0 ∧ hi = 1) := fun h9 => by have := hz34.2 h9; cases this
  refine csr (aA (wel ?_)); refine wan (aZ rfl (fun a5 => ?_) (fun a5 => ?_))
  ·refine aF (aA (aA ?_)); refine aG (vs := [_]) oW rfl (yQ (hG.evo0 F) lo (by omega) (by omega)) rfl ?_; rintro _ b7 ⟨rfl, M⟩; have W := (Evo.refl (b :: ob.toList) w).then M
   skip
   refine aB (lC rfl rfl (by simp only [oG, kA, oF, tF, bap, bsz, List.length_append, List.length_cons, List.length_nil]; omega)) ?_
   simp only [oG, kA, oF, tF, bap]
   skip
   refine aB (lC rfl rfl (by simp only [oG, kA, oF, tF, bap, bsz, List.length_append, List.length_cons, List.length_nil]; omega)) ?_
   simp only [oG, kA, oF, tF, bap]
   refine aG (vs := [_, _]) dI rfl (eV (h.evo0 M) (m := [123] ++ uB lo.toNat ++ [44, 125]) rfl (((dV (by decide +kernel)).app V).app (dV (by decide +kernel))) (by first | omega | (simp only [List.length_append]; omega)) (by simp only [List.length_append, List.length_cons, List.length_nil]; omega)) rfl ?_
   rintro _ b8 ⟨obw1, hBDw1, a6, hnb1⟩; have D := W; have B := (F.then M); have E := eF (Or.inl rfl) hnb1 D.size; have H := fG huo B.size hnb1; refine aR (aQ (dD rfl ?_))
   exact gT hBDw1 (by unfold wF; rw [if_neg (by omega), if_neg (by omega), if_neg (by omega), if_pos (by omega)]) (W.step a6 (eG (Or.inl rfl))) E
  refine csr (aA (aA (wel ?_))); refine wan (aZ rfl (fun a7 => ?_) (fun a7 => ?_))
  ·refine aF (aA (aA ?_)); refine aG (vs := [_]) oW rfl (yQ (hG.evo0 F) lo (by omega) (by omega)) rfl ?_; rintro _ b9 ⟨rfl, O⟩; have Y := (Evo.refl (b :: ob.toList) w).then O
   skip
   refine aB (lC rfl rfl (by simp only [oG, kA, oF, tF, bap, bsz, List.length_append, List.length_cons, List.length_nil]; omega)) ?_
   simp only [oG, kA, oF, tF, bap]
   skip
   refine aB (lC rfl rfl (by simp only [oG, kA, oF, tF, bap, bsz, List.length_append, List.length_cons, List.length_nil]; omega)) ?_
   simp only [oG, kA, oF, tF, bap]
   refine aG (vs := [_, _]) dI rfl (eV (h.evo0 O) (m := [123] ++ uB lo.toNat ++ [125]) rfl (((dV (by decide +kernel)).app V).app (dV (by decide +kernel))) (by first | omega | (simp only [List.length_append]; omega)) (by simp only [List.length_append, List.length_cons, List.length_nil]; omega)) rfl ?_
   rintro _ c0 ⟨obw1, hBDw1, a8, hnb1⟩; have D := Y; have B := (F.then O); have E := eF (Or.inl rfl) hnb1 D.size; have H := fG huo B.size hnb1; refine aR (aQ (dD rfl ?_))
   exact gT hBDw1 (by unfold wF; rw [if_neg (by omega), if_neg (by omega), if_neg (by omega), if_neg (by omega), if_pos (by omega)]) (Y.step a8 (eG (Or.inl rfl))) E
  have hd3 := hd2 (by omega); refine aF (aA (aA ?_)); refine aG (vs := [_]) oW rfl (yQ (hG.evo0 F) lo (by omega) (by omega)) rfl ?_; rintro _ c1 ⟨rfl, G⟩
  skip
  refine aB (lC rfl rfl (by simp only [oG, kA, oF, tF, bap, bsz, List.length_append, List.length_cons, List.length_nil]; omega)) ?_
  simp only [oG, kA, oF, tF, bap]
  skip
  refine aB (lC rfl rfl (by simp only [oG, kA, oF, tF, bap, bsz, List.length_append, List.length_cons, List.length_nil]; omega)) ?_
  simp only [oG, kA, oF, tF, bap]; refine aA ?_; refine aG (vs := [_]) oW rfl (yQ (hG.evo0 (F.then G)) hi (by omega) (by omega)) rfl ?_; rintro _ c3 ⟨rfl, U⟩; have Z := ((Evo.refl (b :: ob.toList) w).then G).then U
  skip
  refine aB (lC rfl rfl (by simp only [oG, kA, oF, tF, bap, bsz, List.length_append, List.length_cons, List.length_nil]; omega)) ?_
  simp only [oG, kA, oF, tF, bap]
  skip
  refine aB (lC rfl rfl (by simp only [oG, kA, oF, tF, bap, bsz, List.length_append, List.length_cons, List.length_nil]; omega)) ?_
  simp only [oG, kA, oF, tF, bap]
  refine aG (vs := [_, _]) dI rfl (eV ((h.evo0 G).evo0 U) (m := [123] ++ uB lo.toNat ++ [44] ++ uB hi.toNat ++ [125]) rfl (((((dV (by decide +kernel)).app V).app (dV (by decide +kernel))).app b4).app (dV (by decide +kernel))) (by first | omega | (simp only [List.length_append]; omega)) (by simp only [List.length_append, List.length_cons, List.length_nil]; omega)) rfl ?_
  rintro _ c4 ⟨obw1, hBDw1, a9, hnb1⟩; have D := Z; have B := ((F.then G).then U); have E := eF (Or.inl rfl) hnb1 D.size; have H := fG huo B.size hnb1; refine aR (aQ (dD rfl ?_))
  exact gT hBDw1 (by unfold wF; rw [if_neg (by omega), if_neg (by omega), if_neg (by omega), if_neg (by omega), if_neg (by omega)]) (Z.step a9 (eG (Or.inl rfl))) E
end Go.Proofs.YtljadkcojnlioaaGreatDoor
namespace Go.Proofs.YtljadkcojnlioaaGreatDoor
open Go.ChangeAt Go.ChangeShapes Go.RowKit Go.W Go.WideShapes
abbrev laidL : List (String × DataW Unit) := [("math/bits.deBruijn32tab", Rows.laid_math_bits_deBruijn32tab), ("math/bits.deBruijn64tab", Rows.laid_math_bits_deBruijn64tab), ("internal/strconv.uint64pow10", Rows.laid_internal_strconv_uint64pow10)]
theorem own : ownKnob Tryz.prog.godebug = none := by kernel_rfl
theorem laidOut : laidOutB Tryz.prog = true := by kernel_rfl
theorem UY : true = Tryz.pinned.checked.prog.looks [] := by kernel_rfl
theorem gw_of {W : World} (hL : laidMetH Tryz.prog laidL W) (hsh : W.ShapedOpen Tryz.prog) : Gw W := by
  refine ⟨Tryz.laysM143.s1_3 W hsh, ?_, ?_⟩
  · have h0 : laidMetH Tryz.prog [("math/bits.deBruijn64tab", Rows.laid_math_bits_deBruijn64tab)] W := by
      have := hL.filter (fun x => x.1 == "math/bits.deBruijn64tab")
      rw [show laidL.filter (fun x => x.1 == "math/bits.deBruijn64tab") = [("math/bits.deBruijn64tab", Rows.laid_math_bits_deBruijn64tab)] from by kernel_rfl] at this
      exact this
    have h1 : Lib.TabIs Tryz.prog W "math/bits.deBruijn64tab" .u8 (Lib.deBruijn64tab.map fun n : Nat => (n : Int)) := Lib.tabIs_of_head (rest := []) (g := gTz) (by kernel_rfl) (by kernel_rfl) Tryz.underlying205 Tryz.underlying5 (by kernel_rfl) (by kernel_rfl) h0
    intro k hk
    have h2 := h1.cell (show Tryz.prog.globalNamed "math/bits.deBruijn64tab" = some gTz by kernel_rfl) k (by simpa using (show k < Lib.deBruijn64tab.length from hk))
    rw [h2]
    have hl : k < Lib.deBruijn64tab.length := hk
    simp [List.getD_eq_getElem?_getD, hl]
  · have h0 : laidMetH Tryz.prog [("internal/strconv.uint64pow10", Rows.laid_internal_strconv_uint64pow10)] W := by
      have := hL.filter (fun x => x.1 == "internal/strconv.uint64pow10")
      rw [show laidL.filter (fun x => x.1 == "internal/strconv.uint64pow10") = [("internal/strconv.uint64pow10", Rows.laid_internal_strconv_uint64pow10)] from by kernel_rfl] at this
      exact this
    exact Lib.tabIs_of_head (rest := []) (g := 1) (by kernel_rfl) (by kernel_rfl) Tryz.underlying186 Tryz.underlying176 (by kernel_rfl) (by kernel_rfl) h0
def zF (l : List Value) : Obj → Obj
  | .cells _ t frozen => .cells l.toArray t frozen
  | o => o
noncomputable def wQ (os : Os) : World :=
  { World.holding Tryz.prog os ⟨#[], #[], []⟩ with heap := (((World.holding Tryz.prog os ⟨#[], #[], []⟩).heap.modify 3 (zF (Lib.deBruijn64tab.map fun n : Nat => Value.int .u8 (n : Int)))).modify 1 (zF (Lib.pow10Tab.map fun n : Int => Value.int .u64 n))).modify 2 (zF (Lib.deBruijn32tab.map fun n : Nat => Value.int .u8 (n : Int))) }
end Go.Proofs.YtljadkcojnlioaaGreatDoor
namespace Go.Proofs.YtljadkcojnlioaaGreatDoor
open Go.RowKit Go.W
attribute [local irreducible] Decidable.decide
theorem vS : dW Tryz.prog 133 := ⟨_, Tryz.func133, by kernel_rfl, by kernel_rfl⟩
theorem oR : dW Tryz.prog 142 := ⟨_, Tryz.func142, by kernel_rfl, by kernel_rfl⟩
theorem vP : dW Tryz.prog 144 := ⟨_, Tryz.func144, by kernel_rfl, by kernel_rfl⟩
theorem GC : dW Tryz.prog 145 := ⟨_, Tryz.func145, by kernel_rfl, by kernel_rfl⟩
theorem GB : dW Tryz.prog 146 := ⟨_, Tryz.func146, by kernel_rfl, by kernel_rfl⟩
theorem vO : dW Tryz.prog 147 := ⟨_, Tryz.func147, by kernel_rfl, by kernel_rfl⟩
def LetU (w w' : World) (v : Value) (o : Option (Int → Prop)) : Prop := ∃ a c ob l, v = .tuple #[.slice a l.length c, .bool o.isSome] ∧ OwnS w' 56 2 a l.length c (cS l) ob ∧ Ge w ob ∧ Vr l ∧ l.length ≤ 8 ∧ ∀ S, o = some S → ∀ c, InR c l ↔ S c
theorem LetOut.uni {w w' : World} {v : Value} {o : Option (Int → Prop)} (h : LetOut w w' v o) : LetU w w' v o := by
  rcases h with ⟨rfl, rfl⟩ | ⟨S, v', rfl, rfl, a, c, ob, l, rfl, h2, h3, h4, h5, h6⟩
  · exact ⟨none, 0, none, [], rfl, OwnS.nil _ _ _, Ge.nil _, (fun g hg => by cases hg), Nat.zero_le _, fun S h => by cases h⟩
  · exact ⟨a, c, ob, l, rfl, h2, h3, h4, h6, fun S' e => by cases e; exact h5⟩
theorem DL {α : Type} {o : Option α} (h : o.isSome = true) : ∃ x, o = some x := Option.isSome_iff_exists.1 h
theorem none_of {α : Type} {o : Option α} (h : (!o.isSome) = true) : o = none := by cases o with | none => rfl | some x => cases h
theorem AD {α : Type} {o : Option α} (h : o.isSome = false) : o = none := by cases o with | none => rfl | some x => cases h
theorem OI {s : ByteArray} {a b j : Nat} (h : 0 ≤ IN s a b j) : ∃ k, jL s a b s.size j = some k ∧ IN s a b j = (k : Int) - (j : Nat) ∧ j ≤ k ∧ k + 1 < s.size := by
  unfold IN at *
  cases hf : jL s a b s.size j with
  | none => rw [hf] at h; exact absurd h (show ¬ (0 : Int) ≤ -1 by omega)
  | some k =>
    obtain ⟨h1, h2, h3⟩ := (lU s a b s.size j (by omega)).1 k hf
    exact ⟨k, rfl, rfl, h1, h2.1⟩
theorem VW {s : ByteArray} {a b j : Nat} (h : ¬ 0 ≤ IN s a b j) : jL s a b s.size j = none := by
  unfold IN at h
  cases hf : jL s a b s.size j with
  | none => rfl
  | some k =>
    rw [hf] at h
    obtain ⟨h1, h2, h3⟩ := (lU s a b s.size j (by omega)).1 k hf
    exact absurd (show (0 : Int) ≤ (k : Int) - j by omega) h
section
variable {s : ByteArray} {i k j m : Nat} {S : Int → Prop} {r q : Int} {e : Int}
theorem VH (h1 : isB s i 91 ∧ isB s (i + 1) 58) (h2 : jL s 58 93 s.size (i + 2) = some k) (h3 : i + 2 < k ∧ sb s (i + 2) = 94) (h4 : fW (s.extract (i + 3) k) = some S) : jD s i = .ok (lO S, k + 2) := by unfold jD; rw [if_pos h1, h2]; show (if _ then _ else _) = _; rw [if_pos h3, h4]
theorem OB (h1 : isB s i 91 ∧ isB s (i + 1) 58) (h2 : jL s 58 93 s.size (i + 2) = some k) (h3 : i + 2 < k ∧ sb s (i + 2) = 94) (h4 : fW (s.extract (i + 3) k) = none) : jD s i = .error 81 := by unfold jD; rw [if_pos h1, h2]; show (if _ then _ else _) = _; rw [if_pos h3, h4]
theorem VF (h1 : isB s i 91 ∧ isB s (i + 1) 58) (h2 : jL s 58 93 s.size (i + 2) = some k) (h3 : ¬ (i + 2 < k ∧ sb s (i + 2) = 94)) (h4 : fW (s.extract (i + 2) k) = some S) : jD s i = .ok (S, k + 2) := by unfold jD; rw [if_pos h1, h2]; show (if _ then _ else _) = _; rw [if_neg h3, h4]
theorem OA (h1 : isB s i 91 ∧ isB s (i + 1) 58) (h2 : jL s 58 93 s.size (i + 2) = some k) (h3 : ¬ (i + 2 < k ∧ sb s (i + 2) = 94)) (h4 : fW (s.extract (i + 2) k) = none) : jD s i = .error 81 := by unfold jD; rw [if_pos h1, h2]; show (if _ then _ else _) = _; rw [if_neg h3, h4]
theorem tB (h : (isB s i 91 ∧ isB s (i + 1) 58) → jL s 58 93 s.size (i + 2) = none) : jD s i = lD s i := by
  unfold jD
  by_cases h1 : isB s i 91 ∧ isB s (i + 1) 58
  · rw [if_pos h1, h h1]
  · rw [if_neg h1]
theorem VG (h1 : i + 1 < s.size ∧ sb s i = 92) (h2 : tW (sb s (i + 1)) = some S) : lD s i = .ok (S, i + 2) := by unfold lD; rw [if_pos h1, h2]
theorem AJ (h : (i + 1 < s.size ∧ sb s i = 92) → tW (sb s (i + 1)) = none) : lD s i = iP s i := by
  unfold lD
  by_cases h1 : i + 1 < s.size ∧ sb s i = 92
  · rw [if_pos h1, h h1]
  · rw [if_neg h1]
theorem DY (h : kZ s i = .error e) : iP s i = .error e := by unfold iP; rw [h]
theorem DW (h : kZ s i = .ok (r, j)) (h2 : ¬ (isB s j 45 ∧ j + 1 < s.size ∧ sb s (j + 1) ≠ 93)) : iP s i = .ok (rgS r r, j) := by unfold iP; rw [h]; show (if _ then _ else _) = _; rw [if_neg h2]
theorem DX (h : kZ s i = .ok (r, j)) (h2 : isB s j 45 ∧ j + 1 < s.size ∧ sb s (j + 1) ≠ 93) (h3 : kZ s (j + 1) = .error e) : iP s i = .error e := by unfold iP; rw [h]; show (if _ then _ else _) = _; rw [if_pos h2, h3]
theorem SV (h : kZ s i = .ok (r, j)) (h2 : isB s j 45 ∧ j + 1 < s.size ∧ sb s (j + 1) ≠ 93) (h3 : kZ s (j + 1) = .ok (q, m)) (h4 : q < r) : iP s i = .error 81 := by unfold iP; rw [h]; show (if _ then _ else _) = _; rw [if_pos h2, h3]; show (if _ then _ else _) = _; rw [if_pos h4]
theorem SR (h : kZ s i = .ok (r, j)) (h2 : isB s j 45 ∧ j + 1 < s.size ∧ sb s (j + 1) ≠ 93) (h3 : kZ s (j + 1) = .ok (q, m)) (h4 : ¬ q < r) : iP s i = .ok (rgS r q, m) := by unfold iP; rw [h]; show (if _ then _ else _) = _; rw [if_pos h2, h3]; show (if _ then _ else _) = _; rw [if_neg h4]
end
theorem AF {s : ByteArray} {a : Nat} (h : 0 < (cL s a).2) {t : Nat} (h1 : 1 ≤ t) (h2 : t < (cL s a).2) : 128 ≤ sb s (a + t) := by
  have ha : a < s.size := by
    rcases Nat.lt_or_ge a s.size with h3 | h3
    · exact h3
    · rw [pL h3] at h; cases h
  rcases gW s a ha with ⟨w, hw1, hw4, hws, hit, -⟩ | ⟨hn, -⟩
  · obtain ⟨e, -⟩ := pM hw1 hw4 hws hit
    rw [e] at h2
    replace h2 : t < w := h2
    match w, hw1, hw4, hit, h2 with
    | 1, _, _, _, h2 => omega
    | 2, _, _, hit, h2 =>
      have := (hit2 s a).1 hit
      obtain rfl : t = 1 := by omega
      omega
    | 3, _, _, hit, h2 =>
      have := (hit3 s a).1 hit
      obtain rfl | rfl : t = 1 ∨ t = 2 := by omega
      · omega
      · omega
    | 4, _, _, hit, h2 =>
      have := (hit4 s a).1 hit
      obtain rfl | rfl | rfl : t = 1 ∨ t = 2 ∨ t = 3 := by omega
      · omega
      · omega
      · omega
  · rw [pE hn] at h; cases h
theorem nH {s : ByteArray} {i k : Nat} (hb : Bd s i) (hik : i ≤ k) (hk : k < s.size) (ha : sb s k < 128) : Bd s k := by
  obtain ⟨N, -, hU, -, -⟩ := hb
  have key : ∀ m, m ≤ N → k < aU s m → ∃ n, n < N ∧ aU s n ≤ k ∧ k < aU s (n + 1) := by
    intro m
    induction m with
    | zero => intro _ h; exact absurd h (Nat.not_lt_zero _)
    | succ m ih =>
      intro hm h
      by_cases h1 : k < aU s m
      · exact ih (by omega) h1
      · exact ⟨m, hm, by omega, h⟩
  obtain ⟨n, h1, h2, h3⟩ := key N (Nat.le_refl _) (by rw [hU.1]; exact hk)
  rcases Nat.eq_or_lt_of_le h2 with e | e
  · exact ⟨N, n, hU, by omega, e⟩
  · have h4 := AF (hU.2 n h1) (t := k - aU s n) (by omega) (by rw [aU] at h3; omega)
    rw [show aU s n + (k - aU s n) = k by omega] at h4
    omega
theorem SU (r q x : Int) : InR x [(r, q)] ↔ rgS r q x := by rw [lB]; exact Iff.rfl
theorem yN {s : ByteArray} {i j : Nat} {S : Int → Prop} (h : jD s i = .ok (S, j)) (hb : Bd s i) (hi : i < s.size) : Bd s j ∧ i < j := by
  have hrange : iP s i = .ok (S, j) → Bd s j ∧ i < j := fun h => by
    unfold iP at h
    cases h1 : kZ s i with
    | error e => rw [h1] at h; cases h
    | ok x =>
      obtain ⟨lo, k⟩ := x
      obtain ⟨h2, h3, -⟩ := EI h1 hb hi
      rw [h1] at h
      replace h : (if isB s k 45 ∧ k + 1 < s.size ∧ sb s (k + 1) ≠ 93 then (match kZ s (k + 1) with | .error e => .error e | .ok (hi, k) => if hi < lo then .error 81 else .ok (rgS lo hi, k)) else .ok (rgS lo lo, k) : PR) = .ok (S, j) := h
      split at h
      · rename_i h4
        have h5 := h4.1.asc (by decide) h2
        cases h6 : kZ s (k + 1) with
        | error e => rw [h6] at h; cases h
        | ok y =>
          obtain ⟨hi2, m⟩ := y
          obtain ⟨h7, h8, -⟩ := EI h6 h5 h4.2.1
          rw [h6] at h
          replace h : (if hi2 < lo then .error 81 else .ok (rgS lo hi2, m) : PR) = .ok (S, j) := h
          split at h
          · cases h
          · cases h; exact ⟨h7, by omega⟩
      · cases h; exact ⟨h2, h3⟩
  have hrest : lD s i = .ok (S, j) → Bd s j ∧ i < j := fun h => by
    unfold lD at h
    split at h
    · rename_i h1
      cases h2 : tW (sb s (i + 1)) with
      | none => rw [h2] at h; exact hrange h
      | some S' =>
        rw [h2] at h
        cases h
        have h3 := (hb.asc hi (by omega)).1
        refine ⟨(h3.asc h1.1 ?_).1, by omega⟩
        rcases Nat.lt_or_ge (sb s (i + 1)) 128 with h4 | h4
        · exact h4
        · rw [mI (by omega)] at h2; cases h2
    · exact hrange h
  unfold jD at h
  split at h
  · rename_i h1
    cases h2 : jL s 58 93 s.size (i + 2) with
    | none => rw [h2] at h; exact hrest h
    | some k =>
      rw [h2] at h
      obtain ⟨h3, h4, -⟩ := (lU s 58 93 s.size (i + 2) (by omega)).1 k h2
      have hk : ∃ S', (.ok (S', k + 2) : PR) = .ok (S, j) := by
        replace h : (if i + 2 < k ∧ sb s (i + 2) = 94 then (match fW (s.extract (i + 3) k) with | none => .error 81 | some S => .ok (lO S, k + 2)) else (match fW (s.extract (i + 2) k) with | none => .error 81 | some S => .ok (S, k + 2)) : PR) = .ok (S, j) := h
        split at h
        · split at h
          · cases h
          · exact ⟨_, h⟩
        · split at h
          · cases h
          · exact ⟨_, h⟩
      obtain ⟨S', h5⟩ := hk
      cases h5
      have h6 : Bd s k := nH hb (by omega) (by have := h4.1; omega) (by have := h4.2.1; omega)
      exact ⟨isB.asc (b := 93) ⟨h4.1, h4.2.2⟩ (by decide) (isB.asc (b := 58) ⟨by have := h4.1; omega, h4.2.1⟩ (by decide) h6), by omega⟩
  · exact hrest h
theorem cut_iff {s : ByteArray} {i k : Nat} (hk : k ≤ s.size) : (Pre (s.extract i k) (ByteArray.mk #[94]) ↔ i < k ∧ sb s i = 94) ∧ (i < k → (s.extract i k).extract (ByteArray.mk #[94]).size (s.extract i k).size = s.extract (i + 1) k) := by
  have hns := gF (s := s) (a := i) (b := k) hk
  constructor
  · rw [TE]
    constructor
    · rintro ⟨h1, h2⟩
      rw [hns] at h1
      rw [fP hk (by omega)] at h2
      exact ⟨by omega, h2⟩
    · rintro ⟨h1, h2⟩
      exact ⟨by rw [hns]; omega, by rw [fP hk (by omega)]; exact h2⟩
  · intro h1
    show (s.extract i k).extract 1 (s.extract i k).size = _
    apply BB
    · rw [gF (Nat.le_refl _), hns, gF hk]; omega
    · intro j hj
      rw [gF (Nat.le_refl _), hns] at hj
      rw [fP (Nat.le_refl _) (by rw [hns]; omega), fP hk (by omega), fP hk (by omega), Nat.add_assoc]
theorem NY {w : World} {b : Nat} {s : ByteArray} {st : PS} {a : Option Addr} {c : Nat} {ob : Option Nat} (hR : RdAt w b s st a c ob) (hs : s.size ≤ 1000000) (hlt : st.pos < s.size) (hb : Bd s st.pos) (hG : Glb w) :
    Calls Tryz.prog 129 #[.pointer (some ⟨b, 0, none⟩)] w (RetP (fun v w' => ∃ S j, jD s st.pos = .ok (S, j) ∧ BI w w' v S 16 ∧ Evo [b] w w' ∧ RdAt w' b s (jY st j) a c ob) (fun v w' => ∃ e, jD s st.pos = .error e ∧ v = flt e ∧ Evo [b] w w')) := by
  have hap := hR.ap; have hgb : pR ∉ [b] := fun h => hR.glb hG (List.mem_singleton.1 h).symm
  have hle : st.pos ≤ s.size := by omega
  have hrs := gF (s := s) (a := st.pos) (Nat.le_refl s.size); have e0 : sb (s.extract st.pos s.size) 0 = sb s st.pos := iU (by omega); refine bE (N := 126) Tryz.func129 rfl rfl rfl ?_; refine csr (wan (aM ?_)); refine eK (by kernel_rfl) (by kernel_rfl) ?_; refine bG (fun _ D => bC rfl) ?_; refine bG (fun _ D => aH rfl) ?_; refine bG (fun _ D => aD rfl eA) ?_; refine bG (fun _ D => aX rfl dG (bI (D.blk0 hR.blk) rfl)) ?_; refine bG (fun _ D => bC rfl) ?_; refine bG (fun _ D => aH rfl) ?_; refine bG (fun _ D => aD rfl bP) ?_; refine bG (fun _ D => aX rfl bD (bI (D.blk0 hR.blk) rfl)) ?_; refine bG (fun _ D => lG (l := st.pos) rfl rfl Tryz.underlying9 rfl hle) ?_; refine bG (fun _ D => cR rfl) ?_; refine eN (fun e6 D => aC ?_); have c8 := (Evo.refl [b] w).then D; refine aM (gR (α := Unit) (fun x => []) [(0, _), (3, _)] (fun x wr => Evo [] e6 wr ∧ (jD s st.pos = lD s st.pos)) ⟨rfl, rfl, trivial⟩ ?_ ?_)
  ·refine csr (aA ?_); refine aG (vs := [_, _]) oR rfl (yS (s.extract st.pos s.size) (ByteArray.mk #[91, 58]) (by omega) (show 2 ≤ 140737488355328 by omega)) rfl ?_; rintro _ w6 ⟨rfl, Y⟩; have e7 := (Evo.refl [] e6).then Y; refine wnn (aZ rfl (fun Z => ?_) (fun Z => ?_))
   ·have hh2 := (pre2 hle).1 Z; refine csr (aA ?_)
    refine aB (FA (l := 2) rfl rfl Tryz.underlying9 rfl (by have := hh2.2.1; omega) (WC hle)) ?_
    refine aG (vs := [_, _]) vP rfl (OC s 58 93 (st.pos + 2) (by have := hh2.2.1; omega) hs (hG.evo (c8.then Y) hgb)) rfl ?_
    rintro _ h0 ⟨rfl, J⟩; have f5 := e7.then J; refine wan (csr (aA (aB (dQ rfl rfl) ?_))); refine wnn (aZ rfl (fun a0 => ?_) (fun a0 => ?_))
    ·obtain ⟨k, hk, hfk, hk2, hk3⟩ := OI a0; rw [hfk]
     have e33 : (s.extract st.pos s.size).extract 2 (k - st.pos) = s.extract (st.pos + 2) k := by rw [AS (by omega) (by omega), show st.pos + (k - st.pos) = k by omega]
     have hns := gF (s := s) (a := st.pos + 2) (b := k) (by omega); have hcut := cut_iff (s := s) (i := st.pos + 2) (k := k) (by omega); refine csr (aA (aA ?_)); refine aB (aI rfl rfl (by omega) (by omega)) ?_; refine aB (sG (l := 2) (h := k - st.pos) rfl rfl rfl Tryz.underlying9 rfl (by omega) (by omega) (by omega) e33) ?_; refine aG (vs := [_, _]) GC rfl (cut_ok (s.extract (st.pos + 2) k) (ByteArray.mk #[94]) (by omega) (show 1 ≤ 140737488355328 by omega)) rfl ?_; rintro _ h5 ⟨rfl, a2⟩; have c9 := ((c8.then Y).then J).then a2; have a3 := a2.blk0 (J.blk0 (Y.blk0 (D.blk0 hR.blk)))
     generalize hnm : (if Pre (s.extract (st.pos + 2) k) (ByteArray.mk #[94]) then (s.extract (st.pos + 2) k).extract (ByteArray.mk #[94]).size (s.extract (st.pos + 2) k).size else s.extract (st.pos + 2) k) = nm
     refine aA (aB (cC rfl rfl) ?_); refine aB (cC rfl rfl) ?_; refine bN (wan (csr (aA (aG (vs := [_]) GB rfl (US nm) rfl ?_)))); rintro rv h6 ⟨hL, L⟩; obtain ⟨a1, c1, ob1, l1, rfl, F, hg1, hv1, hl1, c3⟩ := hL.uni; have d0 := c9.then L; refine aA (aB (cC rfl rfl) ?_); refine aB (cC rfl rfl) ?_; refine bN (wan (aM (csr (aA (aB (fV rfl) ?_))))); refine wnn (eO rfl (fun a4 => ?_) (fun a4 => ?_))
     ·refine aF (cT (vs := [_]) dJ rfl (fU 81) rfl ?_ ?_)
      ·intro pv wp hpp; obtain ⟨rfl, hpw⟩ := hpp; have hno := none_of a4; refine And.intro rfl ⟨_, rfl, _, ?_, rfl, (d0).then hpw⟩
       by_cases hP : Pre (s.extract (st.pos + 2) k) (ByteArray.mk #[94])
       · have h9 := hcut.1.1 hP; rw [if_pos hP, hcut.2 h9.1] at hnm; subst hnm; exact OB hh2 hk h9 hno
       · rw [if_neg hP] at hnm; subst hnm; exact OA hh2 hk (fun h => hP (hcut.1.2 h)) hno
      intro _ _ hF; exact hF.elim
     obtain ⟨S1, hS1'⟩ := DL (by simpa using a4); refine aN (aC (csr (aA (aB (aH rfl) (wfl rfl bP rfl bD (L.blk0 a3) rfl (aA ?_)))))); refine aB (aI rfl rfl (by omega) (by omega)) ?_; refine aB (OQ (r := ((k + 2 : Nat) : Int)) rfl rfl (by omega) (by omega) (by omega)) ?_; refine aB (aH rfl) (aB (aD rfl bP) (bJ rfl rfl (rfl) bY (L.blk0 a3) rfl fun h7 a5 a6 => ?_))
     have a7 := d0.step a6 (by intro y hy; left; simpa using hy)
     have d1 := (((((hR.own.evo0 D).evo0 Y).evo0 J).evo0 a2).evo0 L).evo a6 hap.symm.own1; have d2 := F.evo a6 (Apart.fresh (Lt.blk a3) hg1).symm.own1
     try simp only [cH, Nat.reduceAdd] at a5
     refine wnn (aM (csr (aA (wnn (aZ rfl (fun G => ?_) (fun G => ?_))))))
     ·refine aF (aA ?_); refine aG (vs := [_]) lJ rfl (nF d2 hv1 (by omega) (c3 S1 hS1')) rfl ?_; rintro rv h8 e8; have a8 := e8.evo; refine wan (csr (aA (wan (aK (aE (aE (cU (br1 ?_)))))))); have h9 := hcut.1.1 G; rw [if_pos G, hcut.2 h9.1] at hnm; subst hnm; exact ⟨_, _, VH hh2 hk h9 hS1', sZ (e8.set a7) (by omega), (a7.then a8), ⟨(a8.blk0 a5), (d1.evo0 a8), hR.ne⟩⟩
     refine aN (aC (csr (aA (wan (aK (aE (aE (cU (br1 ?_))))))))); rw [if_neg G] at hnm; subst hnm; exact ⟨_, _, VF hh2 hk (fun h => G (hcut.1.2 h)) hS1', ⟨_, _, _, _, rfl, d2, (Ge.fresh c9 hg1), hv1, c3 S1 hS1', by omega⟩, a7, ⟨a5, d1, hR.ne⟩⟩
    refine aN (aY ?_); refine ⟨(), trivial, ⟨rfl, rfl, trivial⟩, f5, ?_⟩; exact tB (fun _ => VW a0)
   refine aN (aY ?_); refine ⟨(), trivial, ⟨rfl, rfl, trivial⟩, e7, ?_⟩; exact tB (fun h => (Z ((pre2 hle).2 h)).elim)
  rintro x c4 ⟨a9, hIR⟩; refine aC ?_; show CW _ _ _ _ [(0, _), (3, _)] _; have b4 := c8.then a9; have M := a9.blk0 (D.blk0 hR.blk); have d3 := (hR.own.evo0 D).evo0 a9; refine aM (gR (α := Unit) (fun x => []) [(0, _), (3, _)] (fun x wr => Evo [] c4 wr ∧ (lD s st.pos = iP s st.pos)) ⟨rfl, rfl, trivial⟩ ?_ ?_)
  ·refine csr (aA (aB (cQ rfl Tryz.underlying9 rfl) ?_)); refine aB (eW rfl rfl) ?_; refine aA (bH (t := 61) rfl (fun f6 => ?_) (fun f6 => ?_))
   ·have e1 : sb (s.extract st.pos s.size) 1 = sb s (st.pos + 1) := iU (by omega); refine aW (aA (aW ?_)); refine aB (kV (n := 0) rfl rfl Tryz.underlying9 rfl (by omega) e0) ?_; refine aW (wel ?_); refine bW (wnn (aZ rfl (fun f7 => ?_) (fun f7 => ?_)))
    ·refine csr (aA ?_); refine aB (kV (n := 1) rfl rfl Tryz.underlying9 rfl (by omega) e1) ?_; refine aG (vs := [_]) vS rfl (uU (sb s (st.pos + 1)) (iC s _)) rfl ?_; rintro rv i0 ⟨hL, H⟩; obtain ⟨a1, c1, ob1, l1, rfl, F, hg1, hv1, hl1, c3⟩ := hL.uni; refine aA (aB (cC rfl rfl) ?_); refine aB (cC rfl rfl) ?_; refine bN (wan (csr (aA (wnn (eO rfl (fun b5 => ?_) (fun b5 => ?_))))))
     ·obtain ⟨S1, hS1'⟩ := DL b5; refine csr (aA (aB (aH rfl) (wfl rfl bP rfl bD (H.blk0 M) rfl ?_))); refine aB (aI rfl rfl (by omega) (by omega)) ?_; refine aB (aH rfl) (aB (aD rfl bP) (bJ rfl rfl (rfl) bY (H.blk0 M) rfl fun i1 d4 b6 => ?_))
      have f8 := (b4.then H).step b6 (by intro y hy; left; simpa using hy)
      try simp only [cH, Nat.reduceAdd] at d4
      refine wnn (csr (aA (wan (aK (aE (aE (cU (br1 ?_)))))))); exact ⟨_, _, (hIR).trans (VG ⟨by omega, by omega⟩ hS1'), ⟨_, _, _, _, rfl, (F.evo b6 (Apart.fresh (Lt.blk M) hg1).symm.own1), (Ge.fresh b4 hg1), hv1, c3 S1 hS1', by omega⟩, f8, ⟨d4, ((d3.evo0 H).evo b6 hap.symm.own1), hR.ne⟩⟩
     refine aN (aY ?_); refine ⟨(), trivial, ⟨rfl, rfl, trivial⟩, ((Evo.refl [] c4).then H), ?_⟩; exact AJ (fun _ => AD b5)
    refine aN (aY ?_); refine ⟨(), trivial, ⟨rfl, rfl, trivial⟩, (Evo.refl [] c4), ?_⟩; exact AJ (fun h => by omega)
   refine aP (aP (aP (bR (wnn (cF rfl ?_))))); refine aN (aY ?_); refine ⟨(), trivial, ⟨rfl, rfl, trivial⟩, (Evo.refl [] c4), ?_⟩; exact AJ (fun h => by omega)
  rintro x i2 ⟨b7, hRG⟩; refine aC ?_; show CW _ _ _ _ [(0, _), (3, _)] _; have d5 := b4.then b7; refine csr (aA (cT (vs := [_]) vO rfl (CE ⟨(b7.blk0 M), (d3.evo0 b7), hR.ne⟩ hs hlt hb) rfl ?_ ?_))
  ·intro pv wp hpp; obtain ⟨hpe, rfl, hpw⟩ := hpp; exact And.intro rfl ⟨_, rfl, _, (hIR).trans ((hRG).trans (DY hpe)), rfl, (d5).step hpw (fun y hy => .inl hy)⟩
  rintro _ i3 ⟨lo, j, hx, rfl, f9, I⟩; obtain ⟨hbj, hij, hlo0, hlo1⟩ := EI hx hb hlt; have hpj : (jY st j).pos = j := rfl; have hbjl := hbj.le; have hrs2 := gF (s := s) (a := j) (Nat.le_refl s.size); refine wan (aM ?_); refine eK (by kernel_rfl) (by kernel_rfl) ?_; refine bG (fun _ B => bC rfl) ?_; refine bG (fun _ B => aH rfl) ?_; refine bG (fun _ B => aD rfl eA) ?_; refine bG (fun _ B => aX rfl dG (bI (B.blk0 I.blk) rfl)) ?_; refine bG (fun _ B => bC rfl) ?_; refine bG (fun _ B => aH rfl) ?_; refine bG (fun _ B => aD rfl bP) ?_; refine bG (fun _ B => aX rfl bD (bI (B.blk0 I.blk) rfl)) ?_; refine bG (fun _ B => lG (l := j) rfl rfl Tryz.underlying9 rfl hbj.le) ?_; refine bG (fun _ B => cR rfl) ?_; refine eN (fun g0 B => aC ?_); have b8 := (d5.step f9 (fun y hy => .inl hy)).then B; have b9 := B.blk0 I.blk; refine aM (aM (gR (α := Bool) (fun z104 => [(104, .bool z104)]) [(0, _), (11, _)] (fun z104 wr => g0 = wr ∧ (z104 = true ↔ (s.size < j + 2 ∨ sb s j ≠ 45 ∨ sb s (j + 1) = 93))) ⟨rfl, rfl, trivial⟩ ?_ ?_))
  ·refine aF (aA (aB (cQ rfl Tryz.underlying9 rfl) ?_)); refine aB (dA rfl rfl) ?_; refine aA (bH (t := 95) rfl (fun g1 => ?_) (fun g1 => ?_))
   ·refine aP (aP (aP (bW (aA (aP (aP (aP (bW (aR (aY ?_)))))))))); refine ⟨_, ⟨rfl, trivial⟩, ⟨rfl, rfl, trivial⟩, rfl, ?_⟩
    simp only [decide_eq_true_eq, Bool.false_eq_true, Bool.true_eq_false, true_iff, false_iff, eq_self, iff_true]; omega
   have f0 : sb (s.extract j s.size) 0 = sb s j := iU (by omega); have f1 : sb (s.extract j s.size) 1 = sb s (j + 1) := iU (by omega); refine aW (aA (aW ?_)); refine aB (kV (n := 0) rfl rfl Tryz.underlying9 rfl (by omega) f0) ?_; refine aW (aB (fE rfl rfl) ?_); refine bR (aA (bH (t := 100) rfl (fun d6 => ?_) (fun d6 => ?_)))
   ·refine aP (aP (aP (bW (aR (aY ?_))))); refine ⟨_, ⟨rfl, trivial⟩, ⟨rfl, rfl, trivial⟩, rfl, ?_⟩
    simp only [decide_eq_true_eq, Bool.false_eq_true, Bool.true_eq_false, true_iff, false_iff, eq_self, iff_true]; omega
   refine aW (aA (aW ?_)); refine aB (kV (n := 1) rfl rfl Tryz.underlying9 rfl (by omega) f1) ?_; refine aW (wel ?_); refine bR (aR (aY ?_)); refine ⟨_, ⟨rfl, trivial⟩, ⟨rfl, rfl, trivial⟩, rfl, ?_⟩
   simp only [decide_eq_true_eq, Bool.false_eq_true, Bool.true_eq_false, true_iff, false_iff, eq_self, iff_true]; omega
  rintro z104 _ ⟨rfl, hz104⟩; refine aC ?_; show CW _ _ _ _ [(104, _), (0, _), (11, _)] _; refine eO rfl (fun O => ?_) (fun O => ?_)
  ·subst O; have hj104 := hz104.1 rfl; refine csr (aA (aA (bL (vs := [_, _]) rfl dT rfl rfl rfl rfl fun i4 i5 g2 g4 U => ?_))); refine aG (vs := [_]) dZ rfl (iB (es := [lo, lo]) g2 (by simp)) rfl ?_; rintro _ i6 ⟨a1, c1, ob1, rfl, F, hg1, c0⟩; have d7 := Ge.fresh (b8.then U) hg1; have d8 := (b8.then U).then c0; have d9 := c0.blk0 (U.blk0 b9); have e2 := ((I.own.evo0 B).evo0 U).evo0 c0; refine wan (aK (aE (cU (br1 ?_))))
   exact ⟨_, _, (hIR).trans ((hRG).trans (DW hx (by rintro ⟨⟨h1, h2⟩, h3, h4⟩; omega))), ⟨_, _, _, [(lo, lo)], rfl, F, d7, (fun g hg => by rw [List.mem_singleton.1 hg]; exact ⟨hlo0, Int.le_refl _, hlo1⟩), SU lo lo, by simp⟩, d8, ⟨d9, e2, hR.ne⟩⟩
  subst O
  have hj104 : ¬ (s.size < j + 2 ∨ sb s j ≠ 45 ∨ sb s (j + 1) = 93) := fun h9 => by have := hz104.2 h9; cases this
  have hdash : isB s j 45 ∧ j + 1 < s.size ∧ sb s (j + 1) ≠ 93 := ⟨⟨by omega, by omega⟩, by omega, by omega⟩; have hbj1 := hdash.1.asc (by decide) hbj; refine aN (aC (csr (aA (aB (aH rfl) (wfl rfl bP rfl bD b9 rfl ?_))))); refine aB (aI rfl rfl (by omega) (by omega)) ?_; refine aB (aH rfl) (aB (aD rfl bP) (bJ rfl rfl (rfl) bY b9 rfl fun g5 c5 c6 => ?_))
  have c7 := b8.step c6 (by intro y hy; left; simpa using hy)
  try simp only [cH, Nat.reduceAdd] at c5
  refine wnn (csr (aA (cT (vs := [_]) vO rfl (CE (st := jY st (j + 1)) ⟨c5, ((I.own.evo0 B).evo c6 I.ap.symm.own1), hR.ne⟩ hs hdash.2.1 hbj1) rfl ?_ ?_)))
  ·intro pv wp hpp; obtain ⟨hpe, rfl, hpw⟩ := hpp; exact And.intro rfl ⟨_, rfl, _, (hIR).trans ((hRG).trans (DX hx hdash hpe)), rfl, (c7).step hpw (fun y hy => .inl hy)⟩
  rintro _ g6 ⟨hi, m, hx2, rfl, e3, e9⟩; have V := c7.step e3 (fun y hy => .inl hy); obtain ⟨hbm, hjm, hhi0, hhi1⟩ := EI hx2 hbj1 hdash.2.1; refine wan (aM (csr (aA (aA (aB (dA rfl rfl) ?_))))); refine wnn (aZ rfl (fun e4 => ?_) (fun e4 => ?_))
  ·refine aF (cT (vs := [_]) dJ rfl (fU 81) rfl ?_ ?_)
   ·intro pv wp hpp; obtain ⟨rfl, hpw⟩ := hpp; exact And.intro rfl ⟨_, rfl, _, (hIR).trans ((hRG).trans (SV hx hdash hx2 (by omega))), rfl, (V).then hpw⟩
   intro _ _ hF; exact hF.elim
  refine aN (aC (csr (aA (aA (bL (vs := [_, _]) rfl dT rfl rfl rfl rfl fun g7 g8 e5 g3 E => ?_))))); refine aG (vs := [_]) dZ rfl (iB (es := [lo, hi]) e5 (by simp)) rfl ?_; rintro _ g9 ⟨a1, c1, ob1, rfl, F, hg1, W⟩; refine wan (aK (cU (br1 ?_)))
  exact ⟨_, _, (hIR).trans ((hRG).trans (SR hx hdash hx2 (by omega))), ⟨_, _, _, [(lo, hi)], rfl, F, (Ge.fresh (V.then E) hg1), (fun g hg => by rw [List.mem_singleton.1 hg]; exact ⟨hlo0, by omega, hhi1⟩), SU lo hi, by simp⟩, ((V.then E).then W), ⟨(W.blk0 (E.blk0 e9.blk)), ((e9.own.evo0 E).evo0 W), hR.ne⟩⟩
theorem vU : dW Tryz.prog 129 := ⟨_, Tryz.func129, by kernel_rfl, by kernel_rfl⟩
theorem jJ {w : World} {o p : Option Nat} (h : Lt w o) (hp : Ge w p) : Apart o p := fun g h1 h2 => by have := h g h1; have := hp g h2; omega
section
variable {s : ByteArray} {f i j : Nat} {fst : Bool} {S T : Int → Prop} {e : Int} {fl : Fl}
theorem yP (h : s.size ≤ i) : gB s (f + 1) fst S i = .error 81 := by rw [gB, if_pos h]
theorem IE (h : i < s.size) (h2 : sb s i = 93) : gB s (f + 1) false S i = .ok (S, i + 1) := by rw [gB, if_neg (by omega), if_pos ⟨rfl, h2⟩]
theorem ER (h : i < s.size) (h2 : ¬ (fst = false ∧ sb s i = 93)) (h3 : jD s i = .error e) : gB s (f + 1) fst S i = .error e := by rw [gB, if_neg (by omega), if_neg h2, h3]
theorem wR (h : i < s.size) (h2 : ¬ (fst = false ∧ sb s i = 93)) (h3 : jD s i = .ok (T, j)) : gB s (f + 1) fst S i = gB s f false (unS S T) j := by rw [gB, if_neg (by omega), if_neg h2, h3]
theorem rH (h : gB s (s.size + 1) true (fun _ => False) (if isB s i 94 then i + 1 else i) = .error e) : lE s fl i = .error e := by unfold lE; rw [h]
theorem wX (h : gB s (s.size + 1) true (fun _ => False) (if isB s i 94 then i + 1 else i) = .ok (S, j)) :
    lE s fl i = .ok (jX (if isB s i 94 then lO (if fl.fold = true then oH S else S) else if fl.fold = true then oH S else S), j) := by unfold lE; rw [h]
end
structure ClG where
  f : Nat
  i : Nat
  n : Nat
  fst : Bool
  S : Int → Prop
  l : List (Int × Int)
  sa : Option Addr
  sc : Nat
  so : Option Nat
structure ClI (w wr : World) (b : Nat) (s : ByteArray) (st : PS) (a : Option Addr) (c : Nat) (ob : Option Nat) (b2 i0 : Nat) (x : ClG) : Prop where
  hr : RdAt wr b s (jY st x.i) a c ob
  bd : Bd s x.i
  eq : gB s (s.size + 1) true (fun _ => False) i0 = gB s x.f x.fst x.S x.i
  hf : s.size + 1 ≤ x.f + x.i
  own : OwnS wr 56 2 x.sa x.n x.sc (cS x.l) x.so
  ge : Ge w x.so
  vr : Vr x.l
  hS : ∀ c, InR c x.l ↔ x.S c
  len : x.n ≤ 16 * x.i
  hb2 : wr.heap[b2]? = some (.cells #[iv 0, .int .i32 0, .slice none 0 0, iv 0, iv 0, .bool false, iv 0, .string ByteArray.empty, .slice none 0 0] 27 (0, 0))
  g2 : Ge w (some b2)
  a2 : Apart (some b2) x.so
theorem un_in {l m : List (Int × Int)} {S T : Int → Prop} (h1 : ∀ c, InR c l ↔ S c) (h2 : ∀ c, InR c m ↔ T c) (c : Int) : InR c (l ++ m) ↔ unS S T c := by rw [mR, h1, h2]; exact Iff.rfl
theorem WS {w : World} {b : Nat} {s : ByteArray} {st : PS} {a : Option Addr} {c : Nat} {ob : Option Nat} (hR : RdAt w b s st a c ob) (hs : s.size ≤ 10000) (hb : Bd s st.pos) (hG : Glb w) :
    Calls Tryz.prog 110 #[.pointer (some ⟨b, 0, none⟩)] w (RetP (fun v w' => ∃ x j, lE s st.now st.pos = .ok (x, j) ∧ TOut w w' v x ∧ Evo [b] w w' ∧ RdAt w' b s (jY st j) a c ob) (fun v w' => ∃ e, lE s st.now st.pos = .error e ∧ v = flt e ∧ Evo [b] w w')) := by
  have hap := hR.ap; have hgb : pR ∉ [b] := fun h => hR.glb hG (List.mem_singleton.1 h).symm; have hbw : Lt w (some b) := Lt.blk hR.blk; have how : Lt w ob := Lt.own hR.own; refine bE (N := 41) Tryz.func110 rfl rfl rfl ?_; refine csr (cO rfl dC fun b2 w1 g3 d8 d9 => ?_); have g4 := d8; have f0 := Apart.new (Lt.blk hR.blk) d8; have g5 := Ge.new (Evo.refl [b] w) d8; refine wnn (csr (aA ?_)); refine aG (vs := [_, _]) jO rfl (oK ⟨(d9.blk0 hR.blk), (hR.own.evo0 d9), hR.ne⟩ (by omega) 94 (by decide)) rfl ?_; rintro _ g6 ⟨rfl, e0, d0⟩; have f7 := ((Evo.refl [b] w).then d9).step e0 (fun y hy => .inl hy); have f8 := e0.blk g3 ((by first | exact f0.symm.own1 | exact f0.symm.nmem1)); refine wan (aM ?_)
  have hR1' : RdAt g6 b s (jY st (if isB s st.pos 94 then st.pos + 1 else st.pos)) a c ob := by by_cases h94 : isB s st.pos 94; { rw [if_pos h94] at d0 ⊢; exact d0 }; { rw [if_neg h94] at d0 ⊢; exact d0 }
  generalize hi0 : (if isB s st.pos 94 then st.pos + 1 else st.pos) = i0 at *
  have hbd0 : Bd s i0 := by rw [← hi0]; split; (rename_i h94; exact h94.asc (by decide) hb); exact hb
  refine aF (wan (aM (csr (wan (bK ?_)))))
  refine dL (α := ClG) (⟨s.size + 1, i0, 0, true, fun _ => False, [], none, 0, none⟩) (fun x => [(4, .slice x.sa x.n x.sc), (5, .bool x.fst)]) [(0, _), (2, _), (3, _)] (fun x wr => Evo [b] w wr ∧ (ClI w wr b s st a c ob b2 i0 x)) (fun x => x.f) ⟨rfl, rfl, trivial⟩ ⟨rfl, rfl, rfl, trivial⟩ ⟨f7, ⟨hR1', hbd0, rfl, by show s.size + 1 ≤ s.size + 1 + i0; omega, OwnS.nil _ _ _, Ge.nil _, fun g hg => (by cases hg), fun c => ⟨fun h => (kU c h).elim, False.elim⟩, Nat.zero_le _, f8, g5, Apart.nil _⟩⟩ ?_
  rintro ⟨f, i, n, fst, S, l, sa, sc, so⟩ wr15 ⟨f9, ⟨J, hbi, heq, hfi, hown, hge, hvr, hSl, hlen, hb2, hg2, ha2⟩⟩; show CW _ _ _ _ [(4, .slice sa n sc), (5, .bool fst), (0, _), (2, _), (3, _)] _
  try dsimp only at J hbi heq hfi hown hge hvr hSl hlen hb2 hg2 ha2
  have hil := hbi.le; have W : Apart (some b) so := jJ hbw hge; have f5 : Apart ob so := jJ how hge; have H : Apart (some b) (some b2) := jJ hbw hg2; have d1 : Apart ob (some b2) := jJ how hg2; have hpi : (jY st i).pos = i := rfl; obtain ⟨f', hff⟩ : ∃ f', f = f' + 1 := ⟨f - 1, by omega⟩; refine aM (bK (aM (aM ?_))); refine eK (by kernel_rfl) (by kernel_rfl) ?_; refine bG (fun _ B => bC rfl) ?_; refine bG (fun _ B => aH rfl) ?_; refine bG (fun _ B => aD rfl bP) ?_; refine bG (fun _ B => aX rfl bD (bI (B.blk0 J.blk) rfl)) ?_; refine bG (fun _ B => bC rfl) ?_; refine bG (fun _ B => aH rfl) ?_; refine bG (fun _ B => aD rfl eA) ?_; refine bG (fun _ B => aX rfl dG (bI (B.blk0 J.blk) rfl)) ?_; refine bG (fun _ B => cQ rfl Tryz.underlying9 rfl) ?_; refine bG (fun _ B => kK rfl rfl) ?_; refine eN (fun h0 B => aC ?_); have a8 := f9.then B; refine aZ rfl (fun g0 => ?_) (fun g0 => ?_)
  ·refine aF (cT (vs := [_]) dJ rfl (fU 81) rfl ?_ ?_)
   ·intro pv wp hpp; obtain ⟨rfl, hpw⟩ := hpp
    exact And.intro rfl ⟨_, rfl, _, rH (by rw [hi0, heq, hff]; exact yP (by omega)), rfl, (a8).then hpw⟩
   intro _ _ hF; exact hF.elim
  have hii : i < s.size := by omega
  refine aN (aC (aM (csr (aA (aB (fV rfl) ?_))))); refine aA (nD (t := 21) rfl (fun E => ?_) (fun E => ?_))
  ·replace E := congrArg Bool.not E; simp only [Bool.not_not, Bool.not_true, Bool.not_false] at E; subst E
   refine aW (aA (aW ?_)); refine aG (vs := [_, _]) jO rfl (oK ⟨(B.blk0 J.blk), (J.own.evo0 B), J.ne⟩ (by omega) 93 (by decide)) rfl ?_; rintro _ h9 ⟨rfl, c9, D⟩; have G := a8.step c9 (fun y hy => .inl hy); have b6 := (hown.evo0 B).evo c9 ((by first | exact W.symm.own1 | exact W.symm.nmem1)); have L := c9.blk (B.blk0 hb2) ((by first | exact H.symm.own1 | exact H.symm.nmem1)); refine bW (wnn (aZ rfl (fun M => ?_) (fun M => ?_)))
   ·rw [if_pos M] at D; have hst := (heq.trans (congrArg (fun f => gB s f false S i) hff)).trans (IE hii M.2); have g7 := lK hown; subst g7; refine cW (bS (yV rfl (bS (bS (cV (aC ?_)))))); refine aM (csr (aA (aB (aH rfl) (aB (aD rfl fS) (wfl rfl rR rfl fI D.blk rfl (wnn (eO rfl (fun F => ?_) (fun F => ?_))))))))
    ·replace F : st.now.fold = true := F; refine aF (aA ?_); refine aG (vs := [_]) vT rfl (CR b6 hvr (by omega) hSl) rfl ?_; rintro rv i1 ⟨a4, c4, ob4, rfl, f6, hg4, hl4, hcan4, heq4, O⟩; have b7 := G.then O; have b8 := O.blk0 L; refine wan (aM (csr (aA (wnn (aZ rfl (fun I => ?_) (fun I => ?_))))))
     ·refine aF (aA ?_); refine aG (vs := [_]) lJ rfl (nF f6 (oD hcan4) (by omega) heq4) rfl ?_; rintro rv i2 ⟨a5, c5, ob5, rfl, e1, hg5, hl5, hcan5, heq5, U⟩; refine wan (csr (aA ?_)); refine aG (vs := [_]) iW rfl (oM e1 (oD hcan5) (by omega) heq5) rfl ?_; rintro rv g8 ⟨a9, b9⟩; have b4 := (b7.then U); have hb29 := fF (U.blk0 b8); obtain ⟨vs9, bs9, rfl, hOT, hFr⟩ := a9; obtain ⟨ra, rc, ka, kc, rfl⟩ := id hOT.nine; refine aV rfl rfl aJ (b9.blk0 (U.blk0 b8)) rfl rfl ⟨rfl, rfl, rfl, rfl, rfl, rfl, rfl, rfl, rfl, trivial⟩ fun i3 e2 c0 => ?_
      try simp only [cH, Nat.reduceAdd] at e2
      refine wnn (aK (cU (bT rfl (ResOk.cellA rfl bF aJ e2 rfl) ?_)))
      have hcl := wX (fl := st.now) (by rw [hi0]; exact hst)
      rw [if_pos I, if_pos F] at hcl; refine ⟨_, _, hcl, ⟨_, bs9, rfl, hOT.evo ((Evo.refl ([b2]) g8).step c0 (fun y hy => .inl hy)) (fun q hq h => ?_), hFr.older b4.size⟩, (((b7.then U).then b9).step c0 hg2.mem1), ⟨(c0.blk (b9.blk0 (U.blk0 (O.blk0 D.blk))) H.nmem1), ((((D.own.evo0 O).evo0 U).evo0 b9).evo c0 d1.own1), D.ne⟩⟩
      have := hFr.ge q hq; rw [List.mem_singleton.1 h] at this; omega
     refine aN (aC (csr (aA ?_))); refine aG (vs := [_]) iW rfl (oM f6 (oD hcan4) (by omega) heq4) rfl ?_; rintro rv g9 ⟨a9, c1⟩; have b4 := b7; have hb29 := fF b8; obtain ⟨vs9, bs9, rfl, hOT, hFr⟩ := a9; obtain ⟨ra, rc, ka, kc, rfl⟩ := id hOT.nine; refine aV rfl rfl aJ (c1.blk0 b8) rfl rfl ⟨rfl, rfl, rfl, rfl, rfl, rfl, rfl, rfl, rfl, trivial⟩ fun i4 e3 c6 => ?_
     try simp only [cH, Nat.reduceAdd] at e3
     refine wnn (aK (cU (bT rfl (ResOk.cellA rfl bF aJ e3 rfl) ?_)))
     have hcl := wX (fl := st.now) (by rw [hi0]; exact hst)
     rw [if_neg I, if_pos F] at hcl; refine ⟨_, _, hcl, ⟨_, bs9, rfl, hOT.evo ((Evo.refl ([b2]) g9).step c6 (fun y hy => .inl hy)) (fun q hq h => ?_), hFr.older b4.size⟩, ((b7.then c1).step c6 hg2.mem1), ⟨(c6.blk (c1.blk0 (O.blk0 D.blk)) H.nmem1), (((D.own.evo0 O).evo0 c1).evo c6 d1.own1), D.ne⟩⟩
     have := hFr.ge q hq; rw [List.mem_singleton.1 h] at this; omega
    replace F : st.now.fold = false := F; refine aN (aC (aM (csr (aA (wnn (aZ rfl (fun I => ?_) (fun I => ?_)))))))
    ·refine aF (aA ?_); refine aG (vs := [_]) lJ rfl (nF b6 hvr (by omega) hSl) rfl ?_; rintro rv i5 ⟨a5, c5, ob5, rfl, e1, hg5, hl5, hcan5, heq5, V⟩; refine wan (csr (aA ?_)); refine aG (vs := [_]) iW rfl (oM e1 (oD hcan5) (by omega) heq5) rfl ?_; rintro rv g1 ⟨a9, Y⟩; have b4 := (G.then V); have hb29 := fF (V.blk0 L); obtain ⟨vs9, bs9, rfl, hOT, hFr⟩ := a9; obtain ⟨ra, rc, ka, kc, rfl⟩ := id hOT.nine; refine aV rfl rfl aJ (Y.blk0 (V.blk0 L)) rfl rfl ⟨rfl, rfl, rfl, rfl, rfl, rfl, rfl, rfl, rfl, trivial⟩ fun h3 d2 Z => ?_
     try simp only [cH, Nat.reduceAdd] at d2
     refine wnn (aK (cU (bT rfl (ResOk.cellA rfl bF aJ d2 rfl) ?_)))
     have hcl := wX (fl := st.now) (by rw [hi0]; exact hst)
     rw [if_pos I, if_neg (show ¬ st.now.fold = true by simp [F])] at hcl; refine ⟨_, _, hcl, ⟨_, bs9, rfl, hOT.evo ((Evo.refl ([b2]) g1).step Z (fun y hy => .inl hy)) (fun q hq h => ?_), hFr.older b4.size⟩, (((G.then V).then Y).step Z hg2.mem1), ⟨(Z.blk (Y.blk0 (V.blk0 D.blk)) H.nmem1), (((D.own.evo0 V).evo0 Y).evo Z d1.own1), D.ne⟩⟩
     have := hFr.ge q hq; rw [List.mem_singleton.1 h] at this; omega
    refine aN (aC (csr (aA ?_))); refine aG (vs := [_]) iW rfl (oM b6 hvr (by omega) hSl) rfl ?_; rintro rv g2 ⟨a9, a0⟩; have b4 := G; have hb29 := fF L; obtain ⟨vs9, bs9, rfl, hOT, hFr⟩ := a9; obtain ⟨ra, rc, ka, kc, rfl⟩ := id hOT.nine; refine aV rfl rfl aJ (a0.blk0 L) rfl rfl ⟨rfl, rfl, rfl, rfl, rfl, rfl, rfl, rfl, rfl, trivial⟩ fun h4 d3 a1 => ?_
    try simp only [cH, Nat.reduceAdd] at d3
    refine wnn (aK (cU (bT rfl (ResOk.cellA rfl bF aJ d3 rfl) ?_)))
    have hcl := wX (fl := st.now) (by rw [hi0]; exact hst)
    rw [if_neg I, if_neg (show ¬ st.now.fold = true by simp [F])] at hcl; refine ⟨_, _, hcl, ⟨_, bs9, rfl, hOT.evo ((Evo.refl ([b2]) g2).step a1 (fun y hy => .inl hy)) (fun q hq h => ?_), hFr.older b4.size⟩, ((G.then a0).step a1 hg2.mem1), ⟨(a1.blk (a0.blk0 D.blk) H.nmem1), ((D.own.evo0 a0).evo a1 d1.own1), D.ne⟩⟩
    have := hFr.ge q hq; rw [List.mem_singleton.1 h] at this; omega
   rw [if_neg M] at D; refine aN (aC (aF (aA (aA ?_)))); refine cT (vs := [_]) vU rfl (NY ⟨D.blk, D.own, D.ne⟩ (by omega) hii hbi (hG.evo G hgb)) rfl ?_ ?_
   ·intro pv wp hpp; obtain ⟨e9, hpe, rfl, hpw⟩ := hpp
    exact And.intro rfl ⟨_, rfl, _, rH (by rw [hi0, heq, hff]; exact ER hii (fun h => M ⟨hii, h.2⟩) hpe), rfl, (G).step hpw (fun y hy => .inl hy)⟩
   rintro rv h5 ⟨T, j, hx, hT, c7, b5⟩; obtain ⟨a3, c3, ob3, li, rfl, e4, hg3, hv3, e5, hl3⟩ := hT; have d4 := G.step c7 (fun y hy => .inl hy); have e7 := b6.evo c7 ((by first | exact W.symm.own1 | exact W.symm.nmem1)); have d5 := c7.blk L ((by first | exact H.symm.own1 | exact H.symm.nmem1)); obtain ⟨hbj, hij⟩ := yN hx hbi hii; have hjl := hbj.le; refine cM rfl rfl rfl rfl cX e7 (Src.ofOwn e4 (nE li)) (by omega) fun a2 c2 h6 ob2 e6 a6 hob151 => ?_; refine bN (aR (aQ (aC (aF (bN (aR (aY ?_))))))); refine ⟨⟨f', j, n + li.length, false, unS S T, l ++ li, a2, c2, ob2⟩, ?_, ⟨rfl, rfl, trivial⟩, ⟨rfl, rfl, rfl, trivial⟩, (d4.step a6 hge.mem), ?_⟩
   · (try dsimp only); omega
   try dsimp only
   refine ⟨⟨(a6.blk b5.blk W.nmem), (b5.own.evo a6 f5.own), b5.ne⟩, hbj, ?_, (by show s.size + 1 ≤ f' + j; omega), ?_, (hge.app d4 hob151), zD hvr hv3, un_in hSl e5, (by show n + li.length ≤ 16 * j; omega), (a6.blk d5 ha2.nmem), hg2, (ha2.app (Lt.blk d5) hob151)⟩
   · rw [heq, hff]; exact wR hii (fun h => M ⟨hii, h.2⟩) hx
   · rw [dH]; exact e6
  replace E := congrArg Bool.not E; simp only [Bool.not_not, Bool.not_true, Bool.not_false] at E; subst E
  refine aP (aP (bR (wnn (cF rfl ?_)))); refine aN (aC (aF (aA (aA ?_)))); refine cT (vs := [_]) vU rfl (NY ⟨(B.blk0 J.blk), (J.own.evo0 B), J.ne⟩ (by omega) hii hbi (hG.evo a8 hgb)) rfl ?_ ?_
  ·intro pv wp hpp; obtain ⟨e9, hpe, rfl, hpw⟩ := hpp
   exact And.intro rfl ⟨_, rfl, _, rH (by rw [hi0, heq, hff]; exact ER hii (fun h => (by cases h.1)) hpe), rfl, (a8).step hpw (fun y hy => .inl hy)⟩
  rintro rv h7 ⟨T, j, hx, hT, c8, b5⟩; obtain ⟨a3, c3, ob3, li, rfl, e4, hg3, hv3, e5, hl3⟩ := hT; have d6 := a8.step c8 (fun y hy => .inl hy); have e8 := (hown.evo0 B).evo c8 ((by first | exact W.symm.own1 | exact W.symm.nmem1)); have d7 := c8.blk (B.blk0 hb2) ((by first | exact H.symm.own1 | exact H.symm.nmem1)); obtain ⟨hbj, hij⟩ := yN hx hbi hii; have hjl := hbj.le; refine cM rfl rfl rfl rfl cX e8 (Src.ofOwn e4 (nE li)) (by omega) fun a2 c2 h8 ob2 e6 a7 hob178 => ?_; refine bN (aR (aQ (aC (aF (bN (aR (aY ?_))))))); refine ⟨⟨f', j, n + li.length, false, unS S T, l ++ li, a2, c2, ob2⟩, ?_, ⟨rfl, rfl, trivial⟩, ⟨rfl, rfl, rfl, trivial⟩, (d6.step a7 hge.mem), ?_⟩
  · (try dsimp only); omega
  try dsimp only
  refine ⟨⟨(a7.blk b5.blk W.nmem), (b5.own.evo a7 f5.own), b5.ne⟩, hbj, ?_, (by show s.size + 1 ≤ f' + j; omega), ?_, (hge.app d6 hob178), zD hvr hv3, un_in hSl e5, (by show n + li.length ≤ 16 * j; omega), (a7.blk d7 ha2.nmem), hg2, (ha2.app (Lt.blk d7) hob178)⟩
  · rw [heq, hff]; exact wR hii (fun h => (by cases h.1)) hx
  · rw [dH]; exact e6
theorem vY : dW Tryz.prog 108 := ⟨_, Tryz.func108, by kernel_rfl, by kernel_rfl⟩
theorem zW {r : ByteArray} : ∀ {f i : Nat} {n : Int}, 0 ≤ n → n ≤ 1001 → i ≤ r.size → 0 ≤ (iK r f i n).1 ∧ (iK r f i n).1 ≤ 1001 ∧ i ≤ (iK r f i n).2 ∧ (iK r f i n).2 ≤ r.size
  | 0, i, n, h0, h1, hi => ⟨h0, h1, Nat.le_refl _, hi⟩
  | f + 1, i, n, h0, h1, hi => by
    rw [iK]
    split
    · rename_i h
      have h2 : 48 ≤ sb r i ∧ sb r i ≤ 57 := h.2
      obtain ⟨i1, i2, i3, i4⟩ := zW (r := r) (f := f) (i := i + 1) (n := min (n * 10 + ((sb r i : Int) - 48)) 1001) (by omega) (by omega) (by omega)
      exact ⟨i1, i2, by omega, i4⟩
    · exact ⟨h0, h1, Nat.le_refl _, hi⟩
theorem pNum_go {r : ByteArray} {f i : Nat} {n : Int} (h : i < r.size) (h2 : 48 ≤ sb r i) (h3 : sb r i ≤ 57) : iK r (f + 1) i n = iK r f (i + 1) (min (n * 10 + ((sb r i : Int) - 48)) 1001) := by rw [iK, if_pos ⟨h, h2, h3⟩]
theorem zV {r : ByteArray} {f i : Nat} {n : Int} (h : ¬ (i < r.size ∧ IW (sb r i))) : iK r f i n = (n, i) := by
  cases f with
  | zero => rfl
  | succ f => rw [iK, if_neg h]
structure NuG where
  f : Nat
  i : Nat
  n : Int
structure NuI (r : ByteArray) (i0 : Nat) (x : NuG) : Prop where
  hi : x.i ≤ r.size
  n0 : 0 ≤ x.n
  n1 : x.n ≤ 1001
  hf : r.size ≤ x.f + x.i
  eq : iK r r.size i0 0 = iK r x.f x.i x.n
theorem CL {w : World} (r : ByteArray) (i0 : Nat) (hi : i0 ≤ r.size) (hs : r.size ≤ 1000000) :
    Calls Tryz.prog 108 #[.string r, .int .i64 (i0 : Nat)] w (Ret fun v w' => v = .tuple #[iv (iK r r.size i0 0).1, iv ((iK r r.size i0 0).2 : Nat)] ∧ Evo [] w w') := by
  refine bE (N := 36) Tryz.func108 rfl rfl rfl ?_; refine csr (bN (wan (csr (wan (aM (bK ?_))))))
  refine dL (α := NuG) (⟨r.size, i0, 0⟩) (fun x => [(6, .int .i64 x.n), (1, .int .i64 (x.i : Nat))]) [(0, _), (4, _), (5, _)] (fun x wr => Evo [] w wr ∧ (NuI r i0 x)) (fun x => x.f) ⟨rfl, rfl, trivial⟩ ⟨rfl, rfl, rfl, trivial⟩ ⟨(Evo.refl [] w), ⟨hi, Int.le_refl _, (by show (0 : Int) ≤ 1001; omega), Nat.le_add_right _ _, rfl⟩⟩ ?_
  rintro ⟨f, i, n⟩ wr1 ⟨B, ⟨hi1, G, H, hf, heq⟩⟩; show CW _ _ _ _ [(6, .int .i64 n), (1, .int .i64 (i : Nat)), (0, _), (4, _), (5, _)] _
  try dsimp only at hi1 G H hf heq
  have hb := iC r i; refine aM (csr (aA (aA (aB (cQ rfl Tryz.underlying9 rfl) ?_)))); refine aB (dA rfl rfl) ?_; refine aA (bH (t := 11) rfl (fun D => ?_) (fun D => ?_))
  ·refine aW (aA (aW (aA (aW ?_)))); refine aB (fN (n := i) rfl rfl Tryz.underlying9 rfl (by omega)) ?_; refine aW (aB (dQ rfl rfl) ?_); refine bW (aA (bH (t := 17) rfl (fun E => ?_) (fun E => ?_)))
   ·refine aW (aA (aW (aA (aW ?_)))); refine aB (fN (n := i) rfl rfl Tryz.underlying9 rfl (by omega)) ?_; refine aW (aB (dM rfl rfl) ?_); refine bW (wnn (aZ rfl (fun F => ?_) (fun F => ?_)))
    ·refine aN (aC (bK (csr (aA ?_)))); refine aB (lW rfl rfl (by omega) (by omega)) ?_; refine aA (aA ?_); refine aB (fN (n := i) rfl rfl Tryz.underlying9 rfl (by omega)) ?_; refine aB (mK rfl rfl (by omega) (by omega)) ?_; refine aB (fM rfl Tryz.underlying5 Tryz.underlying3 (lQ (by omega) (by omega)).1 (lQ (by omega) (by omega)).2) ?_; refine aB (aI rfl rfl (by omega) (by omega)) ?_; refine aB (lH rfl rfl) ?_; rw [gS]; refine wan (aF (aA ?_)); refine aB (aI rfl rfl (by omega) (by omega)) ?_; refine bN (aR (aQ (aY ?_))); refine ⟨⟨f - 1, i + 1, min (n * 10 + ((sb r i : Int) - 48)) 1001⟩, ?_, ⟨rfl, rfl, trivial⟩, ⟨rfl, rfl, rfl, trivial⟩, B, ?_⟩
     · (try dsimp only); show f - 1 < f; omega
     try dsimp only
     have hf2 : f = f - 1 + 1 := by omega
     exact ⟨(by show i + 1 ≤ r.size; omega), (by show 0 ≤ min _ _; omega), (by show min _ _ ≤ _; omega), (by show r.size ≤ f - 1 + (i + 1); omega), heq.trans (by rw [hf2]; exact pNum_go (by omega) (by omega) (by omega))⟩
    refine cW (bS (bS (cV (aC ?_)))); refine csr (aA (aA (bN (wan (aK (cE rfl rfl rfl ?_))))))
    have hend := heq.trans (zV (by rintro ⟨h1, h2, h3⟩; omega))
    rw [hend]; exact ⟨rfl, B⟩
   refine aP (aP (aP (aP (bR (wnn (cF rfl ?_)))))); refine cW (bS (bS (cV (aC ?_)))); refine csr (aA (aA (bN (wan (aK (cE rfl rfl rfl ?_))))))
   have hend := heq.trans (zV (by rintro ⟨h1, h2, h3⟩; omega))
   rw [hend]; exact ⟨rfl, B⟩
  refine aP (aP (aP (aP (bR (aA (aP (aP (aP (aP (bR (wnn (cF rfl ?_)))))))))))); refine cW (bS (bS (cV (aC ?_)))); refine csr (aA (aA (bN (wan (aK (cE rfl rfl rfl ?_))))))
  have hend := heq.trans (zV (by rintro ⟨h1, h2, h3⟩; omega))
  rw [hend]; exact ⟨rfl, B⟩
section
variable {r : ByteArray}
theorem EE (h : sb r 0 = 42) : kY r = (0, -1, 1) := by unfold kY; rw [if_pos h]
theorem EF (h : sb r 0 = 43) : kY r = (1, -1, 1) := by unfold kY; rw [if_neg (by omega), if_pos h]
theorem TF (h : sb r 0 = 63) : kY r = (0, 1, 1) := by unfold kY; rw [if_neg (by omega), if_neg (by omega), if_pos h]
theorem NA (h : ¬ sb r 0 = 42) (h2 : ¬ sb r 0 = 43) (h3 : ¬ sb r 0 = 63) (h4 : ¬ sb r 0 = 123) : kY r = (0, 0, 0) := by unfold kY; rw [if_neg h, if_neg h2, if_neg h3, if_pos h4]
theorem zS (h : sb r 0 = 123) {lo : Int} {i : Nat} (h2 : iK r r.size 1 0 = (lo, i)) : kY r = if 1 < i ∧ isB r i 44 then (if isB r (iK r r.size (i + 1) 0).2 125 then (lo, (if (iK r r.size (i + 1) 0).2 = i + 1 then -1 else (iK r r.size (i + 1) 0).1), (iK r r.size (i + 1) 0).2 + 1) else (0, 0, 0))
    else if i = 1 ∨ ¬ isB r i 125 then (0, 0, 0) else (lo, lo, i + 1) := by
  unfold kY
  rw [if_neg (by omega), if_neg (by omega), if_neg (by omega), if_neg (by omega), h2]
end
theorem oJ {p : Int × Int × Nat} {a b : Int} {c : Nat} (h : p = (a, b, c)) : (Value.tuple #[iv a, iv b, iv (c : Nat)]) = .tuple #[iv p.1, iv p.2.1, iv (p.2.2 : Nat)] := by rw [h]
theorem KY {w : World} {b : Nat} {s : ByteArray} {st : PS} {a : Option Addr} {c : Nat} {ob : Option Nat} (hR : RdAt w b s st a c ob) (hs : s.size ≤ 1000000) (hlt : st.pos < s.size) :
    Calls Tryz.prog 86 #[.pointer (some ⟨b, 0, none⟩)] w (Ret fun v w' => v = .tuple #[iv (kY (s.extract st.pos s.size)).1, iv (kY (s.extract st.pos s.size)).2.1, iv ((kY (s.extract st.pos s.size)).2.2 : Nat)] ∧ Evo [] w w') := by
  have hap := hR.ap; have hrs := gF (s := s) (a := st.pos) (Nat.le_refl s.size); refine bE (N := 78) Tryz.func86 rfl rfl rfl ?_; refine csr (bN (bN (wan (aM ?_)))); refine eK (by kernel_rfl) (by kernel_rfl) ?_; refine bG (fun _ B => bC rfl) ?_; refine bG (fun _ B => aH rfl) ?_; refine bG (fun _ B => aD rfl eA) ?_; refine bG (fun _ B => aX rfl dG (bI (B.blk0 hR.blk) rfl)) ?_; refine bG (fun _ B => bC rfl) ?_; refine bG (fun _ B => aH rfl) ?_; refine bG (fun _ B => aD rfl bP) ?_; refine bG (fun _ B => aX rfl bD (bI (B.blk0 hR.blk) rfl)) ?_; refine bG (fun _ B => lG (l := st.pos) rfl rfl Tryz.underlying9 rfl (by omega)) ?_; refine bG (fun _ B => cR rfl) ?_; refine eN (fun a1 B => aC ?_); have I := (Evo.refl [] w).then B; refine aM (aM ?_)
  generalize s.extract st.pos s.size = r at *
  refine aF (aA ?_); refine aB (fN (n := 0) rfl rfl Tryz.underlying9 rfl (by omega)) ?_; refine wnn (bK (csr (wel ?_))); refine wan (aZ rfl (fun J => ?_) (fun J => ?_))
  ·refine csr (bN (bN (wan (aK (aO (aE (dN rfl rfl rfl rfl ?_))))))); exact ⟨oJ (EE (by omega)), I⟩
  refine csr (wel ?_); refine wan (aZ rfl (fun L => ?_) (fun L => ?_))
  ·refine csr (bN (bN (wan (aK (aO (aE (dN rfl rfl rfl rfl ?_))))))); exact ⟨oJ (EF (by omega)), I⟩
  refine csr (wel ?_); refine wan (aZ rfl (fun M => ?_) (fun M => ?_))
  ·refine csr (bN (bN (wan (aK (aO (aE (dN rfl rfl rfl rfl ?_))))))); exact ⟨oJ (TF (by omega)), I⟩
  refine csr (wel ?_); refine wan (aZ rfl (fun O => ?_) (fun O => ?_))
  ·refine aN (aQ (aC (csr (aA ?_)))); refine aG (vs := [_, _]) vY rfl (CL r 1 (by omega) (by omega)) rfl ?_; rintro _ w6 ⟨rfl, a0⟩; obtain ⟨lo, i, hp1⟩ : ∃ lo i, iK r r.size 1 0 = (lo, i) := ⟨_, _, rfl⟩; have hb1 := zW (r := r) (f := r.size) (i := 1) (n := 0) (by omega) (by omega) (by omega); have hbr := zS (r := r) (by omega) hp1; rw [hp1] at hb1 ⊢; simp only at hb1; have D := I.then a0; refine aA (aB (cC rfl rfl) ?_); refine aB (cC rfl rfl) ?_; refine bN (wan (csr (aA (wan (aM (csr (aA (aB (eW rfl rfl) ?_)))))))); refine aA (bH (t := 37) rfl (fun U => ?_) (fun U => ?_))
   ·refine aW (aA (aW (aA (aW (aB (cQ rfl Tryz.underlying9 rfl) ?_))))); refine aW (aB (dA rfl rfl) ?_); refine bW (aA (bH (t := 43) rfl (fun V => ?_) (fun V => ?_)))
    ·refine aW (aA (aW (aA (aW ?_)))); refine aB (fN (n := i) rfl rfl Tryz.underlying9 rfl (by omega)) ?_; refine aW (wel ?_); refine bW (wnn (aZ rfl (fun W => ?_) (fun W => ?_)))
     ·have hcm : 1 < i ∧ isB r i 44 := ⟨by omega, by omega, by omega⟩; refine csr (aA ?_); refine aB (aI rfl rfl (by omega) (by omega)) ?_; refine wan (csr (aA (aA ?_))); refine aG (vs := [_, _]) vY rfl (CL r (i + 1) (by omega) (by omega)) rfl ?_; rintro _ a2 ⟨rfl, Y⟩; obtain ⟨hi2, m, hp2⟩ : ∃ hi2 m, iK r r.size (i + 1) 0 = (hi2, m) := ⟨_, _, rfl⟩; have hb2 := zW (r := r) (f := r.size) (i := i + 1) (n := 0) (by omega) (by omega) (by omega); rw [if_pos hcm, hp2] at hbr; rw [hp2] at hb2 ⊢; simp only at hb2 hbr; have H := D.then Y; refine aA (aB (cC rfl rfl) ?_); refine aB (cC rfl rfl) ?_; refine bN (wan (csr (aA (aA (wel ?_))))); refine wnn (aZ rfl (fun Z => ?_) (fun Z => ?_))
      ·have hmi : m = i + 1 := by omega
       refine aF (wan (aM (csr (aA (wel ?_))))); refine aA (bH (t := 62) rfl (fun E => ?_) (fun E => ?_))
       ·refine aP (aP (aP (aP (bW (aA (aP (aP (aP (aP (bW (wnn (cZ rfl ?_)))))))))))); refine csr (bN (bN (wan (aK (aE (dN rfl rfl rfl rfl ?_))))))
        exact ⟨oJ (hbr.trans (if_neg (fun h => by have h1 := h.1; have h2 := h.2; omega))), H⟩
       refine aW (aA (aW (aA (aW (aB (cQ rfl Tryz.underlying9 rfl) ?_))))); refine aW (aB (dQ rfl rfl) ?_); refine bR (aA (bH (t := 68) rfl (fun F => ?_) (fun F => ?_)))
       ·refine aP (aP (aP (aP (bW (wnn (cZ rfl ?_)))))); refine csr (bN (bN (wan (aK (aE (dN rfl rfl rfl rfl ?_))))))
        exact ⟨oJ (hbr.trans (if_neg (fun h => by have h1 := h.1; have h2 := h.2; omega))), H⟩
       refine aW (aA (aW (aA (aW ?_)))); refine aB (fN (n := m) rfl rfl Tryz.underlying9 rfl (by omega)) ?_; refine aW (aB (fE rfl rfl) ?_); refine bR (wnn (aZ rfl (fun G => ?_) (fun G => ?_)))
       ·refine csr (bN (bN (wan (aK (aE (dN rfl rfl rfl rfl ?_))))))
        exact ⟨oJ (hbr.trans (if_neg (fun h => by have h1 := h.1; have h2 := h.2; omega))), H⟩
       refine aN (aC (csr (aA (aA (aA ?_))))); refine aB (aI rfl rfl (by omega) (by omega)) ?_; refine bN (bN (wan (aK (dN rfl rfl rfl rfl ?_)))); exact ⟨oJ (hbr.trans ((if_pos ⟨by omega, by omega⟩).trans (by rw [if_pos hmi]))), H⟩
      refine aN (aC (aM (csr (aA (wel ?_))))); refine aA (bH (t := 62) rfl (fun E => ?_) (fun E => ?_))
      ·refine aP (aP (aP (aP (bW (aA (aP (aP (aP (aP (bW (wnn (cZ rfl ?_)))))))))))); refine csr (bN (bN (wan (aK (aE (dN rfl rfl rfl rfl ?_))))))
       exact ⟨oJ (hbr.trans (if_neg (fun h => by have h1 := h.1; have h2 := h.2; omega))), H⟩
      refine aW (aA (aW (aA (aW (aB (cQ rfl Tryz.underlying9 rfl) ?_))))); refine aW (aB (dQ rfl rfl) ?_); refine bR (aA (bH (t := 68) rfl (fun F => ?_) (fun F => ?_)))
      ·refine aP (aP (aP (aP (bW (wnn (cZ rfl ?_)))))); refine csr (bN (bN (wan (aK (aE (dN rfl rfl rfl rfl ?_))))))
       exact ⟨oJ (hbr.trans (if_neg (fun h => by have h1 := h.1; have h2 := h.2; omega))), H⟩
      refine aW (aA (aW (aA (aW ?_)))); refine aB (fN (n := m) rfl rfl Tryz.underlying9 rfl (by omega)) ?_; refine aW (aB (fE rfl rfl) ?_); refine bR (wnn (aZ rfl (fun G => ?_) (fun G => ?_)))
      ·refine csr (bN (bN (wan (aK (aE (dN rfl rfl rfl rfl ?_))))))
       exact ⟨oJ (hbr.trans (if_neg (fun h => by have h1 := h.1; have h2 := h.2; omega))), H⟩
      refine aN (aC (csr (aA (aA (aA ?_))))); refine aB (aI rfl rfl (by omega) (by omega)) ?_; refine bN (bN (wan (aK (dN rfl rfl rfl rfl ?_)))); exact ⟨oJ (hbr.trans ((if_pos ⟨by omega, by omega⟩).trans (by rw [if_neg (by omega)]))), H⟩
     refine aN (aC (aM (csr (aA (wel ?_))))); refine aA (bH (t := 62) rfl (fun E => ?_) (fun E => ?_))
     ·refine aP (aP (aP (aP (bW (aA (aP (aP (aP (aP (bW (wnn (cZ rfl ?_)))))))))))); refine csr (bN (bN (wan (aK (aE (dN rfl rfl rfl rfl ?_))))))
      exact ⟨oJ (hbr.trans ((if_neg (by rintro ⟨h1, h2, h3⟩; omega)).trans (if_pos (.inl (by omega))))), D⟩
     refine aW (aA (aW (aA (aW (aB (cQ rfl Tryz.underlying9 rfl) ?_))))); refine aW (aB (dQ rfl rfl) ?_); refine bR (aA (bH (t := 68) rfl (fun F => ?_) (fun F => ?_)))
     ·refine aP (aP (aP (aP (bW (wnn (cZ rfl ?_)))))); refine csr (bN (bN (wan (aK (aE (dN rfl rfl rfl rfl ?_))))))
      exact ⟨oJ (hbr.trans ((if_neg (by rintro ⟨h1, h2, h3⟩; omega)).trans (if_pos (.inr (fun h => by have h1 := h.1; have h2 := h.2; omega))))), D⟩
     refine aW (aA (aW (aA (aW ?_)))); refine aB (fN (n := i) rfl rfl Tryz.underlying9 rfl (by omega)) ?_; refine aW (aB (fE rfl rfl) ?_); refine bR (wnn (aZ rfl (fun G => ?_) (fun G => ?_)))
     ·refine csr (bN (bN (wan (aK (aE (dN rfl rfl rfl rfl ?_))))))
      exact ⟨oJ (hbr.trans ((if_neg (by rintro ⟨h1, h2, h3⟩; omega)).trans (if_pos (.inr (fun h => by have h1 := h.1; have h2 := h.2; omega))))), D⟩
     refine aN (aC (csr (aA (aA (aA ?_))))); refine aB (aI rfl rfl (by omega) (by omega)) ?_; refine bN (bN (wan (aK (dN rfl rfl rfl rfl ?_))))
     exact ⟨oJ (hbr.trans ((if_neg (by rintro ⟨h1, h2, h3⟩; omega)).trans (if_neg (by rintro (h | h); omega; exact h ⟨by omega, by omega⟩)))), D⟩
    refine aP (aP (aP (aP (bR (wnn (cF rfl ?_)))))); refine aN (aC (aM (csr (aA (wel ?_))))); refine aA (bH (t := 62) rfl (fun E => ?_) (fun E => ?_))
    ·refine aP (aP (aP (aP (bW (aA (aP (aP (aP (aP (bW (wnn (cZ rfl ?_)))))))))))); refine csr (bN (bN (wan (aK (aE (dN rfl rfl rfl rfl ?_))))))
     exact ⟨oJ (hbr.trans ((if_neg (by rintro ⟨h1, h2, h3⟩; omega)).trans (if_pos (.inl (by omega))))), D⟩
    refine aW (aA (aW (aA (aW (aB (cQ rfl Tryz.underlying9 rfl) ?_))))); refine aW (aB (dQ rfl rfl) ?_); refine bR (aA (bH (t := 68) rfl (fun F => ?_) (fun F => ?_)))
    ·refine aP (aP (aP (aP (bW (wnn (cZ rfl ?_)))))); refine csr (bN (bN (wan (aK (aE (dN rfl rfl rfl rfl ?_))))))
     exact ⟨oJ (hbr.trans ((if_neg (by rintro ⟨h1, h2, h3⟩; omega)).trans (if_pos (.inr (fun h => by have h1 := h.1; have h2 := h.2; omega))))), D⟩
    refine aW (aA (aW (aA (aW ?_)))); refine aB (fN (n := i) rfl rfl Tryz.underlying9 rfl (by omega)) ?_; refine aW (aB (fE rfl rfl) ?_); refine bR (wnn (aZ rfl (fun G => ?_) (fun G => ?_)))
    ·refine csr (bN (bN (wan (aK (aE (dN rfl rfl rfl rfl ?_))))))
     exact ⟨oJ (hbr.trans ((if_neg (by rintro ⟨h1, h2, h3⟩; omega)).trans (if_pos (.inr (fun h => by have h1 := h.1; have h2 := h.2; omega))))), D⟩
    refine aN (aC (csr (aA (aA (aA ?_))))); refine aB (aI rfl rfl (by omega) (by omega)) ?_; refine bN (bN (wan (aK (dN rfl rfl rfl rfl ?_))))
    exact ⟨oJ (hbr.trans ((if_neg (by rintro ⟨h1, h2, h3⟩; omega)).trans (if_neg (by rintro (h | h); omega; exact h ⟨by omega, by omega⟩)))), D⟩
   refine aP (aP (aP (aP (bR (aA (aP (aP (aP (aP (bR (wnn (cF rfl ?_)))))))))))); refine aN (aC (aM (csr (aA (wel ?_))))); refine aA (bH (t := 62) rfl (fun E => ?_) (fun E => ?_))
   ·refine aP (aP (aP (aP (bW (aA (aP (aP (aP (aP (bW (wnn (cZ rfl ?_)))))))))))); refine csr (bN (bN (wan (aK (aE (dN rfl rfl rfl rfl ?_))))))
    exact ⟨oJ (hbr.trans ((if_neg (by rintro ⟨h1, h2, h3⟩; omega)).trans (if_pos (.inl (by omega))))), D⟩
   refine aW (aA (aW (aA (aW (aB (cQ rfl Tryz.underlying9 rfl) ?_))))); refine aW (aB (dQ rfl rfl) ?_); refine bR (aA (bH (t := 68) rfl (fun F => ?_) (fun F => ?_)))
   ·refine aP (aP (aP (aP (bW (wnn (cZ rfl ?_)))))); refine csr (bN (bN (wan (aK (aE (dN rfl rfl rfl rfl ?_))))))
    exact ⟨oJ (hbr.trans ((if_neg (by rintro ⟨h1, h2, h3⟩; omega)).trans (if_pos (.inr (fun h => by have h1 := h.1; have h2 := h.2; omega))))), D⟩
   refine aW (aA (aW (aA (aW ?_)))); refine aB (fN (n := i) rfl rfl Tryz.underlying9 rfl (by omega)) ?_; refine aW (aB (fE rfl rfl) ?_); refine bR (wnn (aZ rfl (fun G => ?_) (fun G => ?_)))
   ·refine csr (bN (bN (wan (aK (aE (dN rfl rfl rfl rfl ?_))))))
    exact ⟨oJ (hbr.trans ((if_neg (by rintro ⟨h1, h2, h3⟩; omega)).trans (if_pos (.inr (fun h => by have h1 := h.1; have h2 := h.2; omega))))), D⟩
   refine aN (aC (csr (aA (aA (aA ?_))))); refine aB (aI rfl rfl (by omega) (by omega)) ?_; refine bN (bN (wan (aK (dN rfl rfl rfl rfl ?_))))
   exact ⟨oJ (hbr.trans ((if_neg (by rintro ⟨h1, h2, h3⟩; omega)).trans (if_neg (by rintro (h | h); omega; exact h ⟨by omega, by omega⟩)))), D⟩
  refine csr (bN (bN (wan (aK (aO (aE (dN rfl rfl rfl rfl ?_))))))); exact ⟨oJ (NA (by omega) (by omega) (by omega) (by omega)), I⟩
theorem cY : rV Tryz.prog 25 = some (27, 9) := by kernel_rfl
def KOut (w w' : World) (v : Value) (l : List Rx) : Prop := ∃ a c ob cs bs, v = .slice a l.length c ∧ OwnS w' 27 9 a l.length c cs ob ∧ OTs l w' cs bs ∧ Fr w (ob.toList ++ bs)
theorem jM {X : List Nat} {w w1 w2 : World} {x : Rx} {vs : List Value} {bs : List Nat} {g : Nat} (hO : OwnS w2 27 9 (some ⟨g, 0, none⟩) 1 1 vs (some g)) (hT : OT x w1 vs bs) (hF : Fr w bs) (hg : w1.heap.size ≤ g) (he : Evo X w1 w2) (hx : ∀ b, b ∈ bs → b ∉ X) (hw : w.heap.size ≤ w1.heap.size) : KOut w w2 (.slice (some ⟨g, 0, none⟩) 1 1) [x] := by
  refine ⟨_, _, some g, vs, bs, rfl, hO, OTs.single (hT.evo he hx), ⟨List.nodup_cons.2 ⟨fun h => ?_, hF.nd⟩, fun b hb => ?_⟩⟩
  · have := hT.lt g h; omega
  · rcases List.mem_cons.1 hb with rfl | hb
    · omega
    · exact hF.ge b hb
theorem LK (k : Int) {l : List Rx} {w : World} {a : Option Addr} {n c : Nat} {cs : List Value} {ob : Option Nat} {bs : List Nat} (hO : OwnS w 27 9 a n c cs ob) (hT : OTs l w cs bs) (hl : l.length ≤ 1000000) :
    OT (zH k l) w [iv k, .int .i32 0, .slice none 0 0, iv 0, iv 0, .bool false, iv 0, .string ByteArray.empty, .slice a n c] (ob.toList ++ bs) := by
  have h1 := hO.length
  have h2 := hT.len
  obtain rfl : n = l.length := by omega
  unfold zH
  rw [OT]
  exact ⟨none, 0, none, a, c, ob, cs, bs, rfl, OwnS.nil _ _ _, hO, hT, rfl, by simp, by show (0 : Nat) ≤ 1000000; omega, hl⟩
theorem wH {k : Int} {l : List Rx} (h : 2 ≤ l.length) : oA k l = zH k l := by
  match l, h with
  | x :: y :: l, _ => rfl
theorem DV {w : World} (k : Int) {l : List Rx} {a : Option Addr} {n c : Nat} {cs : List Value} {ob : Option Nat} {bs : List Nat} (hO : OwnS w 27 9 a n c cs ob) (hT : OTs l w cs bs) (hl : l.length ≤ 1000000) :
    Calls Tryz.prog 61 #[iv k, .slice a n c] w (Ret fun v w' => (∃ vs bs', v = .agg vs.toArray ∧ OT (oA k l) w' vs bs' ∧ bs'.Sublist (ob.toList ++ bs)) ∧ Evo [] w w') := by
  have h1 := hO.length; have h2 := hT.len
  obtain rfl : n = l.length := by omega
  refine bE (N := 18) Tryz.func61 rfl rfl rfl ?_; refine csr (cO rfl dC fun b4 w1 D E O => ?_); have Y := E; have F := Ge.new (Evo.refl [] w) E; have B := (Evo.refl [] w).then O; refine wnn (aM (csr (aA (aB (bM rfl Tryz.underlying25 rfl) ?_)))); refine wnn (bK (csr (wel ?_))); refine wan (aZ rfl (fun Z => ?_) (fun Z => ?_))
  ·refine csr (aB (cI (vs := [(0, _)]) cB rfl (cells := [_, _, _, _, _, _, _, _, _]) rfl) ?_); refine aV rfl rfl aJ D rfl rfl ⟨rfl, rfl, rfl, rfl, rfl, rfl, rfl, rfl, rfl, trivial⟩ fun w9 G U => ?_
   try simp only [cH, Nat.reduceAdd] at G
   refine wnn (aK (aO (aE (bT rfl (ResOk.cellA rfl bF aJ G rfl) ?_)))); obtain rfl := List.length_eq_zero_iff.1 (show l.length = 0 by omega); exact ⟨⟨_, [], rfl, rE 1 _, List.nil_sublist _⟩, (B.step U F.mem1)⟩
  refine csr (wel ?_); refine wan (aZ rfl (fun V => ?_) (fun V => ?_))
  ·obtain ⟨x, rfl⟩ := List.length_eq_one_iff.1 (show l.length = 1 by omega); obtain ⟨g1, hg1', ha1, a0⟩ := hO.cells (by simp); have hX := hT.one'; obtain ⟨ra, rc, ka, kc, rfl⟩ := id hX.nine; refine csr (aA ?_); refine aB (eC (n := 0) rfl rfl ha1 dO (by omega)) ?_; refine aB (eB rfl bF aJ (vs := [_, _, _, _, _, _, _, _, _]) rfl (a0.evo B (by simp))) ?_; refine aV rfl rfl aJ D rfl rfl ⟨rfl, rfl, rfl, rfl, rfl, rfl, rfl, rfl, rfl, trivial⟩ fun a1 H W => ?_; have I := B.step W F.mem1
   try simp only [cH, Nat.reduceAdd] at H
   refine wnn (aK (aO (aE (bT rfl (ResOk.cellA rfl bF aJ H rfl) ?_)))); exact ⟨⟨_, bs, rfl, hX.evo I (fun b hb h => by cases h), List.sublist_append_right _ _⟩, I⟩
  refine aN (aQ (aC (csr (aA (aA (aB (cI (vs := [(0, _), (8, _)]) cB rfl (cells := [_, _, _, _, _, _, _, _, _]) rfl) ?_)))))); refine aV rfl rfl aJ D rfl rfl ⟨rfl, rfl, rfl, rfl, rfl, rfl, rfl, rfl, rfl, trivial⟩ fun a2 J L => ?_; have M := B.step L F.mem1
  try simp only [cH, Nat.reduceAdd] at J
  refine wnn (aK (bT rfl (ResOk.cellA rfl bF aJ J rfl) ?_)); rw [wH (by omega)]; exact ⟨⟨_, _, rfl, LK k ((hO.evo0 O).evo L (Apart.new (Lt.own hO) E).own1) (hT.evo M (fun b hb h => by cases h)) hl, List.Sublist.refl _⟩, M⟩
theorem UD {w : World} (k k2 : Int) (t : Bool) : Calls Tryz.prog 115 #[iv k, iv k2, .bool t] w (Ret fun v w' => KOut w w' v [rxK (if t = true then k2 else k)] ∧ Evo [] w w') := by
  refine bE (N := 12) Tryz.func115 rfl rfl rfl ?_; refine csr (wan (aM (csr (aA (wnn (eO rfl (fun B => ?_) (fun B => ?_)))))))
  ·refine aF (aA (wan (csr (aA (aB (cI (vs := [(0, _)]) cB rfl (cells := [_, _, _, _, _, _, _, _, _]) rfl) ?_))))); refine bL (vs := [_]) rfl cY rfl rfl rfl rfl fun G w1 H I J => ?_; have E := (Evo.refl [] w).then J; refine wan (aK (br1 ?_)); rw [if_pos B]; exact ⟨jM H (rE k2 _) (Fr.nil _) ((Ge.new (Evo.refl [] w) I) _ rfl) E (fun b hb => by cases hb) (Nat.le_refl _), E⟩
  refine aN (aC (csr (aA (aB (cI (vs := [(0, _)]) cB rfl (cells := [_, _, _, _, _, _, _, _, _]) rfl) ?_)))); refine bL (vs := [_]) rfl cY rfl rfl rfl rfl fun G w7 L M F => ?_; have D := (Evo.refl [] w).then F; refine wan (aK (br1 ?_)); rw [if_neg (by simp [B])]; exact ⟨jM L (rE k _) (Fr.nil _) ((Ge.new (Evo.refl [] w) M) _ rfl) D (fun b hb => by cases hb) (Nat.le_refl _), D⟩
theorem cP : nU Tryz.prog 159 = some true := by kernel_rfl
theorem kR : nU Tryz.prog 28 = some false := by kernel_rfl
theorem lZ : nU Tryz.prog 62 = some true := by kernel_rfl
theorem mX : eU Tryz.prog 64 4 = some 7 := by kernel_rfl
theorem bQ : iJ Tryz.prog 159 = some 9 := by kernel_rfl
theorem eX : iJ Tryz.prog 62 = some 4 := by kernel_rfl
theorem FP : pF Tryz.prog 164 = some #[.string ByteArray.empty, .string ByteArray.empty] := by kernel_rfl
theorem RdAt.mk' {w : World} {b : Nat} {s : ByteArray} {st : PS} {a : Option Addr} {n c : Nat} {ob : Option Nat} (hn : n = st.names.length)
    (hb : w.heap[b]? = some (.cells #[.string s, iv (st.pos : Nat), .bool st.now.fold, .bool st.now.lines, .bool st.now.dots, .bool st.now.lazy, iv (st.opn : Nat), .slice a n c] 64 (0, 0)))
    (ho : OwnS w 9 1 a n c (st.names.map sv) ob) (hne : ∀ g, ob = some g → g ≠ b) : RdAt w b s st a c ob := by subst hn; exact ⟨hb, ho, hne⟩
theorem wM {w : World} {e : TypeId} {a : Option Addr} {n c : Nat} {l : List ByteArray} {ob : Option Nat} (h : OwnS w e 1 a n c (l.map sv) ob) {k : Nat} (hk : k < l.length) : ∃ g, ob = some g ∧ a = some ⟨g, 0, none⟩ ∧ w.cell? ⟨g, 0 + k * 1, none⟩ = some (sv l[k]) := by
  have hl : l.length = n * 1 := by have := h.length; simpa using this
  obtain ⟨g, hg, ha, hc⟩ := h.cells (by omega)
  refine ⟨g, hg, ha, ?_⟩
  rw [Nat.mul_one]
  exact hc k _ (by simp [hk])
def yG (nm : ByteArray) (ns : List ByteArray) : Prop := ns.length = 100 ∨ (nm ≠ emp ∧ nm ∈ ns)
structure NgP (nm : ByteArray) (ns : List ByteArray) (k : Nat) : Prop where
  hk : k ≤ ns.length
  all : ∀ i (h : i < ns.length), i < k → nm = emp ∨ ns[i] ≠ nm
theorem UR {nm : ByteArray} {ns : List ByteArray} {k : Nat} (h : NgP nm ns k) (hk : ns.length ≤ k) (h1 : ns.length ≠ 100) : ¬ yG nm ns := by
  rintro (h2 | ⟨h2, h3⟩)
  · exact h1 h2
  · obtain ⟨i, hi, he⟩ := List.getElem_of_mem h3
    rcases h.all i hi (by omega) with h4 | h4
    · exact h2 h4
    · exact h4 he
theorem IA {w : World} {b : Nat} {s : ByteArray} {st : PS} {a : Option Addr} {c : Nat} {ob : Option Nat} (hR : RdAt w b s st a c ob) (nm : ByteArray) (hnl : st.names.length ≤ 100) :
    Calls Tryz.prog 128 #[.pointer (some ⟨b, 0, none⟩), .string nm] w (RetP (fun v w' => ¬ yG nm st.names ∧ v = iv ((st.names.length : Int) + 1) ∧ Evo (b :: ob.toList) w w' ∧ ∃ a' c' ob', RdAt w' b s { st with names := st.names ++ [nm] } a' c' ob' ∧ (ob' = ob ∨ ∃ g, ob' = some g ∧ w.heap.size ≤ g)) (fun v w' => yG nm st.names ∧ v = flt 85 ∧ Evo [] w w')) := by
  have hap := hR.ap; refine bE (N := 47) Tryz.func128 rfl rfl rfl ?_; refine csr (wan (aM (csr (aA (aB (aH rfl) (wfl rfl mX rfl jW hR.blk rfl (aB (bM rfl Tryz.underlying22 rfl) ?_))))))); refine wel ?_; refine wnn (aZ rfl (fun O => ?_) (fun O => ?_))
  ·refine aF (cT (vs := [_]) dJ rfl (fU 85) rfl ?_ ?_)
   ·intro pv wp hpp; obtain ⟨rfl, hpw⟩ := hpp; exact And.intro rfl ⟨_, rfl, .inl (by omega), rfl, ((Evo.refl [] w)).then hpw⟩
   intro _ _ hF; exact hF.elim
  refine aN (aC (aM (csr (aA (aB (aH rfl) (wfl rfl mX rfl jW hR.blk rfl (aB (bM rfl Tryz.underlying22 rfl) ?_))))))); refine aA (wnn (bK ?_)); refine dL (α := Nat) (0) (fun k => [(19, .int .i64 (k : Nat))]) [(0, _), (1, _), (4, _), (17, _), (18, _)] (fun k wr => Evo [] w wr ∧ (NgP nm st.names k)) (fun k => st.names.length - k) ⟨rfl, trivial⟩ ⟨rfl, rfl, rfl, rfl, rfl, trivial⟩ ⟨Evo.refl _ _, ⟨Nat.zero_le _, fun i h h2 => by omega⟩⟩ ?_; rintro k wr3 ⟨B, hng⟩; show CW _ _ _ _ [(19, _), (0, _), (1, _), (4, _), (17, _), (18, _)] _; have H := (Evo.refl [] w).then B; have Z := (Evo.refl (b :: ob.toList) w).then B; have hngk := hng.hk; refine csr (aB (dA rfl rfl) ?_); refine wnn (aM (aZ rfl (fun U => ?_) (fun U => ?_)))
  ·have hk' : k < st.names.length := by omega
   obtain ⟨g1, hg1, ha1, a0⟩ := wM hR.own hk'; refine aN (aC (aM (bK (csr ?_)))); refine aB (eC (n := k) rfl rfl ha1 nZ (by omega)) ?_; refine aB (aX rfl dG ((H).cell a0 (by simp))) ?_; refine wan (csr (aA (aB (vC rfl rfl) ?_))); refine aA (bH (t := 25) rfl (fun E => ?_) (fun E => ?_))
   ·refine aW (aA (aW (aA (aW (aB (fX rfl rfl) ?_))))); refine bW (wnn (aZ rfl (fun F => ?_) (fun F => ?_)))
    ·refine aF (cT (vs := [_]) dJ rfl (fU 85) rfl ?_ ?_)
     ·intro pv wp hpp; obtain ⟨rfl, hpw⟩ := hpp; exact And.intro rfl ⟨_, rfl, .inr ⟨E, F ▸ List.getElem_mem hk'⟩, rfl, (H).then hpw⟩
     intro _ _ hF; exact hF.elim
    refine aN (aQ (aC (aF ?_))); refine aB (aI rfl rfl (by omega) (by omega)) ?_; refine aA (aR (aY ?_)); refine ⟨k + 1, ?_, ⟨rfl, trivial⟩, ⟨rfl, rfl, rfl, rfl, rfl, trivial⟩, B, ?_⟩
    · omega
    refine ⟨hk', fun i h h2 => ?_⟩
    by_cases e : i = k
    · subst e; exact .inr F
    · exact hng.all i h (by omega)
   refine aP (aP (aP (bR (wnn (cF rfl ?_))))); refine aN (aQ (aC (aF ?_))); refine aB (aI rfl rfl (by omega) (by omega)) ?_; refine aA (aR (aY ?_)); refine ⟨k + 1, ?_, ⟨rfl, trivial⟩, ⟨rfl, rfl, rfl, rfl, rfl, trivial⟩, B, ?_⟩
   · omega
   refine ⟨hk', fun i h h2 => ?_⟩
   by_cases e : i = k
   · subst e; exact .inl (Classical.not_not.1 E)
   · exact hng.all i h (by omega)
  refine cW (bS (bS (cV (aC ?_)))); refine csr (aA (aA (aB (aH rfl) (wfl rfl mX rfl jW (B.blk0 hR.blk) rfl (aA (bL (vs := [_]) rfl rL rfl rfl rfl rfl fun a4 a5 V a3 D => ?_)))))); have I := D.blk0 (B.blk0 hR.blk); have hx12 := (H.then D); refine cM rfl rfl rfl rfl qJ ((hR.own.evo0 B).evo0 D) (Src.ofOwn V ⟨rfl, trivial⟩) (by omega) fun a2 c2 a6 ob2 a1 J hob32 => ?_; have L := hap.app (Lt.blk I) hob32; have W := (Z.then D).step J (fun y hy => .inl (List.mem_cons_of_mem _ hy)); have hob2 := hob32; refine aB (aH rfl) (aB (aD rfl mX) (bJ rfl rfl (rfl) sN (J.blk I hap.nmem) rfl fun a7 G M => ?_))
  have Y := W.step M (fun y hy => .inl (by rw [List.mem_singleton.1 hy]; simp))
  try simp only [cH, Nat.reduceAdd] at G
  refine wnn (csr (aA (aB (aH rfl) (wfl rfl mX rfl jW G rfl (aB (bM rfl Tryz.underlying22 rfl) ?_))))); refine wan (aK (cU (br1 ?_)))
  refine ⟨UR hng (by omega) (by omega), by rfl, Y, a2, c2, ob2, RdAt.mk' (by simp) G (by rw [List.map_append]; exact (a1.evo M L.symm.own1)) (fun g hg e => (L) g (congrArg some e.symm) hg), ?_⟩
  rcases hob2 with h | ⟨g, h, h2⟩
  · exact .inl h
  · exact .inr ⟨g, h, Nat.le_trans hx12.size h2⟩
theorem gI : eU Tryz.prog 159 0 = some 0 := by kernel_rfl
theorem jU : eU Tryz.prog 159 2 = some 2 := by kernel_rfl
theorem lS : eU Tryz.prog 159 4 = some 7 := by kernel_rfl
theorem fC : eU Tryz.prog 159 5 = some 8 := by kernel_rfl
theorem rQ : eU Tryz.prog 62 1 = some 1 := by kernel_rfl
theorem wD : eU Tryz.prog 62 2 = some 2 := by kernel_rfl
theorem rP : eU Tryz.prog 62 3 = some 3 := by kernel_rfl
theorem fZ : iJ Tryz.prog 28 = some 1 := by kernel_rfl
theorem jN : pF Tryz.prog 159 = some #[.int .i64 0, .string ByteArray.empty, .bool false, .bool false, .bool false, .bool false, .bool false, .bool false, .int .i64 0] := by kernel_rfl
def opV (o : Opn) : Array Value := #[iv (o.size : Nat), .string o.name, .bool o.thn.fold, .bool o.thn.lines, .bool o.thn.dots, .bool o.thn.lazy, .bool o.capt, .bool o.sett, iv o.err]
section
variable {s : ByteArray} {i f j : Nat} {b m : Bool} {n : Int} {fl : Fl}
theorem LB (h : s.size ≤ j) : fT s i f j b n m fl = ⟨0, emp, fl, false, false, 84⟩ := by
  cases f with
  | zero => rfl
  | succ f => rw [fT, if_pos h]
theorem ps_i (h : j < s.size) (hc : sb s j = 105) : fT s i (f + 1) j b n m fl = fT s i f (j + 1) b (n + 1) m { fl with fold := b } := by rw [fT, if_neg (by omega), if_pos hc]
theorem ps_m (h : j < s.size) (hc : sb s j = 109) : fT s i (f + 1) j b n m fl = fT s i f (j + 1) b (n + 1) m { fl with lines := b } := by rw [fT, if_neg (by omega), if_neg (by omega), if_pos hc]
theorem ps_s (h : j < s.size) (hc : sb s j = 115) : fT s i (f + 1) j b n m fl = fT s i f (j + 1) b (n + 1) m { fl with dots := b } := by rw [fT, if_neg (by omega), if_neg (by omega), if_neg (by omega), if_pos hc]
theorem ps_u (h : j < s.size) (hc : sb s j = 85) : fT s i (f + 1) j b n m fl = fT s i f (j + 1) b (n + 1) m { fl with lazy := b } := by rw [fT, if_neg (by omega), if_neg (by omega), if_neg (by omega), if_neg (by omega), if_pos hc]
theorem TC (h : j < s.size) (hc : sb s j = 45) : fT s i (f + 1) j b n true fl = ⟨0, emp, fl, false, false, 84⟩ := by rw [fT, if_neg (by omega), if_neg (by omega), if_neg (by omega), if_neg (by omega), if_neg (by omega), if_pos hc, if_pos rfl]
theorem TD (h : j < s.size) (hc : sb s j = 45) : fT s i (f + 1) j b n false fl = fT s i f (j + 1) false 0 true fl := by rw [fT, if_neg (by omega), if_neg (by omega), if_neg (by omega), if_neg (by omega), if_neg (by omega), if_pos hc, if_neg (by simp)]
theorem QA (h : j < s.size) (hc : sb s j = 58 ∨ sb s j = 41) : fT s i (f + 1) j b n m fl = ⟨j + 1 - i, emp, fl, false, decide (sb s j = 41), if n = 0 then 84 else 0⟩ := by rw [fT, if_neg (by omega), if_neg (by omega), if_neg (by omega), if_neg (by omega), if_neg (by omega), if_neg (by omega), if_pos hc]
theorem TB (h : j < s.size) (h1 : ¬ sb s j = 105) (h2 : ¬ sb s j = 109) (h3 : ¬ sb s j = 115) (h4 : ¬ sb s j = 85) (h5 : ¬ sb s j = 45) (h6 : ¬ (sb s j = 58 ∨ sb s j = 41)) : fT s i (f + 1) j b n m fl = ⟨0, emp, fl, false, false, 84⟩ := by rw [fT, if_neg (by omega), if_neg h1, if_neg h2, if_neg h3, if_neg h4, if_neg h5, if_neg h6]
end
structure SeG where
  f : Nat
  k : Nat
  q : Bool
  n : Int
  m : Bool
  fl : Fl
structure SeI (w wr : World) (b3 b4 : Nat) (s : ByteArray) (i : Nat) (fl0 : Fl) (x : SeG) : Prop where
  hk : i + x.k ≤ s.size
  hf : s.size ≤ x.f + (i + x.k)
  n0 : 0 ≤ x.n
  n1 : x.n ≤ x.k
  eq : fT s i s.size (i + 2) true 0 false fl0 = fT s i x.f (i + x.k) x.q x.n x.m x.fl
  hb3 : wr.heap[b3]? = some (.cells #[iv 0, .string emp, .bool x.fl.fold, .bool x.fl.lines, .bool x.fl.dots, .bool x.fl.lazy, .bool false, .bool false, iv 0] 159 (0, 0))
  hb4 : wr.heap[b4]? = some (.cells #[iv 0, .string emp, .bool false, .bool false, .bool false, .bool false, .bool false, .bool false, iv 0] 159 (0, 0))
  g3 : Ge w (some b3)
  g4 : Ge w (some b4)
  a34 : Apart (some b3) (some b4)
theorem KR {w : World} (s : ByteArray) (i : Nat) (fl0 : Fl) (hi : i + 2 ≤ s.size) (hs : s.size ≤ 1000000) :
    Calls Tryz.prog 143 #[.string (s.extract i s.size), .agg (opV ⟨0, emp, fl0, false, false, 0⟩)] w (Ret fun v w' => v = .agg (opV (fT s i s.size (i + 2) true 0 false fl0)) ∧ Evo [] w w') := by
  have hrs := gF (s := s) (a := i) (Nat.le_refl s.size); show Calls Tryz.prog 143 #[.string (s.extract i s.size), .agg #[iv 0, .string emp, .bool fl0.fold, .bool fl0.lines, .bool fl0.dots, .bool fl0.lazy, .bool false, .bool false, iv 0]] w _; refine bE (N := 64) Tryz.func143 rfl rfl rfl ?_; refine csr (iM rfl rfl fun b3 w1 g0 g1 h4 => ?_); have h5 := g1; have g2 := (Evo.refl [] w).then h4; refine cO rfl jN fun b4 w7 h6 c6 c7 => ?_; have h7 := c6; refine wnn (csr (bN (bN (wan (aM (csr (wan (bK ?_))))))))
  refine dL (α := SeG) (⟨s.size, 2, true, 0, false, fl0⟩) (fun x => [(8, .int .i64 (x.k : Nat)), (5, .bool x.q), (6, .int .i64 x.n), (7, .bool x.m)]) [(0, _), (3, _), (4, _)] (fun x wr => Evo [] w wr ∧ (SeI w wr b3 b4 s i fl0 x)) (fun x => x.f) ⟨rfl, rfl, rfl, rfl, trivial⟩ ⟨rfl, rfl, rfl, trivial⟩ ⟨(g2.then c7), ⟨hi, (by show s.size ≤ s.size + (i + 2); omega), Int.le_refl _, (by show (0 : Int) ≤ ((2 : Nat) : Int); omega), rfl, (c7.blk0 g0), h6, (Ge.new (Evo.refl [] w) g1), (Ge.new g2 c6), (Apart.new (Lt.blk g0) c6)⟩⟩ ?_
  rintro ⟨f, k, q, n, m, fl⟩ wr15 ⟨B, ⟨hk, hf, h8, h9, heq, hb3, hb4, hg3, hg4, ha34⟩⟩; show CW _ _ _ _ [(8, .int .i64 (k : Nat)), (5, .bool q), (6, .int .i64 n), (7, .bool m), (0, _), (3, _), (4, _)] _
  try dsimp only at hk hf h8 h9 heq hb3 hb4 hg3 hg4 ha34
  refine aM (csr (aA (aA (aB (cQ rfl Tryz.underlying9 rfl) ?_)))); refine aB (dA rfl rfl) ?_; refine wnn (aZ rfl (fun g3 => ?_) (fun g3 => ?_))
  ·have hik : i + k < s.size := by omega
   have e0 : sb (s.extract i s.size) k = sb s (i + k) := iU hik; obtain ⟨f', rfl⟩ : ∃ f', f = f' + 1 := ⟨f - 1, by omega⟩; have hb9 := iC s (i + k); refine aN (aC (aM (bK (aM (csr (aA (aA ?_))))))); refine aB (kV (n := k) rfl rfl Tryz.underlying9 rfl (by omega) e0) ?_; refine wnn (bK (csr (wel ?_))); refine wan (aZ rfl (fun g4 => ?_) (fun g4 => ?_))
   ·refine aF (aA (aB (aD rfl jU) (aB (aD rfl rR) (bJ rfl rfl (rfl) fK hb3 rfl fun j0 c8 c9 => ?_))))
    try simp only [cH, Nat.reduceAdd] at c8
    refine aR (aQ (aC (aF (aA ?_)))); refine aB (aI rfl rfl (by omega) (by omega)) ?_; refine bN (aR (aQ (aC (aF (aA ?_))))); refine aB (aI rfl rfl (by omega) (by omega)) ?_; refine bN (aR (aY ?_)); refine ⟨⟨f', k + 1, q, n + 1, m, { fl with fold := q }⟩, ?_, ⟨rfl, rfl, rfl, rfl, trivial⟩, ⟨rfl, rfl, rfl, trivial⟩, (B.step c9 hg3.mem1), ?_⟩
    · (try dsimp only); show f' < f' + 1; omega
    try dsimp only
    exact ⟨(by show i + (k + 1) ≤ s.size; omega), (by show s.size ≤ f' + (i + (k + 1)); omega), (by show 0 ≤ n + 1; omega), (by show n + 1 ≤ ((k + 1 : Nat) : Int); omega), heq.trans (ps_i (by omega) (by omega)), c8, (c9.blk hb4 ha34.symm.nmem1), hg3, hg4, ha34⟩
   refine csr (wel ?_); refine wan (aZ rfl (fun g5 => ?_) (fun g5 => ?_))
   ·refine aF (aA (aB (aD rfl jU) (aB (aD rfl rQ) (bJ rfl rfl (rfl) fK hb3 rfl fun j1 d0 d1 => ?_))))
    try simp only [cH, Nat.reduceAdd] at d0
    refine aR (aQ (aC (aF (aA ?_)))); refine aB (aI rfl rfl (by omega) (by omega)) ?_; refine bN (aR (aQ (aC (aF (aA ?_))))); refine aB (aI rfl rfl (by omega) (by omega)) ?_; refine bN (aR (aY ?_)); refine ⟨⟨f', k + 1, q, n + 1, m, { fl with lines := q }⟩, ?_, ⟨rfl, rfl, rfl, rfl, trivial⟩, ⟨rfl, rfl, rfl, trivial⟩, (B.step d1 hg3.mem1), ?_⟩
    · (try dsimp only); show f' < f' + 1; omega
    try dsimp only
    exact ⟨(by show i + (k + 1) ≤ s.size; omega), (by show s.size ≤ f' + (i + (k + 1)); omega), (by show 0 ≤ n + 1; omega), (by show n + 1 ≤ ((k + 1 : Nat) : Int); omega), heq.trans (ps_m (by omega) (by omega)), d0, (d1.blk hb4 ha34.symm.nmem1), hg3, hg4, ha34⟩
   refine csr (wel ?_); refine wan (aZ rfl (fun g6 => ?_) (fun g6 => ?_))
   ·refine aF (aA (aB (aD rfl jU) (aB (aD rfl wD) (bJ rfl rfl (rfl) fK hb3 rfl fun j2 d2 d3 => ?_))))
    try simp only [cH, Nat.reduceAdd] at d2
    refine aR (aQ (aC (aF (aA ?_)))); refine aB (aI rfl rfl (by omega) (by omega)) ?_; refine bN (aR (aQ (aC (aF (aA ?_))))); refine aB (aI rfl rfl (by omega) (by omega)) ?_; refine bN (aR (aY ?_)); refine ⟨⟨f', k + 1, q, n + 1, m, { fl with dots := q }⟩, ?_, ⟨rfl, rfl, rfl, rfl, trivial⟩, ⟨rfl, rfl, rfl, trivial⟩, (B.step d3 hg3.mem1), ?_⟩
    · (try dsimp only); show f' < f' + 1; omega
    try dsimp only
    exact ⟨(by show i + (k + 1) ≤ s.size; omega), (by show s.size ≤ f' + (i + (k + 1)); omega), (by show 0 ≤ n + 1; omega), (by show n + 1 ≤ ((k + 1 : Nat) : Int); omega), heq.trans (ps_s (by omega) (by omega)), d2, (d3.blk hb4 ha34.symm.nmem1), hg3, hg4, ha34⟩
   refine csr (wel ?_); refine wan (aZ rfl (fun g7 => ?_) (fun g7 => ?_))
   ·refine aF (aA (aB (aD rfl jU) (aB (aD rfl rP) (bJ rfl rfl (rfl) fK hb3 rfl fun j3 d4 d5 => ?_))))
    try simp only [cH, Nat.reduceAdd] at d4
    refine aR (aQ (aC (aF (aA ?_)))); refine aB (aI rfl rfl (by omega) (by omega)) ?_; refine bN (aR (aQ (aC (aF (aA ?_))))); refine aB (aI rfl rfl (by omega) (by omega)) ?_; refine bN (aR (aY ?_)); refine ⟨⟨f', k + 1, q, n + 1, m, { fl with lazy := q }⟩, ?_, ⟨rfl, rfl, rfl, rfl, trivial⟩, ⟨rfl, rfl, rfl, trivial⟩, (B.step d5 hg3.mem1), ?_⟩
    · (try dsimp only); show f' < f' + 1; omega
    try dsimp only
    exact ⟨(by show i + (k + 1) ≤ s.size; omega), (by show s.size ≤ f' + (i + (k + 1)); omega), (by show 0 ≤ n + 1; omega), (by show n + 1 ≤ ((k + 1 : Nat) : Int); omega), heq.trans (ps_u (by omega) (by omega)), d4, (d5.blk hb4 ha34.symm.nmem1), hg3, hg4, ha34⟩
   refine csr (wel ?_); refine wan (aZ rfl (fun g8 => ?_) (fun g8 => ?_))
   ·refine aM (csr (aA (wnn (eO rfl (fun Z => ?_) (fun Z => ?_)))))
    ·subst Z; refine csr (aB (aD rfl fC) (bJ rfl rfl (rfl) fZ hb3 rfl fun j4 d6 d7 => ?_))
     try simp only [cH, Nat.reduceAdd] at d6
     refine wnn (csr (aB (bX rfl cP bQ d6 rfl) (aV rfl rfl bQ (d7.blk hb4 ha34.symm.nmem1) rfl rfl ⟨rfl, rfl, rfl, rfl, rfl, rfl, rfl, rfl, rfl, trivial⟩ fun j5 d8 g9 => ?_)))
     try simp only [cH, Nat.reduceAdd] at d8
     refine wnn (aK (aE (aO (aE (aO (aE (aE (aO (aE (bT rfl (ResOk.cellA rfl cP bQ d8 rfl) ?_)))))))))); have hfin := heq.trans (TC (by omega) (by omega)); rw [hfin]; exact ⟨rfl, ((B.step d7 hg3.mem1).step g9 hg4.mem1)⟩
    subst Z; refine aN (aC (aF (bN (bN (bN (aR (aQ (aC (aF (aA ?_)))))))))); refine aB (aI rfl rfl (by omega) (by omega)) ?_; refine bN (aR (aQ (aC (aF (aA ?_))))); refine aB (aI rfl rfl (by omega) (by omega)) ?_; refine bN (aR (aY ?_)); refine ⟨⟨f', k + 1, false, 0, true, fl⟩, ?_, ⟨rfl, rfl, rfl, rfl, trivial⟩, ⟨rfl, rfl, rfl, trivial⟩, B, ?_⟩
    · (try dsimp only); show f' < f' + 1; omega
    try dsimp only
    exact ⟨(by show i + (k + 1) ≤ s.size; omega), (by show s.size ≤ f' + (i + (k + 1)); omega), Int.le_refl _, (by show (0 : Int) ≤ ((k + 1 : Nat) : Int); omega), heq.trans (TD (by omega) (by omega)), hb3, hb4, hg3, hg4, ha34⟩
   refine aM (csr (wel ?_)); refine wan (aZ rfl (fun I => ?_) (fun I => ?_))
   ·refine aN (aC (aZ rfl (fun I => ?_) (fun I => ?_)))
    ·refine aM (csr (aA (wel ?_))); refine wnn (aZ rfl (fun F => ?_) (fun F => ?_))
     ·refine aF (aB (aD rfl fC) (bJ rfl rfl (rfl) fZ hb3 rfl fun j6 d9 e3 => ?_))
      try simp only [cH, Nat.reduceAdd] at d9
      refine wnn (aM ?_); refine fR (fun w0 w' => Evo [b3] w0 w') (by kernel_rfl) (fun G a0 => ?_); refine aet 0 rfl (fun _ hS => bC rfl) (Evo.refl [b3] G) ?_; refine aet 1 rfl (fun _ hS => aI rfl rfl (by omega) (by omega)) (Evo.refl [b3] G) ?_; refine aet 2 rfl (fun _ hS => bC rfl) (Evo.refl [b3] G) ?_; refine aet 3 rfl (fun _ hS => bC rfl) (Evo.refl [b3] G) ?_; refine aet 4 rfl (fun _ hS => kV (n := k) rfl rfl Tryz.underlying9 rfl (by omega) e0) (Evo.refl [b3] G) ?_; refine aet 5 rfl (fun _ hS => kK rfl rfl) (Evo.refl [b3] G) ?_; refine aet 6 rfl (fun _ hS => aD rfl gI) (Evo.refl [b3] G) ?_; refine cA [7] (by kernel_rfl) rfl ⟨?_, trivial⟩; refine cG rfl ?_; refine bJ rfl rfl (rfl) bY (a0.blk0 d9) rfl fun j7 e4 a1 => ?_; have a2 := (Evo.refl [b3] G).step a1 (fun y hy => .inl hy)
      try simp only [cH, Nat.reduceAdd] at e4
      refine aR (bV (.inl a2) ?_); refine aet 8 rfl (fun _ hS => aD rfl lS) a2 ?_; refine cA [9] (by kernel_rfl) rfl ⟨?_, trivial⟩; refine cG rfl ?_; refine bJ rfl rfl (rfl) fK e4 rfl fun j8 e5 a3 => ?_
      try simp only [cH, Nat.reduceAdd] at e5
      refine aR (bV (.inl (a2.step a3 (fun y hy => .inl hy))) ?_); refine dB (by kernel_rfl) (aC ?_); refine csr (aB (bX rfl cP bQ e5 rfl) (aV rfl rfl bQ (a3.blk (a1.blk (a0.blk0 (e3.blk hb4 ha34.symm.nmem1)) ha34.symm.nmem1) ha34.symm.nmem1) rfl rfl ⟨rfl, rfl, rfl, rfl, rfl, rfl, rfl, rfl, rfl, trivial⟩ fun j9 e6 h0 => ?_))
      try simp only [cH, Nat.reduceAdd] at e6
      refine wnn (aK (aO (aE (aO (aE (aE (aO (aE (bT rfl (ResOk.cellA rfl cP bQ e6 rfl) ?_))))))))); have hfin := heq.trans (QA (by omega) (by omega)); rw [if_pos F] at hfin; rw [hfin]
      have e1 : (((i + k + 1 - i : Nat)) : Int) = (k : Int) + 1 := by omega
      have e2 : decide (((sb s (i + k) : Nat) : Int) = 41) = decide (sb s (i + k) = 41) := decide_eq_decide.2 (by omega); refine ⟨?_, (((((B.step e3 hg3.mem1).then a0).step a1 hg3.mem1).step a3 hg3.mem1).step h0 hg4.mem1)⟩; simp only [opV, e1, e2]
     refine aN (aC (aM ?_)); refine fR (fun w0 w' => Evo [b3] w0 w') (by kernel_rfl) (fun H a4 => ?_); refine aet 0 rfl (fun _ hS => bC rfl) (Evo.refl [b3] H) ?_; refine aet 1 rfl (fun _ hS => aI rfl rfl (by omega) (by omega)) (Evo.refl [b3] H) ?_; refine aet 2 rfl (fun _ hS => bC rfl) (Evo.refl [b3] H) ?_; refine aet 3 rfl (fun _ hS => bC rfl) (Evo.refl [b3] H) ?_; refine aet 4 rfl (fun _ hS => kV (n := k) rfl rfl Tryz.underlying9 rfl (by omega) e0) (Evo.refl [b3] H) ?_; refine aet 5 rfl (fun _ hS => kK rfl rfl) (Evo.refl [b3] H) ?_; refine aet 6 rfl (fun _ hS => aD rfl gI) (Evo.refl [b3] H) ?_; refine cA [7] (by kernel_rfl) rfl ⟨?_, trivial⟩; refine cG rfl ?_; refine bJ rfl rfl (rfl) bY (a4.blk0 hb3) rfl fun k0 e7 a5 => ?_; have a6 := (Evo.refl [b3] H).step a5 (fun y hy => .inl hy)
     try simp only [cH, Nat.reduceAdd] at e7
     refine aR (bV (.inl a6) ?_); refine aet 8 rfl (fun _ hS => aD rfl lS) a6 ?_; refine cA [9] (by kernel_rfl) rfl ⟨?_, trivial⟩; refine cG rfl ?_; refine bJ rfl rfl (rfl) fK e7 rfl fun k1 e8 a7 => ?_
     try simp only [cH, Nat.reduceAdd] at e8
     refine aR (bV (.inl (a6.step a7 (fun y hy => .inl hy))) ?_); refine dB (by kernel_rfl) (aC ?_); refine csr (aB (bX rfl cP bQ e8 rfl) (aV rfl rfl bQ (a7.blk (a5.blk (a4.blk0 hb4) ha34.symm.nmem1) ha34.symm.nmem1) rfl rfl ⟨rfl, rfl, rfl, rfl, rfl, rfl, rfl, rfl, rfl, trivial⟩ fun k2 e9 h3 => ?_))
     try simp only [cH, Nat.reduceAdd] at e9
     refine wnn (aK (aO (aE (aO (aE (aE (aO (aE (bT rfl (ResOk.cellA rfl cP bQ e9 rfl) ?_))))))))); have hfin := heq.trans (QA (by omega) (by omega)); rw [if_neg F] at hfin; rw [hfin]
     have e1 : (((i + k + 1 - i : Nat)) : Int) = (k : Int) + 1 := by omega
     have e2 : decide (((sb s (i + k) : Nat) : Int) = 41) = decide (sb s (i + k) = 41) := decide_eq_decide.2 (by omega); refine ⟨?_, ((((B.then a4).step a5 hg3.mem1).step a7 hg3.mem1).step h3 hg4.mem1)⟩; simp only [opV, e1, e2]
    exfalso; omega
   refine aF (wel ?_); refine wan (aZ rfl (fun I => ?_) (fun I => ?_))
   ·refine aM (csr (aA (wel ?_))); refine wnn (aZ rfl (fun F => ?_) (fun F => ?_))
    ·refine aF (aB (aD rfl fC) (bJ rfl rfl (rfl) fZ hb3 rfl fun k3 f0 f5 => ?_))
     try simp only [cH, Nat.reduceAdd] at f0
     refine wnn (aM ?_); refine fR (fun w0 w' => Evo [b3] w0 w') (by kernel_rfl) (fun D J => ?_); refine aet 0 rfl (fun _ hS => bC rfl) (Evo.refl [b3] D) ?_; refine aet 1 rfl (fun _ hS => aI rfl rfl (by omega) (by omega)) (Evo.refl [b3] D) ?_; refine aet 2 rfl (fun _ hS => bC rfl) (Evo.refl [b3] D) ?_; refine aet 3 rfl (fun _ hS => bC rfl) (Evo.refl [b3] D) ?_; refine aet 4 rfl (fun _ hS => kV (n := k) rfl rfl Tryz.underlying9 rfl (by omega) e0) (Evo.refl [b3] D) ?_; refine aet 5 rfl (fun _ hS => kK rfl rfl) (Evo.refl [b3] D) ?_; refine aet 6 rfl (fun _ hS => aD rfl gI) (Evo.refl [b3] D) ?_; refine cA [7] (by kernel_rfl) rfl ⟨?_, trivial⟩; refine cG rfl ?_; refine bJ rfl rfl (rfl) bY (J.blk0 f0) rfl fun i0 a8 L => ?_; have M := (Evo.refl [b3] D).step L (fun y hy => .inl hy)
     try simp only [cH, Nat.reduceAdd] at a8
     refine aR (bV (.inl M) ?_); refine aet 8 rfl (fun _ hS => aD rfl lS) M ?_; refine cA [9] (by kernel_rfl) rfl ⟨?_, trivial⟩; refine cG rfl ?_; refine bJ rfl rfl (rfl) fK a8 rfl fun i1 a9 O => ?_
     try simp only [cH, Nat.reduceAdd] at a9
     refine aR (bV (.inl (M.step O (fun y hy => .inl hy))) ?_); refine dB (by kernel_rfl) (aC ?_); refine csr (aB (bX rfl cP bQ a9 rfl) (aV rfl rfl bQ (O.blk (L.blk (J.blk0 (f5.blk hb4 ha34.symm.nmem1)) ha34.symm.nmem1) ha34.symm.nmem1) rfl rfl ⟨rfl, rfl, rfl, rfl, rfl, rfl, rfl, rfl, rfl, trivial⟩ fun i2 b5 f6 => ?_))
     try simp only [cH, Nat.reduceAdd] at b5
     refine wnn (aK (aO (aE (aO (aE (aE (aO (aE (bT rfl (ResOk.cellA rfl cP bQ b5 rfl) ?_))))))))); have hfin := heq.trans (QA (by omega) (by omega)); rw [if_pos F] at hfin; rw [hfin]
     have e1 : (((i + k + 1 - i : Nat)) : Int) = (k : Int) + 1 := by omega
     have e2 : decide (((sb s (i + k) : Nat) : Int) = 41) = decide (sb s (i + k) = 41) := decide_eq_decide.2 (by omega); refine ⟨?_, (((((B.step f5 hg3.mem1).then J).step L hg3.mem1).step O hg3.mem1).step f6 hg4.mem1)⟩; simp only [opV, e1, e2]
    refine aN (aC (aM ?_)); refine fR (fun w0 w' => Evo [b3] w0 w') (by kernel_rfl) (fun E U => ?_); refine aet 0 rfl (fun _ hS => bC rfl) (Evo.refl [b3] E) ?_; refine aet 1 rfl (fun _ hS => aI rfl rfl (by omega) (by omega)) (Evo.refl [b3] E) ?_; refine aet 2 rfl (fun _ hS => bC rfl) (Evo.refl [b3] E) ?_; refine aet 3 rfl (fun _ hS => bC rfl) (Evo.refl [b3] E) ?_; refine aet 4 rfl (fun _ hS => kV (n := k) rfl rfl Tryz.underlying9 rfl (by omega) e0) (Evo.refl [b3] E) ?_; refine aet 5 rfl (fun _ hS => kK rfl rfl) (Evo.refl [b3] E) ?_; refine aet 6 rfl (fun _ hS => aD rfl gI) (Evo.refl [b3] E) ?_; refine cA [7] (by kernel_rfl) rfl ⟨?_, trivial⟩; refine cG rfl ?_; refine bJ rfl rfl (rfl) bY (U.blk0 hb3) rfl fun i3 b6 V => ?_; have W := (Evo.refl [b3] E).step V (fun y hy => .inl hy)
    try simp only [cH, Nat.reduceAdd] at b6
    refine aR (bV (.inl W) ?_); refine aet 8 rfl (fun _ hS => aD rfl lS) W ?_; refine cA [9] (by kernel_rfl) rfl ⟨?_, trivial⟩; refine cG rfl ?_; refine bJ rfl rfl (rfl) fK b6 rfl fun i4 b7 Y => ?_
    try simp only [cH, Nat.reduceAdd] at b7
    refine aR (bV (.inl (W.step Y (fun y hy => .inl hy))) ?_); refine dB (by kernel_rfl) (aC ?_); refine csr (aB (bX rfl cP bQ b7 rfl) (aV rfl rfl bQ (Y.blk (V.blk (U.blk0 hb4) ha34.symm.nmem1) ha34.symm.nmem1) rfl rfl ⟨rfl, rfl, rfl, rfl, rfl, rfl, rfl, rfl, rfl, trivial⟩ fun i5 b8 f7 => ?_))
    try simp only [cH, Nat.reduceAdd] at b8
    refine wnn (aK (aO (aE (aO (aE (aE (aO (aE (bT rfl (ResOk.cellA rfl cP bQ b8 rfl) ?_))))))))); have hfin := heq.trans (QA (by omega) (by omega)); rw [if_neg F] at hfin; rw [hfin]
    have e1 : (((i + k + 1 - i : Nat)) : Int) = (k : Int) + 1 := by omega
    have e2 : decide (((sb s (i + k) : Nat) : Int) = 41) = decide (sb s (i + k) = 41) := decide_eq_decide.2 (by omega); refine ⟨?_, ((((B.then U).step V hg3.mem1).step Y hg3.mem1).step f7 hg4.mem1)⟩; simp only [opV, e1, e2]
   refine csr (aB (aD rfl fC) (bJ rfl rfl (rfl) fZ hb3 rfl fun i6 b9 c0 => ?_))
   try simp only [cH, Nat.reduceAdd] at b9
   refine wnn (csr (aB (bX rfl cP bQ b9 rfl) (aV rfl rfl bQ (c0.blk hb4 ha34.symm.nmem1) rfl rfl ⟨rfl, rfl, rfl, rfl, rfl, rfl, rfl, rfl, rfl, trivial⟩ fun i7 c1 f8 => ?_)))
   try simp only [cH, Nat.reduceAdd] at c1
   refine wnn (aK (aO (aE (aO (aE (aE (aO (aE (bT rfl (ResOk.cellA rfl cP bQ c1 rfl) ?_))))))))); have hfin := heq.trans (TB (by omega) (by omega) (by omega) (by omega) (by omega) (by omega) (by omega)); rw [hfin]; exact ⟨rfl, ((B.step c0 hg3.mem1).step f8 hg4.mem1)⟩
  refine cW (bS (bS (cV (aC ?_)))); refine csr (aB (aD rfl fC) (bJ rfl rfl (rfl) fZ hb3 rfl fun i8 c3 c4 => ?_))
  try simp only [cH, Nat.reduceAdd] at c3
  refine wnn (csr (aB (bX rfl cP bQ c3 rfl) (aV rfl rfl bQ (c4.blk hb4 ha34.symm.nmem1) rfl rfl ⟨rfl, rfl, rfl, rfl, rfl, rfl, rfl, rfl, rfl, trivial⟩ fun i9 c5 f9 => ?_)))
  try simp only [cH, Nat.reduceAdd] at c5
  refine wnn (aK (bT rfl (ResOk.cellA rfl cP bQ c5 rfl) ?_)); have hfin := heq.trans (LB (by omega)); rw [hfin]; exact ⟨rfl, ((B.step c4 hg3.mem1).step f9 hg4.mem1)⟩
theorem BW : Build Tryz.prog 159 #[(0, 1), (1, 1), (2, 4), (6, 1), (7, 1), (8, 1)] #[.int .i64 0, .string ByteArray.empty, .bool false, .bool false, .bool false, .bool false, .bool false, .bool false, .int .i64 0] := ⟨_, .agg #[.int .i64 0, .string ByteArray.empty, .bool false, .bool false, .bool false, .bool false, .bool false, .bool false, .int .i64 0], Tryz.underlying159, by kernel_rfl, rfl, fun w => by kernel_rfl⟩
theorem kX : eU Tryz.prog 159 1 = some 1 := by kernel_rfl
theorem jA : eU Tryz.prog 159 3 = some 6 := by kernel_rfl
theorem GD : dW Tryz.prog 143 := ⟨_, Tryz.func143, by kernel_rfl, by kernel_rfl⟩
def hd (k : Nat) : ByteArray := if k = 0 then ByteArray.mk #[40, 63, 80, 60] else ByteArray.mk #[40, 63, 60]
theorem hd_sz (k : Nat) : (k = 0 ∧ (hd k).size = 4) ∨ (k ≠ 0 ∧ (hd k).size = 3) := by
  unfold hd
  by_cases h : k = 0
  · rw [if_pos h]; exact .inl ⟨h, rfl⟩
  · rw [if_neg h]; exact .inr ⟨h, rfl⟩
theorem part_hd {k : Nat} (hk : k < 2) (w : World) : (part 9 #[.string (ByteArray.mk #[40, 63, 80, 60]), .string (ByteArray.mk #[40, 63, 60])] (k * 1)).run Tryz.prog w = .ok (.string (hd k)) w := by
  match k, hk with
  | 0, _ => exact wG w dG rfl
  | 1, _ => exact wG w dG rfl
theorem AN {s : ByteArray} {i k : Nat} (hi : i ≤ s.size) (h0 : isB s i 40 ∧ isB s (i + 1) 63) : Pre (s.extract i s.size) (hd k) ↔ (k = 0 ∧ isB s (i + 2) 80 ∧ isB s (i + 3) 60) ∨ (k ≠ 0 ∧ isB s (i + 2) 60) := by
  unfold hd
  by_cases h : k = 0
  · rw [if_pos h, pre4 hi]
    exact ⟨fun h1 => .inl ⟨h, h1.2.2⟩, fun h1 => by rcases h1 with h1 | h1; exact ⟨h0.1, h0.2, h1.2⟩; exact absurd h h1.1⟩
  · rw [if_neg h, pre3 hi]
    exact ⟨fun h1 => .inr ⟨h, h1.2.2⟩, fun h1 => by rcases h1 with h1 | h1; exact absurd h1.1 h; exact ⟨h0.1, h0.2, h1.2⟩⟩
theorem uQ {s : ByteArray} {i : Nat} {fl : Fl} (h : ¬ (isB s i 40 ∧ isB s (i + 1) 63)) : eT s i fl = ⟨1, emp, fl, true, false, 0⟩ := by unfold eT; rw [if_pos h]
theorem QG {s : ByteArray} {i k : Nat} {fl : Fl} (hi : i ≤ s.size) (h0 : isB s i 40 ∧ isB s (i + 1) 63) (hk : k < 2) (h1 : Pre (s.extract i s.size) (hd k)) (h2 : ∀ j, j < k → ¬ Pre (s.extract i s.size) (hd j)) : eT s i fl = mE s i (hd k).size fl := by
  rcases (show k = 0 ∨ k = 1 by omega) with rfl | rfl
  · unfold eT
    rw [if_neg (fun h => h h0), show (hd 0).size = 4 from rfl]
    rcases (AN hi h0).1 h1 with h3 | h3
    · exact if_pos h3.2
    · exact absurd rfl h3.1
  · unfold eT
    rw [if_neg (fun h => h h0), show (hd 1).size = 3 from rfl, if_neg (fun h => h2 0 (by omega) ((AN hi h0).2 (.inl ⟨rfl, h⟩)))]
    rcases (AN hi h0).1 h1 with h3 | h3
    · exact absurd h3.1 (by omega)
    · exact if_pos h3.2
theorem open_no {s : ByteArray} {i : Nat} {fl : Fl} (hi : i ≤ s.size) (h0 : isB s i 40 ∧ isB s (i + 1) 63) (h2 : ∀ j, j < 2 → ¬ Pre (s.extract i s.size) (hd j)) : eT s i fl = if isB s (i + 2) 58 then ⟨3, emp, fl, false, false, 0⟩ else fT s i s.size (i + 2) true 0 false fl := by
  unfold eT
  rw [if_neg (fun h => h h0), if_neg (fun h => h2 0 (by omega) ((AN hi h0).2 (.inl ⟨rfl, h⟩))), if_neg (fun h => h2 1 (by omega) ((AN hi h0).2 (.inr ⟨by omega, h⟩)))]
theorem AR {w : World} {b : Nat} {s : ByteArray} {st : PS} {a : Option Addr} {c : Nat} {T : TypeId} {z : Nat × Nat} (h : w.heap[b]? = some (.cells (rdc s st a c) T z)) : ∀ j v, ([.bool st.now.fold, .bool st.now.lines, .bool st.now.dots, .bool st.now.lazy] : List Value)[j]? = some v → w.cell? ⟨b, 2 + j, none⟩ = some v
  | 0, v, e => by cases e; exact iS h rfl
  | 1, v, e => by cases e; exact iS h rfl
  | 2, v, e => by cases e; exact iS h rfl
  | 3, v, e => by cases e; exact iS h rfl
  | j + 4, v, e => by cases e
theorem HS {s : ByteArray} {f j : Nat} (h : j < s.size) (h2 : iH (sb s j)) : kE s (f + 1) j = kE s f (j + 1) := by rw [kE, if_pos ⟨h, h2⟩]
theorem kD {s : ByteArray} {f j : Nat} (h : ¬ (j < s.size ∧ iH (sb s j))) : kE s f j = j := by
  cases f with
  | zero => rfl
  | succ f => rw [kE, if_neg h]
theorem lI {s : ByteArray} {i h : Nat} {fl : Fl} {j : Nat} (e : kE s s.size (i + h) = j) (hc : j = i + h ∨ ¬ isB s j 62) : mE s i h fl = ⟨0, emp, fl, false, false, 85⟩ := by unfold mE; rw [e, if_pos hc]
theorem pI {s : ByteArray} {i h : Nat} {fl : Fl} {j : Nat} (e : kE s s.size (i + h) = j) (hc : ¬ (j = i + h ∨ ¬ isB s j 62)) : mE s i h fl = ⟨j + 1 - i, s.extract (i + h) j, fl, true, false, 0⟩ := by unfold mE; rw [e, if_neg hc]
structure HdI (w wr : World) (b2 b4 : Nat) (s : ByteArray) (i : Nat) (fl : Fl) (k : Nat) : Prop where
  hk : k ≤ 2
  no : ∀ j, j < k → ¬ Pre (s.extract i s.size) (hd j)
structure WdG where
  f : Nat
  m : Nat
structure WdI (s : ByteArray) (i h : Nat) (x : WdG) : Prop where
  hm : i + x.m ≤ s.size
  hh : h ≤ x.m
  hf : s.size ≤ x.f + (i + x.m)
  eq : kE s s.size (i + h) = kE s x.f (i + x.m)
theorem pK {w : World} {b : Nat} {s : ByteArray} {st : PS} {a : Option Addr} {c : Nat} {ob : Option Nat} (hR : RdAt w b s st a c ob) (hs : s.size ≤ 1000000) (hlt : st.pos < s.size) :
    Calls Tryz.prog 127 #[.pointer (some ⟨b, 0, none⟩)] w (Ret fun v w' => v = .agg (opV (eT s st.pos st.now)) ∧ Evo [] w w') := by
  have hap := hR.ap
  have hle : st.pos ≤ s.size := by omega
  have hrs := gF (s := s) (a := st.pos) (Nat.le_refl s.size); refine bE (N := 87) Tryz.func127 rfl rfl rfl ?_; refine csr (cO rfl jN fun b2 w1 l1 l2 l3 => ?_); have l8 := l2; have I := Ge.new (Evo.refl [] w) l2; have i8 := l3.blk0 hR.blk; refine wnn (aM ?_); refine eK (by kernel_rfl) (by kernel_rfl) ?_; refine bG (fun _ E => bC rfl) ?_; refine bG (fun _ E => aH rfl) ?_; refine bG (fun _ E => aD rfl eA) ?_; refine bG (fun _ E => aX rfl dG (bI (E.blk0 i8) rfl)) ?_; refine bG (fun _ E => bC rfl) ?_; refine bG (fun _ E => aH rfl) ?_; refine bG (fun _ E => aD rfl bP) ?_; refine bG (fun _ E => aX rfl bD (bI (E.blk0 i8) rfl)) ?_; refine bG (fun _ E => lG (l := st.pos) rfl rfl Tryz.underlying9 rfl hle) ?_; refine bG (fun _ E => cR rfl) ?_; refine eN (fun m2 E => aC ?_); have i9 := ((Evo.refl [] w).then l3).then E; refine csr (aA (aB (aH rfl) (aB (aD rfl fS) (aB (eB (o := 2) rfl lZ eX (vs := [.bool st.now.fold, .bool st.now.lines, .bool st.now.dots, .bool st.now.lazy]) rfl (AR (E.blk0 i8))) ?_)))); refine aB (cI (vs := [(2, _)]) BW rfl (cells := [_, _, _, _, _, _, _, _, _]) rfl) ?_; refine cO rfl jN fun b4 p6 l4 d1 j0 => ?_; have l9 := d1; have B := Apart.new (Lt.blk (E.blk0 l1)) d1
  have D := Ge.new i9 d1; refine aV rfl rfl bQ l4 rfl rfl ⟨rfl, rfl, rfl, rfl, rfl, rfl, rfl, rfl, rfl, trivial⟩ fun p7 d2 j1 => ?_
  try simp only [cH, Nat.reduceAdd] at d2
  refine wnn (aM (csr (aA ?_))); refine aG (vs := [_, _]) oR rfl (yS (s.extract st.pos s.size) (ByteArray.mk #[40, 63]) (by omega) (show 2 ≤ 140737488355328 by omega)) rfl ?_; rintro _ m0 ⟨rfl, a3⟩; have d3 := ((i9.then j0).step j1 D.mem1).then a3; have d4 := a3.blk0 (j1.blk (j0.blk0 (E.blk0 l1)) B.nmem1); refine aB (mS rfl) ?_; refine wnn (aZ rfl (fun d5 => ?_) (fun d5 => ?_))
  ·refine csr (aB (aD rfl gI) (bJ rfl rfl (rfl) bY (a3.blk0 d2) rfl fun p8 j2 j3 => ?_))
   try simp only [cH, Nat.reduceAdd] at j2
   refine aB (aD rfl jA) (bJ rfl rfl (rfl) fK j2 rfl fun p9 j4 j5 => ?_)
   try simp only [cH, Nat.reduceAdd] at j4
   refine wnn (csr (aB (bX rfl cP bQ j4 rfl) (aV rfl rfl bQ (j5.blk (j3.blk d4 B.nmem1) B.nmem1) rfl rfl ⟨rfl, rfl, rfl, rfl, rfl, rfl, rfl, rfl, rfl, trivial⟩ fun q0 j6 l5 => ?_)))
   try simp only [cH, Nat.reduceAdd] at j6
   refine wnn (aK (aE (bT rfl (ResOk.cellA rfl cP bQ j6 rfl) ?_))); rw [uQ (fun h => d5 ((pre2 hle).2 h))]; exact ⟨rfl, (((d3.step j3 D.mem1).step j5 D.mem1).step l5 I.mem1)⟩
  have h40 := (pre2 hle).1 (Classical.not_not.1 d5); refine aN (aC (aM (csr ?_))); refine aB (tD (vs := [(0, _), (1, _)]) Tryz.underlying164 FP lY rfl (cells := #[.string (ByteArray.mk #[40, 63, 80, 60]), .string (ByteArray.mk #[40, 63, 60])]) (by kernel_rfl)) ?_; refine aA (wnn (bK ?_)); refine dL (α := Nat) (0) (fun k => [(29, .int .i64 (k : Nat))]) [(2, _), (3, _), (4, _), (28, _)] (fun k wr => Evo [] m0 wr ∧ (HdI w wr b2 b4 s st.pos st.now k)) (fun k => 2 - k) ⟨rfl, trivial⟩ ⟨rfl, rfl, rfl, rfl, trivial⟩ ⟨Evo.refl _ _, ⟨Nat.zero_le _, fun j h => by cases h⟩⟩ ?_; rintro k wr64 ⟨M, ⟨hk2, hno⟩⟩; show CW _ _ _ _ [(29, _), (2, _), (3, _), (4, _), (28, _)] _; have d6 := M.blk0 (a3.blk0 d2); refine csr (aB (dA rfl rfl) ?_); refine wnn (aM (aZ rfl (fun l6 => ?_) (fun l6 => ?_)))
  ·refine aN (aC (aM (bK (csr ?_)))); refine aB (OP (n := k) rfl rfl Tryz.underlying164 rfl (by omega) lY (part_hd (by omega))) ?_; refine wan (aM (csr (aA (aA ?_))))
   refine aG (vs := [_, _]) oR rfl (yS (s.extract st.pos s.size) (hd k) (by omega) (by have := hd_sz k; omega)) rfl ?_
   rintro _ m1 ⟨rfl, a4⟩; refine aB (mS rfl) ?_; refine wnn (aZ rfl (fun d7 => ?_) (fun d7 => ?_))
   ·refine cW (bS (cV (aC ?_))); refine aF ?_; refine aB (aI rfl rfl (by omega) (by omega)) ?_; refine aA (aR (aY ?_)); refine ⟨k + 1, ?_, ⟨rfl, trivial⟩, ⟨rfl, rfl, rfl, rfl, trivial⟩, (M.then a4), ?_⟩
    · omega
    refine ⟨by omega, fun j hj => ?_⟩
    by_cases e : j = k
    · subst e; exact d7
    · exact hno j (by omega)
   have hpk := Classical.not_not.1 d7; have hsz := hd_sz k; have hsl : (hd k).size ≤ (s.extract st.pos s.size).size := hpk.1; have hop := QG (fl := st.now) hle h40 (by omega) hpk hno; refine aN (aC (csr (aA (aB (cQ rfl Tryz.underlying9 rfl) ?_)))); refine wan (aM (bK ?_))
   refine dL (α := WdG) (⟨s.size, (hd k).size⟩) (fun x => [(7, .int .i64 (x.m : Nat))]) [(2, _), (3, _), (4, _), (6, _), (28, _), (29, _)] (fun x wr => Evo [] m1 wr ∧ (WdI s st.pos (hd k).size x)) (fun x => x.f) ⟨rfl, trivial⟩ ⟨rfl, rfl, rfl, rfl, rfl, rfl, trivial⟩ ⟨Evo.refl _ _, ⟨by show st.pos + (hd k).size ≤ s.size; omega, Nat.le_refl _, Nat.le_add_right _ _, rfl⟩⟩ ?_
   rintro ⟨f, m⟩ wr79 ⟨a5, ⟨hm, hhm, hf, heq⟩⟩; show CW _ _ _ _ [(7, .int .i64 (m : Nat)), (2, _), (3, _), (4, _), (6, _), (28, _), (29, _)] _
   try dsimp only at hm hhm hf heq
   have O := ((d3.then M).then a4).then a5; have U := a5.blk0 (a4.blk0 (M.blk0 d4)); have V := a5.blk0 (a4.blk0 d6); refine aM (csr (aA (aA (aB (cQ rfl Tryz.underlying9 rfl) ?_)))); refine aB (dA rfl rfl) ?_; refine aA (bH (t := 42) rfl (fun l7 => ?_) (fun l7 => ?_))
   ·have e0 : sb (s.extract st.pos s.size) m = sb s (st.pos + m) := iU (by omega); refine aW (aA (aW (aA (aW ?_)))); refine aB (kV (n := m) rfl rfl Tryz.underlying9 rfl (by omega) e0) ?_; refine aW (aG (vs := [_]) oT rfl (yH (sb s (st.pos + m))) rfl ?_); rintro _ q1 ⟨rfl, a6⟩; have a0 := O.then a6; have a1 := a6.blk0 U; have a2 := a6.blk0 V; refine bW (wnn (aZ rfl (fun F => ?_) (fun F => ?_)))
    ·refine aN (aC (bK (aF (aA ?_)))); refine aB (aI rfl rfl (by omega) (by omega)) ?_; refine bN (aR (aQ (aY ?_))); refine ⟨⟨f - 1, m + 1⟩, ?_, ⟨rfl, trivial⟩, ⟨rfl, rfl, rfl, rfl, rfl, rfl, trivial⟩, (a5.then a6), ?_⟩
     · (try dsimp only); show f - 1 < f; omega
     try dsimp only
     have hf2 : f = f - 1 + 1 := by omega
     exact ⟨(by show st.pos + (m + 1) ≤ s.size; omega), Nat.le_succ_of_le hhm, (by show s.size ≤ f - 1 + (st.pos + (m + 1)); omega), heq.trans (by rw [hf2]; exact HS (by omega) F)⟩
    refine cW (bS (bS (cV (aC ?_)))); refine aM (csr (aA (aA (aB (cQ rfl Tryz.underlying9 rfl) ?_)))); refine wel ?_; refine aA (bH (t := 54) rfl (fun d8 => ?_) (fun d8 => ?_))
    ·refine aP (aP (aP (aP (bW (aA (aP (aP (aP (aP (bW (wnn (cZ rfl ?_)))))))))))); refine csr (aB (aD rfl fC) (bJ rfl rfl (rfl) fZ a2 rfl fun q3 j7 j8 => ?_))
     try simp only [cH, Nat.reduceAdd] at j7
     refine wnn (csr (aB (bX rfl cP bQ j7 rfl) (aV rfl rfl bQ (j8.blk a1 B.nmem1) rfl rfl ⟨rfl, rfl, rfl, rfl, rfl, rfl, rfl, rfl, rfl, trivial⟩ fun m3 e3 j9 => ?_)))
     try simp only [cH, Nat.reduceAdd] at e3
     refine wnn (aK (aE (aO (aE (aE (aO (aE (bT rfl (ResOk.cellA rfl cP bQ e3 rfl) ?_))))))))
     have hend := heq.trans (kD (by rintro ⟨h1, h2⟩; first | omega | exact F h2))
     rw [hop, lI hend (.inl (by omega))]; exact ⟨rfl, ((a0.step j8 D.mem1).step j9 I.mem1)⟩
    refine aW (aA (aW (aA (aW (aB (cQ rfl Tryz.underlying9 rfl) ?_))))); refine aW (wel ?_); refine bR (aA (bH (t := 60) rfl (fun d9 => ?_) (fun d9 => ?_)))
    ·refine aP (aP (aP (aP (bW (wnn (cZ rfl ?_)))))); refine csr (aB (aD rfl fC) (bJ rfl rfl (rfl) fZ a2 rfl fun m4 e4 e5 => ?_))
     try simp only [cH, Nat.reduceAdd] at e4
     refine wnn (csr (aB (bX rfl cP bQ e4 rfl) (aV rfl rfl bQ (e5.blk a1 B.nmem1) rfl rfl ⟨rfl, rfl, rfl, rfl, rfl, rfl, rfl, rfl, rfl, trivial⟩ fun m5 e6 k0 => ?_)))
     try simp only [cH, Nat.reduceAdd] at e6
     refine wnn (aK (aE (aO (aE (aE (aO (aE (bT rfl (ResOk.cellA rfl cP bQ e6 rfl) ?_))))))))
     have hend := heq.trans (kD (by rintro ⟨h1, h2⟩; first | omega | exact F h2))
     rw [hop, lI hend (.inr (fun h => by have := h.1; omega))]
     exact ⟨rfl, ((a0.step e5 D.mem1).step k0 I.mem1)⟩
    have e0 : sb (s.extract st.pos s.size) m = sb s (st.pos + m) := iU (by omega); refine aW (aA (aW (aA (aW ?_)))); refine aB (kV (n := m) rfl rfl Tryz.underlying9 rfl (by omega) e0) ?_; refine aW (aB (fE rfl rfl) ?_); refine bR (wnn (aZ rfl (fun e1 => ?_) (fun e1 => ?_)))
    ·refine csr (aB (aD rfl fC) (bJ rfl rfl (rfl) fZ a2 rfl fun m6 e7 e8 => ?_))
     try simp only [cH, Nat.reduceAdd] at e7
     refine wnn (csr (aB (bX rfl cP bQ e7 rfl) (aV rfl rfl bQ (e8.blk a1 B.nmem1) rfl rfl ⟨rfl, rfl, rfl, rfl, rfl, rfl, rfl, rfl, rfl, trivial⟩ fun m7 e9 k1 => ?_)))
     try simp only [cH, Nat.reduceAdd] at e9
     refine wnn (aK (aE (aO (aE (aE (aO (aE (bT rfl (ResOk.cellA rfl cP bQ e9 rfl) ?_))))))))
     have hend := heq.trans (kD (by rintro ⟨h1, h2⟩; first | omega | exact F h2))
     rw [hop, lI hend (.inr (fun h => by have := h.2; omega))]
     exact ⟨rfl, ((a0.step e8 D.mem1).step k1 I.mem1)⟩
    have e74 : (s.extract st.pos s.size).extract (hd k).size m = s.extract (st.pos + (hd k).size) (st.pos + m) := AS (by omega) hhm; refine aN (aC (aM ?_)); refine fR (fun w0 w' => Evo [b4] w0 w') (by kernel_rfl) (fun G J => ?_); refine aet 0 rfl (fun _ hS => bC rfl) (Evo.refl [b4] G) ?_; refine aet 1 rfl (fun _ hS => aI rfl rfl (by omega) (by omega)) (Evo.refl [b4] G) ?_; refine aet 2 rfl (fun _ hS => bC rfl) (Evo.refl [b4] G) ?_; refine aet 3 rfl (fun _ hS => bC rfl) (Evo.refl [b4] G) ?_; refine aet 4 rfl (fun _ hS => cQ rfl Tryz.underlying9 rfl) (Evo.refl [b4] G) ?_; refine aet 5 rfl (fun _ hS => bC rfl) (Evo.refl [b4] G) ?_; refine aet 7 rfl (fun _ hS => aD rfl gI) (Evo.refl [b4] G) ?_; refine cA [6, 8] (by kernel_rfl) rfl ⟨?_, ?_, trivial⟩
    ·refine cG rfl ?_; refine aB (sG (l := (hd k).size) (h := m) rfl rfl rfl Tryz.underlying9 rfl rfl hhm (by omega) e74) ?_; refine aR (bV (.inl (Evo.refl [b4] G)) ?_); refine cA [8] (by kernel_rfl) rfl ⟨?_, trivial⟩; refine cG rfl ?_; refine bJ rfl rfl (rfl) bY (J.blk0 a2) rfl fun m8 f0 a7 => ?_; have a8 := (Evo.refl [b4] G).step a7 (fun y hy => .inl hy)
     try simp only [cH, Nat.reduceAdd] at f0
     refine aR (bV (.inl a8) ?_); refine aet 9 rfl (fun _ hS => aD rfl kX) a8 ?_; refine cA [10] (by kernel_rfl) rfl ⟨?_, trivial⟩; refine cG rfl ?_; refine bJ rfl rfl (rfl) lY f0 rfl fun m9 f5 a9 => ?_; have b5 := a8.step a9 (fun y hy => .inl hy)
     try simp only [cH, Nat.reduceAdd] at f5
     refine aR (bV (.inl b5) ?_); refine aet 11 rfl (fun _ hS => aD rfl jA) b5 ?_; refine cA [12] (by kernel_rfl) rfl ⟨?_, trivial⟩; refine cG rfl ?_; refine bJ rfl rfl (rfl) fK f5 rfl fun n0 f6 b6 => ?_
     try simp only [cH, Nat.reduceAdd] at f6
     refine aR (bV (.inl (b5.step b6 (fun y hy => .inl hy))) ?_); refine dB (by kernel_rfl) (aC ?_); refine csr (aB (bX rfl cP bQ f6 rfl) (aV rfl rfl bQ (b6.blk (a9.blk (a7.blk (J.blk0 a1) B.nmem1) B.nmem1) B.nmem1) rfl rfl ⟨rfl, rfl, rfl, rfl, rfl, rfl, rfl, rfl, rfl, trivial⟩ fun n1 f7 k2 => ?_))
     try simp only [cH, Nat.reduceAdd] at f7
     refine wnn (aK (aO (aE (aE (aO (aE (bT rfl (ResOk.cellA rfl cP bQ f7 rfl) ?_)))))))
     have hend := heq.trans (kD (by rintro ⟨h1, h2⟩; first | omega | exact F h2))
     rw [hop, pI hend (by rintro (h | h); omega; exact h ⟨by omega, by omega⟩)]
     refine ⟨?_, (((((a0.then J).step a7 D.mem1).step a9 D.mem1).step b6 D.mem1).step k2 I.mem1)⟩; simp only [opV]; rw [show ((st.pos + m + 1 - st.pos : Nat) : Int) = (m : Int) + 1 by omega]
    refine cG rfl ?_; refine bJ rfl rfl (rfl) bY (J.blk0 a2) rfl fun n2 f8 b7 => ?_; have W := (Evo.refl [b4] G).step b7 (fun y hy => .inl hy)
    try simp only [cH, Nat.reduceAdd] at f8
    refine aR (bV (.inl W) ?_); refine cA [6] (by kernel_rfl) rfl ⟨?_, trivial⟩; refine cG rfl ?_; refine aB (sG (l := (hd k).size) (h := m) rfl rfl rfl Tryz.underlying9 rfl rfl hhm (by omega) e74) ?_; refine aR (bV (.inl W) ?_); refine aet 9 rfl (fun _ hS => aD rfl kX) W ?_; refine cA [10] (by kernel_rfl) rfl ⟨?_, trivial⟩; refine cG rfl ?_; refine bJ rfl rfl (rfl) lY f8 rfl fun n3 f9 b8 => ?_; have b9 := W.step b8 (fun y hy => .inl hy)
    try simp only [cH, Nat.reduceAdd] at f9
    refine aR (bV (.inl b9) ?_); refine aet 11 rfl (fun _ hS => aD rfl jA) b9 ?_; refine cA [12] (by kernel_rfl) rfl ⟨?_, trivial⟩; refine cG rfl ?_; refine bJ rfl rfl (rfl) fK f9 rfl fun n4 g0 c0 => ?_
    try simp only [cH, Nat.reduceAdd] at g0
    refine aR (bV (.inl (b9.step c0 (fun y hy => .inl hy))) ?_); refine dB (by kernel_rfl) (aC ?_); refine csr (aB (bX rfl cP bQ g0 rfl) (aV rfl rfl bQ (c0.blk (b8.blk (b7.blk (J.blk0 a1) B.nmem1) B.nmem1) B.nmem1) rfl rfl ⟨rfl, rfl, rfl, rfl, rfl, rfl, rfl, rfl, rfl, trivial⟩ fun n5 g1 k3 => ?_))
    try simp only [cH, Nat.reduceAdd] at g1
    refine wnn (aK (aO (aE (aE (aO (aE (bT rfl (ResOk.cellA rfl cP bQ g1 rfl) ?_)))))))
    have hend := heq.trans (kD (by rintro ⟨h1, h2⟩; first | omega | exact F h2))
    rw [hop, pI hend (by rintro (h | h); omega; exact h ⟨by omega, by omega⟩)]
    refine ⟨?_, (((((a0.then J).step b7 D.mem1).step b8 D.mem1).step c0 D.mem1).step k3 I.mem1)⟩; simp only [opV]; rw [show ((st.pos + m + 1 - st.pos : Nat) : Int) = (m : Int) + 1 by omega]
   refine aP (aP (aP (aP (bR (wnn (cF rfl ?_)))))); refine cW (bS (bS (cV (aC ?_)))); refine aM (csr (aA (aA (aB (cQ rfl Tryz.underlying9 rfl) ?_)))); refine wel ?_; refine aA (bH (t := 54) rfl (fun d8 => ?_) (fun d8 => ?_))
   ·refine aP (aP (aP (aP (bW (aA (aP (aP (aP (aP (bW (wnn (cZ rfl ?_)))))))))))); refine csr (aB (aD rfl fC) (bJ rfl rfl (rfl) fZ V rfl fun n6 g2 g3 => ?_))
    try simp only [cH, Nat.reduceAdd] at g2
    refine wnn (csr (aB (bX rfl cP bQ g2 rfl) (aV rfl rfl bQ (g3.blk U B.nmem1) rfl rfl ⟨rfl, rfl, rfl, rfl, rfl, rfl, rfl, rfl, rfl, trivial⟩ fun n7 g4 k4 => ?_)))
    try simp only [cH, Nat.reduceAdd] at g4
    refine wnn (aK (aE (aO (aE (aE (aO (aE (bT rfl (ResOk.cellA rfl cP bQ g4 rfl) ?_))))))))
    have hend := heq.trans (kD (by rintro ⟨h1, h2⟩; first | omega | exact F h2))
    rw [hop, lI hend (.inl (by omega))]; exact ⟨rfl, ((O.step g3 D.mem1).step k4 I.mem1)⟩
   refine aW (aA (aW (aA (aW (aB (cQ rfl Tryz.underlying9 rfl) ?_))))); refine aW (wel ?_); refine bR (aA (bH (t := 60) rfl (fun d9 => ?_) (fun d9 => ?_)))
   ·refine aP (aP (aP (aP (bW (wnn (cZ rfl ?_)))))); refine csr (aB (aD rfl fC) (bJ rfl rfl (rfl) fZ V rfl fun n8 g5 g6 => ?_))
    try simp only [cH, Nat.reduceAdd] at g5
    refine wnn (csr (aB (bX rfl cP bQ g5 rfl) (aV rfl rfl bQ (g6.blk U B.nmem1) rfl rfl ⟨rfl, rfl, rfl, rfl, rfl, rfl, rfl, rfl, rfl, trivial⟩ fun n9 g7 k5 => ?_)))
    try simp only [cH, Nat.reduceAdd] at g7
    refine wnn (aK (aE (aO (aE (aE (aO (aE (bT rfl (ResOk.cellA rfl cP bQ g7 rfl) ?_))))))))
    have hend := heq.trans (kD (by rintro ⟨h1, h2⟩; first | omega | exact F h2))
    rw [hop, lI hend (.inr (fun h => by have := h.1; omega))]
    exact ⟨rfl, ((O.step g6 D.mem1).step k5 I.mem1)⟩
   have e0 : sb (s.extract st.pos s.size) m = sb s (st.pos + m) := iU (by omega); refine aW (aA (aW (aA (aW ?_)))); refine aB (kV (n := m) rfl rfl Tryz.underlying9 rfl (by omega) e0) ?_; refine aW (aB (fE rfl rfl) ?_); refine bR (wnn (aZ rfl (fun e1 => ?_) (fun e1 => ?_)))
   ·refine csr (aB (aD rfl fC) (bJ rfl rfl (rfl) fZ V rfl fun o0 g8 g9 => ?_))
    try simp only [cH, Nat.reduceAdd] at g8
    refine wnn (csr (aB (bX rfl cP bQ g8 rfl) (aV rfl rfl bQ (g9.blk U B.nmem1) rfl rfl ⟨rfl, rfl, rfl, rfl, rfl, rfl, rfl, rfl, rfl, trivial⟩ fun o1 h0 k6 => ?_)))
    try simp only [cH, Nat.reduceAdd] at h0
    refine wnn (aK (aE (aO (aE (aE (aO (aE (bT rfl (ResOk.cellA rfl cP bQ h0 rfl) ?_))))))))
    have hend := heq.trans (kD (by rintro ⟨h1, h2⟩; first | omega | exact F h2))
    rw [hop, lI hend (.inr (fun h => by have := h.2; omega))]
    exact ⟨rfl, ((O.step g9 D.mem1).step k6 I.mem1)⟩
   have e74 : (s.extract st.pos s.size).extract (hd k).size m = s.extract (st.pos + (hd k).size) (st.pos + m) := AS (by omega) hhm; refine aN (aC (aM ?_)); refine fR (fun w0 w' => Evo [b4] w0 w') (by kernel_rfl) (fun H L => ?_); refine aet 0 rfl (fun _ hS => bC rfl) (Evo.refl [b4] H) ?_; refine aet 1 rfl (fun _ hS => aI rfl rfl (by omega) (by omega)) (Evo.refl [b4] H) ?_; refine aet 2 rfl (fun _ hS => bC rfl) (Evo.refl [b4] H) ?_; refine aet 3 rfl (fun _ hS => bC rfl) (Evo.refl [b4] H) ?_; refine aet 4 rfl (fun _ hS => cQ rfl Tryz.underlying9 rfl) (Evo.refl [b4] H) ?_; refine aet 5 rfl (fun _ hS => bC rfl) (Evo.refl [b4] H) ?_; refine aet 7 rfl (fun _ hS => aD rfl gI) (Evo.refl [b4] H) ?_; refine cA [6, 8] (by kernel_rfl) rfl ⟨?_, ?_, trivial⟩
   ·refine cG rfl ?_; refine aB (sG (l := (hd k).size) (h := m) rfl rfl rfl Tryz.underlying9 rfl rfl hhm (by omega) e74) ?_; refine aR (bV (.inl (Evo.refl [b4] H)) ?_); refine cA [8] (by kernel_rfl) rfl ⟨?_, trivial⟩; refine cG rfl ?_; refine bJ rfl rfl (rfl) bY (L.blk0 V) rfl fun o2 h3 c1 => ?_; have c3 := (Evo.refl [b4] H).step c1 (fun y hy => .inl hy)
    try simp only [cH, Nat.reduceAdd] at h3
    refine aR (bV (.inl c3) ?_); refine aet 9 rfl (fun _ hS => aD rfl kX) c3 ?_; refine cA [10] (by kernel_rfl) rfl ⟨?_, trivial⟩; refine cG rfl ?_; refine bJ rfl rfl (rfl) lY h3 rfl fun o3 h4 c4 => ?_; have c5 := c3.step c4 (fun y hy => .inl hy)
    try simp only [cH, Nat.reduceAdd] at h4
    refine aR (bV (.inl c5) ?_); refine aet 11 rfl (fun _ hS => aD rfl jA) c5 ?_; refine cA [12] (by kernel_rfl) rfl ⟨?_, trivial⟩; refine cG rfl ?_; refine bJ rfl rfl (rfl) fK h4 rfl fun o4 h5 c6 => ?_
    try simp only [cH, Nat.reduceAdd] at h5
    refine aR (bV (.inl (c5.step c6 (fun y hy => .inl hy))) ?_); refine dB (by kernel_rfl) (aC ?_); refine csr (aB (bX rfl cP bQ h5 rfl) (aV rfl rfl bQ (c6.blk (c4.blk (c1.blk (L.blk0 U) B.nmem1) B.nmem1) B.nmem1) rfl rfl ⟨rfl, rfl, rfl, rfl, rfl, rfl, rfl, rfl, rfl, trivial⟩ fun o5 h6 k7 => ?_))
    try simp only [cH, Nat.reduceAdd] at h6
    refine wnn (aK (aO (aE (aE (aO (aE (bT rfl (ResOk.cellA rfl cP bQ h6 rfl) ?_)))))))
    have hend := heq.trans (kD (by rintro ⟨h1, h2⟩; first | omega | exact F h2))
    rw [hop, pI hend (by rintro (h | h); omega; exact h ⟨by omega, by omega⟩)]
    refine ⟨?_, (((((O.then L).step c1 D.mem1).step c4 D.mem1).step c6 D.mem1).step k7 I.mem1)⟩; simp only [opV]; rw [show ((st.pos + m + 1 - st.pos : Nat) : Int) = (m : Int) + 1 by omega]
   refine cG rfl ?_; refine bJ rfl rfl (rfl) bY (L.blk0 V) rfl fun o6 h7 c7 => ?_; have Y := (Evo.refl [b4] H).step c7 (fun y hy => .inl hy)
   try simp only [cH, Nat.reduceAdd] at h7
   refine aR (bV (.inl Y) ?_); refine cA [6] (by kernel_rfl) rfl ⟨?_, trivial⟩; refine cG rfl ?_; refine aB (sG (l := (hd k).size) (h := m) rfl rfl rfl Tryz.underlying9 rfl rfl hhm (by omega) e74) ?_; refine aR (bV (.inl Y) ?_); refine aet 9 rfl (fun _ hS => aD rfl kX) Y ?_; refine cA [10] (by kernel_rfl) rfl ⟨?_, trivial⟩; refine cG rfl ?_; refine bJ rfl rfl (rfl) lY h7 rfl fun o7 h8 c8 => ?_; have c9 := Y.step c8 (fun y hy => .inl hy)
   try simp only [cH, Nat.reduceAdd] at h8
   refine aR (bV (.inl c9) ?_); refine aet 11 rfl (fun _ hS => aD rfl jA) c9 ?_; refine cA [12] (by kernel_rfl) rfl ⟨?_, trivial⟩; refine cG rfl ?_; refine bJ rfl rfl (rfl) fK h8 rfl fun o8 h9 d0 => ?_
   try simp only [cH, Nat.reduceAdd] at h9
   refine aR (bV (.inl (c9.step d0 (fun y hy => .inl hy))) ?_); refine dB (by kernel_rfl) (aC ?_); refine csr (aB (bX rfl cP bQ h9 rfl) (aV rfl rfl bQ (d0.blk (c8.blk (c7.blk (L.blk0 U) B.nmem1) B.nmem1) B.nmem1) rfl rfl ⟨rfl, rfl, rfl, rfl, rfl, rfl, rfl, rfl, rfl, trivial⟩ fun o9 i0 k8 => ?_))
   try simp only [cH, Nat.reduceAdd] at i0
   refine wnn (aK (aO (aE (aE (aO (aE (bT rfl (ResOk.cellA rfl cP bQ i0 rfl) ?_)))))))
   have hend := heq.trans (kD (by rintro ⟨h1, h2⟩; first | omega | exact F h2))
   rw [hop, pI hend (by rintro (h | h); omega; exact h ⟨by omega, by omega⟩)]
   refine ⟨?_, (((((O.then L).step c7 D.mem1).step c8 D.mem1).step d0 D.mem1).step k8 I.mem1)⟩; simp only [opV]; rw [show ((st.pos + m + 1 - st.pos : Nat) : Int) = (m : Int) + 1 by omega]
  have hnn : ∀ j, j < 2 → ¬ Pre (s.extract st.pos s.size) (hd j) := fun j hj => hno j (by omega); have hop := open_no (fl := st.now) hle h40 hnn; refine cW (bS (bS (cV (aC ?_)))); refine aM (csr (aA ?_)); refine aG (vs := [_, _]) oR rfl (yS (s.extract st.pos s.size) (ByteArray.mk #[40, 63, 58]) (by omega) (show 3 ≤ 140737488355328 by omega)) rfl ?_; rintro _ p1 ⟨rfl, Z⟩; have i1 := (d3.then M).then Z; have i2 := Z.blk0 (M.blk0 d4); refine wnn (aZ rfl (fun e2 => ?_) (fun e2 => ?_))
  ·refine csr (aB (aD rfl gI) (bJ rfl rfl (rfl) bY (Z.blk0 d6) rfl fun p2 i3 i4 => ?_))
   try simp only [cH, Nat.reduceAdd] at i3
   refine wnn (csr (aB (bX rfl cP bQ i3 rfl) (aV rfl rfl bQ (i4.blk i2 B.nmem1) rfl rfl ⟨rfl, rfl, rfl, rfl, rfl, rfl, rfl, rfl, rfl, trivial⟩ fun p3 i5 k9 => ?_)))
   try simp only [cH, Nat.reduceAdd] at i5
   refine wnn (aK (aE (bT rfl (ResOk.cellA rfl cP bQ i5 rfl) ?_))); have h58 : isB s (st.pos + 2) 58 := ((pre3 hle).1 e2).2.2; rw [hop, if_pos h58]; exact ⟨rfl, ((i1.step i4 D.mem1).step k9 I.mem1)⟩
  refine aN (aC (csr (aA (aB (bX rfl cP bQ (Z.blk0 d6) rfl) ?_))))
  refine aG (vs := [_, _]) GD rfl (KR s st.pos st.now (by have := h40.2.1; omega) hs) rfl ?_
  rintro _ p4 ⟨rfl, i6⟩; refine aV rfl rfl bQ (i6.blk0 i2) rfl rfl ⟨rfl, rfl, rfl, rfl, rfl, rfl, rfl, rfl, rfl, trivial⟩ fun p5 i7 l0 => ?_
  try simp only [cH, Nat.reduceAdd] at i7
  refine wnn (aK (bT rfl (ResOk.cellA rfl cP bQ i7 rfl) ?_)); have h58 : ¬ isB s (st.pos + 2) 58 := fun h => e2 ((pre3 hle).2 ⟨h40.1, h40.2, h⟩); rw [hop, if_neg h58]; exact ⟨rfl, ((i1.then i6).step l0 I.mem1)⟩
theorem jB : BS Tryz.prog 25 25 = some (27, 9, 112) := by kernel_rfl
theorem oU : dW Tryz.prog 116 := ⟨_, Tryz.func116, by kernel_rfl, by kernel_rfl⟩
theorem OTs.evo0 {l : List Rx} {w w' : World} {cs : List Value} {bs : List Nat} (h : OTs l w cs bs) (he : Evo [] w w') : OTs l w' cs bs := h.evo he (fun b hb h => by cases h)
theorem OT.evo0 {x : Rx} {w w' : World} {vs : List Value} {bs : List Nat} (h : OT x w vs bs) (he : Evo [] w w') : OT x w' vs bs := h.evo he (fun b hb h => by cases h)
theorem pX {w : World} {o : Option Nat} {bs : List Nat} (h : Fr w (o.toList ++ bs)) : ∀ q, q ∈ bs → q ∉ o.toList := fun q hq ho => (List.nodup_append.1 h.nd).2.2 q ho q hq rfl
theorem pW {w : World} {o : Option Nat} {bs : List Nat} (h : Fr w (o.toList ++ bs)) : Ge w o := fun g hg => h.ge g (by simp [hg])
theorem Fr.grow {w w1 w2 : World} {o o2 : Option Nat} {bs bx : List Nat} (h : Fr w (o.toList ++ bs)) (hl : ∀ b, b ∈ o.toList ++ bs → b < w1.heap.size) (hx : Fr w1 bx) (hx2 : ∀ b, b ∈ bx → b < w2.heap.size) (hw : w.heap.size ≤ w1.heap.size) (h12 : w1.heap.size ≤ w2.heap.size)
    (hob : o2 = o ∨ ∃ g, o2 = some g ∧ w2.heap.size ≤ g) : Fr w (o2.toList ++ (bs ++ bx)) := by
  rcases hob with rfl | ⟨g, rfl, hg⟩
  · rw [← List.append_assoc]
    exact h.app hx hw hl
  · have hb : Fr w (bs ++ bx) := Fr.app ⟨(List.nodup_append.1 h.nd).2.1, fun b hb => h.ge b (List.mem_append_right _ hb)⟩ hx hw (fun b hb => hl b (List.mem_append_right _ hb))
    refine ⟨List.nodup_cons.2 ⟨fun hm => ?_, hb.nd⟩, fun b hb2 => ?_⟩
    · have hm' : g ∈ bs ++ bx := by simpa using hm
      rcases List.mem_append.1 hm' with hm' | hm'
      · have := hl g (List.mem_append_right _ hm'); omega
      · have := hx2 g hm'; omega
    · rcases List.mem_cons.1 hb2 with rfl | hb2
      · omega
      · exact hb.ge b hb2
theorem jI {w : World} {a : Option Addr} {n c : Nat} {cs : List Value} {o : Option Nat} {l : List Rx} {bs : List Nat} (hO : OwnS w 27 9 a n c cs o) (hT : OTs l w cs bs) : ∀ b, b ∈ o.toList ++ bs → b < w.heap.size := fun b hb => (List.mem_append.1 hb).elim (EK hO b) (hT.lt b)
theorem NU {w : World} {o : Option Nat} {bs : List Nat} {b : Nat} (h : Fr w (o.toList ++ bs)) (hb : Lt w (some b)) : ∀ q, q ∈ bs → q ∉ [b] := fun q hq hm => by
  have h1 := h.ge q (List.mem_append_right _ hq)
  have h2 := hb b rfl
  rw [List.mem_singleton.1 hm] at h1; omega
theorem OJ {s : ByteArray} {a b j k : Nat} (h : jL s a b s.size j = some k) : sb s k = a ∧ sb s (k + 1) = b := ((lU s a b s.size j (by omega)).1 k h).2.1.2
structure QuG where
  f : Nat
  i : Nat
  n : Nat
  l : List Rx
  qa : Option Addr
  qc : Nat
  qo : Option Nat
  bs : List Nat
structure QuI (w wr : World) (b : Nat) (s : ByteArray) (st : PS) (a : Option Addr) (c : Nat) (ob : Option Nat) (e i0 : Nat) (x : QuG) : Prop where
  hr : RdAt wr b s (jY st x.i) a c ob
  bd : Bd s x.i
  eq : pH s st.now e s.size [] i0 = pH s st.now e x.f x.l x.i
  hf : s.size ≤ x.f + x.i
  kt : ∃ cs, OwnS wr 27 9 x.qa x.n x.qc cs x.qo ∧ OTs x.l wr cs x.bs
  fr : Fr w (x.qo.toList ++ x.bs)
  len : x.l.length + i0 ≤ x.i
  ie : x.i ≤ e
theorem KZ {s : ByteArray} {fl : Fl} {e f i : Nat} {l : List Rx} (h : i < e) : pH s fl e (f + 1) l i = pH s fl e f (l ++ [lP fl (cL s i).1]) (i + (cL s i).2) := by rw [pH, if_pos h]
theorem EA {s : ByteArray} {fl : Fl} {e f i : Nat} {l : List Rx} (h : ¬ i < e) : pH s fl e f l i = (l, i) := by
  cases f with
  | zero => rfl
  | succ f => rw [pH, if_neg h]
theorem lF {w : World} {a : Option Addr} {n c : Nat} {cs : List Value} {o : Option Nat} {l : List Rx} {bs : List Nat} (hO : OwnS w 27 9 a n c cs o) (hT : OTs l w cs bs) : n = l.length := by have h1 := hO.length; have h2 := hT.len; omega
theorem NC {s : ByteArray} {st : PS} {k : Nat} (h : jL s 92 69 s.size (st.pos + 2) = some k) : qG s st = .ok ((pH s st.now k s.size [] (st.pos + 2)).1, { st with pos := (pH s st.now k s.size [] (st.pos + 2)).2 + 2 }) := by unfold qG; rw [h]
theorem ND {s : ByteArray} {st : PS} (h : jL s 92 69 s.size (st.pos + 2) = none) : qG s st = .ok ((pH s st.now s.size s.size [] (st.pos + 2)).1, { st with pos := (pH s st.now s.size s.size [] (st.pos + 2)).2 }) := by unfold qG; rw [h]
theorem PC {s : ByteArray} {i e : Nat} (h : Bd s i) (hi : i < e) (he : Bd s e) : i + (cL s i).2 ≤ e := by
  obtain ⟨N, k, hU, hk, rfl⟩ := h
  obtain ⟨M, m, hV, hm, rfl⟩ := he
  have hkm : k < m := by
    rcases Nat.lt_or_ge k m with h | h
    · exact h
    · have := mG s h; omega
  exact mG s (show k + 1 ≤ m from hkm)
theorem Bd.size {s : ByteArray} {i : Nat} (h : Bd s i) : Bd s s.size := by obtain ⟨N, k, hU, hk, _⟩ := h; exact ⟨N, N, hU, Nat.le_refl _, hU.1⟩
theorem DZ {w : World} {b : Nat} {s : ByteArray} {st : PS} {a : Option Addr} {c : Nat} {ob : Option Nat} (hR : RdAt w b s st a c ob) (hs : s.size ≤ 10000) (hb : Bd s (st.pos + 2)) (hG : Glb w) :
    Calls Tryz.prog 132 #[.pointer (some ⟨b, 0, none⟩)] w (Ret fun v w' => ∃ l st', qG s st = .ok (l, st') ∧ KOut w w' v l ∧ Evo [b] w w' ∧ RdAt w' b s st' a c ob ∧ st'.opn = st.opn ∧ st'.names = st.names ∧ st.pos + 2 ≤ st'.pos ∧ Bd s st'.pos ∧ l.length + st.pos ≤ st'.pos) := by
  have hap := hR.ap; have hgb : pR ∉ [b] := fun h => hR.glb hG (List.mem_singleton.1 h).symm; have hle := hb.le; have hbw : Lt w (some b) := Lt.blk hR.blk; have how : Lt w ob := Lt.own hR.own; refine bE (N := 59) Tryz.func132 rfl rfl rfl ?_; refine csr (wan (csr (aA (aB (aH rfl) (wfl rfl bP rfl bD hR.blk rfl ?_))))); refine aB (aI rfl rfl (by omega) (by omega)) ?_; refine aB (aH rfl) (aB (aD rfl bP) (bJ rfl rfl (rfl) bY hR.blk rfl fun w1 a4 d0 => ?_))
  try simp only [cH, Nat.reduceAdd] at a4
  refine wnn (csr (aA (aB (aH rfl) (wfl rfl eA rfl dG a4 rfl (aB (cQ rfl Tryz.underlying9 rfl) ?_))))); refine bN (wan (aM (aM ?_))); refine fR (fun w0 w' => Evo [] w0 w') (by kernel_rfl) (fun w6 a5 => ?_); have a6 := ((Evo.refl [b] w).step d0 (fun y hy => .inl hy)).then a5; have a7 := a5.blk0 a4; refine aet 0 rfl (fun _ hS => bC rfl) (Evo.refl [] w6) ?_; refine aet 1 rfl (fun _ hS => aH rfl) (Evo.refl [] w6) ?_; refine aet 2 rfl (fun _ hS => aD rfl eA) (Evo.refl [] w6) ?_; refine aet 3 rfl (fun _ hS => aX rfl dG (bI (hS.blk0 a7) rfl)) (Evo.refl [] w6) ?_; refine aet 4 rfl (fun _ hS => bC rfl) (Evo.refl [] w6) ?_; refine aet 5 rfl (fun _ hS => aH rfl) (Evo.refl [] w6) ?_; refine aet 6 rfl (fun _ hS => aD rfl bP) (Evo.refl [] w6) ?_; refine aet 7 rfl (fun _ hS => aX rfl bD (bI (hS.blk0 a7) rfl)) (Evo.refl [] w6) ?_; refine cA [8] (by kernel_rfl) rfl ⟨?_, trivial⟩; refine cG rfl ?_
  refine aB (lG (l := st.pos + 2) rfl rfl Tryz.underlying9 rfl hle) ?_; refine aR (bV (.inl (Evo.refl [] w6)) ?_); refine cA [9] (by kernel_rfl) rfl ⟨?_, trivial⟩; refine cG rfl ?_; refine aG (vs := [_, _]) vP rfl (OC s 92 69 (st.pos + 2) hle (by omega) (hG.evo a6 hgb)) rfl ?_; rintro _ e2 ⟨rfl, M⟩; have a8 := (Evo.refl [] w6).then M; have V := M.blk0 a7; have a9 := ((hR.own.evo d0 hap.symm.own1).evo0 a5).evo0 M; refine aR (bV (.inl a8) ?_); refine aet 10 rfl (fun _ hS => cR rfl) a8 ?_; refine dB (by kernel_rfl) (aC ?_); refine csr (aA (aB (dQ rfl rfl) ?_)); refine wnn (aZ rfl (fun W => ?_) (fun W => ?_))
  ·obtain ⟨k, hk, hfk, hk2, hk3⟩ := OI W; rw [hfk]
   have hbk : Bd s k := nH hb (by omega) (by omega) (by have h9 : sb s k = 92 := (OJ hk).1; omega)
   refine aF (aA (aB (aH rfl) (wfl rfl bP rfl bD V rfl (aA ?_)))); refine aB (OQ (r := ((k : Nat) : Int)) rfl rfl (by omega) (by omega) (by omega)) ?_; refine bN (wan (csr (wan (aM (bK ?_)))))
   refine dL (α := QuG) (⟨s.size, st.pos + 2, 0, [], none, 0, none, []⟩) (fun x => [(6, .slice x.qa x.n x.qc)]) [(0, _), (2, _), (3, _), (4, _)] (fun x wr => Evo [b] w wr ∧ (QuI w wr b s st a c ob k (st.pos + 2) x)) (fun x => x.f) ⟨rfl, trivial⟩ ⟨rfl, rfl, rfl, rfl, trivial⟩ ⟨(a6.then M), ⟨⟨V, a9, hR.ne⟩, hb, rfl, Nat.le_add_right _ _, ⟨[], OwnS.nil _ _ _, OTs.nil _⟩, Fr.nil _, (by show 0 + (st.pos + 2) ≤ st.pos + 2; omega), (by show st.pos + 2 ≤ _; omega)⟩⟩ ?_
   rintro ⟨f, i, n, l, qa, qc, qo, bs⟩ wr17 ⟨b4, ⟨B, hbi, heq, hfi, ⟨cs, hown, hts⟩, hfr, hlen, hie⟩⟩; show CW _ _ _ _ [(6, .slice qa n qc), (0, _), (2, _), (3, _), (4, _)] _
   try dsimp only at B hbi heq hfi cs hown hts hfr hlen hie
   have hpi : (jY st i).pos = i := rfl; have hil := hbi.le; have b5 : Apart ob qo := jJ how (pW hfr); have F : Apart (some b) qo := jJ hbw (pW hfr); refine aM (csr (aA (aB (aH rfl) (wfl rfl bP rfl bD B.blk rfl (aA (aB (dA rfl rfl) ?_)))))); refine wnn (aZ rfl (fun Y => ?_) (fun Y => ?_))
   ·have hii : i < k := by omega
    have hsz2 := (hbk).le; obtain ⟨d4, d5, b6, hr0, hr1⟩ := hbi.next (by omega); have b7 := PC hbi hii (hbk); obtain ⟨f', rfl⟩ : ∃ f', f = f' + 1 := ⟨f - 1, by omega⟩; have hql := jI hown hts; refine aN (aC (bK (aF (aA (aA (aA ?_)))))); refine aG (vs := [_]) oV rfl (yK ⟨B.blk, B.own, B.ne⟩ (by omega) hbi) rfl ?_; rintro _ e3 ⟨rfl, Z, G⟩; have b8 := b4.step Z (fun y hy => .inl hy); have b9 := hown.evo Z ((by first | exact F.symm.own1 | exact F.symm.nmem1)); have c0 := hts.evo Z (NU hfr hbw); refine aG (vs := [_, _]) oU rfl (EQ G (cL s i).1 hr0 hr1) rfl ?_; rintro rv d6 ⟨hT, I⟩; have hcall9 := I; have c1 := b8; have hl1 := jI b9 c0; have hql2 : ∀ q, q ∈ qo.toList → q < _ := fun q hq => hl1 q (List.mem_append_left _ hq); obtain ⟨vs, bx, rfl, hOT, hFx⟩ := hT; obtain ⟨ra, rc, ka, kc, rfl⟩ := id hOT.nine; refine bL (vs := [_]) rfl cY rfl rfl rfl rfl fun e4 e5 d1 d8 D => ?_; have a0 := (hOT.evo0 D); have hVV := ((Evo.refl [] d6).then D)
    refine cM rfl rfl rfl rfl jB ((b9.evo0 I).evo0 D) (Src.ofOwn d1 ⟨rfl, rfl, rfl, rfl, rfl, rfl, rfl, rfl, rfl, trivial⟩) (by have := lF hown hts; omega) fun a2 c2 e6 ob2 c3 O hob54 => ?_
    have d2 := (hOT.evo0 D).evo O (fun q hq h => by have h8 := hFx.ge q hq; have h9 := hql2 q h; omega)
    have hob2 := hob54; have hFr9 := Fr.grow hfr hl1 hFx (OT.lt a0) c1.size (Nat.le_trans hcall9.size hVV.size) hob2; refine bN (aR (aQ (aY ?_))); refine ⟨⟨f', i + (cL s i).2, n + 1, l ++ [lP st.now (cL s i).1], a2, c2, ob2, bs ++ bx⟩, ?_, ⟨rfl, trivial⟩, ⟨rfl, rfl, rfl, rfl, trivial⟩, (((b8.then I).then D).step O (pW hfr).mem), ?_⟩
    · (try dsimp only); omega
    try dsimp only
    have hTs := OTs.app (((c0.evo0 I).evo0 D).evo O (pX hfr)) (OTs.single d2)
    refine ⟨⟨(O.blk (D.blk0 (I.blk0 G.blk)) F.nmem), (((G.own.evo0 I).evo0 D).evo O b5.own), G.ne⟩, b6, ?_, (by show s.size ≤ f' + (i + (cL s i).2); omega), ⟨_, c3, hTs⟩, hFr9, ?_, b7⟩
    · rw [heq]; exact KZ hii
    · show (l ++ [lP st.now (cL s i).1]).length + (st.pos + 2) ≤ i + (cL s i).2; rw [List.length_append]; simp; omega
   refine cW (bS (bS (cV (aC ?_)))); refine csr (aA (aB (aH rfl) (wfl rfl bP rfl bD B.blk rfl (aA ?_)))); refine aB (aI rfl rfl (by omega) (by omega)) ?_; refine aB (aH rfl) (aB (aD rfl bP) (bJ rfl rfl (rfl) bY B.blk rfl fun e7 c4 U => ?_))
   try simp only [cH, Nat.reduceAdd] at c4
   refine wnn (csr (aA (wan (aK (br1 ?_))))); have hend := heq.trans (EA (by omega)); obtain rfl := lF hown hts; have h69 : sb s k = 92 ∧ sb s (k + 1) = 69 := OJ hk
   obtain rfl : i = k := by omega
   have hb2 : Bd s (i + 1) := isB.asc (b := 92) ⟨by omega, h69.1⟩ (by decide) hbi; have hb3 : Bd s (i + 2) := isB.asc (b := 69) ⟨by omega, h69.2⟩ (by decide) hb2
   exact ⟨l, jY st (i + 2), (NC hk).trans (by rw [hend]; rfl), ⟨_, _, _, _, _, rfl, (hown.evo U F.symm.own1), (hts.evo U (NU hfr hbw)), hfr⟩, (b4.step U (fun y hy => .inl hy)), ⟨c4, (B.own.evo U B.ap.symm.own1), B.ne⟩, rfl, rfl, (by show st.pos + 2 ≤ i + 2; omega), hb3, (by show l.length + st.pos ≤ i + 2; omega)⟩
  refine aN (aC (csr (wan (aM (bK ?_)))))
  refine dL (α := QuG) (⟨s.size, st.pos + 2, 0, [], none, 0, none, []⟩) (fun x => [(6, .slice x.qa x.n x.qc)]) [(0, _), (2, _), (3, _), (4, _)] (fun x wr => Evo [b] w wr ∧ (QuI w wr b s st a c ob s.size (st.pos + 2) x)) (fun x => x.f) ⟨rfl, trivial⟩ ⟨rfl, rfl, rfl, rfl, trivial⟩ ⟨(a6.then M), ⟨⟨V, a9, hR.ne⟩, hb, rfl, Nat.le_add_right _ _, ⟨[], OwnS.nil _ _ _, OTs.nil _⟩, Fr.nil _, (by show 0 + (st.pos + 2) ≤ st.pos + 2; omega), (by show st.pos + 2 ≤ _; omega)⟩⟩ ?_
  rintro ⟨f, i, n, l, qa, qc, qo, bs⟩ wr73 ⟨c5, ⟨B, hbi, heq, hfi, ⟨cs, hown, hts⟩, hfr, hlen, hie⟩⟩; show CW _ _ _ _ [(6, .slice qa n qc), (0, _), (2, _), (3, _), (4, _)] _
  try dsimp only at B hbi heq hfi cs hown hts hfr hlen hie
  have hpi : (jY st i).pos = i := rfl; have hil := hbi.le; have b5 : Apart ob qo := jJ how (pW hfr); have F : Apart (some b) qo := jJ hbw (pW hfr); refine aM (csr (aA (aB (aH rfl) (wfl rfl bP rfl bD B.blk rfl (aA (aB (dA rfl rfl) ?_)))))); refine wnn (aZ rfl (fun Y => ?_) (fun Y => ?_))
  ·have hii : i < s.size := by omega
   have hsz2 := (hb.size).le; obtain ⟨d4, d5, b6, hr0, hr1⟩ := hbi.next (by omega); have b7 := PC hbi hii (hb.size); obtain ⟨f', rfl⟩ : ∃ f', f = f' + 1 := ⟨f - 1, by omega⟩; have hql := jI hown hts; refine aN (aC (bK (aF (aA (aA (aA ?_)))))); refine aG (vs := [_]) oV rfl (yK ⟨B.blk, B.own, B.ne⟩ (by omega) hbi) rfl ?_; rintro _ e8 ⟨rfl, a1, G⟩; have c6 := c5.step a1 (fun y hy => .inl hy); have c7 := hown.evo a1 ((by first | exact F.symm.own1 | exact F.symm.nmem1)); have c8 := hts.evo a1 (NU hfr hbw); refine aG (vs := [_, _]) oU rfl (EQ G (cL s i).1 hr0 hr1) rfl ?_; rintro rv d7 ⟨hT, J⟩; have hcall9 := J; have c1 := c6; have hl1 := jI c7 c8; have hql2 : ∀ q, q ∈ qo.toList → q < _ := fun q hq => hl1 q (List.mem_append_left _ hq); obtain ⟨vs, bx, rfl, hOT, hFx⟩ := hT; obtain ⟨ra, rc, ka, kc, rfl⟩ := id hOT.nine; refine bL (vs := [_]) rfl cY rfl rfl rfl rfl fun e9 f0 d3 d9 E => ?_; have a0 := (hOT.evo0 E); have hVV := ((Evo.refl [] d7).then E)
   refine cM rfl rfl rfl rfl jB ((c7.evo0 J).evo0 E) (Src.ofOwn d3 ⟨rfl, rfl, rfl, rfl, rfl, rfl, rfl, rfl, rfl, trivial⟩) (by have := lF hown hts; omega) fun a2 c2 e0 ob2 c3 H hob110 => ?_
   have c9 := (hOT.evo0 E).evo H (fun q hq h => by have h8 := hFx.ge q hq; have h9 := hql2 q h; omega)
   have hob2 := hob110; have hFr9 := Fr.grow hfr hl1 hFx (OT.lt a0) c1.size (Nat.le_trans hcall9.size hVV.size) hob2; refine bN (aR (aQ (aY ?_))); refine ⟨⟨f', i + (cL s i).2, n + 1, l ++ [lP st.now (cL s i).1], a2, c2, ob2, bs ++ bx⟩, ?_, ⟨rfl, trivial⟩, ⟨rfl, rfl, rfl, rfl, trivial⟩, (((c6.then J).then E).step H (pW hfr).mem), ?_⟩
   · (try dsimp only); omega
   try dsimp only
   have hTs := OTs.app (((c8.evo0 J).evo0 E).evo H (pX hfr)) (OTs.single c9)
   refine ⟨⟨(H.blk (E.blk0 (J.blk0 G.blk)) F.nmem), (((G.own.evo0 J).evo0 E).evo H b5.own), G.ne⟩, b6, ?_, (by show s.size ≤ f' + (i + (cL s i).2); omega), ⟨_, c3, hTs⟩, hFr9, ?_, b7⟩
   · rw [heq]; exact KZ hii
   · show (l ++ [lP st.now (cL s i).1]).length + (st.pos + 2) ≤ i + (cL s i).2; rw [List.length_append]; simp; omega
  refine cW (bS (bS (cV (aC ?_)))); refine csr (aA (aB (aH rfl) (wfl rfl bP rfl bD B.blk rfl (aA ?_)))); refine aB (aI rfl rfl (by omega) (by omega)) ?_; refine aB (aH rfl) (aB (aD rfl bP) (bJ rfl rfl (rfl) bY B.blk rfl fun e1 a3 L => ?_))
  try simp only [cH, Nat.reduceAdd] at a3
  refine wnn (csr (aA (wan (aK (br1 ?_))))); have hend := heq.trans (EA (by omega)); obtain rfl := lF hown hts
  exact ⟨l, jY st (i), (ND (VW W)).trans (by rw [hend]; rfl), ⟨_, _, _, _, _, rfl, (hown.evo L F.symm.own1), (hts.evo L (NU hfr hbw)), hfr⟩, (c5.step L (fun y hy => .inl hy)), ⟨a3, (B.own.evo L B.ap.symm.own1), B.ne⟩, rfl, rfl, (by show st.pos + 2 ≤ i; omega), hbi, (by show l.length + st.pos ≤ i; omega)⟩
theorem GJ : dW Tryz.prog 132 := ⟨_, Tryz.func132, by kernel_rfl, by kernel_rfl⟩
section
variable {s : ByteArray} {st : PS} {S : Int → Prop} {v j : Nat} {e : Int}
theorem es_end (h : s.size ≤ st.pos + 1) : gJ s st = .error 83 := by unfold gJ; rw [if_pos h]
theorem es_A (h : ¬ s.size ≤ st.pos + 1) (c : sb s (st.pos + 1) = 65) : gJ s st = .ok ([rxK 8], jY st (st.pos + 2)) := by unfold gJ; rw [if_neg h, if_pos c]; rfl
theorem es_z (h : ¬ s.size ≤ st.pos + 1) (c : sb s (st.pos + 1) = 122) : gJ s st = .ok ([rxK 9], jY st (st.pos + 2)) := by unfold gJ; rw [if_neg h, if_neg (by omega), if_pos c]; rfl
theorem es_b (h : ¬ s.size ≤ st.pos + 1) (c : sb s (st.pos + 1) = 98) : gJ s st = .ok ([rxK 12], jY st (st.pos + 2)) := by unfold gJ; rw [if_neg h, if_neg (by omega), if_neg (by omega), if_pos c]; rfl
theorem es_B (h : ¬ s.size ≤ st.pos + 1) (c : sb s (st.pos + 1) = 66) : gJ s st = .ok ([rxK 13], jY st (st.pos + 2)) := by unfold gJ; rw [if_neg h, if_neg (by omega), if_neg (by omega), if_neg (by omega), if_pos c]; rfl
theorem es_Q (h : ¬ s.size ≤ st.pos + 1) (c : sb s (st.pos + 1) = 81) : gJ s st = qG s st := by unfold gJ; rw [if_neg h, if_neg (by omega), if_neg (by omega), if_neg (by omega), if_neg (by omega), if_pos c]
theorem es_rest (h : ¬ s.size ≤ st.pos + 1) (c1 : ¬ sb s (st.pos + 1) = 65) (c2 : ¬ sb s (st.pos + 1) = 122) (c3 : ¬ sb s (st.pos + 1) = 98) (c4 : ¬ sb s (st.pos + 1) = 66) (c5 : ¬ sb s (st.pos + 1) = 81) : gJ s st = (match tW (sb s (st.pos + 1)) with
    | some S => .ok ([jX S], { st with pos := st.pos + 2 })
    | none => match lN s st.pos with
      | .error e => .error e
      | .ok (v, j) => .ok ([lP st.now v], { st with pos := j })) := by unfold gJ; rw [if_neg h, if_neg c1, if_neg c2, if_neg c3, if_neg c4, if_neg c5]; rfl
end
theorem KOut.older {w w1 w' : World} {v : Value} {l : List Rx} (h : KOut w1 w' v l) (hw : w.heap.size ≤ w1.heap.size) : KOut w w' v l := by
  obtain ⟨a, c, o, cs, bs, h1, h2, h3, h4⟩ := h
  exact ⟨a, c, o, cs, bs, h1, h2, h3, h4.older hw⟩
theorem letS_lo {c : Nat} {S : Int → Prop} (h : tW c = some S) : c < 128 := by
  rcases Nat.lt_or_ge c 128 with h1 | h1
  · exact h1
  · rw [mI (by omega)] at h; cases h
theorem QW {w : World} {b : Nat} {s : ByteArray} {st : PS} {a : Option Addr} {c : Nat} {ob : Option Nat} (hR : RdAt w b s st a c ob) (hs : s.size ≤ 10000) (hlt : st.pos < s.size) (h92 : sb s st.pos = 92) (hb : Bd s st.pos) (hG : Glb w) :
    Calls Tryz.prog 111 #[.pointer (some ⟨b, 0, none⟩)] w (RetP (fun v w' => ∃ l st', gJ s st = .ok (l, st') ∧ KOut w w' v l ∧ Evo [b] w w' ∧ RdAt w' b s st' a c ob ∧ st'.opn = st.opn ∧ st'.names = st.names ∧ st.pos < st'.pos ∧ Bd s st'.pos ∧ l.length + st.pos ≤ st'.pos) (fun v w' => ∃ e, gJ s st = .error e ∧ v = flt e ∧ Evo [b] w w')) := by
  have hap := hR.ap; have hgb : pR ∉ [b] := fun h => hR.glb hG (List.mem_singleton.1 h).symm; have hb1 := (hb.asc hlt (by omega)).1; have hb9 := iC s (st.pos + 1); refine bE (N := 98) Tryz.func111 rfl rfl rfl ?_; refine csr (wan (aM (aM ?_))); refine eK (by kernel_rfl) (by kernel_rfl) ?_; refine bG (fun _ B => bC rfl) ?_; refine bG (fun _ B => aH rfl) ?_; refine bG (fun _ B => aD rfl bP) ?_; refine bG (fun _ B => aX rfl bD (bI (B.blk0 hR.blk) rfl)) ?_; refine bG (fun _ B => aI rfl rfl (by omega) (by omega)) ?_; refine bG (fun _ B => bC rfl) ?_; refine bG (fun _ B => aH rfl) ?_; refine bG (fun _ B => aD rfl eA) ?_; refine bG (fun _ B => aX rfl dG (bI (B.blk0 hR.blk) rfl)) ?_; refine bG (fun _ B => cQ rfl Tryz.underlying9 rfl) ?_; refine bG (fun _ B => kK rfl rfl) ?_; refine eN (fun h9 B => aC ?_); have e1 := (Evo.refl [b] w).then B; have a6 := B.blk0 hR.blk; refine aZ rfl (fun e3 => ?_) (fun e3 => ?_)
  ·refine aF (cT (vs := [_]) dJ rfl (fU 83) rfl ?_ ?_)
   ·intro pv wp hpp; obtain ⟨rfl, hpw⟩ := hpp; exact And.intro rfl ⟨_, rfl, _, es_end (by omega), rfl, (e1).then hpw⟩
   intro _ _ hF; exact hF.elim
  have hle2 : ¬ s.size ≤ st.pos + 1 := by omega
  refine aN (aC (aM (aM ?_))); refine eK (by kernel_rfl) (by kernel_rfl) ?_; refine bG (fun _ D => bC rfl) ?_; refine bG (fun _ D => aH rfl) ?_; refine bG (fun _ D => aD rfl eA) ?_; refine bG (fun _ D => aX rfl dG (bI (D.blk0 a6) rfl)) ?_; refine bG (fun _ D => bC rfl) ?_; refine bG (fun _ D => aH rfl) ?_; refine bG (fun _ D => aD rfl bP) ?_; refine bG (fun _ D => aX rfl bD (bI (D.blk0 a6) rfl)) ?_; refine bG (fun _ D => aI rfl rfl (by omega) (by omega)) ?_; refine bG (fun _ D => fN (n := st.pos + 1) rfl rfl Tryz.underlying9 rfl (by omega)) ?_; refine bG (fun _ D => cR rfl) ?_; refine eN (fun i0 D => aC ?_); have F := e1.then D; have E := D.blk0 a6; have G := (hR.own.evo0 B).evo0 D; refine csr (aA (wnn (bK (csr (wel ?_))))); refine wan (aZ rfl (fun e4 => ?_) (fun e4 => ?_))
  ·refine csr (aA (aB (aH rfl) (wfl rfl bP rfl bD E rfl ?_))); refine aB (aI rfl rfl (by omega) (by omega)) ?_; refine aB (aH rfl) (aB (aD rfl bP) (bJ rfl rfl (rfl) bY E rfl fun i1 a7 a8 => ?_)); have a9 := F.step a8 (fun y hy => .inl hy)
   try simp only [cH, Nat.reduceAdd] at a7
   refine wnn (csr (aB (cI (vs := [(0, _)]) cB rfl (cells := [_, _, _, _, _, _, _, _, _]) rfl) ?_)); refine bL (vs := [_]) rfl cY rfl rfl rfl rfl fun i2 i3 e5 e6 W => ?_; have b4 := a9.then W; have e7 := W.blk0 a7; have e8 := (G.evo a8 hap.symm.own1).evo0 W; refine wan (aK (aO (aE (cU (br1 ?_)))))
   exact ⟨_, _, es_A hle2 (by omega), jM e5 (rE 8 _) (Fr.nil _) ((Ge.new a9 e6) _ rfl) b4 (fun b hb => by cases hb) (Nat.le_refl _), b4, ⟨e7, e8, hR.ne⟩, rfl, rfl, (by show st.pos < st.pos + 2; omega), (hb1.asc (by omega) (by omega)).1, (by show 1 + st.pos ≤ st.pos + 2; omega)⟩
  refine csr (wel ?_); refine wan (aZ rfl (fun e9 => ?_) (fun e9 => ?_))
  ·refine csr (aA (aB (aH rfl) (wfl rfl bP rfl bD E rfl ?_))); refine aB (aI rfl rfl (by omega) (by omega)) ?_; refine aB (aH rfl) (aB (aD rfl bP) (bJ rfl rfl (rfl) bY E rfl fun i4 b5 b6 => ?_)); have b7 := F.step b6 (fun y hy => .inl hy)
   try simp only [cH, Nat.reduceAdd] at b5
   refine wnn (csr (aB (cI (vs := [(0, _)]) cB rfl (cells := [_, _, _, _, _, _, _, _, _]) rfl) ?_)); refine bL (vs := [_]) rfl cY rfl rfl rfl rfl fun i5 i6 f0 f5 Y => ?_; have b8 := b7.then Y; have f6 := Y.blk0 b5; have f7 := (G.evo b6 hap.symm.own1).evo0 Y; refine wan (aK (aO (aE (cU (br1 ?_)))))
   exact ⟨_, _, es_z hle2 (by omega), jM f0 (rE 9 _) (Fr.nil _) ((Ge.new b7 f5) _ rfl) b8 (fun b hb => by cases hb) (Nat.le_refl _), b8, ⟨f6, f7, hR.ne⟩, rfl, rfl, (by show st.pos < st.pos + 2; omega), (hb1.asc (by omega) (by omega)).1, (by show 1 + st.pos ≤ st.pos + 2; omega)⟩
  refine csr (wel ?_); refine wan (aZ rfl (fun f8 => ?_) (fun f8 => ?_))
  ·refine csr (aA (aB (aH rfl) (wfl rfl bP rfl bD E rfl ?_))); refine aB (aI rfl rfl (by omega) (by omega)) ?_; refine aB (aH rfl) (aB (aD rfl bP) (bJ rfl rfl (rfl) bY E rfl fun i7 b9 c0 => ?_)); have c3 := F.step c0 (fun y hy => .inl hy)
   try simp only [cH, Nat.reduceAdd] at b9
   refine wnn (csr (aB (cI (vs := [(0, _)]) cB rfl (cells := [_, _, _, _, _, _, _, _, _]) rfl) ?_)); refine bL (vs := [_]) rfl cY rfl rfl rfl rfl fun i8 i9 f9 g0 Z => ?_; have c4 := c3.then Z; have g1 := Z.blk0 b9; have g2 := (G.evo c0 hap.symm.own1).evo0 Z; refine wan (aK (aO (aE (cU (br1 ?_)))))
   exact ⟨_, _, es_b hle2 (by omega), jM f9 (rE 12 _) (Fr.nil _) ((Ge.new c3 g0) _ rfl) c4 (fun b hb => by cases hb) (Nat.le_refl _), c4, ⟨g1, g2, hR.ne⟩, rfl, rfl, (by show st.pos < st.pos + 2; omega), (hb1.asc (by omega) (by omega)).1, (by show 1 + st.pos ≤ st.pos + 2; omega)⟩
  refine csr (wel ?_); refine wan (aZ rfl (fun g3 => ?_) (fun g3 => ?_))
  ·refine csr (aA (aB (aH rfl) (wfl rfl bP rfl bD E rfl ?_))); refine aB (aI rfl rfl (by omega) (by omega)) ?_; refine aB (aH rfl) (aB (aD rfl bP) (bJ rfl rfl (rfl) bY E rfl fun j0 c5 c6 => ?_)); have c7 := F.step c6 (fun y hy => .inl hy)
   try simp only [cH, Nat.reduceAdd] at c5
   refine wnn (csr (aB (cI (vs := [(0, _)]) cB rfl (cells := [_, _, _, _, _, _, _, _, _]) rfl) ?_)); refine bL (vs := [_]) rfl cY rfl rfl rfl rfl fun j1 j2 g4 g5 a0 => ?_; have c8 := c7.then a0; have g6 := a0.blk0 c5; have g7 := (G.evo c6 hap.symm.own1).evo0 a0; refine wan (aK (aO (aE (cU (br1 ?_)))))
   exact ⟨_, _, es_B hle2 (by omega), jM g4 (rE 13 _) (Fr.nil _) ((Ge.new c7 g5) _ rfl) c8 (fun b hb => by cases hb) (Nat.le_refl _), c8, ⟨g6, g7, hR.ne⟩, rfl, rfl, (by show st.pos < st.pos + 2; omega), (hb1.asc (by omega) (by omega)).1, (by show 1 + st.pos ≤ st.pos + 2; omega)⟩
  refine csr (wel ?_); refine wan (aZ rfl (fun g8 => ?_) (fun g8 => ?_))
  ·refine csr (aA ?_)
   refine aG (vs := [_]) GJ rfl (DZ ⟨E, G, hR.ne⟩ hs (by have := hb1.asc (by omega) (by omega); exact this.1) (hG.evo F hgb)) rfl ?_
   rintro rv j3 ⟨l, st', hq, hK, g9, h4, ho, hnm, hp, hbd, hll⟩; have J := F; refine wan (aK (aO (aE (cU (br1 ?_))))); exact ⟨_, _, (es_Q hle2 (by omega)).trans hq, hK.older J.size, (F.step g9 (fun y hy => .inl hy)), h4, ho, hnm, by omega, hbd, hll⟩
  have hrest := es_rest hle2 (by omega) (by omega) (by omega) (by omega) (by omega); refine csr (aA (aG (vs := [_]) vS rfl (uU (sb s (st.pos + 1)) hb9) rfl ?_)); rintro rv j4 ⟨hL, M⟩; obtain ⟨a1, c1, ob1, l1, rfl, h5, hg1, hv1, hl1, h6⟩ := hL.uni; have a2 := F.then M; have a3 := M.blk0 E; refine aA (aB (cC rfl rfl) ?_); refine aB (cC rfl rfl) ?_; refine bN (wan (csr (aA (wnn (eO rfl (fun O => ?_) (fun O => ?_))))))
  ·obtain ⟨S1, hS1'⟩ := DL O; refine csr (aA (aB (aH rfl) (wfl rfl bP rfl bD a3 rfl ?_))); refine aB (aI rfl rfl (by omega) (by omega)) ?_; refine aB (aH rfl) (aB (aD rfl bP) (bJ rfl rfl (rfl) bY a3 rfl fun j5 c9 a4 => ?_)); have d0 := a2.step a4 (fun y hy => .inl hy)
   try simp only [cH, Nat.reduceAdd] at c9
   refine wnn (csr (aA ?_)); refine aG (vs := [_]) iW rfl (oM (h5.evo a4 (Apart.fresh (Lt.blk E) hg1).symm.own1) hv1 (by omega) (h6 S1 hS1')) rfl ?_; rintro rv e2 ⟨hT, U⟩; have hcall9 := U; have J := d0; obtain ⟨vs, bx, rfl, hOT, hFx⟩ := hT; obtain ⟨ra, rc, ka, kc, rfl⟩ := id hOT.nine; refine bL (vs := [_]) rfl cY rfl rfl rfl rfl fun j6 j7 h0 h3 V => ?_; have d2 := (d0.then U).then V; have d3 := V.blk0 (U.blk0 c9); have d4 := (((G.evo0 M).evo a4 hap.symm.own1).evo0 U).evo0 V; refine wan (aK (aO (aE (cU (br1 ?_)))))
   exact ⟨[jX S1], jY st (st.pos + 2), hrest.trans (by rw [hS1']; rfl), jM h0 hOT (hFx.older J.size) ((Ge.new (Evo.refl ([]) e2) h3) _ rfl) ((Evo.refl ([]) e2).then V) (fun b hb h => by cases h) (Nat.le_trans J.size hcall9.size), d2, ⟨d3, d4, hR.ne⟩, rfl, rfl, (by show st.pos < st.pos + 2; omega), (hb1.asc (by omega) (letS_lo hS1')).1, (by show 1 + st.pos ≤ st.pos + 2; omega)⟩
  refine aN (aQ (aC (csr (aA (aA ?_))))); refine cT (vs := [_]) vR rfl (AU ⟨a3, (G.evo0 M), hR.ne⟩ (by omega) hlt) rfl ?_ ?_
  ·intro pv wp hpp; obtain ⟨hpe, rfl, hpw⟩ := hpp; exact And.intro rfl ⟨_, rfl, _, hrest.trans (by rw [AD O, hpe]), rfl, (a2).step hpw (fun y hy => .inl hy)⟩
  rintro _ h7 ⟨n, j, hx, rfl, d5, L⟩; have a5 := a2.step d5 (fun y hy => .inl hy); obtain ⟨hbj, hij, j8⟩ := TV hx hb h92; have hjl := hbj.le; refine aG (vs := [_, _]) oU rfl (EQ (st := jY st j) ⟨L.blk, L.own, L.ne⟩ ((n : Nat) : Int) (by omega) (by omega)) rfl ?_; rintro rv d1 ⟨hT, H⟩; have hcall9 := H; have J := a5; obtain ⟨vs, bx, rfl, hOT, hFx⟩ := hT; obtain ⟨ra, rc, ka, kc, rfl⟩ := id hOT.nine; refine bL (vs := [_]) rfl cY rfl rfl rfl rfl fun j9 h8 d6 d7 I => ?_; have d8 := (a5.then H).then I; have d9 := I.blk0 (H.blk0 L.blk); have e0 := (L.own.evo0 H).evo0 I; refine wan (aK (cU (br1 ?_)))
  exact ⟨[lP st.now ((n : Nat) : Int)], jY st j, hrest.trans (by rw [AD O, hx]; rfl), jM d6 hOT (hFx.older J.size) ((Ge.new (Evo.refl ([]) d1) d7) _ rfl) ((Evo.refl ([]) d1).then I) (fun b hb h => by cases h) (Nat.le_trans J.size hcall9.size), d8, ⟨d9, e0, L.ne⟩, rfl, rfl, hij, hbj, (by show 1 + st.pos ≤ j; omega)⟩
end Go.Proofs.YtljadkcojnlioaaGreatDoor
namespace Go.Proofs.YtljadkcojnlioaaGreatDoor
open Go.RowKit Go.W
theorem HT {s : ByteArray} : ∀ {f j : Nat}, j ≤ kE s f j
  | 0, j => Nat.le_refl _
  | f + 1, j => by
    rw [kE]
    split
    · exact Nat.le_trans (Nat.le_succ j) HT
    · exact Nat.le_refl _
theorem TP {s : ByteArray} {i : Nat} : ∀ {f j : Nat} {b m : Bool} {n : Int} {fl : Fl}, (fT s i f j b n m fl).err = 0 → ∃ k, j ≤ k ∧ k < s.size ∧ (sb s k = 58 ∨ sb s k = 41) ∧ (fT s i f j b n m fl).size = k + 1 - i ∧ (fT s i f j b n m fl).name = emp
  | 0, j, b, m, n, fl, h => absurd h (show ¬ (84 : Int) = 0 by omega)
  | f + 1, j, b, m, n, fl, h => by
    have step : ∀ {b' m' : Bool} {n' : Int} {fl' : Fl}, fT s i (f + 1) j b n m fl = fT s i f (j + 1) b' n' m' fl' → ∃ k, j ≤ k ∧ k < s.size ∧ (sb s k = 58 ∨ sb s k = 41) ∧ (fT s i (f + 1) j b n m fl).size = k + 1 - i ∧ (fT s i (f + 1) j b n m fl).name = emp := by
      intro b' m' n' fl' e
      rw [e] at h ⊢
      obtain ⟨k, h1, h2⟩ := TP h
      exact ⟨k, by omega, h2⟩
    have no : ∀ {fl' : Fl}, fT s i (f + 1) j b n m fl = ⟨0, emp, fl', false, false, 84⟩ → False := fun e => by rw [e] at h; exact absurd h (show ¬ (84 : Int) = 0 by omega)
    by_cases h0 : s.size ≤ j
    · exact (no (LB h0)).elim
    · by_cases h1 : sb s j = 105
      · exact step (ps_i (by omega) h1)
      · by_cases h2 : sb s j = 109
        · exact step (ps_m (by omega) h2)
        · by_cases h3 : sb s j = 115
          · exact step (ps_s (by omega) h3)
          · by_cases h4 : sb s j = 85
            · exact step (ps_u (by omega) h4)
            · by_cases h5 : sb s j = 45
              · cases m with
                | true => exact (no (TC (by omega) h5)).elim
                | false => exact step (TD (by omega) h5)
              · by_cases h6 : sb s j = 58 ∨ sb s j = 41
                · have e := QA (i := i) (f := f) (b := b) (n := n) (m := m) (fl := fl) (show j < s.size by omega) h6
                  rw [e]
                  exact ⟨j, Nat.le_refl _, by omega, h6, rfl, rfl⟩
                · exact (no (TB (by omega) h1 h2 h3 h4 h5 h6)).elim
theorem NH {s : ByteArray} {i h : Nat} {fl : Fl} (he : (mE s i h fl).err = 0) : ∃ k, i + h ≤ k ∧ isB s k 62 ∧ (mE s i h fl).size = k + 1 - i ∧ (mE s i h fl).name.size ≤ s.size := by
  have hge : i + h ≤ kE s s.size (i + h) := HT
  generalize e : kE s s.size (i + h) = j at hge
  by_cases hc : j = i + h ∨ ¬ isB s j 62
  · rw [lI e hc] at he
    exact absurd he (show ¬ (85 : Int) = 0 by omega)
  · rw [pI e hc]
    have hj : isB s j 62 := Classical.not_not.1 (fun h => hc (.inr h))
    refine ⟨j, hge, hj, rfl, ?_⟩
    show (s.extract (i + h) j).size ≤ _
    rw [gF (by have := hj.1; omega)]
    have := hj.1; omega
theorem pOpen_b {s : ByteArray} {i : Nat} {fl : Fl} (hb : Bd s i) (h40 : isB s i 40) (he : (eT s i fl).err = 0) : 1 ≤ (eT s i fl).size ∧ Bd s (i + (eT s i fl).size) ∧ (eT s i fl).name.size ≤ s.size := by
  have h1 := h40.asc (by decide) hb
  by_cases h : isB s i 40 ∧ isB s (i + 1) 63
  · by_cases ha : isB s (i + 2) 80 ∧ isB s (i + 3) 60
    · have e : eT s i fl = mE s i 4 fl := by unfold eT; rw [if_neg (fun h9 => h9 h), if_pos ha]
      rw [e] at he ⊢
      obtain ⟨k, h2, h3, h4, h5⟩ := NH he
      have h6 : Bd s (k + 1) := h3.asc (by decide) (nH hb (by omega) h3.1 (by rw [h3.2]; decide))
      exact ⟨by omega, by rw [h4, show i + (k + 1 - i) = k + 1 by omega]; exact h6, h5⟩
    · by_cases hc : isB s (i + 2) 60
      · have e : eT s i fl = mE s i 3 fl := by unfold eT; rw [if_neg (fun h9 => h9 h), if_neg ha, if_pos hc]
        rw [e] at he ⊢
        obtain ⟨k, h2, h3, h4, h5⟩ := NH he
        have h6 : Bd s (k + 1) := h3.asc (by decide) (nH hb (by omega) h3.1 (by rw [h3.2]; decide))
        exact ⟨by omega, by rw [h4, show i + (k + 1 - i) = k + 1 by omega]; exact h6, h5⟩
      · by_cases hd : isB s (i + 2) 58
        · have e : eT s i fl = ⟨3, emp, fl, false, false, 0⟩ := by unfold eT; rw [if_neg (fun h9 => h9 h), if_neg ha, if_neg hc, if_pos hd]
          rw [e]
          exact ⟨by show 1 ≤ 3; omega, hd.asc (by decide) (h.2.asc (by decide) h1), Nat.zero_le _⟩
        · have e : eT s i fl = fT s i s.size (i + 2) true 0 false fl := by unfold eT; rw [if_neg (fun h9 => h9 h), if_neg ha, if_neg hc, if_neg hd]
          rw [e] at he ⊢
          obtain ⟨k, h2, h3, h4, h5, h6⟩ := TP he
          have h7 : Bd s (k + 1) := ((nH hb (by omega) h3 (by omega)).asc h3 (by omega)).1
          exact ⟨by omega, by rw [h5, show i + (k + 1 - i) = k + 1 by omega]; exact h7, by rw [h6]; exact Nat.zero_le _⟩
  · have e : eT s i fl = ⟨1, emp, fl, true, false, 0⟩ := uQ h
    rw [e]
    exact ⟨Nat.le_refl _, h1, Nat.zero_le _⟩
theorem pOpen_e {s : ByteArray} {i : Nat} {fl : Fl} : (eT s i fl).size ≤ s.size + 3 := by
  have hn : ∀ h, (mE s i h fl).size ≤ s.size + 3 := fun h => by
    by_cases hc : kE s s.size (i + h) = i + h ∨ ¬ isB s (kE s s.size (i + h)) 62
    · rw [lI rfl hc]; exact Nat.zero_le _
    · rw [pI rfl hc]
      have hj : isB s (kE s s.size (i + h)) 62 := Classical.not_not.1 (fun h => hc (.inr h))
      have := hj.1
      show kE s s.size (i + h) + 1 - i ≤ _
      omega
  have hs : ∀ {f j : Nat} {b m : Bool} {n : Int} {fl : Fl}, (fT s i f j b n m fl).size ≤ s.size + 3 := by
    intro f
    induction f with
    | zero => intro j b m n fl; exact Nat.zero_le _
    | succ f ih =>
      intro j b m n fl
      by_cases h0 : s.size ≤ j
      · rw [LB h0]; exact Nat.zero_le _
      · by_cases h1 : sb s j = 105
        · rw [ps_i (by omega) h1]; exact ih
        · by_cases h2 : sb s j = 109
          · rw [ps_m (by omega) h2]; exact ih
          · by_cases h3 : sb s j = 115
            · rw [ps_s (by omega) h3]; exact ih
            · by_cases h4 : sb s j = 85
              · rw [ps_u (by omega) h4]; exact ih
              · by_cases h5 : sb s j = 45
                · cases m with
                  | true => rw [TC (by omega) h5]; exact Nat.zero_le _
                  | false => rw [TD (by omega) h5]; exact ih
                · by_cases h6 : sb s j = 58 ∨ sb s j = 41
                  · rw [QA (by omega) h6]; show j + 1 - i ≤ _; omega
                  · rw [TB (by omega) h1 h2 h3 h4 h5 h6]; exact Nat.zero_le _
  unfold eT
  split
  · show 1 ≤ _; omega
  · split
    · exact hn 4
    · split
      · exact hn 3
      · split
        · show 3 ≤ _; omega
        · exact hs
def NB (w : World) (o o' : Option Nat) : Prop := o' = o ∨ ∃ g, o' = some g ∧ w.heap.size ≤ g
structure Mv (s : ByteArray) (st st' : PS) : Prop where
  opn : st'.opn = st.opn
  le : st.pos ≤ st'.pos
  bd : Bd s st'.pos
  nm : st'.names.length ≤ 100
def ML (b : Nat) (s : ByteArray) (ex : PS → PX Rx) (st : PS) (ob : Option Nat) (w : World) (v : Value) (w' : World) : Prop :=
  ∃ x st', ex st = .ok (x, st') ∧ Evo (b :: ob.toList) w w' ∧ Mv s st st' ∧ ∃ a' c' ob' vs bs, v = .agg vs.toArray ∧ OT x w' vs bs ∧ Fr w bs ∧ RdAt w' b s st' a' c' ob' ∧ NB w ob ob'
def ExPan (b : Nat) {α : Type} (ex : PS → PX α) (st : PS) (ob : Option Nat) (w : World) (v : Value) (w' : World) : Prop := ∃ e, ex st = .error e ∧ v = flt e ∧ Evo (b :: ob.toList) w w'
def PcPost (b : Nat) (s : ByteArray) (pp : PS → PL) (st : PS) (ob : Option Nat) (w : World) (v : Value) (w' : World) : Prop :=
  ∃ l st', pp st = .ok (l, st') ∧ Evo (b :: ob.toList) w w' ∧ Mv s st st' ∧ st.pos < st'.pos ∧ l.length + st.pos ≤ st'.pos ∧
    ∃ a' c' ob' ka kc ko cs bs, v = .slice ka l.length kc ∧ OwnS w' 27 9 ka l.length kc cs ko ∧ OTs l w' cs bs ∧ Fr w (ko.toList ++ bs) ∧ RdAt w' b s st' a' c' ob' ∧ NB w ob ob'
def tO (b : Nat) (s : ByteArray) (ex : PS → PX Rx) (m : Nat) : Prop := ∀ {w : World} {st : PS} {a : Option Addr} {c : Nat} {ob : Option Nat}, RdAt w b s st a c ob → st.opn = m → Bd s st.pos → st.names.length ≤ 100 → Glb w → Apart (some pR) ob →
  Calls Tryz.prog 36 #[.pointer (some ⟨b, 0, none⟩)] w (RetP (ML b s ex st ob w) (ExPan b ex st ob w))
theorem oB {w : World} {b : Nat} {o o1 : Option Nat} (h : NB w o o1) : ∀ y, y ∈ b :: o1.toList → y ∈ b :: o.toList ∨ w.heap.size ≤ y := fun y hy => by
  rcases List.mem_cons.1 hy with rfl | hy
  · exact .inl (List.mem_cons_self ..)
  · rcases h with rfl | ⟨g, rfl, hg⟩
    · exact .inl (List.mem_cons_of_mem _ hy)
    · rw [List.mem_singleton.1 hy]; exact .inr hg
theorem NB.older {w w1 : World} {o o1 o2 : Option Nat} (h : NB w o o1) (h2 : NB w1 o1 o2) (hw : w.heap.size ≤ w1.heap.size) : NB w o o2 := by
  rcases h2 with rfl | ⟨g, rfl, hg⟩
  · exact h
  · exact .inr ⟨g, rfl, Nat.le_trans hw hg⟩
theorem zT {b : Nat} {s : ByteArray} {pp : PS → PL} {st st' : PS} {a : Option Addr} {c : Nat} {ob : Option Nat} {w w' : World} {v : Value} {l : List Rx} (hR : RdAt w b s st a c ob) (h1 : pp st = .ok (l, st')) (hK : KOut w w' v l) (he : Evo [b] w w') (hR' : RdAt w' b s st' a c ob)
    (ho : st'.opn = st.opn) (hn : st'.names = st.names) (hn2 : st.names.length ≤ 100) (hp : st.pos < st'.pos) (hb : Bd s st'.pos) (hl : l.length + st.pos ≤ st'.pos) : PcPost b s pp st ob w v w' := by
  obtain ⟨ka, kc, ko, cs, bs, rfl, h2, h3, h4⟩ := hK
  exact ⟨l, st', h1, he.mono (fun q hq => by rw [List.mem_singleton.1 hq]; simp), ⟨ho, by omega, hb, by rw [hn]; exact hn2⟩, hp, hl, a, c, ob, ka, kc, ko, cs, bs, rfl, h2, h3, h4, hR', .inl rfl⟩
theorem TO {b : Nat} {α : Type} {pp : PS → PX α} {st : PS} {ob : Option Nat} {w w' : World} {e : Int} (h : pp st = .error e) (he : Evo [b] w w') : ExPan b pp st ob w (flt e) w' := ⟨e, h, rfl, he.mono (fun q hq => by rw [List.mem_singleton.1 hq]; simp)⟩
end Go.Proofs.YtljadkcojnlioaaGreatDoor
