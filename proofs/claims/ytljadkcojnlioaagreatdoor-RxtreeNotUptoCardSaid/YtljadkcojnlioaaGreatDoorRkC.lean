/- Not: part 3 of 6 of what the law rests on. -/
import Derived.Test.YtljadkcojnlioaaGreatDoorRkB
set_option linter.unusedSectionVars false
set_option linter.unusedSimpArgs false
set_option linter.unusedVariables false
namespace Go.Proofs.YtljadkcojnlioaaGreatDoor
open Go.Proofs
open Go.W Go.RowKit
attribute [local irreducible] Decidable.decide
theorem cU : eV Tryz.prog 37 := ⟨_, Tryz.func37, by kernel_rfl, by kernel_rfl⟩
theorem qU {r : Int} (h0 : -2147483648 ≤ r) (h1 : r ≤ 2147483647) : IntKind.i64.min ≤ r ∧ r ≤ IntKind.i64.max := by
  constructor <;> simp [IntKind.min, IntKind.max, IntKind.signed, IntKind.bits] <;> omega
theorem hexd_no {s : ByteArray} {i : Nat} (h : ¬ i < s.size) : hD s i = .error 83 := by unfold hD; rw [if_neg h]
theorem nM {s : ByteArray} {i d : Nat} (h : i < s.size) (hd : hexD (sb s i) = some d) : hD s i = .ok (d, i + 1) := by unfold hD; rw [if_pos h, hd]
theorem kV {s : ByteArray} {i : Nat} (h : i < s.size) (hd : hexD (sb s i) = none) : hD s i = .error 83 := by unfold hD; rw [if_pos h, hd]
theorem rJ {z : Int} {d : Nat} (h : z = d) : Value.int .i64 z = iv (d : Nat) := by rw [h]
theorem nW {w : World} {b : Nat} {s : ByteArray} {st : PS} {a : Option Addr} {c : Nat} {ob : Option Nat} (hR : RdAt w b s st a c ob) (hs : s.size ≤ 1000000) :
    Calls Tryz.prog 161 #[.pointer (some ⟨b, 0, none⟩)] w (RetP (fun v w' => ∃ d, hD s st.pos = .ok (d, st.pos + 1) ∧ v = iv (d : Nat) ∧ Evo [b] w w' ∧ RdAt w' b s (adv st 1) a c ob) (fun v w' => hD s st.pos = .error 83 ∧ v = flt 83 ∧ Evo [b] w w')) := by
  have hap := hR.ap; have hb9 := jE s st.pos; refine bP (N := 63) Tryz.func161 rfl rfl rfl ?_; refine aE (aB (aN (aD (aA (aE (aE ?_)))))); refine fA (by kernel_rfl) (by kernel_rfl) ?_; refine aV rfl (fun _ hq2 => bM rfl) ?_; refine aV rfl (fun _ hq2 => aO rfl) ?_; refine aV rfl (fun _ hq2 => aF rfl bG) ?_; refine aV rfl (fun _ hq2 => aI rfl bD (aK (hq2.blk0 hR.blk) rfl)) ?_; refine aV rfl (fun _ hq2 => bM rfl) ?_; refine aV rfl (fun _ hq2 => aO rfl) ?_; refine aV rfl (fun _ hq2 => aF rfl dE) ?_; refine aV rfl (fun _ hq2 => aI rfl cR (aK (hq2.blk0 hR.blk) rfl)) ?_; refine aV rfl (fun _ hq2 => cQ rfl Tryz.underlying9 rfl) ?_; refine aV rfl (fun _ hq2 => dN rfl rfl) ?_; refine fO (fun wq1 hq2 => aA ?_); have hE3 := (Evo.refl [b] w).then hq2; have hB4 := hq2.blk0 hR.blk; have hO5 := hR.own.evo0 hq2; refine bI rfl (fun hc13 => ?_) (fun hc13 => ?_)
  ·skip
   have hlt : st.pos < s.size := by omega
   refine aE ?_; refine fA (by kernel_rfl) (by kernel_rfl) ?_; refine aV rfl (fun _ hq7 => bM rfl) ?_; refine aV rfl (fun _ hq7 => aO rfl) ?_; refine aV rfl (fun _ hq7 => aF rfl dE) ?_; refine aV rfl (fun _ hq7 => aI rfl cR (aK (hq7.blk0 hB4) rfl)) ?_; refine aV rfl (fun _ hq7 => bM rfl) ?_; refine aV rfl (fun _ hq7 => aO rfl) ?_; refine aV rfl (fun _ hq7 => aF rfl bG) ?_; refine aV rfl (fun _ hq7 => aI rfl bD (aK (hq7.blk0 hB4) rfl)) ?_; refine aV rfl (fun _ hq7 => fN (n := st.pos) rfl rfl Tryz.underlying9 rfl hlt) ?_; refine aV rfl (fun _ hq7 => dZ rfl) ?_; refine fO (fun wq6 hq7 => aA ?_); have hE8 := hE3.then hq7; have hB9 := hq7.blk0 hB4; have hO10 := hO5.evo0 hq7; refine aE (aB (aG (aC rfl (aO rfl) (aC rfl (aF rfl bG) (aC rfl (aI rfl bD (aK hB9 rfl)) ?_))))); refine aC rfl (bF rfl rfl (by omega) (by omega)) ?_; refine aC rfl (aO rfl) (aC rfl (aF rfl bG) (bJ rfl rfl (rfl) bY hB9 rfl fun w11 hB12 hw13 => ?_)); have hE14 := hE8.step hw13 (fun y hy => .inl hy); have hO15 := hO10.evo hw13 hap.symm.own1
   try simp only [cT, Nat.reduceAdd] at hB12
   refine aD (aA (cA (aE (aB (aG (aC rfl (eZ rfl rfl) ?_)))))); refine aG (aX (t := 33) rfl (fun hs33 => ?_) (fun hs33 => ?_))
   ·skip
    refine aR (aG (aR (aC rfl (fL rfl rfl) ?_))); refine bL (aN (aD (aA (bI rfl (fun hc30 => ?_) (fun hc30 => ?_)))))
    ·skip
     refine aE (aB (aG ?_)); refine aC rfl (kW rfl rfl (by omega) (by omega)) ?_; refine aC rfl (iU rfl Tryz.underlying5 Tryz.underlying3 (qU (by omega) (by omega)).1 (qU (by omega) (by omega)).2) ?_; refine aN (aD (aA (aP (aZ (aQ (bT (aJ rfl rfl ?_)))))))
     exact ⟨_, nM hlt (by unfold hexD; rw [if_pos (by omega)]), rJ (by omega), hE14, hB12, hO15, hR.ne⟩
    refine aE (aB (aG (aC rfl (eZ rfl rfl) ?_))); refine aG (aX (t := 43) rfl (fun hs43 => ?_) (fun hs43 => ?_))
    ·skip
     refine aR (aG (aR (aC rfl (fL rfl rfl) ?_))); refine bL (aN (aD (aA (bI rfl (fun hc40 => ?_) (fun hc40 => ?_)))))
     ·skip
      refine aE (aB (aG ?_)); refine aC rfl (kW rfl rfl (by omega) (by omega)) ?_; refine aC rfl (iU rfl Tryz.underlying5 Tryz.underlying3 (qU (by omega) (by omega)).1 (qU (by omega) (by omega)).2) ?_; refine aC rfl (bF rfl rfl (by omega) (by omega)) ?_; refine aN (aD (aA (aP (aZ (aQ (bT (aJ rfl rfl ?_)))))))
      exact ⟨_, nM hlt (by unfold hexD; rw [if_neg (by omega), if_pos (by omega)]), rJ (by omega), hE14, hB12, hO15, hR.ne⟩
     refine aE (aB (aG (aC rfl (eZ rfl rfl) ?_))); refine aG (aX (t := 54) rfl (fun hs54 => ?_) (fun hs54 => ?_))
     ·skip
      refine aR (aG (aR (aC rfl (fL rfl rfl) ?_))); refine bL (aN (aD (aA (bI rfl (fun hc51 => ?_) (fun hc51 => ?_)))))
      ·skip
       refine aE (aB (aG ?_)); refine aC rfl (kW rfl rfl (by omega) (by omega)) ?_; refine aC rfl (iU rfl Tryz.underlying5 Tryz.underlying3 (qU (by omega) (by omega)).1 (qU (by omega) (by omega)).2) ?_; refine aC rfl (bF rfl rfl (by omega) (by omega)) ?_; refine aN (aD (aA (aP (aZ (aQ (bT (aJ rfl rfl ?_)))))))
       exact ⟨_, nM hlt (by unfold hexD; rw [if_neg (by omega), if_neg (by omega), if_pos (by omega)]), rJ (by omega), hE14, hB12, hO15, hR.ne⟩
      refine aW (bB (aA (aE (aB (bW (vs := [_]) cU rfl (eF 83) rfl ?_ ?_)))))
      ·skip
       intro pv wp hpp; obtain ⟨rfl, hpe⟩ := hpp
       exact And.intro rfl ⟨_, rfl, kV hlt (by unfold hexD; rw [if_neg (by omega), if_neg (by omega), if_neg (by omega)]), rfl, (hE14).then hpe⟩
      intro _ _ hF; exact hF.elim
     refine aH (aH (aU (aN (aD (aA (cK rfl ?_)))))); refine aW (bB (aA (aE (aB (bW (vs := [_]) cU rfl (eF 83) rfl ?_ ?_)))))
     ·skip
      intro pv wp hpp; obtain ⟨rfl, hpe⟩ := hpp
      exact And.intro rfl ⟨_, rfl, kV hlt (by unfold hexD; rw [if_neg (by omega), if_neg (by omega), if_neg (by omega)]), rfl, (hE14).then hpe⟩
     intro _ _ hF; exact hF.elim
    refine aH (aH (aU (aN (aD (aA (cK rfl ?_)))))); refine aE (aB (aG (aC rfl (eZ rfl rfl) ?_))); refine aG (aX (t := 54) rfl (fun hs54 => ?_) (fun hs54 => ?_))
    ·skip
     refine aR (aG (aR (aC rfl (fL rfl rfl) ?_))); refine bL (aN (aD (aA (bI rfl (fun hc51 => ?_) (fun hc51 => ?_)))))
     ·skip
      refine aE (aB (aG ?_)); refine aC rfl (kW rfl rfl (by omega) (by omega)) ?_; refine aC rfl (iU rfl Tryz.underlying5 Tryz.underlying3 (qU (by omega) (by omega)).1 (qU (by omega) (by omega)).2) ?_; refine aC rfl (bF rfl rfl (by omega) (by omega)) ?_; refine aN (aD (aA (aP (aZ (aQ (bT (aJ rfl rfl ?_)))))))
      exact ⟨_, nM hlt (by unfold hexD; rw [if_neg (by omega), if_neg (by omega), if_pos (by omega)]), rJ (by omega), hE14, hB12, hO15, hR.ne⟩
     refine aW (bB (aA (aE (aB (bW (vs := [_]) cU rfl (eF 83) rfl ?_ ?_)))))
     ·skip
      intro pv wp hpp; obtain ⟨rfl, hpe⟩ := hpp
      exact And.intro rfl ⟨_, rfl, kV hlt (by unfold hexD; rw [if_neg (by omega), if_neg (by omega), if_neg (by omega)]), rfl, (hE14).then hpe⟩
     intro _ _ hF; exact hF.elim
    refine aH (aH (aU (aN (aD (aA (cK rfl ?_)))))); refine aW (bB (aA (aE (aB (bW (vs := [_]) cU rfl (eF 83) rfl ?_ ?_)))))
    ·skip
     intro pv wp hpp; obtain ⟨rfl, hpe⟩ := hpp
     exact And.intro rfl ⟨_, rfl, kV hlt (by unfold hexD; rw [if_neg (by omega), if_neg (by omega), if_neg (by omega)]), rfl, (hE14).then hpe⟩
    intro _ _ hF; exact hF.elim
   refine aH (aH (aU (aN (aD (aA (cK rfl ?_)))))); refine aE (aB (aG (aC rfl (eZ rfl rfl) ?_))); refine aG (aX (t := 43) rfl (fun hs43 => ?_) (fun hs43 => ?_))
   ·skip
    refine aR (aG (aR (aC rfl (fL rfl rfl) ?_))); refine bL (aN (aD (aA (bI rfl (fun hc40 => ?_) (fun hc40 => ?_)))))
    ·skip
     refine aE (aB (aG ?_)); refine aC rfl (kW rfl rfl (by omega) (by omega)) ?_; refine aC rfl (iU rfl Tryz.underlying5 Tryz.underlying3 (qU (by omega) (by omega)).1 (qU (by omega) (by omega)).2) ?_; refine aC rfl (bF rfl rfl (by omega) (by omega)) ?_; refine aN (aD (aA (aP (aZ (aQ (bT (aJ rfl rfl ?_)))))))
     exact ⟨_, nM hlt (by unfold hexD; rw [if_neg (by omega), if_pos (by omega)]), rJ (by omega), hE14, hB12, hO15, hR.ne⟩
    refine aE (aB (aG (aC rfl (eZ rfl rfl) ?_))); refine aG (aX (t := 54) rfl (fun hs54 => ?_) (fun hs54 => ?_))
    ·skip
     refine aR (aG (aR (aC rfl (fL rfl rfl) ?_))); refine bL (aN (aD (aA (bI rfl (fun hc51 => ?_) (fun hc51 => ?_)))))
     ·skip
      refine aE (aB (aG ?_)); refine aC rfl (kW rfl rfl (by omega) (by omega)) ?_; refine aC rfl (iU rfl Tryz.underlying5 Tryz.underlying3 (qU (by omega) (by omega)).1 (qU (by omega) (by omega)).2) ?_; refine aC rfl (bF rfl rfl (by omega) (by omega)) ?_; refine aN (aD (aA (aP (aZ (aQ (bT (aJ rfl rfl ?_)))))))
      exact ⟨_, nM hlt (by unfold hexD; rw [if_neg (by omega), if_neg (by omega), if_pos (by omega)]), rJ (by omega), hE14, hB12, hO15, hR.ne⟩
     refine aW (bB (aA (aE (aB (bW (vs := [_]) cU rfl (eF 83) rfl ?_ ?_)))))
     ·skip
      intro pv wp hpp; obtain ⟨rfl, hpe⟩ := hpp
      exact And.intro rfl ⟨_, rfl, kV hlt (by unfold hexD; rw [if_neg (by omega), if_neg (by omega), if_neg (by omega)]), rfl, (hE14).then hpe⟩
     intro _ _ hF; exact hF.elim
    refine aH (aH (aU (aN (aD (aA (cK rfl ?_)))))); refine aW (bB (aA (aE (aB (bW (vs := [_]) cU rfl (eF 83) rfl ?_ ?_)))))
    ·skip
     intro pv wp hpp; obtain ⟨rfl, hpe⟩ := hpp
     exact And.intro rfl ⟨_, rfl, kV hlt (by unfold hexD; rw [if_neg (by omega), if_neg (by omega), if_neg (by omega)]), rfl, (hE14).then hpe⟩
    intro _ _ hF; exact hF.elim
   refine aH (aH (aU (aN (aD (aA (cK rfl ?_)))))); refine aE (aB (aG (aC rfl (eZ rfl rfl) ?_))); refine aG (aX (t := 54) rfl (fun hs54 => ?_) (fun hs54 => ?_))
   ·skip
    refine aR (aG (aR (aC rfl (fL rfl rfl) ?_))); refine bL (aN (aD (aA (bI rfl (fun hc51 => ?_) (fun hc51 => ?_)))))
    ·skip
     refine aE (aB (aG ?_)); refine aC rfl (kW rfl rfl (by omega) (by omega)) ?_; refine aC rfl (iU rfl Tryz.underlying5 Tryz.underlying3 (qU (by omega) (by omega)).1 (qU (by omega) (by omega)).2) ?_; refine aC rfl (bF rfl rfl (by omega) (by omega)) ?_; refine aN (aD (aA (aP (aZ (aQ (bT (aJ rfl rfl ?_)))))))
     exact ⟨_, nM hlt (by unfold hexD; rw [if_neg (by omega), if_neg (by omega), if_pos (by omega)]), rJ (by omega), hE14, hB12, hO15, hR.ne⟩
    refine aW (bB (aA (aE (aB (bW (vs := [_]) cU rfl (eF 83) rfl ?_ ?_)))))
    ·skip
     intro pv wp hpp; obtain ⟨rfl, hpe⟩ := hpp
     exact And.intro rfl ⟨_, rfl, kV hlt (by unfold hexD; rw [if_neg (by omega), if_neg (by omega), if_neg (by omega)]), rfl, (hE14).then hpe⟩
    intro _ _ hF; exact hF.elim
   refine aH (aH (aU (aN (aD (aA (cK rfl ?_)))))); refine aW (bB (aA (aE (aB (bW (vs := [_]) cU rfl (eF 83) rfl ?_ ?_)))))
   ·skip
    intro pv wp hpp; obtain ⟨rfl, hpe⟩ := hpp
    exact And.intro rfl ⟨_, rfl, kV hlt (by unfold hexD; rw [if_neg (by omega), if_neg (by omega), if_neg (by omega)]), rfl, (hE14).then hpe⟩
   intro _ _ hF; exact hF.elim
  refine aW (aA (aE (aB (bW (vs := [_]) cU rfl (eF 83) rfl ?_ ?_))))
  ·skip
   intro pv wp hpp; obtain ⟨rfl, hpe⟩ := hpp; exact And.intro rfl ⟨_, rfl, hexd_no (by omega), rfl, (hE3).then hpe⟩
  intro _ _ hF; exact hF.elim
end Go.Proofs.YtljadkcojnlioaaGreatDoor
namespace Go.Proofs.YtljadkcojnlioaaGreatDoor
open Go.Proofs
open Go.W Go.RowKit
attribute [local irreducible] Decidable.decide
theorem mS : eV Tryz.prog 161 := ⟨_, Tryz.func161, by kernel_rfl, by kernel_rfl⟩
theorem gZ : eV Tryz.prog 60 := ⟨_, Tryz.func60, by kernel_rfl, by kernel_rfl⟩
def gS (st : PS) (j : Nat) : PS := { st with pos := j }
theorem wG (s : ByteArray) (i : Nat) : hD s i = .error 83 ∨ ∃ d, d < 16 ∧ i < s.size ∧ hD s i = .ok (d, i + 1) := by
  unfold hD
  by_cases h : i < s.size
  · rw [if_pos h]
    unfold hexD
    split
    · rename_i d hd
      refine .inr ⟨d, ?_, h, rfl⟩
      split at hd
      · cases hd; omega
      · split at hd
        · cases hd; omega
        · split at hd
          · cases hd; omega
          · cases hd
    · exact .inl rfl
  · rw [if_neg h]; exact .inl rfl
theorem xG {r : Int} (h0 : -2147483648 ≤ r) (h1 : r ≤ 2147483647) : IntKind.i32.min ≤ r ∧ r ≤ IntKind.i32.max := by
  constructor <;> simp [IntKind.min, IntKind.max, IntKind.signed, IntKind.bits] <;> omega
theorem MH {s : ByteArray} {n i : Nat} (hi : i ≤ s.size) (h : isB s i 125) : lG s (s.size + 1 - i) n i = .ok (n, i + 1) := by
  rw [show s.size + 1 - i = (s.size - i) + 1 by omega, lG, if_pos h]
theorem MG {s : ByteArray} {n i : Nat} (hi : i ≤ s.size) (h : ¬ isB s i 125) (he : hD s i = .error 83) : lG s (s.size + 1 - i) n i = .error 83 := by
  rw [show s.size + 1 - i = (s.size - i) + 1 by omega, lG, if_neg h, he]
theorem MI {s : ByteArray} {n i d : Nat} (hi : i ≤ s.size) (h : ¬ isB s i 125) (he : hD s i = .ok (d, i + 1)) (hb : 1114111 < n * 16 + d) : lG s (s.size + 1 - i) n i = .error 83 := by
  rw [show s.size + 1 - i = (s.size - i) + 1 by omega, lG, if_neg h, he]
  show (if 1114111 < n * 16 + d then _ else _) = _
  rw [if_pos hb]
theorem hexl_go {s : ByteArray} {n i d : Nat} (hi : i < s.size) (h : ¬ isB s i 125) (he : hD s i = .ok (d, i + 1)) (hb : ¬ 1114111 < n * 16 + d) : lG s (s.size + 1 - i) n i = lG s (s.size + 1 - (i + 1)) (n * 16 + d) (i + 1) := by
  rw [show s.size + 1 - i = (s.size + 1 - (i + 1)) + 1 by omega, lG, if_neg h, he]
  show (if 1114111 < n * 16 + d then _ else _) = _
  rw [if_neg hb]
theorem vB {s : ByteArray} {i d j : Nat} (h : hD s i = .ok (d, j)) : d < 16 := by
  rcases wG s i with e | ⟨d', h1, _, e⟩ <;> rw [e] at h <;> cases h
  exact h1
theorem hex_a {s : ByteArray} {i : Nat} (h : ¬ isB s i 123) (e : hD s i = .error 83) : oH s i = .error 83 := by unfold oH; rw [if_neg h, e]
theorem hex_b {s : ByteArray} {i d : Nat} (h : ¬ isB s i 123) (e : hD s i = .ok (d, i + 1)) (e2 : hD s (i + 1) = .error 83) : oH s i = .error 83 := by
  unfold oH; rw [if_neg h, e]; show (match hD s (i + 1) with | .error e => _ | .ok (b, k) => _) = _; rw [e2]
theorem hex_c {s : ByteArray} {i d f : Nat} (h : ¬ isB s i 123) (e : hD s i = .ok (d, i + 1)) (e2 : hD s (i + 1) = .ok (f, i + 1 + 1)) : oH s i = .ok (d * 16 + f, i + 1 + 1) := by
  unfold oH; rw [if_neg h, e]; show (match hD s (i + 1) with | .error e => _ | .ok (b, k) => _) = _; rw [e2]
theorem hex_d {s : ByteArray} {i : Nat} (h : isB s i 123) (e : hD s (i + 1) = .error 83) : oH s i = .error 83 := by unfold oH; rw [if_pos h, e]
theorem hex_e {s : ByteArray} {i d : Nat} (h : isB s i 123) (e : hD s (i + 1) = .ok (d, i + 1 + 1)) : oH s i = lG s (s.size + 1 - (i + 1 + 1)) d (i + 1 + 1) := by unfold oH; rw [if_pos h, e]
structure HxG where
  n : Nat
  p : Nat
structure HxI (w : World) (b : Nat) (s : ByteArray) (st : PS) (a : Option Addr) (c : Nat) (ob : Option Nat) (x : HxG) : Prop where
  hp : x.p ≤ s.size
  hn : x.n ≤ 1114111
  hr : RdAt w b s (gS st x.p) a c ob
  eq : oH s st.pos = lG s (s.size + 1 - x.p) x.n x.p
theorem HD {s : ByteArray} {i d j : Nat} (h : hD s i = .ok (d, j)) : i < s.size := by
  rcases wG s i with e | ⟨d', _, h1, e⟩ <;> rw [e] at h <;> cases h
  exact h1
theorem hex_ok {w : World} {b : Nat} {s : ByteArray} {st : PS} {a : Option Addr} {c : Nat} {ob : Option Nat} (hR : RdAt w b s st a c ob) (hs : s.size ≤ 1000000) :
    Calls Tryz.prog 149 #[.pointer (some ⟨b, 0, none⟩)] w (RetP (fun v w' => ∃ n j, oH s st.pos = .ok (n, j) ∧ v = .int .i32 (n : Nat) ∧ Evo [b] w w' ∧ RdAt w' b s (gS st j) a c ob) (fun v w' => oH s st.pos = .error 83 ∧ v = flt 83 ∧ Evo [b] w w')) := by
  have hap := hR.ap; refine bP (N := 33) Tryz.func149 rfl rfl rfl ?_; refine aE (aB (aN (aD (aA (aE (aE (aB (aG ?_)))))))); refine aM (vs := [_, _]) gZ rfl (lB hR hs 123 (by decide)) rfl ?_; rintro _ w1 ⟨rfl, hw2, hR1⟩; have hE3 := (Evo.refl [b] w).step hw2 (fun y hy => .inl hy); refine aC rfl (mL rfl) ?_; refine aD (aA (bI rfl (fun hc8 => ?_) (fun hc8 => ?_)))
  ·skip
   rw [if_neg hc8] at hR1; refine aE (aB (aG (bW (vs := [_]) mS rfl (nW hR1 hs) rfl ?_ ?_)))
   ·skip
    intro pv wp hpp; obtain ⟨hpe, rfl, hpw⟩ := hpp; exact And.intro rfl ⟨_, rfl, hex_a hc8 hpe, rfl, (hE3).step hpw (fun y hy => .inl hy)⟩
   rintro _ w4 ⟨d1, hd1, rfl, hw5, hR2⟩; have hE6 := hE3.step hw5 (fun y hy => .inl hy); have hl1 := vB hd1; refine aG (bW (vs := [_]) mS rfl (nW hR2 hs) rfl ?_ ?_)
   ·skip
    intro pv wp hpp; obtain ⟨hpe, rfl, hpw⟩ := hpp; exact And.intro rfl ⟨_, rfl, hex_b hc8 hd1 hpe, rfl, (hE6).step hpw (fun y hy => .inl hy)⟩
   rintro _ w7 ⟨d2, hd2, rfl, hw8, hR3⟩; have hE9 := hE6.step hw8 (fun y hy => .inl hy); have hl2 := vB hd2; refine aN (aN (aD (aA (aE (aB (aG ?_)))))); refine aC rfl (rM rfl rfl (by omega) (by omega)) ?_; refine aG ?_; refine aC rfl (bF rfl rfl (by omega) (by omega)) ?_; refine aC rfl (iU rfl Tryz.underlying3 Tryz.underlying21 (xG (by omega) (by omega)).1 (xG (by omega) (by omega)).2) ?_; refine aN (aD (aA (aP (aQ (bT (aJ rfl rfl ?_)))))); exact ⟨_, _, hex_c hc8 hd1 hd2, (by congr 1), hE9, hR3⟩
  have hb8 : isB s st.pos 123 := Classical.not_not.1 hc8; rw [if_pos hb8] at hR1; refine aW (aA (aE (aB (aG (bW (vs := [_]) mS rfl (nW hR1 hs) rfl ?_ ?_)))))
  ·skip
   intro pv wp hpp; obtain ⟨hpe, rfl, hpw⟩ := hpp; exact And.intro rfl ⟨_, rfl, hex_d hb8 hpe, rfl, (hE3).step hpw (fun y hy => .inl hy)⟩
  rintro _ w10 ⟨d1, hd1, rfl, hw11, hR4⟩; have hE12 := hE3.step hw11 (fun y hy => .inl hy); have hl1 := vB hd1; have hin := HD hd1; refine aN (aD (aA (aE (cA ?_))))
  refine fH (α := HxG) (⟨d1, st.pos + 1 + 1⟩) (fun x => [(5, .int .i64 (x.n : Nat))]) [(0, _), (2, _)] (fun x wr => Evo [b] w wr ∧ (HxI wr b s st a c ob x)) (fun x => s.size + 1 - x.p) ⟨rfl, trivial⟩ ⟨rfl, rfl, trivial⟩ ⟨hE12, ⟨by show st.pos + 1 + 1 ≤ _; have : st.pos + 1 < s.size := hin; omega, by show d1 ≤ _; omega, hR4, hex_e hb8 hd1⟩⟩ ?_
  rintro ⟨n, p⟩ wr13 ⟨hV14, ⟨hp9, hn9, hR9, heq⟩⟩; show CW _ _ _ _ [(5, .int .i64 (n : Nat)), (0, _), (2, _)] _
  try dsimp only at hp9
  try dsimp only at hn9
  try dsimp only at hR9
  try dsimp only at heq
  refine aE (aE (aB (aG ?_))); refine aM (vs := [_, _]) gZ rfl (lB hR9 hs 125 (by decide)) rfl ?_; rintro _ w15 ⟨rfl, hw16, hR5⟩; have hE17 := hV14.step hw16 (fun y hy => .inl hy); refine aC rfl (mL rfl) ?_; refine aD (aA (bI rfl (fun hc22 => ?_) (fun hc22 => ?_)))
  ·skip
   rw [if_neg hc22] at hR5; refine aW (aA (cA (aE (aB (aG ?_))))); refine aC rfl (rM rfl rfl (by omega) (by omega)) ?_; refine aG (bW (vs := [_]) mS rfl (nW hR5 hs) rfl ?_ ?_)
   ·skip
    intro pv wp hpp; obtain ⟨hpe, rfl, hpw⟩ := hpp; exact And.intro rfl ⟨_, rfl, heq.trans (MG hp9 hc22 hpe), rfl, (hE17).step hpw (fun y hy => .inl hy)⟩
   rintro _ w18 ⟨d2, hd2, rfl, hw19, hR6⟩; have hE20 := hE17.step hw19 (fun y hy => .inl hy); have hl2 := vB hd2; have hin2 : p < s.size := HD hd2; refine aC rfl (bF rfl rfl (by omega) (by omega)) ?_; refine aN (aD (aA (aE (aB (aG (aC rfl (gA rfl rfl) ?_)))))); refine aD (aA (bI rfl (fun hc29 => ?_) (fun hc29 => ?_)))
   ·skip
    refine aB (bW (vs := [_]) cU rfl (eF 83) rfl ?_ ?_)
    ·skip
     intro pv wp hpp; obtain ⟨rfl, hpw⟩ := hpp; exact And.intro rfl ⟨_, rfl, heq.trans (MI hp9 hc22 hd2 (by omega)), rfl, (hE20).then hpw⟩
    intro _ _ hF; exact hF.elim
   refine aW (bB (bV ?_)); refine ⟨⟨n * 16 + d2, p + 1⟩, ?_, ⟨rfl, trivial⟩, ⟨rfl, rfl, trivial⟩, hE20, ?_⟩
   · (try dsimp only); omega
   try dsimp only
   exact ⟨by show p + 1 ≤ _; omega, by show n * 16 + d2 ≤ _; omega, hR6, heq.trans (hexl_go hin2 hc22 hd2 (by omega))⟩
  have hb22 : isB s (gS st p).pos 125 := Classical.not_not.1 hc22; rw [if_pos hb22] at hR5; refine eD (cO (cO (eC (aA ?_)))); refine aE (aB (aG ?_)); refine aC rfl (iU rfl Tryz.underlying3 Tryz.underlying21 (xG (by omega) (by omega)).1 (xG (by omega) (by omega)).2) ?_; refine aN (aD (aA (aP (bT (aJ rfl rfl ?_))))); exact ⟨_, _, heq.trans (MH hp9 hb22), rfl, hE17, hR5⟩
end Go.Proofs.YtljadkcojnlioaaGreatDoor
namespace Go.Proofs.YtljadkcojnlioaaGreatDoor
open Go.Proofs Go.W Go.RowKit
def DL (g : Int × Int) : List Value := [.int .i32 g.1, .int .i32 g.2]
def dV (l : List (Int × Int)) : List Value := l.flatMap DL
theorem tZ (g : Int × Int) (l : List (Int × Int)) : dV (g :: l) = .int .i32 g.1 :: .int .i32 g.2 :: dV l := rfl
theorem jZ (l m : List (Int × Int)) : dV (l ++ m) = dV l ++ dV m := List.flatMap_append
theorem jJ : ∀ l : List (Int × Int), (dV l).length = l.length * 2
  | [] => rfl
  | g :: l => by rw [tZ, List.length_cons, List.length_cons, jJ l, List.length_cons]; omega
theorem rF : ∀ {l : List (Int × Int)} {i : Nat} (h : i < l.length), (dV l)[i * 2]? = some (.int .i32 l[i].1) ∧ (dV l)[i * 2 + 1]? = some (.int .i32 l[i].2)
  | g :: l, 0, h => ⟨rfl, rfl⟩
  | g :: l, i + 1, h => by
    have := rF (l := l) (i := i) (by simpa using h)
    rw [tZ, show (i + 1) * 2 = i * 2 + 1 + 1 by omega]
    exact this
theorem oW : ∀ l : List (Int × Int), AllOne (dV l)
  | [] => trivial
  | g :: l => ⟨rfl, rfl, oW l⟩
section
variable {w : World} {e : TypeId} {a : Option Addr} {n c : Nat} {l : List (Int × Int)} {ob : Option Nat}
theorem oY (h : OwnS w e 2 a n c (dV l) ob) : n = l.length := by have := h.length; rw [jJ] at this; omega
theorem oI (h : OwnS w e 2 a n c (dV l) ob) {i : Nat} (hi : i < l.length) : ∃ g, ob = some g ∧ a = some ⟨g, 0, none⟩ ∧ CellsAt w g (0 + i * 2) (DL l[i]) := by
  have hn := oY h
  obtain ⟨g, hg, ha, hc⟩ := h.cells (by omega)
  refine ⟨g, hg, ha, fun j v hj => ?_⟩
  obtain ⟨h0, h1⟩ := rF hi
  match j, hj with
  | 0, hj => cases hj; have := hc _ _ h0; simpa using this
  | 1, hj => cases hj; have := hc _ _ h1; simpa [Nat.add_assoc] using this
  | j + 2, hj => cases hj
theorem LJ (h : OwnS w e 2 a n c (dV l) ob) : (a = none ∧ n = 0 ∧ l = [] ∧ ob = none) ∨ ∃ g, a = some ⟨g, 0, none⟩ ∧ ob = some g := by
  have hn := oY h
  rcases h.2 with ⟨h1, h2, h3⟩ | ⟨g, cap, cur, hg, hv, _⟩
  · cases h1; exact .inl ⟨rfl, rfl, List.length_eq_zero_iff.1 hn.symm, h3⟩
  · cases hv; exact .inr ⟨g, rfl, hg⟩
theorem own_rrg (h : OwnS w e 2 a n c (dV l) ob) {X : List Nat} (hx : ∀ g, ob = some g → g ∉ X) : RSl 2 RRg X w (.slice a l.length c) l := by
  have hn := oY h
  refine ⟨a, c, rfl, by rw [← hn]; exact h.le, fun k hk => ?_⟩
  obtain ⟨g, hg, ha, hc⟩ := oI h hk
  exact ⟨g, 0, _, ha, hx g hg, rfl, hc, rfl⟩
end
theorem pX (l : List (Int × Int)) : Sort.flatK DL 2 l.toArray = (dV l).toArray := by
  apply Array.ext
  · simp [jJ]
  · intro t h1 h2
    have h3 : t < l.length * 2 := by simpa [jJ] using h2
    have h4 := Sort.get_flatK DL 2 l.toArray t (by simpa using h3)
    rw [getElem!_pos _ t h1] at h4
    rw [h4]
    have h5 : t / 2 < l.length := by omega
    have h6 : (l.toArray)[t / 2]! = l[t / 2] := by simp [h5]
    rw [h6]
    obtain ⟨g0, g1⟩ := rF h5
    rcases Nat.mod_two_eq_zero_or_one t with hm | hm <;> rw [hm]
    · rw [show t / 2 * 2 = t by omega] at g0
      show (Value.int .i32 l[t / 2].1) = _
      simp only [List.getElem_toArray]
      exact (Option.some.inj ((List.getElem?_eq_getElem (by rw [jJ]; exact h3)).symm.trans g0)).symm
    · rw [show t / 2 * 2 + 1 = t by omega] at g1
      show (Value.int .i32 l[t / 2].2) = _
      simp only [List.getElem_toArray]
      exact (Option.some.inj ((List.getElem?_eq_getElem (by rw [jJ]; exact h3)).symm.trans g1)).symm
theorem MY (w : World) (g n : Nat) (d : Array Value) (os : Array Obj) : Evo [g] w (Sort.grow (Sort.putRow id (Sort.ahead w n) g 0 d) os) := by
  refine ⟨rfl, rfl, rfl, ?_, fun b hb hx => ?_⟩
  · simp [Sort.grow, Sort.putRow, Sort.mapBlock, Sort.ahead]
  · have hne : g ≠ b := fun e => hx (by simp [e])
    simp only [Sort.grow, Sort.putRow, Sort.mapBlock, Sort.ahead]
    rw [Array.getElem?_append_left (by simpa using hb), Array.getElem?_modify, if_neg hne]
theorem KI {w : World} {g : Nat} {cur : Array Value} {e : TypeId} (hb : w.heap[g]? = some (.cells cur e (0, 0))) (n : Nat) (d : Array Value) (os : Array Obj) :
    (Sort.grow (Sort.putRow id (Sort.ahead w n) g 0 d) os).heap[g]? = some (.cells (Sort.putCells id 0 d cur) e (0, 0)) := by
  have hlt := fM hb
  simp only [Sort.grow, Sort.putRow, Sort.mapBlock, Sort.ahead]
  rw [Array.getElem?_append_left (by simpa using hlt), Array.getElem?_modify, if_pos rfl, hb]
  rfl
theorem vP (cur : Array Value) (ds : List Value) (hc : ds.length ≤ cur.size) : (Sort.putCells id 0 ds.toArray cur).toList.take ds.length = ds := by
  apply List.ext_getElem?
  intro k
  by_cases hk : k < ds.length
  · rw [List.getElem?_take, if_pos hk]
    simp only [Sort.putCells, Array.getElem?_toList, Array.getElem?_mapIdx, List.getElem?_map]
    have h1 : k < cur.size := by omega
    simp [h1, hk]
  · rw [List.getElem?_eq_none (by simp; omega), List.getElem?_eq_none (by omega)]
theorem IT {w : World} {e : TypeId} {g n c sz : Nat} {xs ds : List Value} (h : OwnS w e sz (some ⟨g, 0, none⟩) n c xs (some g)) (hd : ds.length = n * sz) (q : Nat) (os : Array Obj) :
    OwnS (Sort.grow (Sort.putRow id (Sort.ahead w q) g 0 ds.toArray) os) e sz (some ⟨g, 0, none⟩) n c ds (some g) := by
  refine ⟨hd, ?_⟩
  rcases h.2 with ⟨h1, _⟩ | ⟨g', cap, cur, hg, hv, hb, hn, hc, hs, ht⟩
  · cases h1
  · cases hg; cases hv
    have hle : n * sz ≤ c * sz := Nat.mul_le_mul_right sz hn
    refine .inr ⟨g, c, _, rfl, rfl, KI hb q ds.toArray os, hn, hc, by simpa [Sort.putCells] using hs, ?_⟩
    rw [← hd]
    exact vP cur ds (by omega)
theorem FG {w : World} {e : TypeId} {g n c : Nat} {l : List (Int × Int)} (h : OwnS w e 2 (some ⟨g, 0, none⟩) n c (dV l) (some g)) : Sort.HoldsK DL 2 w g 0 l.toArray := fun j hj => by
  rw [pX] at hj ⊢
  have hj' : j < (dV l).length := by simpa using hj
  have hl := h.length
  rcases h.2 with ⟨h1, _⟩ | ⟨g', cap, cur, hg, hv, hb, hn, hc, hs, ht⟩
  · cases h1
  · cases hg; cases hv
    constructor
    · refine iA hb ?_
      have h1 : (cur.toList.take (n * 2))[j]? = some (dV l)[j] := by rw [ht]; exact List.getElem?_eq_getElem hj'
      rw [List.getElem?_take, if_pos (by omega)] at h1
      rw [Nat.zero_add]
      simpa [hj'] using h1
    · simp [World.frozen?, hb]
end Go.Proofs.YtljadkcojnlioaaGreatDoor
namespace Go.Proofs.YtljadkcojnlioaaGreatDoor
open Go.Proofs
open Go.W Go.RowKit
attribute [local irreducible] Decidable.decide
theorem gM : DT Tryz.prog 24 24 = some (56, 2, 8) := by kernel_rfl
theorem lM : Build Tryz.prog 56 #[(0, 1), (1, 1)] #[.int .i32 0, .int .i32 0] := ⟨_, .agg #[.int .i32 0, .int .i32 0], Tryz.underlying56, by kernel_rfl, rfl, fun w => by kernel_rfl⟩
theorem uK : sD Tryz.prog 67 = some 1 := by kernel_rfl
theorem iW : rE Tryz.prog 24 = some (56, 2) := by kernel_rfl
def Vr (l : List (Int × Int)) : Prop := ∀ g, g ∈ l → 0 ≤ g.1 ∧ g.1 ≤ g.2 ∧ g.2 ≤ 1114111
def lP : List Int → List (Int × Int)
  | a :: b :: r => (a, b) :: lP r
  | _ => []
theorem xS : ∀ (l : List Int), (lP l).length = l.length / 2
  | [] => rfl
  | [a] => by rw [show lP [a] = [] from rfl]; simp
  | a :: b :: r => by rw [lP, List.length_cons, xS r]; simp only [List.length_cons]; omega
theorem xT : ∀ {l : List Int} {k : Nat} (h : k < (lP l).length) (h0 : 2 * k < l.length) (h1 : 2 * k + 1 < l.length), (lP l)[k] = (l[2 * k], l[2 * k + 1])
  | [], k, h, _, _ => by cases h
  | [a], k, h, _, _ => by cases h
  | a :: b :: r, 0, h, _, _ => rfl
  | a :: b :: r, k + 1, h, h0, h1 => by
    have := xT (l := r) (k := k) (by rw [lP] at h; simpa using h) (by simp only [List.length_cons] at h0; omega) (by simp only [List.length_cons] at h1; omega)
    have h2 : (lP (a :: b :: r))[k + 1] = (lP r)[k]'(by rw [lP] at h; simpa using h) := rfl
    rw [h2, this]
    simp only [show 2 * (k + 1) = 2 * k + 1 + 1 by omega, List.getElem_cons_succ]
theorem nU (l : List (Int × Int)) (a b : Int) : dV (l ++ [(a, b)]) = dV l ++ [.int .i32 a, .int .i32 b] := by rw [jZ]; rfl
abbrev i32v (l : List Int) : List Value := l.map fun c => Value.int .i32 c
theorem CH {w : World} {e : TypeId} {a : Option Addr} {n c : Nat} {ys : List Int} {ob : Option Nat} (h : OwnS w e 1 a n c (i32v ys) ob) {k : Nat} (hk : k < ys.length) : ∃ g, ob = some g ∧ a = some ⟨g, 0, none⟩ ∧ w.cell? ⟨g, 0 + k * 1, none⟩ = some (.int .i32 ys[k]) := by
  have hl : ys.length = n * 1 := by have := h.length; simpa using this
  obtain ⟨g, hg, ha, hc⟩ := h.cells (by omega)
  refine ⟨g, hg, ha, ?_⟩
  rw [Nat.mul_one]
  exact hc k _ (by simp [hk])
structure SpG where
  k : Nat
  sa : Option Addr
  sc : Nat
  so : Option Nat
structure SpI (w wr : World) (n : Nat) (l : List (Int × Int)) (a : Option Addr) (c : Nat) (ob : Option Nat) : Prop where
  hk : n = l.length
  own : OwnS wr 56 2 a n c (dV l) ob
  ge : Ge w ob
theorem yO {w : World} {a : Option Addr} {c : Nat} {l : List (Int × Int)} {ob : Option Nat} (hO : OwnS w 56 2 a l.length c (dV l) ob) (hl : l.length ≤ 1000000) :
    Calls Tryz.prog 148 #[.slice a l.length c] w (Ret fun v w' => ∃ a' c' ob', v = .slice a' l.length c' ∧ OwnS w' 56 2 a' l.length c' (dV l) ob' ∧ Ge w ob' ∧ Evo [] w w') := by
  refine bP (N := 8) Tryz.func148 rfl rfl rfl ?_; refine aE (aB (aN (aD (aA (aE (aE (aB (aG (aC rfl (ex_eqSl rfl rfl Tryz.underlying24) ?_))))))))); refine aD (aA (gB rfl (fun hc4 => ?_) (fun hc4 => ?_)))
  ·skip
   refine aE (aB (aN (aD (aA (aP (aQ (aJ rfl rfl ?_)))))))
   obtain ⟨rfl, h1, rfl, rfl⟩ := (LJ hO).resolve_right (fun ⟨g, h, _⟩ => by rw [h] at hc4; cases hc4)
   exact ⟨none, 0, none, rfl, OwnS.nil _ _ _, Ge.nil _, (Evo.refl [] w)⟩
  refine aW (aA (aE (aB (bO (vs := []) rfl iW rfl rfl rfl rfl fun b1 w2 hO3 hs4 hw5 => ?_)))); have hG7 := Ge.new (Evo.refl [] w) hs4; have hE8 := (Evo.refl [] w).then hw5; refine aG ?_; refine dS rfl rfl rfl rfl gM hO3 (Src.ofOwn (hO.evo0 hE8) (oW l)) (by omega) fun a2 c2 w12 ob2 hO2 hw15 hob16 => ?_; have hG18 := hG7.app hE8 hob16; have hE19 := hE8.step hw15 hG7.mem; refine aN (aD (aA (aP (aJ rfl rfl ?_)))); have hO3 := hO2; rw [Nat.zero_add] at hO3; exact ⟨a2, c2, ob2, by rw [Nat.zero_add], by simpa using hO3, hG18, hE19⟩
theorem dP {w : World} {a : Option Addr} {n c : Nat} {es : List Int} {ob : Option Nat} (hO : OwnS w 21 1 a n c (i32v es) ob) (hl : es.length ≤ 1000) :
    Calls Tryz.prog 114 #[.slice a n c] w (Ret fun v w' => ∃ a' c' ob', v = .slice a' (lP es).length c' ∧ OwnS w' 56 2 a' (lP es).length c' (dV (lP es)) ob' ∧ Ge w ob' ∧ Evo [] w w') := by
  have hn : n = es.length := by have := hO.length; simp at this; omega
  subst hn; have hpl := xS es; refine bP (N := 26) Tryz.func114 rfl rfl rfl ?_; refine aE (aB (aN (aD (aA (aE (aB (aN (aD (aA (aE (aE (aB (aN (aD (aA (cA ?_)))))))))))))))); refine fH (α := SpG) (⟨0, none, 0, none⟩) (fun x => [(3, .slice x.sa x.k x.sc), (4, .int .i64 ((2 * x.k : Nat) : Int))]) [(0, _), (2, _)] (fun x wr => Evo [] w wr ∧ (x.k ≤ (lP es).length ∧ SpI w wr x.k ((lP es).take x.k) x.sa x.sc x.so)) (fun x => (lP es).length - x.k) ⟨rfl, rfl, trivial⟩ ⟨rfl, rfl, trivial⟩ ⟨(Evo.refl [] w), ⟨Nat.zero_le _, by simp, OwnS.nil _ _ _, Ge.nil _⟩⟩ ?_; rintro ⟨k, sa, sc, so⟩ wr1 ⟨hV2, ⟨hk, hkl, hown, hge⟩⟩; show CW _ _ _ _ [(3, .slice sa k sc), (4, .int .i64 ((2 * k : Nat) : Int)), (0, _), (2, _)] _
  try dsimp only at hk
  try dsimp only at hkl
  try dsimp only at hown
  try dsimp only at hge
  refine aE (aE (aB (aG ?_))); refine aC rfl (bF rfl rfl (by omega) (by omega)) ?_; refine aG (aC rfl (bR rfl Tryz.underlying67 rfl) ?_); refine aC rfl (dN rfl rfl) ?_; refine aD (aA (bI rfl (fun hc9 => ?_) (fun hc9 => ?_)))
  ·skip
   have h0 : 2 * k < es.length := by omega
   have h1 : 2 * k + 1 < es.length := by omega
   have hk' : k < (lP es).length := by omega
   obtain ⟨g0, hg0, ha0, hc0⟩ := CH hO h0; obtain ⟨g1, hg1, ha1, hc1⟩ := CH hO h1; refine aW (aA (aE (cA ?_))); refine iN (fun w0 w' => Evo so.toList w0 w') (by kernel_rfl) (fun w3 hw4 => ?_); have hE5 := hV2.then hw4; have hO6 := hown.evo0 hw4; refine bC 0 rfl (by kernel_rfl) (by kernel_rfl) (by kernel_rfl) rfl (fun _ hS => bM rfl) (Evo.refl so.toList w3) ?_; refine bC 1 rfl (by kernel_rfl) (by kernel_rfl) (by kernel_rfl) rfl (fun _ hS => bM rfl) (Evo.refl so.toList w3) ?_; refine bC 2 rfl (by kernel_rfl) (by kernel_rfl) (by kernel_rfl) rfl (fun _ hS => bM rfl) (Evo.refl so.toList w3) ?_; refine bC 3 rfl (by kernel_rfl) (by kernel_rfl) (by kernel_rfl) rfl (fun _ hS => gL (n := 2 * k) rfl (by rfl) ha0 uK h0) (Evo.refl so.toList w3) ?_; refine bC 4 rfl (by kernel_rfl) (by kernel_rfl) (by kernel_rfl) rfl (fun _ hS => aI rfl cH (((hE5.step hS (hge.mem))).cell hc0 (by simp))) (Evo.refl so.toList w3) ?_; refine bC 5 rfl (by kernel_rfl) (by kernel_rfl) (by kernel_rfl) rfl (fun _ hS => bM rfl) (Evo.refl so.toList w3) ?_; refine bC 6 rfl (by kernel_rfl) (by kernel_rfl) (by kernel_rfl) rfl (fun _ hS => bM rfl) (Evo.refl so.toList w3) ?_; refine bC 7 rfl (by kernel_rfl) (by kernel_rfl) (by kernel_rfl) rfl (fun _ hS => bF rfl rfl (by omega) (by omega)) (Evo.refl so.toList w3) ?_; refine bC 8 rfl (by kernel_rfl) (by kernel_rfl) (by kernel_rfl) rfl (fun _ hS => gL (n := 2 * k + 1) rfl (by rfl) ha1 uK h1) (Evo.refl so.toList w3) ?_
   refine bC 9 rfl (by kernel_rfl) (by kernel_rfl) (by kernel_rfl) rfl (fun _ hS => aI rfl cH (((hE5.step hS (hge.mem))).cell hc1 (by simp))) (Evo.refl so.toList w3) ?_; refine bC 10 rfl (by kernel_rfl) (by kernel_rfl) (by kernel_rfl) rfl (fun _ hS => eL (vs := [(0, _), (1, _)]) lM rfl (cells := [_, _]) rfl) (Evo.refl so.toList w3) ?_; refine cJ [11] (by kernel_rfl) rfl ⟨?_, trivial⟩; refine cS rfl ?_; refine bO (vs := [_]) rfl iW rfl rfl rfl rfl fun b7 w8 hO9 hs10 hw11 => ?_; have hE15 := hE5.then hw11; have hE16 := (Evo.refl so.toList w3).then hw11; have hO17 := hO6.evo0 hw11; refine aD (cF (.inl hE16) ?_); refine cJ [12] (by kernel_rfl) rfl ⟨?_, trivial⟩; refine cS rfl ?_; refine dS rfl rfl rfl rfl gM hO17 (Src.ofOwn hO9 ⟨rfl, rfl, trivial⟩) (by omega) fun a2 c2 w20 ob2 hO2 hw23 hob24 => ?_; have hG26 := hge.app hE15 hob24; have hE27 := hE15.step hw23 hge.mem; have hE28 := hE16.step hw23 (fun y hy => .inl hy); refine aD (cF (.inl hE28) ?_); refine bC 13 rfl (by kernel_rfl) (by kernel_rfl) (by kernel_rfl) rfl (fun _ hS => dZ rfl) hE28 ?_; refine eR (by kernel_rfl) (bB (aA ?_)); refine aB (aG ?_); refine aC rfl (bF rfl rfl (by omega) (by omega)) ?_; refine aN (aD (bV ?_)); refine ⟨⟨k + 1, a2, c2, ob2⟩, ?_, ⟨rfl, rfl, trivial⟩, ⟨rfl, rfl, trivial⟩, hE27, ?_⟩
   · (try dsimp only); omega
   try dsimp only
   refine ⟨hk', ⟨by rw [List.length_take]; omega, ?_, hG26⟩⟩
   rw [List.take_add_one, List.getElem?_eq_getElem hk', xT hk' h0 h1, Option.toList_some, nU]; exact hO2
  refine eD (cO (cO (eC (aA ?_)))); refine aE (aB (aG (aN (aD (aA (aP (aJ rfl rfl ?_)))))))
  obtain rfl : k = (lP es).length := by omega
  rw [List.take_length] at hown; exact ⟨sa, sc, so, rfl, hown, hge, hV2⟩
end Go.Proofs.YtljadkcojnlioaaGreatDoor
namespace Go.Proofs.YtljadkcojnlioaaGreatDoor
open Go.Proofs
open Go.W Go.RowKit
attribute [local irreducible] Decidable.decide
open Go.Shelf Go.Lib Go.Sort in
section
def cl (z : Int) : Int := max 0 (min z 1114111)
def AA (g : Int × Int) : List Value := DL (cl g.1, cl g.2)
def cmC (x y : Int × Int) : Int := cl x.1 - cl y.1
theorem HR {z : Int} (h0 : 0 ≤ z) (h1 : z ≤ 1114111) : cl z = z := by unfold cl; omega
theorem cl_b (z : Int) : 0 ≤ cl z ∧ cl z ≤ 1114111 := by unfold cl; omega
set_option maxHeartbeats 1000000 in
theorem clos_ok (x y : Int × Int) (W : World) : Calls Tryz.prog 152 #[.agg (AA x).toArray, .agg (AA y).toArray] W fun e w' => e = .returned (.int .i64 (cmC x y)) ∧ ∃ q os', w' = Sort.grow (W.drewN q) os' := by
  have hx := cl_b x.1
  have hy := cl_b y.1
  unfold AA DL cmC
  generalize cl x.1 = p at *
  generalize cl y.1 = q at *
  generalize cl x.2 = p' at *
  generalize cl y.2 = q' at *
  show Calls Tryz.prog 152 #[.agg #[.int .i32 p, .int .i32 p'], .agg #[.int .i32 q, .int .i32 q']] W _
  go_enter Tryz.func152, Tryz.ntmps152
  go_wp2
  go_ret
  refine ⟨?_, 0, _, by rw [Sort.alloc_eq_grow, Sort.alloc_eq_grow, Sort.grow_grow]; rfl⟩
  rfl
end
theorem NH {l : List (Int × Int)} (h : Vr l) : l.map (fun g => (cl g.1, cl g.2)) = l := by
  conv => rhs; rw [← List.map_id l]
  refine List.map_congr_left fun g hg => ?_
  have := h g hg
  rw [HR (by omega) (by omega), HR (by omega) (by omega)]; rfl
theorem wP (l : List (Int × Int)) : Sort.flatK AA 2 l.toArray = (dV (l.map fun g => (cl g.1, cl g.2))).toArray := by
  rw [← pX]
  unfold Sort.flatK
  apply Array.ext
  · simp
  · intro t h1 h2
    have h3 : t < l.length * 2 := by simpa using h1
    have h5 : t / 2 < l.length := by omega
    simp [h5]
    rfl
theorem GC {l m : List (Int × Int)} (h : m.Perm l) (hv : Vr l) : Vr m := fun g hg => hv g (h.mem_iff.1 hg)
theorem GW (x y : Int × Int) : Go.Proofs.ltOf cmC x y = decide (cl x.1 < cl y.1) := by unfold Go.Proofs.ltOf cmC; exact decide_eq_decide.2 (by omega)
theorem swo_cm : Sort.SWO (Go.Proofs.ltOf cmC) where
  irrefl x := by rw [GW]; simp
  trans x y z h1 h2 := by rw [GW] at *; simp at *; omega
  ntrans x y z h1 h2 := by rw [GW] at *; simp at *; omega
theorem KB {w : World} {a : Option Addr} {c : Nat} {l : List (Int × Int)} {ob : Option Nat} (hO : OwnS w 56 2 a l.length c (dV l) ob) (hv : Vr l) (hl : l.length ≤ 1000000) :
    Calls Tryz.prog 151 #[.slice a l.length c, .func (.func 152) #[] #[]] w (Ret fun v w' => v = .tuple #[] ∧ ∃ m, m.Perm l ∧ (∀ i j (hij : i < j) (hj : j < m.length), m[i].1 ≤ m[j].1) ∧ OwnS w' 56 2 a l.length c (dV m) ob ∧ Evo ob.toList w w') := by
  rcases LJ hO with ⟨rfl, hn, rfl, rfl⟩ | ⟨g, rfl, rfl⟩
  · refine (Go.Proofs.AnyF.slices_SortFunc_none { xB with } none c (.func (.func 152) #[] #[]) w).mono ?_
    rintro e w' ⟨rfl, rfl⟩
    exact ⟨_, rfl, rfl, [], .refl _, (fun i j hij hj => by cases hj), hO, Evo.refl _ _⟩
  · have eg : ∀ args w, (callFunc 152 args).run Tryz.prog w = .ok (.enter 152 args) w := enters_of Tryz.func152 (by kernel_rfl) rfl
    have hH : Sort.HoldsK AA 2 w g 0 l.toArray := by
      have := FG hO
      unfold Sort.HoldsK at *
      rw [wP, NH hv]; rw [pX] at this; exact this
    have hcon := Go.Proofs.AnyQ.slices_SortFunc xB 2 Tryz.isAgg56 Tryz.sizeOf56 AA (fun _ => rfl) (fun x v hv => by simp [AA, DL] at hv; rcases hv with rfl | rfl <;> rfl) cmC swo_cm 152 #[] g 0 c l.toArray w eg (fun _ _ _ _ x y => clos_ok x y _) hH hO.lt (by simp; omega)
    refine Calls.mono hcon ?_
    rintro e w' ⟨rfl, d', q, os, hp, hs, rfl⟩
    obtain ⟨h1, h2, h3⟩ := hp
    have hperm : d'.toList.Perm l := by
      have e1 : d'.extract 0 l.toArray.size = d' := by rw [← h1, Array.extract_size]
      have e2 : l.toArray.extract 0 l.toArray.size = l.toArray := Array.extract_size
      rw [e1, e2] at h3
      exact h3
    have hvm := GC hperm hv
    have hlen : d'.toList.length = l.length := by simpa using h1
    refine ⟨_, rfl, rfl, d'.toList, hperm, fun i j hij hj => ?_, ?_, ?_⟩
    · have hjs : j < d'.size := by simpa using hj
      have h5 := hs i j (Nat.zero_le _) hij (by rw [← h1]; exact hjs)
      rw [GW, decide_eq_false_iff_not] at h5
      have h6 := hvm _ (List.getElem_mem hj)
      have h7 := hvm _ (List.getElem_mem (show i < d'.toList.length by omega))
      have e1 : d'[j]! = d'.toList[j] := by rw [getElem!_pos d' j hjs]; simp
      have e2 : d'[i]! = d'.toList[i] := by rw [getElem!_pos d' i (by omega)]; simp
      rw [e1, e2, HR (by omega) (by omega), HR (by omega) (by omega)] at h5
      omega
    · have h8 := IT hO (ds := dV d'.toList) (by rw [jJ, hlen]) q os
      have e3 : Sort.flatK AA 2 d' = (dV d'.toList).toArray := by
        have := wP d'.toList
        rw [NH hvm] at this
        simpa using this
      show OwnS (Sort.grow (Sort.putRow id (Sort.ahead w q) g 0 (Sort.flatK AA 2 d')) os) _ _ _ _ _ _ _
      rw [e3]
      exact h8
    · exact MY w g q _ os
end Go.Proofs.YtljadkcojnlioaaGreatDoor
namespace Go.Proofs.YtljadkcojnlioaaGreatDoor
open Go.Proofs
open Go.W Go.RowKit
attribute [local irreducible] Decidable.decide
theorem sN : eV Tryz.prog 148 := ⟨_, Tryz.func148, by kernel_rfl, by kernel_rfl⟩
theorem AW : eV Tryz.prog 151 := ⟨_, Tryz.func151, by kernel_rfl, by kernel_rfl⟩
structure MgP (m : List (Int × Int)) (k : Nat) (o : List (Int × Int)) : Prop where
  hk : k ≤ m.length
  can : rT o
  eq : ∀ c, InR c o ↔ InR c (m.take k)
  le : ∀ g, g ∈ o → ∀ i (h : i < m.length), k ≤ i → g.1 ≤ m[i].1
  len : o.length ≤ k
theorem LW (m : List (Int × Int)) : MgP m 0 [] := ⟨Nat.zero_le _, trivial, fun c => by simp, (fun g h => by cases h), Nat.le_refl _⟩
theorem CS {m : List (Int × Int)} {k : Nat} (h : k < m.length) (c : Int) : InR c (m.take (k + 1)) ↔ InR c (m.take k) ∨ (m[k].1 ≤ c ∧ c ≤ m[k].2) := by
  rw [List.take_add_one, List.getElem?_eq_getElem h, Option.toList_some, mP, jY]
section
variable {m : List (Int × Int)} {k : Nat} {o : List (Int × Int)}
theorem LX (h : MgP m k o) (hk : k < m.length) (hv : Vr m) (hs : ∀ i j (hij : i < j) (hj : j < m.length), m[i].1 ≤ m[j].1) (ho : o = [] ∨ ∃ o' g, o = o' ++ [g] ∧ ¬ m[k].1 ≤ g.2 + 1) : MgP m (k + 1) (o ++ [m[k]]) := by
  have hx := hv _ (List.getElem_mem hk)
  refine ⟨hk, ?_, fun c => ?_, fun g hg i hi hki => ?_, by rw [List.length_append]; have := h.len; simp; omega⟩
  · rcases ho with rfl | ⟨o', g, rfl, hn⟩
    · exact wQ hx.1 hx.2.1 hx.2.2
    · exact ((DQ h.can (h.le g (by simp) k hk (Nat.le_refl _)) hx.2.1 hx.2.2).2 hn).1
  · rw [mP, jY, CS hk, h.eq]
  · rcases List.mem_append.1 hg with hg | hg
    · exact h.le g hg i hi (by omega)
    · rw [List.mem_singleton.1 hg]; exact hs k i (by omega) hi
theorem mg_ext {o' : List (Int × Int)} {g : Int × Int} (h : MgP m k (o' ++ [g])) (hk : k < m.length) (hv : Vr m) (hn : m[k].1 ≤ g.2 + 1) : MgP m (k + 1) (o' ++ [(g.1, max g.2 m[k].2)]) := by
  have hx := hv _ (List.getElem_mem hk)
  have h1 := (DQ h.can (h.le g (by simp) k hk (Nat.le_refl _)) hx.2.1 hx.2.2).1 hn
  refine ⟨hk, h1.1, fun c => by rw [h1.2, CS hk, h.eq], fun g' hg i hi hki => ?_, by have := h.len; simp at this ⊢; omega⟩
  rcases List.mem_append.1 hg with hg | hg
  · exact h.le g' (by simp [hg]) i hi (by omega)
  · rw [List.mem_singleton.1 hg]; exact h.le g (by simp) i hi (by omega)
theorem mg_end (h : MgP m k o) (hk : m.length ≤ k) {l : List (Int × Int)} (hp : m.Perm l) {S : Int → Prop} (hS : ∀ c, InR c l ↔ S c) : o = kC S := by
  refine (qB h.can fun c => ?_).symm
  rw [h.eq, List.take_of_length_le hk, CT hp, hS]
end
theorem EY (o : List (Int × Int)) (g : Int × Int) (z : Int) (j : Nat) (hj : j = 0 + o.length * 2 + 1) : (dV (o ++ [g])).set j (.int .i32 z) = dV (o ++ [(g.1, z)]) := by
  subst hj
  obtain ⟨a, b⟩ := g
  rw [nU, nU, List.set_append_right _ _ (by rw [jJ]; omega), jJ, show 0 + o.length * 2 + 1 - o.length * 2 = 1 by omega]
  rfl
theorem snoc_of {l : List (Int × Int)} (h : 0 < l.length) : ∃ o g, l = o ++ [g] ∧ o.length = l.length - 1 := by
  rcases List.eq_nil_or_concat l with rfl | ⟨o, g, rfl⟩
  · cases h
  · exact ⟨o, g, by simp, by simp⟩
structure MgG where
  k : Nat
  n : Nat
  o : List (Int × Int)
  sa : Option Addr
  sc : Nat
  so : Option Nat
structure MgI (w wr : World) (m : List (Int × Int)) (a1 : Option Addr) (c1 : Nat) (ob1 : Option Nat) (x : MgG) : Prop where
  p : MgP m x.k x.o
  cl : OwnS wr 56 2 a1 m.length c1 (dV m) ob1
  own : OwnS wr 56 2 x.sa x.n x.sc (dV x.o) x.so
  ge : Ge w x.so
  gc : Ge w ob1
  ap : Apart ob1 x.so
theorem wC {a b : Int} : (if a < b then b else a) = max a b := by omega
def RsOut (w w' : World) (v : Value) (S : Int → Prop) (n : Nat) : Prop := ∃ a c ob, v = .slice a (kC S).length c ∧ OwnS w' 56 2 a (kC S).length c (dV (kC S)) ob ∧ Ge w ob ∧ (kC S).length ≤ n ∧ rT (kC S) ∧ (∀ c, InR c (kC S) ↔ S c) ∧ Evo [] w w'
theorem tG {w : World} {a : Option Addr} {c : Nat} {l : List (Int × Int)} {ob : Option Nat} (hO : OwnS w 56 2 a l.length c (dV l) ob) (hv : Vr l) (hl : l.length ≤ 1000000) {S : Int → Prop} (hS : ∀ c, InR c l ↔ S c) :
    Calls Tryz.prog 136 #[.slice a l.length c] w (Ret fun v w' => RsOut w w' v S l.length) := by
  refine bP (N := 53) Tryz.func136 rfl rfl rfl ?_; refine aE (aB (aN (aD (aA (aE (aB (aG (aM (vs := [_]) sN rfl (yO hO hl) rfl ?_)))))))); rintro _ w1 ⟨a1, c1, ob1, rfl, hO1, hg1, hw2⟩; have hG3 := Ge.fresh (Evo.refl [] w) hg1; have hE4 := (Evo.refl [] w).then hw2; refine aN (aD (aA (aE (aB (aG (aM (vs := [_, _]) AW rfl (KB hO1 hv hl) rfl ?_)))))); rintro _ w5 ⟨rfl, m, hpm, hsm, hO2, hw6⟩; have hml := hpm.length_eq; have hvm := GC hpm hv; have hE7 := hE4.step hw6 hG3.mem; rw [← hml] at hO2; refine aD (aA (aE (aB (aN (aD (aA (aE (aE (aB (aG (aC rfl (bR rfl Tryz.underlying24 rfl) ?_))))))))))); refine aG (aD (aA (cA (fH (α := MgG) (⟨0, 0, [], none, 0, none⟩) (fun x => [(3, .slice x.sa x.n x.sc), (13, .int .i64 (x.k : Nat))]) [(2, _), (11, _), (12, _)] (fun x wr => Evo [] w wr ∧ (MgI w wr m a1 c1 ob1 x)) (fun x => m.length - x.k) ⟨rfl, rfl, trivial⟩ ⟨rfl, rfl, rfl, trivial⟩ ⟨hE7, ⟨LW m, hO2, OwnS.nil _ _ _, Ge.nil _, hg1, Apart.nil _⟩⟩ ?_)))); rintro ⟨k, n, o, sa, sc, so⟩ wr8 ⟨hV9, ⟨hp, hcl, hown, hge, hgc, hap⟩⟩; show CW _ _ _ _ [(3, .slice sa n sc), (13, .int .i64 (k : Nat)), (2, _), (11, _), (12, _)] _
  try dsimp only at hp
  try dsimp only at hcl
  try dsimp only at hown
  try dsimp only at hge
  try dsimp only at hgc
  try dsimp only at hap
  have hE10 := Evo.refl ([]) wr8; have hon := oY hown; have hpl := hp.len; have hpk := hp.hk
  try dsimp only at hpl hpk
  refine aE (aB (aC rfl (dN rfl rfl) ?_)); refine aD (aA (aE (bI rfl (fun hc14 => ?_) (fun hc14 => ?_))))
  ·skip
   have hk' : k < m.length := by omega
   have hvk := hvm _ (List.getElem_mem hk'); obtain ⟨g1, hg1', ha1, hc1⟩ := oI hcl hk'; refine aW (aA (aE (cA (aE (aB ?_))))); refine aC rfl (gL (n := k) rfl rfl ha1 eX (by omega)) ?_; refine aC rfl (eW rfl kQ gR (vs := [_, _]) rfl (hc1.evo hE10 (by simp))) ?_; refine dB rfl mG fun b11 w12 hB13 hs14 hw15 => ?_; have hA16 := Apart.new (Lt.own hown) hs14; have hA17 := Apart.new (Lt.own hcl) hs14; have hG18 := Ge.new hV9 hs14; have hG19 := Ge.new hE10 hs14; have hE20 := hV9.then hw15; have hE21 := hE10.then hw15; have hO22 := hown.evo0 hw15; have hO23 := hcl.evo0 hw15; refine bK rfl rfl gR hB13 rfl rfl ⟨rfl, rfl, trivial⟩ fun w24 hB25 hw26 => ?_; have hE27 := hE20.step hw26 hG18.mem1; have hE28 := hE21.step hw26 hG19.mem1; have hO29 := hO22.evo hw26 hA16.own1; have hO30 := hO23.evo hw26 hA17.own1
   try simp only [cT, Nat.reduceAdd] at hB25
   refine aD (aA (aE (aE (aB (aG (aC rfl (bR rfl Tryz.underlying24 rfl) ?_)))))); refine aN (aD (aA (aE ?_))); refine fA (by kernel_rfl) (by kernel_rfl) ?_; refine aV rfl (fun _ hq32 => bM rfl) ?_; refine aV rfl (fun _ hq32 => gA rfl rfl) ?_; refine aV rfl (fun _ hq32 => bM rfl) ?_; refine kL (t := 21) rfl (fun hs21 => ?_) (fun hs21 => ?_)
   ·skip
    have h0 : 0 < o.length := by omega
    obtain ⟨o', q, hoq, hol⟩ := snoc_of h0; subst hoq
    have hol2 : (o' ++ [q]).length = o'.length + 1 := by simp
    have hqb := tP (x := q) hp.can; obtain ⟨gq, hgq, haq, hcq⟩ := oI hown (i := o'.length) (by omega); rw [List.getElem_concat_length (h := rfl)] at hcq; refine dI rfl rfl rfl rfl ?_; refine aV rfl (fun _ hq32 => aF rfl fV) ?_; refine dI rfl rfl rfl rfl ?_; refine aV rfl (fun _ hq32 => aI rfl cH (aK (hq32.blk0 hB25) rfl)) ?_; refine dI rfl rfl rfl rfl ?_; refine aV rfl (fun _ hq32 => bM rfl) ?_; refine dI rfl rfl rfl rfl ?_; refine aV rfl (fun _ hq32 => bM rfl) ?_; refine dI rfl rfl rfl rfl ?_; refine aV rfl (fun _ hq32 => gG rfl rfl (by omega) (by omega)) ?_; refine dI rfl rfl rfl rfl ?_; refine aV rfl (fun _ hq32 => fP (n := o'.length) rfl rfl haq (by omega) eX (by omega)) ?_; refine dI rfl rfl rfl rfl ?_; refine aV rfl (fun _ hq32 => aF rfl eS) ?_; refine dI rfl rfl rfl rfl ?_; refine aV rfl (fun _ hq32 => aI rfl cH (((hE28.then hq32)).cell (hcq 1 _ rfl) (by simp))) ?_; refine dI rfl rfl rfl rfl ?_; refine aV rfl (fun _ hq32 => gV rfl rfl (by omega) (by omega)) ?_; refine dI rfl rfl rfl rfl ?_; refine aV rfl (fun _ hq32 => fL rfl rfl) ?_; refine aV rfl (fun _ hq32 => gP rfl rfl) ?_; refine fO (fun wq31 hq32 => aA ?_); have hE33 := hE27.then hq32; have hE34 := hE28.then hq32; have hO35 := hO29.evo0 hq32; have hO36 := hO30.evo0 hq32; have hB37 := hq32.blk0 hB25; refine bI rfl (fun hc32 => ?_) (fun hc32 => ?_)
    ·skip
     refine aE ?_; refine iN (fun w0 w' => Evo so.toList w0 w') (by kernel_rfl) (fun w38 hw39 => ?_); have hE40 := hE33.then hw39; have hE41 := hE34.then hw39; have hO42 := hO35.evo0 hw39; have hO43 := hO36.evo0 hw39; have hB44 := hw39.blk0 hB37; refine bC 0 rfl (by kernel_rfl) (by kernel_rfl) (by kernel_rfl) rfl (fun _ hS => bM rfl) (Evo.refl so.toList w38) ?_; refine bC 1 rfl (by kernel_rfl) (by kernel_rfl) (by kernel_rfl) rfl (fun _ hS => bM rfl) (Evo.refl so.toList w38) ?_; refine bC 2 rfl (by kernel_rfl) (by kernel_rfl) (by kernel_rfl) rfl (fun _ hS => gG rfl rfl (by omega) (by omega)) (Evo.refl so.toList w38) ?_; refine bC 3 rfl (by kernel_rfl) (by kernel_rfl) (by kernel_rfl) rfl (fun _ hS => bM rfl) (Evo.refl so.toList w38) ?_; refine bC 4 rfl (by kernel_rfl) (by kernel_rfl) (by kernel_rfl) rfl (fun _ hS => bM rfl) (Evo.refl so.toList w38) ?_; refine bC 5 rfl (by kernel_rfl) (by kernel_rfl) (by kernel_rfl) rfl (fun _ hS => gG rfl rfl (by omega) (by omega)) (Evo.refl so.toList w38) ?_; refine bC 6 rfl (by kernel_rfl) (by kernel_rfl) (by kernel_rfl) rfl (fun _ hS => fP (n := o'.length) rfl rfl haq (by omega) eX (by omega)) (Evo.refl so.toList w38) ?_; refine bC 7 rfl (by kernel_rfl) (by kernel_rfl) (by kernel_rfl) rfl (fun _ hS => aF rfl eS) (Evo.refl so.toList w38) ?_; refine bC 9 rfl (by kernel_rfl) (by kernel_rfl) (by kernel_rfl) rfl (fun _ hS => aF rfl eS) (Evo.refl so.toList w38) ?_; refine bC 10 rfl (by kernel_rfl) (by kernel_rfl) (by kernel_rfl) rfl (fun _ hS => aI rfl cH (aK (hS.blk hB44 (hA16.symm.nmem)) rfl)) (Evo.refl so.toList w38) ?_
     refine cJ [8] (by kernel_rfl) rfl ⟨?_, trivial⟩; refine cS rfl ?_; refine aC rfl (aI rfl cH ((hE41).cell (hcq 1 _ rfl) (by simp))) ?_; refine aD (cF (.inl (Evo.refl so.toList w38)) ?_); refine cJ [11] (by kernel_rfl) rfl ⟨?_, trivial⟩; refine cS rfl ?_; refine aC rfl (wN rfl rfl) ?_; refine aD (cF (.inl (Evo.refl so.toList w38)) ?_); refine bC 12 rfl (by kernel_rfl) (by kernel_rfl) (by kernel_rfl) rfl (fun _ hS => fP (n := o'.length) rfl rfl haq (by omega) eX (by omega)) (Evo.refl so.toList w38) ?_; refine bC 13 rfl (by kernel_rfl) (by kernel_rfl) (by kernel_rfl) rfl (fun _ hS => aF rfl eS) (Evo.refl so.toList w38) ?_; refine cJ [14] (by kernel_rfl) rfl ⟨?_, trivial⟩; refine cS rfl ?_
     obtain ⟨g54, cur45, hg46, hx47, hcu48, hcs49, -⟩ := hO42.at (by omega)
     rw [haq] at hx47; cases hx47
     refine rD rfl rfl (rfl) iF hcu48 (hO42.inb hcs49 (k := o'.length) (j := 1) (by omega) (by omega) (by omega)) fun w50 hB51 hw52 => ?_; replace hw52 := rN hg46 hw52; have hO53 := hO42.set' hg46 hcu48 hB51; have hE55 := hE40.step hw52 hge.mem; have hE57 := (Evo.refl so.toList w38).step hw52 (fun y hy => .inl hy); have hO58 := hO43.evo hw52 hap.own; refine aD (cF (.inl hE57) ?_); refine eR (by kernel_rfl) (aA ?_); refine eD (cO (eC (aA ?_))); refine aB ?_; refine aC rfl (bF rfl rfl (by omega) (by omega)) ?_; refine aG (aD (bV ?_)); refine ⟨⟨k + 1, n, o' ++ [(q.1, max q.2 m[k].2)], sa, sc, so⟩, ?_, ⟨rfl, rfl, trivial⟩, ⟨rfl, rfl, rfl, trivial⟩, hE55, ?_⟩
     · (try dsimp only); omega
     try dsimp only
     have hO9 := hO53; rw [EY _ _ _ _ rfl, wC] at hO9; exact ⟨mg_ext hp hk' hvm hc32, hO58, hO9, hge, hgc, hap⟩
    refine aW (aA (aB (aG (aC rfl (bX rfl kQ gR hB37 rfl) (bO (vs := [_]) rfl iW rfl rfl rfl rfl fun b60 w61 hO62 hs63 hw64 => ?_))))); have hE70 := hE33.then hw64; have hO72 := hO35.evo0 hw64; have hO73 := hO36.evo0 hw64
    refine dS rfl rfl rfl rfl gM hO72 (Src.ofOwn hO62 ⟨rfl, rfl, trivial⟩) (by have := hp.len; omega) fun a2 c2 w77 ob2 hO3 hw80 hob81 => ?_
    have hA82 := hap.app (Lt.own hO73) hob81; have hG85 := hge.app hE70 hob81; have hE86 := hE70.step hw80 hge.mem; have hO88 := hO73.evo hw80 hap.own; refine aN (aD (bB (aA (aB ?_)))); refine aC rfl (bF rfl rfl (by omega) (by omega)) ?_; refine aG (aD (bV ?_)); refine ⟨⟨k + 1, n + 1, (o' ++ [q]) ++ [m[k]], a2, c2, ob2⟩, ?_, ⟨rfl, rfl, trivial⟩, ⟨rfl, rfl, rfl, trivial⟩, hE86, ?_⟩
    · (try dsimp only); omega
    try dsimp only
    refine ⟨LX hp hk' hvm hsm (.inr ⟨o', q, rfl, hc32⟩), hO88, ?_, hG85, hgc, hA82⟩
    rw [jZ]; exact hO3
   refine cX rfl rfl rfl rfl rfl rfl ?_; refine cX rfl rfl rfl rfl rfl rfl ?_; refine cX rfl rfl rfl rfl rfl rfl ?_; refine cX rfl rfl rfl rfl rfl rfl ?_; refine cX rfl rfl rfl rfl rfl rfl ?_; refine cX rfl rfl rfl rfl rfl rfl ?_; refine cX rfl rfl rfl rfl rfl rfl ?_; refine cX rfl rfl rfl rfl rfl rfl ?_; refine cX rfl rfl rfl rfl rfl rfl ?_; refine cX rfl rfl rfl rfl rfl rfl ?_; refine aV rfl (fun _ hq32 => fT rfl rfl) ?_; refine fO (fun wq31 hq32 => aA ?_); have hE91 := hE27.then hq32; have hO93 := hO29.evo0 hq32; have hO94 := hO30.evo0 hq32; have hB95 := hq32.blk0 hB25; refine cK rfl ?_; refine aW (aA (aB (aG (aC rfl (bX rfl kQ gR hB95 rfl) (bO (vs := [_]) rfl iW rfl rfl rfl rfl fun b96 w97 hO98 hs99 hw100 => ?_))))); have hE106 := hE91.then hw100; have hO108 := hO93.evo0 hw100; have hO109 := hO94.evo0 hw100
   refine dS rfl rfl rfl rfl gM hO108 (Src.ofOwn hO98 ⟨rfl, rfl, trivial⟩) (by have := hp.len; omega) fun a2 c2 w113 ob2 hO3 hw116 hob117 => ?_
   have hA118 := hap.app (Lt.own hO109) hob117; have hG121 := hge.app hE106 hob117; have hE122 := hE106.step hw116 hge.mem; have hO124 := hO109.evo hw116 hap.own; refine aN (aD (bB (aA (aB ?_)))); refine aC rfl (bF rfl rfl (by omega) (by omega)) ?_; refine aG (aD (bV ?_)); refine ⟨⟨k + 1, n + 1, o ++ [m[k]], a2, c2, ob2⟩, ?_, ⟨rfl, rfl, trivial⟩, ⟨rfl, rfl, rfl, trivial⟩, hE122, ?_⟩
   · (try dsimp only); omega
   try dsimp only
   refine ⟨LX hp hk' hvm hsm (.inl (List.length_eq_zero_iff.1 (by omega))), hO124, ?_, hG121, hgc, hA118⟩
   rw [jZ]; exact hO3
  refine eD (cO (cO (eC (aA ?_)))); refine aE (aB (aG (aN (aD (aA (aP (aJ rfl rfl ?_))))))); have e := mg_end hp (by omega) hpm hS; subst e; subst hon; exact ⟨sa, sc, so, rfl, hown, hge, by omega, hp.can, fun c => by rw [hp.eq, List.take_of_length_le (by omega), CT hpm, hS], hV9⟩
end Go.Proofs.YtljadkcojnlioaaGreatDoor
namespace Go.Proofs.YtljadkcojnlioaaGreatDoor
open Go.Proofs
open Go.W Go.RowKit
attribute [local irreducible] Decidable.decide
theorem pF : eV Tryz.prog 136 := ⟨_, Tryz.func136, by kernel_rfl, by kernel_rfl⟩
structure NgG where
  k : Nat
  n : Nat
  o : List (Int × Int)
  nx : Int
  sa : Option Addr
  sc : Nat
  so : Option Nat
structure NgI (w wr : World) (m : List (Int × Int)) (a1 : Option Addr) (c1 : Nat) (ob1 : Option Nat) (x : NgG) : Prop where
  hk : x.k ≤ m.length
  eq : x.o ++ pW x.nx (m.drop x.k) = pW 0 m
  b0 : 0 ≤ x.nx
  b1 : x.nx ≤ 1114112
  len : x.n ≤ x.k
  cl : OwnS wr 56 2 a1 m.length c1 (dV m) ob1
  own : OwnS wr 56 2 x.sa x.n x.sc (dV x.o) x.so
  ge : Ge w x.so
  gc : Ge w ob1
  ap : Apart ob1 x.so
theorem JD (b : Int) {m : List (Int × Int)} {k : Nat} (h : k < m.length) : pW b (m.drop k) = (if b < m[k].1 then [(b, m[k].1 - 1)] else []) ++ pW (m[k].2 + 1) (m.drop (k + 1)) := by
  rw [List.drop_eq_getElem_cons h, pW]
theorem HS {m : List (Int × Int)} (h : rT m) : ∀ {k : Nat} (hk : k < m.length), 0 ≤ m[k].1 ∧ m[k].1 ≤ m[k].2 ∧ m[k].2 ≤ 1114111 := by
  have key : ∀ {m : List (Int × Int)} {b : Int}, 0 ≤ b → jT b m → ∀ {k : Nat} (hk : k < m.length), 0 ≤ m[k].1 ∧ m[k].1 ≤ m[k].2 ∧ m[k].2 ≤ 1114111 := by
    intro m
    induction m with
    | nil => intro b _ _ k hk; cases hk
    | cons g m ih =>
      intro b hb hc k hk
      rw [jT] at hc
      cases k with
      | zero => exact ⟨by show 0 ≤ g.1; omega, hc.2.1, hc.2.2.1⟩
      | succ k => exact ih (b := g.2 + 2) (by omega) hc.2.2.2 (by simpa using hk)
  intro k hk
  exact key (Int.le_refl _) h hk
theorem tN {m : List (Int × Int)} (h : rT m) : Vr m := fun g hg => by
  obtain ⟨k, hk, rfl⟩ := List.getElem_of_mem hg
  exact HS h hk
theorem yB {m : List (Int × Int)} {S : Int → Prop} (h : rT m) (hS : ∀ c, InR c m ↔ S c) : rT (pW 0 m) ∧ (∀ c, InR c (pW 0 m) ↔ rG S c) ∧ pW 0 m = kC (rG S) := by
  obtain ⟨h1, h2⟩ := zR (b := 0) (d := 0) (Int.le_refl _) (Int.le_refl _) h
  have h3 : ∀ c, InR c (pW 0 m) ↔ rG S c := fun c => by rw [h2, hS]; exact Iff.rfl
  exact ⟨h1, h3, (qB h1 h3).symm⟩
theorem lT {w : World} {a : Option Addr} {c : Nat} {l : List (Int × Int)} {ob : Option Nat} (hO : OwnS w 56 2 a l.length c (dV l) ob) (hv : Vr l) (hl : l.length ≤ 1000000) {S : Int → Prop} (hS : ∀ c, InR c l ↔ S c) :
    Calls Tryz.prog 131 #[.slice a l.length c] w (Ret fun v w' => RsOut w w' v (rG S) (l.length + 1)) := by
  refine bP (N := 38) Tryz.func131 rfl rfl rfl ?_; refine aE (aB (aN (aD (aA (aE (aB (aN (aD (aA (aE (aB (aN (aD (aA (aE (aE (aB ?_))))))))))))))))); refine aG (aM (vs := [_]) pF rfl (tG hO hv hl hS) rfl ?_); rintro _ w1 ⟨a1, c1, ob1, rfl, hO1, hg1, hml, hcan, heqS, hw2⟩; have hE4 := (Evo.refl [] w).then hw2
  generalize hm : kC S = m at *
  refine aC rfl (bR rfl Tryz.underlying24 rfl) ?_; refine aG (aD (aA (cA ?_)))
  refine fH (α := NgG) (⟨0, 0, [], 0, none, 0, none⟩) (fun x => [(3, .slice x.sa x.n x.sc), (10, .int .i64 (x.k : Nat)), (4, .int .i32 x.nx)]) [(2, _), (8, _), (9, _)] (fun x wr => Evo [] w wr ∧ (NgI w wr m a1 c1 ob1 x)) (fun x => m.length - x.k) ⟨rfl, rfl, rfl, trivial⟩ ⟨rfl, rfl, rfl, trivial⟩ ⟨hE4, ⟨Nat.zero_le _, rfl, Int.le_refl _, (by show (0 : Int) ≤ 1114112; omega), Nat.le_refl _, hO1, OwnS.nil _ _ _, Ge.nil _, hg1, Apart.nil _⟩⟩ ?_
  rintro ⟨k, n, o, nx, sa, sc, so⟩ wr5 ⟨hV6, ⟨hk, heq, hb0, hb1, hlen, hcl, hown, hge, hgc, hap⟩⟩; show CW _ _ _ _ [(3, .slice sa n sc), (10, .int .i64 (k : Nat)), (4, .int .i32 nx), (2, _), (8, _), (9, _)] _
  try dsimp only at hk
  try dsimp only at heq
  try dsimp only at hb0
  try dsimp only at hb1
  try dsimp only at hlen
  try dsimp only at hcl
  try dsimp only at hown
  try dsimp only at hge
  try dsimp only at hgc
  try dsimp only at hap
  have hE7 := Evo.refl ([]) wr5; refine aE (aB (aC rfl (dN rfl rfl) ?_)); refine aD (aA (aE (bI rfl (fun hc11 => ?_) (fun hc11 => ?_))))
  ·skip
   have hk' : k < m.length := by omega
   have hmk := HS hcan hk'; obtain ⟨g1, hg1', ha1, hc1⟩ := oI hcl hk'; have hgc0 := JD nx hk'; refine aW (aA (aE (cA (aE (aB ?_))))); refine aC rfl (gL (n := k) rfl rfl ha1 eX (by omega)) ?_; refine aC rfl (eW rfl kQ gR (vs := [_, _]) rfl (hc1.evo hE7 (by simp))) ?_; refine dB rfl mG fun b8 w9 hB10 hs11 hw12 => ?_; have hA13 := Apart.new (Lt.own hown) hs11; have hA14 := Apart.new (Lt.own hcl) hs11; have hG15 := Ge.new hV6 hs11; have hE17 := hV6.then hw12; have hO19 := hown.evo0 hw12; have hO20 := hcl.evo0 hw12; refine bK rfl rfl gR hB10 rfl rfl ⟨rfl, rfl, trivial⟩ fun w21 hB22 hw23 => ?_; have hE24 := hE17.step hw23 hG15.mem1; have hO26 := hO19.evo hw23 hA13.own1; have hO27 := hO20.evo hw23 hA14.own1
   try simp only [cT, Nat.reduceAdd] at hB22
   refine aD (aA (aE (aE (aB (aC rfl (aF rfl fV) (aC rfl (aI rfl cH (aK hB22 rfl)) (aG (aC rfl (gA rfl rfl) ?_)))))))); refine aD (aA (bI rfl (fun hc17 => ?_) (fun hc17 => ?_)))
   ·skip
    refine aB (aG (aG (aC rfl (aF rfl fV) (aC rfl (aI rfl cH (aK hB22 rfl)) ?_)))); refine aC rfl (rL rfl rfl (by omega) (by omega)) ?_; refine aC rfl (eL (vs := [(0, _), (1, _)]) lM rfl (cells := [_, _]) rfl) ?_; refine bO (vs := [_]) rfl iW rfl rfl rfl rfl fun b28 w29 hO30 hs31 hw32 => ?_; have hE38 := hE24.then hw32; have hO40 := hO26.evo0 hw32; have hO41 := hO27.evo0 hw32; have hB42 := hw32.blk0 hB22; refine dS rfl rfl rfl rfl gM hO40 (Src.ofOwn hO30 ⟨rfl, rfl, trivial⟩) (by omega) fun a2 c2 w45 ob2 hO3 hw48 hob49 => ?_; have hA50 := hap.app (Lt.own hO41) hob49; have hG53 := hge.app hE38 hob49; have hE54 := hE38.step hw48 hge.mem; have hO56 := hO41.evo hw48 hap.own; have hB57 := hw48.blk hB42 hA13.symm.nmem; refine aN (aD (aA (aB (aC rfl (aF rfl eS) (aC rfl (aI rfl cH (aK hB57 rfl)) ?_))))); refine aC rfl (gV rfl rfl (by omega) (by omega)) ?_; refine aN (aD (bB (aA (aB ?_)))); refine aC rfl (bF rfl rfl (by omega) (by omega)) ?_; refine aG (aD (bV ?_)); refine ⟨⟨k + 1, n + 1, o ++ [(nx, m[k].1 - 1)], m[k].2 + 1, a2, c2, ob2⟩, ?_, ⟨rfl, rfl, rfl, trivial⟩, ⟨rfl, rfl, rfl, trivial⟩, hE54, ?_⟩
    · (try dsimp only); omega
    try dsimp only
    refine ⟨hk', ?_, (by show 0 ≤ m[k].2 + 1; omega), (by show m[k].2 + 1 ≤ 1114112; omega), (by show n + 1 ≤ k + 1; omega), hO56, ?_, hG53, hgc, hA50⟩
    · rw [← heq, hgc0, if_pos (by omega), List.append_assoc]
    · rw [nU]; exact hO3
   refine aW (aA (aB (aC rfl (aF rfl eS) (aC rfl (aI rfl cH (aK hB22 rfl)) ?_)))); refine aC rfl (gV rfl rfl (by omega) (by omega)) ?_; refine aN (aD (bB (aA (aB ?_)))); refine aC rfl (bF rfl rfl (by omega) (by omega)) ?_; refine aG (aD (bV ?_)); refine ⟨⟨k + 1, n, o, m[k].2 + 1, sa, sc, so⟩, ?_, ⟨rfl, rfl, rfl, trivial⟩, ⟨rfl, rfl, rfl, trivial⟩, hE24, ?_⟩
   · (try dsimp only); omega
   try dsimp only
   refine ⟨hk', ?_, (by show 0 ≤ m[k].2 + 1; omega), (by show m[k].2 + 1 ≤ 1114112; omega), (by show n ≤ k + 1; omega), hO27, hO26, hge, hgc, hap⟩
   rw [← heq, hgc0, if_neg (by omega), List.nil_append]
  refine eD (cO (cO (eC (aA ?_)))); refine aE (aE (aB (aG (aC rfl (fL rfl rfl) ?_)))); refine aD (aA (bI rfl (fun hc31 => ?_) (fun hc31 => ?_)))
  ·skip
   refine aB (aG (aG (aC rfl (eL (vs := [(0, _), (1, _)]) lM rfl (cells := [_, _]) rfl) ?_))); refine bO (vs := [_]) rfl iW rfl rfl rfl rfl fun b59 w60 hO61 hs62 hw63 => ?_; have hE68 := hV6.then hw63; have hO70 := hown.evo0 hw63; refine dS rfl rfl rfl rfl gM hO70 (Src.ofOwn hO61 ⟨rfl, rfl, trivial⟩) (by omega) fun a2 c2 w74 ob2 hO3 hw77 hob78 => ?_; have hG81 := hge.app hE68 hob78; have hE82 := hE68.step hw77 hge.mem; refine aN (aD (aA (aE (aB (aG (aN (aD (aA (aP (aJ rfl rfl ?_)))))))))); obtain ⟨h1, h2, h3⟩ := yB hcan heqS; rw [List.drop_eq_nil_of_le (by omega), pW, if_pos (by omega)] at heq; have hO9 : OwnS _ _ 2 _ _ _ (dV o ++ dV [(nx, 1114111)]) _ := hO3; rw [← jZ, heq] at hO9; have hn9 := oY hO9; rw [h3] at hO9 hn9 h1 h2
   exact ⟨a2, c2, ob2, by rw [hn9], by rw [← hn9]; exact hO9, hG81, by omega, h1, h2, hE82⟩
  refine aW (aA (aE (aB (aG (aN (aD (aA (aP (aJ rfl rfl ?_))))))))); obtain ⟨h1, h2, h3⟩ := yB hcan heqS; rw [List.drop_eq_nil_of_le (by omega), pW, if_neg (by omega), List.append_nil] at heq; have hO9 := hown; rw [heq] at hO9; have hn9 := oY hO9; rw [h3] at hO9 hn9 h1 h2
  exact ⟨sa, sc, so, by rw [hn9], by rw [← hn9]; exact hO9, hge, by omega, h1, h2, hV6⟩
end Go.Proofs.YtljadkcojnlioaaGreatDoor
namespace Go.Proofs.YtljadkcojnlioaaGreatDoor
open Go.Proofs
open Go.W Go.RowKit
attribute [local irreducible] Decidable.decide
mutual
def OT : Rx → World → List Value → List Nat → Prop
  | .mk k r rs mn mx lz cp nm ks, w, vs, bs => ∃ (ra : Option Addr) (rc : Nat) (rb : Option Nat) (ka : Option Addr) (kc : Nat) (kb : Option Nat) (cs : List Value) (bk : List Nat),
    vs = [iv k, .int .i32 r, .slice ra rs.length rc, iv mn, iv mx, .bool lz, iv cp, .string nm, .slice ka ks.length kc] ∧ OwnS w 56 2 ra rs.length rc (dV rs) rb ∧ OwnS w 27 9 ka ks.length kc cs kb ∧ OTs ks w cs bk ∧
    bs = rb.toList ++ (kb.toList ++ bk) ∧ rs.length ≤ 1000000 ∧ nm.size ≤ 1000000 ∧ ks.length ≤ 1000000
def OTs : List Rx → World → List Value → List Nat → Prop
  | [], _, cs, bs => cs = [] ∧ bs = []
  | x :: l, w, cs, bs => ∃ (vs cs' : List Value) (b1 b2 : List Nat), cs = vs ++ cs' ∧ bs = b1 ++ b2 ∧ OT x w vs b1 ∧ OTs l w cs' b2
end
theorem zF {w : World} {e : TypeId} {sz : Nat} {a : Option Addr} {n c : Nat} {xs : List Value} {ob : Option Nat} (h : OwnS w e sz a n c xs ob) : ∀ b, b ∈ ob.toList → b < w.heap.size := fun b hb => by
  cases ob with
  | none => cases hb
  | some g => rw [List.mem_singleton.1 hb]; exact h.lt
mutual
theorem OT.evo : ∀ {x : Rx} {w w' : World} {vs : List Value} {bs X : List Nat}, OT x w vs bs → Evo X w w' → (∀ b, b ∈ bs → b ∉ X) → OT x w' vs bs
  | .mk k r rs mn mx lz cp nm ks, w, w', vs, bs, X, h, he, hx => by
    rw [OT] at h ⊢
    obtain ⟨ra, rc, rb, ka, kc, kb, cs, bk, h1, h2, h3, h4, rfl, h5⟩ := h
    exact ⟨ra, rc, rb, ka, kc, kb, cs, bk, h1, h2.evo he (fun g hg => hx g (by simp [hg])), h3.evo he (fun g hg => hx g (by simp [hg])), OTs.evo h4 he (fun b hb => hx b (by simp [hb])), rfl, h5⟩
theorem OTs.evo : ∀ {l : List Rx} {w w' : World} {cs : List Value} {bs X : List Nat}, OTs l w cs bs → Evo X w w' → (∀ b, b ∈ bs → b ∉ X) → OTs l w' cs bs
  | [], w, w', cs, bs, X, h, he, hx => by rw [OTs] at h ⊢; exact h
  | x :: l, w, w', cs, bs, X, h, he, hx => by
    rw [OTs] at h ⊢
    obtain ⟨vs, cs', b1, b2, h1, rfl, h3, h4⟩ := h
    exact ⟨vs, cs', b1, b2, h1, rfl, OT.evo h3 he (fun b hb => hx b (by simp [hb])), OTs.evo h4 he (fun b hb => hx b (by simp [hb]))⟩
end
mutual
theorem OT.lt : ∀ {x : Rx} {w : World} {vs : List Value} {bs : List Nat}, OT x w vs bs → ∀ b, b ∈ bs → b < w.heap.size
  | .mk k r rs mn mx lz cp nm ks, w, vs, bs, h => by
    rw [OT] at h
    obtain ⟨ra, rc, rb, ka, kc, kb, cs, bk, h1, h2, h3, h4, rfl, h5⟩ := h
    intro b hb
    rcases List.mem_append.1 hb with hb | hb
    · exact zF h2 b hb
    · rcases List.mem_append.1 hb with hb | hb
      · exact zF h3 b hb
      · exact OTs.lt h4 b hb
theorem OTs.lt : ∀ {l : List Rx} {w : World} {cs : List Value} {bs : List Nat}, OTs l w cs bs → ∀ b, b ∈ bs → b < w.heap.size
  | [], w, cs, bs, h => by rw [OTs] at h; rw [h.2]; exact fun b hb => by cases hb
  | x :: l, w, cs, bs, h => by
    rw [OTs] at h
    obtain ⟨vs, cs', b1, b2, h1, rfl, h3, h4⟩ := h
    intro b hb
    rcases List.mem_append.1 hb with hb | hb
    · exact OT.lt h3 b hb
    · exact OTs.lt h4 b hb
end
theorem OT.nine {x : Rx} {w : World} {vs : List Value} {bs : List Nat} (h : OT x w vs bs) : ∃ ra rc ka kc, vs = [iv x.kind, .int .i32 x.r, .slice ra x.ranges.length rc, iv x.min, iv x.max, .bool x.lazy, iv x.cap, .string x.name, .slice ka x.kids.length kc] := by
  cases x with
  | mk k r rs mn mx lz cp nm ks =>
    rw [OT] at h
    obtain ⟨ra, rc, rb, ka, kc, kb, cs, bk, h1, _⟩ := h
    exact ⟨ra, rc, ka, kc, h1⟩
theorem OT.len {x : Rx} {w : World} {vs : List Value} {bs : List Nat} (h : OT x w vs bs) : vs.length = 9 := by
  obtain ⟨ra, rc, ka, kc, rfl⟩ := h.nine; rfl
theorem OT.one {x : Rx} {w : World} {vs : List Value} {bs : List Nat} (h : OT x w vs bs) : AllOne vs := by
  obtain ⟨ra, rc, ka, kc, rfl⟩ := h.nine; exact ⟨rfl, rfl, rfl, rfl, rfl, rfl, rfl, rfl, rfl, trivial⟩
theorem wZ : ∀ {l m : List Value}, AllOne l → AllOne m → AllOne (l ++ m)
  | [], m, _, h => h
  | v :: l, m, h, h2 => ⟨h.1, wZ h.2 h2⟩
theorem OTs.len : ∀ {l : List Rx} {w : World} {cs : List Value} {bs : List Nat}, OTs l w cs bs → cs.length = l.length * 9
  | [], w, cs, bs, h => by rw [OTs] at h; rw [h.1]; rfl
  | x :: l, w, cs, bs, h => by
    rw [OTs] at h
    obtain ⟨vs, cs', b1, b2, rfl, rfl, h3, h4⟩ := h
    rw [List.length_append, h3.len, OTs.len h4, List.length_cons]; omega
theorem OTs.one : ∀ {l : List Rx} {w : World} {cs : List Value} {bs : List Nat}, OTs l w cs bs → AllOne cs
  | [], w, cs, bs, h => by rw [OTs] at h; rw [h.1]; trivial
  | x :: l, w, cs, bs, h => by
    rw [OTs] at h
    obtain ⟨vs, cs', b1, b2, rfl, rfl, h3, h4⟩ := h
    exact wZ h3.one (OTs.one h4)
theorem OTs.nil (w : World) : OTs [] w [] [] := by rw [OTs]; exact ⟨rfl, rfl⟩
theorem OTs.single {x : Rx} {w : World} {vs : List Value} {bs : List Nat} (h : OT x w vs bs) : OTs [x] w vs bs := by
  rw [OTs]; exact ⟨vs, [], bs, [], by simp, by simp, h, OTs.nil w⟩
theorem OTs.app : ∀ {l m : List Rx} {w : World} {cs cs' : List Value} {bs bs' : List Nat}, OTs l w cs bs → OTs m w cs' bs' → OTs (l ++ m) w (cs ++ cs') (bs ++ bs')
  | [], m, w, cs, cs', bs, bs', h, h2 => by rw [OTs] at h; rw [h.1, h.2]; exact h2
  | x :: l, m, w, cs, cs', bs, bs', h, h2 => by
    rw [OTs] at h
    obtain ⟨vs, ct, b1, b2, rfl, rfl, h3, h4⟩ := h
    show OTs (x :: (l ++ m)) w _ _
    rw [OTs]
    exact ⟨vs, ct ++ cs', b1, b2 ++ bs', List.append_assoc .., List.append_assoc .., h3, OTs.app h4 h2⟩
theorem OTs.parts : ∀ {l m : List Rx} {w : World} {cs : List Value} {bs : List Nat}, OTs (l ++ m) w cs bs → ∃ c1 c2 b1 b2, cs = c1 ++ c2 ∧ bs = b1 ++ b2 ∧ OTs l w c1 b1 ∧ OTs m w c2 b2
  | [], m, w, cs, bs, h => ⟨[], cs, [], bs, rfl, rfl, OTs.nil w, h⟩
  | x :: l, m, w, cs, bs, h => by
    have h' : OTs (x :: (l ++ m)) w cs bs := h
    rw [OTs] at h'
    obtain ⟨vs, ct, b1, b2, rfl, rfl, h3, h4⟩ := h'
    obtain ⟨c1, c2, d1, d2, rfl, rfl, h5, h6⟩ := OTs.parts h4
    exact ⟨vs ++ c1, c2, b1 ++ d1, d2, (List.append_assoc ..).symm, (List.append_assoc ..).symm, by rw [OTs]; exact ⟨vs, c1, b1, d1, rfl, rfl, h3, h5⟩, h6⟩
theorem OTs.one' {x : Rx} {w : World} {cs : List Value} {bs : List Nat} (h : OTs [x] w cs bs) : OT x w cs bs := by
  rw [OTs] at h
  obtain ⟨vs, ct, b1, b2, rfl, rfl, h3, h4⟩ := h
  rw [OTs] at h4
  rw [h4.1, h4.2, List.append_nil, List.append_nil]; exact h3
structure Fr (w : World) (bs : List Nat) : Prop where
  nd : bs.Nodup
  ge : ∀ b, b ∈ bs → w.heap.size ≤ b
theorem Fr.nil (w : World) : Fr w [] := ⟨List.nodup_nil, fun b h => by cases h⟩
theorem Fr.app {w w1 : World} {b1 b2 : List Nat} (h1 : Fr w b1) (h2 : Fr w1 b2) (hw : w.heap.size ≤ w1.heap.size) (hl : ∀ b, b ∈ b1 → b < w1.heap.size) : Fr w (b1 ++ b2) where
  nd := List.nodup_append.2 ⟨h1.nd, h2.nd, fun a ha b hb e => by have := hl a ha; have := h2.ge b hb; omega⟩
  ge := fun b hb => by
    rcases List.mem_append.1 hb with hb | hb
    · exact h1.ge b hb
    · have := h2.ge b hb; omega
theorem Fr.older {w w1 : World} {bs : List Nat} (h : Fr w1 bs) (hw : w.heap.size ≤ w1.heap.size) : Fr w bs := ⟨h.nd, fun b hb => Nat.le_trans hw (h.ge b hb)⟩
def TOut (w w' : World) (v : Value) (x : Rx) : Prop := ∃ vs bs, v = .agg vs.toArray ∧ OT x w' vs bs ∧ Fr w bs
theorem ge_fr {w : World} {ob : Option Nat} (h : Ge w ob) : Fr w ob.toList := by
  cases ob with
  | none => exact Fr.nil w
  | some g => exact ⟨List.nodup_cons.2 ⟨by simp, List.nodup_nil⟩, fun b hb => by rw [List.mem_singleton.1 hb]; exact h g rfl⟩
theorem oZ (k : Int) (w : World) : OT (rxK k) w [iv k, .int .i32 0, .slice none 0 0, iv 0, iv 0, .bool false, iv 0, .string ByteArray.empty, .slice none 0 0] [] := by
  unfold rxK
  rw [OT]
  exact ⟨none, 0, none, none, 0, none, [], [], rfl, OwnS.nil _ _ _, OwnS.nil _ _ _, OTs.nil w, rfl, by simp, by show (0 : Nat) ≤ 1000000; omega, by simp⟩
theorem ot_lit (c : Int) (w : World) : OT (lO c) w [iv 2, .int .i32 c, .slice none 0 0, iv 0, iv 0, .bool false, iv 0, .string ByteArray.empty, .slice none 0 0] [] := by
  unfold lO
  rw [OT]
  exact ⟨none, 0, none, none, 0, none, [], [], rfl, OwnS.nil _ _ _, OwnS.nil _ _ _, OTs.nil w, rfl, by simp, by show (0 : Nat) ≤ 1000000; omega, by simp⟩
theorem LL {l : List (Int × Int)} {w : World} {a : Option Addr} {n c : Nat} {ob : Option Nat} (h : OwnS w 56 2 a n c (dV l) ob) (hl : l.length ≤ 1000000) : OT (jQ l) w [iv 3, .int .i32 0, .slice a n c, iv 0, iv 0, .bool false, iv 0, .string ByteArray.empty, .slice none 0 0] ob.toList := by
  obtain rfl := oY h
  unfold jQ
  rw [OT]
  exact ⟨a, c, ob, none, 0, none, [], [], rfl, h, OwnS.nil _ _ _, OTs.nil w, by simp, hl, by show (0 : Nat) ≤ 1000000; omega, by simp⟩
end Go.Proofs.YtljadkcojnlioaaGreatDoor
namespace Go.Proofs.YtljadkcojnlioaaGreatDoor
open Go.Proofs
open Go.W Go.RowKit
attribute [local irreducible] Decidable.decide
theorem EK : nO Tryz.prog 170 = some true := by kernel_rfl
theorem mR : iJ Tryz.prog 170 = some 2 := by kernel_rfl
theorem pE : nS Tryz.prog 170 = some #[.int .i32 0, .int .i32 0] := by kernel_rfl
theorem AL : nS Tryz.prog 171 = some #[.int .i32 0, .int .i32 0, .int .i32 0, .int .i32 0] := by kernel_rfl
def oN (j : Nat) : Int × Int := if j = 0 then (65, 32) else (97, -32)
theorem MJ (j : Nat) : (oN j).1 = 65 ∧ (oN j).2 = 32 ∨ (oN j).1 = 97 ∧ (oN j).2 = -32 := by
  unfold oN
  split
  · exact .inl ⟨rfl, rfl⟩
  · exact .inr ⟨rfl, rfl⟩
def mE (h x : Int × Int) : List (Int × Int) := if max x.1 h.1 ≤ min x.2 (h.1 + 25) then [(max x.1 h.1 + h.2, min x.2 (h.1 + 25) + h.2)] else []
def oO (x : Int × Int) : Nat → List (Int × Int)
  | 0 => []
  | j + 1 => oO x j ++ mE (oN j) x
def pN (l : List (Int × Int)) : List (Int × Int) := l.flatMap fun x => oO x 2
theorem DB {h x : Int × Int} {c : Int} : InR c (mE h x) ↔ (h.1 + h.2 ≤ c ∧ c ≤ h.1 + 25 + h.2 ∧ x.1 ≤ c - h.2 ∧ c - h.2 ≤ x.2) := by
  unfold mE
  split
  · rw [jY]; show max x.1 h.1 + h.2 ≤ c ∧ c ≤ min x.2 (h.1 + 25) + h.2 ↔ _; omega
  · refine ⟨fun h => (kM c h).elim, fun h => ?_⟩
    omega
theorem wI {x : Int × Int} {c : Int} : InR c (oO x 2) ↔ (97 ≤ c ∧ c ≤ 122 ∧ x.1 ≤ c - 32 ∧ c - 32 ≤ x.2) ∨ (65 ≤ c ∧ c ≤ 90 ∧ x.1 ≤ c + 32 ∧ c + 32 ≤ x.2) := by
  show InR c ((([] : List (Int × Int)) ++ mE (65, 32) x) ++ mE (97, -32) x) ↔ _
  rw [List.nil_append, mP, DB, DB]
  show (65 + 32 ≤ c ∧ c ≤ 65 + 25 + 32 ∧ x.1 ≤ c - 32 ∧ c - 32 ≤ x.2) ∨ (97 + -32 ≤ c ∧ c ≤ 97 + 25 + -32 ∧ x.1 ≤ c - -32 ∧ c - -32 ≤ x.2) ↔ _
  omega
theorem foldL_in {l : List (Int × Int)} {c : Int} : InR c (l ++ pN l) ↔ kB (fun c => InR c l) c := by
  rw [mP]
  unfold kB pN
  constructor
  · rintro (h | ⟨g, hg, h⟩)
    · exact .inl h
    · obtain ⟨x, hx, hgx⟩ := List.mem_flatMap.1 hg
      have h2 := wI.1 ⟨g, hgx, h⟩
      rcases h2 with h2 | h2
      · exact .inr (.inl ⟨h2.1, h2.2.1, x, hx, h2.2.2⟩)
      · exact .inr (.inr ⟨h2.1, h2.2.1, x, hx, h2.2.2⟩)
  · rintro (h | ⟨h1, h2, x, hx, h3⟩ | ⟨h1, h2, x, hx, h3⟩)
    · exact .inl h
    · obtain ⟨g, hg, h4⟩ := wI.2 (.inl ⟨h1, h2, h3⟩)
      exact .inr ⟨g, List.mem_flatMap.2 ⟨x, hx, hg⟩, h4⟩
    · obtain ⟨g, hg, h4⟩ := wI.2 (.inr ⟨h1, h2, h3⟩)
      exact .inr ⟨g, List.mem_flatMap.2 ⟨x, hx, hg⟩, h4⟩
theorem CZ {j : Nat} {x : Int × Int} : Vr (mE (oN j) x) := fun g hg => by
  have hc := MJ j
  unfold mE at hg
  split at hg
  · rw [List.mem_singleton.1 hg]
    show 0 ≤ max x.1 (oN j).1 + (oN j).2 ∧ max x.1 (oN j).1 + (oN j).2 ≤ min x.2 ((oN j).1 + 25) + (oN j).2 ∧ _ ≤ (1114111 : Int)
    omega
  · cases hg
theorem MO {l : List (Int × Int)} : Vr (pN l) := fun g hg => by
  obtain ⟨x, hx, hgx⟩ := List.mem_flatMap.1 hg
  have hgx' : g ∈ (([] : List (Int × Int)) ++ mE (oN 0) x) ++ mE (oN 1) x := hgx
  rw [List.nil_append] at hgx'
  rcases List.mem_append.1 hgx' with h | h
  · exact CZ g h
  · exact CZ g h
theorem FP {l : List (Int × Int)} {k : Nat} (h : k < l.length) : pN (l.take (k + 1)) = pN (l.take k) ++ oO l[k] 2 := by
  unfold pN
  rw [List.take_add_one, List.getElem?_eq_getElem h, List.flatMap_append]; simp
theorem JE (h x : Int × Int) : (mE h x).length ≤ 1 := by unfold mE; split <;> simp
theorem yI (x : Int × Int) : ∀ j, (oO x j).length ≤ j
  | 0 => Nat.le_refl _
  | j + 1 => by rw [oO, List.length_append]; have := yI x j; have := JE (oN j) x; omega
structure FoG where
  k : Nat
  n : Nat
  sa : Option Addr
  sc : Nat
  so : Option Nat
structure FoI (w wr : World) (l o : List (Int × Int)) (a : Option Addr) (c : Nat) (ob : Option Nat) (x : FoG) (m : Nat) : Prop where
  hk : x.k ≤ m
  cl : OwnS wr 56 2 a l.length c (dV l) ob
  own : OwnS wr 56 2 x.sa x.n x.sc (dV o) x.so
  ge : Ge w x.so
  ap : Apart ob x.so
structure FiG where
  j : Nat
  n2 : Nat
  sa2 : Option Addr
  sc2 : Nat
  so2 : Option Nat
structure FiI (w wr : World) (l o : List (Int × Int)) (a : Option Addr) (c : Nat) (ob : Option Nat) (q : Nat) (g : Int × Int) (x : FiG) : Prop where
  hj : x.j ≤ 2
  cl : OwnS wr 56 2 a l.length c (dV l) ob
  own : OwnS wr 56 2 x.sa2 x.n2 x.sc2 (dV o) x.so2
  ge : Ge w x.so2
  ap : Apart ob x.so2
  b5 : wr.heap[q]? = some (.cells #[.int .i32 g.1, .int .i32 g.2] 56 (0, 0))
  s5 : Ge w (some q)
  ap5 : Apart (some q) x.so2
theorem yJ {h x : Int × Int} (hc : max x.1 h.1 ≤ min x.2 (h.1 + 25)) : mE h x = [(max x.1 h.1 + h.2, min x.2 (h.1 + 25) + h.2)] := by unfold mE; rw [if_pos hc]
theorem DA {h x : Int × Int} (hc : ¬ max x.1 h.1 ≤ min x.2 (h.1 + 25)) : mE h x = [] := by unfold mE; rw [if_neg hc]
theorem wB {a b : Int} : (if b < a then b else a) = min a b := by omega
theorem EP {l m : List (Int × Int)} (h : Vr l) (h2 : Vr m) : Vr (l ++ m) := fun g hg => (List.mem_append.1 hg).elim (h g) (h2 g)
theorem tJ : ∀ l : List (Int × Int), (pN l).length ≤ 2 * l.length
  | [] => Nat.le_refl _
  | x :: l => by
    have h1 : pN (x :: l) = oO x 2 ++ pN l := List.flatMap_cons
    rw [h1, List.length_append, List.length_cons]; have := tJ l; have := yI x 2; omega
theorem RsOut.evo {w w' : World} {v : Value} {S : Int → Prop} {n : Nat} (h : RsOut w w' v S n) : Evo [] w w' := by obtain ⟨_, _, _, _, _, _, _, _, _, h⟩ := h; exact h
theorem CX {S T : Int → Prop} (h : ∀ c, S c ↔ T c) (c : Int) : kB S c ↔ kB T c := by unfold kB; rw [h, h, h]
theorem IP {j : Nat} (hj : j < 2) (w : World) : (part 170 #[.int .i32 65, .int .i32 32, .int .i32 97, .int .i32 (-32)] (j * 2)).run Tryz.prog w = .ok (.agg #[.int .i32 (oN j).1, .int .i32 (oN j).2]) w := by
  rw [IK w EK mR]
  match j, hj with
  | 0, _ => rfl
  | 1, _ => rfl
theorem yH {w : World} {a : Option Addr} {c : Nat} {l : List (Int × Int)} {ob : Option Nat} (hO : OwnS w 56 2 a l.length c (dV l) ob) (hv : Vr l) (hl : l.length ≤ 300000) {S : Int → Prop} (hS : ∀ c, InR c l ↔ S c) :
    Calls Tryz.prog 130 #[.slice a l.length c] w (Ret fun v w' => RsOut w w' v (kB S) (3 * l.length)) := by
  refine bP (N := 54) Tryz.func130 rfl rfl rfl ?_; refine aE (aB (aN (aD (aA (aE (aB (aG ?_))))))); refine aM (vs := [_]) sN rfl (yO hO (by omega)) rfl ?_; rintro _ w1 ⟨a1, c1, ob1, rfl, hO1, hg1, hw2⟩; have hA3 := Apart.fresh (Lt.own hO) hg1; have hE5 := (Evo.refl [] w).then hw2; have hO6 := hO.evo0 hw2; refine aN (aD (aA (aE (aE (aB (aG (aC rfl (bR rfl Tryz.underlying24 rfl) ?_))))))); refine aG (aD (aA (cA ?_)))
  refine fH (α := FoG) (⟨0, l.length, a1, c1, ob1⟩) (fun x => [(3, .slice x.sa x.n x.sc), (14, .int .i64 (x.k : Nat))]) [(2, _), (12, _), (13, _)] (fun x wr => Evo [] w wr ∧ (FoI w wr l (l ++ pN (l.take x.k)) a c ob x l.length ∧ x.n ≤ l.length + 2 * x.k)) (fun x => l.length - x.k) ⟨rfl, rfl, trivial⟩ ⟨rfl, rfl, rfl, trivial⟩ ⟨hE5, ⟨⟨Nat.zero_le _, hO6, by simp [pN]; exact hO1, hg1, hA3⟩, Nat.le_refl _⟩⟩ ?_
  rintro ⟨k, n, sa, sc, so⟩ wr7 ⟨hV8, ⟨⟨hk, hcl, hown, hge, hap⟩, hnl⟩⟩; show CW _ _ _ _ [(3, .slice sa n sc), (14, .int .i64 (k : Nat)), (2, _), (12, _), (13, _)] _
  try dsimp only at hk
  try dsimp only at hcl
  try dsimp only at hown
  try dsimp only at hge
  try dsimp only at hap
  try dsimp only at hnl
  have hE9 := Evo.refl ([]) wr7; refine aE (aB (aC rfl (dN rfl rfl) ?_)); refine aD (aA (aE (bI rfl (fun hc15 => ?_) (fun hc15 => ?_))))
  ·skip
   have hk' : k < l.length := by omega
   have hlk := hv _ (List.getElem_mem hk'); obtain ⟨g1, hg1', ha1, hc1⟩ := oI hcl hk'; refine aW (aA (aE (cA (aE (aB ?_))))); refine aC rfl (gL (n := k) rfl rfl ha1 eX (by omega)) ?_; refine aC rfl (eW rfl kQ gR (vs := [_, _]) rfl (hc1.evo hE9 (by simp))) ?_; refine dB rfl mG fun b5 w10 hB11 hs12 hw13 => ?_; have hsz_b5 := hs12; have hA14 := Apart.new (Lt.own hown) hs12; have hA15 := Apart.new (Lt.own hcl) hs12; have hG16 := Ge.new hV8 hs12; have hE18 := hV8.then hw13; have hO20 := hown.evo0 hw13; have hO21 := hcl.evo0 hw13; refine bK rfl rfl gR hB11 rfl rfl ⟨rfl, rfl, trivial⟩ fun w22 hB23 hw24 => ?_; have hE25 := hE18.step hw24 hG16.mem1; have hO27 := hO20.evo hw24 hA14.own1; have hO28 := hO21.evo hw24 hA15.own1
   try simp only [cT, Nat.reduceAdd] at hB23
   refine aD (aA (aE (aB ?_))); refine aC rfl (qQ (vs := [(0, _), (1, _)]) Tryz.underlying170 pE iF rfl (cells := #[.int .i32 65, .int .i32 32]) (by kernel_rfl)) ?_; refine aC rfl (qQ (vs := [(0, _), (1, _)]) Tryz.underlying170 pE iF rfl (cells := #[.int .i32 97, .int .i32 (-32)]) (by kernel_rfl)) ?_; refine aC rfl (qQ (vs := [(0, _), (1, _)]) Tryz.underlying171 AL mR rfl (cells := #[.int .i32 65, .int .i32 32, .int .i32 97, .int .i32 (-32)]) (by kernel_rfl)) ?_; refine aG (aD (aA (cA ?_)))
   refine fH (α := FiG) (⟨0, n, sa, sc, so⟩) (fun x => [(3, .slice x.sa2 x.n2 x.sc2), (21, .int .i64 (x.j : Nat))]) [(2, _), (5, _), (12, _), (13, _), (14, _), (20, _)] (fun x wr => Evo [] w wr ∧ (FiI w wr l (l ++ pN (l.take k) ++ oO l[k] x.j) a c ob b5 l[k] x ∧ x.n2 ≤ n + x.j)) (fun x => 2 - x.j) ⟨rfl, rfl, trivial⟩ ⟨rfl, rfl, rfl, rfl, rfl, rfl, trivial⟩ ⟨hE25, ⟨⟨Nat.zero_le _, hO28, by simp [oO]; exact hO27, hge, hap, hB23, hG16, hA14.symm⟩, Nat.le_refl _⟩⟩ ?_
   rintro ⟨j, n2, sa2, sc2, so2⟩ wr29 ⟨hV30, ⟨⟨hj, hcl2, hown2, hge2, hap2, hb52, hs52, hap5⟩, hnl2⟩⟩; show CW _ _ _ _ [(3, .slice sa2 n2 sc2), (21, .int .i64 (j : Nat)), (2, _), (5, _), (12, _), (13, _), (14, _), (20, _)] _
   try dsimp only at hj
   try dsimp only at hcl2
   try dsimp only at hown2
   try dsimp only at hge2
   try dsimp only at hap2
   try dsimp only at hb52
   try dsimp only at hs52
   try dsimp only at hap5
   try dsimp only at hnl2
   refine aE (aB (aC rfl (dN rfl rfl) ?_)); refine aD (aA (aE (bI rfl (fun hc22 => ?_) (fun hc22 => ?_))))
   ·skip
    have hj' : j < 2 := by omega
    have hhc := MJ j; refine aW (aA (aE (cA (aE (aB ?_))))); refine aC rfl (HP (n := j) rfl rfl Tryz.underlying171 rfl (by omega) mR (IP hj')) ?_; refine dB rfl pE fun b7 w31 hB32 hs33 hw34 => ?_; have hsz_b7 := hs33; have hA35 := Apart.new (Lt.own hown2) hs33; have hA36 := Apart.new (Lt.own hcl2) hs33; have hA37 := Apart.new (Lt.blk hb52) hs33; have hG38 := Ge.new hV30 hs33; have hE39 := hV30.then hw34; have hO40 := hown2.evo0 hw34; have hO41 := hcl2.evo0 hw34; have hB42 := hw34.blk0 hb52; refine bK rfl rfl mR hB32 rfl rfl ⟨rfl, rfl, trivial⟩ fun w43 hB44 hw45 => ?_; have hE46 := hE39.step hw45 hG38.mem1; have hO47 := hO40.evo hw45 hA35.own1; have hO48 := hO41.evo hw45 hA36.own1; have hB49 := hw45.blk hB42 hA37.nmem1
    try simp only [cT, Nat.reduceAdd] at hB44
    refine aD (aA (aE ?_)); refine iN (fun w0 w' => Evo [] w0 w') (by kernel_rfl) (fun w50 hw51 => ?_); have hE52 := hE46.then hw51; have hO53 := hO47.evo0 hw51; have hO54 := hO48.evo0 hw51; have hB55 := hw51.blk0 hB49; have hB56 := hw51.blk0 hB44; refine bC 0 rfl (by kernel_rfl) (by kernel_rfl) (by kernel_rfl) rfl (fun _ hS => aF rfl fV) (Evo.refl [] w50) ?_; refine bC 1 rfl (by kernel_rfl) (by kernel_rfl) (by kernel_rfl) rfl (fun _ hS => aI rfl cH (aK (hS.blk0 hB55) rfl)) (Evo.refl [] w50) ?_; refine bC 2 rfl (by kernel_rfl) (by kernel_rfl) (by kernel_rfl) rfl (fun _ hS => jM (n := 0) rfl rfl Tryz.underlying170 rfl (by omega) iF) (Evo.refl [] w50) ?_; refine bC 3 rfl (by kernel_rfl) (by kernel_rfl) (by kernel_rfl) rfl (fun _ hS => aI rfl cH (aK (hS.blk0 hB56) rfl)) (Evo.refl [] w50) ?_; refine bC 5 rfl (by kernel_rfl) (by kernel_rfl) (by kernel_rfl) rfl (fun _ hS => aF rfl eS) (Evo.refl [] w50) ?_; refine bC 6 rfl (by kernel_rfl) (by kernel_rfl) (by kernel_rfl) rfl (fun _ hS => aI rfl cH (aK (hS.blk0 hB55) rfl)) (Evo.refl [] w50) ?_; refine bC 7 rfl (by kernel_rfl) (by kernel_rfl) (by kernel_rfl) rfl (fun _ hS => jM (n := 0) rfl rfl Tryz.underlying170 rfl (by omega) iF) (Evo.refl [] w50) ?_; refine bC 8 rfl (by kernel_rfl) (by kernel_rfl) (by kernel_rfl) rfl (fun _ hS => aI rfl cH (aK (hS.blk0 hB56) rfl)) (Evo.refl [] w50) ?_; refine bC 9 rfl (by kernel_rfl) (by kernel_rfl) (by kernel_rfl) rfl (fun _ hS => gV rfl rfl (by omega) (by omega)) (Evo.refl [] w50) ?_; refine cJ [4, 10] (by kernel_rfl) rfl ⟨?_, ?_, trivial⟩
    ·skip
     refine cS rfl ?_; refine aC rfl (wN rfl rfl) ?_; refine aD (cF (.inl (Evo.refl [] w50)) ?_); refine bC 11 rfl (by kernel_rfl) (by kernel_rfl) (by kernel_rfl) rfl (fun _ hS => dZ rfl) (Evo.refl [] w50) ?_; refine cJ [10] (by kernel_rfl) rfl ⟨?_, trivial⟩; refine cS rfl ?_; refine aC rfl (zY rfl rfl) ?_; refine aD (cF (.inl (Evo.refl [] w50)) ?_); refine bC 12 rfl (by kernel_rfl) (by kernel_rfl) (by kernel_rfl) rfl (fun _ hS => dZ rfl) (Evo.refl [] w50) ?_; refine eR (by kernel_rfl) (aA ?_); refine aE (aB (aG (aG (aC rfl (fL rfl rfl) ?_)))); refine aD (aA (bI rfl (fun hc37 => ?_) (fun hc37 => ?_)))
     ·skip
      refine aB (aG (aG ?_)); refine aC rfl (jM (n := 1) rfl rfl Tryz.underlying170 rfl (by omega) iF) ?_; refine aC rfl (aI rfl cH (aK hB56 rfl)) ?_; refine aC rfl (gV rfl rfl (by omega) (by omega)) ?_; refine aG ?_; refine aC rfl (jM (n := 1) rfl rfl Tryz.underlying170 rfl (by omega) iF) ?_; refine aC rfl (aI rfl cH (aK hB56 rfl)) ?_; refine aC rfl (gV rfl rfl (by omega) (by omega)) ?_; refine aC rfl (eL (vs := [(0, _), (1, _)]) lM rfl (cells := [_, _]) rfl) ?_; refine bO (vs := [_]) rfl iW rfl rfl rfl rfl fun b57 w58 hO59 hs60 hw61 => ?_; have hE67 := hE52.then hw61; have hO68 := hO53.evo0 hw61; have hO69 := hO54.evo0 hw61; have hB70 := hw61.blk0 hB55; refine dS rfl rfl rfl rfl gM hO68 (Src.ofOwn hO59 ⟨rfl, rfl, trivial⟩) (by omega) fun a2 c2 w74 ob2 hO3 hw77 hob78 => ?_; have hA79 := hap2.app (Lt.own hO69) hob78; have hA80 := hap5.app (Lt.blk hB70) hob78; have hG83 := hge2.app hE67 hob78; have hE84 := hE67.step hw77 hge2.mem; have hO85 := hO69.evo hw77 hap2.own; have hB86 := hw77.blk hB70 hap5.nmem; refine aN (aD (bB (aA (aB ?_)))); refine aC rfl (bF rfl rfl (by omega) (by omega)) ?_; refine aG (aD (bV ?_)); refine ⟨⟨j + 1, n2 + 1, a2, c2, ob2⟩, ?_, ⟨rfl, rfl, trivial⟩, ⟨rfl, rfl, rfl, rfl, rfl, rfl, trivial⟩, hE84, ?_⟩
      · (try dsimp only); omega
      try dsimp only
      refine ⟨⟨hj', hO85, ?_, hG83, hA79, hB86, hs52, hA80⟩, (by show n2 + 1 ≤ n + (j + 1); omega)⟩
      simp only [wC, wB] at hc37; rw [oO, ← List.append_assoc, jZ _ (mE (oN j) l[k]), yJ hc37]; have hO9 := hO3; simp only [wC, wB] at hO9; exact hO9
     refine aW (bB (aA (aB ?_))); refine aC rfl (bF rfl rfl (by omega) (by omega)) ?_; refine aG (aD (bV ?_)); refine ⟨⟨j + 1, n2, sa2, sc2, so2⟩, ?_, ⟨rfl, rfl, trivial⟩, ⟨rfl, rfl, rfl, rfl, rfl, rfl, trivial⟩, hE52, ?_⟩
     · (try dsimp only); omega
     try dsimp only
     simp only [wC, wB] at hc37
     refine ⟨⟨hj', hO54, ?_, hge2, hap2, hB55, hs52, hap5⟩, (by show n2 ≤ n + (j + 1); omega)⟩
     rw [oO, DA hc37, List.append_nil]; exact hO53
    refine cS rfl ?_; refine aC rfl (zY rfl rfl) ?_; refine aD (cF (.inl (Evo.refl [] w50)) ?_); refine cJ [4] (by kernel_rfl) rfl ⟨?_, trivial⟩; refine cS rfl ?_; refine aC rfl (wN rfl rfl) ?_; refine aD (cF (.inl (Evo.refl [] w50)) ?_); refine bC 11 rfl (by kernel_rfl) (by kernel_rfl) (by kernel_rfl) rfl (fun _ hS => dZ rfl) (Evo.refl [] w50) ?_; refine bC 12 rfl (by kernel_rfl) (by kernel_rfl) (by kernel_rfl) rfl (fun _ hS => dZ rfl) (Evo.refl [] w50) ?_; refine eR (by kernel_rfl) (aA ?_); refine aE (aB (aG (aG (aC rfl (fL rfl rfl) ?_)))); refine aD (aA (bI rfl (fun hc37 => ?_) (fun hc37 => ?_)))
    ·skip
     refine aB (aG (aG ?_)); refine aC rfl (jM (n := 1) rfl rfl Tryz.underlying170 rfl (by omega) iF) ?_; refine aC rfl (aI rfl cH (aK hB56 rfl)) ?_; refine aC rfl (gV rfl rfl (by omega) (by omega)) ?_; refine aG ?_; refine aC rfl (jM (n := 1) rfl rfl Tryz.underlying170 rfl (by omega) iF) ?_; refine aC rfl (aI rfl cH (aK hB56 rfl)) ?_; refine aC rfl (gV rfl rfl (by omega) (by omega)) ?_; refine aC rfl (eL (vs := [(0, _), (1, _)]) lM rfl (cells := [_, _]) rfl) ?_; refine bO (vs := [_]) rfl iW rfl rfl rfl rfl fun b89 w90 hO91 hs92 hw93 => ?_; have hE99 := hE52.then hw93; have hO100 := hO53.evo0 hw93; have hO101 := hO54.evo0 hw93; have hB102 := hw93.blk0 hB55; refine dS rfl rfl rfl rfl gM hO100 (Src.ofOwn hO91 ⟨rfl, rfl, trivial⟩) (by omega) fun a2 c2 w106 ob2 hO3 hw109 hob110 => ?_; have hA111 := hap2.app (Lt.own hO101) hob110; have hA112 := hap5.app (Lt.blk hB102) hob110; have hG115 := hge2.app hE99 hob110; have hE116 := hE99.step hw109 hge2.mem; have hO117 := hO101.evo hw109 hap2.own; have hB118 := hw109.blk hB102 hap5.nmem; refine aN (aD (bB (aA (aB ?_)))); refine aC rfl (bF rfl rfl (by omega) (by omega)) ?_; refine aG (aD (bV ?_)); refine ⟨⟨j + 1, n2 + 1, a2, c2, ob2⟩, ?_, ⟨rfl, rfl, trivial⟩, ⟨rfl, rfl, rfl, rfl, rfl, rfl, trivial⟩, hE116, ?_⟩
     · (try dsimp only); omega
     try dsimp only
     refine ⟨⟨hj', hO117, ?_, hG115, hA111, hB118, hs52, hA112⟩, (by show n2 + 1 ≤ n + (j + 1); omega)⟩
     simp only [wC, wB] at hc37; rw [oO, ← List.append_assoc, jZ _ (mE (oN j) l[k]), yJ hc37]; have hO9 := hO3; simp only [wC, wB] at hO9; exact hO9
    refine aW (bB (aA (aB ?_))); refine aC rfl (bF rfl rfl (by omega) (by omega)) ?_; refine aG (aD (bV ?_)); refine ⟨⟨j + 1, n2, sa2, sc2, so2⟩, ?_, ⟨rfl, rfl, trivial⟩, ⟨rfl, rfl, rfl, rfl, rfl, rfl, trivial⟩, hE52, ?_⟩
    · (try dsimp only); omega
    try dsimp only
    simp only [wC, wB] at hc37
    refine ⟨⟨hj', hO54, ?_, hge2, hap2, hB55, hs52, hap5⟩, (by show n2 ≤ n + (j + 1); omega)⟩
    rw [oO, DA hc37, List.append_nil]; exact hO53
   refine eD (cO (cO (eC (bB (aA ?_))))); refine aB ?_; refine aC rfl (bF rfl rfl (by omega) (by omega)) ?_; refine aG (aD (bV ?_)); refine ⟨⟨k + 1, n2, sa2, sc2, so2⟩, ?_, ⟨rfl, rfl, trivial⟩, ⟨rfl, rfl, rfl, trivial⟩, hV30, ?_⟩
   · (try dsimp only); omega
   try dsimp only
   obtain rfl : j = 2 := by omega
   refine ⟨⟨hk', hcl2, ?_, hge2, hap2⟩, (by show n2 ≤ l.length + 2 * (k + 1); omega)⟩
   rw [FP hk', ← List.append_assoc]; exact hown2
  rw [List.take_of_length_le (show l.length ≤ k by omega)] at hown; have hfl := tJ l; have hn9 := oY hown; subst hn9; have hV9 := hV8; refine eD (cO (cO (eC (aA ?_)))); refine aE (aB (aG ?_))
  refine aM (vs := [_]) pF rfl (tG hown (EP hv MO) (by rw [List.length_append]; omega) (fun c => foldL_in.trans (CX hS c))) rfl ?_
  rintro rv w121 hR; have hw122 := hR.evo; have hE123 := hV8.then hw122; refine aN (aD (aA (aP (aJ rfl rfl ?_)))); obtain ⟨a9, c9, ob9, rfl, hO9, hg9, hl9, hcan9, heq9, hev9⟩ := hR
  exact ⟨a9, c9, ob9, rfl, hO9, Ge.fresh hV9 hg9, by rw [List.length_append] at hl9; have := tJ l; omega, hcan9, heq9, hE123⟩
end Go.Proofs.YtljadkcojnlioaaGreatDoor
namespace Go.Proofs.YtljadkcojnlioaaGreatDoor
open Go.Proofs
open Go.W Go.RowKit
attribute [local irreducible] Decidable.decide
theorem dT : Build Tryz.prog 27 #[(0, 1), (1, 1), (2, 1), (3, 1), (4, 1), (5, 1), (6, 1), (7, 1), (8, 1)] #[.int .i64 0, .int .i32 0, .slice none 0 0, .int .i64 0, .int .i64 0, .bool false, .int .i64 0, .string ByteArray.empty, .slice none 0 0] := ⟨_, .agg #[.int .i64 0, .int .i32 0, .slice none 0 0, .int .i64 0, .int .i64 0, .bool false, .int .i64 0, .string ByteArray.empty, .slice none 0 0], Tryz.underlying27, by kernel_rfl, rfl, fun w => by kernel_rfl⟩
theorem cC : eV Tryz.prog 114 := ⟨_, Tryz.func114, by kernel_rfl, by kernel_rfl⟩
theorem kG : eV Tryz.prog 131 := ⟨_, Tryz.func131, by kernel_rfl, by kernel_rfl⟩
theorem cB : rE Tryz.prog 67 = some (21, 1) := by kernel_rfl
def xC (w w' : World) (v : Value) (S : Int → Prop) (n : Nat) : Prop := ∃ a c ob l, v = .slice a l.length c ∧ OwnS w' 56 2 a l.length c (dV l) ob ∧ Ge w ob ∧ Vr l ∧ (∀ c, InR c l ↔ S c) ∧ l.length ≤ n
theorem RsOut.set {X : List Nat} {w0 w w' : World} {v : Value} {S : Int → Prop} {n : Nat} (h : RsOut w w' v S n) (he : Evo X w0 w) : xC w0 w' v S n := by
  obtain ⟨a, c, ob, h1, h2, h3, h4, h5, h6, -⟩ := h
  exact ⟨a, c, ob, kC S, h1, h2, Ge.fresh he h3, tN h5, h6, h4⟩
theorem vY {S : Int → Prop} {m : List (Int × Int)} (e : kC S = m) (h1 : m.length = 1) (h2 : (m[0]'(by omega)).1 = (m[0]'(by omega)).2) : iL S = lO (m[0]'(by omega)).1 := by
  obtain ⟨⟨a, b⟩, rfl⟩ := List.length_eq_one_iff.1 h1
  have h2' : a = b := h2
  unfold iL
  rw [e]
  show (if a = b then lO a else jQ [(a, b)]) = _
  rw [if_pos h2']; rfl
theorem oL {S : Int → Prop} {m : List (Int × Int)} (e : kC S = m) (h : ∀ h1 : m.length = 1, ¬ (m[0]'(by omega)).1 = (m[0]'(by omega)).2) : iL S = jQ m := by
  unfold iL
  rw [e]
  match m, h with
  | [], h => rfl
  | [(a, b)], h =>
    have h2 : ¬ a = b := h rfl
    show (if a = b then lO a else jQ [(a, b)]) = _
    rw [if_neg h2]
  | a :: b :: l, h => rfl
theorem or_c : ∀ c : Nat, c < 256 → ((c ||| 32 = 100 → c = 68 ∨ c = 100) ∧ (c ||| 32 = 115 → c = 83 ∨ c = 115) ∧ (c ||| 32 = 119 → c = 87 ∨ c = 119)) ∧ (c ||| 32 ≠ 100 → c ≠ 68 ∧ c ≠ 100) ∧ (c ||| 32 ≠ 115 → c ≠ 83 ∧ c ≠ 115) ∧ (c ||| 32 ≠ 119 → c ≠ 87 ∧ c ≠ 119) := by
  have h : ∀ c : Fin 256, ((c.1 ||| 32 = 100 → c.1 = 68 ∨ c.1 = 100) ∧ (c.1 ||| 32 = 115 → c.1 = 83 ∨ c.1 = 115) ∧ (c.1 ||| 32 = 119 → c.1 = 87 ∨ c.1 = 119)) ∧ (c.1 ||| 32 ≠ 100 → c.1 ≠ 68 ∧ c.1 ≠ 100) ∧ (c.1 ||| 32 ≠ 115 → c.1 ≠ 83 ∧ c.1 ≠ 115) ∧ (c.1 ||| 32 ≠ 119 → c.1 ≠ 87 ∧ c.1 ≠ 119) := by decide +kernel
  exact fun c hc => h ⟨c, hc⟩
theorem iR {l : List (Int × Int)} (h : l.all (fun g => decide (0 ≤ g.1) && decide (g.1 ≤ g.2) && decide (g.2 ≤ 1114111)) = true) : Vr l := fun g hg => by
  have := List.all_eq_true.1 h g hg
  simp only [Bool.and_eq_true, decide_eq_true_eq] at this
  exact ⟨this.1.1, this.1.2, this.2⟩
theorem tH {c : Nat} (h : c ≠ 100 ∧ c ≠ 115 ∧ c ≠ 119 ∧ c ≠ 68 ∧ c ≠ 83 ∧ c ≠ 87) : uM c = none := by
  unfold uM; rw [if_neg h.1, if_neg h.2.1, if_neg h.2.2.1, if_neg h.2.2.2.1, if_neg h.2.2.2.2.1, if_neg h.2.2.2.2.2]
def LetOut (w w' : World) (v : Value) (o : Option (Int → Prop)) : Prop := (o = none ∧ v = .tuple #[.slice none 0 0, .bool false]) ∨ ∃ S v', o = some S ∧ v = .tuple #[v', .bool true] ∧ xC w w' v' S 8
theorem mO {w : World} {a : Option Addr} {c : Nat} {l : List (Int × Int)} {ob : Option Nat} (hO : OwnS w 56 2 a l.length c (dV l) ob) (hv : Vr l) (hl : l.length ≤ 1000000) {S : Int → Prop} (hS : ∀ c, InR c l ↔ S c) :
    Calls Tryz.prog 113 #[.slice a l.length c] w (Ret fun v w' => TOut w w' v (iL S) ∧ Evo [] w w') := by
  refine bP (N := 26) Tryz.func113 rfl rfl rfl ?_; refine aE (aB (dB rfl dR fun b2 w1 hB2 hs3 hw4 => ?_)); have hsz_b2 := hs3; have hG5 := Ge.new (Evo.refl [] w) hs3; have hE6 := (Evo.refl [] w).then hw4; refine aD (aA (aE (aB (aG (aM (vs := [_]) pF rfl (tG (hO.evo0 hE6) hv hl hS) rfl ?_))))); rintro _ w7 ⟨a1, c1, ob1, rfl, hO1, hg1, hml, hcan, heqS, hw8⟩; have hA9 := Apart.fresh (Lt.blk hB2) hg1; have hG10 := Ge.fresh hE6 hg1; have hE11 := hE6.then hw8; have hB12 := hw8.blk0 hB2
  generalize hm : kC S = m at *
  refine aN (aD (aA (aE (aE ?_)))); refine fA (by kernel_rfl) (by kernel_rfl) ?_; refine aV rfl (fun _ hq14 => bM rfl) ?_; refine aV rfl (fun _ hq14 => bR rfl Tryz.underlying24 rfl) ?_; refine aV rfl (fun _ hq14 => bE rfl rfl) ?_; refine aV rfl (fun _ hq14 => bM rfl) ?_; refine kL (t := 8) rfl (fun hs8 => ?_) (fun hs8 => ?_)
  ·skip
   have hm1 : m.length = 1 := by omega
   obtain ⟨g1, hg1', ha1, hc1⟩ := oI hO1 (i := 0) (by omega); refine dI rfl rfl rfl rfl ?_; refine aV rfl (fun _ hq14 => bM rfl) ?_; refine dI rfl rfl rfl rfl ?_; refine aV rfl (fun _ hq14 => gL (n := 0) rfl rfl ha1 eX (by omega)) ?_; refine dI rfl rfl rfl rfl ?_; refine aV rfl (fun _ hq14 => aF rfl fV) ?_; refine dI rfl rfl rfl rfl ?_; refine aV rfl (fun _ hq14 => aI rfl cH ((((Evo.refl ([]) w7).then hq14)).cell (hc1 0 _ rfl) (by simp))) ?_; refine dI rfl rfl rfl rfl ?_; refine aV rfl (fun _ hq14 => bM rfl) ?_; refine dI rfl rfl rfl rfl ?_; refine aV rfl (fun _ hq14 => gL (n := 0) rfl rfl ha1 eX (by omega)) ?_; refine dI rfl rfl rfl rfl ?_; refine aV rfl (fun _ hq14 => aF rfl eS) ?_; refine dI rfl rfl rfl rfl ?_; refine aV rfl (fun _ hq14 => aI rfl cH ((((Evo.refl ([]) w7).then hq14)).cell (hc1 1 _ rfl) (by simp))) ?_; refine dI rfl rfl rfl rfl ?_; refine aV rfl (fun _ hq14 => bE rfl rfl) ?_; refine aV rfl (fun _ hq14 => gP rfl rfl) ?_; refine fO (fun wq13 hq14 => aA ?_); have hE15 := hE11.then hq14; have hE16 := (Evo.refl ([]) w7).then hq14; have hB17 := hq14.blk0 hB12; have hO18 := hO1.evo0 hq14; refine bI rfl (fun hc18 => ?_) (fun hc18 => ?_)
   ·skip
    refine aE (aB (aG ?_)); refine aC rfl (gL (n := 0) rfl rfl ha1 eX (by omega)) ?_; refine aC rfl (aF rfl fV) ?_; refine aC rfl (aI rfl cH ((hE16).cell (hc1 0 _ rfl) (by simp))) ?_; refine aC rfl (eL (vs := [(0, _), (1, _)]) dT rfl (cells := [_, _, _, _, _, _, _, _, _]) rfl) ?_; refine bK rfl rfl aY hB17 rfl rfl ⟨rfl, rfl, rfl, rfl, rfl, rfl, rfl, rfl, rfl, trivial⟩ fun w19 hB20 hw21 => ?_; have hE22 := hE15.step hw21 hG5.mem1
    try simp only [cT, Nat.reduceAdd] at hB20
    refine aD (aA (aP (aQ (dD rfl (ResOk.cellA rfl bS aY hB20 rfl) ?_)))); refine ⟨?_, hE22⟩; rw [vY hm hm1 (by simpa using hc18)]; exact ⟨_, [], rfl, ot_lit _ _, Fr.nil _⟩
   refine aW (aA (aE (aB (aG (aC rfl (eL (vs := [(0, _), (2, _)]) dT rfl (cells := [_, _, _, _, _, _, _, _, _]) rfl) ?_))))); refine bK rfl rfl aY hB17 rfl rfl ⟨rfl, rfl, rfl, rfl, rfl, rfl, rfl, rfl, rfl, trivial⟩ fun w25 hB26 hw27 => ?_; have hE28 := hE15.step hw27 hG5.mem1; have hO30 := hO18.evo hw27 hA9.symm.own1
   try simp only [cT, Nat.reduceAdd] at hB26
   refine aD (aA (aP (dD rfl (ResOk.cellA rfl bS aY hB26 rfl) ?_))); refine ⟨?_, hE28⟩; rw [oL hm (fun h1 => by simpa using hc18)]; exact ⟨_, _, rfl, LL hO30 (by omega), ge_fr hG10⟩
  refine cX rfl rfl rfl rfl rfl rfl ?_; refine cX rfl rfl rfl rfl rfl rfl ?_; refine cX rfl rfl rfl rfl rfl rfl ?_; refine cX rfl rfl rfl rfl rfl rfl ?_; refine cX rfl rfl rfl rfl rfl rfl ?_; refine cX rfl rfl rfl rfl rfl rfl ?_; refine cX rfl rfl rfl rfl rfl rfl ?_; refine cX rfl rfl rfl rfl rfl rfl ?_; refine cX rfl rfl rfl rfl rfl rfl ?_; refine aV rfl (fun _ hq14 => fT rfl rfl) ?_; refine fO (fun wq13 hq14 => aA ?_); have hE31 := hE11.then hq14; have hB33 := hq14.blk0 hB12; have hO34 := hO1.evo0 hq14; refine cK rfl ?_; refine aW (aA (aE (aB (aG (aC rfl (eL (vs := [(0, _), (2, _)]) dT rfl (cells := [_, _, _, _, _, _, _, _, _]) rfl) ?_))))); refine bK rfl rfl aY hB33 rfl rfl ⟨rfl, rfl, rfl, rfl, rfl, rfl, rfl, rfl, rfl, trivial⟩ fun w35 hB36 hw37 => ?_; have hE38 := hE31.step hw37 hG5.mem1; have hO40 := hO34.evo hw37 hA9.symm.own1
  try simp only [cT, Nat.reduceAdd] at hB36
  refine aD (aA (aP (dD rfl (ResOk.cellA rfl bS aY hB36 rfl) ?_))); refine ⟨?_, hE38⟩; rw [oL hm (fun h1 => by omega)]; exact ⟨_, _, rfl, LL hO40 (by omega), ge_fr hG10⟩
theorem qM {w w' : World} {v : Value} {S : Int → Prop} {n m : Nat} (h : xC w w' v S n) (hm : n ≤ m) : xC w w' v S m := by
  obtain ⟨a, c, ob, l, h1, h2, h3, h4, h5, h6⟩ := h
  exact ⟨a, c, ob, l, h1, h2, h3, h4, h5, Nat.le_trans h6 hm⟩
theorem pA {w : World} (c : Nat) (hc : c < 256) :
    Calls Tryz.prog 133 #[.int .u8 (c : Nat)] w (Ret fun v w' => LetOut w w' v (uM c) ∧ Evo [] w w') := by
  have hor := or_c c hc; refine bP (N := 31) Tryz.func133 rfl rfl rfl ?_; refine aE (aB (aN (aN (aD (aA (aE (aB (aN (aD (aA (aE (aE (aB (aG ?_)))))))))))))); refine aC rfl (iY (m := c) (n := 32) rfl rfl rfl rfl rfl hc (by decide)) ?_; refine aD (aA (cA (aE (aB (aC rfl (bE rfl rfl) ?_))))); refine aN (aD (aA (bI rfl (fun hc7 => ?_) (fun hc7 => ?_))))
  ·skip
   have hcs := hor.1.1 (by omega); refine aB (bO (vs := [_, _]) rfl cB rfl rfl rfl rfl fun b1 w2 hO3 hs4 hw5 => ?_); have hE7 := (Evo.refl [] w).then hw5; refine aM (vs := [_]) cC rfl (dP (es := [48, 57]) hO3 (by decide)) rfl ?_; rintro _ w8 ⟨a1, c1, ob1, rfl, hO1, hg1, hw9⟩; have hG11 := Ge.fresh hE7 hg1; have hE12 := hE7.then hw9; refine aN (aD (bB (aA (aE (aE (aB (aG (aD (aA (cA (aE (aE (aB (aC rfl (bE rfl rfl) ?_)))))))))))))); refine aN (aD (aA (bI rfl (fun hc20 => ?_) (fun hc20 => ?_))))
   ·skip
    refine aW (aA (bI rfl (fun hc20 => ?_) (fun hc20 => ?_)))
    ·skip
     refine aB (aG ?_); refine aM (vs := [_]) kG rfl (lT (l := [(48, 57)]) hO1 (iR (by kernel_rfl)) (by decide) (fun c => Iff.rfl)) rfl ?_; rintro rv w14 hR; have hV9 := hE12; have hw15 := hR.evo; have hE16 := hE12.then hw15; refine aN (aD (bB (aA (aE (aB (aG (aN (aN (aD (aA (aP (dA rfl rfl rfl ?_))))))))))))
     obtain rfl : c = 68 := by omega
     exact ⟨.inr ⟨_, _, rfl, rfl, qM (hR.set hV9) (by decide)⟩, hE16⟩
    exfalso; omega
   refine aE (aB (aC rfl (bE rfl rfl) ?_)); refine aN (aD (aA (bI rfl (fun hc20 => ?_) (fun hc20 => ?_))))
   ·skip
    exfalso; omega
   refine aB (aC rfl (bE rfl rfl) ?_); refine aN (aD (aA (bI rfl (fun hc20 => ?_) (fun hc20 => ?_))))
   ·skip
    exfalso; omega
   refine aE (aE (aB (aC rfl (bE rfl rfl) ?_))); refine aN (aD (aA (bI rfl (fun hc26 => ?_) (fun hc26 => ?_))))
   ·skip
    refine aW (aA (bI rfl (fun hc26 => ?_) (fun hc26 => ?_)))
    ·skip
     refine aW (bB (aA (aE (aB (aG (aN (aN (aD (aA (aP (dA rfl rfl rfl ?_)))))))))))
     obtain rfl : c = 100 := by omega
     exact ⟨.inr ⟨_, _, rfl, rfl, _, _, _, [(48, 57)], rfl, hO1, hG11, iR (by kernel_rfl), fun c => Iff.rfl, by decide⟩, hE12⟩
    exfalso; omega
   exfalso; omega
  refine aE (aB (aC rfl (bE rfl rfl) ?_)); refine aN (aD (aA (bI rfl (fun hc11 => ?_) (fun hc11 => ?_))))
  ·skip
   have hcs := hor.1.2.1 (by omega); refine aB (bO (vs := [_, _, _, _, _, _]) rfl cB rfl rfl rfl rfl fun b18 w19 hO20 hs21 hw22 => ?_); have hE24 := (Evo.refl [] w).then hw22; refine aM (vs := [_]) cC rfl (dP (es := [9, 10, 12, 13, 32, 32]) hO20 (by decide)) rfl ?_; rintro _ w25 ⟨a1, c1, ob1, rfl, hO1, hg1, hw26⟩; have hG28 := Ge.fresh hE24 hg1; have hE29 := hE24.then hw26; refine aN (aD (bB (aA (aE (aE (aB (aG (aD (aA (cA (aE (aE (aB (aC rfl (bE rfl rfl) ?_)))))))))))))); refine aN (aD (aA (bI rfl (fun hc20 => ?_) (fun hc20 => ?_))))
   ·skip
    exfalso; omega
   refine aE (aB (aC rfl (bE rfl rfl) ?_)); refine aN (aD (aA (bI rfl (fun hc20 => ?_) (fun hc20 => ?_))))
   ·skip
    refine aW (aA (bI rfl (fun hc20 => ?_) (fun hc20 => ?_)))
    ·skip
     refine aB (aG ?_); refine aM (vs := [_]) kG rfl (lT (l := [(9, 10), (12, 13), (32, 32)]) hO1 (iR (by kernel_rfl)) (by decide) (fun c => Iff.rfl)) rfl ?_; rintro rv w31 hR; have hV9 := hE29; have hw32 := hR.evo; have hE33 := hE29.then hw32; refine aN (aD (bB (aA (aE (aB (aG (aN (aN (aD (aA (aP (dA rfl rfl rfl ?_))))))))))))
     obtain rfl : c = 83 := by omega
     exact ⟨.inr ⟨_, _, rfl, rfl, qM (hR.set hV9) (by decide)⟩, hE33⟩
    exfalso; omega
   refine aB (aC rfl (bE rfl rfl) ?_); refine aN (aD (aA (bI rfl (fun hc20 => ?_) (fun hc20 => ?_))))
   ·skip
    exfalso; omega
   refine aE (aE (aB (aC rfl (bE rfl rfl) ?_))); refine aN (aD (aA (bI rfl (fun hc26 => ?_) (fun hc26 => ?_))))
   ·skip
    exfalso; omega
   refine aE (aB (aC rfl (bE rfl rfl) ?_)); refine aN (aD (aA (bI rfl (fun hc26 => ?_) (fun hc26 => ?_))))
   ·skip
    refine aW (aA (bI rfl (fun hc26 => ?_) (fun hc26 => ?_)))
    ·skip
     refine aW (bB (aA (aE (aB (aG (aN (aN (aD (aA (aP (dA rfl rfl rfl ?_)))))))))))
     obtain rfl : c = 115 := by omega
     exact ⟨.inr ⟨_, _, rfl, rfl, _, _, _, [(9, 10), (12, 13), (32, 32)], rfl, hO1, hG28, iR (by kernel_rfl), fun c => Iff.rfl, by decide⟩, hE29⟩
    exfalso; omega
   exfalso; omega
  refine aE (aB (aC rfl (bE rfl rfl) ?_)); refine aN (aD (aA (bI rfl (fun hc15 => ?_) (fun hc15 => ?_))))
  ·skip
   have hcs := hor.1.2.2 (by omega); refine aB (bO (vs := [_, _, _, _, _, _, _, _]) rfl cB rfl rfl rfl rfl fun b35 w36 hO37 hs38 hw39 => ?_); have hE41 := (Evo.refl [] w).then hw39; refine aM (vs := [_]) cC rfl (dP (es := [48, 57, 65, 90, 95, 95, 97, 122]) hO37 (by decide)) rfl ?_; rintro _ w42 ⟨a1, c1, ob1, rfl, hO1, hg1, hw43⟩; have hG45 := Ge.fresh hE41 hg1; have hE46 := hE41.then hw43; refine aN (aD (bB (aA (aE (aE (aB (aG (aD (aA (cA (aE (aE (aB (aC rfl (bE rfl rfl) ?_)))))))))))))); refine aN (aD (aA (bI rfl (fun hc20 => ?_) (fun hc20 => ?_))))
   ·skip
    exfalso; omega
   refine aE (aB (aC rfl (bE rfl rfl) ?_)); refine aN (aD (aA (bI rfl (fun hc20 => ?_) (fun hc20 => ?_))))
   ·skip
    exfalso; omega
   refine aB (aC rfl (bE rfl rfl) ?_); refine aN (aD (aA (bI rfl (fun hc20 => ?_) (fun hc20 => ?_))))
   ·skip
    refine aB (aG ?_); refine aM (vs := [_]) kG rfl (lT (l := [(48, 57), (65, 90), (95, 95), (97, 122)]) hO1 (iR (by kernel_rfl)) (by decide) (fun c => Iff.rfl)) rfl ?_; rintro rv w48 hR; have hV9 := hE46; have hw49 := hR.evo; have hE50 := hE46.then hw49; refine aN (aD (bB (aA (aE (aB (aG (aN (aN (aD (aA (aP (dA rfl rfl rfl ?_))))))))))))
    obtain rfl : c = 87 := by omega
    exact ⟨.inr ⟨_, _, rfl, rfl, qM (hR.set hV9) (by decide)⟩, hE50⟩
   refine aE (aE (aB (aC rfl (bE rfl rfl) ?_))); refine aN (aD (aA (bI rfl (fun hc26 => ?_) (fun hc26 => ?_))))
   ·skip
    exfalso; omega
   refine aE (aB (aC rfl (bE rfl rfl) ?_)); refine aN (aD (aA (bI rfl (fun hc26 => ?_) (fun hc26 => ?_))))
   ·skip
    exfalso; omega
   refine aB (aC rfl (bE rfl rfl) ?_); refine aN (aD (aA (bI rfl (fun hc26 => ?_) (fun hc26 => ?_))))
   ·skip
    refine aW (bB (aA (aE (aB (aG (aN (aN (aD (aA (aP (dA rfl rfl rfl ?_)))))))))))
    obtain rfl : c = 119 := by omega
    exact ⟨.inr ⟨_, _, rfl, rfl, _, _, _, [(48, 57), (65, 90), (95, 95), (97, 122)], rfl, hO1, hG45, iR (by kernel_rfl), fun c => Iff.rfl, by decide⟩, hE46⟩
   exfalso; omega
  refine aE (aB (aN (aN (aD (aA (aP (aZ (aQ (dA rfl rfl rfl ?_)))))))))
  exact ⟨.inl ⟨tH (by have := hor.2; omega), rfl⟩, (Evo.refl [] w)⟩
end Go.Proofs.YtljadkcojnlioaaGreatDoor
namespace Go.Proofs.YtljadkcojnlioaaGreatDoor
open Go.Proofs
open Go.W Go.RowKit
attribute [local irreducible] Decidable.decide
theorem pJ : fY Tryz.prog 62 0 = some 0 := by kernel_rfl
theorem eH : fY Tryz.prog 64 2 = some 2 := by kernel_rfl
theorem iD : eV Tryz.prog 113 := ⟨_, Tryz.func113, by kernel_rfl, by kernel_rfl⟩
theorem sQ : eV Tryz.prog 130 := ⟨_, Tryz.func130, by kernel_rfl, by kernel_rfl⟩
theorem nam0 {n : ByteArray} (h : n = asc [97, 108, 110, 117, 109]) : jI n = some (rs [(48, 57), (65, 90), (97, 122)]) := by unfold jI; rw [if_pos h]
theorem nam1 {n : ByteArray} (h0 : ¬ n = asc [97, 108, 110, 117, 109]) (h : n = asc [97, 108, 112, 104, 97]) : jI n = some (rs [(65, 90), (97, 122)]) := by unfold jI; rw [if_neg h0, if_pos h]
theorem nam2 {n : ByteArray} (h0 : ¬ n = asc [97, 108, 110, 117, 109]) (h1 : ¬ n = asc [97, 108, 112, 104, 97]) (h : n = asc [97, 115, 99, 105, 105]) : jI n = some (rs [(0, 127)]) := by unfold jI; rw [if_neg h0, if_neg h1, if_pos h]
theorem nam3 {n : ByteArray} (h0 : ¬ n = asc [97, 108, 110, 117, 109]) (h1 : ¬ n = asc [97, 108, 112, 104, 97]) (h2 : ¬ n = asc [97, 115, 99, 105, 105]) (h : n = asc [98, 108, 97, 110, 107]) : jI n = some (rs [(9, 9), (32, 32)]) := by unfold jI; rw [if_neg h0, if_neg h1, if_neg h2, if_pos h]
theorem nam4 {n : ByteArray} (h0 : ¬ n = asc [97, 108, 110, 117, 109]) (h1 : ¬ n = asc [97, 108, 112, 104, 97]) (h2 : ¬ n = asc [97, 115, 99, 105, 105]) (h3 : ¬ n = asc [98, 108, 97, 110, 107]) (h : n = asc [99, 110, 116, 114, 108]) : jI n = some (rs [(0, 31), (127, 127)]) := by unfold jI; rw [if_neg h0, if_neg h1, if_neg h2, if_neg h3, if_pos h]
theorem nam5 {n : ByteArray} (h0 : ¬ n = asc [97, 108, 110, 117, 109]) (h1 : ¬ n = asc [97, 108, 112, 104, 97]) (h2 : ¬ n = asc [97, 115, 99, 105, 105]) (h3 : ¬ n = asc [98, 108, 97, 110, 107]) (h4 : ¬ n = asc [99, 110, 116, 114, 108]) (h : n = asc [100, 105, 103, 105, 116]) : jI n = some (rs [(48, 57)]) := by unfold jI; rw [if_neg h0, if_neg h1, if_neg h2, if_neg h3, if_neg h4, if_pos h]
theorem nam6 {n : ByteArray} (h0 : ¬ n = asc [97, 108, 110, 117, 109]) (h1 : ¬ n = asc [97, 108, 112, 104, 97]) (h2 : ¬ n = asc [97, 115, 99, 105, 105]) (h3 : ¬ n = asc [98, 108, 97, 110, 107]) (h4 : ¬ n = asc [99, 110, 116, 114, 108]) (h5 : ¬ n = asc [100, 105, 103, 105, 116]) (h : n = asc [103, 114, 97, 112, 104]) : jI n = some (rs [(33, 126)]) := by unfold jI; rw [if_neg h0, if_neg h1, if_neg h2, if_neg h3, if_neg h4, if_neg h5, if_pos h]
theorem nam7 {n : ByteArray} (h0 : ¬ n = asc [97, 108, 110, 117, 109]) (h1 : ¬ n = asc [97, 108, 112, 104, 97]) (h2 : ¬ n = asc [97, 115, 99, 105, 105]) (h3 : ¬ n = asc [98, 108, 97, 110, 107]) (h4 : ¬ n = asc [99, 110, 116, 114, 108]) (h5 : ¬ n = asc [100, 105, 103, 105, 116]) (h6 : ¬ n = asc [103, 114, 97, 112, 104]) (h : n = asc [108, 111, 119, 101, 114]) : jI n = some (rs [(97, 122)]) := by unfold jI; rw [if_neg h0, if_neg h1, if_neg h2, if_neg h3, if_neg h4, if_neg h5, if_neg h6, if_pos h]
theorem nam8 {n : ByteArray} (h0 : ¬ n = asc [97, 108, 110, 117, 109]) (h1 : ¬ n = asc [97, 108, 112, 104, 97]) (h2 : ¬ n = asc [97, 115, 99, 105, 105]) (h3 : ¬ n = asc [98, 108, 97, 110, 107]) (h4 : ¬ n = asc [99, 110, 116, 114, 108]) (h5 : ¬ n = asc [100, 105, 103, 105, 116]) (h6 : ¬ n = asc [103, 114, 97, 112, 104]) (h7 : ¬ n = asc [108, 111, 119, 101, 114]) (h : n = asc [112, 114, 105, 110, 116]) : jI n = some (rs [(32, 126)]) := by unfold jI; rw [if_neg h0, if_neg h1, if_neg h2, if_neg h3, if_neg h4, if_neg h5, if_neg h6, if_neg h7, if_pos h]
theorem nam9 {n : ByteArray} (h0 : ¬ n = asc [97, 108, 110, 117, 109]) (h1 : ¬ n = asc [97, 108, 112, 104, 97]) (h2 : ¬ n = asc [97, 115, 99, 105, 105]) (h3 : ¬ n = asc [98, 108, 97, 110, 107]) (h4 : ¬ n = asc [99, 110, 116, 114, 108]) (h5 : ¬ n = asc [100, 105, 103, 105, 116]) (h6 : ¬ n = asc [103, 114, 97, 112, 104]) (h7 : ¬ n = asc [108, 111, 119, 101, 114]) (h8 : ¬ n = asc [112, 114, 105, 110, 116]) (h : n = asc [112, 117, 110, 99, 116]) : jI n = some (rs [(33, 47), (58, 64), (91, 96), (123, 126)]) := by unfold jI; rw [if_neg h0, if_neg h1, if_neg h2, if_neg h3, if_neg h4, if_neg h5, if_neg h6, if_neg h7, if_neg h8, if_pos h]
theorem nam10 {n : ByteArray} (h0 : ¬ n = asc [97, 108, 110, 117, 109]) (h1 : ¬ n = asc [97, 108, 112, 104, 97]) (h2 : ¬ n = asc [97, 115, 99, 105, 105]) (h3 : ¬ n = asc [98, 108, 97, 110, 107]) (h4 : ¬ n = asc [99, 110, 116, 114, 108]) (h5 : ¬ n = asc [100, 105, 103, 105, 116]) (h6 : ¬ n = asc [103, 114, 97, 112, 104]) (h7 : ¬ n = asc [108, 111, 119, 101, 114]) (h8 : ¬ n = asc [112, 114, 105, 110, 116]) (h9 : ¬ n = asc [112, 117, 110, 99, 116]) (h : n = asc [115, 112, 97, 99, 101]) : jI n = some (rs [(9, 13), (32, 32)]) := by unfold jI; rw [if_neg h0, if_neg h1, if_neg h2, if_neg h3, if_neg h4, if_neg h5, if_neg h6, if_neg h7, if_neg h8, if_neg h9, if_pos h]
theorem nam11 {n : ByteArray} (h0 : ¬ n = asc [97, 108, 110, 117, 109]) (h1 : ¬ n = asc [97, 108, 112, 104, 97]) (h2 : ¬ n = asc [97, 115, 99, 105, 105]) (h3 : ¬ n = asc [98, 108, 97, 110, 107]) (h4 : ¬ n = asc [99, 110, 116, 114, 108]) (h5 : ¬ n = asc [100, 105, 103, 105, 116]) (h6 : ¬ n = asc [103, 114, 97, 112, 104]) (h7 : ¬ n = asc [108, 111, 119, 101, 114]) (h8 : ¬ n = asc [112, 114, 105, 110, 116]) (h9 : ¬ n = asc [112, 117, 110, 99, 116]) (h10 : ¬ n = asc [115, 112, 97, 99, 101]) (h : n = asc [117, 112, 112, 101, 114]) : jI n = some (rs [(65, 90)]) := by unfold jI; rw [if_neg h0, if_neg h1, if_neg h2, if_neg h3, if_neg h4, if_neg h5, if_neg h6, if_neg h7, if_neg h8, if_neg h9, if_neg h10, if_pos h]
theorem nam12 {n : ByteArray} (h0 : ¬ n = asc [97, 108, 110, 117, 109]) (h1 : ¬ n = asc [97, 108, 112, 104, 97]) (h2 : ¬ n = asc [97, 115, 99, 105, 105]) (h3 : ¬ n = asc [98, 108, 97, 110, 107]) (h4 : ¬ n = asc [99, 110, 116, 114, 108]) (h5 : ¬ n = asc [100, 105, 103, 105, 116]) (h6 : ¬ n = asc [103, 114, 97, 112, 104]) (h7 : ¬ n = asc [108, 111, 119, 101, 114]) (h8 : ¬ n = asc [112, 114, 105, 110, 116]) (h9 : ¬ n = asc [112, 117, 110, 99, 116]) (h10 : ¬ n = asc [115, 112, 97, 99, 101]) (h11 : ¬ n = asc [117, 112, 112, 101, 114]) (h : n = asc [119, 111, 114, 100]) : jI n = some (rs [(48, 57), (65, 90), (95, 95), (97, 122)]) := by unfold jI; rw [if_neg h0, if_neg h1, if_neg h2, if_neg h3, if_neg h4, if_neg h5, if_neg h6, if_neg h7, if_neg h8, if_neg h9, if_neg h10, if_neg h11, if_pos h]
theorem nam13 {n : ByteArray} (h0 : ¬ n = asc [97, 108, 110, 117, 109]) (h1 : ¬ n = asc [97, 108, 112, 104, 97]) (h2 : ¬ n = asc [97, 115, 99, 105, 105]) (h3 : ¬ n = asc [98, 108, 97, 110, 107]) (h4 : ¬ n = asc [99, 110, 116, 114, 108]) (h5 : ¬ n = asc [100, 105, 103, 105, 116]) (h6 : ¬ n = asc [103, 114, 97, 112, 104]) (h7 : ¬ n = asc [108, 111, 119, 101, 114]) (h8 : ¬ n = asc [112, 114, 105, 110, 116]) (h9 : ¬ n = asc [112, 117, 110, 99, 116]) (h10 : ¬ n = asc [115, 112, 97, 99, 101]) (h11 : ¬ n = asc [117, 112, 112, 101, 114]) (h12 : ¬ n = asc [119, 111, 114, 100]) (h : n = asc [120, 100, 105, 103, 105, 116]) : jI n = some (rs [(48, 57), (65, 70), (97, 102)]) := by unfold jI; rw [if_neg h0, if_neg h1, if_neg h2, if_neg h3, if_neg h4, if_neg h5, if_neg h6, if_neg h7, if_neg h8, if_neg h9, if_neg h10, if_neg h11, if_neg h12, if_pos h]
theorem namN {n : ByteArray} (h0 : ¬ n = asc [97, 108, 110, 117, 109]) (h1 : ¬ n = asc [97, 108, 112, 104, 97]) (h2 : ¬ n = asc [97, 115, 99, 105, 105]) (h3 : ¬ n = asc [98, 108, 97, 110, 107]) (h4 : ¬ n = asc [99, 110, 116, 114, 108]) (h5 : ¬ n = asc [100, 105, 103, 105, 116]) (h6 : ¬ n = asc [103, 114, 97, 112, 104]) (h7 : ¬ n = asc [108, 111, 119, 101, 114]) (h8 : ¬ n = asc [112, 114, 105, 110, 116]) (h9 : ¬ n = asc [112, 117, 110, 99, 116]) (h10 : ¬ n = asc [115, 112, 97, 99, 101]) (h11 : ¬ n = asc [117, 112, 112, 101, 114]) (h12 : ¬ n = asc [119, 111, 114, 100]) (h13 : ¬ n = asc [120, 100, 105, 103, 105, 116])  : jI n = none := by unfold jI; rw [if_neg h0, if_neg h1, if_neg h2, if_neg h3, if_neg h4, if_neg h5, if_neg h6, if_neg h7, if_neg h8, if_neg h9, if_neg h10, if_neg h11, if_neg h12, if_neg h13]
theorem LU {w : World} (n : ByteArray) :
    Calls Tryz.prog 146 #[.string n] w (Ret fun v w' => LetOut w w' v (jI n) ∧ Evo [] w w') := by
  refine bP (N := 61) Tryz.func146 rfl rfl rfl ?_; refine aE (aB (aN (aN (aD (aA (aE (aE (aB (aG (aD (aA (cA (aE (aB (aC rfl (gH rfl rfl) ?_))))))))))))))); refine aN (aD (aA (bI rfl (fun hc5 => ?_) (fun hc5 => ?_))))
  ·skip
   refine aE (aB (bO (vs := [_, _, _, _, _, _]) rfl cB rfl rfl rfl rfl fun b1 w2 hO3 hs4 hw5 => ?_)); have hE7 := (Evo.refl [] w).then hw5; refine aM (vs := [_]) cC rfl (dP (es := [48, 57, 65, 90, 97, 122]) hO3 (by decide)) rfl ?_; rintro _ w8 ⟨a1, c1, ob1, rfl, hO1, hg1, hw9⟩; have hG11 := Ge.fresh hE7 hg1; have hE12 := hE7.then hw9; refine aN (aN (aD (aA (aP (aZ (aQ (dA rfl rfl rfl ?_))))))); exact ⟨.inr ⟨_, _, nam0  hc5, rfl, _, _, _, [(48, 57), (65, 90), (97, 122)], rfl, hO1, hG11, iR (by kernel_rfl), fun c => Iff.rfl, by decide⟩, hE12⟩
  refine aE (aB (aC rfl (gH rfl rfl) ?_)); refine aN (aD (aA (bI rfl (fun hc9 => ?_) (fun hc9 => ?_))))
  ·skip
   refine aE (aB (bO (vs := [_, _, _, _]) rfl cB rfl rfl rfl rfl fun b14 w15 hO16 hs17 hw18 => ?_)); have hE20 := (Evo.refl [] w).then hw18; refine aM (vs := [_]) cC rfl (dP (es := [65, 90, 97, 122]) hO16 (by decide)) rfl ?_; rintro _ w21 ⟨a1, c1, ob1, rfl, hO1, hg1, hw22⟩; have hG24 := Ge.fresh hE20 hg1; have hE25 := hE20.then hw22; refine aN (aN (aD (aA (aP (aZ (aQ (dA rfl rfl rfl ?_))))))); exact ⟨.inr ⟨_, _, nam1 hc5 hc9, rfl, _, _, _, [(65, 90), (97, 122)], rfl, hO1, hG24, iR (by kernel_rfl), fun c => Iff.rfl, by decide⟩, hE25⟩
  refine aE (aB (aC rfl (gH rfl rfl) ?_)); refine aN (aD (aA (bI rfl (fun hc13 => ?_) (fun hc13 => ?_))))
  ·skip
   refine aE (aB (bO (vs := [_, _]) rfl cB rfl rfl rfl rfl fun b27 w28 hO29 hs30 hw31 => ?_)); have hE33 := (Evo.refl [] w).then hw31; refine aM (vs := [_]) cC rfl (dP (es := [0, 127]) hO29 (by decide)) rfl ?_; rintro _ w34 ⟨a1, c1, ob1, rfl, hO1, hg1, hw35⟩; have hG37 := Ge.fresh hE33 hg1; have hE38 := hE33.then hw35; refine aN (aN (aD (aA (aP (aZ (aQ (dA rfl rfl rfl ?_))))))); exact ⟨.inr ⟨_, _, nam2 hc5 hc9 hc13, rfl, _, _, _, [(0, 127)], rfl, hO1, hG37, iR (by kernel_rfl), fun c => Iff.rfl, by decide⟩, hE38⟩
  refine aE (aB (aC rfl (gH rfl rfl) ?_)); refine aN (aD (aA (bI rfl (fun hc17 => ?_) (fun hc17 => ?_))))
  ·skip
   refine aE (aB (bO (vs := [_, _, _, _]) rfl cB rfl rfl rfl rfl fun b40 w41 hO42 hs43 hw44 => ?_)); have hE46 := (Evo.refl [] w).then hw44; refine aM (vs := [_]) cC rfl (dP (es := [9, 9, 32, 32]) hO42 (by decide)) rfl ?_; rintro _ w47 ⟨a1, c1, ob1, rfl, hO1, hg1, hw48⟩; have hG50 := Ge.fresh hE46 hg1; have hE51 := hE46.then hw48; refine aN (aN (aD (aA (aP (aZ (aQ (dA rfl rfl rfl ?_))))))); exact ⟨.inr ⟨_, _, nam3 hc5 hc9 hc13 hc17, rfl, _, _, _, [(9, 9), (32, 32)], rfl, hO1, hG50, iR (by kernel_rfl), fun c => Iff.rfl, by decide⟩, hE51⟩
  refine aE (aB (aC rfl (gH rfl rfl) ?_)); refine aN (aD (aA (bI rfl (fun hc21 => ?_) (fun hc21 => ?_))))
  ·skip
   refine aE (aB (bO (vs := [_, _, _, _]) rfl cB rfl rfl rfl rfl fun b53 w54 hO55 hs56 hw57 => ?_)); have hE59 := (Evo.refl [] w).then hw57; refine aM (vs := [_]) cC rfl (dP (es := [0, 31, 127, 127]) hO55 (by decide)) rfl ?_; rintro _ w60 ⟨a1, c1, ob1, rfl, hO1, hg1, hw61⟩; have hG63 := Ge.fresh hE59 hg1; have hE64 := hE59.then hw61; refine aN (aN (aD (aA (aP (aZ (aQ (dA rfl rfl rfl ?_))))))); exact ⟨.inr ⟨_, _, nam4 hc5 hc9 hc13 hc17 hc21, rfl, _, _, _, [(0, 31), (127, 127)], rfl, hO1, hG63, iR (by kernel_rfl), fun c => Iff.rfl, by decide⟩, hE64⟩
  refine aE (aB (aC rfl (gH rfl rfl) ?_)); refine aN (aD (aA (bI rfl (fun hc25 => ?_) (fun hc25 => ?_))))
  ·skip
   refine aE (aB (bO (vs := [_, _]) rfl cB rfl rfl rfl rfl fun b66 w67 hO68 hs69 hw70 => ?_)); have hE72 := (Evo.refl [] w).then hw70; refine aM (vs := [_]) cC rfl (dP (es := [48, 57]) hO68 (by decide)) rfl ?_; rintro _ w73 ⟨a1, c1, ob1, rfl, hO1, hg1, hw74⟩; have hG76 := Ge.fresh hE72 hg1; have hE77 := hE72.then hw74; refine aN (aN (aD (aA (aP (aZ (aQ (dA rfl rfl rfl ?_))))))); exact ⟨.inr ⟨_, _, nam5 hc5 hc9 hc13 hc17 hc21 hc25, rfl, _, _, _, [(48, 57)], rfl, hO1, hG76, iR (by kernel_rfl), fun c => Iff.rfl, by decide⟩, hE77⟩
  refine aE (aB (aC rfl (gH rfl rfl) ?_)); refine aN (aD (aA (bI rfl (fun hc29 => ?_) (fun hc29 => ?_))))
  ·skip
   refine aE (aB (bO (vs := [_, _]) rfl cB rfl rfl rfl rfl fun b79 w80 hO81 hs82 hw83 => ?_)); have hE85 := (Evo.refl [] w).then hw83; refine aM (vs := [_]) cC rfl (dP (es := [33, 126]) hO81 (by decide)) rfl ?_; rintro _ w86 ⟨a1, c1, ob1, rfl, hO1, hg1, hw87⟩; have hG89 := Ge.fresh hE85 hg1; have hE90 := hE85.then hw87; refine aN (aN (aD (aA (aP (aZ (aQ (dA rfl rfl rfl ?_))))))); exact ⟨.inr ⟨_, _, nam6 hc5 hc9 hc13 hc17 hc21 hc25 hc29, rfl, _, _, _, [(33, 126)], rfl, hO1, hG89, iR (by kernel_rfl), fun c => Iff.rfl, by decide⟩, hE90⟩
  refine aE (aB (aC rfl (gH rfl rfl) ?_)); refine aN (aD (aA (bI rfl (fun hc33 => ?_) (fun hc33 => ?_))))
  ·skip
   refine aE (aB (bO (vs := [_, _]) rfl cB rfl rfl rfl rfl fun b92 w93 hO94 hs95 hw96 => ?_)); have hE98 := (Evo.refl [] w).then hw96; refine aM (vs := [_]) cC rfl (dP (es := [97, 122]) hO94 (by decide)) rfl ?_; rintro _ w99 ⟨a1, c1, ob1, rfl, hO1, hg1, hw100⟩; have hG102 := Ge.fresh hE98 hg1; have hE103 := hE98.then hw100; refine aN (aN (aD (aA (aP (aZ (aQ (dA rfl rfl rfl ?_))))))); exact ⟨.inr ⟨_, _, nam7 hc5 hc9 hc13 hc17 hc21 hc25 hc29 hc33, rfl, _, _, _, [(97, 122)], rfl, hO1, hG102, iR (by kernel_rfl), fun c => Iff.rfl, by decide⟩, hE103⟩
  refine aE (aB (aC rfl (gH rfl rfl) ?_)); refine aN (aD (aA (bI rfl (fun hc37 => ?_) (fun hc37 => ?_))))
  ·skip
   refine aE (aB (bO (vs := [_, _]) rfl cB rfl rfl rfl rfl fun b105 w106 hO107 hs108 hw109 => ?_)); have hE111 := (Evo.refl [] w).then hw109; refine aM (vs := [_]) cC rfl (dP (es := [32, 126]) hO107 (by decide)) rfl ?_; rintro _ w112 ⟨a1, c1, ob1, rfl, hO1, hg1, hw113⟩; have hG115 := Ge.fresh hE111 hg1; have hE116 := hE111.then hw113; refine aN (aN (aD (aA (aP (aZ (aQ (dA rfl rfl rfl ?_))))))); exact ⟨.inr ⟨_, _, nam8 hc5 hc9 hc13 hc17 hc21 hc25 hc29 hc33 hc37, rfl, _, _, _, [(32, 126)], rfl, hO1, hG115, iR (by kernel_rfl), fun c => Iff.rfl, by decide⟩, hE116⟩
  refine aE (aB (aC rfl (gH rfl rfl) ?_)); refine aN (aD (aA (bI rfl (fun hc41 => ?_) (fun hc41 => ?_))))
  ·skip
   refine aE (aB (bO (vs := [_, _, _, _, _, _, _, _]) rfl cB rfl rfl rfl rfl fun b118 w119 hO120 hs121 hw122 => ?_)); have hE124 := (Evo.refl [] w).then hw122; refine aM (vs := [_]) cC rfl (dP (es := [33, 47, 58, 64, 91, 96, 123, 126]) hO120 (by decide)) rfl ?_; rintro _ w125 ⟨a1, c1, ob1, rfl, hO1, hg1, hw126⟩; have hG128 := Ge.fresh hE124 hg1; have hE129 := hE124.then hw126; refine aN (aN (aD (aA (aP (aZ (aQ (dA rfl rfl rfl ?_))))))); exact ⟨.inr ⟨_, _, nam9 hc5 hc9 hc13 hc17 hc21 hc25 hc29 hc33 hc37 hc41, rfl, _, _, _, [(33, 47), (58, 64), (91, 96), (123, 126)], rfl, hO1, hG128, iR (by kernel_rfl), fun c => Iff.rfl, by decide⟩, hE129⟩
  refine aE (aB (aC rfl (gH rfl rfl) ?_)); refine aN (aD (aA (bI rfl (fun hc45 => ?_) (fun hc45 => ?_))))
  ·skip
   refine aE (aB (bO (vs := [_, _, _, _]) rfl cB rfl rfl rfl rfl fun b131 w132 hO133 hs134 hw135 => ?_)); have hE137 := (Evo.refl [] w).then hw135; refine aM (vs := [_]) cC rfl (dP (es := [9, 13, 32, 32]) hO133 (by decide)) rfl ?_; rintro _ w138 ⟨a1, c1, ob1, rfl, hO1, hg1, hw139⟩; have hG141 := Ge.fresh hE137 hg1; have hE142 := hE137.then hw139; refine aN (aN (aD (aA (aP (aZ (aQ (dA rfl rfl rfl ?_))))))); exact ⟨.inr ⟨_, _, nam10 hc5 hc9 hc13 hc17 hc21 hc25 hc29 hc33 hc37 hc41 hc45, rfl, _, _, _, [(9, 13), (32, 32)], rfl, hO1, hG141, iR (by kernel_rfl), fun c => Iff.rfl, by decide⟩, hE142⟩
  refine aE (aB (aC rfl (gH rfl rfl) ?_)); refine aN (aD (aA (bI rfl (fun hc49 => ?_) (fun hc49 => ?_))))
  ·skip
   refine aE (aB (bO (vs := [_, _]) rfl cB rfl rfl rfl rfl fun b144 w145 hO146 hs147 hw148 => ?_)); have hE150 := (Evo.refl [] w).then hw148; refine aM (vs := [_]) cC rfl (dP (es := [65, 90]) hO146 (by decide)) rfl ?_; rintro _ w151 ⟨a1, c1, ob1, rfl, hO1, hg1, hw152⟩; have hG154 := Ge.fresh hE150 hg1; have hE155 := hE150.then hw152; refine aN (aN (aD (aA (aP (aZ (aQ (dA rfl rfl rfl ?_))))))); exact ⟨.inr ⟨_, _, nam11 hc5 hc9 hc13 hc17 hc21 hc25 hc29 hc33 hc37 hc41 hc45 hc49, rfl, _, _, _, [(65, 90)], rfl, hO1, hG154, iR (by kernel_rfl), fun c => Iff.rfl, by decide⟩, hE155⟩
  refine aE (aB (aC rfl (gH rfl rfl) ?_)); refine aN (aD (aA (bI rfl (fun hc53 => ?_) (fun hc53 => ?_))))
  ·skip
   refine aE (aB (bO (vs := [_, _, _, _, _, _, _, _]) rfl cB rfl rfl rfl rfl fun b157 w158 hO159 hs160 hw161 => ?_)); have hE163 := (Evo.refl [] w).then hw161; refine aM (vs := [_]) cC rfl (dP (es := [48, 57, 65, 90, 95, 95, 97, 122]) hO159 (by decide)) rfl ?_; rintro _ w164 ⟨a1, c1, ob1, rfl, hO1, hg1, hw165⟩; have hG167 := Ge.fresh hE163 hg1; have hE168 := hE163.then hw165; refine aN (aN (aD (aA (aP (aZ (aQ (dA rfl rfl rfl ?_))))))); exact ⟨.inr ⟨_, _, nam12 hc5 hc9 hc13 hc17 hc21 hc25 hc29 hc33 hc37 hc41 hc45 hc49 hc53, rfl, _, _, _, [(48, 57), (65, 90), (95, 95), (97, 122)], rfl, hO1, hG167, iR (by kernel_rfl), fun c => Iff.rfl, by decide⟩, hE168⟩
  refine aE (aB (aC rfl (gH rfl rfl) ?_)); refine aN (aD (aA (bI rfl (fun hc57 => ?_) (fun hc57 => ?_))))
  ·skip
   refine aE (aB (bO (vs := [_, _, _, _, _, _]) rfl cB rfl rfl rfl rfl fun b170 w171 hO172 hs173 hw174 => ?_)); have hE176 := (Evo.refl [] w).then hw174; refine aM (vs := [_]) cC rfl (dP (es := [48, 57, 65, 70, 97, 102]) hO172 (by decide)) rfl ?_; rintro _ w177 ⟨a1, c1, ob1, rfl, hO1, hg1, hw178⟩; have hG180 := Ge.fresh hE176 hg1; have hE181 := hE176.then hw178; refine aN (aN (aD (aA (aP (aZ (aQ (dA rfl rfl rfl ?_))))))); exact ⟨.inr ⟨_, _, nam13 hc5 hc9 hc13 hc17 hc21 hc25 hc29 hc33 hc37 hc41 hc45 hc49 hc53 hc57, rfl, _, _, _, [(48, 57), (65, 70), (97, 102)], rfl, hO1, hG180, iR (by kernel_rfl), fun c => Iff.rfl, by decide⟩, hE181⟩
  refine aW (bB (aA (aE (aB (aN (aN (aD (aA (aP (dA rfl rfl rfl ?_)))))))))); exact ⟨.inl ⟨namN hc5 hc9 hc13 hc17 hc21 hc25 hc29 hc33 hc37 hc41 hc45 hc49 hc53 hc57, rfl⟩, (Evo.refl [] w)⟩
theorem KG (c x : Int) : InR x [(c, c)] ↔ x = c := by rw [jY]; show c ≤ x ∧ x ≤ c ↔ _; omega
theorem zJ {w : World} {b : Nat} {s : ByteArray} {st : PS} {a : Option Addr} {c : Nat} {ob : Option Nat} (hR : RdAt w b s st a c ob) (r : Int) (h0 : 0 ≤ r) (h1 : r ≤ 1114111) :
    Calls Tryz.prog 116 #[.pointer (some ⟨b, 0, none⟩), .int .i32 r] w (Ret fun v w' => TOut w w' v (nQ st.now r) ∧ Evo [] w w') := by
  have hap := hR.ap
  have hvr : Vr [(r, r)] := fun g hg => by rw [List.mem_singleton.1 hg]; exact ⟨h0, Int.le_refl _, h1⟩
  refine bP (N := 19) Tryz.func116 rfl rfl rfl ?_; refine aE (aB (dB rfl dR fun b4 w1 hB2 hs3 hw4 => ?_)); have hsz_b4 := hs3; have hG7 := Ge.new (Evo.refl [] w) hs3; have hE8 := (Evo.refl [] w).then hw4; have hB9 := hw4.blk0 hR.blk; refine aD (aA (aE (aB (aG (aG (bO (vs := [_, _]) rfl cB rfl rfl rfl rfl fun b11 w12 hO13 hs14 hw15 => ?_)))))); have hE20 := hE8.then hw15; have hB21 := hw15.blk0 hB9; have hB23 := hw15.blk0 hB2; refine aM (vs := [_]) cC rfl (dP (es := [r, r]) hO13 (by simp)) rfl ?_; rintro _ w24 ⟨a1, c1, ob1, rfl, hO1, hg1, hw25⟩; have hE31 := hE20.then hw25; have hB32 := hw25.blk0 hB21; have hB34 := hw25.blk0 hB23; refine aN (aD (aA (aE (aE (aB (aG (aC rfl (aO rfl) (aC rfl (aF rfl eH) (aC rfl (aF rfl pJ) (aC rfl (aI rfl eA (aK hB32 rfl)) (aD (aA (gB rfl (fun hc14 => ?_) (fun hc14 => ?_))))))))))))))
  ·skip
   have hl9 : nQ st.now r = iL (kB fun x => x = r) := by unfold nQ; rw [if_pos hc14]
   refine aB (aG ?_); refine aM (vs := [_]) sQ rfl (yH (l := [(r, r)]) hO1 hvr (by simp) (KG r)) rfl ?_; rintro rv w36 ⟨a2, c2, ob2, rfl, hO2, hg2, hl2, hcan2, heq2, hw37⟩; have hE43 := hE31.then hw37; have hB46 := hw37.blk0 hB34; refine aN (aD (aA (aE (aB (aG ?_)))))
   refine aM (vs := [_]) iD rfl (mO hO2 (tN hcan2) (by have : ([(r, r)] : List (Int × Int)).length = 1 := rfl; omega) heq2) rfl ?_
   rintro rv w48 ⟨hT, hw49⟩; have hV9 := hE43; have hb49 := fM hB46; have hE50 := hE43.then hw49; have hB53 := hw49.blk0 hB46; obtain ⟨vs, bs, rfl, hOT, hFr⟩ := hT; obtain ⟨ra, rc, ka, kc, rfl⟩ := id hOT.nine; refine bK rfl rfl aY hB53 rfl rfl ⟨rfl, rfl, rfl, rfl, rfl, rfl, rfl, rfl, rfl, trivial⟩ fun w56 hB57 hw58 => ?_; have hE59 := hE50.step hw58 hG7.mem1; have hE60 := (Evo.refl ([b4]) w48).step hw58 (fun y hy => .inl hy)
   try simp only [cT, Nat.reduceAdd] at hB57
   refine aD (aA (aP (dD rfl (ResOk.cellA rfl bS aY hB57 rfl) ?_))); refine ⟨?_, hE59⟩; rw [hl9]; refine ⟨_, bs, rfl, hOT.evo hE60 (fun b hb h => ?_), hFr.older hV9.size⟩
   have := hFr.ge b hb; rw [List.mem_singleton.1 h] at this; omega
  have hl9 : nQ st.now r = iL (fun x => x = r) := by unfold nQ; rw [if_neg (by simp [hc14])]
  refine aW (aA (aE (aB (aG ?_)))); refine aM (vs := [_]) iD rfl (mO (l := [(r, r)]) hO1 hvr (by simp) (KG r)) rfl ?_; rintro rv w65 ⟨hT, hw66⟩; have hV9 := hE31; have hb49 := fM hB34; have hE67 := hE31.then hw66; have hB70 := hw66.blk0 hB34; obtain ⟨vs, bs, rfl, hOT, hFr⟩ := hT; obtain ⟨ra, rc, ka, kc, rfl⟩ := id hOT.nine; refine bK rfl rfl aY hB70 rfl rfl ⟨rfl, rfl, rfl, rfl, rfl, rfl, rfl, rfl, rfl, trivial⟩ fun w72 hB73 hw74 => ?_; have hE75 := hE67.step hw74 hG7.mem1; have hE76 := (Evo.refl ([b4]) w65).step hw74 (fun y hy => .inl hy)
  try simp only [cT, Nat.reduceAdd] at hB73
  refine aD (aA (aP (dD rfl (ResOk.cellA rfl bS aY hB73 rfl) ?_))); refine ⟨?_, hE75⟩; rw [hl9]; refine ⟨_, bs, rfl, hOT.evo hE76 (fun b hb h => ?_), hFr.older hV9.size⟩
  have := hFr.ge b hb; rw [List.mem_singleton.1 h] at this; omega
end Go.Proofs.YtljadkcojnlioaaGreatDoor
namespace Go.Proofs.YtljadkcojnlioaaGreatDoor
open Go.W Go.RowKit
theorem DK {c : Int} (h : IsR c) : Utf8.encode c = bstr (dW c) := by
  unfold IsR at h
  have hv : Utf8.valid c = true := by unfold Utf8.valid; simp; omega
  unfold Utf8.encode dW jC
  rw [if_pos (show IsR c from h)]
  simp only [hv, if_true]
  by_cases h1 : c.toNat < 128
  · simp only [if_pos h1]; rfl
  · simp only [if_neg h1]
    by_cases h2 : c.toNat < 2048
    · simp only [if_pos h2]; rfl
    · simp only [if_neg h2]
      by_cases h3 : c.toNat < 65536
      · simp only [if_pos h3]; rfl
      · simp only [if_neg h3]; rfl
theorem hit_isR {s : ByteArray} {a w : Nat} (hw : 1 ≤ w) (h : Hit s a w) : IsR (dY s a w) := by
  by_cases e : IsR (dY s a w)
  · exact e
  · have := zM h
    rw [dW, if_neg e] at this
    simp at this; omega
instance (s : ByteArray) (c : In) (i : Nat) : Decidable (OE s c i) := by unfold OE; infer_instance
end Go.Proofs.YtljadkcojnlioaaGreatDoor
namespace Go.Proofs.YtljadkcojnlioaaGreatDoor
open Go.Proofs
open Go.W
attribute [local irreducible] Decidable.decide
theorem uH : eV Tryz.prog 58 := ⟨_, Tryz.func58, by kernel_rfl, by kernel_rfl⟩
theorem sM : eV Tryz.prog 150 := ⟨_, Tryz.func150, by kernel_rfl, by kernel_rfl⟩
theorem yQ (l : List Nat) : (bstr l).size = l.length := by simp [bstr, ByteArray.size]
theorem BU {w : World} (r : Int) : Calls Tryz.prog 150 #[.int .i32 r] w (Ret fun v w' => v = .int .i64 (if r < 128 then 1 else if r < 2048 then 2 else if r < 65536 then 3 else 4) ∧ Evo [] w w') := by
  refine bP (N := 12) Tryz.func150 rfl rfl rfl ?_; refine aE (aB (aN (aD (aA (aE (cA (aE (aB (aG (aC rfl (dN rfl rfl) ?_)))))))))); refine aN (aD (aA (bI rfl (fun hc3 => ?_) (fun hc3 => ?_))))
  ·skip
   refine aE (aB (aN (aD (aA (aP (aZ (aQ (aJ rfl rfl ?_))))))))
   exact ⟨by congr 1; (repeat' split) <;> omega, (Evo.refl [] w)⟩
  refine aE (aB (aG (aC rfl (dN rfl rfl) ?_))); refine aN (aD (aA (bI rfl (fun hc6 => ?_) (fun hc6 => ?_))))
  ·skip
   refine aE (aB (aN (aD (aA (aP (aZ (aQ (aJ rfl rfl ?_))))))))
   exact ⟨by congr 1; (repeat' split) <;> omega, (Evo.refl [] w)⟩
  refine aE (aB (aG (aC rfl (dN rfl rfl) ?_))); refine aN (aD (aA (bI rfl (fun hc9 => ?_) (fun hc9 => ?_))))
  ·skip
   refine aE (aB (aN (aD (aA (aP (aZ (aQ (aJ rfl rfl ?_))))))))
   exact ⟨by congr 1; (repeat' split) <;> omega, (Evo.refl [] w)⟩
  refine aW (bB (aA (aE (aB (aN (aD (aA (aP (aJ rfl rfl ?_)))))))))
  exact ⟨by congr 1; (repeat' split) <;> omega, (Evo.refl [] w)⟩
theorem tY {w : World} (s : ByteArray) (a : Nat) (ha : a ≤ s.size) (hl : s.size ≤ 140737488355328) : Calls Tryz.prog 58 #[.string s, .int .i64 (a : Nat)] w (Ret fun v w' => v = .bool (decide (a + 3 ≤ s.size ∧ s.extract a (a + 3) = bstr [239, 191, 189])) ∧ Evo [] w w') := by
  refine bP (N := 18) Tryz.func58 rfl rfl rfl ?_; refine aE (aB (aN (aD (aA (aE (aB (aG ?_))))))); refine aC rfl (bF rfl rfl (by omega) (by omega)) ?_; refine aG (aC rfl (cQ rfl Tryz.underlying9 rfl) ?_); refine aC rfl (fL rfl rfl) ?_; refine aG (aX (t := 10) rfl (fun hs10 => ?_) (fun hs10 => ?_))
  ·skip
   refine aR (aG (aR (aG (aR (aG (aR ?_)))))); refine aC rfl (bF rfl rfl (by omega) (by omega)) ?_; refine aR ?_; refine aC rfl (zU (l := a) (h := a + 3) rfl rfl rfl Tryz.underlying9 rfl (by omega) (by omega) (by omega)) ?_; refine aR (aC rfl (gH rfl rfl) ?_); refine bL (aN (aD (aA (aP (aJ rfl rfl ?_))))); refine ⟨congrArg Value.bool (decide_eq_decide.2 ?_), (Evo.refl [] w)⟩; constructor
   · exact fun h => ⟨by omega, h⟩
   · exact fun h => h.2
  refine aH (aH (aH (aH (aH (aH (aU (aN (aD (aA (aP (aJ rfl rfl ?_))))))))))); exact ⟨congrArg Value.bool (decide_eq_false (by omega)).symm, (Evo.refl [] w)⟩
theorem yA {s : ByteArray} {a : Nat} (ha : a < s.size) (h : (Utf8.decode s a).1 = 65533) (hr : ¬ (a + 3 ≤ s.size ∧ s.extract a (a + 3) = bstr [239, 191, 189])) : cG s a = (-1, 0) := by
  have h1 := DM s a h ha
  have h2 := qA s a h ha
  unfold cG
  rw [if_neg]
  rintro ⟨_, h3⟩
  rcases h1 with h1 | h1
  · exact h3 ⟨h, h1⟩
  · exact hr (h2.1 h1)
theorem wA {s : ByteArray} {a : Nat} (ha : a < s.size) (h : ¬ (Utf8.decode s a).1 = 65533 ∨ (a + 3 ≤ s.size ∧ s.extract a (a + 3) = bstr [239, 191, 189])) :
    (cG s a).1 = ((Utf8.decode s a).1 : Nat) ∧ (((cG s a).2 : Nat) : Int) = if ((Utf8.decode s a).1 : Int) < 128 then 1 else if ((Utf8.decode s a).1 : Int) < 2048 then 2 else if ((Utf8.decode s a).1 : Int) < 65536 then 3 else 4 := by
  have hn : ¬ ((Utf8.decode s a).1 = 65533 ∧ (Utf8.decode s a).2 = 1) := fun ⟨h1, h2⟩ => by
    rcases h with h | h
    · exact h h1
    · rw [(qA s a h1 ha).2 h] at h2; cases h2
  have hw := AB s a ha hn
  unfold cG
  rw [if_pos ⟨ha, hn⟩]
  refine ⟨rfl, ?_⟩
  simp only
  rw [hw]
  repeat' split
  all_goals first | rfl | omega
theorem next_ok {w : World} (s : ByteArray) (a : Nat) (ha : a ≤ s.size) (hl : s.size ≤ 140737488355328) : Calls Tryz.prog 135 #[.string s, .int .i64 (a : Nat)] w (Ret fun v w' => v = .tuple #[.int .i32 (cG s a).1, .int .i64 ((cG s a).2 : Nat)] ∧ Evo [] w w') := by
  refine bP (N := 44) Tryz.func135 rfl rfl rfl ?_; refine aE (aB (aN (aN (aD (aA (aE (aE (aB (aG (aC rfl (dN rfl rfl) ?_)))))))))); refine aG (aX (t := 10) rfl (fun hs10 => ?_) (fun hs10 => ?_))
  ·skip
   refine aH (aH (aH (aH (bL (aD (aA (dC rfl ?_))))))); refine aE (aB (aN (aN (aD (aA (aP (aQ (dA rfl rfl rfl ?_))))))))
   exfalso; omega
  refine aR (aG (aR (aG (aR (aC rfl (cQ rfl Tryz.underlying9 rfl) ?_))))); refine aR (aC rfl (eZ rfl rfl) ?_); refine aU (aD (aA (bI rfl (fun hc15 => ?_) (fun hc15 => ?_))))
  ·skip
   refine aE (aB (aN (aN (aD (aA (aP (aQ (dA rfl rfl rfl ?_))))))))
   exact ⟨by rw [oM (by omega)]; rfl, (Evo.refl [] w)⟩
  refine aW (aA (aE (aE (aB ?_))))
  have hlt : a < s.size := by omega
  refine aG (aG (aG (aC rfl (cQ rfl Tryz.underlying9 rfl) ?_))); refine aG ?_; refine aC rfl (bF rfl rfl (by omega) (by omega)) ?_; refine aC rfl (zY rfl rfl) ?_
  refine aC rfl (zU (l := a) (h := min s.size (a + 4)) rfl rfl rfl Tryz.underlying9 rfl (by split <;> omega) (by omega) (by omega)) ?_
  refine xP rfl rfl Tryz.underlying9 fun b1 w2 hB3 hs4 hw5 => ?_; have hG6 := Ge.new (Evo.refl [] w) hs4; have hE7 := (Evo.refl [] w).then hw5; refine aD (aA (cA (fH (α := Nat) (0) (fun k => []) [(0, _), (1, _), (24, _)] (fun k wr => Evo [] w2 wr ∧ (True)) (fun k => 0) trivial ⟨rfl, rfl, rfl, trivial⟩ ⟨Evo.refl _ _, trivial⟩ ?_))); rintro k wr8 ⟨hV9, _⟩; show CW _ _ _ _ [(0, _), (1, _), (24, _)] _; have hE10 := hE7.then hV9; have hB11 := hV9.blk0 hB3; refine aE (aB ?_)
  refine BT rfl rfl hB11 (by simp; omega) fun w12 hB13 hw14 => ?_
  have hE15 := hE10.step hw14 hG6.mem1; have hcut := FV s a hlt; refine aC rfl (cL rfl rfl) ?_; refine aD (aA (aE (dC rfl ?_))); refine aW (aA (cA (aE (aB (aC rfl (cL rfl rfl) ?_))))); refine aC rfl (cL rfl rfl) ?_; refine aN (aN (aD (aA (aE (aE (aB (aG (aC rfl (gA rfl rfl) ?_)))))))); refine aG (aX (t := 31) rfl (fun hs31 => ?_) (fun hs31 => ?_))
  ·skip
   refine aH (aH (aH (fC ?_))); refine fC ?_; refine fC ?_; refine fC ?_; refine aH (bL (aD (aA (dC rfl ?_)))); refine eD (cO (zV rfl (cO (eC (aA ?_))))); refine aE (aB (aN (aN (aD (aA (aP (dA rfl rfl rfl ?_)))))))
   exfalso; omega
  refine aR (aG (aR (aC rfl (bE rfl rfl) ?_))); refine aR (aG (aX (t := 34) rfl (fun hs34 => ?_) (fun hs34 => ?_)))
  ·skip
   refine aR (aG (aR (aG (aR ?_)))); refine aM (vs := [_, _]) uH rfl (tY s a (by omega) hl) rfl ?_; rintro _ w17 ⟨rfl, hw18⟩; have hE19 := hE15.then hw18; refine aR (aC rfl (mL rfl) ?_); refine aR (bL (aU (aD (aA (bI rfl (fun hc40 => ?_) (fun hc40 => ?_))))))
   ·skip
    refine eD (cO (zV rfl (cO (eC (aA ?_))))); refine aE (aB (aN (aN (aD (aA (aP (dA rfl rfl rfl ?_))))))); rw [hcut] at hs34
    exact ⟨by rw [yA hlt (by omega) hc40]; rfl, hE19⟩
   refine aW (aA (aE (aB (aG (aG (aM (vs := [_]) sM rfl (BU _) rfl ?_)))))); rintro _ w21 ⟨rfl, hw22⟩; have hE23 := hE19.then hw22; refine aN (aN (aD (aA (aP (aZ (aQ (aZ (aQ (dA rfl rfl rfl ?_))))))))); rw [hcut] at hs34 ⊢; have hg := wA hlt (.inr (Decidable.not_not.1 hc40))
   exact ⟨by rw [hg.1, hg.2]; rfl, hE23⟩
  refine aH (aH (aH (aH (aR (aU (aU (aD (aA (cK rfl ?_))))))))); refine aW (aA (aE (aB (aG (aG (aM (vs := [_]) sM rfl (BU _) rfl ?_)))))); rintro _ w25 ⟨rfl, hw26⟩; have hE27 := hE15.then hw26; refine aN (aN (aD (aA (aP (aZ (aQ (aZ (aQ (dA rfl rfl rfl ?_))))))))); rw [hcut] at hs34 ⊢; have hg := wA hlt (.inl (by omega))
  exact ⟨by rw [hg.1, hg.2]; rfl, hE27⟩
end Go.Proofs.YtljadkcojnlioaaGreatDoor
namespace Go.Proofs.YtljadkcojnlioaaGreatDoor
open Go.Proofs
open Go.W Go.RowKit
attribute [local irreducible] Decidable.decide
theorem BD : eV Tryz.prog 135 := ⟨_, Tryz.func135, by kernel_rfl, by kernel_rfl⟩
theorem AX : eV Tryz.prog 149 := ⟨_, Tryz.func149, by kernel_rfl, by kernel_rfl⟩
theorem oC : eV Tryz.prog 41 := ⟨_, Tryz.func41, by kernel_rfl, by kernel_rfl⟩
def Bd (s : ByteArray) (i : Nat) : Prop := ∃ N k, Utf s N ∧ k ≤ N ∧ dO s k = i
theorem Bd.le {s : ByteArray} {i : Nat} (h : Bd s i) : i ≤ s.size := by obtain ⟨N, k, _, _, rfl⟩ := h; exact uZ s k
theorem Bd.zero {s : ByteArray} {N : Nat} (h : Utf s N) : Bd s 0 := ⟨N, 0, h, Nat.zero_le _, rfl⟩
theorem Bd.next {s : ByteArray} {i : Nat} (h : Bd s i) (hi : i < s.size) : 0 < (cG s i).2 ∧ i + (cG s i).2 ≤ s.size ∧ Bd s (i + (cG s i).2) ∧ 0 ≤ (cG s i).1 ∧ (cG s i).1 ≤ 1114111 := by
  obtain ⟨N, k, hU, hk, rfl⟩ := h
  have hkN : k < N := by
    rcases Nat.lt_or_ge k N with h | h
    · exact h
    · obtain rfl : k = N := by omega
      rw [hU.1] at hi; omega
  have h0 := hU.2 k hkN
  have h1 : Bd s (dO s k + (cG s (dO s k)).2) := ⟨N, k + 1, hU, hkN, rfl⟩
  rcases nK s (dO s k) with h2 | h2
  · rw [h2] at h0; cases h0
  · exact ⟨h0, h1.le, h1, h2.1, h2.2.1⟩
theorem Bd.asc {s : ByteArray} {i : Nat} (h : Bd s i) (hi : i < s.size) (hb : sb s i < 128) : Bd s (i + 1) ∧ (cG s i).1 = (sb s i : Int) ∧ (cG s i).2 = 1 := by
  obtain ⟨h0, h1, h2, h3, h4⟩ := h.next hi
  obtain ⟨h5, h6, h7, h8⟩ := IZ h0
  by_cases hc : (cG s i).1 < 128
  · obtain ⟨h9, h10⟩ := h6 hc
    rw [h9] at h2
    exact ⟨h2, h10.symm, h9⟩
  · have := h7 (by omega); omega
theorem isB.asc {s : ByteArray} {i b : Nat} (h : isB s i b) (hb : b < 128) (hd : Bd s i) : Bd s (i + 1) := (hd.asc h.1 (by rw [h.2]; exact hb)).1
theorem uU {w : World} {b : Nat} {s : ByteArray} {st : PS} {a : Option Addr} {c : Nat} {ob : Option Nat} (hR : RdAt w b s st a c ob) (hs : s.size ≤ 1000000) (hb : Bd s st.pos) :
    Calls Tryz.prog 112 #[.pointer (some ⟨b, 0, none⟩)] w (Ret fun v w' => v = .int .i32 (cG s st.pos).1 ∧ Evo [b] w w' ∧ RdAt w' b s (adv st (cG s st.pos).2) a c ob) := by
  have hap := hR.ap; have hle := hb.le
  have hnx : st.pos + (cG s st.pos).2 ≤ s.size + 4 := by rcases nK s st.pos with h | h; rw [h]; (show st.pos + 0 ≤ s.size + 4; omega); omega
  refine bP (N := 26) Tryz.func112 rfl rfl rfl ?_; refine aE (aB (aN (aD (aA (aE ?_))))); refine iN (fun w0 w' => Evo [] w0 w') (by kernel_rfl) (fun w1 hw2 => ?_); have hE3 := (Evo.refl [b] w).then hw2; have hB4 := hw2.blk0 hR.blk; have hO5 := hR.own.evo0 hw2; refine bC 0 rfl (by kernel_rfl) (by kernel_rfl) (by kernel_rfl) rfl (fun _ hS => bM rfl) (Evo.refl [] w1) ?_; refine bC 1 rfl (by kernel_rfl) (by kernel_rfl) (by kernel_rfl) rfl (fun _ hS => aO rfl) (Evo.refl [] w1) ?_; refine bC 2 rfl (by kernel_rfl) (by kernel_rfl) (by kernel_rfl) rfl (fun _ hS => aF rfl dE) (Evo.refl [] w1) ?_; refine bC 3 rfl (by kernel_rfl) (by kernel_rfl) (by kernel_rfl) rfl (fun _ hS => aI rfl cR (aK (hS.blk0 hB4) rfl)) (Evo.refl [] w1) ?_; refine bC 4 rfl (by kernel_rfl) (by kernel_rfl) (by kernel_rfl) rfl (fun _ hS => bM rfl) (Evo.refl [] w1) ?_; refine bC 5 rfl (by kernel_rfl) (by kernel_rfl) (by kernel_rfl) rfl (fun _ hS => aO rfl) (Evo.refl [] w1) ?_; refine bC 6 rfl (by kernel_rfl) (by kernel_rfl) (by kernel_rfl) rfl (fun _ hS => aF rfl bG) (Evo.refl [] w1) ?_; refine bC 7 rfl (by kernel_rfl) (by kernel_rfl) (by kernel_rfl) rfl (fun _ hS => aI rfl bD (aK (hS.blk0 hB4) rfl)) (Evo.refl [] w1) ?_; refine cJ [8] (by kernel_rfl) rfl ⟨?_, trivial⟩; refine cS rfl ?_; refine aM (vs := [_, _]) BD rfl (next_ok s st.pos hle (by omega)) rfl ?_; rintro _ w6 ⟨rfl, hw7⟩; have hE8 := hE3.then hw7; have hE9 := (Evo.refl [] w1).then hw7; have hB10 := hw7.blk0 hB4; have hO11 := hO5.evo0 hw7; refine aD (cF (.inl hE9) ?_)
  refine bC 9 rfl (by kernel_rfl) (by kernel_rfl) (by kernel_rfl) rfl (fun _ hS => bM rfl) hE9 ?_; refine bC 10 rfl (by kernel_rfl) (by kernel_rfl) (by kernel_rfl) rfl (fun _ hS => cL rfl rfl) hE9 ?_; refine bC 11 rfl (by kernel_rfl) (by kernel_rfl) (by kernel_rfl) rfl (fun _ hS => cL rfl rfl) hE9 ?_; refine bC 12 rfl (by kernel_rfl) (by kernel_rfl) (by kernel_rfl) rfl (fun _ hS => dZ rfl) hE9 ?_; refine bC 13 rfl (by kernel_rfl) (by kernel_rfl) (by kernel_rfl) rfl (fun _ hS => dZ rfl) hE9 ?_; refine eR (by kernel_rfl) (aA ?_); refine aE (aB (aG (aC rfl (aO rfl) (aC rfl (aF rfl bG) (aC rfl (aI rfl bD (aK hB10 rfl)) (aG ?_)))))); refine aC rfl (bF rfl rfl (by omega) (by omega)) ?_; refine aC rfl (aO rfl) (aC rfl (aF rfl bG) (bJ rfl rfl (rfl) bY hB10 rfl fun w12 hB13 hw14 => ?_)); have hE15 := hE8.step hw14 (fun y hy => .inl hy); have hO16 := hO11.evo hw14 hap.symm.own1
  try simp only [cT, Nat.reduceAdd] at hB13
  refine aD (aA (aE (aB (aG (aN (aD (aA (aP (aJ rfl rfl ?_))))))))); exact ⟨rfl, hE15, hB13, hO16, hR.ne⟩
theorem hexD_lo {c d : Nat} (h : hexD c = some d) : c < 128 ∧ d < 16 := by
  unfold hexD at h
  split at h
  · cases h; omega
  · split at h
    · cases h; omega
    · split at h
      · cases h; omega
      · cases h
theorem uY {s : ByteArray} {i d j : Nat} (h : hD s i = .ok (d, j)) (hb : Bd s i) : Bd s j ∧ j = i + 1 ∧ d < 16 := by
  unfold hD at h
  split at h
  · rename_i hi
    split at h
    · rename_i d' hd
      cases h
      obtain ⟨h1, h2⟩ := hexD_lo hd
      exact ⟨(hb.asc hi h1).1, rfl, h2⟩
    · cases h
  · cases h
theorem GR {s : ByteArray} : ∀ {f n i m j : Nat}, lG s f n i = .ok (m, j) → Bd s i → n ≤ 1114111 → Bd s j ∧ i < j ∧ m ≤ 1114111
  | 0, n, i, m, j, h, _, _ => by cases h
  | f + 1, n, i, m, j, h, hb, hn => by
    rw [lG] at h
    split at h
    · rename_i hi
      cases h
      exact ⟨hi.asc (by decide) hb, by omega, hn⟩
    · split at h
      · cases h
      · rename_i d k hd
        obtain ⟨h1, h2, h3⟩ := uY hd hb
        split at h
        · cases h
        · obtain ⟨h4, h5, h6⟩ := GR h h1 (by omega)
          exact ⟨h4, by omega, h6⟩
theorem pHex_b {s : ByteArray} {i m j : Nat} (h : oH s i = .ok (m, j)) (hb : Bd s i) : Bd s j ∧ i < j ∧ m ≤ 1114111 := by
  unfold oH at h
  split at h
  · rename_i hi
    split at h
    · cases h
    · rename_i d k hd
      obtain ⟨h1, h2, h3⟩ := uY hd (hi.asc (by decide) hb)
      obtain ⟨h4, h5, h6⟩ := GR h h1 (by omega)
      exact ⟨h4, by omega, h6⟩
  · split at h
    · cases h
    · rename_i d k hd
      obtain ⟨h1, h2, h3⟩ := uY hd hb
      split at h
      · cases h
      · rename_i e q he
        cases h
        obtain ⟨h4, h5, h6⟩ := uY he h1
        exact ⟨h4, by omega, by omega⟩
def DJ (c : Nat) : Int := if c = 97 then 0 else if c = 102 then 1 else if c = 116 then 2 else if c = 110 then 3 else if c = 114 then 4 else if c = 118 then 5 else -1
def escT : ByteArray := ByteArray.mk #[7, 12, 9, 10, 13, 11]
theorem NC {c : Nat} (h : 0 ≤ DJ c) : ∃ k, DJ c = ((k : Nat) : Int) ∧ k < escT.size ∧ uO c = some (sb escT k) ∧ sb escT k < 128 := by
  unfold DJ at *
  unfold uO
  by_cases h1 : c = 97
  · subst h1; exact ⟨0, rfl, by decide, rfl, by decide⟩
  · by_cases h2 : c = 102
    · subst h2; exact ⟨1, rfl, by decide, rfl, by decide⟩
    · by_cases h3 : c = 116
      · subst h3; exact ⟨2, rfl, by decide, rfl, by decide⟩
      · by_cases h4 : c = 110
        · subst h4; exact ⟨3, rfl, by decide, rfl, by decide⟩
        · by_cases h5 : c = 114
          · subst h5; exact ⟨4, rfl, by decide, rfl, by decide⟩
          · by_cases h6 : c = 118
            · subst h6; exact ⟨5, rfl, by decide, rfl, by decide⟩
            · rw [if_neg h1, if_neg h2, if_neg h3, if_neg h4, if_neg h5, if_neg h6] at h; omega
theorem escI_no {c : Nat} (h : ¬ 0 ≤ DJ c) : uO c = none := by
  unfold DJ at h
  unfold uO
  by_cases h1 : c = 97
  · subst h1; exact (h (by decide)).elim
  · by_cases h2 : c = 102
    · subst h2; exact (h (by decide)).elim
    · by_cases h3 : c = 116
      · subst h3; exact (h (by decide)).elim
      · by_cases h4 : c = 110
        · subst h4; exact (h (by decide)).elim
        · by_cases h5 : c = 114
          · subst h5; exact (h (by decide)).elim
          · by_cases h6 : c = 118
            · subst h6; exact (h (by decide)).elim
            · rw [if_neg h1, if_neg h2, if_neg h3, if_neg h4, if_neg h5, if_neg h6]
theorem escIdx (c : Nat) (hc : c < 256) : Go.Lib.indexByte [97, 102, 116, 110, 114, 118] ((c : Int)).toNat.toUInt8 = DJ c := by
  have h : ∀ c : Fin 256, Go.Lib.indexByte [97, 102, 116, 110, 114, 118] ((c.1 : Int)).toNat.toUInt8 = DJ c.1 := by decide +kernel
  exact h ⟨c, hc⟩
theorem JB {w : World} (c : Nat) (hc : c < 256) : Calls Tryz.prog 41 #[.string (ByteArray.mk #[97, 102, 116, 110, 114, 118]), .int .u8 (c : Nat)] w (Ret fun v w' => v = iv (DJ c) ∧ Evo [] w w') := by
  refine (jO _ _ w).mono ?_
  rintro e w' ⟨rfl, rfl⟩
  exact ⟨_, rfl, congrArg iv (escIdx c hc), Evo.refl _ _⟩
theorem CE {s : ByteArray} {i : Nat} (h : s.size ≤ i + 1) : nH s i = .error 83 := by unfold nH; rw [if_pos h]
theorem pEsc_c {s : ByteArray} {i v : Nat} (h : ¬ s.size ≤ i + 1) (h2 : uO (sb s (i + 1)) = some v) : nH s i = .ok (v, i + 2) := by unfold nH; rw [if_neg h, h2]
theorem LG {s : ByteArray} {i : Nat} (h : ¬ s.size ≤ i + 1) (h2 : sb s (i + 1) = 120) : nH s i = oH s (i + 2) := by
  unfold nH; rw [if_neg h, h2, show uO 120 = none from rfl]; rfl
theorem CF {s : ByteArray} {i : Nat} (h : ¬ s.size ≤ i + 1) (h2 : uO (sb s (i + 1)) = none) (h3 : sb s (i + 1) ≠ 120) (h4 : 128 ≤ sb s (i + 1) ∨ (jB (sb s (i + 1)) ∧ sb s (i + 1) ≠ 95)) : nH s i = .error 83 := by
  unfold nH; rw [if_neg h, h2]; show (if sb s (i + 1) = 120 then _ else _) = _; rw [if_neg h3, if_pos h4]
theorem GS {s : ByteArray} {i : Nat} (h : ¬ s.size ≤ i + 1) (h2 : uO (sb s (i + 1)) = none) (h3 : sb s (i + 1) ≠ 120) (h4 : ¬ (128 ≤ sb s (i + 1) ∨ (jB (sb s (i + 1)) ∧ sb s (i + 1) ≠ 95))) : nH s i = .ok (sb s (i + 1), i + 2) := by
  unfold nH; rw [if_neg h, h2]; show (if sb s (i + 1) = 120 then _ else _) = _; rw [if_neg h3, if_neg h4]
theorem escC_lo {c v : Nat} (h : uO c = some v) : c < 128 := by
  unfold uO at h
  by_cases h1 : c < 128
  · exact h1
  · rw [if_neg (by omega), if_neg (by omega), if_neg (by omega), if_neg (by omega), if_neg (by omega), if_neg (by omega)] at h; cases h
theorem LH {s : ByteArray} {i n j : Nat} (h : nH s i = .ok (n, j)) (hb : Bd s i) (h0 : sb s i = 92) : Bd s j ∧ i < j ∧ n ≤ 1114111 := by
  have hi : i < s.size := by
    rcases Nat.lt_or_ge i s.size with h1 | h1
    · exact h1
    · rw [CE (by omega)] at h; cases h
  have hb1 := (hb.asc hi (by omega)).1
  unfold nH at h
  split at h
  · cases h
  · rename_i h1
    split at h
    · rename_i v hv
      cases h
      have hv2 : n < 128 := by
        unfold uO at hv
        split at hv
        · cases hv; omega
        · split at hv
          · cases hv; omega
          · split at hv
            · cases hv; omega
            · split at hv
              · cases hv; omega
              · split at hv
                · cases hv; omega
                · split at hv
                  · cases hv; omega
                  · cases hv
      exact ⟨(hb1.asc (by omega) (escC_lo hv)).1, by omega, by omega⟩
    · split at h
      · rename_i hx
        obtain ⟨h2, h3, h4⟩ := pHex_b h ((hb1.asc (by omega) (by omega)).1)
        exact ⟨h2, by omega, h4⟩
      · split at h
        · cases h
        · rename_i h5
          cases h
          exact ⟨(hb1.asc (by omega) (by omega)).1, by omega, by omega⟩
theorem wO {w : World} {b : Nat} {s : ByteArray} {st : PS} {a : Option Addr} {c : Nat} {ob : Option Nat} (hR : RdAt w b s st a c ob) (hs : s.size ≤ 1000000) (hlt : st.pos < s.size) :
    Calls Tryz.prog 134 #[.pointer (some ⟨b, 0, none⟩)] w (RetP (fun v w' => ∃ n j, nH s st.pos = .ok (n, j) ∧ v = .int .i32 (n : Nat) ∧ Evo [b] w w' ∧ RdAt w' b s (gS st j) a c ob) (fun v w' => nH s st.pos = .error 83 ∧ v = flt 83 ∧ Evo [b] w w')) := by
  have hap := hR.ap; have hb9 := jE s (st.pos + 1); refine bP (N := 63) Tryz.func134 rfl rfl rfl ?_; refine aE (aB (aN (aD (aA (aE (aB (aG (aC rfl (aO rfl) (aC rfl (aF rfl bG) (aC rfl (aI rfl bD (aK hR.blk rfl)) ?_)))))))))); refine aC rfl (bF rfl rfl (by omega) (by omega)) ?_; refine aC rfl (aO rfl) (aC rfl (aF rfl bG) (bJ rfl rfl (rfl) bY hR.blk rfl fun w1 hB2 hw3 => ?_)); have hE4 := (Evo.refl [b] w).step hw3 (fun y hy => .inl hy); have hO5 := hR.own.evo hw3 hap.symm.own1
  try simp only [cT, Nat.reduceAdd] at hB2
  refine aD (aA (aE (aE ?_))); refine fA (by kernel_rfl) (by kernel_rfl) ?_; refine aV rfl (fun _ hq7 => bM rfl) ?_; refine aV rfl (fun _ hq7 => aO rfl) ?_; refine aV rfl (fun _ hq7 => aF rfl bG) ?_; refine aV rfl (fun _ hq7 => aI rfl bD (aK (hq7.blk0 hB2) rfl)) ?_; refine aV rfl (fun _ hq7 => bM rfl) ?_; refine aV rfl (fun _ hq7 => aO rfl) ?_; refine aV rfl (fun _ hq7 => aF rfl dE) ?_; refine aV rfl (fun _ hq7 => aI rfl cR (aK (hq7.blk0 hB2) rfl)) ?_; refine aV rfl (fun _ hq7 => cQ rfl Tryz.underlying9 rfl) ?_; refine aV rfl (fun _ hq7 => bE rfl rfl) ?_; refine fO (fun wq6 hq7 => aA ?_); have hE8 := hE4.then hq7; have hB9 := hq7.blk0 hB2; have hO10 := hO5.evo0 hq7; refine bI rfl (fun hc21 => ?_) (fun hc21 => ?_)
  ·skip
   refine aB (bW (vs := [_]) cU rfl (eF 83) rfl ?_ ?_)
   ·skip
    intro pv wp hpp; obtain ⟨rfl, hpw⟩ := hpp; exact And.intro rfl ⟨_, rfl, CE (by omega), rfl, (hE8).then hpw⟩
   intro _ _ hF; exact hF.elim
  have hlt2 : st.pos + 1 < s.size := by omega
  have hle2 : ¬ s.size ≤ st.pos + 1 := by omega
  refine aW (aA (aE ?_)); refine fA (by kernel_rfl) (by kernel_rfl) ?_; refine aV rfl (fun _ hq14 => bM rfl) ?_; refine aV rfl (fun _ hq14 => aO rfl) ?_; refine aV rfl (fun _ hq14 => aF rfl dE) ?_; refine aV rfl (fun _ hq14 => aI rfl cR (aK (hq14.blk0 hB9) rfl)) ?_; refine aV rfl (fun _ hq14 => bM rfl) ?_; refine aV rfl (fun _ hq14 => aO rfl) ?_; refine aV rfl (fun _ hq14 => aF rfl bG) ?_; refine aV rfl (fun _ hq14 => aI rfl bD (aK (hq14.blk0 hB9) rfl)) ?_; refine aV rfl (fun _ hq14 => fN (n := st.pos + 1) rfl rfl Tryz.underlying9 rfl hlt2) ?_; refine aV rfl (fun _ hq14 => dZ rfl) ?_; refine fO (fun wq13 hq14 => aA ?_); have hE15 := hE8.then hq14; have hB16 := hq14.blk0 hB9; have hO17 := hO10.evo0 hq14; refine aE (aB (aG (aC rfl (aO rfl) (aC rfl (aF rfl bG) (aC rfl (aI rfl bD (aK hB16 rfl)) ?_))))); refine aC rfl (bF rfl rfl (by omega) (by omega)) ?_; refine aC rfl (aO rfl) (aC rfl (aF rfl bG) (bJ rfl rfl (rfl) bY hB16 rfl fun w18 hB19 hw20 => ?_)); have hE21 := hE15.step hw20 (fun y hy => .inl hy); have hO22 := hO17.evo hw20 hap.symm.own1
  try simp only [cT, Nat.reduceAdd] at hB19
  refine aD (aA (aE (aE (aB (aG (aM (vs := [_, _]) oC rfl (JB (sb s (st.pos + 1)) hb9) rfl ?_)))))); rintro _ w23 ⟨rfl, hw24⟩; have hE25 := hE21.then hw24; have hB26 := hw24.blk0 hB19; have hO27 := hO22.evo0 hw24; refine aN (aD (aA (aE (aB (aG (aC rfl (eZ rfl rfl) ?_)))))); refine aD (aA (bI rfl (fun hc42 => ?_) (fun hc42 => ?_)))
  ·skip
   obtain ⟨k, hk1, hk2, hk3, hk4⟩ := NC hc42; refine aE (aB (aG (aC rfl (fN (s := escT) (n := k) rfl rfl Tryz.underlying9 hk1 hk2) ?_))); refine aC rfl (iU rfl Tryz.underlying5 Tryz.underlying21 (xG (by omega) (by omega)).1 (xG (by omega) (by omega)).2) ?_; refine aN (aD (aA (aP (aQ (bT (aJ rfl rfl ?_)))))); exact ⟨_, _, pEsc_c hle2 hk3, rfl, hE25, ⟨hB26, hO27, hR.ne⟩⟩
  have hno := escI_no hc42; refine aW (aA (aE (aE (aB (aG (aC rfl (bE rfl rfl) ?_)))))); refine aD (aA (bI rfl (fun hc47 => ?_) (fun hc47 => ?_)))
  ·skip
   refine aE (aB (aG (bW (vs := [_]) AX rfl (hex_ok (st := gS st (st.pos + 1 + 1)) ⟨hB26, hO27, hR.ne⟩ hs) rfl ?_ ?_)))
   ·skip
    intro pv wp hpp; obtain ⟨hpe, rfl, hpw⟩ := hpp; exact And.intro rfl ⟨_, rfl, (LG hle2 (by omega)).trans hpe, rfl, (hE25).step hpw (fun y hy => .inl hy)⟩
   rintro _ w28 ⟨n, j, hx, rfl, hw29, hR2⟩; have hE30 := hE25.step hw29 (fun y hy => .inl hy); refine aN (aD (aA (aP (aQ (bT (aJ rfl rfl ?_)))))); exact ⟨_, _, (LG hle2 (by omega)).trans hx, rfl, hE30, hR2⟩
  have hnx : sb s (st.pos + 1) ≠ 120 := by omega
  refine aW (aA (aE (aE (aB (aG (aC rfl (eZ rfl rfl) ?_)))))); refine aG (aX (t := 52) rfl (fun hs52 => ?_) (fun hs52 => ?_))
  ·skip
   refine aH (aH (aH (fC ?_))); refine fC ?_; refine aH (bL (aD (aA (dC rfl ?_)))); refine aB (bW (vs := [_]) cU rfl (eF 83) rfl ?_ ?_)
   ·skip
    intro pv wp hpp; obtain ⟨rfl, hpw⟩ := hpp; exact And.intro rfl ⟨_, rfl, CF hle2 hno hnx (by omega), rfl, (hE25).then hpw⟩
   intro _ _ hF; exact hF.elim
  refine aR (aG (aR (aM (vs := [_]) mU rfl (uS (sb s (st.pos + 1))) rfl ?_))); rintro _ w33 ⟨rfl, hw34⟩; have hE35 := hE25.then hw34; have hB36 := hw34.blk0 hB26; have hO37 := hO27.evo0 hw34; refine aR (aG (aX (t := 55) rfl (fun hs55 => ?_) (fun hs55 => ?_)))
  ·skip
   refine aR (aG (aR (aC rfl (gU rfl rfl) ?_))); refine aR (bL (aU (aD (aA (bI rfl (fun hc59 => ?_) (fun hc59 => ?_))))))
   ·skip
    refine aB (bW (vs := [_]) cU rfl (eF 83) rfl ?_ ?_)
    ·skip
     intro pv wp hpp; obtain ⟨rfl, hpw⟩ := hpp
     exact And.intro rfl ⟨_, rfl, CF hle2 hno hnx (by right; exact ⟨hs55, by omega⟩), rfl, (hE35).then hpw⟩
    intro _ _ hF; exact hF.elim
   refine aW (aA (aE (aB (aG ?_)))); refine aC rfl (iU rfl Tryz.underlying5 Tryz.underlying21 (xG (by omega) (by omega)).1 (xG (by omega) (by omega)).2) ?_; refine aN (aD (aA (aP (bT (aJ rfl rfl ?_)))))
   exact ⟨_, _, GS hle2 hno hnx (by rintro (h1 | ⟨h1, h2⟩); omega; first | exact hs55 h1 | (exact hc59 (by omega))), rfl, hE35, ⟨hB36, hO37, hR.ne⟩⟩
  refine aH (aH (aR (aU (aU (aD (aA (cK rfl ?_))))))); refine aW (aA (aE (aB (aG ?_)))); refine aC rfl (iU rfl Tryz.underlying5 Tryz.underlying21 (xG (by omega) (by omega)).1 (xG (by omega) (by omega)).2) ?_; refine aN (aD (aA (aP (bT (aJ rfl rfl ?_)))))
  exact ⟨_, _, GS hle2 hno hnx (by rintro (h1 | ⟨h1, h2⟩); omega; first | exact hs55 h1 | (exact hc59 (by omega))), rfl, hE35, ⟨hB36, hO37, hR.ne⟩⟩
end Go.Proofs.YtljadkcojnlioaaGreatDoor
namespace Go.Proofs.YtljadkcojnlioaaGreatDoor
open Go.Proofs Go.W Go.RowKit
theorem fS {s : ByteArray} {a b : Nat} (h : b ≤ s.size) : (s.extract a b).size = b - a := by rw [ByteArray.size_extract]; omega
theorem DO (s : ByteArray) (j : Nat) : (s.extract j s.size).data.toList = s.data.toList.drop j := by
  rw [ByteArray.data_extract]
  have : s.size = s.data.size := rfl
  rw [this]
  simp only [Array.toList_extract, List.extract]
  exact List.take_of_length_le (by simp)
theorem GJ (s : ByteArray) {n : Nat} (h : n < s.size) : s.data.toList[n]? = some (UInt8.ofNat (sb s n)) := by
  have h' : n < s.data.size := h
  rw [Array.getElem?_toList, Array.getElem?_eq_getElem h', pQ s n h]
  show some s.data[n] = some (UInt8.ofNat (s.data[n]).toNat)
  rw [UInt8.ofNat_toNat]
def Occ (s : ByteArray) (a b k : Nat) : Prop := k + 1 < s.size ∧ sb s k = a ∧ sb s (k + 1) = b
instance (s : ByteArray) (a b k : Nat) : Decidable (Occ s a b k) := by unfold Occ; infer_instance
theorem JX {a b : Nat} (ha : a < 256) (hb : b < 256) (h : UInt8.ofNat a = UInt8.ofNat b) : a = b := by
  have := congrArg UInt8.toNat h
  rw [UInt8.toNat_ofNat', UInt8.toNat_ofNat'] at this
  omega
theorem FI {s : ByteArray} {a b j i : Nat} (ha : a < 256) (hb : b < 256) (hj : j ≤ s.size) : Go.Lib.occAt (s.extract j s.size).data.toList [UInt8.ofNat a, UInt8.ofNat b] i = decide (Occ s a b (j + i)) := by
  unfold Go.Lib.occAt
  rw [DO, List.drop_drop]
  have hlen : s.data.toList.length = s.size := by simp
  by_cases h : j + i + 1 < s.size
  · have e : s.data.toList.drop (j + i) = UInt8.ofNat (sb s (j + i)) :: UInt8.ofNat (sb s (j + i + 1)) :: s.data.toList.drop (j + i + 2) := by
      have h0 := GJ s (n := j + i) (by omega)
      have h1 := GJ s (n := j + i + 1) h
      obtain ⟨h2, h3⟩ := List.getElem?_eq_some_iff.1 h0
      obtain ⟨h4, h5⟩ := List.getElem?_eq_some_iff.1 h1
      rw [List.drop_eq_getElem_cons h2, List.drop_eq_getElem_cons h4, h3, h5]
    rw [e]
    have l1 := jE s (j + i)
    have l2 := jE s (j + i + 1)
    simp only [List.isPrefixOf, Bool.and_true]
    rw [Bool.eq_iff_iff]
    simp only [Bool.and_eq_true, beq_iff_eq, decide_eq_true_eq]
    unfold Occ
    constructor
    · rintro ⟨h6, h7⟩; exact ⟨h, (JX ha l1 h6).symm, (JX hb l2 h7).symm⟩
    · rintro ⟨-, h6, h7⟩; rw [h6, h7]; exact ⟨rfl, rfl⟩
  · rw [decide_eq_false (fun h2 => h h2.1)]
    have hl : (s.data.toList.drop (j + i)).length < 2 := by rw [List.length_drop, hlen]; omega
    match s.data.toList.drop (j + i), hl with
    | [], _ => rfl
    | [x], _ => simp [List.isPrefixOf]
theorem mQ (s : ByteArray) (a b : Nat) : ∀ (f j : Nat), s.size ≤ j + f → (∀ k, jF s a b f j = some k → j ≤ k ∧ Occ s a b k ∧ ∀ m, j ≤ m → m < k → ¬ Occ s a b m) ∧ (jF s a b f j = none → ∀ m, j ≤ m → ¬ Occ s a b m)
  | 0, j, hf => ⟨(fun k h => by cases h), fun _ m hm ho => by have := ho.1; omega⟩
  | f + 1, j, hf => by
    obtain ⟨i1, i2⟩ := mQ s a b f (j + 1) (by omega)
    rw [jF]
    by_cases h : j + 1 < s.size ∧ sb s j = a ∧ sb s (j + 1) = b
    · rw [if_pos h]
      exact ⟨fun k hk => by cases hk; exact ⟨Nat.le_refl _, h, fun m h1 h2 => by omega⟩, fun h2 => by cases h2⟩
    · rw [if_neg h]
      refine ⟨fun k hk => ?_, fun hk m hm ho => ?_⟩
      · obtain ⟨h1, h2, h3⟩ := i1 k hk
        exact ⟨by omega, h2, fun m h4 h5 ho => by
          rcases Nat.eq_or_lt_of_le h4 with e | e
          · subst e; exact h ho
          · exact h3 m e h5 ho⟩
      · rcases Nat.eq_or_lt_of_le hm with e | e
        · subst e; exact h ho
        · exact i2 hk m e ho
def DD (s : ByteArray) (a b j : Nat) : Int := match jF s a b s.size j with | none => -1 | some k => (k : Int) - j
theorem idx_two {s : ByteArray} {a b j : Nat} (ha : a < 256) (hb : b < 256) (hj : j ≤ s.size) : Go.Lib.index (s.extract j s.size).data.toList [UInt8.ofNat a, UInt8.ofNat b] = DD s a b j := by
  obtain ⟨h1, h2⟩ := mQ s a b s.size j (by omega)
  have hlen : (s.extract j s.size).data.toList.length = s.size - j := by rw [DO, List.length_drop]; simp
  unfold DD
  cases h : jF s a b s.size j with
  | none =>
    refine Go.Lib.index_none fun i _ => ?_
    rw [FI ha hb hj]
    exact decide_eq_false (h2 h _ (by omega))
  | some k =>
    obtain ⟨h3, h4, h5⟩ := h1 k h
    have e : (k : Int) - j = ((k - j : Nat) : Int) := by omega
    show _ = (k : Int) - j
    rw [e]
    refine Go.Lib.index_first (by rw [hlen]; have := h4.1; omega) ?_ fun i hi => ?_
    · rw [FI ha hb hj, show j + (k - j) = k by omega]; exact decide_eq_true h4
    · rw [FI ha hb hj]; exact decide_eq_false (h5 _ (by omega) (by omega))
theorem tS {s t : ByteArray} (h : s.size = t.size) (h2 : ∀ k, k < s.size → sb s k = sb t k) : s = t := by
  apply ByteArray.ext
  apply Array.ext h
  intro i h3 h4
  have h5 := h2 i h3
  rw [pQ s i h3, pQ t i h4] at h5
  have : (s.data[i]).toNat = (t.data[i]).toNat := h5
  exact UInt8.toNat_inj.1 this
theorem uW {t p : ByteArray} {i : Nat} (hi : i ≤ t.size) : (p.size ≤ (t.extract i t.size).size ∧ (t.extract i t.size).extract 0 p.size = p) ↔ ∀ k, k < p.size → isB t (i + k) (sb p k) := by
  have hs := fS (s := t) (a := i) (Nat.le_refl t.size)
  constructor
  · rintro ⟨h1, h2⟩ k hk
    refine ⟨by omega, ?_⟩
    have e : sb ((t.extract i t.size).extract 0 p.size) k = sb p k := by rw [h2]
    rw [eE h1 (by omega), Nat.zero_add, eE (Nat.le_refl _) (by omega)] at e
    exact e
  · intro h
    have h1 : p.size ≤ (t.extract i t.size).size := by
      rcases Nat.eq_zero_or_pos p.size with h0 | h0
      · omega
      · have := (h (p.size - 1) (by omega)).1; omega
    refine ⟨h1, tS (by rw [fS h1]; omega) fun k hk => ?_⟩
    rw [fS h1] at hk
    rw [eE h1 (by omega), Nat.zero_add, eE (Nat.le_refl _) (by omega)]
    exact (h k (by omega)).2
end Go.Proofs.YtljadkcojnlioaaGreatDoor
namespace Go.Proofs.YtljadkcojnlioaaGreatDoor
open Go.Proofs
open Go.W Go.RowKit
attribute [local irreducible] Decidable.decide
theorem mW : eV Tryz.prog 112 := ⟨_, Tryz.func112, by kernel_rfl, by kernel_rfl⟩
theorem sP : eV Tryz.prog 134 := ⟨_, Tryz.func134, by kernel_rfl, by kernel_rfl⟩
theorem sL : eV Tryz.prog 158 := ⟨_, Tryz.func158, by kernel_rfl, by kernel_rfl⟩
theorem AU : eV Tryz.prog 160 := ⟨_, Tryz.func160, by kernel_rfl, by kernel_rfl⟩
theorem MT {s : ByteArray} {i k : Nat} (h : i ≤ s.size) : (s.extract i s.size).extract k (s.extract i s.size).size = s.extract (i + k) s.size := by
  have hs := fS (s := s) (a := i) (Nat.le_refl s.size)
  rcases Nat.lt_or_ge s.size (i + k) with hk | hk
  · apply tS
    · rw [fS (Nat.le_refl _), fS (Nat.le_refl _), fS (Nat.le_refl _)]; omega
    · intro j hj; rw [fS (Nat.le_refl _), hs] at hj; omega
  · apply tS
    · rw [fS (Nat.le_refl _), fS (Nat.le_refl _), fS (Nat.le_refl _)]; omega
    · intro j hj
      rw [fS (Nat.le_refl _), hs] at hj
      rw [eE (Nat.le_refl _) (by rw [hs]; omega), eE (Nat.le_refl _) (by omega), eE (Nat.le_refl _) (by omega), Nat.add_assoc]
theorem wK {s : ByteArray} {i k m : Nat} (h : i + m ≤ s.size) (hk : k ≤ m) : (s.extract i s.size).extract k m = s.extract (i + k) (i + m) := by
  have hs := fS (s := s) (a := i) (Nat.le_refl s.size)
  apply tS
  · rw [fS (by rw [hs]; omega), fS h]; omega
  · intro j hj
    rw [fS (by rw [hs]; omega)] at hj
    rw [eE (by rw [hs]; omega) (by omega), eE (Nat.le_refl _) (by omega), eE h (by omega), Nat.add_assoc]
theorem gO {s : ByteArray} {i k : Nat} (h : i + k < s.size) : sb (s.extract i s.size) k = sb s (i + k) := eE (Nat.le_refl _) h
def Pre (t p : ByteArray) : Prop := p.size ≤ t.size ∧ t.extract 0 p.size = p
instance (t p : ByteArray) : Decidable (Pre t p) := by unfold Pre; infer_instance
theorem pre1 {t : ByteArray} {x : UInt8} {i : Nat} (hi : i ≤ t.size) : Pre (t.extract i t.size) (ByteArray.mk #[x]) ↔ isB t i x.toNat := by
  unfold Pre
  rw [uW hi]
  constructor
  · intro h; exact h 0 (by show 0 < 1; omega)
  · intro h k hk
    have hk' : k < 1 := hk
    obtain rfl : k = 0 := by omega
    exact h
theorem mI {t : ByteArray} {x y : UInt8} {i : Nat} (hi : i ≤ t.size) : Pre (t.extract i t.size) (ByteArray.mk #[x, y]) ↔ isB t i x.toNat ∧ isB t (i + 1) y.toNat := by
  unfold Pre
  rw [uW hi]
  constructor
  · intro h; exact ⟨h 0 (by show 0 < 2; omega), h 1 (by show 1 < 2; omega)⟩
  · rintro ⟨h0, h1⟩ k hk
    have hk' : k < 2 := hk
    match k, hk' with
    | 0, _ => exact h0
    | 1, _ => exact h1
theorem pre3 {t : ByteArray} {x y z : UInt8} {i : Nat} (hi : i ≤ t.size) : Pre (t.extract i t.size) (ByteArray.mk #[x, y, z]) ↔ isB t i x.toNat ∧ isB t (i + 1) y.toNat ∧ isB t (i + 2) z.toNat := by
  unfold Pre
  rw [uW hi]
  constructor
  · intro h; exact ⟨h 0 (by show 0 < 3; omega), h 1 (by show 1 < 3; omega), h 2 (by show 2 < 3; omega)⟩
  · rintro ⟨h0, h1, h2⟩ k hk
    have hk' : k < 3 := hk
    match k, hk' with
    | 0, _ => exact h0
    | 1, _ => exact h1
    | 2, _ => exact h2
theorem pre4 {t : ByteArray} {x y z u : UInt8} {i : Nat} (hi : i ≤ t.size) : Pre (t.extract i t.size) (ByteArray.mk #[x, y, z, u]) ↔ isB t i x.toNat ∧ isB t (i + 1) y.toNat ∧ isB t (i + 2) z.toNat ∧ isB t (i + 3) u.toNat := by
  unfold Pre
  rw [uW hi]
  constructor
  · intro h; exact ⟨h 0 (by show 0 < 4; omega), h 1 (by show 1 < 4; omega), h 2 (by show 2 < 4; omega), h 3 (by show 3 < 4; omega)⟩
  · rintro ⟨h0, h1, h2, h3⟩ k hk
    have hk' : k < 4 := hk
    match k, hk' with
    | 0, _ => exact h0
    | 1, _ => exact h1
    | 2, _ => exact h2
    | 3, _ => exact h3
theorem KR {t : ByteArray} {x : UInt8} : Pre t (ByteArray.mk #[x]) ↔ isB t 0 x.toNat := by
  have h := pre1 (t := t) (x := x) (i := 0) (Nat.zero_le _)
  rwa [ByteArray.extract_zero_size] at h
def nR : Nat := 0
def Glb (w : World) : Prop := ∃ m : Int, w.cell? ⟨nR, 0, none⟩ = some (.int .i64 m)
theorem Glb.evo {X : List Nat} {w w' : World} (h : Glb w) (he : Evo X w w') (hx : nR ∉ X) : Glb w' := by obtain ⟨m, h⟩ := h; exact ⟨m, he.cell h hx⟩
theorem RdAt.glb {w : World} {b : Nat} {s : ByteArray} {st : PS} {a : Option Addr} {c : Nat} {ob : Option Nat} (h : RdAt w b s st a c ob) (hg : Glb w) : b ≠ nR := fun e => by
  obtain ⟨m, hm⟩ := hg
  subst e
  have := iA (o := 0) h.blk (v := .string s) rfl
  rw [this] at hm; cases hm
theorem HC {w : World} (s : ByteArray) (x y : UInt8) (j : Nat) (hj : j ≤ s.size) (hs : s.size ≤ 1000000) (hg : Glb w) : Calls Tryz.prog 144 #[.string (s.extract j s.size), .string (ByteArray.mk #[x, y])] w (Ret fun v w' => v = iv (DD s x.toNat y.toNat j) ∧ Evo [] w w') := by
  obtain ⟨m, hm⟩ := hg
  refine (rS _ _ m w (by rw [fS (Nat.le_refl _)]; omega) hm).mono ?_
  rintro e w' ⟨rfl, rfl⟩
  have h := idx_two (s := s) (a := x.toNat) (b := y.toNat) (j := j) x.toNat_lt y.toNat_lt hj
  rw [UInt8.ofNat_toNat, UInt8.ofNat_toNat] at h
  exact ⟨_, rfl, congrArg iv h, Evo.refl _ _⟩
theorem CU {w : World} (s p : ByteArray) (hs : s.size ≤ 140737488355328) (hp : p.size ≤ 140737488355328) : Calls Tryz.prog 158 #[.string s, .string p] w (Ret fun v w' => v = .bool (decide (Pre s p)) ∧ Evo [] w w') := by
  refine bP (N := 18) Tryz.func158 rfl rfl rfl ?_; refine aE (aB (aN (aD (aA (aE (aB (aG (aC rfl (cQ rfl Tryz.underlying9 rfl) ?_)))))))); refine aG (aC rfl (cQ rfl Tryz.underlying9 rfl) ?_); refine aC rfl (eZ rfl rfl) ?_; refine aG (aX (t := 10) rfl (fun hs10 => ?_) (fun hs10 => ?_))
  ·skip
   refine aR (aG (aR (aG (aR (aC rfl (cQ rfl Tryz.underlying9 rfl) ?_))))); refine aR ?_; refine aC rfl (JI (h := p.size) rfl rfl Tryz.underlying9 rfl (by omega)) ?_; refine aR (aG (aR (aC rfl (gH rfl rfl) ?_))); refine bL (aN (aD (aA (aP (aJ rfl rfl ?_))))); refine ⟨congrArg Value.bool (decide_eq_decide.2 ?_), (Evo.refl [] w)⟩; exact ⟨fun h => ⟨by omega, h⟩, fun h => h.2⟩
  refine aH (aH (aH (aH (aH (aH (aU (aN (aD (aA (aP (aJ rfl rfl ?_)))))))))))
  exact ⟨congrArg Value.bool (decide_eq_false (fun h => by have := h.1; omega)).symm, (Evo.refl [] w)⟩
theorem vA {w : World} (s p : ByteArray) (hs : s.size ≤ 140737488355328) (hp : p.size ≤ 140737488355328) : Calls Tryz.prog 142 #[.string s, .string p] w (Ret fun v w' => v = .bool (decide (Pre s p)) ∧ Evo [] w w') := by
  refine bP (N := 8) Tryz.func142 rfl rfl rfl ?_; refine aE (aB (aN (aD (aA (aE (aB (aG (aG (aM (vs := [_, _]) sL rfl (CU s p hs hp) rfl ?_))))))))); rintro _ w1 ⟨rfl, hw2⟩; have hE3 := (Evo.refl [] w).then hw2; refine aN (aD (aA (aP (aJ rfl rfl ?_)))); exact ⟨rfl, hE3⟩
theorem cutI_ok {w : World} (s p : ByteArray) (hs : s.size ≤ 140737488355328) (hp : p.size ≤ 140737488355328) : Calls Tryz.prog 160 #[.string s, .string p] w (Ret fun v w' => v = .tuple #[.string (if Pre s p then s.extract p.size s.size else s), .bool (decide (Pre s p))] ∧ Evo [] w w') := by
  refine bP (N := 15) Tryz.func160 rfl rfl rfl ?_; refine aE (aB (aN (aN (aD (aA (aE (aE (aB (aG (aG (aM (vs := [_, _]) sL rfl (CU s p hs hp) rfl ?_))))))))))); rintro _ w1 ⟨rfl, hw2⟩; have hE3 := (Evo.refl [] w).then hw2; refine aC rfl (mL rfl) ?_; refine aD (aA (bI rfl (fun hc9 => ?_) (fun hc9 => ?_)))
  ·skip
   refine aE (aB (aG (aN (aN (aD (aA (aP (aQ (dA rfl rfl rfl ?_))))))))); exact ⟨by rw [if_neg hc9, decide_eq_false hc9], hE3⟩
  refine aW (aA (aE (aB (aG (aG (aC rfl (cQ rfl Tryz.underlying9 rfl) ?_))))))
  refine aC rfl (gQ (l := p.size) rfl rfl Tryz.underlying9 rfl (by have := Classical.not_not.1 hc9; exact this.1)) ?_
  refine aN (aN (aD (aA (aP (dA rfl rfl rfl ?_))))); have h9 := Classical.not_not.1 hc9; exact ⟨by rw [if_pos h9, decide_eq_true h9], hE3⟩
theorem cut_ok {w : World} (s p : ByteArray) (hs : s.size ≤ 140737488355328) (hp : p.size ≤ 140737488355328) : Calls Tryz.prog 145 #[.string s, .string p] w (Ret fun v w' => v = .tuple #[.string (if Pre s p then s.extract p.size s.size else s), .bool (decide (Pre s p))] ∧ Evo [] w w') := by
  refine bP (N := 11) Tryz.func145 rfl rfl rfl ?_; refine aE (aB (aN (aN (aD (aA (aE (aB (aG (aG (aM (vs := [_, _]) AU rfl (cutI_ok s p hs hp) rfl ?_)))))))))); rintro _ w1 ⟨rfl, hw2⟩; have hE3 := (Evo.refl [] w).then hw2; refine aC rfl (cL rfl rfl) ?_; refine aC rfl (cL rfl rfl) ?_; refine aN (aN (aD (aA (aP (dA rfl rfl rfl ?_))))); exact ⟨rfl, hE3⟩
theorem LD {s : ByteArray} {i v j : Nat} (h : sb s i = 92) (h2 : nH s i = .ok (v, j)) : kZ s i = .ok ((v : Int), j) := by unfold kZ; rw [if_pos h, h2]
theorem LE {s : ByteArray} {i : Nat} {e : Int} (h : sb s i = 92) (h2 : nH s i = .error e) : kZ s i = .error e := by unfold kZ; rw [if_pos h, h2]
theorem rX {s : ByteArray} {i : Nat} (h : ¬ sb s i = 92) : kZ s i = .ok ((cG s i).1, i + (cG s i).2) := by unfold kZ; rw [if_neg h]
theorem kI {s : ByteArray} {i j : Nat} {r : Int} (h : kZ s i = .ok (r, j)) (hb : Bd s i) (hi : i < s.size) : Bd s j ∧ i < j ∧ 0 ≤ r ∧ r ≤ 1114111 := by
  by_cases h1 : sb s i = 92
  · unfold kZ at h
    rw [if_pos h1] at h
    cases h2 : nH s i with
    | error e => rw [h2] at h; cases h
    | ok x =>
      obtain ⟨n, k⟩ := x
      rw [h2] at h
      cases h
      obtain ⟨h3, h4, h5⟩ := LH h2 hb h1
      exact ⟨h3, h4, by omega, by omega⟩
  · rw [rX h1] at h
    cases h
    obtain ⟨h3, h4, h5, h6, h7⟩ := hb.next hi
    exact ⟨h5, by omega, h6, h7⟩
theorem iT {w : World} {b : Nat} {s : ByteArray} {st : PS} {a : Option Addr} {c : Nat} {ob : Option Nat} (hR : RdAt w b s st a c ob) (hs : s.size ≤ 1000000) (hlt : st.pos < s.size) (hb : Bd s st.pos) :
    Calls Tryz.prog 147 #[.pointer (some ⟨b, 0, none⟩)] w (RetP (fun v w' => ∃ r j, kZ s st.pos = .ok (r, j) ∧ v = .int .i32 r ∧ Evo [b] w w' ∧ RdAt w' b s (gS st j) a c ob) (fun v w' => kZ s st.pos = .error 83 ∧ v = flt 83 ∧ Evo [b] w w')) := by
  have hap := hR.ap; refine bP (N := 17) Tryz.func147 rfl rfl rfl ?_; refine aE (aB (aN (aD (aA (aE (aE ?_)))))); refine fA (by kernel_rfl) (by kernel_rfl) ?_; refine aV rfl (fun _ hq2 => bM rfl) ?_; refine aV rfl (fun _ hq2 => aO rfl) ?_; refine aV rfl (fun _ hq2 => aF rfl dE) ?_; refine aV rfl (fun _ hq2 => aI rfl cR (aK (hq2.blk0 hR.blk) rfl)) ?_; refine aV rfl (fun _ hq2 => bM rfl) ?_; refine aV rfl (fun _ hq2 => aO rfl) ?_; refine aV rfl (fun _ hq2 => aF rfl bG) ?_; refine aV rfl (fun _ hq2 => aI rfl bD (aK (hq2.blk0 hR.blk) rfl)) ?_; refine aV rfl (fun _ hq2 => fN (n := st.pos) rfl rfl Tryz.underlying9 rfl hlt) ?_; refine aV rfl (fun _ hq2 => bE rfl rfl) ?_; refine fO (fun wq1 hq2 => aA ?_); have hE3 := (Evo.refl [b] w).then hq2; have hB4 := hq2.blk0 hR.blk; have hO5 := hR.own.evo0 hq2; refine bI rfl (fun hc12 => ?_) (fun hc12 => ?_)
  ·skip
   refine aE (aB (aG (bW (vs := [_]) sP rfl (wO ⟨hB4, hO5, hR.ne⟩ hs hlt) rfl ?_ ?_)))
   ·skip
    intro pv wp hpp; obtain ⟨hpe, rfl, hpw⟩ := hpp; exact And.intro rfl ⟨_, rfl, LE (by omega) hpe, rfl, (hE3).step hpw (fun y hy => .inl hy)⟩
   rintro _ w6 ⟨n, j, hx, rfl, hw7, hR1⟩; have hE8 := hE3.step hw7 (fun y hy => .inl hy); refine aN (aD (aA (aP (aQ (bT (aJ rfl rfl ?_)))))); exact ⟨_, _, LD (by omega) hx, rfl, hE8, hR1⟩
  refine aW (aA (aE (aB (aG (aM (vs := [_]) mW rfl (uU ⟨hB4, hO5, hR.ne⟩ hs hb) rfl ?_))))); rintro _ w9 ⟨rfl, hw10, hR2⟩; have hE11 := hE3.step hw10 (fun y hy => .inl hy); refine aN (aD (aA (aP (bT (aJ rfl rfl ?_))))); exact ⟨_, _, rX (by omega), rfl, hE11, hR2⟩
end Go.Proofs.YtljadkcojnlioaaGreatDoor
namespace Go.Proofs.YtljadkcojnlioaaGreatDoor
open Go.Proofs Go.W Go.RowKit
def IJ : List Nat := [92, 46, 43, 42, 63, 40, 41, 124, 91, 93, 123, 125, 94, 36]
def jA (n : Nat) : List Nat := (Lib.decDigits n).map UInt8.toNat
def nmL (s : ByteArray) : List Nat := s.data.toList.map UInt8.toNat
theorem GF (l : List UInt8) : bstr (l.map UInt8.toNat) = ⟨l.toArray⟩ := by
  have h : UInt8.ofNat ∘ UInt8.toNat = id := funext fun x => UInt8.ofNat_toNat
  unfold bstr
  rw [List.map_map, h, List.map_id]
theorem LS (s : ByteArray) : bstr (nmL s) = s := by unfold nmL; rw [GF]
theorem JW (l : List UInt8) : Lo (l.map UInt8.toNat) := fun b hb => by
  obtain ⟨x, _, rfl⟩ := List.mem_map.1 hb
  exact x.toNat_lt
theorem GU (s : ByteArray) : (nmL s).length = s.size := by
  unfold nmL
  rw [List.length_map]
  rfl
def FO (c : Int) : List Nat := [92, 120, 123] ++ hexL c.toNat ++ [125]
def Odd (c : Int) : Prop := c < 32 ∨ c = 127 ∨ (55296 ≤ c ∧ c ≤ 57343)
instance (c : Int) : Decidable (Odd c) := by unfold Odd; infer_instance
def pV (c : Int) : List Nat := if Odd c then FO c else if c < 128 ∧ c.toNat ∈ IJ then [92, c.toNat] else dW c
def FZ (c : Int) : Prop := c < 128 ∧ jB c.toNat ∧ c ≠ 95
instance (c : Int) : Decidable (FZ c) := by unfold FZ; infer_instance
def sC (c : Int) : List Nat := if FZ c then dW c else FO c
def tB (g : Int × Int) : List Nat := sC g.1 ++ (if g.1 < g.2 then 45 :: sC g.2 else [])
def NF : List Nat := [91, 94, 92, 120, 123, 48, 125, 45, 92, 120, 123, 49, 48, 102, 102, 102, 102, 125, 93]
def xJ (l : List (Int × Int)) : List Nat := if l = [] then NF else [91] ++ l.flatMap tB ++ [93]
def jP (lo hi : Int) : List Nat :=
  if lo = 0 ∧ hi = -1 then [42] else if lo = 1 ∧ hi = -1 then [43] else if lo = 0 ∧ hi = 1 then [63]
  else if hi = -1 then [123] ++ jA lo.toNat ++ [44, 125] else if hi = lo then [123] ++ jA lo.toNat ++ [125] else [123] ++ jA lo.toNat ++ [44] ++ jA hi.toNat ++ [125]
def zD (k r : Int) (rs : List (Int × Int)) (nm : ByteArray) : List Nat :=
  if k = 2 then pV r else if k = 3 then xJ rs else if k = 7 then [40] ++ (if nm = ByteArray.mk #[] then [] else [63, 80, 60] ++ nmL nm ++ [62]) else if k = 8 then [92, 65] else if k = 9 then [92, 122]
  else if k = 10 then [94] else if k = 11 then [36] else if k = 12 then [92, 98] else if k = 13 then [92, 66] else []
def yX (k mn mx : Int) (lz : Bool) : List Nat := if k = 6 then jP mn mx ++ (if lz = true then [63] else []) else if k = 7 then [41] else []
def brW (p : Prop) [Decidable p] (l : List Nat) : List Nat := if p then [40, 63, 58] ++ l ++ [41] else l
def wW (k : Int) (fst : Bool) : List Nat := if k = 5 ∧ fst = false then [124] else []
mutual
def Rx.w : Rx → List Nat
  | .mk k r rs mn mx lz cp nm ks => zD k r rs nm ++ gI k true ks ++ yX k mn mx lz
def gI (k : Int) : Bool → List Rx → List Nat
  | _, [] => []
  | fst, x :: xs => wW k fst ++ brW (Brk x.kind k) x.w ++ gI k false xs
end
mutual
def Rx.ms : Rx → Nat
  | .mk k r rs mn mx lz cp nm ks => 40 + nm.size + 26 * rs.length + kms ks
def kms : List Rx → Nat
  | [] => 0
  | x :: xs => x.ms + kms xs
end
theorem Rx.w_eq (x : Rx) : x.w = zD x.kind x.r x.ranges x.name ++ gI x.kind true x.kids ++ yX x.kind x.min x.max x.lazy := by cases x; rw [Rx.w]; rfl
theorem Rx.ms_eq (x : Rx) : x.ms = 40 + x.name.size + 26 * x.ranges.length + kms x.kids := by cases x; rw [Rx.ms]; rfl
theorem wE (k : Int) (y : Rx) : ∀ (l : List Rx) (fst : Bool), gI k fst (l ++ [y]) = gI k fst l ++ (wW k (fst && l.isEmpty) ++ brW (Brk y.kind k) y.w)
  | [], fst => by rw [List.nil_append, gI, gI, gI]; simp
  | x :: xs, fst => by rw [List.cons_append, gI, wE k y xs false, gI]; simp
theorem nL {k : Int} {l : List Rx} {j : Nat} (hj : j < l.length) : gI k true (l.take (j + 1)) = gI k true (l.take j) ++ (wW k (decide (j = 0)) ++ brW (Brk l[j].kind k) l[j].w) := by
  rw [List.take_add_one, List.getElem?_eq_getElem hj, Option.toList_some, wE]
  have : (true && (l.take j).isEmpty) = decide (j = 0) := by
    rw [Bool.true_and, Bool.eq_iff_iff, decide_eq_true_iff, List.isEmpty_iff, List.take_eq_nil_iff]
    constructor
    · rintro (h | h)
      · exact h
      · rw [h] at hj; cases hj
    · exact .inl
  rw [this]
theorem rZ {l : List Rx} {j : Nat} (hj : j < l.length) : kms (l.take (j + 1)) = kms (l.take j) + l[j].ms := by
  induction l generalizing j with
  | nil => cases hj
  | cons x l ih => cases j with
    | zero => simp [kms]
    | succ j => simp only [List.take_succ_cons, kms, List.getElem_cons_succ, ih (by simpa using hj)]; omega
theorem MB {l : List Rx} (j : Nat) : kms (l.take j) ≤ kms l := by
  induction l generalizing j with
  | nil => simp [kms]
  | cons x l ih => cases j with
    | zero => simp [kms]
    | succ j => simp only [List.take_succ_cons, kms]; have := ih j; omega
theorem zP : ∀ (f n : Nat), n < 16 ^ (f + 1) → (hexL n).length ≤ f + 1 ∧ Lo (hexL n)
  | 0, n, h => by
    rw [zO (by simpa using h)]
    have h16 : n < 16 := by simpa using h
    exact ⟨Nat.le_refl _, fun b hb => by rw [List.mem_singleton.1 hb]; unfold hx; split <;> omega⟩
  | f + 1, n, h => by
    by_cases c : n < 16
    · rw [zO c]
      exact ⟨by simp, fun b hb => by rw [List.mem_singleton.1 hb]; unfold hx; split <;> omega⟩
    · rw [HE c]
      obtain ⟨h1, h2⟩ := zP f (n / 16) (Nat.div_lt_of_lt_mul (by rw [Nat.mul_comm, ← Nat.pow_succ]; exact h))
      refine ⟨by simp; omega, fun b hb => ?_⟩
      rcases List.mem_append.1 hb with hb | hb
      · exact h2 b hb
      · rw [List.mem_singleton.1 hb]; unfold hx; split <;> omega
theorem Lo.app {a b : List Nat} (h : Lo a) (k : Lo b) : Lo (a ++ b) := fun x hx => (List.mem_append.1 hx).elim (h x) (k x)
theorem zN {c : Int} (h0 : 0 ≤ c) (h1 : c ≤ 1114111) : (FO c).length ≤ 12 ∧ Lo (FO c) := by
  obtain ⟨h2, h3⟩ := zP 7 c.toNat (by show c.toNat < 4294967296; omega)
  refine ⟨by simp [FO]; omega, ?_⟩
  exact ((show Lo [92, 120, 123] by unfold Lo; decide).app h3).app (by unfold Lo; decide)
theorem HG (c : Int) : Lo (dW c) := sA c
theorem GX {c : Int} (h0 : 0 ≤ c) (h1 : c ≤ 1114111) : (pV c).length ≤ 12 ∧ Lo (pV c) := by
  unfold pV
  split
  · exact zN h0 h1
  · split
    · refine ⟨by simp, fun b hb => ?_⟩
      simp at hb
      rcases hb with rfl | rfl <;> omega
    · exact ⟨by have := qP c; omega, HG c⟩
theorem zZ {c : Int} (h0 : 0 ≤ c) (h1 : c ≤ 1114111) : (sC c).length ≤ 12 ∧ Lo (sC c) := by
  unfold sC
  split
  · exact ⟨by have := qP c; omega, HG c⟩
  · exact zN h0 h1
theorem GK {g : Int × Int} (h0 : 0 ≤ g.1) (h1 : g.1 ≤ g.2) (h2 : g.2 ≤ 1114111) : (tB g).length ≤ 26 ∧ Lo (tB g) := by
  obtain ⟨a1, a2⟩ := zZ h0 (show g.1 ≤ 1114111 by omega)
  obtain ⟨b1, b2⟩ := zZ (show 0 ≤ g.2 by omega) h2
  unfold tB
  split
  · refine ⟨by rw [List.length_append, List.length_cons]; omega, a2.app fun b hb => ?_⟩
    rcases List.mem_cons.1 hb with rfl | hb
    · decide
    · exact b2 b hb
  · exact ⟨by simp; omega, a2.app (fun b hb => by cases hb)⟩
def RgB (l : List (Int × Int)) : Prop := ∀ g, g ∈ l → 0 ≤ g.1 ∧ g.1 ≤ g.2 ∧ g.2 ≤ 1114111
theorem RangesOk.b {l : List (Int × Int)} (h : RangesOk l) : RgB l := fun g hg => by
  obtain ⟨i, hi, rfl⟩ := List.getElem_of_mem hg
  obtain ⟨h1, h2, h3, -⟩ := h.1 i hi
  exact ⟨h1, h2, h3⟩
theorem uV : ∀ {l : List (Int × Int)}, RgB l → (l.flatMap tB).length ≤ 26 * l.length
  | [], _ => by simp
  | g :: l, h => by
    obtain ⟨h1, h2, h3⟩ := h g (List.mem_cons_self ..)
    have := (GK h1 h2 h3).1
    have := uV (l := l) (fun g hg => h g (List.mem_cons_of_mem _ hg))
    rw [List.flatMap_cons, List.length_append, List.length_cons]; omega
theorem BZ {l : List (Int × Int)} {k : Nat} (hk : k < l.length) : (l.take (k + 1)).flatMap tB = (l.take k).flatMap tB ++ tB l[k] := by
  rw [List.take_add_one, List.getElem?_eq_getElem hk, List.flatMap_append]; simp
theorem vE (n : Nat) : Lo (jA n) := JW _
end Go.Proofs.YtljadkcojnlioaaGreatDoor
namespace Go.Proofs.YtljadkcojnlioaaGreatDoor
open Go.Proofs
open Go.W Go.RowKit
attribute [local irreducible] Decidable.decide
theorem lK : eV Tryz.prog 100 := ⟨_, Tryz.func100, by kernel_rfl, by kernel_rfl⟩
theorem sW : eV Tryz.prog 101 := ⟨_, Tryz.func101, by kernel_rfl, by kernel_rfl⟩
theorem cV : eV Tryz.prog 102 := ⟨_, Tryz.func102, by kernel_rfl, by kernel_rfl⟩
theorem BG : eV Tryz.prog 123 := ⟨_, Tryz.func123, by kernel_rfl, by kernel_rfl⟩
theorem bZ : eV Tryz.prog 49 := ⟨_, Tryz.func49, by kernel_rfl, by kernel_rfl⟩
theorem kX : eV Tryz.prog 99 := ⟨_, Tryz.func99, by kernel_rfl, by kernel_rfl⟩
structure Gw (w : World) : Prop where
  glb : Glb w
  t64 : Tab64 w
  t10 : Lib.TabIs Tryz.prog w "internal/strconv.uint64pow10" .u64 Lib.pow10Tab
theorem IG {w w' : World} {nm : String} {k : IntKind} {zs : List Int} (h : Lib.TabIs Tryz.prog w nm k zs) (he : Evo [] w w') : Lib.TabIs Tryz.prog w' nm k zs := by
  unfold Lib.TabIs World.var? at h ⊢
  cases hg : Tryz.prog.globalNamed nm with
  | none => rw [hg] at h; exact absurd h (by simp)
  | some g =>
    rw [hg] at h
    simp only [Option.bind_eq_bind, Option.bind_some] at h ⊢
    cases hb : w.heap[g]? with
    | none => rw [hb] at h; exact absurd h (by simp)
    | some o => rw [he.block g (fM hb) (by simp), ]; exact h
theorem Gw.evo0 {w w' : World} (h : Gw w) (he : Evo [] w w') : Gw w' := ⟨h.glb.evo he (by simp), h.t64.evo he (by simp), IG h.t10 he⟩
theorem MZ (w : World) (k : Nat) (os : Array Obj) : Evo [] w (Sort.grow (w.drewN k) os) := by
  refine ⟨rfl, rfl, rfl, ?_, fun b hb hx => ?_⟩
  · simp [Sort.grow]
  · simp only [Sort.grow]
    rw [Array.getElem?_append_left (by simpa using hb)]
    rfl
theorem eT {w : World} (hG : Gw w) (n : Int) (h0 : 0 ≤ n) (h1 : n ≤ 1000000) : Calls Tryz.prog 102 #[.int .i64 n] w (Ret fun v w' => v = .string (bstr (jA n.toNat)) ∧ Evo [] w w') := by
  refine (sH n (by omega) (by omega) w hG.t10).mono ?_
  rintro e w' ⟨rfl, k, os, rfl⟩
  refine ⟨_, rfl, ?_, MZ w k os⟩
  rw [jA, GF, Lib.itoa, if_neg (by omega)]
theorem cY {w w1 : World} {o o1 o2 : Option Nat} (h : o1 = o ∨ ∃ g, o1 = some g ∧ w.heap.size ≤ g) (h2 : o2 = o1 ∨ ∃ g, o2 = some g ∧ w1.heap.size ≤ g) (hw : w.heap.size ≤ w1.heap.size) : o2 = o ∨ ∃ g, o2 = some g ∧ w.heap.size ≤ g := by
  rcases h2 with rfl | ⟨g, rfl, hg⟩
  · exact h
  · exact .inr ⟨g, rfl, Nat.le_trans hw hg⟩
theorem cZ {w : World} {b : Nat} {o o1 : Option Nat} (h : o1 = o ∨ ∃ g, o1 = some g ∧ w.heap.size ≤ g) : ∀ y, y ∈ b :: o1.toList → y ∈ b :: o.toList ∨ w.heap.size ≤ y := fun y hy => by
  rcases h with rfl | ⟨g, rfl, hg⟩
  · exact .inl hy
  · rcases List.mem_cons.1 hy with rfl | hy
    · exact .inl (List.mem_cons_self ..)
    · rw [List.mem_singleton.1 hy]; exact .inr hg
theorem gX {w0 : World} {b : Nat} {o : Option Nat} (hub : w0.heap.size ≤ b) (h : Ge w0 o) : ∀ y, y ∈ b :: o.toList → y ∈ ([] : List Nat) ∨ w0.heap.size ≤ y := fun y hy => by
  rcases List.mem_cons.1 hy with rfl | hy
  · exact .inr hub
  · cases o with
    | none => cases hy
    | some g => rw [List.mem_singleton.1 hy]; exact .inr (h g rfl)
theorem mM {q b : Nat} {o : Option Nat} (h1 : Apart (some q) (some b)) (h2 : Apart (some q) o) : q ∉ b :: o.toList := fun h => by
  rcases List.mem_cons.1 h with rfl | h
  · exact h1 q rfl rfl
  · exact h2.nmem h
theorem eB {w w1 : World} {b : Nat} {L l X : List Nat} {ob ob1 : Option Nat} (h : BdN w1 b L ob1) (e : L = l ++ X) (hE : Evo (b :: ob.toList) w w1) (hN : ob1 = ob ∨ ∃ g, ob1 = some g ∧ w.heap.size ≤ g) : Wr w b (l ++ X) ob w1 := ⟨ob1, e ▸ h, hE, hN⟩
theorem bap (a b : List Nat) : bstr a ++ bstr b = bstr (a ++ b) := by
  apply ByteArray.ext; simp [bstr]
theorem bsz (l : List Nat) : (bstr l).size = l.length := by simp [bstr, ByteArray.size]
theorem cD {l : List Nat} (h : l.all (fun b => decide (b < 256)) = true) : Lo l := fun b hb => by have := List.all_eq_true.1 h b hb; exact of_decide_eq_true this
theorem kS {w0 w : World} {b : Nat} {l : List Nat} {ob : Option Nat} {c : Int} (hG : Gw w0) (hE0 : Evo [] w0 w) (hub : w0.heap.size ≤ b) (huo : Ge w0 ob) (h : BdN w b l ob) (hl : l.length ≤ 90000000) (h0 : 0 ≤ c) (h1 : c ≤ 1114111) :
    Calls Tryz.prog 99 #[.pointer (some ⟨b, 0, none⟩), .int .i32 c] w (Ret fun v w' => Wr w b (l ++ FO c) ob w') := by
  obtain ⟨n, rfl⟩ : ∃ n : Nat, c = (n : Int) := ⟨c.toNat, by omega⟩; obtain ⟨hxw1, hxw⟩ := zN h0 h1
  have hlen := (zP 7 n (by show n < 4294967296; omega)).1
  refine bP (N := 11) Tryz.func99 rfl rfl rfl ?_; refine aB (aG (aG ?_))
  refine aC rfl (jS n rfl Tryz.underlying21 Tryz.underlying2 rfl (by show ((n : Nat) : Int) ≤ 9223372036854775807; omega)) ?_
  refine aM (vs := [_, _]) BG rfl (MP (hG.evo0 hE0).t64 n (by show n < 4294967296; omega)) rfl ?_
  rintro _ w1 ⟨rfl, hw2⟩; have hE3 := (Evo.refl (b :: ob.toList) w).then hw2; have hF5 := h.evo0 hw2
  refine aC rfl (cI rfl rfl (by rw [bsz]; show 3 + _ ≤ _; omega)) ?_
  rw [show ByteArray.mk #[92, 120, 123] = bstr [92, 120, 123] from by decide +kernel, bap]
  refine aC rfl (cI rfl rfl (by rw [bsz]; show _ + 1 ≤ _; simp; omega)) ?_
  rw [show ByteArray.mk #[125] = bstr [125] from by decide +kernel, bap]; refine aM (vs := [_, _]) bZ rfl (cW hF5 (m := FO (n : Int)) rfl hxw (by omega) (by omega)) rfl ?_; rintro _ w6 ⟨obw1, hBDw1, hw7, hnb1⟩; have hV9 := hE3; have hN1 := cY (Or.inl rfl) hnb1 hV9.size; have hE8 := hE3.step hw7 (cZ (Or.inl rfl)); refine aD (cE rfl ?_); exact eB hBDw1 (rfl) hE8 hN1
theorem JZ : ∀ m, m < 128 → (0 ≤ Lib.indexByte (ByteArray.mk #[92, 46, 43, 42, 63, 40, 41, 124, 91, 93, 123, 125, 94, 36]).data.toList (UInt8.ofNat m) ↔ m ∈ IJ) := by decide +kernel
theorem BX {w : World} (m : Nat) (hm : m < 128) : Calls Tryz.prog 41 #[.string (ByteArray.mk #[92, 46, 43, 42, 63, 40, 41, 124, 91, 93, 123, 125, 94, 36]), .int .u8 (m : Nat)] w (Ret fun v w' => ∃ z, v = .int .i64 z ∧ (0 ≤ z ↔ m ∈ IJ) ∧ Evo [] w w') := by
  refine (jO _ _ w).mono ?_
  rintro e w' ⟨rfl, rfl⟩
  refine ⟨_, rfl, _, rfl, ?_, Evo.refl _ _⟩
  rw [← JZ m hm]
  simp
theorem tW {w0 w : World} {b : Nat} {l : List Nat} {ob : Option Nat} {c : Int} (hG : Gw w0) (hE0 : Evo [] w0 w) (hub : w0.heap.size ≤ b) (huo : Ge w0 ob) (h : BdN w b l ob) (hl : l.length ≤ 90000000) (h0 : 0 ≤ c) (h1 : c ≤ 1114111) :
    Calls Tryz.prog 101 #[.pointer (some ⟨b, 0, none⟩), .int .i32 c] w (Ret fun v w' => Wr w b (l ++ sC c) ob w') := by
  obtain ⟨n, rfl⟩ : ∃ n : Nat, c = (n : Int) := ⟨c.toNat, by omega⟩; refine bP (N := 21) Tryz.func101 rfl rfl rfl ?_; refine aE (aE (aB (aG (aC rfl (dN rfl rfl) ?_)))); refine aG (aX (t := 6) rfl (fun hs6 => ?_) (fun hs6 => ?_))
  ·skip
   refine aR (aG (aR ?_))
   refine aC rfl (jS n rfl Tryz.underlying21 Tryz.underlying5 rfl (by show ((n : Nat) : Int) ≤ 255; omega)) ?_
   refine aR (aM (vs := [_]) mU rfl (uS n) rfl ?_); rintro _ w1 ⟨rfl, hw2⟩; have hE3 := (Evo.refl (b :: ob.toList) w).then hw2; have hE4 := hE0.then hw2; have hF5 := h.evo0 hw2; refine bL (aG (aX (t := 11) rfl (fun hs11 => ?_) (fun hs11 => ?_)))
   ·skip
    refine aR (aG (aR (aC rfl (gU rfl rfl) ?_))); refine bL (aD (aA (bI rfl (fun hc14 => ?_) (fun hc14 => ?_))))
    ·skip
     refine aE (aB (aG (aG ?_)))
     refine aM (vs := [_, _]) lK rfl (lA hF5 (by unfold IsR; omega) (by omega)) rfl ?_
     rintro _ w6 ⟨obw1, hBDw1, hw7, hnb1⟩; have hV9 := hE3; have hV90 := hE4; have hN1 := cY (Or.inl rfl) hnb1 hV9.size; have hU1 := dM huo hV90.size hnb1; have hE8 := hE3.step hw7 (cZ (Or.inl rfl)); refine aD (aA (aP (aQ (tQ rfl ?_))))
     exact eB hBDw1 (by rw [sC, if_pos (show FZ (n : Int) from ⟨by omega, by rw [Int.toNat_natCast]; exact hs11, by omega⟩)]) hE8 hN1
    refine aW (aA (aB (aG (aG (aM (vs := [_, _]) kX rfl (kS hG hE4 hub huo hF5 hl h0 h1) rfl ?_))))); rintro _ w10 ⟨obw1, hBDw1, hw11, hnb1⟩; have hV9 := hE3; have hV90 := hE4; have hN1 := cY (Or.inl rfl) hnb1 hV9.size; have hU1 := dM huo hV90.size hnb1; have hE12 := hE3.step hw11 (cZ (Or.inl rfl)); refine aD (cE rfl ?_)
    exact eB hBDw1 (by rw [sC, if_neg (fun hq : FZ (n : Int) => by obtain ⟨q1, q2, q3⟩ := hq; rw [Int.toNat_natCast] at q2; first | omega | exact hs11 q2 | exact hs6 q2)]) hE12 hN1
   refine aH (aH (aU (aD (aA (cK rfl ?_))))); refine aW (aA (aB (aG (aG (aM (vs := [_, _]) kX rfl (kS hG hE4 hub huo hF5 hl h0 h1) rfl ?_))))); rintro _ w14 ⟨obw1, hBDw1, hw15, hnb1⟩; have hV9 := hE3; have hV90 := hE4; have hN1 := cY (Or.inl rfl) hnb1 hV9.size; have hU1 := dM huo hV90.size hnb1; have hE16 := hE3.step hw15 (cZ (Or.inl rfl)); refine aD (cE rfl ?_)
   exact eB hBDw1 (by rw [sC, if_neg (fun hq : FZ (n : Int) => by obtain ⟨q1, q2, q3⟩ := hq; rw [Int.toNat_natCast] at q2; first | omega | exact hs11 q2 | exact hs6 q2)]) hE16 hN1
  refine aH (aH (aH (aU (aG (aH (aH (aU (aD (aA (cK rfl ?_)))))))))); refine aW (aA (aB (aG (aG (aM (vs := [_, _]) kX rfl (kS hG hE0 hub huo h hl h0 h1) rfl ?_))))); rintro _ w18 ⟨obw1, hBDw1, hw19, hnb1⟩; have hV9 := (Evo.refl (b :: ob.toList) w); have hV90 := hE0; have hN1 := cY (Or.inl rfl) hnb1 hV9.size; have hU1 := dM huo hV90.size hnb1; have hE20 := (Evo.refl (b :: ob.toList) w).step hw19 (cZ (Or.inl rfl)); refine aD (cE rfl ?_)
  exact eB hBDw1 (by rw [sC, if_neg (fun hq : FZ (n : Int) => by obtain ⟨q1, q2, q3⟩ := hq; rw [Int.toNat_natCast] at q2; first | omega | exact hs11 q2 | exact hs6 q2)]) hE20 hN1
theorem BR {w0 w : World} {b : Nat} {l : List Nat} {ob : Option Nat} {c : Int} (hG : Gw w0) (hE0 : Evo [] w0 w) (hub : w0.heap.size ≤ b) (huo : Ge w0 ob) (h : BdN w b l ob) (hl : l.length ≤ 90000000) (h0 : 0 ≤ c) (h1 : c ≤ 1114111) :
    Calls Tryz.prog 72 #[.pointer (some ⟨b, 0, none⟩), .int .i32 c] w (Ret fun v w' => Wr w b (l ++ pV c) ob w') := by
  obtain ⟨n, rfl⟩ : ∃ n : Nat, c = (n : Int) := ⟨c.toNat, by omega⟩; refine bP (N := 39) Tryz.func72 rfl rfl rfl ?_; refine cA (aE (aB (aG (aC rfl (dN rfl rfl) ?_)))); refine aG (aX (t := 10) rfl (fun hs10 => ?_) (fun hs10 => ?_))
  ·skip
   refine aH (aH (bL (aG (aH (aH (aH (fC ?_))))))); refine fC ?_; refine aH (bL (aN (aD (aA (dC rfl ?_))))); refine aB (aG (aG (aM (vs := [_, _]) kX rfl (kS hG hE0 hub huo h hl h0 h1) rfl ?_))); rintro _ w1 ⟨obw1, hBDw1, hw2, hnb1⟩; have hV9 := (Evo.refl (b :: ob.toList) w); have hV90 := hE0; have hN1 := cY (Or.inl rfl) hnb1 hV9.size; have hU1 := dM huo hV90.size hnb1; have hE3 := (Evo.refl (b :: ob.toList) w).step hw2 (cZ (Or.inl rfl)); refine aD (bB (cE rfl ?_))
   exact eB hBDw1 (by rw [pV, if_pos (show Odd (n : Int) from by unfold Odd; omega)]) hE3 hN1
  refine aR (aG (aR (aC rfl (bE rfl rfl) ?_))); refine aU (aG (aX (t := 14) rfl (fun hs14 => ?_) (fun hs14 => ?_)))
  ·skip
   refine aH (aH (aH (fC ?_))); refine fC ?_; refine aH (bL (aN (aD (aA (dC rfl ?_))))); refine aB (aG (aG (aM (vs := [_, _]) kX rfl (kS hG hE0 hub huo h hl h0 h1) rfl ?_))); rintro _ w5 ⟨obw1, hBDw1, hw6, hnb1⟩; have hV9 := (Evo.refl (b :: ob.toList) w); have hV90 := hE0; have hN1 := cY (Or.inl rfl) hnb1 hV9.size; have hU1 := dM huo hV90.size hnb1; have hE7 := (Evo.refl (b :: ob.toList) w).step hw6 (cZ (Or.inl rfl)); refine aD (bB (cE rfl ?_))
   exact eB hBDw1 (by rw [pV, if_pos (show Odd (n : Int) from by unfold Odd; omega)]) hE7 hN1
  refine aR (aG (aR (aC rfl (eZ rfl rfl) ?_))); refine aR (aG (aX (t := 17) rfl (fun hs17 => ?_) (fun hs17 => ?_)))
  ·skip
   refine aR (aG (aR (aC rfl (fL rfl rfl) ?_))); refine aR (bL (aU (aN (aD (aA (bI rfl (fun hc7 => ?_) (fun hc7 => ?_)))))))
   ·skip
    refine aB (aG (aG (aM (vs := [_, _]) kX rfl (kS hG hE0 hub huo h hl h0 h1) rfl ?_))); rintro _ w9 ⟨obw1, hBDw1, hw10, hnb1⟩; have hV9 := (Evo.refl (b :: ob.toList) w); have hV90 := hE0; have hN1 := cY (Or.inl rfl) hnb1 hV9.size; have hU1 := dM huo hV90.size hnb1; have hE11 := (Evo.refl (b :: ob.toList) w).step hw10 (cZ (Or.inl rfl)); refine aD (bB (cE rfl ?_))
    exact eB hBDw1 (by rw [pV, if_pos (show Odd (n : Int) from by unfold Odd; omega)]) hE11 hN1
   refine aE ?_
   have hOdd : ¬ Odd (n : Int) := by unfold Odd; omega
   have hIR : IsR (n : Int) := by unfold IsR; omega
   refine aB (aG (aC rfl (dN rfl rfl) ?_)); refine aG (aX (t := 28) rfl (fun hs28 => ?_) (fun hs28 => ?_))
   ·skip
    refine aR (aG (aR ?_))
    refine aC rfl (jS n rfl Tryz.underlying21 Tryz.underlying5 rfl (by show ((n : Nat) : Int) ≤ 255; omega)) ?_
    refine aR ?_; refine aM (vs := [_, _]) oC rfl (BX n (by omega)) rfl ?_; rintro _ w13 ⟨z, rfl, hz, hw14⟩; have hE15 := (Evo.refl (b :: ob.toList) w).then hw14; have hE16 := hE0.then hw14; have hF17 := h.evo0 hw14; refine aR (aC rfl (eZ rfl rfl) ?_); refine bL (aN (aD (aA (bI rfl (fun hc25 => ?_) (fun hc25 => ?_)))))
    ·skip
     refine aB (aG (aG (aC rfl (wM rfl Tryz.underlying21 Tryz.underlying9) ?_))); rw [DK hIR, kO hIR, show jC n = [n] by rw [jC, if_pos (by omega)]]
     refine aC rfl (cI rfl rfl (by rw [bsz]; show 1 + 1 ≤ _; omega)) ?_
     rw [show ByteArray.mk #[92] = bstr [92] from by decide +kernel, bap]
     refine aM (vs := [_, _]) bZ rfl (cW hF17 (m := [92, n]) rfl (fun x hx => by simp at hx; omega) (by first | omega | (simp only [List.length_append]; omega)) (by simp only [List.length_append, List.length_cons, List.length_nil]; omega)) rfl ?_
     rintro _ w18 ⟨obw1, hBDw1, hw19, hnb1⟩; have hV9 := hE15; have hV90 := hE16; have hN1 := cY (Or.inl rfl) hnb1 hV9.size; have hU1 := dM huo hV90.size hnb1; have hE20 := hE15.step hw19 (cZ (Or.inl rfl)); refine aD (bB (cE rfl ?_))
     exact eB hBDw1 (by rw [pV, if_neg hOdd, if_pos ⟨by omega, by rw [Int.toNat_natCast]; exact hz.1 (by omega)⟩]; rfl) hE20 hN1
    refine aB (aG (aG ?_)); refine aM (vs := [_, _]) lK rfl (lA hF17 hIR (by omega)) rfl ?_; rintro _ w22 ⟨obw1, hBDw1, hw23, hnb1⟩; have hV9 := hE15; have hV90 := hE16; have hN1 := cY (Or.inl rfl) hnb1 hV9.size; have hU1 := dM huo hV90.size hnb1; have hE24 := hE15.step hw23 (cZ (Or.inl rfl)); refine aD (bB (cE rfl ?_))
    exact eB hBDw1 (by rw [pV, if_neg hOdd, if_neg (fun hq => by obtain ⟨q1, q2⟩ := hq; rw [Int.toNat_natCast] at q2; first | omega | (have h8 := hz.2 q2; omega))]) hE24 hN1
   refine aH (aH (aH (aH (aU (aN (aD (aA (cK rfl ?_)))))))); refine aB (aG (aG ?_)); refine aM (vs := [_, _]) lK rfl (lA h hIR (by omega)) rfl ?_; rintro _ w26 ⟨obw1, hBDw1, hw27, hnb1⟩; have hV9 := (Evo.refl (b :: ob.toList) w); have hV90 := hE0; have hN1 := cY (Or.inl rfl) hnb1 hV9.size; have hU1 := dM huo hV90.size hnb1; have hE28 := (Evo.refl (b :: ob.toList) w).step hw27 (cZ (Or.inl rfl)); refine aD (bB (cE rfl ?_))
   exact eB hBDw1 (by rw [pV, if_neg hOdd, if_neg (fun hq => by obtain ⟨q1, q2⟩ := hq; rw [Int.toNat_natCast] at q2; first | omega | (have h8 := hz.2 q2; omega))]) hE28 hN1
  refine aH (aH (aR (aU (aU (aN (aD (aA (cK rfl ?_)))))))); refine aE ?_
  have hOdd : ¬ Odd (n : Int) := by unfold Odd; omega
  have hIR : IsR (n : Int) := by unfold IsR; omega
  refine aB (aG (aC rfl (dN rfl rfl) ?_)); refine aG (aX (t := 28) rfl (fun hs28 => ?_) (fun hs28 => ?_))
  ·skip
   refine aR (aG (aR ?_))
   refine aC rfl (jS n rfl Tryz.underlying21 Tryz.underlying5 rfl (by show ((n : Nat) : Int) ≤ 255; omega)) ?_
   refine aR ?_; refine aM (vs := [_, _]) oC rfl (BX n (by omega)) rfl ?_; rintro _ w30 ⟨z, rfl, hz, hw31⟩; have hE32 := (Evo.refl (b :: ob.toList) w).then hw31; have hE33 := hE0.then hw31; have hF34 := h.evo0 hw31; refine aR (aC rfl (eZ rfl rfl) ?_); refine bL (aN (aD (aA (bI rfl (fun hc25 => ?_) (fun hc25 => ?_)))))
   ·skip
    refine aB (aG (aG (aC rfl (wM rfl Tryz.underlying21 Tryz.underlying9) ?_))); rw [DK hIR, kO hIR, show jC n = [n] by rw [jC, if_pos (by omega)]]
    refine aC rfl (cI rfl rfl (by rw [bsz]; show 1 + 1 ≤ _; omega)) ?_
    rw [show ByteArray.mk #[92] = bstr [92] from by decide +kernel, bap]
    refine aM (vs := [_, _]) bZ rfl (cW hF34 (m := [92, n]) rfl (fun x hx => by simp at hx; omega) (by first | omega | (simp only [List.length_append]; omega)) (by simp only [List.length_append, List.length_cons, List.length_nil]; omega)) rfl ?_
    rintro _ w35 ⟨obw1, hBDw1, hw36, hnb1⟩; have hV9 := hE32; have hV90 := hE33; have hN1 := cY (Or.inl rfl) hnb1 hV9.size; have hU1 := dM huo hV90.size hnb1; have hE37 := hE32.step hw36 (cZ (Or.inl rfl)); refine aD (bB (cE rfl ?_))
    exact eB hBDw1 (by rw [pV, if_neg hOdd, if_pos ⟨by omega, by rw [Int.toNat_natCast]; exact hz.1 (by omega)⟩]; rfl) hE37 hN1
   refine aB (aG (aG ?_)); refine aM (vs := [_, _]) lK rfl (lA hF34 hIR (by omega)) rfl ?_; rintro _ w39 ⟨obw1, hBDw1, hw40, hnb1⟩; have hV9 := hE32; have hV90 := hE33; have hN1 := cY (Or.inl rfl) hnb1 hV9.size; have hU1 := dM huo hV90.size hnb1; have hE41 := hE32.step hw40 (cZ (Or.inl rfl)); refine aD (bB (cE rfl ?_))
   exact eB hBDw1 (by rw [pV, if_neg hOdd, if_neg (fun hq => by obtain ⟨q1, q2⟩ := hq; rw [Int.toNat_natCast] at q2; first | omega | (have h8 := hz.2 q2; omega))]) hE41 hN1
  refine aH (aH (aH (aH (aU (aN (aD (aA (cK rfl ?_)))))))); refine aB (aG (aG ?_)); refine aM (vs := [_, _]) lK rfl (lA h hIR (by omega)) rfl ?_; rintro _ w43 ⟨obw1, hBDw1, hw44, hnb1⟩; have hV9 := (Evo.refl (b :: ob.toList) w); have hV90 := hE0; have hN1 := cY (Or.inl rfl) hnb1 hV9.size; have hU1 := dM huo hV90.size hnb1; have hE45 := (Evo.refl (b :: ob.toList) w).step hw44 (cZ (Or.inl rfl)); refine aD (bB (cE rfl ?_))
  exact eB hBDw1 (by rw [pV, if_neg hOdd, if_neg (fun hq => by obtain ⟨q1, q2⟩ := hq; rw [Int.toNat_natCast] at q2; first | omega | (have h8 := hz.2 q2; omega))]) hE45 hN1
theorem vD (n : Nat) (h : n ≤ 1000) : (jA n).length ≤ 4 := by
  have : ∀ n, n ≤ 1000 → (jA n).length ≤ 4 := by
    intro n h
    unfold jA
    rw [List.length_map]
    have hh : ∀ (f n : Nat), n < 10 ^ (f + 1) → (Lib.decDigits n).length ≤ f + 1 := by
      intro f
      induction f with
      | zero => intro n h; rw [Lib.decDigits, dif_pos (by simpa using h)]; simp
      | succ f ih =>
        intro n h
        rw [Lib.decDigits]
        split
        · simp
        · rw [List.length_append]
          have := ih (n / 10) (Nat.div_lt_of_lt_mul (by rw [Nat.mul_comm, ← Nat.pow_succ]; exact h))
          simp; omega
    exact hh 3 n (by show n < 10000; omega)
  exact this n h
theorem cN : ByteArray.mk #[123] = bstr [123] := by decide +kernel
theorem bQ : ByteArray.mk #[44, 125] = bstr [44, 125] := by decide +kernel
theorem cM : ByteArray.mk #[125] = bstr [125] := by decide +kernel
theorem dH : ByteArray.mk #[44] = bstr [44] := by decide +kernel
theorem xE {w0 w : World} {b : Nat} {l : List Nat} {ob : Option Nat} {lo hi : Int} (hG : Gw w0) (hE0 : Evo [] w0 w) (hub : w0.heap.size ≤ b) (huo : Ge w0 ob) (h : BdN w b l ob) (hl : l.length ≤ 90000000) (h0 : 0 ≤ lo) (h1 : lo ≤ 1000) (h2 : hi = -1 ∨ (lo ≤ hi ∧ hi ≤ 1000)) :
    Calls Tryz.prog 75 #[.pointer (some ⟨b, 0, none⟩), .int .i64 lo, .int .i64 hi] w (Ret fun v w' => Wr w b (l ++ jP lo hi) ob w') := by
  have hd1 := vD lo.toNat (by omega); have hd2 : hi ≠ -1 → (jA hi.toNat).length ≤ 4 := fun h => vD hi.toNat (by omega); have hq1 := vE lo.toNat; have hq2 := vE hi.toNat; refine bP (N := 62) Tryz.func75 rfl rfl rfl ?_; refine cA (aE (aB (aG (aC rfl (bE rfl rfl) ?_)))); refine aG (aX (t := 19) rfl (fun hs19 => ?_) (fun hs19 => ?_))
  ·skip
   refine aR (aG (aR (aC rfl (bE rfl rfl) ?_))); refine bL (aN (aD (aA (bI rfl (fun hc16 => ?_) (fun hc16 => ?_)))))
   ·skip
    refine aB (aG ?_)
    refine aM (vs := [_, _]) bZ rfl (cW h (m := [42]) (by decide +kernel) (cD (by decide +kernel)) (by first | omega | (simp only [List.length_append]; omega)) (by decide)) rfl ?_
    rintro _ w1 ⟨obw1, hBDw1, hw2, hnb1⟩; have hV9 := (Evo.refl (b :: ob.toList) w); have hV90 := hE0; have hN1 := cY (Or.inl rfl) hnb1 hV9.size; have hU1 := dM huo hV90.size hnb1; have hE3 := (Evo.refl (b :: ob.toList) w).step hw2 (cZ (Or.inl rfl)); refine aD (bB (cE rfl ?_))
    exact eB hBDw1 (by unfold jP; rw [if_pos (by omega)]) hE3 hN1
   refine aE (aB (aG (aC rfl (bE rfl rfl) ?_))); refine aG (aX (t := 28) rfl (fun hs28 => ?_) (fun hs28 => ?_))
   ·skip
    refine aR (aG (aR (aC rfl (bE rfl rfl) ?_))); refine bL (aN (aD (aA (bI rfl (fun hc25 => ?_) (fun hc25 => ?_)))))
    ·skip
     refine aB (aG ?_)
     refine aM (vs := [_, _]) bZ rfl (cW h (m := [43]) (by decide +kernel) (cD (by decide +kernel)) (by first | omega | (simp only [List.length_append]; omega)) (by decide)) rfl ?_
     rintro _ w5 ⟨obw1, hBDw1, hw6, hnb1⟩; have hV9 := (Evo.refl (b :: ob.toList) w); have hV90 := hE0; have hN1 := cY (Or.inl rfl) hnb1 hV9.size; have hU1 := dM huo hV90.size hnb1; have hE7 := (Evo.refl (b :: ob.toList) w).step hw6 (cZ (Or.inl rfl)); refine aD (bB (cE rfl ?_))
     exact eB hBDw1 (by unfold jP; rw [if_neg (by omega), if_pos (by omega)]) hE7 hN1
    refine aE (aB (aG (aC rfl (bE rfl rfl) ?_))); refine aG (aX (t := 37) rfl (fun hs37 => ?_) (fun hs37 => ?_))
    ·skip
     refine aR (aG (aR (aC rfl (bE rfl rfl) ?_))); refine bL (aN (aD (aA (bI rfl (fun hc34 => ?_) (fun hc34 => ?_)))))
     ·skip
      refine aB (aG ?_)
      refine aM (vs := [_, _]) bZ rfl (cW h (m := [63]) (by decide +kernel) (cD (by decide +kernel)) (by first | omega | (simp only [List.length_append]; omega)) (by decide)) rfl ?_
      rintro _ w9 ⟨obw1, hBDw1, hw10, hnb1⟩; have hV9 := (Evo.refl (b :: ob.toList) w); have hV90 := hE0; have hN1 := cY (Or.inl rfl) hnb1 hV9.size; have hU1 := dM huo hV90.size hnb1; have hE11 := (Evo.refl (b :: ob.toList) w).step hw10 (cZ (Or.inl rfl)); refine aD (bB (cE rfl ?_))
      exact eB hBDw1 (by unfold jP; rw [if_neg (by omega), if_neg (by omega), if_pos (by omega)]) hE11 hN1
     refine aE (aB (aG (aC rfl (bE rfl rfl) ?_))); refine aN (aD (aA (bI rfl (fun hc43 => ?_) (fun hc43 => ?_))))
     ·skip
      refine aB (aG (aG ?_)); refine aM (vs := [_]) cV rfl (eT (hG.evo0 hE0) lo (by omega) (by omega)) rfl ?_; rintro _ w13 ⟨rfl, hw14⟩; have hE15 := (Evo.refl (b :: ob.toList) w).then hw14; have hE16 := hE0.then hw14; have hF17 := h.evo0 hw14
      skip
      refine aC rfl (cI rfl rfl (by simp only [cN, bQ, cM, dH, bap, bsz, List.length_append, List.length_cons, List.length_nil]; omega)) ?_
      simp only [cN, bQ, cM, dH, bap]
      skip
      refine aC rfl (cI rfl rfl (by simp only [cN, bQ, cM, dH, bap, bsz, List.length_append, List.length_cons, List.length_nil]; omega)) ?_
      simp only [cN, bQ, cM, dH, bap]
      refine aM (vs := [_, _]) bZ rfl (cW hF17 (m := [123] ++ jA lo.toNat ++ [44, 125]) rfl (((cD (by decide +kernel)).app hq1).app (cD (by decide +kernel))) (by first | omega | (simp only [List.length_append]; omega)) (by simp only [List.length_append, List.length_cons, List.length_nil]; omega)) rfl ?_
      rintro _ w18 ⟨obw1, hBDw1, hw19, hnb1⟩; have hV9 := hE15; have hV90 := hE16; have hN1 := cY (Or.inl rfl) hnb1 hV9.size; have hU1 := dM huo hV90.size hnb1; have hE20 := hE15.step hw19 (cZ (Or.inl rfl)); refine aD (bB (cE rfl ?_))
      exact eB hBDw1 (by unfold jP; rw [if_neg (by omega), if_neg (by omega), if_neg (by omega), if_pos (by omega)]) hE20 hN1
     refine aE (aB (aG (aG (aC rfl (bE rfl rfl) ?_)))); refine aN (aD (aA (bI rfl (fun hc52 => ?_) (fun hc52 => ?_))))
     ·skip
      refine aB (aG (aG ?_)); refine aM (vs := [_]) cV rfl (eT (hG.evo0 hE0) lo (by omega) (by omega)) rfl ?_; rintro _ w22 ⟨rfl, hw23⟩; have hE24 := (Evo.refl (b :: ob.toList) w).then hw23; have hE25 := hE0.then hw23; have hF26 := h.evo0 hw23
      skip
      refine aC rfl (cI rfl rfl (by simp only [cN, bQ, cM, dH, bap, bsz, List.length_append, List.length_cons, List.length_nil]; omega)) ?_
      simp only [cN, bQ, cM, dH, bap]
      skip
      refine aC rfl (cI rfl rfl (by simp only [cN, bQ, cM, dH, bap, bsz, List.length_append, List.length_cons, List.length_nil]; omega)) ?_
      simp only [cN, bQ, cM, dH, bap]
      refine aM (vs := [_, _]) bZ rfl (cW hF26 (m := [123] ++ jA lo.toNat ++ [125]) rfl (((cD (by decide +kernel)).app hq1).app (cD (by decide +kernel))) (by first | omega | (simp only [List.length_append]; omega)) (by simp only [List.length_append, List.length_cons, List.length_nil]; omega)) rfl ?_
      rintro _ w27 ⟨obw1, hBDw1, hw28, hnb1⟩; have hV9 := hE24; have hV90 := hE25; have hN1 := cY (Or.inl rfl) hnb1 hV9.size; have hU1 := dM huo hV90.size hnb1; have hE29 := hE24.step hw28 (cZ (Or.inl rfl)); refine aD (bB (cE rfl ?_))
      exact eB hBDw1 (by unfold jP; rw [if_neg (by omega), if_neg (by omega), if_neg (by omega), if_neg (by omega), if_pos (by omega)]) hE29 hN1
     have hd3 := hd2 (by omega); refine aB (aG (aG ?_)); refine aM (vs := [_]) cV rfl (eT (hG.evo0 hE0) lo (by omega) (by omega)) rfl ?_; rintro _ w31 ⟨rfl, hw32⟩; have hE33 := (Evo.refl (b :: ob.toList) w).then hw32; have hE34 := hE0.then hw32; have hF35 := h.evo0 hw32
     skip
     refine aC rfl (cI rfl rfl (by simp only [cN, bQ, cM, dH, bap, bsz, List.length_append, List.length_cons, List.length_nil]; omega)) ?_
     simp only [cN, bQ, cM, dH, bap]
     skip
     refine aC rfl (cI rfl rfl (by simp only [cN, bQ, cM, dH, bap, bsz, List.length_append, List.length_cons, List.length_nil]; omega)) ?_
     simp only [cN, bQ, cM, dH, bap]; refine aG ?_; refine aM (vs := [_]) cV rfl (eT (hG.evo0 hE34) hi (by omega) (by omega)) rfl ?_; rintro _ w36 ⟨rfl, hw37⟩; have hE38 := hE33.then hw37; have hE39 := hE34.then hw37; have hF40 := hF35.evo0 hw37
     skip
     refine aC rfl (cI rfl rfl (by simp only [cN, bQ, cM, dH, bap, bsz, List.length_append, List.length_cons, List.length_nil]; omega)) ?_
     simp only [cN, bQ, cM, dH, bap]
     skip
     refine aC rfl (cI rfl rfl (by simp only [cN, bQ, cM, dH, bap, bsz, List.length_append, List.length_cons, List.length_nil]; omega)) ?_
     simp only [cN, bQ, cM, dH, bap]
     refine aM (vs := [_, _]) bZ rfl (cW hF40 (m := [123] ++ jA lo.toNat ++ [44] ++ jA hi.toNat ++ [125]) rfl (((((cD (by decide +kernel)).app hq1).app (cD (by decide +kernel))).app hq2).app (cD (by decide +kernel))) (by first | omega | (simp only [List.length_append]; omega)) (by simp only [List.length_append, List.length_cons, List.length_nil]; omega)) rfl ?_
     rintro _ w41 ⟨obw1, hBDw1, hw42, hnb1⟩; have hV9 := hE38; have hV90 := hE39; have hN1 := cY (Or.inl rfl) hnb1 hV9.size; have hU1 := dM huo hV90.size hnb1; have hE43 := hE38.step hw42 (cZ (Or.inl rfl)); refine aD (bB (cE rfl ?_))
     exact eB hBDw1 (by unfold jP; rw [if_neg (by omega), if_neg (by omega), if_neg (by omega), if_neg (by omega), if_neg (by omega)]) hE43 hN1
    refine aH (aH (aU (aN (aD (aA (cK rfl ?_)))))); refine aE (aB (aG (aC rfl (bE rfl rfl) ?_))); refine aN (aD (aA (bI rfl (fun hc43 => ?_) (fun hc43 => ?_))))
    ·skip
     refine aB (aG (aG ?_)); refine aM (vs := [_]) cV rfl (eT (hG.evo0 hE0) lo (by omega) (by omega)) rfl ?_; rintro _ w45 ⟨rfl, hw46⟩; have hE47 := (Evo.refl (b :: ob.toList) w).then hw46; have hE48 := hE0.then hw46; have hF49 := h.evo0 hw46
     skip
     refine aC rfl (cI rfl rfl (by simp only [cN, bQ, cM, dH, bap, bsz, List.length_append, List.length_cons, List.length_nil]; omega)) ?_
     simp only [cN, bQ, cM, dH, bap]
     skip
     refine aC rfl (cI rfl rfl (by simp only [cN, bQ, cM, dH, bap, bsz, List.length_append, List.length_cons, List.length_nil]; omega)) ?_
     simp only [cN, bQ, cM, dH, bap]
     refine aM (vs := [_, _]) bZ rfl (cW hF49 (m := [123] ++ jA lo.toNat ++ [44, 125]) rfl (((cD (by decide +kernel)).app hq1).app (cD (by decide +kernel))) (by first | omega | (simp only [List.length_append]; omega)) (by simp only [List.length_append, List.length_cons, List.length_nil]; omega)) rfl ?_
     rintro _ w50 ⟨obw1, hBDw1, hw51, hnb1⟩; have hV9 := hE47; have hV90 := hE48; have hN1 := cY (Or.inl rfl) hnb1 hV9.size; have hU1 := dM huo hV90.size hnb1; have hE52 := hE47.step hw51 (cZ (Or.inl rfl)); refine aD (bB (cE rfl ?_))
     exact eB hBDw1 (by unfold jP; rw [if_neg (by omega), if_neg (by omega), if_neg (by omega), if_pos (by omega)]) hE52 hN1
    refine aE (aB (aG (aG (aC rfl (bE rfl rfl) ?_)))); refine aN (aD (aA (bI rfl (fun hc52 => ?_) (fun hc52 => ?_))))
    ·skip
     refine aB (aG (aG ?_)); refine aM (vs := [_]) cV rfl (eT (hG.evo0 hE0) lo (by omega) (by omega)) rfl ?_; rintro _ w54 ⟨rfl, hw55⟩; have hE56 := (Evo.refl (b :: ob.toList) w).then hw55; have hE57 := hE0.then hw55; have hF58 := h.evo0 hw55
     skip
     refine aC rfl (cI rfl rfl (by simp only [cN, bQ, cM, dH, bap, bsz, List.length_append, List.length_cons, List.length_nil]; omega)) ?_
     simp only [cN, bQ, cM, dH, bap]
     skip
     refine aC rfl (cI rfl rfl (by simp only [cN, bQ, cM, dH, bap, bsz, List.length_append, List.length_cons, List.length_nil]; omega)) ?_
     simp only [cN, bQ, cM, dH, bap]
     refine aM (vs := [_, _]) bZ rfl (cW hF58 (m := [123] ++ jA lo.toNat ++ [125]) rfl (((cD (by decide +kernel)).app hq1).app (cD (by decide +kernel))) (by first | omega | (simp only [List.length_append]; omega)) (by simp only [List.length_append, List.length_cons, List.length_nil]; omega)) rfl ?_
     rintro _ w59 ⟨obw1, hBDw1, hw60, hnb1⟩; have hV9 := hE56; have hV90 := hE57; have hN1 := cY (Or.inl rfl) hnb1 hV9.size; have hU1 := dM huo hV90.size hnb1; have hE61 := hE56.step hw60 (cZ (Or.inl rfl)); refine aD (bB (cE rfl ?_))
     exact eB hBDw1 (by unfold jP; rw [if_neg (by omega), if_neg (by omega), if_neg (by omega), if_neg (by omega), if_pos (by omega)]) hE61 hN1
    have hd3 := hd2 (by omega); refine aB (aG (aG ?_)); refine aM (vs := [_]) cV rfl (eT (hG.evo0 hE0) lo (by omega) (by omega)) rfl ?_; rintro _ w63 ⟨rfl, hw64⟩; have hE65 := (Evo.refl (b :: ob.toList) w).then hw64; have hE66 := hE0.then hw64; have hF67 := h.evo0 hw64
    skip
    refine aC rfl (cI rfl rfl (by simp only [cN, bQ, cM, dH, bap, bsz, List.length_append, List.length_cons, List.length_nil]; omega)) ?_
    simp only [cN, bQ, cM, dH, bap]
    skip
    refine aC rfl (cI rfl rfl (by simp only [cN, bQ, cM, dH, bap, bsz, List.length_append, List.length_cons, List.length_nil]; omega)) ?_
    simp only [cN, bQ, cM, dH, bap]; refine aG ?_; refine aM (vs := [_]) cV rfl (eT (hG.evo0 hE66) hi (by omega) (by omega)) rfl ?_; rintro _ w68 ⟨rfl, hw69⟩; have hE70 := hE65.then hw69; have hE71 := hE66.then hw69; have hF72 := hF67.evo0 hw69
    skip
    refine aC rfl (cI rfl rfl (by simp only [cN, bQ, cM, dH, bap, bsz, List.length_append, List.length_cons, List.length_nil]; omega)) ?_
    simp only [cN, bQ, cM, dH, bap]
    skip
    refine aC rfl (cI rfl rfl (by simp only [cN, bQ, cM, dH, bap, bsz, List.length_append, List.length_cons, List.length_nil]; omega)) ?_
    simp only [cN, bQ, cM, dH, bap]
    refine aM (vs := [_, _]) bZ rfl (cW hF72 (m := [123] ++ jA lo.toNat ++ [44] ++ jA hi.toNat ++ [125]) rfl (((((cD (by decide +kernel)).app hq1).app (cD (by decide +kernel))).app hq2).app (cD (by decide +kernel))) (by first | omega | (simp only [List.length_append]; omega)) (by simp only [List.length_append, List.length_cons, List.length_nil]; omega)) rfl ?_
    rintro _ w73 ⟨obw1, hBDw1, hw74, hnb1⟩; have hV9 := hE70; have hV90 := hE71; have hN1 := cY (Or.inl rfl) hnb1 hV9.size; have hU1 := dM huo hV90.size hnb1; have hE75 := hE70.step hw74 (cZ (Or.inl rfl)); refine aD (bB (cE rfl ?_))
    exact eB hBDw1 (by unfold jP; rw [if_neg (by omega), if_neg (by omega), if_neg (by omega), if_neg (by omega), if_neg (by omega)]) hE75 hN1
   refine aH (aH (aU (aN (aD (aA (cK rfl ?_)))))); refine aE (aB (aG (aC rfl (bE rfl rfl) ?_))); refine aG (aX (t := 37) rfl (fun hs37 => ?_) (fun hs37 => ?_))
   ·skip
    refine aR (aG (aR (aC rfl (bE rfl rfl) ?_))); refine bL (aN (aD (aA (bI rfl (fun hc34 => ?_) (fun hc34 => ?_)))))
    ·skip
     refine aB (aG ?_)
     refine aM (vs := [_, _]) bZ rfl (cW h (m := [63]) (by decide +kernel) (cD (by decide +kernel)) (by first | omega | (simp only [List.length_append]; omega)) (by decide)) rfl ?_
     rintro _ w77 ⟨obw1, hBDw1, hw78, hnb1⟩; have hV9 := (Evo.refl (b :: ob.toList) w); have hV90 := hE0; have hN1 := cY (Or.inl rfl) hnb1 hV9.size; have hU1 := dM huo hV90.size hnb1; have hE79 := (Evo.refl (b :: ob.toList) w).step hw78 (cZ (Or.inl rfl)); refine aD (bB (cE rfl ?_))
     exact eB hBDw1 (by unfold jP; rw [if_neg (by omega), if_neg (by omega), if_pos (by omega)]) hE79 hN1
    refine aE (aB (aG (aC rfl (bE rfl rfl) ?_))); refine aN (aD (aA (bI rfl (fun hc43 => ?_) (fun hc43 => ?_))))
    ·skip
     refine aB (aG (aG ?_)); refine aM (vs := [_]) cV rfl (eT (hG.evo0 hE0) lo (by omega) (by omega)) rfl ?_; rintro _ w81 ⟨rfl, hw82⟩; have hE83 := (Evo.refl (b :: ob.toList) w).then hw82; have hE84 := hE0.then hw82; have hF85 := h.evo0 hw82
     skip
     refine aC rfl (cI rfl rfl (by simp only [cN, bQ, cM, dH, bap, bsz, List.length_append, List.length_cons, List.length_nil]; omega)) ?_
     simp only [cN, bQ, cM, dH, bap]
     skip
     refine aC rfl (cI rfl rfl (by simp only [cN, bQ, cM, dH, bap, bsz, List.length_append, List.length_cons, List.length_nil]; omega)) ?_
     simp only [cN, bQ, cM, dH, bap]
     refine aM (vs := [_, _]) bZ rfl (cW hF85 (m := [123] ++ jA lo.toNat ++ [44, 125]) rfl (((cD (by decide +kernel)).app hq1).app (cD (by decide +kernel))) (by first | omega | (simp only [List.length_append]; omega)) (by simp only [List.length_append, List.length_cons, List.length_nil]; omega)) rfl ?_
     rintro _ w86 ⟨obw1, hBDw1, hw87, hnb1⟩; have hV9 := hE83; have hV90 := hE84; have hN1 := cY (Or.inl rfl) hnb1 hV9.size; have hU1 := dM huo hV90.size hnb1; have hE88 := hE83.step hw87 (cZ (Or.inl rfl)); refine aD (bB (cE rfl ?_))
     exact eB hBDw1 (by unfold jP; rw [if_neg (by omega), if_neg (by omega), if_neg (by omega), if_pos (by omega)]) hE88 hN1
    refine aE (aB (aG (aG (aC rfl (bE rfl rfl) ?_)))); refine aN (aD (aA (bI rfl (fun hc52 => ?_) (fun hc52 => ?_))))
    ·skip
     refine aB (aG (aG ?_)); refine aM (vs := [_]) cV rfl (eT (hG.evo0 hE0) lo (by omega) (by omega)) rfl ?_; rintro _ w90 ⟨rfl, hw91⟩; have hE92 := (Evo.refl (b :: ob.toList) w).then hw91; have hE93 := hE0.then hw91; have hF94 := h.evo0 hw91
     skip
     refine aC rfl (cI rfl rfl (by simp only [cN, bQ, cM, dH, bap, bsz, List.length_append, List.length_cons, List.length_nil]; omega)) ?_
     simp only [cN, bQ, cM, dH, bap]
     skip
     refine aC rfl (cI rfl rfl (by simp only [cN, bQ, cM, dH, bap, bsz, List.length_append, List.length_cons, List.length_nil]; omega)) ?_
     simp only [cN, bQ, cM, dH, bap]
     refine aM (vs := [_, _]) bZ rfl (cW hF94 (m := [123] ++ jA lo.toNat ++ [125]) rfl (((cD (by decide +kernel)).app hq1).app (cD (by decide +kernel))) (by first | omega | (simp only [List.length_append]; omega)) (by simp only [List.length_append, List.length_cons, List.length_nil]; omega)) rfl ?_
     rintro _ w95 ⟨obw1, hBDw1, hw96, hnb1⟩; have hV9 := hE92; have hV90 := hE93; have hN1 := cY (Or.inl rfl) hnb1 hV9.size; have hU1 := dM huo hV90.size hnb1; have hE97 := hE92.step hw96 (cZ (Or.inl rfl)); refine aD (bB (cE rfl ?_))
     exact eB hBDw1 (by unfold jP; rw [if_neg (by omega), if_neg (by omega), if_neg (by omega), if_neg (by omega), if_pos (by omega)]) hE97 hN1
    have hd3 := hd2 (by omega); refine aB (aG (aG ?_)); refine aM (vs := [_]) cV rfl (eT (hG.evo0 hE0) lo (by omega) (by omega)) rfl ?_; rintro _ w99 ⟨rfl, hw100⟩; have hE101 := (Evo.refl (b :: ob.toList) w).then hw100; have hE102 := hE0.then hw100; have hF103 := h.evo0 hw100
    skip
    refine aC rfl (cI rfl rfl (by simp only [cN, bQ, cM, dH, bap, bsz, List.length_append, List.length_cons, List.length_nil]; omega)) ?_
    simp only [cN, bQ, cM, dH, bap]
    skip
    refine aC rfl (cI rfl rfl (by simp only [cN, bQ, cM, dH, bap, bsz, List.length_append, List.length_cons, List.length_nil]; omega)) ?_
    simp only [cN, bQ, cM, dH, bap]; refine aG ?_; refine aM (vs := [_]) cV rfl (eT (hG.evo0 hE102) hi (by omega) (by omega)) rfl ?_; rintro _ w104 ⟨rfl, hw105⟩; have hE106 := hE101.then hw105; have hE107 := hE102.then hw105; have hF108 := hF103.evo0 hw105
    skip
    refine aC rfl (cI rfl rfl (by simp only [cN, bQ, cM, dH, bap, bsz, List.length_append, List.length_cons, List.length_nil]; omega)) ?_
    simp only [cN, bQ, cM, dH, bap]
    skip
    refine aC rfl (cI rfl rfl (by simp only [cN, bQ, cM, dH, bap, bsz, List.length_append, List.length_cons, List.length_nil]; omega)) ?_
    simp only [cN, bQ, cM, dH, bap]
    refine aM (vs := [_, _]) bZ rfl (cW hF108 (m := [123] ++ jA lo.toNat ++ [44] ++ jA hi.toNat ++ [125]) rfl (((((cD (by decide +kernel)).app hq1).app (cD (by decide +kernel))).app hq2).app (cD (by decide +kernel))) (by first | omega | (simp only [List.length_append]; omega)) (by simp only [List.length_append, List.length_cons, List.length_nil]; omega)) rfl ?_
    rintro _ w109 ⟨obw1, hBDw1, hw110, hnb1⟩; have hV9 := hE106; have hV90 := hE107; have hN1 := cY (Or.inl rfl) hnb1 hV9.size; have hU1 := dM huo hV90.size hnb1; have hE111 := hE106.step hw110 (cZ (Or.inl rfl)); refine aD (bB (cE rfl ?_))
    exact eB hBDw1 (by unfold jP; rw [if_neg (by omega), if_neg (by omega), if_neg (by omega), if_neg (by omega), if_neg (by omega)]) hE111 hN1
   refine aH (aH (aU (aN (aD (aA (cK rfl ?_)))))); refine aE (aB (aG (aC rfl (bE rfl rfl) ?_))); refine aN (aD (aA (bI rfl (fun hc43 => ?_) (fun hc43 => ?_))))
   ·skip
    refine aB (aG (aG ?_)); refine aM (vs := [_]) cV rfl (eT (hG.evo0 hE0) lo (by omega) (by omega)) rfl ?_; rintro _ w113 ⟨rfl, hw114⟩; have hE115 := (Evo.refl (b :: ob.toList) w).then hw114; have hE116 := hE0.then hw114; have hF117 := h.evo0 hw114
    skip
    refine aC rfl (cI rfl rfl (by simp only [cN, bQ, cM, dH, bap, bsz, List.length_append, List.length_cons, List.length_nil]; omega)) ?_
    simp only [cN, bQ, cM, dH, bap]
    skip
    refine aC rfl (cI rfl rfl (by simp only [cN, bQ, cM, dH, bap, bsz, List.length_append, List.length_cons, List.length_nil]; omega)) ?_
    simp only [cN, bQ, cM, dH, bap]
    refine aM (vs := [_, _]) bZ rfl (cW hF117 (m := [123] ++ jA lo.toNat ++ [44, 125]) rfl (((cD (by decide +kernel)).app hq1).app (cD (by decide +kernel))) (by first | omega | (simp only [List.length_append]; omega)) (by simp only [List.length_append, List.length_cons, List.length_nil]; omega)) rfl ?_
    rintro _ w118 ⟨obw1, hBDw1, hw119, hnb1⟩; have hV9 := hE115; have hV90 := hE116; have hN1 := cY (Or.inl rfl) hnb1 hV9.size; have hU1 := dM huo hV90.size hnb1; have hE120 := hE115.step hw119 (cZ (Or.inl rfl)); refine aD (bB (cE rfl ?_))
    exact eB hBDw1 (by unfold jP; rw [if_neg (by omega), if_neg (by omega), if_neg (by omega), if_pos (by omega)]) hE120 hN1
   refine aE (aB (aG (aG (aC rfl (bE rfl rfl) ?_)))); refine aN (aD (aA (bI rfl (fun hc52 => ?_) (fun hc52 => ?_))))
   ·skip
    refine aB (aG (aG ?_)); refine aM (vs := [_]) cV rfl (eT (hG.evo0 hE0) lo (by omega) (by omega)) rfl ?_; rintro _ w122 ⟨rfl, hw123⟩; have hE124 := (Evo.refl (b :: ob.toList) w).then hw123; have hE125 := hE0.then hw123; have hF126 := h.evo0 hw123
    skip
    refine aC rfl (cI rfl rfl (by simp only [cN, bQ, cM, dH, bap, bsz, List.length_append, List.length_cons, List.length_nil]; omega)) ?_
    simp only [cN, bQ, cM, dH, bap]
    skip
    refine aC rfl (cI rfl rfl (by simp only [cN, bQ, cM, dH, bap, bsz, List.length_append, List.length_cons, List.length_nil]; omega)) ?_
    simp only [cN, bQ, cM, dH, bap]
    refine aM (vs := [_, _]) bZ rfl (cW hF126 (m := [123] ++ jA lo.toNat ++ [125]) rfl (((cD (by decide +kernel)).app hq1).app (cD (by decide +kernel))) (by first | omega | (simp only [List.length_append]; omega)) (by simp only [List.length_append, List.length_cons, List.length_nil]; omega)) rfl ?_
    rintro _ w127 ⟨obw1, hBDw1, hw128, hnb1⟩; have hV9 := hE124; have hV90 := hE125; have hN1 := cY (Or.inl rfl) hnb1 hV9.size; have hU1 := dM huo hV90.size hnb1; have hE129 := hE124.step hw128 (cZ (Or.inl rfl)); refine aD (bB (cE rfl ?_))
    exact eB hBDw1 (by unfold jP; rw [if_neg (by omega), if_neg (by omega), if_neg (by omega), if_neg (by omega), if_pos (by omega)]) hE129 hN1
   have hd3 := hd2 (by omega); refine aB (aG (aG ?_)); refine aM (vs := [_]) cV rfl (eT (hG.evo0 hE0) lo (by omega) (by omega)) rfl ?_; rintro _ w131 ⟨rfl, hw132⟩; have hE133 := (Evo.refl (b :: ob.toList) w).then hw132; have hE134 := hE0.then hw132; have hF135 := h.evo0 hw132
   skip
   refine aC rfl (cI rfl rfl (by simp only [cN, bQ, cM, dH, bap, bsz, List.length_append, List.length_cons, List.length_nil]; omega)) ?_
   simp only [cN, bQ, cM, dH, bap]
   skip
   refine aC rfl (cI rfl rfl (by simp only [cN, bQ, cM, dH, bap, bsz, List.length_append, List.length_cons, List.length_nil]; omega)) ?_
   simp only [cN, bQ, cM, dH, bap]; refine aG ?_; refine aM (vs := [_]) cV rfl (eT (hG.evo0 hE134) hi (by omega) (by omega)) rfl ?_; rintro _ w136 ⟨rfl, hw137⟩; have hE138 := hE133.then hw137; have hE139 := hE134.then hw137; have hF140 := hF135.evo0 hw137
   skip
   refine aC rfl (cI rfl rfl (by simp only [cN, bQ, cM, dH, bap, bsz, List.length_append, List.length_cons, List.length_nil]; omega)) ?_
   simp only [cN, bQ, cM, dH, bap]
   skip
   refine aC rfl (cI rfl rfl (by simp only [cN, bQ, cM, dH, bap, bsz, List.length_append, List.length_cons, List.length_nil]; omega)) ?_
   simp only [cN, bQ, cM, dH, bap]
   refine aM (vs := [_, _]) bZ rfl (cW hF140 (m := [123] ++ jA lo.toNat ++ [44] ++ jA hi.toNat ++ [125]) rfl (((((cD (by decide +kernel)).app hq1).app (cD (by decide +kernel))).app hq2).app (cD (by decide +kernel))) (by first | omega | (simp only [List.length_append]; omega)) (by simp only [List.length_append, List.length_cons, List.length_nil]; omega)) rfl ?_
   rintro _ w141 ⟨obw1, hBDw1, hw142, hnb1⟩; have hV9 := hE138; have hV90 := hE139; have hN1 := cY (Or.inl rfl) hnb1 hV9.size; have hU1 := dM huo hV90.size hnb1; have hE143 := hE138.step hw142 (cZ (Or.inl rfl)); refine aD (bB (cE rfl ?_))
   exact eB hBDw1 (by unfold jP; rw [if_neg (by omega), if_neg (by omega), if_neg (by omega), if_neg (by omega), if_neg (by omega)]) hE143 hN1
  refine aH (aH (aU (aN (aD (aA (cK rfl ?_)))))); refine aE (aB (aG (aC rfl (bE rfl rfl) ?_))); refine aG (aX (t := 28) rfl (fun hs28 => ?_) (fun hs28 => ?_))
  ·skip
   refine aR (aG (aR (aC rfl (bE rfl rfl) ?_))); refine bL (aN (aD (aA (bI rfl (fun hc25 => ?_) (fun hc25 => ?_)))))
   ·skip
    refine aB (aG ?_)
    refine aM (vs := [_, _]) bZ rfl (cW h (m := [43]) (by decide +kernel) (cD (by decide +kernel)) (by first | omega | (simp only [List.length_append]; omega)) (by decide)) rfl ?_
    rintro _ w145 ⟨obw1, hBDw1, hw146, hnb1⟩; have hV9 := (Evo.refl (b :: ob.toList) w); have hV90 := hE0; have hN1 := cY (Or.inl rfl) hnb1 hV9.size; have hU1 := dM huo hV90.size hnb1; have hE147 := (Evo.refl (b :: ob.toList) w).step hw146 (cZ (Or.inl rfl)); refine aD (bB (cE rfl ?_))
    exact eB hBDw1 (by unfold jP; rw [if_neg (by omega), if_pos (by omega)]) hE147 hN1
   refine aE (aB (aG (aC rfl (bE rfl rfl) ?_))); refine aG (aX (t := 37) rfl (fun hs37 => ?_) (fun hs37 => ?_))
   ·skip
    refine aR (aG (aR (aC rfl (bE rfl rfl) ?_))); refine bL (aN (aD (aA (bI rfl (fun hc34 => ?_) (fun hc34 => ?_)))))
    ·skip
     refine aB (aG ?_)
     refine aM (vs := [_, _]) bZ rfl (cW h (m := [63]) (by decide +kernel) (cD (by decide +kernel)) (by first | omega | (simp only [List.length_append]; omega)) (by decide)) rfl ?_
     rintro _ w149 ⟨obw1, hBDw1, hw150, hnb1⟩; have hV9 := (Evo.refl (b :: ob.toList) w); have hV90 := hE0; have hN1 := cY (Or.inl rfl) hnb1 hV9.size; have hU1 := dM huo hV90.size hnb1; have hE151 := (Evo.refl (b :: ob.toList) w).step hw150 (cZ (Or.inl rfl)); refine aD (bB (cE rfl ?_))
     exact eB hBDw1 (by unfold jP; rw [if_neg (by omega), if_neg (by omega), if_pos (by omega)]) hE151 hN1
    refine aE (aB (aG (aC rfl (bE rfl rfl) ?_))); refine aN (aD (aA (bI rfl (fun hc43 => ?_) (fun hc43 => ?_))))
    ·skip
     refine aB (aG (aG ?_)); refine aM (vs := [_]) cV rfl (eT (hG.evo0 hE0) lo (by omega) (by omega)) rfl ?_; rintro _ w153 ⟨rfl, hw154⟩; have hE155 := (Evo.refl (b :: ob.toList) w).then hw154; have hE156 := hE0.then hw154; have hF157 := h.evo0 hw154
     skip
     refine aC rfl (cI rfl rfl (by simp only [cN, bQ, cM, dH, bap, bsz, List.length_append, List.length_cons, List.length_nil]; omega)) ?_
     simp only [cN, bQ, cM, dH, bap]
     skip
     refine aC rfl (cI rfl rfl (by simp only [cN, bQ, cM, dH, bap, bsz, List.length_append, List.length_cons, List.length_nil]; omega)) ?_
     simp only [cN, bQ, cM, dH, bap]
     refine aM (vs := [_, _]) bZ rfl (cW hF157 (m := [123] ++ jA lo.toNat ++ [44, 125]) rfl (((cD (by decide +kernel)).app hq1).app (cD (by decide +kernel))) (by first | omega | (simp only [List.length_append]; omega)) (by simp only [List.length_append, List.length_cons, List.length_nil]; omega)) rfl ?_
     rintro _ w158 ⟨obw1, hBDw1, hw159, hnb1⟩; have hV9 := hE155; have hV90 := hE156; have hN1 := cY (Or.inl rfl) hnb1 hV9.size; have hU1 := dM huo hV90.size hnb1; have hE160 := hE155.step hw159 (cZ (Or.inl rfl)); refine aD (bB (cE rfl ?_))
     exact eB hBDw1 (by unfold jP; rw [if_neg (by omega), if_neg (by omega), if_neg (by omega), if_pos (by omega)]) hE160 hN1
    refine aE (aB (aG (aG (aC rfl (bE rfl rfl) ?_)))); refine aN (aD (aA (bI rfl (fun hc52 => ?_) (fun hc52 => ?_))))
    ·skip
     refine aB (aG (aG ?_)); refine aM (vs := [_]) cV rfl (eT (hG.evo0 hE0) lo (by omega) (by omega)) rfl ?_; rintro _ w162 ⟨rfl, hw163⟩; have hE164 := (Evo.refl (b :: ob.toList) w).then hw163; have hE165 := hE0.then hw163; have hF166 := h.evo0 hw163
     skip
     refine aC rfl (cI rfl rfl (by simp only [cN, bQ, cM, dH, bap, bsz, List.length_append, List.length_cons, List.length_nil]; omega)) ?_
     simp only [cN, bQ, cM, dH, bap]
     skip
     refine aC rfl (cI rfl rfl (by simp only [cN, bQ, cM, dH, bap, bsz, List.length_append, List.length_cons, List.length_nil]; omega)) ?_
     simp only [cN, bQ, cM, dH, bap]
     refine aM (vs := [_, _]) bZ rfl (cW hF166 (m := [123] ++ jA lo.toNat ++ [125]) rfl (((cD (by decide +kernel)).app hq1).app (cD (by decide +kernel))) (by first | omega | (simp only [List.length_append]; omega)) (by simp only [List.length_append, List.length_cons, List.length_nil]; omega)) rfl ?_
     rintro _ w167 ⟨obw1, hBDw1, hw168, hnb1⟩; have hV9 := hE164; have hV90 := hE165; have hN1 := cY (Or.inl rfl) hnb1 hV9.size; have hU1 := dM huo hV90.size hnb1; have hE169 := hE164.step hw168 (cZ (Or.inl rfl)); refine aD (bB (cE rfl ?_))
     exact eB hBDw1 (by unfold jP; rw [if_neg (by omega), if_neg (by omega), if_neg (by omega), if_neg (by omega), if_pos (by omega)]) hE169 hN1
    have hd3 := hd2 (by omega); refine aB (aG (aG ?_)); refine aM (vs := [_]) cV rfl (eT (hG.evo0 hE0) lo (by omega) (by omega)) rfl ?_; rintro _ w171 ⟨rfl, hw172⟩; have hE173 := (Evo.refl (b :: ob.toList) w).then hw172; have hE174 := hE0.then hw172; have hF175 := h.evo0 hw172
    skip
    refine aC rfl (cI rfl rfl (by simp only [cN, bQ, cM, dH, bap, bsz, List.length_append, List.length_cons, List.length_nil]; omega)) ?_
    simp only [cN, bQ, cM, dH, bap]
    skip
    refine aC rfl (cI rfl rfl (by simp only [cN, bQ, cM, dH, bap, bsz, List.length_append, List.length_cons, List.length_nil]; omega)) ?_
    simp only [cN, bQ, cM, dH, bap]; refine aG ?_; refine aM (vs := [_]) cV rfl (eT (hG.evo0 hE174) hi (by omega) (by omega)) rfl ?_; rintro _ w176 ⟨rfl, hw177⟩; have hE178 := hE173.then hw177; have hE179 := hE174.then hw177; have hF180 := hF175.evo0 hw177
    skip
    refine aC rfl (cI rfl rfl (by simp only [cN, bQ, cM, dH, bap, bsz, List.length_append, List.length_cons, List.length_nil]; omega)) ?_
    simp only [cN, bQ, cM, dH, bap]
    skip
    refine aC rfl (cI rfl rfl (by simp only [cN, bQ, cM, dH, bap, bsz, List.length_append, List.length_cons, List.length_nil]; omega)) ?_
    simp only [cN, bQ, cM, dH, bap]
    refine aM (vs := [_, _]) bZ rfl (cW hF180 (m := [123] ++ jA lo.toNat ++ [44] ++ jA hi.toNat ++ [125]) rfl (((((cD (by decide +kernel)).app hq1).app (cD (by decide +kernel))).app hq2).app (cD (by decide +kernel))) (by first | omega | (simp only [List.length_append]; omega)) (by simp only [List.length_append, List.length_cons, List.length_nil]; omega)) rfl ?_
    rintro _ w181 ⟨obw1, hBDw1, hw182, hnb1⟩; have hV9 := hE178; have hV90 := hE179; have hN1 := cY (Or.inl rfl) hnb1 hV9.size; have hU1 := dM huo hV90.size hnb1; have hE183 := hE178.step hw182 (cZ (Or.inl rfl)); refine aD (bB (cE rfl ?_))
    exact eB hBDw1 (by unfold jP; rw [if_neg (by omega), if_neg (by omega), if_neg (by omega), if_neg (by omega), if_neg (by omega)]) hE183 hN1
   refine aH (aH (aU (aN (aD (aA (cK rfl ?_)))))); refine aE (aB (aG (aC rfl (bE rfl rfl) ?_))); refine aN (aD (aA (bI rfl (fun hc43 => ?_) (fun hc43 => ?_))))
   ·skip
    refine aB (aG (aG ?_)); refine aM (vs := [_]) cV rfl (eT (hG.evo0 hE0) lo (by omega) (by omega)) rfl ?_; rintro _ w185 ⟨rfl, hw186⟩; have hE187 := (Evo.refl (b :: ob.toList) w).then hw186; have hE188 := hE0.then hw186; have hF189 := h.evo0 hw186
    skip
    refine aC rfl (cI rfl rfl (by simp only [cN, bQ, cM, dH, bap, bsz, List.length_append, List.length_cons, List.length_nil]; omega)) ?_
    simp only [cN, bQ, cM, dH, bap]
    skip
    refine aC rfl (cI rfl rfl (by simp only [cN, bQ, cM, dH, bap, bsz, List.length_append, List.length_cons, List.length_nil]; omega)) ?_
    simp only [cN, bQ, cM, dH, bap]
    refine aM (vs := [_, _]) bZ rfl (cW hF189 (m := [123] ++ jA lo.toNat ++ [44, 125]) rfl (((cD (by decide +kernel)).app hq1).app (cD (by decide +kernel))) (by first | omega | (simp only [List.length_append]; omega)) (by simp only [List.length_append, List.length_cons, List.length_nil]; omega)) rfl ?_
    rintro _ w190 ⟨obw1, hBDw1, hw191, hnb1⟩; have hV9 := hE187; have hV90 := hE188; have hN1 := cY (Or.inl rfl) hnb1 hV9.size; have hU1 := dM huo hV90.size hnb1; have hE192 := hE187.step hw191 (cZ (Or.inl rfl)); refine aD (bB (cE rfl ?_))
    exact eB hBDw1 (by unfold jP; rw [if_neg (by omega), if_neg (by omega), if_neg (by omega), if_pos (by omega)]) hE192 hN1
   refine aE (aB (aG (aG (aC rfl (bE rfl rfl) ?_)))); refine aN (aD (aA (bI rfl (fun hc52 => ?_) (fun hc52 => ?_))))
   ·skip
    refine aB (aG (aG ?_)); refine aM (vs := [_]) cV rfl (eT (hG.evo0 hE0) lo (by omega) (by omega)) rfl ?_; rintro _ w194 ⟨rfl, hw195⟩; have hE196 := (Evo.refl (b :: ob.toList) w).then hw195; have hE197 := hE0.then hw195; have hF198 := h.evo0 hw195
    skip
    refine aC rfl (cI rfl rfl (by simp only [cN, bQ, cM, dH, bap, bsz, List.length_append, List.length_cons, List.length_nil]; omega)) ?_
    simp only [cN, bQ, cM, dH, bap]
    skip
    refine aC rfl (cI rfl rfl (by simp only [cN, bQ, cM, dH, bap, bsz, List.length_append, List.length_cons, List.length_nil]; omega)) ?_
    simp only [cN, bQ, cM, dH, bap]
    refine aM (vs := [_, _]) bZ rfl (cW hF198 (m := [123] ++ jA lo.toNat ++ [125]) rfl (((cD (by decide +kernel)).app hq1).app (cD (by decide +kernel))) (by first | omega | (simp only [List.length_append]; omega)) (by simp only [List.length_append, List.length_cons, List.length_nil]; omega)) rfl ?_
    rintro _ w199 ⟨obw1, hBDw1, hw200, hnb1⟩; have hV9 := hE196; have hV90 := hE197; have hN1 := cY (Or.inl rfl) hnb1 hV9.size; have hU1 := dM huo hV90.size hnb1; have hE201 := hE196.step hw200 (cZ (Or.inl rfl)); refine aD (bB (cE rfl ?_))
    exact eB hBDw1 (by unfold jP; rw [if_neg (by omega), if_neg (by omega), if_neg (by omega), if_neg (by omega), if_pos (by omega)]) hE201 hN1
   have hd3 := hd2 (by omega); refine aB (aG (aG ?_)); refine aM (vs := [_]) cV rfl (eT (hG.evo0 hE0) lo (by omega) (by omega)) rfl ?_; rintro _ w203 ⟨rfl, hw204⟩; have hE205 := (Evo.refl (b :: ob.toList) w).then hw204; have hE206 := hE0.then hw204; have hF207 := h.evo0 hw204
   skip
   refine aC rfl (cI rfl rfl (by simp only [cN, bQ, cM, dH, bap, bsz, List.length_append, List.length_cons, List.length_nil]; omega)) ?_
   simp only [cN, bQ, cM, dH, bap]
   skip
   refine aC rfl (cI rfl rfl (by simp only [cN, bQ, cM, dH, bap, bsz, List.length_append, List.length_cons, List.length_nil]; omega)) ?_
   simp only [cN, bQ, cM, dH, bap]; refine aG ?_; refine aM (vs := [_]) cV rfl (eT (hG.evo0 hE206) hi (by omega) (by omega)) rfl ?_; rintro _ w208 ⟨rfl, hw209⟩; have hE210 := hE205.then hw209; have hE211 := hE206.then hw209; have hF212 := hF207.evo0 hw209
   skip
   refine aC rfl (cI rfl rfl (by simp only [cN, bQ, cM, dH, bap, bsz, List.length_append, List.length_cons, List.length_nil]; omega)) ?_
   simp only [cN, bQ, cM, dH, bap]
   skip
   refine aC rfl (cI rfl rfl (by simp only [cN, bQ, cM, dH, bap, bsz, List.length_append, List.length_cons, List.length_nil]; omega)) ?_
   simp only [cN, bQ, cM, dH, bap]
   refine aM (vs := [_, _]) bZ rfl (cW hF212 (m := [123] ++ jA lo.toNat ++ [44] ++ jA hi.toNat ++ [125]) rfl (((((cD (by decide +kernel)).app hq1).app (cD (by decide +kernel))).app hq2).app (cD (by decide +kernel))) (by first | omega | (simp only [List.length_append]; omega)) (by simp only [List.length_append, List.length_cons, List.length_nil]; omega)) rfl ?_
   rintro _ w213 ⟨obw1, hBDw1, hw214, hnb1⟩; have hV9 := hE210; have hV90 := hE211; have hN1 := cY (Or.inl rfl) hnb1 hV9.size; have hU1 := dM huo hV90.size hnb1; have hE215 := hE210.step hw214 (cZ (Or.inl rfl)); refine aD (bB (cE rfl ?_))
   exact eB hBDw1 (by unfold jP; rw [if_neg (by omega), if_neg (by omega), if_neg (by omega), if_neg (by omega), if_neg (by omega)]) hE215 hN1
  refine aH (aH (aU (aN (aD (aA (cK rfl ?_)))))); refine aE (aB (aG (aC rfl (bE rfl rfl) ?_))); refine aG (aX (t := 37) rfl (fun hs37 => ?_) (fun hs37 => ?_))
  ·skip
   refine aR (aG (aR (aC rfl (bE rfl rfl) ?_))); refine bL (aN (aD (aA (bI rfl (fun hc34 => ?_) (fun hc34 => ?_)))))
   ·skip
    refine aB (aG ?_)
    refine aM (vs := [_, _]) bZ rfl (cW h (m := [63]) (by decide +kernel) (cD (by decide +kernel)) (by first | omega | (simp only [List.length_append]; omega)) (by decide)) rfl ?_
    rintro _ w217 ⟨obw1, hBDw1, hw218, hnb1⟩; have hV9 := (Evo.refl (b :: ob.toList) w); have hV90 := hE0; have hN1 := cY (Or.inl rfl) hnb1 hV9.size; have hU1 := dM huo hV90.size hnb1; have hE219 := (Evo.refl (b :: ob.toList) w).step hw218 (cZ (Or.inl rfl)); refine aD (bB (cE rfl ?_))
    exact eB hBDw1 (by unfold jP; rw [if_neg (by omega), if_neg (by omega), if_pos (by omega)]) hE219 hN1
   refine aE (aB (aG (aC rfl (bE rfl rfl) ?_))); refine aN (aD (aA (bI rfl (fun hc43 => ?_) (fun hc43 => ?_))))
   ·skip
    refine aB (aG (aG ?_)); refine aM (vs := [_]) cV rfl (eT (hG.evo0 hE0) lo (by omega) (by omega)) rfl ?_; rintro _ w221 ⟨rfl, hw222⟩; have hE223 := (Evo.refl (b :: ob.toList) w).then hw222; have hE224 := hE0.then hw222; have hF225 := h.evo0 hw222
    skip
    refine aC rfl (cI rfl rfl (by simp only [cN, bQ, cM, dH, bap, bsz, List.length_append, List.length_cons, List.length_nil]; omega)) ?_
    simp only [cN, bQ, cM, dH, bap]
    skip
    refine aC rfl (cI rfl rfl (by simp only [cN, bQ, cM, dH, bap, bsz, List.length_append, List.length_cons, List.length_nil]; omega)) ?_
    simp only [cN, bQ, cM, dH, bap]
    refine aM (vs := [_, _]) bZ rfl (cW hF225 (m := [123] ++ jA lo.toNat ++ [44, 125]) rfl (((cD (by decide +kernel)).app hq1).app (cD (by decide +kernel))) (by first | omega | (simp only [List.length_append]; omega)) (by simp only [List.length_append, List.length_cons, List.length_nil]; omega)) rfl ?_
    rintro _ w226 ⟨obw1, hBDw1, hw227, hnb1⟩; have hV9 := hE223; have hV90 := hE224; have hN1 := cY (Or.inl rfl) hnb1 hV9.size; have hU1 := dM huo hV90.size hnb1; have hE228 := hE223.step hw227 (cZ (Or.inl rfl)); refine aD (bB (cE rfl ?_))
    exact eB hBDw1 (by unfold jP; rw [if_neg (by omega), if_neg (by omega), if_neg (by omega), if_pos (by omega)]) hE228 hN1
   refine aE (aB (aG (aG (aC rfl (bE rfl rfl) ?_)))); refine aN (aD (aA (bI rfl (fun hc52 => ?_) (fun hc52 => ?_))))
   ·skip
    refine aB (aG (aG ?_)); refine aM (vs := [_]) cV rfl (eT (hG.evo0 hE0) lo (by omega) (by omega)) rfl ?_; rintro _ w230 ⟨rfl, hw231⟩; have hE232 := (Evo.refl (b :: ob.toList) w).then hw231; have hE233 := hE0.then hw231; have hF234 := h.evo0 hw231
    skip
    refine aC rfl (cI rfl rfl (by simp only [cN, bQ, cM, dH, bap, bsz, List.length_append, List.length_cons, List.length_nil]; omega)) ?_
    simp only [cN, bQ, cM, dH, bap]
    skip
    refine aC rfl (cI rfl rfl (by simp only [cN, bQ, cM, dH, bap, bsz, List.length_append, List.length_cons, List.length_nil]; omega)) ?_
    simp only [cN, bQ, cM, dH, bap]
    refine aM (vs := [_, _]) bZ rfl (cW hF234 (m := [123] ++ jA lo.toNat ++ [125]) rfl (((cD (by decide +kernel)).app hq1).app (cD (by decide +kernel))) (by first | omega | (simp only [List.length_append]; omega)) (by simp only [List.length_append, List.length_cons, List.length_nil]; omega)) rfl ?_
    rintro _ w235 ⟨obw1, hBDw1, hw236, hnb1⟩; have hV9 := hE232; have hV90 := hE233; have hN1 := cY (Or.inl rfl) hnb1 hV9.size; have hU1 := dM huo hV90.size hnb1; have hE237 := hE232.step hw236 (cZ (Or.inl rfl)); refine aD (bB (cE rfl ?_))
    exact eB hBDw1 (by unfold jP; rw [if_neg (by omega), if_neg (by omega), if_neg (by omega), if_neg (by omega), if_pos (by omega)]) hE237 hN1
   have hd3 := hd2 (by omega); refine aB (aG (aG ?_)); refine aM (vs := [_]) cV rfl (eT (hG.evo0 hE0) lo (by omega) (by omega)) rfl ?_; rintro _ w239 ⟨rfl, hw240⟩; have hE241 := (Evo.refl (b :: ob.toList) w).then hw240; have hE242 := hE0.then hw240; have hF243 := h.evo0 hw240
   skip
   refine aC rfl (cI rfl rfl (by simp only [cN, bQ, cM, dH, bap, bsz, List.length_append, List.length_cons, List.length_nil]; omega)) ?_
   simp only [cN, bQ, cM, dH, bap]
   skip
   refine aC rfl (cI rfl rfl (by simp only [cN, bQ, cM, dH, bap, bsz, List.length_append, List.length_cons, List.length_nil]; omega)) ?_
   simp only [cN, bQ, cM, dH, bap]; refine aG ?_; refine aM (vs := [_]) cV rfl (eT (hG.evo0 hE242) hi (by omega) (by omega)) rfl ?_; rintro _ w244 ⟨rfl, hw245⟩; have hE246 := hE241.then hw245; have hE247 := hE242.then hw245; have hF248 := hF243.evo0 hw245
   skip
   refine aC rfl (cI rfl rfl (by simp only [cN, bQ, cM, dH, bap, bsz, List.length_append, List.length_cons, List.length_nil]; omega)) ?_
   simp only [cN, bQ, cM, dH, bap]
   skip
   refine aC rfl (cI rfl rfl (by simp only [cN, bQ, cM, dH, bap, bsz, List.length_append, List.length_cons, List.length_nil]; omega)) ?_
   simp only [cN, bQ, cM, dH, bap]
   refine aM (vs := [_, _]) bZ rfl (cW hF248 (m := [123] ++ jA lo.toNat ++ [44] ++ jA hi.toNat ++ [125]) rfl (((((cD (by decide +kernel)).app hq1).app (cD (by decide +kernel))).app hq2).app (cD (by decide +kernel))) (by first | omega | (simp only [List.length_append]; omega)) (by simp only [List.length_append, List.length_cons, List.length_nil]; omega)) rfl ?_
   rintro _ w249 ⟨obw1, hBDw1, hw250, hnb1⟩; have hV9 := hE246; have hV90 := hE247; have hN1 := cY (Or.inl rfl) hnb1 hV9.size; have hU1 := dM huo hV90.size hnb1; have hE251 := hE246.step hw250 (cZ (Or.inl rfl)); refine aD (bB (cE rfl ?_))
   exact eB hBDw1 (by unfold jP; rw [if_neg (by omega), if_neg (by omega), if_neg (by omega), if_neg (by omega), if_neg (by omega)]) hE251 hN1
  refine aH (aH (aU (aN (aD (aA (cK rfl ?_)))))); refine aE (aB (aG (aC rfl (bE rfl rfl) ?_))); refine aN (aD (aA (bI rfl (fun hc43 => ?_) (fun hc43 => ?_))))
  ·skip
   refine aB (aG (aG ?_)); refine aM (vs := [_]) cV rfl (eT (hG.evo0 hE0) lo (by omega) (by omega)) rfl ?_; rintro _ w253 ⟨rfl, hw254⟩; have hE255 := (Evo.refl (b :: ob.toList) w).then hw254; have hE256 := hE0.then hw254; have hF257 := h.evo0 hw254
   skip
   refine aC rfl (cI rfl rfl (by simp only [cN, bQ, cM, dH, bap, bsz, List.length_append, List.length_cons, List.length_nil]; omega)) ?_
   simp only [cN, bQ, cM, dH, bap]
   skip
   refine aC rfl (cI rfl rfl (by simp only [cN, bQ, cM, dH, bap, bsz, List.length_append, List.length_cons, List.length_nil]; omega)) ?_
   simp only [cN, bQ, cM, dH, bap]
   refine aM (vs := [_, _]) bZ rfl (cW hF257 (m := [123] ++ jA lo.toNat ++ [44, 125]) rfl (((cD (by decide +kernel)).app hq1).app (cD (by decide +kernel))) (by first | omega | (simp only [List.length_append]; omega)) (by simp only [List.length_append, List.length_cons, List.length_nil]; omega)) rfl ?_
   rintro _ w258 ⟨obw1, hBDw1, hw259, hnb1⟩; have hV9 := hE255; have hV90 := hE256; have hN1 := cY (Or.inl rfl) hnb1 hV9.size; have hU1 := dM huo hV90.size hnb1; have hE260 := hE255.step hw259 (cZ (Or.inl rfl)); refine aD (bB (cE rfl ?_))
   exact eB hBDw1 (by unfold jP; rw [if_neg (by omega), if_neg (by omega), if_neg (by omega), if_pos (by omega)]) hE260 hN1
  refine aE (aB (aG (aG (aC rfl (bE rfl rfl) ?_)))); refine aN (aD (aA (bI rfl (fun hc52 => ?_) (fun hc52 => ?_))))
  ·skip
   refine aB (aG (aG ?_)); refine aM (vs := [_]) cV rfl (eT (hG.evo0 hE0) lo (by omega) (by omega)) rfl ?_; rintro _ w262 ⟨rfl, hw263⟩; have hE264 := (Evo.refl (b :: ob.toList) w).then hw263; have hE265 := hE0.then hw263; have hF266 := h.evo0 hw263
   skip
   refine aC rfl (cI rfl rfl (by simp only [cN, bQ, cM, dH, bap, bsz, List.length_append, List.length_cons, List.length_nil]; omega)) ?_
   simp only [cN, bQ, cM, dH, bap]
   skip
   refine aC rfl (cI rfl rfl (by simp only [cN, bQ, cM, dH, bap, bsz, List.length_append, List.length_cons, List.length_nil]; omega)) ?_
   simp only [cN, bQ, cM, dH, bap]
   refine aM (vs := [_, _]) bZ rfl (cW hF266 (m := [123] ++ jA lo.toNat ++ [125]) rfl (((cD (by decide +kernel)).app hq1).app (cD (by decide +kernel))) (by first | omega | (simp only [List.length_append]; omega)) (by simp only [List.length_append, List.length_cons, List.length_nil]; omega)) rfl ?_
   rintro _ w267 ⟨obw1, hBDw1, hw268, hnb1⟩; have hV9 := hE264; have hV90 := hE265; have hN1 := cY (Or.inl rfl) hnb1 hV9.size; have hU1 := dM huo hV90.size hnb1; have hE269 := hE264.step hw268 (cZ (Or.inl rfl)); refine aD (bB (cE rfl ?_))
   exact eB hBDw1 (by unfold jP; rw [if_neg (by omega), if_neg (by omega), if_neg (by omega), if_neg (by omega), if_pos (by omega)]) hE269 hN1
  have hd3 := hd2 (by omega); refine aB (aG (aG ?_)); refine aM (vs := [_]) cV rfl (eT (hG.evo0 hE0) lo (by omega) (by omega)) rfl ?_; rintro _ w271 ⟨rfl, hw272⟩; have hE273 := (Evo.refl (b :: ob.toList) w).then hw272; have hE274 := hE0.then hw272; have hF275 := h.evo0 hw272
  skip
  refine aC rfl (cI rfl rfl (by simp only [cN, bQ, cM, dH, bap, bsz, List.length_append, List.length_cons, List.length_nil]; omega)) ?_
  simp only [cN, bQ, cM, dH, bap]
  skip
  refine aC rfl (cI rfl rfl (by simp only [cN, bQ, cM, dH, bap, bsz, List.length_append, List.length_cons, List.length_nil]; omega)) ?_
  simp only [cN, bQ, cM, dH, bap]; refine aG ?_; refine aM (vs := [_]) cV rfl (eT (hG.evo0 hE274) hi (by omega) (by omega)) rfl ?_; rintro _ w276 ⟨rfl, hw277⟩; have hE278 := hE273.then hw277; have hE279 := hE274.then hw277; have hF280 := hF275.evo0 hw277
  skip
  refine aC rfl (cI rfl rfl (by simp only [cN, bQ, cM, dH, bap, bsz, List.length_append, List.length_cons, List.length_nil]; omega)) ?_
  simp only [cN, bQ, cM, dH, bap]
  skip
  refine aC rfl (cI rfl rfl (by simp only [cN, bQ, cM, dH, bap, bsz, List.length_append, List.length_cons, List.length_nil]; omega)) ?_
  simp only [cN, bQ, cM, dH, bap]
  refine aM (vs := [_, _]) bZ rfl (cW hF280 (m := [123] ++ jA lo.toNat ++ [44] ++ jA hi.toNat ++ [125]) rfl (((((cD (by decide +kernel)).app hq1).app (cD (by decide +kernel))).app hq2).app (cD (by decide +kernel))) (by first | omega | (simp only [List.length_append]; omega)) (by simp only [List.length_append, List.length_cons, List.length_nil]; omega)) rfl ?_
  rintro _ w281 ⟨obw1, hBDw1, hw282, hnb1⟩; have hV9 := hE278; have hV90 := hE279; have hN1 := cY (Or.inl rfl) hnb1 hV9.size; have hU1 := dM huo hV90.size hnb1; have hE283 := hE278.step hw282 (cZ (Or.inl rfl)); refine aD (bB (cE rfl ?_))
  exact eB hBDw1 (by unfold jP; rw [if_neg (by omega), if_neg (by omega), if_neg (by omega), if_neg (by omega), if_neg (by omega)]) hE283 hN1
end Go.Proofs.YtljadkcojnlioaaGreatDoor
