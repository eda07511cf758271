/- Quotes: part 3 of 6 of what the law rests on. -/
import Derived.Test.YtljadkcojnlioaaGreatDoorQkB
set_option linter.unusedSectionVars false
set_option linter.unusedSimpArgs false
set_option linter.unusedVariables false
namespace Go.Proofs.YtljadkcojnlioaaGreatDoor
open Go.Proofs
open Go.W Go.RowKit
attribute [local irreducible] Decidable.decide
theorem cV : eT Tryz.prog 37 := ⟨_, Tryz.func37, by kernel_rfl, by kernel_rfl⟩
theorem qU {r : Int} (h0 : -2147483648 ≤ r) (h1 : r ≤ 2147483647) : IntKind.i64.min ≤ r ∧ r ≤ IntKind.i64.max := by
  constructor <;> simp [IntKind.min, IntKind.max, IntKind.signed, IntKind.bits] <;> omega
theorem hexd_no {s : ByteArray} {i : Nat} (h : ¬ i < s.size) : iJ s i = .error 83 := by unfold iJ; rw [if_neg h]
theorem mZ {s : ByteArray} {i d : Nat} (h : i < s.size) (hd : nW (sb s i) = some d) : iJ s i = .ok (d, i + 1) := by unfold iJ; rw [if_pos h, hd]
theorem kO {s : ByteArray} {i : Nat} (h : i < s.size) (hd : nW (sb s i) = none) : iJ s i = .error 83 := by unfold iJ; rw [if_pos h, hd]
theorem rK {z : Int} {d : Nat} (h : z = d) : Value.int .i64 z = iv (d : Nat) := by rw [h]
theorem nK {w : World} {b : Nat} {s : ByteArray} {st : PS} {a : Option Addr} {c : Nat} {ob : Option Nat} (hR : RdAt w b s st a c ob) (hs : s.size ≤ 1000000) :
    Calls Tryz.prog 161 #[.pointer (some ⟨b, 0, none⟩)] w (RetP (fun v w' => ∃ d, iJ s st.pos = .ok (d, st.pos + 1) ∧ v = iv (d : Nat) ∧ Evo [b] w w' ∧ RdAt w' b s (adv st 1) a c ob) (fun v w' => iJ s st.pos = .error 83 ∧ v = flt 83 ∧ Evo [b] w w')) := by
  have hap := hR.ap; have hb9 := gO s st.pos; refine bO (N := 63) Tryz.func161 rfl rfl rfl ?_; refine aE (aB (aM (aD (aA (aE (aE ?_)))))); refine fH (by kernel_rfl) (by kernel_rfl) ?_; refine aV rfl (fun _ hq2 => bS rfl) ?_; refine aV rfl (fun _ hq2 => aQ rfl) ?_; refine aV rfl (fun _ hq2 => aF rfl bH) ?_; refine aV rfl (fun _ hq2 => aI rfl bD (aK (hq2.blk0 hR.blk) rfl)) ?_; refine aV rfl (fun _ hq2 => bS rfl) ?_; refine aV rfl (fun _ hq2 => aQ rfl) ?_; refine aV rfl (fun _ hq2 => aF rfl dI) ?_; refine aV rfl (fun _ hq2 => aI rfl cO (aK (hq2.blk0 hR.blk) rfl)) ?_; refine aV rfl (fun _ hq2 => cI rfl Tryz.underlying9 rfl) ?_; refine aV rfl (fun _ hq2 => dH rfl rfl) ?_; refine fN (fun wq1 hq2 => aA ?_); have hE3 := (Evo.refl [b] w).then hq2; have hB4 := hq2.blk0 hR.blk; have hO5 := hR.own.evo0 hq2; refine bI rfl (fun hc13 => ?_) (fun hc13 => ?_)
  ·skip
   have hlt : st.pos < s.size := by omega
   refine aE ?_; refine fH (by kernel_rfl) (by kernel_rfl) ?_; refine aV rfl (fun _ hq7 => bS rfl) ?_; refine aV rfl (fun _ hq7 => aQ rfl) ?_; refine aV rfl (fun _ hq7 => aF rfl dI) ?_; refine aV rfl (fun _ hq7 => aI rfl cO (aK (hq7.blk0 hB4) rfl)) ?_; refine aV rfl (fun _ hq7 => bS rfl) ?_; refine aV rfl (fun _ hq7 => aQ rfl) ?_; refine aV rfl (fun _ hq7 => aF rfl bH) ?_; refine aV rfl (fun _ hq7 => aI rfl bD (aK (hq7.blk0 hB4) rfl)) ?_; refine aV rfl (fun _ hq7 => fC (n := st.pos) rfl rfl Tryz.underlying9 rfl hlt) ?_; refine aV rfl (fun _ hq7 => eZ rfl) ?_; refine fN (fun wq6 hq7 => aA ?_); have hE8 := hE3.then hq7; have hB9 := hq7.blk0 hB4; have hO10 := hO5.evo0 hq7; refine aE (aB (aG (aC rfl (aQ rfl) (aC rfl (aF rfl bH) (aC rfl (aI rfl bD (aK hB9 rfl)) ?_))))); refine aC rfl (bC rfl rfl (by omega) (by omega)) ?_; refine aC rfl (aQ rfl) (aC rfl (aF rfl bH) (bK rfl rfl (rfl) bZ hB9 rfl fun w11 hB12 hw13 => ?_)); have hE14 := hE8.step hw13 (fun y hy => .inl hy); have hO15 := hO10.evo hw13 hap.symm.own1
   try simp only [cU, Nat.reduceAdd] at hB12
   refine aD (aA (bT (aE (aB (aG (aC rfl (fU rfl rfl) ?_)))))); refine aG (aX (t := 33) rfl (fun hs33 => ?_) (fun hs33 => ?_))
   ·skip
    refine aR (aG (aR (aC rfl (gI rfl rfl) ?_))); refine bL (aM (aD (aA (bI rfl (fun hc30 => ?_) (fun hc30 => ?_)))))
    ·skip
     refine aE (aB (aG ?_)); refine aC rfl (kP rfl rfl (by omega) (by omega)) ?_; refine aC rfl (iM rfl Tryz.underlying5 Tryz.underlying3 (qU (by omega) (by omega)).1 (qU (by omega) (by omega)).2) ?_; refine aM (aD (aA (aO (aY (aP (bW (aJ rfl rfl ?_)))))))
     exact ⟨_, mZ hlt (by unfold nW; rw [if_pos (by omega)]), rK (by omega), hE14, hB12, hO15, hR.ne⟩
    refine aE (aB (aG (aC rfl (fU rfl rfl) ?_))); refine aG (aX (t := 43) rfl (fun hs43 => ?_) (fun hs43 => ?_))
    ·skip
     refine aR (aG (aR (aC rfl (gI rfl rfl) ?_))); refine bL (aM (aD (aA (bI rfl (fun hc40 => ?_) (fun hc40 => ?_)))))
     ·skip
      refine aE (aB (aG ?_)); refine aC rfl (kP rfl rfl (by omega) (by omega)) ?_; refine aC rfl (iM rfl Tryz.underlying5 Tryz.underlying3 (qU (by omega) (by omega)).1 (qU (by omega) (by omega)).2) ?_; refine aC rfl (bC rfl rfl (by omega) (by omega)) ?_; refine aM (aD (aA (aO (aY (aP (bW (aJ rfl rfl ?_)))))))
      exact ⟨_, mZ hlt (by unfold nW; rw [if_neg (by omega), if_pos (by omega)]), rK (by omega), hE14, hB12, hO15, hR.ne⟩
     refine aE (aB (aG (aC rfl (fU rfl rfl) ?_))); refine aG (aX (t := 54) rfl (fun hs54 => ?_) (fun hs54 => ?_))
     ·skip
      refine aR (aG (aR (aC rfl (gI rfl rfl) ?_))); refine bL (aM (aD (aA (bI rfl (fun hc51 => ?_) (fun hc51 => ?_)))))
      ·skip
       refine aE (aB (aG ?_)); refine aC rfl (kP rfl rfl (by omega) (by omega)) ?_; refine aC rfl (iM rfl Tryz.underlying5 Tryz.underlying3 (qU (by omega) (by omega)).1 (qU (by omega) (by omega)).2) ?_; refine aC rfl (bC rfl rfl (by omega) (by omega)) ?_; refine aM (aD (aA (aO (aY (aP (bW (aJ rfl rfl ?_)))))))
       exact ⟨_, mZ hlt (by unfold nW; rw [if_neg (by omega), if_neg (by omega), if_pos (by omega)]), rK (by omega), hE14, hB12, hO15, hR.ne⟩
      refine aW (aZ (aA (aE (aB (bX (vs := [_]) cV rfl (eM 83) rfl ?_ ?_)))))
      ·skip
       intro pv wp hpp; obtain ⟨rfl, hpe⟩ := hpp
       exact And.intro rfl ⟨_, rfl, kO hlt (by unfold nW; rw [if_neg (by omega), if_neg (by omega), if_neg (by omega)]), rfl, (hE14).then hpe⟩
      intro _ _ hF; exact hF.elim
     refine aH (aH (aU (aM (aD (aA (cK rfl ?_)))))); refine aW (aZ (aA (aE (aB (bX (vs := [_]) cV rfl (eM 83) rfl ?_ ?_)))))
     ·skip
      intro pv wp hpp; obtain ⟨rfl, hpe⟩ := hpp
      exact And.intro rfl ⟨_, rfl, kO hlt (by unfold nW; rw [if_neg (by omega), if_neg (by omega), if_neg (by omega)]), rfl, (hE14).then hpe⟩
     intro _ _ hF; exact hF.elim
    refine aH (aH (aU (aM (aD (aA (cK rfl ?_)))))); refine aE (aB (aG (aC rfl (fU rfl rfl) ?_))); refine aG (aX (t := 54) rfl (fun hs54 => ?_) (fun hs54 => ?_))
    ·skip
     refine aR (aG (aR (aC rfl (gI rfl rfl) ?_))); refine bL (aM (aD (aA (bI rfl (fun hc51 => ?_) (fun hc51 => ?_)))))
     ·skip
      refine aE (aB (aG ?_)); refine aC rfl (kP rfl rfl (by omega) (by omega)) ?_; refine aC rfl (iM rfl Tryz.underlying5 Tryz.underlying3 (qU (by omega) (by omega)).1 (qU (by omega) (by omega)).2) ?_; refine aC rfl (bC rfl rfl (by omega) (by omega)) ?_; refine aM (aD (aA (aO (aY (aP (bW (aJ rfl rfl ?_)))))))
      exact ⟨_, mZ hlt (by unfold nW; rw [if_neg (by omega), if_neg (by omega), if_pos (by omega)]), rK (by omega), hE14, hB12, hO15, hR.ne⟩
     refine aW (aZ (aA (aE (aB (bX (vs := [_]) cV rfl (eM 83) rfl ?_ ?_)))))
     ·skip
      intro pv wp hpp; obtain ⟨rfl, hpe⟩ := hpp
      exact And.intro rfl ⟨_, rfl, kO hlt (by unfold nW; rw [if_neg (by omega), if_neg (by omega), if_neg (by omega)]), rfl, (hE14).then hpe⟩
     intro _ _ hF; exact hF.elim
    refine aH (aH (aU (aM (aD (aA (cK rfl ?_)))))); refine aW (aZ (aA (aE (aB (bX (vs := [_]) cV rfl (eM 83) rfl ?_ ?_)))))
    ·skip
     intro pv wp hpp; obtain ⟨rfl, hpe⟩ := hpp
     exact And.intro rfl ⟨_, rfl, kO hlt (by unfold nW; rw [if_neg (by omega), if_neg (by omega), if_neg (by omega)]), rfl, (hE14).then hpe⟩
    intro _ _ hF; exact hF.elim
   refine aH (aH (aU (aM (aD (aA (cK rfl ?_)))))); refine aE (aB (aG (aC rfl (fU rfl rfl) ?_))); refine aG (aX (t := 43) rfl (fun hs43 => ?_) (fun hs43 => ?_))
   ·skip
    refine aR (aG (aR (aC rfl (gI rfl rfl) ?_))); refine bL (aM (aD (aA (bI rfl (fun hc40 => ?_) (fun hc40 => ?_)))))
    ·skip
     refine aE (aB (aG ?_)); refine aC rfl (kP rfl rfl (by omega) (by omega)) ?_; refine aC rfl (iM rfl Tryz.underlying5 Tryz.underlying3 (qU (by omega) (by omega)).1 (qU (by omega) (by omega)).2) ?_; refine aC rfl (bC rfl rfl (by omega) (by omega)) ?_; refine aM (aD (aA (aO (aY (aP (bW (aJ rfl rfl ?_)))))))
     exact ⟨_, mZ hlt (by unfold nW; rw [if_neg (by omega), if_pos (by omega)]), rK (by omega), hE14, hB12, hO15, hR.ne⟩
    refine aE (aB (aG (aC rfl (fU rfl rfl) ?_))); refine aG (aX (t := 54) rfl (fun hs54 => ?_) (fun hs54 => ?_))
    ·skip
     refine aR (aG (aR (aC rfl (gI rfl rfl) ?_))); refine bL (aM (aD (aA (bI rfl (fun hc51 => ?_) (fun hc51 => ?_)))))
     ·skip
      refine aE (aB (aG ?_)); refine aC rfl (kP rfl rfl (by omega) (by omega)) ?_; refine aC rfl (iM rfl Tryz.underlying5 Tryz.underlying3 (qU (by omega) (by omega)).1 (qU (by omega) (by omega)).2) ?_; refine aC rfl (bC rfl rfl (by omega) (by omega)) ?_; refine aM (aD (aA (aO (aY (aP (bW (aJ rfl rfl ?_)))))))
      exact ⟨_, mZ hlt (by unfold nW; rw [if_neg (by omega), if_neg (by omega), if_pos (by omega)]), rK (by omega), hE14, hB12, hO15, hR.ne⟩
     refine aW (aZ (aA (aE (aB (bX (vs := [_]) cV rfl (eM 83) rfl ?_ ?_)))))
     ·skip
      intro pv wp hpp; obtain ⟨rfl, hpe⟩ := hpp
      exact And.intro rfl ⟨_, rfl, kO hlt (by unfold nW; rw [if_neg (by omega), if_neg (by omega), if_neg (by omega)]), rfl, (hE14).then hpe⟩
     intro _ _ hF; exact hF.elim
    refine aH (aH (aU (aM (aD (aA (cK rfl ?_)))))); refine aW (aZ (aA (aE (aB (bX (vs := [_]) cV rfl (eM 83) rfl ?_ ?_)))))
    ·skip
     intro pv wp hpp; obtain ⟨rfl, hpe⟩ := hpp
     exact And.intro rfl ⟨_, rfl, kO hlt (by unfold nW; rw [if_neg (by omega), if_neg (by omega), if_neg (by omega)]), rfl, (hE14).then hpe⟩
    intro _ _ hF; exact hF.elim
   refine aH (aH (aU (aM (aD (aA (cK rfl ?_)))))); refine aE (aB (aG (aC rfl (fU rfl rfl) ?_))); refine aG (aX (t := 54) rfl (fun hs54 => ?_) (fun hs54 => ?_))
   ·skip
    refine aR (aG (aR (aC rfl (gI rfl rfl) ?_))); refine bL (aM (aD (aA (bI rfl (fun hc51 => ?_) (fun hc51 => ?_)))))
    ·skip
     refine aE (aB (aG ?_)); refine aC rfl (kP rfl rfl (by omega) (by omega)) ?_; refine aC rfl (iM rfl Tryz.underlying5 Tryz.underlying3 (qU (by omega) (by omega)).1 (qU (by omega) (by omega)).2) ?_; refine aC rfl (bC rfl rfl (by omega) (by omega)) ?_; refine aM (aD (aA (aO (aY (aP (bW (aJ rfl rfl ?_)))))))
     exact ⟨_, mZ hlt (by unfold nW; rw [if_neg (by omega), if_neg (by omega), if_pos (by omega)]), rK (by omega), hE14, hB12, hO15, hR.ne⟩
    refine aW (aZ (aA (aE (aB (bX (vs := [_]) cV rfl (eM 83) rfl ?_ ?_)))))
    ·skip
     intro pv wp hpp; obtain ⟨rfl, hpe⟩ := hpp
     exact And.intro rfl ⟨_, rfl, kO hlt (by unfold nW; rw [if_neg (by omega), if_neg (by omega), if_neg (by omega)]), rfl, (hE14).then hpe⟩
    intro _ _ hF; exact hF.elim
   refine aH (aH (aU (aM (aD (aA (cK rfl ?_)))))); refine aW (aZ (aA (aE (aB (bX (vs := [_]) cV rfl (eM 83) rfl ?_ ?_)))))
   ·skip
    intro pv wp hpp; obtain ⟨rfl, hpe⟩ := hpp
    exact And.intro rfl ⟨_, rfl, kO hlt (by unfold nW; rw [if_neg (by omega), if_neg (by omega), if_neg (by omega)]), rfl, (hE14).then hpe⟩
   intro _ _ hF; exact hF.elim
  refine aW (aA (aE (aB (bX (vs := [_]) cV rfl (eM 83) rfl ?_ ?_))))
  ·skip
   intro pv wp hpp; obtain ⟨rfl, hpe⟩ := hpp; exact And.intro rfl ⟨_, rfl, hexd_no (by omega), rfl, (hE3).then hpe⟩
  intro _ _ hF; exact hF.elim
end Go.Proofs.YtljadkcojnlioaaGreatDoor
namespace Go.Proofs.YtljadkcojnlioaaGreatDoor
open Go.Proofs
open Go.W Go.RowKit
attribute [local irreducible] Decidable.decide
theorem mI : eT Tryz.prog 161 := ⟨_, Tryz.func161, by kernel_rfl, by kernel_rfl⟩
theorem gZ : eT Tryz.prog 60 := ⟨_, Tryz.func60, by kernel_rfl, by kernel_rfl⟩
def gU (st : PS) (j : Nat) : PS := { st with pos := j }
theorem wE (s : ByteArray) (i : Nat) : iJ s i = .error 83 ∨ ∃ d, d < 16 ∧ i < s.size ∧ iJ s i = .ok (d, i + 1) := by
  unfold iJ
  by_cases h : i < s.size
  · rw [if_pos h]
    unfold nW
    split
    · rename_i d hd
      refine .inr ⟨d, ?_, h, rfl⟩
      split at hd
      · cases hd; omega
      · split at hd
        · cases hd; omega
        · split at hd
          · cases hd; omega
          · cases hd
    · exact .inl rfl
  · rw [if_neg h]; exact .inl rfl
theorem xG {r : Int} (h0 : -2147483648 ≤ r) (h1 : r ≤ 2147483647) : IntKind.i32.min ≤ r ∧ r ≤ IntKind.i32.max := by
  constructor <;> simp [IntKind.min, IntKind.max, IntKind.signed, IntKind.bits] <;> omega
theorem MU {s : ByteArray} {n i : Nat} (hi : i ≤ s.size) (h : isB s i 125) : mV s (s.size + 1 - i) n i = .ok (n, i + 1) := by
  rw [show s.size + 1 - i = (s.size - i) + 1 by omega, mV, if_pos h]
theorem MT {s : ByteArray} {n i : Nat} (hi : i ≤ s.size) (h : ¬ isB s i 125) (he : iJ s i = .error 83) : mV s (s.size + 1 - i) n i = .error 83 := by
  rw [show s.size + 1 - i = (s.size - i) + 1 by omega, mV, if_neg h, he]
theorem MV {s : ByteArray} {n i d : Nat} (hi : i ≤ s.size) (h : ¬ isB s i 125) (he : iJ s i = .ok (d, i + 1)) (hb : 1114111 < n * 16 + d) : mV s (s.size + 1 - i) n i = .error 83 := by
  rw [show s.size + 1 - i = (s.size - i) + 1 by omega, mV, if_neg h, he]
  show (if 1114111 < n * 16 + d then _ else _) = _
  rw [if_pos hb]
theorem hexl_go {s : ByteArray} {n i d : Nat} (hi : i < s.size) (h : ¬ isB s i 125) (he : iJ s i = .ok (d, i + 1)) (hb : ¬ 1114111 < n * 16 + d) : mV s (s.size + 1 - i) n i = mV s (s.size + 1 - (i + 1)) (n * 16 + d) (i + 1) := by
  rw [show s.size + 1 - i = (s.size + 1 - (i + 1)) + 1 by omega, mV, if_neg h, he]
  show (if 1114111 < n * 16 + d then _ else _) = _
  rw [if_neg hb]
theorem uZ {s : ByteArray} {i d j : Nat} (h : iJ s i = .ok (d, j)) : d < 16 := by
  rcases wE s i with e | ⟨d', h1, _, e⟩ <;> rw [e] at h <;> cases h
  exact h1
theorem hex_a {s : ByteArray} {i : Nat} (h : ¬ isB s i 123) (e : iJ s i = .error 83) : pN s i = .error 83 := by unfold pN; rw [if_neg h, e]
theorem hex_b {s : ByteArray} {i d : Nat} (h : ¬ isB s i 123) (e : iJ s i = .ok (d, i + 1)) (e2 : iJ s (i + 1) = .error 83) : pN s i = .error 83 := by
  unfold pN; rw [if_neg h, e]; show (match iJ s (i + 1) with | .error e => _ | .ok (b, k) => _) = _; rw [e2]
theorem hex_c {s : ByteArray} {i d f : Nat} (h : ¬ isB s i 123) (e : iJ s i = .ok (d, i + 1)) (e2 : iJ s (i + 1) = .ok (f, i + 1 + 1)) : pN s i = .ok (d * 16 + f, i + 1 + 1) := by
  unfold pN; rw [if_neg h, e]; show (match iJ s (i + 1) with | .error e => _ | .ok (b, k) => _) = _; rw [e2]
theorem hex_d {s : ByteArray} {i : Nat} (h : isB s i 123) (e : iJ s (i + 1) = .error 83) : pN s i = .error 83 := by unfold pN; rw [if_pos h, e]
theorem hex_e {s : ByteArray} {i d : Nat} (h : isB s i 123) (e : iJ s (i + 1) = .ok (d, i + 1 + 1)) : pN s i = mV s (s.size + 1 - (i + 1 + 1)) d (i + 1 + 1) := by unfold pN; rw [if_pos h, e]
structure HxG where
  n : Nat
  p : Nat
structure HxI (w : World) (b : Nat) (s : ByteArray) (st : PS) (a : Option Addr) (c : Nat) (ob : Option Nat) (x : HxG) : Prop where
  hp : x.p ≤ s.size
  hn : x.n ≤ 1114111
  hr : RdAt w b s (gU st x.p) a c ob
  eq : pN s st.pos = mV s (s.size + 1 - x.p) x.n x.p
theorem HJ {s : ByteArray} {i d j : Nat} (h : iJ s i = .ok (d, j)) : i < s.size := by
  rcases wE s i with e | ⟨d', _, h1, e⟩ <;> rw [e] at h <;> cases h
  exact h1
theorem hex_ok {w : World} {b : Nat} {s : ByteArray} {st : PS} {a : Option Addr} {c : Nat} {ob : Option Nat} (hR : RdAt w b s st a c ob) (hs : s.size ≤ 1000000) :
    Calls Tryz.prog 149 #[.pointer (some ⟨b, 0, none⟩)] w (RetP (fun v w' => ∃ n j, pN s st.pos = .ok (n, j) ∧ v = .int .i32 (n : Nat) ∧ Evo [b] w w' ∧ RdAt w' b s (gU st j) a c ob) (fun v w' => pN s st.pos = .error 83 ∧ v = flt 83 ∧ Evo [b] w w')) := by
  have hap := hR.ap; refine bO (N := 33) Tryz.func149 rfl rfl rfl ?_; refine aE (aB (aM (aD (aA (aE (aE (aB (aG ?_)))))))); refine aN (vs := [_, _]) gZ rfl (kU hR hs 123 (by decide)) rfl ?_; rintro _ w1 ⟨rfl, hw2, hR1⟩; have hE3 := (Evo.refl [b] w).step hw2 (fun y hy => .inl hy); refine aC rfl (lI rfl) ?_; refine aD (aA (bI rfl (fun hc8 => ?_) (fun hc8 => ?_)))
  ·skip
   rw [if_neg hc8] at hR1; refine aE (aB (aG (bX (vs := [_]) mI rfl (nK hR1 hs) rfl ?_ ?_)))
   ·skip
    intro pv wp hpp; obtain ⟨hpe, rfl, hpw⟩ := hpp; exact And.intro rfl ⟨_, rfl, hex_a hc8 hpe, rfl, (hE3).step hpw (fun y hy => .inl hy)⟩
   rintro _ w4 ⟨d1, hd1, rfl, hw5, hR2⟩; have hE6 := hE3.step hw5 (fun y hy => .inl hy); have hl1 := uZ hd1; refine aG (bX (vs := [_]) mI rfl (nK hR2 hs) rfl ?_ ?_)
   ·skip
    intro pv wp hpp; obtain ⟨hpe, rfl, hpw⟩ := hpp; exact And.intro rfl ⟨_, rfl, hex_b hc8 hd1 hpe, rfl, (hE6).step hpw (fun y hy => .inl hy)⟩
   rintro _ w7 ⟨d2, hd2, rfl, hw8, hR3⟩; have hE9 := hE6.step hw8 (fun y hy => .inl hy); have hl2 := uZ hd2; refine aM (aM (aD (aA (aE (aB (aG ?_)))))); refine aC rfl (nA rfl rfl (by omega) (by omega)) ?_; refine aG ?_; refine aC rfl (bC rfl rfl (by omega) (by omega)) ?_; refine aC rfl (iM rfl Tryz.underlying3 Tryz.underlying21 (xG (by omega) (by omega)).1 (xG (by omega) (by omega)).2) ?_; refine aM (aD (aA (aO (aP (bW (aJ rfl rfl ?_)))))); exact ⟨_, _, hex_c hc8 hd1 hd2, (by congr 1), hE9, hR3⟩
  have hb8 : isB s st.pos 123 := Classical.not_not.1 hc8; rw [if_pos hb8] at hR1; refine aW (aA (aE (aB (aG (bX (vs := [_]) mI rfl (nK hR1 hs) rfl ?_ ?_)))))
  ·skip
   intro pv wp hpp; obtain ⟨hpe, rfl, hpw⟩ := hpp; exact And.intro rfl ⟨_, rfl, hex_d hb8 hpe, rfl, (hE3).step hpw (fun y hy => .inl hy)⟩
  rintro _ w10 ⟨d1, hd1, rfl, hw11, hR4⟩; have hE12 := hE3.step hw11 (fun y hy => .inl hy); have hl1 := uZ hd1; have hin := HJ hd1; refine aM (aD (aA (aE (bT ?_))))
  refine eR (α := HxG) (⟨d1, st.pos + 1 + 1⟩) (fun x => [(5, .int .i64 (x.n : Nat))]) [(0, _), (2, _)] (fun x wr => Evo [b] w wr ∧ (HxI wr b s st a c ob x)) (fun x => s.size + 1 - x.p) ⟨rfl, trivial⟩ ⟨rfl, rfl, trivial⟩ ⟨hE12, ⟨by show st.pos + 1 + 1 ≤ _; have : st.pos + 1 < s.size := hin; omega, by show d1 ≤ _; omega, hR4, hex_e hb8 hd1⟩⟩ ?_
  rintro ⟨n, p⟩ wr13 ⟨hV14, ⟨hp9, hn9, hR9, heq⟩⟩; show CW _ _ _ _ [(5, .int .i64 (n : Nat)), (0, _), (2, _)] _
  try dsimp only at hp9
  try dsimp only at hn9
  try dsimp only at hR9
  try dsimp only at heq
  refine aE (aE (aB (aG ?_))); refine aN (vs := [_, _]) gZ rfl (kU hR9 hs 125 (by decide)) rfl ?_; rintro _ w15 ⟨rfl, hw16, hR5⟩; have hE17 := hV14.step hw16 (fun y hy => .inl hy); refine aC rfl (lI rfl) ?_; refine aD (aA (bI rfl (fun hc22 => ?_) (fun hc22 => ?_)))
  ·skip
   rw [if_neg hc22] at hR5; refine aW (aA (bT (aE (aB (aG ?_))))); refine aC rfl (nA rfl rfl (by omega) (by omega)) ?_; refine aG (bX (vs := [_]) mI rfl (nK hR5 hs) rfl ?_ ?_)
   ·skip
    intro pv wp hpp; obtain ⟨hpe, rfl, hpw⟩ := hpp; exact And.intro rfl ⟨_, rfl, heq.trans (MT hp9 hc22 hpe), rfl, (hE17).step hpw (fun y hy => .inl hy)⟩
   rintro _ w18 ⟨d2, hd2, rfl, hw19, hR6⟩; have hE20 := hE17.step hw19 (fun y hy => .inl hy); have hl2 := uZ hd2; have hin2 : p < s.size := HJ hd2; refine aC rfl (bC rfl rfl (by omega) (by omega)) ?_; refine aM (aD (aA (aE (aB (aG (aC rfl (fV rfl rfl) ?_)))))); refine aD (aA (bI rfl (fun hc29 => ?_) (fun hc29 => ?_)))
   ·skip
    refine aB (bX (vs := [_]) cV rfl (eM 83) rfl ?_ ?_)
    ·skip
     intro pv wp hpp; obtain ⟨rfl, hpw⟩ := hpp; exact And.intro rfl ⟨_, rfl, heq.trans (MV hp9 hc22 hd2 (by omega)), rfl, (hE20).then hpw⟩
    intro _ _ hF; exact hF.elim
   refine aW (aZ (bY ?_)); refine ⟨⟨n * 16 + d2, p + 1⟩, ?_, ⟨rfl, trivial⟩, ⟨rfl, rfl, trivial⟩, hE20, ?_⟩
   · (try dsimp only); omega
   try dsimp only
   exact ⟨by show p + 1 ≤ _; omega, by show n * 16 + d2 ≤ _; omega, hR6, heq.trans (hexl_go hin2 hc22 hd2 (by omega))⟩
  have hb22 : isB s (gU st p).pos 125 := Classical.not_not.1 hc22; rw [if_pos hb22] at hR5; refine dV (cB (cB (dU (aA ?_)))); refine aE (aB (aG ?_)); refine aC rfl (iM rfl Tryz.underlying3 Tryz.underlying21 (xG (by omega) (by omega)).1 (xG (by omega) (by omega)).2) ?_; refine aM (aD (aA (aO (bW (aJ rfl rfl ?_))))); exact ⟨_, _, heq.trans (MU hp9 hb22), rfl, hE17, hR5⟩
end Go.Proofs.YtljadkcojnlioaaGreatDoor
namespace Go.Proofs.YtljadkcojnlioaaGreatDoor
open Go.Proofs Go.W Go.RowKit
def DG (g : Int × Int) : List Value := [.int .i32 g.1, .int .i32 g.2]
def eD (l : List (Int × Int)) : List Value := l.flatMap DG
theorem tZ (g : Int × Int) (l : List (Int × Int)) : eD (g :: l) = .int .i32 g.1 :: .int .i32 g.2 :: eD l := rfl
theorem jW (l m : List (Int × Int)) : eD (l ++ m) = eD l ++ eD m := List.flatMap_append
theorem jF : ∀ l : List (Int × Int), (eD l).length = l.length * 2
  | [] => rfl
  | g :: l => by rw [tZ, List.length_cons, List.length_cons, jF l, List.length_cons]; omega
theorem rE : ∀ {l : List (Int × Int)} {i : Nat} (h : i < l.length), (eD l)[i * 2]? = some (.int .i32 l[i].1) ∧ (eD l)[i * 2 + 1]? = some (.int .i32 l[i].2)
  | g :: l, 0, h => ⟨rfl, rfl⟩
  | g :: l, i + 1, h => by
    have := rE (l := l) (i := i) (by simpa using h)
    rw [tZ, show (i + 1) * 2 = i * 2 + 1 + 1 by omega]
    exact this
theorem oM : ∀ l : List (Int × Int), AllOne (eD l)
  | [] => trivial
  | g :: l => ⟨rfl, rfl, oM l⟩
section
variable {w : World} {e : TypeId} {a : Option Addr} {n c : Nat} {l : List (Int × Int)} {ob : Option Nat}
theorem oO (h : OwnS w e 2 a n c (eD l) ob) : n = l.length := by have := h.length; rw [jF] at this; omega
theorem oA (h : OwnS w e 2 a n c (eD l) ob) {i : Nat} (hi : i < l.length) : ∃ g, ob = some g ∧ a = some ⟨g, 0, none⟩ ∧ CellsAt w g (0 + i * 2) (DG l[i]) := by
  have hn := oO h
  obtain ⟨g, hg, ha, hc⟩ := h.cells (by omega)
  refine ⟨g, hg, ha, fun j v hj => ?_⟩
  obtain ⟨h0, h1⟩ := rE hi
  match j, hj with
  | 0, hj => cases hj; have := hc _ _ h0; simpa using this
  | 1, hj => cases hj; have := hc _ _ h1; simpa [Nat.add_assoc] using this
  | j + 2, hj => cases hj
theorem LX (h : OwnS w e 2 a n c (eD l) ob) : (a = none ∧ n = 0 ∧ l = [] ∧ ob = none) ∨ ∃ g, a = some ⟨g, 0, none⟩ ∧ ob = some g := by
  have hn := oO h
  rcases h.2 with ⟨h1, h2, h3⟩ | ⟨g, cap, cur, hg, hv, _⟩
  · cases h1; exact .inl ⟨rfl, rfl, List.length_eq_zero_iff.1 hn.symm, h3⟩
  · cases hv; exact .inr ⟨g, rfl, hg⟩
theorem own_rrg (h : OwnS w e 2 a n c (eD l) ob) {X : List Nat} (hx : ∀ g, ob = some g → g ∉ X) : RSl 2 RRg X w (.slice a l.length c) l := by
  have hn := oO h
  refine ⟨a, c, rfl, by rw [← hn]; exact h.le, fun k hk => ?_⟩
  obtain ⟨g, hg, ha, hc⟩ := oA h hk
  exact ⟨g, 0, _, ha, hx g hg, rfl, hc, rfl⟩
end
theorem pS (l : List (Int × Int)) : Sort.flatK DG 2 l.toArray = (eD l).toArray := by
  apply Array.ext
  · simp [jF]
  · intro t h1 h2
    have h3 : t < l.length * 2 := by simpa [jF] using h2
    have h4 := Sort.get_flatK DG 2 l.toArray t (by simpa using h3)
    rw [getElem!_pos _ t h1] at h4
    rw [h4]
    have h5 : t / 2 < l.length := by omega
    have h6 : (l.toArray)[t / 2]! = l[t / 2] := by simp [h5]
    rw [h6]
    obtain ⟨g0, g1⟩ := rE h5
    rcases Nat.mod_two_eq_zero_or_one t with hm | hm <;> rw [hm]
    · rw [show t / 2 * 2 = t by omega] at g0
      show (Value.int .i32 l[t / 2].1) = _
      simp only [List.getElem_toArray]
      exact (Option.some.inj ((List.getElem?_eq_getElem (by rw [jF]; exact h3)).symm.trans g0)).symm
    · rw [show t / 2 * 2 + 1 = t by omega] at g1
      show (Value.int .i32 l[t / 2].2) = _
      simp only [List.getElem_toArray]
      exact (Option.some.inj ((List.getElem?_eq_getElem (by rw [jF]; exact h3)).symm.trans g1)).symm
theorem NO (w : World) (g n : Nat) (d : Array Value) (os : Array Obj) : Evo [g] w (Sort.grow (Sort.putRow id (Sort.ahead w n) g 0 d) os) := by
  refine ⟨rfl, rfl, rfl, ?_, fun b hb hx => ?_⟩
  · simp [Sort.grow, Sort.putRow, Sort.mapBlock, Sort.ahead]
  · have hne : g ≠ b := fun e => hx (by simp [e])
    simp only [Sort.grow, Sort.putRow, Sort.mapBlock, Sort.ahead]
    rw [Array.getElem?_append_left (by simpa using hb), Array.getElem?_modify, if_neg hne]
theorem KX {w : World} {g : Nat} {cur : Array Value} {e : TypeId} (hb : w.heap[g]? = some (.cells cur e (0, 0))) (n : Nat) (d : Array Value) (os : Array Obj) :
    (Sort.grow (Sort.putRow id (Sort.ahead w n) g 0 d) os).heap[g]? = some (.cells (Sort.putCells id 0 d cur) e (0, 0)) := by
  have hlt := fM hb
  simp only [Sort.grow, Sort.putRow, Sort.mapBlock, Sort.ahead]
  rw [Array.getElem?_append_left (by simpa using hlt), Array.getElem?_modify, if_pos rfl, hb]
  rfl
theorem vO (cur : Array Value) (ds : List Value) (hc : ds.length ≤ cur.size) : (Sort.putCells id 0 ds.toArray cur).toList.take ds.length = ds := by
  apply List.ext_getElem?
  intro k
  by_cases hk : k < ds.length
  · rw [List.getElem?_take, if_pos hk]
    simp only [Sort.putCells, Array.getElem?_toList, Array.getElem?_mapIdx, List.getElem?_map]
    have h1 : k < cur.size := by omega
    simp [h1, hk]
  · rw [List.getElem?_eq_none (by simp; omega), List.getElem?_eq_none (by omega)]
theorem JE {w : World} {e : TypeId} {g n c sz : Nat} {xs ds : List Value} (h : OwnS w e sz (some ⟨g, 0, none⟩) n c xs (some g)) (hd : ds.length = n * sz) (q : Nat) (os : Array Obj) :
    OwnS (Sort.grow (Sort.putRow id (Sort.ahead w q) g 0 ds.toArray) os) e sz (some ⟨g, 0, none⟩) n c ds (some g) := by
  refine ⟨hd, ?_⟩
  rcases h.2 with ⟨h1, _⟩ | ⟨g', cap, cur, hg, hv, hb, hn, hc, hs, ht⟩
  · cases h1
  · cases hg; cases hv
    have hle : n * sz ≤ c * sz := Nat.mul_le_mul_right sz hn
    refine .inr ⟨g, c, _, rfl, rfl, KX hb q ds.toArray os, hn, hc, by simpa [Sort.putCells] using hs, ?_⟩
    rw [← hd]
    exact vO cur ds (by omega)
theorem FI {w : World} {e : TypeId} {g n c : Nat} {l : List (Int × Int)} (h : OwnS w e 2 (some ⟨g, 0, none⟩) n c (eD l) (some g)) : Sort.HoldsK DG 2 w g 0 l.toArray := fun j hj => by
  rw [pS] at hj ⊢
  have hj' : j < (eD l).length := by simpa using hj
  have hl := h.length
  rcases h.2 with ⟨h1, _⟩ | ⟨g', cap, cur, hg, hv, hb, hn, hc, hs, ht⟩
  · cases h1
  · cases hg; cases hv
    constructor
    · refine iA hb ?_
      have h1 : (cur.toList.take (n * 2))[j]? = some (eD l)[j] := by rw [ht]; exact List.getElem?_eq_getElem hj'
      rw [List.getElem?_take, if_pos (by omega)] at h1
      rw [Nat.zero_add]
      simpa [hj'] using h1
    · simp [World.frozen?, hb]
end Go.Proofs.YtljadkcojnlioaaGreatDoor
namespace Go.Proofs.YtljadkcojnlioaaGreatDoor
open Go.Proofs
open Go.W Go.RowKit
attribute [local irreducible] Decidable.decide
theorem gM : DO Tryz.prog 24 24 = some (56, 2, 8) := by kernel_rfl
theorem lB : Build Tryz.prog 56 #[(0, 1), (1, 1)] #[.int .i32 0, .int .i32 0] := ⟨_, .agg #[.int .i32 0, .int .i32 0], Tryz.underlying56, by kernel_rfl, rfl, fun w => by kernel_rfl⟩
theorem uM : sE Tryz.prog 67 = some 1 := by kernel_rfl
theorem iW : rD Tryz.prog 24 = some (56, 2) := by kernel_rfl
def Vr (l : List (Int × Int)) : Prop := ∀ g, g ∈ l → 0 ≤ g.1 ∧ g.1 ≤ g.2 ∧ g.2 ≤ 1114111
def lC : List Int → List (Int × Int)
  | a :: b :: r => (a, b) :: lC r
  | _ => []
theorem xW : ∀ (l : List Int), (lC l).length = l.length / 2
  | [] => rfl
  | [a] => by rw [show lC [a] = [] from rfl]; simp
  | a :: b :: r => by rw [lC, List.length_cons, xW r]; simp only [List.length_cons]; omega
theorem xX : ∀ {l : List Int} {k : Nat} (h : k < (lC l).length) (h0 : 2 * k < l.length) (h1 : 2 * k + 1 < l.length), (lC l)[k] = (l[2 * k], l[2 * k + 1])
  | [], k, h, _, _ => by cases h
  | [a], k, h, _, _ => by cases h
  | a :: b :: r, 0, h, _, _ => rfl
  | a :: b :: r, k + 1, h, h0, h1 => by
    have := xX (l := r) (k := k) (by rw [lC] at h; simpa using h) (by simp only [List.length_cons] at h0; omega) (by simp only [List.length_cons] at h1; omega)
    have h2 : (lC (a :: b :: r))[k + 1] = (lC r)[k]'(by rw [lC] at h; simpa using h) := rfl
    rw [h2, this]
    simp only [show 2 * (k + 1) = 2 * k + 1 + 1 by omega, List.getElem_cons_succ]
theorem nH (l : List (Int × Int)) (a b : Int) : eD (l ++ [(a, b)]) = eD l ++ [.int .i32 a, .int .i32 b] := by rw [jW]; rfl
abbrev i32v (l : List Int) : List Value := l.map fun c => Value.int .i32 c
theorem CE {w : World} {e : TypeId} {a : Option Addr} {n c : Nat} {ys : List Int} {ob : Option Nat} (h : OwnS w e 1 a n c (i32v ys) ob) {k : Nat} (hk : k < ys.length) : ∃ g, ob = some g ∧ a = some ⟨g, 0, none⟩ ∧ w.cell? ⟨g, 0 + k * 1, none⟩ = some (.int .i32 ys[k]) := by
  have hl : ys.length = n * 1 := by have := h.length; simpa using this
  obtain ⟨g, hg, ha, hc⟩ := h.cells (by omega)
  refine ⟨g, hg, ha, ?_⟩
  rw [Nat.mul_one]
  exact hc k _ (by simp [hk])
structure SpG where
  k : Nat
  sa : Option Addr
  sc : Nat
  so : Option Nat
structure SpI (w wr : World) (n : Nat) (l : List (Int × Int)) (a : Option Addr) (c : Nat) (ob : Option Nat) : Prop where
  hk : n = l.length
  own : OwnS wr 56 2 a n c (eD l) ob
  ge : Ge w ob
theorem yP {w : World} {a : Option Addr} {c : Nat} {l : List (Int × Int)} {ob : Option Nat} (hO : OwnS w 56 2 a l.length c (eD l) ob) (hl : l.length ≤ 1000000) :
    Calls Tryz.prog 148 #[.slice a l.length c] w (Ret fun v w' => ∃ a' c' ob', v = .slice a' l.length c' ∧ OwnS w' 56 2 a' l.length c' (eD l) ob' ∧ Ge w ob' ∧ Evo [] w w') := by
  refine bO (N := 8) Tryz.func148 rfl rfl rfl ?_; refine aE (aB (aM (aD (aA (aE (aE (aB (aG (aC rfl (ex_eqSl rfl rfl Tryz.underlying24) ?_))))))))); refine aD (aA (gC rfl (fun hc4 => ?_) (fun hc4 => ?_)))
  ·skip
   refine aE (aB (aM (aD (aA (aO (aP (aJ rfl rfl ?_)))))))
   obtain ⟨rfl, h1, rfl, rfl⟩ := (LX hO).resolve_right (fun ⟨g, h, _⟩ => by rw [h] at hc4; cases hc4)
   exact ⟨none, 0, none, rfl, OwnS.nil _ _ _, Ge.nil _, (Evo.refl [] w)⟩
  refine aW (aA (aE (aB (bM (vs := []) rfl iW rfl rfl rfl rfl fun b1 w2 hO3 hs4 hw5 => ?_)))); have hG7 := Ge.new (Evo.refl [] w) hs4; have hE8 := (Evo.refl [] w).then hw5; refine aG ?_; refine dR rfl rfl rfl rfl gM hO3 (Src.ofOwn (hO.evo0 hE8) (oM l)) (by omega) fun a2 c2 w12 ob2 hO2 hw15 hob16 => ?_; have hG18 := hG7.app hE8 hob16; have hE19 := hE8.step hw15 hG7.mem; refine aM (aD (aA (aO (aJ rfl rfl ?_)))); have hO3 := hO2; rw [Nat.zero_add] at hO3; exact ⟨a2, c2, ob2, by rw [Nat.zero_add], by simpa using hO3, hG18, hE19⟩
theorem dW {w : World} {a : Option Addr} {n c : Nat} {es : List Int} {ob : Option Nat} (hO : OwnS w 21 1 a n c (i32v es) ob) (hl : es.length ≤ 1000) :
    Calls Tryz.prog 114 #[.slice a n c] w (Ret fun v w' => ∃ a' c' ob', v = .slice a' (lC es).length c' ∧ OwnS w' 56 2 a' (lC es).length c' (eD (lC es)) ob' ∧ Ge w ob' ∧ Evo [] w w') := by
  have hn : n = es.length := by have := hO.length; simp at this; omega
  subst hn; have hpl := xW es; refine bO (N := 26) Tryz.func114 rfl rfl rfl ?_; refine aE (aB (aM (aD (aA (aE (aB (aM (aD (aA (aE (aE (aB (aM (aD (aA (bT ?_)))))))))))))))); refine eR (α := SpG) (⟨0, none, 0, none⟩) (fun x => [(3, .slice x.sa x.k x.sc), (4, .int .i64 ((2 * x.k : Nat) : Int))]) [(0, _), (2, _)] (fun x wr => Evo [] w wr ∧ (x.k ≤ (lC es).length ∧ SpI w wr x.k ((lC es).take x.k) x.sa x.sc x.so)) (fun x => (lC es).length - x.k) ⟨rfl, rfl, trivial⟩ ⟨rfl, rfl, trivial⟩ ⟨(Evo.refl [] w), ⟨Nat.zero_le _, by simp, OwnS.nil _ _ _, Ge.nil _⟩⟩ ?_; rintro ⟨k, sa, sc, so⟩ wr1 ⟨hV2, ⟨hk, hkl, hown, hge⟩⟩; show CW _ _ _ _ [(3, .slice sa k sc), (4, .int .i64 ((2 * k : Nat) : Int)), (0, _), (2, _)] _
  try dsimp only at hk
  try dsimp only at hkl
  try dsimp only at hown
  try dsimp only at hge
  refine aE (aE (aB (aG ?_))); refine aC rfl (bC rfl rfl (by omega) (by omega)) ?_; refine aG (aC rfl (bQ rfl Tryz.underlying67 rfl) ?_); refine aC rfl (dH rfl rfl) ?_; refine aD (aA (bI rfl (fun hc9 => ?_) (fun hc9 => ?_)))
  ·skip
   have h0 : 2 * k < es.length := by omega
   have h1 : 2 * k + 1 < es.length := by omega
   have hk' : k < (lC es).length := by omega
   obtain ⟨g0, hg0, ha0, hc0⟩ := CE hO h0; obtain ⟨g1, hg1, ha1, hc1⟩ := CE hO h1; refine aW (aA (aE (bT ?_))); refine jB (fun w0 w' => Evo so.toList w0 w') (by kernel_rfl) (fun w3 hw4 => ?_); have hE5 := hV2.then hw4; have hO6 := hown.evo0 hw4; refine bG 0 rfl (by kernel_rfl) (by kernel_rfl) (by kernel_rfl) rfl (fun _ hS => bS rfl) (Evo.refl so.toList w3) ?_; refine bG 1 rfl (by kernel_rfl) (by kernel_rfl) (by kernel_rfl) rfl (fun _ hS => bS rfl) (Evo.refl so.toList w3) ?_; refine bG 2 rfl (by kernel_rfl) (by kernel_rfl) (by kernel_rfl) rfl (fun _ hS => bS rfl) (Evo.refl so.toList w3) ?_; refine bG 3 rfl (by kernel_rfl) (by kernel_rfl) (by kernel_rfl) rfl (fun _ hS => fD (n := 2 * k) rfl (by rfl) ha0 uM h0) (Evo.refl so.toList w3) ?_; refine bG 4 rfl (by kernel_rfl) (by kernel_rfl) (by kernel_rfl) rfl (fun _ hS => aI rfl cJ (((hE5.step hS (hge.mem))).cell hc0 (by simp))) (Evo.refl so.toList w3) ?_; refine bG 5 rfl (by kernel_rfl) (by kernel_rfl) (by kernel_rfl) rfl (fun _ hS => bS rfl) (Evo.refl so.toList w3) ?_; refine bG 6 rfl (by kernel_rfl) (by kernel_rfl) (by kernel_rfl) rfl (fun _ hS => bS rfl) (Evo.refl so.toList w3) ?_; refine bG 7 rfl (by kernel_rfl) (by kernel_rfl) (by kernel_rfl) rfl (fun _ hS => bC rfl rfl (by omega) (by omega)) (Evo.refl so.toList w3) ?_; refine bG 8 rfl (by kernel_rfl) (by kernel_rfl) (by kernel_rfl) rfl (fun _ hS => fD (n := 2 * k + 1) rfl (by rfl) ha1 uM h1) (Evo.refl so.toList w3) ?_
   refine bG 9 rfl (by kernel_rfl) (by kernel_rfl) (by kernel_rfl) rfl (fun _ hS => aI rfl cJ (((hE5.step hS (hge.mem))).cell hc1 (by simp))) (Evo.refl so.toList w3) ?_; refine bG 10 rfl (by kernel_rfl) (by kernel_rfl) (by kernel_rfl) rfl (fun _ hS => eE (vs := [(0, _), (1, _)]) lB rfl (cells := [_, _]) rfl) (Evo.refl so.toList w3) ?_; refine cT [11] (by kernel_rfl) rfl ⟨?_, trivial⟩; refine cZ rfl ?_; refine bM (vs := [_]) rfl iW rfl rfl rfl rfl fun b7 w8 hO9 hs10 hw11 => ?_; have hE15 := hE5.then hw11; have hE16 := (Evo.refl so.toList w3).then hw11; have hO17 := hO6.evo0 hw11; refine aD (cL (.inl hE16) ?_); refine cT [12] (by kernel_rfl) rfl ⟨?_, trivial⟩; refine cZ rfl ?_; refine dR rfl rfl rfl rfl gM hO17 (Src.ofOwn hO9 ⟨rfl, rfl, trivial⟩) (by omega) fun a2 c2 w20 ob2 hO2 hw23 hob24 => ?_; have hG26 := hge.app hE15 hob24; have hE27 := hE15.step hw23 hge.mem; have hE28 := hE16.step hw23 (fun y hy => .inl hy); refine aD (cL (.inl hE28) ?_); refine bG 13 rfl (by kernel_rfl) (by kernel_rfl) (by kernel_rfl) rfl (fun _ hS => eZ rfl) hE28 ?_; refine fL (by kernel_rfl) (aZ (aA ?_)); refine aB (aG ?_); refine aC rfl (bC rfl rfl (by omega) (by omega)) ?_; refine aM (aD (bY ?_)); refine ⟨⟨k + 1, a2, c2, ob2⟩, ?_, ⟨rfl, rfl, trivial⟩, ⟨rfl, rfl, trivial⟩, hE27, ?_⟩
   · (try dsimp only); omega
   try dsimp only
   refine ⟨hk', ⟨by rw [List.length_take]; omega, ?_, hG26⟩⟩
   rw [List.take_add_one, List.getElem?_eq_getElem hk', xX hk' h0 h1, Option.toList_some, nH]; exact hO2
  refine dV (cB (cB (dU (aA ?_)))); refine aE (aB (aG (aM (aD (aA (aO (aJ rfl rfl ?_)))))))
  obtain rfl : k = (lC es).length := by omega
  rw [List.take_length] at hown; exact ⟨sa, sc, so, rfl, hown, hge, hV2⟩
end Go.Proofs.YtljadkcojnlioaaGreatDoor
namespace Go.Proofs.YtljadkcojnlioaaGreatDoor
open Go.Proofs
open Go.W Go.RowKit
attribute [local irreducible] Decidable.decide
open Go.Shelf Go.Lib Go.Sort in
section
def cl (z : Int) : Int := max 0 (min z 1114111)
def zW (g : Int × Int) : List Value := DG (cl g.1, cl g.2)
def cmC (x y : Int × Int) : Int := cl x.1 - cl y.1
theorem HZ {z : Int} (h0 : 0 ≤ z) (h1 : z ≤ 1114111) : cl z = z := by unfold cl; omega
theorem cl_b (z : Int) : 0 ≤ cl z ∧ cl z ≤ 1114111 := by unfold cl; omega
set_option maxHeartbeats 1000000 in
theorem clos_ok (x y : Int × Int) (W : World) : Calls Tryz.prog 152 #[.agg (zW x).toArray, .agg (zW y).toArray] W fun e w' => e = .returned (.int .i64 (cmC x y)) ∧ ∃ q os', w' = Sort.grow (W.drewN q) os' := by
  have hx := cl_b x.1
  have hy := cl_b y.1
  unfold zW DG cmC
  generalize cl x.1 = p at *
  generalize cl y.1 = q at *
  generalize cl x.2 = p' at *
  generalize cl y.2 = q' at *
  show Calls Tryz.prog 152 #[.agg #[.int .i32 p, .int .i32 p'], .agg #[.int .i32 q, .int .i32 q']] W _
  go_enter Tryz.func152, Tryz.ntmps152
  go_wp2
  go_ret
  refine ⟨?_, 0, _, by rw [Sort.alloc_eq_grow, Sort.alloc_eq_grow, Sort.grow_grow]; rfl⟩
  rfl
end
theorem NW {l : List (Int × Int)} (h : Vr l) : l.map (fun g => (cl g.1, cl g.2)) = l := by
  conv => rhs; rw [← List.map_id l]
  refine List.map_congr_left fun g hg => ?_
  have := h g hg
  rw [HZ (by omega) (by omega), HZ (by omega) (by omega)]; rfl
theorem wN (l : List (Int × Int)) : Sort.flatK zW 2 l.toArray = (eD (l.map fun g => (cl g.1, cl g.2))).toArray := by
  rw [← pS]
  unfold Sort.flatK
  apply Array.ext
  · simp
  · intro t h1 h2
    have h3 : t < l.length * 2 := by simpa using h1
    have h5 : t / 2 < l.length := by omega
    simp [h5]
    rfl
theorem GJ {l m : List (Int × Int)} (h : m.Perm l) (hv : Vr l) : Vr m := fun g hg => hv g (h.mem_iff.1 hg)
theorem HD (x y : Int × Int) : Go.Proofs.ltOf cmC x y = decide (cl x.1 < cl y.1) := by unfold Go.Proofs.ltOf cmC; exact decide_eq_decide.2 (by omega)
theorem swo_cm : Sort.SWO (Go.Proofs.ltOf cmC) where
  irrefl x := by rw [HD]; simp
  trans x y z h1 h2 := by rw [HD] at *; simp at *; omega
  ntrans x y z h1 h2 := by rw [HD] at *; simp at *; omega
theorem KQ {w : World} {a : Option Addr} {c : Nat} {l : List (Int × Int)} {ob : Option Nat} (hO : OwnS w 56 2 a l.length c (eD l) ob) (hv : Vr l) (hl : l.length ≤ 1000000) :
    Calls Tryz.prog 151 #[.slice a l.length c, .func (.func 152) #[] #[]] w (Ret fun v w' => v = .tuple #[] ∧ ∃ m, m.Perm l ∧ (∀ i j (hij : i < j) (hj : j < m.length), m[i].1 ≤ m[j].1) ∧ OwnS w' 56 2 a l.length c (eD m) ob ∧ Evo ob.toList w w') := by
  rcases LX hO with ⟨rfl, hn, rfl, rfl⟩ | ⟨g, rfl, rfl⟩
  · refine (Go.Proofs.AnyF.slices_SortFunc_none { xA with } none c (.func (.func 152) #[] #[]) w).mono ?_
    rintro e w' ⟨rfl, rfl⟩
    exact ⟨_, rfl, rfl, [], .refl _, (fun i j hij hj => by cases hj), hO, Evo.refl _ _⟩
  · have eg : ∀ args w, (callFunc 152 args).run Tryz.prog w = .ok (.enter 152 args) w := enters_of Tryz.func152 (by kernel_rfl) rfl
    have hH : Sort.HoldsK zW 2 w g 0 l.toArray := by
      have := FI hO
      unfold Sort.HoldsK at *
      rw [wN, NW hv]; rw [pS] at this; exact this
    have hcon := Go.Proofs.AnyQ.slices_SortFunc xA 2 Tryz.isAgg56 Tryz.sizeOf56 zW (fun _ => rfl) (fun x v hv => by simp [zW, DG] at hv; rcases hv with rfl | rfl <;> rfl) cmC swo_cm 152 #[] g 0 c l.toArray w eg (fun _ _ _ _ x y => clos_ok x y _) hH hO.lt (by simp; omega)
    refine Calls.mono hcon ?_
    rintro e w' ⟨rfl, d', q, os, hp, hs, rfl⟩
    obtain ⟨h1, h2, h3⟩ := hp
    have hperm : d'.toList.Perm l := by
      have e1 : d'.extract 0 l.toArray.size = d' := by rw [← h1, Array.extract_size]
      have e2 : l.toArray.extract 0 l.toArray.size = l.toArray := Array.extract_size
      rw [e1, e2] at h3
      exact h3
    have hvm := GJ hperm hv
    have hlen : d'.toList.length = l.length := by simpa using h1
    refine ⟨_, rfl, rfl, d'.toList, hperm, fun i j hij hj => ?_, ?_, ?_⟩
    · have hjs : j < d'.size := by simpa using hj
      have h5 := hs i j (Nat.zero_le _) hij (by rw [← h1]; exact hjs)
      rw [HD, decide_eq_false_iff_not] at h5
      have h6 := hvm _ (List.getElem_mem hj)
      have h7 := hvm _ (List.getElem_mem (show i < d'.toList.length by omega))
      have e1 : d'[j]! = d'.toList[j] := by rw [getElem!_pos d' j hjs]; simp
      have e2 : d'[i]! = d'.toList[i] := by rw [getElem!_pos d' i (by omega)]; simp
      rw [e1, e2, HZ (by omega) (by omega), HZ (by omega) (by omega)] at h5
      omega
    · have h8 := JE hO (ds := eD d'.toList) (by rw [jF, hlen]) q os
      have e3 : Sort.flatK zW 2 d' = (eD d'.toList).toArray := by
        have := wN d'.toList
        rw [NW hvm] at this
        simpa using this
      show OwnS (Sort.grow (Sort.putRow id (Sort.ahead w q) g 0 (Sort.flatK zW 2 d')) os) _ _ _ _ _ _ _
      rw [e3]
      exact h8
    · exact NO w g q _ os
end Go.Proofs.YtljadkcojnlioaaGreatDoor
namespace Go.Proofs.YtljadkcojnlioaaGreatDoor
open Go.Proofs
open Go.W Go.RowKit
attribute [local irreducible] Decidable.decide
theorem sN : eT Tryz.prog 148 := ⟨_, Tryz.func148, by kernel_rfl, by kernel_rfl⟩
theorem AS : eT Tryz.prog 151 := ⟨_, Tryz.func151, by kernel_rfl, by kernel_rfl⟩
structure MgP (m : List (Int × Int)) (k : Nat) (o : List (Int × Int)) : Prop where
  hk : k ≤ m.length
  can : tU o
  eq : ∀ c, InR c o ↔ InR c (m.take k)
  le : ∀ g, g ∈ o → ∀ i (h : i < m.length), k ≤ i → g.1 ≤ m[i].1
  len : o.length ≤ k
theorem MJ (m : List (Int × Int)) : MgP m 0 [] := ⟨Nat.zero_le _, trivial, fun c => by simp, (fun g h => by cases h), Nat.le_refl _⟩
theorem CM {m : List (Int × Int)} {k : Nat} (h : k < m.length) (c : Int) : InR c (m.take (k + 1)) ↔ InR c (m.take k) ∨ (m[k].1 ≤ c ∧ c ≤ m[k].2) := by
  rw [List.take_add_one, List.getElem?_eq_getElem h, Option.toList_some, mG, kI]
section
variable {m : List (Int × Int)} {k : Nat} {o : List (Int × Int)}
theorem MK (h : MgP m k o) (hk : k < m.length) (hv : Vr m) (hs : ∀ i j (hij : i < j) (hj : j < m.length), m[i].1 ≤ m[j].1) (ho : o = [] ∨ ∃ o' g, o = o' ++ [g] ∧ ¬ m[k].1 ≤ g.2 + 1) : MgP m (k + 1) (o ++ [m[k]]) := by
  have hx := hv _ (List.getElem_mem hk)
  refine ⟨hk, ?_, fun c => ?_, fun g hg i hi hki => ?_, by rw [List.length_append]; have := h.len; simp; omega⟩
  · rcases ho with rfl | ⟨o', g, rfl, hn⟩
    · exact wP hx.1 hx.2.1 hx.2.2
    · exact ((DK h.can (h.le g (by simp) k hk (Nat.le_refl _)) hx.2.1 hx.2.2).2 hn).1
  · rw [mG, kI, CM hk, h.eq]
  · rcases List.mem_append.1 hg with hg | hg
    · exact h.le g hg i hi (by omega)
    · rw [List.mem_singleton.1 hg]; exact hs k i (by omega) hi
theorem mg_ext {o' : List (Int × Int)} {g : Int × Int} (h : MgP m k (o' ++ [g])) (hk : k < m.length) (hv : Vr m) (hn : m[k].1 ≤ g.2 + 1) : MgP m (k + 1) (o' ++ [(g.1, max g.2 m[k].2)]) := by
  have hx := hv _ (List.getElem_mem hk)
  have h1 := (DK h.can (h.le g (by simp) k hk (Nat.le_refl _)) hx.2.1 hx.2.2).1 hn
  refine ⟨hk, h1.1, fun c => by rw [h1.2, CM hk, h.eq], fun g' hg i hi hki => ?_, by have := h.len; simp at this ⊢; omega⟩
  rcases List.mem_append.1 hg with hg | hg
  · exact h.le g' (by simp [hg]) i hi (by omega)
  · rw [List.mem_singleton.1 hg]; exact h.le g (by simp) i hi (by omega)
theorem mg_end (h : MgP m k o) (hk : m.length ≤ k) {l : List (Int × Int)} (hp : m.Perm l) {S : Int → Prop} (hS : ∀ c, InR c l ↔ S c) : o = lT S := by
  refine (sF h.can fun c => ?_).symm
  rw [h.eq, List.take_of_length_le hk, CN hp, hS]
end
theorem FA (o : List (Int × Int)) (g : Int × Int) (z : Int) (j : Nat) (hj : j = 0 + o.length * 2 + 1) : (eD (o ++ [g])).set j (.int .i32 z) = eD (o ++ [(g.1, z)]) := by
  subst hj
  obtain ⟨a, b⟩ := g
  rw [nH, nH, List.set_append_right _ _ (by rw [jF]; omega), jF, show 0 + o.length * 2 + 1 - o.length * 2 = 1 by omega]
  rfl
theorem snoc_of {l : List (Int × Int)} (h : 0 < l.length) : ∃ o g, l = o ++ [g] ∧ o.length = l.length - 1 := by
  rcases List.eq_nil_or_concat l with rfl | ⟨o, g, rfl⟩
  · cases h
  · exact ⟨o, g, by simp, by simp⟩
structure MgG where
  k : Nat
  n : Nat
  o : List (Int × Int)
  sa : Option Addr
  sc : Nat
  so : Option Nat
structure MgI (w wr : World) (m : List (Int × Int)) (a1 : Option Addr) (c1 : Nat) (ob1 : Option Nat) (x : MgG) : Prop where
  p : MgP m x.k x.o
  cl : OwnS wr 56 2 a1 m.length c1 (eD m) ob1
  own : OwnS wr 56 2 x.sa x.n x.sc (eD x.o) x.so
  ge : Ge w x.so
  gc : Ge w ob1
  ap : Apart ob1 x.so
theorem vZ {a b : Int} : (if a < b then b else a) = max a b := by omega
def RsOut (w w' : World) (v : Value) (S : Int → Prop) (n : Nat) : Prop := ∃ a c ob, v = .slice a (lT S).length c ∧ OwnS w' 56 2 a (lT S).length c (eD (lT S)) ob ∧ Ge w ob ∧ (lT S).length ≤ n ∧ tU (lT S) ∧ (∀ c, InR c (lT S) ↔ S c) ∧ Evo [] w w'
theorem tG {w : World} {a : Option Addr} {c : Nat} {l : List (Int × Int)} {ob : Option Nat} (hO : OwnS w 56 2 a l.length c (eD l) ob) (hv : Vr l) (hl : l.length ≤ 1000000) {S : Int → Prop} (hS : ∀ c, InR c l ↔ S c) :
    Calls Tryz.prog 136 #[.slice a l.length c] w (Ret fun v w' => RsOut w w' v S l.length) := by
  refine bO (N := 53) Tryz.func136 rfl rfl rfl ?_; refine aE (aB (aM (aD (aA (aE (aB (aG (aN (vs := [_]) sN rfl (yP hO hl) rfl ?_)))))))); rintro _ w1 ⟨a1, c1, ob1, rfl, hO1, hg1, hw2⟩; have hG3 := Ge.fresh (Evo.refl [] w) hg1; have hE4 := (Evo.refl [] w).then hw2; refine aM (aD (aA (aE (aB (aG (aN (vs := [_, _]) AS rfl (KQ hO1 hv hl) rfl ?_)))))); rintro _ w5 ⟨rfl, m, hpm, hsm, hO2, hw6⟩; have hml := hpm.length_eq; have hvm := GJ hpm hv; have hE7 := hE4.step hw6 hG3.mem; rw [← hml] at hO2; refine aD (aA (aE (aB (aM (aD (aA (aE (aE (aB (aG (aC rfl (bQ rfl Tryz.underlying24 rfl) ?_))))))))))); refine aG (aD (aA (bT (eR (α := MgG) (⟨0, 0, [], none, 0, none⟩) (fun x => [(3, .slice x.sa x.n x.sc), (13, .int .i64 (x.k : Nat))]) [(2, _), (11, _), (12, _)] (fun x wr => Evo [] w wr ∧ (MgI w wr m a1 c1 ob1 x)) (fun x => m.length - x.k) ⟨rfl, rfl, trivial⟩ ⟨rfl, rfl, rfl, trivial⟩ ⟨hE7, ⟨MJ m, hO2, OwnS.nil _ _ _, Ge.nil _, hg1, Apart.nil _⟩⟩ ?_)))); rintro ⟨k, n, o, sa, sc, so⟩ wr8 ⟨hV9, ⟨hp, hcl, hown, hge, hgc, hap⟩⟩; show CW _ _ _ _ [(3, .slice sa n sc), (13, .int .i64 (k : Nat)), (2, _), (11, _), (12, _)] _
  try dsimp only at hp
  try dsimp only at hcl
  try dsimp only at hown
  try dsimp only at hge
  try dsimp only at hgc
  try dsimp only at hap
  have hE10 := Evo.refl ([]) wr8; have hon := oO hown; have hpl := hp.len; have hpk := hp.hk
  try dsimp only at hpl hpk
  refine aE (aB (aC rfl (dH rfl rfl) ?_)); refine aD (aA (aE (bI rfl (fun hc14 => ?_) (fun hc14 => ?_))))
  ·skip
   have hk' : k < m.length := by omega
   have hvk := hvm _ (List.getElem_mem hk'); obtain ⟨g1, hg1', ha1, hc1⟩ := oA hcl hk'; refine aW (aA (aE (bT (aE (aB ?_))))); refine aC rfl (fD (n := k) rfl rfl ha1 fE (by omega)) ?_; refine aC rfl (eL rfl jN fX (vs := [_, _]) rfl (hc1.evo hE10 (by simp))) ?_; refine dG rfl lV fun b11 w12 hB13 hs14 hw15 => ?_; have hA16 := Apart.new (Lt.own hown) hs14; have hA17 := Apart.new (Lt.own hcl) hs14; have hG18 := Ge.new hV9 hs14; have hG19 := Ge.new hE10 hs14; have hE20 := hV9.then hw15; have hE21 := hE10.then hw15; have hO22 := hown.evo0 hw15; have hO23 := hcl.evo0 hw15; refine bN rfl rfl fX hB13 rfl rfl ⟨rfl, rfl, trivial⟩ fun w24 hB25 hw26 => ?_; have hE27 := hE20.step hw26 hG18.mem1; have hE28 := hE21.step hw26 hG19.mem1; have hO29 := hO22.evo hw26 hA16.own1; have hO30 := hO23.evo hw26 hA17.own1
   try simp only [cU, Nat.reduceAdd] at hB25
   refine aD (aA (aE (aE (aB (aG (aC rfl (bQ rfl Tryz.underlying24 rfl) ?_)))))); refine aM (aD (aA (aE ?_))); refine fH (by kernel_rfl) (by kernel_rfl) ?_; refine aV rfl (fun _ hq32 => bS rfl) ?_; refine aV rfl (fun _ hq32 => fV rfl rfl) ?_; refine aV rfl (fun _ hq32 => bS rfl) ?_; refine kE (t := 21) rfl (fun hs21 => ?_) (fun hs21 => ?_)
   ·skip
    have h0 : 0 < o.length := by omega
    obtain ⟨o', q, hoq, hol⟩ := snoc_of h0; subst hoq
    have hol2 : (o' ++ [q]).length = o'.length + 1 := by simp
    have hqb := tO (x := q) hp.can; obtain ⟨gq, hgq, haq, hcq⟩ := oA hown (i := o'.length) (by omega); rw [List.getElem_concat_length (h := rfl)] at hcq; refine dQ rfl rfl rfl rfl ?_; refine aV rfl (fun _ hq32 => aF rfl gG) ?_; refine dQ rfl rfl rfl rfl ?_; refine aV rfl (fun _ hq32 => aI rfl cJ (aK (hq32.blk0 hB25) rfl)) ?_; refine dQ rfl rfl rfl rfl ?_; refine aV rfl (fun _ hq32 => bS rfl) ?_; refine dQ rfl rfl rfl rfl ?_; refine aV rfl (fun _ hq32 => bS rfl) ?_; refine dQ rfl rfl rfl rfl ?_; refine aV rfl (fun _ hq32 => eY rfl rfl (by omega) (by omega)) ?_; refine dQ rfl rfl rfl rfl ?_; refine aV rfl (fun _ hq32 => fO (n := o'.length) rfl rfl haq (by omega) fE (by omega)) ?_; refine dQ rfl rfl rfl rfl ?_; refine aV rfl (fun _ hq32 => aF rfl fF) ?_; refine dQ rfl rfl rfl rfl ?_; refine aV rfl (fun _ hq32 => aI rfl cJ (((hE28.then hq32)).cell (hcq 1 _ rfl) (by simp))) ?_; refine dQ rfl rfl rfl rfl ?_; refine aV rfl (fun _ hq32 => jL rfl rfl (by omega) (by omega)) ?_; refine dQ rfl rfl rfl rfl ?_; refine aV rfl (fun _ hq32 => gI rfl rfl) ?_; refine aV rfl (fun _ hq32 => hI rfl rfl) ?_; refine fN (fun wq31 hq32 => aA ?_); have hE33 := hE27.then hq32; have hE34 := hE28.then hq32; have hO35 := hO29.evo0 hq32; have hO36 := hO30.evo0 hq32; have hB37 := hq32.blk0 hB25; refine bI rfl (fun hc32 => ?_) (fun hc32 => ?_)
    ·skip
     refine aE ?_; refine jB (fun w0 w' => Evo so.toList w0 w') (by kernel_rfl) (fun w38 hw39 => ?_); have hE40 := hE33.then hw39; have hE41 := hE34.then hw39; have hO42 := hO35.evo0 hw39; have hO43 := hO36.evo0 hw39; have hB44 := hw39.blk0 hB37; refine bG 0 rfl (by kernel_rfl) (by kernel_rfl) (by kernel_rfl) rfl (fun _ hS => bS rfl) (Evo.refl so.toList w38) ?_; refine bG 1 rfl (by kernel_rfl) (by kernel_rfl) (by kernel_rfl) rfl (fun _ hS => bS rfl) (Evo.refl so.toList w38) ?_; refine bG 2 rfl (by kernel_rfl) (by kernel_rfl) (by kernel_rfl) rfl (fun _ hS => eY rfl rfl (by omega) (by omega)) (Evo.refl so.toList w38) ?_; refine bG 3 rfl (by kernel_rfl) (by kernel_rfl) (by kernel_rfl) rfl (fun _ hS => bS rfl) (Evo.refl so.toList w38) ?_; refine bG 4 rfl (by kernel_rfl) (by kernel_rfl) (by kernel_rfl) rfl (fun _ hS => bS rfl) (Evo.refl so.toList w38) ?_; refine bG 5 rfl (by kernel_rfl) (by kernel_rfl) (by kernel_rfl) rfl (fun _ hS => eY rfl rfl (by omega) (by omega)) (Evo.refl so.toList w38) ?_; refine bG 6 rfl (by kernel_rfl) (by kernel_rfl) (by kernel_rfl) rfl (fun _ hS => fO (n := o'.length) rfl rfl haq (by omega) fE (by omega)) (Evo.refl so.toList w38) ?_; refine bG 7 rfl (by kernel_rfl) (by kernel_rfl) (by kernel_rfl) rfl (fun _ hS => aF rfl fF) (Evo.refl so.toList w38) ?_; refine bG 9 rfl (by kernel_rfl) (by kernel_rfl) (by kernel_rfl) rfl (fun _ hS => aF rfl fF) (Evo.refl so.toList w38) ?_; refine bG 10 rfl (by kernel_rfl) (by kernel_rfl) (by kernel_rfl) rfl (fun _ hS => aI rfl cJ (aK (hS.blk hB44 (hA16.symm.nmem)) rfl)) (Evo.refl so.toList w38) ?_
     refine cT [8] (by kernel_rfl) rfl ⟨?_, trivial⟩; refine cZ rfl ?_; refine aC rfl (aI rfl cJ ((hE41).cell (hcq 1 _ rfl) (by simp))) ?_; refine aD (cL (.inl (Evo.refl so.toList w38)) ?_); refine cT [11] (by kernel_rfl) rfl ⟨?_, trivial⟩; refine cZ rfl ?_; refine aC rfl (wL rfl rfl) ?_; refine aD (cL (.inl (Evo.refl so.toList w38)) ?_); refine bG 12 rfl (by kernel_rfl) (by kernel_rfl) (by kernel_rfl) rfl (fun _ hS => fO (n := o'.length) rfl rfl haq (by omega) fE (by omega)) (Evo.refl so.toList w38) ?_; refine bG 13 rfl (by kernel_rfl) (by kernel_rfl) (by kernel_rfl) rfl (fun _ hS => aF rfl fF) (Evo.refl so.toList w38) ?_; refine cT [14] (by kernel_rfl) rfl ⟨?_, trivial⟩; refine cZ rfl ?_
     obtain ⟨g54, cur45, hg46, hx47, hcu48, hcs49, -⟩ := hO42.at (by omega)
     rw [haq] at hx47; cases hx47
     refine rC rfl rfl (rfl) iD hcu48 (hO42.inb hcs49 (k := o'.length) (j := 1) (by omega) (by omega) (by omega)) fun w50 hB51 hw52 => ?_; replace hw52 := rL hg46 hw52; have hO53 := hO42.set' hg46 hcu48 hB51; have hE55 := hE40.step hw52 hge.mem; have hE57 := (Evo.refl so.toList w38).step hw52 (fun y hy => .inl hy); have hO58 := hO43.evo hw52 hap.own; refine aD (cL (.inl hE57) ?_); refine fL (by kernel_rfl) (aA ?_); refine dV (cB (dU (aA ?_))); refine aB ?_; refine aC rfl (bC rfl rfl (by omega) (by omega)) ?_; refine aG (aD (bY ?_)); refine ⟨⟨k + 1, n, o' ++ [(q.1, max q.2 m[k].2)], sa, sc, so⟩, ?_, ⟨rfl, rfl, trivial⟩, ⟨rfl, rfl, rfl, trivial⟩, hE55, ?_⟩
     · (try dsimp only); omega
     try dsimp only
     have hO9 := hO53; rw [FA _ _ _ _ rfl, vZ] at hO9; exact ⟨mg_ext hp hk' hvm hc32, hO58, hO9, hge, hgc, hap⟩
    refine aW (aA (aB (aG (aC rfl (cF rfl jN fX hB37 rfl) (bM (vs := [_]) rfl iW rfl rfl rfl rfl fun b60 w61 hO62 hs63 hw64 => ?_))))); have hE70 := hE33.then hw64; have hO72 := hO35.evo0 hw64; have hO73 := hO36.evo0 hw64
    refine dR rfl rfl rfl rfl gM hO72 (Src.ofOwn hO62 ⟨rfl, rfl, trivial⟩) (by have := hp.len; omega) fun a2 c2 w77 ob2 hO3 hw80 hob81 => ?_
    have hA82 := hap.app (Lt.own hO73) hob81; have hG85 := hge.app hE70 hob81; have hE86 := hE70.step hw80 hge.mem; have hO88 := hO73.evo hw80 hap.own; refine aM (aD (aZ (aA (aB ?_)))); refine aC rfl (bC rfl rfl (by omega) (by omega)) ?_; refine aG (aD (bY ?_)); refine ⟨⟨k + 1, n + 1, (o' ++ [q]) ++ [m[k]], a2, c2, ob2⟩, ?_, ⟨rfl, rfl, trivial⟩, ⟨rfl, rfl, rfl, trivial⟩, hE86, ?_⟩
    · (try dsimp only); omega
    try dsimp only
    refine ⟨MK hp hk' hvm hsm (.inr ⟨o', q, rfl, hc32⟩), hO88, ?_, hG85, hgc, hA82⟩
    rw [jW]; exact hO3
   refine dB rfl rfl rfl rfl rfl rfl ?_; refine dB rfl rfl rfl rfl rfl rfl ?_; refine dB rfl rfl rfl rfl rfl rfl ?_; refine dB rfl rfl rfl rfl rfl rfl ?_; refine dB rfl rfl rfl rfl rfl rfl ?_; refine dB rfl rfl rfl rfl rfl rfl ?_; refine dB rfl rfl rfl rfl rfl rfl ?_; refine dB rfl rfl rfl rfl rfl rfl ?_; refine dB rfl rfl rfl rfl rfl rfl ?_; refine dB rfl rfl rfl rfl rfl rfl ?_; refine aV rfl (fun _ hq32 => iF rfl rfl) ?_; refine fN (fun wq31 hq32 => aA ?_); have hE91 := hE27.then hq32; have hO93 := hO29.evo0 hq32; have hO94 := hO30.evo0 hq32; have hB95 := hq32.blk0 hB25; refine cK rfl ?_; refine aW (aA (aB (aG (aC rfl (cF rfl jN fX hB95 rfl) (bM (vs := [_]) rfl iW rfl rfl rfl rfl fun b96 w97 hO98 hs99 hw100 => ?_))))); have hE106 := hE91.then hw100; have hO108 := hO93.evo0 hw100; have hO109 := hO94.evo0 hw100
   refine dR rfl rfl rfl rfl gM hO108 (Src.ofOwn hO98 ⟨rfl, rfl, trivial⟩) (by have := hp.len; omega) fun a2 c2 w113 ob2 hO3 hw116 hob117 => ?_
   have hA118 := hap.app (Lt.own hO109) hob117; have hG121 := hge.app hE106 hob117; have hE122 := hE106.step hw116 hge.mem; have hO124 := hO109.evo hw116 hap.own; refine aM (aD (aZ (aA (aB ?_)))); refine aC rfl (bC rfl rfl (by omega) (by omega)) ?_; refine aG (aD (bY ?_)); refine ⟨⟨k + 1, n + 1, o ++ [m[k]], a2, c2, ob2⟩, ?_, ⟨rfl, rfl, trivial⟩, ⟨rfl, rfl, rfl, trivial⟩, hE122, ?_⟩
   · (try dsimp only); omega
   try dsimp only
   refine ⟨MK hp hk' hvm hsm (.inl (List.length_eq_zero_iff.1 (by omega))), hO124, ?_, hG121, hgc, hA118⟩
   rw [jW]; exact hO3
  refine dV (cB (cB (dU (aA ?_)))); refine aE (aB (aG (aM (aD (aA (aO (aJ rfl rfl ?_))))))); have e := mg_end hp (by omega) hpm hS; subst e; subst hon; exact ⟨sa, sc, so, rfl, hown, hge, by omega, hp.can, fun c => by rw [hp.eq, List.take_of_length_le (by omega), CN hpm, hS], hV9⟩
end Go.Proofs.YtljadkcojnlioaaGreatDoor
namespace Go.Proofs.YtljadkcojnlioaaGreatDoor
open Go.Proofs
open Go.W Go.RowKit
attribute [local irreducible] Decidable.decide
theorem oX : eT Tryz.prog 136 := ⟨_, Tryz.func136, by kernel_rfl, by kernel_rfl⟩
structure NgG where
  k : Nat
  n : Nat
  o : List (Int × Int)
  nx : Int
  sa : Option Addr
  sc : Nat
  so : Option Nat
structure NgI (w wr : World) (m : List (Int × Int)) (a1 : Option Addr) (c1 : Nat) (ob1 : Option Nat) (x : NgG) : Prop where
  hk : x.k ≤ m.length
  eq : x.o ++ pR x.nx (m.drop x.k) = pR 0 m
  b0 : 0 ≤ x.nx
  b1 : x.nx ≤ 1114112
  len : x.n ≤ x.k
  cl : OwnS wr 56 2 a1 m.length c1 (eD m) ob1
  own : OwnS wr 56 2 x.sa x.n x.sc (eD x.o) x.so
  ge : Ge w x.so
  gc : Ge w ob1
  ap : Apart ob1 x.so
theorem JM (b : Int) {m : List (Int × Int)} {k : Nat} (h : k < m.length) : pR b (m.drop k) = (if b < m[k].1 then [(b, m[k].1 - 1)] else []) ++ pR (m[k].2 + 1) (m.drop (k + 1)) := by
  rw [List.drop_eq_getElem_cons h, pR]
theorem IA {m : List (Int × Int)} (h : tU m) : ∀ {k : Nat} (hk : k < m.length), 0 ≤ m[k].1 ∧ m[k].1 ≤ m[k].2 ∧ m[k].2 ≤ 1114111 := by
  have key : ∀ {m : List (Int × Int)} {b : Int}, 0 ≤ b → jS b m → ∀ {k : Nat} (hk : k < m.length), 0 ≤ m[k].1 ∧ m[k].1 ≤ m[k].2 ∧ m[k].2 ≤ 1114111 := by
    intro m
    induction m with
    | nil => intro b _ _ k hk; cases hk
    | cons g m ih =>
      intro b hb hc k hk
      rw [jS] at hc
      cases k with
      | zero => exact ⟨by show 0 ≤ g.1; omega, hc.2.1, hc.2.2.1⟩
      | succ k => exact ih (b := g.2 + 2) (by omega) hc.2.2.2 (by simpa using hk)
  intro k hk
  exact key (Int.le_refl _) h hk
theorem tM {m : List (Int × Int)} (h : tU m) : Vr m := fun g hg => by
  obtain ⟨k, hk, rfl⟩ := List.getElem_of_mem hg
  exact IA h hk
theorem yC {m : List (Int × Int)} {S : Int → Prop} (h : tU m) (hS : ∀ c, InR c m ↔ S c) : tU (pR 0 m) ∧ (∀ c, InR c (pR 0 m) ↔ uO S c) ∧ pR 0 m = lT (uO S) := by
  obtain ⟨h1, h2⟩ := zP (b := 0) (d := 0) (Int.le_refl _) (Int.le_refl _) h
  have h3 : ∀ c, InR c (pR 0 m) ↔ uO S c := fun c => by rw [h2, hS]; exact Iff.rfl
  exact ⟨h1, h3, (sF h1 h3).symm⟩
theorem lH {w : World} {a : Option Addr} {c : Nat} {l : List (Int × Int)} {ob : Option Nat} (hO : OwnS w 56 2 a l.length c (eD l) ob) (hv : Vr l) (hl : l.length ≤ 1000000) {S : Int → Prop} (hS : ∀ c, InR c l ↔ S c) :
    Calls Tryz.prog 131 #[.slice a l.length c] w (Ret fun v w' => RsOut w w' v (uO S) (l.length + 1)) := by
  refine bO (N := 38) Tryz.func131 rfl rfl rfl ?_; refine aE (aB (aM (aD (aA (aE (aB (aM (aD (aA (aE (aB (aM (aD (aA (aE (aE (aB ?_))))))))))))))))); refine aG (aN (vs := [_]) oX rfl (tG hO hv hl hS) rfl ?_); rintro _ w1 ⟨a1, c1, ob1, rfl, hO1, hg1, hml, hcan, heqS, hw2⟩; have hE4 := (Evo.refl [] w).then hw2
  generalize hm : lT S = m at *
  refine aC rfl (bQ rfl Tryz.underlying24 rfl) ?_; refine aG (aD (aA (bT ?_)))
  refine eR (α := NgG) (⟨0, 0, [], 0, none, 0, none⟩) (fun x => [(3, .slice x.sa x.n x.sc), (10, .int .i64 (x.k : Nat)), (4, .int .i32 x.nx)]) [(2, _), (8, _), (9, _)] (fun x wr => Evo [] w wr ∧ (NgI w wr m a1 c1 ob1 x)) (fun x => m.length - x.k) ⟨rfl, rfl, rfl, trivial⟩ ⟨rfl, rfl, rfl, trivial⟩ ⟨hE4, ⟨Nat.zero_le _, rfl, Int.le_refl _, (by show (0 : Int) ≤ 1114112; omega), Nat.le_refl _, hO1, OwnS.nil _ _ _, Ge.nil _, hg1, Apart.nil _⟩⟩ ?_
  rintro ⟨k, n, o, nx, sa, sc, so⟩ wr5 ⟨hV6, ⟨hk, heq, hb0, hb1, hlen, hcl, hown, hge, hgc, hap⟩⟩; show CW _ _ _ _ [(3, .slice sa n sc), (10, .int .i64 (k : Nat)), (4, .int .i32 nx), (2, _), (8, _), (9, _)] _
  try dsimp only at hk
  try dsimp only at heq
  try dsimp only at hb0
  try dsimp only at hb1
  try dsimp only at hlen
  try dsimp only at hcl
  try dsimp only at hown
  try dsimp only at hge
  try dsimp only at hgc
  try dsimp only at hap
  have hE7 := Evo.refl ([]) wr5; refine aE (aB (aC rfl (dH rfl rfl) ?_)); refine aD (aA (aE (bI rfl (fun hc11 => ?_) (fun hc11 => ?_))))
  ·skip
   have hk' : k < m.length := by omega
   have hmk := IA hcan hk'; obtain ⟨g1, hg1', ha1, hc1⟩ := oA hcl hk'; have hgc0 := JM nx hk'; refine aW (aA (aE (bT (aE (aB ?_))))); refine aC rfl (fD (n := k) rfl rfl ha1 fE (by omega)) ?_; refine aC rfl (eL rfl jN fX (vs := [_, _]) rfl (hc1.evo hE7 (by simp))) ?_; refine dG rfl lV fun b8 w9 hB10 hs11 hw12 => ?_; have hA13 := Apart.new (Lt.own hown) hs11; have hA14 := Apart.new (Lt.own hcl) hs11; have hG15 := Ge.new hV6 hs11; have hE17 := hV6.then hw12; have hO19 := hown.evo0 hw12; have hO20 := hcl.evo0 hw12; refine bN rfl rfl fX hB10 rfl rfl ⟨rfl, rfl, trivial⟩ fun w21 hB22 hw23 => ?_; have hE24 := hE17.step hw23 hG15.mem1; have hO26 := hO19.evo hw23 hA13.own1; have hO27 := hO20.evo hw23 hA14.own1
   try simp only [cU, Nat.reduceAdd] at hB22
   refine aD (aA (aE (aE (aB (aC rfl (aF rfl gG) (aC rfl (aI rfl cJ (aK hB22 rfl)) (aG (aC rfl (fV rfl rfl) ?_)))))))); refine aD (aA (bI rfl (fun hc17 => ?_) (fun hc17 => ?_)))
   ·skip
    refine aB (aG (aG (aC rfl (aF rfl gG) (aC rfl (aI rfl cJ (aK hB22 rfl)) ?_)))); refine aC rfl (FU rfl rfl (by omega) (by omega)) ?_; refine aC rfl (eE (vs := [(0, _), (1, _)]) lB rfl (cells := [_, _]) rfl) ?_; refine bM (vs := [_]) rfl iW rfl rfl rfl rfl fun b28 w29 hO30 hs31 hw32 => ?_; have hE38 := hE24.then hw32; have hO40 := hO26.evo0 hw32; have hO41 := hO27.evo0 hw32; have hB42 := hw32.blk0 hB22; refine dR rfl rfl rfl rfl gM hO40 (Src.ofOwn hO30 ⟨rfl, rfl, trivial⟩) (by omega) fun a2 c2 w45 ob2 hO3 hw48 hob49 => ?_; have hA50 := hap.app (Lt.own hO41) hob49; have hG53 := hge.app hE38 hob49; have hE54 := hE38.step hw48 hge.mem; have hO56 := hO41.evo hw48 hap.own; have hB57 := hw48.blk hB42 hA13.symm.nmem; refine aM (aD (aA (aB (aC rfl (aF rfl fF) (aC rfl (aI rfl cJ (aK hB57 rfl)) ?_))))); refine aC rfl (jL rfl rfl (by omega) (by omega)) ?_; refine aM (aD (aZ (aA (aB ?_)))); refine aC rfl (bC rfl rfl (by omega) (by omega)) ?_; refine aG (aD (bY ?_)); refine ⟨⟨k + 1, n + 1, o ++ [(nx, m[k].1 - 1)], m[k].2 + 1, a2, c2, ob2⟩, ?_, ⟨rfl, rfl, rfl, trivial⟩, ⟨rfl, rfl, rfl, trivial⟩, hE54, ?_⟩
    · (try dsimp only); omega
    try dsimp only
    refine ⟨hk', ?_, (by show 0 ≤ m[k].2 + 1; omega), (by show m[k].2 + 1 ≤ 1114112; omega), (by show n + 1 ≤ k + 1; omega), hO56, ?_, hG53, hgc, hA50⟩
    · rw [← heq, hgc0, if_pos (by omega), List.append_assoc]
    · rw [nH]; exact hO3
   refine aW (aA (aB (aC rfl (aF rfl fF) (aC rfl (aI rfl cJ (aK hB22 rfl)) ?_)))); refine aC rfl (jL rfl rfl (by omega) (by omega)) ?_; refine aM (aD (aZ (aA (aB ?_)))); refine aC rfl (bC rfl rfl (by omega) (by omega)) ?_; refine aG (aD (bY ?_)); refine ⟨⟨k + 1, n, o, m[k].2 + 1, sa, sc, so⟩, ?_, ⟨rfl, rfl, rfl, trivial⟩, ⟨rfl, rfl, rfl, trivial⟩, hE24, ?_⟩
   · (try dsimp only); omega
   try dsimp only
   refine ⟨hk', ?_, (by show 0 ≤ m[k].2 + 1; omega), (by show m[k].2 + 1 ≤ 1114112; omega), (by show n ≤ k + 1; omega), hO27, hO26, hge, hgc, hap⟩
   rw [← heq, hgc0, if_neg (by omega), List.nil_append]
  refine dV (cB (cB (dU (aA ?_)))); refine aE (aE (aB (aG (aC rfl (gI rfl rfl) ?_)))); refine aD (aA (bI rfl (fun hc31 => ?_) (fun hc31 => ?_)))
  ·skip
   refine aB (aG (aG (aC rfl (eE (vs := [(0, _), (1, _)]) lB rfl (cells := [_, _]) rfl) ?_))); refine bM (vs := [_]) rfl iW rfl rfl rfl rfl fun b59 w60 hO61 hs62 hw63 => ?_; have hE68 := hV6.then hw63; have hO70 := hown.evo0 hw63; refine dR rfl rfl rfl rfl gM hO70 (Src.ofOwn hO61 ⟨rfl, rfl, trivial⟩) (by omega) fun a2 c2 w74 ob2 hO3 hw77 hob78 => ?_; have hG81 := hge.app hE68 hob78; have hE82 := hE68.step hw77 hge.mem; refine aM (aD (aA (aE (aB (aG (aM (aD (aA (aO (aJ rfl rfl ?_)))))))))); obtain ⟨h1, h2, h3⟩ := yC hcan heqS; rw [List.drop_eq_nil_of_le (by omega), pR, if_pos (by omega)] at heq; have hO9 : OwnS _ _ 2 _ _ _ (eD o ++ eD [(nx, 1114111)]) _ := hO3; rw [← jW, heq] at hO9; have hn9 := oO hO9; rw [h3] at hO9 hn9 h1 h2
   exact ⟨a2, c2, ob2, by rw [hn9], by rw [← hn9]; exact hO9, hG81, by omega, h1, h2, hE82⟩
  refine aW (aA (aE (aB (aG (aM (aD (aA (aO (aJ rfl rfl ?_))))))))); obtain ⟨h1, h2, h3⟩ := yC hcan heqS; rw [List.drop_eq_nil_of_le (by omega), pR, if_neg (by omega), List.append_nil] at heq; have hO9 := hown; rw [heq] at hO9; have hn9 := oO hO9; rw [h3] at hO9 hn9 h1 h2
  exact ⟨sa, sc, so, by rw [hn9], by rw [← hn9]; exact hO9, hge, by omega, h1, h2, hV6⟩
end Go.Proofs.YtljadkcojnlioaaGreatDoor
namespace Go.Proofs.YtljadkcojnlioaaGreatDoor
open Go.Proofs
open Go.W Go.RowKit
attribute [local irreducible] Decidable.decide
mutual
def OT : Rx → World → List Value → List Nat → Prop
  | .mk k r rs mn mx lz cp nm ks, w, vs, bs => ∃ (ra : Option Addr) (rc : Nat) (rb : Option Nat) (ka : Option Addr) (kc : Nat) (kb : Option Nat) (cs : List Value) (bk : List Nat),
    vs = [iv k, .int .i32 r, .slice ra rs.length rc, iv mn, iv mx, .bool lz, iv cp, .string nm, .slice ka ks.length kc] ∧ OwnS w 56 2 ra rs.length rc (eD rs) rb ∧ OwnS w 27 9 ka ks.length kc cs kb ∧ OTs ks w cs bk ∧
    bs = rb.toList ++ (kb.toList ++ bk) ∧ rs.length ≤ 1000000 ∧ nm.size ≤ 1000000 ∧ ks.length ≤ 1000000
def OTs : List Rx → World → List Value → List Nat → Prop
  | [], _, cs, bs => cs = [] ∧ bs = []
  | x :: l, w, cs, bs => ∃ (vs cs' : List Value) (b1 b2 : List Nat), cs = vs ++ cs' ∧ bs = b1 ++ b2 ∧ OT x w vs b1 ∧ OTs l w cs' b2
end
theorem zD {w : World} {e : TypeId} {sz : Nat} {a : Option Addr} {n c : Nat} {xs : List Value} {ob : Option Nat} (h : OwnS w e sz a n c xs ob) : ∀ b, b ∈ ob.toList → b < w.heap.size := fun b hb => by
  cases ob with
  | none => cases hb
  | some g => rw [List.mem_singleton.1 hb]; exact h.lt
mutual
theorem OT.evo : ∀ {x : Rx} {w w' : World} {vs : List Value} {bs X : List Nat}, OT x w vs bs → Evo X w w' → (∀ b, b ∈ bs → b ∉ X) → OT x w' vs bs
  | .mk k r rs mn mx lz cp nm ks, w, w', vs, bs, X, h, he, hx => by
    rw [OT] at h ⊢
    obtain ⟨ra, rc, rb, ka, kc, kb, cs, bk, h1, h2, h3, h4, rfl, h5⟩ := h
    exact ⟨ra, rc, rb, ka, kc, kb, cs, bk, h1, h2.evo he (fun g hg => hx g (by simp [hg])), h3.evo he (fun g hg => hx g (by simp [hg])), OTs.evo h4 he (fun b hb => hx b (by simp [hb])), rfl, h5⟩
theorem OTs.evo : ∀ {l : List Rx} {w w' : World} {cs : List Value} {bs X : List Nat}, OTs l w cs bs → Evo X w w' → (∀ b, b ∈ bs → b ∉ X) → OTs l w' cs bs
  | [], w, w', cs, bs, X, h, he, hx => by rw [OTs] at h ⊢; exact h
  | x :: l, w, w', cs, bs, X, h, he, hx => by
    rw [OTs] at h ⊢
    obtain ⟨vs, cs', b1, b2, h1, rfl, h3, h4⟩ := h
    exact ⟨vs, cs', b1, b2, h1, rfl, OT.evo h3 he (fun b hb => hx b (by simp [hb])), OTs.evo h4 he (fun b hb => hx b (by simp [hb]))⟩
end
mutual
theorem OT.lt : ∀ {x : Rx} {w : World} {vs : List Value} {bs : List Nat}, OT x w vs bs → ∀ b, b ∈ bs → b < w.heap.size
  | .mk k r rs mn mx lz cp nm ks, w, vs, bs, h => by
    rw [OT] at h
    obtain ⟨ra, rc, rb, ka, kc, kb, cs, bk, h1, h2, h3, h4, rfl, h5⟩ := h
    intro b hb
    rcases List.mem_append.1 hb with hb | hb
    · exact zD h2 b hb
    · rcases List.mem_append.1 hb with hb | hb
      · exact zD h3 b hb
      · exact OTs.lt h4 b hb
theorem OTs.lt : ∀ {l : List Rx} {w : World} {cs : List Value} {bs : List Nat}, OTs l w cs bs → ∀ b, b ∈ bs → b < w.heap.size
  | [], w, cs, bs, h => by rw [OTs] at h; rw [h.2]; exact fun b hb => by cases hb
  | x :: l, w, cs, bs, h => by
    rw [OTs] at h
    obtain ⟨vs, cs', b1, b2, h1, rfl, h3, h4⟩ := h
    intro b hb
    rcases List.mem_append.1 hb with hb | hb
    · exact OT.lt h3 b hb
    · exact OTs.lt h4 b hb
end
theorem OT.nine {x : Rx} {w : World} {vs : List Value} {bs : List Nat} (h : OT x w vs bs) : ∃ ra rc ka kc, vs = [iv x.kind, .int .i32 x.r, .slice ra x.ranges.length rc, iv x.min, iv x.max, .bool x.lazy, iv x.cap, .string x.name, .slice ka x.kids.length kc] := by
  cases x with
  | mk k r rs mn mx lz cp nm ks =>
    rw [OT] at h
    obtain ⟨ra, rc, rb, ka, kc, kb, cs, bk, h1, _⟩ := h
    exact ⟨ra, rc, ka, kc, h1⟩
theorem OT.len {x : Rx} {w : World} {vs : List Value} {bs : List Nat} (h : OT x w vs bs) : vs.length = 9 := by
  obtain ⟨ra, rc, ka, kc, rfl⟩ := h.nine; rfl
theorem OT.one {x : Rx} {w : World} {vs : List Value} {bs : List Nat} (h : OT x w vs bs) : AllOne vs := by
  obtain ⟨ra, rc, ka, kc, rfl⟩ := h.nine; exact ⟨rfl, rfl, rfl, rfl, rfl, rfl, rfl, rfl, rfl, trivial⟩
theorem wY : ∀ {l m : List Value}, AllOne l → AllOne m → AllOne (l ++ m)
  | [], m, _, h => h
  | v :: l, m, h, h2 => ⟨h.1, wY h.2 h2⟩
theorem OTs.len : ∀ {l : List Rx} {w : World} {cs : List Value} {bs : List Nat}, OTs l w cs bs → cs.length = l.length * 9
  | [], w, cs, bs, h => by rw [OTs] at h; rw [h.1]; rfl
  | x :: l, w, cs, bs, h => by
    rw [OTs] at h
    obtain ⟨vs, cs', b1, b2, rfl, rfl, h3, h4⟩ := h
    rw [List.length_append, h3.len, OTs.len h4, List.length_cons]; omega
theorem OTs.one : ∀ {l : List Rx} {w : World} {cs : List Value} {bs : List Nat}, OTs l w cs bs → AllOne cs
  | [], w, cs, bs, h => by rw [OTs] at h; rw [h.1]; trivial
  | x :: l, w, cs, bs, h => by
    rw [OTs] at h
    obtain ⟨vs, cs', b1, b2, rfl, rfl, h3, h4⟩ := h
    exact wY h3.one (OTs.one h4)
theorem OTs.nil (w : World) : OTs [] w [] [] := by rw [OTs]; exact ⟨rfl, rfl⟩
theorem OTs.single {x : Rx} {w : World} {vs : List Value} {bs : List Nat} (h : OT x w vs bs) : OTs [x] w vs bs := by
  rw [OTs]; exact ⟨vs, [], bs, [], by simp, by simp, h, OTs.nil w⟩
theorem OTs.app : ∀ {l m : List Rx} {w : World} {cs cs' : List Value} {bs bs' : List Nat}, OTs l w cs bs → OTs m w cs' bs' → OTs (l ++ m) w (cs ++ cs') (bs ++ bs')
  | [], m, w, cs, cs', bs, bs', h, h2 => by rw [OTs] at h; rw [h.1, h.2]; exact h2
  | x :: l, m, w, cs, cs', bs, bs', h, h2 => by
    rw [OTs] at h
    obtain ⟨vs, ct, b1, b2, rfl, rfl, h3, h4⟩ := h
    show OTs (x :: (l ++ m)) w _ _
    rw [OTs]
    exact ⟨vs, ct ++ cs', b1, b2 ++ bs', List.append_assoc .., List.append_assoc .., h3, OTs.app h4 h2⟩
theorem OTs.parts : ∀ {l m : List Rx} {w : World} {cs : List Value} {bs : List Nat}, OTs (l ++ m) w cs bs → ∃ c1 c2 b1 b2, cs = c1 ++ c2 ∧ bs = b1 ++ b2 ∧ OTs l w c1 b1 ∧ OTs m w c2 b2
  | [], m, w, cs, bs, h => ⟨[], cs, [], bs, rfl, rfl, OTs.nil w, h⟩
  | x :: l, m, w, cs, bs, h => by
    have h' : OTs (x :: (l ++ m)) w cs bs := h
    rw [OTs] at h'
    obtain ⟨vs, ct, b1, b2, rfl, rfl, h3, h4⟩ := h'
    obtain ⟨c1, c2, d1, d2, rfl, rfl, h5, h6⟩ := OTs.parts h4
    exact ⟨vs ++ c1, c2, b1 ++ d1, d2, (List.append_assoc ..).symm, (List.append_assoc ..).symm, by rw [OTs]; exact ⟨vs, c1, b1, d1, rfl, rfl, h3, h5⟩, h6⟩
theorem OTs.one' {x : Rx} {w : World} {cs : List Value} {bs : List Nat} (h : OTs [x] w cs bs) : OT x w cs bs := by
  rw [OTs] at h
  obtain ⟨vs, ct, b1, b2, rfl, rfl, h3, h4⟩ := h
  rw [OTs] at h4
  rw [h4.1, h4.2, List.append_nil, List.append_nil]; exact h3
structure Fr (w : World) (bs : List Nat) : Prop where
  nd : bs.Nodup
  ge : ∀ b, b ∈ bs → w.heap.size ≤ b
theorem Fr.nil (w : World) : Fr w [] := ⟨List.nodup_nil, fun b h => by cases h⟩
theorem Fr.app {w w1 : World} {b1 b2 : List Nat} (h1 : Fr w b1) (h2 : Fr w1 b2) (hw : w.heap.size ≤ w1.heap.size) (hl : ∀ b, b ∈ b1 → b < w1.heap.size) : Fr w (b1 ++ b2) where
  nd := List.nodup_append.2 ⟨h1.nd, h2.nd, fun a ha b hb e => by have := hl a ha; have := h2.ge b hb; omega⟩
  ge := fun b hb => by
    rcases List.mem_append.1 hb with hb | hb
    · exact h1.ge b hb
    · have := h2.ge b hb; omega
theorem Fr.older {w w1 : World} {bs : List Nat} (h : Fr w1 bs) (hw : w.heap.size ≤ w1.heap.size) : Fr w bs := ⟨h.nd, fun b hb => Nat.le_trans hw (h.ge b hb)⟩
def TOut (w w' : World) (v : Value) (x : Rx) : Prop := ∃ vs bs, v = .agg vs.toArray ∧ OT x w' vs bs ∧ Fr w bs
theorem ge_fr {w : World} {ob : Option Nat} (h : Ge w ob) : Fr w ob.toList := by
  cases ob with
  | none => exact Fr.nil w
  | some g => exact ⟨List.nodup_cons.2 ⟨by simp, List.nodup_nil⟩, fun b hb => by rw [List.mem_singleton.1 hb]; exact h g rfl⟩
theorem oP (k : Int) (w : World) : OT (rxK k) w [iv k, .int .i32 0, .slice none 0 0, iv 0, iv 0, .bool false, iv 0, .string ByteArray.empty, .slice none 0 0] [] := by
  unfold rxK
  rw [OT]
  exact ⟨none, 0, none, none, 0, none, [], [], rfl, OwnS.nil _ _ _, OwnS.nil _ _ _, OTs.nil w, rfl, by simp, by show (0 : Nat) ≤ 1000000; omega, by simp⟩
theorem ot_lit (c : Int) (w : World) : OT (iU c) w [iv 2, .int .i32 c, .slice none 0 0, iv 0, iv 0, .bool false, iv 0, .string ByteArray.empty, .slice none 0 0] [] := by
  unfold iU
  rw [OT]
  exact ⟨none, 0, none, none, 0, none, [], [], rfl, OwnS.nil _ _ _, OwnS.nil _ _ _, OTs.nil w, rfl, by simp, by show (0 : Nat) ≤ 1000000; omega, by simp⟩
theorem LZ {l : List (Int × Int)} {w : World} {a : Option Addr} {n c : Nat} {ob : Option Nat} (h : OwnS w 56 2 a n c (eD l) ob) (hl : l.length ≤ 1000000) : OT (jT l) w [iv 3, .int .i32 0, .slice a n c, iv 0, iv 0, .bool false, iv 0, .string ByteArray.empty, .slice none 0 0] ob.toList := by
  obtain rfl := oO h
  unfold jT
  rw [OT]
  exact ⟨a, c, ob, none, 0, none, [], [], rfl, h, OwnS.nil _ _ _, OTs.nil w, by simp, hl, by show (0 : Nat) ≤ 1000000; omega, by simp⟩
end Go.Proofs.YtljadkcojnlioaaGreatDoor
namespace Go.Proofs.YtljadkcojnlioaaGreatDoor
open Go.Proofs
open Go.W Go.RowKit
attribute [local irreducible] Decidable.decide
theorem EL : nC Tryz.prog 170 = some true := by kernel_rfl
theorem mH : iG Tryz.prog 170 = some 2 := by kernel_rfl
theorem oW : nF Tryz.prog 170 = some #[.int .i32 0, .int .i32 0] := by kernel_rfl
theorem AH : nF Tryz.prog 171 = some #[.int .i32 0, .int .i32 0, .int .i32 0, .int .i32 0] := by kernel_rfl
def oC (j : Nat) : Int × Int := if j = 0 then (65, 32) else (97, -32)
theorem MW (j : Nat) : (oC j).1 = 65 ∧ (oC j).2 = 32 ∨ (oC j).1 = 97 ∧ (oC j).2 = -32 := by
  unfold oC
  split
  · exact .inl ⟨rfl, rfl⟩
  · exact .inr ⟨rfl, rfl⟩
def lS (h x : Int × Int) : List (Int × Int) := if max x.1 h.1 ≤ min x.2 (h.1 + 25) then [(max x.1 h.1 + h.2, min x.2 (h.1 + 25) + h.2)] else []
def oD (x : Int × Int) : Nat → List (Int × Int)
  | 0 => []
  | j + 1 => oD x j ++ lS (oC j) x
def pG (l : List (Int × Int)) : List (Int × Int) := l.flatMap fun x => oD x 2
theorem CU {h x : Int × Int} {c : Int} : InR c (lS h x) ↔ (h.1 + h.2 ≤ c ∧ c ≤ h.1 + 25 + h.2 ∧ x.1 ≤ c - h.2 ∧ c - h.2 ≤ x.2) := by
  unfold lS
  split
  · rw [kI]; show max x.1 h.1 + h.2 ≤ c ∧ c ≤ min x.2 (h.1 + 25) + h.2 ↔ _; omega
  · refine ⟨fun h => (lR c h).elim, fun h => ?_⟩
    omega
theorem wH {x : Int × Int} {c : Int} : InR c (oD x 2) ↔ (97 ≤ c ∧ c ≤ 122 ∧ x.1 ≤ c - 32 ∧ c - 32 ≤ x.2) ∨ (65 ≤ c ∧ c ≤ 90 ∧ x.1 ≤ c + 32 ∧ c + 32 ≤ x.2) := by
  show InR c ((([] : List (Int × Int)) ++ lS (65, 32) x) ++ lS (97, -32) x) ↔ _
  rw [List.nil_append, mG, CU, CU]
  show (65 + 32 ≤ c ∧ c ≤ 65 + 25 + 32 ∧ x.1 ≤ c - 32 ∧ c - 32 ≤ x.2) ∨ (97 + -32 ≤ c ∧ c ≤ 97 + 25 + -32 ∧ x.1 ≤ c - -32 ∧ c - -32 ≤ x.2) ↔ _
  omega
theorem foldL_in {l : List (Int × Int)} {c : Int} : InR c (l ++ pG l) ↔ pF (fun c => InR c l) c := by
  rw [mG]
  unfold pF pG
  constructor
  · rintro (h | ⟨g, hg, h⟩)
    · exact .inl h
    · obtain ⟨x, hx, hgx⟩ := List.mem_flatMap.1 hg
      have h2 := wH.1 ⟨g, hgx, h⟩
      rcases h2 with h2 | h2
      · exact .inr (.inl ⟨h2.1, h2.2.1, x, hx, h2.2.2⟩)
      · exact .inr (.inr ⟨h2.1, h2.2.1, x, hx, h2.2.2⟩)
  · rintro (h | ⟨h1, h2, x, hx, h3⟩ | ⟨h1, h2, x, hx, h3⟩)
    · exact .inl h
    · obtain ⟨g, hg, h4⟩ := wH.2 (.inl ⟨h1, h2, h3⟩)
      exact .inr ⟨g, List.mem_flatMap.2 ⟨x, hx, hg⟩, h4⟩
    · obtain ⟨g, hg, h4⟩ := wH.2 (.inr ⟨h1, h2, h3⟩)
      exact .inr ⟨g, List.mem_flatMap.2 ⟨x, hx, hg⟩, h4⟩
theorem CS {j : Nat} {x : Int × Int} : Vr (lS (oC j) x) := fun g hg => by
  have hc := MW j
  unfold lS at hg
  split at hg
  · rw [List.mem_singleton.1 hg]
    show 0 ≤ max x.1 (oC j).1 + (oC j).2 ∧ max x.1 (oC j).1 + (oC j).2 ≤ min x.2 ((oC j).1 + 25) + (oC j).2 ∧ _ ≤ (1114111 : Int)
    omega
  · cases hg
theorem ND {l : List (Int × Int)} : Vr (pG l) := fun g hg => by
  obtain ⟨x, hx, hgx⟩ := List.mem_flatMap.1 hg
  have hgx' : g ∈ (([] : List (Int × Int)) ++ lS (oC 0) x) ++ lS (oC 1) x := hgx
  rw [List.nil_append] at hgx'
  rcases List.mem_append.1 hgx' with h | h
  · exact CS g h
  · exact CS g h
theorem FR {l : List (Int × Int)} {k : Nat} (h : k < l.length) : pG (l.take (k + 1)) = pG (l.take k) ++ oD l[k] 2 := by
  unfold pG
  rw [List.take_add_one, List.getElem?_eq_getElem h, List.flatMap_append]; simp
theorem JN (h x : Int × Int) : (lS h x).length ≤ 1 := by unfold lS; split <;> simp
theorem yJ (x : Int × Int) : ∀ j, (oD x j).length ≤ j
  | 0 => Nat.le_refl _
  | j + 1 => by rw [oD, List.length_append]; have := yJ x j; have := JN (oC j) x; omega
structure FoG where
  k : Nat
  n : Nat
  sa : Option Addr
  sc : Nat
  so : Option Nat
structure FoI (w wr : World) (l o : List (Int × Int)) (a : Option Addr) (c : Nat) (ob : Option Nat) (x : FoG) (m : Nat) : Prop where
  hk : x.k ≤ m
  cl : OwnS wr 56 2 a l.length c (eD l) ob
  own : OwnS wr 56 2 x.sa x.n x.sc (eD o) x.so
  ge : Ge w x.so
  ap : Apart ob x.so
structure FiG where
  j : Nat
  n2 : Nat
  sa2 : Option Addr
  sc2 : Nat
  so2 : Option Nat
structure FiI (w wr : World) (l o : List (Int × Int)) (a : Option Addr) (c : Nat) (ob : Option Nat) (q : Nat) (g : Int × Int) (x : FiG) : Prop where
  hj : x.j ≤ 2
  cl : OwnS wr 56 2 a l.length c (eD l) ob
  own : OwnS wr 56 2 x.sa2 x.n2 x.sc2 (eD o) x.so2
  ge : Ge w x.so2
  ap : Apart ob x.so2
  b5 : wr.heap[q]? = some (.cells #[.int .i32 g.1, .int .i32 g.2] 56 (0, 0))
  s5 : Ge w (some q)
  ap5 : Apart (some q) x.so2
theorem yK {h x : Int × Int} (hc : max x.1 h.1 ≤ min x.2 (h.1 + 25)) : lS h x = [(max x.1 h.1 + h.2, min x.2 (h.1 + 25) + h.2)] := by unfold lS; rw [if_pos hc]
theorem CT {h x : Int × Int} (hc : ¬ max x.1 h.1 ≤ min x.2 (h.1 + 25)) : lS h x = [] := by unfold lS; rw [if_neg hc]
theorem vY {a b : Int} : (if b < a then b else a) = min a b := by omega
theorem ER {l m : List (Int × Int)} (h : Vr l) (h2 : Vr m) : Vr (l ++ m) := fun g hg => (List.mem_append.1 hg).elim (h g) (h2 g)
theorem tJ : ∀ l : List (Int × Int), (pG l).length ≤ 2 * l.length
  | [] => Nat.le_refl _
  | x :: l => by
    have h1 : pG (x :: l) = oD x 2 ++ pG l := List.flatMap_cons
    rw [h1, List.length_append, List.length_cons]; have := tJ l; have := yJ x 2; omega
theorem RsOut.evo {w w' : World} {v : Value} {S : Int → Prop} {n : Nat} (h : RsOut w w' v S n) : Evo [] w w' := by obtain ⟨_, _, _, _, _, _, _, _, _, h⟩ := h; exact h
theorem CR {S T : Int → Prop} (h : ∀ c, S c ↔ T c) (c : Int) : pF S c ↔ pF T c := by unfold pF; rw [h, h, h]
theorem JA {j : Nat} (hj : j < 2) (w : World) : (part 170 #[.int .i32 65, .int .i32 32, .int .i32 97, .int .i32 (-32)] (j * 2)).run Tryz.prog w = .ok (.agg #[.int .i32 (oC j).1, .int .i32 (oC j).2]) w := by
  rw [IS w EL mH]
  match j, hj with
  | 0, _ => rfl
  | 1, _ => rfl
theorem yH {w : World} {a : Option Addr} {c : Nat} {l : List (Int × Int)} {ob : Option Nat} (hO : OwnS w 56 2 a l.length c (eD l) ob) (hv : Vr l) (hl : l.length ≤ 300000) {S : Int → Prop} (hS : ∀ c, InR c l ↔ S c) :
    Calls Tryz.prog 130 #[.slice a l.length c] w (Ret fun v w' => RsOut w w' v (pF S) (3 * l.length)) := by
  refine bO (N := 54) Tryz.func130 rfl rfl rfl ?_; refine aE (aB (aM (aD (aA (aE (aB (aG ?_))))))); refine aN (vs := [_]) sN rfl (yP hO (by omega)) rfl ?_; rintro _ w1 ⟨a1, c1, ob1, rfl, hO1, hg1, hw2⟩; have hA3 := Apart.fresh (Lt.own hO) hg1; have hE5 := (Evo.refl [] w).then hw2; have hO6 := hO.evo0 hw2; refine aM (aD (aA (aE (aE (aB (aG (aC rfl (bQ rfl Tryz.underlying24 rfl) ?_))))))); refine aG (aD (aA (bT ?_)))
  refine eR (α := FoG) (⟨0, l.length, a1, c1, ob1⟩) (fun x => [(3, .slice x.sa x.n x.sc), (14, .int .i64 (x.k : Nat))]) [(2, _), (12, _), (13, _)] (fun x wr => Evo [] w wr ∧ (FoI w wr l (l ++ pG (l.take x.k)) a c ob x l.length ∧ x.n ≤ l.length + 2 * x.k)) (fun x => l.length - x.k) ⟨rfl, rfl, trivial⟩ ⟨rfl, rfl, rfl, trivial⟩ ⟨hE5, ⟨⟨Nat.zero_le _, hO6, by simp [pG]; exact hO1, hg1, hA3⟩, Nat.le_refl _⟩⟩ ?_
  rintro ⟨k, n, sa, sc, so⟩ wr7 ⟨hV8, ⟨⟨hk, hcl, hown, hge, hap⟩, hnl⟩⟩; show CW _ _ _ _ [(3, .slice sa n sc), (14, .int .i64 (k : Nat)), (2, _), (12, _), (13, _)] _
  try dsimp only at hk
  try dsimp only at hcl
  try dsimp only at hown
  try dsimp only at hge
  try dsimp only at hap
  try dsimp only at hnl
  have hE9 := Evo.refl ([]) wr7; refine aE (aB (aC rfl (dH rfl rfl) ?_)); refine aD (aA (aE (bI rfl (fun hc15 => ?_) (fun hc15 => ?_))))
  ·skip
   have hk' : k < l.length := by omega
   have hlk := hv _ (List.getElem_mem hk'); obtain ⟨g1, hg1', ha1, hc1⟩ := oA hcl hk'; refine aW (aA (aE (bT (aE (aB ?_))))); refine aC rfl (fD (n := k) rfl rfl ha1 fE (by omega)) ?_; refine aC rfl (eL rfl jN fX (vs := [_, _]) rfl (hc1.evo hE9 (by simp))) ?_; refine dG rfl lV fun b5 w10 hB11 hs12 hw13 => ?_; have hsz_b5 := hs12; have hA14 := Apart.new (Lt.own hown) hs12; have hA15 := Apart.new (Lt.own hcl) hs12; have hG16 := Ge.new hV8 hs12; have hE18 := hV8.then hw13; have hO20 := hown.evo0 hw13; have hO21 := hcl.evo0 hw13; refine bN rfl rfl fX hB11 rfl rfl ⟨rfl, rfl, trivial⟩ fun w22 hB23 hw24 => ?_; have hE25 := hE18.step hw24 hG16.mem1; have hO27 := hO20.evo hw24 hA14.own1; have hO28 := hO21.evo hw24 hA15.own1
   try simp only [cU, Nat.reduceAdd] at hB23
   refine aD (aA (aE (aB ?_))); refine aC rfl (qO (vs := [(0, _), (1, _)]) Tryz.underlying170 oW iD rfl (cells := #[.int .i32 65, .int .i32 32]) (by kernel_rfl)) ?_; refine aC rfl (qO (vs := [(0, _), (1, _)]) Tryz.underlying170 oW iD rfl (cells := #[.int .i32 97, .int .i32 (-32)]) (by kernel_rfl)) ?_; refine aC rfl (qO (vs := [(0, _), (1, _)]) Tryz.underlying171 AH mH rfl (cells := #[.int .i32 65, .int .i32 32, .int .i32 97, .int .i32 (-32)]) (by kernel_rfl)) ?_; refine aG (aD (aA (bT ?_)))
   refine eR (α := FiG) (⟨0, n, sa, sc, so⟩) (fun x => [(3, .slice x.sa2 x.n2 x.sc2), (21, .int .i64 (x.j : Nat))]) [(2, _), (5, _), (12, _), (13, _), (14, _), (20, _)] (fun x wr => Evo [] w wr ∧ (FiI w wr l (l ++ pG (l.take k) ++ oD l[k] x.j) a c ob b5 l[k] x ∧ x.n2 ≤ n + x.j)) (fun x => 2 - x.j) ⟨rfl, rfl, trivial⟩ ⟨rfl, rfl, rfl, rfl, rfl, rfl, trivial⟩ ⟨hE25, ⟨⟨Nat.zero_le _, hO28, by simp [oD]; exact hO27, hge, hap, hB23, hG16, hA14.symm⟩, Nat.le_refl _⟩⟩ ?_
   rintro ⟨j, n2, sa2, sc2, so2⟩ wr29 ⟨hV30, ⟨⟨hj, hcl2, hown2, hge2, hap2, hb52, hs52, hap5⟩, hnl2⟩⟩; show CW _ _ _ _ [(3, .slice sa2 n2 sc2), (21, .int .i64 (j : Nat)), (2, _), (5, _), (12, _), (13, _), (14, _), (20, _)] _
   try dsimp only at hj
   try dsimp only at hcl2
   try dsimp only at hown2
   try dsimp only at hge2
   try dsimp only at hap2
   try dsimp only at hb52
   try dsimp only at hs52
   try dsimp only at hap5
   try dsimp only at hnl2
   refine aE (aB (aC rfl (dH rfl rfl) ?_)); refine aD (aA (aE (bI rfl (fun hc22 => ?_) (fun hc22 => ?_))))
   ·skip
    have hj' : j < 2 := by omega
    have hhc := MW j; refine aW (aA (aE (bT (aE (aB ?_))))); refine aC rfl (HW (n := j) rfl rfl Tryz.underlying171 rfl (by omega) mH (JA hj')) ?_; refine dG rfl oW fun b7 w31 hB32 hs33 hw34 => ?_; have hsz_b7 := hs33; have hA35 := Apart.new (Lt.own hown2) hs33; have hA36 := Apart.new (Lt.own hcl2) hs33; have hA37 := Apart.new (Lt.blk hb52) hs33; have hG38 := Ge.new hV30 hs33; have hE39 := hV30.then hw34; have hO40 := hown2.evo0 hw34; have hO41 := hcl2.evo0 hw34; have hB42 := hw34.blk0 hb52; refine bN rfl rfl mH hB32 rfl rfl ⟨rfl, rfl, trivial⟩ fun w43 hB44 hw45 => ?_; have hE46 := hE39.step hw45 hG38.mem1; have hO47 := hO40.evo hw45 hA35.own1; have hO48 := hO41.evo hw45 hA36.own1; have hB49 := hw45.blk hB42 hA37.nmem1
    try simp only [cU, Nat.reduceAdd] at hB44
    refine aD (aA (aE ?_)); refine jB (fun w0 w' => Evo [] w0 w') (by kernel_rfl) (fun w50 hw51 => ?_); have hE52 := hE46.then hw51; have hO53 := hO47.evo0 hw51; have hO54 := hO48.evo0 hw51; have hB55 := hw51.blk0 hB49; have hB56 := hw51.blk0 hB44; refine bG 0 rfl (by kernel_rfl) (by kernel_rfl) (by kernel_rfl) rfl (fun _ hS => aF rfl gG) (Evo.refl [] w50) ?_; refine bG 1 rfl (by kernel_rfl) (by kernel_rfl) (by kernel_rfl) rfl (fun _ hS => aI rfl cJ (aK (hS.blk0 hB55) rfl)) (Evo.refl [] w50) ?_; refine bG 2 rfl (by kernel_rfl) (by kernel_rfl) (by kernel_rfl) rfl (fun _ hS => jJ (n := 0) rfl rfl Tryz.underlying170 rfl (by omega) iD) (Evo.refl [] w50) ?_; refine bG 3 rfl (by kernel_rfl) (by kernel_rfl) (by kernel_rfl) rfl (fun _ hS => aI rfl cJ (aK (hS.blk0 hB56) rfl)) (Evo.refl [] w50) ?_; refine bG 5 rfl (by kernel_rfl) (by kernel_rfl) (by kernel_rfl) rfl (fun _ hS => aF rfl fF) (Evo.refl [] w50) ?_; refine bG 6 rfl (by kernel_rfl) (by kernel_rfl) (by kernel_rfl) rfl (fun _ hS => aI rfl cJ (aK (hS.blk0 hB55) rfl)) (Evo.refl [] w50) ?_; refine bG 7 rfl (by kernel_rfl) (by kernel_rfl) (by kernel_rfl) rfl (fun _ hS => jJ (n := 0) rfl rfl Tryz.underlying170 rfl (by omega) iD) (Evo.refl [] w50) ?_; refine bG 8 rfl (by kernel_rfl) (by kernel_rfl) (by kernel_rfl) rfl (fun _ hS => aI rfl cJ (aK (hS.blk0 hB56) rfl)) (Evo.refl [] w50) ?_; refine bG 9 rfl (by kernel_rfl) (by kernel_rfl) (by kernel_rfl) rfl (fun _ hS => jL rfl rfl (by omega) (by omega)) (Evo.refl [] w50) ?_; refine cT [4, 10] (by kernel_rfl) rfl ⟨?_, ?_, trivial⟩
    ·skip
     refine cZ rfl ?_; refine aC rfl (wL rfl rfl) ?_; refine aD (cL (.inl (Evo.refl [] w50)) ?_); refine bG 11 rfl (by kernel_rfl) (by kernel_rfl) (by kernel_rfl) rfl (fun _ hS => eZ rfl) (Evo.refl [] w50) ?_; refine cT [10] (by kernel_rfl) rfl ⟨?_, trivial⟩; refine cZ rfl ?_; refine aC rfl (zU rfl rfl) ?_; refine aD (cL (.inl (Evo.refl [] w50)) ?_); refine bG 12 rfl (by kernel_rfl) (by kernel_rfl) (by kernel_rfl) rfl (fun _ hS => eZ rfl) (Evo.refl [] w50) ?_; refine fL (by kernel_rfl) (aA ?_); refine aE (aB (aG (aG (aC rfl (gI rfl rfl) ?_)))); refine aD (aA (bI rfl (fun hc37 => ?_) (fun hc37 => ?_)))
     ·skip
      refine aB (aG (aG ?_)); refine aC rfl (jJ (n := 1) rfl rfl Tryz.underlying170 rfl (by omega) iD) ?_; refine aC rfl (aI rfl cJ (aK hB56 rfl)) ?_; refine aC rfl (jL rfl rfl (by omega) (by omega)) ?_; refine aG ?_; refine aC rfl (jJ (n := 1) rfl rfl Tryz.underlying170 rfl (by omega) iD) ?_; refine aC rfl (aI rfl cJ (aK hB56 rfl)) ?_; refine aC rfl (jL rfl rfl (by omega) (by omega)) ?_; refine aC rfl (eE (vs := [(0, _), (1, _)]) lB rfl (cells := [_, _]) rfl) ?_; refine bM (vs := [_]) rfl iW rfl rfl rfl rfl fun b57 w58 hO59 hs60 hw61 => ?_; have hE67 := hE52.then hw61; have hO68 := hO53.evo0 hw61; have hO69 := hO54.evo0 hw61; have hB70 := hw61.blk0 hB55; refine dR rfl rfl rfl rfl gM hO68 (Src.ofOwn hO59 ⟨rfl, rfl, trivial⟩) (by omega) fun a2 c2 w74 ob2 hO3 hw77 hob78 => ?_; have hA79 := hap2.app (Lt.own hO69) hob78; have hA80 := hap5.app (Lt.blk hB70) hob78; have hG83 := hge2.app hE67 hob78; have hE84 := hE67.step hw77 hge2.mem; have hO85 := hO69.evo hw77 hap2.own; have hB86 := hw77.blk hB70 hap5.nmem; refine aM (aD (aZ (aA (aB ?_)))); refine aC rfl (bC rfl rfl (by omega) (by omega)) ?_; refine aG (aD (bY ?_)); refine ⟨⟨j + 1, n2 + 1, a2, c2, ob2⟩, ?_, ⟨rfl, rfl, trivial⟩, ⟨rfl, rfl, rfl, rfl, rfl, rfl, trivial⟩, hE84, ?_⟩
      · (try dsimp only); omega
      try dsimp only
      refine ⟨⟨hj', hO85, ?_, hG83, hA79, hB86, hs52, hA80⟩, (by show n2 + 1 ≤ n + (j + 1); omega)⟩
      simp only [vZ, vY] at hc37; rw [oD, ← List.append_assoc, jW _ (lS (oC j) l[k]), yK hc37]; have hO9 := hO3; simp only [vZ, vY] at hO9; exact hO9
     refine aW (aZ (aA (aB ?_))); refine aC rfl (bC rfl rfl (by omega) (by omega)) ?_; refine aG (aD (bY ?_)); refine ⟨⟨j + 1, n2, sa2, sc2, so2⟩, ?_, ⟨rfl, rfl, trivial⟩, ⟨rfl, rfl, rfl, rfl, rfl, rfl, trivial⟩, hE52, ?_⟩
     · (try dsimp only); omega
     try dsimp only
     simp only [vZ, vY] at hc37
     refine ⟨⟨hj', hO54, ?_, hge2, hap2, hB55, hs52, hap5⟩, (by show n2 ≤ n + (j + 1); omega)⟩
     rw [oD, CT hc37, List.append_nil]; exact hO53
    refine cZ rfl ?_; refine aC rfl (zU rfl rfl) ?_; refine aD (cL (.inl (Evo.refl [] w50)) ?_); refine cT [4] (by kernel_rfl) rfl ⟨?_, trivial⟩; refine cZ rfl ?_; refine aC rfl (wL rfl rfl) ?_; refine aD (cL (.inl (Evo.refl [] w50)) ?_); refine bG 11 rfl (by kernel_rfl) (by kernel_rfl) (by kernel_rfl) rfl (fun _ hS => eZ rfl) (Evo.refl [] w50) ?_; refine bG 12 rfl (by kernel_rfl) (by kernel_rfl) (by kernel_rfl) rfl (fun _ hS => eZ rfl) (Evo.refl [] w50) ?_; refine fL (by kernel_rfl) (aA ?_); refine aE (aB (aG (aG (aC rfl (gI rfl rfl) ?_)))); refine aD (aA (bI rfl (fun hc37 => ?_) (fun hc37 => ?_)))
    ·skip
     refine aB (aG (aG ?_)); refine aC rfl (jJ (n := 1) rfl rfl Tryz.underlying170 rfl (by omega) iD) ?_; refine aC rfl (aI rfl cJ (aK hB56 rfl)) ?_; refine aC rfl (jL rfl rfl (by omega) (by omega)) ?_; refine aG ?_; refine aC rfl (jJ (n := 1) rfl rfl Tryz.underlying170 rfl (by omega) iD) ?_; refine aC rfl (aI rfl cJ (aK hB56 rfl)) ?_; refine aC rfl (jL rfl rfl (by omega) (by omega)) ?_; refine aC rfl (eE (vs := [(0, _), (1, _)]) lB rfl (cells := [_, _]) rfl) ?_; refine bM (vs := [_]) rfl iW rfl rfl rfl rfl fun b89 w90 hO91 hs92 hw93 => ?_; have hE99 := hE52.then hw93; have hO100 := hO53.evo0 hw93; have hO101 := hO54.evo0 hw93; have hB102 := hw93.blk0 hB55; refine dR rfl rfl rfl rfl gM hO100 (Src.ofOwn hO91 ⟨rfl, rfl, trivial⟩) (by omega) fun a2 c2 w106 ob2 hO3 hw109 hob110 => ?_; have hA111 := hap2.app (Lt.own hO101) hob110; have hA112 := hap5.app (Lt.blk hB102) hob110; have hG115 := hge2.app hE99 hob110; have hE116 := hE99.step hw109 hge2.mem; have hO117 := hO101.evo hw109 hap2.own; have hB118 := hw109.blk hB102 hap5.nmem; refine aM (aD (aZ (aA (aB ?_)))); refine aC rfl (bC rfl rfl (by omega) (by omega)) ?_; refine aG (aD (bY ?_)); refine ⟨⟨j + 1, n2 + 1, a2, c2, ob2⟩, ?_, ⟨rfl, rfl, trivial⟩, ⟨rfl, rfl, rfl, rfl, rfl, rfl, trivial⟩, hE116, ?_⟩
     · (try dsimp only); omega
     try dsimp only
     refine ⟨⟨hj', hO117, ?_, hG115, hA111, hB118, hs52, hA112⟩, (by show n2 + 1 ≤ n + (j + 1); omega)⟩
     simp only [vZ, vY] at hc37; rw [oD, ← List.append_assoc, jW _ (lS (oC j) l[k]), yK hc37]; have hO9 := hO3; simp only [vZ, vY] at hO9; exact hO9
    refine aW (aZ (aA (aB ?_))); refine aC rfl (bC rfl rfl (by omega) (by omega)) ?_; refine aG (aD (bY ?_)); refine ⟨⟨j + 1, n2, sa2, sc2, so2⟩, ?_, ⟨rfl, rfl, trivial⟩, ⟨rfl, rfl, rfl, rfl, rfl, rfl, trivial⟩, hE52, ?_⟩
    · (try dsimp only); omega
    try dsimp only
    simp only [vZ, vY] at hc37
    refine ⟨⟨hj', hO54, ?_, hge2, hap2, hB55, hs52, hap5⟩, (by show n2 ≤ n + (j + 1); omega)⟩
    rw [oD, CT hc37, List.append_nil]; exact hO53
   refine dV (cB (cB (dU (aZ (aA ?_))))); refine aB ?_; refine aC rfl (bC rfl rfl (by omega) (by omega)) ?_; refine aG (aD (bY ?_)); refine ⟨⟨k + 1, n2, sa2, sc2, so2⟩, ?_, ⟨rfl, rfl, trivial⟩, ⟨rfl, rfl, rfl, trivial⟩, hV30, ?_⟩
   · (try dsimp only); omega
   try dsimp only
   obtain rfl : j = 2 := by omega
   refine ⟨⟨hk', hcl2, ?_, hge2, hap2⟩, (by show n2 ≤ l.length + 2 * (k + 1); omega)⟩
   rw [FR hk', ← List.append_assoc]; exact hown2
  rw [List.take_of_length_le (show l.length ≤ k by omega)] at hown; have hfl := tJ l; have hn9 := oO hown; subst hn9; have hV9 := hV8; refine dV (cB (cB (dU (aA ?_)))); refine aE (aB (aG ?_))
  refine aN (vs := [_]) oX rfl (tG hown (ER hv ND) (by rw [List.length_append]; omega) (fun c => foldL_in.trans (CR hS c))) rfl ?_
  rintro rv w121 hR; have hw122 := hR.evo; have hE123 := hV8.then hw122; refine aM (aD (aA (aO (aJ rfl rfl ?_)))); obtain ⟨a9, c9, ob9, rfl, hO9, hg9, hl9, hcan9, heq9, hev9⟩ := hR
  exact ⟨a9, c9, ob9, rfl, hO9, Ge.fresh hV9 hg9, by rw [List.length_append] at hl9; have := tJ l; omega, hcan9, heq9, hE123⟩
end Go.Proofs.YtljadkcojnlioaaGreatDoor
namespace Go.Proofs.YtljadkcojnlioaaGreatDoor
open Go.Proofs
open Go.W Go.RowKit
attribute [local irreducible] Decidable.decide
theorem dO : Build Tryz.prog 27 #[(0, 1), (1, 1), (2, 1), (3, 1), (4, 1), (5, 1), (6, 1), (7, 1), (8, 1)] #[.int .i64 0, .int .i32 0, .slice none 0 0, .int .i64 0, .int .i64 0, .bool false, .int .i64 0, .string ByteArray.empty, .slice none 0 0] := ⟨_, .agg #[.int .i64 0, .int .i32 0, .slice none 0 0, .int .i64 0, .int .i64 0, .bool false, .int .i64 0, .string ByteArray.empty, .slice none 0 0], Tryz.underlying27, by kernel_rfl, rfl, fun w => by kernel_rfl⟩
theorem cD : eT Tryz.prog 114 := ⟨_, Tryz.func114, by kernel_rfl, by kernel_rfl⟩
theorem kB : eT Tryz.prog 131 := ⟨_, Tryz.func131, by kernel_rfl, by kernel_rfl⟩
theorem cC : rD Tryz.prog 67 = some (21, 1) := by kernel_rfl
def xB (w w' : World) (v : Value) (S : Int → Prop) (n : Nat) : Prop := ∃ a c ob l, v = .slice a l.length c ∧ OwnS w' 56 2 a l.length c (eD l) ob ∧ Ge w ob ∧ Vr l ∧ (∀ c, InR c l ↔ S c) ∧ l.length ≤ n
theorem RsOut.set {X : List Nat} {w0 w w' : World} {v : Value} {S : Int → Prop} {n : Nat} (h : RsOut w w' v S n) (he : Evo X w0 w) : xB w0 w' v S n := by
  obtain ⟨a, c, ob, h1, h2, h3, h4, h5, h6, -⟩ := h
  exact ⟨a, c, ob, lT S, h1, h2, Ge.fresh he h3, tM h5, h6, h4⟩
theorem CH {S : Int → Prop} {m : List (Int × Int)} (e : lT S = m) (h1 : m.length = 1) (h2 : (m[0]'(by omega)).1 = (m[0]'(by omega)).2) : lD S = iU (m[0]'(by omega)).1 := by
  obtain ⟨⟨a, b⟩, rfl⟩ := List.length_eq_one_iff.1 h1
  have h2' : a = b := h2
  unfold lD
  rw [e]
  show (if a = b then iU a else jT [(a, b)]) = _
  rw [if_pos h2']; rfl
theorem vV {S : Int → Prop} {m : List (Int × Int)} (e : lT S = m) (h : ∀ h1 : m.length = 1, ¬ (m[0]'(by omega)).1 = (m[0]'(by omega)).2) : lD S = jT m := by
  unfold lD
  rw [e]
  match m, h with
  | [], h => rfl
  | [(a, b)], h =>
    have h2 : ¬ a = b := h rfl
    show (if a = b then iU a else jT [(a, b)]) = _
    rw [if_neg h2]
  | a :: b :: l, h => rfl
theorem or_c : ∀ c : Nat, c < 256 → ((c ||| 32 = 100 → c = 68 ∨ c = 100) ∧ (c ||| 32 = 115 → c = 83 ∨ c = 115) ∧ (c ||| 32 = 119 → c = 87 ∨ c = 119)) ∧ (c ||| 32 ≠ 100 → c ≠ 68 ∧ c ≠ 100) ∧ (c ||| 32 ≠ 115 → c ≠ 83 ∧ c ≠ 115) ∧ (c ||| 32 ≠ 119 → c ≠ 87 ∧ c ≠ 119) := by
  have h : ∀ c : Fin 256, ((c.1 ||| 32 = 100 → c.1 = 68 ∨ c.1 = 100) ∧ (c.1 ||| 32 = 115 → c.1 = 83 ∨ c.1 = 115) ∧ (c.1 ||| 32 = 119 → c.1 = 87 ∨ c.1 = 119)) ∧ (c.1 ||| 32 ≠ 100 → c.1 ≠ 68 ∧ c.1 ≠ 100) ∧ (c.1 ||| 32 ≠ 115 → c.1 ≠ 83 ∧ c.1 ≠ 115) ∧ (c.1 ||| 32 ≠ 119 → c.1 ≠ 87 ∧ c.1 ≠ 119) := by decide +kernel
  exact fun c hc => h ⟨c, hc⟩
theorem iR {l : List (Int × Int)} (h : l.all (fun g => decide (0 ≤ g.1) && decide (g.1 ≤ g.2) && decide (g.2 ≤ 1114111)) = true) : Vr l := fun g hg => by
  have := List.all_eq_true.1 h g hg
  simp only [Bool.and_eq_true, decide_eq_true_eq] at this
  exact ⟨this.1.1, this.1.2, this.2⟩
theorem tH {c : Nat} (h : c ≠ 100 ∧ c ≠ 115 ∧ c ≠ 119 ∧ c ≠ 68 ∧ c ≠ 83 ∧ c ≠ 87) : wA c = none := by
  unfold wA; rw [if_neg h.1, if_neg h.2.1, if_neg h.2.2.1, if_neg h.2.2.2.1, if_neg h.2.2.2.2.1, if_neg h.2.2.2.2.2]
def LetOut (w w' : World) (v : Value) (o : Option (Int → Prop)) : Prop := (o = none ∧ v = .tuple #[.slice none 0 0, .bool false]) ∨ ∃ S v', o = some S ∧ v = .tuple #[v', .bool true] ∧ xB w w' v' S 8
theorem mF {w : World} {a : Option Addr} {c : Nat} {l : List (Int × Int)} {ob : Option Nat} (hO : OwnS w 56 2 a l.length c (eD l) ob) (hv : Vr l) (hl : l.length ≤ 1000000) {S : Int → Prop} (hS : ∀ c, InR c l ↔ S c) :
    Calls Tryz.prog 113 #[.slice a l.length c] w (Ret fun v w' => TOut w w' v (lD S) ∧ Evo [] w w') := by
  refine bO (N := 26) Tryz.func113 rfl rfl rfl ?_; refine aE (aB (dG rfl eI fun b2 w1 hB2 hs3 hw4 => ?_)); have hsz_b2 := hs3; have hG5 := Ge.new (Evo.refl [] w) hs3; have hE6 := (Evo.refl [] w).then hw4; refine aD (aA (aE (aB (aG (aN (vs := [_]) oX rfl (tG (hO.evo0 hE6) hv hl hS) rfl ?_))))); rintro _ w7 ⟨a1, c1, ob1, rfl, hO1, hg1, hml, hcan, heqS, hw8⟩; have hA9 := Apart.fresh (Lt.blk hB2) hg1; have hG10 := Ge.fresh hE6 hg1; have hE11 := hE6.then hw8; have hB12 := hw8.blk0 hB2
  generalize hm : lT S = m at *
  refine aM (aD (aA (aE (aE ?_)))); refine fH (by kernel_rfl) (by kernel_rfl) ?_; refine aV rfl (fun _ hq14 => bS rfl) ?_; refine aV rfl (fun _ hq14 => bQ rfl Tryz.underlying24 rfl) ?_; refine aV rfl (fun _ hq14 => bF rfl rfl) ?_; refine aV rfl (fun _ hq14 => bS rfl) ?_; refine kE (t := 8) rfl (fun hs8 => ?_) (fun hs8 => ?_)
  ·skip
   have hm1 : m.length = 1 := by omega
   obtain ⟨g1, hg1', ha1, hc1⟩ := oA hO1 (i := 0) (by omega); refine dQ rfl rfl rfl rfl ?_; refine aV rfl (fun _ hq14 => bS rfl) ?_; refine dQ rfl rfl rfl rfl ?_; refine aV rfl (fun _ hq14 => fD (n := 0) rfl rfl ha1 fE (by omega)) ?_; refine dQ rfl rfl rfl rfl ?_; refine aV rfl (fun _ hq14 => aF rfl gG) ?_; refine dQ rfl rfl rfl rfl ?_; refine aV rfl (fun _ hq14 => aI rfl cJ ((((Evo.refl ([]) w7).then hq14)).cell (hc1 0 _ rfl) (by simp))) ?_; refine dQ rfl rfl rfl rfl ?_; refine aV rfl (fun _ hq14 => bS rfl) ?_; refine dQ rfl rfl rfl rfl ?_; refine aV rfl (fun _ hq14 => fD (n := 0) rfl rfl ha1 fE (by omega)) ?_; refine dQ rfl rfl rfl rfl ?_; refine aV rfl (fun _ hq14 => aF rfl fF) ?_; refine dQ rfl rfl rfl rfl ?_; refine aV rfl (fun _ hq14 => aI rfl cJ ((((Evo.refl ([]) w7).then hq14)).cell (hc1 1 _ rfl) (by simp))) ?_; refine dQ rfl rfl rfl rfl ?_; refine aV rfl (fun _ hq14 => bF rfl rfl) ?_; refine aV rfl (fun _ hq14 => hI rfl rfl) ?_; refine fN (fun wq13 hq14 => aA ?_); have hE15 := hE11.then hq14; have hE16 := (Evo.refl ([]) w7).then hq14; have hB17 := hq14.blk0 hB12; have hO18 := hO1.evo0 hq14; refine bI rfl (fun hc18 => ?_) (fun hc18 => ?_)
   ·skip
    refine aE (aB (aG ?_)); refine aC rfl (fD (n := 0) rfl rfl ha1 fE (by omega)) ?_; refine aC rfl (aF rfl gG) ?_; refine aC rfl (aI rfl cJ ((hE16).cell (hc1 0 _ rfl) (by simp))) ?_; refine aC rfl (eE (vs := [(0, _), (1, _)]) dO rfl (cells := [_, _, _, _, _, _, _, _, _]) rfl) ?_; refine bN rfl rfl bE hB17 rfl rfl ⟨rfl, rfl, rfl, rfl, rfl, rfl, rfl, rfl, rfl, trivial⟩ fun w19 hB20 hw21 => ?_; have hE22 := hE15.step hw21 hG5.mem1
    try simp only [cU, Nat.reduceAdd] at hB20
    refine aD (aA (aO (aP (dE rfl (ResOk.cellA rfl bV bE hB20 rfl) ?_)))); refine ⟨?_, hE22⟩; rw [CH hm hm1 (by simpa using hc18)]; exact ⟨_, [], rfl, ot_lit _ _, Fr.nil _⟩
   refine aW (aA (aE (aB (aG (aC rfl (eE (vs := [(0, _), (2, _)]) dO rfl (cells := [_, _, _, _, _, _, _, _, _]) rfl) ?_))))); refine bN rfl rfl bE hB17 rfl rfl ⟨rfl, rfl, rfl, rfl, rfl, rfl, rfl, rfl, rfl, trivial⟩ fun w25 hB26 hw27 => ?_; have hE28 := hE15.step hw27 hG5.mem1; have hO30 := hO18.evo hw27 hA9.symm.own1
   try simp only [cU, Nat.reduceAdd] at hB26
   refine aD (aA (aO (dE rfl (ResOk.cellA rfl bV bE hB26 rfl) ?_))); refine ⟨?_, hE28⟩; rw [vV hm (fun h1 => by simpa using hc18)]; exact ⟨_, _, rfl, LZ hO30 (by omega), ge_fr hG10⟩
  refine dB rfl rfl rfl rfl rfl rfl ?_; refine dB rfl rfl rfl rfl rfl rfl ?_; refine dB rfl rfl rfl rfl rfl rfl ?_; refine dB rfl rfl rfl rfl rfl rfl ?_; refine dB rfl rfl rfl rfl rfl rfl ?_; refine dB rfl rfl rfl rfl rfl rfl ?_; refine dB rfl rfl rfl rfl rfl rfl ?_; refine dB rfl rfl rfl rfl rfl rfl ?_; refine dB rfl rfl rfl rfl rfl rfl ?_; refine aV rfl (fun _ hq14 => iF rfl rfl) ?_; refine fN (fun wq13 hq14 => aA ?_); have hE31 := hE11.then hq14; have hB33 := hq14.blk0 hB12; have hO34 := hO1.evo0 hq14; refine cK rfl ?_; refine aW (aA (aE (aB (aG (aC rfl (eE (vs := [(0, _), (2, _)]) dO rfl (cells := [_, _, _, _, _, _, _, _, _]) rfl) ?_))))); refine bN rfl rfl bE hB33 rfl rfl ⟨rfl, rfl, rfl, rfl, rfl, rfl, rfl, rfl, rfl, trivial⟩ fun w35 hB36 hw37 => ?_; have hE38 := hE31.step hw37 hG5.mem1; have hO40 := hO34.evo hw37 hA9.symm.own1
  try simp only [cU, Nat.reduceAdd] at hB36
  refine aD (aA (aO (dE rfl (ResOk.cellA rfl bV bE hB36 rfl) ?_))); refine ⟨?_, hE38⟩; rw [vV hm (fun h1 => by omega)]; exact ⟨_, _, rfl, LZ hO40 (by omega), ge_fr hG10⟩
theorem qH {w w' : World} {v : Value} {S : Int → Prop} {n m : Nat} (h : xB w w' v S n) (hm : n ≤ m) : xB w w' v S m := by
  obtain ⟨a, c, ob, l, h1, h2, h3, h4, h5, h6⟩ := h
  exact ⟨a, c, ob, l, h1, h2, h3, h4, h5, Nat.le_trans h6 hm⟩
theorem oQ {w : World} (c : Nat) (hc : c < 256) :
    Calls Tryz.prog 133 #[.int .u8 (c : Nat)] w (Ret fun v w' => LetOut w w' v (wA c) ∧ Evo [] w w') := by
  have hor := or_c c hc; refine bO (N := 31) Tryz.func133 rfl rfl rfl ?_; refine aE (aB (aM (aM (aD (aA (aE (aB (aM (aD (aA (aE (aE (aB (aG ?_)))))))))))))); refine aC rfl (iY (m := c) (n := 32) rfl rfl rfl rfl rfl hc (by decide)) ?_; refine aD (aA (bT (aE (aB (aC rfl (bF rfl rfl) ?_))))); refine aM (aD (aA (bI rfl (fun hc7 => ?_) (fun hc7 => ?_))))
  ·skip
   have hcs := hor.1.1 (by omega); refine aB (bM (vs := [_, _]) rfl cC rfl rfl rfl rfl fun b1 w2 hO3 hs4 hw5 => ?_); have hE7 := (Evo.refl [] w).then hw5; refine aN (vs := [_]) cD rfl (dW (es := [48, 57]) hO3 (by decide)) rfl ?_; rintro _ w8 ⟨a1, c1, ob1, rfl, hO1, hg1, hw9⟩; have hG11 := Ge.fresh hE7 hg1; have hE12 := hE7.then hw9; refine aM (aD (aZ (aA (aE (aE (aB (aG (aD (aA (bT (aE (aE (aB (aC rfl (bF rfl rfl) ?_)))))))))))))); refine aM (aD (aA (bI rfl (fun hc20 => ?_) (fun hc20 => ?_))))
   ·skip
    refine aW (aA (bI rfl (fun hc20 => ?_) (fun hc20 => ?_)))
    ·skip
     refine aB (aG ?_); refine aN (vs := [_]) kB rfl (lH (l := [(48, 57)]) hO1 (iR (by kernel_rfl)) (by decide) (fun c => Iff.rfl)) rfl ?_; rintro rv w14 hR; have hV9 := hE12; have hw15 := hR.evo; have hE16 := hE12.then hw15; refine aM (aD (aZ (aA (aE (aB (aG (aM (aM (aD (aA (aO (cW rfl rfl rfl ?_))))))))))))
     obtain rfl : c = 68 := by omega
     exact ⟨.inr ⟨_, _, rfl, rfl, qH (hR.set hV9) (by decide)⟩, hE16⟩
    exfalso; omega
   refine aE (aB (aC rfl (bF rfl rfl) ?_)); refine aM (aD (aA (bI rfl (fun hc20 => ?_) (fun hc20 => ?_))))
   ·skip
    exfalso; omega
   refine aB (aC rfl (bF rfl rfl) ?_); refine aM (aD (aA (bI rfl (fun hc20 => ?_) (fun hc20 => ?_))))
   ·skip
    exfalso; omega
   refine aE (aE (aB (aC rfl (bF rfl rfl) ?_))); refine aM (aD (aA (bI rfl (fun hc26 => ?_) (fun hc26 => ?_))))
   ·skip
    refine aW (aA (bI rfl (fun hc26 => ?_) (fun hc26 => ?_)))
    ·skip
     refine aW (aZ (aA (aE (aB (aG (aM (aM (aD (aA (aO (cW rfl rfl rfl ?_)))))))))))
     obtain rfl : c = 100 := by omega
     exact ⟨.inr ⟨_, _, rfl, rfl, _, _, _, [(48, 57)], rfl, hO1, hG11, iR (by kernel_rfl), fun c => Iff.rfl, by decide⟩, hE12⟩
    exfalso; omega
   exfalso; omega
  refine aE (aB (aC rfl (bF rfl rfl) ?_)); refine aM (aD (aA (bI rfl (fun hc11 => ?_) (fun hc11 => ?_))))
  ·skip
   have hcs := hor.1.2.1 (by omega); refine aB (bM (vs := [_, _, _, _, _, _]) rfl cC rfl rfl rfl rfl fun b18 w19 hO20 hs21 hw22 => ?_); have hE24 := (Evo.refl [] w).then hw22; refine aN (vs := [_]) cD rfl (dW (es := [9, 10, 12, 13, 32, 32]) hO20 (by decide)) rfl ?_; rintro _ w25 ⟨a1, c1, ob1, rfl, hO1, hg1, hw26⟩; have hG28 := Ge.fresh hE24 hg1; have hE29 := hE24.then hw26; refine aM (aD (aZ (aA (aE (aE (aB (aG (aD (aA (bT (aE (aE (aB (aC rfl (bF rfl rfl) ?_)))))))))))))); refine aM (aD (aA (bI rfl (fun hc20 => ?_) (fun hc20 => ?_))))
   ·skip
    exfalso; omega
   refine aE (aB (aC rfl (bF rfl rfl) ?_)); refine aM (aD (aA (bI rfl (fun hc20 => ?_) (fun hc20 => ?_))))
   ·skip
    refine aW (aA (bI rfl (fun hc20 => ?_) (fun hc20 => ?_)))
    ·skip
     refine aB (aG ?_); refine aN (vs := [_]) kB rfl (lH (l := [(9, 10), (12, 13), (32, 32)]) hO1 (iR (by kernel_rfl)) (by decide) (fun c => Iff.rfl)) rfl ?_; rintro rv w31 hR; have hV9 := hE29; have hw32 := hR.evo; have hE33 := hE29.then hw32; refine aM (aD (aZ (aA (aE (aB (aG (aM (aM (aD (aA (aO (cW rfl rfl rfl ?_))))))))))))
     obtain rfl : c = 83 := by omega
     exact ⟨.inr ⟨_, _, rfl, rfl, qH (hR.set hV9) (by decide)⟩, hE33⟩
    exfalso; omega
   refine aB (aC rfl (bF rfl rfl) ?_); refine aM (aD (aA (bI rfl (fun hc20 => ?_) (fun hc20 => ?_))))
   ·skip
    exfalso; omega
   refine aE (aE (aB (aC rfl (bF rfl rfl) ?_))); refine aM (aD (aA (bI rfl (fun hc26 => ?_) (fun hc26 => ?_))))
   ·skip
    exfalso; omega
   refine aE (aB (aC rfl (bF rfl rfl) ?_)); refine aM (aD (aA (bI rfl (fun hc26 => ?_) (fun hc26 => ?_))))
   ·skip
    refine aW (aA (bI rfl (fun hc26 => ?_) (fun hc26 => ?_)))
    ·skip
     refine aW (aZ (aA (aE (aB (aG (aM (aM (aD (aA (aO (cW rfl rfl rfl ?_)))))))))))
     obtain rfl : c = 115 := by omega
     exact ⟨.inr ⟨_, _, rfl, rfl, _, _, _, [(9, 10), (12, 13), (32, 32)], rfl, hO1, hG28, iR (by kernel_rfl), fun c => Iff.rfl, by decide⟩, hE29⟩
    exfalso; omega
   exfalso; omega
  refine aE (aB (aC rfl (bF rfl rfl) ?_)); refine aM (aD (aA (bI rfl (fun hc15 => ?_) (fun hc15 => ?_))))
  ·skip
   have hcs := hor.1.2.2 (by omega); refine aB (bM (vs := [_, _, _, _, _, _, _, _]) rfl cC rfl rfl rfl rfl fun b35 w36 hO37 hs38 hw39 => ?_); have hE41 := (Evo.refl [] w).then hw39; refine aN (vs := [_]) cD rfl (dW (es := [48, 57, 65, 90, 95, 95, 97, 122]) hO37 (by decide)) rfl ?_; rintro _ w42 ⟨a1, c1, ob1, rfl, hO1, hg1, hw43⟩; have hG45 := Ge.fresh hE41 hg1; have hE46 := hE41.then hw43; refine aM (aD (aZ (aA (aE (aE (aB (aG (aD (aA (bT (aE (aE (aB (aC rfl (bF rfl rfl) ?_)))))))))))))); refine aM (aD (aA (bI rfl (fun hc20 => ?_) (fun hc20 => ?_))))
   ·skip
    exfalso; omega
   refine aE (aB (aC rfl (bF rfl rfl) ?_)); refine aM (aD (aA (bI rfl (fun hc20 => ?_) (fun hc20 => ?_))))
   ·skip
    exfalso; omega
   refine aB (aC rfl (bF rfl rfl) ?_); refine aM (aD (aA (bI rfl (fun hc20 => ?_) (fun hc20 => ?_))))
   ·skip
    refine aB (aG ?_); refine aN (vs := [_]) kB rfl (lH (l := [(48, 57), (65, 90), (95, 95), (97, 122)]) hO1 (iR (by kernel_rfl)) (by decide) (fun c => Iff.rfl)) rfl ?_; rintro rv w48 hR; have hV9 := hE46; have hw49 := hR.evo; have hE50 := hE46.then hw49; refine aM (aD (aZ (aA (aE (aB (aG (aM (aM (aD (aA (aO (cW rfl rfl rfl ?_))))))))))))
    obtain rfl : c = 87 := by omega
    exact ⟨.inr ⟨_, _, rfl, rfl, qH (hR.set hV9) (by decide)⟩, hE50⟩
   refine aE (aE (aB (aC rfl (bF rfl rfl) ?_))); refine aM (aD (aA (bI rfl (fun hc26 => ?_) (fun hc26 => ?_))))
   ·skip
    exfalso; omega
   refine aE (aB (aC rfl (bF rfl rfl) ?_)); refine aM (aD (aA (bI rfl (fun hc26 => ?_) (fun hc26 => ?_))))
   ·skip
    exfalso; omega
   refine aB (aC rfl (bF rfl rfl) ?_); refine aM (aD (aA (bI rfl (fun hc26 => ?_) (fun hc26 => ?_))))
   ·skip
    refine aW (aZ (aA (aE (aB (aG (aM (aM (aD (aA (aO (cW rfl rfl rfl ?_)))))))))))
    obtain rfl : c = 119 := by omega
    exact ⟨.inr ⟨_, _, rfl, rfl, _, _, _, [(48, 57), (65, 90), (95, 95), (97, 122)], rfl, hO1, hG45, iR (by kernel_rfl), fun c => Iff.rfl, by decide⟩, hE46⟩
   exfalso; omega
  refine aE (aB (aM (aM (aD (aA (aO (aY (aP (cW rfl rfl rfl ?_)))))))))
  exact ⟨.inl ⟨tH (by have := hor.2; omega), rfl⟩, (Evo.refl [] w)⟩
end Go.Proofs.YtljadkcojnlioaaGreatDoor
namespace Go.Proofs.YtljadkcojnlioaaGreatDoor
open Go.Proofs
open Go.W Go.RowKit
attribute [local irreducible] Decidable.decide
theorem pB : fZ Tryz.prog 62 0 = some 0 := by kernel_rfl
theorem eO : fZ Tryz.prog 64 2 = some 2 := by kernel_rfl
theorem iB : eT Tryz.prog 113 := ⟨_, Tryz.func113, by kernel_rfl, by kernel_rfl⟩
theorem sQ : eT Tryz.prog 130 := ⟨_, Tryz.func130, by kernel_rfl, by kernel_rfl⟩
theorem nam0 {n : ByteArray} (h : n = asc [97, 108, 110, 117, 109]) : jH n = some (rs [(48, 57), (65, 90), (97, 122)]) := by unfold jH; rw [if_pos h]
theorem nam1 {n : ByteArray} (h0 : ¬ n = asc [97, 108, 110, 117, 109]) (h : n = asc [97, 108, 112, 104, 97]) : jH n = some (rs [(65, 90), (97, 122)]) := by unfold jH; rw [if_neg h0, if_pos h]
theorem nam2 {n : ByteArray} (h0 : ¬ n = asc [97, 108, 110, 117, 109]) (h1 : ¬ n = asc [97, 108, 112, 104, 97]) (h : n = asc [97, 115, 99, 105, 105]) : jH n = some (rs [(0, 127)]) := by unfold jH; rw [if_neg h0, if_neg h1, if_pos h]
theorem nam3 {n : ByteArray} (h0 : ¬ n = asc [97, 108, 110, 117, 109]) (h1 : ¬ n = asc [97, 108, 112, 104, 97]) (h2 : ¬ n = asc [97, 115, 99, 105, 105]) (h : n = asc [98, 108, 97, 110, 107]) : jH n = some (rs [(9, 9), (32, 32)]) := by unfold jH; rw [if_neg h0, if_neg h1, if_neg h2, if_pos h]
theorem nam4 {n : ByteArray} (h0 : ¬ n = asc [97, 108, 110, 117, 109]) (h1 : ¬ n = asc [97, 108, 112, 104, 97]) (h2 : ¬ n = asc [97, 115, 99, 105, 105]) (h3 : ¬ n = asc [98, 108, 97, 110, 107]) (h : n = asc [99, 110, 116, 114, 108]) : jH n = some (rs [(0, 31), (127, 127)]) := by unfold jH; rw [if_neg h0, if_neg h1, if_neg h2, if_neg h3, if_pos h]
theorem nam5 {n : ByteArray} (h0 : ¬ n = asc [97, 108, 110, 117, 109]) (h1 : ¬ n = asc [97, 108, 112, 104, 97]) (h2 : ¬ n = asc [97, 115, 99, 105, 105]) (h3 : ¬ n = asc [98, 108, 97, 110, 107]) (h4 : ¬ n = asc [99, 110, 116, 114, 108]) (h : n = asc [100, 105, 103, 105, 116]) : jH n = some (rs [(48, 57)]) := by unfold jH; rw [if_neg h0, if_neg h1, if_neg h2, if_neg h3, if_neg h4, if_pos h]
theorem nam6 {n : ByteArray} (h0 : ¬ n = asc [97, 108, 110, 117, 109]) (h1 : ¬ n = asc [97, 108, 112, 104, 97]) (h2 : ¬ n = asc [97, 115, 99, 105, 105]) (h3 : ¬ n = asc [98, 108, 97, 110, 107]) (h4 : ¬ n = asc [99, 110, 116, 114, 108]) (h5 : ¬ n = asc [100, 105, 103, 105, 116]) (h : n = asc [103, 114, 97, 112, 104]) : jH n = some (rs [(33, 126)]) := by unfold jH; rw [if_neg h0, if_neg h1, if_neg h2, if_neg h3, if_neg h4, if_neg h5, if_pos h]
theorem nam7 {n : ByteArray} (h0 : ¬ n = asc [97, 108, 110, 117, 109]) (h1 : ¬ n = asc [97, 108, 112, 104, 97]) (h2 : ¬ n = asc [97, 115, 99, 105, 105]) (h3 : ¬ n = asc [98, 108, 97, 110, 107]) (h4 : ¬ n = asc [99, 110, 116, 114, 108]) (h5 : ¬ n = asc [100, 105, 103, 105, 116]) (h6 : ¬ n = asc [103, 114, 97, 112, 104]) (h : n = asc [108, 111, 119, 101, 114]) : jH n = some (rs [(97, 122)]) := by unfold jH; rw [if_neg h0, if_neg h1, if_neg h2, if_neg h3, if_neg h4, if_neg h5, if_neg h6, if_pos h]
theorem nam8 {n : ByteArray} (h0 : ¬ n = asc [97, 108, 110, 117, 109]) (h1 : ¬ n = asc [97, 108, 112, 104, 97]) (h2 : ¬ n = asc [97, 115, 99, 105, 105]) (h3 : ¬ n = asc [98, 108, 97, 110, 107]) (h4 : ¬ n = asc [99, 110, 116, 114, 108]) (h5 : ¬ n = asc [100, 105, 103, 105, 116]) (h6 : ¬ n = asc [103, 114, 97, 112, 104]) (h7 : ¬ n = asc [108, 111, 119, 101, 114]) (h : n = asc [112, 114, 105, 110, 116]) : jH n = some (rs [(32, 126)]) := by unfold jH; rw [if_neg h0, if_neg h1, if_neg h2, if_neg h3, if_neg h4, if_neg h5, if_neg h6, if_neg h7, if_pos h]
theorem nam9 {n : ByteArray} (h0 : ¬ n = asc [97, 108, 110, 117, 109]) (h1 : ¬ n = asc [97, 108, 112, 104, 97]) (h2 : ¬ n = asc [97, 115, 99, 105, 105]) (h3 : ¬ n = asc [98, 108, 97, 110, 107]) (h4 : ¬ n = asc [99, 110, 116, 114, 108]) (h5 : ¬ n = asc [100, 105, 103, 105, 116]) (h6 : ¬ n = asc [103, 114, 97, 112, 104]) (h7 : ¬ n = asc [108, 111, 119, 101, 114]) (h8 : ¬ n = asc [112, 114, 105, 110, 116]) (h : n = asc [112, 117, 110, 99, 116]) : jH n = some (rs [(33, 47), (58, 64), (91, 96), (123, 126)]) := by unfold jH; rw [if_neg h0, if_neg h1, if_neg h2, if_neg h3, if_neg h4, if_neg h5, if_neg h6, if_neg h7, if_neg h8, if_pos h]
theorem nam10 {n : ByteArray} (h0 : ¬ n = asc [97, 108, 110, 117, 109]) (h1 : ¬ n = asc [97, 108, 112, 104, 97]) (h2 : ¬ n = asc [97, 115, 99, 105, 105]) (h3 : ¬ n = asc [98, 108, 97, 110, 107]) (h4 : ¬ n = asc [99, 110, 116, 114, 108]) (h5 : ¬ n = asc [100, 105, 103, 105, 116]) (h6 : ¬ n = asc [103, 114, 97, 112, 104]) (h7 : ¬ n = asc [108, 111, 119, 101, 114]) (h8 : ¬ n = asc [112, 114, 105, 110, 116]) (h9 : ¬ n = asc [112, 117, 110, 99, 116]) (h : n = asc [115, 112, 97, 99, 101]) : jH n = some (rs [(9, 13), (32, 32)]) := by unfold jH; rw [if_neg h0, if_neg h1, if_neg h2, if_neg h3, if_neg h4, if_neg h5, if_neg h6, if_neg h7, if_neg h8, if_neg h9, if_pos h]
theorem nam11 {n : ByteArray} (h0 : ¬ n = asc [97, 108, 110, 117, 109]) (h1 : ¬ n = asc [97, 108, 112, 104, 97]) (h2 : ¬ n = asc [97, 115, 99, 105, 105]) (h3 : ¬ n = asc [98, 108, 97, 110, 107]) (h4 : ¬ n = asc [99, 110, 116, 114, 108]) (h5 : ¬ n = asc [100, 105, 103, 105, 116]) (h6 : ¬ n = asc [103, 114, 97, 112, 104]) (h7 : ¬ n = asc [108, 111, 119, 101, 114]) (h8 : ¬ n = asc [112, 114, 105, 110, 116]) (h9 : ¬ n = asc [112, 117, 110, 99, 116]) (h10 : ¬ n = asc [115, 112, 97, 99, 101]) (h : n = asc [117, 112, 112, 101, 114]) : jH n = some (rs [(65, 90)]) := by unfold jH; rw [if_neg h0, if_neg h1, if_neg h2, if_neg h3, if_neg h4, if_neg h5, if_neg h6, if_neg h7, if_neg h8, if_neg h9, if_neg h10, if_pos h]
theorem nam12 {n : ByteArray} (h0 : ¬ n = asc [97, 108, 110, 117, 109]) (h1 : ¬ n = asc [97, 108, 112, 104, 97]) (h2 : ¬ n = asc [97, 115, 99, 105, 105]) (h3 : ¬ n = asc [98, 108, 97, 110, 107]) (h4 : ¬ n = asc [99, 110, 116, 114, 108]) (h5 : ¬ n = asc [100, 105, 103, 105, 116]) (h6 : ¬ n = asc [103, 114, 97, 112, 104]) (h7 : ¬ n = asc [108, 111, 119, 101, 114]) (h8 : ¬ n = asc [112, 114, 105, 110, 116]) (h9 : ¬ n = asc [112, 117, 110, 99, 116]) (h10 : ¬ n = asc [115, 112, 97, 99, 101]) (h11 : ¬ n = asc [117, 112, 112, 101, 114]) (h : n = asc [119, 111, 114, 100]) : jH n = some (rs [(48, 57), (65, 90), (95, 95), (97, 122)]) := by unfold jH; rw [if_neg h0, if_neg h1, if_neg h2, if_neg h3, if_neg h4, if_neg h5, if_neg h6, if_neg h7, if_neg h8, if_neg h9, if_neg h10, if_neg h11, if_pos h]
theorem nam13 {n : ByteArray} (h0 : ¬ n = asc [97, 108, 110, 117, 109]) (h1 : ¬ n = asc [97, 108, 112, 104, 97]) (h2 : ¬ n = asc [97, 115, 99, 105, 105]) (h3 : ¬ n = asc [98, 108, 97, 110, 107]) (h4 : ¬ n = asc [99, 110, 116, 114, 108]) (h5 : ¬ n = asc [100, 105, 103, 105, 116]) (h6 : ¬ n = asc [103, 114, 97, 112, 104]) (h7 : ¬ n = asc [108, 111, 119, 101, 114]) (h8 : ¬ n = asc [112, 114, 105, 110, 116]) (h9 : ¬ n = asc [112, 117, 110, 99, 116]) (h10 : ¬ n = asc [115, 112, 97, 99, 101]) (h11 : ¬ n = asc [117, 112, 112, 101, 114]) (h12 : ¬ n = asc [119, 111, 114, 100]) (h : n = asc [120, 100, 105, 103, 105, 116]) : jH n = some (rs [(48, 57), (65, 70), (97, 102)]) := by unfold jH; rw [if_neg h0, if_neg h1, if_neg h2, if_neg h3, if_neg h4, if_neg h5, if_neg h6, if_neg h7, if_neg h8, if_neg h9, if_neg h10, if_neg h11, if_neg h12, if_pos h]
theorem namN {n : ByteArray} (h0 : ¬ n = asc [97, 108, 110, 117, 109]) (h1 : ¬ n = asc [97, 108, 112, 104, 97]) (h2 : ¬ n = asc [97, 115, 99, 105, 105]) (h3 : ¬ n = asc [98, 108, 97, 110, 107]) (h4 : ¬ n = asc [99, 110, 116, 114, 108]) (h5 : ¬ n = asc [100, 105, 103, 105, 116]) (h6 : ¬ n = asc [103, 114, 97, 112, 104]) (h7 : ¬ n = asc [108, 111, 119, 101, 114]) (h8 : ¬ n = asc [112, 114, 105, 110, 116]) (h9 : ¬ n = asc [112, 117, 110, 99, 116]) (h10 : ¬ n = asc [115, 112, 97, 99, 101]) (h11 : ¬ n = asc [117, 112, 112, 101, 114]) (h12 : ¬ n = asc [119, 111, 114, 100]) (h13 : ¬ n = asc [120, 100, 105, 103, 105, 116])  : jH n = none := by unfold jH; rw [if_neg h0, if_neg h1, if_neg h2, if_neg h3, if_neg h4, if_neg h5, if_neg h6, if_neg h7, if_neg h8, if_neg h9, if_neg h10, if_neg h11, if_neg h12, if_neg h13]
theorem MH {w : World} (n : ByteArray) :
    Calls Tryz.prog 146 #[.string n] w (Ret fun v w' => LetOut w w' v (jH n) ∧ Evo [] w w') := by
  refine bO (N := 61) Tryz.func146 rfl rfl rfl ?_; refine aE (aB (aM (aM (aD (aA (aE (aE (aB (aG (aD (aA (bT (aE (aB (aC rfl (gL rfl rfl) ?_))))))))))))))); refine aM (aD (aA (bI rfl (fun hc5 => ?_) (fun hc5 => ?_))))
  ·skip
   refine aE (aB (bM (vs := [_, _, _, _, _, _]) rfl cC rfl rfl rfl rfl fun b1 w2 hO3 hs4 hw5 => ?_)); have hE7 := (Evo.refl [] w).then hw5; refine aN (vs := [_]) cD rfl (dW (es := [48, 57, 65, 90, 97, 122]) hO3 (by decide)) rfl ?_; rintro _ w8 ⟨a1, c1, ob1, rfl, hO1, hg1, hw9⟩; have hG11 := Ge.fresh hE7 hg1; have hE12 := hE7.then hw9; refine aM (aM (aD (aA (aO (aY (aP (cW rfl rfl rfl ?_))))))); exact ⟨.inr ⟨_, _, nam0  hc5, rfl, _, _, _, [(48, 57), (65, 90), (97, 122)], rfl, hO1, hG11, iR (by kernel_rfl), fun c => Iff.rfl, by decide⟩, hE12⟩
  refine aE (aB (aC rfl (gL rfl rfl) ?_)); refine aM (aD (aA (bI rfl (fun hc9 => ?_) (fun hc9 => ?_))))
  ·skip
   refine aE (aB (bM (vs := [_, _, _, _]) rfl cC rfl rfl rfl rfl fun b14 w15 hO16 hs17 hw18 => ?_)); have hE20 := (Evo.refl [] w).then hw18; refine aN (vs := [_]) cD rfl (dW (es := [65, 90, 97, 122]) hO16 (by decide)) rfl ?_; rintro _ w21 ⟨a1, c1, ob1, rfl, hO1, hg1, hw22⟩; have hG24 := Ge.fresh hE20 hg1; have hE25 := hE20.then hw22; refine aM (aM (aD (aA (aO (aY (aP (cW rfl rfl rfl ?_))))))); exact ⟨.inr ⟨_, _, nam1 hc5 hc9, rfl, _, _, _, [(65, 90), (97, 122)], rfl, hO1, hG24, iR (by kernel_rfl), fun c => Iff.rfl, by decide⟩, hE25⟩
  refine aE (aB (aC rfl (gL rfl rfl) ?_)); refine aM (aD (aA (bI rfl (fun hc13 => ?_) (fun hc13 => ?_))))
  ·skip
   refine aE (aB (bM (vs := [_, _]) rfl cC rfl rfl rfl rfl fun b27 w28 hO29 hs30 hw31 => ?_)); have hE33 := (Evo.refl [] w).then hw31; refine aN (vs := [_]) cD rfl (dW (es := [0, 127]) hO29 (by decide)) rfl ?_; rintro _ w34 ⟨a1, c1, ob1, rfl, hO1, hg1, hw35⟩; have hG37 := Ge.fresh hE33 hg1; have hE38 := hE33.then hw35; refine aM (aM (aD (aA (aO (aY (aP (cW rfl rfl rfl ?_))))))); exact ⟨.inr ⟨_, _, nam2 hc5 hc9 hc13, rfl, _, _, _, [(0, 127)], rfl, hO1, hG37, iR (by kernel_rfl), fun c => Iff.rfl, by decide⟩, hE38⟩
  refine aE (aB (aC rfl (gL rfl rfl) ?_)); refine aM (aD (aA (bI rfl (fun hc17 => ?_) (fun hc17 => ?_))))
  ·skip
   refine aE (aB (bM (vs := [_, _, _, _]) rfl cC rfl rfl rfl rfl fun b40 w41 hO42 hs43 hw44 => ?_)); have hE46 := (Evo.refl [] w).then hw44; refine aN (vs := [_]) cD rfl (dW (es := [9, 9, 32, 32]) hO42 (by decide)) rfl ?_; rintro _ w47 ⟨a1, c1, ob1, rfl, hO1, hg1, hw48⟩; have hG50 := Ge.fresh hE46 hg1; have hE51 := hE46.then hw48; refine aM (aM (aD (aA (aO (aY (aP (cW rfl rfl rfl ?_))))))); exact ⟨.inr ⟨_, _, nam3 hc5 hc9 hc13 hc17, rfl, _, _, _, [(9, 9), (32, 32)], rfl, hO1, hG50, iR (by kernel_rfl), fun c => Iff.rfl, by decide⟩, hE51⟩
  refine aE (aB (aC rfl (gL rfl rfl) ?_)); refine aM (aD (aA (bI rfl (fun hc21 => ?_) (fun hc21 => ?_))))
  ·skip
   refine aE (aB (bM (vs := [_, _, _, _]) rfl cC rfl rfl rfl rfl fun b53 w54 hO55 hs56 hw57 => ?_)); have hE59 := (Evo.refl [] w).then hw57; refine aN (vs := [_]) cD rfl (dW (es := [0, 31, 127, 127]) hO55 (by decide)) rfl ?_; rintro _ w60 ⟨a1, c1, ob1, rfl, hO1, hg1, hw61⟩; have hG63 := Ge.fresh hE59 hg1; have hE64 := hE59.then hw61; refine aM (aM (aD (aA (aO (aY (aP (cW rfl rfl rfl ?_))))))); exact ⟨.inr ⟨_, _, nam4 hc5 hc9 hc13 hc17 hc21, rfl, _, _, _, [(0, 31), (127, 127)], rfl, hO1, hG63, iR (by kernel_rfl), fun c => Iff.rfl, by decide⟩, hE64⟩
  refine aE (aB (aC rfl (gL rfl rfl) ?_)); refine aM (aD (aA (bI rfl (fun hc25 => ?_) (fun hc25 => ?_))))
  ·skip
   refine aE (aB (bM (vs := [_, _]) rfl cC rfl rfl rfl rfl fun b66 w67 hO68 hs69 hw70 => ?_)); have hE72 := (Evo.refl [] w).then hw70; refine aN (vs := [_]) cD rfl (dW (es := [48, 57]) hO68 (by decide)) rfl ?_; rintro _ w73 ⟨a1, c1, ob1, rfl, hO1, hg1, hw74⟩; have hG76 := Ge.fresh hE72 hg1; have hE77 := hE72.then hw74; refine aM (aM (aD (aA (aO (aY (aP (cW rfl rfl rfl ?_))))))); exact ⟨.inr ⟨_, _, nam5 hc5 hc9 hc13 hc17 hc21 hc25, rfl, _, _, _, [(48, 57)], rfl, hO1, hG76, iR (by kernel_rfl), fun c => Iff.rfl, by decide⟩, hE77⟩
  refine aE (aB (aC rfl (gL rfl rfl) ?_)); refine aM (aD (aA (bI rfl (fun hc29 => ?_) (fun hc29 => ?_))))
  ·skip
   refine aE (aB (bM (vs := [_, _]) rfl cC rfl rfl rfl rfl fun b79 w80 hO81 hs82 hw83 => ?_)); have hE85 := (Evo.refl [] w).then hw83; refine aN (vs := [_]) cD rfl (dW (es := [33, 126]) hO81 (by decide)) rfl ?_; rintro _ w86 ⟨a1, c1, ob1, rfl, hO1, hg1, hw87⟩; have hG89 := Ge.fresh hE85 hg1; have hE90 := hE85.then hw87; refine aM (aM (aD (aA (aO (aY (aP (cW rfl rfl rfl ?_))))))); exact ⟨.inr ⟨_, _, nam6 hc5 hc9 hc13 hc17 hc21 hc25 hc29, rfl, _, _, _, [(33, 126)], rfl, hO1, hG89, iR (by kernel_rfl), fun c => Iff.rfl, by decide⟩, hE90⟩
  refine aE (aB (aC rfl (gL rfl rfl) ?_)); refine aM (aD (aA (bI rfl (fun hc33 => ?_) (fun hc33 => ?_))))
  ·skip
   refine aE (aB (bM (vs := [_, _]) rfl cC rfl rfl rfl rfl fun b92 w93 hO94 hs95 hw96 => ?_)); have hE98 := (Evo.refl [] w).then hw96; refine aN (vs := [_]) cD rfl (dW (es := [97, 122]) hO94 (by decide)) rfl ?_; rintro _ w99 ⟨a1, c1, ob1, rfl, hO1, hg1, hw100⟩; have hG102 := Ge.fresh hE98 hg1; have hE103 := hE98.then hw100; refine aM (aM (aD (aA (aO (aY (aP (cW rfl rfl rfl ?_))))))); exact ⟨.inr ⟨_, _, nam7 hc5 hc9 hc13 hc17 hc21 hc25 hc29 hc33, rfl, _, _, _, [(97, 122)], rfl, hO1, hG102, iR (by kernel_rfl), fun c => Iff.rfl, by decide⟩, hE103⟩
  refine aE (aB (aC rfl (gL rfl rfl) ?_)); refine aM (aD (aA (bI rfl (fun hc37 => ?_) (fun hc37 => ?_))))
  ·skip
   refine aE (aB (bM (vs := [_, _]) rfl cC rfl rfl rfl rfl fun b105 w106 hO107 hs108 hw109 => ?_)); have hE111 := (Evo.refl [] w).then hw109; refine aN (vs := [_]) cD rfl (dW (es := [32, 126]) hO107 (by decide)) rfl ?_; rintro _ w112 ⟨a1, c1, ob1, rfl, hO1, hg1, hw113⟩; have hG115 := Ge.fresh hE111 hg1; have hE116 := hE111.then hw113; refine aM (aM (aD (aA (aO (aY (aP (cW rfl rfl rfl ?_))))))); exact ⟨.inr ⟨_, _, nam8 hc5 hc9 hc13 hc17 hc21 hc25 hc29 hc33 hc37, rfl, _, _, _, [(32, 126)], rfl, hO1, hG115, iR (by kernel_rfl), fun c => Iff.rfl, by decide⟩, hE116⟩
  refine aE (aB (aC rfl (gL rfl rfl) ?_)); refine aM (aD (aA (bI rfl (fun hc41 => ?_) (fun hc41 => ?_))))
  ·skip
   refine aE (aB (bM (vs := [_, _, _, _, _, _, _, _]) rfl cC rfl rfl rfl rfl fun b118 w119 hO120 hs121 hw122 => ?_)); have hE124 := (Evo.refl [] w).then hw122; refine aN (vs := [_]) cD rfl (dW (es := [33, 47, 58, 64, 91, 96, 123, 126]) hO120 (by decide)) rfl ?_; rintro _ w125 ⟨a1, c1, ob1, rfl, hO1, hg1, hw126⟩; have hG128 := Ge.fresh hE124 hg1; have hE129 := hE124.then hw126; refine aM (aM (aD (aA (aO (aY (aP (cW rfl rfl rfl ?_))))))); exact ⟨.inr ⟨_, _, nam9 hc5 hc9 hc13 hc17 hc21 hc25 hc29 hc33 hc37 hc41, rfl, _, _, _, [(33, 47), (58, 64), (91, 96), (123, 126)], rfl, hO1, hG128, iR (by kernel_rfl), fun c => Iff.rfl, by decide⟩, hE129⟩
  refine aE (aB (aC rfl (gL rfl rfl) ?_)); refine aM (aD (aA (bI rfl (fun hc45 => ?_) (fun hc45 => ?_))))
  ·skip
   refine aE (aB (bM (vs := [_, _, _, _]) rfl cC rfl rfl rfl rfl fun b131 w132 hO133 hs134 hw135 => ?_)); have hE137 := (Evo.refl [] w).then hw135; refine aN (vs := [_]) cD rfl (dW (es := [9, 13, 32, 32]) hO133 (by decide)) rfl ?_; rintro _ w138 ⟨a1, c1, ob1, rfl, hO1, hg1, hw139⟩; have hG141 := Ge.fresh hE137 hg1; have hE142 := hE137.then hw139; refine aM (aM (aD (aA (aO (aY (aP (cW rfl rfl rfl ?_))))))); exact ⟨.inr ⟨_, _, nam10 hc5 hc9 hc13 hc17 hc21 hc25 hc29 hc33 hc37 hc41 hc45, rfl, _, _, _, [(9, 13), (32, 32)], rfl, hO1, hG141, iR (by kernel_rfl), fun c => Iff.rfl, by decide⟩, hE142⟩
  refine aE (aB (aC rfl (gL rfl rfl) ?_)); refine aM (aD (aA (bI rfl (fun hc49 => ?_) (fun hc49 => ?_))))
  ·skip
   refine aE (aB (bM (vs := [_, _]) rfl cC rfl rfl rfl rfl fun b144 w145 hO146 hs147 hw148 => ?_)); have hE150 := (Evo.refl [] w).then hw148; refine aN (vs := [_]) cD rfl (dW (es := [65, 90]) hO146 (by decide)) rfl ?_; rintro _ w151 ⟨a1, c1, ob1, rfl, hO1, hg1, hw152⟩; have hG154 := Ge.fresh hE150 hg1; have hE155 := hE150.then hw152; refine aM (aM (aD (aA (aO (aY (aP (cW rfl rfl rfl ?_))))))); exact ⟨.inr ⟨_, _, nam11 hc5 hc9 hc13 hc17 hc21 hc25 hc29 hc33 hc37 hc41 hc45 hc49, rfl, _, _, _, [(65, 90)], rfl, hO1, hG154, iR (by kernel_rfl), fun c => Iff.rfl, by decide⟩, hE155⟩
  refine aE (aB (aC rfl (gL rfl rfl) ?_)); refine aM (aD (aA (bI rfl (fun hc53 => ?_) (fun hc53 => ?_))))
  ·skip
   refine aE (aB (bM (vs := [_, _, _, _, _, _, _, _]) rfl cC rfl rfl rfl rfl fun b157 w158 hO159 hs160 hw161 => ?_)); have hE163 := (Evo.refl [] w).then hw161; refine aN (vs := [_]) cD rfl (dW (es := [48, 57, 65, 90, 95, 95, 97, 122]) hO159 (by decide)) rfl ?_; rintro _ w164 ⟨a1, c1, ob1, rfl, hO1, hg1, hw165⟩; have hG167 := Ge.fresh hE163 hg1; have hE168 := hE163.then hw165; refine aM (aM (aD (aA (aO (aY (aP (cW rfl rfl rfl ?_))))))); exact ⟨.inr ⟨_, _, nam12 hc5 hc9 hc13 hc17 hc21 hc25 hc29 hc33 hc37 hc41 hc45 hc49 hc53, rfl, _, _, _, [(48, 57), (65, 90), (95, 95), (97, 122)], rfl, hO1, hG167, iR (by kernel_rfl), fun c => Iff.rfl, by decide⟩, hE168⟩
  refine aE (aB (aC rfl (gL rfl rfl) ?_)); refine aM (aD (aA (bI rfl (fun hc57 => ?_) (fun hc57 => ?_))))
  ·skip
   refine aE (aB (bM (vs := [_, _, _, _, _, _]) rfl cC rfl rfl rfl rfl fun b170 w171 hO172 hs173 hw174 => ?_)); have hE176 := (Evo.refl [] w).then hw174; refine aN (vs := [_]) cD rfl (dW (es := [48, 57, 65, 70, 97, 102]) hO172 (by decide)) rfl ?_; rintro _ w177 ⟨a1, c1, ob1, rfl, hO1, hg1, hw178⟩; have hG180 := Ge.fresh hE176 hg1; have hE181 := hE176.then hw178; refine aM (aM (aD (aA (aO (aY (aP (cW rfl rfl rfl ?_))))))); exact ⟨.inr ⟨_, _, nam13 hc5 hc9 hc13 hc17 hc21 hc25 hc29 hc33 hc37 hc41 hc45 hc49 hc53 hc57, rfl, _, _, _, [(48, 57), (65, 70), (97, 102)], rfl, hO1, hG180, iR (by kernel_rfl), fun c => Iff.rfl, by decide⟩, hE181⟩
  refine aW (aZ (aA (aE (aB (aM (aM (aD (aA (aO (cW rfl rfl rfl ?_)))))))))); exact ⟨.inl ⟨namN hc5 hc9 hc13 hc17 hc21 hc25 hc29 hc33 hc37 hc41 hc45 hc49 hc53 hc57, rfl⟩, (Evo.refl [] w)⟩
theorem KU (c x : Int) : InR x [(c, c)] ↔ x = c := by rw [kI]; show c ≤ x ∧ x ≤ c ↔ _; omega
theorem zI {w : World} {b : Nat} {s : ByteArray} {st : PS} {a : Option Addr} {c : Nat} {ob : Option Nat} (hR : RdAt w b s st a c ob) (r : Int) (h0 : 0 ≤ r) (h1 : r ≤ 1114111) :
    Calls Tryz.prog 116 #[.pointer (some ⟨b, 0, none⟩), .int .i32 r] w (Ret fun v w' => TOut w w' v (mA st.now r) ∧ Evo [] w w') := by
  have hap := hR.ap
  have hvr : Vr [(r, r)] := fun g hg => by rw [List.mem_singleton.1 hg]; exact ⟨h0, Int.le_refl _, h1⟩
  refine bO (N := 19) Tryz.func116 rfl rfl rfl ?_; refine aE (aB (dG rfl eI fun b4 w1 hB2 hs3 hw4 => ?_)); have hsz_b4 := hs3; have hG7 := Ge.new (Evo.refl [] w) hs3; have hE8 := (Evo.refl [] w).then hw4; have hB9 := hw4.blk0 hR.blk; refine aD (aA (aE (aB (aG (aG (bM (vs := [_, _]) rfl cC rfl rfl rfl rfl fun b11 w12 hO13 hs14 hw15 => ?_)))))); have hE20 := hE8.then hw15; have hB21 := hw15.blk0 hB9; have hB23 := hw15.blk0 hB2; refine aN (vs := [_]) cD rfl (dW (es := [r, r]) hO13 (by simp)) rfl ?_; rintro _ w24 ⟨a1, c1, ob1, rfl, hO1, hg1, hw25⟩; have hE31 := hE20.then hw25; have hB32 := hw25.blk0 hB21; have hB34 := hw25.blk0 hB23; refine aM (aD (aA (aE (aE (aB (aG (aC rfl (aQ rfl) (aC rfl (aF rfl eO) (aC rfl (aF rfl pB) (aC rfl (aI rfl eC (aK hB32 rfl)) (aD (aA (gC rfl (fun hc14 => ?_) (fun hc14 => ?_))))))))))))))
  ·skip
   have hl9 : mA st.now r = lD (pF fun x => x = r) := by unfold mA; rw [if_pos hc14]
   refine aB (aG ?_); refine aN (vs := [_]) sQ rfl (yH (l := [(r, r)]) hO1 hvr (by simp) (KU r)) rfl ?_; rintro rv w36 ⟨a2, c2, ob2, rfl, hO2, hg2, hl2, hcan2, heq2, hw37⟩; have hE43 := hE31.then hw37; have hB46 := hw37.blk0 hB34; refine aM (aD (aA (aE (aB (aG ?_)))))
   refine aN (vs := [_]) iB rfl (mF hO2 (tM hcan2) (by have : ([(r, r)] : List (Int × Int)).length = 1 := rfl; omega) heq2) rfl ?_
   rintro rv w48 ⟨hT, hw49⟩; have hV9 := hE43; have hb49 := fM hB46; have hE50 := hE43.then hw49; have hB53 := hw49.blk0 hB46; obtain ⟨vs, bs, rfl, hOT, hFr⟩ := hT; obtain ⟨ra, rc, ka, kc, rfl⟩ := id hOT.nine; refine bN rfl rfl bE hB53 rfl rfl ⟨rfl, rfl, rfl, rfl, rfl, rfl, rfl, rfl, rfl, trivial⟩ fun w56 hB57 hw58 => ?_; have hE59 := hE50.step hw58 hG7.mem1; have hE60 := (Evo.refl ([b4]) w48).step hw58 (fun y hy => .inl hy)
   try simp only [cU, Nat.reduceAdd] at hB57
   refine aD (aA (aO (dE rfl (ResOk.cellA rfl bV bE hB57 rfl) ?_))); refine ⟨?_, hE59⟩; rw [hl9]; refine ⟨_, bs, rfl, hOT.evo hE60 (fun b hb h => ?_), hFr.older hV9.size⟩
   have := hFr.ge b hb; rw [List.mem_singleton.1 h] at this; omega
  have hl9 : mA st.now r = lD (fun x => x = r) := by unfold mA; rw [if_neg (by simp [hc14])]
  refine aW (aA (aE (aB (aG ?_)))); refine aN (vs := [_]) iB rfl (mF (l := [(r, r)]) hO1 hvr (by simp) (KU r)) rfl ?_; rintro rv w65 ⟨hT, hw66⟩; have hV9 := hE31; have hb49 := fM hB34; have hE67 := hE31.then hw66; have hB70 := hw66.blk0 hB34; obtain ⟨vs, bs, rfl, hOT, hFr⟩ := hT; obtain ⟨ra, rc, ka, kc, rfl⟩ := id hOT.nine; refine bN rfl rfl bE hB70 rfl rfl ⟨rfl, rfl, rfl, rfl, rfl, rfl, rfl, rfl, rfl, trivial⟩ fun w72 hB73 hw74 => ?_; have hE75 := hE67.step hw74 hG7.mem1; have hE76 := (Evo.refl ([b4]) w65).step hw74 (fun y hy => .inl hy)
  try simp only [cU, Nat.reduceAdd] at hB73
  refine aD (aA (aO (dE rfl (ResOk.cellA rfl bV bE hB73 rfl) ?_))); refine ⟨?_, hE75⟩; rw [hl9]; refine ⟨_, bs, rfl, hOT.evo hE76 (fun b hb h => ?_), hFr.older hV9.size⟩
  have := hFr.ge b hb; rw [List.mem_singleton.1 h] at this; omega
end Go.Proofs.YtljadkcojnlioaaGreatDoor
namespace Go.Proofs.YtljadkcojnlioaaGreatDoor
open Go.W Go.RowKit
theorem DF {c : Int} (h : IsR c) : Utf8.encode c = bstr (dK c) := by
  unfold IsR at h
  have hv : Utf8.valid c = true := by unfold Utf8.valid; simp; omega
  unfold Utf8.encode dK gT
  rw [if_pos (show IsR c from h)]
  simp only [hv, if_true]
  by_cases h1 : c.toNat < 128
  · simp only [if_pos h1]; rfl
  · simp only [if_neg h1]
    by_cases h2 : c.toNat < 2048
    · simp only [if_pos h2]; rfl
    · simp only [if_neg h2]
      by_cases h3 : c.toNat < 65536
      · simp only [if_pos h3]; rfl
      · simp only [if_neg h3]; rfl
theorem hit_isR {s : ByteArray} {a w : Nat} (hw : 1 ≤ w) (h : Hit s a w) : IsR (eA s a w) := by
  by_cases e : IsR (eA s a w)
  · exact e
  · have := rY h
    rw [dK, if_neg e] at this
    simp at this; omega
instance (s : ByteArray) (c : In) (i : Nat) : Decidable (OO s c i) := by unfold OO; infer_instance
end Go.Proofs.YtljadkcojnlioaaGreatDoor
namespace Go.Proofs.YtljadkcojnlioaaGreatDoor
open Go.Proofs
open Go.W
attribute [local irreducible] Decidable.decide
theorem EE : eT Tryz.prog 45 := ⟨_, Tryz.func45, by kernel_rfl, by kernel_rfl⟩
theorem ED : eT Tryz.prog 46 := ⟨_, Tryz.func46, by kernel_rfl, by kernel_rfl⟩
theorem uH : eT Tryz.prog 58 := ⟨_, Tryz.func58, by kernel_rfl, by kernel_rfl⟩
theorem sM : eT Tryz.prog 150 := ⟨_, Tryz.func150, by kernel_rfl, by kernel_rfl⟩
theorem EC : eT Tryz.prog 71 := ⟨_, Tryz.func71, by kernel_rfl, by kernel_rfl⟩
theorem rV {w : World} {e : TypeId} {a : Option Addr} {n c : Nat} {ds : List Nat} {ob : Option Nat} (h : OwnS w e 1 a n c (ds.map fun d : Nat => Value.int .u8 (d : Int)) ob) (hl : ds.length = n) (hb : ∀ b, b ∈ ds → b < 256) : RSl 1 RB [] w (.slice a n c) ds := by
  have e1 : (ds.map fun d : Nat => [Value.int .u8 (d : Int)]).flatten = ds.map fun d : Nat => Value.int .u8 (d : Int) := by clear h hl hb; induction ds with | nil => rfl | cons d ds ih => simpa using ih
  rw [← e1] at h
  exact RSl.ofOwn h ⟨by simp, fun k h1 h2 => by simp only [List.getElem_map]; exact ⟨rfl, rfl, hb _ (List.getElem_mem _)⟩⟩ hl (fun _ _ h => by cases h)
theorem CP (s : ByteArray) (a k : Nat) : -100000000 ≤ eA s a k ∧ eA s a k ≤ 100000000 := by
  have b0 := gO s a
  have b1 := gO s (a + 1)
  have b2 := gO s (a + 2)
  have b3 := gO s (a + 3)
  unfold eA
  repeat' split
  all_goals omega
theorem qP (l : List Nat) : (bstr l).size = l.length := by simp [bstr, ByteArray.size]
theorem isr_iff {n : Int} : IsR n ↔ (0 ≤ n ∧ n ≤ 1114111 ∧ (n < 55296 ∨ 57343 < n)) := Iff.rfl
theorem JJ {w : World} (n : Int) : Calls Tryz.prog 71 #[.int .i64 n] w (Ret fun v w' => v = .bool (decide (IsR n)) ∧ Evo [] w w') := by
  refine bO (N := 17) Tryz.func71 rfl rfl rfl ?_; refine aE (aB (aM (aD (aA (aE (aB (aG (aC rfl (fU rfl rfl) ?_)))))))); refine aG (aX (t := 5) rfl (fun hs5 => ?_) (fun hs5 => ?_))
  ·skip
   refine aR (aG (aR (aC rfl (gI rfl rfl) ?_))); refine bL (aG (aX (t := 9) rfl (fun hs9 => ?_) (fun hs9 => ?_)))
   ·skip
    refine aR (aG (aR (aC rfl (dH rfl rfl) ?_))); refine aR (aG (aX (t := 12) rfl (fun hs12 => ?_) (fun hs12 => ?_)))
    ·skip
     refine aH (aH (aR (bL (bL (aM (aD (aA (aO (aJ rfl rfl ?_)))))))))
     exact ⟨congrArg Value.bool (by first | exact decide_eq_decide.2 (by unfold IsR; omega) | exact (decide_eq_true (by unfold IsR; omega)).symm | exact (decide_eq_false (by unfold IsR; omega)).symm), (Evo.refl [] w)⟩
    refine aR (aG (aR (aC rfl (fV rfl rfl) ?_))); refine aR (aU (bL (aM (aD (aA (aO (aJ rfl rfl ?_)))))))
    exact ⟨congrArg Value.bool (by first | exact decide_eq_decide.2 (by unfold IsR; omega) | exact (decide_eq_true (by unfold IsR; omega)).symm | exact (decide_eq_false (by unfold IsR; omega)).symm), (Evo.refl [] w)⟩
   refine aH (aH (aH (fG ?_))); refine fG ?_; refine aH (aU (aM (aD (aA (aO (aJ rfl rfl ?_))))))
   exact ⟨congrArg Value.bool (by first | exact decide_eq_decide.2 (by unfold IsR; omega) | exact (decide_eq_true (by unfold IsR; omega)).symm | exact (decide_eq_false (by unfold IsR; omega)).symm), (Evo.refl [] w)⟩
  refine aH (aH (aU (aG (aH (aH (aH (fG ?_))))))); refine fG ?_; refine aH (aU (aM (aD (aA (aO (aJ rfl rfl ?_))))))
  exact ⟨congrArg Value.bool (by first | exact decide_eq_decide.2 (by unfold IsR; omega) | exact (decide_eq_true (by unfold IsR; omega)).symm | exact (decide_eq_false (by unfold IsR; omega)).symm), (Evo.refl [] w)⟩
theorem form_ok {w : World} (n : Int) (hn : -9223372036854775808 ≤ n) (hn2 : n ≤ 9223372036854775807) : Calls Tryz.prog 46 #[.int .i64 n] w (Ret fun v w' => v = .string (bstr (dK n)) ∧ Evo [] w w') := by
  refine bO (N := 60) Tryz.func46 rfl rfl rfl ?_; refine aE (aB (aM (aD (aA (aE (aE (aB (aG (aN (vs := [_]) EC rfl (JJ _) rfl ?_))))))))); rintro _ w1 ⟨rfl, hw2⟩; have hE3 := (Evo.refl [] w).then hw2; refine aC rfl (lI rfl) ?_; refine aD (aA (bI rfl (fun hc8 => ?_) (fun hc8 => ?_)))
  ·skip
   refine aE (aB (aM (aD (aA (aO (aP (aJ rfl rfl ?_)))))))
   exact ⟨by rw [show dK n = [] from if_neg (by simpa using hc8)]; rfl, hE3⟩
  have hir : IsR n := by simpa using hc8
  have hir2 := isr_iff.1 hir; obtain ⟨m, rfl⟩ := Int.eq_ofNat_of_zero_le hir2.1; refine aW (aA (aE (aB (aG ?_)))); refine aC rfl (zS (m := m) (n := 64) rfl rfl (by omega) (by omega) (by omega)) ?_; refine aC rfl (bC rfl rfl (by omega) (by omega)) ?_
  refine aC rfl (fP (128 + m % 64) rfl Tryz.underlying3 Tryz.underlying5 (by omega) (by simp [IntKind.max, IntKind.bits, IntKind.signed] <;> omega)) ?_
  refine aM (aD (aA (aE (aB (aG ?_)))))
  refine aC rfl (sB (m := m) (n := 64) rfl rfl (by omega) (by omega) (by omega) (by simp [IntKind.max, IntKind.signed, IntKind.bits]; omega)) ?_
  refine aC rfl (zS (m := m / 64) (n := 64) rfl rfl (by omega) (by omega) (by omega)) ?_; refine aC rfl (bC rfl rfl (by omega) (by omega)) ?_
  refine aC rfl (fP (128 + m / 64 % 64) rfl Tryz.underlying3 Tryz.underlying5 (by omega) (by simp [IntKind.max, IntKind.bits, IntKind.signed] <;> omega)) ?_
  refine aM (aD (aA (aE (aB (aG ?_)))))
  refine aC rfl (sB (m := m) (n := 4096) rfl rfl (by omega) (by omega) (by omega) (by simp [IntKind.max, IntKind.signed, IntKind.bits]; omega)) ?_
  refine aC rfl (zS (m := m / 4096) (n := 64) rfl rfl (by omega) (by omega) (by omega)) ?_; refine aC rfl (bC rfl rfl (by omega) (by omega)) ?_
  refine aC rfl (fP (128 + m / 4096 % 64) rfl Tryz.underlying3 Tryz.underlying5 (by omega) (by simp [IntKind.max, IntKind.bits, IntKind.signed] <;> omega)) ?_
  refine aM (aD (aA (aE (bT (aE (aB (aG (aC rfl (dH rfl rfl) ?_)))))))); refine aM (aD (aA (bI rfl (fun hc23 => ?_) (fun hc23 => ?_))))
  ·skip
   refine aE (aB (aG ?_))
   refine aC rfl (fP (m) rfl Tryz.underlying3 Tryz.underlying5 (by omega) (by simp [IntKind.max, IntKind.bits, IntKind.signed] <;> omega)) ?_
   refine bM (vs := [_]) rfl dY rfl rfl rfl rfl fun b4 w5 hO6 hs7 hw8 => ?_; have hE10 := hE3.then hw8
   have hT28 := rV (ds := [m]) hO6 rfl (by intro b hb; simp only [List.mem_cons, List.not_mem_nil, or_false] at hb; omega)
   refine aC rfl (vB rfl hT28 Tryz.underlying78 Tryz.underlying5 Tryz.underlying9) ?_; refine aM (aD (aA (aO (aY (aP (aJ rfl rfl ?_)))))); refine ⟨?_, hE10⟩
   rw [show dK (m : Int) = gT m from by rw [dK, if_pos hir]; rfl]
   unfold gT
   repeat' split
   all_goals first | rfl | omega
  refine aE (aB (aG (aC rfl (dH rfl rfl) ?_))); refine aM (aD (aA (bI rfl (fun hc30 => ?_) (fun hc30 => ?_))))
  ·skip
   refine aE (aB (aG ?_))
   refine aC rfl (sB (m := m) (n := 64) rfl rfl (by omega) (by omega) (by omega) (by simp [IntKind.max, IntKind.signed, IntKind.bits]; omega)) ?_
   refine aC rfl (bC rfl rfl (by omega) (by omega)) ?_
   refine aC rfl (fP (192 + m / 64) rfl Tryz.underlying3 Tryz.underlying5 (by omega) (by simp [IntKind.max, IntKind.bits, IntKind.signed] <;> omega)) ?_
   refine aG (bM (vs := [_, _]) rfl dY rfl rfl rfl rfl fun b11 w12 hO13 hs14 hw15 => ?_); have hE17 := hE3.then hw15
   have hT38 := rV (ds := [192 + m / 64, 128 + m % 64]) hO13 rfl (by intro b hb; simp only [List.mem_cons, List.not_mem_nil, or_false] at hb; omega)
   refine aC rfl (vB rfl hT38 Tryz.underlying78 Tryz.underlying5 Tryz.underlying9) ?_; refine aM (aD (aA (aO (aY (aP (aJ rfl rfl ?_)))))); refine ⟨?_, hE17⟩
   rw [show dK (m : Int) = gT m from by rw [dK, if_pos hir]; rfl]
   unfold gT
   repeat' split
   all_goals first | rfl | omega
  refine aE (aB (aG (aC rfl (dH rfl rfl) ?_))); refine aM (aD (aA (bI rfl (fun hc40 => ?_) (fun hc40 => ?_))))
  ·skip
   refine aE (aB (aG ?_))
   refine aC rfl (sB (m := m) (n := 4096) rfl rfl (by omega) (by omega) (by omega) (by simp [IntKind.max, IntKind.signed, IntKind.bits]; omega)) ?_
   refine aC rfl (bC rfl rfl (by omega) (by omega)) ?_
   refine aC rfl (fP (224 + m / 4096) rfl Tryz.underlying3 Tryz.underlying5 (by omega) (by simp [IntKind.max, IntKind.bits, IntKind.signed] <;> omega)) ?_
   refine aG (aG (bM (vs := [_, _, _]) rfl dY rfl rfl rfl rfl fun b18 w19 hO20 hs21 hw22 => ?_)); have hE24 := hE3.then hw22
   have hT49 := rV (ds := [224 + m / 4096, 128 + m / 64 % 64, 128 + m % 64]) hO20 rfl (by intro b hb; simp only [List.mem_cons, List.not_mem_nil, or_false] at hb; omega)
   refine aC rfl (vB rfl hT49 Tryz.underlying78 Tryz.underlying5 Tryz.underlying9) ?_; refine aM (aD (aA (aO (aY (aP (aJ rfl rfl ?_)))))); refine ⟨?_, hE24⟩
   rw [show dK (m : Int) = gT m from by rw [dK, if_pos hir]; rfl]
   unfold gT
   repeat' split
   all_goals first | rfl | omega
  refine aW (aZ (aA (aE (aB (aG ?_)))))
  refine aC rfl (sB (m := m) (n := 262144) rfl rfl (by omega) (by omega) (by omega) (by simp [IntKind.max, IntKind.signed, IntKind.bits]; omega)) ?_
  refine aC rfl (bC rfl rfl (by omega) (by omega)) ?_
  refine aC rfl (fP (240 + m / 262144) rfl Tryz.underlying3 Tryz.underlying5 (by omega) (by simp [IntKind.max, IntKind.bits, IntKind.signed] <;> omega)) ?_
  refine aG (aG (aG (bM (vs := [_, _, _, _]) rfl dY rfl rfl rfl rfl fun b25 w26 hO27 hs28 hw29 => ?_))); have hE31 := hE3.then hw29
  have hT58 := rV (ds := [240 + m / 262144, 128 + m / 4096 % 64, 128 + m / 64 % 64, 128 + m % 64]) hO27 rfl (by intro b hb; simp only [List.mem_cons, List.not_mem_nil, or_false] at hb; omega)
  refine aC rfl (vB rfl hT58 Tryz.underlying78 Tryz.underlying5 Tryz.underlying9) ?_; refine aM (aD (aA (aO (aJ rfl rfl ?_)))); refine ⟨?_, hE31⟩
  rw [show dK (m : Int) = gT m from by rw [dK, if_pos hir]; rfl]
  unfold gT
  repeat' split
  all_goals first | rfl | omega
theorem MX {w : World} (s : ByteArray) (a k : Nat) (hk : 1 ≤ k) (hk4 : k ≤ 4) (hs : a + k ≤ s.size) (hl : s.size ≤ 140737488355328) : Calls Tryz.prog 45 #[.string s, .int .i64 (a : Nat), .int .i64 (k : Nat)] w (Ret fun v w' => v = .int .i64 (eA s a k) ∧ Evo [] w w') := by
  have b0 := gO s a; have b1 := gO s (a + 1); have b2 := gO s (a + 2); have b3 := gO s (a + 3); refine bO (N := 43) Tryz.func45 rfl rfl rfl ?_; refine aE (aB (aM (aD (aA (aE (aB (aG (aG ?_)))))))); refine aC rfl (fC (n := a) rfl rfl Tryz.underlying9 rfl (by omega)) ?_
  refine aC rfl (fP (sb s a) rfl Tryz.underlying5 Tryz.underlying3 (by omega) (by simp [IntKind.max, IntKind.bits, IntKind.signed] <;> omega)) ?_
  refine aM (aD (aA (aE (aE (aB (aG (aC rfl (bF rfl rfl) ?_))))))); refine aD (aA (bI rfl (fun hc15 => ?_) (fun hc15 => ?_)))
  ·skip
   refine aE (aB (aG (aM (aD (aA (aO (aP (aJ rfl rfl ?_))))))))
   exact ⟨by unfold eA; rw [if_pos (by omega)], (Evo.refl [] w)⟩
  refine aW (aA (aE (aB (aG ?_)))); refine aC rfl (eY rfl rfl (by omega) (by omega)) ?_; refine aM (aD (aA (aE (wO (α := Int) (fun x => [(8, .int .i64 x)]) [(0, _), (1, _), (2, _), (6, _), (7, _)] (fun x wr => Evo [] w wr ∧ (x = (sb s a : Int) - (if k = 3 then 224 else 192))) ⟨rfl, rfl, rfl, rfl, rfl, trivial⟩ ?_ ?_))))
  ·skip
   refine aE (aB (aG (aC rfl (bF rfl rfl) ?_))); refine aD (aA (bI rfl (fun hc20 => ?_) (fun hc20 => ?_)))
   ·skip
    refine aB (aG ?_); refine aC rfl (eY rfl rfl (by omega) (by omega)) ?_; refine aM (aD (bY ?_)); refine ⟨_, ⟨rfl, trivial⟩, ⟨rfl, rfl, rfl, rfl, rfl, trivial⟩, (Evo.refl [] w), ?_⟩
    split <;> omega
   refine aW (bY ?_); refine ⟨_, ⟨rfl, trivial⟩, ⟨rfl, rfl, rfl, rfl, rfl, trivial⟩, (Evo.refl [] w), ?_⟩
   split <;> omega
  rintro x1 w1 ⟨hV2, hx1⟩; refine aA ?_; show CW _ _ _ _ [(8, _), (0, _), (1, _), (2, _), (6, _), (7, _)] _; have hE3 := (Evo.refl [] w).then hV2; refine aE (wO (α := Int) (fun x => [(8, .int .i64 x)]) [(0, _), (1, _), (2, _), (6, _)] (fun x wr => Evo [] w1 wr ∧ (x = (sb s a : Int) - (if k = 4 then 240 else if k = 3 then 224 else 192))) ⟨rfl, rfl, rfl, rfl, trivial⟩ ?_ ?_)
  ·skip
   refine aE (aB (aG (aC rfl (bF rfl rfl) ?_))); refine aD (aA (bI rfl (fun hc24 => ?_) (fun hc24 => ?_)))
   ·skip
    refine aB (aG ?_); refine aC rfl (eY rfl rfl (by omega) (by omega)) ?_; refine aM (aD (bY ?_)); refine ⟨_, ⟨rfl, trivial⟩, ⟨rfl, rfl, rfl, rfl, trivial⟩, (Evo.refl [] w1), ?_⟩
    repeat' split
    all_goals (try rw [hx1])
    all_goals (try split)
    all_goals omega
   refine aW (bY ?_); refine ⟨_, ⟨rfl, trivial⟩, ⟨rfl, rfl, rfl, rfl, trivial⟩, (Evo.refl [] w1), ?_⟩
   repeat' split
   all_goals (try rw [hx1])
   all_goals (try split)
   all_goals omega
  rintro x2 w4 ⟨hV5, hx2⟩; refine aA ?_; show CW _ _ _ _ [(8, _), (0, _), (1, _), (2, _), (6, _)] _; have hE6 := hE3.then hV5; refine aE (aE (aB (aM (aD (aA (bT ?_))))))
  refine eR (α := Nat × Int) ((1, x2)) (fun x => [(9, .int .i64 (x.1 : Nat)), (8, .int .i64 x.2)]) [(0, _), (1, _), (2, _), (6, _)] (fun x wr => Evo [] w4 wr ∧ (1 ≤ x.1 ∧ x.1 ≤ k ∧ (x.1 = 1 → x.2 = x2) ∧ (x.1 = 2 → x.2 = x2 * 64 + sb s (a + 1) - 128) ∧ (x.1 = 3 → x.2 = (x2 * 64 + sb s (a + 1) - 128) * 64 + sb s (a + 2) - 128) ∧ (x.1 = 4 → x.2 = ((x2 * 64 + sb s (a + 1) - 128) * 64 + sb s (a + 2) - 128) * 64 + sb s (a + 3) - 128))) (fun x => 4 - x.1) ⟨rfl, rfl, trivial⟩ ⟨rfl, rfl, rfl, rfl, trivial⟩ ⟨Evo.refl _ _, ⟨by simp, by simp; omega, by simp, by simp, by simp, by simp⟩⟩ ?_
  rintro ⟨j, g⟩ wr7 ⟨hV8, ⟨h1, h2, g1, g2, g3, g4⟩⟩; show CW _ _ _ _ [(9, .int .i64 (j : Nat)), (8, .int .i64 g), (0, _), (1, _), (2, _), (6, _)] _
  try dsimp only at h1
  try dsimp only at h2
  try dsimp only at g1
  try dsimp only at g2
  try dsimp only at g3
  try dsimp only at g4
  have hE9 := hE6.then hV8; refine aE (aE (aB (aG (aG (aC rfl (dH rfl rfl) ?_))))); refine aD (aA (bI rfl (fun hc29 => ?_) (fun hc29 => ?_)))
  ·skip
   refine aW (aA (aE (bT (aB ?_))))
   have hj' : j < 4 := by omega
   have bj := gO s (a + j)
   have hxb : -240 ≤ x2 ∧ x2 ≤ 255 := by rw [hx2]; (repeat' split) <;> omega
   have hj3 : j = 1 ∨ j = 2 ∨ j = 3 := by omega
   have hgb : -1100000 ≤ g ∧ g ≤ 1100000 := by omega
   refine aG ?_; refine aC rfl (nA rfl rfl (by omega) (by omega)) ?_; refine aG (aG (aG ?_)); refine aC rfl (bC rfl rfl (by omega) (by omega)) ?_; refine aC rfl (fC (n := a + j) rfl rfl Tryz.underlying9 (by omega) (by omega)) ?_
   refine aC rfl (fP (sb s (a + j)) rfl Tryz.underlying5 Tryz.underlying3 (by omega) (by simp [IntKind.max, IntKind.bits, IntKind.signed] <;> omega)) ?_
   refine aC rfl (bC rfl rfl (by omega) (by omega)) ?_; refine aC rfl (eY rfl rfl (by omega) (by omega)) ?_; refine aM (aD (aZ (aA (aB (aG ?_))))); refine aC rfl (bC rfl rfl (by omega) (by omega)) ?_; refine aM (aD (bY ?_)); refine ⟨(j + 1, _), ?_, ⟨rfl, rfl, trivial⟩, ⟨rfl, rfl, rfl, rfl, trivial⟩, hV8, ?_⟩
   · (try dsimp only); omega
   try dsimp only
   refine ⟨by omega, by omega, fun h => by omega, fun h => ?_, fun h => ?_, fun h => ?_⟩
   · obtain rfl : j = 1 := by omega
     have := g1 rfl; omega
   · obtain rfl : j = 2 := by omega
     have := g2 rfl; omega
   · obtain rfl : j = 3 := by omega
     have := g3 rfl; omega
  refine dV (cB (cB (dU (aA ?_)))); refine aE (aB (aG (aM (aD (aA (aO (aJ rfl rfl ?_))))))); refine ⟨?_, hE9⟩
  obtain rfl : j = k := by omega
  congr 1
  unfold eA
  repeat' split at hx2
  all_goals (repeat' split)
  all_goals omega
theorem vL {w : World} (s : ByteArray) (a : Nat) (ha : a ≤ s.size) (hl : s.size ≤ 140737488355328) : Calls Tryz.prog 17 #[.string s, .int .i64 (a : Nat)] w (Ret fun v w' => v = .tuple #[.int .i32 (cH s a).1, .int .i64 ((cH s a).2 : Nat)] ∧ Evo [] w w') := by
  refine bO (N := 52) Tryz.func17 rfl rfl rfl ?_; refine aE (aB (aM (aM (aD (aA (aE (aE (aB (aG (aC rfl (dH rfl rfl) ?_)))))))))); refine aG (aX (t := 11) rfl (fun hs11 => ?_) (fun hs11 => ?_))
  ·skip
   refine aH (aH (aH (aH (bL (aD (aA (dA rfl ?_))))))); refine aE (aB (aM (aM (aD (aA (aO (aP (cW rfl rfl rfl ?_))))))))
   exfalso; omega
  refine aR (aG (aR (aG (aR (aC rfl (cI rfl Tryz.underlying9 rfl) ?_))))); refine aR (aC rfl (fU rfl rfl) ?_); refine aU (aD (aA (bI rfl (fun hc16 => ?_) (fun hc16 => ?_))))
  ·skip
   refine aE (aB (aM (aM (aD (aA (aO (aP (cW rfl rfl rfl ?_))))))))
   exact ⟨by rw [mX (by omega)]; rfl, (Evo.refl [] w)⟩
  refine aW (aA (aE (aE (aB (aM (aD (aA (bT ?_)))))))); refine eR (α := Nat) (1) (fun k => [(6, .int .i64 (k : Nat))]) [(0, _), (1, _)] (fun k wr => Evo [] w wr ∧ (1 ≤ k ∧ k ≤ 5 ∧ ∀ w, 1 ≤ w → w < k → a + w ≤ s.size → ¬ Hit s a w)) (fun k => 5 - k) ⟨rfl, trivial⟩ ⟨rfl, rfl, trivial⟩ ⟨Evo.refl _ _, ⟨by omega, by omega, fun w h1 h2 => by omega⟩⟩ ?_; rintro k wr1 ⟨hV2, ⟨h1, h2, hno⟩⟩; show CW _ _ _ _ [(6, _), (0, _), (1, _)] _; have hE3 := (Evo.refl [] w).then hV2; refine aE (aE (aB (aG (aC rfl (gI rfl rfl) ?_)))); refine aG (aX (t := 19) rfl (fun hs19 => ?_) (fun hs19 => ?_))
  ·skip
   refine aR (aG (aR (aG (aR (aC rfl (cI rfl Tryz.underlying9 rfl) ?_))))); refine aR (aG (aR ?_)); refine aC rfl (eY rfl rfl (by omega) (by omega)) ?_; refine aR (aC rfl (gI rfl rfl) ?_); refine bL (aD (aA (bI rfl (fun hc26 => ?_) (fun hc26 => ?_))))
   ·skip
    refine aW (aA (aE (bT (aE (aB (aG (aG (aG ?_)))))))); refine aN (vs := [_, _, _]) EE rfl (MX s a k (by omega) (by omega) (by omega) hl) rfl ?_; rintro _ w4 ⟨rfl, hw5⟩; have hE6 := hE3.then hw5; have hE7 := hV2.then hw5
    have hgb : -9223372036854775808 ≤ eA s a k ∧ eA s a k ≤ 9223372036854775807 := by have := CP s a k; omega
    refine aM (aD (aA (aE (aB (aG (aN (vs := [_]) ED rfl (form_ok _ hgb.1 hgb.2) rfl ?_)))))); rintro _ w8 ⟨rfl, hw9⟩; have hE10 := hE6.then hw9; have hE11 := hE7.then hw9; refine aM (aD (aA (aE (aB (aG (aC rfl (cI rfl Tryz.underlying9 rfl) ?_)))))); refine aG (aC rfl (bF rfl rfl) ?_); refine aG (aX (t := 39) rfl (fun hs39 => ?_) (fun hs39 => ?_))
    ·skip
     refine aR (aG (aR (aG (aR (aG (aR (aG (aR ?_)))))))); refine aC rfl (bC rfl rfl (by omega) (by omega)) ?_; refine aR ?_; refine aC rfl (vA (l := a) (h := a + k) rfl rfl rfl Tryz.underlying9 rfl (by omega) (by omega) (by omega)) ?_; refine aR (aG (aR (aC rfl (gL rfl rfl) ?_))); refine bL (aD (aA (bI rfl (fun hc48 => ?_) (fun hc48 => ?_))))
     ·skip
      have hit : Hit s a k := (wD (by omega)).2 (by assumption); have hn := kG (by omega) (by omega) (by omega) hit; refine aE (aB (aG ?_))
      refine aC rfl (iM rfl Tryz.underlying3 Tryz.underlying21 (by simp [IntKind.min, IntKind.signed, IntKind.bits]; omega) (by simp [IntKind.max, IntKind.signed, IntKind.bits]; omega)) ?_
      refine aG (aM (aM (aD (aA (aO (aY (aP (aP (aY (aP (cW rfl rfl rfl ?_))))))))))); exact ⟨by rw [hn.1], hE10⟩
     refine aW (aZ (aA (aB (aG ?_)))); refine aC rfl (bC rfl rfl (by omega) (by omega)) ?_; refine aM (aD (bY ?_)); refine ⟨k + 1, ?_, ⟨rfl, trivial⟩, ⟨rfl, rfl, trivial⟩, hE11, ?_⟩
     · omega
     refine ⟨by omega, by omega, fun w h3 h4 h5 => ?_⟩
     by_cases hw : w < k
     · exact hno w h3 hw h5
     · obtain rfl : w = k := by omega
       intro hit
       first | exact hc48 ((wD (by omega)).1 hit) | exact hs39 (by rw [qP, rY hit])
    refine aH (aH (aH (aH (aH (aH (aH (aH (aU (aD (aA (cK rfl ?_))))))))))); refine aW (aZ (aA (aB (aG ?_)))); refine aC rfl (bC rfl rfl (by omega) (by omega)) ?_; refine aM (aD (bY ?_)); refine ⟨k + 1, ?_, ⟨rfl, trivial⟩, ⟨rfl, rfl, trivial⟩, hE11, ?_⟩
    · omega
    refine ⟨by omega, by omega, fun w h3 h4 h5 => ?_⟩
    by_cases hw : w < k
    · exact hno w h3 hw h5
    · obtain rfl : w = k := by omega
      intro hit
      first | exact hc48 ((wD (by omega)).1 hit) | exact hs39 (by rw [qP, rY hit])
   refine dV (cB (cB (dU (aA ?_)))); refine aE (aB (aM (aM (aD (aA (aO (cW rfl rfl rfl ?_)))))))
   exact ⟨by rw [mP fun w h3 h4 h5 => hno w h3 (by omega) h5]; rfl, hE3⟩
  refine aH (aH (aH (aH (aH (aH (aU (aD (aA (cK rfl ?_))))))))); refine dV (cB (cB (dU (aA ?_)))); refine aE (aB (aM (aM (aD (aA (aO (cW rfl rfl rfl ?_)))))))
  exact ⟨by rw [mP fun w h3 h4 h5 => hno w h3 (by omega) h5]; rfl, hE3⟩
theorem BQ {w : World} (r : Int) : Calls Tryz.prog 150 #[.int .i32 r] w (Ret fun v w' => v = .int .i64 (if r < 128 then 1 else if r < 2048 then 2 else if r < 65536 then 3 else 4) ∧ Evo [] w w') := by
  refine bO (N := 12) Tryz.func150 rfl rfl rfl ?_; refine aE (aB (aM (aD (aA (aE (bT (aE (aB (aG (aC rfl (dH rfl rfl) ?_)))))))))); refine aM (aD (aA (bI rfl (fun hc3 => ?_) (fun hc3 => ?_))))
  ·skip
   refine aE (aB (aM (aD (aA (aO (aY (aP (aJ rfl rfl ?_))))))))
   exact ⟨by congr 1; (repeat' split) <;> omega, (Evo.refl [] w)⟩
  refine aE (aB (aG (aC rfl (dH rfl rfl) ?_))); refine aM (aD (aA (bI rfl (fun hc6 => ?_) (fun hc6 => ?_))))
  ·skip
   refine aE (aB (aM (aD (aA (aO (aY (aP (aJ rfl rfl ?_))))))))
   exact ⟨by congr 1; (repeat' split) <;> omega, (Evo.refl [] w)⟩
  refine aE (aB (aG (aC rfl (dH rfl rfl) ?_))); refine aM (aD (aA (bI rfl (fun hc9 => ?_) (fun hc9 => ?_))))
  ·skip
   refine aE (aB (aM (aD (aA (aO (aY (aP (aJ rfl rfl ?_))))))))
   exact ⟨by congr 1; (repeat' split) <;> omega, (Evo.refl [] w)⟩
  refine aW (aZ (aA (aE (aB (aM (aD (aA (aO (aJ rfl rfl ?_)))))))))
  exact ⟨by congr 1; (repeat' split) <;> omega, (Evo.refl [] w)⟩
theorem tY {w : World} (s : ByteArray) (a : Nat) (ha : a ≤ s.size) (hl : s.size ≤ 140737488355328) : Calls Tryz.prog 58 #[.string s, .int .i64 (a : Nat)] w (Ret fun v w' => v = .bool (decide (a + 3 ≤ s.size ∧ s.extract a (a + 3) = bstr [239, 191, 189])) ∧ Evo [] w w') := by
  refine bO (N := 18) Tryz.func58 rfl rfl rfl ?_; refine aE (aB (aM (aD (aA (aE (aB (aG ?_))))))); refine aC rfl (bC rfl rfl (by omega) (by omega)) ?_; refine aG (aC rfl (cI rfl Tryz.underlying9 rfl) ?_); refine aC rfl (gI rfl rfl) ?_; refine aG (aX (t := 10) rfl (fun hs10 => ?_) (fun hs10 => ?_))
  ·skip
   refine aR (aG (aR (aG (aR (aG (aR ?_)))))); refine aC rfl (bC rfl rfl (by omega) (by omega)) ?_; refine aR ?_; refine aC rfl (vA (l := a) (h := a + 3) rfl rfl rfl Tryz.underlying9 rfl (by omega) (by omega) (by omega)) ?_; refine aR (aC rfl (gL rfl rfl) ?_); refine bL (aM (aD (aA (aO (aJ rfl rfl ?_))))); refine ⟨congrArg Value.bool (decide_eq_decide.2 ?_), (Evo.refl [] w)⟩; constructor
   · exact fun h => ⟨by omega, h⟩
   · exact fun h => h.2
  refine aH (aH (aH (aH (aH (aH (aU (aM (aD (aA (aO (aJ rfl rfl ?_))))))))))); exact ⟨congrArg Value.bool (decide_eq_false (by omega)).symm, (Evo.refl [] w)⟩
theorem yB {s : ByteArray} {a : Nat} (ha : a < s.size) (h : (Utf8.decode s a).1 = 65533) (hr : ¬ (a + 3 ≤ s.size ∧ s.extract a (a + 3) = bstr [239, 191, 189])) : cH s a = (-1, 0) := by
  have h1 := DH s a h ha
  have h2 := pV s a h ha
  unfold cH
  rw [if_neg]
  rintro ⟨_, h3⟩
  rcases h1 with h1 | h1
  · exact h3 ⟨h, h1⟩
  · exact hr (h2.1 h1)
theorem vX {s : ByteArray} {a : Nat} (ha : a < s.size) (h : ¬ (Utf8.decode s a).1 = 65533 ∨ (a + 3 ≤ s.size ∧ s.extract a (a + 3) = bstr [239, 191, 189])) :
    (cH s a).1 = ((Utf8.decode s a).1 : Nat) ∧ (((cH s a).2 : Nat) : Int) = if ((Utf8.decode s a).1 : Int) < 128 then 1 else if ((Utf8.decode s a).1 : Int) < 2048 then 2 else if ((Utf8.decode s a).1 : Int) < 65536 then 3 else 4 := by
  have hn : ¬ ((Utf8.decode s a).1 = 65533 ∧ (Utf8.decode s a).2 = 1) := fun ⟨h1, h2⟩ => by
    rcases h with h | h
    · exact h h1
    · rw [(pV s a h1 ha).2 h] at h2; cases h2
  have hw := zY s a ha hn
  unfold cH
  rw [if_pos ⟨ha, hn⟩]
  refine ⟨rfl, ?_⟩
  simp only
  rw [hw]
  repeat' split
  all_goals first | rfl | omega
theorem next_ok {w : World} (s : ByteArray) (a : Nat) (ha : a ≤ s.size) (hl : s.size ≤ 140737488355328) : Calls Tryz.prog 135 #[.string s, .int .i64 (a : Nat)] w (Ret fun v w' => v = .tuple #[.int .i32 (cH s a).1, .int .i64 ((cH s a).2 : Nat)] ∧ Evo [] w w') := by
  refine bO (N := 44) Tryz.func135 rfl rfl rfl ?_; refine aE (aB (aM (aM (aD (aA (aE (aE (aB (aG (aC rfl (dH rfl rfl) ?_)))))))))); refine aG (aX (t := 10) rfl (fun hs10 => ?_) (fun hs10 => ?_))
  ·skip
   refine aH (aH (aH (aH (bL (aD (aA (dA rfl ?_))))))); refine aE (aB (aM (aM (aD (aA (aO (aP (cW rfl rfl rfl ?_))))))))
   exfalso; omega
  refine aR (aG (aR (aG (aR (aC rfl (cI rfl Tryz.underlying9 rfl) ?_))))); refine aR (aC rfl (fU rfl rfl) ?_); refine aU (aD (aA (bI rfl (fun hc15 => ?_) (fun hc15 => ?_))))
  ·skip
   refine aE (aB (aM (aM (aD (aA (aO (aP (cW rfl rfl rfl ?_))))))))
   exact ⟨by rw [mX (by omega)]; rfl, (Evo.refl [] w)⟩
  refine aW (aA (aE (aE (aB ?_))))
  have hlt : a < s.size := by omega
  refine aG (aG (aG (aC rfl (cI rfl Tryz.underlying9 rfl) ?_))); refine aG ?_; refine aC rfl (bC rfl rfl (by omega) (by omega)) ?_; refine aC rfl (zU rfl rfl) ?_
  refine aC rfl (vA (l := a) (h := min s.size (a + 4)) rfl rfl rfl Tryz.underlying9 rfl (by split <;> omega) (by omega) (by omega)) ?_
  refine xS rfl rfl Tryz.underlying9 fun b1 w2 hB3 hs4 hw5 => ?_; have hG6 := Ge.new (Evo.refl [] w) hs4; have hE7 := (Evo.refl [] w).then hw5; refine aD (aA (bT (eR (α := Nat) (0) (fun k => []) [(0, _), (1, _), (24, _)] (fun k wr => Evo [] w2 wr ∧ (True)) (fun k => 0) trivial ⟨rfl, rfl, rfl, trivial⟩ ⟨Evo.refl _ _, trivial⟩ ?_))); rintro k wr8 ⟨hV9, _⟩; show CW _ _ _ _ [(0, _), (1, _), (24, _)] _; have hE10 := hE7.then hV9; have hB11 := hV9.blk0 hB3; refine aE (aB ?_)
  refine BP rfl rfl hB11 (by simp; omega) fun w12 hB13 hw14 => ?_
  have hE15 := hE10.step hw14 hG6.mem1; have hcut := FY s a hlt; refine aC rfl (cR rfl rfl) ?_; refine aD (aA (aE (dA rfl ?_))); refine aW (aA (bT (aE (aB (aC rfl (cR rfl rfl) ?_))))); refine aC rfl (cR rfl rfl) ?_; refine aM (aM (aD (aA (aE (aE (aB (aG (aC rfl (fV rfl rfl) ?_)))))))); refine aG (aX (t := 31) rfl (fun hs31 => ?_) (fun hs31 => ?_))
  ·skip
   refine aH (aH (aH (fG ?_))); refine fG ?_; refine fG ?_; refine fG ?_; refine aH (bL (aD (aA (dA rfl ?_)))); refine dV (cB (zT rfl (cB (dU (aA ?_))))); refine aE (aB (aM (aM (aD (aA (aO (cW rfl rfl rfl ?_)))))))
   exfalso; omega
  refine aR (aG (aR (aC rfl (bF rfl rfl) ?_))); refine aR (aG (aX (t := 34) rfl (fun hs34 => ?_) (fun hs34 => ?_)))
  ·skip
   refine aR (aG (aR (aG (aR ?_)))); refine aN (vs := [_, _]) uH rfl (tY s a (by omega) hl) rfl ?_; rintro _ w17 ⟨rfl, hw18⟩; have hE19 := hE15.then hw18; refine aR (aC rfl (lI rfl) ?_); refine aR (bL (aU (aD (aA (bI rfl (fun hc40 => ?_) (fun hc40 => ?_))))))
   ·skip
    refine dV (cB (zT rfl (cB (dU (aA ?_))))); refine aE (aB (aM (aM (aD (aA (aO (cW rfl rfl rfl ?_))))))); rw [hcut] at hs34
    exact ⟨by rw [yB hlt (by omega) hc40]; rfl, hE19⟩
   refine aW (aA (aE (aB (aG (aG (aN (vs := [_]) sM rfl (BQ _) rfl ?_)))))); rintro _ w21 ⟨rfl, hw22⟩; have hE23 := hE19.then hw22; refine aM (aM (aD (aA (aO (aY (aP (aY (aP (cW rfl rfl rfl ?_))))))))); rw [hcut] at hs34 ⊢; have hg := vX hlt (.inr (Decidable.not_not.1 hc40))
   exact ⟨by rw [hg.1, hg.2]; rfl, hE23⟩
  refine aH (aH (aH (aH (aR (aU (aU (aD (aA (cK rfl ?_))))))))); refine aW (aA (aE (aB (aG (aG (aN (vs := [_]) sM rfl (BQ _) rfl ?_)))))); rintro _ w25 ⟨rfl, hw26⟩; have hE27 := hE15.then hw26; refine aM (aM (aD (aA (aO (aY (aP (aY (aP (cW rfl rfl rfl ?_))))))))); rw [hcut] at hs34 ⊢; have hg := vX hlt (.inl (by omega))
  exact ⟨by rw [hg.1, hg.2]; rfl, hE27⟩
end Go.Proofs.YtljadkcojnlioaaGreatDoor
namespace Go.Proofs.YtljadkcojnlioaaGreatDoor
open Go.Proofs
open Go.W Go.RowKit
attribute [local irreducible] Decidable.decide
theorem AZ : eT Tryz.prog 135 := ⟨_, Tryz.func135, by kernel_rfl, by kernel_rfl⟩
theorem AT : eT Tryz.prog 149 := ⟨_, Tryz.func149, by kernel_rfl, by kernel_rfl⟩
theorem nR : eT Tryz.prog 41 := ⟨_, Tryz.func41, by kernel_rfl, by kernel_rfl⟩
def Bd (s : ByteArray) (i : Nat) : Prop := ∃ N k, Utf s N ∧ k ≤ N ∧ dJ s k = i
theorem Bd.le {s : ByteArray} {i : Nat} (h : Bd s i) : i ≤ s.size := by obtain ⟨N, k, _, _, rfl⟩ := h; exact mE s k
theorem Bd.zero {s : ByteArray} {N : Nat} (h : Utf s N) : Bd s 0 := ⟨N, 0, h, Nat.zero_le _, rfl⟩
theorem Bd.next {s : ByteArray} {i : Nat} (h : Bd s i) (hi : i < s.size) : 0 < (cH s i).2 ∧ i + (cH s i).2 ≤ s.size ∧ Bd s (i + (cH s i).2) ∧ 0 ≤ (cH s i).1 ∧ (cH s i).1 ≤ 1114111 := by
  obtain ⟨N, k, hU, hk, rfl⟩ := h
  have hkN : k < N := by
    rcases Nat.lt_or_ge k N with h | h
    · exact h
    · obtain rfl : k = N := by omega
      rw [hU.1] at hi; omega
  have h0 := hU.2 k hkN
  have h1 : Bd s (dJ s k + (cH s (dJ s k)).2) := ⟨N, k + 1, hU, hkN, rfl⟩
  rcases rH s (dJ s k) with h2 | h2
  · rw [h2] at h0; cases h0
  · exact ⟨h0, h1.le, h1, h2.1, h2.2.1⟩
theorem Bd.asc {s : ByteArray} {i : Nat} (h : Bd s i) (hi : i < s.size) (hb : sb s i < 128) : Bd s (i + 1) ∧ (cH s i).1 = (sb s i : Int) ∧ (cH s i).2 = 1 := by
  obtain ⟨h0, h1, h2, h3, h4⟩ := h.next hi
  obtain ⟨h5, h6, h7, h8⟩ := JH h0
  by_cases hc : (cH s i).1 < 128
  · obtain ⟨h9, h10⟩ := h6 hc
    rw [h9] at h2
    exact ⟨h2, h10.symm, h9⟩
  · have := h7 (by omega); omega
theorem isB.asc {s : ByteArray} {i b : Nat} (h : isB s i b) (hb : b < 128) (hd : Bd s i) : Bd s (i + 1) := (hd.asc h.1 (by rw [h.2]; exact hb)).1
theorem uU {w : World} {b : Nat} {s : ByteArray} {st : PS} {a : Option Addr} {c : Nat} {ob : Option Nat} (hR : RdAt w b s st a c ob) (hs : s.size ≤ 1000000) (hb : Bd s st.pos) :
    Calls Tryz.prog 112 #[.pointer (some ⟨b, 0, none⟩)] w (Ret fun v w' => v = .int .i32 (cH s st.pos).1 ∧ Evo [b] w w' ∧ RdAt w' b s (adv st (cH s st.pos).2) a c ob) := by
  have hap := hR.ap; have hle := hb.le
  have hnx : st.pos + (cH s st.pos).2 ≤ s.size + 4 := by rcases rH s st.pos with h | h; rw [h]; (show st.pos + 0 ≤ s.size + 4; omega); omega
  refine bO (N := 26) Tryz.func112 rfl rfl rfl ?_; refine aE (aB (aM (aD (aA (aE ?_))))); refine jB (fun w0 w' => Evo [] w0 w') (by kernel_rfl) (fun w1 hw2 => ?_); have hE3 := (Evo.refl [b] w).then hw2; have hB4 := hw2.blk0 hR.blk; have hO5 := hR.own.evo0 hw2; refine bG 0 rfl (by kernel_rfl) (by kernel_rfl) (by kernel_rfl) rfl (fun _ hS => bS rfl) (Evo.refl [] w1) ?_; refine bG 1 rfl (by kernel_rfl) (by kernel_rfl) (by kernel_rfl) rfl (fun _ hS => aQ rfl) (Evo.refl [] w1) ?_; refine bG 2 rfl (by kernel_rfl) (by kernel_rfl) (by kernel_rfl) rfl (fun _ hS => aF rfl dI) (Evo.refl [] w1) ?_; refine bG 3 rfl (by kernel_rfl) (by kernel_rfl) (by kernel_rfl) rfl (fun _ hS => aI rfl cO (aK (hS.blk0 hB4) rfl)) (Evo.refl [] w1) ?_; refine bG 4 rfl (by kernel_rfl) (by kernel_rfl) (by kernel_rfl) rfl (fun _ hS => bS rfl) (Evo.refl [] w1) ?_; refine bG 5 rfl (by kernel_rfl) (by kernel_rfl) (by kernel_rfl) rfl (fun _ hS => aQ rfl) (Evo.refl [] w1) ?_; refine bG 6 rfl (by kernel_rfl) (by kernel_rfl) (by kernel_rfl) rfl (fun _ hS => aF rfl bH) (Evo.refl [] w1) ?_; refine bG 7 rfl (by kernel_rfl) (by kernel_rfl) (by kernel_rfl) rfl (fun _ hS => aI rfl bD (aK (hS.blk0 hB4) rfl)) (Evo.refl [] w1) ?_; refine cT [8] (by kernel_rfl) rfl ⟨?_, trivial⟩; refine cZ rfl ?_; refine aN (vs := [_, _]) AZ rfl (next_ok s st.pos hle (by omega)) rfl ?_; rintro _ w6 ⟨rfl, hw7⟩; have hE8 := hE3.then hw7; have hE9 := (Evo.refl [] w1).then hw7; have hB10 := hw7.blk0 hB4; have hO11 := hO5.evo0 hw7; refine aD (cL (.inl hE9) ?_)
  refine bG 9 rfl (by kernel_rfl) (by kernel_rfl) (by kernel_rfl) rfl (fun _ hS => bS rfl) hE9 ?_; refine bG 10 rfl (by kernel_rfl) (by kernel_rfl) (by kernel_rfl) rfl (fun _ hS => cR rfl rfl) hE9 ?_; refine bG 11 rfl (by kernel_rfl) (by kernel_rfl) (by kernel_rfl) rfl (fun _ hS => cR rfl rfl) hE9 ?_; refine bG 12 rfl (by kernel_rfl) (by kernel_rfl) (by kernel_rfl) rfl (fun _ hS => eZ rfl) hE9 ?_; refine bG 13 rfl (by kernel_rfl) (by kernel_rfl) (by kernel_rfl) rfl (fun _ hS => eZ rfl) hE9 ?_; refine fL (by kernel_rfl) (aA ?_); refine aE (aB (aG (aC rfl (aQ rfl) (aC rfl (aF rfl bH) (aC rfl (aI rfl bD (aK hB10 rfl)) (aG ?_)))))); refine aC rfl (bC rfl rfl (by omega) (by omega)) ?_; refine aC rfl (aQ rfl) (aC rfl (aF rfl bH) (bK rfl rfl (rfl) bZ hB10 rfl fun w12 hB13 hw14 => ?_)); have hE15 := hE8.step hw14 (fun y hy => .inl hy); have hO16 := hO11.evo hw14 hap.symm.own1
  try simp only [cU, Nat.reduceAdd] at hB13
  refine aD (aA (aE (aB (aG (aM (aD (aA (aO (aJ rfl rfl ?_))))))))); exact ⟨rfl, hE15, hB13, hO16, hR.ne⟩
theorem hexD_lo {c d : Nat} (h : nW c = some d) : c < 128 ∧ d < 16 := by
  unfold nW at h
  split at h
  · cases h; omega
  · split at h
    · cases h; omega
    · split at h
      · cases h; omega
      · cases h
theorem uX {s : ByteArray} {i d j : Nat} (h : iJ s i = .ok (d, j)) (hb : Bd s i) : Bd s j ∧ j = i + 1 ∧ d < 16 := by
  unfold iJ at h
  split at h
  · rename_i hi
    split at h
    · rename_i d' hd
      cases h
      obtain ⟨h1, h2⟩ := hexD_lo hd
      exact ⟨(hb.asc hi h1).1, rfl, h2⟩
    · cases h
  · cases h
theorem GW {s : ByteArray} : ∀ {f n i m j : Nat}, mV s f n i = .ok (m, j) → Bd s i → n ≤ 1114111 → Bd s j ∧ i < j ∧ m ≤ 1114111
  | 0, n, i, m, j, h, _, _ => by cases h
  | f + 1, n, i, m, j, h, hb, hn => by
    rw [mV] at h
    split at h
    · rename_i hi
      cases h
      exact ⟨hi.asc (by decide) hb, by omega, hn⟩
    · split at h
      · cases h
      · rename_i d k hd
        obtain ⟨h1, h2, h3⟩ := uX hd hb
        split at h
        · cases h
        · obtain ⟨h4, h5, h6⟩ := GW h h1 (by omega)
          exact ⟨h4, by omega, h6⟩
theorem pHex_b {s : ByteArray} {i m j : Nat} (h : pN s i = .ok (m, j)) (hb : Bd s i) : Bd s j ∧ i < j ∧ m ≤ 1114111 := by
  unfold pN at h
  split at h
  · rename_i hi
    split at h
    · cases h
    · rename_i d k hd
      obtain ⟨h1, h2, h3⟩ := uX hd (hi.asc (by decide) hb)
      obtain ⟨h4, h5, h6⟩ := GW h h1 (by omega)
      exact ⟨h4, by omega, h6⟩
  · split at h
    · cases h
    · rename_i d k hd
      obtain ⟨h1, h2, h3⟩ := uX hd hb
      split at h
      · cases h
      · rename_i e q he
        cases h
        obtain ⟨h4, h5, h6⟩ := uX he h1
        exact ⟨h4, by omega, by omega⟩
def DE (c : Nat) : Int := if c = 97 then 0 else if c = 102 then 1 else if c = 116 then 2 else if c = 110 then 3 else if c = 114 then 4 else if c = 118 then 5 else -1
def escT : ByteArray := ByteArray.mk #[7, 12, 9, 10, 13, 11]
theorem NR {c : Nat} (h : 0 ≤ DE c) : ∃ k, DE c = ((k : Nat) : Int) ∧ k < escT.size ∧ tK c = some (sb escT k) ∧ sb escT k < 128 := by
  unfold DE at *
  unfold tK
  by_cases h1 : c = 97
  · subst h1; exact ⟨0, rfl, by decide, rfl, by decide⟩
  · by_cases h2 : c = 102
    · subst h2; exact ⟨1, rfl, by decide, rfl, by decide⟩
    · by_cases h3 : c = 116
      · subst h3; exact ⟨2, rfl, by decide, rfl, by decide⟩
      · by_cases h4 : c = 110
        · subst h4; exact ⟨3, rfl, by decide, rfl, by decide⟩
        · by_cases h5 : c = 114
          · subst h5; exact ⟨4, rfl, by decide, rfl, by decide⟩
          · by_cases h6 : c = 118
            · subst h6; exact ⟨5, rfl, by decide, rfl, by decide⟩
            · rw [if_neg h1, if_neg h2, if_neg h3, if_neg h4, if_neg h5, if_neg h6] at h; omega
theorem escI_no {c : Nat} (h : ¬ 0 ≤ DE c) : tK c = none := by
  unfold DE at h
  unfold tK
  by_cases h1 : c = 97
  · subst h1; exact (h (by decide)).elim
  · by_cases h2 : c = 102
    · subst h2; exact (h (by decide)).elim
    · by_cases h3 : c = 116
      · subst h3; exact (h (by decide)).elim
      · by_cases h4 : c = 110
        · subst h4; exact (h (by decide)).elim
        · by_cases h5 : c = 114
          · subst h5; exact (h (by decide)).elim
          · by_cases h6 : c = 118
            · subst h6; exact (h (by decide)).elim
            · rw [if_neg h1, if_neg h2, if_neg h3, if_neg h4, if_neg h5, if_neg h6]
theorem escIdx (c : Nat) (hc : c < 256) : Go.Lib.indexByte [97, 102, 116, 110, 114, 118] ((c : Int)).toNat.toUInt8 = DE c := by
  have h : ∀ c : Fin 256, Go.Lib.indexByte [97, 102, 116, 110, 114, 118] ((c.1 : Int)).toNat.toUInt8 = DE c.1 := by decide +kernel
  exact h ⟨c, hc⟩
theorem JK {w : World} (c : Nat) (hc : c < 256) : Calls Tryz.prog 41 #[.string (ByteArray.mk #[97, 102, 116, 110, 114, 118]), .int .u8 (c : Nat)] w (Ret fun v w' => v = iv (DE c) ∧ Evo [] w w') := by
  refine (jM _ _ w).mono ?_
  rintro e w' ⟨rfl, rfl⟩
  exact ⟨_, rfl, congrArg iv (escIdx c hc), Evo.refl _ _⟩
theorem CC {s : ByteArray} {i : Nat} (h : s.size ≤ i + 1) : nD s i = .error 83 := by unfold nD; rw [if_pos h]
theorem pEsc_c {s : ByteArray} {i v : Nat} (h : ¬ s.size ≤ i + 1) (h2 : tK (sb s (i + 1)) = some v) : nD s i = .ok (v, i + 2) := by unfold nD; rw [if_neg h, h2]
theorem LT {s : ByteArray} {i : Nat} (h : ¬ s.size ≤ i + 1) (h2 : sb s (i + 1) = 120) : nD s i = pN s (i + 2) := by
  unfold nD; rw [if_neg h, h2, show tK 120 = none from rfl]; rfl
theorem CD {s : ByteArray} {i : Nat} (h : ¬ s.size ≤ i + 1) (h2 : tK (sb s (i + 1)) = none) (h3 : sb s (i + 1) ≠ 120) (h4 : 128 ≤ sb s (i + 1) ∨ (iT (sb s (i + 1)) ∧ sb s (i + 1) ≠ 95)) : nD s i = .error 83 := by
  unfold nD; rw [if_neg h, h2]; show (if sb s (i + 1) = 120 then _ else _) = _; rw [if_neg h3, if_pos h4]
theorem GY {s : ByteArray} {i : Nat} (h : ¬ s.size ≤ i + 1) (h2 : tK (sb s (i + 1)) = none) (h3 : sb s (i + 1) ≠ 120) (h4 : ¬ (128 ≤ sb s (i + 1) ∨ (iT (sb s (i + 1)) ∧ sb s (i + 1) ≠ 95))) : nD s i = .ok (sb s (i + 1), i + 2) := by
  unfold nD; rw [if_neg h, h2]; show (if sb s (i + 1) = 120 then _ else _) = _; rw [if_neg h3, if_neg h4]
theorem escC_lo {c v : Nat} (h : tK c = some v) : c < 128 := by
  unfold tK at h
  by_cases h1 : c < 128
  · exact h1
  · rw [if_neg (by omega), if_neg (by omega), if_neg (by omega), if_neg (by omega), if_neg (by omega), if_neg (by omega)] at h; cases h
theorem LU {s : ByteArray} {i n j : Nat} (h : nD s i = .ok (n, j)) (hb : Bd s i) (h0 : sb s i = 92) : Bd s j ∧ i < j ∧ n ≤ 1114111 := by
  have hi : i < s.size := by
    rcases Nat.lt_or_ge i s.size with h1 | h1
    · exact h1
    · rw [CC (by omega)] at h; cases h
  have hb1 := (hb.asc hi (by omega)).1
  unfold nD at h
  split at h
  · cases h
  · rename_i h1
    split at h
    · rename_i v hv
      cases h
      have hv2 : n < 128 := by
        unfold tK at hv
        split at hv
        · cases hv; omega
        · split at hv
          · cases hv; omega
          · split at hv
            · cases hv; omega
            · split at hv
              · cases hv; omega
              · split at hv
                · cases hv; omega
                · split at hv
                  · cases hv; omega
                  · cases hv
      exact ⟨(hb1.asc (by omega) (escC_lo hv)).1, by omega, by omega⟩
    · split at h
      · rename_i hx
        obtain ⟨h2, h3, h4⟩ := pHex_b h ((hb1.asc (by omega) (by omega)).1)
        exact ⟨h2, by omega, h4⟩
      · split at h
        · cases h
        · rename_i h5
          cases h
          exact ⟨(hb1.asc (by omega) (by omega)).1, by omega, by omega⟩
theorem wM {w : World} {b : Nat} {s : ByteArray} {st : PS} {a : Option Addr} {c : Nat} {ob : Option Nat} (hR : RdAt w b s st a c ob) (hs : s.size ≤ 1000000) (hlt : st.pos < s.size) :
    Calls Tryz.prog 134 #[.pointer (some ⟨b, 0, none⟩)] w (RetP (fun v w' => ∃ n j, nD s st.pos = .ok (n, j) ∧ v = .int .i32 (n : Nat) ∧ Evo [b] w w' ∧ RdAt w' b s (gU st j) a c ob) (fun v w' => nD s st.pos = .error 83 ∧ v = flt 83 ∧ Evo [b] w w')) := by
  have hap := hR.ap; have hb9 := gO s (st.pos + 1); refine bO (N := 63) Tryz.func134 rfl rfl rfl ?_; refine aE (aB (aM (aD (aA (aE (aB (aG (aC rfl (aQ rfl) (aC rfl (aF rfl bH) (aC rfl (aI rfl bD (aK hR.blk rfl)) ?_)))))))))); refine aC rfl (bC rfl rfl (by omega) (by omega)) ?_; refine aC rfl (aQ rfl) (aC rfl (aF rfl bH) (bK rfl rfl (rfl) bZ hR.blk rfl fun w1 hB2 hw3 => ?_)); have hE4 := (Evo.refl [b] w).step hw3 (fun y hy => .inl hy); have hO5 := hR.own.evo hw3 hap.symm.own1
  try simp only [cU, Nat.reduceAdd] at hB2
  refine aD (aA (aE (aE ?_))); refine fH (by kernel_rfl) (by kernel_rfl) ?_; refine aV rfl (fun _ hq7 => bS rfl) ?_; refine aV rfl (fun _ hq7 => aQ rfl) ?_; refine aV rfl (fun _ hq7 => aF rfl bH) ?_; refine aV rfl (fun _ hq7 => aI rfl bD (aK (hq7.blk0 hB2) rfl)) ?_; refine aV rfl (fun _ hq7 => bS rfl) ?_; refine aV rfl (fun _ hq7 => aQ rfl) ?_; refine aV rfl (fun _ hq7 => aF rfl dI) ?_; refine aV rfl (fun _ hq7 => aI rfl cO (aK (hq7.blk0 hB2) rfl)) ?_; refine aV rfl (fun _ hq7 => cI rfl Tryz.underlying9 rfl) ?_; refine aV rfl (fun _ hq7 => bF rfl rfl) ?_; refine fN (fun wq6 hq7 => aA ?_); have hE8 := hE4.then hq7; have hB9 := hq7.blk0 hB2; have hO10 := hO5.evo0 hq7; refine bI rfl (fun hc21 => ?_) (fun hc21 => ?_)
  ·skip
   refine aB (bX (vs := [_]) cV rfl (eM 83) rfl ?_ ?_)
   ·skip
    intro pv wp hpp; obtain ⟨rfl, hpw⟩ := hpp; exact And.intro rfl ⟨_, rfl, CC (by omega), rfl, (hE8).then hpw⟩
   intro _ _ hF; exact hF.elim
  have hlt2 : st.pos + 1 < s.size := by omega
  have hle2 : ¬ s.size ≤ st.pos + 1 := by omega
  refine aW (aA (aE ?_)); refine fH (by kernel_rfl) (by kernel_rfl) ?_; refine aV rfl (fun _ hq14 => bS rfl) ?_; refine aV rfl (fun _ hq14 => aQ rfl) ?_; refine aV rfl (fun _ hq14 => aF rfl dI) ?_; refine aV rfl (fun _ hq14 => aI rfl cO (aK (hq14.blk0 hB9) rfl)) ?_; refine aV rfl (fun _ hq14 => bS rfl) ?_; refine aV rfl (fun _ hq14 => aQ rfl) ?_; refine aV rfl (fun _ hq14 => aF rfl bH) ?_; refine aV rfl (fun _ hq14 => aI rfl bD (aK (hq14.blk0 hB9) rfl)) ?_; refine aV rfl (fun _ hq14 => fC (n := st.pos + 1) rfl rfl Tryz.underlying9 rfl hlt2) ?_; refine aV rfl (fun _ hq14 => eZ rfl) ?_; refine fN (fun wq13 hq14 => aA ?_); have hE15 := hE8.then hq14; have hB16 := hq14.blk0 hB9; have hO17 := hO10.evo0 hq14; refine aE (aB (aG (aC rfl (aQ rfl) (aC rfl (aF rfl bH) (aC rfl (aI rfl bD (aK hB16 rfl)) ?_))))); refine aC rfl (bC rfl rfl (by omega) (by omega)) ?_; refine aC rfl (aQ rfl) (aC rfl (aF rfl bH) (bK rfl rfl (rfl) bZ hB16 rfl fun w18 hB19 hw20 => ?_)); have hE21 := hE15.step hw20 (fun y hy => .inl hy); have hO22 := hO17.evo hw20 hap.symm.own1
  try simp only [cU, Nat.reduceAdd] at hB19
  refine aD (aA (aE (aE (aB (aG (aN (vs := [_, _]) nR rfl (JK (sb s (st.pos + 1)) hb9) rfl ?_)))))); rintro _ w23 ⟨rfl, hw24⟩; have hE25 := hE21.then hw24; have hB26 := hw24.blk0 hB19; have hO27 := hO22.evo0 hw24; refine aM (aD (aA (aE (aB (aG (aC rfl (fU rfl rfl) ?_)))))); refine aD (aA (bI rfl (fun hc42 => ?_) (fun hc42 => ?_)))
  ·skip
   obtain ⟨k, hk1, hk2, hk3, hk4⟩ := NR hc42; refine aE (aB (aG (aC rfl (fC (s := escT) (n := k) rfl rfl Tryz.underlying9 hk1 hk2) ?_))); refine aC rfl (iM rfl Tryz.underlying5 Tryz.underlying21 (xG (by omega) (by omega)).1 (xG (by omega) (by omega)).2) ?_; refine aM (aD (aA (aO (aP (bW (aJ rfl rfl ?_)))))); exact ⟨_, _, pEsc_c hle2 hk3, rfl, hE25, ⟨hB26, hO27, hR.ne⟩⟩
  have hno := escI_no hc42; refine aW (aA (aE (aE (aB (aG (aC rfl (bF rfl rfl) ?_)))))); refine aD (aA (bI rfl (fun hc47 => ?_) (fun hc47 => ?_)))
  ·skip
   refine aE (aB (aG (bX (vs := [_]) AT rfl (hex_ok (st := gU st (st.pos + 1 + 1)) ⟨hB26, hO27, hR.ne⟩ hs) rfl ?_ ?_)))
   ·skip
    intro pv wp hpp; obtain ⟨hpe, rfl, hpw⟩ := hpp; exact And.intro rfl ⟨_, rfl, (LT hle2 (by omega)).trans hpe, rfl, (hE25).step hpw (fun y hy => .inl hy)⟩
   rintro _ w28 ⟨n, j, hx, rfl, hw29, hR2⟩; have hE30 := hE25.step hw29 (fun y hy => .inl hy); refine aM (aD (aA (aO (aP (bW (aJ rfl rfl ?_)))))); exact ⟨_, _, (LT hle2 (by omega)).trans hx, rfl, hE30, hR2⟩
  have hnx : sb s (st.pos + 1) ≠ 120 := by omega
  refine aW (aA (aE (aE (aB (aG (aC rfl (fU rfl rfl) ?_)))))); refine aG (aX (t := 52) rfl (fun hs52 => ?_) (fun hs52 => ?_))
  ·skip
   refine aH (aH (aH (fG ?_))); refine fG ?_; refine aH (bL (aD (aA (dA rfl ?_)))); refine aB (bX (vs := [_]) cV rfl (eM 83) rfl ?_ ?_)
   ·skip
    intro pv wp hpp; obtain ⟨rfl, hpw⟩ := hpp; exact And.intro rfl ⟨_, rfl, CD hle2 hno hnx (by omega), rfl, (hE25).then hpw⟩
   intro _ _ hF; exact hF.elim
  refine aR (aG (aR (aN (vs := [_]) mK rfl (uS (sb s (st.pos + 1))) rfl ?_))); rintro _ w33 ⟨rfl, hw34⟩; have hE35 := hE25.then hw34; have hB36 := hw34.blk0 hB26; have hO37 := hO27.evo0 hw34; refine aR (aG (aX (t := 55) rfl (fun hs55 => ?_) (fun hs55 => ?_)))
  ·skip
   refine aR (aG (aR (aC rfl (gA rfl rfl) ?_))); refine aR (bL (aU (aD (aA (bI rfl (fun hc59 => ?_) (fun hc59 => ?_))))))
   ·skip
    refine aB (bX (vs := [_]) cV rfl (eM 83) rfl ?_ ?_)
    ·skip
     intro pv wp hpp; obtain ⟨rfl, hpw⟩ := hpp
     exact And.intro rfl ⟨_, rfl, CD hle2 hno hnx (by right; exact ⟨hs55, by omega⟩), rfl, (hE35).then hpw⟩
    intro _ _ hF; exact hF.elim
   refine aW (aA (aE (aB (aG ?_)))); refine aC rfl (iM rfl Tryz.underlying5 Tryz.underlying21 (xG (by omega) (by omega)).1 (xG (by omega) (by omega)).2) ?_; refine aM (aD (aA (aO (bW (aJ rfl rfl ?_)))))
   exact ⟨_, _, GY hle2 hno hnx (by rintro (h1 | ⟨h1, h2⟩); omega; first | exact hs55 h1 | (exact hc59 (by omega))), rfl, hE35, ⟨hB36, hO37, hR.ne⟩⟩
  refine aH (aH (aR (aU (aU (aD (aA (cK rfl ?_))))))); refine aW (aA (aE (aB (aG ?_)))); refine aC rfl (iM rfl Tryz.underlying5 Tryz.underlying21 (xG (by omega) (by omega)).1 (xG (by omega) (by omega)).2) ?_; refine aM (aD (aA (aO (bW (aJ rfl rfl ?_)))))
  exact ⟨_, _, GY hle2 hno hnx (by rintro (h1 | ⟨h1, h2⟩); omega; first | exact hs55 h1 | (exact hc59 (by omega))), rfl, hE35, ⟨hB36, hO37, hR.ne⟩⟩
end Go.Proofs.YtljadkcojnlioaaGreatDoor
namespace Go.Proofs.YtljadkcojnlioaaGreatDoor
open Go.Proofs Go.W Go.RowKit
theorem fS {s : ByteArray} {a b : Nat} (h : b ≤ s.size) : (s.extract a b).size = b - a := by rw [ByteArray.size_extract]; omega
theorem DJ (s : ByteArray) (j : Nat) : (s.extract j s.size).data.toList = s.data.toList.drop j := by
  rw [ByteArray.data_extract]
  have : s.size = s.data.size := rfl
  rw [this]
  simp only [Array.toList_extract, List.extract]
  exact List.take_of_length_le (by simp)
theorem GO (s : ByteArray) {n : Nat} (h : n < s.size) : s.data.toList[n]? = some (UInt8.ofNat (sb s n)) := by
  have h' : n < s.data.size := h
  rw [Array.getElem?_toList, Array.getElem?_eq_getElem h', pK s n h]
  show some s.data[n] = some (UInt8.ofNat (s.data[n]).toNat)
  rw [UInt8.ofNat_toNat]
def Occ (s : ByteArray) (a b k : Nat) : Prop := k + 1 < s.size ∧ sb s k = a ∧ sb s (k + 1) = b
instance (s : ByteArray) (a b k : Nat) : Decidable (Occ s a b k) := by unfold Occ; infer_instance
theorem KI {a b : Nat} (ha : a < 256) (hb : b < 256) (h : UInt8.ofNat a = UInt8.ofNat b) : a = b := by
  have := congrArg UInt8.toNat h
  rw [UInt8.toNat_ofNat', UInt8.toNat_ofNat'] at this
  omega
theorem FK {s : ByteArray} {a b j i : Nat} (ha : a < 256) (hb : b < 256) (hj : j ≤ s.size) : Go.Lib.occAt (s.extract j s.size).data.toList [UInt8.ofNat a, UInt8.ofNat b] i = decide (Occ s a b (j + i)) := by
  unfold Go.Lib.occAt
  rw [DJ, List.drop_drop]
  have hlen : s.data.toList.length = s.size := by simp
  by_cases h : j + i + 1 < s.size
  · have e : s.data.toList.drop (j + i) = UInt8.ofNat (sb s (j + i)) :: UInt8.ofNat (sb s (j + i + 1)) :: s.data.toList.drop (j + i + 2) := by
      have h0 := GO s (n := j + i) (by omega)
      have h1 := GO s (n := j + i + 1) h
      obtain ⟨h2, h3⟩ := List.getElem?_eq_some_iff.1 h0
      obtain ⟨h4, h5⟩ := List.getElem?_eq_some_iff.1 h1
      rw [List.drop_eq_getElem_cons h2, List.drop_eq_getElem_cons h4, h3, h5]
    rw [e]
    have l1 := gO s (j + i)
    have l2 := gO s (j + i + 1)
    simp only [List.isPrefixOf, Bool.and_true]
    rw [Bool.eq_iff_iff]
    simp only [Bool.and_eq_true, beq_iff_eq, decide_eq_true_eq]
    unfold Occ
    constructor
    · rintro ⟨h6, h7⟩; exact ⟨h, (KI ha l1 h6).symm, (KI hb l2 h7).symm⟩
    · rintro ⟨-, h6, h7⟩; rw [h6, h7]; exact ⟨rfl, rfl⟩
  · rw [decide_eq_false (fun h2 => h h2.1)]
    have hl : (s.data.toList.drop (j + i)).length < 2 := by rw [List.length_drop, hlen]; omega
    match s.data.toList.drop (j + i), hl with
    | [], _ => rfl
    | [x], _ => simp [List.isPrefixOf]
theorem qN (s : ByteArray) (a b : Nat) : ∀ (f j : Nat), s.size ≤ j + f → (∀ k, kF s a b f j = some k → j ≤ k ∧ Occ s a b k ∧ ∀ m, j ≤ m → m < k → ¬ Occ s a b m) ∧ (kF s a b f j = none → ∀ m, j ≤ m → ¬ Occ s a b m)
  | 0, j, hf => ⟨(fun k h => by cases h), fun _ m hm ho => by have := ho.1; omega⟩
  | f + 1, j, hf => by
    obtain ⟨i1, i2⟩ := qN s a b f (j + 1) (by omega)
    rw [kF]
    by_cases h : j + 1 < s.size ∧ sb s j = a ∧ sb s (j + 1) = b
    · rw [if_pos h]
      exact ⟨fun k hk => by cases hk; exact ⟨Nat.le_refl _, h, fun m h1 h2 => by omega⟩, fun h2 => by cases h2⟩
    · rw [if_neg h]
      refine ⟨fun k hk => ?_, fun hk m hm ho => ?_⟩
      · obtain ⟨h1, h2, h3⟩ := i1 k hk
        exact ⟨by omega, h2, fun m h4 h5 ho => by
          rcases Nat.eq_or_lt_of_le h4 with e | e
          · subst e; exact h ho
          · exact h3 m e h5 ho⟩
      · rcases Nat.eq_or_lt_of_le hm with e | e
        · subst e; exact h ho
        · exact i2 hk m e ho
def CV (s : ByteArray) (a b j : Nat) : Int := match kF s a b s.size j with | none => -1 | some k => (k : Int) - j
theorem idx_two {s : ByteArray} {a b j : Nat} (ha : a < 256) (hb : b < 256) (hj : j ≤ s.size) : Go.Lib.index (s.extract j s.size).data.toList [UInt8.ofNat a, UInt8.ofNat b] = CV s a b j := by
  obtain ⟨h1, h2⟩ := qN s a b s.size j (by omega)
  have hlen : (s.extract j s.size).data.toList.length = s.size - j := by rw [DJ, List.length_drop]; simp
  unfold CV
  cases h : kF s a b s.size j with
  | none =>
    refine Go.Lib.index_none fun i _ => ?_
    rw [FK ha hb hj]
    exact decide_eq_false (h2 h _ (by omega))
  | some k =>
    obtain ⟨h3, h4, h5⟩ := h1 k h
    have e : (k : Int) - j = ((k - j : Nat) : Int) := by omega
    show _ = (k : Int) - j
    rw [e]
    refine Go.Lib.index_first (by rw [hlen]; have := h4.1; omega) ?_ fun i hi => ?_
    · rw [FK ha hb hj, show j + (k - j) = k by omega]; exact decide_eq_true h4
    · rw [FK ha hb hj]; exact decide_eq_false (h5 _ (by omega) (by omega))
theorem wW {s t : ByteArray} (h : s.size = t.size) (h2 : ∀ k, k < s.size → sb s k = sb t k) : s = t := by
  apply ByteArray.ext
  apply Array.ext h
  intro i h3 h4
  have h5 := h2 i h3
  rw [pK s i h3, pK t i h4] at h5
  have : (s.data[i]).toNat = (t.data[i]).toNat := h5
  exact UInt8.toNat_inj.1 this
theorem uW {t p : ByteArray} {i : Nat} (hi : i ≤ t.size) : (p.size ≤ (t.extract i t.size).size ∧ (t.extract i t.size).extract 0 p.size = p) ↔ ∀ k, k < p.size → isB t (i + k) (sb p k) := by
  have hs := fS (s := t) (a := i) (Nat.le_refl t.size)
  constructor
  · rintro ⟨h1, h2⟩ k hk
    refine ⟨by omega, ?_⟩
    have e : sb ((t.extract i t.size).extract 0 p.size) k = sb p k := by rw [h2]
    rw [eX h1 (by omega), Nat.zero_add, eX (Nat.le_refl _) (by omega)] at e
    exact e
  · intro h
    have h1 : p.size ≤ (t.extract i t.size).size := by
      rcases Nat.eq_zero_or_pos p.size with h0 | h0
      · omega
      · have := (h (p.size - 1) (by omega)).1; omega
    refine ⟨h1, wW (by rw [fS h1]; omega) fun k hk => ?_⟩
    rw [fS h1] at hk
    rw [eX h1 (by omega), Nat.zero_add, eX (Nat.le_refl _) (by omega)]
    exact (h k (by omega)).2
end Go.Proofs.YtljadkcojnlioaaGreatDoor
namespace Go.Proofs.YtljadkcojnlioaaGreatDoor
open Go.Proofs
open Go.W Go.RowKit
attribute [local irreducible] Decidable.decide
theorem mM : eT Tryz.prog 112 := ⟨_, Tryz.func112, by kernel_rfl, by kernel_rfl⟩
theorem sP : eT Tryz.prog 134 := ⟨_, Tryz.func134, by kernel_rfl, by kernel_rfl⟩
theorem sL : eT Tryz.prog 158 := ⟨_, Tryz.func158, by kernel_rfl, by kernel_rfl⟩
theorem AQ : eT Tryz.prog 160 := ⟨_, Tryz.func160, by kernel_rfl, by kernel_rfl⟩
theorem NI {s : ByteArray} {i k : Nat} (h : i ≤ s.size) : (s.extract i s.size).extract k (s.extract i s.size).size = s.extract (i + k) s.size := by
  have hs := fS (s := s) (a := i) (Nat.le_refl s.size)
  rcases Nat.lt_or_ge s.size (i + k) with hk | hk
  · apply wW
    · rw [fS (Nat.le_refl _), fS (Nat.le_refl _), fS (Nat.le_refl _)]; omega
    · intro j hj; rw [fS (Nat.le_refl _), hs] at hj; omega
  · apply wW
    · rw [fS (Nat.le_refl _), fS (Nat.le_refl _), fS (Nat.le_refl _)]; omega
    · intro j hj
      rw [fS (Nat.le_refl _), hs] at hj
      rw [eX (Nat.le_refl _) (by rw [hs]; omega), eX (Nat.le_refl _) (by omega), eX (Nat.le_refl _) (by omega), Nat.add_assoc]
theorem wJ {s : ByteArray} {i k m : Nat} (h : i + m ≤ s.size) (hk : k ≤ m) : (s.extract i s.size).extract k m = s.extract (i + k) (i + m) := by
  have hs := fS (s := s) (a := i) (Nat.le_refl s.size)
  apply wW
  · rw [fS (by rw [hs]; omega), fS h]; omega
  · intro j hj
    rw [fS (by rw [hs]; omega)] at hj
    rw [eX (by rw [hs]; omega) (by omega), eX (Nat.le_refl _) (by omega), eX h (by omega), Nat.add_assoc]
theorem gR {s : ByteArray} {i k : Nat} (h : i + k < s.size) : sb (s.extract i s.size) k = sb s (i + k) := eX (Nat.le_refl _) h
def Pre (t p : ByteArray) : Prop := p.size ≤ t.size ∧ t.extract 0 p.size = p
instance (t p : ByteArray) : Decidable (Pre t p) := by unfold Pre; infer_instance
theorem pre1 {t : ByteArray} {x : UInt8} {i : Nat} (hi : i ≤ t.size) : Pre (t.extract i t.size) (ByteArray.mk #[x]) ↔ isB t i x.toNat := by
  unfold Pre
  rw [uW hi]
  constructor
  · intro h; exact h 0 (by show 0 < 1; omega)
  · intro h k hk
    have hk' : k < 1 := hk
    obtain rfl : k = 0 := by omega
    exact h
theorem lY {t : ByteArray} {x y : UInt8} {i : Nat} (hi : i ≤ t.size) : Pre (t.extract i t.size) (ByteArray.mk #[x, y]) ↔ isB t i x.toNat ∧ isB t (i + 1) y.toNat := by
  unfold Pre
  rw [uW hi]
  constructor
  · intro h; exact ⟨h 0 (by show 0 < 2; omega), h 1 (by show 1 < 2; omega)⟩
  · rintro ⟨h0, h1⟩ k hk
    have hk' : k < 2 := hk
    match k, hk' with
    | 0, _ => exact h0
    | 1, _ => exact h1
theorem pre3 {t : ByteArray} {x y z : UInt8} {i : Nat} (hi : i ≤ t.size) : Pre (t.extract i t.size) (ByteArray.mk #[x, y, z]) ↔ isB t i x.toNat ∧ isB t (i + 1) y.toNat ∧ isB t (i + 2) z.toNat := by
  unfold Pre
  rw [uW hi]
  constructor
  · intro h; exact ⟨h 0 (by show 0 < 3; omega), h 1 (by show 1 < 3; omega), h 2 (by show 2 < 3; omega)⟩
  · rintro ⟨h0, h1, h2⟩ k hk
    have hk' : k < 3 := hk
    match k, hk' with
    | 0, _ => exact h0
    | 1, _ => exact h1
    | 2, _ => exact h2
theorem pre4 {t : ByteArray} {x y z u : UInt8} {i : Nat} (hi : i ≤ t.size) : Pre (t.extract i t.size) (ByteArray.mk #[x, y, z, u]) ↔ isB t i x.toNat ∧ isB t (i + 1) y.toNat ∧ isB t (i + 2) z.toNat ∧ isB t (i + 3) u.toNat := by
  unfold Pre
  rw [uW hi]
  constructor
  · intro h; exact ⟨h 0 (by show 0 < 4; omega), h 1 (by show 1 < 4; omega), h 2 (by show 2 < 4; omega), h 3 (by show 3 < 4; omega)⟩
  · rintro ⟨h0, h1, h2, h3⟩ k hk
    have hk' : k < 4 := hk
    match k, hk' with
    | 0, _ => exact h0
    | 1, _ => exact h1
    | 2, _ => exact h2
    | 3, _ => exact h3
theorem LF {t : ByteArray} {x : UInt8} : Pre t (ByteArray.mk #[x]) ↔ isB t 0 x.toNat := by
  have h := pre1 (t := t) (x := x) (i := 0) (Nat.zero_le _)
  rwa [ByteArray.extract_zero_size] at h
def nE : Nat := 0
def Glb (w : World) : Prop := ∃ m : Int, w.cell? ⟨nE, 0, none⟩ = some (.int .i64 m)
theorem Glb.evo {X : List Nat} {w w' : World} (h : Glb w) (he : Evo X w w') (hx : nE ∉ X) : Glb w' := by obtain ⟨m, h⟩ := h; exact ⟨m, he.cell h hx⟩
theorem RdAt.glb {w : World} {b : Nat} {s : ByteArray} {st : PS} {a : Option Addr} {c : Nat} {ob : Option Nat} (h : RdAt w b s st a c ob) (hg : Glb w) : b ≠ nE := fun e => by
  obtain ⟨m, hm⟩ := hg
  subst e
  have := iA (o := 0) h.blk (v := .string s) rfl
  rw [this] at hm; cases hm
theorem HI {w : World} (s : ByteArray) (x y : UInt8) (j : Nat) (hj : j ≤ s.size) (hs : s.size ≤ 1000000) (hg : Glb w) : Calls Tryz.prog 144 #[.string (s.extract j s.size), .string (ByteArray.mk #[x, y])] w (Ret fun v w' => v = iv (CV s x.toNat y.toNat j) ∧ Evo [] w w') := by
  obtain ⟨m, hm⟩ := hg
  refine (rN _ _ m w (by rw [fS (Nat.le_refl _)]; omega) hm).mono ?_
  rintro e w' ⟨rfl, rfl⟩
  have h := idx_two (s := s) (a := x.toNat) (b := y.toNat) (j := j) x.toNat_lt y.toNat_lt hj
  rw [UInt8.ofNat_toNat, UInt8.ofNat_toNat] at h
  exact ⟨_, rfl, congrArg iv h, Evo.refl _ _⟩
theorem CO {w : World} (s p : ByteArray) (hs : s.size ≤ 140737488355328) (hp : p.size ≤ 140737488355328) : Calls Tryz.prog 158 #[.string s, .string p] w (Ret fun v w' => v = .bool (decide (Pre s p)) ∧ Evo [] w w') := by
  refine bO (N := 18) Tryz.func158 rfl rfl rfl ?_; refine aE (aB (aM (aD (aA (aE (aB (aG (aC rfl (cI rfl Tryz.underlying9 rfl) ?_)))))))); refine aG (aC rfl (cI rfl Tryz.underlying9 rfl) ?_); refine aC rfl (fU rfl rfl) ?_; refine aG (aX (t := 10) rfl (fun hs10 => ?_) (fun hs10 => ?_))
  ·skip
   refine aR (aG (aR (aG (aR (aC rfl (cI rfl Tryz.underlying9 rfl) ?_))))); refine aR ?_; refine aC rfl (JR (h := p.size) rfl rfl Tryz.underlying9 rfl (by omega)) ?_; refine aR (aG (aR (aC rfl (gL rfl rfl) ?_))); refine bL (aM (aD (aA (aO (aJ rfl rfl ?_))))); refine ⟨congrArg Value.bool (decide_eq_decide.2 ?_), (Evo.refl [] w)⟩; exact ⟨fun h => ⟨by omega, h⟩, fun h => h.2⟩
  refine aH (aH (aH (aH (aH (aH (aU (aM (aD (aA (aO (aJ rfl rfl ?_)))))))))))
  exact ⟨congrArg Value.bool (decide_eq_false (fun h => by have := h.1; omega)).symm, (Evo.refl [] w)⟩
theorem uY {w : World} (s p : ByteArray) (hs : s.size ≤ 140737488355328) (hp : p.size ≤ 140737488355328) : Calls Tryz.prog 142 #[.string s, .string p] w (Ret fun v w' => v = .bool (decide (Pre s p)) ∧ Evo [] w w') := by
  refine bO (N := 8) Tryz.func142 rfl rfl rfl ?_; refine aE (aB (aM (aD (aA (aE (aB (aG (aG (aN (vs := [_, _]) sL rfl (CO s p hs hp) rfl ?_))))))))); rintro _ w1 ⟨rfl, hw2⟩; have hE3 := (Evo.refl [] w).then hw2; refine aM (aD (aA (aO (aJ rfl rfl ?_)))); exact ⟨rfl, hE3⟩
theorem cutI_ok {w : World} (s p : ByteArray) (hs : s.size ≤ 140737488355328) (hp : p.size ≤ 140737488355328) : Calls Tryz.prog 160 #[.string s, .string p] w (Ret fun v w' => v = .tuple #[.string (if Pre s p then s.extract p.size s.size else s), .bool (decide (Pre s p))] ∧ Evo [] w w') := by
  refine bO (N := 15) Tryz.func160 rfl rfl rfl ?_; refine aE (aB (aM (aM (aD (aA (aE (aE (aB (aG (aG (aN (vs := [_, _]) sL rfl (CO s p hs hp) rfl ?_))))))))))); rintro _ w1 ⟨rfl, hw2⟩; have hE3 := (Evo.refl [] w).then hw2; refine aC rfl (lI rfl) ?_; refine aD (aA (bI rfl (fun hc9 => ?_) (fun hc9 => ?_)))
  ·skip
   refine aE (aB (aG (aM (aM (aD (aA (aO (aP (cW rfl rfl rfl ?_))))))))); exact ⟨by rw [if_neg hc9, decide_eq_false hc9], hE3⟩
  refine aW (aA (aE (aB (aG (aG (aC rfl (cI rfl Tryz.underlying9 rfl) ?_))))))
  refine aC rfl (gQ (l := p.size) rfl rfl Tryz.underlying9 rfl (by have := Classical.not_not.1 hc9; exact this.1)) ?_
  refine aM (aM (aD (aA (aO (cW rfl rfl rfl ?_))))); have h9 := Classical.not_not.1 hc9; exact ⟨by rw [if_pos h9, decide_eq_true h9], hE3⟩
theorem cut_ok {w : World} (s p : ByteArray) (hs : s.size ≤ 140737488355328) (hp : p.size ≤ 140737488355328) : Calls Tryz.prog 145 #[.string s, .string p] w (Ret fun v w' => v = .tuple #[.string (if Pre s p then s.extract p.size s.size else s), .bool (decide (Pre s p))] ∧ Evo [] w w') := by
  refine bO (N := 11) Tryz.func145 rfl rfl rfl ?_; refine aE (aB (aM (aM (aD (aA (aE (aB (aG (aG (aN (vs := [_, _]) AQ rfl (cutI_ok s p hs hp) rfl ?_)))))))))); rintro _ w1 ⟨rfl, hw2⟩; have hE3 := (Evo.refl [] w).then hw2; refine aC rfl (cR rfl rfl) ?_; refine aC rfl (cR rfl rfl) ?_; refine aM (aM (aD (aA (aO (cW rfl rfl rfl ?_))))); exact ⟨rfl, hE3⟩
theorem LR {s : ByteArray} {i v j : Nat} (h : sb s i = 92) (h2 : nD s i = .ok (v, j)) : lZ s i = .ok ((v : Int), j) := by unfold lZ; rw [if_pos h, h2]
theorem LS {s : ByteArray} {i : Nat} {e : Int} (h : sb s i = 92) (h2 : nD s i = .error e) : lZ s i = .error e := by unfold lZ; rw [if_pos h, h2]
theorem rU {s : ByteArray} {i : Nat} (h : ¬ sb s i = 92) : lZ s i = .ok ((cH s i).1, i + (cH s i).2) := by unfold lZ; rw [if_neg h]
theorem kW {s : ByteArray} {i j : Nat} {r : Int} (h : lZ s i = .ok (r, j)) (hb : Bd s i) (hi : i < s.size) : Bd s j ∧ i < j ∧ 0 ≤ r ∧ r ≤ 1114111 := by
  by_cases h1 : sb s i = 92
  · unfold lZ at h
    rw [if_pos h1] at h
    cases h2 : nD s i with
    | error e => rw [h2] at h; cases h
    | ok x =>
      obtain ⟨n, k⟩ := x
      rw [h2] at h
      cases h
      obtain ⟨h3, h4, h5⟩ := LU h2 hb h1
      exact ⟨h3, h4, by omega, by omega⟩
  · rw [rU h1] at h
    cases h
    obtain ⟨h3, h4, h5, h6, h7⟩ := hb.next hi
    exact ⟨h5, by omega, h6, h7⟩
theorem iS {w : World} {b : Nat} {s : ByteArray} {st : PS} {a : Option Addr} {c : Nat} {ob : Option Nat} (hR : RdAt w b s st a c ob) (hs : s.size ≤ 1000000) (hlt : st.pos < s.size) (hb : Bd s st.pos) :
    Calls Tryz.prog 147 #[.pointer (some ⟨b, 0, none⟩)] w (RetP (fun v w' => ∃ r j, lZ s st.pos = .ok (r, j) ∧ v = .int .i32 r ∧ Evo [b] w w' ∧ RdAt w' b s (gU st j) a c ob) (fun v w' => lZ s st.pos = .error 83 ∧ v = flt 83 ∧ Evo [b] w w')) := by
  have hap := hR.ap; refine bO (N := 17) Tryz.func147 rfl rfl rfl ?_; refine aE (aB (aM (aD (aA (aE (aE ?_)))))); refine fH (by kernel_rfl) (by kernel_rfl) ?_; refine aV rfl (fun _ hq2 => bS rfl) ?_; refine aV rfl (fun _ hq2 => aQ rfl) ?_; refine aV rfl (fun _ hq2 => aF rfl dI) ?_; refine aV rfl (fun _ hq2 => aI rfl cO (aK (hq2.blk0 hR.blk) rfl)) ?_; refine aV rfl (fun _ hq2 => bS rfl) ?_; refine aV rfl (fun _ hq2 => aQ rfl) ?_; refine aV rfl (fun _ hq2 => aF rfl bH) ?_; refine aV rfl (fun _ hq2 => aI rfl bD (aK (hq2.blk0 hR.blk) rfl)) ?_; refine aV rfl (fun _ hq2 => fC (n := st.pos) rfl rfl Tryz.underlying9 rfl hlt) ?_; refine aV rfl (fun _ hq2 => bF rfl rfl) ?_; refine fN (fun wq1 hq2 => aA ?_); have hE3 := (Evo.refl [b] w).then hq2; have hB4 := hq2.blk0 hR.blk; have hO5 := hR.own.evo0 hq2; refine bI rfl (fun hc12 => ?_) (fun hc12 => ?_)
  ·skip
   refine aE (aB (aG (bX (vs := [_]) sP rfl (wM ⟨hB4, hO5, hR.ne⟩ hs hlt) rfl ?_ ?_)))
   ·skip
    intro pv wp hpp; obtain ⟨hpe, rfl, hpw⟩ := hpp; exact And.intro rfl ⟨_, rfl, LS (by omega) hpe, rfl, (hE3).step hpw (fun y hy => .inl hy)⟩
   rintro _ w6 ⟨n, j, hx, rfl, hw7, hR1⟩; have hE8 := hE3.step hw7 (fun y hy => .inl hy); refine aM (aD (aA (aO (aP (bW (aJ rfl rfl ?_)))))); exact ⟨_, _, LR (by omega) hx, rfl, hE8, hR1⟩
  refine aW (aA (aE (aB (aG (aN (vs := [_]) mM rfl (uU ⟨hB4, hO5, hR.ne⟩ hs hb) rfl ?_))))); rintro _ w9 ⟨rfl, hw10, hR2⟩; have hE11 := hE3.step hw10 (fun y hy => .inl hy); refine aM (aD (aA (aO (bW (aJ rfl rfl ?_))))); exact ⟨_, _, rU (by omega), rfl, hE11, hR2⟩
end Go.Proofs.YtljadkcojnlioaaGreatDoor
namespace Go.Proofs.YtljadkcojnlioaaGreatDoor
open Go.Proofs Go.W Go.RowKit
def spec : List Nat := [92, 46, 43, 42, 63, 40, 41, 124, 91, 93, 123, 125, 94, 36]
def jA (n : Nat) : List Nat := (Lib.decDigits n).map UInt8.toNat
def nmL (s : ByteArray) : List Nat := s.data.toList.map UInt8.toNat
theorem GL (l : List UInt8) : bstr (l.map UInt8.toNat) = ⟨l.toArray⟩ := by
  have h : UInt8.ofNat ∘ UInt8.toNat = id := funext fun x => UInt8.ofNat_toNat
  unfold bstr
  rw [List.map_map, h, List.map_id]
theorem MF (s : ByteArray) : bstr (nmL s) = s := by unfold nmL; rw [GL]
theorem KH (l : List UInt8) : Lo (l.map UInt8.toNat) := fun b hb => by
  obtain ⟨x, _, rfl⟩ := List.mem_map.1 hb
  exact x.toNat_lt
theorem HB (s : ByteArray) : (nmL s).length = s.size := by
  unfold nmL
  rw [List.length_map]
  rfl
def FP (c : Int) : List Nat := [92, 120, 123] ++ rZ c.toNat ++ [125]
def Odd (c : Int) : Prop := c < 32 ∨ c = 127 ∨ (55296 ≤ c ∧ c ≤ 57343)
instance (c : Int) : Decidable (Odd c) := by unfold Odd; infer_instance
def pQ (c : Int) : List Nat := if Odd c then FP c else if c < 128 ∧ c.toNat ∈ spec then [92, c.toNat] else dK c
def GG (c : Int) : Prop := c < 128 ∧ iT c.toNat ∧ c ≠ 95
instance (c : Int) : Decidable (GG c) := by unfold GG; infer_instance
def sD (c : Int) : List Nat := if GG c then dK c else FP c
def tB (g : Int × Int) : List Nat := sD g.1 ++ (if g.1 < g.2 then 45 :: sD g.2 else [])
def NU : List Nat := [91, 94, 92, 120, 123, 48, 125, 45, 92, 120, 123, 49, 48, 102, 102, 102, 102, 125, 93]
def xJ (l : List (Int × Int)) : List Nat := if l = [] then NU else [91] ++ l.flatMap tB ++ [93]
def jO (lo hi : Int) : List Nat :=
  if lo = 0 ∧ hi = -1 then [42] else if lo = 1 ∧ hi = -1 then [43] else if lo = 0 ∧ hi = 1 then [63]
  else if hi = -1 then [123] ++ jA lo.toNat ++ [44, 125] else if hi = lo then [123] ++ jA lo.toNat ++ [125] else [123] ++ jA lo.toNat ++ [44] ++ jA hi.toNat ++ [125]
def zA (k r : Int) (rs : List (Int × Int)) (nm : ByteArray) : List Nat :=
  if k = 2 then pQ r else if k = 3 then xJ rs else if k = 7 then [40] ++ (if nm = ByteArray.mk #[] then [] else [63, 80, 60] ++ nmL nm ++ [62]) else if k = 8 then [92, 65] else if k = 9 then [92, 122]
  else if k = 10 then [94] else if k = 11 then [36] else if k = 12 then [92, 98] else if k = 13 then [92, 66] else []
def yU (k mn mx : Int) (lz : Bool) : List Nat := if k = 6 then jO mn mx ++ (if lz = true then [63] else []) else if k = 7 then [41] else []
def brW (p : Prop) [Decidable p] (l : List Nat) : List Nat := if p then [40, 63, 58] ++ l ++ [41] else l
def wV (k : Int) (fst : Bool) : List Nat := if k = 5 ∧ fst = false then [124] else []
mutual
def Rx.w : Rx → List Nat
  | .mk k r rs mn mx lz cp nm ks => zA k r rs nm ++ gJ k true ks ++ yU k mn mx lz
def gJ (k : Int) : Bool → List Rx → List Nat
  | _, [] => []
  | fst, x :: xs => wV k fst ++ brW (Brk x.kind k) x.w ++ gJ k false xs
end
mutual
def Rx.ms : Rx → Nat
  | .mk k r rs mn mx lz cp nm ks => 40 + nm.size + 26 * rs.length + kms ks
def kms : List Rx → Nat
  | [] => 0
  | x :: xs => x.ms + kms xs
end
theorem Rx.w_eq (x : Rx) : x.w = zA x.kind x.r x.ranges x.name ++ gJ x.kind true x.kids ++ yU x.kind x.min x.max x.lazy := by cases x; rw [Rx.w]; rfl
theorem Rx.ms_eq (x : Rx) : x.ms = 40 + x.name.size + 26 * x.ranges.length + kms x.kids := by cases x; rw [Rx.ms]; rfl
theorem wB (k : Int) (y : Rx) : ∀ (l : List Rx) (fst : Bool), gJ k fst (l ++ [y]) = gJ k fst l ++ (wV k (fst && l.isEmpty) ++ brW (Brk y.kind k) y.w)
  | [], fst => by rw [List.nil_append, gJ, gJ, gJ]; simp
  | x :: xs, fst => by rw [List.cons_append, gJ, wB k y xs false, gJ]; simp
theorem mY {k : Int} {l : List Rx} {j : Nat} (hj : j < l.length) : gJ k true (l.take (j + 1)) = gJ k true (l.take j) ++ (wV k (decide (j = 0)) ++ brW (Brk l[j].kind k) l[j].w) := by
  rw [List.take_add_one, List.getElem?_eq_getElem hj, Option.toList_some, wB]
  have : (true && (l.take j).isEmpty) = decide (j = 0) := by
    rw [Bool.true_and, Bool.eq_iff_iff, decide_eq_true_iff, List.isEmpty_iff, List.take_eq_nil_iff]
    constructor
    · rintro (h | h)
      · exact h
      · rw [h] at hj; cases hj
    · exact .inl
  rw [this]
theorem rX {l : List Rx} {j : Nat} (hj : j < l.length) : kms (l.take (j + 1)) = kms (l.take j) + l[j].ms := by
  induction l generalizing j with
  | nil => cases hj
  | cons x l ih => cases j with
    | zero => simp [kms]
    | succ j => simp only [List.take_succ_cons, kms, List.getElem_cons_succ, ih (by simpa using hj)]; omega
theorem MP {l : List Rx} (j : Nat) : kms (l.take j) ≤ kms l := by
  induction l generalizing j with
  | nil => simp [kms]
  | cons x l ih => cases j with
    | zero => simp [kms]
    | succ j => simp only [List.take_succ_cons, kms]; have := ih j; omega
theorem zN : ∀ (f n : Nat), n < 16 ^ (f + 1) → (rZ n).length ≤ f + 1 ∧ Lo (rZ n)
  | 0, n, h => by
    rw [zM (by simpa using h)]
    have h16 : n < 16 := by simpa using h
    exact ⟨Nat.le_refl _, fun b hb => by rw [List.mem_singleton.1 hb]; unfold hx; split <;> omega⟩
  | f + 1, n, h => by
    by_cases c : n < 16
    · rw [zM c]
      exact ⟨by simp, fun b hb => by rw [List.mem_singleton.1 hb]; unfold hx; split <;> omega⟩
    · rw [HK c]
      obtain ⟨h1, h2⟩ := zN f (n / 16) (Nat.div_lt_of_lt_mul (by rw [Nat.mul_comm, ← Nat.pow_succ]; exact h))
      refine ⟨by simp; omega, fun b hb => ?_⟩
      rcases List.mem_append.1 hb with hb | hb
      · exact h2 b hb
      · rw [List.mem_singleton.1 hb]; unfold hx; split <;> omega
theorem Lo.app {a b : List Nat} (h : Lo a) (k : Lo b) : Lo (a ++ b) := fun x hx => (List.mem_append.1 hx).elim (h x) (k x)
theorem zL {c : Int} (h0 : 0 ≤ c) (h1 : c ≤ 1114111) : (FP c).length ≤ 12 ∧ Lo (FP c) := by
  obtain ⟨h2, h3⟩ := zN 7 c.toNat (by show c.toNat < 4294967296; omega)
  refine ⟨by simp [FP]; omega, ?_⟩
  exact ((show Lo [92, 120, 123] by unfold Lo; decide).app h3).app (by unfold Lo; decide)
theorem HM (c : Int) : Lo (dK c) := wG c
theorem HE {c : Int} (h0 : 0 ≤ c) (h1 : c ≤ 1114111) : (pQ c).length ≤ 12 ∧ Lo (pQ c) := by
  unfold pQ
  split
  · exact zL h0 h1
  · split
    · refine ⟨by simp, fun b hb => ?_⟩
      simp at hb
      rcases hb with rfl | rfl <;> omega
    · exact ⟨by have := qM c; omega, HM c⟩
theorem zV {c : Int} (h0 : 0 ≤ c) (h1 : c ≤ 1114111) : (sD c).length ≤ 12 ∧ Lo (sD c) := by
  unfold sD
  split
  · exact ⟨by have := qM c; omega, HM c⟩
  · exact zL h0 h1
theorem GP {g : Int × Int} (h0 : 0 ≤ g.1) (h1 : g.1 ≤ g.2) (h2 : g.2 ≤ 1114111) : (tB g).length ≤ 26 ∧ Lo (tB g) := by
  obtain ⟨a1, a2⟩ := zV h0 (show g.1 ≤ 1114111 by omega)
  obtain ⟨b1, b2⟩ := zV (show 0 ≤ g.2 by omega) h2
  unfold tB
  split
  · refine ⟨by rw [List.length_append, List.length_cons]; omega, a2.app fun b hb => ?_⟩
    rcases List.mem_cons.1 hb with rfl | hb
    · decide
    · exact b2 b hb
  · exact ⟨by simp; omega, a2.app (fun b hb => by cases hb)⟩
def RgB (l : List (Int × Int)) : Prop := ∀ g, g ∈ l → 0 ≤ g.1 ∧ g.1 ≤ g.2 ∧ g.2 ≤ 1114111
theorem RangesOk.b {l : List (Int × Int)} (h : RangesOk l) : RgB l := fun g hg => by
  obtain ⟨i, hi, rfl⟩ := List.getElem_of_mem hg
  obtain ⟨h1, h2, h3, -⟩ := h.1 i hi
  exact ⟨h1, h2, h3⟩
theorem uV : ∀ {l : List (Int × Int)}, RgB l → (l.flatMap tB).length ≤ 26 * l.length
  | [], _ => by simp
  | g :: l, h => by
    obtain ⟨h1, h2, h3⟩ := h g (List.mem_cons_self ..)
    have := (GP h1 h2 h3).1
    have := uV (l := l) (fun g hg => h g (List.mem_cons_of_mem _ hg))
    rw [List.flatMap_cons, List.length_append, List.length_cons]; omega
theorem BW {l : List (Int × Int)} {k : Nat} (hk : k < l.length) : (l.take (k + 1)).flatMap tB = (l.take k).flatMap tB ++ tB l[k] := by
  rw [List.take_add_one, List.getElem?_eq_getElem hk, List.flatMap_append]; simp
theorem vE (n : Nat) : Lo (jA n) := KH _
end Go.Proofs.YtljadkcojnlioaaGreatDoor
