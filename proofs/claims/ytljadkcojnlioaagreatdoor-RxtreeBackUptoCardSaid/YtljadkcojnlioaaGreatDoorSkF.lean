/- Back: part 6 of 7 of what the law rests on. -/
import Derived.Test.YtljadkcojnlioaaGreatDoorSkE
set_option linter.unusedSectionVars false
set_option linter.unusedSimpArgs false
set_option linter.unusedVariables false
namespace Go.Proofs.YtljadkcojnlioaaGreatDoor
open Go.RowKit Go.W
attribute [local irreducible] Decidable.decide
theorem nU : gB Tryz.prog 97 2 = some 2 := by kernel_rfl
theorem EJ : fA Tryz.prog 103 := ⟨_, Tryz.func103, by kernel_rfl, by kernel_rfl⟩
theorem HG {w : World} (k a : Int) : Calls Tryz.prog 76 #[.int .i64 k, .int .i64 a] w (Ret fun v w' => v = .bool (decide (Brk a k)) ∧ Evo [] w w') := by
  refine bL (N := 38) Tryz.func76 rfl rfl rfl ?_; refine aE (aB (aN (aC (aA (aE (aE (aB (aH (aC (aA (bS (aE (aB (aF (bC rfl rfl) ?_)))))))))))))); refine aN (aC (aA (bG rfl (fun hc6 => ?_) (fun hc6 => ?_))))
  ·refine aE (aB (aH (aF (bC rfl rfl) ?_))); refine aN (aC (aA (aO (aV (aM (br1 ?_)))))); refine ⟨congrArg Value.bool (Bool.eq_iff_iff.2 ?_), (Evo.refl [] w)⟩
   simp only [decide_eq_true_eq, Bool.false_eq_true, Bool.true_eq_false, true_iff, false_iff, eq_self, iff_true]; unfold Brk; omega
  refine aE (aB (aF (bC rfl rfl) ?_)); refine aN (aC (aA (bG rfl (fun hc10 => ?_) (fun hc10 => ?_))))
  ·refine aE (aB (aH (aF (bC rfl rfl) ?_))); refine aH (aU (t := 14) rfl (fun hs14 => ?_) (fun hs14 => ?_))
   ·refine aG (aG (aY (aH (aG (aG (aY (aN (aC (aA (aO (aV (aM (br1 ?_))))))))))))); refine ⟨congrArg Value.bool (Bool.eq_iff_iff.2 ?_), (Evo.refl [] w)⟩
    simp only [decide_eq_true_eq, Bool.false_eq_true, Bool.true_eq_false, true_iff, false_iff, eq_self, iff_true]; unfold Brk; omega
   refine aK (aH (aK (aF (bC rfl rfl) ?_))); refine aR (aH (aU (t := 18) rfl (fun hs18 => ?_) (fun hs18 => ?_)))
   ·refine aG (aG (aY (aN (aC (aA (aO (aV (aM (br1 ?_))))))))); refine ⟨congrArg Value.bool (Bool.eq_iff_iff.2 ?_), (Evo.refl [] w)⟩
    simp only [decide_eq_true_eq, Bool.false_eq_true, Bool.true_eq_false, true_iff, false_iff, eq_self, iff_true]; unfold Brk; omega
   refine aK (aH (aK (aF (bC rfl rfl) ?_))); refine aR (aN (aC (aA (aO (aV (aM (br1 ?_))))))); refine ⟨congrArg Value.bool (Bool.eq_iff_iff.2 ?_), (Evo.refl [] w)⟩
   simp only [decide_eq_true_eq, Bool.false_eq_true, Bool.true_eq_false, true_iff, false_iff, eq_self, iff_true]; unfold Brk; omega
  refine aE (aB (aF (bC rfl rfl) ?_)); refine aN (aC (aA (bG rfl (fun hc22 => ?_) (fun hc22 => ?_))))
  ·refine aE (aB (aH (aF (bC rfl rfl) ?_))); refine aH (aU (t := 26) rfl (fun hs26 => ?_) (fun hs26 => ?_))
   ·refine aG (aG (aY (aH (aG (aG (aY (aH (aG (aG (aY (aN (aC (aA (aO (aV (aM (br1 ?_))))))))))))))))); refine ⟨congrArg Value.bool (Bool.eq_iff_iff.2 ?_), (Evo.refl [] w)⟩
    simp only [decide_eq_true_eq, Bool.false_eq_true, Bool.true_eq_false, true_iff, false_iff, eq_self, iff_true]; unfold Brk; omega
   refine aK (aH (aK (aF (bC rfl rfl) ?_))); refine aR (aH (aU (t := 30) rfl (fun hs30 => ?_) (fun hs30 => ?_)))
   ·refine aG (aG (aY (aH (aG (aG (aY (aN (aC (aA (aO (aV (aM (br1 ?_))))))))))))); refine ⟨congrArg Value.bool (Bool.eq_iff_iff.2 ?_), (Evo.refl [] w)⟩
    simp only [decide_eq_true_eq, Bool.false_eq_true, Bool.true_eq_false, true_iff, false_iff, eq_self, iff_true]; unfold Brk; omega
   refine aK (aH (aK (aF (bC rfl rfl) ?_))); refine aR (aH (aU (t := 34) rfl (fun hs34 => ?_) (fun hs34 => ?_)))
   ·refine aG (aG (aY (aN (aC (aA (aO (aV (aM (br1 ?_))))))))); refine ⟨congrArg Value.bool (Bool.eq_iff_iff.2 ?_), (Evo.refl [] w)⟩
    simp only [decide_eq_true_eq, Bool.false_eq_true, Bool.true_eq_false, true_iff, false_iff, eq_self, iff_true]; unfold Brk; omega
   refine aK (aH (aK (aF (bC rfl rfl) ?_))); refine aR (aN (aC (aA (aO (aV (aM (br1 ?_))))))); refine ⟨congrArg Value.bool (Bool.eq_iff_iff.2 ?_), (Evo.refl [] w)⟩
   simp only [decide_eq_true_eq, Bool.false_eq_true, Bool.true_eq_false, true_iff, false_iff, eq_self, iff_true]; unfold Brk; omega
  refine aX (aZ (aA (aE (aB (aN (aC (aA (aO (br1 ?_))))))))); refine ⟨congrArg Value.bool (Bool.eq_iff_iff.2 ?_), (Evo.refl [] w)⟩
  simp only [decide_eq_true_eq, Bool.false_eq_true, Bool.true_eq_false, true_iff, false_iff, eq_self, iff_true]; unfold Brk; omega
structure BareP (x : Rx) : Prop where
  zg : x.kind = 3 ∨ (x.ranges.length : Int) = 0
  zk : x.kind = 4 ∨ x.kind = 5 ∨ x.kind = 6 ∨ x.kind = 7 ∨ (x.kids.length : Int) = 0
  zr : x.kind = 2 ∨ x.r = 0
  zm1 : x.kind = 6 ∨ x.min = 0
  zm2 : x.kind = 6 ∨ x.max = 0
  zl : x.kind = 6 ∨ x.lazy = false
  zc : x.kind = 7 ∨ x.cap = 0
  zn : x.kind = 7 ∨ x.name = ByteArray.mk #[]
theorem BN (x : Rx) : BareP x ↔ (x.kind = 3 ∨ (x.ranges.length : Int) = 0) ∧ (x.kind = 4 ∨ x.kind = 5 ∨ x.kind = 6 ∨ x.kind = 7 ∨ (x.kids.length : Int) = 0) ∧ (x.kind = 2 ∨ x.r = 0) ∧ (x.kind = 6 ∨ x.min = 0) ∧ (x.kind = 6 ∨ x.max = 0) ∧ (x.kind = 6 ∨ x.lazy = false) ∧ (x.kind = 7 ∨ x.cap = 0) ∧ (x.kind = 7 ∨ x.name = ByteArray.mk #[]) :=
  ⟨fun h => ⟨h.zg, h.zk, h.zr, h.zm1, h.zm2, h.zl, h.zc, h.zn⟩, fun ⟨a, b, c, d, e, f, g, h⟩ => ⟨a, b, c, d, e, f, g, h⟩⟩
theorem bare_ok {n : Nat} {X : List Nat} {w : World} {vs : List Value} {t : Rx} (hx : RRx n X w vs t) : Calls Tryz.prog 77 #[.agg vs.toArray] w (Ret fun v w' => ∃ b, v = .bool b ∧ (b = true ↔ BareP t) ∧ Evo [] w w') := by
  obtain ⟨m, ra, rc, ka, kc, hm, rfl, hrg, hk, bl1, bl2, bl3⟩ := hx.get; refine bL (N := 82) Tryz.func77 rfl rfl rfl ?_; refine aE (aB (iY rfl rfl fun b1 w2 hB3 hs4 hw5 => ?_)); have hE7 := (Evo.refl [] w).then hw5; refine aN (aC (aA (aE (aB (aF (aD rfl dR) (aF (aI rfl aW (aJ hB3 rfl)) (aN (aC (aA (aE (rQ (α := Bool) (fun z => [(4, .bool z)]) [(1, _), (2, _), (3, _)] (fun z wr => Evo [] w2 wr ∧ (z = true ↔ (t.kind = 3 ∨ (t.ranges.length : Int) = 0) ∧ (t.kind = 4 ∨ t.kind = 5 ∨ t.kind = 6 ∨ t.kind = 7 ∨ (t.kids.length : Int) = 0))) ⟨rfl, rfl, rfl, trivial⟩ ?_ ?_)))))))))))
  ·refine aB (aH (aF (bC rfl rfl) ?_)); refine aH (aU (t := 10) rfl (fun hs10 => ?_) (fun hs10 => ?_))
   ·refine aG (aG (aG (aG (aY (aH (aK (aH (aK (aF (bC rfl rfl) ?_))))))))); refine aK (aH (aU (t := 19) rfl (fun hs19 => ?_) (fun hs19 => ?_)))
    ·refine aG (aG (aK (aY (aK (aH (aG (aG (aK (aY (aK (aH (aG (aG (aK ?_)))))))))))))); refine aY (aK (aH (aG (aG (aG (aG (aK (aY (aY (aN (aC (bM ?_)))))))))))); refine ⟨true, ⟨rfl, trivial⟩, ⟨rfl, rfl, rfl, trivial⟩, (Evo.refl [] w2), ?_⟩; simp only [decide_eq_true_eq, Bool.false_eq_true, true_iff, false_iff, Bool.not_eq_true'] at *
     grind
    refine aK (aH (aK (aF (bC rfl rfl) ?_))); refine aK (aR (aK (aH (aU (t := 23) rfl (fun hs23 => ?_) (fun hs23 => ?_)))))
    ·refine aG (aG (aK (aY (aK (aH (aG (aG (aK (aY (aK (aH (aG (aG (aG ?_)))))))))))))); refine aG (aK (aY (aY (aN (aC (bM ?_)))))); refine ⟨true, ⟨rfl, trivial⟩, ⟨rfl, rfl, rfl, trivial⟩, (Evo.refl [] w2), ?_⟩; simp only [decide_eq_true_eq, Bool.false_eq_true, true_iff, false_iff, Bool.not_eq_true'] at *
     grind
    refine aK (aH (aK (aF (bC rfl rfl) ?_))); refine aK (aR (aK (aH (aU (t := 27) rfl (fun hs27 => ?_) (fun hs27 => ?_)))))
    ·refine aG (aG (aK (aY (aK (aH (aG (aG (aG (aG (aK (aY (aY (aN (aC (bM ?_))))))))))))))); refine ⟨true, ⟨rfl, trivial⟩, ⟨rfl, rfl, rfl, trivial⟩, (Evo.refl [] w2), ?_⟩; simp only [decide_eq_true_eq, Bool.false_eq_true, true_iff, false_iff, Bool.not_eq_true'] at *
     grind
    refine aK (aH (aK (aF (bC rfl rfl) ?_))); refine aK (aR (aK (aH (aU (t := 31) rfl (fun hs31 => ?_) (fun hs31 => ?_)))))
    ·refine aG (aG (aG (aG (aK (aY (aY (aN (aC (bM ?_))))))))); refine ⟨true, ⟨rfl, trivial⟩, ⟨rfl, rfl, rfl, trivial⟩, (Evo.refl [] w2), ?_⟩; simp only [decide_eq_true_eq, Bool.false_eq_true, true_iff, false_iff, Bool.not_eq_true'] at *
     grind
    refine aK (aF (aD rfl cG) (aK (aF (aI rfl cX (aJ hB3 rfl)) (aK (aF (bK rfl Tryz.underlying25 rfl) ?_))))); refine aK (aF (bC rfl rfl) ?_); refine aK (aR (aY (aN (aC (bM ?_))))); refine ⟨(decide ((t.kids.length : Int) = 0)), ⟨rfl, trivial⟩, ⟨rfl, rfl, rfl, trivial⟩, (Evo.refl [] w2), ?_⟩; simp only [decide_eq_true_eq, Bool.false_eq_true, true_iff, false_iff, Bool.not_eq_true'] at *
    grind
   refine aK (aF (aD rfl dQ) (aK (aF (aI rfl eZ (aJ hB3 rfl)) (aK (aF (bK rfl Tryz.underlying24 rfl) ?_))))); refine aK (aF (bC rfl rfl) ?_); refine aR (aH (aU (t := 16) rfl (fun hs16 => ?_) (fun hs16 => ?_)))
   ·refine aK (aH (aK (aF (bC rfl rfl) ?_))); refine aK (aH (aU (t := 19) rfl (fun hs19 => ?_) (fun hs19 => ?_)))
    ·refine aG (aG (aK (aY (aK (aH (aG (aG (aK (aY (aK (aH (aG (aG (aK ?_)))))))))))))); refine aY (aK (aH (aG (aG (aG (aG (aK (aY (aY (aN (aC (bM ?_)))))))))))); refine ⟨true, ⟨rfl, trivial⟩, ⟨rfl, rfl, rfl, trivial⟩, (Evo.refl [] w2), ?_⟩; simp only [decide_eq_true_eq, Bool.false_eq_true, true_iff, false_iff, Bool.not_eq_true'] at *
     grind
    refine aK (aH (aK (aF (bC rfl rfl) ?_))); refine aK (aR (aK (aH (aU (t := 23) rfl (fun hs23 => ?_) (fun hs23 => ?_)))))
    ·refine aG (aG (aK (aY (aK (aH (aG (aG (aK (aY (aK (aH (aG (aG (aG ?_)))))))))))))); refine aG (aK (aY (aY (aN (aC (bM ?_)))))); refine ⟨true, ⟨rfl, trivial⟩, ⟨rfl, rfl, rfl, trivial⟩, (Evo.refl [] w2), ?_⟩; simp only [decide_eq_true_eq, Bool.false_eq_true, true_iff, false_iff, Bool.not_eq_true'] at *
     grind
    refine aK (aH (aK (aF (bC rfl rfl) ?_))); refine aK (aR (aK (aH (aU (t := 27) rfl (fun hs27 => ?_) (fun hs27 => ?_)))))
    ·refine aG (aG (aK (aY (aK (aH (aG (aG (aG (aG (aK (aY (aY (aN (aC (bM ?_))))))))))))))); refine ⟨true, ⟨rfl, trivial⟩, ⟨rfl, rfl, rfl, trivial⟩, (Evo.refl [] w2), ?_⟩; simp only [decide_eq_true_eq, Bool.false_eq_true, true_iff, false_iff, Bool.not_eq_true'] at *
     grind
    refine aK (aH (aK (aF (bC rfl rfl) ?_))); refine aK (aR (aK (aH (aU (t := 31) rfl (fun hs31 => ?_) (fun hs31 => ?_)))))
    ·refine aG (aG (aG (aG (aK (aY (aY (aN (aC (bM ?_))))))))); refine ⟨true, ⟨rfl, trivial⟩, ⟨rfl, rfl, rfl, trivial⟩, (Evo.refl [] w2), ?_⟩; simp only [decide_eq_true_eq, Bool.false_eq_true, true_iff, false_iff, Bool.not_eq_true'] at *
     grind
    refine aK (aF (aD rfl cG) (aK (aF (aI rfl cX (aJ hB3 rfl)) (aK (aF (bK rfl Tryz.underlying25 rfl) ?_))))); refine aK (aF (bC rfl rfl) ?_); refine aK (aR (aY (aN (aC (bM ?_))))); refine ⟨(decide ((t.kids.length : Int) = 0)), ⟨rfl, trivial⟩, ⟨rfl, rfl, rfl, trivial⟩, (Evo.refl [] w2), ?_⟩; simp only [decide_eq_true_eq, Bool.false_eq_true, true_iff, false_iff, Bool.not_eq_true'] at *
    grind
   refine aG (aG (aG (cA ?_))); refine cA ?_; refine aG (aG (cA ?_)); refine cA ?_; refine aG (aG (cA ?_)); refine cA ?_; refine aG (aG (cA ?_)); refine cA ?_; refine cA ?_; refine cA ?_; refine aG (aR (aN (aC (bM ?_)))); refine ⟨false, ⟨rfl, trivial⟩, ⟨rfl, rfl, rfl, trivial⟩, (Evo.refl [] w2), ?_⟩; simp only [decide_eq_true_eq, Bool.false_eq_true, true_iff, false_iff, Bool.not_eq_true'] at *
   grind
  rintro z w8 ⟨hV9, hz⟩; refine aA ?_; show CW _ _ _ _ [(4, _), (1, _), (2, _), (3, _)] _; have hE10 := hE7.then hV9; have hB11 := hV9.blk0 hB3; refine aE (rQ (α := Bool) (fun y => [(5, .bool y)]) [(2, _), (4, _)] (fun y wr => Evo [] w8 wr ∧ (y = true ↔ (t.kind = 2 ∨ t.r = 0) ∧ (t.kind = 6 ∨ t.min = 0) ∧ (t.kind = 6 ∨ t.max = 0) ∧ (t.kind = 6 ∨ t.lazy = false) ∧ (t.kind = 7 ∨ t.cap = 0) ∧ (t.kind = 7 ∨ t.name = ByteArray.mk #[]))) ⟨rfl, rfl, trivial⟩ ?_ ?_)
  ·refine aB (aH (aF (bC rfl rfl) ?_)); refine aH (aU (t := 40) rfl (fun hs40 => ?_) (fun hs40 => ?_))
   ·refine aG (aG (aG (aY (aH (aK (aH (aK (aF (bC rfl rfl) ?_)))))))); refine aK (aH (aU (t := 48) rfl (fun hs48 => ?_) (fun hs48 => ?_)))
    ·refine aG (aG (aG (aG (cA ?_)))); refine cA ?_; refine cA ?_; refine aG (aG (cA ?_)); refine cA ?_; refine cA ?_; refine aG (aK (aY (aY (aH (aK (aH (aK (aF (bC rfl rfl) ?_)))))))); refine aK (aH (aU (t := 67) rfl (fun hs67 => ?_) (fun hs67 => ?_)))
     ·refine aG (aG (aG (aG (cA ?_)))); refine cA ?_; refine cA ?_; refine aG (aK (aY (aY (aN (aC (bM ?_)))))); refine ⟨true, ⟨rfl, trivial⟩, ⟨rfl, rfl, trivial⟩, (Evo.refl [] w8), ?_⟩; simp only [decide_eq_true_eq, Bool.false_eq_true, true_iff, false_iff, Bool.not_eq_true'] at *
      grind
     refine aK (aF (aD rfl dP) (aK (aF (aI rfl aW (aJ hB11 rfl)) (aK (aF (bC rfl rfl) ?_))))); refine aK (aH (aU (t := 71) rfl (fun hs71 => ?_) (fun hs71 => ?_)))
     ·refine aK (aF (aD rfl dM) (aK (aF (aI rfl cL (aJ hB11 rfl)) (aK (aF (gI rfl rfl) ?_))))); refine aK (aY (aK (aR (aY (aN (aC (bM ?_))))))); refine ⟨(decide (t.name = ByteArray.mk #[])), ⟨rfl, trivial⟩, ⟨rfl, rfl, trivial⟩, (Evo.refl [] w8), ?_⟩; simp only [decide_eq_true_eq, Bool.false_eq_true, true_iff, false_iff, Bool.not_eq_true'] at *
      grind
     refine aG (aG (aG (aK (aR (aK (aR (aY (aN (aC (bM ?_)))))))))); refine ⟨false, ⟨rfl, trivial⟩, ⟨rfl, rfl, trivial⟩, (Evo.refl [] w8), ?_⟩; simp only [decide_eq_true_eq, Bool.false_eq_true, true_iff, false_iff, Bool.not_eq_true'] at *
     grind
    refine aK (aF (aD rfl cZ) (aK (aF (aI rfl aW (aJ hB11 rfl)) (aK (aF (bC rfl rfl) ?_))))); refine aK (aH (aU (t := 52) rfl (fun hs52 => ?_) (fun hs52 => ?_)))
    ·refine aK (aF (aD rfl cU) (aK (aF (aI rfl aW (aJ hB11 rfl)) (aK (aF (bC rfl rfl) ?_))))); refine aK (aY (aK (aH (aU (t := 57) rfl (fun hs57 => ?_) (fun hs57 => ?_)))))
     ·refine aK (aF (aD rfl eC) (aK (aF (aI rfl eA (aJ hB11 rfl)) (aK (aF (eJ rfl) ?_))))); refine aK (aY (aK (aR (aY (aH (gS (t := 64) rfl (fun hs64 => ?_) (fun hs64 => ?_)))))))
      ·refine aK (aH (aK (aF (bC rfl rfl) ?_))); refine aK (aH (aU (t := 67) rfl (fun hs67 => ?_) (fun hs67 => ?_)))
       ·refine aG (aG (aG (aG (cA ?_)))); refine cA ?_; refine cA ?_; refine aG (aK (aY (aY (aN (aC (bM ?_)))))); refine ⟨true, ⟨rfl, trivial⟩, ⟨rfl, rfl, trivial⟩, (Evo.refl [] w8), ?_⟩; simp only [decide_eq_true_eq, Bool.false_eq_true, true_iff, false_iff, Bool.not_eq_true'] at *
        grind
       refine aK (aF (aD rfl dP) (aK (aF (aI rfl aW (aJ hB11 rfl)) (aK (aF (bC rfl rfl) ?_))))); refine aK (aH (aU (t := 71) rfl (fun hs71 => ?_) (fun hs71 => ?_)))
       ·refine aK (aF (aD rfl dM) (aK (aF (aI rfl cL (aJ hB11 rfl)) (aK (aF (gI rfl rfl) ?_))))); refine aK (aY (aK (aR (aY (aN (aC (bM ?_))))))); refine ⟨(decide (t.name = ByteArray.mk #[])), ⟨rfl, trivial⟩, ⟨rfl, rfl, trivial⟩, (Evo.refl [] w8), ?_⟩; simp only [decide_eq_true_eq, Bool.false_eq_true, true_iff, false_iff, Bool.not_eq_true'] at *
        grind
       refine aG (aG (aG (aK (aR (aK (aR (aY (aN (aC (bM ?_)))))))))); refine ⟨false, ⟨rfl, trivial⟩, ⟨rfl, rfl, trivial⟩, (Evo.refl [] w8), ?_⟩; simp only [decide_eq_true_eq, Bool.false_eq_true, true_iff, false_iff, Bool.not_eq_true'] at *
       grind
      refine aG (aG (aG (cA ?_))); refine cA ?_; refine cA ?_; refine cA ?_; refine cA ?_; refine cA ?_; refine cA ?_; refine cA ?_; refine aG (aR (aN (aC (bM ?_)))); refine ⟨false, ⟨rfl, trivial⟩, ⟨rfl, rfl, trivial⟩, (Evo.refl [] w8), ?_⟩; simp only [decide_eq_true_eq, Bool.false_eq_true, true_iff, false_iff, Bool.not_eq_true'] at *
      grind
     refine aG (aG (aG (aK (aR (aK (aR (aY (aH (aG (aG (aG (cA ?_)))))))))))); refine cA ?_; refine cA ?_; refine cA ?_; refine cA ?_; refine cA ?_; refine cA ?_; refine cA ?_; refine aG (aR (aN (aC (bM ?_)))); refine ⟨false, ⟨rfl, trivial⟩, ⟨rfl, rfl, trivial⟩, (Evo.refl [] w8), ?_⟩; simp only [decide_eq_true_eq, Bool.false_eq_true, true_iff, false_iff, Bool.not_eq_true'] at *
     grind
    refine aG (aG (aG (aK (aR (aK (aH (aG (aG (aG (aK (aR (aK (aR (aY ?_)))))))))))))); refine aH (aG (aG (aG (cA ?_)))); refine cA ?_; refine cA ?_; refine cA ?_; refine cA ?_; refine cA ?_; refine cA ?_; refine cA ?_; refine aG (aR (aN (aC (bM ?_)))); refine ⟨false, ⟨rfl, trivial⟩, ⟨rfl, rfl, trivial⟩, (Evo.refl [] w8), ?_⟩; simp only [decide_eq_true_eq, Bool.false_eq_true, true_iff, false_iff, Bool.not_eq_true'] at *
    grind
   refine aK (aF (aD rfl eD) (aK (aF (aI rfl bZ (aJ hB11 rfl)) (aK (aF (bC rfl rfl) ?_))))); refine aR (aH (aU (t := 45) rfl (fun hs45 => ?_) (fun hs45 => ?_)))
   ·refine aK (aH (aK (aF (bC rfl rfl) ?_))); refine aK (aH (aU (t := 48) rfl (fun hs48 => ?_) (fun hs48 => ?_)))
    ·refine aG (aG (aG (aG (cA ?_)))); refine cA ?_; refine cA ?_; refine aG (aG (cA ?_)); refine cA ?_; refine cA ?_; refine aG (aK (aY (aY (aH (aK (aH (aK (aF (bC rfl rfl) ?_)))))))); refine aK (aH (aU (t := 67) rfl (fun hs67 => ?_) (fun hs67 => ?_)))
     ·refine aG (aG (aG (aG (cA ?_)))); refine cA ?_; refine cA ?_; refine aG (aK (aY (aY (aN (aC (bM ?_)))))); refine ⟨true, ⟨rfl, trivial⟩, ⟨rfl, rfl, trivial⟩, (Evo.refl [] w8), ?_⟩; simp only [decide_eq_true_eq, Bool.false_eq_true, true_iff, false_iff, Bool.not_eq_true'] at *
      grind
     refine aK (aF (aD rfl dP) (aK (aF (aI rfl aW (aJ hB11 rfl)) (aK (aF (bC rfl rfl) ?_))))); refine aK (aH (aU (t := 71) rfl (fun hs71 => ?_) (fun hs71 => ?_)))
     ·refine aK (aF (aD rfl dM) (aK (aF (aI rfl cL (aJ hB11 rfl)) (aK (aF (gI rfl rfl) ?_))))); refine aK (aY (aK (aR (aY (aN (aC (bM ?_))))))); refine ⟨(decide (t.name = ByteArray.mk #[])), ⟨rfl, trivial⟩, ⟨rfl, rfl, trivial⟩, (Evo.refl [] w8), ?_⟩; simp only [decide_eq_true_eq, Bool.false_eq_true, true_iff, false_iff, Bool.not_eq_true'] at *
      grind
     refine aG (aG (aG (aK (aR (aK (aR (aY (aN (aC (bM ?_)))))))))); refine ⟨false, ⟨rfl, trivial⟩, ⟨rfl, rfl, trivial⟩, (Evo.refl [] w8), ?_⟩; simp only [decide_eq_true_eq, Bool.false_eq_true, true_iff, false_iff, Bool.not_eq_true'] at *
     grind
    refine aK (aF (aD rfl cZ) (aK (aF (aI rfl aW (aJ hB11 rfl)) (aK (aF (bC rfl rfl) ?_))))); refine aK (aH (aU (t := 52) rfl (fun hs52 => ?_) (fun hs52 => ?_)))
    ·refine aK (aF (aD rfl cU) (aK (aF (aI rfl aW (aJ hB11 rfl)) (aK (aF (bC rfl rfl) ?_))))); refine aK (aY (aK (aH (aU (t := 57) rfl (fun hs57 => ?_) (fun hs57 => ?_)))))
     ·refine aK (aF (aD rfl eC) (aK (aF (aI rfl eA (aJ hB11 rfl)) (aK (aF (eJ rfl) ?_))))); refine aK (aY (aK (aR (aY (aH (gS (t := 64) rfl (fun hs64 => ?_) (fun hs64 => ?_)))))))
      ·refine aK (aH (aK (aF (bC rfl rfl) ?_))); refine aK (aH (aU (t := 67) rfl (fun hs67 => ?_) (fun hs67 => ?_)))
       ·refine aG (aG (aG (aG (cA ?_)))); refine cA ?_; refine cA ?_; refine aG (aK (aY (aY (aN (aC (bM ?_)))))); refine ⟨true, ⟨rfl, trivial⟩, ⟨rfl, rfl, trivial⟩, (Evo.refl [] w8), ?_⟩; simp only [decide_eq_true_eq, Bool.false_eq_true, true_iff, false_iff, Bool.not_eq_true'] at *
        grind
       refine aK (aF (aD rfl dP) (aK (aF (aI rfl aW (aJ hB11 rfl)) (aK (aF (bC rfl rfl) ?_))))); refine aK (aH (aU (t := 71) rfl (fun hs71 => ?_) (fun hs71 => ?_)))
       ·refine aK (aF (aD rfl dM) (aK (aF (aI rfl cL (aJ hB11 rfl)) (aK (aF (gI rfl rfl) ?_))))); refine aK (aY (aK (aR (aY (aN (aC (bM ?_))))))); refine ⟨(decide (t.name = ByteArray.mk #[])), ⟨rfl, trivial⟩, ⟨rfl, rfl, trivial⟩, (Evo.refl [] w8), ?_⟩; simp only [decide_eq_true_eq, Bool.false_eq_true, true_iff, false_iff, Bool.not_eq_true'] at *
        grind
       refine aG (aG (aG (aK (aR (aK (aR (aY (aN (aC (bM ?_)))))))))); refine ⟨false, ⟨rfl, trivial⟩, ⟨rfl, rfl, trivial⟩, (Evo.refl [] w8), ?_⟩; simp only [decide_eq_true_eq, Bool.false_eq_true, true_iff, false_iff, Bool.not_eq_true'] at *
       grind
      refine aG (aG (aG (cA ?_))); refine cA ?_; refine cA ?_; refine cA ?_; refine cA ?_; refine cA ?_; refine cA ?_; refine cA ?_; refine aG (aR (aN (aC (bM ?_)))); refine ⟨false, ⟨rfl, trivial⟩, ⟨rfl, rfl, trivial⟩, (Evo.refl [] w8), ?_⟩; simp only [decide_eq_true_eq, Bool.false_eq_true, true_iff, false_iff, Bool.not_eq_true'] at *
      grind
     refine aG (aG (aG (aK (aR (aK (aR (aY (aH (aG (aG (aG (cA ?_)))))))))))); refine cA ?_; refine cA ?_; refine cA ?_; refine cA ?_; refine cA ?_; refine cA ?_; refine cA ?_; refine aG (aR (aN (aC (bM ?_)))); refine ⟨false, ⟨rfl, trivial⟩, ⟨rfl, rfl, trivial⟩, (Evo.refl [] w8), ?_⟩; simp only [decide_eq_true_eq, Bool.false_eq_true, true_iff, false_iff, Bool.not_eq_true'] at *
     grind
    refine aG (aG (aG (aK (aR (aK (aH (aG (aG (aG (aK (aR (aK (aR (aY ?_)))))))))))))); refine aH (aG (aG (aG (cA ?_)))); refine cA ?_; refine cA ?_; refine cA ?_; refine cA ?_; refine cA ?_; refine cA ?_; refine cA ?_; refine aG (aR (aN (aC (bM ?_)))); refine ⟨false, ⟨rfl, trivial⟩, ⟨rfl, rfl, trivial⟩, (Evo.refl [] w8), ?_⟩; simp only [decide_eq_true_eq, Bool.false_eq_true, true_iff, false_iff, Bool.not_eq_true'] at *
    grind
   refine aG (aG (aG (cA ?_))); refine cA ?_; refine cA ?_; refine cA ?_; refine cA ?_; refine cA ?_; refine cA ?_; refine cA ?_; refine cA ?_; refine cA ?_; refine cA ?_; refine cA ?_; refine cA ?_; refine aG (aR (aH (aG (aG (aG (cA ?_)))))); refine cA ?_; refine cA ?_; refine cA ?_; refine cA ?_; refine cA ?_; refine cA ?_; refine cA ?_; refine aG (aR (aN (aC (bM ?_)))); refine ⟨false, ⟨rfl, trivial⟩, ⟨rfl, rfl, trivial⟩, (Evo.refl [] w8), ?_⟩; simp only [decide_eq_true_eq, Bool.false_eq_true, true_iff, false_iff, Bool.not_eq_true'] at *
   grind
  rintro y w12 ⟨hV13, hy⟩; refine aA ?_; show CW _ _ _ _ [(5, _), (2, _), (4, _)] _; have hE14 := hE10.then hV13; refine aE (aB (aH (aH (gS (t := 79) rfl (fun hs79 => ?_) (fun hs79 => ?_)))))
  ·subst hs79; refine aK (aH (aY (aN (aC (aA (aO (br1 ?_))))))); refine ⟨_, rfl, ?_, hE14⟩; rw [BN, hy]; have := hz.1 rfl
   grind
  subst hs79; refine aG (aR (aN (aC (aA (aO (br1 ?_)))))); refine ⟨false, rfl, ?_, hE14⟩; rw [BN]
  simp only [Bool.false_eq_true, false_iff]; intro hh
  have := hz.2 ⟨hh.1, hh.2.1⟩; cases this
theorem QP {l : List (Int × Int)} {k j : Nat} (hk : k < l.length) (h : j < l.length) (e : k + 1 = j + 1) : l[k].2 + 2 = l[j].2 + 2 := by
  obtain rfl : k = j := by omega
  rfl
theorem OD {X : List Nat} {w : World} {v : Value} {l : List (Int × Int)} (hs : RSl 2 RRg X w v l) (hl : l.length ≤ 140737488351232) : Calls Tryz.prog 78 #[v] w (Ret fun v w' => ∃ b, v = .bool b ∧ (b = true ↔ RangesOk l) ∧ Evo [] w w') := by
  obtain ⟨sa, sc, rfl, hlc, e1⟩ := hs; refine bL (N := 59) Tryz.func78 rfl rfl rfl ?_; refine aE (aB (aN (aC (aA (aE (aB (aN (aC (aA (aE (aE (aB (aN (aC (aA (bS ?_)))))))))))))))); refine fC (α := Nat × Int) ((0, 0)) (fun x => [(3, .int .i32 x.2), (4, .int .i64 (x.1 : Nat))]) [(0, _)] (fun x wr => Evo [] w wr ∧ (x.1 ≤ l.length ∧ RangesTo l x.1 ∧ (x.1 = 0 → x.2 = 0) ∧ (∀ j (h : j < l.length), x.1 = j + 1 → x.2 = l[j].2 + 2))) (fun x => l.length - x.1) ⟨rfl, rfl, trivial⟩ ⟨rfl, trivial⟩ ⟨Evo.refl _ _, ⟨Nat.zero_le _, fun i _ h => by omega, fun _ => rfl, fun j _ h => by omega⟩⟩ ?_; rintro ⟨k, nx⟩ wr1 ⟨hV2, ⟨hk, hok, hn0, hn1⟩⟩; show CW _ _ _ _ [(3, .int .i32 nx), (4, .int .i64 (k : Nat)), (0, _)] _
  try dsimp only at hk
  try dsimp only at hok
  try dsimp only at hn0
  try dsimp only at hn1
  have hE3 := (Evo.refl [] w).then hV2; refine aE (aE (aB (aH (aH (aF (bK rfl Tryz.underlying24 rfl) ?_))))); refine aF (dF rfl rfl) ?_; refine aC (aA (bG rfl (fun hc8 => ?_) (fun hc8 => ?_)))
  ·have hnx : 0 ≤ nx := by
      by_cases hk0 : k = 0
      · have := hn0 hk0; omega
      · have h1 := hn1 (k - 1) (by omega) (by omega); have h2 := (hok (k - 1) (by omega) (by omega)); omega
   have hk' : k < l.length := by omega
   obtain ⟨b1, o1, vs1, ha1, hb1, -, hc1, rfl⟩ := e1 k hk'; refine aX (aA (aE (bS (aE (aE ?_))))); refine fJ (by kernel_rfl) (by kernel_rfl) ?_; refine bJ (fun _ hq5 => bH rfl) ?_; refine bJ (fun _ hq5 => bH rfl) ?_
   refine bJ (fun _ hq5 => eS (n := k) (by rw [ha1]; rfl) rfl dZ (by omega)) ?_
   refine bJ (fun _ hq5 => aD rfl fS) ?_; refine bJ (fun _ hq5 => aI rfl bZ ((hc1.evo (hE3.then hq5) (by simp)) 0 _ rfl)) ?_; refine bJ (fun _ hq5 => bH rfl) ?_; refine bJ (fun _ hq5 => dF rfl rfl) ?_; refine bJ (fun _ hq5 => bH rfl) ?_; refine jO (t := 18) rfl (fun hs18 => ?_) (fun hs18 => ?_)
   ·refine qln ?_; refine qln ?_; refine qln ?_; refine qln ?_; refine qln ?_; refine qln ?_; refine qln ?_; refine qln ?_; refine qln ?_; refine qln ?_; refine qln ?_; refine bJ (fun _ hq5 => eG rfl rfl) ?_; refine bJ (fun _ hq5 => bH rfl) ?_; refine qln ?_; refine qln ?_; refine qln ?_; refine qln ?_; refine qln ?_; refine qln ?_; refine bJ (fun _ hq5 => eG rfl rfl) ?_; refine fO (fun wq4 hq5 => aA ?_); have hE6 := hE3.then hq5; refine cM rfl ?_; refine aE (aB (aN (aC (aA (aO (aM (aV (aM (aM (aV (aM (br1 ?_))))))))))))
    exact ⟨false, rfl, by simp only [Bool.false_eq_true, false_iff]; exact fun h => by have h2 := h.1 k hk'; by_cases hk0 : k = 0; have := hn0 hk0; omega; have h1 := hn1 (k - 1) (by omega) (by omega); have := h2.2.2.2 (k - 1) (by omega) (by omega); omega, hE6⟩
   refine qlg ?_; refine bJ (fun _ hq5 => bH rfl) ?_; refine qlg ?_; refine bJ (fun _ hq5 => bH rfl) ?_; refine qlg ?_
   refine bJ (fun _ hq5 => eS (n := k) (by rw [ha1]; rfl) rfl dZ (by omega)) ?_
   refine qlg ?_; refine bJ (fun _ hq5 => aD rfl eM) ?_; refine qlg ?_; refine bJ (fun _ hq5 => aI rfl bZ ((hc1.evo (hE3.then hq5) (by simp)) 1 _ rfl)) ?_; refine qlg ?_; refine bJ (fun _ hq5 => bH rfl) ?_; refine qlg ?_; refine bJ (fun _ hq5 => bH rfl) ?_; refine qlg ?_
   refine bJ (fun _ hq5 => eS (n := k) (by rw [ha1]; rfl) rfl dZ (by omega)) ?_
   refine qlg ?_; refine bJ (fun _ hq5 => aD rfl fS) ?_; refine qlg ?_; refine bJ (fun _ hq5 => aI rfl bZ ((hc1.evo (hE3.then hq5) (by simp)) 0 _ rfl)) ?_; refine qlg ?_; refine bJ (fun _ hq5 => dF rfl rfl) ?_; refine bJ (fun _ hq5 => fQ rfl rfl) ?_; refine bJ (fun _ hq5 => bH rfl) ?_; refine jO (t := 31) rfl (fun hs31 => ?_) (fun hs31 => ?_)
   ·refine qln ?_; refine qln ?_; refine qln ?_; refine qln ?_; refine qln ?_; refine qln ?_; refine bJ (fun _ hq5 => eG rfl rfl) ?_; refine fO (fun wq4 hq5 => aA ?_); have hE8 := hE3.then hq5; refine cM rfl ?_; refine aE (aB (aN (aC (aA (aO (aM (aV (aM (aM (aV (aM (br1 ?_))))))))))))
    exact ⟨false, rfl, by simp only [Bool.false_eq_true, false_iff]; exact fun h => by have h2 := h.1 k hk'; omega, hE8⟩
   refine qlg ?_; refine bJ (fun _ hq5 => bH rfl) ?_; refine qlg ?_; refine bJ (fun _ hq5 => bH rfl) ?_; refine qlg ?_
   refine bJ (fun _ hq5 => eS (n := k) (by rw [ha1]; rfl) rfl dZ (by omega)) ?_
   refine qlg ?_; refine bJ (fun _ hq5 => aD rfl eM) ?_; refine qlg ?_; refine bJ (fun _ hq5 => aI rfl bZ ((hc1.evo (hE3.then hq5) (by simp)) 1 _ rfl)) ?_; refine qlg ?_; refine bJ (fun _ hq5 => fI rfl rfl) ?_; refine bJ (fun _ hq5 => fQ rfl rfl) ?_; refine fO (fun wq4 hq5 => aA ?_); have hE10 := hE3.then hq5; have hE11 := hV2.then hq5; refine bG rfl (fun hc38 => ?_) (fun hc38 => ?_)
   ·refine aE (aB (aN (aC (aA (aO (aM (aV (aM (aM (aV (aM (br1 ?_))))))))))))
    exact ⟨false, rfl, by simp only [Bool.false_eq_true, false_iff]; exact fun h => by have h2 := h.1 k hk'; omega, hE10⟩
   refine aX (aA (aB (aH (aH ?_))))
   refine aF (eS (n := k) (by rw [ha1]; rfl) rfl dZ (by omega)) ?_
   refine aF (aD rfl eM) ?_; refine aF (aI rfl bZ ((hc1.evo hE10 (by simp)) 1 _ rfl)) ?_; refine aF (jJ rfl rfl (by omega) (by omega)) ?_; refine aN (aC (aZ (aA (aB (aH ?_))))); refine aF (bE rfl rfl (by omega) (by omega)) ?_; refine aN (aC (bM ?_)); refine ⟨(k + 1, l[k].2 + 2), ?_, ⟨rfl, rfl, trivial⟩, ⟨rfl, trivial⟩, hE11, ?_⟩
   · (try dsimp only); omega
   try dsimp only
   refine ⟨by omega, hok.succ hk' ?_ (by omega) (by omega) ?_, fun h => by omega, fun j h e => QP hk' h e⟩
   · by_cases hk0 : k = 0
     · have := hn0 hk0; omega
     · have h1 := hn1 (k - 1) (by omega) (by omega); have h2 := (hok (k - 1) (by omega) (by omega)); omega
   · intro j hj e; have h1 := hn1 j hj e; omega
  refine dW (cJ (cJ (dV (aA ?_)))); refine aE ?_; refine fJ (by kernel_rfl) (by kernel_rfl) ?_; refine bJ (fun _ hq13 => bH rfl) ?_; refine bJ (fun _ hq13 => bK rfl Tryz.underlying24 rfl) ?_; refine bJ (fun _ hq13 => fH rfl rfl) ?_; refine bJ (fun _ hq13 => bH rfl) ?_; refine jO (t := 48) rfl (fun hs48 => ?_) (fun hs48 => ?_)
  ·refine qln ?_; refine qln ?_; refine qln ?_; refine qln ?_; refine qln ?_; refine qln ?_; refine qln ?_; refine qln ?_; refine qln ?_; refine bJ (fun _ hq13 => eG rfl rfl) ?_; refine bJ (fun _ hq13 => eV rfl) ?_; refine fO (fun wq12 hq13 => aA ?_); have hE14 := hE3.then hq13; refine aO (br1 ?_)
   exact ⟨true, rfl, by simp only [true_iff]; exact hok.ok (by omega) (fun h => by omega), hE14⟩
  obtain ⟨b1, o1, vs1, ha1, hb1, -, hc1, rfl⟩ := e1 0 (by omega); refine qlg ?_; refine bJ (fun _ hq13 => bH rfl) ?_; refine qlg ?_
  refine bJ (fun _ hq13 => fV (n := 0) (by rw [ha1]; rfl) rfl rfl dZ (by omega)) ?_
  refine qlg ?_; refine bJ (fun _ hq13 => aD rfl fS) ?_; refine qlg ?_; refine bJ (fun _ hq13 => aI rfl bZ ((hc1.evo (hE3.then hq13) (by simp)) 0 _ rfl)) ?_; refine qlg ?_; refine bJ (fun _ hq13 => bH rfl) ?_; refine qlg ?_
  refine bJ (fun _ hq13 => fV (n := 0) (by rw [ha1]; rfl) rfl rfl dZ (by omega)) ?_
  refine qlg ?_; refine bJ (fun _ hq13 => aD rfl eM) ?_; refine qlg ?_; refine bJ (fun _ hq13 => aI rfl bZ ((hc1.evo (hE3.then hq13) (by simp)) 1 _ rfl)) ?_; refine qlg ?_; refine bJ (fun _ hq13 => fH rfl rfl) ?_; refine bJ (fun _ hq13 => fQ rfl rfl) ?_; refine bJ (fun _ hq13 => eV rfl) ?_; refine fO (fun wq12 hq13 => aA ?_); have hE16 := hE3.then hq13; refine aO (br1 ?_)
  exact ⟨_, rfl, by simp only [decide_eq_true_eq]; exact ⟨fun h => hok.ok (by omega) (fun _ => h), fun h => h.2 (by omega)⟩, hE16⟩
theorem EU {w : World} (c : Nat) : Calls Tryz.prog 103 #[.int .i32 (c : Nat)] w (Ret fun v w' => v = .bool (decide (fT c)) ∧ Evo [] w w') := by
  refine bL (N := 29) Tryz.func103 rfl rfl rfl ?_; refine aE (aB (aN (aC (aA (aE (aB (aH (aF (bC rfl rfl) ?_)))))))); refine aH (aU (t := 5) rfl (fun hs5 => ?_) (fun hs5 => ?_))
  ·refine aG (aG (aG (cA ?_))); refine cA ?_; refine aG (aY (aH (aG (aG (aG (cA ?_)))))); refine cA ?_; refine aG (aY (aH (aG (aG (aG (cA ?_)))))); refine cA ?_; refine aG (aY (aN (aC (aA (aO (br1 ?_)))))); refine ⟨congrArg Value.bool (Bool.eq_iff_iff.2 ?_), (Evo.refl [] w)⟩
   simp only [decide_eq_true_eq, Bool.false_eq_true, Bool.true_eq_false, true_iff, false_iff, eq_self, iff_true]; unfold fT; omega
  refine aK (aH (aK (aF (fG rfl rfl) ?_))); refine aK (aH (aU (t := 8) rfl (fun hs8 => ?_) (fun hs8 => ?_)))
  ·refine aK (aH (aK (aF (fP rfl rfl) ?_))); refine aK (aY (aR (aH (aU (t := 13) rfl (fun hs13 => ?_) (fun hs13 => ?_)))))
   ·refine aG (aG (aG (cA ?_))); refine cA ?_; refine aG (aY (aH (aG (aG (aG (cA ?_)))))); refine cA ?_; refine aG (aY (aN (aC (aA (aO (br1 ?_)))))); refine ⟨congrArg Value.bool (Bool.eq_iff_iff.2 ?_), (Evo.refl [] w)⟩
    simp only [decide_eq_true_eq, Bool.false_eq_true, Bool.true_eq_false, true_iff, false_iff, eq_self, iff_true]; unfold fT; omega
   refine aK (aH (aK (aF (fG rfl rfl) ?_))); refine aK (aH (aU (t := 16) rfl (fun hs16 => ?_) (fun hs16 => ?_)))
   ·refine aK (aH (aK (aF (fP rfl rfl) ?_))); refine aK (aY (aR (aH (aU (t := 21) rfl (fun hs21 => ?_) (fun hs21 => ?_)))))
    ·refine aG (aG (aG (cA ?_))); refine cA ?_; refine aG (aY (aN (aC (aA (aO (br1 ?_)))))); refine ⟨congrArg Value.bool (Bool.eq_iff_iff.2 ?_), (Evo.refl [] w)⟩
     simp only [decide_eq_true_eq, Bool.false_eq_true, Bool.true_eq_false, true_iff, false_iff, eq_self, iff_true]; unfold fT; omega
    refine aK (aH (aK (aF (fG rfl rfl) ?_))); refine aK (aH (aU (t := 24) rfl (fun hs24 => ?_) (fun hs24 => ?_)))
    ·refine aK (aH (aK (aF (fP rfl rfl) ?_))); refine aK (aY (aR (aN (aC (aA (aO (br1 ?_))))))); refine ⟨congrArg Value.bool (Bool.eq_iff_iff.2 ?_), (Evo.refl [] w)⟩
     simp only [decide_eq_true_eq, Bool.false_eq_true, Bool.true_eq_false, true_iff, false_iff, eq_self, iff_true]; unfold fT; omega
    refine aG (aG (aK (aR (aR (aN (aC (aA (aO (br1 ?_))))))))); refine ⟨congrArg Value.bool (Bool.eq_iff_iff.2 ?_), (Evo.refl [] w)⟩
    simp only [decide_eq_true_eq, Bool.false_eq_true, Bool.true_eq_false, true_iff, false_iff, eq_self, iff_true]; unfold fT; omega
   refine aG (aG (aK (aR (aR (aH (aK (aH (aK (aF (fG rfl rfl) ?_))))))))); refine aK (aH (aU (t := 24) rfl (fun hs24 => ?_) (fun hs24 => ?_)))
   ·refine aK (aH (aK (aF (fP rfl rfl) ?_))); refine aK (aY (aR (aN (aC (aA (aO (br1 ?_))))))); refine ⟨congrArg Value.bool (Bool.eq_iff_iff.2 ?_), (Evo.refl [] w)⟩
    simp only [decide_eq_true_eq, Bool.false_eq_true, Bool.true_eq_false, true_iff, false_iff, eq_self, iff_true]; unfold fT; omega
   refine aG (aG (aK (aR (aR (aN (aC (aA (aO (br1 ?_))))))))); refine ⟨congrArg Value.bool (Bool.eq_iff_iff.2 ?_), (Evo.refl [] w)⟩
   simp only [decide_eq_true_eq, Bool.false_eq_true, Bool.true_eq_false, true_iff, false_iff, eq_self, iff_true]; unfold fT; omega
  refine aG (aG (aK (aR (aR (aH (aK (aH (aK (aF (fG rfl rfl) ?_))))))))); refine aK (aH (aU (t := 16) rfl (fun hs16 => ?_) (fun hs16 => ?_)))
  ·refine aK (aH (aK (aF (fP rfl rfl) ?_))); refine aK (aY (aR (aH (aU (t := 21) rfl (fun hs21 => ?_) (fun hs21 => ?_)))))
   ·refine aG (aG (aG (cA ?_))); refine cA ?_; refine aG (aY (aN (aC (aA (aO (br1 ?_)))))); refine ⟨congrArg Value.bool (Bool.eq_iff_iff.2 ?_), (Evo.refl [] w)⟩
    simp only [decide_eq_true_eq, Bool.false_eq_true, Bool.true_eq_false, true_iff, false_iff, eq_self, iff_true]; unfold fT; omega
   refine aK (aH (aK (aF (fG rfl rfl) ?_))); refine aK (aH (aU (t := 24) rfl (fun hs24 => ?_) (fun hs24 => ?_)))
   ·refine aK (aH (aK (aF (fP rfl rfl) ?_))); refine aK (aY (aR (aN (aC (aA (aO (br1 ?_))))))); refine ⟨congrArg Value.bool (Bool.eq_iff_iff.2 ?_), (Evo.refl [] w)⟩
    simp only [decide_eq_true_eq, Bool.false_eq_true, Bool.true_eq_false, true_iff, false_iff, eq_self, iff_true]; unfold fT; omega
   refine aG (aG (aK (aR (aR (aN (aC (aA (aO (br1 ?_))))))))); refine ⟨congrArg Value.bool (Bool.eq_iff_iff.2 ?_), (Evo.refl [] w)⟩
   simp only [decide_eq_true_eq, Bool.false_eq_true, Bool.true_eq_false, true_iff, false_iff, eq_self, iff_true]; unfold fT; omega
  refine aG (aG (aK (aR (aR (aH (aK (aH (aK (aF (fG rfl rfl) ?_))))))))); refine aK (aH (aU (t := 24) rfl (fun hs24 => ?_) (fun hs24 => ?_)))
  ·refine aK (aH (aK (aF (fP rfl rfl) ?_))); refine aK (aY (aR (aN (aC (aA (aO (br1 ?_))))))); refine ⟨congrArg Value.bool (Bool.eq_iff_iff.2 ?_), (Evo.refl [] w)⟩
   simp only [decide_eq_true_eq, Bool.false_eq_true, Bool.true_eq_false, true_iff, false_iff, eq_self, iff_true]; unfold fT; omega
  refine aG (aG (aK (aR (aR (aN (aC (aA (aO (br1 ?_))))))))); refine ⟨congrArg Value.bool (Bool.eq_iff_iff.2 ?_), (Evo.refl [] w)⟩
  simp only [decide_eq_true_eq, Bool.false_eq_true, Bool.true_eq_false, true_iff, false_iff, eq_self, iff_true]; unfold fT; omega
structure CAt (w : World) (jb : Nat) (nodes caps : Nat) (ns : List ByteArray) (a : Option Addr) (c : Nat) (ob : Option Nat) : Prop where
  blk : w.heap[jb]? = some (.cells #[iv (nodes : Nat), iv (caps : Nat), .slice a ns.length c] 97 (0, 0))
  own : OwnS w 9 1 a ns.length c (ns.map sv) ob
  ne : ∀ g, ob = some g → g ≠ jb
def NameNew (nm : ByteArray) (ns : List ByteArray) : Prop := tV nm ∧ (nm = ByteArray.mk #[] ∨ nm ∉ ns)
theorem LW {w : World} {jb nodes caps : Nat} {ns : List ByteArray} {a : Option Addr} {c : Nat} {ob : Option Nat} {nm : ByteArray} (hJ : CAt w jb nodes caps ns a c ob) (hl : ns.length ≤ 100000) (hn : nm.size ≤ 140737488351232) :
    Calls Tryz.prog 79 #[.pointer (some ⟨jb, 0, none⟩), .string nm] w (Ret fun v w' => ∃ b, v = .bool b ∧ (b = true ↔ NameNew nm ns) ∧ Evo (jb :: ob.toList) w w' ∧
      (b = true → ∃ a' c' ob', CAt w' jb nodes caps (ns ++ [nm]) a' c' ob' ∧ (ob' = ob ∨ ∃ g, ob' = some g ∧ w.heap.size ≤ g))) := by
  obtain ⟨hB, hO, hne⟩ := hJ
  have hAJN : Apart (some jb) ob := fun g h1 h2 => by cases h1; exact hne jb h2 rfl
  have hlt := fR hB; refine bL (N := 51) Tryz.func79 rfl rfl rfl ?_; refine aE (aB (aN (aC (aA (aE (aE (aB (aN (aC (aA (bS ?_))))))))))); refine fC (α := Nat) (0) (fun k => [(5, .int .i64 (k : Nat))]) [(0, _), (1, _)] (fun k wr => Evo [] w wr ∧ (k ≤ nm.size ∧ ∀ j, j < k → fT (sb nm j))) (fun k => nm.size - k) ⟨rfl, trivial⟩ ⟨rfl, rfl, trivial⟩ ⟨Evo.refl _ _, ⟨Nat.zero_le _, fun j h => by omega⟩⟩ ?_; rintro k wr1 ⟨hV2, ⟨hk, hok⟩⟩; show CW _ _ _ _ [(5, _), (0, _), (1, _)] _; have hE3 := (Evo.refl (jb :: ob.toList) w).then hV2; have hB4 := hV2.blk0 hB; have hO5 := hO.evo0 hV2; refine aE (aE (aB (aH (aH (aF (cT rfl Tryz.underlying9 rfl) ?_))))); refine aF (dF rfl rfl) ?_; refine aC (aA (bG rfl (fun hc10 => ?_) (fun hc10 => ?_)))
  ·have hk' : k < nm.size := by omega
   refine aX (aA (aE (bS (aE (aB (aH (aH ?_))))))); refine aF (gH (n := k) rfl rfl Tryz.underlying9 rfl (by omega)) ?_
   refine aF (iV rfl Tryz.underlying5 Tryz.underlying21 (by have := jC nm k; simp [IntKind.min, IntKind.max, IntKind.signed, IntKind.bits] <;> omega) (by have := jC nm k; simp [IntKind.min, IntKind.max, IntKind.signed, IntKind.bits] <;> omega)) ?_
   refine aP (vs := [_]) EJ rfl (EU (sb nm k)) rfl ?_; rintro _ w6 ⟨rfl, hw7⟩; have hE8 := hE3.then hw7; have hE9 := hV2.then hw7; refine aF (mS rfl) ?_; refine aC (aA (bG rfl (fun hc18 => ?_) (fun hc18 => ?_)))
   ·refine aE (aB (aN (aC (aA (aO (aV (aM (aM (aV (aM (br1 ?_)))))))))))
    exact ⟨false, rfl, by simp only [Bool.false_eq_true, false_iff]; exact fun h => hc18 (h.1 k hk'), hE8, fun h => by cases h⟩
   refine aX (aZ (aA (aB (aH ?_)))); refine aF (bE rfl rfl (by omega) (by omega)) ?_; refine aN (aC (bM ?_)); refine ⟨k + 1, ?_, ⟨rfl, trivial⟩, ⟨rfl, rfl, trivial⟩, hE9, ?_⟩
   · omega
   refine ⟨by omega, fun j hj => ?_⟩
   by_cases e : j < k
   · exact hok j e
   · obtain rfl : j = k := by omega
     exact Classical.not_not.1 hc18
  refine dW (cJ (cJ (dV (aA ?_)))); refine aE (aE (aB (aN (aC (aA (bS ?_)))))); refine fC (α := Nat) (0) (fun l => [(6, .int .i64 (l : Nat))]) [(0, _), (1, _)] (fun l wr => Evo [] wr1 wr ∧ (l ≤ ns.length ∧ ∀ j (hj : j < ns.length), j < l → nm = ByteArray.mk #[] ∨ ¬ ns[j] = nm)) (fun l => ns.length - l) ⟨rfl, trivial⟩ ⟨rfl, rfl, trivial⟩ ⟨Evo.refl _ _, ⟨Nat.zero_le _, fun j _ h => by omega⟩⟩ ?_; rintro l wr12 ⟨hV13, ⟨hl2, hno⟩⟩; show CW _ _ _ _ [(6, _), (0, _), (1, _)] _; have hE14 := hE3.then hV13; have hB16 := hV13.blk0 hB4; have hO17 := hO5.evo0 hV13; refine aE (aE (aB (aH (aH (aF (aQ rfl) (aF (aD rfl nU) (aF (aI rfl jK (aJ hB16 rfl)) (aF (bK rfl Tryz.underlying22 rfl) ?_)))))))); refine aF (dF rfl rfl) ?_; refine aC (aA (bG rfl (fun hc25 => ?_) (fun hc25 => ?_)))
  ·have hl' : l < ns.length := by omega
   obtain ⟨gN, haN, hcN⟩ := FK hO17 (by omega); refine aX (aA (aE (bS (aE (aB (aH (aF (uL rfl rfl) ?_))))))); refine aH (aU (t := 30) rfl (fun hs30 => ?_) (fun hs30 => ?_))
   ·refine aK (aH (aK (aF (aQ rfl) (aK (aF (aD rfl nU) (aK (aF (aI rfl jK (aJ hB16 rfl)) (aK (aH (aK ?_))))))))))
    refine aF (eS (n := l) (by rw [haN]; rfl) rfl sC (by omega)) ?_
    refine aK ?_; refine aF (aI rfl cL (hcN l (by omega))) ?_; refine aK (aH (aK (aF (gI rfl rfl) ?_))); refine aY (aC (aA (bG rfl (fun hc40 => ?_) (fun hc40 => ?_))))
    ·refine aE (aB (aN (aC (aA (aO (aV (aM (aM (aV (aM (br1 ?_)))))))))))
     exact ⟨false, rfl, by simp only [Bool.false_eq_true, false_iff]; exact fun h => by rcases h.2 with h1 | h1; exact hs30 h1; exact h1 (hc40 ▸ List.getElem_mem hl'), hE14, fun h => by cases h⟩
    refine aX (aZ (aA (aB (aH ?_)))); refine aF (bE rfl rfl (by omega) (by omega)) ?_; refine aN (aC (bM ?_)); refine ⟨l + 1, ?_, ⟨rfl, trivial⟩, ⟨rfl, rfl, trivial⟩, hV13, ?_⟩
    · omega
    refine ⟨by omega, fun j hj hjl => ?_⟩
    by_cases e : j < l
    · exact hno j hj e
    · obtain rfl : j = l := by omega
      first | exact .inl (Classical.not_not.1 hs30) | exact .inr hc40
   refine aG (aG (aG (aG (aG (aG (aG (aG (aG (aR (aC (aA (cN rfl ?_)))))))))))); refine aX (aZ (aA (aB (aH ?_)))); refine aF (bE rfl rfl (by omega) (by omega)) ?_; refine aN (aC (bM ?_)); refine ⟨l + 1, ?_, ⟨rfl, trivial⟩, ⟨rfl, rfl, trivial⟩, hV13, ?_⟩
   · omega
   refine ⟨by omega, fun j hj hjl => ?_⟩
   by_cases e : j < l
   · exact hno j hj e
   · exact .inl (Classical.not_not.1 hs30)
  refine dW (cJ (cJ (dV (aA ?_)))); refine aE (aB (aH (aH (aF (aQ rfl) (aF (aD rfl nU) (aF (aI rfl jK (aJ hB16 rfl)) (aH (bP (vs := [_]) rfl qU rfl rfl rfl rfl fun b18 w19 hO20 hs21 hw22 => ?_)))))))); have hE28 := hE14.then hw22; have hB31 := hw22.blk0 hB16; have hO32 := hO17.evo0 hw22; have hszg := (hE28).size; refine dT rfl rfl rfl rfl pL hO32 (Src.ofOwn hO20 ⟨rfl, trivial⟩) (by omega) fun a2 c2 w35 ob2 hO2 hw38 hob39 => ?_; have hA40 := hAJN.app (Lt.blk hB31) hob39; have hE42 := hE28.step hw38 (fun y hy => .inl (List.mem_cons_of_mem _ hy)); have hB45 := hw38.blk hB31 hAJN.nmem; have hob2 : ob2 = ob ∨ ∃ g, ob2 = some g ∧ w.heap.size ≤ g := hob39.imp id (fun ⟨g, h1, h2⟩ => ⟨g, h1, Nat.le_trans hszg h2⟩); refine aF (aQ rfl) (aF (aD rfl nU) (bI rfl rfl (rfl) rU hB45 rfl fun w47 hB48 hw49 => ?_))
  have hE50 := hE42.step hw49 (fun y hy => .inl (by rw [List.mem_singleton.1 hy]; exact List.mem_cons_self ..))
  have hO52 := hO2.evo hw49 hA40.symm.own1
  try simp only [cV, Nat.reduceAdd] at hB48
  refine aC (aA (aE (aB (aN (aC (aA (aO (br1 ?_)))))))); refine ⟨true, rfl, ?_, hE50, fun _ => ⟨a2, c2, ob2, ⟨?_, ?_, LM hne hlt hob2⟩, hob2⟩⟩
  · simp only [true_iff]; exact ⟨fun j hj => hok j (by omega), FV (fun j hj => hno j hj (by omega))⟩
  · simp only [List.length_append, List.length_cons, List.length_nil]; exact hB48
  · rw [List.map_append, List.length_append]; exact hO52
theorem EL : Build Tryz.prog 97 #[(0, 1), (1, 1), (2, 1)] #[.int .i64 0, .int .i64 0, .slice none 0 0] := ⟨_, .agg #[.int .i64 0, .int .i64 0, .slice none 0 0], Tryz.underlying97, by kernel_rfl, rfl, fun w => by kernel_rfl⟩
theorem qX : gB Tryz.prog 97 0 = some 0 := by kernel_rfl
theorem jG : gB Tryz.prog 97 1 = some 1 := by kernel_rfl
theorem wT : fA Tryz.prog 52 := ⟨_, Tryz.func52, by kernel_rfl, by kernel_rfl⟩
theorem HW : fA Tryz.prog 76 := ⟨_, Tryz.func76, by kernel_rfl, by kernel_rfl⟩
theorem HV : fA Tryz.prog 77 := ⟨_, Tryz.func77, by kernel_rfl, by kernel_rfl⟩
theorem HU : fA Tryz.prog 78 := ⟨_, Tryz.func78, by kernel_rfl, by kernel_rfl⟩
theorem wQ : fA Tryz.prog 79 := ⟨_, Tryz.func79, by kernel_rfl, by kernel_rfl⟩
theorem Brk.int (a k b : Int) : ∃ z, z = b + (if Brk a k then 1 else 0) := ⟨_, rfl⟩
theorem NodeF.bare {t : Rx} (h : NodeF t) : BareP t := ⟨h.zg, h.leaf, h.zr, h.zm1, h.zm2, h.zl, h.zc, h.zn⟩
theorem SY {t : Rx} {b : Int} {st : St} (hk : t.kind = 2 ∨ t.kind = 3) (h1 : st.1 + 1 ≤ 8194) (hb : b ≤ 250) (hba : BareP t) :
    ((t.fine b st).isSome = true ↔ (t.kind = 2 → 0 ≤ t.r ∧ t.r ≤ 1114111) ∧ (t.kind = 3 → RangesOk t.ranges)) ∧ ∀ st', t.fine b st = some st' → st' = (st.1 + 1, st.2) := by
  have hks : t.kids = [] := List.length_eq_zero_iff.1 (by have := hba.zk; omega)
  have h7 : ¬ t.kind = 7 := by omega
  by_cases hp : (t.kind = 2 → 0 ≤ t.r ∧ t.r ≤ 1114111) ∧ (t.kind = 3 → RangesOk t.ranges)
  · have hf : NodeP t := (bV t).2 ⟨by omega, by omega, hba.zr, hba.zg, hba.zm1, hba.zm2, hba.zl, hba.zc, hba.zn, fun k => (hp.1 k).1, fun k => (hp.1 k).2, hp.2, fun k => by omega, fun k => by omega, fun k => by omega, fun k => by omega, fun k => by omega, fun k => by omega, hba.zk⟩
    have e := gL (x := t) (b := b) (st := st) ⟨h1, by rw [if_neg h7]; exact hb, hf, fun k => (h7 k).elim⟩
    rw [hks, if_neg h7, if_neg h7, dJ] at e
    rw [e]
    exact ⟨⟨fun _ => hp, fun _ => rfl⟩, fun st' h => by cases h; rfl⟩
  · have e := eY (x := t) (b := b) (st := st) (fun h => hp (by have hf := (bV t).1 h.2.2.1; exact ⟨fun k => ⟨hf.lit1 k, hf.lit2 k⟩, hf.cls⟩))
    rw [e]
    exact ⟨⟨fun h => (by cases h), fun h => (hp h).elim⟩, fun st' h => by cases h⟩
set_option maxHeartbeats 8000000 in
theorem HB {n : Nat} (ih : ∀ {w : World} {jb : Nat} {st : St} {a : Option Addr} {c : Nat} {ob : Option Nat} {vs : List Value} {t : Rx} {k b0 : Int} (hJ : CAt w jb st.1 st.2.length st.2 a c ob) (hx : RRx n (jb :: ob.toList) w vs t) (hst : sW st) (hb0 : 0 ≤ b0) (hb1 : b0 ≤ 251), Calls Tryz.prog 52 #[.pointer (some ⟨jb, 0, none⟩), .agg vs.toArray, .int .i64 k, .int .i64 b0] w (Ret fun v w' => ∃ r, v = .bool r ∧ r = (t.fine (b0 + (if Brk t.kind k then 1 else 0)) st).isSome ∧ Evo (jb :: ob.toList) w w' ∧ ∀ st', t.fine (b0 + (if Brk t.kind k then 1 else 0)) st = some st' → sW st' ∧ ∃ a' c' ob', CAt w' jb st'.1 st'.2.length st'.2 a' c' ob' ∧ ∀ g, ob' = some g → g ∈ ob.toList ∨ w.heap.size ≤ g)) {w : World} {jb : Nat} {st : St} {a : Option Addr} {c : Nat} {ob : Option Nat} {vs : List Value} {t : Rx} {k b0 : Int} (hJ : CAt w jb st.1 st.2.length st.2 a c ob) (hx : RRx (n + 1) (jb :: ob.toList) w vs t) (hst : sW st) (hb0 : 0 ≤ b0) (hb1 : b0 ≤ 251) : Calls Tryz.prog 52 #[.pointer (some ⟨jb, 0, none⟩), .agg vs.toArray, .int .i64 k, .int .i64 b0] w (Ret fun v w' => ∃ r, v = .bool r ∧ r = (t.fine (b0 + (if Brk t.kind k then 1 else 0)) st).isSome ∧ Evo (jb :: ob.toList) w w' ∧ ∀ st', t.fine (b0 + (if Brk t.kind k then 1 else 0)) st = some st' → sW st' ∧ ∃ a' c' ob', CAt w' jb st'.1 st'.2.length st'.2 a' c' ob' ∧ ∀ g, ob' = some g → g ∈ ob.toList ∨ w.heap.size ≤ g) := by
  obtain ⟨b, hb⟩ := Brk.int t.kind k b0; rw [← hb]; obtain ⟨hB, hO, hne⟩ := hJ
  have hAJN : Apart (some jb) ob := fun g h1 h2 => by cases h1; exact hne jb h2 rfl
  have hlt := fR hB; have hst1 := hst.1; have hst2 := hst.2
  have hXlt : ∀ y, y ∈ jb :: ob.toList → y < w.heap.size := fun y hy => by
    rcases List.mem_cons.1 hy with h | h
    · rw [h]; exact hlt
    · have : ob = some y := by simpa using h
      subst this; exact hO.lt
  have hx0 := hx; obtain ⟨m, ra, rc, ka, kc, hm, rfl, hrg, hk, bl1, bl2, bl3⟩ := hx.get
  obtain rfl : m = n := by omega
  have hrg0 := hrg; obtain ⟨_, _, hke, hkc, e1⟩ := hk; cases hke; refine bL (N := 169) Tryz.func52 rfl rfl rfl ?_; refine aE (aB (iY rfl rfl fun b5 w1 hB2 hs3 hw4 => ?_)); have hsz_b5 := hs3; have hA5 := Apart.new (Lt.blk hB) hs3; have hA6 := Apart.new (Lt.own hO) hs3; have hE8 := (Evo.refl (jb :: ob.toList) w).then hw4; have hB9 := hw4.blk0 hB; have hO10 := hO.evo0 hw4; refine aN (aC (aA (aE (aB (aH (aF (aQ rfl) (aF (aD rfl qX) (aF (aI rfl aW (aJ hB9 rfl)) ?_)))))))); refine aF (bE rfl rfl (by omega) (by omega)) ?_; refine aF (aQ rfl) (aF (aD rfl qX) (bI rfl rfl (rfl) bT hB9 rfl fun w11 hB12 hw13 => ?_))
  have hE14 := hE8.step hw13 (fun y hy => .inl (by rw [List.mem_singleton.1 hy]; exact List.mem_cons_self ..))
  have hO15 := hO10.evo hw13 hAJN.symm.own1; have hB16 := hw13.blk hB2 hA5.symm.nmem1
  try simp only [cV, Nat.reduceAdd] at hB12
  refine aC (aA (aE (rQ (α := Int) (fun z => [(3, .int .i64 z)]) [(0, _), (5, _), (8, _)] (fun z wr => Evo [] w11 wr ∧ (z = b)) ⟨rfl, rfl, rfl, trivial⟩ ?_ ?_)))
  ·refine aE (aB (aH (aF (aD rfl dR) (aF (aI rfl aW (aJ hB16 rfl)) (aP (vs := [_, _]) HW rfl (HG k t.kind) rfl ?_))))); rintro _ w17 ⟨rfl, hw18⟩; have hE20 := (Evo.refl [] w11).then hw18; refine aC (aA (bG rfl (fun hc21 => ?_) (fun hc21 => ?_)))
   ·refine aB (aH ?_); refine aF (bE rfl rfl (by omega) (by omega)) ?_; refine aN (aC (bM ?_)); refine ⟨(b0 + 1), ⟨rfl, trivial⟩, ⟨rfl, rfl, rfl, trivial⟩, hE20, ?_⟩; rw [hb, if_pos hc21]
   refine aX (bM ?_); refine ⟨b0, ⟨rfl, trivial⟩, ⟨rfl, rfl, rfl, trivial⟩, hE20, ?_⟩
   rw [hb, if_neg hc21]; omega
  rintro z w24 ⟨hV25, hz⟩; refine aA ?_; show CW _ _ _ _ [(3, _), (0, _), (5, _), (8, _)] _; have hE26 := hE14.then hV25; have hB27 := hV25.blk0 hB12; have hO28 := hO15.evo0 hV25; have hB29 := hV25.blk0 hB16; refine aE (aE (aB (aH (aF (aQ rfl) (aF (aD rfl qX) (aF (aI rfl aW (aJ hB27 rfl)) (aF (fI rfl rfl) ?_))))))); refine aH (aU (t := 29) rfl (fun hs29 => ?_) (fun hs29 => ?_))
  ·refine aG (aG (aY (aH (aG (aG (aG (aY (aH (aG (aG (aG (aY (aH (aG ?_)))))))))))))); refine aG (aG (aY (aC (aA (cM rfl ?_))))); refine aE (aB (aN (aC (aA (aO (aM (br1 ?_)))))))
   have hno := eY (x := t) (b := b) (st := st) (fun h => by obtain ⟨h1, h2, h3, h4⟩ := h; have hf := (bV t).1 h3; (omega))
   exact ⟨false, rfl, by rw [hno]; rfl, hE26, fun st' h => by rw [hno] at h; cases h⟩
  refine aK (aH (aK (aF (fI rfl rfl) ?_))); refine aR (aH (aU (t := 33) rfl (fun hs33 => ?_) (fun hs33 => ?_)))
  ·refine aG (aG (aG (aY (aH (aG (aG (aG (aY (aH (aG (aG (aG (aY (aC (aA ?_))))))))))))))); refine cM rfl ?_; refine aE (aB (aN (aC (aA (aO (aM (br1 ?_)))))))
   have hno := eY (x := t) (b := b) (st := st) (fun h => by obtain ⟨h1, h2, h3, h4⟩ := h; have hf := (bV t).1 h3; (split at h2 <;> omega))
   exact ⟨false, rfl, by rw [hno]; rfl, hE26, fun st' h => by rw [hno] at h; cases h⟩
  refine aK (aF (aD rfl dR) (aK (aF (aI rfl aW (aJ hB29 rfl)) (aK (aF (dF rfl rfl) ?_))))); refine aR (aH (aU (t := 38) rfl (fun hs38 => ?_) (fun hs38 => ?_)))
  ·refine aG (aG (aG (aY (aH (aG (aG (aG (aY (aC (aA (cM rfl ?_))))))))))); refine aE (aB (aN (aC (aA (aO (aM (br1 ?_)))))))
   have hno := eY (x := t) (b := b) (st := st) (fun h => by obtain ⟨h1, h2, h3, h4⟩ := h; have hf := (bV t).1 h3; (have := hf.kind1; omega))
   exact ⟨false, rfl, by rw [hno]; rfl, hE26, fun st' h => by rw [hno] at h; cases h⟩
  refine aK (aF (aD rfl dR) (aK (aF (aI rfl aW (aJ hB29 rfl)) (aK (aF (fI rfl rfl) ?_))))); refine aR (aH (aU (t := 43) rfl (fun hs43 => ?_) (fun hs43 => ?_)))
  ·refine aG (aG (aG (aY (aC (aA (cM rfl ?_)))))); refine aE (aB (aN (aC (aA (aO (aM (br1 ?_)))))))
   have hno := eY (x := t) (b := b) (st := st) (fun h => by obtain ⟨h1, h2, h3, h4⟩ := h; have hf := (bV t).1 h3; (have := hf.kind2; omega))
   exact ⟨false, rfl, by rw [hno]; rfl, hE26, fun st' h => by rw [hno] at h; cases h⟩
  refine aK (aF (bY rfl bR bD hB29 rfl) (aK (aP (vs := [_]) HV rfl (bare_ok (RRx.pers _ _ _ _ _ _ hE26 hx0)) rfl ?_))); rintro _ w30 ⟨bb, rfl, hbb, hw31⟩; have hE32 := hE26.then hw31; have hB33 := hw31.blk0 hB27; have hO34 := hO28.evo0 hw31; have hB35 := hw31.blk0 hB29; refine aK (aF (eJ rfl) ?_); refine aR (aC (aA (fX rfl (fun hc47 => ?_) (fun hc47 => ?_))))
  ·refine aE (aB (aN (aC (aA (aO (aM (br1 ?_)))))))
   have hno := eY (x := t) (b := b) (st := st) (fun h => by obtain ⟨h1, h2, h3, h4⟩ := h; have hf := (bV t).1 h3; (have := hbb.2 hf.bare; rw [this] at hc47; cases hc47))
   exact ⟨false, rfl, by rw [hno]; rfl, hE32, fun st' h => by rw [hno] at h; cases h⟩
  refine aX (aA (aE (rQ (α := Int × St × Option Addr × Nat × Option Nat) (fun x => [(3, .int .i64 x.1)]) [(0, _), (5, _)] (fun x wr => Evo (jb :: ob.toList) w wr ∧ ((0 ≤ x.1 ∧ x.1 ≤ 250) ∧ x.2.1 = (st.1 + 1, if t.kind = 7 then st.2 ++ [t.name] else st.2) ∧ t.fine b st = dJ t.kids t.kind x.1 x.2.1 ∧ CAt wr jb x.2.1.1 x.2.1.2.length x.2.1.2 x.2.2.1 x.2.2.2.1 x.2.2.2.2 ∧ (∀ g, x.2.2.2.2 = some g → g ∈ ob.toList ∨ w.heap.size ≤ g) ∧ wr.heap[b5]? = some (.cells #[iv t.kind, .int .i32 t.r, .slice ra t.ranges.length rc, iv t.min, iv t.max, .bool t.lazy, iv t.cap, .string t.name, .slice ka t.kids.length kc] 27 (0, 0)) ∧ b5 ∉ jb :: x.2.2.2.2.toList)) ⟨rfl, rfl, trivial⟩ ?_ ?_)))
  ·refine aE ?_; have hba := hbb.1 (by simpa using hc47); refine aB (aF (aD rfl dR) (aF (aI rfl aW (aJ hB35 rfl)) (aC (aA (bS (aE (aB (aF (bC rfl rfl) ?_)))))))); refine aN (aC (aA (bG rfl (fun hc50 => ?_) (fun hc50 => ?_))))
   ·refine aE (aB (aF (aD rfl eD) (aF (aI rfl bZ (aJ hB35 rfl)) (aF (fG rfl rfl) ?_)))); refine aH (aU (t := 55) rfl (fun hs55 => ?_) (fun hs55 => ?_))
    ·refine aK (aF (aD rfl eD) (aK (aF (aI rfl bZ (aJ hB35 rfl)) (aK (aF (fP rfl rfl) ?_))))); refine aY (aN (aC (aA (aO (aV (aM (aM (br1 ?_)))))))); have hlf := SY (t := t) (b := b) (st := st) (by omega) (by omega) (by omega) hba
     refine ⟨_, rfl, Bool.eq_iff_iff.2 (by rw [hlf.1]; simp only [decide_eq_true_eq]; exact ⟨fun h => ⟨fun _ => ⟨by omega, h⟩, fun h => by omega⟩, fun h => (h.1 (by omega)).2⟩), hE32, fun st' h => ?_⟩
     rw [hlf.2 st' h]
     exact ⟨⟨by show st.2.length ≤ st.1 + 1; omega, by show st.1 + 1 ≤ 8194; omega⟩, a, c, ob, ⟨hB33, hO34, hne⟩, fun g hg => .inl (by simp [hg])⟩
    refine aG (aG (aG (aR (aN (aC (aA (aO (aV (aM (aM (br1 ?_))))))))))); have hlf := SY (t := t) (b := b) (st := st) (by omega) (by omega) (by omega) hba
    refine ⟨_, rfl, Bool.eq_iff_iff.2 (by rw [hlf.1]; simp only [Bool.false_eq_true, false_iff]; intro h; have := h.1 (by omega); omega), hE32, fun st' h => ?_⟩
    rw [hlf.2 st' h]
    exact ⟨⟨by show st.2.length ≤ st.1 + 1; omega, by show st.1 + 1 ≤ 8194; omega⟩, a, c, ob, ⟨hB33, hO34, hne⟩, fun g hg => .inl (by simp [hg])⟩
   refine aE (aB (aF (bC rfl rfl) ?_)); refine aN (aC (aA (bG rfl (fun hc60 => ?_) (fun hc60 => ?_))))
   ·refine aE (aB (aF (aD rfl dQ) (aF (aI rfl eZ (aJ hB35 rfl)) (aP (vs := [_]) HU rfl (OD (RSl.evo RRg.pers hE32 hrg0) bl1) rfl ?_)))); rintro _ w36 ⟨rb, rfl, hrb, hw37⟩; have hE38 := hE32.then hw37; have hB39 := hw37.blk0 hB33; have hO40 := hO34.evo0 hw37; refine aN (aC (aA (aO (aV (aM (aM (br1 ?_))))))); have hlf := SY (t := t) (b := b) (st := st) (by omega) (by omega) (by omega) hba
    refine ⟨_, rfl, Bool.eq_iff_iff.2 (by rw [hlf.1]; rw [hrb]; exact ⟨fun h => ⟨fun h => by omega, fun _ => h⟩, fun h => h.2 (by omega)⟩), hE38, fun st' h => ?_⟩
    rw [hlf.2 st' h]
    exact ⟨⟨by show st.2.length ≤ st.1 + 1; omega, by show st.1 + 1 ≤ 8194; omega⟩, a, c, ob, ⟨hB39, hO40, hne⟩, fun g hg => .inl (by simp [hg])⟩
   refine aE (aE (aB (aF (bC rfl rfl) ?_))); refine aN (aC (aA (bG rfl (fun hc65 => ?_) (fun hc65 => ?_))))
   ·refine aX (aA (bG rfl (fun hc65 => ?_) (fun hc65 => ?_)))
    ·refine aE (aB (aF (aD rfl cG) (aF (aI rfl cX (aJ hB35 rfl)) (aF (bK rfl Tryz.underlying25 rfl) ?_)))); refine aF (dF rfl rfl) ?_; refine aC (aA (bG rfl (fun hc71 => ?_) (fun hc71 => ?_)))
     ·refine aE (aB (aN (aC (aA (aO (aV (aM (aM (br1 ?_)))))))))
      have hno := eY (x := t) (b := b) (st := st) (fun h => by obtain ⟨h1, h2, h3, h4⟩ := h; have hf := (bV t).1 h3; (have := hf.two; omega))
      exact ⟨false, rfl, by rw [hno]; rfl, hE32, fun st' h => by rw [hno] at h; cases h⟩
     refine aX (aZ (bM ?_)); refine ⟨(z, (st.1 + 1, st.2), a, c, ob), ⟨rfl, trivial⟩, ⟨rfl, rfl, trivial⟩, hE32, ?_⟩
     have hfin0 := gL (x := t) (b := b) (st := st) ⟨by omega, (by rw [if_neg (by omega)]; omega), (bV t).2 ⟨by omega, by omega, hba.zr, hba.zg, hba.zm1, hba.zm2, hba.zl, hba.zc, hba.zn, fun k => by omega, fun k => by omega, fun k => by omega, fun k => by omega, fun k => by omega, fun k => by omega, fun k => by omega, fun k => by omega, fun k => by omega, hba.zk⟩, fun h => by omega⟩
     refine ⟨by simp only; omega, by simp only; rw [if_neg (by omega)], ?_, ?_, fun g hg => .inl (by have h9 : ob = some g := hg; simp [h9]), hB35, jQ hA5.symm hA6.symm⟩
     · rw [hfin0, if_neg (by omega), if_neg (by omega), hz]
     · exact ⟨by simpa [List.length_append] using hB33, hO34, hne⟩
    refine aE (aB (aF (bC rfl rfl) ?_)); refine aN (aC (aA (bG rfl (fun hc72 => ?_) (fun hc72 => ?_))))
    ·refine aE (aB (aF (aD rfl cG) (aF (aI rfl cX (aJ hB35 rfl)) (aF (bK rfl Tryz.underlying25 rfl) ?_)))); refine aF (fH rfl rfl) ?_; refine aH (aU (t := 78) rfl (fun hs78 => ?_) (fun hs78 => ?_))
     ·refine aG (aG (aG (aY (aH (aG (aG (aG (aY (aH (aG (aG (aG (aY (aH ?_)))))))))))))); refine aG (aG (aG (aY (aH (aG (aG (aG (aG (cA ?_))))))))); refine cA ?_; refine cA ?_; refine cA ?_; refine cA ?_; refine aG (aY (aC (aA (cM rfl ?_)))); refine aE (aB (aN (aC (aA (aO (aV (aM (aM (br1 ?_)))))))))
      have hno := eY (x := t) (b := b) (st := st) (fun h => by obtain ⟨h1, h2, h3, h4⟩ := h; have hf := (bV t).1 h3; (have f1 := hf.rep1; have f2 := hf.rep2; have f3 := hf.rep3; have f4 := hf.rep4; omega))
      exact ⟨false, rfl, by rw [hno]; rfl, hE32, fun st' h => by rw [hno] at h; cases h⟩
     refine aK (aF (aD rfl cZ) (aK (aF (aI rfl aW (aJ hB35 rfl)) (aK (aF (dF rfl rfl) ?_))))); refine aR (aH (aU (t := 83) rfl (fun hs83 => ?_) (fun hs83 => ?_)))
     ·refine aG (aG (aG (aY (aH (aG (aG (aG (aY (aH (aG (aG (aG (aY (aH ?_)))))))))))))); refine aG (aG (aG (aG (cA ?_)))); refine cA ?_; refine cA ?_; refine cA ?_; refine cA ?_; refine aG (aY (aC (aA (cM rfl ?_)))); refine aE (aB (aN (aC (aA (aO (aV (aM (aM (br1 ?_)))))))))
      have hno := eY (x := t) (b := b) (st := st) (fun h => by obtain ⟨h1, h2, h3, h4⟩ := h; have hf := (bV t).1 h3; (have f1 := hf.rep1; have f2 := hf.rep2; have f3 := hf.rep3; have f4 := hf.rep4; omega))
      exact ⟨false, rfl, by rw [hno]; rfl, hE32, fun st' h => by rw [hno] at h; cases h⟩
     refine aK (aF (aD rfl cZ) (aK (aF (aI rfl aW (aJ hB35 rfl)) (aK (aF (fI rfl rfl) ?_))))); refine aR (aH (aU (t := 88) rfl (fun hs88 => ?_) (fun hs88 => ?_)))
     ·refine aG (aG (aG (aY (aH (aG (aG (aG (aY (aH (aG (aG (aG (aG (cA ?_)))))))))))))); refine cA ?_; refine cA ?_; refine cA ?_; refine cA ?_; refine aG (aY (aC (aA (cM rfl ?_)))); refine aE (aB (aN (aC (aA (aO (aV (aM (aM (br1 ?_)))))))))
      have hno := eY (x := t) (b := b) (st := st) (fun h => by obtain ⟨h1, h2, h3, h4⟩ := h; have hf := (bV t).1 h3; (have f1 := hf.rep1; have f2 := hf.rep2; have f3 := hf.rep3; have f4 := hf.rep4; omega))
      exact ⟨false, rfl, by rw [hno]; rfl, hE32, fun st' h => by rw [hno] at h; cases h⟩
     refine aK (aF (aD rfl cU) (aK (aF (aI rfl aW (aJ hB35 rfl)) (aK (aF (dF rfl rfl) ?_))))); refine aR (aH (aU (t := 93) rfl (fun hs93 => ?_) (fun hs93 => ?_)))
     ·refine aG (aG (aG (aY (aH (aG (aG (aG (aG (cA ?_))))))))); refine cA ?_; refine cA ?_; refine cA ?_; refine cA ?_; refine aG (aY (aC (aA (cM rfl ?_)))); refine aE (aB (aN (aC (aA (aO (aV (aM (aM (br1 ?_)))))))))
      have hno := eY (x := t) (b := b) (st := st) (fun h => by obtain ⟨h1, h2, h3, h4⟩ := h; have hf := (bV t).1 h3; (have f1 := hf.rep1; have f2 := hf.rep2; have f3 := hf.rep3; have f4 := hf.rep4; omega))
      exact ⟨false, rfl, by rw [hno]; rfl, hE32, fun st' h => by rw [hno] at h; cases h⟩
     refine aK (aF (aD rfl cU) (aK (aF (aI rfl aW (aJ hB35 rfl)) (aK (aF (fI rfl rfl) ?_))))); refine aR (aH (aU (t := 98) rfl (fun hs98 => ?_) (fun hs98 => ?_)))
     ·refine aG (aG (aG (aG (cA ?_)))); refine cA ?_; refine cA ?_; refine cA ?_; refine cA ?_; refine aG (aY (aC (aA (cM rfl ?_)))); refine aE (aB (aN (aC (aA (aO (aV (aM (aM (br1 ?_)))))))))
      have hno := eY (x := t) (b := b) (st := st) (fun h => by obtain ⟨h1, h2, h3, h4⟩ := h; have hf := (bV t).1 h3; (have f1 := hf.rep1; have f2 := hf.rep2; have f3 := hf.rep3; have f4 := hf.rep4; omega))
      exact ⟨false, rfl, by rw [hno]; rfl, hE32, fun st' h => by rw [hno] at h; cases h⟩
     refine aK (aF (aD rfl cU) (aK (aF (aI rfl aW (aJ hB35 rfl)) (aK (aF (fG rfl rfl) ?_))))); refine aK (aH (aU (t := 102) rfl (fun hs102 => ?_) (fun hs102 => ?_)))
     ·refine aK (aF (aD rfl cU) (aK (aF (aI rfl aW (aJ hB35 rfl)) (aK (aF (aD rfl cZ) (aK (aF (aI rfl aW (aJ hB35 rfl)) (aK (aF (dF rfl rfl) ?_))))))))); refine aK (aY (aR (aC (aA (bG rfl (fun hc109 => ?_) (fun hc109 => ?_))))))
      ·refine aE (aB (aN (aC (aA (aO (aV (aM (aM (br1 ?_)))))))))
       have hno := eY (x := t) (b := b) (st := st) (fun h => by obtain ⟨h1, h2, h3, h4⟩ := h; have hf := (bV t).1 h3; (have f1 := hf.rep1; have f2 := hf.rep2; have f3 := hf.rep3; have f4 := hf.rep4; omega))
       exact ⟨false, rfl, by rw [hno]; rfl, hE32, fun st' h => by rw [hno] at h; cases h⟩
      refine aX (aZ (bM ?_)); refine ⟨(z, (st.1 + 1, st.2), a, c, ob), ⟨rfl, trivial⟩, ⟨rfl, rfl, trivial⟩, hE32, ?_⟩
      have hfin0 := gL (x := t) (b := b) (st := st) ⟨by omega, (by rw [if_neg (by omega)]; omega), (bV t).2 ⟨by omega, by omega, hba.zr, hba.zg, hba.zm1, hba.zm2, hba.zl, hba.zc, hba.zn, fun k => by omega, fun k => by omega, fun k => by omega, fun k => by omega, fun k => by omega, fun k => by omega, fun k => by omega, fun k => by omega, fun k => by omega, hba.zk⟩, fun h => by omega⟩
      refine ⟨by simp only; omega, by simp only; rw [if_neg (by omega)], ?_, ?_, fun g hg => .inl (by have h9 : ob = some g := hg; simp [h9]), hB35, jQ hA5.symm hA6.symm⟩
      · rw [hfin0, if_neg (by omega), if_neg (by omega), hz]
      · exact ⟨by simpa [List.length_append] using hB33, hO34, hne⟩
     refine aG (aG (aG (aG (aG (aK (aR (aR (aC (aA (cN rfl ?_)))))))))); refine aX (aZ (bM ?_)); refine ⟨(z, (st.1 + 1, st.2), a, c, ob), ⟨rfl, trivial⟩, ⟨rfl, rfl, trivial⟩, hE32, ?_⟩
     have hfin0 := gL (x := t) (b := b) (st := st) ⟨by omega, (by rw [if_neg (by omega)]; omega), (bV t).2 ⟨by omega, by omega, hba.zr, hba.zg, hba.zm1, hba.zm2, hba.zl, hba.zc, hba.zn, fun k => by omega, fun k => by omega, fun k => by omega, fun k => by omega, fun k => by omega, fun k => by omega, fun k => by omega, fun k => by omega, fun k => by omega, hba.zk⟩, fun h => by omega⟩
     refine ⟨by simp only; omega, by simp only; rw [if_neg (by omega)], ?_, ?_, fun g hg => .inl (by have h9 : ob = some g := hg; simp [h9]), hB35, jQ hA5.symm hA6.symm⟩
     · rw [hfin0, if_neg (by omega), if_neg (by omega), hz]
     · exact ⟨by simpa [List.length_append] using hB33, hO34, hne⟩
    refine aE (aB (aF (bC rfl rfl) ?_)); refine aN (aC (aA (bG rfl (fun hc110 => ?_) (fun hc110 => ?_))))
    ·refine aE (aB (aH (aF (aQ rfl) (aF (aD rfl jG) (aF (aI rfl aW (aJ hB33 rfl)) ?_))))); refine aF (bE rfl rfl (by omega) (by omega)) ?_; refine aF (aQ rfl) (aF (aD rfl jG) (bI rfl rfl (rfl) bT hB33 rfl fun w42 hB43 hw44 => ?_))
     have hE45 := hE32.step hw44 (fun y hy => .inl (by rw [List.mem_singleton.1 hy]; exact List.mem_cons_self ..))
     have hO46 := hO34.evo hw44 hAJN.symm.own1; have hB47 := hw44.blk hB35 hA5.symm.nmem1
     try simp only [cV, Nat.reduceAdd] at hB43
     refine aC (aA (aE (aE ?_))); refine iM (fun w0 w' => Evo (jb :: ob.toList) w0 w') (by kernel_rfl) (fun w48 hw49 => ?_); have hE50 := hE45.then hw49; have hB51 := hw49.blk0 hB43; have hO52 := hO46.evo0 hw49; have hB53 := hw49.blk0 hB47; refine aet 0 rfl (fun _ hS => aD rfl cG) (Evo.refl (jb :: ob.toList) w48) ?_; refine aet 1 rfl (fun _ hS => aI rfl cX (aJ (hS.blk hB53 (jQ hA5.symm hA6.symm)) rfl)) (Evo.refl (jb :: ob.toList) w48) ?_; refine aet 2 rfl (fun _ hS => bK rfl Tryz.underlying25 rfl) (Evo.refl (jb :: ob.toList) w48) ?_; refine aet 3 rfl (fun _ hS => fH rfl rfl) (Evo.refl (jb :: ob.toList) w48) ?_; refine aet 4 rfl (fun _ hS => bH rfl) (Evo.refl (jb :: ob.toList) w48) ?_; refine qA (t := 123) rfl (fun hs123 => ?_) (fun hs123 => ?_)
     ·refine iF 5 rfl (Evo.refl (jb :: ob.toList) w48) ?_; refine iF 6 rfl (Evo.refl (jb :: ob.toList) w48) ?_; refine iF 7 rfl (Evo.refl (jb :: ob.toList) w48) ?_; refine iF 8 rfl (Evo.refl (jb :: ob.toList) w48) ?_; refine iF 9 rfl (Evo.refl (jb :: ob.toList) w48) ?_; refine cK [10] (by kernel_rfl) rfl ⟨?_, trivial⟩; refine cP rfl ?_; refine aG (aC (cC (.inl (Evo.refl (jb :: ob.toList) w48)) ?_)); refine iF 11 rfl (Evo.refl (jb :: ob.toList) w48) ?_; refine aet 12 rfl (fun _ hS => eG rfl rfl) (Evo.refl (jb :: ob.toList) w48) ?_; refine aet 13 rfl (fun _ hS => bH rfl) (Evo.refl (jb :: ob.toList) w48) ?_; refine iF 14 rfl (Evo.refl (jb :: ob.toList) w48) ?_; refine iF 15 rfl (Evo.refl (jb :: ob.toList) w48) ?_; refine iF 16 rfl (Evo.refl (jb :: ob.toList) w48) ?_; refine cK [17] (by kernel_rfl) rfl ⟨?_, trivial⟩; refine cP rfl ?_; refine aG (aC (cC (.inl (Evo.refl (jb :: ob.toList) w48)) ?_))
      refine iF 18 rfl (Evo.refl (jb :: ob.toList) w48) ?_; refine aet 19 rfl (fun _ hS => eG rfl rfl) (Evo.refl (jb :: ob.toList) w48) ?_; refine aet 20 rfl (fun _ hS => bH rfl) (Evo.refl (jb :: ob.toList) w48) ?_; refine iF 21 rfl (Evo.refl (jb :: ob.toList) w48) ?_; refine iF 22 rfl (Evo.refl (jb :: ob.toList) w48) ?_; refine iF 23 rfl (Evo.refl (jb :: ob.toList) w48) ?_; refine cK [24] (by kernel_rfl) rfl ⟨?_, trivial⟩; refine cP rfl ?_; refine aG (aC (cC (.inl (Evo.refl (jb :: ob.toList) w48)) ?_)); refine iF 25 rfl (Evo.refl (jb :: ob.toList) w48) ?_; refine aet 26 rfl (fun _ hS => eG rfl rfl) (Evo.refl (jb :: ob.toList) w48) ?_; refine eQ (by kernel_rfl) (aA ?_); refine cM rfl ?_; refine aE (aB (aN (aC (aA (aO (aM (aV (aM (aM (br1 ?_))))))))))
      have hno := eY (x := t) (b := b) (st := st) (fun h => by obtain ⟨h1, h2, h3, h4⟩ := h; have hf := (bV t).1 h3; (have := hf.grp; omega))
      exact ⟨false, rfl, by rw [hno]; rfl, hE50, fun st' h => by rw [hno] at h; cases h⟩
     refine fF 5 rfl rfl rfl rfl rfl (by kernel_rfl) (by kernel_rfl) (by kernel_rfl) rfl (fun _ hS => aD rfl dP) (Evo.refl (jb :: ob.toList) w48) ?_; refine fF 6 rfl rfl rfl rfl rfl (by kernel_rfl) (by kernel_rfl) (by kernel_rfl) rfl (fun _ hS => aI rfl aW (aJ (hS.blk hB53 (jQ hA5.symm hA6.symm)) rfl)) (Evo.refl (jb :: ob.toList) w48) ?_; refine fF 7 rfl rfl rfl rfl rfl (by kernel_rfl) (by kernel_rfl) (by kernel_rfl) rfl (fun _ hS => bH rfl) (Evo.refl (jb :: ob.toList) w48) ?_; refine fF 8 rfl rfl rfl rfl rfl (by kernel_rfl) (by kernel_rfl) (by kernel_rfl) rfl (fun _ hS => aQ rfl) (Evo.refl (jb :: ob.toList) w48) ?_; refine fF 9 rfl rfl rfl rfl rfl (by kernel_rfl) (by kernel_rfl) (by kernel_rfl) rfl (fun _ hS => aD rfl jG) (Evo.refl (jb :: ob.toList) w48) ?_; refine cK [10] (by kernel_rfl) rfl ⟨?_, trivial⟩; refine cP rfl ?_; refine aK (aF (aI rfl aW (aJ hB51 rfl)) (aC (cC (.inl (Evo.refl (jb :: ob.toList) w48)) ?_))); refine fF 11 rfl rfl rfl rfl rfl (by kernel_rfl) (by kernel_rfl) (by kernel_rfl) rfl (fun _ hS => fH rfl rfl) (Evo.refl (jb :: ob.toList) w48) ?_; refine aet 12 rfl (fun _ hS => fQ rfl rfl) (Evo.refl (jb :: ob.toList) w48) ?_; refine aet 13 rfl (fun _ hS => bH rfl) (Evo.refl (jb :: ob.toList) w48) ?_; refine qA (t := 132) rfl (fun hs132 => ?_) (fun hs132 => ?_)
     ·refine iF 14 rfl (Evo.refl (jb :: ob.toList) w48) ?_; refine iF 15 rfl (Evo.refl (jb :: ob.toList) w48) ?_; refine iF 16 rfl (Evo.refl (jb :: ob.toList) w48) ?_; refine cK [17] (by kernel_rfl) rfl ⟨?_, trivial⟩; refine cP rfl ?_; refine aG (aC (cC (.inl (Evo.refl (jb :: ob.toList) w48)) ?_)); refine iF 18 rfl (Evo.refl (jb :: ob.toList) w48) ?_; refine aet 19 rfl (fun _ hS => eG rfl rfl) (Evo.refl (jb :: ob.toList) w48) ?_; refine aet 20 rfl (fun _ hS => bH rfl) (Evo.refl (jb :: ob.toList) w48) ?_; refine iF 21 rfl (Evo.refl (jb :: ob.toList) w48) ?_; refine iF 22 rfl (Evo.refl (jb :: ob.toList) w48) ?_; refine iF 23 rfl (Evo.refl (jb :: ob.toList) w48) ?_; refine cK [24] (by kernel_rfl) rfl ⟨?_, trivial⟩; refine cP rfl ?_; refine aG (aC (cC (.inl (Evo.refl (jb :: ob.toList) w48)) ?_)); refine iF 25 rfl (Evo.refl (jb :: ob.toList) w48) ?_
      refine aet 26 rfl (fun _ hS => eG rfl rfl) (Evo.refl (jb :: ob.toList) w48) ?_; refine eQ (by kernel_rfl) (aA ?_); refine cM rfl ?_; refine aE (aB (aN (aC (aA (aO (aM (aV (aM (aM (br1 ?_))))))))))
      have hno := eY (x := t) (b := b) (st := st) (fun h => by obtain ⟨h1, h2, h3, h4⟩ := h; have hf := (bV t).1 h3; (have := (h4 (by omega)).1; omega))
      exact ⟨false, rfl, by rw [hno]; rfl, hE50, fun st' h => by rw [hno] at h; cases h⟩
     refine fF 14 rfl rfl rfl rfl rfl (by kernel_rfl) (by kernel_rfl) (by kernel_rfl) rfl (fun _ hS => bH rfl) (Evo.refl (jb :: ob.toList) w48) ?_; refine fF 15 rfl rfl rfl rfl rfl (by kernel_rfl) (by kernel_rfl) (by kernel_rfl) rfl (fun _ hS => aQ rfl) (Evo.refl (jb :: ob.toList) w48) ?_; refine fF 16 rfl rfl rfl rfl rfl (by kernel_rfl) (by kernel_rfl) (by kernel_rfl) rfl (fun _ hS => aD rfl jG) (Evo.refl (jb :: ob.toList) w48) ?_; refine cK [17] (by kernel_rfl) rfl ⟨?_, trivial⟩; refine cP rfl ?_; refine aK (aF (aI rfl aW (aJ hB51 rfl)) (aC (cC (.inl (Evo.refl (jb :: ob.toList) w48)) ?_))); refine fF 18 rfl rfl rfl rfl rfl (by kernel_rfl) (by kernel_rfl) (by kernel_rfl) rfl (fun _ hS => fI rfl rfl) (Evo.refl (jb :: ob.toList) w48) ?_; refine aet 19 rfl (fun _ hS => fQ rfl rfl) (Evo.refl (jb :: ob.toList) w48) ?_; refine aet 20 rfl (fun _ hS => bH rfl) (Evo.refl (jb :: ob.toList) w48) ?_; refine qA (t := 139) rfl (fun hs139 => ?_) (fun hs139 => ?_)
     ·refine iF 21 rfl (Evo.refl (jb :: ob.toList) w48) ?_; refine iF 22 rfl (Evo.refl (jb :: ob.toList) w48) ?_; refine iF 23 rfl (Evo.refl (jb :: ob.toList) w48) ?_; refine cK [24] (by kernel_rfl) rfl ⟨?_, trivial⟩; refine cP rfl ?_; refine aG (aC (cC (.inl (Evo.refl (jb :: ob.toList) w48)) ?_)); refine iF 25 rfl (Evo.refl (jb :: ob.toList) w48) ?_; refine aet 26 rfl (fun _ hS => eG rfl rfl) (Evo.refl (jb :: ob.toList) w48) ?_; refine eQ (by kernel_rfl) (aA ?_); refine cM rfl ?_; refine aE (aB (aN (aC (aA (aO (aM (aV (aM (aM (br1 ?_))))))))))
      have hno := eY (x := t) (b := b) (st := st) (fun h => by obtain ⟨h1, h2, h3, h4⟩ := h; have hf := (bV t).1 h3; (have := (h4 (by omega)).1; have := (h4 (by omega)).2.1; omega))
      exact ⟨false, rfl, by rw [hno]; rfl, hE50, fun st' h => by rw [hno] at h; cases h⟩
     refine fF 21 rfl rfl rfl rfl rfl (by kernel_rfl) (by kernel_rfl) (by kernel_rfl) rfl (fun _ hS => bH rfl) (Evo.refl (jb :: ob.toList) w48) ?_; have hszc := (hE50).size; have hlt5 := Lt.blk hB53; refine fF 22 rfl rfl rfl rfl rfl (by kernel_rfl) (by kernel_rfl) (by kernel_rfl) rfl (fun _ hS => aD rfl dM) (Evo.refl (jb :: ob.toList) w48) ?_; refine fF 23 rfl rfl rfl rfl rfl (by kernel_rfl) (by kernel_rfl) (by kernel_rfl) rfl (fun _ hS => aI rfl cL (aJ (hS.blk hB53 (jQ hA5.symm hA6.symm)) rfl)) (Evo.refl (jb :: ob.toList) w48) ?_; refine cK [24] (by kernel_rfl) rfl ⟨?_, trivial⟩; refine cP rfl ?_; refine aK ?_; refine aP (vs := [_, _]) wQ rfl (LW ⟨hB51, hO52, hne⟩ (by omega) bl2) rfl ?_; rintro _ w54 ⟨gb, rfl, hgb, hw55, hgs⟩; have hE56 := hE50.step hw55 (fun y hy => .inl hy); have hE57 := (Evo.refl (jb :: ob.toList) w48).step hw55 (fun y hy => .inl hy); have hB58 := hw55.blk hB53 (jQ hA5.symm hA6.symm); refine aC (cC (.inl hE57) ?_); refine fF 25 rfl rfl rfl rfl rfl (by kernel_rfl) (by kernel_rfl) (by kernel_rfl) rfl (fun _ hS => eJ rfl) hE57 ?_; refine aet 26 rfl (fun _ hS => fQ rfl rfl) hE57 ?_; refine eQ (by kernel_rfl) (aA ?_); refine fX rfl (fun hc145 => ?_) (fun hc145 => ?_)
     ·refine aE (aB (aN (aC (aA (aO (aM (aV (aM (aM (br1 ?_))))))))))
      have hno := eY (x := t) (b := b) (st := st) (fun h => by obtain ⟨h1, h2, h3, h4⟩ := h; have hf := (bV t).1 h3; (have := hgb.2 (h4 (by omega)).2.2; rw [this] at hc145; cases hc145))
      exact ⟨false, rfl, by rw [hno]; rfl, hE56, fun st' h => by rw [hno] at h; cases h⟩
     obtain ⟨a2, c2, ob2, hJ2, hob2⟩ := hgs (by simpa using hc145); have hgb2 := hgb.1 (by simpa using hc145); have hAq5 := fU hA6.symm hlt5 hob2
     have hg9 : ∀ g, ob2 = some g → g ∈ ob.toList ∨ w.heap.size ≤ g := fun g hg => by rcases hob2 with h | ⟨g', h1, h2⟩; left; rw [← h, hg]; simp; right; rw [hg] at h1; cases h1; exact Nat.le_trans hszc h2
     refine aX (aA (aE (aB (aH ?_)))); refine aF (bE rfl rfl (by omega) (by omega)) ?_; refine aN (aC (aA (aE (aB (aH (aF (fI rfl rfl) ?_)))))); refine aC (aA (bG rfl (fun hc149 => ?_) (fun hc149 => ?_)))
     ·refine aE (aB (aN (aC (aA (aO (aV (aM (aM (br1 ?_)))))))))
      have hno := eY (x := t) (b := b) (st := st) (fun h => by obtain ⟨h1, h2, h3, h4⟩ := h; have hf := (bV t).1 h3; (rw [if_pos (by omega)] at h2; omega))
      exact ⟨false, rfl, by rw [hno]; rfl, hE56, fun st' h => by rw [hno] at h; cases h⟩
     refine aX (aZ (bM ?_)); refine ⟨(z + 1, (st.1 + 1, st.2 ++ [t.name]), a2, c2, ob2), ⟨rfl, trivial⟩, ⟨rfl, rfl, trivial⟩, hE56, ?_⟩
     have hfin0 := gL (x := t) (b := b) (st := st) ⟨by omega, (by rw [if_pos (by omega)]; omega), (bV t).2 ⟨by omega, by omega, hba.zr, hba.zg, hba.zm1, hba.zm2, hba.zl, hba.zc, hba.zn, fun k => by omega, fun k => by omega, fun k => by omega, fun k => by omega, fun k => by omega, fun k => by omega, fun k => by omega, fun k => by omega, fun k => by omega, hba.zk⟩, fun _ => ⟨by omega, by omega, hgb2⟩⟩
     refine ⟨by simp only; omega, by simp only; rw [if_pos (by omega)], ?_, ?_, hg9, hB58, jQ hA5.symm hAq5⟩
     · rw [hfin0, if_pos (by omega), if_pos (by omega), hz]
     · exact ⟨by simpa [List.length_append] using hJ2.blk, hJ2.own, hJ2.ne⟩
    refine aX (aZ (bM ?_)); refine ⟨(z, (st.1 + 1, st.2), a, c, ob), ⟨rfl, trivial⟩, ⟨rfl, rfl, trivial⟩, hE32, ?_⟩
    have hfin0 := gL (x := t) (b := b) (st := st) ⟨by omega, (by rw [if_neg (by omega)]; omega), (bV t).2 ⟨by omega, by omega, hba.zr, hba.zg, hba.zm1, hba.zm2, hba.zl, hba.zc, hba.zn, fun k => by omega, fun k => by omega, fun k => by omega, fun k => by omega, fun k => by omega, fun k => by omega, fun k => by omega, fun k => by omega, fun k => by omega, hba.zk⟩, fun h => by omega⟩
    refine ⟨by simp only; omega, by simp only; rw [if_neg (by omega)], ?_, ?_, fun g hg => .inl (by have h9 : ob = some g := hg; simp [h9]), hB35, jQ hA5.symm hA6.symm⟩
    · rw [hfin0, if_neg (by omega), if_neg (by omega), hz]
    · exact ⟨by simpa [List.length_append] using hB33, hO34, hne⟩
   refine aB (aF (bC rfl rfl) ?_); refine aN (aC (aA (bG rfl (fun hc65 => ?_) (fun hc65 => ?_))))
   ·refine aE (aB (aF (aD rfl cG) (aF (aI rfl cX (aJ hB35 rfl)) (aF (bK rfl Tryz.underlying25 rfl) ?_)))); refine aF (dF rfl rfl) ?_; refine aC (aA (bG rfl (fun hc71 => ?_) (fun hc71 => ?_)))
    ·refine aE (aB (aN (aC (aA (aO (aV (aM (aM (br1 ?_)))))))))
     have hno := eY (x := t) (b := b) (st := st) (fun h => by obtain ⟨h1, h2, h3, h4⟩ := h; have hf := (bV t).1 h3; (have := hf.two; omega))
     exact ⟨false, rfl, by rw [hno]; rfl, hE32, fun st' h => by rw [hno] at h; cases h⟩
    refine aX (aZ (bM ?_)); refine ⟨(z, (st.1 + 1, st.2), a, c, ob), ⟨rfl, trivial⟩, ⟨rfl, rfl, trivial⟩, hE32, ?_⟩
    have hfin0 := gL (x := t) (b := b) (st := st) ⟨by omega, (by rw [if_neg (by omega)]; omega), (bV t).2 ⟨by omega, by omega, hba.zr, hba.zg, hba.zm1, hba.zm2, hba.zl, hba.zc, hba.zn, fun k => by omega, fun k => by omega, fun k => by omega, fun k => by omega, fun k => by omega, fun k => by omega, fun k => by omega, fun k => by omega, fun k => by omega, hba.zk⟩, fun h => by omega⟩
    refine ⟨by simp only; omega, by simp only; rw [if_neg (by omega)], ?_, ?_, fun g hg => .inl (by have h9 : ob = some g := hg; simp [h9]), hB35, jQ hA5.symm hA6.symm⟩
    · rw [hfin0, if_neg (by omega), if_neg (by omega), hz]
    · exact ⟨by simpa [List.length_append] using hB33, hO34, hne⟩
   refine aE (aB (aF (bC rfl rfl) ?_)); refine aN (aC (aA (bG rfl (fun hc72 => ?_) (fun hc72 => ?_))))
   ·refine aE (aB (aF (aD rfl cG) (aF (aI rfl cX (aJ hB35 rfl)) (aF (bK rfl Tryz.underlying25 rfl) ?_)))); refine aF (fH rfl rfl) ?_; refine aH (aU (t := 78) rfl (fun hs78 => ?_) (fun hs78 => ?_))
    ·refine aG (aG (aG (aY (aH (aG (aG (aG (aY (aH (aG (aG (aG (aY (aH ?_)))))))))))))); refine aG (aG (aG (aY (aH (aG (aG (aG (aG (cA ?_))))))))); refine cA ?_; refine cA ?_; refine cA ?_; refine cA ?_; refine aG (aY (aC (aA (cM rfl ?_)))); refine aE (aB (aN (aC (aA (aO (aV (aM (aM (br1 ?_)))))))))
     have hno := eY (x := t) (b := b) (st := st) (fun h => by obtain ⟨h1, h2, h3, h4⟩ := h; have hf := (bV t).1 h3; (have f1 := hf.rep1; have f2 := hf.rep2; have f3 := hf.rep3; have f4 := hf.rep4; omega))
     exact ⟨false, rfl, by rw [hno]; rfl, hE32, fun st' h => by rw [hno] at h; cases h⟩
    refine aK (aF (aD rfl cZ) (aK (aF (aI rfl aW (aJ hB35 rfl)) (aK (aF (dF rfl rfl) ?_))))); refine aR (aH (aU (t := 83) rfl (fun hs83 => ?_) (fun hs83 => ?_)))
    ·refine aG (aG (aG (aY (aH (aG (aG (aG (aY (aH (aG (aG (aG (aY (aH ?_)))))))))))))); refine aG (aG (aG (aG (cA ?_)))); refine cA ?_; refine cA ?_; refine cA ?_; refine cA ?_; refine aG (aY (aC (aA (cM rfl ?_)))); refine aE (aB (aN (aC (aA (aO (aV (aM (aM (br1 ?_)))))))))
     have hno := eY (x := t) (b := b) (st := st) (fun h => by obtain ⟨h1, h2, h3, h4⟩ := h; have hf := (bV t).1 h3; (have f1 := hf.rep1; have f2 := hf.rep2; have f3 := hf.rep3; have f4 := hf.rep4; omega))
     exact ⟨false, rfl, by rw [hno]; rfl, hE32, fun st' h => by rw [hno] at h; cases h⟩
    refine aK (aF (aD rfl cZ) (aK (aF (aI rfl aW (aJ hB35 rfl)) (aK (aF (fI rfl rfl) ?_))))); refine aR (aH (aU (t := 88) rfl (fun hs88 => ?_) (fun hs88 => ?_)))
    ·refine aG (aG (aG (aY (aH (aG (aG (aG (aY (aH (aG (aG (aG (aG (cA ?_)))))))))))))); refine cA ?_; refine cA ?_; refine cA ?_; refine cA ?_; refine aG (aY (aC (aA (cM rfl ?_)))); refine aE (aB (aN (aC (aA (aO (aV (aM (aM (br1 ?_)))))))))
     have hno := eY (x := t) (b := b) (st := st) (fun h => by obtain ⟨h1, h2, h3, h4⟩ := h; have hf := (bV t).1 h3; (have f1 := hf.rep1; have f2 := hf.rep2; have f3 := hf.rep3; have f4 := hf.rep4; omega))
     exact ⟨false, rfl, by rw [hno]; rfl, hE32, fun st' h => by rw [hno] at h; cases h⟩
    refine aK (aF (aD rfl cU) (aK (aF (aI rfl aW (aJ hB35 rfl)) (aK (aF (dF rfl rfl) ?_))))); refine aR (aH (aU (t := 93) rfl (fun hs93 => ?_) (fun hs93 => ?_)))
    ·refine aG (aG (aG (aY (aH (aG (aG (aG (aG (cA ?_))))))))); refine cA ?_; refine cA ?_; refine cA ?_; refine cA ?_; refine aG (aY (aC (aA (cM rfl ?_)))); refine aE (aB (aN (aC (aA (aO (aV (aM (aM (br1 ?_)))))))))
     have hno := eY (x := t) (b := b) (st := st) (fun h => by obtain ⟨h1, h2, h3, h4⟩ := h; have hf := (bV t).1 h3; (have f1 := hf.rep1; have f2 := hf.rep2; have f3 := hf.rep3; have f4 := hf.rep4; omega))
     exact ⟨false, rfl, by rw [hno]; rfl, hE32, fun st' h => by rw [hno] at h; cases h⟩
    refine aK (aF (aD rfl cU) (aK (aF (aI rfl aW (aJ hB35 rfl)) (aK (aF (fI rfl rfl) ?_))))); refine aR (aH (aU (t := 98) rfl (fun hs98 => ?_) (fun hs98 => ?_)))
    ·refine aG (aG (aG (aG (cA ?_)))); refine cA ?_; refine cA ?_; refine cA ?_; refine cA ?_; refine aG (aY (aC (aA (cM rfl ?_)))); refine aE (aB (aN (aC (aA (aO (aV (aM (aM (br1 ?_)))))))))
     have hno := eY (x := t) (b := b) (st := st) (fun h => by obtain ⟨h1, h2, h3, h4⟩ := h; have hf := (bV t).1 h3; (have f1 := hf.rep1; have f2 := hf.rep2; have f3 := hf.rep3; have f4 := hf.rep4; omega))
     exact ⟨false, rfl, by rw [hno]; rfl, hE32, fun st' h => by rw [hno] at h; cases h⟩
    refine aK (aF (aD rfl cU) (aK (aF (aI rfl aW (aJ hB35 rfl)) (aK (aF (fG rfl rfl) ?_))))); refine aK (aH (aU (t := 102) rfl (fun hs102 => ?_) (fun hs102 => ?_)))
    ·refine aK (aF (aD rfl cU) (aK (aF (aI rfl aW (aJ hB35 rfl)) (aK (aF (aD rfl cZ) (aK (aF (aI rfl aW (aJ hB35 rfl)) (aK (aF (dF rfl rfl) ?_))))))))); refine aK (aY (aR (aC (aA (bG rfl (fun hc109 => ?_) (fun hc109 => ?_))))))
     ·refine aE (aB (aN (aC (aA (aO (aV (aM (aM (br1 ?_)))))))))
      have hno := eY (x := t) (b := b) (st := st) (fun h => by obtain ⟨h1, h2, h3, h4⟩ := h; have hf := (bV t).1 h3; (have f1 := hf.rep1; have f2 := hf.rep2; have f3 := hf.rep3; have f4 := hf.rep4; omega))
      exact ⟨false, rfl, by rw [hno]; rfl, hE32, fun st' h => by rw [hno] at h; cases h⟩
     refine aX (aZ (bM ?_)); refine ⟨(z, (st.1 + 1, st.2), a, c, ob), ⟨rfl, trivial⟩, ⟨rfl, rfl, trivial⟩, hE32, ?_⟩
     have hfin0 := gL (x := t) (b := b) (st := st) ⟨by omega, (by rw [if_neg (by omega)]; omega), (bV t).2 ⟨by omega, by omega, hba.zr, hba.zg, hba.zm1, hba.zm2, hba.zl, hba.zc, hba.zn, fun k => by omega, fun k => by omega, fun k => by omega, fun k => by omega, fun k => by omega, fun k => by omega, fun k => by omega, fun k => by omega, fun k => by omega, hba.zk⟩, fun h => by omega⟩
     refine ⟨by simp only; omega, by simp only; rw [if_neg (by omega)], ?_, ?_, fun g hg => .inl (by have h9 : ob = some g := hg; simp [h9]), hB35, jQ hA5.symm hA6.symm⟩
     · rw [hfin0, if_neg (by omega), if_neg (by omega), hz]
     · exact ⟨by simpa [List.length_append] using hB33, hO34, hne⟩
    refine aG (aG (aG (aG (aG (aK (aR (aR (aC (aA (cN rfl ?_)))))))))); refine aX (aZ (bM ?_)); refine ⟨(z, (st.1 + 1, st.2), a, c, ob), ⟨rfl, trivial⟩, ⟨rfl, rfl, trivial⟩, hE32, ?_⟩
    have hfin0 := gL (x := t) (b := b) (st := st) ⟨by omega, (by rw [if_neg (by omega)]; omega), (bV t).2 ⟨by omega, by omega, hba.zr, hba.zg, hba.zm1, hba.zm2, hba.zl, hba.zc, hba.zn, fun k => by omega, fun k => by omega, fun k => by omega, fun k => by omega, fun k => by omega, fun k => by omega, fun k => by omega, fun k => by omega, fun k => by omega, hba.zk⟩, fun h => by omega⟩
    refine ⟨by simp only; omega, by simp only; rw [if_neg (by omega)], ?_, ?_, fun g hg => .inl (by have h9 : ob = some g := hg; simp [h9]), hB35, jQ hA5.symm hA6.symm⟩
    · rw [hfin0, if_neg (by omega), if_neg (by omega), hz]
    · exact ⟨by simpa [List.length_append] using hB33, hO34, hne⟩
   refine aE (aB (aF (bC rfl rfl) ?_)); refine aN (aC (aA (bG rfl (fun hc110 => ?_) (fun hc110 => ?_))))
   ·refine aE (aB (aH (aF (aQ rfl) (aF (aD rfl jG) (aF (aI rfl aW (aJ hB33 rfl)) ?_))))); refine aF (bE rfl rfl (by omega) (by omega)) ?_; refine aF (aQ rfl) (aF (aD rfl jG) (bI rfl rfl (rfl) bT hB33 rfl fun w59 hB60 hw61 => ?_))
    have hE62 := hE32.step hw61 (fun y hy => .inl (by rw [List.mem_singleton.1 hy]; exact List.mem_cons_self ..))
    have hO63 := hO34.evo hw61 hAJN.symm.own1; have hB64 := hw61.blk hB35 hA5.symm.nmem1
    try simp only [cV, Nat.reduceAdd] at hB60
    refine aC (aA (aE (aE ?_))); refine iM (fun w0 w' => Evo (jb :: ob.toList) w0 w') (by kernel_rfl) (fun w65 hw66 => ?_); have hE67 := hE62.then hw66; have hB68 := hw66.blk0 hB60; have hO69 := hO63.evo0 hw66; have hB70 := hw66.blk0 hB64; refine aet 0 rfl (fun _ hS => aD rfl cG) (Evo.refl (jb :: ob.toList) w65) ?_; refine aet 1 rfl (fun _ hS => aI rfl cX (aJ (hS.blk hB70 (jQ hA5.symm hA6.symm)) rfl)) (Evo.refl (jb :: ob.toList) w65) ?_; refine aet 2 rfl (fun _ hS => bK rfl Tryz.underlying25 rfl) (Evo.refl (jb :: ob.toList) w65) ?_; refine aet 3 rfl (fun _ hS => fH rfl rfl) (Evo.refl (jb :: ob.toList) w65) ?_; refine aet 4 rfl (fun _ hS => bH rfl) (Evo.refl (jb :: ob.toList) w65) ?_; refine qA (t := 123) rfl (fun hs123 => ?_) (fun hs123 => ?_)
    ·refine iF 5 rfl (Evo.refl (jb :: ob.toList) w65) ?_; refine iF 6 rfl (Evo.refl (jb :: ob.toList) w65) ?_; refine iF 7 rfl (Evo.refl (jb :: ob.toList) w65) ?_; refine iF 8 rfl (Evo.refl (jb :: ob.toList) w65) ?_; refine iF 9 rfl (Evo.refl (jb :: ob.toList) w65) ?_; refine cK [10] (by kernel_rfl) rfl ⟨?_, trivial⟩; refine cP rfl ?_; refine aG (aC (cC (.inl (Evo.refl (jb :: ob.toList) w65)) ?_)); refine iF 11 rfl (Evo.refl (jb :: ob.toList) w65) ?_; refine aet 12 rfl (fun _ hS => eG rfl rfl) (Evo.refl (jb :: ob.toList) w65) ?_; refine aet 13 rfl (fun _ hS => bH rfl) (Evo.refl (jb :: ob.toList) w65) ?_; refine iF 14 rfl (Evo.refl (jb :: ob.toList) w65) ?_; refine iF 15 rfl (Evo.refl (jb :: ob.toList) w65) ?_; refine iF 16 rfl (Evo.refl (jb :: ob.toList) w65) ?_; refine cK [17] (by kernel_rfl) rfl ⟨?_, trivial⟩; refine cP rfl ?_; refine aG (aC (cC (.inl (Evo.refl (jb :: ob.toList) w65)) ?_))
     refine iF 18 rfl (Evo.refl (jb :: ob.toList) w65) ?_; refine aet 19 rfl (fun _ hS => eG rfl rfl) (Evo.refl (jb :: ob.toList) w65) ?_; refine aet 20 rfl (fun _ hS => bH rfl) (Evo.refl (jb :: ob.toList) w65) ?_; refine iF 21 rfl (Evo.refl (jb :: ob.toList) w65) ?_; refine iF 22 rfl (Evo.refl (jb :: ob.toList) w65) ?_; refine iF 23 rfl (Evo.refl (jb :: ob.toList) w65) ?_; refine cK [24] (by kernel_rfl) rfl ⟨?_, trivial⟩; refine cP rfl ?_; refine aG (aC (cC (.inl (Evo.refl (jb :: ob.toList) w65)) ?_)); refine iF 25 rfl (Evo.refl (jb :: ob.toList) w65) ?_; refine aet 26 rfl (fun _ hS => eG rfl rfl) (Evo.refl (jb :: ob.toList) w65) ?_; refine eQ (by kernel_rfl) (aA ?_); refine cM rfl ?_; refine aE (aB (aN (aC (aA (aO (aM (aV (aM (aM (br1 ?_))))))))))
     have hno := eY (x := t) (b := b) (st := st) (fun h => by obtain ⟨h1, h2, h3, h4⟩ := h; have hf := (bV t).1 h3; (have := hf.grp; omega))
     exact ⟨false, rfl, by rw [hno]; rfl, hE67, fun st' h => by rw [hno] at h; cases h⟩
    refine fF 5 rfl rfl rfl rfl rfl (by kernel_rfl) (by kernel_rfl) (by kernel_rfl) rfl (fun _ hS => aD rfl dP) (Evo.refl (jb :: ob.toList) w65) ?_; refine fF 6 rfl rfl rfl rfl rfl (by kernel_rfl) (by kernel_rfl) (by kernel_rfl) rfl (fun _ hS => aI rfl aW (aJ (hS.blk hB70 (jQ hA5.symm hA6.symm)) rfl)) (Evo.refl (jb :: ob.toList) w65) ?_; refine fF 7 rfl rfl rfl rfl rfl (by kernel_rfl) (by kernel_rfl) (by kernel_rfl) rfl (fun _ hS => bH rfl) (Evo.refl (jb :: ob.toList) w65) ?_; refine fF 8 rfl rfl rfl rfl rfl (by kernel_rfl) (by kernel_rfl) (by kernel_rfl) rfl (fun _ hS => aQ rfl) (Evo.refl (jb :: ob.toList) w65) ?_; refine fF 9 rfl rfl rfl rfl rfl (by kernel_rfl) (by kernel_rfl) (by kernel_rfl) rfl (fun _ hS => aD rfl jG) (Evo.refl (jb :: ob.toList) w65) ?_; refine cK [10] (by kernel_rfl) rfl ⟨?_, trivial⟩; refine cP rfl ?_; refine aK (aF (aI rfl aW (aJ hB68 rfl)) (aC (cC (.inl (Evo.refl (jb :: ob.toList) w65)) ?_))); refine fF 11 rfl rfl rfl rfl rfl (by kernel_rfl) (by kernel_rfl) (by kernel_rfl) rfl (fun _ hS => fH rfl rfl) (Evo.refl (jb :: ob.toList) w65) ?_; refine aet 12 rfl (fun _ hS => fQ rfl rfl) (Evo.refl (jb :: ob.toList) w65) ?_; refine aet 13 rfl (fun _ hS => bH rfl) (Evo.refl (jb :: ob.toList) w65) ?_; refine qA (t := 132) rfl (fun hs132 => ?_) (fun hs132 => ?_)
    ·refine iF 14 rfl (Evo.refl (jb :: ob.toList) w65) ?_; refine iF 15 rfl (Evo.refl (jb :: ob.toList) w65) ?_; refine iF 16 rfl (Evo.refl (jb :: ob.toList) w65) ?_; refine cK [17] (by kernel_rfl) rfl ⟨?_, trivial⟩; refine cP rfl ?_; refine aG (aC (cC (.inl (Evo.refl (jb :: ob.toList) w65)) ?_)); refine iF 18 rfl (Evo.refl (jb :: ob.toList) w65) ?_; refine aet 19 rfl (fun _ hS => eG rfl rfl) (Evo.refl (jb :: ob.toList) w65) ?_; refine aet 20 rfl (fun _ hS => bH rfl) (Evo.refl (jb :: ob.toList) w65) ?_; refine iF 21 rfl (Evo.refl (jb :: ob.toList) w65) ?_; refine iF 22 rfl (Evo.refl (jb :: ob.toList) w65) ?_; refine iF 23 rfl (Evo.refl (jb :: ob.toList) w65) ?_; refine cK [24] (by kernel_rfl) rfl ⟨?_, trivial⟩; refine cP rfl ?_; refine aG (aC (cC (.inl (Evo.refl (jb :: ob.toList) w65)) ?_)); refine iF 25 rfl (Evo.refl (jb :: ob.toList) w65) ?_
     refine aet 26 rfl (fun _ hS => eG rfl rfl) (Evo.refl (jb :: ob.toList) w65) ?_; refine eQ (by kernel_rfl) (aA ?_); refine cM rfl ?_; refine aE (aB (aN (aC (aA (aO (aM (aV (aM (aM (br1 ?_))))))))))
     have hno := eY (x := t) (b := b) (st := st) (fun h => by obtain ⟨h1, h2, h3, h4⟩ := h; have hf := (bV t).1 h3; (have := (h4 (by omega)).1; omega))
     exact ⟨false, rfl, by rw [hno]; rfl, hE67, fun st' h => by rw [hno] at h; cases h⟩
    refine fF 14 rfl rfl rfl rfl rfl (by kernel_rfl) (by kernel_rfl) (by kernel_rfl) rfl (fun _ hS => bH rfl) (Evo.refl (jb :: ob.toList) w65) ?_; refine fF 15 rfl rfl rfl rfl rfl (by kernel_rfl) (by kernel_rfl) (by kernel_rfl) rfl (fun _ hS => aQ rfl) (Evo.refl (jb :: ob.toList) w65) ?_; refine fF 16 rfl rfl rfl rfl rfl (by kernel_rfl) (by kernel_rfl) (by kernel_rfl) rfl (fun _ hS => aD rfl jG) (Evo.refl (jb :: ob.toList) w65) ?_; refine cK [17] (by kernel_rfl) rfl ⟨?_, trivial⟩; refine cP rfl ?_; refine aK (aF (aI rfl aW (aJ hB68 rfl)) (aC (cC (.inl (Evo.refl (jb :: ob.toList) w65)) ?_))); refine fF 18 rfl rfl rfl rfl rfl (by kernel_rfl) (by kernel_rfl) (by kernel_rfl) rfl (fun _ hS => fI rfl rfl) (Evo.refl (jb :: ob.toList) w65) ?_; refine aet 19 rfl (fun _ hS => fQ rfl rfl) (Evo.refl (jb :: ob.toList) w65) ?_; refine aet 20 rfl (fun _ hS => bH rfl) (Evo.refl (jb :: ob.toList) w65) ?_; refine qA (t := 139) rfl (fun hs139 => ?_) (fun hs139 => ?_)
    ·refine iF 21 rfl (Evo.refl (jb :: ob.toList) w65) ?_; refine iF 22 rfl (Evo.refl (jb :: ob.toList) w65) ?_; refine iF 23 rfl (Evo.refl (jb :: ob.toList) w65) ?_; refine cK [24] (by kernel_rfl) rfl ⟨?_, trivial⟩; refine cP rfl ?_; refine aG (aC (cC (.inl (Evo.refl (jb :: ob.toList) w65)) ?_)); refine iF 25 rfl (Evo.refl (jb :: ob.toList) w65) ?_; refine aet 26 rfl (fun _ hS => eG rfl rfl) (Evo.refl (jb :: ob.toList) w65) ?_; refine eQ (by kernel_rfl) (aA ?_); refine cM rfl ?_; refine aE (aB (aN (aC (aA (aO (aM (aV (aM (aM (br1 ?_))))))))))
     have hno := eY (x := t) (b := b) (st := st) (fun h => by obtain ⟨h1, h2, h3, h4⟩ := h; have hf := (bV t).1 h3; (have := (h4 (by omega)).1; have := (h4 (by omega)).2.1; omega))
     exact ⟨false, rfl, by rw [hno]; rfl, hE67, fun st' h => by rw [hno] at h; cases h⟩
    refine fF 21 rfl rfl rfl rfl rfl (by kernel_rfl) (by kernel_rfl) (by kernel_rfl) rfl (fun _ hS => bH rfl) (Evo.refl (jb :: ob.toList) w65) ?_; have hszc := (hE67).size; have hlt5 := Lt.blk hB70; refine fF 22 rfl rfl rfl rfl rfl (by kernel_rfl) (by kernel_rfl) (by kernel_rfl) rfl (fun _ hS => aD rfl dM) (Evo.refl (jb :: ob.toList) w65) ?_; refine fF 23 rfl rfl rfl rfl rfl (by kernel_rfl) (by kernel_rfl) (by kernel_rfl) rfl (fun _ hS => aI rfl cL (aJ (hS.blk hB70 (jQ hA5.symm hA6.symm)) rfl)) (Evo.refl (jb :: ob.toList) w65) ?_; refine cK [24] (by kernel_rfl) rfl ⟨?_, trivial⟩; refine cP rfl ?_; refine aK ?_; refine aP (vs := [_, _]) wQ rfl (LW ⟨hB68, hO69, hne⟩ (by omega) bl2) rfl ?_; rintro _ w71 ⟨gb, rfl, hgb, hw72, hgs⟩; have hE73 := hE67.step hw72 (fun y hy => .inl hy); have hE74 := (Evo.refl (jb :: ob.toList) w65).step hw72 (fun y hy => .inl hy); have hB75 := hw72.blk hB70 (jQ hA5.symm hA6.symm); refine aC (cC (.inl hE74) ?_); refine fF 25 rfl rfl rfl rfl rfl (by kernel_rfl) (by kernel_rfl) (by kernel_rfl) rfl (fun _ hS => eJ rfl) hE74 ?_; refine aet 26 rfl (fun _ hS => fQ rfl rfl) hE74 ?_; refine eQ (by kernel_rfl) (aA ?_); refine fX rfl (fun hc145 => ?_) (fun hc145 => ?_)
    ·refine aE (aB (aN (aC (aA (aO (aM (aV (aM (aM (br1 ?_))))))))))
     have hno := eY (x := t) (b := b) (st := st) (fun h => by obtain ⟨h1, h2, h3, h4⟩ := h; have hf := (bV t).1 h3; (have := hgb.2 (h4 (by omega)).2.2; rw [this] at hc145; cases hc145))
     exact ⟨false, rfl, by rw [hno]; rfl, hE73, fun st' h => by rw [hno] at h; cases h⟩
    obtain ⟨a2, c2, ob2, hJ2, hob2⟩ := hgs (by simpa using hc145); have hgb2 := hgb.1 (by simpa using hc145); have hAq5 := fU hA6.symm hlt5 hob2
    have hg9 : ∀ g, ob2 = some g → g ∈ ob.toList ∨ w.heap.size ≤ g := fun g hg => by rcases hob2 with h | ⟨g', h1, h2⟩; left; rw [← h, hg]; simp; right; rw [hg] at h1; cases h1; exact Nat.le_trans hszc h2
    refine aX (aA (aE (aB (aH ?_)))); refine aF (bE rfl rfl (by omega) (by omega)) ?_; refine aN (aC (aA (aE (aB (aH (aF (fI rfl rfl) ?_)))))); refine aC (aA (bG rfl (fun hc149 => ?_) (fun hc149 => ?_)))
    ·refine aE (aB (aN (aC (aA (aO (aV (aM (aM (br1 ?_)))))))))
     have hno := eY (x := t) (b := b) (st := st) (fun h => by obtain ⟨h1, h2, h3, h4⟩ := h; have hf := (bV t).1 h3; (rw [if_pos (by omega)] at h2; omega))
     exact ⟨false, rfl, by rw [hno]; rfl, hE73, fun st' h => by rw [hno] at h; cases h⟩
    refine aX (aZ (bM ?_)); refine ⟨(z + 1, (st.1 + 1, st.2 ++ [t.name]), a2, c2, ob2), ⟨rfl, trivial⟩, ⟨rfl, rfl, trivial⟩, hE73, ?_⟩
    have hfin0 := gL (x := t) (b := b) (st := st) ⟨by omega, (by rw [if_pos (by omega)]; omega), (bV t).2 ⟨by omega, by omega, hba.zr, hba.zg, hba.zm1, hba.zm2, hba.zl, hba.zc, hba.zn, fun k => by omega, fun k => by omega, fun k => by omega, fun k => by omega, fun k => by omega, fun k => by omega, fun k => by omega, fun k => by omega, fun k => by omega, hba.zk⟩, fun _ => ⟨by omega, by omega, hgb2⟩⟩
    refine ⟨by simp only; omega, by simp only; rw [if_pos (by omega)], ?_, ?_, hg9, hB75, jQ hA5.symm hAq5⟩
    · rw [hfin0, if_pos (by omega), if_pos (by omega), hz]
    · exact ⟨by simpa [List.length_append] using hJ2.blk, hJ2.own, hJ2.ne⟩
   refine aX (aZ (bM ?_)); refine ⟨(z, (st.1 + 1, st.2), a, c, ob), ⟨rfl, trivial⟩, ⟨rfl, rfl, trivial⟩, hE32, ?_⟩
   have hfin0 := gL (x := t) (b := b) (st := st) ⟨by omega, (by rw [if_neg (by omega)]; omega), (bV t).2 ⟨by omega, by omega, hba.zr, hba.zg, hba.zm1, hba.zm2, hba.zl, hba.zc, hba.zn, fun k => by omega, fun k => by omega, fun k => by omega, fun k => by omega, fun k => by omega, fun k => by omega, fun k => by omega, fun k => by omega, fun k => by omega, hba.zk⟩, fun h => by omega⟩
   refine ⟨by simp only; omega, by simp only; rw [if_neg (by omega)], ?_, ?_, fun g hg => .inl (by have h9 : ob = some g := hg; simp [h9]), hB35, jQ hA5.symm hA6.symm⟩
   · rw [hfin0, if_neg (by omega), if_neg (by omega), hz]
   · exact ⟨by simpa [List.length_append] using hB33, hO34, hne⟩
  rintro ⟨z2, s0, a', c', o'⟩ w76 ⟨hV77, ⟨hz2, hs0, hfin0, ⟨hB', hO', hne'⟩, hgo, hB5, hb5o⟩⟩; refine aA ?_; show CW _ _ _ _ [(3, .int .i64 z2), (0, _), (5, _)] _
  try dsimp only at hz2
  try dsimp only at hs0
  try dsimp only at hfin0
  try dsimp only at hB'
  try dsimp only at hO'
  try dsimp only at hne'
  try dsimp only at hgo
  try dsimp only at hB5
  try dsimp only at hb5o
  have hAJN' : Apart (some jb) o' := fun g h1 h2 => by cases h1; exact hne' jb h2 rfl
  have hA5J : Apart (some b5) (some jb) := fun g h1 h2 => by cases h1; cases h2; exact hb5o (by simp)
  have hA5N : Apart (some b5) o' := fun g h1 h2 => by cases h1; exact hb5o (by simp [h2])
  have hyo : ∀ y, y ∈ jb :: o'.toList → y ∈ jb :: ob.toList ∨ w.heap.size ≤ y := fun y hy => by rcases List.mem_cons.1 hy with h | h; left; rw [h]; simp; rcases hgo y (by simpa using h) with h1 | h1; left; exact List.mem_cons_of_mem _ h1; exact .inr h1
  have hsok0 : sW s0 := by rw [hs0]; exact ⟨by show (if t.kind = 7 then st.2 ++ [t.name] else st.2).length ≤ st.1 + 1; split; (rw [List.length_append]; simp; omega); omega, by show st.1 + 1 ≤ 8194; omega⟩
  refine aE (aE (aB (aN (aC (aA (bS (fC (α := Nat × St × Option Addr × Nat × Option Nat) ((0, s0, a', c', o')) (fun x => [(9, .int .i64 (x.1 : Nat))]) [(0, _), (3, _), (5, _)] (fun x wr => Evo (jb :: ob.toList) w wr ∧ (x.1 ≤ t.kids.length ∧ sW x.2.1 ∧ t.fine b st = dJ (t.kids.drop x.1) t.kind z2 x.2.1 ∧ CAt wr jb x.2.1.1 x.2.1.2.length x.2.1.2 x.2.2.1 x.2.2.2.1 x.2.2.2.2 ∧ (∀ g, x.2.2.2.2 = some g → g ∈ ob.toList ∨ w.heap.size ≤ g) ∧ wr.heap[b5]? = some (.cells #[iv t.kind, .int .i32 t.r, .slice ra t.ranges.length rc, iv t.min, iv t.max, .bool t.lazy, iv t.cap, .string t.name, .slice ka t.kids.length kc] 27 (0, 0)) ∧ b5 ∉ jb :: x.2.2.2.2.toList)) (fun x => t.kids.length - x.1) ⟨rfl, trivial⟩ ⟨rfl, rfl, rfl, trivial⟩ ⟨hV77, ⟨Nat.zero_le _, hsok0, hfin0, ⟨hB', hO', hne'⟩, hgo, hB5, hb5o⟩⟩ ?_))))))); rintro ⟨j, s, a', c', o'⟩ wr78 ⟨hV79, ⟨hj, hsok, hfin, ⟨hB', hO', hne'⟩, hgo, hB5, hb5o⟩⟩; show CW _ _ _ _ [(9, .int .i64 (j : Nat)), (0, _), (3, _), (5, _)] _
  try dsimp only at hj
  try dsimp only at hsok
  try dsimp only at hfin
  try dsimp only at hB'
  try dsimp only at hO'
  try dsimp only at hne'
  try dsimp only at hgo
  try dsimp only at hB5
  try dsimp only at hb5o
  have hAJN' : Apart (some jb) o' := fun g h1 h2 => by cases h1; exact hne' jb h2 rfl
  have hA5J : Apart (some b5) (some jb) := fun g h1 h2 => by cases h1; cases h2; exact hb5o (by simp)
  have hA5N : Apart (some b5) o' := fun g h1 h2 => by cases h1; exact hb5o (by simp [h2])
  have hyo : ∀ y, y ∈ jb :: o'.toList → y ∈ jb :: ob.toList ∨ w.heap.size ≤ y := fun y hy => by rcases List.mem_cons.1 hy with h | h; left; rw [h]; simp; rcases hgo y (by simpa using h) with h1 | h1; left; exact List.mem_cons_of_mem _ h1; exact .inr h1
  refine aE (aE (aB (aH (aF (aD rfl cG) (aF (aI rfl cX (aJ hB5 rfl)) (aF (bK rfl Tryz.underlying25 rfl) ?_)))))); refine aF (dF rfl rfl) ?_; refine aC (aA (bG rfl (fun hc154 => ?_) (fun hc154 => ?_)))
  ·have hj' : j < t.kids.length := by omega
   obtain ⟨b1, o1, vs1, ha1, hb1, hvl1, hc1, hrk⟩ := e1 j hj'; obtain ⟨m1, ra1, rc1, ka1, kc1, rfl, rfl, -⟩ := id hrk.get; refine aX (aA (aE (bS (aE ?_)))); refine iM (fun w0 w' => Evo (jb :: o'.toList) w0 w') (by kernel_rfl) (fun w80 hw81 => ?_); have hE82 := hV79.then hw81; have hB83 := hw81.blk0 hB'; have hO84 := hO'.evo0 hw81; have hB85 := hw81.blk0 hB5; refine aet 0 rfl (fun _ hS => bH rfl) (Evo.refl (jb :: o'.toList) w80) ?_; refine aet 1 rfl (fun _ hS => aD rfl cG) (Evo.refl (jb :: o'.toList) w80) ?_; refine aet 2 rfl (fun _ hS => aI rfl cX (aJ (hS.blk hB85 (jQ hA5J hA5N)) rfl)) (Evo.refl (jb :: o'.toList) w80) ?_; refine aet 3 rfl (fun _ hS => bH rfl) (Evo.refl (jb :: o'.toList) w80) ?_
   refine aet 4 rfl (fun _ hS => eS (n := j) (by rw [ha1]; rfl) rfl dY (by omega)) (Evo.refl (jb :: o'.toList) w80) ?_
   refine aet 5 rfl (fun _ hS => eN rfl bR bD (vs := [_, _, _, _, _, _, _, _, _]) rfl (hc1.evo (hE82.step hS (hyo)) hb1)) (Evo.refl (jb :: o'.toList) w80) ?_; refine aet 6 rfl (fun _ hS => aD rfl dR) (Evo.refl (jb :: o'.toList) w80) ?_; refine aet 7 rfl (fun _ hS => aI rfl aW (aJ (hS.blk hB85 (jQ hA5J hA5N)) rfl)) (Evo.refl (jb :: o'.toList) w80) ?_; refine aet 8 rfl (fun _ hS => bH rfl) (Evo.refl (jb :: o'.toList) w80) ?_; refine cK [9] (by kernel_rfl) rfl ⟨?_, trivial⟩; refine cP rfl ?_; have hsz54 := (hE82).size; have hlb5 := fR hB85; refine aP (vs := [_, _, _, _]) wT rfl (ih ⟨hB83, hO84, hne'⟩ (RRx.step hrk hE82 hyo hXlt) hsok (by omega) (by omega)) rfl ?_; rintro _ w86 ⟨r, rfl, hr, hw87, hs2⟩; have hE88 := hE82.step hw87 (hyo); have hE89 := (Evo.refl (jb :: o'.toList) w80).step hw87 (fun y hy => .inl hy); have hB90 := hw87.blk hB85 (jQ hA5J hA5N); refine aC (cC (.inl hE89) ?_); refine aet 10 rfl (fun _ hS => eV rfl) hE89 ?_; refine eQ (by kernel_rfl) (aA ?_); refine aE (aB (aH (aF (eJ rfl) ?_))); refine aC (aA (fX rfl (fun hc168 => ?_) (fun hc168 => ?_)))
   ·refine aE (aB (aN (aC (aA (aO (aV (aM (aM (aV (aM (br1 ?_)))))))))))
    have hn : t.kids[j].fine (z2 + if Brk t.kids[j].kind t.kind then 1 else 0) s = none := by
      cases h : t.kids[j].fine (z2 + if Brk t.kids[j].kind t.kind then 1 else 0) s with
      | none => rfl
      | some s3 => rw [h] at hr; simp at hr; rw [hr] at hc168; cases hc168
    have hno : t.fine b st = none := by rw [hfin, lQ hj', hn]
    exact ⟨false, rfl, by rw [hno]; rfl, hE88, fun st' h => by rw [hno] at h; cases h⟩
   obtain ⟨s3, hs3⟩ := Option.isSome_iff_exists.1 (show (t.kids[j].fine _ s).isSome = true by rw [← hr]; simpa using hc168)
   obtain ⟨hsok3, a3, c3, o3, hJ3, ho3⟩ := hs2 s3 hs3
   have hg3 : ∀ g, o3 = some g → g ∈ ob.toList ∨ w.heap.size ≤ g := fun g hg => by rcases ho3 g hg with h | h; exact hgo g (by simpa using h); exact .inr (Nat.le_trans hsz54 h)
   have hb53 : b5 ∉ jb :: o3.toList := fun hm => by rcases List.mem_cons.1 hm with h | h; exact hb5o (by rw [h]; simp); rcases ho3 b5 (by simpa using h) with h1 | h1; exact hb5o (List.mem_cons_of_mem _ h1); omega
   refine aX (aZ (aA (aB (aH ?_)))); refine aF (bE rfl rfl (by omega) (by omega)) ?_; refine aN (aC (bM ?_)); refine ⟨(j + 1, s3, a3, c3, o3), ?_, ⟨rfl, trivial⟩, ⟨rfl, rfl, rfl, trivial⟩, hE88, ?_⟩
   · (try dsimp only); omega
   try dsimp only
   refine ⟨by omega, hsok3, ?_, ⟨hJ3.blk, hJ3.own, hJ3.ne⟩, hg3, hB90, hb53⟩; rw [hfin, lQ hj', hs3]
  refine dW (cJ (cJ (dV (aA ?_)))); refine aE (aB (aN (aC (aA (aO (br1 ?_))))))
  have hn : t.fine b st = some s := by rw [hfin, uK (by omega)]
  exact ⟨true, rfl, by rw [hn]; rfl, hV79, fun st' h => by rw [hn] at h; cases h; exact ⟨hsok, a', c', o', ⟨hB', hO', hne'⟩, hgo⟩⟩
theorem BE : ∀ {n : Nat} {w : World} {jb : Nat} {st : St} {a : Option Addr} {c : Nat} {ob : Option Nat} {vs : List Value} {t : Rx} {k b0 : Int} (hJ : CAt w jb st.1 st.2.length st.2 a c ob) (hx : RRx n (jb :: ob.toList) w vs t) (hst : sW st) (hb0 : 0 ≤ b0) (hb1 : b0 ≤ 251), Calls Tryz.prog 52 #[.pointer (some ⟨jb, 0, none⟩), .agg vs.toArray, .int .i64 k, .int .i64 b0] w (Ret fun v w' => ∃ r, v = .bool r ∧ r = (t.fine (b0 + (if Brk t.kind k then 1 else 0)) st).isSome ∧ Evo (jb :: ob.toList) w w' ∧ ∀ st', t.fine (b0 + (if Brk t.kind k then 1 else 0)) st = some st' → sW st' ∧ ∃ a' c' ob', CAt w' jb st'.1 st'.2.length st'.2 a' c' ob' ∧ ∀ g, ob' = some g → g ∈ ob.toList ∨ w.heap.size ≤ g)
  | 0, w, jb, st, a, c, ob, vs, t, k, b0, hJ, hx, hs, h0, h1 => hx.elim
  | n + 1, w, jb, st, a, c, ob, vs, t, k, b0, hJ, hx, hs, h0, h1 => HB (n := n) (fun hJ hx hs h0 h1 => BE hJ hx hs h0 h1) hJ hx hs h0 h1
theorem CAt.new {w : World} {jb : Nat} (h : w.heap[jb]? = some (.cells #[iv 0, iv 0, .slice none 0 0] 97 (0, 0))) : CAt w jb 0 0 [] none 0 none := ⟨h, OwnS.nil _ _ _, fun g hg => by cases hg⟩
theorem wH {n : Nat} {w : World} {vs : List Value} {t : Rx} (hx : RRx n [] w vs t) :
    Calls Tryz.prog 20 #[.agg vs.toArray] w (Ret fun v w' => ∃ r, v = .bool r ∧ (r = true ↔ t.Ok) ∧ Evo [] w w') := by
  have hx0 := hx; obtain ⟨m, ra, rc, ka, kc, hm, rfl, hrg, hk, bl1, bl2, bl3⟩ := hx.get; refine bL (N := 9) Tryz.func20 rfl rfl rfl ?_; refine aE (aB (iY rfl rfl fun b1 w2 hB3 hs4 hw5 => ?_)); have hE7 := (Evo.refl [] w).then hw5; refine aN (aC (aA (aE (aB (aF (eX (vs := []) EL rfl (cells := [_, _, _]) rfl) ?_))))); refine iY rfl rfl fun jb w8 hB9 hs10 hw11 => ?_; have hsz_jb := hs10; have hG13 := Ge.new hE7 hs10; have hE14 := hE7.then hw11; have hB15 := hw11.blk0 hB3; refine aN (aC (aA (aE (aB (aH (aF (bY rfl bR bD hB15 rfl) ?_)))))); refine aP (vs := [_, _, _, _]) wT rfl (BE (st := (0, [])) (k := 0) (b0 := 0) (CAt.new hB9) (RRx.step hx0 hE14 hG13.mem1 (fun b hb => by cases hb)) ⟨Nat.le_refl _, by decide⟩ (by decide) (by decide)) rfl ?_; rintro _ w16 ⟨r, rfl, hr, hw17, -⟩; have hE18 := hE14.step hw17 (hG13.mem1); refine aN (aC (aA (aO (br1 ?_))))
  exact ⟨r, rfl, by rw [hr, Option.isSome_iff_exists, show (0 + (if Brk t.kind 0 then 1 else 0) : Int) = 0 from by rw [if_neg (by unfold Brk; omega)]; rfl]; rfl, hE18⟩
theorem wX : fA Tryz.prog 20 := ⟨_, Tryz.func20, by kernel_rfl, by kernel_rfl⟩
theorem tim_a {lo hi : Int} (h : lo = 0 ∧ hi = -1) : gJ lo hi = [42] := by rw [gJ, if_pos h]
theorem tim_b {lo hi : Int} (h : lo = 1 ∧ hi = -1) : gJ lo hi = [43] := by rw [gJ, if_neg (by omega), if_pos h]
theorem tim_c {lo hi : Int} (h : lo = 0 ∧ hi = 1) : gJ lo hi = [63] := by rw [gJ, if_neg (by omega), if_neg (by omega), if_pos h]
theorem rY : fA Tryz.prog 42 := ⟨_, Tryz.func42, by kernel_rfl, by kernel_rfl⟩
theorem wW : fA Tryz.prog 47 := ⟨_, Tryz.func47, by kernel_rfl, by kernel_rfl⟩
def qc (c : Nat) : List Nat := if c ∈ vH then [92, c] else [c]
def qK (s : ByteArray) : Nat → List Nat
  | 0 => []
  | k + 1 => qK s k ++ qc (sb s k)
theorem BV (s : ByteArray) : ∀ k, (qK s k).length ≤ 2 * k
  | 0 => by simp [qK]
  | k + 1 => by have := BV s k; rw [qK, List.length_append]; unfold qc; split <;> simp <;> omega
theorem qK_lo (s : ByteArray) : ∀ k, Lo (qK s k)
  | 0 => fun b hb => by cases hb
  | k + 1 => by
    have h1 := jC s k
    rw [qK]
    refine (qK_lo s k).app ?_
    unfold qc
    split
    · intro b hb; simp at hb; omega
    · intro b hb; simp at hb; omega
theorem NX : ∀ m, m < 256 → (0 ≤ Lib.indexByte (ByteArray.mk #[92, 46, 43, 42, 63, 40, 41, 124, 91, 93, 123, 125, 94, 36]).data.toList (UInt8.ofNat m) ↔ m ∈ vH) := by decide +kernel
theorem NY {w : World} (m : Nat) (hm : m < 256) : Calls Tryz.prog 41 #[.string (ByteArray.mk #[92, 46, 43, 42, 63, 40, 41, 124, 91, 93, 123, 125, 94, 36]), .int .u8 (m : Nat)] w (Ret fun v w' => ∃ z, v = .int .i64 z ∧ (0 ≤ z ↔ m ∈ vH) ∧ Evo [] w w') := by
  refine (kD _ _ w).mono ?_
  rintro e w' ⟨rfl, rfl⟩
  refine ⟨_, rfl, _, rfl, ?_, Evo.refl _ _⟩
  rw [← NX m hm]
  simp
structure QgG where
  k : Nat
  o : Option Nat
theorem VF {w : World} (s : ByteArray) (hs : s.size ≤ 30000000) :
    Calls Tryz.prog 14 #[.string s] w (Ret fun v w' => v = .string (bstr (qK s s.size)) ∧ Evo [] w w') := by
  refine bL (N := 22) Tryz.func14 rfl rfl rfl ?_; refine aE (aB (aN (aC (aA (aE (aB (dH rfl wO fun bb w1 hB2 hs3 hw4 => ?_))))))); have hsz_bb := hs3; have hE6 := (Evo.refl [] w).then hw4; have hub := Nat.le_of_eq hsz_bb; refine aC (aA (aE (aE (aB (aH (aF (cT rfl Tryz.underlying9 rfl) ?_)))))); refine aH (aC (aA (bS (fC (α := QgG) (⟨0, none⟩) (fun x => [(7, .int .i64 (x.k : Nat))]) [(0, _), (2, _), (3, _), (6, _)] (fun x wr => Evo [] w wr ∧ (x.k ≤ s.size ∧ BdN wr bb (qK s x.k) x.o ∧ Ge w x.o)) (fun x => s.size - x.k) ⟨rfl, trivial⟩ ⟨rfl, rfl, rfl, rfl, trivial⟩ ⟨hE6, ⟨Nat.zero_le _, (BdN.new hB2), Ge.nil _⟩⟩ ?_)))); rintro ⟨k, o⟩ wr7 ⟨hV8, ⟨hk, hBDl, hul⟩⟩; show CW _ _ _ _ [(7, .int .i64 (k : Nat)), (0, _), (2, _), (3, _), (6, _)] _
  try dsimp only at hk
  try dsimp only at hBDl
  try dsimp only at hul
  refine aE (aB (aF (dF rfl rfl) ?_)); refine aC (aA (aE (bG rfl (fun hc8 => ?_) (fun hc8 => ?_))))
  ·have hk' : k < s.size := by omega
   refine aX (aA (aE (bS (aE (aB (aH (aN (aC (aA (aE (aE (aB (aH (aH (aF (gH (n := k) rfl rfl Tryz.underlying9 rfl hk') ?_))))))))))))))); refine aP (vs := [_, _]) pD rfl (NY (sb s k) (jC s k)) rfl ?_; rintro _ w9 ⟨z, rfl, hz, hw10⟩; have hE11 := hV8.then hw10; have hF12 := hBDl.evo0 hw10; refine aF (fG rfl rfl) ?_; refine aC (aA (bG rfl (fun hc14 => ?_) (fun hc14 => ?_)))
   ·refine aB ?_
    refine aP (vs := [_, _]) rY rfl (qD 92 hF12 (by have h9 := BV s k; omega)) rfl ?_
    rintro _ w13 ⟨obw1, hBDw1, hw14, hnb1⟩; have hV91 := hE11; have hU1 := dS hul hV91.size hnb1; have hE15 := hE11.step hw14 (iC hub hul); refine aC (aA (aB (aH (aH (aF (gH (n := k) rfl rfl Tryz.underlying9 rfl hk') ?_)))))
    refine aP (vs := [_, _]) rY rfl (qD (sb s k) hBDw1 (by have h9 := BV s k; first | omega | (rw [List.length_append]; simp; omega))) rfl ?_
    rintro _ w16 ⟨obw2, hBDw2, hw17, hnb2⟩; have hV91 := hE15; have hU2 := dS hU1 hV91.size hnb2; have hE18 := hE15.step hw17 (iC hub hU1); refine aC (aZ (aA (aB ?_))); refine aF (bE rfl rfl (by omega) (by omega)) ?_; refine aH (aC (bM ?_)); refine ⟨⟨k + 1, obw2⟩, ?_, ⟨rfl, trivial⟩, ⟨rfl, rfl, rfl, rfl, trivial⟩, hE18, ?_⟩
    · (try dsimp only); omega
    try dsimp only
    have hfin := hBDw2; refine ⟨by omega, ?_, hU2⟩
    rw [qK, qc, if_pos (hz.1 (by omega))]; simpa [List.append_assoc] using hfin
   refine aX (aA (aB (aH (aH (aF (gH (n := k) rfl rfl Tryz.underlying9 rfl hk') ?_)))))
   refine aP (vs := [_, _]) rY rfl (qD (sb s k) hF12 (by have h9 := BV s k; first | omega | (rw [List.length_append]; simp; omega))) rfl ?_
   rintro _ w19 ⟨obw1, hBDw1, hw20, hnb1⟩; have hV91 := hE11; have hU1 := dS hul hV91.size hnb1; have hE21 := hE11.step hw20 (iC hub hul); refine aC (aZ (aA (aB ?_))); refine aF (bE rfl rfl (by omega) (by omega)) ?_; refine aH (aC (bM ?_)); refine ⟨⟨k + 1, obw1⟩, ?_, ⟨rfl, trivial⟩, ⟨rfl, rfl, rfl, rfl, trivial⟩, hE21, ?_⟩
   · (try dsimp only); omega
   try dsimp only
   have hfin := hBDw1; refine ⟨by omega, ?_, hU1⟩
   rw [qK, qc, if_neg (fun h9 => by have := hz.2 h9; omega)]; simpa [List.append_assoc] using hfin
  obtain rfl : k = s.size := by omega
  refine dW (cJ (cJ (dV (aA ?_)))); refine aE (aB ?_)
  refine aP (vs := [_]) rX rfl (tQ hBDl (qK_lo s _) (fun g hg => by have h9 := hul g hg; omega)) rfl ?_
  rintro _ w22 ⟨rfl, hw23⟩; have hE24 := hV8.step hw23 (fun y hy => .inr (Nat.le_trans hub (CE.1 hy).2)); refine aN (aC (aA (aO (br1 ?_)))); exact ⟨rfl, hE24⟩
set_option maxHeartbeats 4000000 in
theorem CY {n : Nat} (ih : ∀ {w : World} {bc : Nat} {k : Int} {vs : List Value} {t : Rx} (hB : w.heap[bc]? = some (.cells #[iv k] 3 (0, 0))) (h0 : 0 ≤ k) (h1 : k ≤ 200000) (hx : RRx n [bc] w vs t), Calls Tryz.prog 47 #[.agg vs.toArray, .pointer (some ⟨bc, 0, none⟩)] w (Ret fun v w' => ∃ bv k', v = .bool bv ∧ 0 ≤ k' ∧ k' ≤ 200001 ∧ w'.heap[bc]? = some (.cells #[iv k'] 3 (0, 0)) ∧ Evo [bc] w w')) {w : World} {bc : Nat} {k : Int} {vs : List Value} {t : Rx} (hB : w.heap[bc]? = some (.cells #[iv k] 3 (0, 0))) (h0 : 0 ≤ k) (h1 : k ≤ 200000) (hx : RRx (n + 1) [bc] w vs t) : Calls Tryz.prog 47 #[.agg vs.toArray, .pointer (some ⟨bc, 0, none⟩)] w (Ret fun v w' => ∃ bv k', v = .bool bv ∧ 0 ≤ k' ∧ k' ≤ 200001 ∧ w'.heap[bc]? = some (.cells #[iv k'] 3 (0, 0)) ∧ Evo [bc] w w') := by
  have hx0 := hx; obtain ⟨m, xa, xc, ka, kc, hm, rfl, hrg, hk, bl1, bl2, bl3⟩ := hx.get
  obtain rfl : m = n := by omega
  obtain ⟨_, _, hke, hkc, e1⟩ := hk; cases hke; refine bL (N := 35) Tryz.func47 rfl rfl rfl ?_; refine aE (aB (iY rfl rfl fun b2 w1 hB2 hs3 hw4 => ?_)); have hsz_b2 := hs3; have hA5 := Apart.new (Lt.blk hB) hs3; have hE7 := (Evo.refl [bc] w).then hw4; have hB8 := hw4.blk0 hB; have hA2c := hA5.symm; refine aN (aC (aA (aE (aB (aH (aF (aQ rfl) (aF (aI rfl aW (aJ hB8 rfl)) ?_))))))); refine aF (bE rfl rfl (by omega) (by omega)) ?_; refine aF (aQ rfl) (bI rfl rfl (rfl) bT hB8 rfl fun w9 hB10 hw11 => ?_); have hE12 := hE7.step hw11 (fun y hy => .inl hy); have hB13 := hw11.blk hB2 hA5.symm.nmem1
  try simp only [cV, Nat.reduceAdd] at hB10
  refine aC (aA (aE (aE (aB (aN (aC (aA (bS ?_)))))))); refine fC (α := Nat × Int) ((0, _)) (fun x => [(5, .int .i64 (x.1 : Nat))]) [(1, _), (2, _), (4, _)] (fun x wr => Evo [bc] w wr ∧ (x.1 ≤ t.kids.length ∧ 0 ≤ x.2 ∧ x.2 ≤ 200001 ∧ wr.heap[bc]? = some (.cells #[iv x.2] 3 (0, 0)) ∧ wr.heap[b2]? = some (.cells #[iv t.kind, .int .i32 t.r, .slice xa t.ranges.length xc, iv t.min, iv t.max, .bool t.lazy, iv t.cap, .string t.name, .slice ka t.kids.length kc] 27 (0, 0)))) (fun x => t.kids.length - x.1) ⟨rfl, trivial⟩ ⟨rfl, rfl, rfl, trivial⟩ ⟨hE12, ⟨Nat.zero_le _, by omega, by omega, hB10, hB13⟩⟩ ?_; rintro ⟨j, q⟩ wr14 ⟨hV15, ⟨hj, hq0, hq1, hBC, hb2⟩⟩; show CW _ _ _ _ [(5, .int .i64 (j : Nat)), (1, _), (2, _), (4, _)] _
  try dsimp only at hj
  try dsimp only at hq0
  try dsimp only at hq1
  try dsimp only at hBC
  try dsimp only at hb2
  refine aE (aE (aB (aH (aF (aD rfl cG) (aF (aI rfl cX (aJ hb2 rfl)) (aF (bK rfl Tryz.underlying25 rfl) ?_)))))); refine aF (dF rfl rfl) ?_; refine aH (aU (t := 16) rfl (fun hs16 => ?_) (fun hs16 => ?_))
  ·refine aK (aH (aK (aF (aQ rfl) (aK (aF (aI rfl aW (aJ hBC rfl)) (aK (aF (fP rfl rfl) ?_))))))); refine aY (aC (aA (bG rfl (fun hc21 => ?_) (fun hc21 => ?_))))
   ·have hj' : j < t.kids.length := by omega
    obtain ⟨b1, o1, vs1, ha1, hb1, hvl1, hc1, hrk⟩ := e1 j hj'; obtain ⟨m1, ra1, rc1, ka1, kc1, rfl, rfl, -⟩ := id hrk.get; refine aX (aA (aE (bS (aB (aF (aD rfl cG) (aF (aI rfl cX (aJ hb2 rfl)) (aH ?_)))))))
    refine aF (eS (n := j) (by rw [ha1]; rfl) rfl dY (by omega)) ?_
    refine aF (eN rfl bR bD (vs := [_, _, _, _, _, _, _, _, _]) rfl (hc1.evo hV15 hb1)) ?_; refine aH ?_; refine aP (vs := [_, _]) wW rfl (ih hBC (by omega) (by omega) (RRx.pers _ _ _ _ _ _ hV15 hrk)) rfl ?_; rintro _ w16 ⟨bv2, k2, rfl, hk20, hk21, hBk, hw17⟩; have hE18 := hV15.step hw17 (fun y hy => .inl hy); have hB19 := hw17.blk hb2 (hA2c.nmem1); refine aC (aZ (aA (aB (aH ?_)))); refine aF (bE rfl rfl (by omega) (by omega)) ?_; refine aN (aC (bM ?_)); refine ⟨(j + 1, k2), ?_, ⟨rfl, trivial⟩, ⟨rfl, rfl, rfl, trivial⟩, hE18, ?_⟩
    · (try dsimp only); omega
    try dsimp only
    exact ⟨by omega, hk20, hk21, hBk, hB19⟩
   refine dW (cJ (cJ (dV (aA ?_)))); refine aE (aB (aH (aF (aQ rfl) (aF (aI rfl aW (aJ hBC rfl)) (aF (fP rfl rfl) ?_))))); refine aN (aC (aA (aO (br1 ?_)))); exact ⟨_, q, rfl, hq0, hq1, hBC, hV15⟩
  refine aG (aG (aG (aG (aR (aC (aA (cN rfl ?_))))))); refine dW (cJ (cJ (dV (aA ?_)))); refine aE (aB (aH (aF (aQ rfl) (aF (aI rfl aW (aJ hBC rfl)) (aF (fP rfl rfl) ?_))))); refine aN (aC (aA (aO (br1 ?_)))); exact ⟨_, q, rfl, hq0, hq1, hBC, hV15⟩
theorem zH : ∀ {n : Nat} {w : World} {bc : Nat} {k : Int} {vs : List Value} {t : Rx} (hB : w.heap[bc]? = some (.cells #[iv k] 3 (0, 0))) (h0 : 0 ≤ k) (h1 : k ≤ 200000) (hx : RRx n [bc] w vs t), Calls Tryz.prog 47 #[.agg vs.toArray, .pointer (some ⟨bc, 0, none⟩)] w (Ret fun v w' => ∃ bv k', v = .bool bv ∧ 0 ≤ k' ∧ k' ≤ 200001 ∧ w'.heap[bc]? = some (.cells #[iv k'] 3 (0, 0)) ∧ Evo [bc] w w')
  | 0, w, bc, k, vs, t, hB, h0, h1, hx => hx.elim
  | n + 1, w, bc, k, vs, t, hB, h0, h1, hx => CY (n := n) (fun hB h0 h1 hx => zH hB h0 h1 hx) hB h0 h1 hx
theorem wide_ok {n : Nat} {w : World} {vs : List Value} {t : Rx} (hx : RRx n [] w vs t) : Calls Tryz.prog 18 #[.agg vs.toArray] w (Ret fun v w' => ∃ b, v = .bool b ∧ Evo [] w w') := by
  have hx0 := hx; obtain ⟨m, xa, xc, ka, kc, hm, rfl, hrg, hk, bl1, bl2, bl3⟩ := hx.get; refine bL (N := 7) Tryz.func18 rfl rfl rfl ?_; refine aE (aB (iY rfl rfl fun b1 w1 hB2 hs3 hw4 => ?_)); have hsz_b1 := hs3; have hE6 := (Evo.refl [] w).then hw4; refine aN (aC (aA (aE (aB (dH rfl KN fun bc w7 hB8 hs9 hw10 => ?_))))); have hsz_bc := hs9; have hA11 := Apart.new (Lt.blk hB2) hs9; have hG12 := Ge.new hE6 hs9; have hE13 := hE6.then hw10; have hB14 := hw10.blk0 hB2; refine bI rfl rfl (rfl) bT hB8 rfl fun w15 hB16 hw17 => ?_; have hE18 := hE13.step hw17 hG12.mem1; have hB19 := hw17.blk hB14 hA11.nmem1
  try simp only [cV, Nat.reduceAdd] at hB16
  refine aC (aA (aE (aB (aF (bY rfl bR bD hB19 rfl) ?_)))); refine aP (vs := [_, _]) wW rfl (zH hB16 (by decide) (by decide) (RRx.step hx0 hE18 hG12.mem1 (fun b hb => by cases hb))) rfl ?_; rintro _ w20 ⟨bv, k', rfl, -, -, -, hw21⟩; have hE22 := hE18.step hw21 (hG12.mem1); refine aF (eJ rfl) ?_; refine aN (aC (aA (aO (br1 ?_)))); exact ⟨_, rfl, hE22⟩
end Go.Proofs.YtljadkcojnlioaaGreatDoor
namespace Go.Proofs.YtljadkcojnlioaaGreatDoor
open Go.RowKit Go.W
abbrev flz : Fl := ⟨false, false, false, false⟩
theorem yU {f : Fl} {c : Int} (hf : f.fold = false) (h0 : 0 ≤ c) (h1 : c ≤ 1114111) : lD f c = lB c := by
  rw [lD, if_neg (by rw [hf]; simp)]
  exact uG (m := [(c, c)]) (PC h0 h1) rfl rfl
theorem SM {a b : Int} (h0 : 0 ≤ a) (h1 : a < b) (h2 : b ≤ 1114111) {S : Int → Prop} (hS : ∀ c, S c ↔ a ≤ c ∧ c ≤ b) : kF S = iT [(a, b)] :=
  nA (oN (zI h0 (by omega) h2) fun c => by rw [jN, hS]) fun _ => by show ¬ a = b; omega
abbrev aL : List Nat := [97, 124, 91, 99, 45, 101, 93, 43, 63]
def aS : ByteArray := ByteArray.mk #[97, 124, 91, 99, 45, 101, 93, 43, 63]
def aT : Rx := rH 5 [lB 97, jV 1 (-1) true (iT [(99, 101)])]
theorem aS_size : aS.size = 9 := rfl
theorem VE : ∀ k, k < aS.size → sb aS k < 128 := by rw [aS_size]; decide +kernel
theorem nxA {k : Nat} (hk : k < 9) : cD aS k = (((sb aS k : Nat) : Int), 1) := tK hk (VE k hk)
theorem VD : jY aS flz 3 = .ok (iT [(99, 101)], 7) := by
  have h1 : kS aS 3 = .ok (99, 4) := by rw [rK (by decide +kernel), nxA (by decide)]; exact congrArg Except.ok (Prod.ext (show ((sb aS 3 : Nat) : Int) = 99 by decide +kernel) rfl)
  have h2 : kS aS 5 = .ok (101, 6) := by rw [rK (by decide +kernel), nxA (by decide)]; exact congrArg Except.ok (Prod.ext (show ((sb aS 5 : Nat) : Int) = 101 by decide +kernel) rfl)
  have h3 : hZ aS 3 = .ok (rgS 99 101, 6) := by
    unfold hZ
    rw [h1]
    simp only
    rw [if_pos (by decide +kernel), h2]
    simp only
    rw [if_neg (by decide)]
  have h4 : jP aS 3 = .ok (rgS 99 101, 6) := by
    unfold jP
    rw [if_neg (by decide +kernel)]
    unfold lC
    rw [if_neg (by decide +kernel), h3]
  have h5 : gG aS (aS.size + 1) true (fun _ => False) 3 = .ok (unS (fun _ => False) (rgS 99 101), 7) := by
    show gG aS 10 true (fun _ => False) 3 = _
    rw [gG, if_neg (by decide +kernel), if_neg (by decide), h4]
    simp only
    rw [gG, if_neg (by decide +kernel), if_pos (by decide +kernel)]
  unfold jY
  rw [if_neg (show ¬ isB aS 3 94 by decide +kernel), h5]
  simp only
  rw [if_neg (show ¬ isB aS 3 94 by decide +kernel), if_neg (by decide)]
  exact congrArg Except.ok (Prod.ext (SM (by decide) (by decide) (by decide) fun c => by unfold unS rgS; simp) rfl)
theorem VC : iG aS = .ok aT := by
  have e1 : hY aS (kL aS 249) (aS.size + 1) [] false st0 = .ok (lB 97, ⟨1, flz, 0, []⟩) := by
    show hY aS (kL aS 249) 10 [] false st0 = _
    rw [UZ (c := 97) (by decide +kernel) (by decide), mE (st := gZ st0 1) (.inr (.inl (by decide +kernel)))]
    show Except.ok (lD flz 97, _) = _
    rw [yU rfl (by decide) (by decide)]
    rfl
  have e2 : hY aS (kL aS 249) (aS.size + 1) [] false (adv ⟨1, flz, 0, []⟩ 1) = .ok (jV 1 (-1) true (iT [(99, 101)]), ⟨9, flz, 0, []⟩) := by
    show hY aS (kL aS 249) 10 [] false ⟨2, flz, 0, []⟩ = _
    rw [sS (c := 91) (st := ⟨2, flz, 0, []⟩) (by decide +kernel) (by decide) (RL (by decide +kernel) VD)]
    have hr : kZ (aS.extract 7 aS.size) = (1, -1, 1) := by decide +kernel
    rw [uQ (lo := 1) (hi := -1) (nn := 1) (st := gZ ⟨2, flz, 0, []⟩ 7) (by decide +kernel) hr (by decide) (by decide) (by decide +kernel), mE (.inl (by decide +kernel))]
    rfl
  have e3 : kL aS 250 st0 = .ok (aT, ⟨9, flz, 0, []⟩) := by
    show kP aS (kL aS 249) st0 = _
    rw [vS (show oV aS (kL aS 249) st0 = _ from e1), xY (st := ⟨1, flz, 0, []⟩) (by decide +kernel) e2, pZ (by decide +kernel)]
    rfl
  exact LE (by decide +kernel) ⟨_, KU VE⟩ e3 (by decide +kernel)
def oS : ByteArray := ByteArray.mk #[40]
theorem TJ {s : ByteArray} {ex : PS → PX Rx} {st st2 : PS} {x : Rx} (h : isB s st.pos 40) (hq : ¬ isB s (st.pos + 1) 63) (ho : st.opn ≠ 250) (hl : ¬ IG emp st.names) (hx : ex ⟨st.pos + 1, st.now, st.opn + 1, st.names ++ [emp]⟩ = .ok (x, st2)) (hc : ¬ isB s st2.pos 41) : eL s ex st = .error 80 := by
  rw [xW h, nL (uE (fun h2 => hq h2.2)) (by simp) ho (by simp) (fun h3 => hl h3.2)]
  show (match ex ⟨st.pos + 1, st.now, st.opn + 1, if true = true then st.names ++ [emp] else st.names⟩ with | .error e => _ | .ok (x, st2) => _) = _
  rw [if_pos rfl, hx]
  simp only
  rw [if_neg hc]
theorem RZ : iG oS = .error 80 := by
  obtain ⟨ex, he⟩ := pExp_ex oS 249
  have e0 : kL oS 249 ⟨1, flz, 1, [emp]⟩ = .ok (rxK 1, ⟨1, flz, 1, [emp]⟩) := by
    rw [he]; exact GR (mE (.inl (by decide +kernel))) (by decide +kernel)
  have e1 : eL oS (kL oS 249) st0 = .error 80 := TJ (st := st0) (st2 := ⟨1, flz, 1, [emp]⟩) (by decide +kernel) (by decide +kernel) (by decide) (fun h => h.elim (by decide) (fun h3 => h3.1 rfl)) e0 (by decide +kernel)
  have e2 : kL oS 250 st0 = .error 80 := by
    show kP oS (kL oS 249) st0 = _
    exact TW (KK (c := 40) (by decide +kernel) (by decide) e1)
  exact RC (by decide +kernel) ⟨_, KU (by decide +kernel)⟩ e2
theorem JN {c : Int} (h0 : 0 ≤ c) (h1 : c ≤ 1114111) : NodeP (lB c) := ⟨by show (1 : Int) ≤ 2; decide, by show (2 : Int) ≤ 13; decide, .inl rfl, .inr rfl, .inr ⟨rfl, rfl, rfl⟩, .inr ⟨rfl, rfl⟩, fun _ => ⟨h0, h1⟩, fun h => absurd (show (2 : Int) = 3 from h) (by decide), fun h => absurd (show (2 : Int) = 4 ∨ (2 : Int) = 5 from h) (by decide), fun h => absurd (show (2 : Int) = 6 from h) (by decide), fun h => absurd (show (2 : Int) = 7 from h) (by decide), fun _ => rfl⟩
theorem SL {l : List (Int × Int)} (h : RangesOk l) : NodeP (iT l) := ⟨by show (1 : Int) ≤ 3; decide, by show (3 : Int) ≤ 13; decide, .inr rfl, .inl rfl, .inr ⟨rfl, rfl, rfl⟩, .inr ⟨rfl, rfl⟩, fun h => absurd (show (3 : Int) = 2 from h) (by decide), fun _ => h, fun h => absurd (show (3 : Int) = 4 ∨ (3 : Int) = 5 from h) (by decide), fun h => absurd (show (3 : Int) = 6 from h) (by decide), fun h => absurd (show (3 : Int) = 7 from h) (by decide), fun _ => rfl⟩
theorem JM {k : Int} {l : List Rx} (hk : k = 4 ∨ k = 5) (hl : 2 ≤ l.length) : NodeP (rH k l) := ⟨by show (1 : Int) ≤ k; omega, by show k ≤ 13; omega, .inr rfl, .inr rfl, .inr ⟨rfl, rfl, rfl⟩, .inr ⟨rfl, rfl⟩, fun h => by have : k = 2 := h; omega, fun h => by have : k = 3 := h; omega, fun _ => hl, fun h => by have : k = 6 := h; omega, fun h => by have : k = 7 := h; omega, fun h => (h (by show k = 4 ∨ k = 5 ∨ k = 6 ∨ k = 7; omega)).elim⟩
theorem SK {lo hi : Int} {z : Bool} {x : Rx} (h0 : 0 ≤ lo) (h1 : lo ≤ 1000) (h2 : hi = -1 ∨ (lo ≤ hi ∧ hi ≤ 1000)) : NodeP (jV lo hi z x) := ⟨by show (1 : Int) ≤ 6; decide, by show (6 : Int) ≤ 13; decide, .inr rfl, .inr rfl, .inl rfl, .inr ⟨rfl, rfl⟩, fun h => absurd (show (6 : Int) = 2 from h) (by decide), fun h => absurd (show (6 : Int) = 3 from h) (by decide), fun h => absurd (show (6 : Int) = 4 ∨ (6 : Int) = 5 from h) (by decide), fun _ => ⟨h0, h1, h2, rfl⟩, fun h => absurd (show (6 : Int) = 7 from h) (by decide), fun h => (h (.inr (.inr (.inl rfl)))).elim⟩
theorem rok_one {a b : Int} (h0 : 0 ≤ a) (h1 : a < b) (h2 : b ≤ 1114111) : RangesOk [(a, b)] := by
  refine ⟨fun i hi => ?_, fun _ => by show a ≠ b; omega⟩
  have hi0 : i = 0 := by simpa using hi
  subst hi0
  exact ⟨h0, by show a ≤ b; omega, h2, fun j hj e => by omega⟩
theorem sP {x : Rx} {b : Int} {st : St} (hp : NodeP x) (hk : kW x.kind) (h7 : x.kind ≠ 7) (h1 : st.1 + 1 ≤ 8194) (hb : b ≤ 250) : x.fine b st = some (st.1 + 1, st.2) := by
  rw [gL ⟨h1, by rw [if_neg h7]; exact hb, hp, fun h => absurd h h7⟩, hp.leaf hk, dJ, if_neg h7]
theorem aT_ok : aT.Ok := by
  have hl : ∀ b : Int, b ≤ 250 → ∀ st : St, st.1 + 1 ≤ 8194 → (lB 97).fine b st = some (st.1 + 1, st.2) := fun b hb st h => sP (JN (by decide) (by decide)) (by unfold kW; decide) (by decide) h hb
  have hc : ∀ b : Int, b ≤ 250 → ∀ st : St, st.1 + 1 ≤ 8194 → (iT [(99, 101)]).fine b st = some (st.1 + 1, st.2) := fun b hb st h => sP (SL (rok_one (by decide) (by decide) (by decide))) (by unfold kW; decide) (by decide) h hb
  refine ⟨(4, []), ?_⟩
  show (rH 5 [lB 97, jV 1 (-1) true (iT [(99, 101)])]).fine 0 (0, []) = _
  rw [gL ⟨by decide, by decide, JM (.inr rfl) (by decide), fun h => absurd (show (5 : Int) = 7 from h) (by decide)⟩]
  show dJ [lB 97, jV 1 (-1) true (iT [(99, 101)])] 5 0 (1, []) = _
  rw [dJ, if_neg (show ¬ Brk (lB 97).kind 5 by decide), hl _ (by decide) _ (by decide)]
  simp only
  rw [dJ, if_neg (show ¬ Brk (jV 1 (-1) true (iT [(99, 101)])).kind 5 by decide), gL ⟨by decide, by decide, SK (by decide) (by decide) (.inl rfl), fun h => absurd (show (6 : Int) = 7 from h) (by decide)⟩]
  show (match dJ [iT [(99, 101)]] 6 0 (3, []) with | none => none | some st' => dJ [] 5 0 st') = _
  rw [dJ, if_neg (show ¬ Brk (iT [(99, 101)]).kind 6 by decide), hc _ (by decide) _ (by decide)]
  simp only
  rw [dJ]
  simp only
  rw [dJ]
theorem aT_txt : iD aT = aL := by
  have h1 : lE 99 = [99] := by rw [lE, if_pos (by decide), show (99 : Int) = ((99 : Nat) : Int) from rfl, lJ (by decide)]; rfl
  have h2 : lE 101 = [101] := by rw [lE, if_pos (by decide), show (101 : Int) = ((101 : Nat) : Int) from rfl, lJ (by decide)]; rfl
  have h3 : lV 97 = [97] := by rw [lV, if_neg (by decide), if_neg (by decide), show (97 : Int) = ((97 : Nat) : Int) from rfl, lJ (by decide)]; rfl
  have h4 : pJ [(99, 101)] = [91, 99, 45, 101, 93] := by rw [pJ, if_neg (by simp)]; simp [kY, h1, h2]
  have h5 : (lB 97).w = [97] := by rw [Rx.w_eq]; show lV 97 ++ dI 2 true [] ++ [] = _; rw [h3, dI]; rfl
  have h6 : (iT [(99, 101)]).w = [91, 99, 45, 101, 93] := by rw [Rx.w_eq]; show pJ [(99, 101)] ++ dI 3 true [] ++ [] = _; rw [h4, dI]; rfl
  have h7 : (jV 1 (-1) true (iT [(99, 101)])).w = [91, 99, 45, 101, 93, 43, 63] := by
    rw [Rx.w_eq]
    show [] ++ dI 6 true [iT [(99, 101)]] ++ ([43] ++ [63]) = _
    rw [dI, dI, h6]; rfl
  have h8 : aT.w = aL := by
    rw [Rx.w_eq]
    show [] ++ dI 5 true [lB 97, jV 1 (-1) true (iT [(99, 101)])] ++ [] = _
    rw [dI, dI, dI, h5, h7]; rfl
  have h9 : aT.ln = false := by
    rw [Rx.ln_eq]
    show (decide ((5 : Int) = 10 ∨ (5 : Int) = 11) || lns [lB 97, jV 1 (-1) true (iT [(99, 101)])]) = false
    rw [lns, lns, lns, Rx.ln_eq, Rx.ln_eq]
    show (_ || (decide ((2 : Int) = 10 ∨ (2 : Int) = 11) || lns [] || (decide ((6 : Int) = 10 ∨ (6 : Int) = 11) || lns [iT [(99, 101)]] || false))) = false
    rw [lns, lns, Rx.ln_eq]
    show (_ || (_ || false || (_ || (decide ((3 : Int) = 10 ∨ (3 : Int) = 11) || lns [] || lns []) || false))) = false
    rw [lns]; decide
  rw [iD, if_neg (by rw [h9]; simp), h8]; rfl
theorem zero_no {x : Rx} (h : x.kind = 0) : ¬ x.Ok := by
  rintro ⟨st, hs⟩
  rw [eY (fun h2 => by have := h2.2.2.1.kind1; omega)] at hs
  cases hs
theorem aT_show {s : List Nat} {e : Int} (h : ShowIs aT s e) : s = aL ∧ e = 0 := by
  have h2 : ShowIs aT aL 0 := .inr ⟨aT_ok, .inr ⟨by rw [aT_txt]; decide, aT_txt.symm, rfl⟩⟩
  exact h.uniq h2
theorem rrx_up : ∀ {n : Nat} {X : List Nat} {w : World} {vs : List Value} {x : Rx}, RRx n X w vs x → RRx (n + 1) X w vs x := by
  intro n
  induction n with
  | zero => intro X w vs x h; exact h.elim
  | succ n ih =>
    rintro X w vs x ⟨vr, vk, h1, h2, ⟨a, c, hv, hc, h3⟩, h4⟩
    exact ⟨vr, vk, h1, h2, ⟨a, c, hv, hc, fun k hk => by obtain ⟨b, o, us, ha, hb, hl, hcs, hr⟩ := h3 k hk; exact ⟨b, o, us, ha, hb, hl, hcs, ih hr⟩⟩, h4⟩
theorem QM {n m : Nat} {X : List Nat} {w : World} {vs : List Value} {x : Rx} (h : RRx n X w vs x) (hm : n ≤ m) : RRx m X w vs x := by
  induction hm with
  | refl => exact h
  | step _ ih => exact rrx_up ih
mutual
theorem OT.rrx : ∀ {x : Rx} {w : World} {vs : List Value} {bs X : List Nat}, OT x w vs bs → (∀ b, b ∈ bs → b ∉ X) → ∃ n, RRx n X w vs x
  | .mk k r rs mn mx lz cp nm ks, w, vs, bs, X, h, hX => by
    rw [OT] at h
    obtain ⟨ra, rc, rb, ka, kc, kb, cs, bk, h1, h2, h3, h4, rfl, h5, h6, h7⟩ := h
    obtain ⟨n, hn⟩ := OTs.rrx h4 (X := X) (fun b hb => hX b (List.mem_append_right _ (List.mem_append_right _ hb)))
    refine ⟨n + 1, _, _, h1, own_rrg h2 (fun g hg => hX g (by simp [hg])), ⟨ka, kc, rfl, h3.le, fun j hj => ?_⟩, by show rs.length ≤ _; omega, by show nm.size ≤ _; omega, by show ks.length ≤ _; omega⟩
    obtain ⟨us, hul, huc, hur⟩ := hn j hj
    have hj' : j < ks.length := hj
    obtain ⟨g, hg, ha, hc⟩ := h3.cells (by omega)
    refine ⟨g, 0, us, ha, hX g (by simp [hg]), hul, fun i v hi => ?_, hur⟩
    have := hc _ _ (huc i v hi)
    rw [← Nat.add_assoc] at this
    exact this
theorem OTs.rrx : ∀ {l : List Rx} {w : World} {cs : List Value} {bs X : List Nat}, OTs l w cs bs → (∀ b, b ∈ bs → b ∉ X) → ∃ n, ∀ k (hk : k < l.length), ∃ us, us.length = 9 ∧ (∀ j v, us[j]? = some v → cs[k * 9 + j]? = some v) ∧ RRx n X w us l[k]
  | [], w, cs, bs, X, h, hX => ⟨0, fun k hk => by cases hk⟩
  | x :: l, w, cs, bs, X, h, hX => by
    rw [OTs] at h
    obtain ⟨vs, cs', b1, b2, rfl, rfl, h3, h4⟩ := h
    obtain ⟨n1, hn1⟩ := OT.rrx h3 (X := X) (fun b hb => hX b (List.mem_append_left _ hb))
    obtain ⟨n2, hn2⟩ := OTs.rrx h4 (X := X) (fun b hb => hX b (List.mem_append_right _ hb))
    have hl9 : vs.length = 9 := by obtain ⟨ra, rc, ka, kc, rfl⟩ := h3.nine; rfl
    refine ⟨max n1 n2, fun k hk => ?_⟩
    cases k with
    | zero => exact ⟨vs, hl9, fun j v hj => by rw [Nat.zero_mul, Nat.zero_add, List.getElem?_append_left (List.getElem?_eq_some_iff.1 hj).1]; exact hj, QM hn1 (Nat.le_max_left _ _)⟩
    | succ k =>
      obtain ⟨us, hu1, hu2, hu3⟩ := hn2 k (by simpa using hk)
      refine ⟨us, hu1, fun j v hj => ?_, QM hu3 (Nat.le_max_right _ _)⟩
      rw [List.getElem?_append_right (by omega), show (k + 1) * 9 + j - vs.length = k * 9 + j by omega]
      exact hu2 j v hj
end
end Go.Proofs.YtljadkcojnlioaaGreatDoor
namespace Go.Proofs.YtljadkcojnlioaaGreatDoor
open Go.RowKit Go.W
attribute [local irreducible] Decidable.decide
theorem nG : fA Tryz.prog 11 := ⟨_, Tryz.func11, by kernel_rfl, by kernel_rfl⟩
theorem IC : fA Tryz.prog 14 := ⟨_, Tryz.func14, by kernel_rfl, by kernel_rfl⟩
theorem sA : fA Tryz.prog 19 := ⟨_, Tryz.func19, by kernel_rfl, by kernel_rfl⟩
theorem FG {w : World} {s : ByteArray} {x : Rx} (hG : Glb w) (h : iG s = .ok x) : Calls Tryz.prog 11 #[.string s] w (Ret fun v w' => ∃ vs bs, v = .tuple #[.agg vs.toArray, iv 0] ∧ OT x w' vs bs ∧ Fr w bs ∧ Evo [] w w') := by
  refine (yK s hG).mono ?_
  rintro e w' ⟨v, rfl, hv, h1 | ⟨x2, vs, bs, h2, rfl, h4, h5⟩⟩
  · obtain ⟨e, h1, -⟩ := h1
    rw [h] at h1; cases h1
  · rw [h] at h2; cases h2
    exact ⟨_, rfl, vs, bs, rfl, h4, h5, hv⟩
theorem OI {w : World} {s : ByteArray} {e : Int} (hG : Glb w) (h : iG s = .error e) : Calls Tryz.prog 11 #[.string s] w (Ret fun v w' => v = .tuple #[zRx, iv e] ∧ Evo [] w w') := by
  refine (yK s hG).mono ?_
  rintro e9 w' ⟨v, rfl, hv, h1 | ⟨x2, vs, bs, h2, rfl, h4, h5⟩⟩
  · obtain ⟨e2, h1, h3⟩ := h1
    rw [h] at h1; cases h1
    exact ⟨_, rfl, h3, hv⟩
  · rw [h] at h2; cases h2
def zX : Rx := .mk 0 0 [] 0 0 false 0 emp []
theorem zX_rx (X : List Nat) (w : World) : RRx 1 X w [iv 0, .int .i32 0, .slice none 0 0, iv 0, iv 0, .bool false, iv 0, .string ByteArray.empty, .slice none 0 0] zX := ⟨_, _, rfl, rnil0, rnil0, Nat.zero_le _, Nat.zero_le _, Nat.zero_le _⟩
set_option maxHeartbeats 4000000 in
theorem VA {w : World} (hG : Gw w) : Calls Tryz.prog 10 #[] w (Ret fun v w' => v = .bool true ∧ Evo [] w w') := by
  refine bL (N := 113) Tryz.func10 rfl rfl rfl ?_; refine aE (aB (aN (aC (aA (aE (aB (aP (vs := [_]) nG rfl (FG (s := aS) (hG.evo0 (Evo.refl [] w)).glb VC) rfl ?_))))))); rintro _ w1 ⟨vs, bs, rfl, hOT, hFr, hw2⟩; have hE3 := (Evo.refl [] w).then hw2; obtain ⟨n1, hx1⟩ := hOT.rrx (X := []) (fun b _ h => by cases h); have hx1' := hx1; obtain ⟨m1, ra1, rc1, ka1, kc1, hm1, rfl, hrg1, hk1, -⟩ := hx1.get; obtain ⟨_, _, hke, -, e1⟩ := hk1; cases hke; obtain ⟨b1, o1, vs1, ha1, -, -, hc1, hr1⟩ := e1 0 (by decide); obtain ⟨m2, ra2, rc2, ka2, kc2, -, rfl, -⟩ := hr1.get; obtain ⟨b2, o2, vs2, ha2, -, -, hc2, hr2⟩ := e1 1 (by decide); obtain ⟨m3, ra3, rc3, ka3, kc3, -, rfl, -, hk3, -⟩ := hr2.get; obtain ⟨_, _, hke3, -, e3⟩ := hk3; cases hke3; obtain ⟨b4, o4, vs4, ha4, -, -, hc4, hr4⟩ := e3 0 (by decide); obtain ⟨m5, ra5, rc5, ka5, kc5, -, rfl, hrg5, -⟩ := hr4.get; obtain ⟨_, _, hke5, -, e5⟩ := hrg5; cases hke5; obtain ⟨b6, o6, vs6, ha6, -, -, hc6, hr6⟩ := e5 0 (by decide); obtain rfl := hr6; refine aH (aF (cO rfl rfl) ?_); refine aF (cO rfl rfl) ?_; refine dH rfl eI fun bx w4 hB5 hs6 hw7 => ?_; have hsz_bx := hs6; have hG8 := Ge.new hE3 hs6; have hG9 := Ge.new (Evo.refl [] w1) hs6; have hE10 := hE3.then hw7; have hE11 := (Evo.refl [] w1).then hw7; refine bN rfl rfl bD hB5 rfl rfl ⟨rfl, rfl, rfl, rfl, rfl, rfl, rfl, rfl, rfl, trivial⟩ fun w12 hB13 hw14 => ?_; have hE15 := hE10.step hw14 hG8.mem1; have hE16 := hE11.step hw14 hG9.mem1
  try simp only [cV, Nat.reduceAdd] at hB13
  refine aN (aC (aA (aE (aE (aB (aH ?_)))))); refine aF (fB (r := .bool false) rfl rfl (fun w => by kernel_rfl)) ?_; refine aH (aK (aF (aD rfl dR) (aK (aF (aI rfl aW (aJ hB13 rfl)) (aK ?_))))); refine aF (fB (r := .bool false) rfl rfl (fun w => by kernel_rfl)) ?_; refine aR (aH (aK (aF (aD rfl cG) (aK (aF (aI rfl cX (aJ hB13 rfl)) (aK (aF (bK rfl Tryz.underlying25 rfl) ?_))))))); refine aK ?_; refine aF (fB (r := .bool false) rfl rfl (fun w => by kernel_rfl)) ?_; refine aR (aH (aK (aF (aD rfl cG) (aK (aF (aI rfl cX (aJ hB13 rfl)) (aK ?_))))))
  refine aF (fV (n := 0) (by rw [ha1]; rfl) rfl rfl dY (by decide)) ?_
  refine aK (aF (aD rfl eD) (aK ?_)); refine aF (aI rfl bZ ((hE16).cell (hc1 1 _ rfl) (by simp))) ?_; refine aK ?_; refine aF (fB (r := .bool false) rfl rfl (fun w => by kernel_rfl)) ?_; refine aR (aC (aA (cN rfl ?_))); refine aX (aA (aE (aB (aF (aD rfl cG) (aF (aI rfl cX (aJ hB13 rfl)) ?_)))))
  refine aF (eS (n := 1) (by rw [ha2]; rfl) rfl dY (by decide)) ?_
  refine aF (eN rfl bR bD (vs := [_, _, _, _, _, _, _, _, _]) rfl (hc2.evo hE16 (by simp))) ?_; refine dH rfl eI fun by9 w17 hB18 hs19 hw20 => ?_; have hsz_by9 := hs19; have hA21 := Apart.new (Lt.blk hB13) hs19; have hG22 := Ge.new hE15 hs19; have hG23 := Ge.new hE16 hs19; have hE24 := hE15.then hw20; have hE25 := hE16.then hw20; have hB26 := hw20.blk0 hB13; refine bN rfl rfl bD hB18 rfl rfl ⟨rfl, rfl, rfl, rfl, rfl, rfl, rfl, rfl, rfl, trivial⟩ fun w27 hB28 hw29 => ?_; have hE30 := hE24.step hw29 hG22.mem1; have hE31 := hE25.step hw29 hG23.mem1; have hB32 := hw29.blk hB26 hA21.nmem1
  try simp only [cV, Nat.reduceAdd] at hB28
  refine aC (aA (aE (aE (aB (aF (aD rfl dR) (aF (aI rfl aW (aJ hB28 rfl)) ?_)))))); refine aF (fB (r := .bool false) rfl rfl (fun w => by kernel_rfl)) ?_; refine aH (aK (aF (aD rfl cZ) (aK (aF (aI rfl aW (aJ hB28 rfl)) (aK ?_))))); refine aF (fB (r := .bool false) rfl rfl (fun w => by kernel_rfl)) ?_; refine aR (aH (aK (aF (aD rfl cU) (aK (aF (aI rfl aW (aJ hB28 rfl)) (aK ?_)))))); refine aF (fB (r := .bool false) rfl rfl (fun w => by kernel_rfl)) ?_; refine aR (aH (aK (aF (aD rfl eC) (aK (aF (aI rfl eA (aJ hB28 rfl)) (aK (aF (eJ rfl) ?_))))))); refine aR (aH (aK (aF (aD rfl cG) (aK (aF (aI rfl cX (aJ hB28 rfl)) (aK (aF (bK rfl Tryz.underlying25 rfl) ?_))))))); refine aK ?_; refine aF (fB (r := .bool false) rfl rfl (fun w => by kernel_rfl)) ?_; refine aR (aH (aK (aF (aD rfl cG) (aK (aF (aI rfl cX (aJ hB28 rfl)) (aK ?_))))))
  refine aF (fV (n := 0) (by rw [ha4]; rfl) rfl rfl dY (by decide)) ?_
  refine aK (aF (aD rfl dQ) (aK ?_)); refine aF (aI rfl eZ ((hE31).cell (hc4 2 _ rfl) (by simp))) ?_; refine aK (aF (bK rfl Tryz.underlying24 rfl) ?_); refine aK ?_; refine aF (fB (r := .bool false) rfl rfl (fun w => by kernel_rfl)) ?_; refine aR (aH (aK (aF (aD rfl cG) (aK (aF (aI rfl cX (aJ hB28 rfl)) (aK ?_))))))
  refine aF (fV (n := 0) (by rw [ha4]; rfl) rfl rfl dY (by decide)) ?_
  refine aK (aF (aD rfl dQ) (aK ?_)); refine aF (aI rfl eZ ((hE31).cell (hc4 2 _ rfl) (by simp))) ?_; refine aK ?_
  refine aF (fV (n := 0) (by rw [ha6]; rfl) rfl rfl dZ (by decide)) ?_
  refine aK (aF (aD rfl eM) (aK ?_)); refine aF (aI rfl bZ ((hE31).cell (hc6 1 _ rfl) (by simp))) ?_; refine aK ?_; refine aF (fB (r := .bool false) rfl rfl (fun w => by kernel_rfl)) ?_; refine aR (aC (aA (cN rfl ?_))); refine aX (aA (aE (aB (aF (bY rfl bR bD hB32 rfl) ?_)))); refine aP (vs := [_]) sA rfl (EP (hG.evo0 hE30) (RRx.pers _ _ _ _ _ _ hE31 hx1') (by decide +kernel)) rfl ?_; rintro _ w33 ⟨s, e, hsh, rfl, hw34⟩; have hE35 := hE30.then hw34; have hE36 := hE31.then hw34; have hB37 := hw34.blk0 hB32; obtain ⟨rfl, rfl⟩ := aT_show hsh; refine aH (aF (cO rfl rfl) ?_); refine aF (cO rfl rfl) ?_; refine aN (aN (aC (aA (aE (aB (aP (vs := [_]) nG rfl (OI (s := oS) (hG.evo0 hE35).glb RZ) rfl ?_)))))); rintro _ w39 ⟨rfl, hw40⟩; have hE41 := hE35.then hw40; have hE42 := hE36.then hw40; have hB43 := hw40.blk0 hB37; refine aH (aF (cO rfl rfl) ?_); refine aF (cO rfl rfl) ?_; refine dH rfl eI fun b45 w46 hB47 hs48 hw49 => ?_; have hA50 := Apart.new (Lt.blk hB43) hs48; have hG52 := Ge.new hE41 hs48; have hG53 := Ge.new hE42 hs48; have hE54 := hE41.then hw49; have hE55 := hE42.then hw49; have hB56 := hw49.blk0 hB43; refine bN rfl rfl bD hB47 rfl rfl ⟨rfl, rfl, rfl, rfl, rfl, rfl, rfl, rfl, rfl, trivial⟩ fun w58 hB59 hw60 => ?_; have hE61 := hE54.step hw60 hG52.mem1; have hE62 := hE55.step hw60 hG53.mem1; have hB63 := hw60.blk hB56 hA50.nmem1
  refine aN (aC (aA (aE (aB (aH ?_))))); refine aF (fB (r := .bool true) rfl rfl (fun w => by kernel_rfl)) ?_; refine aH (aK (aH (aK ?_))); refine aF (fB (r := .bool true) rfl rfl (fun w => by kernel_rfl)) ?_; refine aY (aH (aK (aH (aK ?_)))); refine aF (fB (r := .bool true) rfl rfl (fun w => by kernel_rfl)) ?_; refine aY (aH (aK ?_)); refine aP (vs := [_]) IC rfl (VF _ (by decide +kernel)) rfl ?_; rintro _ w65 ⟨rfl, hw66⟩; have hE67 := hE61.then hw66; have hE68 := hE62.then hw66; have hB69 := hw66.blk0 hB63; refine aK ?_; refine aF (fB (r := .bool true) rfl rfl (fun w => by kernel_rfl)) ?_; refine aY (aH (aK (aF (bY rfl bR bD hB69 rfl) (aK (aP (vs := [_]) rZ rfl (yB (RRx.pers _ _ _ _ _ _ hE68 hx1')) rfl ?_))))); rintro _ w71 ⟨r, rfl, hr, hw72⟩; have hE73 := hE67.then hw72; obtain rfl : r = true := hr.2 aT_ok; refine aY (aH (aK (aF (eX (vs := []) eE rfl (cells := [_, _, _, _, _, _, _, _, _]) rfl) ?_))); refine aK (aP (vs := [_]) rZ rfl (yB (zX_rx [] _)) rfl ?_); rintro _ w77 ⟨r2, rfl, hr2, hw78⟩; have hE79 := hE73.then hw78
  obtain rfl : r2 = false := by cases r2 with | false => rfl | true => exact (zero_no rfl (hr2.1 rfl)).elim
  refine aK (aF (eJ rfl) ?_); refine aY (aN (aC (aA (aO (br1 ?_))))); exact ⟨rfl, hE79⟩
theorem sB : fA Tryz.prog 13 := ⟨_, Tryz.func13, by kernel_rfl, by kernel_rfl⟩
theorem KO : Tryz.prog.eqGuardType Tryz.prog.depth 56 = false := by kernel_rfl
theorem AD : Tryz.prog.underlying 56 = some (.struct (Tryz.prog.fieldsOf 56)) := by kernel_rfl
theorem PJ (a b c d : Int) (w : World) : (Op.equal 56 (.agg #[.int .i32 a, .int .i32 b]) (.agg #[.int .i32 c, .int .i32 d])).run Tryz.prog w = .ok (decide (a = c ∧ b = d)) w := by
  unfold Op.equal Op.maxDepth
  rw [run_equalIn_struct w 9999 56 _ _ AD (by kernel_rfl)]
  by_cases h1 : a = c <;> by_cases h2 : b = d <;> simp [Op.eqFields, Program.fieldsOf, Tryz.underlying56, vJ w bZ, run_equalIn_int w _ 21 _ _ _ _ Tryz.underlying21, h1, h2]
theorem tG : ∀ {a b : Rx}, a.kind = b.kind → a.r = b.r → a.ranges = b.ranges → a.min = b.min → a.max = b.max → a.lazy = b.lazy → a.cap = b.cap → a.name = b.name → a.kids = b.kids → a = b
  | .mk k r rs mn mx lz cp nm ks, .mk k' r' rs' mn' mx' lz' cp' nm' ks', h1, h2, h3, h4, h5, h6, h7, h8, h9 => by
    obtain rfl : k = k' := h1
    obtain rfl : r = r' := h2
    obtain rfl : rs = rs' := h3
    obtain rfl : mn = mn' := h4
    obtain rfl : mx = mx' := h5
    obtain rfl : lz = lz' := h6
    obtain rfl : cp = cp' := h7
    obtain rfl : nm = nm' := h8
    obtain rfl : ks = ks' := h9
    rfl
set_option maxHeartbeats 4000000 in
theorem KM {n : Nat} (ih : ∀ {m : Nat} {w : World} {va vb : List Value} {a b : Rx} (ha : RRx n [] w va a) (hb : RRx m [] w vb b), Calls Tryz.prog 13 #[.agg va.toArray, .agg vb.toArray] w (Ret fun v w' => ∃ r, v = .bool r ∧ (r = true ↔ a = b) ∧ Evo [] w w')) {m : Nat} {w : World} {va vb : List Value} {a b : Rx} (ha : RRx (n + 1) [] w va a) (hb : RRx m [] w vb b) : Calls Tryz.prog 13 #[.agg va.toArray, .agg vb.toArray] w (Ret fun v w' => ∃ r, v = .bool r ∧ (r = true ↔ a = b) ∧ Evo [] w w') := by
  obtain ⟨n0, ra, rc, ka, kc, hn0, rfl, hrg, hk, bl1, bl2, bl3⟩ := ha.get; obtain ⟨m0, ra', rc', ka', kc', hm0, rfl, hrg', hk', bl1', bl2', bl3'⟩ := hb.get
  obtain rfl : n0 = n := by omega
  obtain ⟨_, _, hre, -, er⟩ := hrg; cases hre; obtain ⟨_, _, hre', -, er'⟩ := hrg'; cases hre'; obtain ⟨_, _, hke, -, ek⟩ := hk; cases hke; obtain ⟨_, _, hke', -, ek'⟩ := hk'; cases hke'; refine bL (N := 107) Tryz.func13 rfl rfl rfl ?_; refine aE (aB (iY rfl rfl fun bA w1 hB2 hs3 hw4 => ?_)); have hsz_bA := hs3; have hE6 := (Evo.refl [] w).then hw4; refine iY rfl rfl fun bB w7 hB8 hs9 hw10 => ?_; have hsz_bB := hs9; have hE13 := hE6.then hw10; have hB14 := hw10.blk0 hB2; refine aN (aC (aA (aE (aE (aB (aF (aD rfl dR) (aF (aI rfl aW (aJ hB14 rfl)) (aF (aD rfl dR) (aF (aI rfl aW (aJ hB8 rfl)) (aF (fH rfl rfl) ?_)))))))))); refine aH (aU (t := 12) rfl (fun hs12 => ?_) (fun hs12 => ?_))
  ·refine aG (aG (aG (aG (aG (aY (aH (aG (aG (aG (aG (aG (aY (aH (aG ?_)))))))))))))); refine aG (aG (aG (aG (aY (aH (aG (aG (aG (aG (aG (aY (aH (aG (aG ?_)))))))))))))); refine aG (aG (aG (aY (aH (aG (aG (aG (aG (aG (aY (aC (aA (cM rfl ?_))))))))))))); refine aE (aB (aN (aC (aA (aO (aM (br1 ?_)))))))
   exact ⟨false, rfl, (by simp only [Bool.false_eq_true, false_iff]; rintro rfl; exact hs12 rfl), hE13⟩
  refine aK (aF (aD rfl eD) (aK (aF (aI rfl bZ (aJ hB14 rfl)) (aK (aF (aD rfl eD) (aK (aF (aI rfl bZ (aJ hB8 rfl)) (aK (aF (fH rfl rfl) ?_))))))))); refine aR (aH (aU (t := 19) rfl (fun hs19 => ?_) (fun hs19 => ?_)))
  ·refine aG (aG (aG (aG (aG (aY (aH (aG (aG (aG (aG (aG (aY (aH (aG ?_)))))))))))))); refine aG (aG (aG (aG (aY (aH (aG (aG (aG (aG (aG (aY (aH (aG (aG ?_)))))))))))))); refine aG (aG (aG (aY (aC (aA (cM rfl ?_)))))); refine aE (aB (aN (aC (aA (aO (aM (br1 ?_)))))))
   exact ⟨false, rfl, (by simp only [Bool.false_eq_true, false_iff]; rintro rfl; exact hs19 rfl), hE13⟩
  refine aK (aF (aD rfl cZ) (aK (aF (aI rfl aW (aJ hB14 rfl)) (aK (aF (aD rfl cZ) (aK (aF (aI rfl aW (aJ hB8 rfl)) (aK (aF (fH rfl rfl) ?_))))))))); refine aR (aH (aU (t := 26) rfl (fun hs26 => ?_) (fun hs26 => ?_)))
  ·refine aG (aG (aG (aG (aG (aY (aH (aG (aG (aG (aG (aG (aY (aH (aG ?_)))))))))))))); refine aG (aG (aG (aG (aY (aH (aG (aG (aG (aG (aG (aY (aC (aA (cM rfl ?_)))))))))))))); refine aE (aB (aN (aC (aA (aO (aM (br1 ?_)))))))
   exact ⟨false, rfl, (by simp only [Bool.false_eq_true, false_iff]; rintro rfl; exact hs26 rfl), hE13⟩
  refine aK (aF (aD rfl cU) (aK (aF (aI rfl aW (aJ hB14 rfl)) (aK (aF (aD rfl cU) (aK (aF (aI rfl aW (aJ hB8 rfl)) (aK (aF (fH rfl rfl) ?_))))))))); refine aR (aH (aU (t := 33) rfl (fun hs33 => ?_) (fun hs33 => ?_)))
  ·refine aG (aG (aG (aG (aG (aY (aH (aG (aG (aG (aG (aG (aY (aH (aG ?_)))))))))))))); refine aG (aG (aG (aG (aY (aC (aA (cM rfl ?_))))))); refine aE (aB (aN (aC (aA (aO (aM (br1 ?_)))))))
   exact ⟨false, rfl, (by simp only [Bool.false_eq_true, false_iff]; rintro rfl; exact hs33 rfl), hE13⟩
  refine aK (aF (aD rfl eC) (aK (aF (aI rfl eA (aJ hB14 rfl)) (aK (aF (aD rfl eC) (aK (aF (aI rfl eA (aJ hB8 rfl)) (aK (aF (ex_neqB rfl rfl Tryz.underlying4) ?_))))))))); refine aR (aH (gS (t := 40) rfl (fun hs40 => ?_) (fun hs40 => ?_)))
  ·refine aG (aG (aG (aG (aG (aY (aH (aG (aG (aG (aG (aG (aY (aC (aA (cM rfl ?_))))))))))))))); refine aE (aB (aN (aC (aA (aO (aM (br1 ?_)))))))
   exact ⟨false, rfl, (by simp only [Bool.false_eq_true, false_iff]; rintro rfl; simp at hs40), hE13⟩
  refine aK (aF (aD rfl dP) (aK (aF (aI rfl aW (aJ hB14 rfl)) (aK (aF (aD rfl dP) (aK (aF (aI rfl aW (aJ hB8 rfl)) (aK (aF (fH rfl rfl) ?_))))))))); refine aR (aH (aU (t := 47) rfl (fun hs47 => ?_) (fun hs47 => ?_)))
  ·refine aG (aG (aG (aG (aG (aY (aC (aA (cM rfl ?_)))))))); refine aE (aB (aN (aC (aA (aO (aM (br1 ?_)))))))
   exact ⟨false, rfl, (by simp only [Bool.false_eq_true, false_iff]; rintro rfl; exact hs47 rfl), hE13⟩
  refine aK (aF (aD rfl dM) (aK (aF (aI rfl cL (aJ hB14 rfl)) (aK (aF (aD rfl dM) (aK (aF (aI rfl cL (aJ hB8 rfl)) (aK (aF (uL rfl rfl) ?_))))))))); refine aR (aC (aA (bG rfl (fun hc53 => ?_) (fun hc53 => ?_))))
  ·refine aE (aB (aN (aC (aA (aO (aM (br1 ?_)))))))
   exact ⟨false, rfl, (by simp only [Bool.false_eq_true, false_iff]; rintro rfl; exact hc53 rfl), hE13⟩
  refine aX (aA (aE (aE (aB (aF (aD rfl dQ) (aF (aI rfl eZ (aJ hB14 rfl)) (aF (bK rfl Tryz.underlying24 rfl) ?_))))))); refine aF (aD rfl dQ) (aF (aI rfl eZ (aJ hB8 rfl)) (aF (bK rfl Tryz.underlying24 rfl) ?_)); refine aF (fH rfl rfl) ?_; refine aH (aU (t := 61) rfl (fun hs61 => ?_) (fun hs61 => ?_))
  ·refine aG (aG (aG (aG (aG (aG (aG (aY (aC (aA (cM rfl ?_)))))))))); refine aE (aB (aN (aC (aA (aO (aM (br1 ?_)))))))
   exact ⟨false, rfl, (by simp only [Bool.false_eq_true, false_iff]; rintro rfl; exact hs61 rfl), hE13⟩
  refine aK (aF (aD rfl cG) (aK (aF (aI rfl cX (aJ hB14 rfl)) (aK (aF (bK rfl Tryz.underlying25 rfl) ?_))))); refine aK (aF (aD rfl cG) (aK (aF (aI rfl cX (aJ hB8 rfl)) (aK (aF (bK rfl Tryz.underlying25 rfl) ?_))))); refine aK (aF (fH rfl rfl) ?_); refine aR (aC (aA (bG rfl (fun hc69 => ?_) (fun hc69 => ?_))))
  ·refine aE (aB (aN (aC (aA (aO (aM (br1 ?_)))))))
   exact ⟨false, rfl, (by simp only [Bool.false_eq_true, false_iff]; rintro rfl; exact hc69 rfl), hE13⟩
  refine aX (aA (aE (aE (aB (aN (aC (aA (bS ?_)))))))); refine fC (α := Nat) (0) (fun k => [(5, .int .i64 (k : Nat))]) [(2, _), (3, _)] (fun k wr => Evo [] w7 wr ∧ (k ≤ a.ranges.length ∧ ∀ j (h : j < a.ranges.length) (h2 : j < b.ranges.length), j < k → a.ranges[j] = b.ranges[j])) (fun k => a.ranges.length - k) ⟨rfl, trivial⟩ ⟨rfl, rfl, trivial⟩ ⟨Evo.refl _ _, ⟨Nat.zero_le _, fun j h h2 h3 => by cases h3⟩⟩ ?_; rintro k wr15 ⟨hV16, ⟨hk0, hsm⟩⟩; show CW _ _ _ _ [(5, _), (2, _), (3, _)] _; have hE17 := hE13.then hV16; have hB18 := hV16.blk0 hB14; have hB19 := hV16.blk0 hB8; refine aE (aE (aB (aH (aF (aD rfl dQ) (aF (aI rfl eZ (aJ hB18 rfl)) (aF (bK rfl Tryz.underlying24 rfl) ?_)))))); refine aF (dF rfl rfl) ?_; refine aC (aA (bG rfl (fun hc74 => ?_) (fun hc74 => ?_)))
  ·have hk1 : k < a.ranges.length := by omega
   have hk2 : k < b.ranges.length := by omega
   obtain ⟨g1, o1, vs1, hg1, -, -, hc1, hr1⟩ := er k hk1; obtain ⟨g2, o2, vs2, hg2, -, -, hc2, hr2⟩ := er' k hk2; obtain rfl := hr1; obtain rfl := hr2; refine aX (aA (aE (bS (aE ?_)))); refine iM (fun w0 w' => Evo [] w0 w') (by kernel_rfl) (fun w20 hw21 => ?_); have hE22 := hE17.then hw21; have hE23 := hV16.then hw21; have hB24 := hw21.blk0 hB18; have hB25 := hw21.blk0 hB19; refine aet 0 rfl (fun _ hS => aD rfl dQ) (Evo.refl [] w20) ?_; refine aet 1 rfl (fun _ hS => aI rfl eZ (aJ (hS.blk0 hB24) rfl)) (Evo.refl [] w20) ?_; refine aet 2 rfl (fun _ hS => bH rfl) (Evo.refl [] w20) ?_; refine aet 3 rfl (fun _ hS => fM (n := k) rfl rfl hg1 dZ hk1) (Evo.refl [] w20) ?_; refine aet 4 rfl (fun _ hS => eN rfl kE gK (vs := [_, _]) rfl (hc1.evo (hE22.then hS) (by simp))) (Evo.refl [] w20) ?_; refine aet 5 rfl (fun _ hS => aD rfl dQ) (Evo.refl [] w20) ?_; refine aet 6 rfl (fun _ hS => aI rfl eZ (aJ (hS.blk0 hB25) rfl)) (Evo.refl [] w20) ?_; refine aet 7 rfl (fun _ hS => bH rfl) (Evo.refl [] w20) ?_; refine aet 8 rfl (fun _ hS => fM (n := k) rfl rfl hg2 dZ hk2) (Evo.refl [] w20) ?_
   refine aet 9 rfl (fun _ hS => eN rfl kE gK (vs := [_, _]) rfl (hc2.evo (hE22.then hS) (by simp))) (Evo.refl [] w20) ?_; refine aet 10 rfl (fun _ hS => ex_neqA rfl rfl KO (PJ _ _ _ _)) (Evo.refl [] w20) ?_; refine eQ (by kernel_rfl) (aA ?_); refine bG rfl (fun hc87 => ?_) (fun hc87 => ?_)
   ·refine aE (aB (aN (aC (aA (aO (aV (aM (aM (aV (aM (br1 ?_)))))))))))
    exact ⟨false, rfl, (by simp only [Bool.false_eq_true, false_iff]; rintro rfl; exact hc87 ⟨rfl, rfl⟩), hE22⟩
   refine aX (aZ (aA (aB (aH ?_)))); refine aF (bE rfl rfl (by omega) (by omega)) ?_; refine aN (aC (bM ?_)); refine ⟨k + 1, ?_, ⟨rfl, trivial⟩, ⟨rfl, rfl, trivial⟩, hE23, ?_⟩
   · omega
   refine ⟨by omega, fun j h3 h4 h5 => ?_⟩
   by_cases e : j < k
   · exact hsm j h3 h4 e
   · obtain rfl : j = k := by omega
     have h9 := Classical.not_not.1 hc87; exact Prod.ext h9.1 h9.2
  refine dW (cJ (cJ (dV (aA ?_)))); refine aE (aE (aB (aN (aC (aA (bS ?_)))))); refine fC (α := Nat) (0) (fun j => [(6, .int .i64 (j : Nat))]) [(2, _), (3, _)] (fun j wr => Evo [] wr15 wr ∧ (j ≤ a.kids.length ∧ ∀ i (h : i < a.kids.length) (h2 : i < b.kids.length), i < j → a.kids[i] = b.kids[i])) (fun j => a.kids.length - j) ⟨rfl, trivial⟩ ⟨rfl, rfl, trivial⟩ ⟨Evo.refl _ _, ⟨Nat.zero_le _, fun j h h2 h3 => by cases h3⟩⟩ ?_; rintro j wr26 ⟨hV27, ⟨hj0, hsk⟩⟩; show CW _ _ _ _ [(6, _), (2, _), (3, _)] _; have hE28 := hE17.then hV27; have hB30 := hV27.blk0 hB18; have hB31 := hV27.blk0 hB19; refine aE (aE (aB (aH (aF (aD rfl cG) (aF (aI rfl cX (aJ hB30 rfl)) (aF (bK rfl Tryz.underlying25 rfl) ?_)))))); refine aF (dF rfl rfl) ?_; refine aC (aA (bG rfl (fun hc92 => ?_) (fun hc92 => ?_)))
  ·have hj1 : j < a.kids.length := by omega
   have hj2 : j < b.kids.length := by omega
   obtain ⟨g1, o1, vs1, hg1, -, -, hc1, hr1⟩ := ek j hj1; obtain ⟨g2, o2, vs2, hg2, -, -, hc2, hr2⟩ := ek' j hj2; obtain ⟨m1, ra1, rc1, ka1, kc1, rfl, rfl, -⟩ := id hr1.get; obtain ⟨m2, ra2, rc2, ka2, kc2, -, rfl, -⟩ := id hr2.get; refine aX (aA (aE (bS (aE ?_)))); refine iM (fun w0 w' => Evo [] w0 w') (by kernel_rfl) (fun w32 hw33 => ?_); have hE34 := hE28.then hw33; have hE36 := hV27.then hw33; have hB37 := hw33.blk0 hB30; have hB38 := hw33.blk0 hB31; refine aet 0 rfl (fun _ hS => aD rfl cG) (Evo.refl [] w32) ?_; refine aet 1 rfl (fun _ hS => aI rfl cX (aJ (hS.blk0 hB37) rfl)) (Evo.refl [] w32) ?_; refine aet 2 rfl (fun _ hS => bH rfl) (Evo.refl [] w32) ?_; refine aet 3 rfl (fun _ hS => fM (n := j) rfl rfl hg1 dY hj1) (Evo.refl [] w32) ?_; refine aet 4 rfl (fun _ hS => eN rfl bR bD (vs := [_, _, _, _, _, _, _, _, _]) rfl (hc1.evo (hE34.then hS) (by simp))) (Evo.refl [] w32) ?_; refine aet 5 rfl (fun _ hS => aD rfl cG) (Evo.refl [] w32) ?_; refine aet 6 rfl (fun _ hS => aI rfl cX (aJ (hS.blk0 hB38) rfl)) (Evo.refl [] w32) ?_; refine aet 7 rfl (fun _ hS => bH rfl) (Evo.refl [] w32) ?_
   refine aet 8 rfl (fun _ hS => fM (n := j) rfl rfl hg2 dY hj2) (Evo.refl [] w32) ?_; refine aet 9 rfl (fun _ hS => eN rfl bR bD (vs := [_, _, _, _, _, _, _, _, _]) rfl (hc2.evo (hE34.then hS) (by simp))) (Evo.refl [] w32) ?_; refine cK [10] (by kernel_rfl) rfl ⟨?_, trivial⟩; refine cP rfl ?_; refine aP (vs := [_, _]) sB rfl (ih (RRx.pers _ _ _ _ _ _ hE34 hr1) (RRx.pers _ _ _ _ _ _ hE34 hr2)) rfl ?_; rintro _ w39 ⟨r, rfl, hr, hw40⟩; have hE41 := hE34.then hw40; have hE43 := hE36.then hw40; have hE44 := (Evo.refl [] w32).then hw40; refine aC (cC (.inl hE44) ?_); refine aet 11 rfl (fun _ hS => eJ rfl) hE44 ?_; refine eQ (by kernel_rfl) (aA ?_); refine fX rfl (fun hc106 => ?_) (fun hc106 => ?_)
   ·refine aE (aB (aN (aC (aA (aO (aV (aM (aM (aV (aM (br1 ?_)))))))))))
    exact ⟨false, rfl, (by simp only [Bool.false_eq_true, false_iff]; rintro rfl; rw [hr.2 rfl] at hc106; cases hc106), hE41⟩
   refine aX (aZ (aA (aB (aH ?_)))); refine aF (bE rfl rfl (by omega) (by omega)) ?_; refine aN (aC (bM ?_)); refine ⟨(j + 1), ?_, ⟨rfl, trivial⟩, ⟨rfl, rfl, trivial⟩, hE43, ?_⟩
   · omega
   refine ⟨by omega, fun i h3 h4 h5 => ?_⟩
   by_cases e : i < j
   · exact hsk i h3 h4 e
   · obtain rfl : i = j := by omega
     exact hr.1 (by simpa using hc106)
  refine dW (cJ (cJ (dV (aA ?_)))); refine aE (aB (aN (aC (aA (aO (br1 ?_))))))
  refine ⟨true, rfl, by simp only [true_iff]; exact tG (by omega) (by omega) (List.ext_getElem (by omega) fun i h3 h4 => hsm i h3 h4 (by omega)) (by omega) (by omega) (by simpa using hs40) (by omega) (Classical.not_not.1 hc53) (List.ext_getElem (by omega) fun i h3 h4 => hsk i h3 h4 (by omega)), hE28⟩
theorem zQ : ∀ {n : Nat} {m : Nat} {w : World} {va vb : List Value} {a b : Rx} (ha : RRx n [] w va a) (hb : RRx m [] w vb b), Calls Tryz.prog 13 #[.agg va.toArray, .agg vb.toArray] w (Ret fun v w' => ∃ r, v = .bool r ∧ (r = true ↔ a = b) ∧ Evo [] w w')
  | 0, m, w, va, vb, a, b, ha, hb => ha.elim
  | n + 1, m, w, va, vb, a, b, ha, hb => KM (n := n) (fun ha hb => zQ ha hb) ha hb
end Go.Proofs.YtljadkcojnlioaaGreatDoor
namespace Go.Proofs.YtljadkcojnlioaaGreatDoor
open Go.RowKit Go.W
def Bdd (S : Int → Prop) : Prop := ∀ c, S c → 0 ≤ c ∧ c ≤ 1114111
theorem UN (S : Int → Prop) (M : Int) (hM : M = 1114112) : ∀ n : Nat, ∃ l, jM (M - n) l ∧ ∀ c, InR c l ↔ (M - n ≤ c ∧ c ≤ 1114111 ∧ S c)
  | 0 => ⟨[], trivial, fun c => ⟨fun h => (jS c h).elim, fun h => by omega⟩⟩
  | n + 1 => by
    obtain ⟨l, h1, h2⟩ := UN S M hM n
    have e : M - (n + 1 : Nat) = M - n - 1 := by omega
    by_cases hs : S (M - (n + 1 : Nat))
    · cases l with
      | nil =>
        refine ⟨[(M - (n + 1 : Nat), M - (n + 1 : Nat))], ⟨Int.le_refl _, Int.le_refl _, by omega, trivial⟩, fun c => ?_⟩
        rw [jN]
        constructor
        · intro h; obtain rfl : c = M - (n + 1 : Nat) := by simp only at h; omega
          exact ⟨by omega, by omega, hs⟩
        · rintro ⟨h3, h4, h5⟩
          by_cases hc : c = M - (n + 1 : Nat)
          · simp only; omega
          · exact (jS c ((h2 c).2 ⟨by omega, h4, h5⟩)).elim
      | cons g l =>
        obtain ⟨g1, g2, g3, g4⟩ := h1
        by_cases hg : g.1 = M - n
        · refine ⟨(M - (n + 1 : Nat), g.2) :: l, ⟨Int.le_refl _, by simp only; omega, g3, g4⟩, fun c => ?_⟩
          have h2c := h2 c
          rw [fY] at h2c ⊢
          simp only
          constructor
          · intro h
            by_cases hc : c = M - (n + 1 : Nat)
            · exact ⟨by omega, by omega, by rw [hc]; exact hs⟩
            · have := h2c.1 (h.imp (fun h => ⟨by omega, h.2⟩) id)
              exact ⟨by omega, this.2⟩
          · rintro ⟨h3, h4, h5⟩
            by_cases hc : c = M - (n + 1 : Nat)
            · left; omega
            · rcases h2c.2 ⟨by omega, h4, h5⟩ with h | h
              · left; omega
              · exact .inr h
        · refine ⟨(M - (n + 1 : Nat), M - (n + 1 : Nat)) :: g :: l, ⟨Int.le_refl _, Int.le_refl _, by simp only; omega, by simp only; omega, g2, g3, g4⟩, fun c => ?_⟩
          have h2c := h2 c
          rw [fY]
          simp only
          constructor
          · rintro (h | h)
            · obtain rfl : c = M - (n + 1 : Nat) := by omega
              exact ⟨by omega, by omega, hs⟩
            · have := h2c.1 h
              exact ⟨by omega, this.2⟩
          · rintro ⟨h3, h4, h5⟩
            by_cases hc : c = M - (n + 1 : Nat)
            · left; omega
            · exact .inr (h2c.2 ⟨by omega, h4, h5⟩)
    · refine ⟨l, DA h1 (by omega), fun c => ?_⟩
      rw [h2 c]
      constructor
      · rintro ⟨h3, h4⟩; exact ⟨by omega, h4⟩
      · rintro ⟨h3, h4, h5⟩
        have : c ≠ M - (n + 1 : Nat) := fun h => hs (by rw [← h]; exact h5)
        exact ⟨by omega, h4, h5⟩
theorem pW {S : Int → Prop} (hS : Bdd S) : sD (jT S) ∧ ∀ c, InR c (jT S) ↔ S c := by
  obtain ⟨l, h1, h2⟩ := UN S 1114112 rfl 1114112
  have h1' : sD l := by rw [show ((1114112 : Int) - (1114112 : Nat)) = 0 by omega] at h1; exact h1
  have h2' : ∀ c, InR c l ↔ S c := fun c => (h2 c).trans ⟨fun h => h.2.2, fun h => ⟨by have := (hS c h).1; omega, (hS c h).2, h⟩⟩
  rw [oN h1' h2']
  exact ⟨h1', h2'⟩
theorem wK (S : Int → Prop) : (∃ a, jT S = [(a, a)] ∧ kF S = lB a) ∨ (kF S = iT (jT S)) := by
  generalize h : jT S = l
  match l, h with
  | [], h => exact .inr (nA h (fun h1 => by simp at h1))
  | [(a, b)], h =>
    by_cases e : a = b
    · subst e; exact .inl ⟨a, rfl, uG h rfl rfl⟩
    · exact .inr (nA h (fun _ => e))
  | g :: g2 :: l, h => exact .inr (nA h (fun h1 => by simp at h1))
theorem mK {l : List (Int × Int)} (h : l.all (fun g => decide (0 ≤ g.1) && decide (g.2 ≤ 1114111)) = true) : Bdd (rs l) := by
  rintro c ⟨g, hg, h1⟩
  have := List.all_eq_true.1 h g hg
  simp at this
  omega
theorem xL (S : Int → Prop) : Bdd (sU S) := fun c h => ⟨h.1, h.2.1⟩
theorem yZ {S : Int → Prop} (h : Bdd S) : Bdd (nK S) := by
  rintro c (h1 | h1 | h1)
  · exact h c h1
  · omega
  · omega
theorem PW {S T : Int → Prop} (h1 : Bdd S) (h2 : Bdd T) : Bdd (unS S T) := fun c h => h.elim (h1 c) (h2 c)
theorem MC {c : Nat} {S : Int → Prop} (h : rM c = some S) : Bdd S := by
  unfold rM at h
  repeat' split at h
  all_goals first | (cases h; done) | (cases h; exact xL _) | (cases h; exact mK (by decide))
theorem mC {p : Prop} [Decidable p] {A S : Int → Prop} {o : Option (Int → Prop)} (h : (if p then some A else o) = some S) (hA : Bdd A) (ho : o = some S → Bdd S) : Bdd S := by
  by_cases hp : p
  · rw [if_pos hp] at h; cases h; exact hA
  · rw [if_neg hp] at h; exact ho h
theorem namS_bd {n : ByteArray} {S : Int → Prop} (h : jR n = some S) : Bdd S :=
  (fun h => mC h (mK (by decide)) (fun h => mC h (mK (by decide)) (fun h => mC h (mK (by decide)) (fun h => mC h (mK (by decide)) (fun h => mC h (mK (by decide)) (fun h => mC h (mK (by decide)) (fun h => mC h (mK (by decide)) (fun h => mC h (mK (by decide)) (fun h => mC h (mK (by decide)) (fun h => mC h (mK (by decide)) (fun h => mC h (mK (by decide)) (fun h => mC h (mK (by decide)) (fun h => mC h (mK (by decide)) (fun h => mC h (mK (by decide)) (fun h => by cases h))))))))))))))) h
theorem IR {a b : Int} (h0 : 0 ≤ a) (h1 : b ≤ 1114111) : Bdd (rgS a b) := fun c h => by unfold rgS at h; omega
theorem AN {s : ByteArray} {i j : Nat} {S : Int → Prop} (h : hZ s i = .ok (S, j)) (hb : Bd s i) (hi : i < s.size) : Bdd S := by
  unfold hZ at h
  cases h1 : kS s i with
  | error e => rw [h1] at h; cases h
  | ok p =>
    obtain ⟨lo, m⟩ := p
    obtain ⟨b1, b2, b3, b4⟩ := kK h1 hb hi
    rw [h1] at h
    simp only at h
    split at h
    · rename_i hd
      cases h3 : kS s (m + 1) with
      | error e => rw [h3] at h; cases h
      | ok q =>
        obtain ⟨hi9, m2⟩ := q
        rw [h3] at h
        simp only at h
        split at h
        · cases h
        · have b5 := (b1.asc hd.1.1 (by rw [hd.1.2]; decide)).1
          have b6 := kK h3 b5 hd.2.1
          cases h
          exact IR b3 b6.2.2.2
    · cases h; exact IR b3 b4
theorem AQ {s : ByteArray} {i j : Nat} {S : Int → Prop} (h : lC s i = .ok (S, j)) (hb : Bd s i) (hi : i < s.size) : Bdd S := by
  unfold lC at h
  split at h
  · split at h
    · cases h; exact MC (by assumption)
    · exact AN h hb hi
  · exact AN h hb hi
theorem RS {s : ByteArray} {i j : Nat} {S : Int → Prop} (h : jP s i = .ok (S, j)) (hb : Bd s i) (hi : i < s.size) : Bdd S := by
  unfold jP at h
  split at h
  · split at h
    · exact AQ h hb hi
    · split at h
      · split at h
        · cases h
        · cases h; exact xL _
      · split at h
        · cases h
        · cases h; exact namS_bd (by assumption)
  · exact AQ h hb hi
theorem AP {s : ByteArray} : ∀ {f i j : Nat} {fst : Bool} {S T : Int → Prop}, gG s f fst S i = .ok (T, j) → Bd s i → Bdd S → Bdd T
  | 0, i, j, fst, S, T, h, hb, hS => by rw [gG] at h; cases h
  | f + 1, i, j, fst, S, T, h, hb, hS => by
    rw [gG] at h
    split at h
    · cases h
    · split at h
      · cases h; exact hS
      · split at h
        · cases h
        · rename_i h1
          exact AP h (uC h1 hb (by omega)).1 (PW hS (RS h1 hb (by omega)))
def Pc (o : Int) (ns ns' : List ByteArray) (q : Nat) (x : Rx) (K : Int → Prop) : Prop :=
  ∀ k, K k → ∀ (b : Int) (c : Nat), b ≤ o → c + q ≤ 8194 → x.fine (b + if Brk x.kind k then 1 else 0) (c, ns) = some (c + q, ns')
abbrev KA : Int → Prop := fun _ => True
abbrev KR : Int → Prop := fun k => k ≠ 6
abbrev KE : Int → Prop := fun k => k = 5 ∨ k = 7
theorem Pc.mono {o : Int} {ns ns' : List ByteArray} {q : Nat} {x : Rx} {K L : Int → Prop} (h : Pc o ns ns' q x K) (hL : ∀ k, L k → K k) : Pc o ns ns' q x L := fun k hk => h k (hL k hk)
theorem Pc.fine {o : Int} {ns ns' : List ByteArray} {q : Nat} {x : Rx} {K : Int → Prop} (h : Pc o ns ns' q x K) (h7 : K 7) {b : Int} {c : Nat} (hb : b ≤ o) (hc : c + q ≤ 8194) : x.fine b (c, ns) = some (c + q, ns') := by
  have := h 7 h7 b c hb hc
  rw [if_neg (by unfold Brk; omega), Int.add_zero] at this
  exact this
theorem FX {a : Int} (h : a ≠ 4 ∧ a ≠ 5 ∧ a ≠ 6 ∧ a ≠ 7) : kW a := by unfold kW; omega
theorem brk_no {a k : Int} (h : a ≠ 1 ∧ a ≠ 4 ∧ a ≠ 5 ∧ a ≠ 6) : ¬ Brk a k := by unfold Brk; omega
section
variable {o : Int} {ns ns' : List ByteArray} {q : Nat} {x : Rx}
theorem xH (hp : NodeP x) (hl : kW x.kind) (h1 : x.kind ≠ 1) (ho : o ≤ 250) : Pc o ns ns 1 x KA := by
  intro k _ b c hb hc
  unfold kW at hl
  rw [if_neg (by unfold Brk; omega), Int.add_zero]
  exact sP (st := (c, ns)) hp hl (by omega) hc (by omega)
theorem np_k {k : Int} (h : k = 1 ∨ (8 ≤ k ∧ k ≤ 13)) : NodeP (rxK k) := ⟨by show (1 : Int) ≤ k; omega, by show k ≤ 13; omega, .inr rfl, .inr rfl, .inr ⟨rfl, rfl, rfl⟩, .inr ⟨rfl, rfl⟩, fun h9 => by have : k = 2 := h9; omega, fun h9 => by have : k = 3 := h9; omega, fun h9 => by have : k = 4 ∨ k = 5 := h9; omega, fun h9 => by have : k = 6 := h9; omega, fun h9 => by have : k = 7 := h9; omega, fun _ => rfl⟩
theorem RK (ho : o ≤ 250) : Pc o ns ns 1 (rxK 1) KE := by
  intro k hk b c hb hc
  rw [if_neg (show ¬ Brk (rxK 1).kind k by show ¬ Brk 1 k; unfold Brk; have : k = 5 ∨ k = 7 := hk; omega), Int.add_zero]
  exact sP (st := (c, ns)) (np_k (.inl rfl)) (FX (a := 1) (by decide)) (by show (1 : Int) ≠ 7; decide) hc (by omega)
theorem FF {k : Int} (h : 8 ≤ k ∧ k ≤ 13) (ho : o ≤ 250) : Pc o ns ns 1 (rxK k) KA := xH (np_k (.inr h)) (FX (a := k) (by omega)) (by show k ≠ 1; omega) ho
theorem HD {l : List (Int × Int)} (h : sD l) (h1 : ∀ h : l.length = 1, l[0].1 ≠ l[0].2) : RangesOk l := by
  have key : ∀ (l : List (Int × Int)) (d : Int), 0 ≤ d → jM d l → ∀ i (h : i < l.length), d ≤ l[i].1 ∧ l[i].1 ≤ l[i].2 ∧ l[i].2 ≤ 1114111 ∧ ∀ j (hj : j < l.length), i = j + 1 → l[j].2 + 1 < l[i].1 := by
    intro l
    induction l with
    | nil => intro d hd hc i hi; cases hi
    | cons g l ih =>
      rintro d hd ⟨c1, c2, c3, c4⟩ i hi
      cases i with
      | zero => exact ⟨c1, c2, c3, fun j hj e => by omega⟩
      | succ i =>
        obtain ⟨e1, e2, e3, e4⟩ := ih (g.2 + 2) (by omega) c4 i (by simpa using hi)
        refine ⟨by simp only [List.getElem_cons_succ]; omega, e2, e3, fun j hj e => ?_⟩
        cases j with
        | zero =>
          obtain rfl : i = 0 := by omega
          simp only [List.getElem_cons_zero, List.getElem_cons_succ]
          omega
        | succ j => exact e4 j (by simpa using hj) (by omega)
  exact ⟨fun i hi => by have := key l 0 (Int.le_refl _) h i hi; exact ⟨by omega, this.2⟩, h1⟩
theorem sH {S : Int → Prop} (hS : Bdd S) (ho : o ≤ 250) : Pc o ns ns 1 (kF S) KA := by
  rcases wK S with ⟨a, h, e⟩ | e
  · have := (pW hS).1
    rw [h] at this
    obtain ⟨c1, c2, c3, -⟩ := this
    rw [e]
    exact xH (JN c1 c3) (FX (a := 2) (by decide)) (by show (2 : Int) ≠ 1; decide) ho
  · by_cases h1 : ∃ a, jT S = [(a, a)]
    · obtain ⟨a, ha⟩ := h1
      have := uG (S := S) ha rfl rfl
      rw [this]
      have hc := (pW hS).1
      rw [ha] at hc
      obtain ⟨c1, c2, c3, -⟩ := hc
      exact xH (JN c1 c3) (FX (a := 2) (by decide)) (by show (2 : Int) ≠ 1; decide) ho
    · rw [e]
      refine xH (SL (HD (pW hS).1 fun hl => ?_)) (FX (a := 3) (by decide)) (by show (3 : Int) ≠ 1; decide) ho
      intro h9
      obtain ⟨g, hg⟩ := List.length_eq_one_iff.1 hl
      refine h1 ⟨g.1, ?_⟩
      simp only [hg, List.getElem_cons_zero] at h9
      rw [hg]
      exact congrArg (fun z => [z]) (Prod.ext rfl h9.symm)
theorem CG {c : Int} (h0 : 0 ≤ c) (h1 : c ≤ 1114111) : Bdd (fun x => x = c) := fun x hx => by subst hx; exact ⟨h0, h1⟩
theorem JC {f : Fl} {c : Int} (h0 : 0 ≤ c) (h1 : c ≤ 1114111) (ho : o ≤ 250) : Pc o ns ns 1 (lD f c) KA := by
  rw [litS]
  split
  · exact sH (yZ (CG h0 h1)) ho
  · exact sH (CG h0 h1) ho
theorem pc_wrap (h : ∀ (b : Int) (c : Nat), b ≤ o + 1 → c + q ≤ 8194 → x.fine b (c, ns) = some (c + q, ns')) : Pc o ns ns' q x KA := by
  intro k _ b c hb hc
  refine h _ c ?_ hc
  split <;> omega
theorem RJ {nm : ByteArray} (h : ∀ (b : Int) (c : Nat), b ≤ o + 1 → c + q ≤ 8194 → x.fine b (c, ns ++ [nm]) = some (c + q, ns')) (ho : o + 1 ≤ 250) (hg : lK ((ns.length : Int) + 1) nm ns) : Pc o ns ns' (q + 1) (rC ((ns.length : Int) + 1) nm x) KA := by
  intro k _ b c hb hc
  rw [if_neg (show ¬ Brk (rC ((ns.length : Int) + 1) nm x).kind k from brk_no (a := 7) (by decide)), Int.add_zero]
  have hp : NodeP (rC ((ns.length : Int) + 1) nm x) := ⟨by show (1 : Int) ≤ 7; decide, by show (7 : Int) ≤ 13; decide, .inr rfl, .inr rfl, .inr ⟨rfl, rfl, rfl⟩, .inl rfl, fun h9 => absurd (show (7 : Int) = 2 from h9) (by decide), fun h9 => absurd (show (7 : Int) = 3 from h9) (by decide), fun h9 => absurd (show (7 : Int) = 4 ∨ (7 : Int) = 5 from h9) (by decide), fun h9 => absurd (show (7 : Int) = 6 from h9) (by decide), fun _ => rfl, fun h9 => (h9 (.inr (.inr (.inr rfl)))).elim⟩
  rw [gL (st := (c, ns)) ⟨by show c + 1 ≤ 8194; omega, by show (if (7 : Int) = 7 then b + 1 else b) ≤ 250; rw [if_pos rfl]; omega, hp, fun _ => hg⟩]
  show dJ [x] 7 (if (7 : Int) = 7 then b + 1 else b) (c + 1, if (7 : Int) = 7 then ns ++ [nm] else ns) = _
  rw [if_pos rfl, if_pos rfl, dJ, if_neg (by unfold Brk; omega), Int.add_zero, h (b + 1) (c + 1) (by omega) (by omega)]
  simp only
  rw [dJ]
  exact congrArg some (Prod.ext (by simp only; omega) rfl)
theorem pc_rep {lo hi : Int} {z : Bool} (h : Pc o ns ns' q x KA) (ho : o ≤ 250) (h0 : 0 ≤ lo) (h1 : lo ≤ 1000) (h2 : hi = -1 ∨ (lo ≤ hi ∧ hi ≤ 1000)) : Pc o ns ns' (q + 1) (jV lo hi z x) KR := by
  intro k hk b c hb hc
  rw [if_neg (show ¬ Brk (jV lo hi z x).kind k by show ¬ Brk 6 k; unfold Brk; have : k ≠ 6 := hk; omega), Int.add_zero]
  rw [gL ⟨by show c + 1 ≤ 8194; omega, by show (if (6 : Int) = 7 then b + 1 else b) ≤ 250; rw [if_neg (by decide)]; omega, SK h0 h1 h2, fun h9 => absurd (show (6 : Int) = 7 from h9) (by decide)⟩]
  show dJ [x] 6 (if (6 : Int) = 7 then b + 1 else b) (c + 1, if (6 : Int) = 7 then _ else ns) = _
  rw [if_neg (by decide), if_neg (by decide), dJ, h 6 trivial b (c + 1) hb (by omega)]
  simp only
  rw [dJ]
  exact congrArg some (Prod.ext (by simp only; omega) rfl)
end
def Ps (K : Int → Prop) (o : Int) : List Rx → List ByteArray → List ByteArray → Nat → Prop
  | [], ns, ns', q => ns' = ns ∧ q = 0
  | x :: l, ns, ns', q => ∃ n1 q1 q2, q = q1 + q2 ∧ Pc o ns n1 q1 x K ∧ Ps K o l n1 ns' q2
section
variable {K : Int → Prop} {o : Int}
theorem Ps.one {x : Rx} {ns ns' : List ByteArray} {q : Nat} (h : Pc o ns ns' q x K) : Ps K o [x] ns ns' q := ⟨ns', q, 0, rfl, h, rfl, rfl⟩
theorem Ps.app : ∀ {l m : List Rx} {ns n1 ns' : List ByteArray} {q1 q2 : Nat}, Ps K o l ns n1 q1 → Ps K o m n1 ns' q2 → Ps K o (l ++ m) ns ns' (q1 + q2)
  | [], m, ns, n1, ns', q1, q2, ⟨h1, h2⟩, h => by subst h1 h2; rw [List.nil_append, Nat.zero_add]; exact h
  | x :: l, m, ns, n1, ns', q1, q2, ⟨n2, a, b, e, h1, h2⟩, h => ⟨n2, a, b + q2, by omega, h1, h2.app h⟩
theorem Ps.kids {k : Int} (hk : K k) : ∀ {l : List Rx} {ns ns' : List ByteArray} {q : Nat}, Ps K o l ns ns' q → ∀ (b : Int) (c : Nat), b ≤ o → c + q ≤ 8194 → dJ l k b (c, ns) = some (c + q, ns')
  | [], ns, ns', q, ⟨h1, h2⟩, b, c, hb, hc => by subst h1 h2; rw [dJ]; rfl
  | x :: l, ns, ns', q, ⟨n2, a, d, e, h1, h2⟩, b, c, hb, hc => by
    rw [dJ, h1 k hk b c hb (by omega)]
    simp only
    rw [Ps.kids hk h2 b (c + a) hb (by omega)]
    exact congrArg some (Prod.ext (by simp only; omega) rfl)
theorem row4 {l : List Rx} {ns ns' : List ByteArray} {q : Nat} (h : Ps KR o l ns ns' q) (ho : o ≤ 250) : ∃ q', Pc o ns ns' q' (oC 4 l) KE ∧ (l.length = 0 → q' = 1) ∧ (l.length = 1 → q' = q) ∧ q' ≤ q + 1 := by
  match l, h with
  | [], ⟨h1, h2⟩ => subst h1; exact ⟨1, RK ho, fun _ => rfl, (fun h => by cases h), by omega⟩
  | [x], ⟨n1, a, b, e, h1, h2, h3⟩ =>
    subst h2 h3
    exact ⟨a, h1.mono fun k hk => by show k ≠ 6; have : k = 5 ∨ k = 7 := hk; omega, (fun h => by cases h), fun _ => by omega, by omega⟩
  | x :: y :: l, h =>
    refine ⟨q + 1, ?_, (fun h => by simp at h), (fun h => by simp at h), Nat.le_refl _⟩
    intro k hk b c hb hc
    have hk' : k = 5 ∨ k = 7 := hk
    show (rH 4 (x :: y :: l)).fine _ _ = _
    rw [show (oC 4 (x :: y :: l)).kind = 4 from rfl, if_neg (by unfold Brk; omega), Int.add_zero]
    rw [gL ⟨by show c + 1 ≤ 8194; omega, by show (if (4 : Int) = 7 then b + 1 else b) ≤ 250; rw [if_neg (by decide)]; omega, JM (.inl rfl) (by simp), fun h9 => absurd (show (4 : Int) = 7 from h9) (by decide)⟩]
    show dJ (x :: y :: l) 4 (if (4 : Int) = 7 then b + 1 else b) (c + 1, if (4 : Int) = 7 then _ else ns) = _
    rw [if_neg (by decide), if_neg (by decide), h.kids (k := 4) (by show (4 : Int) ≠ 6; decide) b (c + 1) hb (by omega)]
    exact congrArg some (Prod.ext (by simp only; omega) rfl)
theorem row5 {l : List Rx} {ns ns' : List ByteArray} {q : Nat} (h : Ps KE o l ns ns' q) (hl : 1 ≤ l.length) (ho : o ≤ 250) : ∃ q', (∀ (b : Int) (c : Nat), b ≤ o → c + q' ≤ 8194 → (oC 5 l).fine b (c, ns) = some (c + q', ns')) ∧ (l.length = 1 → q' = q) ∧ q' ≤ q + 1 := by
  match l, h with
  | [x], ⟨n1, a, b, e, h1, h2, h3⟩ =>
    subst h2 h3
    exact ⟨a, fun b c hb hc => h1.fine (.inr rfl) hb hc, fun _ => by omega, by omega⟩
  | x :: y :: l, h =>
    refine ⟨q + 1, fun b c hb hc => ?_, (fun h => by simp at h), Nat.le_refl _⟩
    show (rH 5 (x :: y :: l)).fine _ _ = _
    rw [gL ⟨by show c + 1 ≤ 8194; omega, by show (if (5 : Int) = 7 then b + 1 else b) ≤ 250; rw [if_neg (by decide)]; omega, JM (.inr rfl) (by simp), fun h9 => absurd (show (5 : Int) = 7 from h9) (by decide)⟩]
    show dJ (x :: y :: l) 5 (if (5 : Int) = 7 then b + 1 else b) (c + 1, if (5 : Int) = 7 then _ else ns) = _
    rw [if_neg (by decide), if_neg (by decide), h.kids (k := 5) (.inl rfl) b (c + 1) hb (by omega)]
    exact congrArg some (Prod.ext (by simp only; omega) rfl)
end
structure Sh (s t : ByteArray) (i i' : Nat) : Prop where
  le : i ≤ s.size
  sz : s.size + i' = t.size + i
  eq : ∀ k, sb s (i + k) = sb t (i' + k)
section
variable {s t : ByteArray} {i i' : Nat}
theorem Sh.add (h : Sh s t i i') (n : Nat) (hn : i + n ≤ s.size) : Sh s t (i + n) (i' + n) := ⟨hn, by have := h.sz; omega, fun k => by rw [Nat.add_assoc, Nat.add_assoc]; exact h.eq (n + k)⟩
theorem Sh.at0 (h : Sh s t i i') : sb s i = sb t i' := h.eq 0
theorem Sh.lt (h : Sh s t i i') (k : Nat) : i + k < s.size ↔ i' + k < t.size := by have := h.sz; omega
theorem Sh.lt0 (h : Sh s t i i') : i < s.size ↔ i' < t.size := h.lt 0
theorem Sh.isB (h : Sh s t i i') (k b : Nat) : isB s (i + k) b ↔ isB t (i' + k) b := by
  unfold Go.Proofs.YtljadkcojnlioaaGreatDoor.isB
  rw [h.lt k, h.eq k]
theorem Sh.isB0 (h : Sh s t i i') (b : Nat) : Go.Proofs.YtljadkcojnlioaaGreatDoor.isB s i b ↔ Go.Proofs.YtljadkcojnlioaaGreatDoor.isB t i' b := h.isB 0 b
theorem Sh.bytes (h : Sh s t i i') (n : Nat) : gU s i n = gU t i' n := by
  unfold gU
  exact List.map_congr_left fun k _ => h.eq k
theorem Sh.guess (h : Sh s t i i') (n : Nat) : eO s i n = eO t i' n := by
  unfold eO
  rw [h.at0, h.eq 1, h.eq 2, h.eq 3]
theorem Sh.hit (h : Sh s t i i') (n : Nat) : Hit s i n ↔ Hit t i' n := by unfold Hit; rw [h.guess, h.bytes]
theorem Sh.next (h : Sh s t i i') : cD s i = cD t i' := by
  have hz := h.sz
  by_cases hw : ∃ n, 1 ≤ n ∧ n ≤ 4 ∧ i + n ≤ s.size ∧ Hit s i n
  · obtain ⟨n, h1, h2, h3, h4⟩ := hw
    rw [(kT h1 h2 h3 h4).1, (kT h1 h2 (by omega) ((h.hit n).1 h4)).1, h.guess]
  · rw [nX fun n h1 h2 h3 h4 => hw ⟨n, h1, h2, h3, h4⟩, nX fun n h1 h2 h3 h4 => hw ⟨n, h1, h2, by omega, (h.hit n).2 h4⟩]
theorem Sh.step (h : Sh s t i i') : Sh s t (i + (cD s i).2) (i' + (cD s i).2) := h.add _ (by
  rcases oG s i with e | e
  · rw [e]; exact h.le
  · exact e.2.2.2.2)
theorem Sh.hexD {d j : Nat} (h : Sh s t i i') (h1 : hD s i = .ok (d, j)) : hD t i' = .ok (d, i' + 1) ∧ j = i + 1 ∧ Sh s t (i + 1) (i' + 1) := by
  unfold hD at h1 ⊢
  split at h1
  · rename_i hi
    rw [if_pos (h.lt0.1 hi), ← h.at0]
    split at h1
    · cases h1
      rename_i e
      try rw [e]
      exact ⟨rfl, rfl, h.add 1 hi⟩
    · cases h1
  · cases h1
theorem Sh.hexL : ∀ {f n m i i' j : Nat}, Sh s t i i' → kO s f n i = .ok (m, j) → ∃ j', kO t f n i' = .ok (m, j') ∧ Sh s t j j'
  | 0, n, m, i, i', j, h, h1 => by rw [kO] at h1; cases h1
  | f + 1, n, m, i, i', j, h, h1 => by
    rw [kO] at h1 ⊢
    split at h1
    · rename_i hb
      cases h1
      rw [if_pos ((h.isB0 125).1 hb)]
      exact ⟨_, rfl, h.add 1 hb.1⟩
    · rename_i hb
      rw [if_neg (fun h9 => hb ((h.isB0 125).2 h9))]
      split at h1
      · cases h1
      · rename_i d j0 e
        obtain ⟨e1, rfl, e3⟩ := h.hexD e
        rw [e1]
        simp only
        split at h1
        · cases h1
        · rename_i hc
          rw [if_neg hc]
          exact Sh.hexL e3 h1
theorem Sh.hex {n j : Nat} (h : Sh s t i i') (h1 : oE s i = .ok (n, j)) : ∃ j', oE t i' = .ok (n, j') ∧ Sh s t j j' := by
  unfold oE at h1 ⊢
  split at h1
  · rename_i hb
    rw [if_pos ((h.isB0 123).1 hb)]
    have h2 := h.add 1 hb.1
    split at h1
    · cases h1
    · rename_i d j0 e
      obtain ⟨e1, rfl, e3⟩ := h2.hexD e
      rw [e1]
      simp only
      rw [show t.size + 1 - (i' + 1 + 1) = s.size + 1 - (i + 1 + 1) by have := h.sz; have := h.le; have := e3.le; omega]
      exact Sh.hexL e3 h1
  · rename_i hb
    rw [if_neg (fun h9 => hb ((h.isB0 123).2 h9))]
    split at h1
    · cases h1
    · rename_i d j0 e
      obtain ⟨e1, rfl, e3⟩ := h.hexD e
      rw [e1]
      simp only
      split at h1
      · cases h1
      · rename_i d2 j2 e2
        obtain ⟨e4, rfl, e5⟩ := e3.hexD e2
        rw [e4]
        cases h1
        exact ⟨_, rfl, e5⟩
theorem Sh.esc {n j : Nat} (h : Sh s t i i') (h1 : lU s i = .ok (n, j)) : ∃ j', lU t i' = .ok (n, j') ∧ Sh s t j j' := by
  have hz := h.sz
  unfold lU at h1 ⊢
  split at h1
  · cases h1
  · rename_i hc
    rw [if_neg (by omega), ← h.eq 1]
    have h2 := h.add 2 (by omega)
    split at h1
    · rename_i e
      try rw [e]
      cases h1
      exact ⟨_, rfl, h2⟩
    · rename_i e
      try rw [e]
      try simp only
      split at h1
      · rename_i e2
        rw [if_pos e2]
        exact h2.hex h1
      · rename_i e2
        rw [if_neg e2]
        split at h1
        · cases h1
        · rename_i e3
          rw [if_neg e3]; cases h1
          exact ⟨_, rfl, h2⟩
theorem Sh.one {r : Int} {j : Nat} (h : Sh s t i i') (h1 : kS s i = .ok (r, j)) : ∃ j', kS t i' = .ok (r, j') ∧ Sh s t j j' := by
  unfold kS at h1 ⊢
  rw [← h.at0]
  split at h1
  · rename_i e
    rw [if_pos e]
    split at h1
    · rename_i e1
      obtain ⟨j', e2, e3⟩ := h.esc e1
      cases h1
      rw [e2]
      exact ⟨_, rfl, e3⟩
    · cases h1
  · rename_i e
    rw [if_neg e, ← h.next]
    cases h1
    exact ⟨_, rfl, h.step⟩
theorem Sh.range {S : Int → Prop} {j : Nat} (h : Sh s t i i') (h1 : hZ s i = .ok (S, j)) : ∃ j', hZ t i' = .ok (S, j') ∧ Sh s t j j' := by
  unfold hZ at h1 ⊢
  split at h1
  · cases h1
  · rename_i lo j0 e
    obtain ⟨j1, e1, e2⟩ := h.one e
    rw [e1]
    simp only
    have hcon : (Go.Proofs.YtljadkcojnlioaaGreatDoor.isB s j0 45 ∧ j0 + 1 < s.size ∧ sb s (j0 + 1) ≠ 93) ↔ (Go.Proofs.YtljadkcojnlioaaGreatDoor.isB t j1 45 ∧ j1 + 1 < t.size ∧ sb t (j1 + 1) ≠ 93) := by
      rw [e2.isB0 45, e2.lt 1, e2.eq 1]
    split at h1
    · rename_i hd
      rw [if_pos (hcon.1 hd)]
      split at h1
      · cases h1
      · rename_i hi j2 e3
        obtain ⟨j3, e4, e5⟩ := (e2.add 1 hd.1.1).one e3
        rw [e4]
        simp only
        split at h1
        · cases h1
        · rename_i hc
          rw [if_neg hc]; cases h1
          exact ⟨_, rfl, e5⟩
    · rename_i hd
      rw [if_neg (fun h9 => hd (hcon.2 h9))]; cases h1
      exact ⟨_, rfl, e2⟩
theorem Sh.sub (h : Sh s t i i') {a b : Nat} (hb : i + b ≤ s.size) : s.extract (i + a) (i + b) = t.extract (i' + a) (i' + b) := by
  have hz := h.sz
  have e1 : (s.extract (i + a) (i + b)).size = b - a := by rw [ByteArray.size_extract]; omega
  have e2 : (t.extract (i' + a) (i' + b)).size = b - a := by rw [ByteArray.size_extract]; omega
  refine tR (by rw [e1, e2]) fun k hk => ?_
  rw [e1] at hk
  rw [eH hb (by omega), eH (by omega) (by omega), Nat.add_assoc, Nat.add_assoc]
  exact h.eq (a + k)
end
theorem BP : ∀ c, c ∈ vH → c < 128 ∧ c ≠ 65 ∧ c ≠ 122 ∧ c ≠ 98 ∧ c ≠ 66 ∧ c ≠ 81 ∧ c ≠ 120 ∧ ¬ fT c ∧ uM c = none := by decide
theorem QD {c : Nat} (h : c ∈ vH) : rM c = none := by
  simp only [vH, List.mem_cons, List.not_mem_nil, or_false] at h
  rcases h with h | h | h | h | h | h | h | h | h | h | h | h | h | h <;> subst h <;> rfl
theorem pY {r : Int} (h0 : 0 ≤ r) (h : r < 128) : eB r = [r.toNat] := by
  rw [eB, if_pos ⟨h0, by omega, by omega⟩, jL, if_pos (by omega)]
theorem CN {r : Int} (h : 128 ≤ r) : ∀ b, b ∈ eB r → 128 ≤ b := by
  intro b hb
  unfold eB at hb
  split at hb
  · unfold jL at hb
    rw [if_neg (by omega)] at hb
    split at hb
    · simp at hb; omega
    · split at hb
      · simp at hb; omega
      · simp at hb; omega
  · cases hb
section
variable {s : ByteArray} {ex : PS → PX Rx} {st : PS}
theorem OG {c : Nat} (h : At s st.pos [92, c]) (hc : c ∈ vH) : eL s ex st = .ok ([lD st.now c], gZ st (st.pos + 2)) := by
  obtain ⟨h1, ⟨h2, h3⟩, -⟩ := h
  obtain ⟨c1, c2, c3, c4, c5, c6, c7, c8, c9⟩ := BP c hc
  have he : lU s st.pos = .ok (c, st.pos + 2) := by
    unfold lU
    rw [if_neg (by omega), h3, c9]
    simp only
    rw [if_neg c7, if_neg (fun h => h.elim (by omega) (fun h9 => c8 h9.1))]
  rw [wJ h1.2, CT (by omega) (by omega) (by omega) (by omega) (by omega) (by omega), h3, QD hc, he]
  rfl
theorem JA {r : Int} {n : Nat} (hn : cD s st.pos = (r, n)) (h1 : ¬ sb s st.pos = 40) (h2 : ¬ sb s st.pos = 91) (h3 : ¬ sb s st.pos = 92) (h4 : r ≠ 46) (h5 : r ≠ 94) (h6 : r ≠ 36) : eL s ex st = .ok ([lD st.now r], gZ st (st.pos + n)) := by
  rw [FE h1 h2 h3, IZ (by rw [hn]; exact h4) (by rw [hn]; exact h5) (by rw [hn]; exact h6), hn]
end
section
variable {s : ByteArray} {ex : PS → PX Rx}
theorem OO {i k : Nat} (hk : 1 ≤ k) (h : k < (cD s i).2) : 128 ≤ sb s (i + k) := by
  obtain ⟨h1, h2, h3⟩ := SP (s := s) (a := i) (by omega)
  have hle : i + (cD s i).2 ≤ s.size := by
    rcases oG s i with e | e
    · rw [e] at h; exact absurd h (Nat.not_lt_zero _)
    · exact e.2.2.2.2
  have hb : sb s (i + k) = (eB (cD s i).1)[k]'(by omega) := by
    rw [← eH (s := s) (a := i) (b := i + (cD s i).2) (k := k) hle (by omega), h1, BQ (by omega) (uJ _)]
  have hm := List.getElem_mem (l := eB (cD s i).1) (n := k) (by omega)
  rw [← hb] at hm
  rcases Int.lt_or_le (cD s i).1 128 with h5 | h5
  · have h7 := congrArg List.length (pY h3.1 h5); simp at h7; omega
  · exact CN h5 _ hm
theorem LI {fl : Fl} {e : Nat} (he : sb s e < 128) : ∀ {f i : Nat} {l : List Rx}, i ≤ e → (kQ s fl e f l i).2 ≤ e
  | 0, i, l, h => h
  | f + 1, i, l, h => by
    rw [kQ]
    split
    · rename_i hi
      refine LI he ?_
      rcases Nat.lt_or_ge e (i + (cD s i).2) with h9 | h9
      · have := OO (s := s) (i := i) (k := e - i) (by omega) (by omega)
        rw [show i + (e - i) = e by omega] at this
        omega
      · exact h9
    · exact h
end
theorem Ps.mono {K L : Int → Prop} {o : Int} (hL : ∀ k, L k → K k) : ∀ {l : List Rx} {ns ns' : List ByteArray} {q : Nat}, Ps K o l ns ns' q → Ps L o l ns ns' q
  | [], ns, ns', q, h => h
  | x :: l, ns, ns', q, ⟨n2, a, d, e, h1, h2⟩ => ⟨n2, a, d, e, h1.mono hL, Ps.mono hL h2⟩
theorem Ps.last {K : Int → Prop} {o : Int} : ∀ {l : List Rx} {ns ns' : List ByteArray} {q : Nat}, Ps K o l ns ns' q → l ≠ [] → ∃ l0 y n1 qa qb, l = l0 ++ [y] ∧ Ps K o l0 ns n1 qa ∧ Pc o n1 ns' qb y K ∧ q = qa + qb
  | [x], ns, ns', q, ⟨n1, a, d, e, h1, h2, h3⟩, _ => by subst h2 h3; exact ⟨[], x, ns, 0, a, rfl, ⟨rfl, rfl⟩, h1, by omega⟩
  | x :: y :: l, ns, ns', q, ⟨n1, a, d, e, h1, h2⟩, _ => by
    obtain ⟨l0, z, n2, qa, qb, e1, e2, e3, e4⟩ := Ps.last h2 (by simp)
    exact ⟨x :: l0, z, n2, a + qa, qb, by rw [e1]; rfl, ⟨n1, a, qa, rfl, h1, e2⟩, e3, by omega⟩
def AG (s : ByteArray) (ex : PS → PX Rx) (n : Nat) : Prop := ∀ st x st', st.opn = n → Bd s st.pos → st.names.length ≤ 100 → ex st = .ok (x, st') →
  ∃ q, (∀ (b : Int) (c : Nat), b ≤ n → c + q ≤ 8194 → x.fine b (c, st.names) = some (c + q, st'.names)) ∧ q + 2 * st.pos ≤ 2 * st'.pos + 1 ∧ st.pos ≤ st'.pos ∧ Bd s st'.pos ∧ st'.opn = n ∧ st'.names.length ≤ 100
def tU (s : ByteArray) (st st2 : PS) (g : List Rx) : Prop := ∃ q, Ps KA st.opn g st.names st2.names q ∧ q + g.length + 2 * st.pos ≤ 2 * st2.pos ∧ st.pos < st2.pos ∧ Bd s st2.pos ∧ st2.opn = st.opn ∧ st2.names.length ≤ 100
section
variable {s : ByteArray} {ex : PS → PX Rx} {st : PS}
theorem rJ {x : Rx} {j : Nat} (ho : st.opn ≤ 250) (hn : st.names.length ≤ 100) (h : Pc st.opn st.names st.names 1 x KA) (hj : st.pos < j) (hb : Bd s j) : tU s st (gZ st j) [x] :=
  ⟨1, Ps.one h, by show 1 + 1 + 2 * st.pos ≤ 2 * j; omega, hj, hb, rfl, hn⟩
theorem LH : ∀ {f j k : Nat}, j ≤ k → k < iA s f j → fT (sb s k)
  | 0, j, k, h, h2 => by rw [iA] at h2; omega
  | f + 1, j, k, h, h2 => by
    rw [iA] at h2
    split at h2
    · rename_i hw
      by_cases e : j = k
      · subst e; exact hw.2
      · exact LH (by omega) h2
    · omega
theorem oH : tV emp := fun j hj => absurd hj (Nat.not_lt_zero _)
theorem AO {i h : Nat} {fl : Fl} : tV (lZ s i h fl).name := by
  unfold lZ
  split
  · exact oH
  · rename_i hc
    have hb : isB s (iA s s.size (i + h)) 62 := Classical.not_not.1 (fun h9 => hc (.inr h9))
    intro j hj
    have hj' : j < (s.extract (i + h) (iA s s.size (i + h))).size := hj
    rw [ByteArray.size_extract] at hj'
    have := hb.1
    have hge : i + h ≤ iA s s.size (i + h) := uA
    show fT (sb (s.extract (i + h) (iA s s.size (i + h))) j)
    rw [eH (by omega) (by omega)]
    exact LH (f := s.size) (j := i + h) (by omega) (by omega)
theorem AM {i : Nat} : ∀ {f j : Nat} {b m : Bool} {n : Int} {fl : Fl}, tV (iL s i f j b n m fl).name
  | 0, j, b, m, n, fl => oH
  | f + 1, j, b, m, n, fl => by
    rw [iL]
    repeat' split
    all_goals first | exact AM | exact oH
theorem JE {i : Nat} {fl : Fl} : tV (fK s i fl).name := by
  unfold fK
  split
  · exact oH
  · split
    · exact AO
    · split
      · exact AO
      · split
        · exact oH
        · exact AM
theorem BW {fl : Fl} {e : Nat} {o : Int} {ns : List ByteArray} (ho : o ≤ 250) (he : e ≤ s.size) : ∀ {f i : Nat} {l : List Rx}, Bd s i → Ps KA o l ns ns l.length → Ps KA o (kQ s fl e f l i).1 ns ns (kQ s fl e f l i).1.length ∧ i + (kQ s fl e f l i).1.length ≤ (kQ s fl e f l i).2 + l.length ∧ Bd s (kQ s fl e f l i).2 ∧ (e ≤ i + f → e ≤ (kQ s fl e f l i).2)
  | 0, i, l, hb, h => ⟨h, Nat.le_refl _, hb, fun h => h⟩
  | f + 1, i, l, hb, h => by
    rw [kQ]
    split
    · rename_i hi
      obtain ⟨n1, n2, n3, n4, n5⟩ := hb.next (by omega)
      have h1 : Ps KA o (l ++ [lD fl (cD s i).1]) ns ns (l ++ [lD fl (cD s i).1]).length := by
        rw [List.length_append]; exact h.app (Ps.one (JC n4 n5 ho))
      obtain ⟨a1, a2, a3, a4⟩ := BW (fl := fl) (e := e) (f := f) ho he n3 h1
      refine ⟨a1, ?_, a3, fun h9 => a4 (by omega)⟩
      rw [List.length_append] at a2
      simp only [List.length_singleton] at a2
      omega
    · rename_i hi
      exact ⟨h, Nat.le_refl _, hb, fun _ => by show e ≤ i; omega⟩
theorem quote_i {g : List Rx} {st2 : PS} (h : mO s st = .ok (g, st2)) (hb : Bd s (st.pos + 2)) (ho : st.opn ≤ 250) (hn : st.names.length ≤ 100) : tU s st st2 g := by
  have ho' : (st.opn : Int) ≤ 250 := by omega
  have hle := hb.le
  unfold mO at h
  split at h
  · rename_i e he
    cases h
    obtain ⟨f1, f2, f3⟩ := (pA s 92 69 s.size (st.pos + 2) (by omega)).1 e he
    obtain ⟨a1, a2, a3, a4⟩ := BW (s := s) (fl := st.now) (e := e) (o := st.opn) (ns := st.names) (f := s.size) (i := st.pos + 2) (l := []) ho' (by have := f2.1; omega) hb ⟨rfl, rfl⟩
    have h9 := LI (s := s) (fl := st.now) (e := e) (by rw [f2.2.1]; decide) (f := s.size) (i := st.pos + 2) (l := []) f1
    have h8 := a4 (by have := f2.1; omega)
    have h7 : (kQ s st.now e s.size [] (st.pos + 2)).2 = e := by omega
    refine ⟨_, a1, ?_, ?_, ?_, rfl, hn⟩
    · simp only [List.length_nil] at a2
      show _ + _ + 2 * st.pos ≤ 2 * ((kQ s st.now e s.size [] (st.pos + 2)).2 + 2)
      omega
    · show st.pos < (kQ s st.now e s.size [] (st.pos + 2)).2 + 2
      omega
    · show Bd s ((kQ s st.now e s.size [] (st.pos + 2)).2 + 2)
      rw [h7] at a3 ⊢
      have b1 := (a3.asc (by have := f2.1; omega) (by rw [f2.2.1]; decide)).1
      exact (b1.asc f2.1 (by rw [f2.2.2]; decide)).1
  · cases h
    obtain ⟨a1, a2, a3, a4⟩ := BW (s := s) (fl := st.now) (e := s.size) (o := st.opn) (ns := st.names) (f := s.size) (i := st.pos + 2) (l := []) ho' (Nat.le_refl _) hb ⟨rfl, rfl⟩
    simp only [List.length_nil] at a2
    refine ⟨_, a1, ?_, ?_, a3, rfl, hn⟩
    · show _ + _ + 2 * st.pos ≤ 2 * (kQ s st.now s.size s.size [] (st.pos + 2)).2
      omega
    · show st.pos < (kQ s st.now s.size s.size [] (st.pos + 2)).2
      omega
theorem UD {g : List Rx} {st2 : PS} (h : gT s st = .ok (g, st2)) (h92 : sb s st.pos = 92) (hb : Bd s st.pos) (hp : st.pos < s.size) (ho : st.opn ≤ 250) (hn : st.names.length ≤ 100) : tU s st st2 g := by
  have ho' : (st.opn : Int) ≤ 250 := by omega
  have b1 := (hb.asc hp (by rw [h92]; decide)).1
  unfold gT at h
  split at h
  · cases h
  · rename_i hsz
    have b2 : sb s (st.pos + 1) < 128 → Bd s (st.pos + 2) := fun h9 => (b1.asc (by omega) h9).1
    split at h
    · cases h; exact rJ ho hn (FF (by decide) ho') (by omega) (b2 (by omega))
    · split at h
      · cases h; exact rJ ho hn (FF (by decide) ho') (by omega) (b2 (by omega))
      · split at h
        · cases h; exact rJ ho hn (FF (by decide) ho') (by omega) (b2 (by omega))
        · split at h
          · cases h; exact rJ ho hn (FF (by decide) ho') (by omega) (b2 (by omega))
          · split at h
            · exact quote_i h (b2 (by omega)) ho hn
            · split at h
              · rename_i S hS
                cases h; exact rJ ho hn (sH (MC hS) ho') (by omega) (b2 (MA hS))
              · split at h
                · cases h
                · rename_i v j he
                  cases h
                  obtain ⟨e1, e2, e3⟩ := BX he hb h92
                  exact rJ ho hn (JC (by omega) (by omega) ho') e2 e1
theorem plain_i {g : List Rx} {st2 : PS} (h : kJ s st = .ok (g, st2)) (hb : Bd s st.pos) (hp : st.pos < s.size) (ho : st.opn ≤ 250) (hn : st.names.length ≤ 100) : tU s st st2 g := by
  have ho' : (st.opn : Int) ≤ 250 := by omega
  obtain ⟨n1, n2, n3, n4, n5⟩ := hb.next hp
  unfold kJ at h
  cases h
  refine rJ ho hn ?_ (by omega) n3
  split
  · split
    · exact sH (mK (by decide)) ho'
    · exact sH (mK (by decide)) ho'
  · split
    · split
      · exact FF (by decide) ho'
      · exact FF (by decide) ho'
    · split
      · split
        · exact FF (by decide) ho'
        · exact FF (by decide) ho'
      · exact JC n4 n5 ho'
theorem class_i {x : Rx} {j : Nat} (h : jY s st.now (st.pos + 1) = .ok (x, j)) (hb : Bd s (st.pos + 1)) (ho : st.opn ≤ 250) (hn : st.names.length ≤ 100) : tU s st (gZ st j) [x] := by
  have ho' : (st.opn : Int) ≤ 250 := by omega
  have hcb := uD h hb
  refine rJ ho hn ?_ (by omega) hcb.1
  cases hi : gG s (s.size + 1) true (fun _ => False) (if isB s (st.pos + 1) 94 then st.pos + 1 + 1 else st.pos + 1) with
  | error e => rw [xV hi] at h; cases h
  | ok q =>
    obtain ⟨C, j2⟩ := q
    rw [tP hi] at h
    cases h
    have hb2 : Bd s (if isB s (st.pos + 1) 94 then st.pos + 1 + 1 else st.pos + 1) := by
      split
      · rename_i h9; exact (hb.asc h9.1 (by rw [h9.2]; decide)).1
      · exact hb
    have hC := AP hi hb2 (fun c hc => hc.elim)
    refine sH ?_ ho'
    split
    · exact xL _
    · split
      · exact yZ hC
      · exact hC
theorem brk_i {g : List Rx} {st2 : PS} (h : pP s ex st = .ok (g, st2)) (h40 : isB s st.pos 40) (hb : Bd s st.pos) (ho : st.opn ≤ 250) (hn : st.names.length ≤ 100) (hex : st.opn < 250 → AG s ex (st.opn + 1)) : tU s st st2 g := by
  unfold pP at h
  simp only at h
  split at h
  · rename_i hs
    cases h
    obtain ⟨o1, o2, o3⟩ := xI hb h40 hs.1
    exact ⟨0, ⟨rfl, rfl⟩, by show 0 + 0 + 2 * st.pos ≤ 2 * (st.pos + _); omega, by show st.pos < st.pos + _; omega, o2, rfl, hn⟩
  · split at h
    · cases h
    · rename_i h250
      split at h
      · cases h
      · rename_i herr
        obtain ⟨o1, o2, o3⟩ := xI (fl := st.now) hb h40 (Classical.not_not.1 herr)
        split at h
        · cases h
        · rename_i hful
          split at h
          · cases h
          · rename_i x st3 hx
            split at h
            · rename_i hcl
              cases h
              have hlt : st.opn < 250 := by omega
              obtain ⟨q, q1, q2, q3, q4, q5, q6⟩ := hex hlt _ x st3 rfl o2 (by
                show (if (fK s st.pos st.now).capt = true then _ else _ : List ByteArray).length ≤ 100
                split
                · rename_i hc
                  have : st.names.length ≠ 100 := fun h9 => hful ⟨hc, .inl h9⟩
                  rw [List.length_append]; simp; omega
                · exact hn) hx
              have q2' : q + 2 * (st.pos + (fK s st.pos st.now).size) ≤ 2 * st3.pos + 1 := q2
              have q3' : st.pos + (fK s st.pos st.now).size ≤ st3.pos := q3
              have hb3 : Bd s (st3.pos + 1) := (q4.asc hcl.1 (by rw [hcl.2]; decide)).1
              by_cases hc : (fK s st.pos st.now).capt = true
              · simp only [if_pos hc] at q1 ⊢
                have hl : st.names.length ≠ 100 := fun h9 => hful ⟨hc, .inl h9⟩
                have hg : lK ((st.names.length : Int) + 1) (fK s st.pos st.now).name st.names := ⟨rfl, by omega, JE, by
                  by_cases he : (fK s st.pos st.now).name = emp
                  · exact .inl he
                  · exact .inr (fun h9 => hful ⟨hc, .inr ⟨he, h9⟩⟩)⟩
                refine ⟨q + 1, Ps.one (RJ (fun b c hb hc => q1 b c (by push_cast; omega) hc) (by omega) hg), ?_, ?_, hb3, ?_, q6⟩
                · show q + 1 + 1 + 2 * st.pos ≤ 2 * (st3.pos + 1); omega
                · show st.pos < st3.pos + 1; omega
                · show st3.opn - 1 = st.opn; omega
              · simp only [if_neg hc] at q1 ⊢
                refine ⟨q, Ps.one (pc_wrap (fun b c hb hc => q1 b c (by push_cast; omega) hc)), ?_, ?_, hb3, ?_, q6⟩
                · show q + 1 + 2 * st.pos ≤ 2 * (st3.pos + 1); omega
                · show st.pos < st3.pos + 1; omega
                · show st3.opn - 1 = st.opn; omega
            · cases h
theorem LG {g : List Rx} {st2 : PS} (h : eL s ex st = .ok (g, st2)) (hb : Bd s st.pos) (hp : st.pos < s.size) (ho : st.opn ≤ 250) (hn : st.names.length ≤ 100) (hex : st.opn < 250 → AG s ex (st.opn + 1)) : tU s st st2 g := by
  unfold eL at h
  split at h
  · rename_i hc; exact brk_i h ⟨hp, hc⟩ hb ho hn hex
  · split at h
    · rename_i hc
      split at h
      · cases h
      · rename_i x j hx
        cases h
        exact class_i hx ((hb.asc hp (by rw [hc]; decide)).1) ho hn
    · split at h
      · rename_i hc; exact UD h hc hb hp ho hn
      · exact plain_i h hb hp ho hn
end
structure AltI (s : ByteArray) (o : Nat) (ns0 : List ByteArray) (p0 : Nat) (l : List Rx) (st : PS) (q : Nat) : Prop where
  ps : Ps KR o l ns0 st.names q
  cnt : q + l.length + 2 * p0 ≤ 2 * st.pos
  ge : p0 ≤ st.pos
  bd : Bd s st.pos
  opn : st.opn = o
  nm : st.names.length ≤ 100
def LastI (o : Nat) (ns0 : List ByteArray) (l : List Rx) (st : PS) (q : Nat) : Prop := ∃ l0 y n1 qa qb, l = l0 ++ [y] ∧ Ps KR o l0 ns0 n1 qa ∧ Pc o n1 st.names qb y KA ∧ q = qa + qb
section
variable {s : ByteArray} {ex : PS → PX Rx} {o : Nat} {ns0 : List ByteArray} {p0 : Nat}
theorem NR (ho : o ≤ 250) (hex : o < 250 → AG s ex (o + 1)) : ∀ (f : Nat) (l : List Rx) (ah : Bool) (st st' : PS) (x : Rx) (q : Nat), AltI s o ns0 p0 l st q → (ah = true → LastI o ns0 l st q) → hY s ex f l ah st = .ok (x, st') →
    ∃ l' q', x = oC 4 l' ∧ AltI s o ns0 p0 l' st' q' ∧ st.pos ≤ st'.pos
  | 0, l, ah, st, st', x, q, h, hl, h1 => by rw [hY] at h1; cases h1; exact ⟨l, q, rfl, h, Nat.le_refl _⟩
  | f + 1, l, ah, st, st', x, q, h, hl, h1 => by
    rw [hY] at h1
    split at h1
    · cases h1; exact ⟨l, q, rfl, h, Nat.le_refl _⟩
    · rename_i hend
      have hp : st.pos < s.size := by omega
      generalize hr : kZ (s.extract st.pos s.size) = rr at h1
      obtain ⟨lo, hi, nn⟩ := rr
      obtain ⟨r1, r2, r3, r4, r5⟩ := JD h.bd hp hr
      simp only at h1
      split at h1
      · split at h1
        · cases h1
        · rename_i g st2 hpc
          obtain ⟨qg, g1, g2, g3, g4, g5, g6⟩ := LG hpc h.bd hp (by rw [h.opn]; exact ho) h.nm (by rw [h.opn]; exact hex)
          rw [h.opn] at g1
          have hc := h.cnt
          have hge := h.ge
          have hN : AltI s o ns0 p0 (l ++ g) st2 (q + qg) := ⟨h.ps.app (g1.mono fun k _ => trivial), by rw [List.length_append]; omega, by omega, g4, by rw [g5, h.opn], g6⟩
          obtain ⟨l', q', e1, e2, e3⟩ := NR ho hex f _ _ _ _ _ _ hN (fun ha => by
            have hg : g ≠ [] := fun h9 => by rw [h9] at ha; exact absurd (of_decide_eq_true ha) (Nat.lt_irrefl 0)
            obtain ⟨g0, y, n1, qa, qb, b1, b2, b3, b4⟩ := g1.last hg
            exact ⟨l ++ g0, y, n1, q + qa, qb, by rw [b1, List.append_assoc], h.ps.app (b2.mono fun k _ => trivial), b3, by omega⟩) h1
          exact ⟨l', q', e1, e2, by omega⟩
      · rename_i hn
        obtain ⟨r6, r7⟩ := r5 hn
        split at h1
        · cases h1
        · rename_i hc
          have hah : ah = true := by cases ah with | true => rfl | false => exact (hc (.inl rfl)).elim
          obtain ⟨l0, y, n1, qa, qb, b1, b2, b3, b4⟩ := hl hah
          have hdl : l.dropLast = l0 := by rw [b1, List.dropLast_concat]
          have hgl : l.getLastD (rxK 1) = y := by rw [b1]; simp
          have hlen : l.length = l0.length + 1 := by rw [b1]; simp
          have hcnt := h.cnt
          have hge := h.ge
          have key : ∀ z, Ps KR o (l0 ++ [jV lo hi z y]) ns0 st.names (qa + (qb + 1)) := fun z => b2.app (Ps.one (pc_rep b3 (by omega) r1 (by omega) (by omega)))
          rw [hdl, hgl] at h1
          split at h1
          · rename_i hq
            have hbq := (r7.asc hq.1 (by rw [hq.2]; decide)).1
            obtain ⟨l', q', e1, e2, e3⟩ := NR ho hex f _ _ _ _ _ _ (⟨key _, by simp; omega, by show p0 ≤ st.pos + nn + 1; omega, hbq, h.opn, h.nm⟩ : AltI s o ns0 p0 _ { st with pos := st.pos + nn + 1 } _) (fun h9 => by cases h9) h1
            exact ⟨l', q', e1, e2, Nat.le_trans (by show st.pos ≤ st.pos + nn + 1; omega) e3⟩
          · obtain ⟨l', q', e1, e2, e3⟩ := NR ho hex f _ _ _ _ _ _ (⟨key _, by simp; omega, by show p0 ≤ st.pos + nn; omega, r7, h.opn, h.nm⟩ : AltI s o ns0 p0 _ { st with pos := st.pos + nn } _) (fun h9 => by cases h9) h1
            exact ⟨l', q', e1, e2, Nat.le_trans (by show st.pos ≤ st.pos + nn; omega) e3⟩
theorem DH (ho : o ≤ 250) (hex : o < 250 → AG s ex (o + 1)) {st st' : PS} {x : Rx} {f : Nat} (hb : Bd s st.pos) (hop : st.opn = o) (hn : st.names.length ≤ 100) (h : hY s ex f [] false st = .ok (x, st')) :
    ∃ q, Pc o st.names st'.names q x KE ∧ q + 2 * st.pos ≤ 2 * st'.pos + 1 ∧ st.pos ≤ st'.pos ∧ Bd s st'.pos ∧ st'.opn = o ∧ st'.names.length ≤ 100 := by
  obtain ⟨l, q, rfl, e2, e3⟩ := NR (ns0 := st.names) (p0 := st.pos) ho hex f [] false st st' x 0 ⟨⟨rfl, rfl⟩, by simp, Nat.le_refl _, hb, hop, hn⟩ (fun h => by cases h) h
  obtain ⟨q', r1, r2, r3, r4⟩ := row4 e2.ps (by omega)
  have hc := e2.cnt
  refine ⟨q', r1, ?_, e3, e2.bd, e2.opn, e2.nm⟩
  rcases Nat.lt_trichotomy l.length 1 with h9 | h9 | h9
  · have := r2 (by omega); omega
  · have := r3 h9; omega
  · omega
structure AltsI (s : ByteArray) (o : Nat) (ns0 : List ByteArray) (p0 : Nat) (l : List Rx) (st : PS) (q : Nat) : Prop where
  ps : Ps KE o l ns0 st.names q
  cnt : q + l.length + 2 * p0 ≤ 2 * st.pos + 2
  ge : p0 ≤ st.pos
  bd : Bd s st.pos
  opn : st.opn = o
  nm : st.names.length ≤ 100
  ne : 1 ≤ l.length
theorem UY (ho : o ≤ 250) (hex : o < 250 → AG s ex (o + 1)) : ∀ (f : Nat) (l : List Rx) (st st' : PS) (x : Rx) (q : Nat), AltsI s o ns0 p0 l st q → lN s ex f l st = .ok (x, st') → ∃ l' q', x = oC 5 l' ∧ AltsI s o ns0 p0 l' st' q'
  | 0, l, st, st', x, q, h, h1 => by rw [lN] at h1; cases h1; exact ⟨l, q, rfl, h⟩
  | f + 1, l, st, st', x, q, h, h1 => by
    rw [lN] at h1
    split at h1
    · rename_i hb
      split at h1
      · cases h1
      · rename_i y st2 hy
        obtain ⟨q2, r1, r2, r3, r4, r5, r6⟩ := DH ho hex (st := { st with pos := st.pos + 1 }) ((h.bd.asc hb.1 (by rw [hb.2]; decide)).1) h.opn h.nm hy
        have hc := h.cnt
        have hge := h.ge
        have r2' : q2 + 2 * (st.pos + 1) ≤ 2 * st2.pos + 1 := r2
        have r3' : st.pos + 1 ≤ st2.pos := r3
        exact UY ho hex f _ _ _ _ (q + q2) ⟨h.ps.app (Ps.one r1), by rw [List.length_append]; simp; omega, by omega, r4, r5, r6, by rw [List.length_append]; simp⟩ h1
    · cases h1; exact ⟨l, q, rfl, h⟩
theorem TV (ho : o ≤ 250) (hex : o < 250 → AG s ex (o + 1)) : AG s (kP s ex) o := by
  intro st x st' hop hb hn h
  unfold kP at h
  split at h
  · cases h
  · rename_i y st2 hy
    obtain ⟨q, r1, r2, r3, r4, r5, r6⟩ := DH ho hex hb hop hn hy
    obtain ⟨l, q', rfl, e⟩ := UY (ns0 := st.names) (p0 := st.pos) ho hex _ _ _ _ _ q ⟨Ps.one r1, by simp; omega, r3, r4, r5, r6, by simp⟩ h
    obtain ⟨q2, f1, f2, f3⟩ := row5 e.ps e.ne (by omega)
    have hc := e.cnt
    refine ⟨q2, f1, ?_, e.ge, e.bd, e.opn, e.nm⟩
    rcases Nat.lt_or_ge 1 l.length with h9 | h9
    · omega
    · have := f2 (by have := e.ne; omega); have := e.ne; omega
end
theorem TU (s : ByteArray) : ∀ n, n ≤ 250 → AG s (kL s n) (250 - n)
  | 0, _ => TV (ex := fun _ => .error 3) (o := 250) (Nat.le_refl _) (fun h => absurd h (Nat.lt_irrefl _))
  | n + 1, h => by
    have h1 := TU s n (by omega)
    have h2 : AG s (kP s (kL s n)) (250 - (n + 1)) := TV (by omega) (fun _ => by rw [show 250 - (n + 1) + 1 = 250 - n by omega]; exact h1)
    exact h2
theorem qI {s : ByteArray} {x : Rx} (h : iG s = .ok x) : x.Ok ∧ ∃ st', kL s 250 st0 = .ok (x, st') ∧ s.size ≤ st'.pos ∧ Bd s st'.pos ∧ ∃ q, x.fine 0 (0, []) = some (q, st'.names) := by
  unfold iG at h
  split at h
  · cases h
  · rename_i hz
    split at h
    · cases h
    · rename_i hU
      obtain ⟨N, hU⟩ := Classical.not_not.1 hU
      split at h
      · cases h
      · rename_i x0 st hx
        split at h
        · cases h
        · rename_i hend
          cases h
          obtain ⟨q, q1, q2, q3, q4, q5, q6⟩ := TU s 250 (Nat.le_refl _) st0 x st rfl (Bd.zero hU) (Nat.zero_le _) hx
          have hle := q4.le
          have hf := q1 0 0 (by simp) (by have : q + 2 * 0 ≤ 2 * st.pos + 1 := q2; omega)
          rw [Nat.zero_add] at hf
          exact ⟨⟨_, hf⟩, st, hx, by omega, q4, q, hf⟩
theorem hx_d : ∀ d, d < 16 → hexD (hx d) = some d ∧ hx d ≠ 125 ∧ hx d ≠ 123 := by decide +kernel
theorem MO : ∀ n : Nat, ∃ (d : Nat) (ds : List Nat), hexL n = hx d :: ds.map hx ∧ d < 16 ∧ (∀ e, e ∈ ds → e < 16) ∧ ds.foldl (fun v e => v * 16 + e) d = n := by
  intro n
  induction n using Nat.strongRecOn with
  | _ n ih =>
    by_cases h : n < 16
    · exact ⟨n, [], sL h, h, (fun e he => by cases he), rfl⟩
    · obtain ⟨d, ds, e1, e2, e3, e4⟩ := ih (n / 16) (by omega)
      refine ⟨d, ds ++ [n % 16], by rw [oX h, e1]; simp, e2, fun e he => ?_, ?_⟩
      · rcases List.mem_append.1 he with h9 | h9
        · exact e3 e h9
        · simp at h9; omega
      · rw [List.foldl_append, e4]; simp; omega
theorem CO {m : Nat} (hm : 1 ≤ m) : ∀ (ds : List Nat) (v : Nat), v ≤ ds.foldl (fun v e => v * m + e) v
  | [], v => Nat.le_refl _
  | d :: ds, v => Nat.le_trans (Nat.le_trans (Nat.le_mul_of_pos_right v hm) (Nat.le_add_right _ _)) (CO hm ds (v * m + d))
section
variable {s : ByteArray}
theorem GG : ∀ (ds : List Nat) (i v f : Nat), At s i (ds.map hx ++ [125]) → (∀ e, e ∈ ds → e < 16) → ds.foldl (fun v e => v * 16 + e) v ≤ 1114111 → ds.length < f → kO s f v i = .ok (ds.foldl (fun v e => v * 16 + e) v, i + ds.length + 1)
  | [], i, v, 0, h, hd, hv, hf => by cases hf
  | [], i, v, f + 1, h, hd, hv, hf => by rw [kO, if_pos h.1]; rfl
  | d :: ds, i, v, 0, h, hd, hv, hf => by cases hf
  | d :: ds, i, v, f + 1, h, hd, hv, hf => by
    obtain ⟨h1, h2⟩ := h
    obtain ⟨x1, x2, x3⟩ := hx_d d (hd d (by simp))
    have hg := CO (m := 16) (by decide) ds (v * 16 + d)
    simp only [List.foldl_cons] at hv
    rw [kO, if_neg (fun h9 => x2 (h1.2.symm.trans h9.2)), hD, if_pos h1.1, h1.2, x1]
    simp only
    rw [if_neg (by omega), GG ds (i + 1) _ f h2 (fun e he => hd e (by simp [he])) hv (by simp at hf; omega)]
    simp only [List.foldl_cons, List.length_cons]
    rw [show i + 1 + ds.length + 1 = i + (ds.length + 1) + 1 by omega]
theorem NE {c : Int} {i : Nat} (h0 : 0 ≤ c) (h1 : c ≤ 1114111) (h : At s i (oL c)) : lU s i = .ok (c.toNat, i + (oL c).length) := by
  obtain ⟨d, ds, e1, e2, e3, e4⟩ := MO c.toNat
  have hw : oL c = [92, 120, 123, hx d] ++ (ds.map hx ++ [125]) := by rw [oL, e1]; simp
  rw [hw] at h ⊢
  obtain ⟨⟨b0, b1, b2, b3, -⟩, hr⟩ := At.app.1 h
  have hle := (At.le hr (by simp))
  simp only [List.length_append, List.length_map, List.length_cons, List.length_nil] at hle ⊢
  obtain ⟨x1, x2, x3⟩ := hx_d d e2
  unfold lU
  rw [if_neg (by omega), b1.2, show uM 120 = none from rfl]
  simp only
  rw [if_pos trivial]
  unfold oE
  rw [if_pos (show isB s (i + 2) 123 from b2), hD, if_pos (show i + 2 + 1 < s.size from b3.1), show sb s (i + 2 + 1) = hx d from b3.2, x1]
  simp only
  rw [GG ds (i + 2 + 1 + 1) d _ hr e3 (by omega) (by omega), e4]
  rw [show i + 2 + 1 + 1 + ds.length + 1 = i + (0 + 1 + 1 + 1 + 1 + (ds.length + (0 + 1))) by omega]
theorem NG : ∀ n : Nat, ∃ ds : List Nat, gM n = ds.map (48 + ·) ∧ 1 ≤ ds.length ∧ (∀ e, e ∈ ds → e < 10) ∧ ds.foldl (fun v e => v * 10 + e) 0 = n := by
  intro n
  induction n using Nat.strongRecOn with
  | _ n ih =>
    by_cases h : n < 10
    · refine ⟨[n], ?_, by simp, by simpa using h, by simp⟩
      unfold gM
      rw [Lib.decDigits, dif_pos h]
      simp; omega
    · obtain ⟨ds, e1, e2, e3, e4⟩ := ih (n / 10) (by omega)
      refine ⟨ds ++ [n % 10], ?_, by simp, fun e he => ?_, ?_⟩
      · unfold gM at e1 ⊢
        rw [Lib.decDigits, dif_neg h, List.map_append, e1]
        simp; omega
      · rcases List.mem_append.1 he with h9 | h9
        · exact e3 e h9
        · simp at h9; omega
      · rw [List.foldl_append, e4]; simp; omega
theorem LT : ∀ (ds : List Nat) (i v f : Nat), At s i (ds.map (48 + ·)) → (∀ e, e ∈ ds → e < 10) → ds.foldl (fun v e => v * 10 + e) v ≤ 1000 → ds.length ≤ f → ¬ (i + ds.length < s.size ∧ GX (sb s (i + ds.length))) →
    iZ s f i (v : Nat) = (((ds.foldl (fun v e => v * 10 + e) v : Nat) : Int), i + ds.length)
  | [], i, v, 0, h, hd, hv, hf, hn => rfl
  | [], i, v, f + 1, h, hd, hv, hf, hn => by rw [iZ, if_neg (by simpa using hn)]; rfl
  | d :: ds, i, v, 0, h, hd, hv, hf, hn => by simp at hf
  | d :: ds, i, v, f + 1, h, hd, hv, hf, hn => by
    obtain ⟨h1, h2⟩ := h
    have hd0 := hd d (by simp)
    have hg := CO (m := 10) (by decide) ds (v * 10 + d)
    simp only [List.foldl_cons] at hv
    have hb : sb s i = 48 + d := h1.2
    rw [iZ, if_pos ⟨h1.1, by rw [hb]; unfold GX; omega⟩, hb]
    have e : min ((v : Int) * 10 + (((48 + d : Nat) : Int) - 48)) 1001 = ((v * 10 + d : Nat) : Int) := by omega
    rw [e, LT ds (i + 1) (v * 10 + d) f h2 (fun e he => hd e (by simp [he])) hv (by simp at hf; omega) (by
      simp only [List.length_cons] at hn
      rw [show i + 1 + ds.length = i + (ds.length + 1) by omega]; exact hn)]
    simp only [List.foldl_cons, List.length_cons]
    rw [show i + 1 + ds.length = i + (ds.length + 1) by omega]
end
section
variable {s : ByteArray}
theorem at_from {l : List Nat} {j : Nat} (h : At s j l) : At (s.extract j s.size) 0 l := by
  refine At.of fun k hk => ?_
  obtain ⟨h1, h2⟩ := h.get hk
  rw [Nat.zero_add]
  exact ⟨by rw [ByteArray.size_extract]; omega, by rw [gX h1]; exact h2⟩
theorem CB {n : Nat} {i : Nat} (h : At s i (gM n)) (hn : n ≤ 1000) (hd : ¬ (i + (gM n).length < s.size ∧ GX (sb s (i + (gM n).length)))) : iZ s s.size i 0 = ((n : Int), i + (gM n).length) ∧ 1 ≤ (gM n).length := by
  obtain ⟨ds, e1, e2, e3, e4⟩ := NG n
  have hl : (gM n).length = ds.length := by rw [e1, List.length_map]
  have hle := At.le h (by intro h9; rw [h9] at hl; simp at hl; omega)
  rw [e1] at h
  have := LT ds i 0 s.size h e3 (by rw [e4]; exact hn) (by omega) (by rw [← hl]; exact hd)
  rw [e4] at this
  exact ⟨by rw [hl]; exact this, by omega⟩
theorem OC {r : ByteArray} {lo hi : Int} (h : At r 0 (gJ lo hi)) (h0 : 0 ≤ lo) (h1 : lo ≤ 1000) (h2 : hi = -1 ∨ (lo ≤ hi ∧ hi ≤ 1000)) : kZ r = (lo, hi, (gJ lo hi).length) := by
  have hc : ((lo.toNat : Nat) : Int) = lo := by omega
  by_cases c1 : lo = 0 ∧ hi = -1
  · rw [tim_a c1] at h ⊢
    unfold kZ
    rw [if_pos h.1.2, c1.1, c1.2]; rfl
  by_cases c2 : lo = 1 ∧ hi = -1
  · rw [tim_b c2] at h ⊢
    have e : sb r 0 = 43 := h.1.2
    unfold kZ
    rw [if_neg (by omega), if_pos e, c2.1, c2.2]; rfl
  by_cases c3 : lo = 0 ∧ hi = 1
  · rw [tim_c c3] at h ⊢
    have e : sb r 0 = 63 := h.1.2
    unfold kZ
    rw [if_neg (by omega), if_neg (by omega), if_pos e, c3.1, c3.2]; rfl
  have e0 : ∀ L, At r 0 ([123] ++ L) → sb r 0 = 123 := fun L h => h.1.2
  by_cases c4 : hi = -1
  · rw [gJ, if_neg c1, if_neg c2, if_neg c3, if_pos c4, List.append_assoc] at h ⊢
    have e := e0 _ h
    obtain ⟨-, h5⟩ := At.app.1 h
    obtain ⟨h6, h7, h8, -⟩ := At.app.1 h5
    simp only [List.length_cons, List.length_nil, Nat.zero_add] at h6 h7 h8
    obtain ⟨n1, n2⟩ := CB h6 (by omega) (fun h9 => by have := h9.2; rw [h7.2] at this; revert this; decide)
    have n3 : iZ r r.size (1 + (gM lo.toNat).length + 1) 0 = (0, 1 + (gM lo.toNat).length + 1) := by
      obtain ⟨f, hf⟩ : ∃ f, r.size = f + 1 := ⟨r.size - 1, by have := h8.1; omega⟩
      have h88 := h8
      have hrn : ¬ (1 + (gM lo.toNat).length + 1 < r.size ∧ GX (sb r (1 + (gM lo.toNat).length + 1))) := fun h9 => by have := h9.2; rw [h8.2] at this; revert this; decide
      rw [hf, iZ, if_neg hrn]
    unfold kZ
    rw [if_neg (by omega), if_neg (by omega), if_neg (by omega), if_neg (by omega), n1, if_pos ⟨by show 1 < 1 + _; omega, h7⟩]
    simp only
    rw [n3, if_pos h8, if_pos rfl, hc, c4]
    simp only [List.length_append, List.length_cons, List.length_nil]
    rw [show 1 + (gM lo.toNat).length + 1 + 1 = 0 + 1 + ((gM lo.toNat).length + (0 + 1 + 1)) by omega]
  · obtain ⟨h3, h4⟩ := h2.resolve_left c4
    by_cases c5 : hi = lo
    · rw [gJ, if_neg c1, if_neg c2, if_neg c3, if_neg c4, if_pos c5, List.append_assoc] at h ⊢
      have e := e0 _ h
      obtain ⟨-, h5⟩ := At.app.1 h
      obtain ⟨h6, h7, -⟩ := At.app.1 h5
      simp only [List.length_cons, List.length_nil, Nat.zero_add] at h6 h7
      obtain ⟨n1, n2⟩ := CB h6 (by omega) (fun h9 => by have := h9.2; rw [h7.2] at this; revert this; decide)
      unfold kZ
      rw [if_neg (by omega), if_neg (by omega), if_neg (by omega), if_neg (by omega), n1]
      simp only
      rw [if_neg (fun h9 => isB.ne h7 (by decide) h9.2), if_neg (fun h9 => h9.elim (by omega) (fun h8 => h8 h7)), hc, c5]
      simp only [List.length_append, List.length_cons, List.length_nil]
      rw [show 1 + (gM lo.toNat).length + 1 = 0 + 1 + ((gM lo.toNat).length + (0 + 1)) by omega]
    · rw [gJ, if_neg c1, if_neg c2, if_neg c3, if_neg c4, if_neg c5, List.append_assoc, List.append_assoc, List.append_assoc] at h ⊢
      have hch : ((hi.toNat : Nat) : Int) = hi := by omega
      have e := e0 _ h
      obtain ⟨-, h5⟩ := At.app.1 h
      obtain ⟨h6, h7⟩ := At.app.1 h5
      obtain ⟨⟨h8, -⟩, h9⟩ := At.app.1 h7
      obtain ⟨h10, h11, -⟩ := At.app.1 h9
      simp only [List.length_cons, List.length_nil, Nat.zero_add] at h6 h8 h10 h11
      obtain ⟨n1, n2⟩ := CB h6 (by omega) (fun h9 => by have := h9.2; rw [h8.2] at this; revert this; decide)
      obtain ⟨n3, n4⟩ := CB h10 (by omega) (fun h9 => by have := h9.2; rw [h11.2] at this; revert this; decide)
      unfold kZ
      rw [if_neg (by omega), if_neg (by omega), if_neg (by omega), if_neg (by omega), n1]
      simp only
      rw [if_pos ⟨by omega, h8⟩, n3]
      simp only
      rw [if_pos h11, if_neg (by omega), hc, hch]
      simp only [List.length_append, List.length_cons, List.length_nil]
      rw [show 1 + (gM lo.toNat).length + 1 + (gM hi.toNat).length + 1 = 0 + 1 + ((gM lo.toNat).length + (0 + 1 + ((gM hi.toNat).length + (0 + 1)))) by omega]
theorem QS {j : Nat} {lo hi : Int} (h : At s j (gJ lo hi)) (h0 : 0 ≤ lo) (h1 : lo ≤ 1000) (h2 : hi = -1 ∨ (lo ≤ hi ∧ hi ≤ 1000)) : kZ (s.extract j s.size) = (lo, hi, (gJ lo hi).length) := OC (at_from h) h0 h1 h2
end
section
variable {s : ByteArray}
theorem qQ (c : Int) : ∃ l, oL c = 92 :: 120 :: 123 :: l := ⟨_, by rw [oL, List.append_assoc]; rfl⟩
theorem vT (c : Int) (h0 : 0 ≤ c) : ∃ b l, lE c = b :: l ∧ ((b = 92 ∧ ∃ l2, l = 120 :: l2) ∨ fT b) := by
  rw [lE]
  split
  · rename_i he
    obtain ⟨h1, h2, h3⟩ := he
    refine ⟨c.toNat, [], ?_, .inr h2⟩
    exact pY h0 h1
  · obtain ⟨l, hl⟩ := qQ c
    exact ⟨92, _, hl, .inl ⟨rfl, _, rfl⟩⟩
theorem rF {b : Nat} (h : fT b) : b ≠ 92 ∧ b ≠ 93 ∧ b ≠ 94 ∧ b ≠ 91 ∧ b ≠ 45 ∧ b < 128 := by unfold fT at h; omega
theorem LO {c : Int} {i : Nat} (h0 : 0 ≤ c) (h1 : c ≤ 1114111) (h : At s i (lE c)) : kS s i = .ok (c, i + (lE c).length) := by
  have h' := h
  rw [lE] at h ⊢
  split at h
  · rename_i he
    rw [if_pos he]
    obtain ⟨e1, e2, e3⟩ := he
    rw [pY h0 e1] at h ⊢
    obtain ⟨b1, b2⟩ := h.1
    have hw := rF e2
    rw [rK (by omega), tK b1 (by omega), b2]
    exact congrArg Except.ok (Prod.ext (by simp only; omega) rfl)
  · rename_i he
    rw [if_neg he]
    obtain ⟨l, hl⟩ := qQ c
    have h9 : isB s i 92 := by rw [hl] at h; exact h.1
    rw [FH h9.2 (NE h0 h1 h)]
    exact congrArg Except.ok (Prod.ext (by simp only; omega) rfl)
theorem TB {g : Int × Int} {i : Nat} (h0 : 0 ≤ g.1) (h1 : g.1 ≤ g.2) (h2 : g.2 ≤ 1114111) (h : At s i (kY g)) (hn : ¬ isB s (i + (kY g).length) 45) : ∃ S, jP s i = .ok (S, i + (kY g).length) ∧ ∀ c, S c ↔ g.1 ≤ c ∧ c ≤ g.2 := by
  rw [kY] at h hn ⊢
  obtain ⟨ha, hb⟩ := At.app.1 h
  obtain ⟨b, l, hbl, hbb⟩ := vT g.1 h0
  have hi : isB s i b := by rw [hbl] at ha; exact ha.1
  have hne : b ≠ 91 := by
    rcases hbb with ⟨rfl, -⟩ | hw
    · decide
    · exact (rF hw).2.2.2.1
  have e1 := LO h0 (by omega) ha
  have key : ∃ S, hZ s i = .ok (S, i + (lE g.1 ++ (if g.1 < g.2 then 45 :: lE g.2 else [])).length) ∧ ∀ c, S c ↔ g.1 ≤ c ∧ c ≤ g.2 := by
    split at hb
    · rename_i hlt
      rw [if_pos hlt] at hn ⊢
      obtain ⟨hb1, hb2⟩ := hb
      obtain ⟨b', l', hbl', hbb'⟩ := vT g.2 (by omega)
      have hi' : isB s (i + (lE g.1).length + 1) b' := by rw [hbl'] at hb2; exact hb2.1
      have e2 := LO (by omega) h2 hb2
      refine ⟨rgS g.1 g.2, ?_, fun c => Iff.rfl⟩
      rw [tH e1 ⟨hb1, hi'.1, by
        rw [hi'.2]
        rcases hbb' with ⟨rfl, -⟩ | hw
        · decide
        · exact (rF hw).2.1⟩ e2 (by omega)]
      simp only [List.length_append, List.length_cons]
      rw [show i + (lE g.1).length + 1 + (lE g.2).length = i + ((lE g.1).length + ((lE g.2).length + 1)) by omega]
    · rename_i hlt
      rw [if_neg hlt, List.append_nil] at hn ⊢
      refine ⟨rgS g.1 g.1, jW e1 (fun h9 => hn h9.1), fun c => ?_⟩
      show g.1 ≤ c ∧ c ≤ g.1 ↔ _
      omega
  obtain ⟨S, k1, k2⟩ := key
  refine ⟨S, ?_, k2⟩
  rw [dU (fun h9 => (isB.ne hi hne h9.1).elim), fD (fun h9 => ?_), k1]
  rcases hbb with ⟨rfl, l2, rfl⟩ | hw
  · rw [hbl] at ha
    rw [ha.2.1.2]
    rfl
  · exact absurd (hi.2.symm.trans h9.2) (rF hw).1
theorem qF (g : Int × Int) (h0 : 0 ≤ g.1) : ∃ b l, kY g = b :: l ∧ b ≠ 45 ∧ b ≠ 93 ∧ b ≠ 94 := by
  obtain ⟨b, l, hbl, hbb⟩ := vT g.1 h0
  refine ⟨b, l ++ (if g.1 < g.2 then 45 :: lE g.2 else []), by rw [kY, hbl]; rfl, ?_⟩
  rcases hbb with ⟨rfl, -⟩ | hw
  · decide
  · have := rF hw; omega
theorem vR : ∀ (rs : List (Int × Int)) (i f : Nat) (fst : Bool) (S : Int → Prop), (∀ g, g ∈ rs → 0 ≤ g.1 ∧ g.1 ≤ g.2 ∧ g.2 ≤ 1114111) → At s i (rs.flatMap kY ++ [93]) → (rs = [] → fst = false) → rs.length < f →
    ∃ T, gG s f fst S i = .ok (T, i + (rs.flatMap kY).length + 1) ∧ ∀ c, T c ↔ S c ∨ InR c rs
  | [], i, 0, fst, S, hr, h, hf, hl => by cases hl
  | [], i, f + 1, fst, S, hr, h, hf, hl => by
    obtain rfl := hf rfl
    exact ⟨S, GA h.1.1 h.1.2, fun c => ⟨.inl, fun h9 => h9.elim id (fun h8 => (jS c h8).elim)⟩⟩
  | g :: rs, i, 0, fst, S, hr, h, hf, hl => by cases hl
  | g :: rs, i, f + 1, fst, S, hr, h, hf, hl => by
    rw [List.flatMap_cons, List.append_assoc] at h
    obtain ⟨h1, h2⟩ := At.app.1 h
    obtain ⟨g0, g1, g2⟩ := hr g (by simp)
    obtain ⟨b, l, hbl, hb1, hb2, hb3⟩ := qF g g0
    have hi : isB s i b := by rw [hbl] at h1; exact h1.1
    have hnx : ¬ isB s (i + (kY g).length) 45 := by
      cases rs with
      | nil => exact isB.ne h2.1 (by decide)
      | cons g' rs' =>
        obtain ⟨b', l', hbl', hb1', -⟩ := qF g' (hr g' (by simp)).1
        rw [List.flatMap_cons, hbl'] at h2
        exact isB.ne h2.1 hb1'
    obtain ⟨S1, e1, e2⟩ := TB g0 g1 g2 h1 hnx
    obtain ⟨T, t1, t2⟩ := vR rs (i + (kY g).length) f false (unS S S1) (fun x hx => hr x (by simp [hx])) h2 (fun _ => rfl) (by simp at hl; omega)
    refine ⟨T, ?_, fun c => ?_⟩
    · rw [JT hi.1 (fun h9 => hb2 (hi.2.symm.trans h9.2)) e1, t1, List.flatMap_cons, List.length_append]
      rw [show i + (kY g).length + (rs.flatMap kY).length + 1 = i + ((kY g).length + (rs.flatMap kY).length) + 1 by omega]
    · rw [t2, fY]
      show (S c ∨ S1 c) ∨ _ ↔ _
      rw [e2, or_assoc]
theorem IV {l : List (Int × Int)} (h : RangesOk l) : sD l := by
  have key : ∀ (l : List (Int × Int)) (d : Int), (∀ i (h : i < l.length), d ≤ l[i].1 ∧ l[i].1 ≤ l[i].2 ∧ l[i].2 ≤ 1114111 ∧ ∀ j (hj : j < l.length), i = j + 1 → l[j].2 + 1 < l[i].1) → jM d l := by
    intro l
    induction l with
    | nil => intro d h; trivial
    | cons g l ih =>
      intro d h
      obtain ⟨a1, a2, a3, -⟩ := h 0 (by simp)
      refine ⟨a1, a2, a3, ih _ fun i hi => ?_⟩
      obtain ⟨b1, b2, b3, b4⟩ := h (i + 1) (by simpa using hi)
      have b5 := b4 i (by simp; omega) rfl
      simp only [List.getElem_cons_succ] at b1 b2 b3 b5
      have hge : ∀ i (hi : i < l.length), g.2 + 2 ≤ l[i].1 := by
        intro i
        induction i with
        | zero =>
          intro hi
          have := (h 1 (by simpa using hi)).2.2.2 0 (by simp) rfl
          simp only [List.getElem_cons_succ, List.getElem_cons_zero] at this
          omega
        | succ i ih2 =>
          intro hi
          have h1 := ih2 (by omega)
          have h2 := (h (i + 2) (by rw [List.length_cons]; omega)).2.2.2 (i + 1) (by simp; omega) rfl
          have h3 := (h (i + 1) (by simp; omega)).2.1
          simp only [List.getElem_cons_succ] at h2 h3
          omega
      refine ⟨hge i hi, b2, b3, fun j hj e => ?_⟩
      have := b4 (j + 1) (by simpa using hj) (by omega)
      simpa using this
  exact key l 0 fun i hi => h.1 i hi
theorem NI {rs : List (Int × Int)} {i : Nat} {fl : Fl} (hf : fl.fold = false) (hr : RangesOk rs) (h : At s i (pJ rs)) : isB s i 91 ∧ jY s fl (i + 1) = .ok (iT rs, i + (pJ rs).length) := by
  have hcan := IV hr
  by_cases he : rs = []
  · subst he
    have e : pJ [] = [91, 94] ++ (oL 0 ++ (45 :: (oL 1114111 ++ [93]))) := by
      rw [pJ, if_pos rfl, oL, oL, show (0 : Int).toNat = 0 from rfl, show (1114111 : Int).toNat = 1114111 from rfl]
      rw [sL (by decide), oX (n := 1114111) (by decide), oX (n := 1114111 / 16) (by decide), oX (n := 1114111 / 16 / 16) (by decide), oX (n := 1114111 / 16 / 16 / 16) (by decide), oX (n := 1114111 / 16 / 16 / 16 / 16) (by decide), sL (by decide)]
      rfl
    rw [e] at h ⊢
    obtain ⟨⟨h91, h94, -⟩, h2⟩ := At.app.1 h
    simp only [List.length_cons, List.length_nil, Nat.zero_add] at h2
    obtain ⟨h3, h45, h4⟩ := At.app.1 h2
    obtain ⟨h5, h93, -⟩ := At.app.1 h4
    refine ⟨h91, ?_⟩
    have e0 : lE 0 = oL 0 := by rw [lE, if_neg (by decide)]
    have e1 : lE 1114111 = oL 1114111 := by rw [lE, if_neg (by unfold IH; omega)]
    have hrg : kY (0, 1114111) = oL 0 ++ (45 :: oL 1114111) := by rw [kY, if_pos (by decide), e0, e1]
    have hat : At s (i + 2) ([((0 : Int), (1114111 : Int))].flatMap kY ++ [93]) := by
      rw [List.flatMap_cons, List.flatMap_nil, List.append_nil, hrg, List.append_assoc]
      exact At.app.2 ⟨h3, h45, At.app.2 ⟨h5, h93, trivial⟩⟩
    obtain ⟨T, t1, t2⟩ := vR [((0 : Int), (1114111 : Int))] (i + 2) (s.size + 1) true (fun _ => False) (fun g hg => by simp at hg; subst hg; decide) hat (fun h9 => by cases h9) (by have := h91.1; simp; omega)
    have h8 := tP (fl := fl) (i := i + 1) (S := T) (s := s) (j := i + 2 + ([((0 : Int), (1114111 : Int))].flatMap kY).length + 1) (by rw [if_pos (show isB s (i + 1) 94 from h94)]; exact t1)
    rw [if_pos (show isB s (i + 1) 94 from h94), if_neg (by rw [hf]; decide)] at h8
    rw [h8]
    have hz : kF (sU T) = iT [] := nA (oN (S := sU T) (l := []) trivial (fun c => ⟨fun h9 => (jS c h9).elim, fun h9 => (h9.2.2 ((t2 c).2 (.inr (jN.2 ⟨h9.1, h9.2.1⟩)))).elim⟩)) (fun h9 => by simp at h9)
    rw [hz, List.flatMap_cons, List.flatMap_nil, List.append_nil, hrg]
    simp only [List.length_append, List.length_cons, List.length_nil]
    exact congrArg Except.ok (Prod.ext rfl (by simp only; omega))
  · rw [pJ, if_neg he, List.append_assoc] at h ⊢
    obtain ⟨⟨h91, -⟩, h2⟩ := At.app.1 h
    simp only [List.length_cons, List.length_nil, Nat.zero_add] at h2
    refine ⟨h91, ?_⟩
    have hbd : ∀ g, g ∈ rs → 0 ≤ g.1 ∧ g.1 ≤ g.2 ∧ g.2 ≤ 1114111 := fun g hg => by
      obtain ⟨k, hk, rfl⟩ := List.mem_iff_getElem.1 hg
      have := hr.1 k hk
      exact ⟨this.1, this.2.1, this.2.2.1⟩
    have h94 : ¬ isB s (i + 1) 94 := by
      cases rs with
      | nil => exact (he rfl).elim
      | cons g rs =>
        obtain ⟨b, l, hbl, hb1, hb2, hb3⟩ := qF g (hbd g (by simp)).1
        rw [List.flatMap_cons, hbl] at h2
        exact isB.ne h2.1 hb3
    have hlen : rs.length ≤ (rs.flatMap kY).length := by
      clear h h2 hcan hr h94 he
      induction rs with
      | nil => exact Nat.le_refl _
      | cons g rs ih =>
        obtain ⟨b, l, hbl, -⟩ := qF g (hbd g (by simp)).1
        have := ih (fun x hx => hbd x (by simp [hx]))
        rw [List.flatMap_cons, List.length_append, hbl, List.length_cons, List.length_cons]
        omega
    have hle := At.le h2 (by simp)
    rw [List.length_append] at hle
    obtain ⟨T, t1, t2⟩ := vR rs (i + 1) (s.size + 1) true (fun _ => False) hbd h2 (fun h9 => (he h9).elim) (by omega)
    have h8 := tP (fl := fl) (i := i + 1) (S := T) (s := s) (j := i + 1 + (rs.flatMap kY).length + 1) (by rw [if_neg h94]; exact t1)
    rw [if_neg h94, if_neg (by rw [hf]; decide)] at h8
    rw [h8]
    have hz : kF T = iT rs := nA (oN hcan (fun c => by rw [t2 c]; simp)) hr.2
    rw [hz]
    simp only [List.length_append, List.length_cons, List.length_nil]
    exact congrArg Except.ok (Prod.ext rfl (by simp only; omega))
end
abbrev FL (b : Bool) : Fl := ⟨false, b, false, false⟩
section
variable {s : ByteArray} {ex : PS → PX Rx} {bb : Bool} {o : Nat} {ns : List ByteArray} {i : Nat}
theorem lit_w {c : Int} (h0 : 0 ≤ c) (h1 : c ≤ 1114111) (h : At s i (lV c)) : eL s ex ⟨i, FL bb, o, ns⟩ = .ok ([lB c], ⟨i + (lV c).length, FL bb, o, ns⟩) := by
  have hlp : ∀ z : Int, z = c → lD (FL bb) z = lB c := fun z hz => by rw [hz]; exact yU rfl h0 h1
  by_cases ho : Odd c
  · have e : lV c = oL c := by rw [lV, if_pos ho]
    rw [e] at h ⊢
    obtain ⟨l, hl⟩ := qQ c
    have hh := h
    rw [hl] at hh
    obtain ⟨b0, b1, b2, -⟩ := hh
    have he := NE h0 h1 h
    rw [wJ (st := ⟨i, FL bb, o, ns⟩) b0.2]
    have e1 : sb s (i + 1) = 120 := b1.2
    rw [CT (st := ⟨i, FL bb, o, ns⟩) (by have := b1.1; show ¬ s.size ≤ i + 1; omega) (by show ¬ sb s (i + 1) = _; omega) (by show ¬ sb s (i + 1) = _; omega) (by show ¬ sb s (i + 1) = _; omega) (by show ¬ sb s (i + 1) = _; omega) (by show ¬ sb s (i + 1) = _; omega)]
    show (match rM (sb s (i + 1)) with | some S => _ | none => _) = _
    rw [e1, show rM 120 = none from rfl]
    show (match lU s i with | .error e => _ | .ok (v, j) => _) = _
    rw [he]
    show Except.ok ([lD (FL bb) ((c.toNat : Nat) : Int)], _) = _
    rw [hlp _ (by omega)]
  · by_cases hs : c < 128 ∧ c.toNat ∈ vH
    · have e : lV c = [92, c.toNat] := by rw [lV, if_neg ho, if_pos hs]
      rw [e] at h ⊢
      rw [OG (st := ⟨i, FL bb, o, ns⟩) h hs.2]
      show Except.ok ([lD (FL bb) ((c.toNat : Nat) : Int)], _) = _
      rw [hlp _ (by omega)]
      rfl
    · have e : lV c = eB c := by rw [lV, if_neg ho, if_neg hs]
      rw [e] at h ⊢
      have hr : IsR c := ⟨h0, h1, by unfold Odd at ho; omega⟩
      have hp := sM hr
      have hle := At.le h (by intro h9; rw [h9] at hp; simp at hp)
      have hn := vN (s := s) (a := i) hr hle (fun k hk => (h.get hk).2)
      have hfst : ∀ d, d ∈ vH → sb s i ≠ d ∧ c ≠ (d : Int) := fun d hd => by
        have hb0 : sb s i ∈ eB c := by
          have := (h.get (k := 0) (by omega)).2
          rw [Nat.add_zero] at this
          rw [this]; exact List.getElem_mem _
        rcases Int.lt_or_le c 128 with h9 | h9
        · rw [pY h0 h9, List.mem_singleton] at hb0
          refine ⟨fun h8 => hs ⟨h9, by rw [← hb0, h8]; exact hd⟩, fun h8 => hs ⟨h9, by rw [h8]; exact hd⟩⟩
        · have h7 := CN h9 _ hb0
          have h6 := (BP d hd).1
          exact ⟨by omega, by omega⟩
      rw [JA (st := ⟨i, FL bb, o, ns⟩) hn (hfst 40 (by decide)).1 (hfst 91 (by decide)).1 (hfst 92 (by decide)).1 (hfst 46 (by decide)).2 (hfst 94 (by decide)).2 (hfst 36 (by decide)).2]
      show Except.ok ([lD (FL bb) c], _) = _
      rw [hlp _ rfl]
      rfl
theorem cls_w {rs : List (Int × Int)} (hr : RangesOk rs) (h : At s i (pJ rs)) : eL s ex ⟨i, FL bb, o, ns⟩ = .ok ([iT rs], ⟨i + (pJ rs).length, FL bb, o, ns⟩) := by
  obtain ⟨h1, h2⟩ := NI (fl := FL bb) rfl hr h
  rw [RL (st := ⟨i, FL bb, o, ns⟩) h1.2 h2]
  rfl
theorem kA_w (h : At s i [92, 65]) : eL s ex ⟨i, FL bb, o, ns⟩ = .ok ([rxK 8], ⟨i + 2, FL bb, o, ns⟩) := by
  obtain ⟨h1, h2, -⟩ := h
  rw [wJ (st := ⟨i, FL bb, o, ns⟩) h1.2, es_A (st := ⟨i, FL bb, o, ns⟩) (by have := h2.1; show ¬ s.size ≤ i + 1; omega) h2.2]; rfl
theorem kz_w (h : At s i [92, 122]) : eL s ex ⟨i, FL bb, o, ns⟩ = .ok ([rxK 9], ⟨i + 2, FL bb, o, ns⟩) := by
  obtain ⟨h1, h2, -⟩ := h
  rw [wJ (st := ⟨i, FL bb, o, ns⟩) h1.2, es_z (st := ⟨i, FL bb, o, ns⟩) (by have := h2.1; show ¬ s.size ≤ i + 1; omega) h2.2]; rfl
theorem kb_w (h : At s i [92, 98]) : eL s ex ⟨i, FL bb, o, ns⟩ = .ok ([rxK 12], ⟨i + 2, FL bb, o, ns⟩) := by
  obtain ⟨h1, h2, -⟩ := h
  rw [wJ (st := ⟨i, FL bb, o, ns⟩) h1.2, es_b (st := ⟨i, FL bb, o, ns⟩) (by have := h2.1; show ¬ s.size ≤ i + 1; omega) h2.2]; rfl
theorem kB_w (h : At s i [92, 66]) : eL s ex ⟨i, FL bb, o, ns⟩ = .ok ([rxK 13], ⟨i + 2, FL bb, o, ns⟩) := by
  obtain ⟨h1, h2, -⟩ := h
  rw [wJ (st := ⟨i, FL bb, o, ns⟩) h1.2, es_B (st := ⟨i, FL bb, o, ns⟩) (by have := h2.1; show ¬ s.size ≤ i + 1; omega) h2.2]; rfl
theorem khat_w (h : At s i [94]) : eL s ex ⟨i, FL true, o, ns⟩ = .ok ([rxK 10], ⟨i + 1, FL true, o, ns⟩) := by
  obtain ⟨h1, h2⟩ := h.1
  have hn := tK h1 (by rw [h2]; decide)
  rw [h2] at hn
  rw [FE (st := ⟨i, FL true, o, ns⟩) (by show ¬ sb s i = _; omega) (by show ¬ sb s i = _; omega) (by show ¬ sb s i = _; omega), RF (st := ⟨i, FL true, o, ns⟩) (by show (cD s i).1 = 94; rw [hn]; rfl)]
  show Except.ok ([rxK (if true = true then 10 else 8)], gZ _ (i + (cD s i).2)) = _
  rw [hn]; rfl
theorem kdol_w (h : At s i [36]) : eL s ex ⟨i, FL true, o, ns⟩ = .ok ([rxK 11], ⟨i + 1, FL true, o, ns⟩) := by
  obtain ⟨h1, h2⟩ := h.1
  have hn := tK h1 (by rw [h2]; decide)
  rw [h2] at hn
  rw [FE (st := ⟨i, FL true, o, ns⟩) (by show ¬ sb s i = _; omega) (by show ¬ sb s i = _; omega) (by show ¬ sb s i = _; omega), RG (st := ⟨i, FL true, o, ns⟩) (by show (cD s i).1 = 36; rw [hn]; rfl)]
  show Except.ok ([rxK (if true = true then 11 else 9)], gZ _ (i + (cD s i).2)) = _
  rw [hn]; rfl
end
theorem SW {x : Rx} (h : NodeP x) (hk : x.kind = 2) : x = lB x.r := tG hk rfl (h.zg.resolve_left (by omega)) (h.zm.resolve_left (by omega)).1 (h.zm.resolve_left (by omega)).2.1 (h.zm.resolve_left (by omega)).2.2 (h.zc.resolve_left (by omega)).1 (h.zc.resolve_left (by omega)).2 (h.leaf (by unfold kW; omega))
theorem SX {x : Rx} (h : NodeP x) (hk : x.kind = 3) : x = iT x.ranges := tG hk (h.zr.resolve_left (by omega)) rfl (h.zm.resolve_left (by omega)).1 (h.zm.resolve_left (by omega)).2.1 (h.zm.resolve_left (by omega)).2.2 (h.zc.resolve_left (by omega)).1 (h.zc.resolve_left (by omega)).2 (h.leaf (by unfold kW; omega))
theorem JR {x : Rx} (h : NodeP x) (hk : x.kind = 1 ∨ 8 ≤ x.kind) : x = rxK x.kind := tG rfl (h.zr.resolve_left (by omega)) (h.zg.resolve_left (by omega)) (h.zm.resolve_left (by omega)).1 (h.zm.resolve_left (by omega)).2.1 (h.zm.resolve_left (by omega)).2.2 (h.zc.resolve_left (by omega)).1 (h.zc.resolve_left (by omega)).2 (h.leaf (by unfold kW; omega))
theorem IQ {x : Rx} (h : NodeP x) (hk : x.kind = 4 ∨ x.kind = 5) : x = rH x.kind x.kids := tG rfl (h.zr.resolve_left (by omega)) (h.zg.resolve_left (by omega)) (h.zm.resolve_left (by omega)).1 (h.zm.resolve_left (by omega)).2.1 (h.zm.resolve_left (by omega)).2.2 (h.zc.resolve_left (by omega)).1 (h.zc.resolve_left (by omega)).2 rfl
theorem rep_is {x y : Rx} (h : NodeP x) (hk : x.kind = 6) (hy : x.kids = [y]) : x = jV x.min x.max x.lazy y := tG hk (h.zr.resolve_left (by omega)) (h.zg.resolve_left (by omega)) rfl rfl rfl (h.zc.resolve_left (by omega)).1 (h.zc.resolve_left (by omega)).2 hy
theorem grp_is {x y : Rx} (h : NodeP x) (hk : x.kind = 7) (hy : x.kids = [y]) : x = rC x.cap x.name y := tG hk (h.zr.resolve_left (by omega)) (h.zg.resolve_left (by omega)) (h.zm.resolve_left (by omega)).1 (h.zm.resolve_left (by omega)).2.1 (h.zm.resolve_left (by omega)).2.2 rfl rfl hy
def Fb (b : Nat) : Prop := b ≠ 63 ∧ b ≠ 42 ∧ b ≠ 43 ∧ b ≠ 123 ∧ b ≠ 124 ∧ b ≠ 41
instance (b : Nat) : Decidable (Fb b) := by unfold Fb; infer_instance
theorem yT {c : Int} (h0 : 0 ≤ c) (h1 : c ≤ 1114111) : ∃ b l, lV c = b :: l ∧ Fb b := by
  rw [lV]
  split
  · obtain ⟨l, hl⟩ := qQ c
    exact ⟨92, _, hl, by decide⟩
  · rename_i ho
    split
    · exact ⟨92, _, rfl, by decide⟩
    · rename_i hs
      have hr : IsR c := ⟨h0, h1, by unfold Odd at ho; omega⟩
      have hp := sM hr
      cases hf : eB c with
      | nil => rw [hf] at hp; simp at hp
      | cons b l =>
        refine ⟨b, l, rfl, ?_⟩
        have hb : b ∈ eB c := by rw [hf]; simp
        have key : ∀ d, d ∈ vH → b ≠ d := fun d hd h9 => by
          rcases Int.lt_or_le c 128 with h8 | h8
          · rw [pY h0 h8, List.mem_singleton] at hb
            exact hs ⟨h8, by rw [← hb, h9]; exact hd⟩
          · have := CN h8 _ hb
            have := (BP d hd).1
            omega
        exact ⟨key 63 (by decide), key 42 (by decide), key 43 (by decide), key 123 (by decide), key 124 (by decide), key 41 (by decide)⟩
theorem pX {p : Prop} [Decidable p] {l : List Nat} (h : ¬ p → ∃ b m, l = b :: m ∧ Fb b) : ∃ b m, brW p l = b :: m ∧ Fb b := by
  rw [brW]
  split
  · exact ⟨40, _, rfl, by decide⟩
  · rename_i hp; exact h hp
theorem xP {x : Rx} (hg : Good x) : (x.kind ≠ 1 → x.kind ≠ 4 → x.kind ≠ 5 → ∃ b l, x.w = b :: l ∧ Fb b) ∧ ∀ b l, x.w = b :: l → b ≠ 63 := by
  induction hg with
  | @mk x hn hc hk ih =>
    have hf := (bV _).1 hn
    have hw := Rx.w_eq x
    have k1 := hf.kind1
    have k2 := hf.kind2
    have key : x.kind ≠ 1 → x.kind ≠ 4 → x.kind ≠ 5 → ∃ b l, x.w = b :: l ∧ Fb b := by
      intro n1 n4 n5
      rw [hw, List.append_assoc]
      have app : ∀ {L M : List Nat}, (∃ b l, L = b :: l ∧ Fb b) → ∃ b l, L ++ M = b :: l ∧ Fb b := fun {L M} ⟨b, l, h, hb⟩ => ⟨b, l ++ M, by rw [h]; rfl, hb⟩
      by_cases e6 : x.kind = 6
      · obtain ⟨y, hy⟩ := List.length_eq_one_iff.1 (hn.rep e6).2.2.2
        rw [e6, hy, show pN 6 x.r x.ranges x.name = [] from rfl, List.nil_append, dI, show mJ 6 true = [] from rfl, List.nil_append, List.append_assoc]
        refine app (pX fun hb => ?_)
        unfold Brk at hb
        exact (ih y (by rw [hy]; simp)).1 (by omega) (by omega) (by omega)
      · refine app ?_
        unfold pN
        split
        · exact yT (hf.lit1 (by assumption)) (hf.lit2 (by assumption))
        · split
          · unfold pJ
            split
            · exact ⟨91, _, rfl, by decide⟩
            · exact ⟨91, _, by rw [List.append_assoc]; rfl, by decide⟩
          · split
            · exact ⟨40, _, rfl, by decide⟩
            · split
              · exact ⟨92, _, rfl, by decide⟩
              · split
                · exact ⟨92, _, rfl, by decide⟩
                · split
                  · exact ⟨94, _, rfl, by decide⟩
                  · split
                    · exact ⟨36, _, rfl, by decide⟩
                    · split
                      · exact ⟨92, _, rfl, by decide⟩
                      · split
                        · exact ⟨92, _, rfl, by decide⟩
                        · omega
    refine ⟨key, fun b l hbl => ?_⟩
    by_cases e1 : x.kind = 1
    · have hx := JR hn (.inl e1)
      rw [e1] at hx
      rw [hx] at hbl
      cases hbl
    by_cases e4 : x.kind = 4
    · have h2 := hn.two (.inl e4)
      cases hks : x.kids with
      | nil => rw [hks] at h2; simp at h2
      | cons y ys =>
        have : ∃ b m, brW (Brk y.kind 4) y.w = b :: m ∧ Fb b := pX fun hb => by
          unfold Brk at hb
          exact (ih y (by rw [hks]; simp)).1 (by omega) (by omega) (by omega)
        obtain ⟨b2, m2, hb2, hfb⟩ := this
        rw [hw, e4, hks, show pN 4 x.r x.ranges x.name = [] from rfl, List.nil_append, dI, show mJ 4 true = [] from rfl, List.nil_append, hb2] at hbl
        cases hbl
        exact hfb.1
    by_cases e5 : x.kind = 5
    · have h2 := hn.two (.inr e5)
      match hks : x.kids, h2 with
      | y :: z :: ys, _ =>
        rw [hw, e5, hks, show pN 5 x.r x.ranges x.name = [] from rfl, List.nil_append, dI, show mJ 5 true = [] from rfl, List.nil_append, dI, show mJ 5 false = [124] from rfl, brW] at hbl
        split at hbl
        · cases hbl; decide
        · cases hyw : y.w with
          | nil => rw [hyw] at hbl; cases hbl; decide
          | cons b2 m2 =>
            rw [hyw] at hbl
            cases hbl
            exact (ih y (by rw [hks]; simp)).2 _ _ hyw
    · obtain ⟨b2, l2, h3, h4⟩ := key e1 e4 e5
      rw [h3] at hbl
      cases hbl
      exact h4.1
theorem oM {x : Rx} {b : Int} {st st' : St} (h : x.fine b st = some st') : (if x.kind = 7 then b + 1 else b) ≤ 250 ∧ NodeP x ∧ (x.kind = 7 → lK x.cap x.name st.2) ∧
    dJ x.kids x.kind (if x.kind = 7 then b + 1 else b) (st.1 + 1, if x.kind = 7 then st.2 ++ [x.name] else st.2) = some st' := by
  by_cases hc : st.1 + 1 ≤ 8194 ∧ (if x.kind = 7 then b + 1 else b) ≤ 250 ∧ NodeP x ∧ (x.kind = 7 → lK x.cap x.name st.2)
  · rw [gL hc] at h; exact ⟨hc.2.1, hc.2.2.1, hc.2.2.2, h⟩
  · rw [eY hc] at h; cases h
theorem oI {x : Rx} {xs : List Rx} {k b : Int} {st st' : St} (h : dJ (x :: xs) k b st = some st') : ∃ st1, x.fine (b + if Brk x.kind k then 1 else 0) st = some st1 ∧ dJ xs k b st1 = some st' := by
  rw [dJ] at h
  split at h
  · cases h
  · rename_i st1 h1; exact ⟨st1, h1, h⟩
noncomputable def nI (s : ByteArray) (o : Nat) : PS → PX Rx := if o < 250 then kL s (249 - o) else fun _ => .error 3
theorem exAt_eq (s : ByteArray) {o : Nat} (ho : o ≤ 250) : ∀ st, kL s (250 - o) st = kP s (nI s o) st := by
  intro st
  rcases Nat.lt_or_ge o 250 with h | h
  · rw [nI, if_pos h, show 250 - o = (249 - o) + 1 by omega]; rfl
  · obtain rfl : o = 250 := by omega
    rw [nI, if_neg (by omega)]; rfl
theorem ND (s : ByteArray) {o : Nat} (ho : o + 1 ≤ 250) : nI s o = kL s (250 - (o + 1)) := by rw [nI, if_pos (by omega), show 249 - o = 250 - (o + 1) by omega]
def Stp (s : ByteArray) (o : Nat) (bb : Bool) (i n : Nat) (y : Rx) (ns ns' : List ByteArray) (rp : Prop) : Prop :=
  ∀ (l : List Rx) (ah : Bool) (f : Nat), s.size < i + f → ∃ f' ah', s.size < i + n + f' ∧ (rp → ah' = true) ∧ hY s (nI s o) f l ah ⟨i, FL bb, o, ns⟩ = hY s (nI s o) f' (l ++ [y]) ah' ⟨i + n, FL bb, o, ns'⟩
section
variable {s : ByteArray} {o : Nat} {bb : Bool} {i n : Nat} {y : Rx} {ns ns' : List ByteArray}
theorem pM {b : Nat} {rp : Prop} (h : isB s i b) (hb : Fb b) (hn : 1 ≤ n) (hp : eL s (nI s o) ⟨i, FL bb, o, ns⟩ = .ok ([y], ⟨i + n, FL bb, o, ns'⟩)) : Stp s o bb i n y ns ns' rp := by
  intro l ah f hf
  have hi := h.1
  obtain ⟨f0, rfl⟩ : ∃ f0, f = f0 + 1 := ⟨f - 1, by omega⟩
  obtain ⟨b1, b2, b3, b4, b5, b6⟩ := hb
  refine ⟨f0, true, by omega, fun _ => rfl, ?_⟩
  rw [sS (c := b) (st := ⟨i, FL bb, o, ns⟩) h ⟨b6, b2, b3, b1, b4, b5⟩ hp]
  rfl
theorem QB (lo hi : Int) : ∃ b l, gJ lo hi = b :: l ∧ b ≠ 124 ∧ b ≠ 41 := by
  unfold gJ
  split
  · exact ⟨_, _, rfl, by decide, by decide⟩
  · split
    · exact ⟨_, _, rfl, by decide, by decide⟩
    · split
      · exact ⟨_, _, rfl, by decide, by decide⟩
      · split
        · exact ⟨_, _, rfl, by decide, by decide⟩
        · split
          · exact ⟨_, _, rfl, by decide, by decide⟩
          · exact ⟨_, _, rfl, by decide, by decide⟩
theorem stp_rep {lo hi : Int} {z : Bool} (hk : Stp s o bb i n y ns ns' True) (h : At s (i + n) (gJ lo hi ++ (if z = true then [63] else []))) (h0 : 0 ≤ lo) (h1 : lo ≤ 1000) (h2 : hi = -1 ∨ (lo ≤ hi ∧ hi ≤ 1000))
    (hq : ¬ isB s (i + n + (gJ lo hi ++ (if z = true then [63] else [])).length) 63) : Stp s o bb i (n + (gJ lo hi ++ (if z = true then [63] else [])).length) (jV lo hi z y) ns ns' False := by
  intro l ah f hf
  obtain ⟨f1, ah1, e1, e2, e3⟩ := hk l ah f hf
  obtain rfl := e2 trivial
  obtain ⟨ht, hz⟩ := At.app.1 h
  obtain ⟨b, m, hbm, hb1, hb2⟩ := QB lo hi
  have hfst : isB s (i + n) b := by rw [hbm] at ht; exact ht.1
  have hpos : 1 ≤ (gJ lo hi).length := by rw [hbm]; simp
  obtain ⟨f0, rfl⟩ : ∃ f0, f1 = f0 + 1 := ⟨f1 - 1, by have := hfst.1; omega⟩
  have hr := QS ht h0 h1 h2
  have hend : ¬ (s.size ≤ (⟨i + n, FL bb, o, ns'⟩ : PS).pos ∨ sb s (⟨i + n, FL bb, o, ns'⟩ : PS).pos = 124 ∨ sb s (⟨i + n, FL bb, o, ns'⟩ : PS).pos = 41) := by
    show ¬ (s.size ≤ i + n ∨ sb s (i + n) = 124 ∨ sb s (i + n) = 41)
    have := hfst.1; have := hfst.2; omega
  have hc : ¬ (true = false ∨ 1000 < lo ∨ 1000 < hi ∨ (0 ≤ hi ∧ hi < lo)) := by
    rintro (h9 | h9 | h9 | h9)
    · cases h9
    · omega
    · omega
    · omega
  have hle := At.le ht (by rw [hbm]; simp)
  refine ⟨f0, false, ?_, fun h => h.elim, ?_⟩
  · rw [List.length_append]; omega
  · rw [e3]
    cases z with
    | true =>
      have hq1 : isB s (i + n + (gJ lo hi).length) 63 := hz.1
      rw [uQ (st := ⟨i + n, FL bb, o, ns'⟩) hend hr (by omega) hc hq1, List.dropLast_concat, show (l ++ [y]).getLastD (rxK 1) = y by simp]
      rw [show i + (n + (gJ lo hi ++ (if true = true then [63] else [] : List Nat)).length) = i + n + (gJ lo hi).length + 1 by simp; omega]
      rfl
    | false =>
      have hq0 : ¬ isB s (i + n + (gJ lo hi).length) 63 := by
        rw [show (gJ lo hi ++ (if false = true then [63] else [] : List Nat)).length = (gJ lo hi).length by simp] at hq; exact hq
      rw [xZ (st := ⟨i + n, FL bb, o, ns'⟩) hend hr (by omega) hc hq0, List.dropLast_concat, show (l ++ [y]).getLastD (rxK 1) = y by simp]
      rw [show i + (n + (gJ lo hi ++ (if false = true then [63] else [] : List Nat)).length) = i + n + (gJ lo hi).length by simp; omega]
theorem PN {L : List Nat} {rp : Prop} (ho : o + 1 ≤ 250) (h : At s i ([40, 63, 58] ++ L ++ [41])) (hx : kL s (250 - (o + 1)) ⟨i + 3, FL bb, o + 1, ns⟩ = .ok (y, ⟨i + 3 + L.length, FL bb, o + 1, ns'⟩)) : Stp s o bb i ([40, 63, 58] ++ L ++ [41]).length y ns ns' rp := by
  rw [List.append_assoc] at h ⊢
  obtain ⟨h1, h2⟩ := At.app.1 h
  obtain ⟨h3, h4, -⟩ := At.app.1 h2
  have hcl : isB s (i + 3 + L.length) 41 := h4
  refine pM h1.1 (by decide) (by simp) ?_
  have := PF (s := s) (ex := nI s o) (st := ⟨i, FL bb, o, ns⟩) (x := y) (p := i + 3 + L.length) (ns := ns') (fl := FL bb) (o := o) h1 (by show o ≠ 250; omega) (by rw [ND s ho]; exact hx) hcl
  rw [this]
  simp only [List.length_append, List.length_cons, List.length_nil]
  rw [show i + 3 + L.length + 1 = i + (0 + 1 + 1 + 1 + (L.length + (0 + 1))) by omega]
theorem ET : ∀ (l : List Nat) (i f : Nat), At s i l → (∀ b, b ∈ l → fT b) → l.length ≤ f → ¬ (i + l.length < s.size ∧ fT (sb s (i + l.length))) → iA s f i = i + l.length
  | [], i, 0, h, hw, hf, hn => rfl
  | [], i, f + 1, h, hw, hf, hn => by rw [iA, if_neg (by simpa using hn)]; rfl
  | b :: l, i, 0, h, hw, hf, hn => by simp at hf
  | b :: l, i, f + 1, h, hw, hf, hn => by
    rw [iA, if_pos ⟨h.1.1, by rw [h.1.2]; exact hw b (by simp)⟩, ET l (i + 1) f h.2 (fun c hc => hw c (by simp [hc])) (by simp at hf; omega) (by
      rw [show i + 1 + l.length = i + (b :: l).length by simp; omega]; exact hn)]
    simp only [List.length_cons]; omega
def kU (nm : ByteArray) : List Nat := [40] ++ (if nm = ByteArray.mk #[] then [] else [63, 80, 60] ++ nmL nm ++ [62])
theorem UW {nm : ByteArray} {i : Nat} (h : At s i (nmL nm)) : ∀ k, k < nm.size → isB s (i + k) (sb nm k) := fun k hk => by
  have h1 := h.get (k := k) (by rw [sI]; exact hk)
  have h2 : (nmL nm)[k]'(by rw [sI]; exact hk) = sb nm k := by
    rw [pF _ _ hk]
    simp [nmL]
    rfl
  rw [h2] at h1
  exact h1
theorem FP {nm : ByteArray} {fl : Fl} (hn : tV nm) (h : At s i (kU nm)) (hq : nm = ByteArray.mk #[] → ¬ isB s (i + 1) 63) : fK s i fl = ⟨(kU nm).length, nm, fl, true, false, 0⟩ := by
  by_cases he : nm = ByteArray.mk #[]
  · rw [uE (fun h9 => hq he h9.2)]
    rw [kU, if_pos he, he]
    rfl
  · have e : kU nm = [40, 63, 80, 60] ++ (nmL nm ++ [62]) := by rw [kU, if_neg he]; simp
    rw [e] at h ⊢
    obtain ⟨⟨a0, a1, a2, a3, -⟩, h1⟩ := At.app.1 h
    obtain ⟨h2, h3, -⟩ := At.app.1 h1
    have h2' : At s (i + 4) (nmL nm) := h2
    have h3' : isB s (i + 4 + (nmL nm).length) 62 := h3
    have hbn := UW h2'
    have hnp : 1 ≤ nm.size := Nat.pos_of_ne_zero fun h9 => he (ByteArray.size_eq_zero_iff.1 h9)
    have hlen := sI nm
    have hw : ∀ b, b ∈ nmL nm → fT b := fun b hb => by
      obtain ⟨k, hk, rfl⟩ := List.mem_iff_getElem.1 hb
      have hk' : k < nm.size := by omega
      have h8 := hbn k hk'
      have h9 := (h2'.get (k := k) hk).2
      rw [h8.2] at h9
      rw [← h9]
      exact hn k hk'
    have hpw : iA s s.size (i + 4) = i + 4 + nm.size := by
      rw [ET (nmL nm) (i + 4) s.size h2' hw (by have := h3'.1; omega) (fun h9 => by have := h9.2; rw [h3'.2] at this; revert this; decide), hlen]
    rw [hlen] at h3'
    have hex : s.extract (i + 4) (i + 4 + nm.size) = nm := by
      refine tR (by rw [ByteArray.size_extract]; have := h3'.1; omega) fun k hk => ?_
      rw [ByteArray.size_extract] at hk
      rw [eH (by have := h3'.1; omega) (by omega)]
      exact (hbn k (by omega)).2
    unfold fK
    rw [if_neg (fun h9 => h9 ⟨a0, a1⟩), if_pos ⟨a2, a3⟩]
    unfold lZ
    rw [hpw, if_neg (fun h9 => h9.elim (by omega) (fun h8 => h8 h3')), hex]
    simp only [List.length_append, List.length_cons, List.length_nil, hlen]
    rw [show i + 4 + nm.size + 1 - i = 0 + 1 + 1 + 1 + 1 + (nm.size + (0 + 1)) by omega]
theorem group_w {nm : ByteArray} {L : List Nat} {rp : Prop} (ho : o + 1 ≤ 250) (hg : lK ((ns.length : Int) + 1) nm ns) (h : At s i (kU nm ++ L ++ [41])) (hq : ∀ b m, L = b :: m → b ≠ 63)
    (hx : kL s (250 - (o + 1)) ⟨i + (kU nm).length, FL bb, o + 1, ns ++ [nm]⟩ = .ok (y, ⟨i + (kU nm).length + L.length, FL bb, o + 1, ns'⟩)) : Stp s o bb i (kU nm ++ L ++ [41]).length (rC ((ns.length : Int) + 1) nm y) ns ns' rp := by
  rw [List.append_assoc] at h ⊢
  obtain ⟨h1, h2⟩ := At.app.1 h
  obtain ⟨h3, h4, -⟩ := At.app.1 h2
  have h40 : isB s i 40 := by
    unfold kU at h1; exact h1.1
  have hop := FP (fl := FL bb) hg.2.2.1 h1 (fun he h9 => by
    have e : kU nm = [40] := by rw [kU, if_pos he]; rfl
    rw [e] at h2
    cases hL : L with
    | nil => rw [hL] at h2; exact isB.ne h2.1 (by decide) h9
    | cons b m => rw [hL] at h2; exact isB.ne h2.1 (hq b m hL) h9)
  refine pM h40 (by decide) (by simp; omega) ?_
  have hful : ¬ ((true = true) ∧ IG nm ns) := fun h9 => by
    rcases h9.2 with h8 | h8
    · have := hg.2.1; omega
    · exact hg.2.2.2.elim h8.1 (fun h7 => h7 h8.2)
  rw [xW (st := ⟨i, FL bb, o, ns⟩) h40, nL (st := ⟨i, FL bb, o, ns⟩) hop (by simp) (by show ¬ o = 250; omega) (by simp) hful]
  show (match nI s o ⟨i + (kU nm).length, FL bb, o + 1, if true = true then ns ++ [nm] else ns⟩ with | .error e => _ | .ok (x, st2) => _) = _
  rw [if_pos rfl, ND s ho, hx]
  simp only
  rw [if_pos h4]
  simp only [List.length_append, List.length_cons, List.length_nil]
  rw [show i + (kU nm).length + L.length + 1 = i + ((kU nm).length + (L.length + (0 + 1))) by omega]
  rfl
end
def Rend (s : ByteArray) (j : Nat) : Prop := s.size ≤ j ∨ isB s j 124 ∨ isB s j 41
def Endp (s : ByteArray) (j : Nat) : Prop := s.size ≤ j ∨ isB s j 41
theorem Endp.r {s : ByteArray} {j : Nat} (h : Endp s j) : Rend s j := h.imp id .inr
theorem Rend.nq {s : ByteArray} {j : Nat} (h : Rend s j) : ¬ isB s j 63 := fun h9 => by
  rcases h with h | h | h
  · have := h9.1; omega
  · exact isB.ne h (by decide) h9
  · exact isB.ne h (by decide) h9
theorem Rend.end {s : ByteArray} {j : Nat} (h : Rend s j) : s.size ≤ j ∨ sb s j = 124 ∨ sb s j = 41 := h.imp id (Or.imp (·.2) (·.2))
theorem Endp.nb {s : ByteArray} {j : Nat} (h : Endp s j) : ¬ isB s j 124 := fun h9 => by
  rcases h with h | h
  · have := h9.1; omega
  · exact isB.ne h (by decide) h9
structure RdW (s : ByteArray) (bb : Bool) (x : Rx) : Prop where
  stp : ∀ (o : Nat) (st st' : St) (i : Nat), x.fine o st = some st' → At s i x.w → x.kind ≠ 1 → x.kind ≠ 4 → x.kind ≠ 5 → (x.kind = 6 → ¬ isB s (i + x.w.length) 63) → Stp s o bb i x.w.length x st.2 st'.2 (x.kind ≠ 6)
  row : ∀ (o : Nat) (st st' : St) (i f : Nat), x.fine o st = some st' → At s i x.w → x.kind ≠ 5 → Rend s (i + x.w.length) → s.size < i + f → hY s (nI s o) f [] false ⟨i, FL bb, o, st.2⟩ = .ok (x, ⟨i + x.w.length, FL bb, o, st'.2⟩)
  exp : ∀ (o : Nat) (st st' : St) (i : Nat), x.fine o st = some st' → At s i x.w → Endp s (i + x.w.length) → i ≤ s.size → kL s (250 - o) ⟨i, FL bb, o, st.2⟩ = .ok (x, ⟨i + x.w.length, FL bb, o, st'.2⟩)
theorem xQ {x : Rx} {o : Nat} {st st' : St} (h : x.fine o st = some st') : o ≤ 250 := by
  have := (oM h).1
  split at this <;> omega
section
variable {s : ByteArray} {bb : Bool}
theorem DF {l : List Nat} {i : Nat} (h : At s i l) (hi : i ≤ s.size) : i + l.length ≤ s.size := by
  cases l with
  | nil => exact hi
  | cons b m => exact At.le h (by simp)
theorem MI {y : Rx} {k : Int} {o : Nat} {st st' : St} {i : Nat} (hy : RdW s bb y) (hf : y.fine ((o : Int) + if Brk y.kind k then 1 else 0) st = some st') (hk : k = 4 ∨ k = 6) (h : At s i (brW (Brk y.kind k) y.w)) (hi : i ≤ s.size)
    (hq : ¬ Brk y.kind k → y.kind = 6 → ¬ isB s (i + (brW (Brk y.kind k) y.w).length) 63) : Stp s o bb i (brW (Brk y.kind k) y.w).length y st.2 st'.2 (k = 6 ∨ Brk y.kind k ∨ y.kind ≠ 6) := by
  by_cases hb : Brk y.kind k
  · rw [brW, if_pos hb] at h ⊢
    rw [if_pos hb] at hf
    have ho := xQ (o := o + 1) (by push_cast; exact hf)
    have h' := h
    rw [List.append_assoc] at h'
    obtain ⟨h1, h2⟩ := At.app.1 h'
    obtain ⟨h3, h4, -⟩ := At.app.1 h2
    exact PN ho h (hy.exp (o + 1) st st' (i + 3) (by push_cast; exact hf) h3 (.inr h4) (by have := h1.2.2.1.1; omega))
  · rw [brW, if_neg hb] at h hq ⊢
    rw [if_neg hb, Int.add_zero] at hf
    have hkk : y.kind ≠ 1 ∧ y.kind ≠ 4 ∧ y.kind ≠ 5 ∧ (k = 6 → y.kind ≠ 6) := by unfold Brk at hb; omega
    intro l ah f hf2
    obtain ⟨f', ah', e1, e2, e3⟩ := hy.stp o st st' i hf h hkk.1 hkk.2.1 hkk.2.2.1 (hq hb) l ah f hf2
    refine ⟨f', ah', e1, fun h9 => e2 ?_, e3⟩
    rcases h9 with h9 | h9 | h9
    · exact hkk.2.2.2 h9
    · exact (hb h9).elim
    · exact h9
theorem QN {o : Nat} : ∀ (xs : List Rx) (fst : Bool) (st st' : St) (i f : Nat) (l : List Rx) (ah : Bool), (∀ y, y ∈ xs → RdW s bb y ∧ Good y) → dJ xs 4 o st = some st' → At s i (dI 4 fst xs) → i ≤ s.size → Rend s (i + (dI 4 fst xs).length) → s.size < i + f →
    hY s (nI s o) f l ah ⟨i, FL bb, o, st.2⟩ = .ok (oC 4 (l ++ xs), ⟨i + (dI 4 fst xs).length, FL bb, o, st'.2⟩)
  | [], fst, st, st', i, f, l, ah, hx, hfi, h, hi, he, hf => by
    rw [dJ] at hfi
    cases hfi
    rw [mE (st := ⟨i, FL bb, o, st.2⟩) (by rw [dI] at he; exact he.end), List.append_nil, dI]
    rfl
  | y :: ys, fst, st, st', i, f, l, ah, hx, hfi, h, hi, he, hf => by
    obtain ⟨st1, f1, f2⟩ := oI hfi
    have hw : dI 4 fst (y :: ys) = brW (Brk y.kind 4) y.w ++ dI 4 false ys := by rw [dI, show mJ 4 fst = [] by rw [mJ, if_neg (by omega)], List.nil_append]
    rw [hw] at h he ⊢
    obtain ⟨h1, h2⟩ := At.app.1 h
    have hle := DF h1 hi
    obtain ⟨hy, hgy⟩ := hx y (by simp)
    have hnq : ¬ isB s (i + (brW (Brk y.kind 4) y.w).length) 63 := by
      cases ys with
      | nil => rw [dI, List.append_nil] at he; exact he.nq
      | cons z zs =>
        obtain ⟨b, m, hb, hfb⟩ := pX (p := Brk z.kind 4) (l := z.w) fun hnb => by
          unfold Brk at hnb
          exact (xP (hx z (by simp)).2).1 (by omega) (by omega) (by omega)
        have hw2 : dI 4 false (z :: zs) = b :: (m ++ dI 4 false zs) := by rw [dI, show mJ 4 false = [] from rfl, List.nil_append, hb]; rfl
        rw [hw2] at h2
        exact isB.ne h2.1 hfb.1
    obtain ⟨f', ah', e1, e2, e3⟩ := MI hy f1 (.inl rfl) h1 hi (fun _ _ => hnq) l ah f hf
    rw [e3, QN ys false st1 st' _ f' (l ++ [y]) ah' (fun z hz => hx z (by simp [hz])) f2 h2 hle (by rw [List.length_append, ← Nat.add_assoc] at he; exact he) e1]
    rw [List.length_append, Nat.add_assoc, List.append_assoc]
    rfl
theorem HL {y : Rx} {o : Nat} {st st' : St} {i f : Nat} (hf0 : s.size < i + f) (hy : RdW s bb y) (hf : y.fine ((o : Int) + if Brk y.kind 5 then 1 else 0) st = some st') (h : At s i (brW (Brk y.kind 5) y.w)) (hi : i ≤ s.size) (he : Rend s (i + (brW (Brk y.kind 5) y.w).length)) :
    hY s (nI s o) f [] false ⟨i, FL bb, o, st.2⟩ = .ok (y, ⟨i + (brW (Brk y.kind 5) y.w).length, FL bb, o, st'.2⟩) := by
  by_cases hb : Brk y.kind 5
  · rw [brW, if_pos hb] at h he ⊢
    rw [if_pos hb] at hf
    have ho := xQ (o := o + 1) (by push_cast; exact hf)
    have h' := h
    rw [List.append_assoc] at h'
    obtain ⟨h1, h2⟩ := At.app.1 h'
    obtain ⟨h3, h4, -⟩ := At.app.1 h2
    obtain ⟨f', ah', e1, e2, e3⟩ := PN (rp := True) ho h (hy.exp (o + 1) st st' (i + 3) (by push_cast; exact hf) h3 (.inr h4) (by have := h1.2.2.1.1; omega)) [] false f hf0
    rw [e3, mE (st := ⟨_, FL bb, o, st'.2⟩) he.end]
    rfl
  · rw [brW, if_neg hb] at h he ⊢
    rw [if_neg hb, Int.add_zero] at hf
    exact hy.row o st st' i f hf h (by unfold Brk at hb; omega) he hf0
theorem NQ {y : Rx} {o : Nat} {st st' : St} {i : Nat} (hy : RdW s bb y) (hf : y.fine ((o : Int) + if Brk y.kind 5 then 1 else 0) st = some st') (h : At s i (brW (Brk y.kind 5) y.w)) (hi : i ≤ s.size) (he : Rend s (i + (brW (Brk y.kind 5) y.w).length)) :
    hY s (nI s o) (s.size + 1) [] false ⟨i, FL bb, o, st.2⟩ = .ok (y, ⟨i + (brW (Brk y.kind 5) y.w).length, FL bb, o, st'.2⟩) := HL (by omega) hy hf h hi he
theorem KJ {o : Nat} : ∀ (xs : List Rx) (st st' : St) (i f : Nat) (l : List Rx), (∀ y, y ∈ xs → RdW s bb y) → dJ xs 5 o st = some st' → At s i (dI 5 false xs) → i ≤ s.size → Endp s (i + (dI 5 false xs).length) → s.size < i + f →
    lN s (nI s o) f l ⟨i, FL bb, o, st.2⟩ = .ok (oC 5 (l ++ xs), ⟨i + (dI 5 false xs).length, FL bb, o, st'.2⟩)
  | [], st, st', i, f, l, hx, hfi, h, hi, he, hf => by
    rw [dJ] at hfi
    cases hfi
    rw [pZ (st := ⟨i, FL bb, o, st.2⟩) (by rw [dI] at he; exact he.nb), List.append_nil, dI]
    rfl
  | y :: ys, st, st', i, f, l, hx, hfi, h, hi, he, hf => by
    obtain ⟨st1, f1, f2⟩ := oI hfi
    have hw : dI 5 false (y :: ys) = [124] ++ (brW (Brk y.kind 5) y.w ++ dI 5 false ys) := by rw [dI, show mJ 5 false = [124] from rfl, List.append_assoc]
    rw [hw] at h he ⊢
    obtain ⟨⟨h0, -⟩, h3⟩ := At.app.1 h
    obtain ⟨h1, h2⟩ := At.app.1 h3
    simp only [List.length_cons, List.length_nil, Nat.zero_add] at h1 h2
    have hi1 : i + 1 ≤ s.size := h0.1
    have hle := DF h1 hi1
    obtain ⟨f0, rfl⟩ : ∃ f0, f = f0 + 1 := ⟨f - 1, by omega⟩
    have he2 : Endp s (i + 1 + (brW (Brk y.kind 5) y.w).length + (dI 5 false ys).length) := by
      rw [List.length_append, List.length_append] at he
      simp only [List.length_cons, List.length_nil] at he
      rw [show i + 1 + (brW (Brk y.kind 5) y.w).length + (dI 5 false ys).length = i + (0 + 1 + ((brW (Brk y.kind 5) y.w).length + (dI 5 false ys).length)) by omega]
      exact he
    have hre : Rend s (i + 1 + (brW (Brk y.kind 5) y.w).length) := by
      cases ys with
      | nil => rw [dI] at he2; exact he2.r
      | cons z zs => rw [dI, show mJ 5 false = [124] from rfl, List.append_assoc] at h2; exact .inr (.inl h2.1)
    rw [xY (st := ⟨i, FL bb, o, st.2⟩) h0 (show hY s (nI s o) (s.size + 1) [] false ⟨i + 1, FL bb, o, st.2⟩ = _ from NQ (hx y (by simp)) f1 h1 hi1 hre)]
    rw [KJ ys st1 st' _ f0 (l ++ [y]) (fun z hz => hx z (by simp [hz])) f2 h2 hle he2 (by omega)]
    simp only [List.length_append, List.length_cons, List.length_nil, List.append_assoc]
    rw [show i + 1 + (brW (Brk y.kind 5) y.w).length + (dI 5 false ys).length = i + (0 + 1 + ((brW (Brk y.kind 5) y.w).length + (dI 5 false ys).length)) by omega]
    rfl
end
end Go.Proofs.YtljadkcojnlioaaGreatDoor
