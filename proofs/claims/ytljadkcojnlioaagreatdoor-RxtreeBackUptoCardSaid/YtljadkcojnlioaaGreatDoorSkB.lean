/- Back: part 2 of 7 of what the law rests on. -/
import Derived.Test.YtljadkcojnlioaaGreatDoorSkA
set_option linter.unusedSectionVars false
set_option linter.unusedSimpArgs false
set_option linter.unusedVariables false
namespace Go.Proofs.YtljadkcojnlioaaGreatDoor
open Go.RowKit Go.W
attribute [local irreducible] Decidable.decide
theorem eZ : oQ Tryz.prog 24 = some false := by kernel_rfl
theorem cX : oQ Tryz.prog 25 = some false := by kernel_rfl
theorem bR : oQ Tryz.prog 27 = some true := by kernel_rfl
theorem aW : oQ Tryz.prog 3 = some false := by kernel_rfl
theorem eA : oQ Tryz.prog 4 = some false := by kernel_rfl
theorem dY : uN Tryz.prog 25 = some 9 := by kernel_rfl
theorem dR : gB Tryz.prog 27 0 = some 0 := by kernel_rfl
theorem eD : gB Tryz.prog 27 1 = some 1 := by kernel_rfl
theorem dQ : gB Tryz.prog 27 2 = some 2 := by kernel_rfl
theorem cZ : gB Tryz.prog 27 3 = some 3 := by kernel_rfl
theorem cU : gB Tryz.prog 27 4 = some 4 := by kernel_rfl
theorem eC : gB Tryz.prog 27 5 = some 5 := by kernel_rfl
theorem dP : gB Tryz.prog 27 6 = some 6 := by kernel_rfl
theorem dM : gB Tryz.prog 27 7 = some 7 := by kernel_rfl
theorem cG : gB Tryz.prog 27 8 = some 8 := by kernel_rfl
theorem EI : fA Tryz.prog 106 := ⟨_, Tryz.func106, by kernel_rfl, by kernel_rfl⟩
theorem vE : fA Tryz.prog 107 := ⟨_, Tryz.func107, by kernel_rfl, by kernel_rfl⟩
theorem iQ : iS Tryz.prog 21 = some 1 := by kernel_rfl
theorem HQ : iS Tryz.prog 24 = some 1 := by kernel_rfl
theorem HP : iS Tryz.prog 25 = some 1 := by kernel_rfl
theorem bD : iS Tryz.prog 27 = some 9 := by kernel_rfl
theorem bT : iS Tryz.prog 3 = some 1 := by kernel_rfl
theorem gD : iS Tryz.prog 4 = some 1 := by kernel_rfl
theorem kV : iS Tryz.prog 9 = some 1 := by kernel_rfl
theorem eI : oB Tryz.prog 27 = some #[.int .i64 0, .int .i32 0, .slice none 0 0, .int .i64 0, .int .i64 0, .bool false, .int .i64 0, .string ByteArray.empty, .slice none 0 0] := by kernel_rfl
theorem jQ {b jb : Nat} {ob : Option Nat} (h1 : Apart (some b) (some jb)) (h2 : Apart (some b) ob) : b ∉ jb :: ob.toList := fun hm => by
  rcases List.mem_cons.1 hm with h | h
  · exact h1 b rfl (by rw [h])
  · exact h2 b rfl (by simpa using h)
theorem uO {w : World} (a k : Int) : Calls Tryz.prog 85 #[.int .i64 a, .int .i64 k] w (Ret fun v w' => v = .bool (decide (Brk a k)) ∧ Evo [] w w') := by
  refine bL (N := 38) Tryz.func85 rfl rfl rfl ?_; refine aE (aB (aN (aC (aA (aE (aE (aB (aH (aC (aA (bS (aE (aB (aF (bC rfl rfl) ?_)))))))))))))); refine aN (aC (aA (bG rfl (fun hc6 => ?_) (fun hc6 => ?_))))
  ·refine aE (aB (aH (aF (bC rfl rfl) ?_))); refine aN (aC (aA (aO (aV (aM (br1 ?_)))))); refine ⟨congrArg Value.bool (Bool.eq_iff_iff.2 ?_), (Evo.refl [] w)⟩
   simp only [decide_eq_true_eq, Bool.false_eq_true, Bool.true_eq_false, true_iff, false_iff, eq_self, iff_true]; unfold Brk; omega
  refine aE (aB (aF (bC rfl rfl) ?_)); refine aN (aC (aA (bG rfl (fun hc10 => ?_) (fun hc10 => ?_))))
  ·refine aE (aB (aH (aF (bC rfl rfl) ?_))); refine aH (aU (t := 14) rfl (fun hs14 => ?_) (fun hs14 => ?_))
   ·refine aG (aG (aY (aH (aG (aG (aY (aN (aC (aA (aO (aV (aM (br1 ?_))))))))))))); refine ⟨congrArg Value.bool (Bool.eq_iff_iff.2 ?_), (Evo.refl [] w)⟩
    simp only [decide_eq_true_eq, Bool.false_eq_true, Bool.true_eq_false, true_iff, false_iff, eq_self, iff_true]; unfold Brk; omega
   refine aK (aH (aK (aF (bC rfl rfl) ?_))); refine aR (aH (aU (t := 18) rfl (fun hs18 => ?_) (fun hs18 => ?_)))
   ·refine aG (aG (aY (aN (aC (aA (aO (aV (aM (br1 ?_))))))))); refine ⟨congrArg Value.bool (Bool.eq_iff_iff.2 ?_), (Evo.refl [] w)⟩
    simp only [decide_eq_true_eq, Bool.false_eq_true, Bool.true_eq_false, true_iff, false_iff, eq_self, iff_true]; unfold Brk; omega
   refine aK (aH (aK (aF (bC rfl rfl) ?_))); refine aR (aN (aC (aA (aO (aV (aM (br1 ?_))))))); refine ⟨congrArg Value.bool (Bool.eq_iff_iff.2 ?_), (Evo.refl [] w)⟩
   simp only [decide_eq_true_eq, Bool.false_eq_true, Bool.true_eq_false, true_iff, false_iff, eq_self, iff_true]; unfold Brk; omega
  refine aE (aB (aF (bC rfl rfl) ?_)); refine aN (aC (aA (bG rfl (fun hc22 => ?_) (fun hc22 => ?_))))
  ·refine aE (aB (aH (aF (bC rfl rfl) ?_))); refine aH (aU (t := 26) rfl (fun hs26 => ?_) (fun hs26 => ?_))
   ·refine aG (aG (aY (aH (aG (aG (aY (aH (aG (aG (aY (aN (aC (aA (aO (aV (aM (br1 ?_))))))))))))))))); refine ⟨congrArg Value.bool (Bool.eq_iff_iff.2 ?_), (Evo.refl [] w)⟩
    simp only [decide_eq_true_eq, Bool.false_eq_true, Bool.true_eq_false, true_iff, false_iff, eq_self, iff_true]; unfold Brk; omega
   refine aK (aH (aK (aF (bC rfl rfl) ?_))); refine aR (aH (aU (t := 30) rfl (fun hs30 => ?_) (fun hs30 => ?_)))
   ·refine aG (aG (aY (aH (aG (aG (aY (aN (aC (aA (aO (aV (aM (br1 ?_))))))))))))); refine ⟨congrArg Value.bool (Bool.eq_iff_iff.2 ?_), (Evo.refl [] w)⟩
    simp only [decide_eq_true_eq, Bool.false_eq_true, Bool.true_eq_false, true_iff, false_iff, eq_self, iff_true]; unfold Brk; omega
   refine aK (aH (aK (aF (bC rfl rfl) ?_))); refine aR (aH (aU (t := 34) rfl (fun hs34 => ?_) (fun hs34 => ?_)))
   ·refine aG (aG (aY (aN (aC (aA (aO (aV (aM (br1 ?_))))))))); refine ⟨congrArg Value.bool (Bool.eq_iff_iff.2 ?_), (Evo.refl [] w)⟩
    simp only [decide_eq_true_eq, Bool.false_eq_true, Bool.true_eq_false, true_iff, false_iff, eq_self, iff_true]; unfold Brk; omega
   refine aK (aH (aK (aF (bC rfl rfl) ?_))); refine aR (aN (aC (aA (aO (aV (aM (br1 ?_))))))); refine ⟨congrArg Value.bool (Bool.eq_iff_iff.2 ?_), (Evo.refl [] w)⟩
   simp only [decide_eq_true_eq, Bool.false_eq_true, Bool.true_eq_false, true_iff, false_iff, eq_self, iff_true]; unfold Brk; omega
  refine aX (aZ (aA (aE (aB (aN (aC (aA (aO (br1 ?_))))))))); refine ⟨congrArg Value.bool (Bool.eq_iff_iff.2 ?_), (Evo.refl [] w)⟩
  simp only [decide_eq_true_eq, Bool.false_eq_true, Bool.true_eq_false, true_iff, false_iff, eq_self, iff_true]; unfold Brk; omega
set_option maxHeartbeats 4000000 in
theorem OY {n : Nat} {w : World} {jb : Nat} {st : St} {a : Option Addr} {c : Nat} {ob : Option Nat} {vs : List Value} {x : Rx} (hJ : JAt w 102 jb st a c ob) (hx : RRx n (jb :: ob.toList) w vs x) (hl : st.2.length ≤ 100000) :
    Calls Tryz.prog 84 #[.pointer (some ⟨jb, 0, none⟩), .agg vs.toArray] w (Ret fun v w' => ∃ b, v = .bool b ∧ (b = true ↔ NodeP x ∧ (x.kind = 7 → lK x.cap x.name st.2)) ∧ Evo (jb :: ob.toList) w w' ∧
      (b = true → ∃ a' c' ob', JAt w' 102 jb (st.1, if x.kind = 7 then st.2 ++ [x.name] else st.2) a' c' ob' ∧ (ob' = ob ∨ ∃ g, ob' = some g ∧ w.heap.size ≤ g))) := by
  obtain ⟨hB, hO, hne⟩ := hJ
  have hAJN : Apart (some jb) ob := fun g h1 h2 => by cases h1; exact hne jb h2 rfl
  have hlt := fR hB
  cases n with
  | zero => exact hx.elim
  | succ n =>
  obtain ⟨vr, vk, rfl, hr, hk, bl1, bl2, bl3⟩ := hx; obtain ⟨ka, kc, rfl, hkc, e1⟩ := hk; have hr0 := hr; obtain ⟨ra, rc, rfl, hrc, e2⟩ := hr; refine bL (N := 127) Tryz.func84 rfl rfl rfl ?_; refine aE (aB (iY rfl rfl fun b3 w1 hB2 hs3 hw4 => ?_)); have hsz_b3 := hs3; have hA5 := Apart.new (Lt.blk hB) hs3; have hA6 := Apart.new (Lt.own hO) hs3; have hE8 := (Evo.refl (jb :: ob.toList) w).then hw4; have hB9 := hw4.blk0 hB; have hO10 := hO.evo0 hw4; refine aN (aC (aA (aE (aB (aF (bY rfl bR bD hB2 rfl) (dH rfl eI fun b5 w11 hB12 hs13 hw14 => ?_)))))); have hsz_b5 := hs13; have hA15 := Apart.new (Lt.blk hB9) hs13; have hA16 := Apart.new (Lt.own hO10) hs13; have hA17 := Apart.new (Lt.blk hB2) hs13; have hG18 := Ge.new hE8 hs13; have hE19 := hE8.then hw14; have hB20 := hw14.blk0 hB9; have hO21 := hO10.evo0 hw14; have hB22 := hw14.blk0 hB2; refine bN rfl rfl bD hB12 rfl rfl ⟨rfl, rfl, rfl, rfl, rfl, rfl, rfl, rfl, rfl, trivial⟩ fun w23 hB24 hw25 => ?_; have hE26 := hE19.step hw25 hG18.mem1; have hB27 := hw25.blk hB20 hA15.nmem1; have hO28 := hO21.evo hw25 hA16.own1; have hB29 := hw25.blk hB22 hA17.nmem1
  try simp only [cV, Nat.reduceAdd] at hB24
  refine aC (aA (aE (aB (aF (aD rfl dR) (bI rfl rfl (rfl) bT hB24 rfl fun w30 hB31 hw32 => ?_))))); have hE33 := hE26.step hw32 hG18.mem1; have hB34 := hw32.blk hB27 hA15.nmem1; have hO35 := hO28.evo hw32 hA16.own1; have hB36 := hw32.blk hB29 hA17.nmem1
  try simp only [cV, Nat.reduceAdd] at hB31
  refine aF (aD rfl cG) (bI rfl rfl (rfl) HP hB31 rfl fun w37 hB38 hw39 => ?_); have hE40 := hE33.step hw39 hG18.mem1; have hB41 := hw39.blk hB34 hA15.nmem1; have hO42 := hO35.evo hw39 hA16.own1; have hB43 := hw39.blk hB36 hA17.nmem1
  try simp only [cV, Nat.reduceAdd] at hB38
  refine aC (aA (aE (aB (aN (aC (aA (aE (aE (aB (aF (aD rfl dR) (aF (aI rfl aW (aJ hB43 rfl)) (aC (aA (bS (aE (rQ (α := Bool) (fun z => [(12, .bool z)]) [(0, _), (3, _), (4, _), (5, _), (6, _), (11, _)] (fun z wr => Evo [] w37 wr ∧ (z = true ↔ (x.kind = 1 ∨ (8 ≤ x.kind ∧ x.kind ≤ 13)))) ⟨rfl, rfl, rfl, rfl, rfl, rfl, trivial⟩ ?_ ?_))))))))))))))))
  ·refine aE (aB (aF (bC rfl rfl) ?_)); refine aN (aC (aA (bG rfl (fun hc12 => ?_) (fun hc12 => ?_))))
   ·refine aX (bM ?_); refine ⟨(decide (x.kind = 1)), ⟨rfl, trivial⟩, ⟨rfl, rfl, rfl, rfl, rfl, rfl, trivial⟩, (Evo.refl [] w37), ?_⟩
    simp only [decide_eq_true_eq]; omega
   refine aE (aB (aF (bC rfl rfl) ?_)); refine aN (aC (aA (bG rfl (fun hc12 => ?_) (fun hc12 => ?_))))
   ·refine aX (bM ?_); refine ⟨(decide (x.kind = 8)), ⟨rfl, trivial⟩, ⟨rfl, rfl, rfl, rfl, rfl, rfl, trivial⟩, (Evo.refl [] w37), ?_⟩
    simp only [decide_eq_true_eq]; omega
   refine aE (aB (aF (bC rfl rfl) ?_)); refine aN (aC (aA (bG rfl (fun hc12 => ?_) (fun hc12 => ?_))))
   ·refine aX (bM ?_); refine ⟨(decide (x.kind = 9)), ⟨rfl, trivial⟩, ⟨rfl, rfl, rfl, rfl, rfl, rfl, trivial⟩, (Evo.refl [] w37), ?_⟩
    simp only [decide_eq_true_eq]; omega
   refine aE (aB (aF (bC rfl rfl) ?_)); refine aN (aC (aA (bG rfl (fun hc12 => ?_) (fun hc12 => ?_))))
   ·refine aX (bM ?_); refine ⟨(decide (x.kind = 10)), ⟨rfl, trivial⟩, ⟨rfl, rfl, rfl, rfl, rfl, rfl, trivial⟩, (Evo.refl [] w37), ?_⟩
    simp only [decide_eq_true_eq]; omega
   refine aE (aB (aF (bC rfl rfl) ?_)); refine aN (aC (aA (bG rfl (fun hc12 => ?_) (fun hc12 => ?_))))
   ·refine aX (bM ?_); refine ⟨(decide (x.kind = 11)), ⟨rfl, trivial⟩, ⟨rfl, rfl, rfl, rfl, rfl, rfl, trivial⟩, (Evo.refl [] w37), ?_⟩
    simp only [decide_eq_true_eq]; omega
   refine aE (aB (aF (bC rfl rfl) ?_)); refine aN (aC (aA (bG rfl (fun hc12 => ?_) (fun hc12 => ?_))))
   ·refine aX (bM ?_); refine ⟨(decide (x.kind = 12)), ⟨rfl, trivial⟩, ⟨rfl, rfl, rfl, rfl, rfl, rfl, trivial⟩, (Evo.refl [] w37), ?_⟩
    simp only [decide_eq_true_eq]; omega
   refine aB (aF (bC rfl rfl) ?_); refine aN (aC (bM ?_)); refine ⟨(decide (x.kind = 13)), ⟨rfl, trivial⟩, ⟨rfl, rfl, rfl, rfl, rfl, rfl, trivial⟩, (Evo.refl [] w37), ?_⟩
   simp only [decide_eq_true_eq]; omega
  rintro z w44 ⟨hV45, hz⟩; refine aA ?_; show CW _ _ _ _ [(12, _), (0, _), (3, _), (4, _), (5, _), (6, _), (11, _)] _; have hE46 := hE40.then hV45; have hB47 := hV45.blk0 hB41; have hO48 := hO42.evo0 hV45; have hB49 := hV45.blk0 hB43; have hB50 := hV45.blk0 hB38; refine fX rfl (fun hc12 => ?_) (fun hc12 => ?_)
  ·subst hc12; have hk12 := hz.1 rfl; refine aX (aZ (aA (aE (aB (aF (aD rfl cG) (aF (aI rfl cX (aJ hB49 rfl)) (aF (bK rfl Tryz.underlying25 rfl) ?_))))))); refine aH (aF (bC rfl rfl) ?_); refine aH (aU (t := 91) rfl (fun hs91 => ?_) (fun hs91 => ?_))
   ·refine aK (aF (aD rfl eD) (aK (aF (aI rfl bZ (aJ hB50 rfl)) (aK (aF (bC rfl rfl) ?_))))); refine aY (aH (aU (t := 96) rfl (fun hs96 => ?_) (fun hs96 => ?_)))
    ·refine aK (aF (aD rfl dQ) (aK (aF (aI rfl eZ (aJ hB50 rfl)) (aK (aF (bK rfl Tryz.underlying24 rfl) ?_))))); refine aK (aF (bC rfl rfl) ?_); refine aY (aH (aU (t := 102) rfl (fun hs102 => ?_) (fun hs102 => ?_)))
     ·refine aK (aF (aD rfl cZ) (aK (aF (aI rfl aW (aJ hB50 rfl)) (aK (aF (bC rfl rfl) ?_))))); refine aY (aH (aU (t := 107) rfl (fun hs107 => ?_) (fun hs107 => ?_)))
      ·refine aK (aF (aD rfl cU) (aK (aF (aI rfl aW (aJ hB50 rfl)) (aK (aF (bC rfl rfl) ?_))))); refine aY (aH (aU (t := 112) rfl (fun hs112 => ?_) (fun hs112 => ?_)))
       ·refine aK (aF (aD rfl eC) (aK (aF (aI rfl eA (aJ hB50 rfl)) (aK (aF (eJ rfl) ?_))))); refine aY (aH (gS (t := 117) rfl (fun hs117 => ?_) (fun hs117 => ?_)))
        ·refine aK (aF (aD rfl dP) (aK (aF (aI rfl aW (aJ hB50 rfl)) (aK (aF (bC rfl rfl) ?_))))); refine aY (aH (aU (t := 122) rfl (fun hs122 => ?_) (fun hs122 => ?_)))
         ·refine aK (aF (aD rfl dM) (aK (aF (aI rfl cL (aJ hB50 rfl)) (aK (aF (gI rfl rfl) ?_))))); refine aY (aN (aC (aA (aO (br1 ?_)))))
          have hlz : x.kind = 6 ∨ x.lazy = false := by first | (left; omega) | (right; simpa using hs117)
          refine ⟨_, rfl, ?_, hE46, fun hb => ?_⟩
          · simp only [decide_eq_true_eq]
            constructor
            · intro hnm
              exact ⟨(bV x).2 (by constructor <;> first | omega | (right; assumption) | (left; omega) | exact hlz | exact .inr hnm | (intro hk; exact hcb.1 (by simpa using hc36)) | (intro hk; exfalso; omega)), by intro hk; exfalso; omega⟩
            · intro hh; obtain ⟨hh, hh2⟩ := hh; have hf := (bV x).1 hh; exact hf.zn.resolve_left (by omega)
          · rw [if_neg (by omega)]; exact ⟨a, c, ob, ⟨hB47, hO48, hne⟩, .inl rfl⟩
         refine aG (aG (aG (aR (aN (aC (aA (aO (br1 ?_))))))))
         exact nvx (fun hf => by have f1 := hf.zc; omega) hE46
        refine aG (aG (aG (aR (aH (aG (aG (aG (aR (aN (aC (aA (aO (br1 ?_)))))))))))))
        exact nvx (fun hf => by first | (rcases hf.zl with h | h; omega; rw [h] at hs117; cases hs117; done) | cases hs117) hE46
       refine aG (aG (aG (aR (aH (aG (aG (aG (aR (aH (aG (aG (aG (aR (aN ?_)))))))))))))); refine aC (aA (aO (br1 ?_)))
       exact nvx (fun hf => by have f1 := hf.zm2; omega) hE46
      refine aG (aG (aG (aR (aH (aG (aG (aG (aR (aH (aG (aG (aG (aR (aH ?_)))))))))))))); refine aG (aG (aG (aR (aN (aC (aA (aO (br1 ?_))))))))
      exact nvx (fun hf => by have f1 := hf.zm1; omega) hE46
     refine aG (aG (aG (aR (aH (aG (aG (aG (aR (aH (aG (aG (aG (aR (aH ?_)))))))))))))); refine aG (aG (aG (aR (aH (aG (aG (aG (aR (aN (aC (aA (aO (br1 ?_)))))))))))))
     exact nvx (fun hf => by have f1 := hf.zg; omega) hE46
    refine aG (aG (aG (aG (aR (aH (aG (aG (aG (aR (aH (aG (aG (aG (aR ?_)))))))))))))); refine aH (aG (aG (aG (aR (aH (aG (aG (aG (aR (aH (aG (aG (aG (aR ?_)))))))))))))); refine aN (aC (aA (aO (br1 ?_))))
    exact nvx (fun hf => by have f1 := hf.zr; omega) hE46
   refine aG (aG (aG (aR (aH (aG (aG (aG (aG (aR (aH (aG (aG (aG (aR ?_)))))))))))))); refine aH (aG (aG (aG (aR (aH (aG (aG (aG (aR (aH (aG (aG (aG (aR ?_)))))))))))))); refine aH (aG (aG (aG (aR (aN (aC (aA (aO (br1 ?_)))))))))
   exact nvx (fun hf => by have f1 := hf.two; have f2 := hf.rep4; have f3 := hf.grp; have f4 := hf.leaf; omega) hE46
  subst hc12
  have hk12 : ¬ (x.kind = 1 ∨ (8 ≤ x.kind ∧ x.kind ≤ 13)) := fun h => by have := hz.2 h; cases this
  refine aE (aB (aF (bC rfl rfl) ?_)); refine aN (aC (aA (bG rfl (fun hc20 => ?_) (fun hc20 => ?_))))
  ·refine aE (aE (aB (aF (aD rfl eD) (aF (aI rfl bZ (aJ hB49 rfl)) (aF (dF rfl rfl) ?_))))); refine aH (aU (t := 25) rfl (fun hs25 => ?_) (fun hs25 => ?_))
   ·refine aG (aG (aG (aY (aC (aA (cM rfl ?_)))))); refine aE (aB (aN (aC (aA (aO (aM (aV (aM (br1 ?_)))))))))
    exact nvx (fun hf => by have f1 := hf.lit1; have f2 := hf.lit2; omega) hE46
   refine aK (aF (aD rfl eD) (aK (aF (aI rfl bZ (aJ hB49 rfl)) (aK (aF (fI rfl rfl) ?_))))); refine aR (aC (aA (bG rfl (fun hc29 => ?_) (fun hc29 => ?_))))
   ·refine aE (aB (aN (aC (aA (aO (aM (aV (aM (br1 ?_)))))))))
    exact nvx (fun hf => by have f1 := hf.lit1; have f2 := hf.lit2; omega) hE46
   refine aX (aA (aB (aF (aD rfl eD) (bI rfl rfl (rfl) iQ hB50 rfl fun w51 hB52 hw53 => ?_)))); have hE54 := hE46.step hw53 hG18.mem1; have hB55 := hw53.blk hB47 hA15.nmem1; have hO56 := hO48.evo hw53 hA16.own1; have hB57 := hw53.blk hB49 hA17.nmem1
   try simp only [cV, Nat.reduceAdd] at hB52
   refine aC (aZ (aA (aE (aB (aF (aD rfl cG) (aF (aI rfl cX (aJ hB57 rfl)) (aF (bK rfl Tryz.underlying25 rfl) ?_))))))); refine aH (aF (bC rfl rfl) ?_); refine aH (aU (t := 91) rfl (fun hs91 => ?_) (fun hs91 => ?_))
   ·refine aK (aF (aD rfl eD) (aK (aF (aI rfl bZ (aJ hB52 rfl)) (aK (aF (bC rfl rfl) ?_))))); refine aY (aH (aU (t := 96) rfl (fun hs96 => ?_) (fun hs96 => ?_)))
    ·refine aK (aF (aD rfl dQ) (aK (aF (aI rfl eZ (aJ hB52 rfl)) (aK (aF (bK rfl Tryz.underlying24 rfl) ?_))))); refine aK (aF (bC rfl rfl) ?_); refine aY (aH (aU (t := 102) rfl (fun hs102 => ?_) (fun hs102 => ?_)))
     ·refine aK (aF (aD rfl cZ) (aK (aF (aI rfl aW (aJ hB52 rfl)) (aK (aF (bC rfl rfl) ?_))))); refine aY (aH (aU (t := 107) rfl (fun hs107 => ?_) (fun hs107 => ?_)))
      ·refine aK (aF (aD rfl cU) (aK (aF (aI rfl aW (aJ hB52 rfl)) (aK (aF (bC rfl rfl) ?_))))); refine aY (aH (aU (t := 112) rfl (fun hs112 => ?_) (fun hs112 => ?_)))
       ·refine aK (aF (aD rfl eC) (aK (aF (aI rfl eA (aJ hB52 rfl)) (aK (aF (eJ rfl) ?_))))); refine aY (aH (gS (t := 117) rfl (fun hs117 => ?_) (fun hs117 => ?_)))
        ·refine aK (aF (aD rfl dP) (aK (aF (aI rfl aW (aJ hB52 rfl)) (aK (aF (bC rfl rfl) ?_))))); refine aY (aH (aU (t := 122) rfl (fun hs122 => ?_) (fun hs122 => ?_)))
         ·refine aK (aF (aD rfl dM) (aK (aF (aI rfl cL (aJ hB52 rfl)) (aK (aF (gI rfl rfl) ?_))))); refine aY (aN (aC (aA (aO (br1 ?_)))))
          have hlz : x.kind = 6 ∨ x.lazy = false := by first | (left; omega) | (right; simpa using hs117)
          refine ⟨_, rfl, ?_, hE54, fun hb => ?_⟩
          · simp only [decide_eq_true_eq]
            constructor
            · intro hnm
              exact ⟨(bV x).2 (by constructor <;> first | omega | (right; assumption) | (left; omega) | exact hlz | exact .inr hnm | (intro hk; exact hcb.1 (by simpa using hc36)) | (intro hk; exfalso; omega)), by intro hk; exfalso; omega⟩
            · intro hh; obtain ⟨hh, hh2⟩ := hh; have hf := (bV x).1 hh; exact hf.zn.resolve_left (by omega)
          · rw [if_neg (by omega)]; exact ⟨a, c, ob, ⟨hB55, hO56, hne⟩, .inl rfl⟩
         refine aG (aG (aG (aR (aN (aC (aA (aO (br1 ?_))))))))
         exact nvx (fun hf => by have f1 := hf.zc; omega) hE54
        refine aG (aG (aG (aR (aH (aG (aG (aG (aR (aN (aC (aA (aO (br1 ?_)))))))))))))
        exact nvx (fun hf => by first | (rcases hf.zl with h | h; omega; rw [h] at hs117; cases hs117; done) | cases hs117) hE54
       refine aG (aG (aG (aR (aH (aG (aG (aG (aR (aH (aG (aG (aG (aR (aN ?_)))))))))))))); refine aC (aA (aO (br1 ?_)))
       exact nvx (fun hf => by have f1 := hf.zm2; omega) hE54
      refine aG (aG (aG (aR (aH (aG (aG (aG (aR (aH (aG (aG (aG (aR (aH ?_)))))))))))))); refine aG (aG (aG (aR (aN (aC (aA (aO (br1 ?_))))))))
      exact nvx (fun hf => by have f1 := hf.zm1; omega) hE54
     refine aG (aG (aG (aR (aH (aG (aG (aG (aR (aH (aG (aG (aG (aR (aH ?_)))))))))))))); refine aG (aG (aG (aR (aH (aG (aG (aG (aR (aN (aC (aA (aO (br1 ?_)))))))))))))
     exact nvx (fun hf => by have f1 := hf.zg; omega) hE54
    refine aG (aG (aG (aG (aR (aH (aG (aG (aG (aR (aH (aG (aG (aG (aR ?_)))))))))))))); refine aH (aG (aG (aG (aR (aH (aG (aG (aG (aR (aH (aG (aG (aG (aR ?_)))))))))))))); refine aN (aC (aA (aO (br1 ?_))))
    exact nvx (fun hf => by have f1 := hf.zr; omega) hE54
   refine aG (aG (aG (aR (aH (aG (aG (aG (aG (aR (aH (aG (aG (aG (aR ?_)))))))))))))); refine aH (aG (aG (aG (aR (aH (aG (aG (aG (aR (aH (aG (aG (aG (aR ?_)))))))))))))); refine aH (aG (aG (aG (aR (aN (aC (aA (aO (br1 ?_)))))))))
   exact nvx (fun hf => by have f1 := hf.two; have f2 := hf.rep4; have f3 := hf.grp; have f4 := hf.leaf; omega) hE54
  refine aE (aB (aF (bC rfl rfl) ?_)); refine aN (aC (aA (bG rfl (fun hc31 => ?_) (fun hc31 => ?_))))
  ·refine aE (aE (aB (aF (aD rfl dQ) (aF (aI rfl eZ (aJ hB49 rfl)) (aP (vs := [_]) EI rfl (CZ (RSl.evo RRg.pers hE46 hr0) bl1) rfl ?_))))); rintro _ w58 ⟨cb, rfl, hcb, hw59⟩; have hE60 := hE46.then hw59; have hB61 := hw59.blk0 hB47; have hO62 := hO48.evo0 hw59; have hB63 := hw59.blk0 hB49; have hB64 := hw59.blk0 hB50; refine aF (eJ rfl) ?_; refine aC (aA (fX rfl (fun hc36 => ?_) (fun hc36 => ?_)))
   ·refine aE (aB (aN (aC (aA (aO (aM (aV (aM (br1 ?_)))))))))
    exact nvx (fun hf => by rw [hcb.2 (hf.cls (by omega))] at hc36; cases hc36) hE60
   refine aX (aA (aB (aF (aD rfl dQ) (bI rfl rfl (rfl) HQ hB64 rfl fun w65 hB66 hw67 => ?_)))); have hE68 := hE60.step hw67 hG18.mem1; have hB69 := hw67.blk hB61 hA15.nmem1; have hO70 := hO62.evo hw67 hA16.own1; have hB71 := hw67.blk hB63 hA17.nmem1
   try simp only [cV, Nat.reduceAdd] at hB66
   refine aC (aZ (aA (aE (aB (aF (aD rfl cG) (aF (aI rfl cX (aJ hB71 rfl)) (aF (bK rfl Tryz.underlying25 rfl) ?_))))))); refine aH (aF (bC rfl rfl) ?_); refine aH (aU (t := 91) rfl (fun hs91 => ?_) (fun hs91 => ?_))
   ·refine aK (aF (aD rfl eD) (aK (aF (aI rfl bZ (aJ hB66 rfl)) (aK (aF (bC rfl rfl) ?_))))); refine aY (aH (aU (t := 96) rfl (fun hs96 => ?_) (fun hs96 => ?_)))
    ·refine aK (aF (aD rfl dQ) (aK (aF (aI rfl eZ (aJ hB66 rfl)) (aK (aF (bK rfl Tryz.underlying24 rfl) ?_))))); refine aK (aF (bC rfl rfl) ?_); refine aY (aH (aU (t := 102) rfl (fun hs102 => ?_) (fun hs102 => ?_)))
     ·refine aK (aF (aD rfl cZ) (aK (aF (aI rfl aW (aJ hB66 rfl)) (aK (aF (bC rfl rfl) ?_))))); refine aY (aH (aU (t := 107) rfl (fun hs107 => ?_) (fun hs107 => ?_)))
      ·refine aK (aF (aD rfl cU) (aK (aF (aI rfl aW (aJ hB66 rfl)) (aK (aF (bC rfl rfl) ?_))))); refine aY (aH (aU (t := 112) rfl (fun hs112 => ?_) (fun hs112 => ?_)))
       ·refine aK (aF (aD rfl eC) (aK (aF (aI rfl eA (aJ hB66 rfl)) (aK (aF (eJ rfl) ?_))))); refine aY (aH (gS (t := 117) rfl (fun hs117 => ?_) (fun hs117 => ?_)))
        ·refine aK (aF (aD rfl dP) (aK (aF (aI rfl aW (aJ hB66 rfl)) (aK (aF (bC rfl rfl) ?_))))); refine aY (aH (aU (t := 122) rfl (fun hs122 => ?_) (fun hs122 => ?_)))
         ·refine aK (aF (aD rfl dM) (aK (aF (aI rfl cL (aJ hB66 rfl)) (aK (aF (gI rfl rfl) ?_))))); refine aY (aN (aC (aA (aO (br1 ?_)))))
          have hlz : x.kind = 6 ∨ x.lazy = false := by first | (left; omega) | (right; simpa using hs117)
          refine ⟨_, rfl, ?_, hE68, fun hb => ?_⟩
          · simp only [decide_eq_true_eq]
            constructor
            · intro hnm
              exact ⟨(bV x).2 (by constructor <;> first | omega | (right; assumption) | (left; omega) | exact hlz | exact .inr hnm | (intro hk; exact hcb.1 (by simpa using hc36)) | (intro hk; exfalso; omega)), by intro hk; exfalso; omega⟩
            · intro hh; obtain ⟨hh, hh2⟩ := hh; have hf := (bV x).1 hh; exact hf.zn.resolve_left (by omega)
          · rw [if_neg (by omega)]; exact ⟨a, c, ob, ⟨hB69, hO70, hne⟩, .inl rfl⟩
         refine aG (aG (aG (aR (aN (aC (aA (aO (br1 ?_))))))))
         exact nvx (fun hf => by have f1 := hf.zc; omega) hE68
        refine aG (aG (aG (aR (aH (aG (aG (aG (aR (aN (aC (aA (aO (br1 ?_)))))))))))))
        exact nvx (fun hf => by first | (rcases hf.zl with h | h; omega; rw [h] at hs117; cases hs117; done) | cases hs117) hE68
       refine aG (aG (aG (aR (aH (aG (aG (aG (aR (aH (aG (aG (aG (aR (aN ?_)))))))))))))); refine aC (aA (aO (br1 ?_)))
       exact nvx (fun hf => by have f1 := hf.zm2; omega) hE68
      refine aG (aG (aG (aR (aH (aG (aG (aG (aR (aH (aG (aG (aG (aR (aH ?_)))))))))))))); refine aG (aG (aG (aR (aN (aC (aA (aO (br1 ?_))))))))
      exact nvx (fun hf => by have f1 := hf.zm1; omega) hE68
     refine aG (aG (aG (aR (aH (aG (aG (aG (aR (aH (aG (aG (aG (aR (aH ?_)))))))))))))); refine aG (aG (aG (aR (aH (aG (aG (aG (aR (aN (aC (aA (aO (br1 ?_)))))))))))))
     exact nvx (fun hf => by have f1 := hf.zg; omega) hE68
    refine aG (aG (aG (aG (aR (aH (aG (aG (aG (aR (aH (aG (aG (aG (aR ?_)))))))))))))); refine aH (aG (aG (aG (aR (aH (aG (aG (aG (aR (aH (aG (aG (aG (aR ?_)))))))))))))); refine aN (aC (aA (aO (br1 ?_))))
    exact nvx (fun hf => by have f1 := hf.zr; omega) hE68
   refine aG (aG (aG (aR (aH (aG (aG (aG (aG (aR (aH (aG (aG (aG (aR ?_)))))))))))))); refine aH (aG (aG (aG (aR (aH (aG (aG (aG (aR (aH (aG (aG (aG (aR ?_)))))))))))))); refine aH (aG (aG (aG (aR (aN (aC (aA (aO (br1 ?_)))))))))
   exact nvx (fun hf => by have f1 := hf.two; have f2 := hf.rep4; have f3 := hf.grp; have f4 := hf.leaf; omega) hE68
  refine aE (aE (aB (aF (bC rfl rfl) ?_))); refine aN (aC (aA (bG rfl (fun hc38 => ?_) (fun hc38 => ?_))))
  ·refine aX (aA (bG rfl (fun hc38 => ?_) (fun hc38 => ?_)))
   ·refine aB (aF (aD rfl cG) (aF (aI rfl cX (aJ hB49 rfl)) (aF (bK rfl Tryz.underlying25 rfl) ?_))); refine aF (zE rfl rfl) ?_; refine aN (aC (aZ (aA (aE (aB (aF (aD rfl cG) (aF (aI rfl cX (aJ hB49 rfl)) (aF (bK rfl Tryz.underlying25 rfl) ?_)))))))); refine aH (aF (bC rfl rfl) ?_); refine aH (aU (t := 91) rfl (fun hs91 => ?_) (fun hs91 => ?_))
    ·refine aK (aF (aD rfl eD) (aK (aF (aI rfl bZ (aJ hB50 rfl)) (aK (aF (bC rfl rfl) ?_))))); refine aY (aH (aU (t := 96) rfl (fun hs96 => ?_) (fun hs96 => ?_)))
     ·refine aK (aF (aD rfl dQ) (aK (aF (aI rfl eZ (aJ hB50 rfl)) (aK (aF (bK rfl Tryz.underlying24 rfl) ?_))))); refine aK (aF (bC rfl rfl) ?_); refine aY (aH (aU (t := 102) rfl (fun hs102 => ?_) (fun hs102 => ?_)))
      ·refine aK (aF (aD rfl cZ) (aK (aF (aI rfl aW (aJ hB50 rfl)) (aK (aF (bC rfl rfl) ?_))))); refine aY (aH (aU (t := 107) rfl (fun hs107 => ?_) (fun hs107 => ?_)))
       ·refine aK (aF (aD rfl cU) (aK (aF (aI rfl aW (aJ hB50 rfl)) (aK (aF (bC rfl rfl) ?_))))); refine aY (aH (aU (t := 112) rfl (fun hs112 => ?_) (fun hs112 => ?_)))
        ·refine aK (aF (aD rfl eC) (aK (aF (aI rfl eA (aJ hB50 rfl)) (aK (aF (eJ rfl) ?_))))); refine aY (aH (gS (t := 117) rfl (fun hs117 => ?_) (fun hs117 => ?_)))
         ·refine aK (aF (aD rfl dP) (aK (aF (aI rfl aW (aJ hB50 rfl)) (aK (aF (bC rfl rfl) ?_))))); refine aY (aH (aU (t := 122) rfl (fun hs122 => ?_) (fun hs122 => ?_)))
          ·refine aK (aF (aD rfl dM) (aK (aF (aI rfl cL (aJ hB50 rfl)) (aK (aF (gI rfl rfl) ?_))))); refine aY (aN (aC (aA (aO (br1 ?_)))))
           have hlz : x.kind = 6 ∨ x.lazy = false := by first | (left; omega) | (right; simpa using hs117)
           refine ⟨_, rfl, ?_, hE46, fun hb => ?_⟩
           · simp only [decide_eq_true_eq]
             constructor
             · intro hnm
               exact ⟨(bV x).2 (by constructor <;> first | omega | (right; assumption) | (left; omega) | exact hlz | exact .inr hnm | (intro hk; exact hcb.1 (by simpa using hc36)) | (intro hk; exfalso; omega)), by intro hk; exfalso; omega⟩
             · intro hh; obtain ⟨hh, hh2⟩ := hh; have hf := (bV x).1 hh; exact hf.zn.resolve_left (by omega)
           · rw [if_neg (by omega)]; exact ⟨a, c, ob, ⟨hB47, hO48, hne⟩, .inl rfl⟩
          refine aG (aG (aG (aR (aN (aC (aA (aO (br1 ?_))))))))
          exact nvx (fun hf => by have f1 := hf.zc; omega) hE46
         refine aG (aG (aG (aR (aH (aG (aG (aG (aR (aN (aC (aA (aO (br1 ?_)))))))))))))
         exact nvx (fun hf => by first | (rcases hf.zl with h | h; omega; rw [h] at hs117; cases hs117; done) | cases hs117) hE46
        refine aG (aG (aG (aR (aH (aG (aG (aG (aR (aH (aG (aG (aG (aR (aN ?_)))))))))))))); refine aC (aA (aO (br1 ?_)))
        exact nvx (fun hf => by have f1 := hf.zm2; omega) hE46
       refine aG (aG (aG (aR (aH (aG (aG (aG (aR (aH (aG (aG (aG (aR (aH ?_)))))))))))))); refine aG (aG (aG (aR (aN (aC (aA (aO (br1 ?_))))))))
       exact nvx (fun hf => by have f1 := hf.zm1; omega) hE46
      refine aG (aG (aG (aR (aH (aG (aG (aG (aR (aH (aG (aG (aG (aR (aH ?_)))))))))))))); refine aG (aG (aG (aR (aH (aG (aG (aG (aR (aN (aC (aA (aO (br1 ?_)))))))))))))
      exact nvx (fun hf => by have f1 := hf.zg; omega) hE46
     refine aG (aG (aG (aG (aR (aH (aG (aG (aG (aR (aH (aG (aG (aG (aR ?_)))))))))))))); refine aH (aG (aG (aG (aR (aH (aG (aG (aG (aR (aH (aG (aG (aG (aR ?_)))))))))))))); refine aN (aC (aA (aO (br1 ?_))))
     exact nvx (fun hf => by have f1 := hf.zr; omega) hE46
    refine aG (aG (aG (aR (aH (aG (aG (aG (aG (aR (aH (aG (aG (aG (aR ?_)))))))))))))); refine aH (aG (aG (aG (aR (aH (aG (aG (aG (aR (aH (aG (aG (aG (aR ?_)))))))))))))); refine aH (aG (aG (aG (aR (aN (aC (aA (aO (br1 ?_)))))))))
    exact nvx (fun hf => by have f1 := hf.two; have f2 := hf.rep4; have f3 := hf.grp; have f4 := hf.leaf; omega) hE46
   refine aE (aB (aF (bC rfl rfl) ?_)); refine aN (aC (aA (bG rfl (fun hc45 => ?_) (fun hc45 => ?_))))
   ·refine aE (aE (aB (aF (aD rfl cZ) (aF (aI rfl aW (aJ hB49 rfl)) (aF (dF rfl rfl) ?_))))); refine aH (aU (t := 50) rfl (fun hs50 => ?_) (fun hs50 => ?_))
    ·refine aG (aG (aG (aY (aH (aG (aG (aG (aG (cA ?_))))))))); refine cA ?_; refine cA ?_; refine cA ?_; refine cA ?_; refine cA ?_; refine cA ?_; refine cA ?_; refine cA ?_; refine cA ?_; refine aG (aY (aC (aA (cM rfl ?_)))); refine aE (aB (aN (aC (aA (aO (aM (aV (aM (br1 ?_)))))))))
     exact nvx (fun hf => by have f1 := hf.rep1; omega) hE46
    refine aK (aF (aD rfl cZ) (aK (aF (aI rfl aW (aJ hB49 rfl)) (aK (aF (fI rfl rfl) ?_))))); refine aR (aH (aU (t := 55) rfl (fun hs55 => ?_) (fun hs55 => ?_)))
    ·refine aG (aG (aG (aG (cA ?_)))); refine cA ?_; refine cA ?_; refine cA ?_; refine cA ?_; refine cA ?_; refine cA ?_; refine cA ?_; refine cA ?_; refine cA ?_; refine aG (aY (aC (aA (cM rfl ?_)))); refine aE (aB (aN (aC (aA (aO (aM (aV (aM (br1 ?_)))))))))
     exact nvx (fun hf => by have f1 := hf.rep1; have f2 := hf.rep2; have f3 := hf.rep3; omega) hE46
    refine aK (aF (aD rfl cU) (aK (aF (aI rfl aW (aJ hB49 rfl)) (aK (aF (fH rfl rfl) ?_))))); refine aK (aH (aU (t := 59) rfl (fun hs59 => ?_) (fun hs59 => ?_)))
    ·refine aK (aF (aD rfl cU) (aK (aF (aI rfl aW (aJ hB49 rfl)) (aK (aF (aD rfl cZ) (aK (aF (aI rfl aW (aJ hB49 rfl)) (aK (aF (dF rfl rfl) ?_))))))))); refine aK (aH (aU (t := 65) rfl (fun hs65 => ?_) (fun hs65 => ?_)))
     ·refine aG (aG (aG (aK (aY (aK (aY (aR (aC (aA (cM rfl ?_)))))))))); refine aE (aB (aN (aC (aA (aO (aM (aV (aM (br1 ?_)))))))))
      exact nvx (fun hf => by have f1 := hf.rep1; have f2 := hf.rep2; have f3 := hf.rep3; omega) hE46
     refine aK (aF (aD rfl cU) (aK (aF (aI rfl aW (aJ hB49 rfl)) (aK (aF (fI rfl rfl) ?_))))); refine aK (aR (aK (aY (aR (aC (aA (bG rfl (fun hc71 => ?_) (fun hc71 => ?_))))))))
     ·refine aE (aB (aN (aC (aA (aO (aM (aV (aM (br1 ?_)))))))))
      exact nvx (fun hf => by have f1 := hf.rep1; have f2 := hf.rep2; have f3 := hf.rep3; omega) hE46
     refine aX (aA (aE (aB (aF (aD rfl cZ) (bI rfl rfl (rfl) bT hB50 rfl fun w72 hB73 hw74 => ?_))))); have hE75 := hE46.step hw74 hG18.mem1; have hB76 := hw74.blk hB47 hA15.nmem1; have hO77 := hO48.evo hw74 hA16.own1; have hB78 := hw74.blk hB49 hA17.nmem1
     try simp only [cV, Nat.reduceAdd] at hB73
     refine aF (aD rfl cU) (bI rfl rfl (rfl) bT hB73 rfl fun w79 hB80 hw81 => ?_); have hE82 := hE75.step hw81 hG18.mem1; have hB83 := hw81.blk hB76 hA15.nmem1; have hO84 := hO77.evo hw81 hA16.own1; have hB85 := hw81.blk hB78 hA17.nmem1
     try simp only [cV, Nat.reduceAdd] at hB80
     refine aF (aD rfl eC) (bI rfl rfl (rfl) gD hB80 rfl fun w86 hB87 hw88 => ?_); have hE89 := hE82.step hw88 hG18.mem1; have hB90 := hw88.blk hB83 hA15.nmem1; have hO91 := hO84.evo hw88 hA16.own1; have hB92 := hw88.blk hB85 hA17.nmem1
     try simp only [cV, Nat.reduceAdd] at hB87
     refine aC (aA (aB (aN (aC (aZ (aA (aE (aB (aF (aD rfl cG) (aF (aI rfl cX (aJ hB92 rfl)) (aF (bK rfl Tryz.underlying25 rfl) ?_))))))))))); refine aH (aF (bC rfl rfl) ?_); refine aH (aU (t := 91) rfl (fun hs91 => ?_) (fun hs91 => ?_))
     ·refine aK (aF (aD rfl eD) (aK (aF (aI rfl bZ (aJ hB87 rfl)) (aK (aF (bC rfl rfl) ?_))))); refine aY (aH (aU (t := 96) rfl (fun hs96 => ?_) (fun hs96 => ?_)))
      ·refine aK (aF (aD rfl dQ) (aK (aF (aI rfl eZ (aJ hB87 rfl)) (aK (aF (bK rfl Tryz.underlying24 rfl) ?_))))); refine aK (aF (bC rfl rfl) ?_); refine aY (aH (aU (t := 102) rfl (fun hs102 => ?_) (fun hs102 => ?_)))
       ·refine aK (aF (aD rfl cZ) (aK (aF (aI rfl aW (aJ hB87 rfl)) (aK (aF (bC rfl rfl) ?_))))); refine aY (aH (aU (t := 107) rfl (fun hs107 => ?_) (fun hs107 => ?_)))
        ·refine aK (aF (aD rfl cU) (aK (aF (aI rfl aW (aJ hB87 rfl)) (aK (aF (bC rfl rfl) ?_))))); refine aY (aH (aU (t := 112) rfl (fun hs112 => ?_) (fun hs112 => ?_)))
         ·refine aK (aF (aD rfl eC) (aK (aF (aI rfl eA (aJ hB87 rfl)) (aK (aF (eJ rfl) ?_))))); refine aY (aH (gS (t := 117) rfl (fun hs117 => ?_) (fun hs117 => ?_)))
          ·refine aK (aF (aD rfl dP) (aK (aF (aI rfl aW (aJ hB87 rfl)) (aK (aF (bC rfl rfl) ?_))))); refine aY (aH (aU (t := 122) rfl (fun hs122 => ?_) (fun hs122 => ?_)))
           ·refine aK (aF (aD rfl dM) (aK (aF (aI rfl cL (aJ hB87 rfl)) (aK (aF (gI rfl rfl) ?_))))); refine aY (aN (aC (aA (aO (br1 ?_)))))
            have hlz : x.kind = 6 ∨ x.lazy = false := by first | (left; omega) | (right; simpa using hs117)
            refine ⟨_, rfl, ?_, hE89, fun hb => ?_⟩
            · simp only [decide_eq_true_eq]
              constructor
              · intro hnm
                exact ⟨(bV x).2 (by constructor <;> first | omega | (right; assumption) | (left; omega) | exact hlz | exact .inr hnm | (intro hk; exact hcb.1 (by simpa using hc36)) | (intro hk; exfalso; omega)), by intro hk; exfalso; omega⟩
              · intro hh; obtain ⟨hh, hh2⟩ := hh; have hf := (bV x).1 hh; exact hf.zn.resolve_left (by omega)
            · rw [if_neg (by omega)]; exact ⟨a, c, ob, ⟨hB90, hO91, hne⟩, .inl rfl⟩
           refine aG (aG (aG (aR (aN (aC (aA (aO (br1 ?_))))))))
           exact nvx (fun hf => by have f1 := hf.zc; omega) hE89
          refine aG (aG (aG (aR (aH (aG (aG (aG (aR (aN (aC (aA (aO (br1 ?_)))))))))))))
          exact nvx (fun hf => by first | (rcases hf.zl with h | h; omega; rw [h] at hs117; cases hs117; done) | cases hs117) hE89
         refine aG (aG (aG (aR (aH (aG (aG (aG (aR (aH (aG (aG (aG (aR (aN ?_)))))))))))))); refine aC (aA (aO (br1 ?_)))
         exact nvx (fun hf => by have f1 := hf.zm2; omega) hE89
        refine aG (aG (aG (aR (aH (aG (aG (aG (aR (aH (aG (aG (aG (aR (aH ?_)))))))))))))); refine aG (aG (aG (aR (aN (aC (aA (aO (br1 ?_))))))))
        exact nvx (fun hf => by have f1 := hf.zm1; omega) hE89
       refine aG (aG (aG (aR (aH (aG (aG (aG (aR (aH (aG (aG (aG (aR (aH ?_)))))))))))))); refine aG (aG (aG (aR (aH (aG (aG (aG (aR (aN (aC (aA (aO (br1 ?_)))))))))))))
       exact nvx (fun hf => by have f1 := hf.zg; omega) hE89
      refine aG (aG (aG (aG (aR (aH (aG (aG (aG (aR (aH (aG (aG (aG (aR ?_)))))))))))))); refine aH (aG (aG (aG (aR (aH (aG (aG (aG (aR (aH (aG (aG (aG (aR ?_)))))))))))))); refine aN (aC (aA (aO (br1 ?_))))
      exact nvx (fun hf => by have f1 := hf.zr; omega) hE89
     refine aG (aG (aG (aR (aH (aG (aG (aG (aG (aR (aH (aG (aG (aG (aR ?_)))))))))))))); refine aH (aG (aG (aG (aR (aH (aG (aG (aG (aR (aH (aG (aG (aG (aR ?_)))))))))))))); refine aH (aG (aG (aG (aR (aN (aC (aA (aO (br1 ?_)))))))))
     exact nvx (fun hf => by have f1 := hf.two; have f2 := hf.rep4; have f3 := hf.grp; have f4 := hf.leaf; omega) hE89
    refine aG (aG (aG (aG (aG (aG (cA ?_)))))); refine cA ?_; refine cA ?_; refine aG (aK (aR (aR (aC (aA (cN rfl ?_)))))); refine aX (aA (aE (aB (aF (aD rfl cZ) (bI rfl rfl (rfl) bT hB50 rfl fun w93 hB94 hw95 => ?_))))); have hE96 := hE46.step hw95 hG18.mem1; have hB97 := hw95.blk hB47 hA15.nmem1; have hO98 := hO48.evo hw95 hA16.own1; have hB99 := hw95.blk hB49 hA17.nmem1
    try simp only [cV, Nat.reduceAdd] at hB94
    refine aF (aD rfl cU) (bI rfl rfl (rfl) bT hB94 rfl fun w100 hB101 hw102 => ?_); have hE103 := hE96.step hw102 hG18.mem1; have hB104 := hw102.blk hB97 hA15.nmem1; have hO105 := hO98.evo hw102 hA16.own1; have hB106 := hw102.blk hB99 hA17.nmem1
    try simp only [cV, Nat.reduceAdd] at hB101
    refine aF (aD rfl eC) (bI rfl rfl (rfl) gD hB101 rfl fun w107 hB108 hw109 => ?_); have hE110 := hE103.step hw109 hG18.mem1; have hB111 := hw109.blk hB104 hA15.nmem1; have hO112 := hO105.evo hw109 hA16.own1; have hB113 := hw109.blk hB106 hA17.nmem1
    try simp only [cV, Nat.reduceAdd] at hB108
    refine aC (aA (aB (aN (aC (aZ (aA (aE (aB (aF (aD rfl cG) (aF (aI rfl cX (aJ hB113 rfl)) (aF (bK rfl Tryz.underlying25 rfl) ?_))))))))))); refine aH (aF (bC rfl rfl) ?_); refine aH (aU (t := 91) rfl (fun hs91 => ?_) (fun hs91 => ?_))
    ·refine aK (aF (aD rfl eD) (aK (aF (aI rfl bZ (aJ hB108 rfl)) (aK (aF (bC rfl rfl) ?_))))); refine aY (aH (aU (t := 96) rfl (fun hs96 => ?_) (fun hs96 => ?_)))
     ·refine aK (aF (aD rfl dQ) (aK (aF (aI rfl eZ (aJ hB108 rfl)) (aK (aF (bK rfl Tryz.underlying24 rfl) ?_))))); refine aK (aF (bC rfl rfl) ?_); refine aY (aH (aU (t := 102) rfl (fun hs102 => ?_) (fun hs102 => ?_)))
      ·refine aK (aF (aD rfl cZ) (aK (aF (aI rfl aW (aJ hB108 rfl)) (aK (aF (bC rfl rfl) ?_))))); refine aY (aH (aU (t := 107) rfl (fun hs107 => ?_) (fun hs107 => ?_)))
       ·refine aK (aF (aD rfl cU) (aK (aF (aI rfl aW (aJ hB108 rfl)) (aK (aF (bC rfl rfl) ?_))))); refine aY (aH (aU (t := 112) rfl (fun hs112 => ?_) (fun hs112 => ?_)))
        ·refine aK (aF (aD rfl eC) (aK (aF (aI rfl eA (aJ hB108 rfl)) (aK (aF (eJ rfl) ?_))))); refine aY (aH (gS (t := 117) rfl (fun hs117 => ?_) (fun hs117 => ?_)))
         ·refine aK (aF (aD rfl dP) (aK (aF (aI rfl aW (aJ hB108 rfl)) (aK (aF (bC rfl rfl) ?_))))); refine aY (aH (aU (t := 122) rfl (fun hs122 => ?_) (fun hs122 => ?_)))
          ·refine aK (aF (aD rfl dM) (aK (aF (aI rfl cL (aJ hB108 rfl)) (aK (aF (gI rfl rfl) ?_))))); refine aY (aN (aC (aA (aO (br1 ?_)))))
           have hlz : x.kind = 6 ∨ x.lazy = false := by first | (left; omega) | (right; simpa using hs117)
           refine ⟨_, rfl, ?_, hE110, fun hb => ?_⟩
           · simp only [decide_eq_true_eq]
             constructor
             · intro hnm
               exact ⟨(bV x).2 (by constructor <;> first | omega | (right; assumption) | (left; omega) | exact hlz | exact .inr hnm | (intro hk; exact hcb.1 (by simpa using hc36)) | (intro hk; exfalso; omega)), by intro hk; exfalso; omega⟩
             · intro hh; obtain ⟨hh, hh2⟩ := hh; have hf := (bV x).1 hh; exact hf.zn.resolve_left (by omega)
           · rw [if_neg (by omega)]; exact ⟨a, c, ob, ⟨hB111, hO112, hne⟩, .inl rfl⟩
          refine aG (aG (aG (aR (aN (aC (aA (aO (br1 ?_))))))))
          exact nvx (fun hf => by have f1 := hf.zc; omega) hE110
         refine aG (aG (aG (aR (aH (aG (aG (aG (aR (aN (aC (aA (aO (br1 ?_)))))))))))))
         exact nvx (fun hf => by first | (rcases hf.zl with h | h; omega; rw [h] at hs117; cases hs117; done) | cases hs117) hE110
        refine aG (aG (aG (aR (aH (aG (aG (aG (aR (aH (aG (aG (aG (aR (aN ?_)))))))))))))); refine aC (aA (aO (br1 ?_)))
        exact nvx (fun hf => by have f1 := hf.zm2; omega) hE110
       refine aG (aG (aG (aR (aH (aG (aG (aG (aR (aH (aG (aG (aG (aR (aH ?_)))))))))))))); refine aG (aG (aG (aR (aN (aC (aA (aO (br1 ?_))))))))
       exact nvx (fun hf => by have f1 := hf.zm1; omega) hE110
      refine aG (aG (aG (aR (aH (aG (aG (aG (aR (aH (aG (aG (aG (aR (aH ?_)))))))))))))); refine aG (aG (aG (aR (aH (aG (aG (aG (aR (aN (aC (aA (aO (br1 ?_)))))))))))))
      exact nvx (fun hf => by have f1 := hf.zg; omega) hE110
     refine aG (aG (aG (aG (aR (aH (aG (aG (aG (aR (aH (aG (aG (aG (aR ?_)))))))))))))); refine aH (aG (aG (aG (aR (aH (aG (aG (aG (aR (aH (aG (aG (aG (aR ?_)))))))))))))); refine aN (aC (aA (aO (br1 ?_))))
     exact nvx (fun hf => by have f1 := hf.zr; omega) hE110
    refine aG (aG (aG (aR (aH (aG (aG (aG (aG (aR (aH (aG (aG (aG (aR ?_)))))))))))))); refine aH (aG (aG (aG (aR (aH (aG (aG (aG (aR (aH (aG (aG (aG (aR ?_)))))))))))))); refine aH (aG (aG (aG (aR (aN (aC (aA (aO (br1 ?_)))))))))
    exact nvx (fun hf => by have f1 := hf.two; have f2 := hf.rep4; have f3 := hf.grp; have f4 := hf.leaf; omega) hE110
   refine aE (aB (aF (bC rfl rfl) ?_)); refine aN (aC (aA (bG rfl (fun hc75 => ?_) (fun hc75 => ?_))))
   ·refine aE (aE (aB (aH (aF (aD rfl dP) (aF (aI rfl aW (aJ hB49 rfl)) (aF (aD rfl dM) (aF (aI rfl cL (aJ hB49 rfl)) ?_))))))); have hszc := (hE46).size; have hlt3 := Lt.blk hB49; have hlt5 := Lt.blk hB50; refine aP (vs := [_, _, _]) vE rfl (GH ⟨hB47, hO48, hne⟩ hl bl2) rfl ?_; rintro _ w114 ⟨gb, rfl, hgb, hw115, hgs⟩; have hE116 := hE46.step hw115 (fun y hy => .inl hy); have hB117 := hw115.blk hB49 (jQ hA5.symm hA6.symm); have hB118 := hw115.blk hB50 (jQ hA15.symm hA16.symm); refine aF (eJ rfl) ?_; refine aC (aA (fX rfl (fun hc83 => ?_) (fun hc83 => ?_)))
    ·refine aE (aB (aN (aC (aA (aO (aM (aV (aM (br1 ?_)))))))))
     exact ⟨false, rfl, by simp only [Bool.false_eq_true, false_iff]; intro hh; obtain ⟨hh, hh2⟩ := hh; have hf := (bV x).1 hh; (rw [hgb.2 (hh2 (by omega))] at hc83; cases hc83), hE116, fun h => by cases h⟩
    obtain ⟨a2, c2, ob2, hJ2, hob2⟩ := hgs (by simpa using hc83); have hgb2 := hgb.1 (by simpa using hc83); have hA3 := fU hA6.symm hlt3 hob2; have hA5 := fU hA16.symm hlt5 hob2; refine aX (aA (aE (aB (aF (aD rfl dP) (bI rfl rfl (rfl) bT hB118 rfl fun w119 hB120 hw121 => ?_))))); have hE122 := hE116.step hw121 hG18.mem1; have hB123 := hw121.blk hB117 hA17.nmem1; have hB124 := hw121.blk hJ2.blk hA15.nmem1; have hO125 := hJ2.own.evo hw121 hA5.symm.own1
    try simp only [cV, Nat.reduceAdd] at hB120
    refine aF (aD rfl dM) (bI rfl rfl (rfl) kV hB120 rfl fun w126 hB127 hw128 => ?_); have hE129 := hE122.step hw128 hG18.mem1; have hB130 := hw128.blk hB123 hA17.nmem1; have hB131 := hw128.blk hB124 hA15.nmem1; have hO132 := hO125.evo hw128 hA5.symm.own1
    try simp only [cV, Nat.reduceAdd] at hB127
    refine aC (aA (aB (aN (aC (aZ (aA (aE (aB (aF (aD rfl cG) (aF (aI rfl cX (aJ hB130 rfl)) (aF (bK rfl Tryz.underlying25 rfl) ?_))))))))))); refine aH (aF (bC rfl rfl) ?_); refine aH (aU (t := 91) rfl (fun hs91 => ?_) (fun hs91 => ?_))
    ·refine aK (aF (aD rfl eD) (aK (aF (aI rfl bZ (aJ hB127 rfl)) (aK (aF (bC rfl rfl) ?_))))); refine aY (aH (aU (t := 96) rfl (fun hs96 => ?_) (fun hs96 => ?_)))
     ·refine aK (aF (aD rfl dQ) (aK (aF (aI rfl eZ (aJ hB127 rfl)) (aK (aF (bK rfl Tryz.underlying24 rfl) ?_))))); refine aK (aF (bC rfl rfl) ?_); refine aY (aH (aU (t := 102) rfl (fun hs102 => ?_) (fun hs102 => ?_)))
      ·refine aK (aF (aD rfl cZ) (aK (aF (aI rfl aW (aJ hB127 rfl)) (aK (aF (bC rfl rfl) ?_))))); refine aY (aH (aU (t := 107) rfl (fun hs107 => ?_) (fun hs107 => ?_)))
       ·refine aK (aF (aD rfl cU) (aK (aF (aI rfl aW (aJ hB127 rfl)) (aK (aF (bC rfl rfl) ?_))))); refine aY (aH (aU (t := 112) rfl (fun hs112 => ?_) (fun hs112 => ?_)))
        ·refine aK (aF (aD rfl eC) (aK (aF (aI rfl eA (aJ hB127 rfl)) (aK (aF (eJ rfl) ?_))))); refine aY (aH (gS (t := 117) rfl (fun hs117 => ?_) (fun hs117 => ?_)))
         ·refine aK (aF (aD rfl dP) (aK (aF (aI rfl aW (aJ hB127 rfl)) (aK (aF (bC rfl rfl) ?_))))); refine aY (aH (aU (t := 122) rfl (fun hs122 => ?_) (fun hs122 => ?_)))
          ·refine aK (aF (aD rfl dM) (aK (aF (aI rfl cL (aJ hB127 rfl)) (aK (aF (gI rfl rfl) ?_))))); refine aY (aN (aC (aA (aO (br1 ?_))))); have hob3 : ob2 = ob ∨ ∃ g, ob2 = some g ∧ w.heap.size ≤ g := hob2.imp id (fun ⟨g, h1, h2⟩ => ⟨g, h1, Nat.le_trans hszc h2⟩)
           have hlz : x.kind = 6 ∨ x.lazy = false := by first | (left; omega) | (right; simpa using hs117)
           refine ⟨_, rfl, ?_, hE129, fun hb => ?_⟩
           · simp only [decide_eq_true_eq]
             constructor
             · intro hnm
               exact ⟨(bV x).2 (by constructor <;> first | omega | (right; assumption) | (left; omega) | exact hlz | (intro hk; exact hcb.1 (by simpa using hc36)) | (intro hk; exfalso; omega)), by intro _; exact hgb2⟩
             · intro hh; obtain ⟨hh, hh2⟩ := hh; have hf := (bV x).1 hh; trivial
           · rw [if_pos (by omega)]; exact ⟨a2, c2, ob2, ⟨hB131, hO132, hJ2.ne⟩, hob3⟩
          refine aG (aG (aG (aR (aN (aC (aA (aO (br1 ?_))))))))
          exact nvx (fun hf => by have f1 := hf.zc; omega) hE129
         refine aG (aG (aG (aR (aH (aG (aG (aG (aR (aN (aC (aA (aO (br1 ?_)))))))))))))
         exact nvx (fun hf => by first | (rcases hf.zl with h | h; omega; rw [h] at hs117; cases hs117; done) | cases hs117) hE129
        refine aG (aG (aG (aR (aH (aG (aG (aG (aR (aH (aG (aG (aG (aR (aN ?_)))))))))))))); refine aC (aA (aO (br1 ?_)))
        exact nvx (fun hf => by have f1 := hf.zm2; omega) hE129
       refine aG (aG (aG (aR (aH (aG (aG (aG (aR (aH (aG (aG (aG (aR (aH ?_)))))))))))))); refine aG (aG (aG (aR (aN (aC (aA (aO (br1 ?_))))))))
       exact nvx (fun hf => by have f1 := hf.zm1; omega) hE129
      refine aG (aG (aG (aR (aH (aG (aG (aG (aR (aH (aG (aG (aG (aR (aH ?_)))))))))))))); refine aG (aG (aG (aR (aH (aG (aG (aG (aR (aN (aC (aA (aO (br1 ?_)))))))))))))
      exact nvx (fun hf => by have f1 := hf.zg; omega) hE129
     refine aG (aG (aG (aG (aR (aH (aG (aG (aG (aR (aH (aG (aG (aG (aR ?_)))))))))))))); refine aH (aG (aG (aG (aR (aH (aG (aG (aG (aR (aH (aG (aG (aG (aR ?_)))))))))))))); refine aN (aC (aA (aO (br1 ?_))))
     exact nvx (fun hf => by have f1 := hf.zr; omega) hE129
    refine aG (aG (aG (aR (aH (aG (aG (aG (aG (aR (aH (aG (aG (aG (aR ?_)))))))))))))); refine aH (aG (aG (aG (aR (aH (aG (aG (aG (aR (aH (aG (aG (aG (aR ?_)))))))))))))); refine aH (aG (aG (aG (aR (aN (aC (aA (aO (br1 ?_)))))))))
    exact nvx (fun hf => by have f1 := hf.two; have f2 := hf.rep4; have f3 := hf.grp; have f4 := hf.leaf; omega) hE129
   refine aE (aB (aN (aC (aA (aO (aV (aM (br1 ?_))))))))
   exact nvx (fun hf => by have f1 := hf.kind1; have f2 := hf.kind2; omega) hE46
  refine aB (aF (bC rfl rfl) ?_); refine aN (aC (aA (bG rfl (fun hc38 => ?_) (fun hc38 => ?_))))
  ·refine aB (aF (aD rfl cG) (aF (aI rfl cX (aJ hB49 rfl)) (aF (bK rfl Tryz.underlying25 rfl) ?_))); refine aF (zE rfl rfl) ?_; refine aN (aC (aZ (aA (aE (aB (aF (aD rfl cG) (aF (aI rfl cX (aJ hB49 rfl)) (aF (bK rfl Tryz.underlying25 rfl) ?_)))))))); refine aH (aF (bC rfl rfl) ?_); refine aH (aU (t := 91) rfl (fun hs91 => ?_) (fun hs91 => ?_))
   ·refine aK (aF (aD rfl eD) (aK (aF (aI rfl bZ (aJ hB50 rfl)) (aK (aF (bC rfl rfl) ?_))))); refine aY (aH (aU (t := 96) rfl (fun hs96 => ?_) (fun hs96 => ?_)))
    ·refine aK (aF (aD rfl dQ) (aK (aF (aI rfl eZ (aJ hB50 rfl)) (aK (aF (bK rfl Tryz.underlying24 rfl) ?_))))); refine aK (aF (bC rfl rfl) ?_); refine aY (aH (aU (t := 102) rfl (fun hs102 => ?_) (fun hs102 => ?_)))
     ·refine aK (aF (aD rfl cZ) (aK (aF (aI rfl aW (aJ hB50 rfl)) (aK (aF (bC rfl rfl) ?_))))); refine aY (aH (aU (t := 107) rfl (fun hs107 => ?_) (fun hs107 => ?_)))
      ·refine aK (aF (aD rfl cU) (aK (aF (aI rfl aW (aJ hB50 rfl)) (aK (aF (bC rfl rfl) ?_))))); refine aY (aH (aU (t := 112) rfl (fun hs112 => ?_) (fun hs112 => ?_)))
       ·refine aK (aF (aD rfl eC) (aK (aF (aI rfl eA (aJ hB50 rfl)) (aK (aF (eJ rfl) ?_))))); refine aY (aH (gS (t := 117) rfl (fun hs117 => ?_) (fun hs117 => ?_)))
        ·refine aK (aF (aD rfl dP) (aK (aF (aI rfl aW (aJ hB50 rfl)) (aK (aF (bC rfl rfl) ?_))))); refine aY (aH (aU (t := 122) rfl (fun hs122 => ?_) (fun hs122 => ?_)))
         ·refine aK (aF (aD rfl dM) (aK (aF (aI rfl cL (aJ hB50 rfl)) (aK (aF (gI rfl rfl) ?_))))); refine aY (aN (aC (aA (aO (br1 ?_)))))
          have hlz : x.kind = 6 ∨ x.lazy = false := by first | (left; omega) | (right; simpa using hs117)
          refine ⟨_, rfl, ?_, hE46, fun hb => ?_⟩
          · simp only [decide_eq_true_eq]
            constructor
            · intro hnm
              exact ⟨(bV x).2 (by constructor <;> first | omega | (right; assumption) | (left; omega) | exact hlz | exact .inr hnm | (intro hk; exact hcb.1 (by simpa using hc36)) | (intro hk; exfalso; omega)), by intro hk; exfalso; omega⟩
            · intro hh; obtain ⟨hh, hh2⟩ := hh; have hf := (bV x).1 hh; exact hf.zn.resolve_left (by omega)
          · rw [if_neg (by omega)]; exact ⟨a, c, ob, ⟨hB47, hO48, hne⟩, .inl rfl⟩
         refine aG (aG (aG (aR (aN (aC (aA (aO (br1 ?_))))))))
         exact nvx (fun hf => by have f1 := hf.zc; omega) hE46
        refine aG (aG (aG (aR (aH (aG (aG (aG (aR (aN (aC (aA (aO (br1 ?_)))))))))))))
        exact nvx (fun hf => by first | (rcases hf.zl with h | h; omega; rw [h] at hs117; cases hs117; done) | cases hs117) hE46
       refine aG (aG (aG (aR (aH (aG (aG (aG (aR (aH (aG (aG (aG (aR (aN ?_)))))))))))))); refine aC (aA (aO (br1 ?_)))
       exact nvx (fun hf => by have f1 := hf.zm2; omega) hE46
      refine aG (aG (aG (aR (aH (aG (aG (aG (aR (aH (aG (aG (aG (aR (aH ?_)))))))))))))); refine aG (aG (aG (aR (aN (aC (aA (aO (br1 ?_))))))))
      exact nvx (fun hf => by have f1 := hf.zm1; omega) hE46
     refine aG (aG (aG (aR (aH (aG (aG (aG (aR (aH (aG (aG (aG (aR (aH ?_)))))))))))))); refine aG (aG (aG (aR (aH (aG (aG (aG (aR (aN (aC (aA (aO (br1 ?_)))))))))))))
     exact nvx (fun hf => by have f1 := hf.zg; omega) hE46
    refine aG (aG (aG (aG (aR (aH (aG (aG (aG (aR (aH (aG (aG (aG (aR ?_)))))))))))))); refine aH (aG (aG (aG (aR (aH (aG (aG (aG (aR (aH (aG (aG (aG (aR ?_)))))))))))))); refine aN (aC (aA (aO (br1 ?_))))
    exact nvx (fun hf => by have f1 := hf.zr; omega) hE46
   refine aG (aG (aG (aR (aH (aG (aG (aG (aG (aR (aH (aG (aG (aG (aR ?_)))))))))))))); refine aH (aG (aG (aG (aR (aH (aG (aG (aG (aR (aH (aG (aG (aG (aR ?_)))))))))))))); refine aH (aG (aG (aG (aR (aN (aC (aA (aO (br1 ?_)))))))))
   exact nvx (fun hf => by have f1 := hf.two; have f2 := hf.rep4; have f3 := hf.grp; have f4 := hf.leaf; omega) hE46
  refine aE (aB (aF (bC rfl rfl) ?_)); refine aN (aC (aA (bG rfl (fun hc45 => ?_) (fun hc45 => ?_))))
  ·refine aE (aE (aB (aF (aD rfl cZ) (aF (aI rfl aW (aJ hB49 rfl)) (aF (dF rfl rfl) ?_))))); refine aH (aU (t := 50) rfl (fun hs50 => ?_) (fun hs50 => ?_))
   ·refine aG (aG (aG (aY (aH (aG (aG (aG (aG (cA ?_))))))))); refine cA ?_; refine cA ?_; refine cA ?_; refine cA ?_; refine cA ?_; refine cA ?_; refine cA ?_; refine cA ?_; refine cA ?_; refine aG (aY (aC (aA (cM rfl ?_)))); refine aE (aB (aN (aC (aA (aO (aM (aV (aM (br1 ?_)))))))))
    exact nvx (fun hf => by have f1 := hf.rep1; omega) hE46
   refine aK (aF (aD rfl cZ) (aK (aF (aI rfl aW (aJ hB49 rfl)) (aK (aF (fI rfl rfl) ?_))))); refine aR (aH (aU (t := 55) rfl (fun hs55 => ?_) (fun hs55 => ?_)))
   ·refine aG (aG (aG (aG (cA ?_)))); refine cA ?_; refine cA ?_; refine cA ?_; refine cA ?_; refine cA ?_; refine cA ?_; refine cA ?_; refine cA ?_; refine cA ?_; refine aG (aY (aC (aA (cM rfl ?_)))); refine aE (aB (aN (aC (aA (aO (aM (aV (aM (br1 ?_)))))))))
    exact nvx (fun hf => by have f1 := hf.rep1; have f2 := hf.rep2; have f3 := hf.rep3; omega) hE46
   refine aK (aF (aD rfl cU) (aK (aF (aI rfl aW (aJ hB49 rfl)) (aK (aF (fH rfl rfl) ?_))))); refine aK (aH (aU (t := 59) rfl (fun hs59 => ?_) (fun hs59 => ?_)))
   ·refine aK (aF (aD rfl cU) (aK (aF (aI rfl aW (aJ hB49 rfl)) (aK (aF (aD rfl cZ) (aK (aF (aI rfl aW (aJ hB49 rfl)) (aK (aF (dF rfl rfl) ?_))))))))); refine aK (aH (aU (t := 65) rfl (fun hs65 => ?_) (fun hs65 => ?_)))
    ·refine aG (aG (aG (aK (aY (aK (aY (aR (aC (aA (cM rfl ?_)))))))))); refine aE (aB (aN (aC (aA (aO (aM (aV (aM (br1 ?_)))))))))
     exact nvx (fun hf => by have f1 := hf.rep1; have f2 := hf.rep2; have f3 := hf.rep3; omega) hE46
    refine aK (aF (aD rfl cU) (aK (aF (aI rfl aW (aJ hB49 rfl)) (aK (aF (fI rfl rfl) ?_))))); refine aK (aR (aK (aY (aR (aC (aA (bG rfl (fun hc71 => ?_) (fun hc71 => ?_))))))))
    ·refine aE (aB (aN (aC (aA (aO (aM (aV (aM (br1 ?_)))))))))
     exact nvx (fun hf => by have f1 := hf.rep1; have f2 := hf.rep2; have f3 := hf.rep3; omega) hE46
    refine aX (aA (aE (aB (aF (aD rfl cZ) (bI rfl rfl (rfl) bT hB50 rfl fun w133 hB134 hw135 => ?_))))); have hE136 := hE46.step hw135 hG18.mem1; have hB137 := hw135.blk hB47 hA15.nmem1; have hO138 := hO48.evo hw135 hA16.own1; have hB139 := hw135.blk hB49 hA17.nmem1
    try simp only [cV, Nat.reduceAdd] at hB134
    refine aF (aD rfl cU) (bI rfl rfl (rfl) bT hB134 rfl fun w140 hB141 hw142 => ?_); have hE143 := hE136.step hw142 hG18.mem1; have hB144 := hw142.blk hB137 hA15.nmem1; have hO145 := hO138.evo hw142 hA16.own1; have hB146 := hw142.blk hB139 hA17.nmem1
    try simp only [cV, Nat.reduceAdd] at hB141
    refine aF (aD rfl eC) (bI rfl rfl (rfl) gD hB141 rfl fun w147 hB148 hw149 => ?_); have hE150 := hE143.step hw149 hG18.mem1; have hB151 := hw149.blk hB144 hA15.nmem1; have hO152 := hO145.evo hw149 hA16.own1; have hB153 := hw149.blk hB146 hA17.nmem1
    try simp only [cV, Nat.reduceAdd] at hB148
    refine aC (aA (aB (aN (aC (aZ (aA (aE (aB (aF (aD rfl cG) (aF (aI rfl cX (aJ hB153 rfl)) (aF (bK rfl Tryz.underlying25 rfl) ?_))))))))))); refine aH (aF (bC rfl rfl) ?_); refine aH (aU (t := 91) rfl (fun hs91 => ?_) (fun hs91 => ?_))
    ·refine aK (aF (aD rfl eD) (aK (aF (aI rfl bZ (aJ hB148 rfl)) (aK (aF (bC rfl rfl) ?_))))); refine aY (aH (aU (t := 96) rfl (fun hs96 => ?_) (fun hs96 => ?_)))
     ·refine aK (aF (aD rfl dQ) (aK (aF (aI rfl eZ (aJ hB148 rfl)) (aK (aF (bK rfl Tryz.underlying24 rfl) ?_))))); refine aK (aF (bC rfl rfl) ?_); refine aY (aH (aU (t := 102) rfl (fun hs102 => ?_) (fun hs102 => ?_)))
      ·refine aK (aF (aD rfl cZ) (aK (aF (aI rfl aW (aJ hB148 rfl)) (aK (aF (bC rfl rfl) ?_))))); refine aY (aH (aU (t := 107) rfl (fun hs107 => ?_) (fun hs107 => ?_)))
       ·refine aK (aF (aD rfl cU) (aK (aF (aI rfl aW (aJ hB148 rfl)) (aK (aF (bC rfl rfl) ?_))))); refine aY (aH (aU (t := 112) rfl (fun hs112 => ?_) (fun hs112 => ?_)))
        ·refine aK (aF (aD rfl eC) (aK (aF (aI rfl eA (aJ hB148 rfl)) (aK (aF (eJ rfl) ?_))))); refine aY (aH (gS (t := 117) rfl (fun hs117 => ?_) (fun hs117 => ?_)))
         ·refine aK (aF (aD rfl dP) (aK (aF (aI rfl aW (aJ hB148 rfl)) (aK (aF (bC rfl rfl) ?_))))); refine aY (aH (aU (t := 122) rfl (fun hs122 => ?_) (fun hs122 => ?_)))
          ·refine aK (aF (aD rfl dM) (aK (aF (aI rfl cL (aJ hB148 rfl)) (aK (aF (gI rfl rfl) ?_))))); refine aY (aN (aC (aA (aO (br1 ?_)))))
           have hlz : x.kind = 6 ∨ x.lazy = false := by first | (left; omega) | (right; simpa using hs117)
           refine ⟨_, rfl, ?_, hE150, fun hb => ?_⟩
           · simp only [decide_eq_true_eq]
             constructor
             · intro hnm
               exact ⟨(bV x).2 (by constructor <;> first | omega | (right; assumption) | (left; omega) | exact hlz | exact .inr hnm | (intro hk; exact hcb.1 (by simpa using hc36)) | (intro hk; exfalso; omega)), by intro hk; exfalso; omega⟩
             · intro hh; obtain ⟨hh, hh2⟩ := hh; have hf := (bV x).1 hh; exact hf.zn.resolve_left (by omega)
           · rw [if_neg (by omega)]; exact ⟨a, c, ob, ⟨hB151, hO152, hne⟩, .inl rfl⟩
          refine aG (aG (aG (aR (aN (aC (aA (aO (br1 ?_))))))))
          exact nvx (fun hf => by have f1 := hf.zc; omega) hE150
         refine aG (aG (aG (aR (aH (aG (aG (aG (aR (aN (aC (aA (aO (br1 ?_)))))))))))))
         exact nvx (fun hf => by first | (rcases hf.zl with h | h; omega; rw [h] at hs117; cases hs117; done) | cases hs117) hE150
        refine aG (aG (aG (aR (aH (aG (aG (aG (aR (aH (aG (aG (aG (aR (aN ?_)))))))))))))); refine aC (aA (aO (br1 ?_)))
        exact nvx (fun hf => by have f1 := hf.zm2; omega) hE150
       refine aG (aG (aG (aR (aH (aG (aG (aG (aR (aH (aG (aG (aG (aR (aH ?_)))))))))))))); refine aG (aG (aG (aR (aN (aC (aA (aO (br1 ?_))))))))
       exact nvx (fun hf => by have f1 := hf.zm1; omega) hE150
      refine aG (aG (aG (aR (aH (aG (aG (aG (aR (aH (aG (aG (aG (aR (aH ?_)))))))))))))); refine aG (aG (aG (aR (aH (aG (aG (aG (aR (aN (aC (aA (aO (br1 ?_)))))))))))))
      exact nvx (fun hf => by have f1 := hf.zg; omega) hE150
     refine aG (aG (aG (aG (aR (aH (aG (aG (aG (aR (aH (aG (aG (aG (aR ?_)))))))))))))); refine aH (aG (aG (aG (aR (aH (aG (aG (aG (aR (aH (aG (aG (aG (aR ?_)))))))))))))); refine aN (aC (aA (aO (br1 ?_))))
     exact nvx (fun hf => by have f1 := hf.zr; omega) hE150
    refine aG (aG (aG (aR (aH (aG (aG (aG (aG (aR (aH (aG (aG (aG (aR ?_)))))))))))))); refine aH (aG (aG (aG (aR (aH (aG (aG (aG (aR (aH (aG (aG (aG (aR ?_)))))))))))))); refine aH (aG (aG (aG (aR (aN (aC (aA (aO (br1 ?_)))))))))
    exact nvx (fun hf => by have f1 := hf.two; have f2 := hf.rep4; have f3 := hf.grp; have f4 := hf.leaf; omega) hE150
   refine aG (aG (aG (aG (aG (aG (cA ?_)))))); refine cA ?_; refine cA ?_; refine aG (aK (aR (aR (aC (aA (cN rfl ?_)))))); refine aX (aA (aE (aB (aF (aD rfl cZ) (bI rfl rfl (rfl) bT hB50 rfl fun w154 hB155 hw156 => ?_))))); have hE157 := hE46.step hw156 hG18.mem1; have hB158 := hw156.blk hB47 hA15.nmem1; have hO159 := hO48.evo hw156 hA16.own1; have hB160 := hw156.blk hB49 hA17.nmem1
   try simp only [cV, Nat.reduceAdd] at hB155
   refine aF (aD rfl cU) (bI rfl rfl (rfl) bT hB155 rfl fun w161 hB162 hw163 => ?_); have hE164 := hE157.step hw163 hG18.mem1; have hB165 := hw163.blk hB158 hA15.nmem1; have hO166 := hO159.evo hw163 hA16.own1; have hB167 := hw163.blk hB160 hA17.nmem1
   try simp only [cV, Nat.reduceAdd] at hB162
   refine aF (aD rfl eC) (bI rfl rfl (rfl) gD hB162 rfl fun w168 hB169 hw170 => ?_); have hE171 := hE164.step hw170 hG18.mem1; have hB172 := hw170.blk hB165 hA15.nmem1; have hO173 := hO166.evo hw170 hA16.own1; have hB174 := hw170.blk hB167 hA17.nmem1
   try simp only [cV, Nat.reduceAdd] at hB169
   refine aC (aA (aB (aN (aC (aZ (aA (aE (aB (aF (aD rfl cG) (aF (aI rfl cX (aJ hB174 rfl)) (aF (bK rfl Tryz.underlying25 rfl) ?_))))))))))); refine aH (aF (bC rfl rfl) ?_); refine aH (aU (t := 91) rfl (fun hs91 => ?_) (fun hs91 => ?_))
   ·refine aK (aF (aD rfl eD) (aK (aF (aI rfl bZ (aJ hB169 rfl)) (aK (aF (bC rfl rfl) ?_))))); refine aY (aH (aU (t := 96) rfl (fun hs96 => ?_) (fun hs96 => ?_)))
    ·refine aK (aF (aD rfl dQ) (aK (aF (aI rfl eZ (aJ hB169 rfl)) (aK (aF (bK rfl Tryz.underlying24 rfl) ?_))))); refine aK (aF (bC rfl rfl) ?_); refine aY (aH (aU (t := 102) rfl (fun hs102 => ?_) (fun hs102 => ?_)))
     ·refine aK (aF (aD rfl cZ) (aK (aF (aI rfl aW (aJ hB169 rfl)) (aK (aF (bC rfl rfl) ?_))))); refine aY (aH (aU (t := 107) rfl (fun hs107 => ?_) (fun hs107 => ?_)))
      ·refine aK (aF (aD rfl cU) (aK (aF (aI rfl aW (aJ hB169 rfl)) (aK (aF (bC rfl rfl) ?_))))); refine aY (aH (aU (t := 112) rfl (fun hs112 => ?_) (fun hs112 => ?_)))
       ·refine aK (aF (aD rfl eC) (aK (aF (aI rfl eA (aJ hB169 rfl)) (aK (aF (eJ rfl) ?_))))); refine aY (aH (gS (t := 117) rfl (fun hs117 => ?_) (fun hs117 => ?_)))
        ·refine aK (aF (aD rfl dP) (aK (aF (aI rfl aW (aJ hB169 rfl)) (aK (aF (bC rfl rfl) ?_))))); refine aY (aH (aU (t := 122) rfl (fun hs122 => ?_) (fun hs122 => ?_)))
         ·refine aK (aF (aD rfl dM) (aK (aF (aI rfl cL (aJ hB169 rfl)) (aK (aF (gI rfl rfl) ?_))))); refine aY (aN (aC (aA (aO (br1 ?_)))))
          have hlz : x.kind = 6 ∨ x.lazy = false := by first | (left; omega) | (right; simpa using hs117)
          refine ⟨_, rfl, ?_, hE171, fun hb => ?_⟩
          · simp only [decide_eq_true_eq]
            constructor
            · intro hnm
              exact ⟨(bV x).2 (by constructor <;> first | omega | (right; assumption) | (left; omega) | exact hlz | exact .inr hnm | (intro hk; exact hcb.1 (by simpa using hc36)) | (intro hk; exfalso; omega)), by intro hk; exfalso; omega⟩
            · intro hh; obtain ⟨hh, hh2⟩ := hh; have hf := (bV x).1 hh; exact hf.zn.resolve_left (by omega)
          · rw [if_neg (by omega)]; exact ⟨a, c, ob, ⟨hB172, hO173, hne⟩, .inl rfl⟩
         refine aG (aG (aG (aR (aN (aC (aA (aO (br1 ?_))))))))
         exact nvx (fun hf => by have f1 := hf.zc; omega) hE171
        refine aG (aG (aG (aR (aH (aG (aG (aG (aR (aN (aC (aA (aO (br1 ?_)))))))))))))
        exact nvx (fun hf => by first | (rcases hf.zl with h | h; omega; rw [h] at hs117; cases hs117; done) | cases hs117) hE171
       refine aG (aG (aG (aR (aH (aG (aG (aG (aR (aH (aG (aG (aG (aR (aN ?_)))))))))))))); refine aC (aA (aO (br1 ?_)))
       exact nvx (fun hf => by have f1 := hf.zm2; omega) hE171
      refine aG (aG (aG (aR (aH (aG (aG (aG (aR (aH (aG (aG (aG (aR (aH ?_)))))))))))))); refine aG (aG (aG (aR (aN (aC (aA (aO (br1 ?_))))))))
      exact nvx (fun hf => by have f1 := hf.zm1; omega) hE171
     refine aG (aG (aG (aR (aH (aG (aG (aG (aR (aH (aG (aG (aG (aR (aH ?_)))))))))))))); refine aG (aG (aG (aR (aH (aG (aG (aG (aR (aN (aC (aA (aO (br1 ?_)))))))))))))
     exact nvx (fun hf => by have f1 := hf.zg; omega) hE171
    refine aG (aG (aG (aG (aR (aH (aG (aG (aG (aR (aH (aG (aG (aG (aR ?_)))))))))))))); refine aH (aG (aG (aG (aR (aH (aG (aG (aG (aR (aH (aG (aG (aG (aR ?_)))))))))))))); refine aN (aC (aA (aO (br1 ?_))))
    exact nvx (fun hf => by have f1 := hf.zr; omega) hE171
   refine aG (aG (aG (aR (aH (aG (aG (aG (aG (aR (aH (aG (aG (aG (aR ?_)))))))))))))); refine aH (aG (aG (aG (aR (aH (aG (aG (aG (aR (aH (aG (aG (aG (aR ?_)))))))))))))); refine aH (aG (aG (aG (aR (aN (aC (aA (aO (br1 ?_)))))))))
   exact nvx (fun hf => by have f1 := hf.two; have f2 := hf.rep4; have f3 := hf.grp; have f4 := hf.leaf; omega) hE171
  refine aE (aB (aF (bC rfl rfl) ?_)); refine aN (aC (aA (bG rfl (fun hc75 => ?_) (fun hc75 => ?_))))
  ·refine aE (aE (aB (aH (aF (aD rfl dP) (aF (aI rfl aW (aJ hB49 rfl)) (aF (aD rfl dM) (aF (aI rfl cL (aJ hB49 rfl)) ?_))))))); have hszc := (hE46).size; have hlt3 := Lt.blk hB49; have hlt5 := Lt.blk hB50; refine aP (vs := [_, _, _]) vE rfl (GH ⟨hB47, hO48, hne⟩ hl bl2) rfl ?_; rintro _ w175 ⟨gb, rfl, hgb, hw176, hgs⟩; have hE177 := hE46.step hw176 (fun y hy => .inl hy); have hB178 := hw176.blk hB49 (jQ hA5.symm hA6.symm); have hB179 := hw176.blk hB50 (jQ hA15.symm hA16.symm); refine aF (eJ rfl) ?_; refine aC (aA (fX rfl (fun hc83 => ?_) (fun hc83 => ?_)))
   ·refine aE (aB (aN (aC (aA (aO (aM (aV (aM (br1 ?_)))))))))
    exact ⟨false, rfl, by simp only [Bool.false_eq_true, false_iff]; intro hh; obtain ⟨hh, hh2⟩ := hh; have hf := (bV x).1 hh; (rw [hgb.2 (hh2 (by omega))] at hc83; cases hc83), hE177, fun h => by cases h⟩
   obtain ⟨a2, c2, ob2, hJ2, hob2⟩ := hgs (by simpa using hc83); have hgb2 := hgb.1 (by simpa using hc83); have hA3 := fU hA6.symm hlt3 hob2; have hA5 := fU hA16.symm hlt5 hob2; refine aX (aA (aE (aB (aF (aD rfl dP) (bI rfl rfl (rfl) bT hB179 rfl fun w180 hB181 hw182 => ?_))))); have hE183 := hE177.step hw182 hG18.mem1; have hB184 := hw182.blk hB178 hA17.nmem1; have hB185 := hw182.blk hJ2.blk hA15.nmem1; have hO186 := hJ2.own.evo hw182 hA5.symm.own1
   try simp only [cV, Nat.reduceAdd] at hB181
   refine aF (aD rfl dM) (bI rfl rfl (rfl) kV hB181 rfl fun w187 hB188 hw189 => ?_); have hE190 := hE183.step hw189 hG18.mem1; have hB191 := hw189.blk hB184 hA17.nmem1; have hB192 := hw189.blk hB185 hA15.nmem1; have hO193 := hO186.evo hw189 hA5.symm.own1
   try simp only [cV, Nat.reduceAdd] at hB188
   refine aC (aA (aB (aN (aC (aZ (aA (aE (aB (aF (aD rfl cG) (aF (aI rfl cX (aJ hB191 rfl)) (aF (bK rfl Tryz.underlying25 rfl) ?_))))))))))); refine aH (aF (bC rfl rfl) ?_); refine aH (aU (t := 91) rfl (fun hs91 => ?_) (fun hs91 => ?_))
   ·refine aK (aF (aD rfl eD) (aK (aF (aI rfl bZ (aJ hB188 rfl)) (aK (aF (bC rfl rfl) ?_))))); refine aY (aH (aU (t := 96) rfl (fun hs96 => ?_) (fun hs96 => ?_)))
    ·refine aK (aF (aD rfl dQ) (aK (aF (aI rfl eZ (aJ hB188 rfl)) (aK (aF (bK rfl Tryz.underlying24 rfl) ?_))))); refine aK (aF (bC rfl rfl) ?_); refine aY (aH (aU (t := 102) rfl (fun hs102 => ?_) (fun hs102 => ?_)))
     ·refine aK (aF (aD rfl cZ) (aK (aF (aI rfl aW (aJ hB188 rfl)) (aK (aF (bC rfl rfl) ?_))))); refine aY (aH (aU (t := 107) rfl (fun hs107 => ?_) (fun hs107 => ?_)))
      ·refine aK (aF (aD rfl cU) (aK (aF (aI rfl aW (aJ hB188 rfl)) (aK (aF (bC rfl rfl) ?_))))); refine aY (aH (aU (t := 112) rfl (fun hs112 => ?_) (fun hs112 => ?_)))
       ·refine aK (aF (aD rfl eC) (aK (aF (aI rfl eA (aJ hB188 rfl)) (aK (aF (eJ rfl) ?_))))); refine aY (aH (gS (t := 117) rfl (fun hs117 => ?_) (fun hs117 => ?_)))
        ·refine aK (aF (aD rfl dP) (aK (aF (aI rfl aW (aJ hB188 rfl)) (aK (aF (bC rfl rfl) ?_))))); refine aY (aH (aU (t := 122) rfl (fun hs122 => ?_) (fun hs122 => ?_)))
         ·refine aK (aF (aD rfl dM) (aK (aF (aI rfl cL (aJ hB188 rfl)) (aK (aF (gI rfl rfl) ?_))))); refine aY (aN (aC (aA (aO (br1 ?_))))); have hob3 : ob2 = ob ∨ ∃ g, ob2 = some g ∧ w.heap.size ≤ g := hob2.imp id (fun ⟨g, h1, h2⟩ => ⟨g, h1, Nat.le_trans hszc h2⟩)
          have hlz : x.kind = 6 ∨ x.lazy = false := by first | (left; omega) | (right; simpa using hs117)
          refine ⟨_, rfl, ?_, hE190, fun hb => ?_⟩
          · simp only [decide_eq_true_eq]
            constructor
            · intro hnm
              exact ⟨(bV x).2 (by constructor <;> first | omega | (right; assumption) | (left; omega) | exact hlz | (intro hk; exact hcb.1 (by simpa using hc36)) | (intro hk; exfalso; omega)), by intro _; exact hgb2⟩
            · intro hh; obtain ⟨hh, hh2⟩ := hh; have hf := (bV x).1 hh; trivial
          · rw [if_pos (by omega)]; exact ⟨a2, c2, ob2, ⟨hB192, hO193, hJ2.ne⟩, hob3⟩
         refine aG (aG (aG (aR (aN (aC (aA (aO (br1 ?_))))))))
         exact nvx (fun hf => by have f1 := hf.zc; omega) hE190
        refine aG (aG (aG (aR (aH (aG (aG (aG (aR (aN (aC (aA (aO (br1 ?_)))))))))))))
        exact nvx (fun hf => by first | (rcases hf.zl with h | h; omega; rw [h] at hs117; cases hs117; done) | cases hs117) hE190
       refine aG (aG (aG (aR (aH (aG (aG (aG (aR (aH (aG (aG (aG (aR (aN ?_)))))))))))))); refine aC (aA (aO (br1 ?_)))
       exact nvx (fun hf => by have f1 := hf.zm2; omega) hE190
      refine aG (aG (aG (aR (aH (aG (aG (aG (aR (aH (aG (aG (aG (aR (aH ?_)))))))))))))); refine aG (aG (aG (aR (aN (aC (aA (aO (br1 ?_))))))))
      exact nvx (fun hf => by have f1 := hf.zm1; omega) hE190
     refine aG (aG (aG (aR (aH (aG (aG (aG (aR (aH (aG (aG (aG (aR (aH ?_)))))))))))))); refine aG (aG (aG (aR (aH (aG (aG (aG (aR (aN (aC (aA (aO (br1 ?_)))))))))))))
     exact nvx (fun hf => by have f1 := hf.zg; omega) hE190
    refine aG (aG (aG (aG (aR (aH (aG (aG (aG (aR (aH (aG (aG (aG (aR ?_)))))))))))))); refine aH (aG (aG (aG (aR (aH (aG (aG (aG (aR (aH (aG (aG (aG (aR ?_)))))))))))))); refine aN (aC (aA (aO (br1 ?_))))
    exact nvx (fun hf => by have f1 := hf.zr; omega) hE190
   refine aG (aG (aG (aR (aH (aG (aG (aG (aG (aR (aH (aG (aG (aG (aR ?_)))))))))))))); refine aH (aG (aG (aG (aR (aH (aG (aG (aG (aR (aH (aG (aG (aG (aR ?_)))))))))))))); refine aH (aG (aG (aG (aR (aN (aC (aA (aO (br1 ?_)))))))))
   exact nvx (fun hf => by have f1 := hf.two; have f2 := hf.rep4; have f3 := hf.grp; have f4 := hf.leaf; omega) hE190
  refine aE (aB (aN (aC (aA (aO (aV (aM (br1 ?_))))))))
  exact nvx (fun hf => by have f1 := hf.kind1; have f2 := hf.kind2; omega) hE46
theorem pK : gB Tryz.prog 102 0 = some 0 := by kernel_rfl
theorem rW : fA Tryz.prog 55 := ⟨_, Tryz.func55, by kernel_rfl, by kernel_rfl⟩
theorem HT : fA Tryz.prog 84 := ⟨_, Tryz.func84, by kernel_rfl, by kernel_rfl⟩
theorem wP : fA Tryz.prog 85 := ⟨_, Tryz.func85, by kernel_rfl, by kernel_rfl⟩
def sW (st : St) : Prop := st.2.length ≤ st.1 ∧ st.1 ≤ 8194
theorem RRx.get {n : Nat} {X : List Nat} {w : World} {vs : List Value} {x : Rx} (h : RRx n X w vs x) : ∃ m ra rc ka kc, n = m + 1 ∧ vs = [iv x.kind, .int .i32 x.r, .slice ra x.ranges.length rc, iv x.min, iv x.max, .bool x.lazy, iv x.cap, .string x.name, .slice ka x.kids.length kc] ∧
    RSl 2 RRg X w (.slice ra x.ranges.length rc) x.ranges ∧ RSl 9 (RRx m) X w (.slice ka x.kids.length kc) x.kids ∧ x.ranges.length ≤ 140737488351232 ∧ x.name.size ≤ 140737488351232 ∧ x.kids.length ≤ 140737488351232 := by
  cases n with
  | zero => exact h.elim
  | succ n =>
    obtain ⟨vr, vk, h1, ⟨ra, rc, rfl, h2⟩, ⟨ka, kc, rfl, h3⟩, h4⟩ := h
    exact ⟨n, ra, rc, ka, kc, rfl, h1, ⟨ra, rc, rfl, h2⟩, ⟨ka, kc, rfl, h3⟩, h4⟩
set_option maxHeartbeats 4000000 in
theorem OX {n : Nat} (ih : ∀ (w : World) (jb : Nat) (st : St) (a : Option Addr) (c : Nat) (ob : Option Nat) (vs : List Value) (t : Rx) (b : Int), JAt w 102 jb st a c ob → RRx n (jb :: ob.toList) w vs t → sW st → 0 ≤ b → b ≤ 251 →
      Calls Tryz.prog 55 #[.pointer (some ⟨jb, 0, none⟩), .agg vs.toArray, .int .i64 b] w (Ret fun v w' => ∃ r, v = .bool r ∧ r = (t.fine b st).isSome ∧ Evo (jb :: ob.toList) w w' ∧ ∀ st', t.fine b st = some st' → sW st' ∧ ∃ a' c' ob', JAt w' 102 jb st' a' c' ob' ∧ ∀ g, ob' = some g → g ∈ ob.toList ∨ w.heap.size ≤ g))
    {w : World} {jb : Nat} {st : St} {a : Option Addr} {c : Nat} {ob : Option Nat} {vs : List Value} {t : Rx} {b : Int} (hJ : JAt w 102 jb st a c ob) (hx : RRx (n + 1) (jb :: ob.toList) w vs t) (hst : sW st) (hb0 : 0 ≤ b) (hb1 : b ≤ 251) :
      Calls Tryz.prog 55 #[.pointer (some ⟨jb, 0, none⟩), .agg vs.toArray, .int .i64 b] w (Ret fun v w' => ∃ r, v = .bool r ∧ r = (t.fine b st).isSome ∧ Evo (jb :: ob.toList) w w' ∧ ∀ st', t.fine b st = some st' → sW st' ∧ ∃ a' c' ob', JAt w' 102 jb st' a' c' ob' ∧ ∀ g, ob' = some g → g ∈ ob.toList ∨ w.heap.size ≤ g) := by
  obtain ⟨hB, hO, hne⟩ := hJ
  have hAJN : Apart (some jb) ob := fun g h1 h2 => by cases h1; exact hne jb h2 rfl
  have hlt := fR hB; have hst1 := hst.1; have hst2 := hst.2
  have hXlt : ∀ y, y ∈ jb :: ob.toList → y < w.heap.size := fun y hy => by
    rcases List.mem_cons.1 hy with h | h
    · rw [h]; exact hlt
    · have : ob = some y := by simpa using h
      subst this; exact hO.lt
  have hx0 := hx; obtain ⟨m, ra, rc, ka, kc, hm, rfl, hrg, hk, bl1, bl2, bl3⟩ := hx.get
  obtain rfl : m = n := by omega
  obtain ⟨_, _, hke, hkc, e1⟩ := hk; cases hke; refine bL (N := 57) Tryz.func55 rfl rfl rfl ?_; refine aE (aB (iY rfl rfl fun b4 w1 hB2 hs3 hw4 => ?_)); have hsz_b4 := hs3; have hA5 := Apart.new (Lt.blk hB) hs3; have hA6 := Apart.new (Lt.own hO) hs3; have hE8 := (Evo.refl (jb :: ob.toList) w).then hw4; have hB9 := hw4.blk0 hB; have hO10 := hO.evo0 hw4; refine aN (aC (aA (aE (aB (aH (aF (aQ rfl) (aF (aD rfl pK) (aF (aI rfl aW (aJ hB9 rfl)) ?_)))))))); refine aF (bE rfl rfl (by omega) (by omega)) ?_; refine aF (aQ rfl) (aF (aD rfl pK) (bI rfl rfl (rfl) bT hB9 rfl fun w11 hB12 hw13 => ?_))
  have hE14 := hE8.step hw13 (fun y hy => .inl (by rw [List.mem_singleton.1 hy]; exact List.mem_cons_self ..))
  have hO15 := hO10.evo hw13 hAJN.symm.own1; have hB16 := hw13.blk hB2 hA5.symm.nmem1
  try simp only [cV, Nat.reduceAdd] at hB12
  refine aC (aA (aE (rQ (α := Int) (fun z => [(2, .int .i64 z)]) [(0, _), (4, _), (6, _)] (fun z wr => Evo [] w11 wr ∧ (z = if t.kind = 7 then b + 1 else b)) ⟨rfl, rfl, rfl, trivial⟩ ?_ ?_)))
  ·refine aE (aB (aF (aD rfl dR) (aF (aI rfl aW (aJ hB16 rfl)) (aF (bC rfl rfl) ?_)))); refine aC (aA (bG rfl (fun hc19 => ?_) (fun hc19 => ?_)))
   ·refine aB (aH ?_); refine aF (bE rfl rfl (by omega) (by omega)) ?_; refine aN (aC (bM ?_)); refine ⟨(b + 1), ⟨rfl, trivial⟩, ⟨rfl, rfl, rfl, trivial⟩, (Evo.refl [] w11), ?_⟩; rw [if_pos (by assumption)]
   refine aX (bM ?_); refine ⟨b, ⟨rfl, trivial⟩, ⟨rfl, rfl, rfl, trivial⟩, (Evo.refl [] w11), ?_⟩; rw [if_neg (by assumption)]
  rintro z w17 ⟨hV18, hz⟩; refine aA ?_; show CW _ _ _ _ [(2, _), (0, _), (4, _), (6, _)] _; have hE19 := hE14.then hV18; have hB20 := hV18.blk0 hB12; have hO21 := hO15.evo0 hV18; have hB22 := hV18.blk0 hB16; refine aE (aE (aB (aH (aF (aQ rfl) (aF (aD rfl pK) (aF (aI rfl aW (aJ hB20 rfl)) (aF (fI rfl rfl) ?_))))))); refine aH (aU (t := 27) rfl (fun hs27 => ?_) (fun hs27 => ?_))
  ·refine aG (aG (aY (aH (aG (aG ?_))))); have hlt4 := Lt.blk hB22; have hszc := (hE19).size; refine aG (aG (aY (aC (aA (cM rfl ?_))))); refine aE (aB (aN (aC (aA (aO (aM (br1 ?_)))))))
   have hno := eY (x := t) (b := b) (st := st) (fun h => by have := h.1; omega)
   exact ⟨false, rfl, by rw [hno]; rfl, hE19, fun st' h => by rw [hno] at h; cases h⟩
  refine aK (aH (aK (aF (fI rfl rfl) ?_))); refine aR (aH (aU (t := 31) rfl (fun hs31 => ?_) (fun hs31 => ?_)))
  ·refine aG (aG ?_); have hlt4 := Lt.blk hB22; have hszc := (hE19).size; refine aG (aG (aY (aC (aA (cM rfl ?_))))); refine aE (aB (aN (aC (aA (aO (aM (br1 ?_)))))))
   have hno := eY (x := t) (b := b) (st := st) (fun h => by have := h.2.1; rw [← hz] at this; omega)
   exact ⟨false, rfl, by rw [hno]; rfl, hE19, fun st' h => by rw [hno] at h; cases h⟩
  refine aK (aH (aK (aF (bY rfl bR bD hB22 rfl) ?_))); have hlt4 := Lt.blk hB22; have hszc := (hE19).size; refine aK ?_
  refine aP (vs := [_, _]) HT rfl (OY (st := (st.1 + 1, st.2)) ⟨hB20, hO21, hne⟩ (RRx.pers _ _ _ _ _ _ hE19 hx0) (by simp only; omega)) rfl ?_
  rintro _ w23 ⟨fb, rfl, hfb, hw24, hfs⟩; have hE25 := hE19.step hw24 (fun y hy => .inl hy); have hB26 := hw24.blk hB22 (jQ hA5.symm hA6.symm); refine aK (aF (eJ rfl) ?_); refine aR (aC (aA (fX rfl (fun hc36 => ?_) (fun hc36 => ?_))))
  ·refine aE (aB (aN (aC (aA (aO (aM (br1 ?_)))))))
   have hno := eY (x := t) (b := b) (st := st) (fun h => by have := hfb.2 ⟨h.2.2.1, h.2.2.2⟩; rw [this] at hc36; cases hc36)
   exact ⟨false, rfl, by rw [hno]; rfl, hE25, fun st' h => by rw [hno] at h; cases h⟩
  obtain ⟨a2, c2, ob2, hJ2, hob2⟩ := hfs (by simpa using hc36); have hfb2 := hfb.1 (by simpa using hc36); have hA4 := fU hA6.symm hlt4 hob2
  have hfin0 := gL (x := t) (b := b) (st := st) ⟨by omega, by rw [← hz]; omega, hfb2.1, hfb2.2⟩
  have hst9 : sW (st.1 + 1, if t.kind = 7 then st.2 ++ [t.name] else st.2) := ⟨by show (if t.kind = 7 then st.2 ++ [t.name] else st.2).length ≤ st.1 + 1; split; (rw [List.length_append]; simp; omega); omega, by show st.1 + 1 ≤ 8194; omega⟩
  have hg9 : ∀ g, ob2 = some g → g ∈ ob.toList ∨ w.heap.size ≤ g := fun g hg => by rcases hob2 with h | ⟨g', h1, h2⟩; left; rw [← h, hg]; simp; right; rw [hg] at h1; cases h1; exact Nat.le_trans hszc h2
  refine aX (aA (aE (aE (aB (aF (aD rfl cG) (aF (aI rfl cX (aJ hB26 rfl)) (aF (bK rfl Tryz.underlying25 rfl) ?_))))))); refine aH (aC (aA (bS ?_)))
  refine fC (α := Nat × St × Option Addr × Nat × Option Nat) ((0, (st.1 + 1, if t.kind = 7 then st.2 ++ [t.name] else st.2), a2, c2, ob2)) (fun x => [(40, .int .i64 (x.1 : Nat))]) [(0, _), (2, _), (4, _), (38, _), (39, _)] (fun x wr => Evo (jb :: ob.toList) w wr ∧ (x.1 ≤ t.kids.length ∧ sW x.2.1 ∧ JAt wr 102 jb x.2.1 x.2.2.1 x.2.2.2.1 x.2.2.2.2 ∧ t.fine b st = dJ (t.kids.drop x.1) t.kind z x.2.1 ∧ (∀ g, x.2.2.2.2 = some g → g ∈ ob.toList ∨ w.heap.size ≤ g) ∧ wr.heap[b4]? = some (.cells #[iv t.kind, .int .i32 t.r, .slice ra t.ranges.length rc, iv t.min, iv t.max, .bool t.lazy, iv t.cap, .string t.name, .slice ka t.kids.length kc] 27 (0, 0)) ∧ b4 ∉ jb :: x.2.2.2.2.toList)) (fun x => t.kids.length - x.1) ⟨rfl, trivial⟩ ⟨rfl, rfl, rfl, rfl, rfl, trivial⟩ ⟨hE25, ⟨Nat.zero_le _, hst9, ⟨hJ2.blk, hJ2.own, hJ2.ne⟩, by rw [hfin0, ← hz]; rfl, hg9, hB26, jQ hA5.symm hA4⟩⟩ ?_
  rintro ⟨j, s, a', c', o'⟩ wr27 ⟨hV28, ⟨hj, hsok, ⟨hB', hO', hne'⟩, hfin, hgo, hB4, hb4o⟩⟩; show CW _ _ _ _ [(40, .int .i64 (j : Nat)), (0, _), (2, _), (4, _), (38, _), (39, _)] _
  try dsimp only at hj
  try dsimp only at hsok
  try dsimp only at hB'
  try dsimp only at hO'
  try dsimp only at hne'
  try dsimp only at hfin
  try dsimp only at hgo
  try dsimp only at hB4
  try dsimp only at hb4o
  have hAJN' : Apart (some jb) o' := fun g h1 h2 => by cases h1; exact hne' jb h2 rfl
  have hA4J : Apart (some b4) (some jb) := fun g h1 h2 => by cases h1; cases h2; exact hb4o (by simp)
  have hA4N : Apart (some b4) o' := fun g h1 h2 => by cases h1; exact hb4o (by simp [h2])
  have hyo : ∀ y, y ∈ jb :: o'.toList → y ∈ jb :: ob.toList ∨ w.heap.size ≤ y := fun y hy => by rcases List.mem_cons.1 hy with h | h; left; rw [h]; simp; rcases hgo y (by simpa using h) with h1 | h1; left; exact List.mem_cons_of_mem _ h1; exact .inr h1
  skip
  refine aE (aB (aF (dF rfl rfl) ?_)); refine aC (aA (aE (bG rfl (fun hc41 => ?_) (fun hc41 => ?_))))
  ·have hj' : j < t.kids.length := by omega
   obtain ⟨b1, o1, vs1, ha1, hb1, hvl1, hc1, hrk⟩ := e1 j hj'; obtain ⟨m1, ra1, rc1, ka1, kc1, rfl, rfl, -⟩ := id hrk.get; refine aX (aA (aE (bS (aE (aB ?_)))))
   refine aF (eS (n := j) (by rw [ha1]; rfl) rfl dY (by omega)) ?_
   refine aF (eN rfl bR bD (vs := [_, _, _, _, _, _, _, _, _]) rfl (hc1.evo hV28 hb1)) ?_; refine dH rfl eI fun b8 w29 hB30 hs31 hw32 => ?_; have hsz_b8 := hs31; have hA33 := Apart.new (Lt.blk hB') hs31; have hA34 := Apart.new (Lt.own hO') hs31; have hA35 := Apart.new (Lt.blk hB4) hs31; have hG36 := Ge.new hV28 hs31; have hE37 := hV28.then hw32; have hB38 := hw32.blk0 hB'; have hO39 := hO'.evo0 hw32; have hB40 := hw32.blk0 hB4; refine bN rfl rfl bD hB30 rfl rfl ⟨rfl, rfl, rfl, rfl, rfl, rfl, rfl, rfl, rfl, trivial⟩ fun w41 hB42 hw43 => ?_; have hE44 := hE37.step hw43 hG36.mem1; have hB45 := hw43.blk hB38 hA33.nmem1; have hO46 := hO39.evo hw43 hA34.own1; have hB47 := hw43.blk hB40 hA35.nmem1
   try simp only [cV, Nat.reduceAdd] at hB42
   refine aC (aA (aE (aB (aN (aC (aA (aE (aE (aB (aF (aD rfl dR) (aF (aI rfl aW (aJ hB42 rfl)) (aF (aD rfl dR) (aF (aI rfl aW (aJ hB47 rfl)) (aP (vs := [_, _]) wP rfl (uO t.kids[j].kind t.kind) rfl ?_)))))))))))))); rintro _ w48 ⟨rfl, hw49⟩; have hE50 := hE44.then hw49; have hB51 := hw49.blk0 hB45; have hO52 := hO46.evo0 hw49; have hB53 := hw49.blk0 hB47; have hB54 := hw49.blk0 hB42; refine aC (aA (bG rfl (fun hc48 => ?_) (fun hc48 => ?_)))
   ·refine aB (aN (aC (aA (aE (aB (aH (aF (bY rfl bR bD hB54 rfl) (aH (aH ?_))))))))); refine aF (bE rfl rfl (by omega) (by omega)) ?_; have hsz54 := (hE50).size; have hlb4 := fR hB53; refine aP (vs := [_, _, _]) rW rfl (ih _ jb s a' c' o' _ t.kids[j] _ ⟨hB51, hO52, hne'⟩ (RRx.step hrk hE50 hyo hXlt) hsok (by omega) (by omega)) rfl ?_; rintro _ w55 ⟨r, rfl, hr, hw56, hs2⟩; have hE57 := hE50.step hw56 (hyo); have hB58 := hw56.blk hB53 (hb4o); refine aF (eJ rfl) ?_; refine aC (aA (fX rfl (fun hc55 => ?_) (fun hc55 => ?_)))
    ·refine aE (aB (aN (aC (aA (aO (aV (aM (aM (aV (aM (br1 ?_))))))))))); rw [show (z + 1 : Int) = z + (if Brk t.kids[j].kind t.kind then 1 else 0) from by rw [if_pos hc48]] at hr hs2
     have hn : t.kids[j].fine (z + if Brk t.kids[j].kind t.kind then 1 else 0) s = none := by
       cases h : t.kids[j].fine (z + if Brk t.kids[j].kind t.kind then 1 else 0) s with
       | none => rfl
       | some s3 => rw [h] at hr; simp at hr; rw [hr] at hc55; cases hc55
     have hno : t.fine b st = none := by rw [hfin, lQ hj', hn]
     exact ⟨false, rfl, by rw [hno]; rfl, hE57, fun st' h => by rw [hno] at h; cases h⟩
    rw [show (z + 1 : Int) = z + (if Brk t.kids[j].kind t.kind then 1 else 0) from by rw [if_pos hc48]] at hr hs2
    obtain ⟨s3, hs3⟩ := Option.isSome_iff_exists.1 (show (t.kids[j].fine _ s).isSome = true by rw [← hr]; simpa using hc55)
    obtain ⟨hsok3, a3, c3, o3, hJ3, ho3⟩ := hs2 s3 hs3
    have hg3 : ∀ g, o3 = some g → g ∈ ob.toList ∨ w.heap.size ≤ g := fun g hg => by rcases ho3 g hg with h | h; exact hgo g (by simpa using h); exact .inr (Nat.le_trans hsz54 h)
    have hb43 : b4 ∉ jb :: o3.toList := fun hm => by rcases List.mem_cons.1 hm with h | h; exact hb4o (by rw [h]; simp); rcases ho3 b4 (by simpa using h) with h1 | h1; exact hb4o (List.mem_cons_of_mem _ h1); omega
    refine aX (aZ (aA (aB ?_))); refine aF (bE rfl rfl (by omega) (by omega)) ?_; refine aH (aC (bM ?_)); refine ⟨(j + 1, s3, a3, c3, o3), ?_, ⟨rfl, trivial⟩, ⟨rfl, rfl, rfl, rfl, rfl, trivial⟩, hE57, ?_⟩
    · (try dsimp only); omega
    try dsimp only
    refine ⟨by omega, hsok3, ⟨hJ3.blk, hJ3.own, hJ3.ne⟩, ?_, hg3, hB58, hb43⟩; rw [hfin, lQ hj', hs3]
   refine aX (aA (aE (aB (aH (aF (bY rfl bR bD hB54 rfl) (aH (aH ?_))))))); refine aF (bE rfl rfl (by omega) (by omega)) ?_; have hsz54 := (hE50).size; have hlb4 := fR hB53; refine aP (vs := [_, _, _]) rW rfl (ih _ jb s a' c' o' _ t.kids[j] _ ⟨hB51, hO52, hne'⟩ (RRx.step hrk hE50 hyo hXlt) hsok (by omega) (by omega)) rfl ?_; rintro _ w60 ⟨r, rfl, hr, hw61, hs2⟩; have hE62 := hE50.step hw61 (hyo); have hB63 := hw61.blk hB53 (hb4o); refine aF (eJ rfl) ?_; refine aC (aA (fX rfl (fun hc55 => ?_) (fun hc55 => ?_)))
   ·refine aE (aB (aN (aC (aA (aO (aV (aM (aM (aV (aM (br1 ?_))))))))))); rw [show (z + 0 : Int) = z + (if Brk t.kids[j].kind t.kind then 1 else 0) from by rw [if_neg hc48]] at hr hs2
    have hn : t.kids[j].fine (z + if Brk t.kids[j].kind t.kind then 1 else 0) s = none := by
      cases h : t.kids[j].fine (z + if Brk t.kids[j].kind t.kind then 1 else 0) s with
      | none => rfl
      | some s3 => rw [h] at hr; simp at hr; rw [hr] at hc55; cases hc55
    have hno : t.fine b st = none := by rw [hfin, lQ hj', hn]
    exact ⟨false, rfl, by rw [hno]; rfl, hE62, fun st' h => by rw [hno] at h; cases h⟩
   rw [show (z + 0 : Int) = z + (if Brk t.kids[j].kind t.kind then 1 else 0) from by rw [if_neg hc48]] at hr hs2
   obtain ⟨s3, hs3⟩ := Option.isSome_iff_exists.1 (show (t.kids[j].fine _ s).isSome = true by rw [← hr]; simpa using hc55)
   obtain ⟨hsok3, a3, c3, o3, hJ3, ho3⟩ := hs2 s3 hs3
   have hg3 : ∀ g, o3 = some g → g ∈ ob.toList ∨ w.heap.size ≤ g := fun g hg => by rcases ho3 g hg with h | h; exact hgo g (by simpa using h); exact .inr (Nat.le_trans hsz54 h)
   have hb43 : b4 ∉ jb :: o3.toList := fun hm => by rcases List.mem_cons.1 hm with h | h; exact hb4o (by rw [h]; simp); rcases ho3 b4 (by simpa using h) with h1 | h1; exact hb4o (List.mem_cons_of_mem _ h1); omega
   refine aX (aZ (aA (aB ?_))); refine aF (bE rfl rfl (by omega) (by omega)) ?_; refine aH (aC (bM ?_)); refine ⟨(j + 1, s3, a3, c3, o3), ?_, ⟨rfl, trivial⟩, ⟨rfl, rfl, rfl, rfl, rfl, trivial⟩, hE62, ?_⟩
   · (try dsimp only); omega
   try dsimp only
   refine ⟨by omega, hsok3, ⟨hJ3.blk, hJ3.own, hJ3.ne⟩, ?_, hg3, hB63, hb43⟩; rw [hfin, lQ hj', hs3]
  refine dW (cJ (cJ (dV (aA ?_)))); refine aE (aB (aN (aC (aA (aO (br1 ?_))))))
  have hn : t.fine b st = some s := by rw [hfin, uK (by omega)]
  exact ⟨true, rfl, by rw [hn]; rfl, hV28, fun st' h => by rw [hn] at h; cases h; exact ⟨hsok, a', c', o', ⟨hB', hO', hne'⟩, hgo⟩⟩
theorem DL : oB Tryz.prog 102 = some #[.int .i64 0, .slice none 0 0] := by kernel_rfl
theorem MU : ∀ {n : Nat} {w : World} {jb : Nat} {st : St} {a : Option Addr} {c : Nat} {ob : Option Nat} {vs : List Value} {t : Rx} {b : Int}, JAt w 102 jb st a c ob → RRx n (jb :: ob.toList) w vs t → sW st → 0 ≤ b → b ≤ 251 →
      Calls Tryz.prog 55 #[.pointer (some ⟨jb, 0, none⟩), .agg vs.toArray, .int .i64 b] w (Ret fun v w' => ∃ r, v = .bool r ∧ r = (t.fine b st).isSome ∧ Evo (jb :: ob.toList) w w' ∧ ∀ st', t.fine b st = some st' → sW st' ∧ ∃ a' c' ob', JAt w' 102 jb st' a' c' ob' ∧ ∀ g, ob' = some g → g ∈ ob.toList ∨ w.heap.size ≤ g)
  | 0, w, jb, st, a, c, ob, vs, t, b, hJ, hx, hs, h0, h1 => hx.elim
  | n + 1, w, jb, st, a, c, ob, vs, t, b, hJ, hx, hs, h0, h1 => OX (n := n) (fun w jb st a c ob vs t b hJ hx hs h0 h1 => MU hJ hx hs h0 h1) hJ hx hs h0 h1
theorem JAt.new {w : World} {jb : Nat} {T : TypeId} (h : w.heap[jb]? = some (.cells #[iv 0, .slice none 0 0] T (0, 0))) : JAt w T jb (0, []) none 0 none := ⟨h, OwnS.nil _ _ _, fun g hg => by cases hg⟩
theorem yB {n : Nat} {w : World} {vs : List Value} {t : Rx} (hx : RRx n [] w vs t) :
    Calls Tryz.prog 24 #[.agg vs.toArray] w (Ret fun v w' => ∃ r, v = .bool r ∧ (r = true ↔ t.Ok) ∧ Evo [] w w') := by
  have hx0 := hx; obtain ⟨m, ra, rc, ka, kc, hm, rfl, hrg, hk, bl1, bl2, bl3⟩ := hx.get; refine bL (N := 6) Tryz.func24 rfl rfl rfl ?_; refine aE (aB (iY rfl rfl fun b1 w2 hB3 hs4 hw5 => ?_)); have hE7 := (Evo.refl [] w).then hw5; refine aN (aC (aA (aE (aB (dH rfl DL fun jb w8 hB9 hs10 hw11 => ?_))))); have hsz_jb := hs10; have hG13 := Ge.new hE7 hs10; have hE14 := hE7.then hw11; have hB15 := hw11.blk0 hB3; refine aF (bY rfl bR bD hB15 rfl) ?_; refine aP (vs := [_, _, _]) rW rfl (MU (st := (0, [])) (JAt.new hB9) (RRx.step hx0 hE14 hG13.mem1 (fun b hb => by cases hb)) ⟨Nat.le_refl _, by decide⟩ (by decide) (by decide)) rfl ?_; rintro _ w16 ⟨r, rfl, hr, hw17, -⟩; have hE18 := hE14.step hw17 (hG13.mem1); refine aN (aC (aA (aO (br1 ?_))))
  exact ⟨r, rfl, by rw [hr, Option.isSome_iff_exists]; rfl, hE18⟩
end Go.Proofs.YtljadkcojnlioaaGreatDoor
namespace Go.Proofs.YtljadkcojnlioaaGreatDoor
open Go.RowKit Go.Shelf Go.W
attribute [local irreducible] Decidable.decide
theorem mV : oQ Tryz.prog 78 = some false := by kernel_rfl
def bren : Go.Shelf.Ren := ⟨fun | 240 => 70 | 276 => 98 | 169 => 43 | n => n, fun | 0 => 0 | 3 => 3 | 4 => 4 | 5 => 5 | 9 => 9 | 20 => 20 | 37 => 78 | 70 => 77 | 72 => 80 | 127 => 121 | 164 => 142 | n => n, fun | n => n⟩
theorem ME : Go.Proofs.Lays.n240 Tryz.prog bren := {
  mixed := by kernel_rfl
  f240 := Tryz.func70.trans (congrArg some (by kernel_rfl))
  f276 := Tryz.func98.trans (congrArg some (by kernel_rfl))
  t0 := Tryz.underlying0
  a0 := Tryz.isAgg0
  z0 := Tryz.sizeOf0
  v0 := Tryz.zeroValue0
  t4 := Tryz.underlying4
  a4 := Tryz.isAgg4
  z4 := Tryz.sizeOf4
  v4 := Tryz.zeroValue4
  t9 := Tryz.underlying9
  a9 := Tryz.isAgg9
  z9 := Tryz.sizeOf9
  v9 := Tryz.zeroValue9
  t20 := Tryz.underlying20
  a20 := Tryz.isAgg20
  z20 := Tryz.sizeOf20
  v20 := Tryz.zeroValue20
  t70 := Tryz.underlying77
  a70 := Tryz.isAgg77
  z70 := Tryz.sizeOf77
  v70 := Tryz.zeroValue77
  t72 := Tryz.underlying80
  a72 := Tryz.isAgg80
  z72 := Tryz.sizeOf80
  v72 := Tryz.zeroValue80
  t164 := Tryz.underlying142
  a164 := Tryz.isAgg142
  z164 := Tryz.sizeOf142
  v164 := Tryz.zeroValue142 }
theorem lays169 : Go.Proofs.Lays.n169 Tryz.prog bren := {
  mixed := by kernel_rfl
  f169 := Tryz.func43.trans (congrArg some (by kernel_rfl))
  t0 := Tryz.underlying0
  a0 := Tryz.isAgg0
  z0 := Tryz.sizeOf0
  v0 := Tryz.zeroValue0
  t3 := Tryz.underlying3
  a3 := Tryz.isAgg3
  z3 := Tryz.sizeOf3
  v3 := Tryz.zeroValue3
  t9 := Tryz.underlying9
  a9 := Tryz.isAgg9
  z9 := Tryz.sizeOf9
  v9 := Tryz.zeroValue9
  t37 := Tryz.underlying78
  a37 := Tryz.isAgg78
  z37 := Tryz.sizeOf78
  v37 := Tryz.zeroValue78
  t70 := Tryz.underlying77
  a70 := Tryz.isAgg77
  z70 := Tryz.sizeOf77
  v70 := Tryz.zeroValue77
  t72 := Tryz.underlying80
  a72 := Tryz.isAgg80
  z72 := Tryz.sizeOf80
  v72 := Tryz.zeroValue80
  t127 := Tryz.underlying121
  a127 := Tryz.isAgg121
  z127 := Tryz.sizeOf121
  v127 := Tryz.zeroValue121 }
theorem bextra : Builder.Extra Tryz.prog bren := {
  sizeBuilder := by kernel_rfl
  liesBuilder := by kernel_rfl
  t5 := Tryz.underlying5
  a5 := Tryz.isAgg5
  z5 := Tryz.sizeOf5
  v5 := Tryz.zeroValue5
  infoByte := by kernel_rfl
  cellsByte := by kernel_rfl
  sizeByte := by kernel_rfl
  neB5 := by decide }
theorem qS {w : World} {b : Nat} {p v : Value} (hb : w.heap[b]? = some (.cells #[p, v] 80 (0, 0))) (hp : p = .pointer none ∨ p = .pointer (some ⟨b, 0, none⟩)) :
    Calls Tryz.prog 70 #[.pointer (some ⟨b, 0, none⟩)] w (Ret fun r w' => r = .tuple #[] ∧ w'.heap[b]? = some (.cells #[.pointer (some ⟨b, 0, none⟩), v] 80 (0, 0)) ∧ Evo [b] w w') := by
  have h0 : w.cell? ⟨b, 0, none⟩ = some p := by simp [World.cell?, hb]
  rcases hp with rfl | rfl
  · refine (Any.Builder_copyCheck_fresh ME bextra.toX72 b w h0 (by simp [World.shape?, hb]; rfl) (by simp [World.frozen?, hb])).mono ?_
    rintro e w' ⟨rfl, rfl⟩
    exact ⟨_, rfl, rfl, by simp [World.setCell, Array.getElem?_modify, hb], wN w ⟨b, 0, none⟩ _⟩
  · refine (Any.Builder_copyCheck_used ME bextra.toX72 b w h0).mono ?_
    rintro e w' ⟨rfl, rfl⟩
    exact ⟨_, rfl, rfl, hb, Evo.refl _ _⟩
end Go.Proofs.YtljadkcojnlioaaGreatDoor
namespace Go.Proofs.YtljadkcojnlioaaGreatDoor
open Go.Lib Go.W
def IsR (n : Int) : Prop := 0 ≤ n ∧ n ≤ 1114111 ∧ (n < 55296 ∨ 57343 < n)
instance (n : Int) : Decidable (IsR n) := by unfold IsR; infer_instance
def jL (m : Nat) : List Nat :=
  if m < 128 then [m] else if m < 2048 then [192 + m / 64, 128 + m % 64] else if m < 65536 then [224 + m / 4096, 128 + m / 64 % 64, 128 + m % 64]
  else [240 + m / 262144, 128 + m / 4096 % 64, 128 + m / 64 % 64, 128 + m % 64]
def eB (n : Int) : List Nat := if IsR n then jL n.toNat else []
theorem uJ (n : Int) : ∀ b, b ∈ eB n → b < 256 := by
  unfold eB
  split
  · rename_i h
    unfold IsR at h
    unfold jL
    repeat' split
    all_goals (intro b hb; simp at hb; omega)
  · intro b hb; cases hb
theorem sN (n : Int) : (eB n).length ≤ 4 := by
  unfold eB jL
  repeat' split
  all_goals simp
def eO (s : ByteArray) (a w : Nat) : Int :=
  if w = 1 then (sb s a : Int) else if w = 2 then ((sb s a : Int) - 192) * 64 + sb s (a + 1) - 128
  else if w = 3 then (((sb s a : Int) - 224) * 64 + sb s (a + 1) - 128) * 64 + sb s (a + 2) - 128
  else ((((sb s a : Int) - 240) * 64 + sb s (a + 1) - 128) * 64 + sb s (a + 2) - 128) * 64 + sb s (a + 3) - 128
def gU (s : ByteArray) (a w : Nat) : List Nat := (List.range w).map fun k => sb s (a + k)
theorem zK (s : ByteArray) (a w : Nat) : ∀ b, b ∈ gU s a w → b < 256 := by
  intro b hb
  simp only [gU, List.mem_map] at hb
  obtain ⟨k, _, rfl⟩ := hb
  exact jC _ _
theorem tC (s : ByteArray) (a w : Nat) (h : a + w ≤ s.size) : s.extract a (a + w) = bstr (gU s a w) := by
  apply ByteArray.ext
  apply Array.ext
  · have e1 : (s.extract a (a + w)).data.size = w := by have := s.size_extract (b := a) (e := a + w); rw [ByteArray.size] at this; omega
    rw [e1]; simp [bstr, gU]
  · intro i h1 h2
    simp only [bstr, gU, List.map_map, List.getElem_toArray, List.getElem_map, List.getElem_range, Function.comp_def, ByteArray.data_extract, Array.getElem_extract]
    have h3 : a + i < s.size := by simp [bstr, gU] at h2; omega
    apply UInt8.toNat_inj.1
    have := jC s (a + i)
    rw [UInt8.toNat_ofNat_of_lt' (by simpa using this), pF s _ h3]
    rfl
def Hit (s : ByteArray) (a w : Nat) : Prop := eB (eO s a w) = gU s a w
theorem CJ {s : ByteArray} {a w : Nat} (h : Hit s a w) : (eB (eO s a w)).length = w := by rw [h]; simp [gU]
theorem TD {s : ByteArray} {a w : Nat} (h : a + w ≤ s.size) : Hit s a w ↔ s.extract a (a + w) = bstr (eB (eO s a w)) := by
  rw [tC s a w h, HE (zK s a w) (uJ _)]
  exact ⟨fun h => h.symm, fun h => h.symm⟩
section
variable {b0 b1 b2 b3 : Nat}
theorem form1 (h0 : b0 < 256) : eB (b0 : Int) = [b0] ↔ b0 < 128 := by
  unfold eB jL
  constructor
  · intro h
    repeat' split at h
    all_goals simp at h
    all_goals omega
  · intro h
    rw [if_pos (by unfold IsR; omega), if_pos (by omega)]; simp
theorem form2 (h0 : b0 < 256) (h1 : b1 < 256) : eB (((b0 : Int) - 192) * 64 + b1 - 128) = [b0, b1] ↔ (b0 / 32 = 6 ∧ b1 / 64 = 2 ∧ 128 ≤ b0 % 32 * 64 + b1 % 64) := by
  unfold eB jL
  constructor
  · intro h
    repeat' split at h
    all_goals simp at h
    all_goals unfold IsR at *
    all_goals omega
  · intro h
    rw [if_pos (by unfold IsR; omega), if_neg (by omega), if_pos (by omega)]; simp; omega
theorem form3 (h0 : b0 < 256) (h1 : b1 < 256) (h2 : b2 < 256) : eB ((((b0 : Int) - 224) * 64 + b1 - 128) * 64 + b2 - 128) = [b0, b1, b2] ↔
    (b0 / 16 = 14 ∧ b1 / 64 = 2 ∧ b2 / 64 = 2 ∧ 2048 ≤ b0 % 16 * 4096 + b1 % 64 * 64 + b2 % 64 ∧ (b0 % 16 * 4096 + b1 % 64 * 64 + b2 % 64 < 55296 ∨ 57343 < b0 % 16 * 4096 + b1 % 64 * 64 + b2 % 64)) := by
  unfold eB jL
  constructor
  · intro h
    repeat' split at h
    all_goals simp at h
    all_goals unfold IsR at *
    all_goals omega
  · intro h
    rw [if_pos (by unfold IsR; omega), if_neg (by omega), if_neg (by omega), if_pos (by omega)]; simp; omega
theorem form4 (h0 : b0 < 256) (h1 : b1 < 256) (h2 : b2 < 256) (h3 : b3 < 256) : eB (((((b0 : Int) - 240) * 64 + b1 - 128) * 64 + b2 - 128) * 64 + b3 - 128) = [b0, b1, b2, b3] ↔
    (b0 / 8 = 30 ∧ b1 / 64 = 2 ∧ b2 / 64 = 2 ∧ b3 / 64 = 2 ∧ 65536 ≤ b0 % 8 * 262144 + b1 % 64 * 4096 + b2 % 64 * 64 + b3 % 64 ∧ b0 % 8 * 262144 + b1 % 64 * 4096 + b2 % 64 * 64 + b3 % 64 ≤ 1114111) := by
  unfold eB jL
  constructor
  · intro h
    repeat' split at h
    all_goals simp at h
    all_goals unfold IsR at *
    all_goals omega
  · intro h
    rw [if_pos (by unfold IsR; omega), if_neg (by omega), if_neg (by omega), if_neg (by omega)]; simp; omega
end
theorem hit1 (s : ByteArray) (a : Nat) : Hit s a 1 ↔ sb s a < 128 := by
  have := form1 (jC s a)
  simpa [Hit, eO, gU] using this
theorem hit2 (s : ByteArray) (a : Nat) : Hit s a 2 ↔ (sb s a / 32 = 6 ∧ sb s (a + 1) / 64 = 2 ∧ 128 ≤ sb s a % 32 * 64 + sb s (a + 1) % 64) := by
  have := form2 (jC s a) (jC s (a + 1))
  simpa [Hit, eO, gU, List.range_succ] using this
theorem hit3 (s : ByteArray) (a : Nat) : Hit s a 3 ↔ (sb s a / 16 = 14 ∧ sb s (a + 1) / 64 = 2 ∧ sb s (a + 2) / 64 = 2 ∧ 2048 ≤ sb s a % 16 * 4096 + sb s (a + 1) % 64 * 64 + sb s (a + 2) % 64 ∧ (sb s a % 16 * 4096 + sb s (a + 1) % 64 * 64 + sb s (a + 2) % 64 < 55296 ∨ 57343 < sb s a % 16 * 4096 + sb s (a + 1) % 64 * 64 + sb s (a + 2) % 64)) := by
  have := form3 (jC s a) (jC s (a + 1)) (jC s (a + 2))
  simpa [Hit, eO, gU, List.range_succ] using this
theorem hit4 (s : ByteArray) (a : Nat) : Hit s a 4 ↔ (sb s a / 8 = 30 ∧ sb s (a + 1) / 64 = 2 ∧ sb s (a + 2) / 64 = 2 ∧ sb s (a + 3) / 64 = 2 ∧ 65536 ≤ sb s a % 8 * 262144 + sb s (a + 1) % 64 * 4096 + sb s (a + 2) % 64 * 64 + sb s (a + 3) % 64 ∧ sb s a % 8 * 262144 + sb s (a + 1) % 64 * 4096 + sb s (a + 2) % 64 * 64 + sb s (a + 3) % 64 ≤ 1114111) := by
  have := form4 (jC s a) (jC s (a + 1)) (jC s (a + 2)) (jC s (a + 3))
  simpa [Hit, eO, gU, List.range_succ] using this
theorem vU (s : ByteArray) (i : Nat) : Utf8.decode s i = decodeN (s.size - i) (sb s i) (sb s (i + 1)) (sb s (i + 2)) (sb s (i + 3)) := decode_at s i
theorem gP (s : ByteArray) (a : Nat) (ha : a < s.size) :
    (∃ w, 1 ≤ w ∧ w ≤ 4 ∧ a + w ≤ s.size ∧ Hit s a w ∧ Utf8.decode s a = ((eO s a w).toNat, w) ∧ 0 ≤ eO s a w ∧ (eO s a w ≤ 1114111) ∧ ∀ w', Hit s a w' → 1 ≤ w' → w' ≤ 4 → w' = w) ∨
    ((∀ w, 1 ≤ w → w ≤ 4 → a + w ≤ s.size → ¬ Hit s a w) ∧ Utf8.decode s a = (65533, 1)) := by
  have h0 := jC s a
  have h1 := jC s (a + 1)
  have h2 := jC s (a + 2)
  have h3 := jC s (a + 3)
  have k1 := hit1 s a
  have k2 := hit2 s a
  have k3 := hit3 s a
  have k4 := hit4 s a
  have all : ∀ {p : Nat → Prop}, p 1 → p 2 → p 3 → p 4 → ∀ w, 1 ≤ w → w ≤ 4 → p w := by
    intro p p1 p2 p3 p4 w hw hw'
    have : w = 1 ∨ w = 2 ∨ w = 3 ∨ w = 4 := by omega
    rcases this with rfl | rfl | rfl | rfl <;> assumption
  rw [vU]
  unfold decodeN
  split
  · rename_i c
    exact .inl ⟨1, by omega, by omega, by omega, k1.2 c, by simp [eO], by simp [eO], by simp [eO]; omega, fun w' hw h1 h4 => by revert hw; revert w'; exact fun w' h1 h4 => all (p := fun w' => Hit s a w' → w' = 1) (fun _ => rfl) (fun h => by have := k2.1 h; omega) (fun h => by have := k3.1 h; omega) (fun h => by have := k4.1 h; omega) w' h1 h4⟩
  · rename_i c1
    split
    · rename_i c2
      split
      · rename_i c3
        exact .inl ⟨2, by omega, by omega, by omega, k2.2 ⟨c2.1, c2.2.2, c3⟩, by simp [eO]; omega, by simp [eO]; omega, by simp [eO]; omega, fun w' hw h1 h4 => by revert hw; revert w'; exact fun w' h1 h4 => all (p := fun w' => Hit s a w' → w' = 2) (fun h => by have := k1.1 h; omega) (fun h => rfl) (fun h => by have := k3.1 h; omega) (fun h => by have := k4.1 h; omega) w' h1 h4⟩
      · rename_i c3
        exact .inr ⟨all (p := fun w => a + w ≤ s.size → ¬ Hit s a w) (fun _ h => by have := k1.1 h; omega) (fun _ h => by have := k2.1 h; omega) (fun _ h => by have := k3.1 h; omega) (fun _ h => by have := k4.1 h; omega), rfl⟩
    · rename_i c2
      split
      · rename_i c4
        split
        · rename_i c3
          exact .inl ⟨3, by omega, by omega, by omega, k3.2 (by omega), by simp [eO]; omega, by simp [eO]; omega, by simp [eO]; omega, fun w' hw h1 h4 => by revert hw; revert w'; exact fun w' h1 h4 => all (p := fun w' => Hit s a w' → w' = 3) (fun h => by have := k1.1 h; omega) (fun h => by have := k2.1 h; omega) (fun h => rfl) (fun h => by have := k4.1 h; omega) w' h1 h4⟩
        · rename_i c3
          exact .inr ⟨all (p := fun w => a + w ≤ s.size → ¬ Hit s a w) (fun _ h => by have := k1.1 h; omega) (fun _ h => by have := k2.1 h; omega) (fun _ h => by have := k3.1 h; omega) (fun _ h => by have := k4.1 h; omega), rfl⟩
      · rename_i c4
        split
        · rename_i c5
          split
          · rename_i c3
            exact .inl ⟨4, by omega, by omega, by omega, k4.2 (by omega), by simp [eO]; omega, by simp [eO]; omega, by simp [eO]; omega, fun w' hw h1 h4 => by revert hw; revert w'; exact fun w' h1 h4 => all (p := fun w' => Hit s a w' → w' = 4) (fun h => by have := k1.1 h; omega) (fun h => by have := k2.1 h; omega) (fun h => by have := k3.1 h; omega) (fun h => rfl) w' h1 h4⟩
          · rename_i c3
            exact .inr ⟨all (p := fun w => a + w ≤ s.size → ¬ Hit s a w) (fun _ h => by have := k1.1 h; omega) (fun _ h => by have := k2.1 h; omega) (fun _ h => by have := k3.1 h; omega) (fun _ h => by have := k4.1 h; omega), rfl⟩
        · rename_i c5
          exact .inr ⟨all (p := fun w => a + w ≤ s.size → ¬ Hit s a w) (fun _ h => by have := k1.1 h; omega) (fun _ h => by have := k2.1 h; omega) (fun _ h => by have := k3.1 h; omega) (fun _ h => by have := k4.1 h; omega), rfl⟩
theorem kT {s : ByteArray} {a w : Nat} (hw : 1 ≤ w) (hw4 : w ≤ 4) (hs : a + w ≤ s.size) (h : Hit s a w) : cD s a = (eO s a w, w) ∧ 0 ≤ eO s a w ∧ eO s a w ≤ 1114111 := by
  rcases gP s a (by omega) with ⟨w', h1, h2, h3, h4, h5, h6, h7, h8⟩ | ⟨h1, _⟩
  · have : w = w' := h8 w h hw hw4
    subst this
    have hne : ¬ (((eO s a w).toNat, w).1 = 65533 ∧ ((eO s a w).toNat, w).2 = 1) := fun ⟨e1, e2⟩ => by
      simp only at e1 e2
      subst e2
      have := (hit1 s a).1 h
      simp [eO] at e1
      omega
    refine ⟨?_, h6, h7⟩
    unfold cD
    rw [h5, if_pos ⟨by omega, hne⟩]
    simp only [Int.toNat_of_nonneg h6]
  · exact absurd h (h1 w hw hw4 hs)
theorem nX {s : ByteArray} {a : Nat} (h : ∀ w, 1 ≤ w → w ≤ 4 → a + w ≤ s.size → ¬ Hit s a w) : cD s a = (-1, 0) := by
  unfold cD
  by_cases ha : a < s.size
  · rcases gP s a ha with ⟨w', h1, h2, h3, h4, _⟩ | ⟨_, h2⟩
    · exact absurd h4 (h w' h1 h2 h3)
    · rw [h2]; simp
  · rw [if_neg (by omega)]
theorem pS {s : ByteArray} {a : Nat} (h : s.size ≤ a) : cD s a = (-1, 0) := nX fun w h1 h2 h3 => by omega
theorem oG (s : ByteArray) (a : Nat) : cD s a = (-1, 0) ∨ (0 ≤ (cD s a).1 ∧ (cD s a).1 ≤ 1114111 ∧ 1 ≤ (cD s a).2 ∧ (cD s a).2 ≤ 4 ∧ a + (cD s a).2 ≤ s.size) := by
  by_cases ha : a < s.size
  · rcases gP s a ha with ⟨w', h1, h2, h3, h4, h5, h6, h7, _⟩ | ⟨h1, h2⟩
    · right
      rw [(kT h1 h2 h3 h4).1]
      exact ⟨h6, h7, h1, h2, h3⟩
    · exact .inl (nX h1)
  · exact .inl (pS (by omega))
theorem eH {s : ByteArray} {a b k : Nat} (hb : b ≤ s.size) (hk : a + k < b) : sb (s.extract a b) k = sb s (a + k) := by
  rw [pF _ _ (by simp; omega), pF _ _ (by omega)]
  simp only [ByteArray.getElem_extract]
theorem GZ {n m b0 b1 b2 b3 c1 c2 c3 : Nat} (h : m = min n 4) (h1 : 1 < n → c1 = b1) (h2 : 2 < n → c2 = b2) (h3 : 3 < n → c3 = b3) : decodeN m b0 c1 c2 c3 = decodeN n b0 b1 b2 b3 := by
  have e1 : (1 < m) = (1 < n) := propext (by omega)
  have e2 : (2 < m) = (2 < n) := propext (by omega)
  have e3 : (3 < m) = (3 < n) := propext (by omega)
  unfold decodeN
  simp only [e1, e2, e3]
  by_cases k1 : 1 < n <;> by_cases k2 : 2 < n <;> by_cases k3 : 3 < n <;> simp only [k1, k2, k3, h1, h2, h3, true_and, and_true, false_and, and_false, if_false, ↓reduceIte]
theorem KB (s : ByteArray) (a : Nat) (ha : a < s.size) : Utf8.decode (s.extract a (min s.size (a + 4))) 0 = Utf8.decode s a := by
  rw [vU, vU]
  simp only [Nat.zero_add]
  have hsz : (s.extract a (min s.size (a + 4))).size = min (s.size - a) 4 := by simp; omega
  have hb : min s.size (a + 4) ≤ s.size := by omega
  have h0 : sb (s.extract a (min s.size (a + 4))) 0 = sb s a := by rw [eH hb (by omega)]; rfl
  rw [h0]
  refine GZ (by omega) (fun h => ?_) (fun h => ?_) (fun h => ?_) <;> rw [eH hb (by omega)]
theorem GY (s : ByteArray) (a : Nat) (h : (Utf8.decode s a).1 = 65533) (ha : a < s.size) : (Utf8.decode s a).2 = 1 ∨ (Utf8.decode s a).2 = 3 := by
  rcases gP s a ha with ⟨w, h1, h2, h3, h4, h5, h6, h7, _⟩ | ⟨_, h2⟩
  · rw [h5] at h ⊢
    simp only at h ⊢
    have hh := h4
    unfold Hit at hh
    have e : eO s a w = 65533 := by omega
    rw [e] at hh
    have := congrArg List.length hh
    simp [gU, eB, IsR, jL] at this
    omega
  · rw [h2]; exact .inl rfl
theorem rP (s : ByteArray) (a : Nat) (h : (Utf8.decode s a).1 = 65533) (ha : a < s.size) : (Utf8.decode s a).2 = 3 ↔ (a + 3 ≤ s.size ∧ s.extract a (a + 3) = bstr [239, 191, 189]) := by
  constructor
  · intro h3
    rcases gP s a ha with ⟨w, h1, h2, hs, h4, h5, h6, h7, _⟩ | ⟨_, h2⟩
    · rw [h5] at h h3
      simp only at h h3
      subst h3
      refine ⟨hs, ?_⟩
      rw [(TD hs).1 h4]
      have e : eO s a 3 = 65533 := by omega
      rw [e]; rfl
    · rw [h2] at h3; cases h3
  · rintro ⟨hs, he⟩
    have hg : gU s a 3 = [239, 191, 189] := by
      rw [tC s a 3 hs] at he
      exact (HE (zK s a 3) (by intro b hb; simp at hb; omega)).1 he
    simp [gU, List.range_succ] at hg
    have k3 := (hit3 s a).2 (by omega)
    have := (kT (by omega) (by omega) hs k3)
    rcases gP s a ha with ⟨w, h1, h2, hs, h4, h5, h6, h7, h8⟩ | ⟨hn, h2⟩
    · rw [h5]; exact (h8 3 k3 (by omega) (by omega)).symm
    · exact absurd k3 (hn 3 (by omega) (by omega) hs)
theorem CX (s : ByteArray) (a : Nat) (ha : a < s.size) (h : ¬ ((Utf8.decode s a).1 = 65533 ∧ (Utf8.decode s a).2 = 1)) :
    (Utf8.decode s a).2 = if (Utf8.decode s a).1 < 128 then 1 else if (Utf8.decode s a).1 < 2048 then 2 else if (Utf8.decode s a).1 < 65536 then 3 else 4 := by
  rcases gP s a ha with ⟨w, h1, h2, h3, h4, h5, h6, h7, _⟩ | ⟨_, h2⟩
  · rw [h5]
    have hl := CJ h4
    unfold eB jL at hl
    simp only
    repeat' split at hl
    all_goals simp at hl
    all_goals subst hl
    all_goals (repeat' split)
    all_goals omega
  · rw [h2] at h; exact absurd ⟨rfl, rfl⟩ h
end Go.Proofs.YtljadkcojnlioaaGreatDoor
namespace Go.Proofs.YtljadkcojnlioaaGreatDoor
open Go.RowKit Go.W
attribute [local irreducible] Decidable.decide
theorem fN : HI Tryz.prog 78 78 = some (5, 1, 1) := by kernel_rfl
theorem gA : tF Tryz.prog 78 = some (5, 1) := by kernel_rfl
theorem jZ (a b : List Nat) : iH (a ++ b) = iH a ++ iH b := by simp [iH]
theorem wrap_u8 (m : Nat) : IntKind.u8.wrap (m : Int) = ((m % 256 : Nat) : Int) := by
  simp [IntKind.wrap, IntKind.signed, IntKind.bits]
theorem jI {P : Program} {σ : Env} {w : World} {dst : Option Nat} {T : TypeId} {pos : String} {after : Array Edge} {g : Option (Nat × Bool)} {x : Operand} {t t' : TypeId} {k : IntKind} {z : Int} (m : Nat) (hx : σ.ev x = some (.int k z)) (ht : P.underlying t = some (.int k)) (ht' : P.underlying t' = some (.int .u8)) (hz : z = (m : Int)) :
    Ex P σ ⟨dst, .convert t t' x, T, pos, after, g⟩ w (.int .u8 ((m % 256 : Nat) : Int)) w := by
  subst hz
  have := MY (w := w) (dst := dst) (T := T) (pos := pos) (after := after) (g := g) hx ht ht'
  rwa [wrap_u8] at this
theorem orb192 : ∀ x, x < 32 → 192 ||| x = 192 + x := by decide
theorem orb224 : ∀ x, x < 16 → 224 ||| x = 224 + x := by decide
theorem orb240 : ∀ x, x < 8 → 240 ||| x = 240 + x := by decide
theorem orb128 : ∀ x, x < 64 → 128 ||| x = 128 + x := by decide
theorem oP (m : Nat) : (m % 256) &&& 63 = m % 64 := by
  have := Nat.and_two_pow_sub_one_eq_mod (m % 256) 6
  rw [show 2 ^ 6 - 1 = 63 from rfl] at this
  rw [this]; omega
theorem uH (m : Nat) : 128 ||| ((m % 256) &&& 63) = 128 + m % 64 := by rw [oP, orb128 _ (by omega)]
theorem r2 {m : Nat} (h : m < 2048) : 192 ||| (m / 2 ^ 6 % 256) = 192 + m / 64 := by
  rw [show (2 : Nat) ^ 6 = 64 from rfl, Nat.mod_eq_of_lt (show m / 64 < 256 by omega), orb192 _ (by omega)]
theorem r3 {m : Nat} (h : m < 65536) : 224 ||| (m / 2 ^ 12 % 256) = 224 + m / 4096 := by
  rw [show (2 : Nat) ^ 12 = 4096 from rfl, Nat.mod_eq_of_lt (show m / 4096 < 256 by omega), orb224 _ (by omega)]
theorem r4 {m : Nat} (h : m ≤ 1114111) : 240 ||| (m / 2 ^ 18 % 256) = 240 + m / 262144 := by
  rw [show (2 : Nat) ^ 18 = 262144 from rfl, Nat.mod_eq_of_lt (show m / 262144 < 256 by omega), orb240 _ (by omega)]
theorem lJ {m : Nat} (h : IsR (m : Int)) : eB (m : Int) = jL m := by unfold eB; rw [if_pos h]; rfl
theorem AB {w : World} {a : Option Addr} {c : Nat} {l : List Nat} {ob : Option Nat} {r : Int} (hO : OwnS w 5 1 a l.length c (iH l) ob) (hr : IsR r) (h128 : 128 ≤ r) (hl : l.length ≤ 100000000) :
    Calls Tryz.prog 141 #[.slice a l.length c, .int .i32 r] w (Ret fun v w' => ∃ a' c' ob', v = .slice a' (l.length + (eB r).length) c' ∧ OwnS w' 5 1 a' (l.length + (eB r).length) c' (iH (l ++ eB r)) ob' ∧ Evo ob.toList w w' ∧ (ob' = ob ∨ ∃ g, ob' = some g ∧ w.heap.size ≤ g)) := by
  have hr' := hr; unfold IsR at hr'; obtain ⟨m, hm⟩ : ∃ m : Nat, r = (m : Int) := ⟨r.toNat, by omega⟩; refine bL (N := 78) Tryz.func141 rfl rfl rfl ?_; refine aE (aB (aN (aC (aA (aE (aB (aH ?_)))))))
  refine aF (kG m rfl Tryz.underlying21 Tryz.underlying163 hm (by show ((m : Nat) : Int) ≤ 4294967295; omega)) ?_
  refine aN (aC (aA (bS (aE (aB (aH (aF (fP rfl rfl) ?_))))))); refine aN (aC (aA (bG rfl (fun hc11 => ?_) (fun hc11 => ?_))))
  ·refine aE (aB (aH (aH ?_))); refine aF (kA (m := m) (n := 6) rfl rfl hm rfl (by decide)) ?_; refine aF (jI (m / 2 ^ 6) rfl Tryz.underlying21 Tryz.underlying5 (by first | rfl | exact hm)) ?_
   refine aF (jH (m := 192) (n := m / 2 ^ 6 % 256) rfl rfl rfl rfl rfl (by show _ < 256; omega) (by show _ < 256; omega)) ?_
   refine aH ?_; refine aF (jI (m) rfl Tryz.underlying21 Tryz.underlying5 (by first | rfl | exact hm)) ?_
   refine aF (kC (m := m % 256) (n := 63) rfl rfl rfl rfl rfl (by show _ < 256; omega) (by show _ < 256; omega)) ?_
   refine aF (jH (m := 128) (n := (m % 256) &&& 63) rfl rfl rfl rfl rfl (by show _ < 256; omega) (by show _ < 256; rw [oP]; omega)) ?_
   refine bP (vs := [_, _]) rfl gA rfl rfl rfl rfl fun b1 w2 hO3 hs4 hw5 => ?_; have hE8 := (Evo.refl ob.toList w).then hw5; have hO9 := hO.evo0 hw5; have hszg := (hE8).size; refine dT rfl rfl rfl rfl fN hO9 (Src.ofOwn hO3 ⟨rfl, rfl, trivial⟩) (by omega) fun a2 c2 w12 ob2 hO2 hw15 hob16 => ?_; have hE18 := hE8.step hw15 (fun y hy => .inl hy); have hob2 : ob2 = ob ∨ ∃ g, ob2 = some g ∧ w.heap.size ≤ g := hob16.imp id (fun ⟨g, h1, h2⟩ => ⟨g, h1, Nat.le_trans hszg h2⟩); refine aN (aC (aA (aO (aV (br1 ?_)))))
   have hf : eB r = [192 + m / 64, 128 + m % 64] := by rw [hm, lJ (hm ▸ hr), jL, if_neg (by omega), if_pos (by omega)]
   have hO3 := hO2; rw [r2 (by omega), uH] at hO3
   refine ⟨a2, c2, ob2, by rw [hf]; rfl, ?_, hE18, hob2⟩
   rw [hf, jZ]; exact hO3
  refine aE (aE (aB (aH (aF (dF rfl rfl) ?_)))); refine aN (aC (aA (bG rfl (fun hc25 => ?_) (fun hc25 => ?_))))
  ·refine aX (aA (bG rfl (fun hc25 => ?_) (fun hc25 => ?_)))
   ·refine aE (aB (aH (aH ?_))); refine aF (kA (m := m) (n := 12) rfl rfl hm rfl (by decide)) ?_; refine aF (jI (m / 2 ^ 12) rfl Tryz.underlying21 Tryz.underlying5 (by first | rfl | exact hm)) ?_
    refine aF (jH (m := 224) (n := m / 2 ^ 12 % 256) rfl rfl rfl rfl rfl (by show _ < 256; omega) (by show _ < 256; omega)) ?_
    refine aH ?_; refine aF (kA (m := m) (n := 6) rfl rfl hm rfl (by decide)) ?_; refine aF (jI ((m / 2 ^ 6)) rfl Tryz.underlying21 Tryz.underlying5 (by first | rfl | exact hm)) ?_
    refine aF (kC (m := (m / 2 ^ 6) % 256) (n := 63) rfl rfl rfl rfl rfl (by show _ < 256; omega) (by show _ < 256; omega)) ?_
    refine aF (jH (m := 128) (n := ((m / 2 ^ 6) % 256) &&& 63) rfl rfl rfl rfl rfl (by show _ < 256; omega) (by show _ < 256; rw [oP]; omega)) ?_
    refine aH ?_; refine aF (jI (m) rfl Tryz.underlying21 Tryz.underlying5 (by first | rfl | exact hm)) ?_
    refine aF (kC (m := m % 256) (n := 63) rfl rfl rfl rfl rfl (by show _ < 256; omega) (by show _ < 256; omega)) ?_
    refine aF (jH (m := 128) (n := (m % 256) &&& 63) rfl rfl rfl rfl rfl (by show _ < 256; omega) (by show _ < 256; rw [oP]; omega)) ?_
    refine bP (vs := [_, _, _]) rfl gA rfl rfl rfl rfl fun b20 w21 hO22 hs23 hw24 => ?_; have hE27 := (Evo.refl ob.toList w).then hw24; have hO28 := hO.evo0 hw24; have hszg := (hE27).size; refine dT rfl rfl rfl rfl fN hO28 (Src.ofOwn hO22 ⟨rfl, rfl, rfl, trivial⟩) (by omega) fun a2 c2 w31 ob2 hO2 hw34 hob35 => ?_; have hE37 := hE27.step hw34 (fun y hy => .inl hy); have hob2 : ob2 = ob ∨ ∃ g, ob2 = some g ∧ w.heap.size ≤ g := hob35.imp id (fun ⟨g, h1, h2⟩ => ⟨g, h1, Nat.le_trans hszg h2⟩); refine aN (aC (aA (aO (aV (br1 ?_)))))
    have hf : eB r = [224 + m / 4096, 128 + m / 64 % 64, 128 + m % 64] := by rw [hm, lJ (hm ▸ hr), jL, if_neg (by omega), if_neg (by omega), if_pos (by omega)]
    have hO3 := hO2; rw [r3 (by omega), uH, uH, show (2 : Nat) ^ 6 = 64 from rfl] at hO3
    refine ⟨a2, c2, ob2, by rw [hf]; rfl, ?_, hE37, hob2⟩
    rw [hf, jZ]; exact hO3
   refine aE (aB (aH (aF (fI rfl rfl) ?_))); refine aH (aU (t := 53) rfl (fun hs53 => ?_) (fun hs53 => ?_))
   ·refine aK (aH (aK (aF (fP rfl rfl) ?_))); refine aY (aN (aC (aA (bG rfl (fun hc50 => ?_) (fun hc50 => ?_)))))
    ·refine aE (aB (aH (aH ?_))); refine aF (kA (m := m) (n := 18) rfl rfl hm rfl (by decide)) ?_; refine aF (jI (m / 2 ^ 18) rfl Tryz.underlying21 Tryz.underlying5 (by first | rfl | exact hm)) ?_
     refine aF (jH (m := 240) (n := m / 2 ^ 18 % 256) rfl rfl rfl rfl rfl (by show _ < 256; omega) (by show _ < 256; omega)) ?_
     refine aH ?_; refine aF (kA (m := m) (n := 12) rfl rfl hm rfl (by decide)) ?_; refine aF (jI ((m / 2 ^ 12)) rfl Tryz.underlying21 Tryz.underlying5 (by first | rfl | exact hm)) ?_
     refine aF (kC (m := (m / 2 ^ 12) % 256) (n := 63) rfl rfl rfl rfl rfl (by show _ < 256; omega) (by show _ < 256; omega)) ?_
     refine aF (jH (m := 128) (n := ((m / 2 ^ 12) % 256) &&& 63) rfl rfl rfl rfl rfl (by show _ < 256; omega) (by show _ < 256; rw [oP]; omega)) ?_
     refine aH ?_; refine aF (kA (m := m) (n := 6) rfl rfl hm rfl (by decide)) ?_; refine aF (jI ((m / 2 ^ 6)) rfl Tryz.underlying21 Tryz.underlying5 (by first | rfl | exact hm)) ?_
     refine aF (kC (m := (m / 2 ^ 6) % 256) (n := 63) rfl rfl rfl rfl rfl (by show _ < 256; omega) (by show _ < 256; omega)) ?_
     refine aF (jH (m := 128) (n := ((m / 2 ^ 6) % 256) &&& 63) rfl rfl rfl rfl rfl (by show _ < 256; omega) (by show _ < 256; rw [oP]; omega)) ?_
     refine aH ?_; refine aF (jI (m) rfl Tryz.underlying21 Tryz.underlying5 (by first | rfl | exact hm)) ?_
     refine aF (kC (m := m % 256) (n := 63) rfl rfl rfl rfl rfl (by show _ < 256; omega) (by show _ < 256; omega)) ?_
     refine aF (jH (m := 128) (n := (m % 256) &&& 63) rfl rfl rfl rfl rfl (by show _ < 256; omega) (by show _ < 256; rw [oP]; omega)) ?_
     refine bP (vs := [_, _, _, _]) rfl gA rfl rfl rfl rfl fun b39 w40 hO41 hs42 hw43 => ?_; have hE46 := (Evo.refl ob.toList w).then hw43; have hO47 := hO.evo0 hw43; have hszg := (hE46).size; refine dT rfl rfl rfl rfl fN hO47 (Src.ofOwn hO41 ⟨rfl, rfl, rfl, rfl, trivial⟩) (by omega) fun a2 c2 w50 ob2 hO2 hw53 hob54 => ?_; have hE56 := hE46.step hw53 (fun y hy => .inl hy); have hob2 : ob2 = ob ∨ ∃ g, ob2 = some g ∧ w.heap.size ≤ g := hob54.imp id (fun ⟨g, h1, h2⟩ => ⟨g, h1, Nat.le_trans hszg h2⟩); refine aN (aC (aA (aO (aV (br1 ?_)))))
     have hf : eB r = [240 + m / 262144, 128 + m / 4096 % 64, 128 + m / 64 % 64, 128 + m % 64] := by rw [hm, lJ (hm ▸ hr), jL, if_neg (by omega), if_neg (by omega), if_neg (by omega)]
     have hO3 := hO2; rw [r4 (by omega), uH, uH, uH, show (2 : Nat) ^ 12 = 4096 from rfl, show (2 : Nat) ^ 6 = 64 from rfl] at hO3
     refine ⟨a2, c2, ob2, by rw [hf]; rfl, ?_, hE56, hob2⟩
     rw [hf, jZ]; exact hO3
    refine aE (aB (aH (bP (vs := [_, _, _]) rfl gA rfl rfl rfl rfl fun b58 w59 hO60 hs61 hw62 => ?_))); have hE65 := (Evo.refl ob.toList w).then hw62; have hO66 := hO.evo0 hw62; have hszg := (hE65).size; refine dT rfl rfl rfl rfl fN hO66 (Src.ofOwn hO60 ⟨rfl, rfl, rfl, trivial⟩) (by omega) fun a2 c2 w69 ob2 hO2 hw72 hob73 => ?_; have hob2 : ob2 = ob ∨ ∃ g, ob2 = some g ∧ w.heap.size ≤ g := hob73.imp id (fun ⟨g, h1, h2⟩ => ⟨g, h1, Nat.le_trans hszg h2⟩); refine aN (aC (aA (aO (aV (br1 ?_)))))
    exfalso; omega
   refine aG (aG (aR (aN (aC (aA (cN rfl ?_)))))); refine aE (aB (aH (bP (vs := [_, _, _]) rfl gA rfl rfl rfl rfl fun b77 w78 hO79 hs80 hw81 => ?_))); have hE84 := (Evo.refl ob.toList w).then hw81; have hO85 := hO.evo0 hw81; have hszg := (hE84).size; refine dT rfl rfl rfl rfl fN hO85 (Src.ofOwn hO79 ⟨rfl, rfl, rfl, trivial⟩) (by omega) fun a2 c2 w88 ob2 hO2 hw91 hob92 => ?_; have hob2 : ob2 = ob ∨ ∃ g, ob2 = some g ∧ w.heap.size ≤ g := hob92.imp id (fun ⟨g, h1, h2⟩ => ⟨g, h1, Nat.le_trans hszg h2⟩); refine aN (aC (aA (aO (aV (br1 ?_)))))
   exfalso; omega
  refine aB (aH (aF (dF rfl rfl) ?_)); refine aH (aU (t := 30) rfl (fun hs30 => ?_) (fun hs30 => ?_))
  ·refine aK (aH (aK (aF (fP rfl rfl) ?_))); refine aY (aN (aC (aA (bG rfl (fun hc25 => ?_) (fun hc25 => ?_)))))
   ·refine aE (aB (aH (aH ?_))); refine aF (kA (m := m) (n := 12) rfl rfl hm rfl (by decide)) ?_; refine aF (jI (m / 2 ^ 12) rfl Tryz.underlying21 Tryz.underlying5 (by first | rfl | exact hm)) ?_
    refine aF (jH (m := 224) (n := m / 2 ^ 12 % 256) rfl rfl rfl rfl rfl (by show _ < 256; omega) (by show _ < 256; omega)) ?_
    refine aH ?_; refine aF (kA (m := m) (n := 6) rfl rfl hm rfl (by decide)) ?_; refine aF (jI ((m / 2 ^ 6)) rfl Tryz.underlying21 Tryz.underlying5 (by first | rfl | exact hm)) ?_
    refine aF (kC (m := (m / 2 ^ 6) % 256) (n := 63) rfl rfl rfl rfl rfl (by show _ < 256; omega) (by show _ < 256; omega)) ?_
    refine aF (jH (m := 128) (n := ((m / 2 ^ 6) % 256) &&& 63) rfl rfl rfl rfl rfl (by show _ < 256; omega) (by show _ < 256; rw [oP]; omega)) ?_
    refine aH ?_; refine aF (jI (m) rfl Tryz.underlying21 Tryz.underlying5 (by first | rfl | exact hm)) ?_
    refine aF (kC (m := m % 256) (n := 63) rfl rfl rfl rfl rfl (by show _ < 256; omega) (by show _ < 256; omega)) ?_
    refine aF (jH (m := 128) (n := (m % 256) &&& 63) rfl rfl rfl rfl rfl (by show _ < 256; omega) (by show _ < 256; rw [oP]; omega)) ?_
    refine bP (vs := [_, _, _]) rfl gA rfl rfl rfl rfl fun b96 w97 hO98 hs99 hw100 => ?_; have hE103 := (Evo.refl ob.toList w).then hw100; have hO104 := hO.evo0 hw100; have hszg := (hE103).size; refine dT rfl rfl rfl rfl fN hO104 (Src.ofOwn hO98 ⟨rfl, rfl, rfl, trivial⟩) (by omega) fun a2 c2 w107 ob2 hO2 hw110 hob111 => ?_; have hE113 := hE103.step hw110 (fun y hy => .inl hy); have hob2 : ob2 = ob ∨ ∃ g, ob2 = some g ∧ w.heap.size ≤ g := hob111.imp id (fun ⟨g, h1, h2⟩ => ⟨g, h1, Nat.le_trans hszg h2⟩); refine aN (aC (aA (aO (aV (br1 ?_)))))
    have hf : eB r = [224 + m / 4096, 128 + m / 64 % 64, 128 + m % 64] := by rw [hm, lJ (hm ▸ hr), jL, if_neg (by omega), if_neg (by omega), if_pos (by omega)]
    have hO3 := hO2; rw [r3 (by omega), uH, uH, show (2 : Nat) ^ 6 = 64 from rfl] at hO3
    refine ⟨a2, c2, ob2, by rw [hf]; rfl, ?_, hE113, hob2⟩
    rw [hf, jZ]; exact hO3
   refine aE (aB (aH (aF (fI rfl rfl) ?_))); refine aH (aU (t := 53) rfl (fun hs53 => ?_) (fun hs53 => ?_))
   ·refine aK (aH (aK (aF (fP rfl rfl) ?_))); refine aY (aN (aC (aA (bG rfl (fun hc50 => ?_) (fun hc50 => ?_)))))
    ·refine aE (aB (aH (aH ?_))); refine aF (kA (m := m) (n := 18) rfl rfl hm rfl (by decide)) ?_; refine aF (jI (m / 2 ^ 18) rfl Tryz.underlying21 Tryz.underlying5 (by first | rfl | exact hm)) ?_
     refine aF (jH (m := 240) (n := m / 2 ^ 18 % 256) rfl rfl rfl rfl rfl (by show _ < 256; omega) (by show _ < 256; omega)) ?_
     refine aH ?_; refine aF (kA (m := m) (n := 12) rfl rfl hm rfl (by decide)) ?_; refine aF (jI ((m / 2 ^ 12)) rfl Tryz.underlying21 Tryz.underlying5 (by first | rfl | exact hm)) ?_
     refine aF (kC (m := (m / 2 ^ 12) % 256) (n := 63) rfl rfl rfl rfl rfl (by show _ < 256; omega) (by show _ < 256; omega)) ?_
     refine aF (jH (m := 128) (n := ((m / 2 ^ 12) % 256) &&& 63) rfl rfl rfl rfl rfl (by show _ < 256; omega) (by show _ < 256; rw [oP]; omega)) ?_
     refine aH ?_; refine aF (kA (m := m) (n := 6) rfl rfl hm rfl (by decide)) ?_; refine aF (jI ((m / 2 ^ 6)) rfl Tryz.underlying21 Tryz.underlying5 (by first | rfl | exact hm)) ?_
     refine aF (kC (m := (m / 2 ^ 6) % 256) (n := 63) rfl rfl rfl rfl rfl (by show _ < 256; omega) (by show _ < 256; omega)) ?_
     refine aF (jH (m := 128) (n := ((m / 2 ^ 6) % 256) &&& 63) rfl rfl rfl rfl rfl (by show _ < 256; omega) (by show _ < 256; rw [oP]; omega)) ?_
     refine aH ?_; refine aF (jI (m) rfl Tryz.underlying21 Tryz.underlying5 (by first | rfl | exact hm)) ?_
     refine aF (kC (m := m % 256) (n := 63) rfl rfl rfl rfl rfl (by show _ < 256; omega) (by show _ < 256; omega)) ?_
     refine aF (jH (m := 128) (n := (m % 256) &&& 63) rfl rfl rfl rfl rfl (by show _ < 256; omega) (by show _ < 256; rw [oP]; omega)) ?_
     refine bP (vs := [_, _, _, _]) rfl gA rfl rfl rfl rfl fun b115 w116 hO117 hs118 hw119 => ?_; have hE122 := (Evo.refl ob.toList w).then hw119; have hO123 := hO.evo0 hw119; have hszg := (hE122).size; refine dT rfl rfl rfl rfl fN hO123 (Src.ofOwn hO117 ⟨rfl, rfl, rfl, rfl, trivial⟩) (by omega) fun a2 c2 w126 ob2 hO2 hw129 hob130 => ?_; have hE132 := hE122.step hw129 (fun y hy => .inl hy); have hob2 : ob2 = ob ∨ ∃ g, ob2 = some g ∧ w.heap.size ≤ g := hob130.imp id (fun ⟨g, h1, h2⟩ => ⟨g, h1, Nat.le_trans hszg h2⟩); refine aN (aC (aA (aO (aV (br1 ?_)))))
     have hf : eB r = [240 + m / 262144, 128 + m / 4096 % 64, 128 + m / 64 % 64, 128 + m % 64] := by rw [hm, lJ (hm ▸ hr), jL, if_neg (by omega), if_neg (by omega), if_neg (by omega)]
     have hO3 := hO2; rw [r4 (by omega), uH, uH, uH, show (2 : Nat) ^ 12 = 4096 from rfl, show (2 : Nat) ^ 6 = 64 from rfl] at hO3
     refine ⟨a2, c2, ob2, by rw [hf]; rfl, ?_, hE132, hob2⟩
     rw [hf, jZ]; exact hO3
    refine aE (aB (aH (bP (vs := [_, _, _]) rfl gA rfl rfl rfl rfl fun b134 w135 hO136 hs137 hw138 => ?_))); have hE141 := (Evo.refl ob.toList w).then hw138; have hO142 := hO.evo0 hw138; have hszg := (hE141).size; refine dT rfl rfl rfl rfl fN hO142 (Src.ofOwn hO136 ⟨rfl, rfl, rfl, trivial⟩) (by omega) fun a2 c2 w145 ob2 hO2 hw148 hob149 => ?_; have hob2 : ob2 = ob ∨ ∃ g, ob2 = some g ∧ w.heap.size ≤ g := hob149.imp id (fun ⟨g, h1, h2⟩ => ⟨g, h1, Nat.le_trans hszg h2⟩); refine aN (aC (aA (aO (aV (br1 ?_)))))
    exfalso; omega
   refine aG (aG (aR (aN (aC (aA (cN rfl ?_)))))); refine aE (aB (aH (bP (vs := [_, _, _]) rfl gA rfl rfl rfl rfl fun b153 w154 hO155 hs156 hw157 => ?_))); have hE160 := (Evo.refl ob.toList w).then hw157; have hO161 := hO.evo0 hw157; have hszg := (hE160).size; refine dT rfl rfl rfl rfl fN hO161 (Src.ofOwn hO155 ⟨rfl, rfl, rfl, trivial⟩) (by omega) fun a2 c2 w164 ob2 hO2 hw167 hob168 => ?_; have hob2 : ob2 = ob ∨ ∃ g, ob2 = some g ∧ w.heap.size ≤ g := hob168.imp id (fun ⟨g, h1, h2⟩ => ⟨g, h1, Nat.le_trans hszg h2⟩); refine aN (aC (aA (aO (aV (br1 ?_)))))
   exfalso; omega
  refine aG (aG (aR (aN (aC (aA (cN rfl ?_)))))); refine aE (aB (aH (aF (fI rfl rfl) ?_))); refine aH (aU (t := 53) rfl (fun hs53 => ?_) (fun hs53 => ?_))
  ·refine aK (aH (aK (aF (fP rfl rfl) ?_))); refine aY (aN (aC (aA (bG rfl (fun hc50 => ?_) (fun hc50 => ?_)))))
   ·refine aE (aB (aH (aH ?_))); refine aF (kA (m := m) (n := 18) rfl rfl hm rfl (by decide)) ?_; refine aF (jI (m / 2 ^ 18) rfl Tryz.underlying21 Tryz.underlying5 (by first | rfl | exact hm)) ?_
    refine aF (jH (m := 240) (n := m / 2 ^ 18 % 256) rfl rfl rfl rfl rfl (by show _ < 256; omega) (by show _ < 256; omega)) ?_
    refine aH ?_; refine aF (kA (m := m) (n := 12) rfl rfl hm rfl (by decide)) ?_; refine aF (jI ((m / 2 ^ 12)) rfl Tryz.underlying21 Tryz.underlying5 (by first | rfl | exact hm)) ?_
    refine aF (kC (m := (m / 2 ^ 12) % 256) (n := 63) rfl rfl rfl rfl rfl (by show _ < 256; omega) (by show _ < 256; omega)) ?_
    refine aF (jH (m := 128) (n := ((m / 2 ^ 12) % 256) &&& 63) rfl rfl rfl rfl rfl (by show _ < 256; omega) (by show _ < 256; rw [oP]; omega)) ?_
    refine aH ?_; refine aF (kA (m := m) (n := 6) rfl rfl hm rfl (by decide)) ?_; refine aF (jI ((m / 2 ^ 6)) rfl Tryz.underlying21 Tryz.underlying5 (by first | rfl | exact hm)) ?_
    refine aF (kC (m := (m / 2 ^ 6) % 256) (n := 63) rfl rfl rfl rfl rfl (by show _ < 256; omega) (by show _ < 256; omega)) ?_
    refine aF (jH (m := 128) (n := ((m / 2 ^ 6) % 256) &&& 63) rfl rfl rfl rfl rfl (by show _ < 256; omega) (by show _ < 256; rw [oP]; omega)) ?_
    refine aH ?_; refine aF (jI (m) rfl Tryz.underlying21 Tryz.underlying5 (by first | rfl | exact hm)) ?_
    refine aF (kC (m := m % 256) (n := 63) rfl rfl rfl rfl rfl (by show _ < 256; omega) (by show _ < 256; omega)) ?_
    refine aF (jH (m := 128) (n := (m % 256) &&& 63) rfl rfl rfl rfl rfl (by show _ < 256; omega) (by show _ < 256; rw [oP]; omega)) ?_
    refine bP (vs := [_, _, _, _]) rfl gA rfl rfl rfl rfl fun b172 w173 hO174 hs175 hw176 => ?_; have hE179 := (Evo.refl ob.toList w).then hw176; have hO180 := hO.evo0 hw176; have hszg := (hE179).size; refine dT rfl rfl rfl rfl fN hO180 (Src.ofOwn hO174 ⟨rfl, rfl, rfl, rfl, trivial⟩) (by omega) fun a2 c2 w183 ob2 hO2 hw186 hob187 => ?_; have hE189 := hE179.step hw186 (fun y hy => .inl hy); have hob2 : ob2 = ob ∨ ∃ g, ob2 = some g ∧ w.heap.size ≤ g := hob187.imp id (fun ⟨g, h1, h2⟩ => ⟨g, h1, Nat.le_trans hszg h2⟩); refine aN (aC (aA (aO (aV (br1 ?_)))))
    have hf : eB r = [240 + m / 262144, 128 + m / 4096 % 64, 128 + m / 64 % 64, 128 + m % 64] := by rw [hm, lJ (hm ▸ hr), jL, if_neg (by omega), if_neg (by omega), if_neg (by omega)]
    have hO3 := hO2; rw [r4 (by omega), uH, uH, uH, show (2 : Nat) ^ 12 = 4096 from rfl, show (2 : Nat) ^ 6 = 64 from rfl] at hO3
    refine ⟨a2, c2, ob2, by rw [hf]; rfl, ?_, hE189, hob2⟩
    rw [hf, jZ]; exact hO3
   refine aE (aB (aH (bP (vs := [_, _, _]) rfl gA rfl rfl rfl rfl fun b191 w192 hO193 hs194 hw195 => ?_))); have hE198 := (Evo.refl ob.toList w).then hw195; have hO199 := hO.evo0 hw195; have hszg := (hE198).size; refine dT rfl rfl rfl rfl fN hO199 (Src.ofOwn hO193 ⟨rfl, rfl, rfl, trivial⟩) (by omega) fun a2 c2 w202 ob2 hO2 hw205 hob206 => ?_; have hob2 : ob2 = ob ∨ ∃ g, ob2 = some g ∧ w.heap.size ≤ g := hob206.imp id (fun ⟨g, h1, h2⟩ => ⟨g, h1, Nat.le_trans hszg h2⟩); refine aN (aC (aA (aO (aV (br1 ?_)))))
   exfalso; omega
  refine aG (aG (aR (aN (aC (aA (cN rfl ?_)))))); refine aE (aB (aH (bP (vs := [_, _, _]) rfl gA rfl rfl rfl rfl fun b210 w211 hO212 hs213 hw214 => ?_))); have hE217 := (Evo.refl ob.toList w).then hw214; have hO218 := hO.evo0 hw214; have hszg := (hE217).size; refine dT rfl rfl rfl rfl fN hO218 (Src.ofOwn hO212 ⟨rfl, rfl, rfl, trivial⟩) (by omega) fun a2 c2 w221 ob2 hO2 hw224 hob225 => ?_; have hob2 : ob2 = ob ∨ ∃ g, ob2 = some g ∧ w.heap.size ≤ g := hob225.imp id (fun ⟨g, h1, h2⟩ => ⟨g, h1, Nat.le_trans hszg h2⟩); refine aN (aC (aA (aO (aV (br1 ?_)))))
  exfalso; omega
theorem EO : HI Tryz.prog 78 9 = some (5, 1, 1) := by kernel_rfl
theorem iP : gB Tryz.prog 80 1 = some 1 := by kernel_rfl
theorem ED : fA Tryz.prog 124 := ⟨_, Tryz.func124, by kernel_rfl, by kernel_rfl⟩
theorem DZ : fA Tryz.prog 141 := ⟨_, Tryz.func141, by kernel_rfl, by kernel_rfl⟩
theorem rV : fA Tryz.prog 70 := ⟨_, Tryz.func70, by kernel_rfl, by kernel_rfl⟩
theorem rT : iS Tryz.prog 78 = some 1 := by kernel_rfl
structure BdN (w : World) (b : Nat) (l : List Nat) (ob : Option Nat) : Prop where
  get : ∃ p a c, w.heap[b]? = some (.cells #[p, .slice a l.length c] 80 (0, 0)) ∧ (p = .pointer none ∨ p = .pointer (some ⟨b, 0, none⟩)) ∧ OwnS w 5 1 a l.length c (iH l) ob
  ne : ∀ g, ob = some g → g ≠ b
theorem BdN.new {w : World} {b : Nat} (h : w.heap[b]? = some (.cells #[.pointer none, .slice none 0 0] 80 (0, 0))) : BdN w b [] none := ⟨⟨_, _, _, h, .inl rfl, OwnS.nil _ _ _⟩, fun g h => by cases h⟩
theorem BdN.evo {X : List Nat} {w w' : World} {b : Nat} {l : List Nat} {ob : Option Nat} (h : BdN w b l ob) (he : Evo X w w') (h1 : b ∉ X) (h2 : ∀ g, ob = some g → g ∉ X) : BdN w' b l ob := by
  obtain ⟨⟨p, a, c, h3, h4, h5⟩, h6⟩ := h
  exact ⟨⟨p, a, c, he.blk h3 h1, h4, h5.evo he h2⟩, h6⟩
theorem BdN.evo0 {w w' : World} {b : Nat} {l : List Nat} {ob : Option Nat} (h : BdN w b l ob) (he : Evo [] w w') : BdN w' b l ob := h.evo he (fun h => by cases h) (fun _ _ h => by cases h)
theorem BdN.lt {w : World} {b : Nat} {l : List Nat} {ob : Option Nat} (h : BdN w b l ob) : b < w.heap.size := by
  obtain ⟨⟨p, a, c, h3, h4, h5⟩, h6⟩ := h
  exact fR h3
theorem BdN.ltO {w : World} {b : Nat} {l : List Nat} {ob : Option Nat} (h : BdN w b l ob) : Lt w ob := by
  obtain ⟨⟨p, a, c, h3, h4, h5⟩, h6⟩ := h
  exact Lt.own h5
def Wr (w : World) (b : Nat) (l : List Nat) (ob : Option Nat) (w' : World) : Prop := ∃ ob', BdN w' b l ob' ∧ Evo (b :: ob.toList) w w' ∧ (ob' = ob ∨ ∃ g, ob' = some g ∧ w.heap.size ≤ g)
def Lo (l : List Nat) : Prop := ∀ b, b ∈ l → b < 256
theorem xX {w : World} {b : Nat} {l : List Nat} {ob : Option Nat} (h : BdN w b l ob) : ∃ p a c, w.heap[b]? = some (.cells #[p, .slice a l.length c] 80 (0, 0)) ∧ (p = .pointer none ∨ p = .pointer (some ⟨b, 0, none⟩)) ∧ OwnS w 5 1 a l.length c (iH l) ob ∧ Apart (some b) ob := by
  obtain ⟨⟨p, a, c, h3, h4, h5⟩, h6⟩ := h
  exact ⟨p, a, c, h3, h4, h5, fun g h1 h2 => by cases h1; exact h6 b h2 rfl⟩
theorem DE {w w' : World} {b : Nat} {l m : List Nat} {ob ob2 : Option Nat} {a2 : Option Addr} {c2 n : Nat} {hap : Apart (some b) ob} (hb : b < w.heap.size) (hn : n = (l ++ m).length) (h1 : w'.heap[b]? = some (.cells #[.pointer (some ⟨b, 0, none⟩), .slice a2 n c2] 80 (0, 0)))
    (h2 : OwnS w' 5 1 a2 n c2 (iH (l ++ m)) ob2) (h3 : Evo (b :: ob.toList) w w') (h4 : ob2 = ob ∨ ∃ g, ob2 = some g ∧ w.heap.size ≤ g) : Wr w b (l ++ m) ob w' := by
  subst hn
  refine ⟨ob2, ⟨⟨_, _, _, h1, .inr rfl, h2⟩, fun g hg e => ?_⟩, h3, h4⟩
  subst e
  rcases h4 with h4 | ⟨g', h4, h5⟩
  · exact hap g rfl (h4 ▸ hg)
  · rw [h4] at hg; cases hg; omega
theorem Wr.then {w w1 w2 : World} {b : Nat} {l m : List Nat} {ob : Option Nat} (h : Wr w b l ob w1) (h2 : ∀ ob1, BdN w1 b l ob1 → Wr w1 b m ob1 w2) : Wr w b m ob w2 := by
  obtain ⟨ob1, k1, k2, k3⟩ := h
  obtain ⟨ob2, k4, k5, k6⟩ := h2 ob1 k1
  refine ⟨ob2, k4, k2.step k5 (fun y hy => ?_), ?_⟩
  · rcases List.mem_cons.1 hy with rfl | hy
    · exact .inl (List.mem_cons_self ..)
    · rcases k3 with rfl | ⟨g, rfl, hg⟩
      · exact .inl (List.mem_cons_of_mem _ hy)
      · rw [List.mem_singleton.1 hy]; exact .inr hg
  · rcases k6 with rfl | ⟨g, rfl, hg⟩
    · exact k3
    · exact .inr ⟨g, rfl, Nat.le_trans k2.size hg⟩
theorem AA {w : World} {a : Option Addr} {c : Nat} {l : List Nat} {ob : Option Nat} {r : Int} (hO : OwnS w 5 1 a l.length c (iH l) ob) (hr : IsR r) (hl : l.length ≤ 100000000) :
    Calls Tryz.prog 124 #[.slice a l.length c, .int .i32 r] w (Ret fun v w' => ∃ a' c' ob', v = .slice a' (l.length + (eB r).length) c' ∧ OwnS w' 5 1 a' (l.length + (eB r).length) c' (iH (l ++ eB r)) ob' ∧ Evo ob.toList w w' ∧ (ob' = ob ∨ ∃ g, ob' = some g ∧ w.heap.size ≤ g)) := by
  have hr' := hr; unfold IsR at hr'; obtain ⟨m, hm⟩ : ∃ m : Nat, r = (m : Int) := ⟨r.toNat, by omega⟩; refine bL (N := 16) Tryz.func124 rfl rfl rfl ?_; refine aE (aB (aN (aC (aA (aE (aE (aB (aH ?_))))))))
  refine aF (kG m rfl Tryz.underlying21 Tryz.underlying163 hm (by show ((m : Nat) : Int) ≤ 4294967295; omega)) ?_
  refine aF (fP rfl rfl) ?_; refine aC (aA (bG rfl (fun hc7 => ?_) (fun hc7 => ?_)))
  ·refine aE (aB (aH (aH (aF (jI m rfl Tryz.underlying21 Tryz.underlying5 hm) ?_)))); refine bP (vs := [_]) rfl gA rfl rfl rfl rfl fun b1 w2 hO3 hs4 hw5 => ?_; have hE8 := (Evo.refl ob.toList w).then hw5; have hO9 := hO.evo0 hw5; have hszg := (hE8).size; refine dT rfl rfl rfl rfl fN hO9 (Src.ofOwn hO3 ⟨rfl, trivial⟩) (by omega) fun a2 c2 w12 ob2 hO2 hw15 hob16 => ?_; have hE18 := hE8.step hw15 (fun y hy => .inl hy); have hob2 : ob2 = ob ∨ ∃ g, ob2 = some g ∧ w.heap.size ≤ g := hob16.imp id (fun ⟨g, h1, h2⟩ => ⟨g, h1, Nat.le_trans hszg h2⟩); refine aN (aC (aA (aO (aM (br1 ?_)))))
   have hf : eB r = [m] := by rw [hm, lJ (hm ▸ hr), jL, if_pos (by omega)]
   have hO3 := hO2; rw [Nat.mod_eq_of_lt (show m < 256 by omega)] at hO3
   refine ⟨a2, c2, ob2, by rw [hf]; rfl, ?_, hE18, hob2⟩
   rw [hf, jZ]; exact hO3
  refine aX (aA (aE (aB (aH (aH ?_))))); refine aP (vs := [_, _]) DZ rfl (AB hO hr (by omega) hl) rfl ?_; rintro _ w20 ⟨a2, c2, ob2, rfl, hO2, hw21, hob2⟩; have hE22 := (Evo.refl ob.toList w).step hw21 (fun y hy => .inl hy); refine aN (aC (aA (aO (br1 ?_)))); exact ⟨a2, c2, ob2, rfl, hO2, hE22, hob2⟩
theorem dB {w : World} {b : Nat} {l m : List Nat} {ob : Option Nat} {s : ByteArray} (h : BdN w b l ob) (hs : s = bstr m) (hm : Lo m) (hl : l.length ≤ 100000000) (hl2 : m.length ≤ 100000000) :
    Calls Tryz.prog 49 #[.pointer (some ⟨b, 0, none⟩), .string s] w (Ret fun v w' => Wr w b (l ++ m) ob w') := by
  obtain ⟨p, a, c, hJ, hp, hO, hap⟩ := xX h; have hbl := fR hJ; refine bL (N := 19) Tryz.func49 rfl rfl rfl ?_; refine aE (aB (aN (aN (aC (aA (aE (aB (aH (aP (vs := [_]) rV rfl (qS hJ hp) rfl ?_))))))))); rintro _ w1 ⟨rfl, hJ1, hw2⟩
  have hE3 := (Evo.refl (b :: ob.toList) w).step hw2 (fun y hy => .inl (by rw [List.mem_singleton.1 hy]; exact List.mem_cons_self ..))
  have hO4 := hO.evo hw2 hap.symm.own1; refine aC (aA (aE (aB (aH (aH (aF (aQ rfl) (aF (aD rfl iP) (aF (aI rfl mV (aJ hJ1 rfl)) (aH ?_))))))))); have hszg := (hE3).size
  refine dT rfl rfl rfl rfl EO hO4 (by rw [hs]; exact Src.bstr hm) (by omega) fun a2 c2 w7 ob2 hO2 hw10 hob11 => ?_
  have hA12 := hap.app (Lt.blk hJ1) hob11; have hE13 := hE3.step hw10 (fun y hy => .inl (List.mem_cons_of_mem _ hy)); have hB14 := hw10.blk hJ1 hap.nmem; have hob2 : ob2 = ob ∨ ∃ g, ob2 = some g ∧ w.heap.size ≤ g := hob11.imp id (fun ⟨g, h1, h2⟩ => ⟨g, h1, Nat.le_trans hszg h2⟩); refine aF (aQ rfl) (aF (aD rfl iP) (bI rfl rfl (rfl) rT hB14 rfl fun w15 hB16 hw17 => ?_))
  have hE18 := hE13.step hw17 (fun y hy => .inl (by rw [List.mem_singleton.1 hy]; exact List.mem_cons_self ..))
  have hO19 := hO2.evo hw17 hA12.symm.own1
  try simp only [cV, Nat.reduceAdd] at hB16
  refine aC (aA (aE (aB (aH (aF (cT rfl Tryz.underlying9 rfl) ?_))))); refine aN (aN (aC (aA (aO (dE rfl rfl rfl ?_)))))
  exact DE (hap := hap) hbl (by rw [List.length_append]) hB16 (by rw [jZ]; exact hO19) hE18 hob2
theorem qD {w : World} {b : Nat} {l : List Nat} {ob : Option Nat} (x : Nat) (h : BdN w b l ob) (hl : l.length ≤ 100000000) :
    Calls Tryz.prog 42 #[.pointer (some ⟨b, 0, none⟩), .int .u8 (x : Nat)] w (Ret fun v w' => Wr w b (l ++ [x]) ob w') := by
  obtain ⟨p, a, c, hJ, hp, hO, hap⟩ := xX h; have hbl := fR hJ; refine bL (N := 17) Tryz.func42 rfl rfl rfl ?_; refine aE (aB (aN (aC (aA (aE (aB (aH (aP (vs := [_]) rV rfl (qS hJ hp) rfl ?_)))))))); rintro _ w1 ⟨rfl, hJ1, hw2⟩
  have hE3 := (Evo.refl (b :: ob.toList) w).step hw2 (fun y hy => .inl (by rw [List.mem_singleton.1 hy]; exact List.mem_cons_self ..))
  have hO4 := hO.evo hw2 hap.symm.own1; refine aC (aA (aE (aB (aH (aH (aF (aQ rfl) (aF (aD rfl iP) (aF (aI rfl mV (aJ hJ1 rfl)) (aH (bP (vs := [_]) rfl gA rfl rfl rfl rfl fun b5 w6 hO7 hs8 hw9 => ?_)))))))))); have hE13 := hE3.then hw9; have hB14 := hw9.blk0 hJ1; have hO15 := hO4.evo0 hw9; have hszg := (hE13).size; refine dT rfl rfl rfl rfl fN hO15 (Src.ofOwn hO7 ⟨rfl, trivial⟩) (by omega) fun a2 c2 w18 ob2 hO2 hw21 hob22 => ?_; have hA23 := hap.app (Lt.blk hB14) hob22; have hE25 := hE13.step hw21 (fun y hy => .inl (List.mem_cons_of_mem _ hy)); have hB26 := hw21.blk hB14 hap.nmem; have hob2 : ob2 = ob ∨ ∃ g, ob2 = some g ∧ w.heap.size ≤ g := hob22.imp id (fun ⟨g, h1, h2⟩ => ⟨g, h1, Nat.le_trans hszg h2⟩); refine aF (aQ rfl) (aF (aD rfl iP) (bI rfl rfl (rfl) rT hB26 rfl fun w28 hB29 hw30 => ?_))
  have hE31 := hE25.step hw30 (fun y hy => .inl (by rw [List.mem_singleton.1 hy]; exact List.mem_cons_self ..))
  have hO33 := hO2.evo hw30 hA23.symm.own1
  try simp only [cV, Nat.reduceAdd] at hB29
  refine aC (aA (aE (aB (aN (aC (aA (aO (br1 ?_))))))))
  exact DE (hap := hap) hbl (by rw [List.length_append]; rfl) hB29 (by rw [jZ]; exact hO33) hE31 hob2
theorem lW {w : World} {b : Nat} {l : List Nat} {ob : Option Nat} {r : Int} (h : BdN w b l ob) (hr : IsR r) (hl : l.length ≤ 100000000) :
    Calls Tryz.prog 100 #[.pointer (some ⟨b, 0, none⟩), .int .i32 r] w (Ret fun v w' => Wr w b (l ++ eB r) ob w') := by
  have hfl := sN r; obtain ⟨p, a, c, hJ, hp, hO, hap⟩ := xX h; have hbl := fR hJ; refine bL (N := 30) Tryz.func100 rfl rfl rfl ?_; refine aE (aB (aN (aN (aC (aA (aE (aB (aH (aP (vs := [_]) rV rfl (qS hJ hp) rfl ?_))))))))); rintro _ w1 ⟨rfl, hJ1, hw2⟩
  have hE3 := (Evo.refl (b :: ob.toList) w).step hw2 (fun y hy => .inl (by rw [List.mem_singleton.1 hy]; exact List.mem_cons_self ..))
  have hO4 := hO.evo hw2 hap.symm.own1; refine aC (aA (aE (aB (aH (aF (aQ rfl) (aF (aD rfl iP) (aF (aI rfl mV (aJ hJ1 rfl)) (aF (bK rfl Tryz.underlying78 rfl) ?_)))))))); refine aN (aC (aA (aE (aB (aH (aH (aF (aQ rfl) (aF (aD rfl iP) (aF (aI rfl mV (aJ hJ1 rfl)) (aH (aP (vs := [_, _]) ED rfl (AA hO4 hr hl) rfl ?_))))))))))); rintro _ w5 ⟨a2, c2, ob2, rfl, hO2, hw6, hob1⟩; have hsz9 := hE3.size; have hob2 : ob2 = ob ∨ ∃ g, ob2 = some g ∧ w.heap.size ≤ g := hob1.imp id (fun ⟨g, h1, h2⟩ => ⟨g, h1, Nat.le_trans hsz9 h2⟩); have hE7 := hE3.step hw6 (fun y hy => .inl (List.mem_cons_of_mem _ hy)); have hB8 := hw6.blk hJ1 (hap.nmem); have hA99 := fU hap (Lt.blk hJ) hob2; refine aF (aQ rfl) (aF (aD rfl iP) (bI rfl rfl (rfl) rT hB8 rfl fun w9 hB10 hw11 => ?_))
  have hE12 := hE7.step hw11 (fun y hy => .inl (by rw [List.mem_singleton.1 hy]; exact List.mem_cons_self ..))
  have hO13 := hO2.evo hw11 hA99.symm.own1
  try simp only [cV, Nat.reduceAdd] at hB10
  refine aC (aA (aE (aB (aH (aF (aQ rfl) (aF (aD rfl iP) (aF (aI rfl mV (aJ hB10 rfl)) (aF (bK rfl Tryz.underlying78 rfl) ?_)))))))); refine aH ?_; refine aF (gR rfl rfl (by omega) (by omega)) ?_; refine aN (aN (aC (aA (aO (dE rfl rfl rfl ?_))))); exact DE (hap := hap) hbl (by rw [List.length_append]) hB10 hO13 hE12 hob2
theorem NM {w : World} {b : Nat} {l : List Nat} {ob : Option Nat} (h : BdN w b l ob) :
    Calls Tryz.prog 51 #[.pointer (some ⟨b, 0, none⟩)] w (Ret fun v w' => v = iv (l.length : Nat) ∧ Evo [] w w') := by
  obtain ⟨p, a, c, hJ, hp, hO, hap⟩ := xX h; have hbl := fR hJ; refine bL (N := 8) Tryz.func51 rfl rfl rfl ?_; refine aE (aB (aN (aC (aA (aE (aB (aH (aF (aQ rfl) (aF (aD rfl iP) (aF (aI rfl mV (aJ hJ rfl)) (aF (bK rfl Tryz.underlying78 rfl) ?_))))))))))); refine aN (aC (aA (aO (br1 ?_)))); exact ⟨rfl, (Evo.refl [] w)⟩
theorem tQ {w : World} {b : Nat} {l : List Nat} {ob : Option Nat} (h : BdN w b l ob) (hl : Lo l) (hg : ∀ g, ob = some g → b ≤ g) :
    Calls Tryz.prog 43 #[.pointer (some ⟨b, 0, none⟩)] w (Ret fun v w' => v = .string (bstr l) ∧ Evo (XB b w) w w') := by
  obtain ⟨⟨p, a, c, hJ, hp, hO⟩, hne⟩ := h
  have hbc := rR hl
  have hll : (bstr l).data.toList.length = l.length := by simp [bstr]
  have hown : w.ownsRow b 5 1 (.slice a l.length c) (Lib.byteCells (bstr l).data.toList).length (Lib.byteCells (bstr l).data.toList) := by
    rw [Lib.byteCells_length, hbc, hll]
    refine ⟨hO.1, ?_⟩
    rcases hO.2 with ⟨h1, h2, h3⟩ | ⟨g, cap, cur, h1, h2, h3, h4⟩
    · exact .inl ⟨h1, h2⟩
    · exact .inr ⟨g, cap, cur, h2, hg g h1, h3, h4⟩
  have hne2 : (Value.slice a l.length c).ownBlock ≠ some b := by
    rcases hO.2 with ⟨h1, h2, h3⟩ | ⟨g, cap, cur, h1, h2, h3, h4⟩
    · rw [h1]; simp [Value.ownBlock]
    · rw [h2]; simp only [Value.ownBlock]; intro e; cases e; exact hne _ h1 rfl
  have hB : Lib.IsBuilder 80 5 b b (Lib.byteCells (bstr l).data.toList) w := by
    rcases hp with rfl | rfl
    · exact .inl ⟨Nat.le_refl _, _, hJ, hown, hne2⟩
    · exact .inr ⟨Nat.le_refl _, _, hJ, hown, hne2⟩
  refine (qC b b _ w hB (Nat.le_of_lt (fR hJ))).mono ?_
  rintro e w' ⟨rfl, h1⟩
  exact ⟨_, rfl, rfl, UT h1⟩
theorem PK : oQ Tryz.prog 5 = some false := by kernel_rfl
theorem EA : fA Tryz.prog 140 := ⟨_, Tryz.func140, by kernel_rfl, by kernel_rfl⟩
theorem DT : fA Tryz.prog 157 := ⟨_, Tryz.func157, by kernel_rfl, by kernel_rfl⟩
theorem DR : fA Tryz.prog 167 := ⟨_, Tryz.func167, by kernel_rfl, by kernel_rfl⟩
theorem DQ : fA Tryz.prog 168 := ⟨_, Tryz.func168, by kernel_rfl, by kernel_rfl⟩
theorem DP : fA Tryz.prog 182 := ⟨_, Tryz.func182, by kernel_rfl, by kernel_rfl⟩
theorem mU : iS Tryz.prog 5 = some 1 := by kernel_rfl
theorem DI : oB Tryz.prog 187 = some #[.int .u8 0, .int .u8 0, .int .u8 0, .int .u8 0, .int .u8 0, .int .u8 0, .int .u8 0, .int .u8 0, .int .u8 0, .int .u8 0, .int .u8 0, .int .u8 0, .int .u8 0, .int .u8 0, .int .u8 0, .int .u8 0, .int .u8 0, .int .u8 0, .int .u8 0, .int .u8 0, .int .u8 0, .int .u8 0, .int .u8 0, .int .u8 0, .int .u8 0, .int .u8 0, .int .u8 0, .int .u8 0, .int .u8 0, .int .u8 0, .int .u8 0, .int .u8 0, .int .u8 0, .int .u8 0, .int .u8 0, .int .u8 0, .int .u8 0, .int .u8 0, .int .u8 0, .int .u8 0, .int .u8 0, .int .u8 0, .int .u8 0, .int .u8 0, .int .u8 0, .int .u8 0, .int .u8 0, .int .u8 0, .int .u8 0, .int .u8 0, .int .u8 0, .int .u8 0, .int .u8 0, .int .u8 0, .int .u8 0, .int .u8 0, .int .u8 0, .int .u8 0, .int .u8 0, .int .u8 0, .int .u8 0, .int .u8 0, .int .u8 0, .int .u8 0, .int .u8 0] := by kernel_rfl
section
variable {P : Program} {σ : Env} {w : World} {dst : Option Nat} {T : TypeId} {pos : String} {after : Array Edge} {g : Option (Nat × Bool)}
theorem ex_unR {op : UnOp} {t : TypeId} {x : Operand} {a r : Value} (hx : σ.ev x = some a) (h : ∀ w, (execOp (fun _ => a) ⟨none, .unOp op t x, T, pos, after, none⟩).run P w = .ok (.value r) w) : Ex P σ ⟨dst, .unOp op t x, T, pos, after, g⟩ w r w := fun ρ ha => by
  have h1 := h w
  simp only [execOp, ha _ _ hx] at h1 ⊢
  exact h1
theorem JY {x lo : Operand} {t e : TypeId} {len sz b l : Nat} {lv : Int} (hx : σ.ev x = some (.pointer (some ⟨b, 0, none⟩))) (hlo : σ.ev lo = some (.int .i64 lv)) (ht : P.underlying t = some (.array len e)) (hs : iS P e = some sz) (hl : lv = (l : Int)) (hle : l < len) :
    Ex P σ ⟨dst, .slice t x (some lo) none none, T, pos, after, g⟩ w (.slice (some ⟨b, l * sz, none⟩) (len - l) (len - l)) w := fun ρ hρ => by
  subst hl
  have hb : (Instr.sliceBounds false len len (some (.int .i64 (l : Int))) none none).run P w = .ok (l, len, len) w := by
    simp [Instr.sliceBounds, Instr.sliceBound, asIntOf, Nat.le_of_lt hle]
  simp only [execOp, hρ x _ hx, Option.map_some, Option.map_none, hρ lo _ hlo, Instr.sliceAt, run_underlying ht, Sem.run_bind, Result.andThen_ok, Instr.sureAddr, Sem.run_pure, hb, nV hs]
  rw [if_neg (by omega)]
  simp [Addr.add]
  exact fun h => h.symm
theorem zZ {x : Operand} {t t' e : TypeId} {b o n c : Nat} {l : List Nat} (hx : σ.ev x = some (.slice (some ⟨b, o, none⟩) n c)) (hs : P.underlying t = some (.slice e)) (he : P.underlying e = some (.int .u8)) (hd : P.underlying t' = some .string)
    (hn : l.length = n) (hc : ∀ j v, (iH l)[j]? = some v → w.cell? ⟨b, o + j, none⟩ = some v) : Ex P σ ⟨dst, .convert t t' x, T, pos, after, g⟩ w (.string (bstr l)) w := fun ρ h => by
  have h1 := run_convert_bytes_string (P := P) w t t' e (some ⟨b, o, none⟩) n c hs he hd
  have h3 : (loadCells ⟨b, o, none⟩ n).run P w = .ok ((l.map fun (c : Nat) => (c : Int)).map (Value.int .u8)).toArray w := by
    have h4 : iH l = (l.map fun (c : Nat) => (c : Int)).map (Value.int .u8) := by simp [iH, Function.comp_def]
    rw [← h4]
    have := yF (P := P) (w := w) (b := b) (o := o) (vs := iH l) hc
    rw [show (iH l).length = n by simp [iH, hn]] at this
    exact this
  have h2 : (Conv.bytesToString (.slice (some ⟨b, o, none⟩) n c)).run P w = .ok (.string (bstr l)) w := by
    rw [run_bytesToString (P := P) w _ n c _ h3, List.foldl_map, tA]
    congr 2
  simp only [execOp, h x _ hx, Sem.run_bind, h1, h2, Result.andThen_ok, Sem.run_pure]
end
def hx (d : Nat) : Nat := if d < 10 then 48 + d else 87 + d
def hexL (n : Nat) : List Nat := if n < 16 then [hx n] else hexL (n / 16) ++ [hx (n % 16)]
termination_by n
decreasing_by omega
theorem sL {n : Nat} (h : n < 16) : hexL n = [hx n] := by rw [hexL, if_pos h]
theorem oX {n : Nat} (h : ¬ n < 16) : hexL n = hexL (n / 16) ++ [hx (n % 16)] := by rw [hexL, if_neg h]
abbrev UG : ByteArray := ByteArray.mk #[48, 49, 50, 51, 52, 53, 54, 55, 56, 57, 97, 98, 99, 100, 101, 102, 103, 104, 105, 106, 107, 108, 109, 110, 111, 112, 113, 114, 115, 116, 117, 118, 119, 120, 121, 122]
theorem xR : ∀ n, n < 16 → sb UG n = hx n := by decide +kernel
theorem UX (u : Nat) : u &&& 15 = u % 16 := by
  have := Nat.and_two_pow_sub_one_eq_mod u 4
  rw [show 2 ^ 4 - 1 = 15 from rfl, show (2 : Nat) ^ 4 = 16 from rfl] at this
  exact this
abbrev gTz : Nat := 3
def Tab64 (w : World) : Prop := ∀ k, k < 64 → w.cell? ⟨gTz, k, none⟩ = some (.int .u8 ((Lib.deBruijn64tab.getD k 0 : Nat) : Int))
theorem Tab64.evo {X : List Nat} {w w' : World} (h : Tab64 w) (he : Evo X w w') (hx : gTz ∉ X) : Tab64 w' := fun k hk => he.cell (h k hk) hx
structure FbG where
  u : Nat
  i : Nat
  f : Nat
  D : List Nat
  xs : List Value
structure FbI (w wr : World) (ba N : Nat) (x : FbG) : Prop where
  own : OwnS wr 187 1 (some ⟨ba, 0, none⟩) 65 65 x.xs (some ba)
  hi : x.i + x.D.length = 65
  hf : x.f + x.D.length = 8
  h1 : 1 ≤ x.f
  hu : x.u < 16 ^ x.f
  eq : hexL N = hexL x.u ++ x.D
  cs : x.xs.drop x.i = iH x.D
  ge : Ge w (some ba)
theorem TR {xs : List Value} {D : List Nat} {i d : Nat} (hl : xs.length = 65) (hi : i + D.length = 65) (h0 : 1 ≤ i) (h : xs.drop i = iH D) : (xs.set (i - 1) (.int .u8 (d : Nat))).drop (i - 1) = iH (d :: D) := by
  rw [List.drop_eq_getElem_cons (by simp; omega)]
  have e1 : (xs.set (i - 1) (Value.int .u8 (d : Nat)))[i - 1]'(by simp; omega) = .int .u8 (d : Nat) := by simp
  rw [e1, show i - 1 + 1 = i by omega]
  have e2 : (xs.set (i - 1) (Value.int .u8 (d : Nat))).drop i = xs.drop i := by
    rw [List.drop_set_of_lt (by omega)]
  rw [e2, h]
  rfl
theorem JF {w : World} {b n : Nat} {cs : Array Value} {e : TypeId} (h : w.heap[b]? = some (.cells cs e (0, 0))) (hs : cs.size = n) (hn : n ≤ 1000000) : OwnS w e 1 (some ⟨b, 0, none⟩) n n cs.toList (some b) :=
  ⟨by simp [hs], .inr ⟨b, n, cs, rfl, rfl, h, Nat.le_refl _, by unfold maxLen; omega, by simp [hs], by rw [Nat.mul_one, ← hs]; exact List.take_of_length_le (by simp)⟩⟩
theorem JO {D : List Nat} {xs : List Value} {i j : Nat} {v : Value} (h : xs.drop i = iH D) (hj : (iH D)[j]? = some v) : xs[i + j]? = some v := by rw [← h, List.getElem?_drop] at hj; exact hj
theorem tz16_ok {w : World} (ht : Tab64 w) : Calls Tryz.prog 182 #[.int .u64 16] w (Ret fun v w' => v = iv 4 ∧ Evo [] w w') := by
  refine bL (N := 14) Tryz.func182 rfl rfl rfl ?_; refine aE (aB (aN (aC (aA (aE (aE (aB (aH ?_)))))))); refine aF (fB (r := .bool false) rfl rfl (fun w => by kernel_rfl)) ?_; refine aC (aA (cN rfl ?_)); refine aX (aA (aE (aB (aH (aH ?_))))); refine aF (ex_unR (a := .int .u64 16) (r := .int .u64 18446744073709551600) rfl (fun w => by kernel_rfl)) ?_; refine aF (fB (r := .int .u64 16) rfl rfl (fun w => by kernel_rfl)) ?_; refine aF (fB (r := .int .u64 4573923408821661840) rfl rfl (fun w => by kernel_rfl)) ?_; refine aF (fB (r := .int .u64 15) rfl rfl (fun w => by kernel_rfl)) ?_; refine aF (kB (n := 15) rfl rfl Tryz.underlying205 rfl (by decide) mU) ?_; refine aF (aI (v := .int .u8 4) rfl PK (ht 15 (by decide))) ?_; refine aF (kG 4 rfl Tryz.underlying5 Tryz.underlying3 rfl (by decide)) ?_; refine aN (aC (aA (aO (br1 ?_)))); exact ⟨rfl, (Evo.refl [] w)⟩
theorem QA {w : World} (ht : Tab64 w) : Calls Tryz.prog 168 #[.int .u64 16] w (Ret fun v w' => v = iv 4 ∧ Evo [] w w') := by
  refine bL (N := 8) Tryz.func168 rfl rfl rfl ?_; refine aE (aB (aN (aC (aA (aE (cN rfl ?_)))))); refine aX (aA (aE (aB (aH (aP (vs := [_]) DP rfl (tz16_ok ht) rfl ?_))))); rintro _ w1 ⟨rfl, hw2⟩; have hE3 := (Evo.refl [] w).then hw2; refine aN (aC (aA (aO (br1 ?_)))); exact ⟨rfl, hE3⟩
theorem RD {w : World} : Calls Tryz.prog 167 #[.int .i64 16] w (Ret fun v w' => v = .bool true ∧ Evo [] w w') := by
  refine bL (N := 8) Tryz.func167 rfl rfl rfl ?_; refine aE (aB (aN (aC (aA (aE (aB (aH (aH ?_)))))))); refine aF (fB (r := .int .i64 15) rfl rfl (fun w => by kernel_rfl)) ?_; refine aF (fB (r := .int .i64 0) rfl rfl (fun w => by kernel_rfl)) ?_; refine aF (fB (r := .bool true) rfl rfl (fun w => by kernel_rfl)) ?_; refine aN (aC (aA (aO (br1 ?_)))); exact ⟨rfl, (Evo.refl [] w)⟩
theorem TQ {w : World} (ht : Tab64 w) (N : Nat) (hN : N < 16 ^ 8) (hg : gTz < w.heap.size) : Calls Tryz.prog 157 #[.slice none 0 0, .int .u64 (N : Nat), .int .i64 16, .bool false, .bool false] w (Ret fun v w' => v = .tuple #[.slice none 0 0, .string (bstr (hexL N))] ∧ Evo [] w w') := by
  refine bL (N := 102) Tryz.func157 rfl rfl rfl ?_; refine aE (aB (aN (aN (aC (aA (aE (aE (aB (aH ?_))))))))); refine aF (fB (r := .bool false) rfl rfl (fun w => by kernel_rfl)) ?_; refine aH (aK (aH (aK ?_))); refine aF (fB (r := .bool false) rfl rfl (fun w => by kernel_rfl)) ?_; refine aR (aH (aK (aH (aK ?_)))); refine aF (fB (r := .bool false) rfl rfl (fun w => by kernel_rfl)) ?_; refine aR (aC (aA (cN rfl ?_))); refine aX (aA (aE (aB (dH rfl DI fun ba w1 hB2 hs3 hw4 => ?_)))); have hsz_ba := hs3; have hG5 := Ge.new (Evo.refl [] w) hs3; have hE6 := (Evo.refl [] w).then hw4; refine aC (aA (aE (aB (aN (aC (aA (aE (aE (aB (aH (aC (aA (cN rfl ?_))))))))))))); refine aX (aA (aE (aE (aB (aH (aP (vs := [_]) DR rfl (RD) rfl ?_)))))); rintro _ w7 ⟨rfl, hw8⟩; have hE9 := hE6.then hw8; have hB10 := hw8.blk0 hB2; refine aC (aA (cM rfl ?_)); refine aE (aB (aH ?_)); refine aF (kG 16 rfl Tryz.underlying3 Tryz.underlying181 rfl (by decide)) ?_; refine aP (vs := [_]) DQ rfl (QA (ht.evo hE9 (by simp))) rfl ?_; rintro _ w11 ⟨rfl, hw12⟩; have hE13 := hE9.then hw12; have hB14 := hw12.blk0 hB10
  refine aF (kG 4 rfl Tryz.underlying3 Tryz.underlying181 rfl (by decide)) ?_; refine aN (aC (aA (aE (aB (aH ?_))))); refine aF (kG 16 rfl Tryz.underlying3 Tryz.underlying176 rfl (by decide)) ?_; refine aN (aC (aA (aE (aB (aH ?_))))); refine aF (kG 16 rfl Tryz.underlying3 Tryz.underlying181 rfl (by decide)) ?_; refine aF (fB (r := .int .u64 15) rfl rfl (fun w => by kernel_rfl)) ?_; refine aN (aC (aA (aE (bS ?_))))
  refine fC (α := FbG) (⟨N, 65, 8, [], _⟩) (fun x => [(1, .int .u64 (x.u : Nat)), (13, .int .i64 (x.i : Nat))]) [(0, _), (3, _), (4, _), (10, _), (11, _), (12, _), (14, _), (15, _), (16, _)] (fun x wr => Evo [] w wr ∧ (FbI w wr ba N x)) (fun x => x.u) ⟨rfl, rfl, trivial⟩ ⟨rfl, rfl, rfl, rfl, rfl, rfl, rfl, rfl, rfl, trivial⟩ ⟨hE13, ⟨JF hB14 rfl (by decide), rfl, rfl, (by show 1 ≤ 8; decide), hN, (List.append_nil _).symm, rfl, hG5⟩⟩ ?_
  rintro ⟨u, i, f, D, xs⟩ wr15 ⟨hV16, ⟨hown, hi, hf, h1, hu, heq, hcs, hge⟩⟩; show CW _ _ _ _ [(1, .int .u64 (u : Nat)), (13, .int .i64 (i : Nat)), (0, _), (3, _), (4, _), (10, _), (11, _), (12, _), (14, _), (15, _), (16, _)] _
  try dsimp only at hown
  try dsimp only at hi
  try dsimp only at hf
  try dsimp only at h1
  try dsimp only at hu
  try dsimp only at heq
  try dsimp only at hcs
  try dsimp only at hge
  have hlx0 : xs.length = 65 := by have := hown.length; omega
  have hu64 : u < 16 ^ 8 := Nat.lt_of_lt_of_le hu (Nat.pow_le_pow_right (by decide) (by omega)); replace hu64 : u < 4294967296 := hu64; refine aE (aE (aB (aH (aH (aF (fG rfl rfl) ?_))))); refine aC (aA (bG rfl (fun hc46 => ?_) (fun hc46 => ?_)))
  ·obtain ⟨f', rfl⟩ : ∃ f', f = f' + 2 := ⟨f - 2, by have h9 : f ≠ 1 := fun h9 => (by subst h9; simp at hu; omega); omega⟩
   refine aX (aA (bS (aE (aB (aH ?_))))); refine aF (gR rfl rfl (by omega) (by omega)) ?_; rw [show ((i : Nat) : Int) - 1 = ((i - 1 : Nat) : Int) by omega]; refine aN (aC (aA (aE (aB (aH (aH (aH ?_)))))))
   refine aF (kC (m := u) (n := 15) rfl rfl rfl rfl rfl (by show u < 2 ^ 64; omega) (by decide)) ?_
   refine aF (gH (s := UG) (n := u &&& 15) rfl rfl Tryz.underlying9 rfl (by rw [UX]; show u % 16 < 36; omega)) ?_
   refine aF (kB (n := i - 1) rfl rfl Tryz.underlying187 (by omega) (by omega) mU) ?_
   obtain ⟨g26, cur17, hg18, hx19, hcu20, hcs21, -⟩ := hown.at (by omega)
   cases hx19; refine tE rfl rfl (rfl) mU hcu20 (hown.inb hcs21 (k := (i - 1)) (j := 0) (by omega) (by omega) (by omega)) fun w22 hB23 hw24 => ?_; replace hw24 := tO hg18 hw24; have hO25 := hown.set' hg18 hcu20 hB23; have hE27 := hV16.step hw24 hge.mem; refine aC (aA (aB (aH (aH ?_)))); refine aF (kA (m := u) (n := 4) rfl rfl rfl rfl (by decide)) ?_; refine aN (aC (aZ (bM ?_))); refine ⟨⟨u / 2 ^ 4, i - 1, f' + 1, hx (u % 16) :: D, xs.set (0 + (i - 1) * 1) (.int .u8 ((sb UG (u &&& 15) : Nat) : Int))⟩, ?_, ⟨rfl, rfl, trivial⟩, ⟨rfl, rfl, rfl, rfl, rfl, rfl, rfl, rfl, rfl, trivial⟩, hE27, ?_⟩
   · (try dsimp only); show u / 16 < u; omega
   try dsimp only
   have hdv : u / 2 ^ 4 = u / 16 := rfl
   refine ⟨hO25, (by show i - 1 + (D.length + 1) = 65; omega), (by show f' + 1 + (D.length + 1) = 8; omega), (by show 1 ≤ f' + 1; omega), ?_, ?_, ?_, hge⟩
   · rw [hdv]; exact Nat.div_lt_of_lt_mul (by rw [Nat.pow_succ] at hu; rw [Nat.mul_comm]; exact hu)
   · rw [heq, oX (by omega), hdv]; simp
   · have h8 := TR (d := hx (u % 16)) hlx0 hi (by omega) hcs; rw [← xR (u % 16) (by omega), ← UX] at h8; rw [show 0 + (i - 1) * 1 = i - 1 by omega, ← xR (u % 16) (by omega), ← UX]; exact h8
  refine dW (cJ (cJ (dV (aA ?_)))); refine aE ?_; have hD0 := hcs; refine aB (aH ?_); refine aF (gR rfl rfl (by omega) (by omega)) ?_; rw [show ((i : Nat) : Int) - 1 = ((i - 1 : Nat) : Int) by omega]; refine aN (aC (aA (aB (aH (aH ?_)))))
  refine aF (gH (s := UG) (n := u) rfl rfl Tryz.underlying9 rfl (by show u < 36; omega)) ?_
  refine aF (kB (n := i - 1) rfl rfl Tryz.underlying187 (by omega) (by omega) mU) ?_
  obtain ⟨g37, cur28, hg29, hx30, hcu31, hcs32, -⟩ := hown.at (by omega)
  cases hx30; refine tE rfl rfl (rfl) mU hcu31 (hown.inb hcs32 (k := (i - 1)) (j := 0) (by omega) (by omega) (by omega)) fun w33 hB34 hw35 => ?_; replace hw35 := tO hg29 hw35; have hO36 := hown.set' hg29 hcu31 hB34; have hE38 := hV16.step hw35 hge.mem; refine aC (aA (aE (aE (aB (aH (aC (aA (cN rfl ?_)))))))); refine aX (aA (aE (aE (aB (aH (aC (aA (cN rfl ?_)))))))); refine aX (aA (aE ?_)); have hO30 := hO36; rw [show 0 + (i - 1) * 1 = i - 1 by omega] at hO30; obtain ⟨g9, hg9, ha9, hcell⟩ := hO30.cells (by omega); cases hg9
  have hlx : xs.length = 65 := by have := hown.length; omega
  have hdrop := TR (d := hx u) hlx hi (by omega) hcs; rw [← xR u (by omega)] at hdrop; refine aB (aH ?_); refine aF (JY (l := i - 1) rfl rfl Tryz.underlying187 mU (by omega) (by omega)) ?_
  refine aF (zZ (l := sb UG u :: D) rfl Tryz.underlying78 Tryz.underlying5 Tryz.underlying9 (by simp; omega) (fun j v hj => by have h8 := hcell _ _ (JO hdrop hj); rw [Nat.mul_one]; rw [Nat.zero_add] at h8; exact h8)) ?_
  refine aN (aC (aA (aO (dE rfl rfl rfl ?_)))); refine ⟨?_, hE38⟩
  rw [heq, sL (by omega), ← xR u (by omega)]; rfl
theorem ifmt_ok {w : World} (ht : Tab64 w) (N : Nat) (hN : N < 16 ^ 8) (hg : gTz < w.heap.size) : Calls Tryz.prog 140 #[.int .i64 (N : Nat), .int .i64 16] w (Ret fun v w' => v = .string (bstr (hexL N)) ∧ Evo [] w w') := by
  have hN2 : N < 4294967296 := hN; refine bL (N := 54) Tryz.func140 rfl rfl rfl ?_; refine aE (aB (aN (aC (aA (aE (aE (aB (aH ?_)))))))); refine aF (fB (r := .bool false) rfl rfl (fun w => by kernel_rfl)) ?_; refine aC (aA (cN rfl ?_)); refine aX (aA (aE (aB (aH ?_))))
  refine aF (kG N rfl Tryz.underlying2 Tryz.underlying176 rfl (by show ((N : Nat) : Int) ≤ 18446744073709551615; omega)) ?_
  refine aH (aH (aF (dF rfl rfl) ?_)); rw [show decide (((N : Nat) : Int) < 0) = false from decide_eq_false (by omega)]; refine aP (vs := [_, _, _, _, _]) DT rfl (TQ (ht.evo (Evo.refl [] w) (by simp)) N hN (Nat.lt_of_lt_of_le hg (Evo.refl [] w).size)) rfl ?_; rintro _ w1 ⟨rfl, hw2⟩; have hE3 := (Evo.refl [] w).then hw2; refine aH (aF (cO rfl rfl) ?_); refine aF (cO rfl rfl) ?_; refine aN (aN (aC (aA (aE (aB (aH (aN (aC (aA (aO (br1 ?_))))))))))); exact ⟨rfl, hE3⟩
theorem TO {w : World} (ht : Tab64 w) (N : Nat) (hN : N < 16 ^ 8) : Calls Tryz.prog 123 #[.int .i64 (N : Nat), .int .i64 16] w (Ret fun v w' => v = .string (bstr (hexL N)) ∧ Evo [] w w') := by
  have hg : gTz < w.heap.size := World.block_lt_of_cell? w _ (ht 0 (by decide)); refine bL (N := 8) Tryz.func123 rfl rfl rfl ?_; refine aE (aB (aN (aC (aA (aE (aB (aH (aH ?_)))))))); refine aP (vs := [_, _]) EA rfl (ifmt_ok (ht.evo (Evo.refl [] w) (by simp)) N hN (Nat.lt_of_lt_of_le hg (Evo.refl [] w).size)) rfl ?_; rintro _ w1 ⟨rfl, hw2⟩; have hE3 := (Evo.refl [] w).then hw2; refine aN (aC (aA (aO (br1 ?_)))); exact ⟨rfl, hE3⟩
theorem EN : Build Tryz.prog 58 #[(0, 1)] #[.int .i64 0] := ⟨_, .agg #[.int .i64 0], Tryz.underlying58, by kernel_rfl, rfl, fun w => by kernel_rfl⟩
abbrev flt (e : Int) : Value := .iface 58 (.agg #[iv e])
theorem eR {w : World} (e : Int) : Calls Tryz.prog 37 #[iv e] w (RetP (fun _ _ => False) (fun v w' => v = flt e ∧ Evo [] w w')) := by
  refine bL (N := 5) Tryz.func37 rfl rfl rfl ?_; refine aB (aH (aF (eX (vs := [(0, _)]) EN rfl (cells := [_]) rfl) ?_)); refine aF (TX rfl (fun w => by kernel_rfl)) ?_; refine PO rfl ?_; exact UQ ⟨rfl, (Evo.refl [] w)⟩
end Go.Proofs.YtljadkcojnlioaaGreatDoor
namespace Go.Proofs.YtljadkcojnlioaaGreatDoor
open Go.RowKit Go.W
inductive Good : Rx → Prop
  | mk {x : Rx} : NodeP x → (x.kind = 7 → 1 ≤ x.cap ∧ x.cap ≤ 100) → (∀ k, k ∈ x.kids → Good k) → Good x
theorem Good.node {x : Rx} (h : Good x) : NodeP x := by cases h; assumption
theorem Good.kid {x : Rx} (h : Good x) : ∀ k, k ∈ x.kids → Good k := by cases h; assumption
structure In where
  op : Int
  out : Int
  alt : Int
  arg : Int
  rs : List (Int × Int)
def In.sp (lazy : Bool) (a b : Nat) : In := if lazy then ⟨3, b, a, 0, []⟩ else ⟨3, a, b, 0, []⟩
def Rep (B : Nat → Nat → Prop) : Nat → Nat → Nat → Prop
  | 0, a, b => a = b
  | r + 1, a, b => ∃ m, B a m ∧ Rep B r m b
def Opt (l : List In) (z : Bool) (B : Nat → Nat → Prop) (e : Nat) : Nat → Nat → Prop
  | 0, a => a = e
  | r + 1, a => ∃ m, l[a]? = some (In.sp z (a + 1) e) ∧ B (a + 1) m ∧ Opt l z B e r m
def CH (k : Int) (a : Nat) : In := ⟨if k = 13 then 9 else k - 3, (a : Int) + 1, 0, if k = 13 then 1 else 0, []⟩
mutual
def Blk (l : List In) : Rx → Nat → Nat → Prop
  | .mk k r rs mn mx lz cp nm ks, a, b =>
    (k = 1 → b = a) ∧
    (k = 2 → b = a + 1 ∧ l[a]? = some ⟨2, (a : Int) + 1, 0, 0, [(r, r)]⟩) ∧
    (k = 3 → b = a + 1 ∧ l[a]? = some (if rs = [] then ⟨11, 0, 0, 0, []⟩ else ⟨2, (a : Int) + 1, 0, 0, rs⟩)) ∧
    (k = 4 → xA l ks a b) ∧
    (k = 5 → EQ l ks a b) ∧
    (k = 6 → ∃ m, Rep (xA l ks) mn.toNat a m ∧ (mx = -1 → ∃ m', l[m]? = some (In.sp lz (m + 1) b) ∧ xA l ks (m + 1) m' ∧ l[m']? = some ⟨10, (m : Int), 0, 0, []⟩ ∧ b = m' + 1) ∧
      (mx ≠ -1 → Opt l lz (xA l ks) b (mx - mn).toNat m)) ∧
    (k = 7 → ∃ m, l[a]? = some ⟨4, (a : Int) + 1, 0, 2 * cp, []⟩ ∧ xA l ks (a + 1) m ∧ l[m]? = some ⟨4, (m : Int) + 1, 0, 2 * cp + 1, []⟩ ∧ b = m + 1) ∧
    (8 ≤ k → b = a + 1 ∧ l[a]? = some (CH k a))
def xA (l : List In) : List Rx → Nat → Nat → Prop
  | [], a, b => a = b
  | x :: xs, a, b => ∃ m, Blk l x a m ∧ xA l xs m b
def EQ (l : List In) : List Rx → Nat → Nat → Prop
  | [], _, _ => False
  | x :: xs, a, b => (xs = [] → Blk l x a b) ∧ (xs ≠ [] → ∃ m, l[a]? = some (In.sp false (a + 1) (m + 1)) ∧ Blk l x (a + 1) m ∧ l[m]? = some ⟨10, (b : Int), 0, 0, []⟩ ∧ EQ l xs (m + 1) b)
end
def InR (c : Int) (l : List (Int × Int)) : Prop := ∃ g, g ∈ l ∧ g.1 ≤ c ∧ c ≤ g.2
def EV (c : Int) : Prop := (48 ≤ c ∧ c ≤ 57) ∨ (65 ≤ c ∧ c ≤ 90) ∨ (97 ≤ c ∧ c ≤ 122) ∨ c = 95
def Bef (rs : List Int) (i : Nat) : Prop := 0 < i ∧ ∃ c, rs[i - 1]? = some c ∧ EV c
def Aft (rs : List Int) (i : Nat) : Prop := ∃ c, rs[i]? = some c ∧ EV c
def Plc (rs : List Int) (k : Int) (i : Nat) : Prop :=
  (k = 8 ∧ i = 0) ∨ (k = 9 ∧ i = rs.length) ∨ (k = 10 ∧ (i = 0 ∨ rs[i - 1]? = some 10)) ∨ (k = 11 ∧ (i = rs.length ∨ rs[i]? = some 10)) ∨ (k = 12 ∧ ¬ (Bef rs i ↔ Aft rs i)) ∨ (k = 13 ∧ (Bef rs i ↔ Aft rs i))
def It (R : Nat → Nat → Prop) : Nat → Nat → Nat → Prop
  | 0, i, j => i = j
  | c + 1, i, j => ∃ k, R i k ∧ It R c k j
mutual
def Mt (rs : List Int) : Rx → Nat → Nat → Prop
  | .mk k r g mn mx lz cp nm ks, i, j =>
    (k = 1 ∧ i = j) ∨ (k = 2 ∧ j = i + 1 ∧ rs[i]? = some r) ∨ (k = 3 ∧ j = i + 1 ∧ ∃ c, rs[i]? = some c ∧ InR c g) ∨ (k = 4 ∧ Mts rs ks i j) ∨ (k = 5 ∧ MtA rs ks i j) ∨
    (k = 6 ∧ ∃ c, mn.toNat ≤ c ∧ (mx = -1 ∨ c ≤ mx.toNat) ∧ It (Mts rs ks) c i j) ∨ (k = 7 ∧ Mts rs ks i j) ∨ (8 ≤ k ∧ i = j ∧ Plc rs k i)
def Mts (rs : List Int) : List Rx → Nat → Nat → Prop
  | [], i, j => i = j
  | x :: xs, i, j => ∃ k, Mt rs x i k ∧ Mts rs xs k j
def MtA (rs : List Int) : List Rx → Nat → Nat → Prop
  | [], _, _ => False
  | x :: xs, i, j => Mt rs x i j ∨ MtA rs xs i j
end
theorem It.add {R : Nat → Nat → Prop} {a b : Nat} : ∀ {i j}, It R (a + b) i j ↔ ∃ k, It R a i k ∧ It R b k j := by
  induction a with
  | zero => intro i j; simp only [Nat.zero_add, It]; constructor; exact fun h => ⟨i, rfl, h⟩; rintro ⟨k, rfl, h⟩; exact h
  | succ a ih =>
    intro i j
    rw [show a + 1 + b = (a + b) + 1 from by omega]
    simp only [It]
    constructor
    · rintro ⟨k, h1, h2⟩
      obtain ⟨m, h3, h4⟩ := ih.1 h2
      exact ⟨m, ⟨k, h1, h3⟩, h4⟩
    · rintro ⟨m, ⟨k, h1, h3⟩, h4⟩
      exact ⟨k, h1, ih.2 ⟨m, h3, h4⟩⟩
def jU (rs : List Int) (c : In) (i : Nat) : Prop := c.op = 3 ∨ c.op = 4 ∨ c.op = 10 ∨ (5 ≤ c.op ∧ c.op ≤ 8 ∧ Plc rs (c.op + 3) i) ∨ (c.op = 9 ∧ Plc rs (if c.arg = 0 then 12 else 13) i)
def Eps (l : List In) (rs : List Int) (i p q : Nat) : Prop := ∃ c, l[p]? = some c ∧ jU rs c i ∧ ((q : Int) = c.out ∨ (c.op = 3 ∧ (q : Int) = c.alt))
def Eat (l : List In) (rs : List Int) (i p q : Nat) : Prop := ∃ c, l[p]? = some c ∧ c.op = 2 ∧ (q : Int) = c.out ∧ ∃ r, rs[i]? = some r ∧ InR r c.rs
def IF (l : List In) (rs : List Int) (p i q j : Nat) : Prop := (j = i ∧ Eps l rs i p q) ∨ (j = i + 1 ∧ Eat l rs i p q)
inductive Way (l : List In) (rs : List Int) (a b q j : Nat) : Nat → Nat → Prop
  | nil : Way l rs a b q j q j
  | cons {p i p' i' : Nat} : a ≤ p → p < b → IF l rs p i p' i' → Way l rs a b q j p' i' → Way l rs a b q j p i
variable {l : List In} {rs : List Int}
theorem Way.mono {a b c d q j p i : Nat} (h : Way l rs c d q j p i) (h1 : a ≤ c) (h2 : d ≤ b) : Way l rs a b q j p i := by
  induction h with
  | nil => exact .nil
  | cons ha hb hs _ ih => exact .cons (by omega) (by omega) hs ih
theorem Way.trans {a b q j m k p i : Nat} (h : Way l rs a b m k p i) (h1 : Way l rs a b q j m k) : Way l rs a b q j p i := by
  induction h with
  | nil => exact h1
  | cons ha hb hs _ ih => exact .cons ha hb hs ih
theorem Way.done {a b q j i : Nat} (h : Way l rs a b q j b i) : q = b ∧ i = j := by
  cases h with
  | nil => exact ⟨rfl, rfl⟩
  | cons ha hb => omega
def VI (l : List In) (rs : List Int) (a b : Nat) : Prop := ∀ p i q j, a ≤ p → p < b → IF l rs p i q j → a ≤ q ∧ q ≤ b
theorem Way.cut {a b c d j p i : Nat} (h : Way l rs a b b j p i) (hc : VI l rs c d) (h1 : a ≤ c) (h2 : d ≤ b) (h3 : c ≤ p) (h4 : p ≤ d) : ∃ k, Way l rs c d d k p i ∧ Way l rs a b b j d k := by
  induction h with
  | nil => obtain rfl : b = d := by omega
           exact ⟨_, .nil, .nil⟩
  | cons ha hb hs hw ih =>
    rename_i p i p' i'
    by_cases e : p = d
    · subst e; exact ⟨i, .nil, .cons ha hb hs hw⟩
    · obtain ⟨h5, h6⟩ := hc _ _ _ _ h3 (by omega) hs
      obtain ⟨k, h7, h8⟩ := ih h5 h6
      exact ⟨k, .cons h3 (by omega) hs h7, h8⟩
structure Leads (l : List In) (rs : List Int) (a b : Nat) (R : Nat → Nat → Prop) : Prop where
  le : a ≤ b
  cl : VI l rs a b
  way : ∀ i j, Way l rs a b b j a i ↔ R i j
theorem Leads.congr {a b : Nat} {R S : Nat → Nat → Prop} (h : Leads l rs a b R) (e : ∀ i j, R i j ↔ S i j) : Leads l rs a b S := ⟨h.le, h.cl, fun i j => (h.way i j).trans (e i j)⟩
theorem sJ (a : Nat) : Leads l rs a a (fun i j => i = j) := ⟨Nat.le_refl _, fun p i q j h1 h2 => by omega, fun i j => ⟨fun h => h.done.2, fun h => h ▸ .nil⟩⟩
theorem tY {a i q j : Nat} {c : In} (h : l[a]? = some c) (hs : IF l rs a i q j) : (j = i ∧ jU rs c i ∧ ((q : Int) = c.out ∨ (c.op = 3 ∧ (q : Int) = c.alt))) ∨ (j = i + 1 ∧ c.op = 2 ∧ (q : Int) = c.out ∧ ∃ r, rs[i]? = some r ∧ InR r c.rs) := by
  rcases hs with ⟨rfl, c', hc, h1, h2⟩ | ⟨rfl, c', hc, h1, h2⟩
  · rw [h] at hc; cases hc; exact .inl ⟨rfl, h1, h2⟩
  · rw [h] at hc; cases hc; exact .inr ⟨rfl, h1, h2⟩
theorem nZ {a : Nat} {c : In} (h : l[a]? = some c) (h1 : c.op = 3 → False) (h2 : c.out = (a : Int) + 1 ∨ c.op = 11) :
    Leads l rs a (a + 1) (fun i j => (j = i ∧ jU rs c i) ∨ (j = i + 1 ∧ c.op = 2 ∧ ∃ r, rs[i]? = some r ∧ InR r c.rs)) := by
  have h11 : c.op = 11 → ∀ i, ¬ jU rs c i := fun h i hg => by unfold jU at hg; omega
  have hout : ∀ {q i}, jU rs c i ∨ c.op = 2 → (q : Int) = c.out → q = (a : Int) + 1 := fun hg e => by
    rcases h2 with h2 | h2
    · omega
    · rcases hg with hg | hg
      · exact (h11 h2 _ hg).elim
      · omega
  refine ⟨by omega, fun p i q j hp hp' hs => ?_, fun i j => ⟨fun hw => ?_, fun hr => ?_⟩⟩
  · obtain rfl : p = a := by omega
    rcases tY h hs with ⟨rfl, hg, h3 | ⟨h3, -⟩⟩ | ⟨rfl, h3, h4, -⟩
    · have := hout (.inl hg) h3; omega
    · exact (h1 h3).elim
    · have := hout (i := i) (.inr h3) h4; omega
  · cases hw with
    | cons ha hb hs hw =>
      rcases tY h hs with ⟨rfl, hg, h3 | ⟨h3, -⟩⟩ | ⟨rfl, h3, h4, h5⟩
      · rename_i p' _
        obtain rfl : p' = a + 1 := by have := hout (.inl hg) h3; omega
        obtain ⟨-, rfl⟩ := hw.done
        exact .inl ⟨rfl, hg⟩
      · exact (h1 h3).elim
      · rename_i p'
        obtain rfl : p' = a + 1 := by have := hout (i := i) (.inr h3) h4; omega
        obtain ⟨-, rfl⟩ := hw.done
        exact .inr ⟨rfl, h3, h5⟩
  · rcases hr with ⟨rfl, hg⟩ | ⟨rfl, h3, h5⟩
    · refine .cons (Nat.le_refl _) (by omega) (.inl ⟨rfl, c, h, hg, .inl ?_⟩) .nil
      rcases h2 with h2 | h2
      · omega
      · exact (h11 h2 _ hg).elim
    · refine .cons (Nat.le_refl _) (by omega) (.inr ⟨rfl, c, h, h3, ?_, h5⟩) .nil
      omega
theorem nY {a m b : Nat} {R S : Nat → Nat → Prop} (h1 : Leads l rs a m R) (h2 : Leads l rs m b S) : Leads l rs a b (fun i j => ∃ k, R i k ∧ S k j) := by
  have e1 := h1.le
  have e2 := h2.le
  refine ⟨by omega, fun p i q j hp hp' hs => ?_, fun i j => ⟨fun hw => ?_, ?_⟩⟩
  · by_cases e : p < m
    · have := h1.cl p i q j hp e hs; omega
    · have := h2.cl p i q j (by omega) hp' hs; omega
  · obtain ⟨k, w1, w2⟩ := hw.cut h1.cl (by omega) (by omega) (by omega) (by omega)
    obtain ⟨k', w3, w4⟩ := w2.cut h2.cl (by omega) (by omega) (by omega) (by omega)
    obtain ⟨-, rfl⟩ := w4.done
    exact ⟨k, (h1.way _ _).1 w1, (h2.way _ _).1 w3⟩
  · rintro ⟨k, r1, r2⟩
    exact (((h1.way _ _).2 r1).mono (Nat.le_refl _) (by omega)).trans (((h2.way _ _).2 r2).mono (by omega) (Nat.le_refl _))
theorem AW {B : Nat → Nat → Prop} {R : Nat → Nat → Prop} (hB : ∀ a b, B a b → Leads l rs a b R) : ∀ {n a b}, Rep B n a b → Leads l rs a b (It R n)
  | 0, a, b, h => by cases h; exact sJ a
  | n + 1, a, b, ⟨m, h1, h2⟩ => nY (hB _ _ h1) (AW hB h2)
theorem vI {z : Bool} {a x y i q j : Nat} (h : l[a]? = some (In.sp z x y)) (hs : IF l rs a i q j) : j = i ∧ (q = x ∨ q = y) := by
  rcases tY h hs with ⟨rfl, hg, h3⟩ | ⟨rfl, h3, -⟩
  · refine ⟨rfl, ?_⟩
    unfold In.sp at h3
    split at h3 <;> simp only at h3 <;> omega
  · unfold In.sp at h3
    split at h3 <;> simp only at h3 <;> omega
theorem QF {z : Bool} {a x y i : Nat} (h : l[a]? = some (In.sp z x y)) : IF l rs a i x i := by
  refine .inl ⟨rfl, _, h, ?_, ?_⟩
  · unfold jU In.sp; split <;> simp
  · unfold In.sp; split <;> simp
theorem IL {z : Bool} {a x y i : Nat} (h : l[a]? = some (In.sp z x y)) : IF l rs a i y i := by
  refine .inl ⟨rfl, _, h, ?_, ?_⟩
  · unfold jU In.sp; split <;> simp
  · unfold In.sp; split <;> simp
theorem CI {a x i q j : Nat} (h : l[a]? = some ⟨10, (x : Int), 0, 0, []⟩) (hs : IF l rs a i q j) : j = i ∧ q = x := by
  rcases tY h hs with ⟨rfl, hg, h3 | ⟨h3, -⟩⟩ | ⟨rfl, h3, -⟩
  · exact ⟨rfl, by simp only at h3; omega⟩
  · simp only at h3; omega
  · simp only at h3; omega
theorem jp_in {a x i : Nat} (h : l[a]? = some ⟨10, (x : Int), 0, 0, []⟩) : IF l rs a i x i := .inl ⟨rfl, _, h, .inr (.inr (.inl rfl)), .inl rfl⟩
theorem AX {z : Bool} {B : Nat → Nat → Prop} {R : Nat → Nat → Prop} {e : Nat} (hB : ∀ a b, B a b → Leads l rs a b R) : ∀ {r a}, Opt l z B e r a → Leads l rs a e (fun i j => ∃ c, c ≤ r ∧ It R c i j)
  | 0, a, h => by
    cases h
    refine (sJ _).congr fun i j => ⟨fun h => ⟨0, Nat.le_refl _, h⟩, ?_⟩
    rintro ⟨c, hc, h⟩
    obtain rfl : c = 0 := by omega
    exact h
  | r + 1, a, ⟨m, h1, h2, h3⟩ => by
    have f1 := hB _ _ h2
    have f2 := AX hB h3
    have e1 := f1.le
    have e2 := f2.le
    refine ⟨by omega, fun p i q j hp hp' hs => ?_, fun i j => ⟨fun hw => ?_, ?_⟩⟩
    · by_cases e : p = a
      · subst e; have := vI h1 hs; omega
      · by_cases e : p < m
        · have := f1.cl p i q j (by omega) e hs; omega
        · have := f2.cl p i q j (by omega) hp' hs; omega
    · cases hw with
      | nil => omega
      | cons ha hb hs hw =>
        obtain ⟨rfl, h4⟩ := vI h1 hs
        rcases h4 with rfl | rfl
        · obtain ⟨k, w1, w2⟩ := hw.cut f1.cl (by omega) (by omega) (by omega) (by omega)
          obtain ⟨k', w3, w4⟩ := w2.cut f2.cl (by omega) (by omega) (by omega) (by omega)
          obtain ⟨-, rfl⟩ := w4.done
          obtain ⟨c, hc, hi⟩ := (f2.way _ _).1 w3
          exact ⟨c + 1, by omega, k, (f1.way _ _).1 w1, hi⟩
        · obtain ⟨-, rfl⟩ := hw.done
          exact ⟨0, by omega, rfl⟩
    · rintro ⟨c, hc, hi⟩
      cases c with
      | zero => cases hi; exact .cons (Nat.le_refl _) (by omega) (IL h1) .nil
      | succ c =>
        obtain ⟨k, r1, r2⟩ := hi
        exact .cons (Nat.le_refl _) (by omega) (QF h1) ((((f1.way _ _).2 r1).mono (by omega) (by omega)).trans (((f2.way _ _).2 ⟨c, by omega, r2⟩).mono (by omega) (Nat.le_refl _)))
theorem JS {z : Bool} {R : Nat → Nat → Prop} {a m : Nat} (h1 : l[a]? = some (In.sp z (a + 1) (m + 1))) (f1 : Leads l rs (a + 1) m R) (h2 : l[m]? = some ⟨10, (a : Int), 0, 0, []⟩) : Leads l rs a (m + 1) (fun i j => ∃ c, It R c i j) := by
  have e1 := f1.le
  have key : ∀ {j p i}, Way l rs a (m + 1) (m + 1) j p i → (p = a → ∃ c, It R c i j) ∧ (a + 1 ≤ p → p ≤ m → ∃ k c, Way l rs (a + 1) m m k p i ∧ It R c k j) := by
    intro j p i hw
    induction hw with
    | nil => exact ⟨fun h => by omega, fun _ h => by omega⟩
    | cons ha hb hs hw ih =>
      rename_i p i p' i'
      refine ⟨fun e => ?_, fun h3 h4 => ?_⟩
      · subst e
        obtain ⟨rfl, h4⟩ := vI h1 hs
        rcases h4 with rfl | rfl
        · obtain ⟨k, c, w1, w2⟩ := ih.2 (by omega) (by omega)
          exact ⟨c + 1, k, (f1.way _ _).1 w1, w2⟩
        · obtain ⟨-, rfl⟩ := hw.done
          exact ⟨0, rfl⟩
      · by_cases e : p = m
        · subst e
          obtain ⟨rfl, rfl⟩ := CI h2 hs
          obtain ⟨c, hc⟩ := ih.1 rfl
          exact ⟨_, c, .nil, hc⟩
        · have h5 := f1.cl p i p' i' h3 (by omega) hs
          obtain ⟨k, c, w1, w2⟩ := ih.2 h5.1 h5.2
          exact ⟨k, c, .cons h3 (by omega) hs w1, w2⟩
  refine ⟨by omega, fun p i q j hp hp' hs => ?_, fun i j => ⟨fun hw => (key hw).1 rfl, ?_⟩⟩
  · by_cases e : p = a
    · subst e; have := vI h1 hs; omega
    · by_cases e : p = m
      · subst e; have := CI h2 hs; omega
      · have := f1.cl p i q j (by omega) (by omega) hs; omega
  · rintro ⟨c, hc⟩
    induction c generalizing i with
    | zero => cases hc; exact .cons (Nat.le_refl _) (by omega) (IL h1) .nil
    | succ c ih =>
      obtain ⟨k, r1, r2⟩ := hc
      exact .cons (Nat.le_refl _) (by omega) (QF h1) ((((f1.way _ _).2 r1).mono (by omega) (by omega)).trans (.cons (by omega) (by omega) (jp_in h2) (ih k r2)))
theorem OQ {R S : Nat → Nat → Prop} {a m b : Nat} (h1 : l[a]? = some (In.sp false (a + 1) (m + 1))) (f1 : Leads l rs (a + 1) m R) (h2 : l[m]? = some ⟨10, (b : Int), 0, 0, []⟩) (f2 : Leads l rs (m + 1) b S) :
    Leads l rs a b (fun i j => R i j ∨ S i j) := by
  have e1 := f1.le
  have e2 := f2.le
  refine ⟨by omega, fun p i q j hp hp' hs => ?_, fun i j => ⟨fun hw => ?_, ?_⟩⟩
  · by_cases e : p = a
    · subst e; have := vI h1 hs; omega
    · by_cases e : p = m
      · subst e; have := CI h2 hs; omega
      · by_cases e : p < m
        · have := f1.cl p i q j (by omega) (by omega) hs; omega
        · have := f2.cl p i q j (by omega) (by omega) hs; omega
  · cases hw with
    | nil => omega
    | cons ha hb hs hw =>
      obtain ⟨rfl, h4⟩ := vI h1 hs
      rcases h4 with rfl | rfl
      · obtain ⟨k, w1, w2⟩ := hw.cut f1.cl (by omega) (by omega) (by omega) (by omega)
        cases w2 with
        | nil => omega
        | cons ha hb hs hw =>
          obtain ⟨rfl, rfl⟩ := CI h2 hs
          obtain ⟨-, rfl⟩ := hw.done
          exact .inl ((f1.way _ _).1 w1)
      · obtain ⟨k, w1, w2⟩ := hw.cut f2.cl (by omega) (by omega) (by omega) (by omega)
        obtain ⟨-, rfl⟩ := w2.done
        exact .inr ((f2.way _ _).1 w1)
  · rintro (h | h)
    · exact .cons (Nat.le_refl _) (by omega) (QF h1) ((((f1.way _ _).2 h).mono (by omega) (by omega)).trans (.cons (by omega) (by omega) (jp_in h2) .nil))
    · exact .cons (Nat.le_refl _) (by omega) (IL h1) (((f2.way _ _).2 h).mono (by omega) (by omega))
theorem mT : ∀ {ks : List Rx}, (∀ k, k ∈ ks → ∀ a b, Blk l k a b → Leads l rs a b (Mt rs k)) → ∀ {a b}, xA l ks a b → Leads l rs a b (Mts rs ks)
  | [], _, a, b, h => by
    rw [xA] at h; subst h
    exact (sJ a).congr fun i j => by rw [Mts]
  | x :: xs, hk, a, b, h => by
    rw [xA] at h
    obtain ⟨m, h1, h2⟩ := h
    exact (nY (hk x (by simp) _ _ h1) (mT (fun k hk' => hk k (by simp [hk'])) h2)).congr fun i j => by rw [Mts]
theorem zN : ∀ {ks : List Rx}, (∀ k, k ∈ ks → ∀ a b, Blk l k a b → Leads l rs a b (Mt rs k)) → ∀ {a b}, EQ l ks a b → Leads l rs a b (MtA rs ks)
  | [], _, a, b, h => by rw [EQ] at h; exact h.elim
  | x :: xs, hk, a, b, h => by
    rw [EQ] at h
    obtain ⟨h1, h2⟩ := h
    by_cases e : xs = []
    · subst e
      exact (hk x (by simp) _ _ (h1 rfl)).congr fun i j => by rw [MtA, MtA]; simp
    · obtain ⟨m, h3, h4, h5, h6⟩ := h2 e
      exact (OQ h3 (hk x (by simp) _ _ h4) h5 (zN (fun k hk' => hk k (by simp [hk'])) h6)).congr fun i j => by rw [MtA]
theorem num1 {mn mx : Int} (h1 : 0 ≤ mn) (h2 : mx = -1 ∨ mn ≤ mx ∧ mx ≤ 1000) (e : ¬ mx = -1) : mn.toNat + (mx - mn).toNat = mx.toNat := by omega
theorem num2 {a b c d : Nat} (h : a + b = d) (hc : c ≤ b) : a + c ≤ d := by omega
theorem num3 {a b c d : Nat} (h : a + b = d) (h7 : a ≤ c) (h9 : c ≤ d) : c - a ≤ b := by omega
theorem num4 {k : Int} {a : Nat} (h : ¬ k = 6) : (CH k a).op = 3 → False := by unfold CH; simp only; split <;> omega
theorem num5 {k : Int} {P Q : Prop} (k2 : k ≤ 13) (e : ¬ k = 13) (e9 : ¬ k = 12) (k1 : 1 ≤ k) (e1 : ¬ k = 1) (e2 : ¬ k = 2) (e3 : ¬ k = 3) (e4 : ¬ k = 4) (e5 : ¬ k = 5) (e6 : ¬ k = 6) (e7 : ¬ k = 7) :
    (k - 3 = 3 ∨ k - 3 = 4 ∨ k - 3 = 10 ∨ (5 ≤ k - 3 ∧ k - 3 ≤ 8 ∧ P) ∨ (k - 3 = 9 ∧ Q)) ↔ P := by
  constructor
  · rintro (h | h | h | ⟨-, -, h⟩ | ⟨h, -⟩)
    · omega
    · omega
    · omega
    · exact h
    · omega
  · exact fun h => .inr (.inr (.inr (.inl ⟨by omega, by omega, h⟩)))
theorem num6 (k : Int) : k - 3 + 3 = k := by omega
theorem num7 {k : Int} (k1 : 1 ≤ k) (e1 : ¬ k = 1) (e2 : ¬ k = 2) (e3 : ¬ k = 3) (e4 : ¬ k = 4) (e5 : ¬ k = 5) (e6 : ¬ k = 6) (e7 : ¬ k = 7) : 8 ≤ k := by omega
theorem num8 {k : Int} (k1 : 1 ≤ k) (e1 : ¬ k = 1) (e2 : ¬ k = 2) (e3 : ¬ k = 3) (e4 : ¬ k = 4) (e5 : ¬ k = 5) (e6 : ¬ k = 6) (e7 : ¬ k = 7) : k - 3 = 2 → False := by omega
theorem PI {x : Rx} (hg : Good x) : ∀ a b, Blk l x a b → Leads l rs a b (Mt rs x) := by
  induction hg with
  | @mk x hn hc _ ih =>
    intro a b hb
    have k1 := hn.kind1
    have k2 := hn.kind2
    have kr := hn.rep
    obtain ⟨k, r, g, mn, mx, lz, cp, nm, ks⟩ := x
    simp only [Rx.kind, Rx.kids, Rx.min, Rx.max] at *
    rw [Blk] at hb
    obtain ⟨b1, b2, b3, b4, b5, b6, b7, b8⟩ := hb
    by_cases e1 : k = 1
    · rw [b1 e1]
      exact (sJ a).congr fun i j => by rw [Mt]; subst e1; simp
    by_cases e2 : k = 2
    · obtain ⟨rfl, h⟩ := b2 e2
      refine (nZ h (by simp) (.inl rfl)).congr fun i j => ?_
      rw [Mt]; subst e2
      simp [jU, InR]
      intro _
      constructor
      · rintro ⟨r', h1, h2, h3⟩; obtain rfl : r = r' := by omega
        exact h1
      · exact fun h => ⟨r, h, Int.le_refl _, Int.le_refl _⟩
    by_cases e3 : k = 3
    · obtain ⟨rfl, h⟩ := b3 e3
      subst e3
      split at h
      · rename_i e; subst e
        refine (nZ h (by simp) (.inr rfl)).congr fun i j => ?_
        rw [Mt]; simp [jU, InR]
      · refine (nZ h (by simp) (.inl rfl)).congr fun i j => ?_
        rw [Mt]; simp [jU]
    by_cases e4 : k = 4
    · exact (mT ih (b4 e4)).congr fun i j => by rw [Mt]; subst e4; simp
    by_cases e5 : k = 5
    · exact (zN ih (b5 e5)).congr fun i j => by rw [Mt]; subst e5; simp
    by_cases e6 : k = 6
    · obtain ⟨m, h1, h2, h3⟩ := b6 e6
      obtain ⟨q1, q2, q3, q4⟩ := kr e6
      have f1 := AW (fun a b h => mT ih h) h1
      by_cases e : mx = -1
      · obtain ⟨m', h4, h5, h6, rfl⟩ := h2 e
        refine (nY f1 (JS h4 (mT ih h5) h6)).congr fun i j => ?_
        rw [Mt]; subst e6
        simp only [Int.reduceEq, false_and, false_or, true_and, Int.reduceLE, or_false]
        constructor
        · rintro ⟨k, r1, c, r2⟩
          exact ⟨mn.toNat + c, by omega, .inl e, It.add.2 ⟨k, r1, r2⟩⟩
        · rintro ⟨c, h7, -, h8⟩
          obtain ⟨k, r1, r2⟩ := It.add.1 (show It _ (mn.toNat + (c - mn.toNat)) i j by rw [show mn.toNat + (c - mn.toNat) = c from by omega]; exact h8)
          exact ⟨k, r1, _, r2⟩
      · refine (nY f1 (AX (fun a b h => mT ih h) (h3 e))).congr fun i j => ?_
        rw [Mt]; subst e6
        have q5 : mn.toNat + (mx - mn).toNat = mx.toNat := num1 q1 q3 e
        simp only [Int.reduceEq, false_and, false_or, true_and, Int.reduceLE, or_false]
        constructor
        · rintro ⟨k, r1, c, hc, r2⟩
          exact ⟨mn.toNat + c, by omega, .inr (num2 q5 hc), It.add.2 ⟨k, r1, r2⟩⟩
        · rintro ⟨c, h7, h9, h8⟩
          replace h9 : c ≤ mx.toNat := h9.resolve_left e
          obtain ⟨k, r1, r2⟩ := It.add.1 (show It _ (mn.toNat + (c - mn.toNat)) i j by rw [show mn.toNat + (c - mn.toNat) = c from by omega]; exact h8)
          exact ⟨k, r1, _, num3 q5 h7 h9, r2⟩
    by_cases e7 : k = 7
    · obtain ⟨m, h1, h2, h3, rfl⟩ := b7 e7
      refine (nY (nZ h1 (by simp) (.inl rfl)) (nY (mT ih h2) (nZ h3 (by simp) (.inl rfl)))).congr fun i j => ?_
      rw [Mt]; subst e7
      simp [jU]
    · obtain ⟨rfl, h⟩ := b8 (by omega)
      refine (nZ h (num4 e6) (.inl rfl)).congr fun i j => ?_
      rw [Mt]
      simp only [e1, e2, e3, e4, e5, e6, e7, false_and, false_or]
      unfold CH jU
      by_cases e : k = 13
      · subst e; simp; intro _; exact eq_comm
      · simp only [e, if_false]
        by_cases e9 : k = 12
        · subst e9; simp; intro _; exact eq_comm
        · rw [num6 k]
          try simp only [e, e9, if_false, false_and, or_false]
          constructor
          · rintro (⟨rfl, h⟩ | ⟨-, h, -⟩)
            · exact ⟨num7 k1 e1 e2 e3 e4 e5 e6 e7, rfl, (num5 k2 e e9 k1 e1 e2 e3 e4 e5 e6 e7).1 h⟩
            · exact (num8 k1 e1 e2 e3 e4 e5 e6 e7 h).elim
          · rintro ⟨h1, rfl, h2⟩
            exact .inl ⟨rfl, (num5 k2 e e9 k1 e1 e2 e3 e4 e5 e6 e7).2 h2⟩
end Go.Proofs.YtljadkcojnlioaaGreatDoor
namespace Go.Proofs.YtljadkcojnlioaaGreatDoor
open Go.RowKit Go.W
def jM : Int → List (Int × Int) → Prop
  | _, [] => True
  | b, g :: l => b ≤ g.1 ∧ g.1 ≤ g.2 ∧ g.2 ≤ 1114111 ∧ jM (g.2 + 2) l
abbrev sD (l : List (Int × Int)) : Prop := jM 0 l
theorem fY {c : Int} {g : Int × Int} {l : List (Int × Int)} : InR c (g :: l) ↔ (g.1 ≤ c ∧ c ≤ g.2) ∨ InR c l := by
  constructor
  · rintro ⟨x, hx, h⟩
    cases hx with
    | head => exact .inl h
    | tail _ hx => exact .inr ⟨x, hx, h⟩
  · rintro (h | ⟨x, hx, h⟩)
    · exact ⟨g, List.mem_cons_self .., h⟩
    · exact ⟨x, List.mem_cons_of_mem _ hx, h⟩
theorem jS (c : Int) : ¬ InR c [] := by rintro ⟨g, h, -⟩; cases h
theorem mX {c : Int} {l m : List (Int × Int)} : InR c (l ++ m) ↔ InR c l ∨ InR c m := by
  constructor
  · rintro ⟨x, hx, h⟩
    rcases List.mem_append.1 hx with hx | hx
    · exact .inl ⟨x, hx, h⟩
    · exact .inr ⟨x, hx, h⟩
  · rintro (⟨x, hx, h⟩ | ⟨x, hx, h⟩)
    · exact ⟨x, List.mem_append_left _ hx, h⟩
    · exact ⟨x, List.mem_append_right _ hx, h⟩
theorem jN {c : Int} {g : Int × Int} : InR c [g] ↔ g.1 ≤ c ∧ c ≤ g.2 := by
  rw [fY]
  exact ⟨fun h => h.elim id (fun h => (jS c h).elim), .inl⟩
theorem GE {c : Int} {l m : List (Int × Int)} (h : l.Perm m) : InR c l ↔ InR c m := by
  constructor
  · rintro ⟨x, hx, h2⟩; exact ⟨x, h.mem_iff.1 hx, h2⟩
  · rintro ⟨x, hx, h2⟩; exact ⟨x, h.mem_iff.2 hx, h2⟩
theorem mD : ∀ {l : List (Int × Int)} {b c : Int}, jM b l → InR c l → b ≤ c ∧ c ≤ 1114111
  | [], b, c, _, h => (jS c h).elim
  | g :: l, b, c, hc, h => by
    rw [jM] at hc
    rcases fY.1 h with h | h
    · omega
    · have := mD hc.2.2.2 h; omega
theorem DA : ∀ {l : List (Int × Int)} {a b : Int}, jM b l → a ≤ b → jM a l
  | [], a, b, _, _ => trivial
  | g :: l, a, b, h, hab => by
    rw [jM] at h ⊢
    exact ⟨by omega, h.2⟩
theorem BH : ∀ {l m : List (Int × Int)} {b : Int}, jM b l → jM b m → (∀ c, InR c l ↔ InR c m) → l = m
  | [], [], b, _, _, _ => rfl
  | [], h :: m, b, hl, hm, he => by
    rw [jM] at hm
    exact (jS h.1 ((he h.1).2 (fY.2 (.inl ⟨Int.le_refl _, hm.2.1⟩)))).elim
  | g :: l, [], b, hl, hm, he => by
    rw [jM] at hl
    exact (jS g.1 ((he g.1).1 (fY.2 (.inl ⟨Int.le_refl _, hl.2.1⟩)))).elim
  | g :: l, h :: m, b, hl, hm, he => by
    rw [jM] at hl hm
    have h1 := (he g.1).1 (fY.2 (.inl ⟨Int.le_refl _, hl.2.1⟩))
    have h2 := (he h.1).2 (fY.2 (.inl ⟨Int.le_refl _, hm.2.1⟩))
    have e1 : g.1 = h.1 := by
      rcases fY.1 h1 with h1 | h1 <;> rcases fY.1 h2 with h2 | h2
      · omega
      · have := mD hl.2.2.2 h2; omega
      · have := mD hm.2.2.2 h1; omega
      · have := mD hl.2.2.2 h2; have := mD hm.2.2.2 h1; omega
    have e2 : g.2 = h.2 := by
      rcases Int.lt_trichotomy g.2 h.2 with c | c | c
      · have h3 := (he (g.2 + 1)).2 (fY.2 (.inl (by omega)))
        rcases fY.1 h3 with h3 | h3
        · omega
        · have := mD hl.2.2.2 h3; omega
      · exact c
      · have h3 := (he (h.2 + 1)).1 (fY.2 (.inl (by omega)))
        rcases fY.1 h3 with h3 | h3
        · omega
        · have := mD hm.2.2.2 h3; omega
    have e : g = h := Prod.ext e1 e2
    subst e
    have : l = m := BH hl.2.2.2 hm.2.2.2 fun c => by
      constructor
      · intro hc
        have h3 := mD hl.2.2.2 hc
        rcases fY.1 ((he c).1 (fY.2 (.inr hc))) with h4 | h4
        · omega
        · exact h4
      · intro hc
        have h3 := mD hm.2.2.2 hc
        rcases fY.1 ((he c).2 (fY.2 (.inr hc))) with h4 | h4
        · omega
        · exact h4
    rw [this]
theorem vW : ∀ {l : List (Int × Int)} {b : Int} {x : Int × Int}, jM b l → b ≤ x.1 → x.1 ≤ x.2 → x.2 ≤ 1114111 → (∀ g, g ∈ l → g.2 + 1 < x.1) → jM b (l ++ [x])
  | [], b, x, _, h1, h2, h3, _ => by show jM b [x]; rw [jM]; exact ⟨h1, h2, h3, trivial⟩
  | g :: l, b, x, h, h1, h2, h3, h4 => by
    rw [jM] at h
    show jM b (g :: (l ++ [x]))
    rw [jM]
    have := h4 g (List.mem_cons_self ..)
    exact ⟨h.1, h.2.1, h.2.2.1, vW h.2.2.2 (by omega) h2 h3 (fun y hy => h4 y (List.mem_cons_of_mem _ hy))⟩
theorem vX : ∀ {l : List (Int × Int)} {b : Int} {x : Int × Int}, jM b (l ++ [x]) → jM b l ∧ b ≤ x.1 ∧ x.1 ≤ x.2 ∧ x.2 ≤ 1114111 ∧ ∀ g, g ∈ l → g.2 + 1 < x.1
  | [], b, x, h => by
    have h' : jM b [x] := h
    rw [jM] at h'
    exact ⟨trivial, h'.1, h'.2.1, h'.2.2.1, fun g hg => by cases hg⟩
  | g :: l, b, x, h => by
    have h' : jM b (g :: (l ++ [x])) := h
    rw [jM] at h'
    obtain ⟨h1, h2, h3, h4, h5⟩ := vX h'.2.2.2
    refine ⟨by rw [jM]; exact ⟨h'.1, h'.2.1, h'.2.2.1, h1⟩, by omega, h3, h4, fun y hy => ?_⟩
    cases hy with
    | head => omega
    | tail _ hy => exact h5 y hy
theorem HC {out : List (Int × Int)} {g x : Int × Int} (h : sD (out ++ [g])) (h1 : g.1 ≤ x.1) (h2 : x.1 ≤ x.2) (h3 : x.2 ≤ 1114111) :
    (x.1 ≤ g.2 + 1 → sD (out ++ [(g.1, max g.2 x.2)]) ∧ ∀ c, InR c (out ++ [(g.1, max g.2 x.2)]) ↔ InR c (out ++ [g]) ∨ (x.1 ≤ c ∧ c ≤ x.2)) ∧
    (¬ x.1 ≤ g.2 + 1 → sD (out ++ [g] ++ [x]) ∧ ∀ c, InR c (out ++ [g] ++ [x]) ↔ InR c (out ++ [g]) ∨ (x.1 ≤ c ∧ c ≤ x.2)) := by
  obtain ⟨i1, i2, i3, i4, i5⟩ := vX h
  refine ⟨fun hx => ⟨vW i1 i2 (by show g.1 ≤ max g.2 x.2; omega) (by show max g.2 x.2 ≤ _; omega) i5, fun c => ?_⟩, fun hx => ⟨vW h (by omega) h2 h3 (fun y hy => ?_), fun c => ?_⟩⟩
  · rw [mX, mX, jN, jN]
    show _ ∨ (g.1 ≤ c ∧ c ≤ max g.2 x.2) ↔ _
    constructor
    · rintro (h | h)
      · exact .inl (.inl h)
      · by_cases hc : c ≤ g.2
        · exact .inl (.inr ⟨h.1, hc⟩)
        · exact .inr (by omega)
    · rintro ((h | h) | h)
      · exact .inl h
      · exact .inr (by omega)
      · exact .inr (by omega)
  · rcases List.mem_append.1 hy with hy | hy
    · have := i5 y hy; omega
    · rw [List.mem_singleton.1 hy]; omega
  · rw [mX, jN]
noncomputable def jT (S : Int → Prop) : List (Int × Int) := open Classical in if h : ∃ l, sD l ∧ ∀ c, InR c l ↔ S c then Classical.choose h else []
theorem oN {S : Int → Prop} {l : List (Int × Int)} (h : sD l) (h2 : ∀ c, InR c l ↔ S c) : jT S = l := by
  have hx : ∃ l, sD l ∧ ∀ c, InR c l ↔ S c := ⟨l, h, h2⟩
  unfold jT
  rw [dif_pos hx]
  have h3 := Classical.choose_spec hx
  exact BH h3.1 h fun c => (h3.2 c).trans (h2 c).symm
theorem zI {a b : Int} (h0 : 0 ≤ a) (h1 : a ≤ b) (h2 : b ≤ 1114111) : sD [(a, b)] := by
  show jM 0 [(a, b)]
  rw [jM]; exact ⟨h0, h1, h2, trivial⟩
theorem PC {c : Int} (h0 : 0 ≤ c) (h1 : c ≤ 1114111) : jT (fun x => x = c) = [(c, c)] :=
  oN (zI h0 (Int.le_refl _) h1) fun x => by rw [jN]; show c ≤ x ∧ x ≤ c ↔ x = c; omega
def pI : Int → List (Int × Int) → List (Int × Int)
  | b, [] => if b ≤ 1114111 then [(b, 1114111)] else []
  | b, g :: l => (if b < g.1 then [(b, g.1 - 1)] else []) ++ pI (g.2 + 1) l
theorem xO : ∀ {l : List (Int × Int)} {b d : Int}, 0 ≤ b → d ≤ b → jM b l → jM d (pI b l) ∧ ∀ c, InR c (pI b l) ↔ b ≤ c ∧ c ≤ 1114111 ∧ ¬ InR c l
  | [], b, d, h0, hd, _ => by
    rw [pI]
    by_cases h : b ≤ 1114111
    · rw [if_pos h]
      refine ⟨by rw [jM]; exact ⟨hd, h, Int.le_refl _, trivial⟩, fun c => ?_⟩
      rw [jN]
      exact ⟨fun h => ⟨h.1, h.2, jS c⟩, fun h => ⟨h.1, h.2.1⟩⟩
    · rw [if_neg h]
      exact ⟨trivial, fun c => ⟨fun h => (jS c h).elim, fun h => by omega⟩⟩
  | g :: l, b, d, h0, hd, hc => by
    rw [jM] at hc
    rw [pI]
    by_cases h : b < g.1
    · rw [if_pos h]
      obtain ⟨i1, i2⟩ := xO (b := g.2 + 1) (d := g.1 + 1) (by omega) (by omega) (DA hc.2.2.2 (by omega))
      refine ⟨?_, fun c => ?_⟩
      · show jM d ((b, g.1 - 1) :: pI (g.2 + 1) l)
        rw [jM]; exact ⟨hd, by show b ≤ g.1 - 1; omega, by show g.1 - 1 ≤ _; omega, by show jM (g.1 - 1 + 2) _; rw [show g.1 - 1 + 2 = g.1 + 1 by omega]; exact i1⟩
      · rw [mX, jN, i2, fY]
        show (b ≤ c ∧ c ≤ g.1 - 1) ∨ _ ↔ _
        constructor
        · rintro (h3 | h3)
          · exact ⟨h3.1, by omega, fun h4 => by rcases h4 with h4 | h4; omega; (have := mD hc.2.2.2 h4; omega)⟩
          · exact ⟨by omega, h3.2.1, fun h4 => by rcases h4 with h4 | h4; omega; exact h3.2.2 h4⟩
        · rintro ⟨h3, h4, h5⟩
          by_cases h6 : c ≤ g.1 - 1
          · exact .inl ⟨h3, h6⟩
          · refine .inr ⟨?_, h4, fun h7 => h5 (.inr h7)⟩
            by_cases h8 : c ≤ g.2
            · exact (h5 (.inl ⟨by omega, h8⟩)).elim
            · omega
    · rw [if_neg h, List.nil_append]
      obtain ⟨i1, i2⟩ := xO (b := g.2 + 1) (d := d) (by omega) (by omega) (DA hc.2.2.2 (by omega))
      refine ⟨i1, fun c => ?_⟩
      rw [i2, fY]
      constructor
      · rintro ⟨h3, h4, h5⟩
        exact ⟨by omega, h4, fun h6 => by rcases h6 with h6 | h6; omega; exact h5 h6⟩
      · rintro ⟨h3, h4, h5⟩
        refine ⟨?_, h4, fun h6 => h5 (.inr h6)⟩
        by_cases h8 : c ≤ g.2
        · exact (h5 (.inl ⟨by omega, h8⟩)).elim
        · omega
mutual
theorem BC : ∀ (x : Rx) (b : Int) (st st' : St), x.fine b st = some st' → Good x
  | .mk k r rs mn mx lz cp nm ks, b, st, st', h => by
    by_cases hc : st.1 + 1 ≤ 8194 ∧ (if (Rx.mk k r rs mn mx lz cp nm ks).kind = 7 then b + 1 else b) ≤ 250 ∧ NodeP (.mk k r rs mn mx lz cp nm ks) ∧ ((Rx.mk k r rs mn mx lz cp nm ks).kind = 7 → lK (Rx.mk k r rs mn mx lz cp nm ks).cap (Rx.mk k r rs mn mx lz cp nm ks).name st.2)
    · rw [gL hc] at h
      refine ⟨hc.2.2.1, fun h7 => ?_, tB ks _ _ _ _ h⟩
      obtain ⟨h1, h2, -⟩ := hc.2.2.2 h7
      omega
    · rw [eY hc] at h; cases h
theorem tB : ∀ (l : List Rx) (k b : Int) (st st' : St), dJ l k b st = some st' → ∀ x, x ∈ l → Good x
  | [], _, _, _, _, _, x, hx => by cases hx
  | y :: ys, k, b, st, st', h, x, hx => by
    rw [dJ] at h
    cases hy : y.fine (b + if Brk y.kind k then 1 else 0) st with
    | none => rw [hy] at h; cases h
    | some s1 =>
      rw [hy] at h
      rcases List.mem_cons.1 hx with e | hx
      · rw [e]; exact BC y _ _ _ hy
      · exact tB ys _ _ _ _ h x hx
end
theorem Rx.Ok.good {x : Rx} (h : x.Ok) : Good x := by obtain ⟨st, h⟩ := h; exact BC _ _ _ _ h
abbrev Iv := In × Value
def Iv.cells (e : Iv) : List Value := [iv e.1.op, iv e.1.out, iv e.1.alt, iv e.1.arg, e.2]
def Has (l : List In) (a : Nat) (k : List In) : Prop := ∀ i (h : i < k.length), l[a + i]? = some k[i]
theorem Has.left {l : List In} {a : Nat} {k k' : List In} (h : Has l a (k ++ k')) : Has l a k := fun i hi => by
  rw [h i (by rw [List.length_append]; omega), List.getElem_append_left hi]
theorem Has.right {l : List In} {a : Nat} {k k' : List In} (h : Has l a (k ++ k')) : Has l (a + k.length) k' := fun i hi => by
  rw [Nat.add_assoc, h (k.length + i) (by rw [List.length_append]; omega), List.getElem_append_right (by omega)]
  simp
theorem Has.one {l : List In} {a : Nat} {c : In} (h : Has l a [c]) : l[a]? = some c := h 0 (by simp)
def Codes (x : Rx) (a : Nat) (k : List In) : Prop := ∀ l, Has l a k → Blk l x a (a + k.length)
def Pat (l : List In) (a : Nat) (k : List In) (js : List Nat) (f : Nat → In → In) : Prop := ∀ i (h : i < k.length), l[a + i]? = some (if a + i ∈ js then f (a + i) k[i] else k[i])
theorem Pat.left {l : List In} {a : Nat} {k k' : List In} {js js' : List Nat} {f : Nat → In → In} (h : Pat l a (k ++ k') (js ++ js') f) (hj : ∀ p, p ∈ js' → a + k.length ≤ p) : Pat l a k js f := fun i hi => by
  rw [h i (by rw [List.length_append]; omega), List.getElem_append_left hi]
  have : a + i ∉ js' := fun hm => by have := hj _ hm; omega
  simp [List.mem_append, this]
theorem Pat.right {l : List In} {a : Nat} {k k' : List In} {js js' : List Nat} {f : Nat → In → In} (h : Pat l a (k ++ k') (js ++ js') f) (hj : ∀ p, p ∈ js → p < a + k.length) : Pat l (a + k.length) k' js' f := fun i hi => by
  rw [Nat.add_assoc, h (k.length + i) (by rw [List.length_append]; omega), List.getElem_append_right (by omega)]
  have : a + (k.length + i) ∉ js := fun hm => by have := hj _ hm; omega
  simp [List.mem_append, this]
theorem Pat.has {l : List In} {a : Nat} {k : List In} {f : Nat → In → In} (h : Pat l a k [] f) : Has l a k := fun i hi => by rw [h i hi]; simp
def outTo (e : Nat) : Nat → In → In := fun _ c => ⟨c.op, e, c.alt, c.arg, c.rs⟩
structure AltPre (ks : List Rx) (a : Nat) (k : List In) (js : List Nat) : Prop where
  at' : ∀ p, p ∈ js → a ≤ p ∧ p < a + k.length
  blk : ∀ l e, Pat l a k js (outTo e) → ∀ rest, rest ≠ [] → EQ l rest (a + k.length) e → EQ l (ks ++ rest) a e
theorem AltPre.nil (a : Nat) : AltPre [] a [] [] := ⟨fun p h => (by cases h), fun l e _ rest _ h => h⟩
theorem AltPre.done {ks : List Rx} {a : Nat} {k kx : List In} {js : List Nat} {x : Rx} (h : AltPre ks a k js) (hx : Codes x (a + k.length) kx) {l : List In} (hp : Pat l a (k ++ kx) js (outTo (a + k.length + kx.length))) : EQ l (ks ++ [x]) a (a + k.length + kx.length) := by
  have hp' : Pat l a (k ++ kx) (js ++ []) (outTo (a + k.length + kx.length)) := by rw [List.append_nil]; exact hp
  refine h.blk l _ (hp'.left (fun p hp => by cases hp)) [x] (by simp) ?_
  rw [EQ]
  exact ⟨fun _ => hx l (hp'.right (fun p hp => (h.at' p hp).2)).has, fun h => (h rfl).elim⟩
def turnTo (z : Bool) (e : Nat) : Nat → In → In := fun p c => ⟨c.op, if z then (e : Int) else (p : Int) + 1, if z then (p : Int) + 1 else (e : Int), c.arg, c.rs⟩
def RepC (ks : List Rx) (j a : Nat) (k : List In) : Prop := ∀ l, Has l a k → Rep (xA l ks) j a (a + k.length)
theorem RepC.nil (ks : List Rx) (a : Nat) : RepC ks 0 a [] := fun l _ => rfl
structure OptPre (z : Bool) (x : Rx) (j a : Nat) (k : List In) (js : List Nat) : Prop where
  at' : ∀ p, p ∈ js → a ≤ p ∧ p < a + k.length
  blk : ∀ l e, Pat l a k js (turnTo z e) → ∀ r, Opt l z (xA l [x]) e r (a + k.length) → Opt l z (xA l [x]) e (j + r) a
theorem OptPre.nil (z : Bool) (x : Rx) (a : Nat) : OptPre z x 0 a [] [] := ⟨fun p h => (by cases h), fun l e _ r h => by rw [Nat.zero_add]; exact h⟩
def Iv.outTo (e : Nat) : Nat → Iv → Iv := fun p x => (Go.Proofs.YtljadkcojnlioaaGreatDoor.outTo e p x.1, x.2)
def Iv.turnTo (z : Bool) (e : Nat) : Nat → Iv → Iv := fun p x => (Go.Proofs.YtljadkcojnlioaaGreatDoor.turnTo z e p x.1, x.2)
def eF (s : ByteArray) : Nat → Nat
  | 0 => 0
  | k + 1 => eF s k + (cD s (eF s k)).2
def runeK (s : ByteArray) (k : Nat) : Int := (cD s (eF s k)).1
def Utf (s : ByteArray) (N : Nat) : Prop := eF s N = s.size ∧ ∀ k, k < N → 0 < (cD s (eF s k)).2
def IN (s : ByteArray) (N : Nat) : List Int := (List.range N).map (runeK s)
theorem xK (s : ByteArray) (k : Nat) : eF s k ≤ s.size := by
  induction k with
  | zero => exact Nat.zero_le _
  | succ k ih =>
    rw [eF]
    rcases oG s (eF s k) with h | h
    · rw [h]; exact ih
    · exact h.2.2.2.2
theorem mQ (s : ByteArray) {a b : Nat} (h : a ≤ b) : eF s a ≤ eF s b := by
  induction h with
  | refl => exact Nat.le_refl _
  | step _ ih => rw [eF]; omega
theorem offs_lt {s : ByteArray} {N a b : Nat} (h : ∀ k, k < N → 0 < (cD s (eF s k)).2) (hab : a < b) (hb : b ≤ N) : eF s a < eF s b := by
  have h1 := h a (by omega)
  have h2 : eF s (a + 1) ≤ eF s b := mQ s hab
  rw [eF] at h2
  omega
theorem OP {s : ByteArray} {a : Nat} (h : 0 < (cD s a).2) : a + (cD s a).2 ≤ s.size ∧ ((cD s a).1 < 128 → (cD s a).2 = 1 ∧ (sb s a : Int) = (cD s a).1) ∧
    (128 ≤ (cD s a).1 → 128 ≤ sb s a ∧ 128 ≤ sb s (a + (cD s a).2 - 1)) ∧ 0 ≤ (cD s a).1 := by
  by_cases ha : a < s.size
  · rcases gP s a ha with ⟨w, h1, h2, h3, hh, -, h4, h5, -⟩ | ⟨h1, -⟩
    · rw [(kT h1 h2 h3 hh).1]
      refine ⟨h3, ?_, ?_, h4⟩
      all_goals
        have e : w = 1 ∨ w = 2 ∨ w = 3 ∨ w = 4 := by omega
        rcases e with rfl | rfl | rfl | rfl
        · have := (hit1 s a).1 hh
          intro hg
          rw [show eO s a 1 = (sb s a : Int) from by simp [eO]] at hg ⊢
          dsimp only
          omega
        · have := (hit2 s a).1 hh
          intro hg
          simp only [eO, if_true, show (2 : Nat) ≠ 1 from by decide, if_false, show a + 2 - 1 = a + 1 from by omega] at hg ⊢
          omega
        · have := (hit3 s a).1 hh
          intro hg
          simp only [eO, if_true, show (3 : Nat) ≠ 1 from by decide, show (3 : Nat) ≠ 2 from by decide, if_false, show a + 3 - 1 = a + 2 from by omega] at hg ⊢
          omega
        · have := (hit4 s a).1 hh
          intro hg
          simp only [eO, if_true, show (4 : Nat) ≠ 1 from by decide, show (4 : Nat) ≠ 2 from by decide, show (4 : Nat) ≠ 3 from by decide, if_false, show a + 4 - 1 = a + 3 from by omega] at hg ⊢
          omega
    · rw [nX h1] at h; cases h
  · rw [pS (by omega)] at h; cases h
def NS (s : ByteArray) (j : Int) : Prop := 0 ≤ j ∧ j < s.size ∧ fT (sb s j.toNat)
instance (s : ByteArray) (j : Int) : Decidable (NS s j) := by unfold NS; infer_instance
def VH (s : ByteArray) (c : In) (i : Nat) : Prop := c.op = 3 ∨ c.op = 4 ∨ c.op = 10 ∨ (c.op = 5 ∧ i = 0) ∨ (c.op = 6 ∧ i = s.size) ∨ (c.op = 7 ∧ (i = 0 ∨ sb s (i - 1) = 10)) ∨ (c.op = 8 ∧ (i = s.size ∨ sb s i = 10)) ∨
  (c.op = 9 ∧ (¬ (NS s ((i : Int) - 1) ↔ NS s i) ↔ c.arg = 0))
def EpsB (l : List In) (s : ByteArray) (i p q : Nat) : Prop := ∃ c, l[p]? = some c ∧ VH s c i ∧ ((q : Int) = c.out ∨ (c.op = 3 ∧ (q : Int) = c.alt))
def Nice (c : In) : Prop := c.op ≠ 1 ∧ 0 ≤ c.out ∧ 0 ≤ c.alt ∧ c.rs.length ≤ 1048576
structure ProgOk (x : Rx) (l : List In) (n : Nat) : Prop where
  len : l.length = n + 1
  last : l[n]? = some ⟨1, 0, 0, 0, []⟩
  ops : ∀ p c, p < n → l[p]? = some c → Nice c
  blk : Blk l x 0 n
  good : Good x
section
variable {x : Rx} {l : List In} {n : Nat}
theorem ProgOk.leads (h : ProgOk x l n) (rs : List Int) : Leads l rs 0 n (Mt rs x) := PI h.good 0 n h.blk
structure RngC (m : Nat) (c : In) : Prop where
  eps : (3 ≤ c.op ∧ c.op ≤ 10) → 0 ≤ c.out ∧ c.out < m
  alt : c.op = 3 → 0 ≤ c.alt ∧ c.alt < m
  eat : c.op = 2 → (∃ r, InR r c.rs) → 0 ≤ c.out ∧ c.out < m
def Rng (l : List In) : Prop := ∀ (p : Nat) (c : In), l[p]? = some c → RngC l.length c
theorem ProgOk.rng (h : ProgOk x l n) : Rng l := fun p c hc => by
  have hlen := h.len
  by_cases hp : p < n
  · obtain ⟨h1, h2, h3, -⟩ := h.ops p c hp hc
    have key : ∀ (rs : List Int) (i : Nat), jU rs c i → c.out < l.length := fun rs i hg => by
      have := (h.leads rs).cl p i c.out.toNat i (by omega) hp (.inl ⟨rfl, c, hc, hg, .inl (by omega)⟩)
      omega
    refine ⟨fun h4 => ⟨h2, ?_⟩, fun h5 => ⟨h3, ?_⟩, fun h4 ⟨r, hr⟩ => ⟨h2, ?_⟩⟩
    · have e : c.op = 3 ∨ c.op = 4 ∨ c.op = 10 ∨ (c.op = 5 ∨ c.op = 6 ∨ c.op = 7 ∨ c.op = 8) ∨ c.op = 9 := by omega
      rcases e with e | e | e | e | e
      · exact key [] 0 (by unfold jU; omega)
      · exact key [] 0 (by unfold jU; omega)
      · exact key [] 0 (by unfold jU; omega)
      · refine key [] 0 ?_
        unfold jU Plc
        rcases e with e | e | e | e <;> rw [e] <;> simp
      · by_cases ha : c.arg = 0
        · refine key [97] 0 ?_
          unfold jU Plc Bef Aft
          rw [e, ha]; simp [EV]
        · refine key [] 0 ?_
          unfold jU Plc Bef Aft
          rw [e, if_neg ha]; simp
    · have := (h.leads []).cl p 0 c.alt.toNat 0 (by omega) hp (.inl ⟨rfl, c, hc, .inl h5, .inr ⟨h5, by omega⟩⟩)
      omega
    · have := (h.leads [r]).cl p 0 c.out.toNat 1 (by omega) hp (.inr ⟨rfl, c, hc, h4, by omega, r, rfl, hr⟩)
      omega
  · have h1 := (List.getElem?_eq_some_iff.1 hc).1
    obtain rfl : p = n := by omega
    rw [h.last] at hc
    cases hc
    exact ⟨fun h => by simp at h, fun h => by simp at h, fun h => by simp at h⟩
end
inductive EpsS (l : List In) (s : ByteArray) (i : Nat) (init : List Nat) : Nat → Prop
  | base {q : Nat} : q ∈ init → EpsS l s i init q
  | step {p q : Nat} : EpsS l s i init p → EpsB l s i p q → EpsS l s i init q
structure SI (l : List In) (s : ByteArray) (i : Nat) (init ls : List Nat) (k : Nat) (out : List Nat) : Prop where
  le : k ≤ ls.length
  bound : ls.length ≤ init.length + 2 * out.length
  rng : ∀ q, q ∈ ls → q < l.length
  nd : out.Nodup
  done : ∀ j (h : j < ls.length), j < k → ls[j] ∈ out
  succ : ∀ p q, p ∈ out → EpsB l s i p q → q ∈ ls
  sound : ∀ q, q ∈ ls → EpsS l s i init q
  sub : ∀ q, q ∈ out → q ∈ ls
  init : ∀ q, q ∈ init → q ∈ ls
section
variable {l : List In} {s : ByteArray} {i : Nat} {init ls out : List Nat} {k : Nat}
theorem SI.skip (h : SI l s i init ls k out) (hk : k < ls.length) (hm : ls[k] ∈ out) : SI l s i init ls (k + 1) out where
  le := hk
  bound := h.bound
  rng := h.rng
  nd := h.nd
  done := fun j hj hjk => by
    by_cases e : j < k
    · exact h.done j hj e
    · obtain rfl : j = k := by omega
      exact hm
  succ := h.succ
  sound := h.sound
  sub := h.sub
  init := h.init
theorem SI.take (h : SI l s i init ls k out) (hk : k < ls.length) (hm : ls[k] ∉ out) {more : List Nat} (h2 : more.length ≤ 2) (hmore : ∀ q, q ∈ more ↔ EpsB l s i ls[k] q) (hr : ∀ q, q ∈ more → q < l.length) : SI l s i init (ls ++ more) (k + 1) (out ++ [ls[k]]) where
  le := by rw [List.length_append]; omega
  bound := by have := h.bound; simp only [List.length_append, List.length_cons, List.length_nil]; omega
  rng := fun q hq => by
    rcases List.mem_append.1 hq with hq | hq
    · exact h.rng q hq
    · exact hr q hq
  nd := by
    rw [List.nodup_append]
    exact ⟨h.nd, by simp, fun a ha b hb e => by rw [List.mem_singleton] at hb; subst hb; subst e; exact hm ha⟩
  done := fun j hj hjk => by
    rw [List.getElem_append_left (by omega)]
    by_cases e : j < k
    · exact List.mem_append_left _ (h.done j (by omega) e)
    · obtain rfl : j = k := by omega
      exact List.mem_append_right _ (by simp)
  succ := fun p q hp he => by
    rcases List.mem_append.1 hp with hp | hp
    · exact List.mem_append_left _ (h.succ p q hp he)
    · rw [List.mem_singleton] at hp; subst hp
      exact List.mem_append_right _ ((hmore q).2 he)
  sound := fun q hq => by
    rcases List.mem_append.1 hq with hq | hq
    · exact h.sound q hq
    · exact .step (h.sound _ (List.getElem_mem hk)) ((hmore q).1 hq)
  sub := fun q hq => by
    rcases List.mem_append.1 hq with hq | hq
    · exact List.mem_append_left _ (h.sub q hq)
    · rw [List.mem_singleton] at hq; subst hq
      exact List.mem_append_left _ (List.getElem_mem hk)
  init := fun q hq => List.mem_append_left _ (h.init q hq)
end
structure Fl where
  fold : Bool
  lines : Bool
  dots : Bool
  lazy : Bool
structure PS where
  pos : Nat
  now : Fl
  opn : Nat
  names : List ByteArray
abbrev PX (α : Type) := Except Int (α × PS)
abbrev emp : ByteArray := ByteArray.mk #[]
def rxK (k : Int) : Rx := .mk k 0 [] 0 0 false 0 emp []
def lB (c : Int) : Rx := .mk 2 c [] 0 0 false 0 emp []
def iT (l : List (Int × Int)) : Rx := .mk 3 0 l 0 0 false 0 emp []
def rH (k : Int) (l : List Rx) : Rx := .mk k 0 [] 0 0 false 0 emp l
def jV (lo hi : Int) (z : Bool) (x : Rx) : Rx := .mk 6 0 [] lo hi z 0 emp [x]
def rC (n : Int) (nm : ByteArray) (x : Rx) : Rx := .mk 7 0 [] 0 0 false n nm [x]
def oC (k : Int) : List Rx → Rx
  | [] => rxK 1
  | [x] => x
  | l => rH k l
noncomputable def kF (S : Int → Prop) : Rx := match jT S with
  | [(a, b)] => if a = b then lB a else iT [(a, b)]
  | l => iT l
def nK (S : Int → Prop) : Int → Prop := fun c => S c ∨ (97 ≤ c ∧ c ≤ 122 ∧ S (c - 32)) ∨ (65 ≤ c ∧ c ≤ 90 ∧ S (c + 32))
def sU (S : Int → Prop) : Int → Prop := fun c => 0 ≤ c ∧ c ≤ 1114111 ∧ ¬ S c
noncomputable def lD (f : Fl) (c : Int) : Rx := kF (if f.fold = true then nK (fun x => x = c) else fun x => x = c)
def isB (s : ByteArray) (i b : Nat) : Prop := i < s.size ∧ sb s i = b
instance (s : ByteArray) (i b : Nat) : Decidable (isB s i b) := by unfold isB; infer_instance
def GX (c : Nat) : Prop := 48 ≤ c ∧ c ≤ 57
instance (c : Nat) : Decidable (GX c) := by unfold GX; infer_instance
def iZ (s : ByteArray) : Nat → Nat → Int → Int × Nat
  | 0, i, n => (n, i)
  | f + 1, i, n => if i < s.size ∧ GX (sb s i) then iZ s f (i + 1) (min (n * 10 + ((sb s i : Int) - 48)) 1001) else (n, i)
def kZ (r : ByteArray) : Int × Int × Nat :=
  if sb r 0 = 42 then (0, -1, 1) else if sb r 0 = 43 then (1, -1, 1) else if sb r 0 = 63 then (0, 1, 1) else if sb r 0 ≠ 123 then (0, 0, 0)
  else if 1 < (iZ r r.size 1 0).2 ∧ isB r (iZ r r.size 1 0).2 44 then
    if isB r (iZ r r.size ((iZ r r.size 1 0).2 + 1) 0).2 125 then
      ((iZ r r.size 1 0).1, (if (iZ r r.size ((iZ r r.size 1 0).2 + 1) 0).2 = (iZ r r.size 1 0).2 + 1 then -1 else (iZ r r.size ((iZ r r.size 1 0).2 + 1) 0).1), (iZ r r.size ((iZ r r.size 1 0).2 + 1) 0).2 + 1)
    else (0, 0, 0)
  else if (iZ r r.size 1 0).2 = 1 ∨ ¬ isB r (iZ r r.size 1 0).2 125 then (0, 0, 0)
  else ((iZ r r.size 1 0).1, (iZ r r.size 1 0).1, (iZ r r.size 1 0).2 + 1)
def hexD (c : Nat) : Option Nat := if 48 ≤ c ∧ c ≤ 57 then some (c - 48) else if 97 ≤ c ∧ c ≤ 102 then some (c - 97 + 10) else if 65 ≤ c ∧ c ≤ 70 then some (c - 65 + 10) else none
def hD (s : ByteArray) (i : Nat) : Except Int (Nat × Nat) := if i < s.size then (match hexD (sb s i) with | some d => .ok (d, i + 1) | none => .error 83) else .error 83
def kO (s : ByteArray) : Nat → Nat → Nat → Except Int (Nat × Nat)
  | 0, n, i => .error 83
  | f + 1, n, i => if isB s i 125 then .ok (n, i + 1) else match hD s i with
    | .error e => .error e
    | .ok (d, j) => if 1114111 < n * 16 + d then .error 83 else kO s f (n * 16 + d) j
def oE (s : ByteArray) (i : Nat) : Except Int (Nat × Nat) :=
  if isB s i 123 then (match hD s (i + 1) with | .error e => .error e | .ok (d, j) => kO s (s.size + 1 - j) d j)
  else match hD s i with
    | .error e => .error e
    | .ok (a, j) => match hD s j with | .error e => .error e | .ok (b, k) => .ok (a * 16 + b, k)
def uM (c : Nat) : Option Nat := if c = 97 then some 7 else if c = 102 then some 12 else if c = 116 then some 9 else if c = 110 then some 10 else if c = 114 then some 13 else if c = 118 then some 11 else none
def lU (s : ByteArray) (i : Nat) : Except Int (Nat × Nat) :=
  if s.size ≤ i + 1 then .error 83 else match uM (sb s (i + 1)) with
    | some v => .ok (v, i + 2)
    | none => if sb s (i + 1) = 120 then oE s (i + 2) else if 128 ≤ sb s (i + 1) ∨ (fT (sb s (i + 1)) ∧ sb s (i + 1) ≠ 95) then .error 83 else .ok (sb s (i + 1), i + 2)
def rs (l : List (Int × Int)) : Int → Prop := fun c => InR c l
def rM (c : Nat) : Option (Int → Prop) :=
  if c = 100 then some (rs [(48, 57)]) else if c = 115 then some (rs [(9, 10), (12, 13), (32, 32)]) else if c = 119 then some (rs [(48, 57), (65, 90), (95, 95), (97, 122)])
  else if c = 68 then some (sU (rs [(48, 57)])) else if c = 83 then some (sU (rs [(9, 10), (12, 13), (32, 32)])) else if c = 87 then some (sU (rs [(48, 57), (65, 90), (95, 95), (97, 122)])) else none
def asc (l : List Nat) : ByteArray := bstr l
def jR (n : ByteArray) : Option (Int → Prop) :=
  if n = asc [97, 108, 110, 117, 109] then some (rs [(48, 57), (65, 90), (97, 122)])
  else if n = asc [97, 108, 112, 104, 97] then some (rs [(65, 90), (97, 122)])
  else if n = asc [97, 115, 99, 105, 105] then some (rs [(0, 127)])
  else if n = asc [98, 108, 97, 110, 107] then some (rs [(9, 9), (32, 32)])
  else if n = asc [99, 110, 116, 114, 108] then some (rs [(0, 31), (127, 127)])
  else if n = asc [100, 105, 103, 105, 116] then some (rs [(48, 57)])
  else if n = asc [103, 114, 97, 112, 104] then some (rs [(33, 126)])
  else if n = asc [108, 111, 119, 101, 114] then some (rs [(97, 122)])
  else if n = asc [112, 114, 105, 110, 116] then some (rs [(32, 126)])
  else if n = asc [112, 117, 110, 99, 116] then some (rs [(33, 47), (58, 64), (91, 96), (123, 126)])
  else if n = asc [115, 112, 97, 99, 101] then some (rs [(9, 13), (32, 32)])
  else if n = asc [117, 112, 112, 101, 114] then some (rs [(65, 90)])
  else if n = asc [119, 111, 114, 100] then some (rs [(48, 57), (65, 90), (95, 95), (97, 122)])
  else if n = asc [120, 100, 105, 103, 105, 116] then some (rs [(48, 57), (65, 70), (97, 102)]) else none
def kS (s : ByteArray) (i : Nat) : Except Int (Int × Nat) :=
  if sb s i = 92 then (match lU s i with | .ok (v, j) => .ok ((v : Int), j) | .error e => .error e) else .ok ((cD s i).1, i + (cD s i).2)
def lG (s : ByteArray) (a b : Nat) : Nat → Nat → Option Nat
  | 0, _ => none
  | f + 1, j => if j + 1 < s.size ∧ sb s j = a ∧ sb s (j + 1) = b then some j else lG s a b f (j + 1)
def unS (S T : Int → Prop) : Int → Prop := fun c => S c ∨ T c
def rgS (lo hi : Int) : Int → Prop := fun c => lo ≤ c ∧ c ≤ hi
abbrev PR := Except Int ((Int → Prop) × Nat)
noncomputable def hZ (s : ByteArray) (i : Nat) : PR := match kS s i with
  | .error e => .error e
  | .ok (lo, j) => if isB s j 45 ∧ j + 1 < s.size ∧ sb s (j + 1) ≠ 93 then
      (match kS s (j + 1) with | .error e => .error e | .ok (hi, k) => if hi < lo then .error 81 else .ok (rgS lo hi, k))
    else .ok (rgS lo lo, j)
noncomputable def lC (s : ByteArray) (i : Nat) : PR :=
  if i + 1 < s.size ∧ sb s i = 92 then (match rM (sb s (i + 1)) with | some S => .ok (S, i + 2) | none => hZ s i) else hZ s i
noncomputable def jP (s : ByteArray) (i : Nat) : PR :=
  if isB s i 91 ∧ isB s (i + 1) 58 then
    (match lG s 58 93 s.size (i + 2) with
    | none => lC s i
    | some j =>
      if i + 2 < j ∧ sb s (i + 2) = 94 then (match jR (s.extract (i + 3) j) with | none => .error 81 | some S => .ok (sU S, j + 2))
      else (match jR (s.extract (i + 2) j) with | none => .error 81 | some S => .ok (S, j + 2)))
  else lC s i
noncomputable def gG (s : ByteArray) : Nat → Bool → (Int → Prop) → Nat → PR
  | 0, _, _, _ => .error 81
  | f + 1, fst, S, i => if s.size ≤ i then .error 81 else if fst = false ∧ sb s i = 93 then .ok (S, i + 1) else match jP s i with
    | .error e => .error e
    | .ok (T, j) => gG s f false (unS S T) j
noncomputable def jY (s : ByteArray) (fl : Fl) (i : Nat) : Except Int (Rx × Nat) :=
  match gG s (s.size + 1) true (fun _ => False) (if isB s i 94 then i + 1 else i) with
  | .error e => .error e
  | .ok (S, j) => .ok (kF (if isB s i 94 then sU (if fl.fold = true then nK S else S) else if fl.fold = true then nK S else S), j)
structure Opn where
  size : Nat
  name : ByteArray
  thn : Fl
  capt : Bool
  sett : Bool
  err : Int
def iA (s : ByteArray) : Nat → Nat → Nat
  | 0, j => j
  | f + 1, j => if j < s.size ∧ fT (sb s j) then iA s f (j + 1) else j
def lZ (s : ByteArray) (i h : Nat) (fl : Fl) : Opn :=
  if iA s s.size (i + h) = i + h ∨ ¬ isB s (iA s s.size (i + h)) 62 then ⟨0, emp, fl, false, false, 85⟩
  else ⟨iA s s.size (i + h) + 1 - i, s.extract (i + h) (iA s s.size (i + h)), fl, true, false, 0⟩
def iL (s : ByteArray) (i : Nat) : Nat → Nat → Bool → Int → Bool → Fl → Opn
  | 0, _, _, _, _, fl => ⟨0, emp, fl, false, false, 84⟩
  | f + 1, j, b, n, m, fl =>
    if s.size ≤ j then ⟨0, emp, fl, false, false, 84⟩
    else if sb s j = 105 then iL s i f (j + 1) b (n + 1) m { fl with fold := b }
    else if sb s j = 109 then iL s i f (j + 1) b (n + 1) m { fl with lines := b }
    else if sb s j = 115 then iL s i f (j + 1) b (n + 1) m { fl with dots := b }
    else if sb s j = 85 then iL s i f (j + 1) b (n + 1) m { fl with lazy := b }
    else if sb s j = 45 then (if m = true then ⟨0, emp, fl, false, false, 84⟩ else iL s i f (j + 1) false 0 true fl)
    else if sb s j = 58 ∨ sb s j = 41 then ⟨j + 1 - i, emp, fl, false, decide (sb s j = 41), if n = 0 then 84 else 0⟩
    else ⟨0, emp, fl, false, false, 84⟩
def fK (s : ByteArray) (i : Nat) (fl : Fl) : Opn :=
  if ¬ (isB s i 40 ∧ isB s (i + 1) 63) then ⟨1, emp, fl, true, false, 0⟩
  else if isB s (i + 2) 80 ∧ isB s (i + 3) 60 then lZ s i 4 fl
  else if isB s (i + 2) 60 then lZ s i 3 fl
  else if isB s (i + 2) 58 then ⟨3, emp, fl, false, false, 0⟩
  else iL s i s.size (i + 2) true 0 false fl
abbrev PL := PX (List Rx)
open Classical in
noncomputable def pP (s : ByteArray) (ex : PS → PX Rx) (st : PS) : PL :=
  let o := fK s st.pos st.now
  if o.err = 0 ∧ o.sett = true then .ok ([], { st with pos := st.pos + o.size, now := o.thn })
  else if st.opn = 250 then .error 3
  else if o.err ≠ 0 then .error o.err
  else if o.capt = true ∧ (st.names.length = 100 ∨ (o.name ≠ emp ∧ o.name ∈ st.names)) then .error 85
  else match ex ⟨st.pos + o.size, o.thn, st.opn + 1, if o.capt = true then st.names ++ [o.name] else st.names⟩ with
    | .error e => .error e
    | .ok (x, st2) => if isB s st2.pos 41 then
        .ok ([if o.capt = true then rC ((st.names.length : Int) + 1) o.name x else x], { st2 with pos := st2.pos + 1, opn := st2.opn - 1, now := st.now })
      else .error 80
noncomputable def kQ (s : ByteArray) (fl : Fl) (e : Nat) : Nat → List Rx → Nat → List Rx × Nat
  | 0, l, i => (l, i)
  | f + 1, l, i => if i < e then kQ s fl e f (l ++ [lD fl (cD s i).1]) (i + (cD s i).2) else (l, i)
noncomputable def mO (s : ByteArray) (st : PS) : PL := match lG s 92 69 s.size (st.pos + 2) with
  | some e => .ok ((kQ s st.now e s.size [] (st.pos + 2)).1, { st with pos := (kQ s st.now e s.size [] (st.pos + 2)).2 + 2 })
  | none => .ok ((kQ s st.now s.size s.size [] (st.pos + 2)).1, { st with pos := (kQ s st.now s.size s.size [] (st.pos + 2)).2 })
noncomputable def gT (s : ByteArray) (st : PS) : PL :=
  if s.size ≤ st.pos + 1 then .error 83
  else if sb s (st.pos + 1) = 65 then .ok ([rxK 8], { st with pos := st.pos + 2 })
  else if sb s (st.pos + 1) = 122 then .ok ([rxK 9], { st with pos := st.pos + 2 })
  else if sb s (st.pos + 1) = 98 then .ok ([rxK 12], { st with pos := st.pos + 2 })
  else if sb s (st.pos + 1) = 66 then .ok ([rxK 13], { st with pos := st.pos + 2 })
  else if sb s (st.pos + 1) = 81 then mO s st
  else match rM (sb s (st.pos + 1)) with
    | some S => .ok ([kF S], { st with pos := st.pos + 2 })
    | none => match lU s st.pos with
      | .error e => .error e
      | .ok (v, j) => .ok ([lD st.now v], { st with pos := j })
noncomputable def kJ (s : ByteArray) (st : PS) : PL :=
  .ok ([if (cD s st.pos).1 = 46 then (if st.now.dots = true then kF (rs [(0, 1114111)]) else kF (rs [(0, 9), (11, 1114111)]))
    else if (cD s st.pos).1 = 94 then rxK (if st.now.lines = true then 10 else 8)
    else if (cD s st.pos).1 = 36 then rxK (if st.now.lines = true then 11 else 9)
    else lD st.now (cD s st.pos).1], { st with pos := st.pos + (cD s st.pos).2 })
noncomputable def eL (s : ByteArray) (ex : PS → PX Rx) (st : PS) : PL :=
  if sb s st.pos = 40 then pP s ex st
  else if sb s st.pos = 91 then (match jY s st.now (st.pos + 1) with | .error e => .error e | .ok (x, j) => .ok ([x], { st with pos := j }))
  else if sb s st.pos = 92 then gT s st
  else kJ s st
noncomputable def hY (s : ByteArray) (ex : PS → PX Rx) : Nat → List Rx → Bool → PS → PX Rx
  | 0, l, ah, st => .ok (oC 4 l, st)
  | f + 1, l, ah, st =>
    if s.size ≤ st.pos ∨ sb s st.pos = 124 ∨ sb s st.pos = 41 then .ok (oC 4 l, st)
    else
      let r := kZ (s.extract st.pos s.size)
      if r.2.2 = 0 then (match eL s ex st with
        | .error e => .error e
        | .ok (g, st2) => hY s ex f (l ++ g) (decide (0 < g.length)) st2)
      else if ah = false ∨ 1000 < r.1 ∨ 1000 < r.2.1 ∨ (0 ≤ r.2.1 ∧ r.2.1 < r.1) then .error 82
      else if isB s (st.pos + r.2.2) 63 then hY s ex f (l.dropLast ++ [jV r.1 r.2.1 (!st.now.lazy) (l.getLastD (rxK 1))]) false { st with pos := st.pos + r.2.2 + 1 }
      else hY s ex f (l.dropLast ++ [jV r.1 r.2.1 st.now.lazy (l.getLastD (rxK 1))]) false { st with pos := st.pos + r.2.2 }
noncomputable def lN (s : ByteArray) (ex : PS → PX Rx) : Nat → List Rx → PS → PX Rx
  | 0, l, st => .ok (oC 5 l, st)
  | f + 1, l, st => if isB s st.pos 124 then (match hY s ex (s.size + 1) [] false { st with pos := st.pos + 1 } with
      | .error e => .error e
      | .ok (x, st2) => lN s ex f (l ++ [x]) st2)
    else .ok (oC 5 l, st)
noncomputable def kP (s : ByteArray) (ex : PS → PX Rx) (st : PS) : PX Rx := match hY s ex (s.size + 1) [] false st with
  | .error e => .error e
  | .ok (x, st2) => lN s ex (s.size + 1) [x] st2
noncomputable def kL (s : ByteArray) : Nat → PS → PX Rx
  | 0 => fun st => kP s (fun _ => .error 3) st
  | n + 1 => fun st => kP s (kL s n) st
noncomputable def iG (s : ByteArray) : Except Int Rx := open Classical in
  if 4096 < s.size then .error 1 else if ¬ ∃ N, Utf s N then .error 4
  else match kL s 250 ⟨0, ⟨false, false, false, false⟩, 0, []⟩ with
    | .error e => .error e
    | .ok (x, st) => if st.pos < s.size then .error 80 else .ok x
end Go.Proofs.YtljadkcojnlioaaGreatDoor
namespace Go.Proofs.YtljadkcojnlioaaGreatDoor
open Go.RowKit Go.W
attribute [local irreducible] Decidable.decide
theorem dK : gB Tryz.prog 64 0 = some 0 := by kernel_rfl
theorem bF : gB Tryz.prog 64 1 = some 1 := by kernel_rfl
abbrev rdc (s : ByteArray) (st : PS) (a : Option Addr) (c : Nat) : Array Value := #[.string s, iv (st.pos : Nat), .bool st.now.fold, .bool st.now.lines, .bool st.now.dots, .bool st.now.lazy, iv (st.opn : Nat), .slice a st.names.length c]
structure RdAt (w : World) (b : Nat) (s : ByteArray) (st : PS) (a : Option Addr) (c : Nat) (ob : Option Nat) : Prop where
  blk : w.heap[b]? = some (.cells (rdc s st a c) 64 (0, 0))
  own : OwnS w 9 1 a st.names.length c (st.names.map sv) ob
  ne : ∀ g, ob = some g → g ≠ b
theorem RdAt.ap {w : World} {b : Nat} {s : ByteArray} {st : PS} {a : Option Addr} {c : Nat} {ob : Option Nat} (h : RdAt w b s st a c ob) : Apart (some b) ob := fun g h1 h2 => by cases h1; exact h.ne b h2 rfl
def adv (st : PS) (n : Nat) : PS := { st with pos := st.pos + n }
theorem lX {w : World} {b : Nat} {s : ByteArray} {st : PS} {a : Option Addr} {c : Nat} {ob : Option Nat} (hR : RdAt w b s st a c ob) (hs : s.size ≤ 1000000) (ch : Nat) (hc : ch < 256) :
    Calls Tryz.prog 60 #[.pointer (some ⟨b, 0, none⟩), .int .u8 (ch : Nat)] w (Ret fun v w' => v = .bool (decide (isB s st.pos ch)) ∧ Evo [b] w w' ∧ RdAt w' b s (if isB s st.pos ch then adv st 1 else st) a c ob) := by
  have hap := hR.ap; refine bL (N := 35) Tryz.func60 rfl rfl rfl ?_; refine aE (aB (aN (aC (aA (aE (aE ?_)))))); refine fJ (by kernel_rfl) (by kernel_rfl) ?_; refine bJ (fun _ hq2 => bH rfl) ?_; refine bJ (fun _ hq2 => aQ rfl) ?_; refine bJ (fun _ hq2 => aD rfl bF) ?_; refine bJ (fun _ hq2 => aI rfl aW (aJ (hq2.blk0 hR.blk) rfl)) ?_; refine bJ (fun _ hq2 => bH rfl) ?_; refine bJ (fun _ hq2 => aQ rfl) ?_; refine bJ (fun _ hq2 => aD rfl dK) ?_; refine bJ (fun _ hq2 => aI rfl cL (aJ (hq2.blk0 hR.blk) rfl)) ?_; refine bJ (fun _ hq2 => cT rfl Tryz.underlying9 rfl) ?_; refine bJ (fun _ hq2 => dF rfl rfl) ?_; refine bJ (fun _ hq2 => bH rfl) ?_; refine jO (t := 15) rfl (fun hs15 => ?_) (fun hs15 => ?_)
  ·have hlt : st.pos < s.size := by omega
   refine qlg ?_; refine bJ (fun _ hq2 => bH rfl) ?_; refine qlg ?_; refine bJ (fun _ hq2 => aQ rfl) ?_; refine qlg ?_; refine bJ (fun _ hq2 => aD rfl dK) ?_; refine qlg ?_; refine bJ (fun _ hq2 => aI rfl cL (aJ (hq2.blk0 hR.blk) rfl)) ?_; refine qlg ?_; refine bJ (fun _ hq2 => bH rfl) ?_; refine qlg ?_; refine bJ (fun _ hq2 => aQ rfl) ?_; refine qlg ?_; refine bJ (fun _ hq2 => aD rfl bF) ?_; refine qlg ?_; refine bJ (fun _ hq2 => aI rfl aW (aJ (hq2.blk0 hR.blk) rfl)) ?_; refine qlg ?_; refine bJ (fun _ hq2 => gH (n := st.pos) rfl rfl Tryz.underlying9 rfl hlt) ?_; refine qlg ?_; refine bJ (fun _ hq2 => bH rfl) ?_; refine qlg ?_; refine bJ (fun _ hq2 => bC rfl rfl) ?_; refine bJ (fun _ hq2 => eG rfl rfl) ?_; refine fO (fun wq1 hq2 => aA ?_); have hE3 := (Evo.refl [b] w).then hq2; have hB4 := hq2.blk0 hR.blk; have hO5 := hR.own.evo0 hq2; refine bG rfl (fun hc27 => ?_) (fun hc27 => ?_)
   ·refine aE (aB (aH (aF (aQ rfl) (aF (aD rfl bF) (aF (aI rfl aW (aJ hB4 rfl)) ?_))))); refine aF (bE rfl rfl (by omega) (by omega)) ?_; refine aF (aQ rfl) (aF (aD rfl bF) (bI rfl rfl (rfl) bT hB4 rfl fun w6 hB7 hw8 => ?_)); have hE9 := hE3.step hw8 (fun y hy => .inl hy); have hO10 := hO5.evo hw8 hap.symm.own1
    try simp only [cV, Nat.reduceAdd] at hB7
    refine aC (aA (aE (aB (aN (aC (aA (aO (aM (br1 ?_))))))))); have hb : isB s st.pos ch := ⟨hlt, by omega⟩; refine ⟨congrArg Value.bool (decide_eq_true hb).symm, hE9, ?_⟩
    rw [if_pos hb]; exact ⟨hB7, hO10, hR.ne⟩
   refine aX (aA (aE (aB (aN (aC (aA (aO (br1 ?_))))))))
   have hb : ¬ isB s st.pos ch := fun h => by first | exact hs15 (by have := h.1; omega) | exact hc27 (by have := h.2; omega)
   refine ⟨congrArg Value.bool (decide_eq_false hb).symm, hE3, ?_⟩
   rw [if_neg hb]; exact ⟨hB4, hO5, hR.ne⟩
  refine qln ?_; refine qln ?_; refine qln ?_; refine qln ?_; refine qln ?_; refine qln ?_; refine qln ?_; refine qln ?_; refine qln ?_; refine qln ?_; refine qln ?_; refine bJ (fun _ hq2 => fQ rfl rfl) ?_; refine fO (fun wq1 hq2 => aA ?_); have hE11 := (Evo.refl [b] w).then hq2; have hB12 := hq2.blk0 hR.blk; have hO13 := hR.own.evo0 hq2; refine cN rfl ?_; refine aX (aA (aE (aB (aN (aC (aA (aO (br1 ?_))))))))
  have hb : ¬ isB s st.pos ch := fun h => by first | exact hs15 (by have := h.1; omega) | exact hc27 (by have := h.2; omega)
  refine ⟨congrArg Value.bool (decide_eq_false hb).symm, hE11, ?_⟩
  rw [if_neg hb]; exact ⟨hB12, hO13, hR.ne⟩
theorem cY : fA Tryz.prog 37 := ⟨_, Tryz.func37, by kernel_rfl, by kernel_rfl⟩
theorem sV {r : Int} (h0 : -2147483648 ≤ r) (h1 : r ≤ 2147483647) : IntKind.i64.min ≤ r ∧ r ≤ IntKind.i64.max := by
  constructor <;> simp [IntKind.min, IntKind.max, IntKind.signed, IntKind.bits] <;> omega
theorem hexd_no {s : ByteArray} {i : Nat} (h : ¬ i < s.size) : hD s i = .error 83 := by unfold hD; rw [if_neg h]
theorem oK {s : ByteArray} {i d : Nat} (h : i < s.size) (hd : hexD (sb s i) = some d) : hD s i = .ok (d, i + 1) := by unfold hD; rw [if_pos h, hd]
theorem lP {s : ByteArray} {i : Nat} (h : i < s.size) (hd : hexD (sb s i) = none) : hD s i = .error 83 := by unfold hD; rw [if_pos h, hd]
theorem tM {z : Int} {d : Nat} (h : z = d) : Value.int .i64 z = iv (d : Nat) := by rw [h]
theorem oY {w : World} {b : Nat} {s : ByteArray} {st : PS} {a : Option Addr} {c : Nat} {ob : Option Nat} (hR : RdAt w b s st a c ob) (hs : s.size ≤ 1000000) :
    Calls Tryz.prog 161 #[.pointer (some ⟨b, 0, none⟩)] w (RetP (fun v w' => ∃ d, hD s st.pos = .ok (d, st.pos + 1) ∧ v = iv (d : Nat) ∧ Evo [b] w w' ∧ RdAt w' b s (adv st 1) a c ob) (fun v w' => hD s st.pos = .error 83 ∧ v = flt 83 ∧ Evo [b] w w')) := by
  have hap := hR.ap; have hb9 := jC s st.pos; refine bL (N := 63) Tryz.func161 rfl rfl rfl ?_; refine aE (aB (aN (aC (aA (aE (aE ?_)))))); refine fJ (by kernel_rfl) (by kernel_rfl) ?_; refine bJ (fun _ hq2 => bH rfl) ?_; refine bJ (fun _ hq2 => aQ rfl) ?_; refine bJ (fun _ hq2 => aD rfl bF) ?_; refine bJ (fun _ hq2 => aI rfl aW (aJ (hq2.blk0 hR.blk) rfl)) ?_; refine bJ (fun _ hq2 => bH rfl) ?_; refine bJ (fun _ hq2 => aQ rfl) ?_; refine bJ (fun _ hq2 => aD rfl dK) ?_; refine bJ (fun _ hq2 => aI rfl cL (aJ (hq2.blk0 hR.blk) rfl)) ?_; refine bJ (fun _ hq2 => cT rfl Tryz.underlying9 rfl) ?_; refine bJ (fun _ hq2 => dF rfl rfl) ?_; refine fO (fun wq1 hq2 => aA ?_); have hE3 := (Evo.refl [b] w).then hq2; have hB4 := hq2.blk0 hR.blk; have hO5 := hR.own.evo0 hq2; refine bG rfl (fun hc13 => ?_) (fun hc13 => ?_)
  ·have hlt : st.pos < s.size := by omega
   refine aE ?_; refine fJ (by kernel_rfl) (by kernel_rfl) ?_; refine bJ (fun _ hq7 => bH rfl) ?_; refine bJ (fun _ hq7 => aQ rfl) ?_; refine bJ (fun _ hq7 => aD rfl dK) ?_; refine bJ (fun _ hq7 => aI rfl cL (aJ (hq7.blk0 hB4) rfl)) ?_; refine bJ (fun _ hq7 => bH rfl) ?_; refine bJ (fun _ hq7 => aQ rfl) ?_; refine bJ (fun _ hq7 => aD rfl bF) ?_; refine bJ (fun _ hq7 => aI rfl aW (aJ (hq7.blk0 hB4) rfl)) ?_; refine bJ (fun _ hq7 => gH (n := st.pos) rfl rfl Tryz.underlying9 rfl hlt) ?_; refine bJ (fun _ hq7 => eV rfl) ?_; refine fO (fun wq6 hq7 => aA ?_); have hE8 := hE3.then hq7; have hB9 := hq7.blk0 hB4; have hO10 := hO5.evo0 hq7; refine aE (aB (aH (aF (aQ rfl) (aF (aD rfl bF) (aF (aI rfl aW (aJ hB9 rfl)) ?_))))); refine aF (bE rfl rfl (by omega) (by omega)) ?_; refine aF (aQ rfl) (aF (aD rfl bF) (bI rfl rfl (rfl) bT hB9 rfl fun w11 hB12 hw13 => ?_)); have hE14 := hE8.step hw13 (fun y hy => .inl hy); have hO15 := hO10.evo hw13 hap.symm.own1
   try simp only [cV, Nat.reduceAdd] at hB12
   refine aC (aA (bS (aE (aB (aH (aF (fG rfl rfl) ?_)))))); refine aH (aU (t := 33) rfl (fun hs33 => ?_) (fun hs33 => ?_))
   ·refine aK (aH (aK (aF (fP rfl rfl) ?_))); refine aY (aN (aC (aA (bG rfl (fun hc30 => ?_) (fun hc30 => ?_)))))
    ·refine aE (aB (aH ?_)); refine aF (lR rfl rfl (by omega) (by omega)) ?_; refine aF (iV rfl Tryz.underlying5 Tryz.underlying3 (sV (by omega) (by omega)).1 (sV (by omega) (by omega)).2) ?_; refine aN (aC (aA (aO (aV (aM (bW (br1 ?_)))))))
     exact ⟨_, oK hlt (by unfold hexD; rw [if_pos (by omega)]), tM (by omega), hE14, hB12, hO15, hR.ne⟩
    refine aE (aB (aH (aF (fG rfl rfl) ?_))); refine aH (aU (t := 43) rfl (fun hs43 => ?_) (fun hs43 => ?_))
    ·refine aK (aH (aK (aF (fP rfl rfl) ?_))); refine aY (aN (aC (aA (bG rfl (fun hc40 => ?_) (fun hc40 => ?_)))))
     ·refine aE (aB (aH ?_)); refine aF (lR rfl rfl (by omega) (by omega)) ?_; refine aF (iV rfl Tryz.underlying5 Tryz.underlying3 (sV (by omega) (by omega)).1 (sV (by omega) (by omega)).2) ?_; refine aF (bE rfl rfl (by omega) (by omega)) ?_; refine aN (aC (aA (aO (aV (aM (bW (br1 ?_)))))))
      exact ⟨_, oK hlt (by unfold hexD; rw [if_neg (by omega), if_pos (by omega)]), tM (by omega), hE14, hB12, hO15, hR.ne⟩
     refine aE (aB (aH (aF (fG rfl rfl) ?_))); refine aH (aU (t := 54) rfl (fun hs54 => ?_) (fun hs54 => ?_))
     ·refine aK (aH (aK (aF (fP rfl rfl) ?_))); refine aY (aN (aC (aA (bG rfl (fun hc51 => ?_) (fun hc51 => ?_)))))
      ·refine aE (aB (aH ?_)); refine aF (lR rfl rfl (by omega) (by omega)) ?_; refine aF (iV rfl Tryz.underlying5 Tryz.underlying3 (sV (by omega) (by omega)).1 (sV (by omega) (by omega)).2) ?_; refine aF (bE rfl rfl (by omega) (by omega)) ?_; refine aN (aC (aA (aO (aV (aM (bW (br1 ?_)))))))
       exact ⟨_, oK hlt (by unfold hexD; rw [if_neg (by omega), if_neg (by omega), if_pos (by omega)]), tM (by omega), hE14, hB12, hO15, hR.ne⟩
      refine aX (aZ (aA (aE (aB (bX (vs := [_]) cY rfl (eR 83) rfl ?_ ?_)))))
      ·intro pv wp hpp; obtain ⟨rfl, hpe⟩ := hpp
       exact And.intro rfl ⟨_, rfl, lP hlt (by unfold hexD; rw [if_neg (by omega), if_neg (by omega), if_neg (by omega)]), rfl, (hE14).then hpe⟩
      intro _ _ hF; exact hF.elim
     refine aG (aG (aR (aN (aC (aA (cN rfl ?_)))))); refine aX (aZ (aA (aE (aB (bX (vs := [_]) cY rfl (eR 83) rfl ?_ ?_)))))
     ·intro pv wp hpp; obtain ⟨rfl, hpe⟩ := hpp
      exact And.intro rfl ⟨_, rfl, lP hlt (by unfold hexD; rw [if_neg (by omega), if_neg (by omega), if_neg (by omega)]), rfl, (hE14).then hpe⟩
     intro _ _ hF; exact hF.elim
    refine aG (aG (aR (aN (aC (aA (cN rfl ?_)))))); refine aE (aB (aH (aF (fG rfl rfl) ?_))); refine aH (aU (t := 54) rfl (fun hs54 => ?_) (fun hs54 => ?_))
    ·refine aK (aH (aK (aF (fP rfl rfl) ?_))); refine aY (aN (aC (aA (bG rfl (fun hc51 => ?_) (fun hc51 => ?_)))))
     ·refine aE (aB (aH ?_)); refine aF (lR rfl rfl (by omega) (by omega)) ?_; refine aF (iV rfl Tryz.underlying5 Tryz.underlying3 (sV (by omega) (by omega)).1 (sV (by omega) (by omega)).2) ?_; refine aF (bE rfl rfl (by omega) (by omega)) ?_; refine aN (aC (aA (aO (aV (aM (bW (br1 ?_)))))))
      exact ⟨_, oK hlt (by unfold hexD; rw [if_neg (by omega), if_neg (by omega), if_pos (by omega)]), tM (by omega), hE14, hB12, hO15, hR.ne⟩
     refine aX (aZ (aA (aE (aB (bX (vs := [_]) cY rfl (eR 83) rfl ?_ ?_)))))
     ·intro pv wp hpp; obtain ⟨rfl, hpe⟩ := hpp
      exact And.intro rfl ⟨_, rfl, lP hlt (by unfold hexD; rw [if_neg (by omega), if_neg (by omega), if_neg (by omega)]), rfl, (hE14).then hpe⟩
     intro _ _ hF; exact hF.elim
    refine aG (aG (aR (aN (aC (aA (cN rfl ?_)))))); refine aX (aZ (aA (aE (aB (bX (vs := [_]) cY rfl (eR 83) rfl ?_ ?_)))))
    ·intro pv wp hpp; obtain ⟨rfl, hpe⟩ := hpp
     exact And.intro rfl ⟨_, rfl, lP hlt (by unfold hexD; rw [if_neg (by omega), if_neg (by omega), if_neg (by omega)]), rfl, (hE14).then hpe⟩
    intro _ _ hF; exact hF.elim
   refine aG (aG (aR (aN (aC (aA (cN rfl ?_)))))); refine aE (aB (aH (aF (fG rfl rfl) ?_))); refine aH (aU (t := 43) rfl (fun hs43 => ?_) (fun hs43 => ?_))
   ·refine aK (aH (aK (aF (fP rfl rfl) ?_))); refine aY (aN (aC (aA (bG rfl (fun hc40 => ?_) (fun hc40 => ?_)))))
    ·refine aE (aB (aH ?_)); refine aF (lR rfl rfl (by omega) (by omega)) ?_; refine aF (iV rfl Tryz.underlying5 Tryz.underlying3 (sV (by omega) (by omega)).1 (sV (by omega) (by omega)).2) ?_; refine aF (bE rfl rfl (by omega) (by omega)) ?_; refine aN (aC (aA (aO (aV (aM (bW (br1 ?_)))))))
     exact ⟨_, oK hlt (by unfold hexD; rw [if_neg (by omega), if_pos (by omega)]), tM (by omega), hE14, hB12, hO15, hR.ne⟩
    refine aE (aB (aH (aF (fG rfl rfl) ?_))); refine aH (aU (t := 54) rfl (fun hs54 => ?_) (fun hs54 => ?_))
    ·refine aK (aH (aK (aF (fP rfl rfl) ?_))); refine aY (aN (aC (aA (bG rfl (fun hc51 => ?_) (fun hc51 => ?_)))))
     ·refine aE (aB (aH ?_)); refine aF (lR rfl rfl (by omega) (by omega)) ?_; refine aF (iV rfl Tryz.underlying5 Tryz.underlying3 (sV (by omega) (by omega)).1 (sV (by omega) (by omega)).2) ?_; refine aF (bE rfl rfl (by omega) (by omega)) ?_; refine aN (aC (aA (aO (aV (aM (bW (br1 ?_)))))))
      exact ⟨_, oK hlt (by unfold hexD; rw [if_neg (by omega), if_neg (by omega), if_pos (by omega)]), tM (by omega), hE14, hB12, hO15, hR.ne⟩
     refine aX (aZ (aA (aE (aB (bX (vs := [_]) cY rfl (eR 83) rfl ?_ ?_)))))
     ·intro pv wp hpp; obtain ⟨rfl, hpe⟩ := hpp
      exact And.intro rfl ⟨_, rfl, lP hlt (by unfold hexD; rw [if_neg (by omega), if_neg (by omega), if_neg (by omega)]), rfl, (hE14).then hpe⟩
     intro _ _ hF; exact hF.elim
    refine aG (aG (aR (aN (aC (aA (cN rfl ?_)))))); refine aX (aZ (aA (aE (aB (bX (vs := [_]) cY rfl (eR 83) rfl ?_ ?_)))))
    ·intro pv wp hpp; obtain ⟨rfl, hpe⟩ := hpp
     exact And.intro rfl ⟨_, rfl, lP hlt (by unfold hexD; rw [if_neg (by omega), if_neg (by omega), if_neg (by omega)]), rfl, (hE14).then hpe⟩
    intro _ _ hF; exact hF.elim
   refine aG (aG (aR (aN (aC (aA (cN rfl ?_)))))); refine aE (aB (aH (aF (fG rfl rfl) ?_))); refine aH (aU (t := 54) rfl (fun hs54 => ?_) (fun hs54 => ?_))
   ·refine aK (aH (aK (aF (fP rfl rfl) ?_))); refine aY (aN (aC (aA (bG rfl (fun hc51 => ?_) (fun hc51 => ?_)))))
    ·refine aE (aB (aH ?_)); refine aF (lR rfl rfl (by omega) (by omega)) ?_; refine aF (iV rfl Tryz.underlying5 Tryz.underlying3 (sV (by omega) (by omega)).1 (sV (by omega) (by omega)).2) ?_; refine aF (bE rfl rfl (by omega) (by omega)) ?_; refine aN (aC (aA (aO (aV (aM (bW (br1 ?_)))))))
     exact ⟨_, oK hlt (by unfold hexD; rw [if_neg (by omega), if_neg (by omega), if_pos (by omega)]), tM (by omega), hE14, hB12, hO15, hR.ne⟩
    refine aX (aZ (aA (aE (aB (bX (vs := [_]) cY rfl (eR 83) rfl ?_ ?_)))))
    ·intro pv wp hpp; obtain ⟨rfl, hpe⟩ := hpp
     exact And.intro rfl ⟨_, rfl, lP hlt (by unfold hexD; rw [if_neg (by omega), if_neg (by omega), if_neg (by omega)]), rfl, (hE14).then hpe⟩
    intro _ _ hF; exact hF.elim
   refine aG (aG (aR (aN (aC (aA (cN rfl ?_)))))); refine aX (aZ (aA (aE (aB (bX (vs := [_]) cY rfl (eR 83) rfl ?_ ?_)))))
   ·intro pv wp hpp; obtain ⟨rfl, hpe⟩ := hpp
    exact And.intro rfl ⟨_, rfl, lP hlt (by unfold hexD; rw [if_neg (by omega), if_neg (by omega), if_neg (by omega)]), rfl, (hE14).then hpe⟩
   intro _ _ hF; exact hF.elim
  refine aX (aA (aE (aB (bX (vs := [_]) cY rfl (eR 83) rfl ?_ ?_))))
  ·intro pv wp hpp; obtain ⟨rfl, hpe⟩ := hpp; exact And.intro rfl ⟨_, rfl, hexd_no (by omega), rfl, (hE3).then hpe⟩
  intro _ _ hF; exact hF.elim
theorem nP : fA Tryz.prog 161 := ⟨_, Tryz.func161, by kernel_rfl, by kernel_rfl⟩
theorem iE : fA Tryz.prog 60 := ⟨_, Tryz.func60, by kernel_rfl, by kernel_rfl⟩
def gZ (st : PS) (j : Nat) : PS := { st with pos := j }
theorem yX (s : ByteArray) (i : Nat) : hD s i = .error 83 ∨ ∃ d, d < 16 ∧ i < s.size ∧ hD s i = .ok (d, i + 1) := by
  unfold hD
  by_cases h : i < s.size
  · rw [if_pos h]
    unfold hexD
    split
    · rename_i d hd
      refine .inr ⟨d, ?_, h, rfl⟩
      split at hd
      · cases hd; omega
      · split at hd
        · cases hd; omega
        · split at hd
          · cases hd; omega
          · cases hd
    · exact .inl rfl
  · rw [if_neg h]; exact .inl rfl
theorem zW {r : Int} (h0 : -2147483648 ≤ r) (h1 : r ≤ 2147483647) : IntKind.i32.min ≤ r ∧ r ≤ IntKind.i32.max := by
  constructor <;> simp [IntKind.min, IntKind.max, IntKind.signed, IntKind.bits] <;> omega
theorem TF {s : ByteArray} {n i : Nat} (hi : i ≤ s.size) (h : isB s i 125) : kO s (s.size + 1 - i) n i = .ok (n, i + 1) := by
  rw [show s.size + 1 - i = (s.size - i) + 1 by omega, kO, if_pos h]
theorem TE {s : ByteArray} {n i : Nat} (hi : i ≤ s.size) (h : ¬ isB s i 125) (he : hD s i = .error 83) : kO s (s.size + 1 - i) n i = .error 83 := by
  rw [show s.size + 1 - i = (s.size - i) + 1 by omega, kO, if_neg h, he]
theorem TG {s : ByteArray} {n i d : Nat} (hi : i ≤ s.size) (h : ¬ isB s i 125) (he : hD s i = .ok (d, i + 1)) (hb : 1114111 < n * 16 + d) : kO s (s.size + 1 - i) n i = .error 83 := by
  rw [show s.size + 1 - i = (s.size - i) + 1 by omega, kO, if_neg h, he]
  show (if 1114111 < n * 16 + d then _ else _) = _
  rw [if_pos hb]
theorem hexl_go {s : ByteArray} {n i d : Nat} (hi : i < s.size) (h : ¬ isB s i 125) (he : hD s i = .ok (d, i + 1)) (hb : ¬ 1114111 < n * 16 + d) : kO s (s.size + 1 - i) n i = kO s (s.size + 1 - (i + 1)) (n * 16 + d) (i + 1) := by
  rw [show s.size + 1 - i = (s.size + 1 - (i + 1)) + 1 by omega, kO, if_neg h, he]
  show (if 1114111 < n * 16 + d then _ else _) = _
  rw [if_neg hb]
theorem xN {s : ByteArray} {i d j : Nat} (h : hD s i = .ok (d, j)) : d < 16 := by
  rcases yX s i with e | ⟨d', h1, _, e⟩ <;> rw [e] at h <;> cases h
  exact h1
theorem hex_a {s : ByteArray} {i : Nat} (h : ¬ isB s i 123) (e : hD s i = .error 83) : oE s i = .error 83 := by unfold oE; rw [if_neg h, e]
theorem hex_b {s : ByteArray} {i d : Nat} (h : ¬ isB s i 123) (e : hD s i = .ok (d, i + 1)) (e2 : hD s (i + 1) = .error 83) : oE s i = .error 83 := by
  unfold oE; rw [if_neg h, e]; show (match hD s (i + 1) with | .error e => _ | .ok (b, k) => _) = _; rw [e2]
theorem hex_c {s : ByteArray} {i d f : Nat} (h : ¬ isB s i 123) (e : hD s i = .ok (d, i + 1)) (e2 : hD s (i + 1) = .ok (f, i + 1 + 1)) : oE s i = .ok (d * 16 + f, i + 1 + 1) := by
  unfold oE; rw [if_neg h, e]; show (match hD s (i + 1) with | .error e => _ | .ok (b, k) => _) = _; rw [e2]
theorem hex_d {s : ByteArray} {i : Nat} (h : isB s i 123) (e : hD s (i + 1) = .error 83) : oE s i = .error 83 := by unfold oE; rw [if_pos h, e]
theorem hex_e {s : ByteArray} {i d : Nat} (h : isB s i 123) (e : hD s (i + 1) = .ok (d, i + 1 + 1)) : oE s i = kO s (s.size + 1 - (i + 1 + 1)) d (i + 1 + 1) := by unfold oE; rw [if_pos h, e]
structure HxG where
  n : Nat
  p : Nat
structure HxI (w : World) (b : Nat) (s : ByteArray) (st : PS) (a : Option Addr) (c : Nat) (ob : Option Nat) (x : HxG) : Prop where
  hp : x.p ≤ s.size
  hn : x.n ≤ 1114111
  hr : RdAt w b s (gZ st x.p) a c ob
  eq : oE s st.pos = kO s (s.size + 1 - x.p) x.n x.p
theorem MM {s : ByteArray} {i d j : Nat} (h : hD s i = .ok (d, j)) : i < s.size := by
  rcases yX s i with e | ⟨d', _, h1, e⟩ <;> rw [e] at h <;> cases h
  exact h1
theorem hex_ok {w : World} {b : Nat} {s : ByteArray} {st : PS} {a : Option Addr} {c : Nat} {ob : Option Nat} (hR : RdAt w b s st a c ob) (hs : s.size ≤ 1000000) :
    Calls Tryz.prog 149 #[.pointer (some ⟨b, 0, none⟩)] w (RetP (fun v w' => ∃ n j, oE s st.pos = .ok (n, j) ∧ v = .int .i32 (n : Nat) ∧ Evo [b] w w' ∧ RdAt w' b s (gZ st j) a c ob) (fun v w' => oE s st.pos = .error 83 ∧ v = flt 83 ∧ Evo [b] w w')) := by
  have hap := hR.ap; refine bL (N := 33) Tryz.func149 rfl rfl rfl ?_; refine aE (aB (aN (aC (aA (aE (aE (aB (aH ?_)))))))); refine aP (vs := [_, _]) iE rfl (lX hR hs 123 (by decide)) rfl ?_; rintro _ w1 ⟨rfl, hw2, hR1⟩; have hE3 := (Evo.refl [b] w).step hw2 (fun y hy => .inl hy); refine aF (mS rfl) ?_; refine aC (aA (bG rfl (fun hc8 => ?_) (fun hc8 => ?_)))
  ·rw [if_neg hc8] at hR1; refine aE (aB (aH (bX (vs := [_]) nP rfl (oY hR1 hs) rfl ?_ ?_)))
   ·intro pv wp hpp; obtain ⟨hpe, rfl, hpw⟩ := hpp; exact And.intro rfl ⟨_, rfl, hex_a hc8 hpe, rfl, (hE3).step hpw (fun y hy => .inl hy)⟩
   rintro _ w4 ⟨d1, hd1, rfl, hw5, hR2⟩; have hE6 := hE3.step hw5 (fun y hy => .inl hy); have hl1 := xN hd1; refine aH (bX (vs := [_]) nP rfl (oY hR2 hs) rfl ?_ ?_)
   ·intro pv wp hpp; obtain ⟨hpe, rfl, hpw⟩ := hpp; exact And.intro rfl ⟨_, rfl, hex_b hc8 hd1 hpe, rfl, (hE6).step hpw (fun y hy => .inl hy)⟩
   rintro _ w7 ⟨d2, hd2, rfl, hw8, hR3⟩; have hE9 := hE6.step hw8 (fun y hy => .inl hy); have hl2 := xN hd2; refine aN (aN (aC (aA (aE (aB (aH ?_)))))); refine aF (tN rfl rfl (by omega) (by omega)) ?_; refine aH ?_; refine aF (bE rfl rfl (by omega) (by omega)) ?_; refine aF (iV rfl Tryz.underlying3 Tryz.underlying21 (zW (by omega) (by omega)).1 (zW (by omega) (by omega)).2) ?_; refine aN (aC (aA (aO (aM (bW (br1 ?_)))))); exact ⟨_, _, hex_c hc8 hd1 hd2, (by congr 1), hE9, hR3⟩
  have hb8 : isB s st.pos 123 := Classical.not_not.1 hc8; rw [if_pos hb8] at hR1; refine aX (aA (aE (aB (aH (bX (vs := [_]) nP rfl (oY hR1 hs) rfl ?_ ?_)))))
  ·intro pv wp hpp; obtain ⟨hpe, rfl, hpw⟩ := hpp; exact And.intro rfl ⟨_, rfl, hex_d hb8 hpe, rfl, (hE3).step hpw (fun y hy => .inl hy)⟩
  rintro _ w10 ⟨d1, hd1, rfl, hw11, hR4⟩; have hE12 := hE3.step hw11 (fun y hy => .inl hy); have hl1 := xN hd1; have hin := MM hd1; refine aN (aC (aA (aE (bS ?_))))
  refine fC (α := HxG) (⟨d1, st.pos + 1 + 1⟩) (fun x => [(5, .int .i64 (x.n : Nat))]) [(0, _), (2, _)] (fun x wr => Evo [b] w wr ∧ (HxI wr b s st a c ob x)) (fun x => s.size + 1 - x.p) ⟨rfl, trivial⟩ ⟨rfl, rfl, trivial⟩ ⟨hE12, ⟨by show st.pos + 1 + 1 ≤ _; have : st.pos + 1 < s.size := hin; omega, by show d1 ≤ _; omega, hR4, hex_e hb8 hd1⟩⟩ ?_
  rintro ⟨n, p⟩ wr13 ⟨hV14, ⟨hp9, hn9, hR9, heq⟩⟩; show CW _ _ _ _ [(5, .int .i64 (n : Nat)), (0, _), (2, _)] _
  try dsimp only at hp9
  try dsimp only at hn9
  try dsimp only at hR9
  try dsimp only at heq
  refine aE (aE (aB (aH ?_))); refine aP (vs := [_, _]) iE rfl (lX hR9 hs 125 (by decide)) rfl ?_; rintro _ w15 ⟨rfl, hw16, hR5⟩; have hE17 := hV14.step hw16 (fun y hy => .inl hy); refine aF (mS rfl) ?_; refine aC (aA (bG rfl (fun hc22 => ?_) (fun hc22 => ?_)))
  ·rw [if_neg hc22] at hR5; refine aX (aA (bS (aE (aB (aH ?_))))); refine aF (tN rfl rfl (by omega) (by omega)) ?_; refine aH (bX (vs := [_]) nP rfl (oY hR5 hs) rfl ?_ ?_)
   ·intro pv wp hpp; obtain ⟨hpe, rfl, hpw⟩ := hpp; exact And.intro rfl ⟨_, rfl, heq.trans (TE hp9 hc22 hpe), rfl, (hE17).step hpw (fun y hy => .inl hy)⟩
   rintro _ w18 ⟨d2, hd2, rfl, hw19, hR6⟩; have hE20 := hE17.step hw19 (fun y hy => .inl hy); have hl2 := xN hd2; have hin2 : p < s.size := MM hd2; refine aF (bE rfl rfl (by omega) (by omega)) ?_; refine aN (aC (aA (aE (aB (aH (aF (fI rfl rfl) ?_)))))); refine aC (aA (bG rfl (fun hc29 => ?_) (fun hc29 => ?_)))
   ·refine aB (bX (vs := [_]) cY rfl (eR 83) rfl ?_ ?_)
    ·intro pv wp hpp; obtain ⟨rfl, hpw⟩ := hpp; exact And.intro rfl ⟨_, rfl, heq.trans (TG hp9 hc22 hd2 (by omega)), rfl, (hE20).then hpw⟩
    intro _ _ hF; exact hF.elim
   refine aX (aZ (bM ?_)); refine ⟨⟨n * 16 + d2, p + 1⟩, ?_, ⟨rfl, trivial⟩, ⟨rfl, rfl, trivial⟩, hE20, ?_⟩
   · (try dsimp only); omega
   try dsimp only
   exact ⟨by show p + 1 ≤ _; omega, by show n * 16 + d2 ≤ _; omega, hR6, heq.trans (hexl_go hin2 hc22 hd2 (by omega))⟩
  have hb22 : isB s (gZ st p).pos 125 := Classical.not_not.1 hc22; rw [if_pos hb22] at hR5; refine dW (cJ (cJ (dV (aA ?_)))); refine aE (aB (aH ?_)); refine aF (iV rfl Tryz.underlying3 Tryz.underlying21 (zW (by omega) (by omega)).1 (zW (by omega) (by omega)).2) ?_; refine aN (aC (aA (aO (bW (br1 ?_))))); exact ⟨_, _, heq.trans (TF hp9 hb22), rfl, hE17, hR5⟩
end Go.Proofs.YtljadkcojnlioaaGreatDoor
namespace Go.Proofs.YtljadkcojnlioaaGreatDoor
open Go.RowKit Go.W
def GW (g : Int × Int) : List Value := [.int .i32 g.1, .int .i32 g.2]
def eK (l : List (Int × Int)) : List Value := l.flatMap GW
theorem wI (g : Int × Int) (l : List (Int × Int)) : eK (g :: l) = .int .i32 g.1 :: .int .i32 g.2 :: eK l := rfl
theorem kR (l m : List (Int × Int)) : eK (l ++ m) = eK l ++ eK m := List.flatMap_append
theorem jX : ∀ l : List (Int × Int), (eK l).length = l.length * 2
  | [] => rfl
  | g :: l => by rw [wI, List.length_cons, List.length_cons, jX l, List.length_cons]; omega
theorem tI : ∀ {l : List (Int × Int)} {i : Nat} (h : i < l.length), (eK l)[i * 2]? = some (.int .i32 l[i].1) ∧ (eK l)[i * 2 + 1]? = some (.int .i32 l[i].2)
  | g :: l, 0, h => ⟨rfl, rfl⟩
  | g :: l, i + 1, h => by
    have := tI (l := l) (i := i) (by simpa using h)
    rw [wI, show (i + 1) * 2 = i * 2 + 1 + 1 by omega]
    exact this
theorem qH : ∀ l : List (Int × Int), AllOne (eK l)
  | [] => trivial
  | g :: l => ⟨rfl, rfl, qH l⟩
section
variable {w : World} {e : TypeId} {a : Option Addr} {n c : Nat} {l : List (Int × Int)} {ob : Option Nat}
theorem qL (h : OwnS w e 2 a n c (eK l) ob) : n = l.length := by have := h.length; rw [jX] at this; omega
theorem pQ (h : OwnS w e 2 a n c (eK l) ob) {i : Nat} (hi : i < l.length) : ∃ g, ob = some g ∧ a = some ⟨g, 0, none⟩ ∧ CellsAt w g (0 + i * 2) (GW l[i]) := by
  have hn := qL h
  obtain ⟨g, hg, ha, hc⟩ := h.cells (by omega)
  refine ⟨g, hg, ha, fun j v hj => ?_⟩
  obtain ⟨h0, h1⟩ := tI hi
  match j, hj with
  | 0, hj => cases hj; have := hc _ _ h0; simpa using this
  | 1, hj => cases hj; have := hc _ _ h1; simpa [Nat.add_assoc] using this
  | j + 2, hj => cases hj
theorem RU (h : OwnS w e 2 a n c (eK l) ob) : (a = none ∧ n = 0 ∧ l = [] ∧ ob = none) ∨ ∃ g, a = some ⟨g, 0, none⟩ ∧ ob = some g := by
  have hn := qL h
  rcases h.2 with ⟨h1, h2, h3⟩ | ⟨g, cap, cur, hg, hv, _⟩
  · cases h1; exact .inl ⟨rfl, rfl, List.length_eq_zero_iff.1 hn.symm, h3⟩
  · cases hv; exact .inr ⟨g, rfl, hg⟩
theorem own_rrg (h : OwnS w e 2 a n c (eK l) ob) {X : List Nat} (hx : ∀ g, ob = some g → g ∉ X) : RSl 2 RRg X w (.slice a l.length c) l := by
  have hn := qL h
  refine ⟨a, c, rfl, by rw [← hn]; exact h.le, fun k hk => ?_⟩
  obtain ⟨g, hg, ha, hc⟩ := pQ h hk
  exact ⟨g, 0, _, ha, hx g hg, rfl, hc, rfl⟩
end
theorem rN (l : List (Int × Int)) : Sort.flatK GW 2 l.toArray = (eK l).toArray := by
  apply Array.ext
  · simp [jX]
  · intro t h1 h2
    have h3 : t < l.length * 2 := by simpa [jX] using h2
    have h4 := Sort.get_flatK GW 2 l.toArray t (by simpa using h3)
    rw [getElem!_pos _ t h1] at h4
    rw [h4]
    have h5 : t / 2 < l.length := by omega
    have h6 : (l.toArray)[t / 2]! = l[t / 2] := by simp [h5]
    rw [h6]
    obtain ⟨g0, g1⟩ := tI h5
    rcases Nat.mod_two_eq_zero_or_one t with hm | hm <;> rw [hm]
    · rw [show t / 2 * 2 = t by omega] at g0
      show (Value.int .i32 l[t / 2].1) = _
      simp only [List.getElem_toArray]
      exact (Option.some.inj ((List.getElem?_eq_getElem (by rw [jX]; exact h3)).symm.trans g0)).symm
    · rw [show t / 2 * 2 + 1 = t by omega] at g1
      show (Value.int .i32 l[t / 2].2) = _
      simp only [List.getElem_toArray]
      exact (Option.some.inj ((List.getElem?_eq_getElem (by rw [jX]; exact h3)).symm.trans g1)).symm
theorem UA (w : World) (g n : Nat) (d : Array Value) (os : Array Obj) : Evo [g] w (Sort.grow (Sort.putRow id (Sort.ahead w n) g 0 d) os) := by
  refine ⟨rfl, rfl, rfl, ?_, fun b hb hx => ?_⟩
  · simp [Sort.grow, Sort.putRow, Sort.mapBlock, Sort.ahead]
  · have hne : g ≠ b := fun e => hx (by simp [e])
    simp only [Sort.grow, Sort.putRow, Sort.mapBlock, Sort.ahead]
    rw [Array.getElem?_append_left (by simpa using hb), Array.getElem?_modify, if_neg hne]
theorem QO {w : World} {g : Nat} {cur : Array Value} {e : TypeId} (hb : w.heap[g]? = some (.cells cur e (0, 0))) (n : Nat) (d : Array Value) (os : Array Obj) :
    (Sort.grow (Sort.putRow id (Sort.ahead w n) g 0 d) os).heap[g]? = some (.cells (Sort.putCells id 0 d cur) e (0, 0)) := by
  have hlt := fR hb
  simp only [Sort.grow, Sort.putRow, Sort.mapBlock, Sort.ahead]
  rw [Array.getElem?_append_left (by simpa using hlt), Array.getElem?_modify, if_pos rfl, hb]
  rfl
theorem yI (cur : Array Value) (ds : List Value) (hc : ds.length ≤ cur.size) : (Sort.putCells id 0 ds.toArray cur).toList.take ds.length = ds := by
  apply List.ext_getElem?
  intro k
  by_cases hk : k < ds.length
  · rw [List.getElem?_take, if_pos hk]
    simp only [Sort.putCells, Array.getElem?_toList, Array.getElem?_mapIdx, List.getElem?_map]
    have h1 : k < cur.size := by omega
    simp [h1, hk]
  · rw [List.getElem?_eq_none (by simp; omega), List.getElem?_eq_none (by omega)]
theorem OK {w : World} {e : TypeId} {g n c sz : Nat} {xs ds : List Value} (h : OwnS w e sz (some ⟨g, 0, none⟩) n c xs (some g)) (hd : ds.length = n * sz) (q : Nat) (os : Array Obj) :
    OwnS (Sort.grow (Sort.putRow id (Sort.ahead w q) g 0 ds.toArray) os) e sz (some ⟨g, 0, none⟩) n c ds (some g) := by
  refine ⟨hd, ?_⟩
  rcases h.2 with ⟨h1, _⟩ | ⟨g', cap, cur, hg, hv, hb, hn, hc, hs, ht⟩
  · cases h1
  · cases hg; cases hv
    have hle : n * sz ≤ c * sz := Nat.mul_le_mul_right sz hn
    refine .inr ⟨g, c, _, rfl, rfl, QO hb q ds.toArray os, hn, hc, by simpa [Sort.putCells] using hs, ?_⟩
    rw [← hd]
    exact yI cur ds (by omega)
theorem JG {w : World} {e : TypeId} {g n c : Nat} {l : List (Int × Int)} (h : OwnS w e 2 (some ⟨g, 0, none⟩) n c (eK l) (some g)) : Sort.HoldsK GW 2 w g 0 l.toArray := fun j hj => by
  rw [rN] at hj ⊢
  have hj' : j < (eK l).length := by simpa using hj
  have hl := h.length
  rcases h.2 with ⟨h1, _⟩ | ⟨g', cap, cur, hg, hv, hb, hn, hc, hs, ht⟩
  · cases h1
  · cases hg; cases hv
    constructor
    · refine iK hb ?_
      have h1 : (cur.toList.take (n * 2))[j]? = some (eK l)[j] := by rw [ht]; exact List.getElem?_eq_getElem hj'
      rw [List.getElem?_take, if_pos (by omega)] at h1
      rw [Nat.zero_add]
      simpa [hj'] using h1
    · simp [World.frozen?, hb]
end Go.Proofs.YtljadkcojnlioaaGreatDoor
