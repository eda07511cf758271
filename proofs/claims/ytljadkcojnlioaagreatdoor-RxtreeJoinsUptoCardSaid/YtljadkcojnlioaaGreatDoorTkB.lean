/- Joins: part 2 of 6 of what the law rests on. -/
import Derived.Test.YtljadkcojnlioaaGreatDoorTkA
set_option linter.unusedSectionVars false
set_option linter.unusedSimpArgs false
set_option linter.unusedVariables false
namespace Go.Proofs.YtljadkcojnlioaaGreatDoor
open Go.RowKit Go.W
attribute [local irreducible] Decidable.decide
theorem fB : oG Tryz.prog 24 = some false := by kernel_rfl
theorem dB : oG Tryz.prog 25 = some false := by kernel_rfl
theorem bQ : oG Tryz.prog 27 = some true := by kernel_rfl
theorem aZ : oG Tryz.prog 3 = some false := by kernel_rfl
theorem dX : oG Tryz.prog 4 = some false := by kernel_rfl
theorem dT : tT Tryz.prog 25 = some 9 := by kernel_rfl
theorem eS : gA Tryz.prog 27 0 = some 0 := by kernel_rfl
theorem eR : gA Tryz.prog 27 1 = some 1 := by kernel_rfl
theorem dU : gA Tryz.prog 27 2 = some 2 := by kernel_rfl
theorem dH : gA Tryz.prog 27 3 = some 3 := by kernel_rfl
theorem dG : gA Tryz.prog 27 4 = some 4 := by kernel_rfl
theorem eH : gA Tryz.prog 27 5 = some 5 := by kernel_rfl
theorem eG : gA Tryz.prog 27 6 = some 6 := by kernel_rfl
theorem eF : gA Tryz.prog 27 7 = some 7 := by kernel_rfl
theorem cH : gA Tryz.prog 27 8 = some 8 := by kernel_rfl
theorem EQ : eY Tryz.prog 106 := ⟨_, Tryz.func106, by kernel_rfl, by kernel_rfl⟩
theorem uP : eY Tryz.prog 107 := ⟨_, Tryz.func107, by kernel_rfl, by kernel_rfl⟩
theorem iP : iT Tryz.prog 21 = some 1 := by kernel_rfl
theorem HI : iT Tryz.prog 24 = some 1 := by kernel_rfl
theorem rI : iT Tryz.prog 25 = some 1 := by kernel_rfl
theorem aY : iT Tryz.prog 27 = some 9 := by kernel_rfl
theorem bV : iT Tryz.prog 3 = some 1 := by kernel_rfl
theorem fS : iT Tryz.prog 4 = some 1 := by kernel_rfl
theorem kP : iT Tryz.prog 9 = some 1 := by kernel_rfl
theorem dS : oJ Tryz.prog 27 = some #[.int .i64 0, .int .i32 0, .slice none 0 0, .int .i64 0, .int .i64 0, .bool false, .int .i64 0, .string ByteArray.empty, .slice none 0 0] := by kernel_rfl
theorem AL {b jb : Nat} {ob : Option Nat} (h1 : Apart (some b) (some jb)) (h2 : Apart (some b) ob) : b ∉ jb :: ob.toList := fun hm => by
  rcases List.mem_cons.1 hm with h | h
  · exact h1 b rfl (by rw [h])
  · exact h2 b rfl (by simpa using h)
theorem tW {w : World} (a k : Int) : Calls Tryz.prog 85 #[.int .i64 a, .int .i64 k] w (Ret fun v w' => v = .bool (decide (Brk a k)) ∧ Evo [] w w') := by
  refine bJ (N := 38) Tryz.func85 rfl rfl rfl ?_; refine aE (aB (aM (aC (aA (aE (aE (aB (aG (aC (aA (bR (aE (aB (aF (bD rfl rfl) ?_)))))))))))))); refine aM (aC (aA (bF rfl (fun hc6 => ?_) (fun hc6 => ?_))))
  ·refine aE (aB (aG (aF (bD rfl rfl) ?_))); refine aM (aC (aA (aO (aX (aN (br1 ?_)))))); refine ⟨congrArg Value.bool (Bool.eq_iff_iff.2 ?_), (Evo.refl [] w)⟩
   simp only [decide_eq_true_eq, Bool.false_eq_true, Bool.true_eq_false, true_iff, false_iff, eq_self, iff_true]; unfold Brk; omega
  refine aE (aB (aF (bD rfl rfl) ?_)); refine aM (aC (aA (bF rfl (fun hc10 => ?_) (fun hc10 => ?_))))
  ·refine aE (aB (aG (aF (bD rfl rfl) ?_))); refine aG (aV (t := 14) rfl (fun hs14 => ?_) (fun hs14 => ?_))
   ·refine aH (aH (bH (aG (aH (aH (bH (aM (aC (aA (aO (aX (aN (br1 ?_))))))))))))); refine ⟨congrArg Value.bool (Bool.eq_iff_iff.2 ?_), (Evo.refl [] w)⟩
    simp only [decide_eq_true_eq, Bool.false_eq_true, Bool.true_eq_false, true_iff, false_iff, eq_self, iff_true]; unfold Brk; omega
   refine aQ (aG (aQ (aF (bD rfl rfl) ?_))); refine aR (aG (aV (t := 18) rfl (fun hs18 => ?_) (fun hs18 => ?_)))
   ·refine aH (aH (bH (aM (aC (aA (aO (aX (aN (br1 ?_))))))))); refine ⟨congrArg Value.bool (Bool.eq_iff_iff.2 ?_), (Evo.refl [] w)⟩
    simp only [decide_eq_true_eq, Bool.false_eq_true, Bool.true_eq_false, true_iff, false_iff, eq_self, iff_true]; unfold Brk; omega
   refine aQ (aG (aQ (aF (bD rfl rfl) ?_))); refine aR (aM (aC (aA (aO (aX (aN (br1 ?_))))))); refine ⟨congrArg Value.bool (Bool.eq_iff_iff.2 ?_), (Evo.refl [] w)⟩
   simp only [decide_eq_true_eq, Bool.false_eq_true, Bool.true_eq_false, true_iff, false_iff, eq_self, iff_true]; unfold Brk; omega
  refine aE (aB (aF (bD rfl rfl) ?_)); refine aM (aC (aA (bF rfl (fun hc22 => ?_) (fun hc22 => ?_))))
  ·refine aE (aB (aG (aF (bD rfl rfl) ?_))); refine aG (aV (t := 26) rfl (fun hs26 => ?_) (fun hs26 => ?_))
   ·refine aH (aH (bH (aG (aH (aH (bH (aG (aH (aH (bH (aM (aC (aA (aO (aX (aN (br1 ?_))))))))))))))))); refine ⟨congrArg Value.bool (Bool.eq_iff_iff.2 ?_), (Evo.refl [] w)⟩
    simp only [decide_eq_true_eq, Bool.false_eq_true, Bool.true_eq_false, true_iff, false_iff, eq_self, iff_true]; unfold Brk; omega
   refine aQ (aG (aQ (aF (bD rfl rfl) ?_))); refine aR (aG (aV (t := 30) rfl (fun hs30 => ?_) (fun hs30 => ?_)))
   ·refine aH (aH (bH (aG (aH (aH (bH (aM (aC (aA (aO (aX (aN (br1 ?_))))))))))))); refine ⟨congrArg Value.bool (Bool.eq_iff_iff.2 ?_), (Evo.refl [] w)⟩
    simp only [decide_eq_true_eq, Bool.false_eq_true, Bool.true_eq_false, true_iff, false_iff, eq_self, iff_true]; unfold Brk; omega
   refine aQ (aG (aQ (aF (bD rfl rfl) ?_))); refine aR (aG (aV (t := 34) rfl (fun hs34 => ?_) (fun hs34 => ?_)))
   ·refine aH (aH (bH (aM (aC (aA (aO (aX (aN (br1 ?_))))))))); refine ⟨congrArg Value.bool (Bool.eq_iff_iff.2 ?_), (Evo.refl [] w)⟩
    simp only [decide_eq_true_eq, Bool.false_eq_true, Bool.true_eq_false, true_iff, false_iff, eq_self, iff_true]; unfold Brk; omega
   refine aQ (aG (aQ (aF (bD rfl rfl) ?_))); refine aR (aM (aC (aA (aO (aX (aN (br1 ?_))))))); refine ⟨congrArg Value.bool (Bool.eq_iff_iff.2 ?_), (Evo.refl [] w)⟩
   simp only [decide_eq_true_eq, Bool.false_eq_true, Bool.true_eq_false, true_iff, false_iff, eq_self, iff_true]; unfold Brk; omega
  refine aU (aW (aA (aE (aB (aM (aC (aA (aO (br1 ?_))))))))); refine ⟨congrArg Value.bool (Bool.eq_iff_iff.2 ?_), (Evo.refl [] w)⟩
  simp only [decide_eq_true_eq, Bool.false_eq_true, Bool.true_eq_false, true_iff, false_iff, eq_self, iff_true]; unfold Brk; omega
set_option maxHeartbeats 4000000 in
theorem NY {n : Nat} {w : World} {jb : Nat} {st : St} {a : Option Addr} {c : Nat} {ob : Option Nat} {vs : List Value} {x : Rx} (hJ : JAt w 102 jb st a c ob) (hx : RRx n (jb :: ob.toList) w vs x) (hl : st.2.length ≤ 100000) :
    Calls Tryz.prog 84 #[.pointer (some ⟨jb, 0, none⟩), .agg vs.toArray] w (Ret fun v w' => ∃ b, v = .bool b ∧ (b = true ↔ NodeP x ∧ (x.kind = 7 → nP x.cap x.name st.2)) ∧ Evo (jb :: ob.toList) w w' ∧
      (b = true → ∃ a' c' ob', JAt w' 102 jb (st.1, if x.kind = 7 then st.2 ++ [x.name] else st.2) a' c' ob' ∧ (ob' = ob ∨ ∃ g, ob' = some g ∧ w.heap.size ≤ g))) := by
  obtain ⟨hB, hO, hne⟩ := hJ
  have hAJN : Apart (some jb) ob := fun g h1 h2 => by cases h1; exact hne jb h2 rfl
  have hlt := eW hB
  cases n with
  | zero => exact hx.elim
  | succ n =>
  obtain ⟨vr, vk, rfl, hr, hk, bl1, bl2, bl3⟩ := hx; obtain ⟨ka, kc, rfl, hkc, e1⟩ := hk; have hr0 := hr; obtain ⟨ra, rc, rfl, hrc, e2⟩ := hr; refine bJ (N := 127) Tryz.func84 rfl rfl rfl ?_; refine aE (aB (kS rfl rfl fun b3 w1 hB2 hs3 hw4 => ?_)); have hsz_b3 := hs3; have hA5 := Apart.new (Lt.blk hB) hs3; have hA6 := Apart.new (Lt.own hO) hs3; have hE8 := (Evo.refl (jb :: ob.toList) w).then hw4; refine aM (aC (aA (aE (aB (aF (bX rfl bQ aY hB2 rfl) (dA rfl dS fun b5 w11 hB12 hs13 hw14 => ?_)))))); have hsz_b5 := hs13; have hA15 := Apart.new (Lt.blk (hw4.blk0 hB)) hs13; have hA16 := Apart.new (Lt.own (hO.evo0 hw4)) hs13; have hA17 := Apart.new (Lt.blk hB2) hs13; have hG18 := Ge.new hE8 hs13; refine bI rfl rfl aY hB12 rfl rfl ⟨rfl, rfl, rfl, rfl, rfl, rfl, rfl, rfl, rfl, trivial⟩ fun w23 hB24 hw25 => ?_
  try simp only [cR, Nat.reduceAdd] at hB24
  refine aC (aA (aE (aB (aF (aD rfl eS) (bG rfl rfl (rfl) bV hB24 rfl fun w30 hB31 hw32 => ?_)))))
  try simp only [cR, Nat.reduceAdd] at hB31
  refine aF (aD rfl cH) (bG rfl rfl (rfl) rI hB31 rfl fun w37 hB38 hw39 => ?_); have hB43 := hw39.blk (hw32.blk (hw25.blk (hw14.blk0 hB2) hA17.nmem1) hA17.nmem1) hA17.nmem1
  try simp only [cR, Nat.reduceAdd] at hB38
  refine aC (aA (aE (aB (aM (aC (aA (aE (aE (aB (aF (aD rfl eS) (aF (aI rfl aZ (aJ hB43 rfl)) (aC (aA (bR (aE (JL (α := Bool) (fun z => [(12, .bool z)]) [(0, _), (3, _), (4, _), (5, _), (6, _), (11, _)] (fun z wr => Evo [] w37 wr ∧ (z = true ↔ (x.kind = 1 ∨ (8 ≤ x.kind ∧ x.kind ≤ 13)))) ⟨rfl, rfl, rfl, rfl, rfl, rfl, trivial⟩ ?_ ?_))))))))))))))))
  ·refine aE (aB (aF (bD rfl rfl) ?_)); refine aM (aC (aA (bF rfl (fun hc12 => ?_) (fun hc12 => ?_))))
   ·refine aU (bY ?_); refine ⟨(decide (x.kind = 1)), ⟨rfl, trivial⟩, ⟨rfl, rfl, rfl, rfl, rfl, rfl, trivial⟩, (Evo.refl [] w37), ?_⟩
    simp only [decide_eq_true_eq]; omega
   refine aE (aB (aF (bD rfl rfl) ?_)); refine aM (aC (aA (bF rfl (fun hc12 => ?_) (fun hc12 => ?_))))
   ·refine aU (bY ?_); refine ⟨(decide (x.kind = 8)), ⟨rfl, trivial⟩, ⟨rfl, rfl, rfl, rfl, rfl, rfl, trivial⟩, (Evo.refl [] w37), ?_⟩
    simp only [decide_eq_true_eq]; omega
   refine aE (aB (aF (bD rfl rfl) ?_)); refine aM (aC (aA (bF rfl (fun hc12 => ?_) (fun hc12 => ?_))))
   ·refine aU (bY ?_); refine ⟨(decide (x.kind = 9)), ⟨rfl, trivial⟩, ⟨rfl, rfl, rfl, rfl, rfl, rfl, trivial⟩, (Evo.refl [] w37), ?_⟩
    simp only [decide_eq_true_eq]; omega
   refine aE (aB (aF (bD rfl rfl) ?_)); refine aM (aC (aA (bF rfl (fun hc12 => ?_) (fun hc12 => ?_))))
   ·refine aU (bY ?_); refine ⟨(decide (x.kind = 10)), ⟨rfl, trivial⟩, ⟨rfl, rfl, rfl, rfl, rfl, rfl, trivial⟩, (Evo.refl [] w37), ?_⟩
    simp only [decide_eq_true_eq]; omega
   refine aE (aB (aF (bD rfl rfl) ?_)); refine aM (aC (aA (bF rfl (fun hc12 => ?_) (fun hc12 => ?_))))
   ·refine aU (bY ?_); refine ⟨(decide (x.kind = 11)), ⟨rfl, trivial⟩, ⟨rfl, rfl, rfl, rfl, rfl, rfl, trivial⟩, (Evo.refl [] w37), ?_⟩
    simp only [decide_eq_true_eq]; omega
   refine aE (aB (aF (bD rfl rfl) ?_)); refine aM (aC (aA (bF rfl (fun hc12 => ?_) (fun hc12 => ?_))))
   ·refine aU (bY ?_); refine ⟨(decide (x.kind = 12)), ⟨rfl, trivial⟩, ⟨rfl, rfl, rfl, rfl, rfl, rfl, trivial⟩, (Evo.refl [] w37), ?_⟩
    simp only [decide_eq_true_eq]; omega
   refine aB (aF (bD rfl rfl) ?_); refine aM (aC (bY ?_)); refine ⟨(decide (x.kind = 13)), ⟨rfl, trivial⟩, ⟨rfl, rfl, rfl, rfl, rfl, rfl, trivial⟩, (Evo.refl [] w37), ?_⟩
   simp only [decide_eq_true_eq]; omega
  rintro z w44 ⟨hV45, hz⟩; refine aA ?_; show CW _ _ _ _ [(12, _), (0, _), (3, _), (4, _), (5, _), (6, _), (11, _)] _; have hE46 := ((((hE8.then hw14).step hw25 hG18.mem1).step hw32 hG18.mem1).step hw39 hG18.mem1).then hV45; have hB47 := hV45.blk0 (hw39.blk (hw32.blk (hw25.blk (hw14.blk0 (hw4.blk0 hB)) hA15.nmem1) hA15.nmem1) hA15.nmem1); have hO48 := (((((hO.evo0 hw4).evo0 hw14).evo hw25 hA16.own1).evo hw32 hA16.own1).evo hw39 hA16.own1).evo0 hV45; have hB49 := hV45.blk0 hB43; have hB50 := hV45.blk0 hB38; refine fW rfl (fun hc12 => ?_) (fun hc12 => ?_)
  ·subst hc12; have hk12 := hz.1 rfl; refine aU (aW (aA (aE (aB (aF (aD rfl cH) (aF (aI rfl dB (aJ hB49 rfl)) (aF (bK rfl Tryz.underlying25 rfl) ?_))))))); refine aG (aF (bD rfl rfl) ?_); refine aG (aV (t := 91) rfl (fun hs91 => ?_) (fun hs91 => ?_))
   ·refine aQ (aF (aD rfl eR) (aQ (aF (aI rfl cF (aJ hB50 rfl)) (aQ (aF (bD rfl rfl) ?_))))); refine bH (aG (aV (t := 96) rfl (fun hs96 => ?_) (fun hs96 => ?_)))
    ·refine aQ (aF (aD rfl dU) (aQ (aF (aI rfl fB (aJ hB50 rfl)) (aQ (aF (bK rfl Tryz.underlying24 rfl) ?_))))); refine aQ (aF (bD rfl rfl) ?_); refine bH (aG (aV (t := 102) rfl (fun hs102 => ?_) (fun hs102 => ?_)))
     ·refine aQ (aF (aD rfl dH) (aQ (aF (aI rfl aZ (aJ hB50 rfl)) (aQ (aF (bD rfl rfl) ?_))))); refine bH (aG (aV (t := 107) rfl (fun hs107 => ?_) (fun hs107 => ?_)))
      ·refine aQ (aF (aD rfl dG) (aQ (aF (aI rfl aZ (aJ hB50 rfl)) (aQ (aF (bD rfl rfl) ?_))))); refine bH (aG (aV (t := 112) rfl (fun hs112 => ?_) (fun hs112 => ?_)))
       ·refine aQ (aF (aD rfl eH) (aQ (aF (aI rfl dX (aJ hB50 rfl)) (aQ (aF (fF rfl) ?_))))); refine bH (aG (gU (t := 117) rfl (fun hs117 => ?_) (fun hs117 => ?_)))
        ·refine aQ (aF (aD rfl eG) (aQ (aF (aI rfl aZ (aJ hB50 rfl)) (aQ (aF (bD rfl rfl) ?_))))); refine bH (aG (aV (t := 122) rfl (fun hs122 => ?_) (fun hs122 => ?_)))
         ·refine aQ (aF (aD rfl eF) (aQ (aF (aI rfl cJ (aJ hB50 rfl)) (aQ (aF (gQ rfl rfl) ?_))))); refine bH (aM (aC (aA (aO (br1 ?_)))))
          have hlz : x.kind = 6 ∨ x.lazy = false := by first | (left; omega) | (right; simpa using hs117)
          refine ⟨_, rfl, ?_, hE46, fun hb => ?_⟩
          · simp only [decide_eq_true_eq]
            constructor
            · intro hnm
              exact ⟨(eB x).2 (by constructor <;> first | omega | (right; assumption) | (left; omega) | exact hlz | exact .inr hnm | (intro hk; exact hcb.1 (by simpa using hc36)) | (intro hk; exfalso; omega)), by intro hk; exfalso; omega⟩
            · intro hh; obtain ⟨hh, hh2⟩ := hh; have hf := (eB x).1 hh; exact hf.zn.resolve_left (by omega)
          · rw [if_neg (by omega)]; exact ⟨a, c, ob, ⟨hB47, hO48, hne⟩, .inl rfl⟩
         refine aH (aH (aH (aR (aM (aC (aA (aO (br1 ?_))))))))
         exact nvx (fun hf => by have f1 := hf.zc; omega) hE46
        refine aH (aH (aH (aR (aG (aH (aH (aH (aR (aM (aC (aA (aO (br1 ?_)))))))))))))
        exact nvx (fun hf => by first | (rcases hf.zl with h | h; omega; rw [h] at hs117; cases hs117; done) | cases hs117) hE46
       refine aH (aH (aH (aR (aG (aH (aH (aH (aR (aG (aH (aH (aH (aR (aM ?_)))))))))))))); refine aC (aA (aO (br1 ?_)))
       exact nvx (fun hf => by have f1 := hf.zm2; omega) hE46
      refine aH (aH (aH (aR (aG (aH (aH (aH (aR (aG (aH (aH (aH (aR (aG ?_)))))))))))))); refine aH (aH (aH (aR (aM (aC (aA (aO (br1 ?_))))))))
      exact nvx (fun hf => by have f1 := hf.zm1; omega) hE46
     refine aH (aH (aH (aR (aG (aH (aH (aH (aR (aG (aH (aH (aH (aR (aG ?_)))))))))))))); refine aH (aH (aH (aR (aG (aH (aH (aH (aR (aM (aC (aA (aO (br1 ?_)))))))))))))
     exact nvx (fun hf => by have f1 := hf.zg; omega) hE46
    refine aH (aH (aH (aH (aR (aG (aH (aH (aH (aR (aG (aH (aH (aH (aR ?_)))))))))))))); refine aG (aH (aH (aH (aR (aG (aH (aH (aH (aR (aG (aH (aH (aH (aR ?_)))))))))))))); refine aM (aC (aA (aO (br1 ?_))))
    exact nvx (fun hf => by have f1 := hf.zr; omega) hE46
   refine aH (aH (aH (aR (aG (aH (aH (aH (aH (aR (aG (aH (aH (aH (aR ?_)))))))))))))); refine aG (aH (aH (aH (aR (aG (aH (aH (aH (aR (aG (aH (aH (aH (aR ?_)))))))))))))); refine aG (aH (aH (aH (aR (aM (aC (aA (aO (br1 ?_)))))))))
   exact nvx (fun hf => by have f1 := hf.two; have f2 := hf.rep4; have f3 := hf.grp; have f4 := hf.leaf; omega) hE46
  subst hc12
  have hk12 : ¬ (x.kind = 1 ∨ (8 ≤ x.kind ∧ x.kind ≤ 13)) := fun h => by have := hz.2 h; cases this
  refine aE (aB (aF (bD rfl rfl) ?_)); refine aM (aC (aA (bF rfl (fun hc20 => ?_) (fun hc20 => ?_))))
  ·refine aE (aE (aB (aF (aD rfl eR) (aF (aI rfl cF (aJ hB49 rfl)) (aF (dF rfl rfl) ?_))))); refine aG (aV (t := 25) rfl (fun hs25 => ?_) (fun hs25 => ?_))
   ·refine aH (aH (aH (bH (aC (aA (cV rfl ?_)))))); refine aE (aB (aM (aC (aA (aO (aN (aX (aN (br1 ?_)))))))))
    exact nvx (fun hf => by have f1 := hf.lit1; have f2 := hf.lit2; omega) hE46
   refine aQ (aF (aD rfl eR) (aQ (aF (aI rfl cF (aJ hB49 rfl)) (aQ (aF (gL rfl rfl) ?_))))); refine aR (aC (aA (bF rfl (fun hc29 => ?_) (fun hc29 => ?_))))
   ·refine aE (aB (aM (aC (aA (aO (aN (aX (aN (br1 ?_)))))))))
    exact nvx (fun hf => by have f1 := hf.lit1; have f2 := hf.lit2; omega) hE46
   refine aU (aA (aB (aF (aD rfl eR) (bG rfl rfl (rfl) iP hB50 rfl fun w51 hB52 hw53 => ?_)))); have hE54 := hE46.step hw53 hG18.mem1; have hB55 := hw53.blk hB47 hA15.nmem1; have hO56 := hO48.evo hw53 hA16.own1
   try simp only [cR, Nat.reduceAdd] at hB52
   refine aC (aW (aA (aE (aB (aF (aD rfl cH) (aF (aI rfl dB (aJ (hw53.blk hB49 hA17.nmem1) rfl)) (aF (bK rfl Tryz.underlying25 rfl) ?_))))))); refine aG (aF (bD rfl rfl) ?_); refine aG (aV (t := 91) rfl (fun hs91 => ?_) (fun hs91 => ?_))
   ·refine aQ (aF (aD rfl eR) (aQ (aF (aI rfl cF (aJ hB52 rfl)) (aQ (aF (bD rfl rfl) ?_))))); refine bH (aG (aV (t := 96) rfl (fun hs96 => ?_) (fun hs96 => ?_)))
    ·refine aQ (aF (aD rfl dU) (aQ (aF (aI rfl fB (aJ hB52 rfl)) (aQ (aF (bK rfl Tryz.underlying24 rfl) ?_))))); refine aQ (aF (bD rfl rfl) ?_); refine bH (aG (aV (t := 102) rfl (fun hs102 => ?_) (fun hs102 => ?_)))
     ·refine aQ (aF (aD rfl dH) (aQ (aF (aI rfl aZ (aJ hB52 rfl)) (aQ (aF (bD rfl rfl) ?_))))); refine bH (aG (aV (t := 107) rfl (fun hs107 => ?_) (fun hs107 => ?_)))
      ·refine aQ (aF (aD rfl dG) (aQ (aF (aI rfl aZ (aJ hB52 rfl)) (aQ (aF (bD rfl rfl) ?_))))); refine bH (aG (aV (t := 112) rfl (fun hs112 => ?_) (fun hs112 => ?_)))
       ·refine aQ (aF (aD rfl eH) (aQ (aF (aI rfl dX (aJ hB52 rfl)) (aQ (aF (fF rfl) ?_))))); refine bH (aG (gU (t := 117) rfl (fun hs117 => ?_) (fun hs117 => ?_)))
        ·refine aQ (aF (aD rfl eG) (aQ (aF (aI rfl aZ (aJ hB52 rfl)) (aQ (aF (bD rfl rfl) ?_))))); refine bH (aG (aV (t := 122) rfl (fun hs122 => ?_) (fun hs122 => ?_)))
         ·refine aQ (aF (aD rfl eF) (aQ (aF (aI rfl cJ (aJ hB52 rfl)) (aQ (aF (gQ rfl rfl) ?_))))); refine bH (aM (aC (aA (aO (br1 ?_)))))
          have hlz : x.kind = 6 ∨ x.lazy = false := by first | (left; omega) | (right; simpa using hs117)
          refine ⟨_, rfl, ?_, hE54, fun hb => ?_⟩
          · simp only [decide_eq_true_eq]
            constructor
            · intro hnm
              exact ⟨(eB x).2 (by constructor <;> first | omega | (right; assumption) | (left; omega) | exact hlz | exact .inr hnm | (intro hk; exact hcb.1 (by simpa using hc36)) | (intro hk; exfalso; omega)), by intro hk; exfalso; omega⟩
            · intro hh; obtain ⟨hh, hh2⟩ := hh; have hf := (eB x).1 hh; exact hf.zn.resolve_left (by omega)
          · rw [if_neg (by omega)]; exact ⟨a, c, ob, ⟨hB55, hO56, hne⟩, .inl rfl⟩
         refine aH (aH (aH (aR (aM (aC (aA (aO (br1 ?_))))))))
         exact nvx (fun hf => by have f1 := hf.zc; omega) hE54
        refine aH (aH (aH (aR (aG (aH (aH (aH (aR (aM (aC (aA (aO (br1 ?_)))))))))))))
        exact nvx (fun hf => by first | (rcases hf.zl with h | h; omega; rw [h] at hs117; cases hs117; done) | cases hs117) hE54
       refine aH (aH (aH (aR (aG (aH (aH (aH (aR (aG (aH (aH (aH (aR (aM ?_)))))))))))))); refine aC (aA (aO (br1 ?_)))
       exact nvx (fun hf => by have f1 := hf.zm2; omega) hE54
      refine aH (aH (aH (aR (aG (aH (aH (aH (aR (aG (aH (aH (aH (aR (aG ?_)))))))))))))); refine aH (aH (aH (aR (aM (aC (aA (aO (br1 ?_))))))))
      exact nvx (fun hf => by have f1 := hf.zm1; omega) hE54
     refine aH (aH (aH (aR (aG (aH (aH (aH (aR (aG (aH (aH (aH (aR (aG ?_)))))))))))))); refine aH (aH (aH (aR (aG (aH (aH (aH (aR (aM (aC (aA (aO (br1 ?_)))))))))))))
     exact nvx (fun hf => by have f1 := hf.zg; omega) hE54
    refine aH (aH (aH (aH (aR (aG (aH (aH (aH (aR (aG (aH (aH (aH (aR ?_)))))))))))))); refine aG (aH (aH (aH (aR (aG (aH (aH (aH (aR (aG (aH (aH (aH (aR ?_)))))))))))))); refine aM (aC (aA (aO (br1 ?_))))
    exact nvx (fun hf => by have f1 := hf.zr; omega) hE54
   refine aH (aH (aH (aR (aG (aH (aH (aH (aH (aR (aG (aH (aH (aH (aR ?_)))))))))))))); refine aG (aH (aH (aH (aR (aG (aH (aH (aH (aR (aG (aH (aH (aH (aR ?_)))))))))))))); refine aG (aH (aH (aH (aR (aM (aC (aA (aO (br1 ?_)))))))))
   exact nvx (fun hf => by have f1 := hf.two; have f2 := hf.rep4; have f3 := hf.grp; have f4 := hf.leaf; omega) hE54
  refine aE (aB (aF (bD rfl rfl) ?_)); refine aM (aC (aA (bF rfl (fun hc31 => ?_) (fun hc31 => ?_))))
  ·refine aE (aE (aB (aF (aD rfl dU) (aF (aI rfl fB (aJ hB49 rfl)) (aK (vs := [_]) EQ rfl (DC (RSl.evo RRg.pers hE46 hr0) bl1) rfl ?_))))); rintro _ w58 ⟨cb, rfl, hcb, hw59⟩; have hE60 := hE46.then hw59; refine aF (fF rfl) ?_; refine aC (aA (fW rfl (fun hc36 => ?_) (fun hc36 => ?_)))
   ·refine aE (aB (aM (aC (aA (aO (aN (aX (aN (br1 ?_)))))))))
    exact nvx (fun hf => by rw [hcb.2 (hf.cls (by omega))] at hc36; cases hc36) hE60
   refine aU (aA (aB (aF (aD rfl dU) (bG rfl rfl (rfl) HI (hw59.blk0 hB50) rfl fun w65 hB66 hw67 => ?_)))); have hE68 := hE60.step hw67 hG18.mem1; have hB69 := hw67.blk (hw59.blk0 hB47) hA15.nmem1; have hO70 := (hO48.evo0 hw59).evo hw67 hA16.own1
   try simp only [cR, Nat.reduceAdd] at hB66
   refine aC (aW (aA (aE (aB (aF (aD rfl cH) (aF (aI rfl dB (aJ (hw67.blk (hw59.blk0 hB49) hA17.nmem1) rfl)) (aF (bK rfl Tryz.underlying25 rfl) ?_))))))); refine aG (aF (bD rfl rfl) ?_); refine aG (aV (t := 91) rfl (fun hs91 => ?_) (fun hs91 => ?_))
   ·refine aQ (aF (aD rfl eR) (aQ (aF (aI rfl cF (aJ hB66 rfl)) (aQ (aF (bD rfl rfl) ?_))))); refine bH (aG (aV (t := 96) rfl (fun hs96 => ?_) (fun hs96 => ?_)))
    ·refine aQ (aF (aD rfl dU) (aQ (aF (aI rfl fB (aJ hB66 rfl)) (aQ (aF (bK rfl Tryz.underlying24 rfl) ?_))))); refine aQ (aF (bD rfl rfl) ?_); refine bH (aG (aV (t := 102) rfl (fun hs102 => ?_) (fun hs102 => ?_)))
     ·refine aQ (aF (aD rfl dH) (aQ (aF (aI rfl aZ (aJ hB66 rfl)) (aQ (aF (bD rfl rfl) ?_))))); refine bH (aG (aV (t := 107) rfl (fun hs107 => ?_) (fun hs107 => ?_)))
      ·refine aQ (aF (aD rfl dG) (aQ (aF (aI rfl aZ (aJ hB66 rfl)) (aQ (aF (bD rfl rfl) ?_))))); refine bH (aG (aV (t := 112) rfl (fun hs112 => ?_) (fun hs112 => ?_)))
       ·refine aQ (aF (aD rfl eH) (aQ (aF (aI rfl dX (aJ hB66 rfl)) (aQ (aF (fF rfl) ?_))))); refine bH (aG (gU (t := 117) rfl (fun hs117 => ?_) (fun hs117 => ?_)))
        ·refine aQ (aF (aD rfl eG) (aQ (aF (aI rfl aZ (aJ hB66 rfl)) (aQ (aF (bD rfl rfl) ?_))))); refine bH (aG (aV (t := 122) rfl (fun hs122 => ?_) (fun hs122 => ?_)))
         ·refine aQ (aF (aD rfl eF) (aQ (aF (aI rfl cJ (aJ hB66 rfl)) (aQ (aF (gQ rfl rfl) ?_))))); refine bH (aM (aC (aA (aO (br1 ?_)))))
          have hlz : x.kind = 6 ∨ x.lazy = false := by first | (left; omega) | (right; simpa using hs117)
          refine ⟨_, rfl, ?_, hE68, fun hb => ?_⟩
          · simp only [decide_eq_true_eq]
            constructor
            · intro hnm
              exact ⟨(eB x).2 (by constructor <;> first | omega | (right; assumption) | (left; omega) | exact hlz | exact .inr hnm | (intro hk; exact hcb.1 (by simpa using hc36)) | (intro hk; exfalso; omega)), by intro hk; exfalso; omega⟩
            · intro hh; obtain ⟨hh, hh2⟩ := hh; have hf := (eB x).1 hh; exact hf.zn.resolve_left (by omega)
          · rw [if_neg (by omega)]; exact ⟨a, c, ob, ⟨hB69, hO70, hne⟩, .inl rfl⟩
         refine aH (aH (aH (aR (aM (aC (aA (aO (br1 ?_))))))))
         exact nvx (fun hf => by have f1 := hf.zc; omega) hE68
        refine aH (aH (aH (aR (aG (aH (aH (aH (aR (aM (aC (aA (aO (br1 ?_)))))))))))))
        exact nvx (fun hf => by first | (rcases hf.zl with h | h; omega; rw [h] at hs117; cases hs117; done) | cases hs117) hE68
       refine aH (aH (aH (aR (aG (aH (aH (aH (aR (aG (aH (aH (aH (aR (aM ?_)))))))))))))); refine aC (aA (aO (br1 ?_)))
       exact nvx (fun hf => by have f1 := hf.zm2; omega) hE68
      refine aH (aH (aH (aR (aG (aH (aH (aH (aR (aG (aH (aH (aH (aR (aG ?_)))))))))))))); refine aH (aH (aH (aR (aM (aC (aA (aO (br1 ?_))))))))
      exact nvx (fun hf => by have f1 := hf.zm1; omega) hE68
     refine aH (aH (aH (aR (aG (aH (aH (aH (aR (aG (aH (aH (aH (aR (aG ?_)))))))))))))); refine aH (aH (aH (aR (aG (aH (aH (aH (aR (aM (aC (aA (aO (br1 ?_)))))))))))))
     exact nvx (fun hf => by have f1 := hf.zg; omega) hE68
    refine aH (aH (aH (aH (aR (aG (aH (aH (aH (aR (aG (aH (aH (aH (aR ?_)))))))))))))); refine aG (aH (aH (aH (aR (aG (aH (aH (aH (aR (aG (aH (aH (aH (aR ?_)))))))))))))); refine aM (aC (aA (aO (br1 ?_))))
    exact nvx (fun hf => by have f1 := hf.zr; omega) hE68
   refine aH (aH (aH (aR (aG (aH (aH (aH (aH (aR (aG (aH (aH (aH (aR ?_)))))))))))))); refine aG (aH (aH (aH (aR (aG (aH (aH (aH (aR (aG (aH (aH (aH (aR ?_)))))))))))))); refine aG (aH (aH (aH (aR (aM (aC (aA (aO (br1 ?_)))))))))
   exact nvx (fun hf => by have f1 := hf.two; have f2 := hf.rep4; have f3 := hf.grp; have f4 := hf.leaf; omega) hE68
  refine aE (aE (aB (aF (bD rfl rfl) ?_))); refine aM (aC (aA (bF rfl (fun hc38 => ?_) (fun hc38 => ?_))))
  ·refine aU (aA (bF rfl (fun hc38 => ?_) (fun hc38 => ?_)))
   ·refine aB (aF (aD rfl cH) (aF (aI rfl dB (aJ hB49 rfl)) (aF (bK rfl Tryz.underlying25 rfl) ?_))); refine aF (yO rfl rfl) ?_; refine aM (aC (aW (aA (aE (aB (aF (aD rfl cH) (aF (aI rfl dB (aJ hB49 rfl)) (aF (bK rfl Tryz.underlying25 rfl) ?_)))))))); refine aG (aF (bD rfl rfl) ?_); refine aG (aV (t := 91) rfl (fun hs91 => ?_) (fun hs91 => ?_))
    ·refine aQ (aF (aD rfl eR) (aQ (aF (aI rfl cF (aJ hB50 rfl)) (aQ (aF (bD rfl rfl) ?_))))); refine bH (aG (aV (t := 96) rfl (fun hs96 => ?_) (fun hs96 => ?_)))
     ·refine aQ (aF (aD rfl dU) (aQ (aF (aI rfl fB (aJ hB50 rfl)) (aQ (aF (bK rfl Tryz.underlying24 rfl) ?_))))); refine aQ (aF (bD rfl rfl) ?_); refine bH (aG (aV (t := 102) rfl (fun hs102 => ?_) (fun hs102 => ?_)))
      ·refine aQ (aF (aD rfl dH) (aQ (aF (aI rfl aZ (aJ hB50 rfl)) (aQ (aF (bD rfl rfl) ?_))))); refine bH (aG (aV (t := 107) rfl (fun hs107 => ?_) (fun hs107 => ?_)))
       ·refine aQ (aF (aD rfl dG) (aQ (aF (aI rfl aZ (aJ hB50 rfl)) (aQ (aF (bD rfl rfl) ?_))))); refine bH (aG (aV (t := 112) rfl (fun hs112 => ?_) (fun hs112 => ?_)))
        ·refine aQ (aF (aD rfl eH) (aQ (aF (aI rfl dX (aJ hB50 rfl)) (aQ (aF (fF rfl) ?_))))); refine bH (aG (gU (t := 117) rfl (fun hs117 => ?_) (fun hs117 => ?_)))
         ·refine aQ (aF (aD rfl eG) (aQ (aF (aI rfl aZ (aJ hB50 rfl)) (aQ (aF (bD rfl rfl) ?_))))); refine bH (aG (aV (t := 122) rfl (fun hs122 => ?_) (fun hs122 => ?_)))
          ·refine aQ (aF (aD rfl eF) (aQ (aF (aI rfl cJ (aJ hB50 rfl)) (aQ (aF (gQ rfl rfl) ?_))))); refine bH (aM (aC (aA (aO (br1 ?_)))))
           have hlz : x.kind = 6 ∨ x.lazy = false := by first | (left; omega) | (right; simpa using hs117)
           refine ⟨_, rfl, ?_, hE46, fun hb => ?_⟩
           · simp only [decide_eq_true_eq]
             constructor
             · intro hnm
               exact ⟨(eB x).2 (by constructor <;> first | omega | (right; assumption) | (left; omega) | exact hlz | exact .inr hnm | (intro hk; exact hcb.1 (by simpa using hc36)) | (intro hk; exfalso; omega)), by intro hk; exfalso; omega⟩
             · intro hh; obtain ⟨hh, hh2⟩ := hh; have hf := (eB x).1 hh; exact hf.zn.resolve_left (by omega)
           · rw [if_neg (by omega)]; exact ⟨a, c, ob, ⟨hB47, hO48, hne⟩, .inl rfl⟩
          refine aH (aH (aH (aR (aM (aC (aA (aO (br1 ?_))))))))
          exact nvx (fun hf => by have f1 := hf.zc; omega) hE46
         refine aH (aH (aH (aR (aG (aH (aH (aH (aR (aM (aC (aA (aO (br1 ?_)))))))))))))
         exact nvx (fun hf => by first | (rcases hf.zl with h | h; omega; rw [h] at hs117; cases hs117; done) | cases hs117) hE46
        refine aH (aH (aH (aR (aG (aH (aH (aH (aR (aG (aH (aH (aH (aR (aM ?_)))))))))))))); refine aC (aA (aO (br1 ?_)))
        exact nvx (fun hf => by have f1 := hf.zm2; omega) hE46
       refine aH (aH (aH (aR (aG (aH (aH (aH (aR (aG (aH (aH (aH (aR (aG ?_)))))))))))))); refine aH (aH (aH (aR (aM (aC (aA (aO (br1 ?_))))))))
       exact nvx (fun hf => by have f1 := hf.zm1; omega) hE46
      refine aH (aH (aH (aR (aG (aH (aH (aH (aR (aG (aH (aH (aH (aR (aG ?_)))))))))))))); refine aH (aH (aH (aR (aG (aH (aH (aH (aR (aM (aC (aA (aO (br1 ?_)))))))))))))
      exact nvx (fun hf => by have f1 := hf.zg; omega) hE46
     refine aH (aH (aH (aH (aR (aG (aH (aH (aH (aR (aG (aH (aH (aH (aR ?_)))))))))))))); refine aG (aH (aH (aH (aR (aG (aH (aH (aH (aR (aG (aH (aH (aH (aR ?_)))))))))))))); refine aM (aC (aA (aO (br1 ?_))))
     exact nvx (fun hf => by have f1 := hf.zr; omega) hE46
    refine aH (aH (aH (aR (aG (aH (aH (aH (aH (aR (aG (aH (aH (aH (aR ?_)))))))))))))); refine aG (aH (aH (aH (aR (aG (aH (aH (aH (aR (aG (aH (aH (aH (aR ?_)))))))))))))); refine aG (aH (aH (aH (aR (aM (aC (aA (aO (br1 ?_)))))))))
    exact nvx (fun hf => by have f1 := hf.two; have f2 := hf.rep4; have f3 := hf.grp; have f4 := hf.leaf; omega) hE46
   refine aE (aB (aF (bD rfl rfl) ?_)); refine aM (aC (aA (bF rfl (fun hc45 => ?_) (fun hc45 => ?_))))
   ·refine aE (aE (aB (aF (aD rfl dH) (aF (aI rfl aZ (aJ hB49 rfl)) (aF (dF rfl rfl) ?_))))); refine aG (aV (t := 50) rfl (fun hs50 => ?_) (fun hs50 => ?_))
    ·refine aH (aH (aH (bH (aG (aH (aH (aH (aH (fO ?_))))))))); refine fO ?_; refine fO ?_; refine fO ?_; refine fO ?_; refine fO ?_; refine fO ?_; refine fO ?_; refine fO ?_; refine fO ?_; refine aH (bH (aC (aA (cV rfl ?_)))); refine aE (aB (aM (aC (aA (aO (aN (aX (aN (br1 ?_)))))))))
     exact nvx (fun hf => by have f1 := hf.rep1; omega) hE46
    refine aQ (aF (aD rfl dH) (aQ (aF (aI rfl aZ (aJ hB49 rfl)) (aQ (aF (gL rfl rfl) ?_))))); refine aR (aG (aV (t := 55) rfl (fun hs55 => ?_) (fun hs55 => ?_)))
    ·refine aH (aH (aH (aH (fO ?_)))); refine fO ?_; refine fO ?_; refine fO ?_; refine fO ?_; refine fO ?_; refine fO ?_; refine fO ?_; refine fO ?_; refine fO ?_; refine aH (bH (aC (aA (cV rfl ?_)))); refine aE (aB (aM (aC (aA (aO (aN (aX (aN (br1 ?_)))))))))
     exact nvx (fun hf => by have f1 := hf.rep1; have f2 := hf.rep2; have f3 := hf.rep3; omega) hE46
    refine aQ (aF (aD rfl dG) (aQ (aF (aI rfl aZ (aJ hB49 rfl)) (aQ (aF (fX rfl rfl) ?_))))); refine aQ (aG (aV (t := 59) rfl (fun hs59 => ?_) (fun hs59 => ?_)))
    ·refine aQ (aF (aD rfl dG) (aQ (aF (aI rfl aZ (aJ hB49 rfl)) (aQ (aF (aD rfl dH) (aQ (aF (aI rfl aZ (aJ hB49 rfl)) (aQ (aF (dF rfl rfl) ?_))))))))); refine aQ (aG (aV (t := 65) rfl (fun hs65 => ?_) (fun hs65 => ?_)))
     ·refine aH (aH (aH (aQ (bH (aQ (bH (aR (aC (aA (cV rfl ?_)))))))))); refine aE (aB (aM (aC (aA (aO (aN (aX (aN (br1 ?_)))))))))
      exact nvx (fun hf => by have f1 := hf.rep1; have f2 := hf.rep2; have f3 := hf.rep3; omega) hE46
     refine aQ (aF (aD rfl dG) (aQ (aF (aI rfl aZ (aJ hB49 rfl)) (aQ (aF (gL rfl rfl) ?_))))); refine aQ (aR (aQ (bH (aR (aC (aA (bF rfl (fun hc71 => ?_) (fun hc71 => ?_))))))))
     ·refine aE (aB (aM (aC (aA (aO (aN (aX (aN (br1 ?_)))))))))
      exact nvx (fun hf => by have f1 := hf.rep1; have f2 := hf.rep2; have f3 := hf.rep3; omega) hE46
     refine aU (aA (aE (aB (aF (aD rfl dH) (bG rfl rfl (rfl) bV hB50 rfl fun w72 hB73 hw74 => ?_)))))
     try simp only [cR, Nat.reduceAdd] at hB73
     refine aF (aD rfl dG) (bG rfl rfl (rfl) bV hB73 rfl fun w79 hB80 hw81 => ?_)
     try simp only [cR, Nat.reduceAdd] at hB80
     refine aF (aD rfl eH) (bG rfl rfl (rfl) fS hB80 rfl fun w86 hB87 hw88 => ?_); have hE89 := ((hE46.step hw74 hG18.mem1).step hw81 hG18.mem1).step hw88 hG18.mem1; have hB90 := hw88.blk (hw81.blk (hw74.blk hB47 hA15.nmem1) hA15.nmem1) hA15.nmem1; have hO91 := ((hO48.evo hw74 hA16.own1).evo hw81 hA16.own1).evo hw88 hA16.own1
     try simp only [cR, Nat.reduceAdd] at hB87
     refine aC (aA (aB (aM (aC (aW (aA (aE (aB (aF (aD rfl cH) (aF (aI rfl dB (aJ (hw88.blk (hw81.blk (hw74.blk hB49 hA17.nmem1) hA17.nmem1) hA17.nmem1) rfl)) (aF (bK rfl Tryz.underlying25 rfl) ?_))))))))))); refine aG (aF (bD rfl rfl) ?_); refine aG (aV (t := 91) rfl (fun hs91 => ?_) (fun hs91 => ?_))
     ·refine aQ (aF (aD rfl eR) (aQ (aF (aI rfl cF (aJ hB87 rfl)) (aQ (aF (bD rfl rfl) ?_))))); refine bH (aG (aV (t := 96) rfl (fun hs96 => ?_) (fun hs96 => ?_)))
      ·refine aQ (aF (aD rfl dU) (aQ (aF (aI rfl fB (aJ hB87 rfl)) (aQ (aF (bK rfl Tryz.underlying24 rfl) ?_))))); refine aQ (aF (bD rfl rfl) ?_); refine bH (aG (aV (t := 102) rfl (fun hs102 => ?_) (fun hs102 => ?_)))
       ·refine aQ (aF (aD rfl dH) (aQ (aF (aI rfl aZ (aJ hB87 rfl)) (aQ (aF (bD rfl rfl) ?_))))); refine bH (aG (aV (t := 107) rfl (fun hs107 => ?_) (fun hs107 => ?_)))
        ·refine aQ (aF (aD rfl dG) (aQ (aF (aI rfl aZ (aJ hB87 rfl)) (aQ (aF (bD rfl rfl) ?_))))); refine bH (aG (aV (t := 112) rfl (fun hs112 => ?_) (fun hs112 => ?_)))
         ·refine aQ (aF (aD rfl eH) (aQ (aF (aI rfl dX (aJ hB87 rfl)) (aQ (aF (fF rfl) ?_))))); refine bH (aG (gU (t := 117) rfl (fun hs117 => ?_) (fun hs117 => ?_)))
          ·refine aQ (aF (aD rfl eG) (aQ (aF (aI rfl aZ (aJ hB87 rfl)) (aQ (aF (bD rfl rfl) ?_))))); refine bH (aG (aV (t := 122) rfl (fun hs122 => ?_) (fun hs122 => ?_)))
           ·refine aQ (aF (aD rfl eF) (aQ (aF (aI rfl cJ (aJ hB87 rfl)) (aQ (aF (gQ rfl rfl) ?_))))); refine bH (aM (aC (aA (aO (br1 ?_)))))
            have hlz : x.kind = 6 ∨ x.lazy = false := by first | (left; omega) | (right; simpa using hs117)
            refine ⟨_, rfl, ?_, hE89, fun hb => ?_⟩
            · simp only [decide_eq_true_eq]
              constructor
              · intro hnm
                exact ⟨(eB x).2 (by constructor <;> first | omega | (right; assumption) | (left; omega) | exact hlz | exact .inr hnm | (intro hk; exact hcb.1 (by simpa using hc36)) | (intro hk; exfalso; omega)), by intro hk; exfalso; omega⟩
              · intro hh; obtain ⟨hh, hh2⟩ := hh; have hf := (eB x).1 hh; exact hf.zn.resolve_left (by omega)
            · rw [if_neg (by omega)]; exact ⟨a, c, ob, ⟨hB90, hO91, hne⟩, .inl rfl⟩
           refine aH (aH (aH (aR (aM (aC (aA (aO (br1 ?_))))))))
           exact nvx (fun hf => by have f1 := hf.zc; omega) hE89
          refine aH (aH (aH (aR (aG (aH (aH (aH (aR (aM (aC (aA (aO (br1 ?_)))))))))))))
          exact nvx (fun hf => by first | (rcases hf.zl with h | h; omega; rw [h] at hs117; cases hs117; done) | cases hs117) hE89
         refine aH (aH (aH (aR (aG (aH (aH (aH (aR (aG (aH (aH (aH (aR (aM ?_)))))))))))))); refine aC (aA (aO (br1 ?_)))
         exact nvx (fun hf => by have f1 := hf.zm2; omega) hE89
        refine aH (aH (aH (aR (aG (aH (aH (aH (aR (aG (aH (aH (aH (aR (aG ?_)))))))))))))); refine aH (aH (aH (aR (aM (aC (aA (aO (br1 ?_))))))))
        exact nvx (fun hf => by have f1 := hf.zm1; omega) hE89
       refine aH (aH (aH (aR (aG (aH (aH (aH (aR (aG (aH (aH (aH (aR (aG ?_)))))))))))))); refine aH (aH (aH (aR (aG (aH (aH (aH (aR (aM (aC (aA (aO (br1 ?_)))))))))))))
       exact nvx (fun hf => by have f1 := hf.zg; omega) hE89
      refine aH (aH (aH (aH (aR (aG (aH (aH (aH (aR (aG (aH (aH (aH (aR ?_)))))))))))))); refine aG (aH (aH (aH (aR (aG (aH (aH (aH (aR (aG (aH (aH (aH (aR ?_)))))))))))))); refine aM (aC (aA (aO (br1 ?_))))
      exact nvx (fun hf => by have f1 := hf.zr; omega) hE89
     refine aH (aH (aH (aR (aG (aH (aH (aH (aH (aR (aG (aH (aH (aH (aR ?_)))))))))))))); refine aG (aH (aH (aH (aR (aG (aH (aH (aH (aR (aG (aH (aH (aH (aR ?_)))))))))))))); refine aG (aH (aH (aH (aR (aM (aC (aA (aO (br1 ?_)))))))))
     exact nvx (fun hf => by have f1 := hf.two; have f2 := hf.rep4; have f3 := hf.grp; have f4 := hf.leaf; omega) hE89
    refine aH (aH (aH (aH (aH (aH (fO ?_)))))); refine fO ?_; refine fO ?_; refine aH (aQ (aR (aR (aC (aA (cO rfl ?_)))))); refine aU (aA (aE (aB (aF (aD rfl dH) (bG rfl rfl (rfl) bV hB50 rfl fun w93 hB94 hw95 => ?_)))))
    try simp only [cR, Nat.reduceAdd] at hB94
    refine aF (aD rfl dG) (bG rfl rfl (rfl) bV hB94 rfl fun w100 hB101 hw102 => ?_)
    try simp only [cR, Nat.reduceAdd] at hB101
    refine aF (aD rfl eH) (bG rfl rfl (rfl) fS hB101 rfl fun w107 hB108 hw109 => ?_); have hE110 := ((hE46.step hw95 hG18.mem1).step hw102 hG18.mem1).step hw109 hG18.mem1; have hB111 := hw109.blk (hw102.blk (hw95.blk hB47 hA15.nmem1) hA15.nmem1) hA15.nmem1; have hO112 := ((hO48.evo hw95 hA16.own1).evo hw102 hA16.own1).evo hw109 hA16.own1
    try simp only [cR, Nat.reduceAdd] at hB108
    refine aC (aA (aB (aM (aC (aW (aA (aE (aB (aF (aD rfl cH) (aF (aI rfl dB (aJ (hw109.blk (hw102.blk (hw95.blk hB49 hA17.nmem1) hA17.nmem1) hA17.nmem1) rfl)) (aF (bK rfl Tryz.underlying25 rfl) ?_))))))))))); refine aG (aF (bD rfl rfl) ?_); refine aG (aV (t := 91) rfl (fun hs91 => ?_) (fun hs91 => ?_))
    ·refine aQ (aF (aD rfl eR) (aQ (aF (aI rfl cF (aJ hB108 rfl)) (aQ (aF (bD rfl rfl) ?_))))); refine bH (aG (aV (t := 96) rfl (fun hs96 => ?_) (fun hs96 => ?_)))
     ·refine aQ (aF (aD rfl dU) (aQ (aF (aI rfl fB (aJ hB108 rfl)) (aQ (aF (bK rfl Tryz.underlying24 rfl) ?_))))); refine aQ (aF (bD rfl rfl) ?_); refine bH (aG (aV (t := 102) rfl (fun hs102 => ?_) (fun hs102 => ?_)))
      ·refine aQ (aF (aD rfl dH) (aQ (aF (aI rfl aZ (aJ hB108 rfl)) (aQ (aF (bD rfl rfl) ?_))))); refine bH (aG (aV (t := 107) rfl (fun hs107 => ?_) (fun hs107 => ?_)))
       ·refine aQ (aF (aD rfl dG) (aQ (aF (aI rfl aZ (aJ hB108 rfl)) (aQ (aF (bD rfl rfl) ?_))))); refine bH (aG (aV (t := 112) rfl (fun hs112 => ?_) (fun hs112 => ?_)))
        ·refine aQ (aF (aD rfl eH) (aQ (aF (aI rfl dX (aJ hB108 rfl)) (aQ (aF (fF rfl) ?_))))); refine bH (aG (gU (t := 117) rfl (fun hs117 => ?_) (fun hs117 => ?_)))
         ·refine aQ (aF (aD rfl eG) (aQ (aF (aI rfl aZ (aJ hB108 rfl)) (aQ (aF (bD rfl rfl) ?_))))); refine bH (aG (aV (t := 122) rfl (fun hs122 => ?_) (fun hs122 => ?_)))
          ·refine aQ (aF (aD rfl eF) (aQ (aF (aI rfl cJ (aJ hB108 rfl)) (aQ (aF (gQ rfl rfl) ?_))))); refine bH (aM (aC (aA (aO (br1 ?_)))))
           have hlz : x.kind = 6 ∨ x.lazy = false := by first | (left; omega) | (right; simpa using hs117)
           refine ⟨_, rfl, ?_, hE110, fun hb => ?_⟩
           · simp only [decide_eq_true_eq]
             constructor
             · intro hnm
               exact ⟨(eB x).2 (by constructor <;> first | omega | (right; assumption) | (left; omega) | exact hlz | exact .inr hnm | (intro hk; exact hcb.1 (by simpa using hc36)) | (intro hk; exfalso; omega)), by intro hk; exfalso; omega⟩
             · intro hh; obtain ⟨hh, hh2⟩ := hh; have hf := (eB x).1 hh; exact hf.zn.resolve_left (by omega)
           · rw [if_neg (by omega)]; exact ⟨a, c, ob, ⟨hB111, hO112, hne⟩, .inl rfl⟩
          refine aH (aH (aH (aR (aM (aC (aA (aO (br1 ?_))))))))
          exact nvx (fun hf => by have f1 := hf.zc; omega) hE110
         refine aH (aH (aH (aR (aG (aH (aH (aH (aR (aM (aC (aA (aO (br1 ?_)))))))))))))
         exact nvx (fun hf => by first | (rcases hf.zl with h | h; omega; rw [h] at hs117; cases hs117; done) | cases hs117) hE110
        refine aH (aH (aH (aR (aG (aH (aH (aH (aR (aG (aH (aH (aH (aR (aM ?_)))))))))))))); refine aC (aA (aO (br1 ?_)))
        exact nvx (fun hf => by have f1 := hf.zm2; omega) hE110
       refine aH (aH (aH (aR (aG (aH (aH (aH (aR (aG (aH (aH (aH (aR (aG ?_)))))))))))))); refine aH (aH (aH (aR (aM (aC (aA (aO (br1 ?_))))))))
       exact nvx (fun hf => by have f1 := hf.zm1; omega) hE110
      refine aH (aH (aH (aR (aG (aH (aH (aH (aR (aG (aH (aH (aH (aR (aG ?_)))))))))))))); refine aH (aH (aH (aR (aG (aH (aH (aH (aR (aM (aC (aA (aO (br1 ?_)))))))))))))
      exact nvx (fun hf => by have f1 := hf.zg; omega) hE110
     refine aH (aH (aH (aH (aR (aG (aH (aH (aH (aR (aG (aH (aH (aH (aR ?_)))))))))))))); refine aG (aH (aH (aH (aR (aG (aH (aH (aH (aR (aG (aH (aH (aH (aR ?_)))))))))))))); refine aM (aC (aA (aO (br1 ?_))))
     exact nvx (fun hf => by have f1 := hf.zr; omega) hE110
    refine aH (aH (aH (aR (aG (aH (aH (aH (aH (aR (aG (aH (aH (aH (aR ?_)))))))))))))); refine aG (aH (aH (aH (aR (aG (aH (aH (aH (aR (aG (aH (aH (aH (aR ?_)))))))))))))); refine aG (aH (aH (aH (aR (aM (aC (aA (aO (br1 ?_)))))))))
    exact nvx (fun hf => by have f1 := hf.two; have f2 := hf.rep4; have f3 := hf.grp; have f4 := hf.leaf; omega) hE110
   refine aE (aB (aF (bD rfl rfl) ?_)); refine aM (aC (aA (bF rfl (fun hc75 => ?_) (fun hc75 => ?_))))
   ·refine aE (aE (aB (aG (aF (aD rfl eG) (aF (aI rfl aZ (aJ hB49 rfl)) (aF (aD rfl eF) (aF (aI rfl cJ (aJ hB49 rfl)) ?_))))))); have hszc := (hE46).size; have hlt3 := Lt.blk hB49; have hlt5 := Lt.blk hB50; refine aK (vs := [_, _, _]) uP rfl (GD ⟨hB47, hO48, hne⟩ hl bl2) rfl ?_; rintro _ w114 ⟨gb, rfl, hgb, hw115, hgs⟩; have hE116 := hE46.step hw115 (fun y hy => .inl hy); have hB117 := hw115.blk hB49 (AL hA5.symm hA6.symm); refine aF (fF rfl) ?_; refine aC (aA (fW rfl (fun hc83 => ?_) (fun hc83 => ?_)))
    ·refine aE (aB (aM (aC (aA (aO (aN (aX (aN (br1 ?_)))))))))
     exact ⟨false, rfl, by simp only [Bool.false_eq_true, false_iff]; intro hh; obtain ⟨hh, hh2⟩ := hh; have hf := (eB x).1 hh; (rw [hgb.2 (hh2 (by omega))] at hc83; cases hc83), hE116, fun h => by cases h⟩
    obtain ⟨a2, c2, ob2, hJ2, hob2⟩ := hgs (by simpa using hc83); have hgb2 := hgb.1 (by simpa using hc83); have hA3 := fM hA6.symm hlt3 hob2; have hA5 := fM hA16.symm hlt5 hob2; refine aU (aA (aE (aB (aF (aD rfl eG) (bG rfl rfl (rfl) bV (hw115.blk hB50 (AL hA15.symm hA16.symm)) rfl fun w119 hB120 hw121 => ?_)))))
    try simp only [cR, Nat.reduceAdd] at hB120
    refine aF (aD rfl eF) (bG rfl rfl (rfl) kP hB120 rfl fun w126 hB127 hw128 => ?_); have hE129 := (hE116.step hw121 hG18.mem1).step hw128 hG18.mem1; have hB131 := hw128.blk (hw121.blk hJ2.blk hA15.nmem1) hA15.nmem1; have hO132 := (hJ2.own.evo hw121 hA5.symm.own1).evo hw128 hA5.symm.own1
    try simp only [cR, Nat.reduceAdd] at hB127
    refine aC (aA (aB (aM (aC (aW (aA (aE (aB (aF (aD rfl cH) (aF (aI rfl dB (aJ (hw128.blk (hw121.blk hB117 hA17.nmem1) hA17.nmem1) rfl)) (aF (bK rfl Tryz.underlying25 rfl) ?_))))))))))); refine aG (aF (bD rfl rfl) ?_); refine aG (aV (t := 91) rfl (fun hs91 => ?_) (fun hs91 => ?_))
    ·refine aQ (aF (aD rfl eR) (aQ (aF (aI rfl cF (aJ hB127 rfl)) (aQ (aF (bD rfl rfl) ?_))))); refine bH (aG (aV (t := 96) rfl (fun hs96 => ?_) (fun hs96 => ?_)))
     ·refine aQ (aF (aD rfl dU) (aQ (aF (aI rfl fB (aJ hB127 rfl)) (aQ (aF (bK rfl Tryz.underlying24 rfl) ?_))))); refine aQ (aF (bD rfl rfl) ?_); refine bH (aG (aV (t := 102) rfl (fun hs102 => ?_) (fun hs102 => ?_)))
      ·refine aQ (aF (aD rfl dH) (aQ (aF (aI rfl aZ (aJ hB127 rfl)) (aQ (aF (bD rfl rfl) ?_))))); refine bH (aG (aV (t := 107) rfl (fun hs107 => ?_) (fun hs107 => ?_)))
       ·refine aQ (aF (aD rfl dG) (aQ (aF (aI rfl aZ (aJ hB127 rfl)) (aQ (aF (bD rfl rfl) ?_))))); refine bH (aG (aV (t := 112) rfl (fun hs112 => ?_) (fun hs112 => ?_)))
        ·refine aQ (aF (aD rfl eH) (aQ (aF (aI rfl dX (aJ hB127 rfl)) (aQ (aF (fF rfl) ?_))))); refine bH (aG (gU (t := 117) rfl (fun hs117 => ?_) (fun hs117 => ?_)))
         ·refine aQ (aF (aD rfl eG) (aQ (aF (aI rfl aZ (aJ hB127 rfl)) (aQ (aF (bD rfl rfl) ?_))))); refine bH (aG (aV (t := 122) rfl (fun hs122 => ?_) (fun hs122 => ?_)))
          ·refine aQ (aF (aD rfl eF) (aQ (aF (aI rfl cJ (aJ hB127 rfl)) (aQ (aF (gQ rfl rfl) ?_))))); refine bH (aM (aC (aA (aO (br1 ?_))))); have hob3 : ob2 = ob ∨ ∃ g, ob2 = some g ∧ w.heap.size ≤ g := hob2.imp id (fun ⟨g, h1, h2⟩ => ⟨g, h1, Nat.le_trans hszc h2⟩)
           have hlz : x.kind = 6 ∨ x.lazy = false := by first | (left; omega) | (right; simpa using hs117)
           refine ⟨_, rfl, ?_, hE129, fun hb => ?_⟩
           · simp only [decide_eq_true_eq]
             constructor
             · intro hnm
               exact ⟨(eB x).2 (by constructor <;> first | omega | (right; assumption) | (left; omega) | exact hlz | (intro hk; exact hcb.1 (by simpa using hc36)) | (intro hk; exfalso; omega)), by intro _; exact hgb2⟩
             · intro hh; obtain ⟨hh, hh2⟩ := hh; have hf := (eB x).1 hh; trivial
           · rw [if_pos (by omega)]; exact ⟨a2, c2, ob2, ⟨hB131, hO132, hJ2.ne⟩, hob3⟩
          refine aH (aH (aH (aR (aM (aC (aA (aO (br1 ?_))))))))
          exact nvx (fun hf => by have f1 := hf.zc; omega) hE129
         refine aH (aH (aH (aR (aG (aH (aH (aH (aR (aM (aC (aA (aO (br1 ?_)))))))))))))
         exact nvx (fun hf => by first | (rcases hf.zl with h | h; omega; rw [h] at hs117; cases hs117; done) | cases hs117) hE129
        refine aH (aH (aH (aR (aG (aH (aH (aH (aR (aG (aH (aH (aH (aR (aM ?_)))))))))))))); refine aC (aA (aO (br1 ?_)))
        exact nvx (fun hf => by have f1 := hf.zm2; omega) hE129
       refine aH (aH (aH (aR (aG (aH (aH (aH (aR (aG (aH (aH (aH (aR (aG ?_)))))))))))))); refine aH (aH (aH (aR (aM (aC (aA (aO (br1 ?_))))))))
       exact nvx (fun hf => by have f1 := hf.zm1; omega) hE129
      refine aH (aH (aH (aR (aG (aH (aH (aH (aR (aG (aH (aH (aH (aR (aG ?_)))))))))))))); refine aH (aH (aH (aR (aG (aH (aH (aH (aR (aM (aC (aA (aO (br1 ?_)))))))))))))
      exact nvx (fun hf => by have f1 := hf.zg; omega) hE129
     refine aH (aH (aH (aH (aR (aG (aH (aH (aH (aR (aG (aH (aH (aH (aR ?_)))))))))))))); refine aG (aH (aH (aH (aR (aG (aH (aH (aH (aR (aG (aH (aH (aH (aR ?_)))))))))))))); refine aM (aC (aA (aO (br1 ?_))))
     exact nvx (fun hf => by have f1 := hf.zr; omega) hE129
    refine aH (aH (aH (aR (aG (aH (aH (aH (aH (aR (aG (aH (aH (aH (aR ?_)))))))))))))); refine aG (aH (aH (aH (aR (aG (aH (aH (aH (aR (aG (aH (aH (aH (aR ?_)))))))))))))); refine aG (aH (aH (aH (aR (aM (aC (aA (aO (br1 ?_)))))))))
    exact nvx (fun hf => by have f1 := hf.two; have f2 := hf.rep4; have f3 := hf.grp; have f4 := hf.leaf; omega) hE129
   refine aE (aB (aM (aC (aA (aO (aX (aN (br1 ?_))))))))
   exact nvx (fun hf => by have f1 := hf.kind1; have f2 := hf.kind2; omega) hE46
  refine aB (aF (bD rfl rfl) ?_); refine aM (aC (aA (bF rfl (fun hc38 => ?_) (fun hc38 => ?_))))
  ·refine aB (aF (aD rfl cH) (aF (aI rfl dB (aJ hB49 rfl)) (aF (bK rfl Tryz.underlying25 rfl) ?_))); refine aF (yO rfl rfl) ?_; refine aM (aC (aW (aA (aE (aB (aF (aD rfl cH) (aF (aI rfl dB (aJ hB49 rfl)) (aF (bK rfl Tryz.underlying25 rfl) ?_)))))))); refine aG (aF (bD rfl rfl) ?_); refine aG (aV (t := 91) rfl (fun hs91 => ?_) (fun hs91 => ?_))
   ·refine aQ (aF (aD rfl eR) (aQ (aF (aI rfl cF (aJ hB50 rfl)) (aQ (aF (bD rfl rfl) ?_))))); refine bH (aG (aV (t := 96) rfl (fun hs96 => ?_) (fun hs96 => ?_)))
    ·refine aQ (aF (aD rfl dU) (aQ (aF (aI rfl fB (aJ hB50 rfl)) (aQ (aF (bK rfl Tryz.underlying24 rfl) ?_))))); refine aQ (aF (bD rfl rfl) ?_); refine bH (aG (aV (t := 102) rfl (fun hs102 => ?_) (fun hs102 => ?_)))
     ·refine aQ (aF (aD rfl dH) (aQ (aF (aI rfl aZ (aJ hB50 rfl)) (aQ (aF (bD rfl rfl) ?_))))); refine bH (aG (aV (t := 107) rfl (fun hs107 => ?_) (fun hs107 => ?_)))
      ·refine aQ (aF (aD rfl dG) (aQ (aF (aI rfl aZ (aJ hB50 rfl)) (aQ (aF (bD rfl rfl) ?_))))); refine bH (aG (aV (t := 112) rfl (fun hs112 => ?_) (fun hs112 => ?_)))
       ·refine aQ (aF (aD rfl eH) (aQ (aF (aI rfl dX (aJ hB50 rfl)) (aQ (aF (fF rfl) ?_))))); refine bH (aG (gU (t := 117) rfl (fun hs117 => ?_) (fun hs117 => ?_)))
        ·refine aQ (aF (aD rfl eG) (aQ (aF (aI rfl aZ (aJ hB50 rfl)) (aQ (aF (bD rfl rfl) ?_))))); refine bH (aG (aV (t := 122) rfl (fun hs122 => ?_) (fun hs122 => ?_)))
         ·refine aQ (aF (aD rfl eF) (aQ (aF (aI rfl cJ (aJ hB50 rfl)) (aQ (aF (gQ rfl rfl) ?_))))); refine bH (aM (aC (aA (aO (br1 ?_)))))
          have hlz : x.kind = 6 ∨ x.lazy = false := by first | (left; omega) | (right; simpa using hs117)
          refine ⟨_, rfl, ?_, hE46, fun hb => ?_⟩
          · simp only [decide_eq_true_eq]
            constructor
            · intro hnm
              exact ⟨(eB x).2 (by constructor <;> first | omega | (right; assumption) | (left; omega) | exact hlz | exact .inr hnm | (intro hk; exact hcb.1 (by simpa using hc36)) | (intro hk; exfalso; omega)), by intro hk; exfalso; omega⟩
            · intro hh; obtain ⟨hh, hh2⟩ := hh; have hf := (eB x).1 hh; exact hf.zn.resolve_left (by omega)
          · rw [if_neg (by omega)]; exact ⟨a, c, ob, ⟨hB47, hO48, hne⟩, .inl rfl⟩
         refine aH (aH (aH (aR (aM (aC (aA (aO (br1 ?_))))))))
         exact nvx (fun hf => by have f1 := hf.zc; omega) hE46
        refine aH (aH (aH (aR (aG (aH (aH (aH (aR (aM (aC (aA (aO (br1 ?_)))))))))))))
        exact nvx (fun hf => by first | (rcases hf.zl with h | h; omega; rw [h] at hs117; cases hs117; done) | cases hs117) hE46
       refine aH (aH (aH (aR (aG (aH (aH (aH (aR (aG (aH (aH (aH (aR (aM ?_)))))))))))))); refine aC (aA (aO (br1 ?_)))
       exact nvx (fun hf => by have f1 := hf.zm2; omega) hE46
      refine aH (aH (aH (aR (aG (aH (aH (aH (aR (aG (aH (aH (aH (aR (aG ?_)))))))))))))); refine aH (aH (aH (aR (aM (aC (aA (aO (br1 ?_))))))))
      exact nvx (fun hf => by have f1 := hf.zm1; omega) hE46
     refine aH (aH (aH (aR (aG (aH (aH (aH (aR (aG (aH (aH (aH (aR (aG ?_)))))))))))))); refine aH (aH (aH (aR (aG (aH (aH (aH (aR (aM (aC (aA (aO (br1 ?_)))))))))))))
     exact nvx (fun hf => by have f1 := hf.zg; omega) hE46
    refine aH (aH (aH (aH (aR (aG (aH (aH (aH (aR (aG (aH (aH (aH (aR ?_)))))))))))))); refine aG (aH (aH (aH (aR (aG (aH (aH (aH (aR (aG (aH (aH (aH (aR ?_)))))))))))))); refine aM (aC (aA (aO (br1 ?_))))
    exact nvx (fun hf => by have f1 := hf.zr; omega) hE46
   refine aH (aH (aH (aR (aG (aH (aH (aH (aH (aR (aG (aH (aH (aH (aR ?_)))))))))))))); refine aG (aH (aH (aH (aR (aG (aH (aH (aH (aR (aG (aH (aH (aH (aR ?_)))))))))))))); refine aG (aH (aH (aH (aR (aM (aC (aA (aO (br1 ?_)))))))))
   exact nvx (fun hf => by have f1 := hf.two; have f2 := hf.rep4; have f3 := hf.grp; have f4 := hf.leaf; omega) hE46
  refine aE (aB (aF (bD rfl rfl) ?_)); refine aM (aC (aA (bF rfl (fun hc45 => ?_) (fun hc45 => ?_))))
  ·refine aE (aE (aB (aF (aD rfl dH) (aF (aI rfl aZ (aJ hB49 rfl)) (aF (dF rfl rfl) ?_))))); refine aG (aV (t := 50) rfl (fun hs50 => ?_) (fun hs50 => ?_))
   ·refine aH (aH (aH (bH (aG (aH (aH (aH (aH (fO ?_))))))))); refine fO ?_; refine fO ?_; refine fO ?_; refine fO ?_; refine fO ?_; refine fO ?_; refine fO ?_; refine fO ?_; refine fO ?_; refine aH (bH (aC (aA (cV rfl ?_)))); refine aE (aB (aM (aC (aA (aO (aN (aX (aN (br1 ?_)))))))))
    exact nvx (fun hf => by have f1 := hf.rep1; omega) hE46
   refine aQ (aF (aD rfl dH) (aQ (aF (aI rfl aZ (aJ hB49 rfl)) (aQ (aF (gL rfl rfl) ?_))))); refine aR (aG (aV (t := 55) rfl (fun hs55 => ?_) (fun hs55 => ?_)))
   ·refine aH (aH (aH (aH (fO ?_)))); refine fO ?_; refine fO ?_; refine fO ?_; refine fO ?_; refine fO ?_; refine fO ?_; refine fO ?_; refine fO ?_; refine fO ?_; refine aH (bH (aC (aA (cV rfl ?_)))); refine aE (aB (aM (aC (aA (aO (aN (aX (aN (br1 ?_)))))))))
    exact nvx (fun hf => by have f1 := hf.rep1; have f2 := hf.rep2; have f3 := hf.rep3; omega) hE46
   refine aQ (aF (aD rfl dG) (aQ (aF (aI rfl aZ (aJ hB49 rfl)) (aQ (aF (fX rfl rfl) ?_))))); refine aQ (aG (aV (t := 59) rfl (fun hs59 => ?_) (fun hs59 => ?_)))
   ·refine aQ (aF (aD rfl dG) (aQ (aF (aI rfl aZ (aJ hB49 rfl)) (aQ (aF (aD rfl dH) (aQ (aF (aI rfl aZ (aJ hB49 rfl)) (aQ (aF (dF rfl rfl) ?_))))))))); refine aQ (aG (aV (t := 65) rfl (fun hs65 => ?_) (fun hs65 => ?_)))
    ·refine aH (aH (aH (aQ (bH (aQ (bH (aR (aC (aA (cV rfl ?_)))))))))); refine aE (aB (aM (aC (aA (aO (aN (aX (aN (br1 ?_)))))))))
     exact nvx (fun hf => by have f1 := hf.rep1; have f2 := hf.rep2; have f3 := hf.rep3; omega) hE46
    refine aQ (aF (aD rfl dG) (aQ (aF (aI rfl aZ (aJ hB49 rfl)) (aQ (aF (gL rfl rfl) ?_))))); refine aQ (aR (aQ (bH (aR (aC (aA (bF rfl (fun hc71 => ?_) (fun hc71 => ?_))))))))
    ·refine aE (aB (aM (aC (aA (aO (aN (aX (aN (br1 ?_)))))))))
     exact nvx (fun hf => by have f1 := hf.rep1; have f2 := hf.rep2; have f3 := hf.rep3; omega) hE46
    refine aU (aA (aE (aB (aF (aD rfl dH) (bG rfl rfl (rfl) bV hB50 rfl fun w133 hB134 hw135 => ?_)))))
    try simp only [cR, Nat.reduceAdd] at hB134
    refine aF (aD rfl dG) (bG rfl rfl (rfl) bV hB134 rfl fun w140 hB141 hw142 => ?_)
    try simp only [cR, Nat.reduceAdd] at hB141
    refine aF (aD rfl eH) (bG rfl rfl (rfl) fS hB141 rfl fun w147 hB148 hw149 => ?_); have hE150 := ((hE46.step hw135 hG18.mem1).step hw142 hG18.mem1).step hw149 hG18.mem1; have hB151 := hw149.blk (hw142.blk (hw135.blk hB47 hA15.nmem1) hA15.nmem1) hA15.nmem1; have hO152 := ((hO48.evo hw135 hA16.own1).evo hw142 hA16.own1).evo hw149 hA16.own1
    try simp only [cR, Nat.reduceAdd] at hB148
    refine aC (aA (aB (aM (aC (aW (aA (aE (aB (aF (aD rfl cH) (aF (aI rfl dB (aJ (hw149.blk (hw142.blk (hw135.blk hB49 hA17.nmem1) hA17.nmem1) hA17.nmem1) rfl)) (aF (bK rfl Tryz.underlying25 rfl) ?_))))))))))); refine aG (aF (bD rfl rfl) ?_); refine aG (aV (t := 91) rfl (fun hs91 => ?_) (fun hs91 => ?_))
    ·refine aQ (aF (aD rfl eR) (aQ (aF (aI rfl cF (aJ hB148 rfl)) (aQ (aF (bD rfl rfl) ?_))))); refine bH (aG (aV (t := 96) rfl (fun hs96 => ?_) (fun hs96 => ?_)))
     ·refine aQ (aF (aD rfl dU) (aQ (aF (aI rfl fB (aJ hB148 rfl)) (aQ (aF (bK rfl Tryz.underlying24 rfl) ?_))))); refine aQ (aF (bD rfl rfl) ?_); refine bH (aG (aV (t := 102) rfl (fun hs102 => ?_) (fun hs102 => ?_)))
      ·refine aQ (aF (aD rfl dH) (aQ (aF (aI rfl aZ (aJ hB148 rfl)) (aQ (aF (bD rfl rfl) ?_))))); refine bH (aG (aV (t := 107) rfl (fun hs107 => ?_) (fun hs107 => ?_)))
       ·refine aQ (aF (aD rfl dG) (aQ (aF (aI rfl aZ (aJ hB148 rfl)) (aQ (aF (bD rfl rfl) ?_))))); refine bH (aG (aV (t := 112) rfl (fun hs112 => ?_) (fun hs112 => ?_)))
        ·refine aQ (aF (aD rfl eH) (aQ (aF (aI rfl dX (aJ hB148 rfl)) (aQ (aF (fF rfl) ?_))))); refine bH (aG (gU (t := 117) rfl (fun hs117 => ?_) (fun hs117 => ?_)))
         ·refine aQ (aF (aD rfl eG) (aQ (aF (aI rfl aZ (aJ hB148 rfl)) (aQ (aF (bD rfl rfl) ?_))))); refine bH (aG (aV (t := 122) rfl (fun hs122 => ?_) (fun hs122 => ?_)))
          ·refine aQ (aF (aD rfl eF) (aQ (aF (aI rfl cJ (aJ hB148 rfl)) (aQ (aF (gQ rfl rfl) ?_))))); refine bH (aM (aC (aA (aO (br1 ?_)))))
           have hlz : x.kind = 6 ∨ x.lazy = false := by first | (left; omega) | (right; simpa using hs117)
           refine ⟨_, rfl, ?_, hE150, fun hb => ?_⟩
           · simp only [decide_eq_true_eq]
             constructor
             · intro hnm
               exact ⟨(eB x).2 (by constructor <;> first | omega | (right; assumption) | (left; omega) | exact hlz | exact .inr hnm | (intro hk; exact hcb.1 (by simpa using hc36)) | (intro hk; exfalso; omega)), by intro hk; exfalso; omega⟩
             · intro hh; obtain ⟨hh, hh2⟩ := hh; have hf := (eB x).1 hh; exact hf.zn.resolve_left (by omega)
           · rw [if_neg (by omega)]; exact ⟨a, c, ob, ⟨hB151, hO152, hne⟩, .inl rfl⟩
          refine aH (aH (aH (aR (aM (aC (aA (aO (br1 ?_))))))))
          exact nvx (fun hf => by have f1 := hf.zc; omega) hE150
         refine aH (aH (aH (aR (aG (aH (aH (aH (aR (aM (aC (aA (aO (br1 ?_)))))))))))))
         exact nvx (fun hf => by first | (rcases hf.zl with h | h; omega; rw [h] at hs117; cases hs117; done) | cases hs117) hE150
        refine aH (aH (aH (aR (aG (aH (aH (aH (aR (aG (aH (aH (aH (aR (aM ?_)))))))))))))); refine aC (aA (aO (br1 ?_)))
        exact nvx (fun hf => by have f1 := hf.zm2; omega) hE150
       refine aH (aH (aH (aR (aG (aH (aH (aH (aR (aG (aH (aH (aH (aR (aG ?_)))))))))))))); refine aH (aH (aH (aR (aM (aC (aA (aO (br1 ?_))))))))
       exact nvx (fun hf => by have f1 := hf.zm1; omega) hE150
      refine aH (aH (aH (aR (aG (aH (aH (aH (aR (aG (aH (aH (aH (aR (aG ?_)))))))))))))); refine aH (aH (aH (aR (aG (aH (aH (aH (aR (aM (aC (aA (aO (br1 ?_)))))))))))))
      exact nvx (fun hf => by have f1 := hf.zg; omega) hE150
     refine aH (aH (aH (aH (aR (aG (aH (aH (aH (aR (aG (aH (aH (aH (aR ?_)))))))))))))); refine aG (aH (aH (aH (aR (aG (aH (aH (aH (aR (aG (aH (aH (aH (aR ?_)))))))))))))); refine aM (aC (aA (aO (br1 ?_))))
     exact nvx (fun hf => by have f1 := hf.zr; omega) hE150
    refine aH (aH (aH (aR (aG (aH (aH (aH (aH (aR (aG (aH (aH (aH (aR ?_)))))))))))))); refine aG (aH (aH (aH (aR (aG (aH (aH (aH (aR (aG (aH (aH (aH (aR ?_)))))))))))))); refine aG (aH (aH (aH (aR (aM (aC (aA (aO (br1 ?_)))))))))
    exact nvx (fun hf => by have f1 := hf.two; have f2 := hf.rep4; have f3 := hf.grp; have f4 := hf.leaf; omega) hE150
   refine aH (aH (aH (aH (aH (aH (fO ?_)))))); refine fO ?_; refine fO ?_; refine aH (aQ (aR (aR (aC (aA (cO rfl ?_)))))); refine aU (aA (aE (aB (aF (aD rfl dH) (bG rfl rfl (rfl) bV hB50 rfl fun w154 hB155 hw156 => ?_)))))
   try simp only [cR, Nat.reduceAdd] at hB155
   refine aF (aD rfl dG) (bG rfl rfl (rfl) bV hB155 rfl fun w161 hB162 hw163 => ?_)
   try simp only [cR, Nat.reduceAdd] at hB162
   refine aF (aD rfl eH) (bG rfl rfl (rfl) fS hB162 rfl fun w168 hB169 hw170 => ?_); have hE171 := ((hE46.step hw156 hG18.mem1).step hw163 hG18.mem1).step hw170 hG18.mem1; have hB172 := hw170.blk (hw163.blk (hw156.blk hB47 hA15.nmem1) hA15.nmem1) hA15.nmem1; have hO173 := ((hO48.evo hw156 hA16.own1).evo hw163 hA16.own1).evo hw170 hA16.own1
   try simp only [cR, Nat.reduceAdd] at hB169
   refine aC (aA (aB (aM (aC (aW (aA (aE (aB (aF (aD rfl cH) (aF (aI rfl dB (aJ (hw170.blk (hw163.blk (hw156.blk hB49 hA17.nmem1) hA17.nmem1) hA17.nmem1) rfl)) (aF (bK rfl Tryz.underlying25 rfl) ?_))))))))))); refine aG (aF (bD rfl rfl) ?_); refine aG (aV (t := 91) rfl (fun hs91 => ?_) (fun hs91 => ?_))
   ·refine aQ (aF (aD rfl eR) (aQ (aF (aI rfl cF (aJ hB169 rfl)) (aQ (aF (bD rfl rfl) ?_))))); refine bH (aG (aV (t := 96) rfl (fun hs96 => ?_) (fun hs96 => ?_)))
    ·refine aQ (aF (aD rfl dU) (aQ (aF (aI rfl fB (aJ hB169 rfl)) (aQ (aF (bK rfl Tryz.underlying24 rfl) ?_))))); refine aQ (aF (bD rfl rfl) ?_); refine bH (aG (aV (t := 102) rfl (fun hs102 => ?_) (fun hs102 => ?_)))
     ·refine aQ (aF (aD rfl dH) (aQ (aF (aI rfl aZ (aJ hB169 rfl)) (aQ (aF (bD rfl rfl) ?_))))); refine bH (aG (aV (t := 107) rfl (fun hs107 => ?_) (fun hs107 => ?_)))
      ·refine aQ (aF (aD rfl dG) (aQ (aF (aI rfl aZ (aJ hB169 rfl)) (aQ (aF (bD rfl rfl) ?_))))); refine bH (aG (aV (t := 112) rfl (fun hs112 => ?_) (fun hs112 => ?_)))
       ·refine aQ (aF (aD rfl eH) (aQ (aF (aI rfl dX (aJ hB169 rfl)) (aQ (aF (fF rfl) ?_))))); refine bH (aG (gU (t := 117) rfl (fun hs117 => ?_) (fun hs117 => ?_)))
        ·refine aQ (aF (aD rfl eG) (aQ (aF (aI rfl aZ (aJ hB169 rfl)) (aQ (aF (bD rfl rfl) ?_))))); refine bH (aG (aV (t := 122) rfl (fun hs122 => ?_) (fun hs122 => ?_)))
         ·refine aQ (aF (aD rfl eF) (aQ (aF (aI rfl cJ (aJ hB169 rfl)) (aQ (aF (gQ rfl rfl) ?_))))); refine bH (aM (aC (aA (aO (br1 ?_)))))
          have hlz : x.kind = 6 ∨ x.lazy = false := by first | (left; omega) | (right; simpa using hs117)
          refine ⟨_, rfl, ?_, hE171, fun hb => ?_⟩
          · simp only [decide_eq_true_eq]
            constructor
            · intro hnm
              exact ⟨(eB x).2 (by constructor <;> first | omega | (right; assumption) | (left; omega) | exact hlz | exact .inr hnm | (intro hk; exact hcb.1 (by simpa using hc36)) | (intro hk; exfalso; omega)), by intro hk; exfalso; omega⟩
            · intro hh; obtain ⟨hh, hh2⟩ := hh; have hf := (eB x).1 hh; exact hf.zn.resolve_left (by omega)
          · rw [if_neg (by omega)]; exact ⟨a, c, ob, ⟨hB172, hO173, hne⟩, .inl rfl⟩
         refine aH (aH (aH (aR (aM (aC (aA (aO (br1 ?_))))))))
         exact nvx (fun hf => by have f1 := hf.zc; omega) hE171
        refine aH (aH (aH (aR (aG (aH (aH (aH (aR (aM (aC (aA (aO (br1 ?_)))))))))))))
        exact nvx (fun hf => by first | (rcases hf.zl with h | h; omega; rw [h] at hs117; cases hs117; done) | cases hs117) hE171
       refine aH (aH (aH (aR (aG (aH (aH (aH (aR (aG (aH (aH (aH (aR (aM ?_)))))))))))))); refine aC (aA (aO (br1 ?_)))
       exact nvx (fun hf => by have f1 := hf.zm2; omega) hE171
      refine aH (aH (aH (aR (aG (aH (aH (aH (aR (aG (aH (aH (aH (aR (aG ?_)))))))))))))); refine aH (aH (aH (aR (aM (aC (aA (aO (br1 ?_))))))))
      exact nvx (fun hf => by have f1 := hf.zm1; omega) hE171
     refine aH (aH (aH (aR (aG (aH (aH (aH (aR (aG (aH (aH (aH (aR (aG ?_)))))))))))))); refine aH (aH (aH (aR (aG (aH (aH (aH (aR (aM (aC (aA (aO (br1 ?_)))))))))))))
     exact nvx (fun hf => by have f1 := hf.zg; omega) hE171
    refine aH (aH (aH (aH (aR (aG (aH (aH (aH (aR (aG (aH (aH (aH (aR ?_)))))))))))))); refine aG (aH (aH (aH (aR (aG (aH (aH (aH (aR (aG (aH (aH (aH (aR ?_)))))))))))))); refine aM (aC (aA (aO (br1 ?_))))
    exact nvx (fun hf => by have f1 := hf.zr; omega) hE171
   refine aH (aH (aH (aR (aG (aH (aH (aH (aH (aR (aG (aH (aH (aH (aR ?_)))))))))))))); refine aG (aH (aH (aH (aR (aG (aH (aH (aH (aR (aG (aH (aH (aH (aR ?_)))))))))))))); refine aG (aH (aH (aH (aR (aM (aC (aA (aO (br1 ?_)))))))))
   exact nvx (fun hf => by have f1 := hf.two; have f2 := hf.rep4; have f3 := hf.grp; have f4 := hf.leaf; omega) hE171
  refine aE (aB (aF (bD rfl rfl) ?_)); refine aM (aC (aA (bF rfl (fun hc75 => ?_) (fun hc75 => ?_))))
  ·refine aE (aE (aB (aG (aF (aD rfl eG) (aF (aI rfl aZ (aJ hB49 rfl)) (aF (aD rfl eF) (aF (aI rfl cJ (aJ hB49 rfl)) ?_))))))); have hszc := (hE46).size; have hlt3 := Lt.blk hB49; have hlt5 := Lt.blk hB50; refine aK (vs := [_, _, _]) uP rfl (GD ⟨hB47, hO48, hne⟩ hl bl2) rfl ?_; rintro _ w175 ⟨gb, rfl, hgb, hw176, hgs⟩; have hE177 := hE46.step hw176 (fun y hy => .inl hy); have hB178 := hw176.blk hB49 (AL hA5.symm hA6.symm); refine aF (fF rfl) ?_; refine aC (aA (fW rfl (fun hc83 => ?_) (fun hc83 => ?_)))
   ·refine aE (aB (aM (aC (aA (aO (aN (aX (aN (br1 ?_)))))))))
    exact ⟨false, rfl, by simp only [Bool.false_eq_true, false_iff]; intro hh; obtain ⟨hh, hh2⟩ := hh; have hf := (eB x).1 hh; (rw [hgb.2 (hh2 (by omega))] at hc83; cases hc83), hE177, fun h => by cases h⟩
   obtain ⟨a2, c2, ob2, hJ2, hob2⟩ := hgs (by simpa using hc83); have hgb2 := hgb.1 (by simpa using hc83); have hA3 := fM hA6.symm hlt3 hob2; have hA5 := fM hA16.symm hlt5 hob2; refine aU (aA (aE (aB (aF (aD rfl eG) (bG rfl rfl (rfl) bV (hw176.blk hB50 (AL hA15.symm hA16.symm)) rfl fun w180 hB181 hw182 => ?_)))))
   try simp only [cR, Nat.reduceAdd] at hB181
   refine aF (aD rfl eF) (bG rfl rfl (rfl) kP hB181 rfl fun w187 hB188 hw189 => ?_); have hE190 := (hE177.step hw182 hG18.mem1).step hw189 hG18.mem1; have hB192 := hw189.blk (hw182.blk hJ2.blk hA15.nmem1) hA15.nmem1; have hO193 := (hJ2.own.evo hw182 hA5.symm.own1).evo hw189 hA5.symm.own1
   try simp only [cR, Nat.reduceAdd] at hB188
   refine aC (aA (aB (aM (aC (aW (aA (aE (aB (aF (aD rfl cH) (aF (aI rfl dB (aJ (hw189.blk (hw182.blk hB178 hA17.nmem1) hA17.nmem1) rfl)) (aF (bK rfl Tryz.underlying25 rfl) ?_))))))))))); refine aG (aF (bD rfl rfl) ?_); refine aG (aV (t := 91) rfl (fun hs91 => ?_) (fun hs91 => ?_))
   ·refine aQ (aF (aD rfl eR) (aQ (aF (aI rfl cF (aJ hB188 rfl)) (aQ (aF (bD rfl rfl) ?_))))); refine bH (aG (aV (t := 96) rfl (fun hs96 => ?_) (fun hs96 => ?_)))
    ·refine aQ (aF (aD rfl dU) (aQ (aF (aI rfl fB (aJ hB188 rfl)) (aQ (aF (bK rfl Tryz.underlying24 rfl) ?_))))); refine aQ (aF (bD rfl rfl) ?_); refine bH (aG (aV (t := 102) rfl (fun hs102 => ?_) (fun hs102 => ?_)))
     ·refine aQ (aF (aD rfl dH) (aQ (aF (aI rfl aZ (aJ hB188 rfl)) (aQ (aF (bD rfl rfl) ?_))))); refine bH (aG (aV (t := 107) rfl (fun hs107 => ?_) (fun hs107 => ?_)))
      ·refine aQ (aF (aD rfl dG) (aQ (aF (aI rfl aZ (aJ hB188 rfl)) (aQ (aF (bD rfl rfl) ?_))))); refine bH (aG (aV (t := 112) rfl (fun hs112 => ?_) (fun hs112 => ?_)))
       ·refine aQ (aF (aD rfl eH) (aQ (aF (aI rfl dX (aJ hB188 rfl)) (aQ (aF (fF rfl) ?_))))); refine bH (aG (gU (t := 117) rfl (fun hs117 => ?_) (fun hs117 => ?_)))
        ·refine aQ (aF (aD rfl eG) (aQ (aF (aI rfl aZ (aJ hB188 rfl)) (aQ (aF (bD rfl rfl) ?_))))); refine bH (aG (aV (t := 122) rfl (fun hs122 => ?_) (fun hs122 => ?_)))
         ·refine aQ (aF (aD rfl eF) (aQ (aF (aI rfl cJ (aJ hB188 rfl)) (aQ (aF (gQ rfl rfl) ?_))))); refine bH (aM (aC (aA (aO (br1 ?_))))); have hob3 : ob2 = ob ∨ ∃ g, ob2 = some g ∧ w.heap.size ≤ g := hob2.imp id (fun ⟨g, h1, h2⟩ => ⟨g, h1, Nat.le_trans hszc h2⟩)
          have hlz : x.kind = 6 ∨ x.lazy = false := by first | (left; omega) | (right; simpa using hs117)
          refine ⟨_, rfl, ?_, hE190, fun hb => ?_⟩
          · simp only [decide_eq_true_eq]
            constructor
            · intro hnm
              exact ⟨(eB x).2 (by constructor <;> first | omega | (right; assumption) | (left; omega) | exact hlz | (intro hk; exact hcb.1 (by simpa using hc36)) | (intro hk; exfalso; omega)), by intro _; exact hgb2⟩
            · intro hh; obtain ⟨hh, hh2⟩ := hh; have hf := (eB x).1 hh; trivial
          · rw [if_pos (by omega)]; exact ⟨a2, c2, ob2, ⟨hB192, hO193, hJ2.ne⟩, hob3⟩
         refine aH (aH (aH (aR (aM (aC (aA (aO (br1 ?_))))))))
         exact nvx (fun hf => by have f1 := hf.zc; omega) hE190
        refine aH (aH (aH (aR (aG (aH (aH (aH (aR (aM (aC (aA (aO (br1 ?_)))))))))))))
        exact nvx (fun hf => by first | (rcases hf.zl with h | h; omega; rw [h] at hs117; cases hs117; done) | cases hs117) hE190
       refine aH (aH (aH (aR (aG (aH (aH (aH (aR (aG (aH (aH (aH (aR (aM ?_)))))))))))))); refine aC (aA (aO (br1 ?_)))
       exact nvx (fun hf => by have f1 := hf.zm2; omega) hE190
      refine aH (aH (aH (aR (aG (aH (aH (aH (aR (aG (aH (aH (aH (aR (aG ?_)))))))))))))); refine aH (aH (aH (aR (aM (aC (aA (aO (br1 ?_))))))))
      exact nvx (fun hf => by have f1 := hf.zm1; omega) hE190
     refine aH (aH (aH (aR (aG (aH (aH (aH (aR (aG (aH (aH (aH (aR (aG ?_)))))))))))))); refine aH (aH (aH (aR (aG (aH (aH (aH (aR (aM (aC (aA (aO (br1 ?_)))))))))))))
     exact nvx (fun hf => by have f1 := hf.zg; omega) hE190
    refine aH (aH (aH (aH (aR (aG (aH (aH (aH (aR (aG (aH (aH (aH (aR ?_)))))))))))))); refine aG (aH (aH (aH (aR (aG (aH (aH (aH (aR (aG (aH (aH (aH (aR ?_)))))))))))))); refine aM (aC (aA (aO (br1 ?_))))
    exact nvx (fun hf => by have f1 := hf.zr; omega) hE190
   refine aH (aH (aH (aR (aG (aH (aH (aH (aH (aR (aG (aH (aH (aH (aR ?_)))))))))))))); refine aG (aH (aH (aH (aR (aG (aH (aH (aH (aR (aG (aH (aH (aH (aR ?_)))))))))))))); refine aG (aH (aH (aH (aR (aM (aC (aA (aO (br1 ?_)))))))))
   exact nvx (fun hf => by have f1 := hf.two; have f2 := hf.rep4; have f3 := hf.grp; have f4 := hf.leaf; omega) hE190
  refine aE (aB (aM (aC (aA (aO (aX (aN (br1 ?_))))))))
  exact nvx (fun hf => by have f1 := hf.kind1; have f2 := hf.kind2; omega) hE46
theorem oX : gA Tryz.prog 102 0 = some 0 := by kernel_rfl
theorem oT : eY Tryz.prog 55 := ⟨_, Tryz.func55, by kernel_rfl, by kernel_rfl⟩
theorem HL : eY Tryz.prog 84 := ⟨_, Tryz.func84, by kernel_rfl, by kernel_rfl⟩
theorem vX : eY Tryz.prog 85 := ⟨_, Tryz.func85, by kernel_rfl, by kernel_rfl⟩
def HW (st : St) : Prop := st.2.length ≤ st.1 ∧ st.1 ≤ 8194
theorem RRx.get {n : Nat} {X : List Nat} {w : World} {vs : List Value} {x : Rx} (h : RRx n X w vs x) : ∃ m ra rc ka kc, n = m + 1 ∧ vs = [iv x.kind, .int .i32 x.r, .slice ra x.ranges.length rc, iv x.min, iv x.max, .bool x.lazy, iv x.cap, .string x.name, .slice ka x.kids.length kc] ∧
    RSl 2 RRg X w (.slice ra x.ranges.length rc) x.ranges ∧ RSl 9 (RRx m) X w (.slice ka x.kids.length kc) x.kids ∧ x.ranges.length ≤ 140737488351232 ∧ x.name.size ≤ 140737488351232 ∧ x.kids.length ≤ 140737488351232 := by
  cases n with
  | zero => exact h.elim
  | succ n =>
    obtain ⟨vr, vk, h1, ⟨ra, rc, rfl, h2⟩, ⟨ka, kc, rfl, h3⟩, h4⟩ := h
    exact ⟨n, ra, rc, ka, kc, rfl, h1, ⟨ra, rc, rfl, h2⟩, ⟨ka, kc, rfl, h3⟩, h4⟩
set_option maxHeartbeats 4000000 in
theorem NX {n : Nat} (ih : ∀ (w : World) (jb : Nat) (st : St) (a : Option Addr) (c : Nat) (ob : Option Nat) (vs : List Value) (t : Rx) (b : Int), JAt w 102 jb st a c ob → RRx n (jb :: ob.toList) w vs t → HW st → 0 ≤ b → b ≤ 251 →
      Calls Tryz.prog 55 #[.pointer (some ⟨jb, 0, none⟩), .agg vs.toArray, .int .i64 b] w (Ret fun v w' => ∃ r, v = .bool r ∧ r = (t.fine b st).isSome ∧ Evo (jb :: ob.toList) w w' ∧ ∀ st', t.fine b st = some st' → HW st' ∧ ∃ a' c' ob', JAt w' 102 jb st' a' c' ob' ∧ ∀ g, ob' = some g → g ∈ ob.toList ∨ w.heap.size ≤ g))
    {w : World} {jb : Nat} {st : St} {a : Option Addr} {c : Nat} {ob : Option Nat} {vs : List Value} {t : Rx} {b : Int} (hJ : JAt w 102 jb st a c ob) (hx : RRx (n + 1) (jb :: ob.toList) w vs t) (hst : HW st) (hb0 : 0 ≤ b) (hb1 : b ≤ 251) :
      Calls Tryz.prog 55 #[.pointer (some ⟨jb, 0, none⟩), .agg vs.toArray, .int .i64 b] w (Ret fun v w' => ∃ r, v = .bool r ∧ r = (t.fine b st).isSome ∧ Evo (jb :: ob.toList) w w' ∧ ∀ st', t.fine b st = some st' → HW st' ∧ ∃ a' c' ob', JAt w' 102 jb st' a' c' ob' ∧ ∀ g, ob' = some g → g ∈ ob.toList ∨ w.heap.size ≤ g) := by
  obtain ⟨hB, hO, hne⟩ := hJ
  have hAJN : Apart (some jb) ob := fun g h1 h2 => by cases h1; exact hne jb h2 rfl
  have hlt := eW hB; have hst1 := hst.1; have hst2 := hst.2
  have hXlt : ∀ y, y ∈ jb :: ob.toList → y < w.heap.size := fun y hy => by
    rcases List.mem_cons.1 hy with h | h
    · rw [h]; exact hlt
    · have : ob = some y := by simpa using h
      subst this; exact hO.lt
  have hx0 := hx; obtain ⟨m, ra, rc, ka, kc, hm, rfl, hrg, hk, bl1, bl2, bl3⟩ := hx.get
  obtain rfl : m = n := by omega
  obtain ⟨_, _, hke, hkc, e1⟩ := hk; cases hke; refine bJ (N := 57) Tryz.func55 rfl rfl rfl ?_; refine aE (aB (kS rfl rfl fun b4 w1 hB2 hs3 hw4 => ?_)); have hsz_b4 := hs3; have hA5 := Apart.new (Lt.blk hB) hs3; have hA6 := Apart.new (Lt.own hO) hs3; refine aM (aC (aA (aE (aB (aG (aF (aP rfl) (aF (aD rfl oX) (aF (aI rfl aZ (aJ (hw4.blk0 hB) rfl)) ?_)))))))); refine aF (bC rfl rfl (by omega) (by omega)) ?_; refine aF (aP rfl) (aF (aD rfl oX) (bG rfl rfl (rfl) bV (hw4.blk0 hB) rfl fun w11 hB12 hw13 => ?_))
  have hE14 := ((Evo.refl (jb :: ob.toList) w).then hw4).step hw13 (fun y hy => .inl (by rw [List.mem_singleton.1 hy]; exact List.mem_cons_self ..))
  have hB16 := hw13.blk hB2 hA5.symm.nmem1
  try simp only [cR, Nat.reduceAdd] at hB12
  refine aC (aA (aE (JL (α := Int) (fun z => [(2, .int .i64 z)]) [(0, _), (4, _), (6, _)] (fun z wr => Evo [] w11 wr ∧ (z = if t.kind = 7 then b + 1 else b)) ⟨rfl, rfl, rfl, trivial⟩ ?_ ?_)))
  ·refine aE (aB (aF (aD rfl eS) (aF (aI rfl aZ (aJ hB16 rfl)) (aF (bD rfl rfl) ?_)))); refine aC (aA (bF rfl (fun hc19 => ?_) (fun hc19 => ?_)))
   ·refine aB (aG ?_); refine aF (bC rfl rfl (by omega) (by omega)) ?_; refine aM (aC (bY ?_)); refine ⟨(b + 1), ⟨rfl, trivial⟩, ⟨rfl, rfl, rfl, trivial⟩, (Evo.refl [] w11), ?_⟩; rw [if_pos (by assumption)]
   refine aU (bY ?_); refine ⟨b, ⟨rfl, trivial⟩, ⟨rfl, rfl, rfl, trivial⟩, (Evo.refl [] w11), ?_⟩; rw [if_neg (by assumption)]
  rintro z w17 ⟨hV18, hz⟩; refine aA ?_; show CW _ _ _ _ [(2, _), (0, _), (4, _), (6, _)] _; have hE19 := hE14.then hV18; have hB22 := hV18.blk0 hB16; refine aE (aE (aB (aG (aF (aP rfl) (aF (aD rfl oX) (aF (aI rfl aZ (aJ (hV18.blk0 hB12) rfl)) (aF (gL rfl rfl) ?_))))))); refine aG (aV (t := 27) rfl (fun hs27 => ?_) (fun hs27 => ?_))
  ·refine aH (aH (bH (aG (aH (aH ?_))))); have hlt4 := Lt.blk hB22; have hszc := (hE19).size; refine aH (aH (bH (aC (aA (cV rfl ?_))))); refine aE (aB (aM (aC (aA (aO (aN (br1 ?_)))))))
   have hno := tQ (x := t) (b := b) (st := st) (fun h => by have := h.1; omega)
   exact ⟨false, rfl, by rw [hno]; rfl, hE19, fun st' h => by rw [hno] at h; cases h⟩
  refine aQ (aG (aQ (aF (gL rfl rfl) ?_))); refine aR (aG (aV (t := 31) rfl (fun hs31 => ?_) (fun hs31 => ?_)))
  ·refine aH (aH ?_); have hlt4 := Lt.blk hB22; have hszc := (hE19).size; refine aH (aH (bH (aC (aA (cV rfl ?_))))); refine aE (aB (aM (aC (aA (aO (aN (br1 ?_)))))))
   have hno := tQ (x := t) (b := b) (st := st) (fun h => by have := h.2.1; rw [← hz] at this; omega)
   exact ⟨false, rfl, by rw [hno]; rfl, hE19, fun st' h => by rw [hno] at h; cases h⟩
  refine aQ (aG (aQ (aF (bX rfl bQ aY hB22 rfl) ?_))); have hlt4 := Lt.blk hB22; have hszc := (hE19).size; refine aQ ?_
  refine aK (vs := [_, _]) HL rfl (NY (st := (st.1 + 1, st.2)) ⟨(hV18.blk0 hB12), (((hO.evo0 hw4).evo hw13 hAJN.symm.own1).evo0 hV18), hne⟩ (RRx.pers _ _ _ _ _ _ hE19 hx0) (by simp only; omega)) rfl ?_
  rintro _ w23 ⟨fb, rfl, hfb, hw24, hfs⟩; have hE25 := hE19.step hw24 (fun y hy => .inl hy); have hB26 := hw24.blk hB22 (AL hA5.symm hA6.symm); refine aQ (aF (fF rfl) ?_); refine aR (aC (aA (fW rfl (fun hc36 => ?_) (fun hc36 => ?_))))
  ·refine aE (aB (aM (aC (aA (aO (aN (br1 ?_)))))))
   have hno := tQ (x := t) (b := b) (st := st) (fun h => by have := hfb.2 ⟨h.2.2.1, h.2.2.2⟩; rw [this] at hc36; cases hc36)
   exact ⟨false, rfl, by rw [hno]; rfl, hE25, fun st' h => by rw [hno] at h; cases h⟩
  obtain ⟨a2, c2, ob2, hJ2, hob2⟩ := hfs (by simpa using hc36); have hfb2 := hfb.1 (by simpa using hc36); have hA4 := fM hA6.symm hlt4 hob2
  have hfin0 := mA (x := t) (b := b) (st := st) ⟨by omega, by rw [← hz]; omega, hfb2.1, hfb2.2⟩
  have hst9 : HW (st.1 + 1, if t.kind = 7 then st.2 ++ [t.name] else st.2) := ⟨by show (if t.kind = 7 then st.2 ++ [t.name] else st.2).length ≤ st.1 + 1; split; (rw [List.length_append]; simp; omega); omega, by show st.1 + 1 ≤ 8194; omega⟩
  have hg9 : ∀ g, ob2 = some g → g ∈ ob.toList ∨ w.heap.size ≤ g := fun g hg => by rcases hob2 with h | ⟨g', h1, h2⟩; left; rw [← h, hg]; simp; right; rw [hg] at h1; cases h1; exact Nat.le_trans hszc h2
  refine aU (aA (aE (aE (aB (aF (aD rfl cH) (aF (aI rfl dB (aJ hB26 rfl)) (aF (bK rfl Tryz.underlying25 rfl) ?_))))))); refine aG (aC (aA (bR ?_)))
  refine eV (α := Nat × St × Option Addr × Nat × Option Nat) ((0, (st.1 + 1, if t.kind = 7 then st.2 ++ [t.name] else st.2), a2, c2, ob2)) (fun x => [(40, .int .i64 (x.1 : Nat))]) [(0, _), (2, _), (4, _), (38, _), (39, _)] (fun x wr => Evo (jb :: ob.toList) w wr ∧ (x.1 ≤ t.kids.length ∧ HW x.2.1 ∧ JAt wr 102 jb x.2.1 x.2.2.1 x.2.2.2.1 x.2.2.2.2 ∧ t.fine b st = eI (t.kids.drop x.1) t.kind z x.2.1 ∧ (∀ g, x.2.2.2.2 = some g → g ∈ ob.toList ∨ w.heap.size ≤ g) ∧ wr.heap[b4]? = some (.cells #[iv t.kind, .int .i32 t.r, .slice ra t.ranges.length rc, iv t.min, iv t.max, .bool t.lazy, iv t.cap, .string t.name, .slice ka t.kids.length kc] 27 (0, 0)) ∧ b4 ∉ jb :: x.2.2.2.2.toList)) (fun x => t.kids.length - x.1) ⟨rfl, trivial⟩ ⟨rfl, rfl, rfl, rfl, rfl, trivial⟩ ⟨hE25, ⟨Nat.zero_le _, hst9, ⟨hJ2.blk, hJ2.own, hJ2.ne⟩, by rw [hfin0, ← hz]; rfl, hg9, hB26, AL hA5.symm hA4⟩⟩ ?_
  rintro ⟨j, s, a', c', o'⟩ wr27 ⟨hV28, ⟨hj, hsok, ⟨hB', hO', hne'⟩, hfin, hgo, hB4, hb4o⟩⟩; show CW _ _ _ _ [(40, .int .i64 (j : Nat)), (0, _), (2, _), (4, _), (38, _), (39, _)] _
  try dsimp only at hj
  try dsimp only at hsok
  try dsimp only at hB'
  try dsimp only at hO'
  try dsimp only at hne'
  try dsimp only at hfin
  try dsimp only at hgo
  try dsimp only at hB4
  try dsimp only at hb4o
  have hAJN' : Apart (some jb) o' := fun g h1 h2 => by cases h1; exact hne' jb h2 rfl
  have hA4J : Apart (some b4) (some jb) := fun g h1 h2 => by cases h1; cases h2; exact hb4o (by simp)
  have hA4N : Apart (some b4) o' := fun g h1 h2 => by cases h1; exact hb4o (by simp [h2])
  have hyo : ∀ y, y ∈ jb :: o'.toList → y ∈ jb :: ob.toList ∨ w.heap.size ≤ y := fun y hy => by rcases List.mem_cons.1 hy with h | h; left; rw [h]; simp; rcases hgo y (by simpa using h) with h1 | h1; left; exact List.mem_cons_of_mem _ h1; exact .inr h1
  skip
  refine aE (aB (aF (dF rfl rfl) ?_)); refine aC (aA (aE (bF rfl (fun hc41 => ?_) (fun hc41 => ?_))))
  ·have hj' : j < t.kids.length := by omega
   obtain ⟨b1, o1, vs1, ha1, hb1, hvl1, hc1, hrk⟩ := e1 j hj'; obtain ⟨m1, ra1, rc1, ka1, kc1, rfl, rfl, -⟩ := id hrk.get; refine aU (aA (aE (bR (aE (aB ?_)))))
   refine aF (gF (n := j) (by rw [ha1]; rfl) rfl dT (by omega)) ?_
   refine aF (eJ rfl bQ aY (vs := [_, _, _, _, _, _, _, _, _]) rfl (hc1.evo hV28 hb1)) ?_; refine dA rfl dS fun b8 w29 hB30 hs31 hw32 => ?_; have hsz_b8 := hs31; refine bI rfl rfl aY hB30 rfl rfl ⟨rfl, rfl, rfl, rfl, rfl, rfl, rfl, rfl, rfl, trivial⟩ fun w41 hB42 hw43 => ?_; have hB47 := hw43.blk (hw32.blk0 hB4) (Apart.new (Lt.blk hB4) hs31).nmem1
   try simp only [cR, Nat.reduceAdd] at hB42
   refine aC (aA (aE (aB (aM (aC (aA (aE (aE (aB (aF (aD rfl eS) (aF (aI rfl aZ (aJ hB42 rfl)) (aF (aD rfl eS) (aF (aI rfl aZ (aJ hB47 rfl)) (aK (vs := [_, _]) vX rfl (tW t.kids[j].kind t.kind) rfl ?_)))))))))))))); rintro _ w48 ⟨rfl, hw49⟩; have hE50 := ((hV28.then hw32).step hw43 (Ge.new hV28 hs31).mem1).then hw49; have hB51 := hw49.blk0 (hw43.blk (hw32.blk0 hB') (Apart.new (Lt.blk hB') hs31).nmem1); have hO52 := ((hO'.evo0 hw32).evo hw43 (Apart.new (Lt.own hO') hs31).own1).evo0 hw49; have hB53 := hw49.blk0 hB47; refine aC (aA (bF rfl (fun hc48 => ?_) (fun hc48 => ?_)))
   ·refine aB (aM (aC (aA (aE (aB (aG (aF (bX rfl bQ aY (hw49.blk0 hB42) rfl) (aG (aG ?_))))))))); refine aF (bC rfl rfl (by omega) (by omega)) ?_; have hsz54 := (hE50).size; have hlb4 := eW hB53; refine aK (vs := [_, _, _]) oT rfl (ih _ jb s a' c' o' _ t.kids[j] _ ⟨hB51, hO52, hne'⟩ (RRx.step hrk hE50 hyo hXlt) hsok (by omega) (by omega)) rfl ?_; rintro _ w55 ⟨r, rfl, hr, hw56, hs2⟩; have hE57 := hE50.step hw56 (hyo); have hB58 := hw56.blk hB53 (hb4o); refine aF (fF rfl) ?_; refine aC (aA (fW rfl (fun hc55 => ?_) (fun hc55 => ?_)))
    ·refine aE (aB (aM (aC (aA (aO (aX (aN (aN (aX (aN (br1 ?_))))))))))); rw [show (z + 1 : Int) = z + (if Brk t.kids[j].kind t.kind then 1 else 0) from by rw [if_pos hc48]] at hr hs2
     have hn : t.kids[j].fine (z + if Brk t.kids[j].kind t.kind then 1 else 0) s = none := by
       cases h : t.kids[j].fine (z + if Brk t.kids[j].kind t.kind then 1 else 0) s with
       | none => rfl
       | some s3 => rw [h] at hr; simp at hr; rw [hr] at hc55; cases hc55
     have hno : t.fine b st = none := by rw [hfin, oP hj', hn]
     exact ⟨false, rfl, by rw [hno]; rfl, hE57, fun st' h => by rw [hno] at h; cases h⟩
    rw [show (z + 1 : Int) = z + (if Brk t.kids[j].kind t.kind then 1 else 0) from by rw [if_pos hc48]] at hr hs2
    obtain ⟨s3, hs3⟩ := Option.isSome_iff_exists.1 (show (t.kids[j].fine _ s).isSome = true by rw [← hr]; simpa using hc55)
    obtain ⟨hsok3, a3, c3, o3, hJ3, ho3⟩ := hs2 s3 hs3
    have hg3 : ∀ g, o3 = some g → g ∈ ob.toList ∨ w.heap.size ≤ g := fun g hg => by rcases ho3 g hg with h | h; exact hgo g (by simpa using h); exact .inr (Nat.le_trans hsz54 h)
    have hb43 : b4 ∉ jb :: o3.toList := fun hm => by rcases List.mem_cons.1 hm with h | h; exact hb4o (by rw [h]; simp); rcases ho3 b4 (by simpa using h) with h1 | h1; exact hb4o (List.mem_cons_of_mem _ h1); omega
    refine aU (aW (aA (aB ?_))); refine aF (bC rfl rfl (by omega) (by omega)) ?_; refine aG (aC (bY ?_)); refine ⟨(j + 1, s3, a3, c3, o3), ?_, ⟨rfl, trivial⟩, ⟨rfl, rfl, rfl, rfl, rfl, trivial⟩, hE57, ?_⟩
    · (try dsimp only); omega
    try dsimp only
    refine ⟨by omega, hsok3, ⟨hJ3.blk, hJ3.own, hJ3.ne⟩, ?_, hg3, hB58, hb43⟩; rw [hfin, oP hj', hs3]
   refine aU (aA (aE (aB (aG (aF (bX rfl bQ aY (hw49.blk0 hB42) rfl) (aG (aG ?_))))))); refine aF (bC rfl rfl (by omega) (by omega)) ?_; have hsz54 := (hE50).size; have hlb4 := eW hB53; refine aK (vs := [_, _, _]) oT rfl (ih _ jb s a' c' o' _ t.kids[j] _ ⟨hB51, hO52, hne'⟩ (RRx.step hrk hE50 hyo hXlt) hsok (by omega) (by omega)) rfl ?_; rintro _ w60 ⟨r, rfl, hr, hw61, hs2⟩; have hE62 := hE50.step hw61 (hyo); have hB63 := hw61.blk hB53 (hb4o); refine aF (fF rfl) ?_; refine aC (aA (fW rfl (fun hc55 => ?_) (fun hc55 => ?_)))
   ·refine aE (aB (aM (aC (aA (aO (aX (aN (aN (aX (aN (br1 ?_))))))))))); rw [show (z + 0 : Int) = z + (if Brk t.kids[j].kind t.kind then 1 else 0) from by rw [if_neg hc48]] at hr hs2
    have hn : t.kids[j].fine (z + if Brk t.kids[j].kind t.kind then 1 else 0) s = none := by
      cases h : t.kids[j].fine (z + if Brk t.kids[j].kind t.kind then 1 else 0) s with
      | none => rfl
      | some s3 => rw [h] at hr; simp at hr; rw [hr] at hc55; cases hc55
    have hno : t.fine b st = none := by rw [hfin, oP hj', hn]
    exact ⟨false, rfl, by rw [hno]; rfl, hE62, fun st' h => by rw [hno] at h; cases h⟩
   rw [show (z + 0 : Int) = z + (if Brk t.kids[j].kind t.kind then 1 else 0) from by rw [if_neg hc48]] at hr hs2
   obtain ⟨s3, hs3⟩ := Option.isSome_iff_exists.1 (show (t.kids[j].fine _ s).isSome = true by rw [← hr]; simpa using hc55)
   obtain ⟨hsok3, a3, c3, o3, hJ3, ho3⟩ := hs2 s3 hs3
   have hg3 : ∀ g, o3 = some g → g ∈ ob.toList ∨ w.heap.size ≤ g := fun g hg => by rcases ho3 g hg with h | h; exact hgo g (by simpa using h); exact .inr (Nat.le_trans hsz54 h)
   have hb43 : b4 ∉ jb :: o3.toList := fun hm => by rcases List.mem_cons.1 hm with h | h; exact hb4o (by rw [h]; simp); rcases ho3 b4 (by simpa using h) with h1 | h1; exact hb4o (List.mem_cons_of_mem _ h1); omega
   refine aU (aW (aA (aB ?_))); refine aF (bC rfl rfl (by omega) (by omega)) ?_; refine aG (aC (bY ?_)); refine ⟨(j + 1, s3, a3, c3, o3), ?_, ⟨rfl, trivial⟩, ⟨rfl, rfl, rfl, rfl, rfl, trivial⟩, hE62, ?_⟩
   · (try dsimp only); omega
   try dsimp only
   refine ⟨by omega, hsok3, ⟨hJ3.blk, hJ3.own, hJ3.ne⟩, ?_, hg3, hB63, hb43⟩; rw [hfin, oP hj', hs3]
  refine dO (cD (cD (dN (aA ?_)))); refine aE (aB (aM (aC (aA (aO (br1 ?_))))))
  have hn : t.fine b st = some s := by rw [hfin, CP (by omega)]
  exact ⟨true, rfl, by rw [hn]; rfl, hV28, fun st' h => by rw [hn] at h; cases h; exact ⟨hsok, a', c', o', ⟨hB', hO', hne'⟩, hgo⟩⟩
theorem uA : oJ Tryz.prog 102 = some #[.int .i64 0, .slice none 0 0] := by kernel_rfl
theorem CO : ∀ {n : Nat} {w : World} {jb : Nat} {st : St} {a : Option Addr} {c : Nat} {ob : Option Nat} {vs : List Value} {t : Rx} {b : Int}, JAt w 102 jb st a c ob → RRx n (jb :: ob.toList) w vs t → HW st → 0 ≤ b → b ≤ 251 →
      Calls Tryz.prog 55 #[.pointer (some ⟨jb, 0, none⟩), .agg vs.toArray, .int .i64 b] w (Ret fun v w' => ∃ r, v = .bool r ∧ r = (t.fine b st).isSome ∧ Evo (jb :: ob.toList) w w' ∧ ∀ st', t.fine b st = some st' → HW st' ∧ ∃ a' c' ob', JAt w' 102 jb st' a' c' ob' ∧ ∀ g, ob' = some g → g ∈ ob.toList ∨ w.heap.size ≤ g)
  | 0, w, jb, st, a, c, ob, vs, t, b, hJ, hx, hs, h0, h1 => hx.elim
  | n + 1, w, jb, st, a, c, ob, vs, t, b, hJ, hx, hs, h0, h1 => NX (n := n) (fun w jb st a c ob vs t b hJ hx hs h0 h1 => CO hJ hx hs h0 h1) hJ hx hs h0 h1
theorem JAt.new {w : World} {jb : Nat} {T : TypeId} (h : w.heap[jb]? = some (.cells #[iv 0, .slice none 0 0] T (0, 0))) : JAt w T jb (0, []) none 0 none := ⟨h, OwnS.nil _ _ _, fun g hg => by cases hg⟩
theorem xH {n : Nat} {w : World} {vs : List Value} {t : Rx} (hx : RRx n [] w vs t) :
    Calls Tryz.prog 24 #[.agg vs.toArray] w (Ret fun v w' => ∃ r, v = .bool r ∧ (r = true ↔ t.Ok) ∧ Evo [] w w') := by
  have hx0 := hx; obtain ⟨m, ra, rc, ka, kc, hm, rfl, hrg, hk, bl1, bl2, bl3⟩ := hx.get; refine bJ (N := 6) Tryz.func24 rfl rfl rfl ?_; refine aE (aB (kS rfl rfl fun b1 w2 hB3 hs4 hw5 => ?_)); have hE7 := (Evo.refl [] w).then hw5; refine aM (aC (aA (aE (aB (dA rfl uA fun jb w8 hB9 hs10 hw11 => ?_))))); have hsz_jb := hs10; refine aF (bX rfl bQ aY (hw11.blk0 hB3) rfl) ?_; refine aK (vs := [_, _, _]) oT rfl (CO (st := (0, [])) (JAt.new hB9) (RRx.step hx0 (hE7.then hw11) (Ge.new hE7 hs10).mem1 (fun b hb => by cases hb)) ⟨Nat.le_refl _, by decide⟩ (by decide) (by decide)) rfl ?_; rintro _ w16 ⟨r, rfl, hr, hw17, -⟩; refine aM (aC (aA (aO (br1 ?_))))
  exact ⟨r, rfl, by rw [hr, Option.isSome_iff_exists]; rfl, ((hE7.then hw11).step hw17 ((Ge.new hE7 hs10).mem1))⟩
end Go.Proofs.YtljadkcojnlioaaGreatDoor
namespace Go.Proofs.YtljadkcojnlioaaGreatDoor
open Go.RowKit Go.Shelf Go.W
attribute [local irreducible] Decidable.decide
theorem mR : oG Tryz.prog 78 = some false := by kernel_rfl
def bren : Go.Shelf.Ren := ⟨fun | 240 => 70 | 276 => 98 | 169 => 43 | n => n, fun | 0 => 0 | 3 => 3 | 4 => 4 | 5 => 5 | 9 => 9 | 20 => 20 | 37 => 78 | 70 => 77 | 72 => 80 | 127 => 121 | 164 => 142 | n => n, fun | n => n⟩
theorem LK : Go.Proofs.Lays.n240 Tryz.prog bren := {
  mixed := by kernel_rfl
  f240 := Tryz.func70.trans (congrArg some (by kernel_rfl))
  f276 := Tryz.func98.trans (congrArg some (by kernel_rfl))
  t0 := Tryz.underlying0
  a0 := Tryz.isAgg0
  z0 := Tryz.sizeOf0
  v0 := Tryz.zeroValue0
  t4 := Tryz.underlying4
  a4 := Tryz.isAgg4
  z4 := Tryz.sizeOf4
  v4 := Tryz.zeroValue4
  t9 := Tryz.underlying9
  a9 := Tryz.isAgg9
  z9 := Tryz.sizeOf9
  v9 := Tryz.zeroValue9
  t20 := Tryz.underlying20
  a20 := Tryz.isAgg20
  z20 := Tryz.sizeOf20
  v20 := Tryz.zeroValue20
  t70 := Tryz.underlying77
  a70 := Tryz.isAgg77
  z70 := Tryz.sizeOf77
  v70 := Tryz.zeroValue77
  t72 := Tryz.underlying80
  a72 := Tryz.isAgg80
  z72 := Tryz.sizeOf80
  v72 := Tryz.zeroValue80
  t164 := Tryz.underlying142
  a164 := Tryz.isAgg142
  z164 := Tryz.sizeOf142
  v164 := Tryz.zeroValue142 }
theorem lays169 : Go.Proofs.Lays.n169 Tryz.prog bren := {
  mixed := by kernel_rfl
  f169 := Tryz.func43.trans (congrArg some (by kernel_rfl))
  t0 := Tryz.underlying0
  a0 := Tryz.isAgg0
  z0 := Tryz.sizeOf0
  v0 := Tryz.zeroValue0
  t3 := Tryz.underlying3
  a3 := Tryz.isAgg3
  z3 := Tryz.sizeOf3
  v3 := Tryz.zeroValue3
  t9 := Tryz.underlying9
  a9 := Tryz.isAgg9
  z9 := Tryz.sizeOf9
  v9 := Tryz.zeroValue9
  t37 := Tryz.underlying78
  a37 := Tryz.isAgg78
  z37 := Tryz.sizeOf78
  v37 := Tryz.zeroValue78
  t70 := Tryz.underlying77
  a70 := Tryz.isAgg77
  z70 := Tryz.sizeOf77
  v70 := Tryz.zeroValue77
  t72 := Tryz.underlying80
  a72 := Tryz.isAgg80
  z72 := Tryz.sizeOf80
  v72 := Tryz.zeroValue80
  t127 := Tryz.underlying121
  a127 := Tryz.isAgg121
  z127 := Tryz.sizeOf121
  v127 := Tryz.zeroValue121 }
theorem bextra : Builder.Extra Tryz.prog bren := {
  sizeBuilder := by kernel_rfl
  liesBuilder := by kernel_rfl
  t5 := Tryz.underlying5
  a5 := Tryz.isAgg5
  z5 := Tryz.sizeOf5
  v5 := Tryz.zeroValue5
  infoByte := by kernel_rfl
  cellsByte := by kernel_rfl
  sizeByte := by kernel_rfl
  neB5 := by decide }
theorem qE {w : World} {b : Nat} {p v : Value} (hb : w.heap[b]? = some (.cells #[p, v] 80 (0, 0))) (hp : p = .pointer none ∨ p = .pointer (some ⟨b, 0, none⟩)) :
    Calls Tryz.prog 70 #[.pointer (some ⟨b, 0, none⟩)] w (Ret fun r w' => r = .tuple #[] ∧ w'.heap[b]? = some (.cells #[.pointer (some ⟨b, 0, none⟩), v] 80 (0, 0)) ∧ Evo [b] w w') := by
  have h0 : w.cell? ⟨b, 0, none⟩ = some p := by simp [World.cell?, hb]
  rcases hp with rfl | rfl
  · refine (Any.Builder_copyCheck_fresh LK bextra.toX72 b w h0 (by simp [World.shape?, hb]; rfl) (by simp [World.frozen?, hb])).mono ?_
    rintro e w' ⟨rfl, rfl⟩
    exact ⟨_, rfl, rfl, by simp [World.setCell, Array.getElem?_modify, hb], vT w ⟨b, 0, none⟩ _⟩
  · refine (Any.Builder_copyCheck_used LK bextra.toX72 b w h0).mono ?_
    rintro e w' ⟨rfl, rfl⟩
    exact ⟨_, rfl, rfl, hb, Evo.refl _ _⟩
end Go.Proofs.YtljadkcojnlioaaGreatDoor
namespace Go.Proofs.YtljadkcojnlioaaGreatDoor
open Go.Lib Go.W
def IsR (n : Int) : Prop := 0 ≤ n ∧ n ≤ 1114111 ∧ (n < 55296 ∨ 57343 < n)
instance (n : Int) : Decidable (IsR n) := by unfold IsR; infer_instance
def jL (m : Nat) : List Nat :=
  if m < 128 then [m] else if m < 2048 then [192 + m / 64, 128 + m % 64] else if m < 65536 then [224 + m / 4096, 128 + m / 64 % 64, 128 + m % 64]
  else [240 + m / 262144, 128 + m / 4096 % 64, 128 + m / 64 % 64, 128 + m % 64]
def dW (n : Int) : List Nat := if IsR n then jL n.toNat else []
theorem tP (n : Int) : ∀ b, b ∈ dW n → b < 256 := by
  unfold dW
  split
  · rename_i h
    unfold IsR at h
    unfold jL
    repeat' split
    all_goals (intro b hb; simp at hb; omega)
  · intro b hb; cases hb
theorem rY (n : Int) : (dW n).length ≤ 4 := by
  unfold dW jL
  repeat' split
  all_goals simp
def dY (s : ByteArray) (a w : Nat) : Int :=
  if w = 1 then (sb s a : Int) else if w = 2 then ((sb s a : Int) - 192) * 64 + sb s (a + 1) - 128
  else if w = 3 then (((sb s a : Int) - 224) * 64 + sb s (a + 1) - 128) * 64 + sb s (a + 2) - 128
  else ((((sb s a : Int) - 240) * 64 + sb s (a + 1) - 128) * 64 + sb s (a + 2) - 128) * 64 + sb s (a + 3) - 128
def gH (s : ByteArray) (a w : Nat) : List Nat := (List.range w).map fun k => sb s (a + k)
theorem yT (s : ByteArray) (a w : Nat) : ∀ b, b ∈ gH s a w → b < 256 := by
  intro b hb
  simp only [gH, List.mem_map] at hb
  obtain ⟨k, _, rfl⟩ := hb
  exact jM _ _
theorem sN (s : ByteArray) (a w : Nat) (h : a + w ≤ s.size) : s.extract a (a + w) = bstr (gH s a w) := by
  apply ByteArray.ext
  apply Array.ext
  · have e1 : (s.extract a (a + w)).data.size = w := by have := s.size_extract (b := a) (e := a + w); rw [ByteArray.size] at this; omega
    rw [e1]; simp [bstr, gH]
  · intro i h1 h2
    simp only [bstr, gH, List.map_map, List.getElem_toArray, List.getElem_map, List.getElem_range, Function.comp_def, ByteArray.data_extract, Array.getElem_extract]
    have h3 : a + i < s.size := by simp [bstr, gH] at h2; omega
    apply UInt8.toNat_inj.1
    have := jM s (a + i)
    rw [UInt8.toNat_ofNat_of_lt' (by simpa using this), qR s _ h3]
    rfl
def Hit (s : ByteArray) (a w : Nat) : Prop := dW (dY s a w) = gH s a w
theorem CI {s : ByteArray} {a w : Nat} (h : Hit s a w) : (dW (dY s a w)).length = w := by rw [h]; simp [gH]
theorem SG {s : ByteArray} {a w : Nat} (h : a + w ≤ s.size) : Hit s a w ↔ s.extract a (a + w) = bstr (dW (dY s a w)) := by
  rw [sN s a w h, yU (yT s a w) (tP _)]
  exact ⟨fun h => h.symm, fun h => h.symm⟩
section
variable {b0 b1 b2 b3 : Nat}
theorem form1 (h0 : b0 < 256) : dW (b0 : Int) = [b0] ↔ b0 < 128 := by
  unfold dW jL
  constructor
  · intro h
    repeat' split at h
    all_goals simp at h
    all_goals omega
  · intro h
    rw [if_pos (by unfold IsR; omega), if_pos (by omega)]; simp
theorem form2 (h0 : b0 < 256) (h1 : b1 < 256) : dW (((b0 : Int) - 192) * 64 + b1 - 128) = [b0, b1] ↔ (b0 / 32 = 6 ∧ b1 / 64 = 2 ∧ 128 ≤ b0 % 32 * 64 + b1 % 64) := by
  unfold dW jL
  constructor
  · intro h
    repeat' split at h
    all_goals simp at h
    all_goals unfold IsR at *
    all_goals omega
  · intro h
    rw [if_pos (by unfold IsR; omega), if_neg (by omega), if_pos (by omega)]; simp; omega
theorem form3 (h0 : b0 < 256) (h1 : b1 < 256) (h2 : b2 < 256) : dW ((((b0 : Int) - 224) * 64 + b1 - 128) * 64 + b2 - 128) = [b0, b1, b2] ↔
    (b0 / 16 = 14 ∧ b1 / 64 = 2 ∧ b2 / 64 = 2 ∧ 2048 ≤ b0 % 16 * 4096 + b1 % 64 * 64 + b2 % 64 ∧ (b0 % 16 * 4096 + b1 % 64 * 64 + b2 % 64 < 55296 ∨ 57343 < b0 % 16 * 4096 + b1 % 64 * 64 + b2 % 64)) := by
  unfold dW jL
  constructor
  · intro h
    repeat' split at h
    all_goals simp at h
    all_goals unfold IsR at *
    all_goals omega
  · intro h
    rw [if_pos (by unfold IsR; omega), if_neg (by omega), if_neg (by omega), if_pos (by omega)]; simp; omega
theorem form4 (h0 : b0 < 256) (h1 : b1 < 256) (h2 : b2 < 256) (h3 : b3 < 256) : dW (((((b0 : Int) - 240) * 64 + b1 - 128) * 64 + b2 - 128) * 64 + b3 - 128) = [b0, b1, b2, b3] ↔
    (b0 / 8 = 30 ∧ b1 / 64 = 2 ∧ b2 / 64 = 2 ∧ b3 / 64 = 2 ∧ 65536 ≤ b0 % 8 * 262144 + b1 % 64 * 4096 + b2 % 64 * 64 + b3 % 64 ∧ b0 % 8 * 262144 + b1 % 64 * 4096 + b2 % 64 * 64 + b3 % 64 ≤ 1114111) := by
  unfold dW jL
  constructor
  · intro h
    repeat' split at h
    all_goals simp at h
    all_goals unfold IsR at *
    all_goals omega
  · intro h
    rw [if_pos (by unfold IsR; omega), if_neg (by omega), if_neg (by omega), if_neg (by omega)]; simp; omega
end
theorem hit1 (s : ByteArray) (a : Nat) : Hit s a 1 ↔ sb s a < 128 := by
  have := form1 (jM s a)
  simpa [Hit, dY, gH] using this
theorem hit2 (s : ByteArray) (a : Nat) : Hit s a 2 ↔ (sb s a / 32 = 6 ∧ sb s (a + 1) / 64 = 2 ∧ 128 ≤ sb s a % 32 * 64 + sb s (a + 1) % 64) := by
  have := form2 (jM s a) (jM s (a + 1))
  simpa [Hit, dY, gH, List.range_succ] using this
theorem hit3 (s : ByteArray) (a : Nat) : Hit s a 3 ↔ (sb s a / 16 = 14 ∧ sb s (a + 1) / 64 = 2 ∧ sb s (a + 2) / 64 = 2 ∧ 2048 ≤ sb s a % 16 * 4096 + sb s (a + 1) % 64 * 64 + sb s (a + 2) % 64 ∧ (sb s a % 16 * 4096 + sb s (a + 1) % 64 * 64 + sb s (a + 2) % 64 < 55296 ∨ 57343 < sb s a % 16 * 4096 + sb s (a + 1) % 64 * 64 + sb s (a + 2) % 64)) := by
  have := form3 (jM s a) (jM s (a + 1)) (jM s (a + 2))
  simpa [Hit, dY, gH, List.range_succ] using this
theorem hit4 (s : ByteArray) (a : Nat) : Hit s a 4 ↔ (sb s a / 8 = 30 ∧ sb s (a + 1) / 64 = 2 ∧ sb s (a + 2) / 64 = 2 ∧ sb s (a + 3) / 64 = 2 ∧ 65536 ≤ sb s a % 8 * 262144 + sb s (a + 1) % 64 * 4096 + sb s (a + 2) % 64 * 64 + sb s (a + 3) % 64 ∧ sb s a % 8 * 262144 + sb s (a + 1) % 64 * 4096 + sb s (a + 2) % 64 * 64 + sb s (a + 3) % 64 ≤ 1114111) := by
  have := form4 (jM s a) (jM s (a + 1)) (jM s (a + 2)) (jM s (a + 3))
  simpa [Hit, dY, gH, List.range_succ] using this
theorem vE (s : ByteArray) (i : Nat) : Utf8.decode s i = decodeN (s.size - i) (sb s i) (sb s (i + 1)) (sb s (i + 2)) (sb s (i + 3)) := decode_at s i
theorem gG (s : ByteArray) (a : Nat) (ha : a < s.size) :
    (∃ w, 1 ≤ w ∧ w ≤ 4 ∧ a + w ≤ s.size ∧ Hit s a w ∧ Utf8.decode s a = ((dY s a w).toNat, w) ∧ 0 ≤ dY s a w ∧ (dY s a w ≤ 1114111) ∧ ∀ w', Hit s a w' → 1 ≤ w' → w' ≤ 4 → w' = w) ∨
    ((∀ w, 1 ≤ w → w ≤ 4 → a + w ≤ s.size → ¬ Hit s a w) ∧ Utf8.decode s a = (65533, 1)) := by
  have h0 := jM s a
  have h1 := jM s (a + 1)
  have h2 := jM s (a + 2)
  have h3 := jM s (a + 3)
  have k1 := hit1 s a
  have k2 := hit2 s a
  have k3 := hit3 s a
  have k4 := hit4 s a
  have all : ∀ {p : Nat → Prop}, p 1 → p 2 → p 3 → p 4 → ∀ w, 1 ≤ w → w ≤ 4 → p w := by
    intro p p1 p2 p3 p4 w hw hw'
    have : w = 1 ∨ w = 2 ∨ w = 3 ∨ w = 4 := by omega
    rcases this with rfl | rfl | rfl | rfl <;> assumption
  rw [vE]
  unfold decodeN
  split
  · rename_i c
    exact .inl ⟨1, by omega, by omega, by omega, k1.2 c, by simp [dY], by simp [dY], by simp [dY]; omega, fun w' hw h1 h4 => by revert hw; revert w'; exact fun w' h1 h4 => all (p := fun w' => Hit s a w' → w' = 1) (fun _ => rfl) (fun h => by have := k2.1 h; omega) (fun h => by have := k3.1 h; omega) (fun h => by have := k4.1 h; omega) w' h1 h4⟩
  · rename_i c1
    split
    · rename_i c2
      split
      · rename_i c3
        exact .inl ⟨2, by omega, by omega, by omega, k2.2 ⟨c2.1, c2.2.2, c3⟩, by simp [dY]; omega, by simp [dY]; omega, by simp [dY]; omega, fun w' hw h1 h4 => by revert hw; revert w'; exact fun w' h1 h4 => all (p := fun w' => Hit s a w' → w' = 2) (fun h => by have := k1.1 h; omega) (fun h => rfl) (fun h => by have := k3.1 h; omega) (fun h => by have := k4.1 h; omega) w' h1 h4⟩
      · rename_i c3
        exact .inr ⟨all (p := fun w => a + w ≤ s.size → ¬ Hit s a w) (fun _ h => by have := k1.1 h; omega) (fun _ h => by have := k2.1 h; omega) (fun _ h => by have := k3.1 h; omega) (fun _ h => by have := k4.1 h; omega), rfl⟩
    · rename_i c2
      split
      · rename_i c4
        split
        · rename_i c3
          exact .inl ⟨3, by omega, by omega, by omega, k3.2 (by omega), by simp [dY]; omega, by simp [dY]; omega, by simp [dY]; omega, fun w' hw h1 h4 => by revert hw; revert w'; exact fun w' h1 h4 => all (p := fun w' => Hit s a w' → w' = 3) (fun h => by have := k1.1 h; omega) (fun h => by have := k2.1 h; omega) (fun h => rfl) (fun h => by have := k4.1 h; omega) w' h1 h4⟩
        · rename_i c3
          exact .inr ⟨all (p := fun w => a + w ≤ s.size → ¬ Hit s a w) (fun _ h => by have := k1.1 h; omega) (fun _ h => by have := k2.1 h; omega) (fun _ h => by have := k3.1 h; omega) (fun _ h => by have := k4.1 h; omega), rfl⟩
      · rename_i c4
        split
        · rename_i c5
          split
          · rename_i c3
            exact .inl ⟨4, by omega, by omega, by omega, k4.2 (by omega), by simp [dY]; omega, by simp [dY]; omega, by simp [dY]; omega, fun w' hw h1 h4 => by revert hw; revert w'; exact fun w' h1 h4 => all (p := fun w' => Hit s a w' → w' = 4) (fun h => by have := k1.1 h; omega) (fun h => by have := k2.1 h; omega) (fun h => by have := k3.1 h; omega) (fun h => rfl) w' h1 h4⟩
          · rename_i c3
            exact .inr ⟨all (p := fun w => a + w ≤ s.size → ¬ Hit s a w) (fun _ h => by have := k1.1 h; omega) (fun _ h => by have := k2.1 h; omega) (fun _ h => by have := k3.1 h; omega) (fun _ h => by have := k4.1 h; omega), rfl⟩
        · rename_i c5
          exact .inr ⟨all (p := fun w => a + w ≤ s.size → ¬ Hit s a w) (fun _ h => by have := k1.1 h; omega) (fun _ h => by have := k2.1 h; omega) (fun _ h => by have := k3.1 h; omega) (fun _ h => by have := k4.1 h; omega), rfl⟩
theorem jN {s : ByteArray} {a w : Nat} (hw : 1 ≤ w) (hw4 : w ≤ 4) (hs : a + w ≤ s.size) (h : Hit s a w) : cE s a = (dY s a w, w) ∧ 0 ≤ dY s a w ∧ dY s a w ≤ 1114111 := by
  rcases gG s a (by omega) with ⟨w', h1, h2, h3, h4, h5, h6, h7, h8⟩ | ⟨h1, _⟩
  · have : w = w' := h8 w h hw hw4
    subst this
    have hne : ¬ (((dY s a w).toNat, w).1 = 65533 ∧ ((dY s a w).toNat, w).2 = 1) := fun ⟨e1, e2⟩ => by
      simp only at e1 e2
      subst e2
      have := (hit1 s a).1 h
      simp [dY] at e1
      omega
    refine ⟨?_, h6, h7⟩
    unfold cE
    rw [h5, if_pos ⟨by omega, hne⟩]
    simp only [Int.toNat_of_nonneg h6]
  · exact absurd h (h1 w hw hw4 hs)
theorem mN {s : ByteArray} {a : Nat} (h : ∀ w, 1 ≤ w → w ≤ 4 → a + w ≤ s.size → ¬ Hit s a w) : cE s a = (-1, 0) := by
  unfold cE
  by_cases ha : a < s.size
  · rcases gG s a ha with ⟨w', h1, h2, h3, h4, _⟩ | ⟨_, h2⟩
    · exact absurd h4 (h w' h1 h2 h3)
    · rw [h2]; simp
  · rw [if_neg (by omega)]
theorem pE {s : ByteArray} {a : Nat} (h : s.size ≤ a) : cE s a = (-1, 0) := mN fun w h1 h2 h3 => by omega
theorem oA (s : ByteArray) (a : Nat) : cE s a = (-1, 0) ∨ (0 ≤ (cE s a).1 ∧ (cE s a).1 ≤ 1114111 ∧ 1 ≤ (cE s a).2 ∧ (cE s a).2 ≤ 4 ∧ a + (cE s a).2 ≤ s.size) := by
  by_cases ha : a < s.size
  · rcases gG s a ha with ⟨w', h1, h2, h3, h4, h5, h6, h7, _⟩ | ⟨h1, h2⟩
    · right
      rw [(jN h1 h2 h3 h4).1]
      exact ⟨h6, h7, h1, h2, h3⟩
    · exact .inl (mN h1)
  · exact .inl (pE (by omega))
theorem dV {s : ByteArray} {a b k : Nat} (hb : b ≤ s.size) (hk : a + k < b) : sb (s.extract a b) k = sb s (a + k) := by
  rw [qR _ _ (by simp; omega), qR _ _ (by omega)]
  simp only [ByteArray.getElem_extract]
theorem GU {n m b0 b1 b2 b3 c1 c2 c3 : Nat} (h : m = min n 4) (h1 : 1 < n → c1 = b1) (h2 : 2 < n → c2 = b2) (h3 : 3 < n → c3 = b3) : decodeN m b0 c1 c2 c3 = decodeN n b0 b1 b2 b3 := by
  have e1 : (1 < m) = (1 < n) := propext (by omega)
  have e2 : (2 < m) = (2 < n) := propext (by omega)
  have e3 : (3 < m) = (3 < n) := propext (by omega)
  unfold decodeN
  simp only [e1, e2, e3]
  by_cases k1 : 1 < n <;> by_cases k2 : 2 < n <;> by_cases k3 : 3 < n <;> simp only [k1, k2, k3, h1, h2, h3, true_and, and_true, false_and, and_false, if_false, ↓reduceIte]
theorem JK (s : ByteArray) (a : Nat) (ha : a < s.size) : Utf8.decode (s.extract a (min s.size (a + 4))) 0 = Utf8.decode s a := by
  rw [vE, vE]
  simp only [Nat.zero_add]
  have hsz : (s.extract a (min s.size (a + 4))).size = min (s.size - a) 4 := by simp; omega
  have hb : min s.size (a + 4) ≤ s.size := by omega
  have h0 : sb (s.extract a (min s.size (a + 4))) 0 = sb s a := by rw [dV hb (by omega)]; rfl
  rw [h0]
  refine GU (by omega) (fun h => ?_) (fun h => ?_) (fun h => ?_) <;> rw [dV hb (by omega)]
theorem GT (s : ByteArray) (a : Nat) (h : (Utf8.decode s a).1 = 65533) (ha : a < s.size) : (Utf8.decode s a).2 = 1 ∨ (Utf8.decode s a).2 = 3 := by
  rcases gG s a ha with ⟨w, h1, h2, h3, h4, h5, h6, h7, _⟩ | ⟨_, h2⟩
  · rw [h5] at h ⊢
    simp only at h ⊢
    have hh := h4
    unfold Hit at hh
    have e : dY s a w = 65533 := by omega
    rw [e] at hh
    have := congrArg List.length hh
    simp [gH, dW, IsR, jL] at this
    omega
  · rw [h2]; exact .inl rfl
theorem rB (s : ByteArray) (a : Nat) (h : (Utf8.decode s a).1 = 65533) (ha : a < s.size) : (Utf8.decode s a).2 = 3 ↔ (a + 3 ≤ s.size ∧ s.extract a (a + 3) = bstr [239, 191, 189]) := by
  constructor
  · intro h3
    rcases gG s a ha with ⟨w, h1, h2, hs, h4, h5, h6, h7, _⟩ | ⟨_, h2⟩
    · rw [h5] at h h3
      simp only at h h3
      subst h3
      refine ⟨hs, ?_⟩
      rw [(SG hs).1 h4]
      have e : dY s a 3 = 65533 := by omega
      rw [e]; rfl
    · rw [h2] at h3; cases h3
  · rintro ⟨hs, he⟩
    have hg : gH s a 3 = [239, 191, 189] := by
      rw [sN s a 3 hs] at he
      exact (yU (yT s a 3) (by intro b hb; simp at hb; omega)).1 he
    simp [gH, List.range_succ] at hg
    have k3 := (hit3 s a).2 (by omega)
    have := (jN (by omega) (by omega) hs k3)
    rcases gG s a ha with ⟨w, h1, h2, hs, h4, h5, h6, h7, h8⟩ | ⟨hn, h2⟩
    · rw [h5]; exact (h8 3 k3 (by omega) (by omega)).symm
    · exact absurd k3 (hn 3 (by omega) (by omega) hs)
theorem CZ (s : ByteArray) (a : Nat) (ha : a < s.size) (h : ¬ ((Utf8.decode s a).1 = 65533 ∧ (Utf8.decode s a).2 = 1)) :
    (Utf8.decode s a).2 = if (Utf8.decode s a).1 < 128 then 1 else if (Utf8.decode s a).1 < 2048 then 2 else if (Utf8.decode s a).1 < 65536 then 3 else 4 := by
  rcases gG s a ha with ⟨w, h1, h2, h3, h4, h5, h6, h7, _⟩ | ⟨_, h2⟩
  · rw [h5]
    have hl := CI h4
    unfold dW jL at hl
    simp only
    repeat' split at hl
    all_goals simp at hl
    all_goals subst hl
    all_goals (repeat' split)
    all_goals omega
  · rw [h2] at h; exact absurd ⟨rfl, rfl⟩ h
end Go.Proofs.YtljadkcojnlioaaGreatDoor
namespace Go.Proofs.YtljadkcojnlioaaGreatDoor
open Go.RowKit Go.W
attribute [local irreducible] Decidable.decide
theorem fD : HD Tryz.prog 78 78 = some (5, 1, 1) := by kernel_rfl
theorem fN : sS Tryz.prog 78 = some (5, 1) := by kernel_rfl
theorem jW (a b : List Nat) : iF (a ++ b) = iF a ++ iF b := by simp [iF]
theorem wrap_u8 (m : Nat) : IntKind.u8.wrap (m : Int) = ((m % 256 : Nat) : Int) := by
  simp [IntKind.wrap, IntKind.signed, IntKind.bits]
theorem jJ {P : Program} {σ : Env} {w : World} {dst : Option Nat} {T : TypeId} {pos : String} {after : Array Edge} {g : Option (Nat × Bool)} {x : Operand} {t t' : TypeId} {k : IntKind} {z : Int} (m : Nat) (hx : σ.ev x = some (.int k z)) (ht : P.underlying t = some (.int k)) (ht' : P.underlying t' = some (.int .u8)) (hz : z = (m : Int)) :
    Ex P σ ⟨dst, .convert t t' x, T, pos, after, g⟩ w (.int .u8 ((m % 256 : Nat) : Int)) w := by
  subst hz
  have := MC (w := w) (dst := dst) (T := T) (pos := pos) (after := after) (g := g) hx ht ht'
  rwa [wrap_u8] at this
theorem orb192 : ∀ x, x < 32 → 192 ||| x = 192 + x := by decide
theorem orb224 : ∀ x, x < 16 → 224 ||| x = 224 + x := by decide
theorem orb240 : ∀ x, x < 8 → 240 ||| x = 240 + x := by decide
theorem orb128 : ∀ x, x < 64 → 128 ||| x = 128 + x := by decide
theorem oF (m : Nat) : (m % 256) &&& 63 = m % 64 := by
  have := Nat.and_two_pow_sub_one_eq_mod (m % 256) 6
  rw [show 2 ^ 6 - 1 = 63 from rfl] at this
  rw [this]; omega
theorem tN (m : Nat) : 128 ||| ((m % 256) &&& 63) = 128 + m % 64 := by rw [oF, orb128 _ (by omega)]
theorem r2 {m : Nat} (h : m < 2048) : 192 ||| (m / 2 ^ 6 % 256) = 192 + m / 64 := by
  rw [show (2 : Nat) ^ 6 = 64 from rfl, Nat.mod_eq_of_lt (show m / 64 < 256 by omega), orb192 _ (by omega)]
theorem r3 {m : Nat} (h : m < 65536) : 224 ||| (m / 2 ^ 12 % 256) = 224 + m / 4096 := by
  rw [show (2 : Nat) ^ 12 = 4096 from rfl, Nat.mod_eq_of_lt (show m / 4096 < 256 by omega), orb224 _ (by omega)]
theorem r4 {m : Nat} (h : m ≤ 1114111) : 240 ||| (m / 2 ^ 18 % 256) = 240 + m / 262144 := by
  rw [show (2 : Nat) ^ 18 = 262144 from rfl, Nat.mod_eq_of_lt (show m / 262144 < 256 by omega), orb240 _ (by omega)]
theorem lD {m : Nat} (h : IsR (m : Int)) : dW (m : Int) = jL m := by unfold dW; rw [if_pos h]; rfl
theorem zT {w : World} {a : Option Addr} {c : Nat} {l : List Nat} {ob : Option Nat} {r : Int} (hO : OwnS w 5 1 a l.length c (iF l) ob) (hr : IsR r) (h128 : 128 ≤ r) (hl : l.length ≤ 100000000) :
    Calls Tryz.prog 141 #[.slice a l.length c, .int .i32 r] w (Ret fun v w' => ∃ a' c' ob', v = .slice a' (l.length + (dW r).length) c' ∧ OwnS w' 5 1 a' (l.length + (dW r).length) c' (iF (l ++ dW r)) ob' ∧ Evo ob.toList w w' ∧ (ob' = ob ∨ ∃ g, ob' = some g ∧ w.heap.size ≤ g)) := by
  have hr' := hr; unfold IsR at hr'; obtain ⟨m, hm⟩ : ∃ m : Nat, r = (m : Int) := ⟨r.toNat, by omega⟩; refine bJ (N := 78) Tryz.func141 rfl rfl rfl ?_; refine aE (aB (aM (aC (aA (aE (aB (aG ?_)))))))
  refine aF (kH m rfl Tryz.underlying21 Tryz.underlying163 hm (by show ((m : Nat) : Int) ≤ 4294967295; omega)) ?_
  refine aM (aC (aA (bR (aE (aB (aG (aF (gY rfl rfl) ?_))))))); refine aM (aC (aA (bF rfl (fun hc11 => ?_) (fun hc11 => ?_))))
  ·refine aE (aB (aG (aG ?_))); refine aF (jY (m := m) (n := 6) rfl rfl hm rfl (by decide)) ?_; refine aF (jJ (m / 2 ^ 6) rfl Tryz.underlying21 Tryz.underlying5 (by first | rfl | exact hm)) ?_
   refine aF (jI (m := 192) (n := m / 2 ^ 6 % 256) rfl rfl rfl rfl rfl (by show _ < 256; omega) (by show _ < 256; omega)) ?_
   refine aG ?_; refine aF (jJ (m) rfl Tryz.underlying21 Tryz.underlying5 (by first | rfl | exact hm)) ?_
   refine aF (kA (m := m % 256) (n := 63) rfl rfl rfl rfl rfl (by show _ < 256; omega) (by show _ < 256; omega)) ?_
   refine aF (jI (m := 128) (n := (m % 256) &&& 63) rfl rfl rfl rfl rfl (by show _ < 256; omega) (by show _ < 256; rw [oF]; omega)) ?_
   refine bL (vs := [_, _]) rfl fN rfl rfl rfl rfl fun b1 w2 hO3 hs4 hw5 => ?_; have hE8 := (Evo.refl ob.toList w).then hw5; have hszg := (hE8).size; refine dL rfl rfl rfl rfl fD (hO.evo0 hw5) (Src.ofOwn hO3 ⟨rfl, rfl, trivial⟩) (by omega) fun a2 c2 w12 ob2 hO2 hw15 hob16 => ?_; have hob2 : ob2 = ob ∨ ∃ g, ob2 = some g ∧ w.heap.size ≤ g := hob16.imp id (fun ⟨g, h1, h2⟩ => ⟨g, h1, Nat.le_trans hszg h2⟩); refine aM (aC (aA (aO (aX (br1 ?_)))))
   have hf : dW r = [192 + m / 64, 128 + m % 64] := by rw [hm, lD (hm ▸ hr), jL, if_neg (by omega), if_pos (by omega)]
   have hO3 := hO2; rw [r2 (by omega), tN] at hO3
   refine ⟨a2, c2, ob2, by rw [hf]; rfl, ?_, (hE8.step hw15 (fun y hy => .inl hy)), hob2⟩
   rw [hf, jW]; exact hO3
  refine aE (aE (aB (aG (aF (dF rfl rfl) ?_)))); refine aM (aC (aA (bF rfl (fun hc25 => ?_) (fun hc25 => ?_))))
  ·refine aU (aA (bF rfl (fun hc25 => ?_) (fun hc25 => ?_)))
   ·refine aE (aB (aG (aG ?_))); refine aF (jY (m := m) (n := 12) rfl rfl hm rfl (by decide)) ?_; refine aF (jJ (m / 2 ^ 12) rfl Tryz.underlying21 Tryz.underlying5 (by first | rfl | exact hm)) ?_
    refine aF (jI (m := 224) (n := m / 2 ^ 12 % 256) rfl rfl rfl rfl rfl (by show _ < 256; omega) (by show _ < 256; omega)) ?_
    refine aG ?_; refine aF (jY (m := m) (n := 6) rfl rfl hm rfl (by decide)) ?_; refine aF (jJ ((m / 2 ^ 6)) rfl Tryz.underlying21 Tryz.underlying5 (by first | rfl | exact hm)) ?_
    refine aF (kA (m := (m / 2 ^ 6) % 256) (n := 63) rfl rfl rfl rfl rfl (by show _ < 256; omega) (by show _ < 256; omega)) ?_
    refine aF (jI (m := 128) (n := ((m / 2 ^ 6) % 256) &&& 63) rfl rfl rfl rfl rfl (by show _ < 256; omega) (by show _ < 256; rw [oF]; omega)) ?_
    refine aG ?_; refine aF (jJ (m) rfl Tryz.underlying21 Tryz.underlying5 (by first | rfl | exact hm)) ?_
    refine aF (kA (m := m % 256) (n := 63) rfl rfl rfl rfl rfl (by show _ < 256; omega) (by show _ < 256; omega)) ?_
    refine aF (jI (m := 128) (n := (m % 256) &&& 63) rfl rfl rfl rfl rfl (by show _ < 256; omega) (by show _ < 256; rw [oF]; omega)) ?_
    refine bL (vs := [_, _, _]) rfl fN rfl rfl rfl rfl fun b20 w21 hO22 hs23 hw24 => ?_; have hE27 := (Evo.refl ob.toList w).then hw24; have hszg := (hE27).size; refine dL rfl rfl rfl rfl fD (hO.evo0 hw24) (Src.ofOwn hO22 ⟨rfl, rfl, rfl, trivial⟩) (by omega) fun a2 c2 w31 ob2 hO2 hw34 hob35 => ?_; have hob2 : ob2 = ob ∨ ∃ g, ob2 = some g ∧ w.heap.size ≤ g := hob35.imp id (fun ⟨g, h1, h2⟩ => ⟨g, h1, Nat.le_trans hszg h2⟩); refine aM (aC (aA (aO (aX (br1 ?_)))))
    have hf : dW r = [224 + m / 4096, 128 + m / 64 % 64, 128 + m % 64] := by rw [hm, lD (hm ▸ hr), jL, if_neg (by omega), if_neg (by omega), if_pos (by omega)]
    have hO3 := hO2; rw [r3 (by omega), tN, tN, show (2 : Nat) ^ 6 = 64 from rfl] at hO3
    refine ⟨a2, c2, ob2, by rw [hf]; rfl, ?_, (hE27.step hw34 (fun y hy => .inl hy)), hob2⟩
    rw [hf, jW]; exact hO3
   refine aE (aB (aG (aF (gL rfl rfl) ?_))); refine aG (aV (t := 53) rfl (fun hs53 => ?_) (fun hs53 => ?_))
   ·refine aQ (aG (aQ (aF (gY rfl rfl) ?_))); refine bH (aM (aC (aA (bF rfl (fun hc50 => ?_) (fun hc50 => ?_)))))
    ·refine aE (aB (aG (aG ?_))); refine aF (jY (m := m) (n := 18) rfl rfl hm rfl (by decide)) ?_; refine aF (jJ (m / 2 ^ 18) rfl Tryz.underlying21 Tryz.underlying5 (by first | rfl | exact hm)) ?_
     refine aF (jI (m := 240) (n := m / 2 ^ 18 % 256) rfl rfl rfl rfl rfl (by show _ < 256; omega) (by show _ < 256; omega)) ?_
     refine aG ?_; refine aF (jY (m := m) (n := 12) rfl rfl hm rfl (by decide)) ?_; refine aF (jJ ((m / 2 ^ 12)) rfl Tryz.underlying21 Tryz.underlying5 (by first | rfl | exact hm)) ?_
     refine aF (kA (m := (m / 2 ^ 12) % 256) (n := 63) rfl rfl rfl rfl rfl (by show _ < 256; omega) (by show _ < 256; omega)) ?_
     refine aF (jI (m := 128) (n := ((m / 2 ^ 12) % 256) &&& 63) rfl rfl rfl rfl rfl (by show _ < 256; omega) (by show _ < 256; rw [oF]; omega)) ?_
     refine aG ?_; refine aF (jY (m := m) (n := 6) rfl rfl hm rfl (by decide)) ?_; refine aF (jJ ((m / 2 ^ 6)) rfl Tryz.underlying21 Tryz.underlying5 (by first | rfl | exact hm)) ?_
     refine aF (kA (m := (m / 2 ^ 6) % 256) (n := 63) rfl rfl rfl rfl rfl (by show _ < 256; omega) (by show _ < 256; omega)) ?_
     refine aF (jI (m := 128) (n := ((m / 2 ^ 6) % 256) &&& 63) rfl rfl rfl rfl rfl (by show _ < 256; omega) (by show _ < 256; rw [oF]; omega)) ?_
     refine aG ?_; refine aF (jJ (m) rfl Tryz.underlying21 Tryz.underlying5 (by first | rfl | exact hm)) ?_
     refine aF (kA (m := m % 256) (n := 63) rfl rfl rfl rfl rfl (by show _ < 256; omega) (by show _ < 256; omega)) ?_
     refine aF (jI (m := 128) (n := (m % 256) &&& 63) rfl rfl rfl rfl rfl (by show _ < 256; omega) (by show _ < 256; rw [oF]; omega)) ?_
     refine bL (vs := [_, _, _, _]) rfl fN rfl rfl rfl rfl fun b39 w40 hO41 hs42 hw43 => ?_; have hE46 := (Evo.refl ob.toList w).then hw43; have hszg := (hE46).size; refine dL rfl rfl rfl rfl fD (hO.evo0 hw43) (Src.ofOwn hO41 ⟨rfl, rfl, rfl, rfl, trivial⟩) (by omega) fun a2 c2 w50 ob2 hO2 hw53 hob54 => ?_; have hob2 : ob2 = ob ∨ ∃ g, ob2 = some g ∧ w.heap.size ≤ g := hob54.imp id (fun ⟨g, h1, h2⟩ => ⟨g, h1, Nat.le_trans hszg h2⟩); refine aM (aC (aA (aO (aX (br1 ?_)))))
     have hf : dW r = [240 + m / 262144, 128 + m / 4096 % 64, 128 + m / 64 % 64, 128 + m % 64] := by rw [hm, lD (hm ▸ hr), jL, if_neg (by omega), if_neg (by omega), if_neg (by omega)]
     have hO3 := hO2; rw [r4 (by omega), tN, tN, tN, show (2 : Nat) ^ 12 = 4096 from rfl, show (2 : Nat) ^ 6 = 64 from rfl] at hO3
     refine ⟨a2, c2, ob2, by rw [hf]; rfl, ?_, (hE46.step hw53 (fun y hy => .inl hy)), hob2⟩
     rw [hf, jW]; exact hO3
    refine aE (aB (aG (bL (vs := [_, _, _]) rfl fN rfl rfl rfl rfl fun b58 w59 hO60 hs61 hw62 => ?_))); have hszg := (((Evo.refl ob.toList w).then hw62)).size; refine dL rfl rfl rfl rfl fD (hO.evo0 hw62) (Src.ofOwn hO60 ⟨rfl, rfl, rfl, trivial⟩) (by omega) fun a2 c2 w69 ob2 hO2 hw72 hob73 => ?_; have hob2 : ob2 = ob ∨ ∃ g, ob2 = some g ∧ w.heap.size ≤ g := hob73.imp id (fun ⟨g, h1, h2⟩ => ⟨g, h1, Nat.le_trans hszg h2⟩); refine aM (aC (aA (aO (aX (br1 ?_)))))
    exfalso; omega
   refine aH (aH (aR (aM (aC (aA (cO rfl ?_)))))); refine aE (aB (aG (bL (vs := [_, _, _]) rfl fN rfl rfl rfl rfl fun b77 w78 hO79 hs80 hw81 => ?_))); have hszg := (((Evo.refl ob.toList w).then hw81)).size; refine dL rfl rfl rfl rfl fD (hO.evo0 hw81) (Src.ofOwn hO79 ⟨rfl, rfl, rfl, trivial⟩) (by omega) fun a2 c2 w88 ob2 hO2 hw91 hob92 => ?_; have hob2 : ob2 = ob ∨ ∃ g, ob2 = some g ∧ w.heap.size ≤ g := hob92.imp id (fun ⟨g, h1, h2⟩ => ⟨g, h1, Nat.le_trans hszg h2⟩); refine aM (aC (aA (aO (aX (br1 ?_)))))
   exfalso; omega
  refine aB (aG (aF (dF rfl rfl) ?_)); refine aG (aV (t := 30) rfl (fun hs30 => ?_) (fun hs30 => ?_))
  ·refine aQ (aG (aQ (aF (gY rfl rfl) ?_))); refine bH (aM (aC (aA (bF rfl (fun hc25 => ?_) (fun hc25 => ?_)))))
   ·refine aE (aB (aG (aG ?_))); refine aF (jY (m := m) (n := 12) rfl rfl hm rfl (by decide)) ?_; refine aF (jJ (m / 2 ^ 12) rfl Tryz.underlying21 Tryz.underlying5 (by first | rfl | exact hm)) ?_
    refine aF (jI (m := 224) (n := m / 2 ^ 12 % 256) rfl rfl rfl rfl rfl (by show _ < 256; omega) (by show _ < 256; omega)) ?_
    refine aG ?_; refine aF (jY (m := m) (n := 6) rfl rfl hm rfl (by decide)) ?_; refine aF (jJ ((m / 2 ^ 6)) rfl Tryz.underlying21 Tryz.underlying5 (by first | rfl | exact hm)) ?_
    refine aF (kA (m := (m / 2 ^ 6) % 256) (n := 63) rfl rfl rfl rfl rfl (by show _ < 256; omega) (by show _ < 256; omega)) ?_
    refine aF (jI (m := 128) (n := ((m / 2 ^ 6) % 256) &&& 63) rfl rfl rfl rfl rfl (by show _ < 256; omega) (by show _ < 256; rw [oF]; omega)) ?_
    refine aG ?_; refine aF (jJ (m) rfl Tryz.underlying21 Tryz.underlying5 (by first | rfl | exact hm)) ?_
    refine aF (kA (m := m % 256) (n := 63) rfl rfl rfl rfl rfl (by show _ < 256; omega) (by show _ < 256; omega)) ?_
    refine aF (jI (m := 128) (n := (m % 256) &&& 63) rfl rfl rfl rfl rfl (by show _ < 256; omega) (by show _ < 256; rw [oF]; omega)) ?_
    refine bL (vs := [_, _, _]) rfl fN rfl rfl rfl rfl fun b96 w97 hO98 hs99 hw100 => ?_; have hE103 := (Evo.refl ob.toList w).then hw100; have hszg := (hE103).size; refine dL rfl rfl rfl rfl fD (hO.evo0 hw100) (Src.ofOwn hO98 ⟨rfl, rfl, rfl, trivial⟩) (by omega) fun a2 c2 w107 ob2 hO2 hw110 hob111 => ?_; have hob2 : ob2 = ob ∨ ∃ g, ob2 = some g ∧ w.heap.size ≤ g := hob111.imp id (fun ⟨g, h1, h2⟩ => ⟨g, h1, Nat.le_trans hszg h2⟩); refine aM (aC (aA (aO (aX (br1 ?_)))))
    have hf : dW r = [224 + m / 4096, 128 + m / 64 % 64, 128 + m % 64] := by rw [hm, lD (hm ▸ hr), jL, if_neg (by omega), if_neg (by omega), if_pos (by omega)]
    have hO3 := hO2; rw [r3 (by omega), tN, tN, show (2 : Nat) ^ 6 = 64 from rfl] at hO3
    refine ⟨a2, c2, ob2, by rw [hf]; rfl, ?_, (hE103.step hw110 (fun y hy => .inl hy)), hob2⟩
    rw [hf, jW]; exact hO3
   refine aE (aB (aG (aF (gL rfl rfl) ?_))); refine aG (aV (t := 53) rfl (fun hs53 => ?_) (fun hs53 => ?_))
   ·refine aQ (aG (aQ (aF (gY rfl rfl) ?_))); refine bH (aM (aC (aA (bF rfl (fun hc50 => ?_) (fun hc50 => ?_)))))
    ·refine aE (aB (aG (aG ?_))); refine aF (jY (m := m) (n := 18) rfl rfl hm rfl (by decide)) ?_; refine aF (jJ (m / 2 ^ 18) rfl Tryz.underlying21 Tryz.underlying5 (by first | rfl | exact hm)) ?_
     refine aF (jI (m := 240) (n := m / 2 ^ 18 % 256) rfl rfl rfl rfl rfl (by show _ < 256; omega) (by show _ < 256; omega)) ?_
     refine aG ?_; refine aF (jY (m := m) (n := 12) rfl rfl hm rfl (by decide)) ?_; refine aF (jJ ((m / 2 ^ 12)) rfl Tryz.underlying21 Tryz.underlying5 (by first | rfl | exact hm)) ?_
     refine aF (kA (m := (m / 2 ^ 12) % 256) (n := 63) rfl rfl rfl rfl rfl (by show _ < 256; omega) (by show _ < 256; omega)) ?_
     refine aF (jI (m := 128) (n := ((m / 2 ^ 12) % 256) &&& 63) rfl rfl rfl rfl rfl (by show _ < 256; omega) (by show _ < 256; rw [oF]; omega)) ?_
     refine aG ?_; refine aF (jY (m := m) (n := 6) rfl rfl hm rfl (by decide)) ?_; refine aF (jJ ((m / 2 ^ 6)) rfl Tryz.underlying21 Tryz.underlying5 (by first | rfl | exact hm)) ?_
     refine aF (kA (m := (m / 2 ^ 6) % 256) (n := 63) rfl rfl rfl rfl rfl (by show _ < 256; omega) (by show _ < 256; omega)) ?_
     refine aF (jI (m := 128) (n := ((m / 2 ^ 6) % 256) &&& 63) rfl rfl rfl rfl rfl (by show _ < 256; omega) (by show _ < 256; rw [oF]; omega)) ?_
     refine aG ?_; refine aF (jJ (m) rfl Tryz.underlying21 Tryz.underlying5 (by first | rfl | exact hm)) ?_
     refine aF (kA (m := m % 256) (n := 63) rfl rfl rfl rfl rfl (by show _ < 256; omega) (by show _ < 256; omega)) ?_
     refine aF (jI (m := 128) (n := (m % 256) &&& 63) rfl rfl rfl rfl rfl (by show _ < 256; omega) (by show _ < 256; rw [oF]; omega)) ?_
     refine bL (vs := [_, _, _, _]) rfl fN rfl rfl rfl rfl fun b115 w116 hO117 hs118 hw119 => ?_; have hE122 := (Evo.refl ob.toList w).then hw119; have hszg := (hE122).size; refine dL rfl rfl rfl rfl fD (hO.evo0 hw119) (Src.ofOwn hO117 ⟨rfl, rfl, rfl, rfl, trivial⟩) (by omega) fun a2 c2 w126 ob2 hO2 hw129 hob130 => ?_; have hob2 : ob2 = ob ∨ ∃ g, ob2 = some g ∧ w.heap.size ≤ g := hob130.imp id (fun ⟨g, h1, h2⟩ => ⟨g, h1, Nat.le_trans hszg h2⟩); refine aM (aC (aA (aO (aX (br1 ?_)))))
     have hf : dW r = [240 + m / 262144, 128 + m / 4096 % 64, 128 + m / 64 % 64, 128 + m % 64] := by rw [hm, lD (hm ▸ hr), jL, if_neg (by omega), if_neg (by omega), if_neg (by omega)]
     have hO3 := hO2; rw [r4 (by omega), tN, tN, tN, show (2 : Nat) ^ 12 = 4096 from rfl, show (2 : Nat) ^ 6 = 64 from rfl] at hO3
     refine ⟨a2, c2, ob2, by rw [hf]; rfl, ?_, (hE122.step hw129 (fun y hy => .inl hy)), hob2⟩
     rw [hf, jW]; exact hO3
    refine aE (aB (aG (bL (vs := [_, _, _]) rfl fN rfl rfl rfl rfl fun b134 w135 hO136 hs137 hw138 => ?_))); have hszg := (((Evo.refl ob.toList w).then hw138)).size; refine dL rfl rfl rfl rfl fD (hO.evo0 hw138) (Src.ofOwn hO136 ⟨rfl, rfl, rfl, trivial⟩) (by omega) fun a2 c2 w145 ob2 hO2 hw148 hob149 => ?_; have hob2 : ob2 = ob ∨ ∃ g, ob2 = some g ∧ w.heap.size ≤ g := hob149.imp id (fun ⟨g, h1, h2⟩ => ⟨g, h1, Nat.le_trans hszg h2⟩); refine aM (aC (aA (aO (aX (br1 ?_)))))
    exfalso; omega
   refine aH (aH (aR (aM (aC (aA (cO rfl ?_)))))); refine aE (aB (aG (bL (vs := [_, _, _]) rfl fN rfl rfl rfl rfl fun b153 w154 hO155 hs156 hw157 => ?_))); have hszg := (((Evo.refl ob.toList w).then hw157)).size; refine dL rfl rfl rfl rfl fD (hO.evo0 hw157) (Src.ofOwn hO155 ⟨rfl, rfl, rfl, trivial⟩) (by omega) fun a2 c2 w164 ob2 hO2 hw167 hob168 => ?_; have hob2 : ob2 = ob ∨ ∃ g, ob2 = some g ∧ w.heap.size ≤ g := hob168.imp id (fun ⟨g, h1, h2⟩ => ⟨g, h1, Nat.le_trans hszg h2⟩); refine aM (aC (aA (aO (aX (br1 ?_)))))
   exfalso; omega
  refine aH (aH (aR (aM (aC (aA (cO rfl ?_)))))); refine aE (aB (aG (aF (gL rfl rfl) ?_))); refine aG (aV (t := 53) rfl (fun hs53 => ?_) (fun hs53 => ?_))
  ·refine aQ (aG (aQ (aF (gY rfl rfl) ?_))); refine bH (aM (aC (aA (bF rfl (fun hc50 => ?_) (fun hc50 => ?_)))))
   ·refine aE (aB (aG (aG ?_))); refine aF (jY (m := m) (n := 18) rfl rfl hm rfl (by decide)) ?_; refine aF (jJ (m / 2 ^ 18) rfl Tryz.underlying21 Tryz.underlying5 (by first | rfl | exact hm)) ?_
    refine aF (jI (m := 240) (n := m / 2 ^ 18 % 256) rfl rfl rfl rfl rfl (by show _ < 256; omega) (by show _ < 256; omega)) ?_
    refine aG ?_; refine aF (jY (m := m) (n := 12) rfl rfl hm rfl (by decide)) ?_; refine aF (jJ ((m / 2 ^ 12)) rfl Tryz.underlying21 Tryz.underlying5 (by first | rfl | exact hm)) ?_
    refine aF (kA (m := (m / 2 ^ 12) % 256) (n := 63) rfl rfl rfl rfl rfl (by show _ < 256; omega) (by show _ < 256; omega)) ?_
    refine aF (jI (m := 128) (n := ((m / 2 ^ 12) % 256) &&& 63) rfl rfl rfl rfl rfl (by show _ < 256; omega) (by show _ < 256; rw [oF]; omega)) ?_
    refine aG ?_; refine aF (jY (m := m) (n := 6) rfl rfl hm rfl (by decide)) ?_; refine aF (jJ ((m / 2 ^ 6)) rfl Tryz.underlying21 Tryz.underlying5 (by first | rfl | exact hm)) ?_
    refine aF (kA (m := (m / 2 ^ 6) % 256) (n := 63) rfl rfl rfl rfl rfl (by show _ < 256; omega) (by show _ < 256; omega)) ?_
    refine aF (jI (m := 128) (n := ((m / 2 ^ 6) % 256) &&& 63) rfl rfl rfl rfl rfl (by show _ < 256; omega) (by show _ < 256; rw [oF]; omega)) ?_
    refine aG ?_; refine aF (jJ (m) rfl Tryz.underlying21 Tryz.underlying5 (by first | rfl | exact hm)) ?_
    refine aF (kA (m := m % 256) (n := 63) rfl rfl rfl rfl rfl (by show _ < 256; omega) (by show _ < 256; omega)) ?_
    refine aF (jI (m := 128) (n := (m % 256) &&& 63) rfl rfl rfl rfl rfl (by show _ < 256; omega) (by show _ < 256; rw [oF]; omega)) ?_
    refine bL (vs := [_, _, _, _]) rfl fN rfl rfl rfl rfl fun b172 w173 hO174 hs175 hw176 => ?_; have hE179 := (Evo.refl ob.toList w).then hw176; have hszg := (hE179).size; refine dL rfl rfl rfl rfl fD (hO.evo0 hw176) (Src.ofOwn hO174 ⟨rfl, rfl, rfl, rfl, trivial⟩) (by omega) fun a2 c2 w183 ob2 hO2 hw186 hob187 => ?_; have hob2 : ob2 = ob ∨ ∃ g, ob2 = some g ∧ w.heap.size ≤ g := hob187.imp id (fun ⟨g, h1, h2⟩ => ⟨g, h1, Nat.le_trans hszg h2⟩); refine aM (aC (aA (aO (aX (br1 ?_)))))
    have hf : dW r = [240 + m / 262144, 128 + m / 4096 % 64, 128 + m / 64 % 64, 128 + m % 64] := by rw [hm, lD (hm ▸ hr), jL, if_neg (by omega), if_neg (by omega), if_neg (by omega)]
    have hO3 := hO2; rw [r4 (by omega), tN, tN, tN, show (2 : Nat) ^ 12 = 4096 from rfl, show (2 : Nat) ^ 6 = 64 from rfl] at hO3
    refine ⟨a2, c2, ob2, by rw [hf]; rfl, ?_, (hE179.step hw186 (fun y hy => .inl hy)), hob2⟩
    rw [hf, jW]; exact hO3
   refine aE (aB (aG (bL (vs := [_, _, _]) rfl fN rfl rfl rfl rfl fun b191 w192 hO193 hs194 hw195 => ?_))); have hszg := (((Evo.refl ob.toList w).then hw195)).size; refine dL rfl rfl rfl rfl fD (hO.evo0 hw195) (Src.ofOwn hO193 ⟨rfl, rfl, rfl, trivial⟩) (by omega) fun a2 c2 w202 ob2 hO2 hw205 hob206 => ?_; have hob2 : ob2 = ob ∨ ∃ g, ob2 = some g ∧ w.heap.size ≤ g := hob206.imp id (fun ⟨g, h1, h2⟩ => ⟨g, h1, Nat.le_trans hszg h2⟩); refine aM (aC (aA (aO (aX (br1 ?_)))))
   exfalso; omega
  refine aH (aH (aR (aM (aC (aA (cO rfl ?_)))))); refine aE (aB (aG (bL (vs := [_, _, _]) rfl fN rfl rfl rfl rfl fun b210 w211 hO212 hs213 hw214 => ?_))); have hszg := (((Evo.refl ob.toList w).then hw214)).size; refine dL rfl rfl rfl rfl fD (hO.evo0 hw214) (Src.ofOwn hO212 ⟨rfl, rfl, rfl, trivial⟩) (by omega) fun a2 c2 w221 ob2 hO2 hw224 hob225 => ?_; have hob2 : ob2 = ob ∨ ∃ g, ob2 = some g ∧ w.heap.size ≤ g := hob225.imp id (fun ⟨g, h1, h2⟩ => ⟨g, h1, Nat.le_trans hszg h2⟩); refine aM (aC (aA (aO (aX (br1 ?_)))))
  exfalso; omega
theorem EU : HD Tryz.prog 78 9 = some (5, 1, 1) := by kernel_rfl
theorem iM : gA Tryz.prog 80 1 = some 1 := by kernel_rfl
theorem EL : eY Tryz.prog 124 := ⟨_, Tryz.func124, by kernel_rfl, by kernel_rfl⟩
theorem EH : eY Tryz.prog 141 := ⟨_, Tryz.func141, by kernel_rfl, by kernel_rfl⟩
theorem rJ : eY Tryz.prog 70 := ⟨_, Tryz.func70, by kernel_rfl, by kernel_rfl⟩
theorem rH : iT Tryz.prog 78 = some 1 := by kernel_rfl
structure BdN (w : World) (b : Nat) (l : List Nat) (ob : Option Nat) : Prop where
  get : ∃ p a c, w.heap[b]? = some (.cells #[p, .slice a l.length c] 80 (0, 0)) ∧ (p = .pointer none ∨ p = .pointer (some ⟨b, 0, none⟩)) ∧ OwnS w 5 1 a l.length c (iF l) ob
  ne : ∀ g, ob = some g → g ≠ b
theorem BdN.new {w : World} {b : Nat} (h : w.heap[b]? = some (.cells #[.pointer none, .slice none 0 0] 80 (0, 0))) : BdN w b [] none := ⟨⟨_, _, _, h, .inl rfl, OwnS.nil _ _ _⟩, fun g h => by cases h⟩
theorem BdN.evo {X : List Nat} {w w' : World} {b : Nat} {l : List Nat} {ob : Option Nat} (h : BdN w b l ob) (he : Evo X w w') (h1 : b ∉ X) (h2 : ∀ g, ob = some g → g ∉ X) : BdN w' b l ob := by
  obtain ⟨⟨p, a, c, h3, h4, h5⟩, h6⟩ := h
  exact ⟨⟨p, a, c, he.blk h3 h1, h4, h5.evo he h2⟩, h6⟩
theorem BdN.evo0 {w w' : World} {b : Nat} {l : List Nat} {ob : Option Nat} (h : BdN w b l ob) (he : Evo [] w w') : BdN w' b l ob := h.evo he (fun h => by cases h) (fun _ _ h => by cases h)
theorem BdN.lt {w : World} {b : Nat} {l : List Nat} {ob : Option Nat} (h : BdN w b l ob) : b < w.heap.size := by
  obtain ⟨⟨p, a, c, h3, h4, h5⟩, h6⟩ := h
  exact eW h3
theorem BdN.ltO {w : World} {b : Nat} {l : List Nat} {ob : Option Nat} (h : BdN w b l ob) : Lt w ob := by
  obtain ⟨⟨p, a, c, h3, h4, h5⟩, h6⟩ := h
  exact Lt.own h5
def Wr (w : World) (b : Nat) (l : List Nat) (ob : Option Nat) (w' : World) : Prop := ∃ ob', BdN w' b l ob' ∧ Evo (b :: ob.toList) w w' ∧ (ob' = ob ∨ ∃ g, ob' = some g ∧ w.heap.size ≤ g)
def Lo (l : List Nat) : Prop := ∀ b, b ∈ l → b < 256
theorem xF {w : World} {b : Nat} {l : List Nat} {ob : Option Nat} (h : BdN w b l ob) : ∃ p a c, w.heap[b]? = some (.cells #[p, .slice a l.length c] 80 (0, 0)) ∧ (p = .pointer none ∨ p = .pointer (some ⟨b, 0, none⟩)) ∧ OwnS w 5 1 a l.length c (iF l) ob ∧ Apart (some b) ob := by
  obtain ⟨⟨p, a, c, h3, h4, h5⟩, h6⟩ := h
  exact ⟨p, a, c, h3, h4, h5, fun g h1 h2 => by cases h1; exact h6 b h2 rfl⟩
theorem DK {w w' : World} {b : Nat} {l m : List Nat} {ob ob2 : Option Nat} {a2 : Option Addr} {c2 n : Nat} {hap : Apart (some b) ob} (hb : b < w.heap.size) (hn : n = (l ++ m).length) (h1 : w'.heap[b]? = some (.cells #[.pointer (some ⟨b, 0, none⟩), .slice a2 n c2] 80 (0, 0)))
    (h2 : OwnS w' 5 1 a2 n c2 (iF (l ++ m)) ob2) (h3 : Evo (b :: ob.toList) w w') (h4 : ob2 = ob ∨ ∃ g, ob2 = some g ∧ w.heap.size ≤ g) : Wr w b (l ++ m) ob w' := by
  subst hn
  refine ⟨ob2, ⟨⟨_, _, _, h1, .inr rfl, h2⟩, fun g hg e => ?_⟩, h3, h4⟩
  subst e
  rcases h4 with h4 | ⟨g', h4, h5⟩
  · exact hap g rfl (h4 ▸ hg)
  · rw [h4] at hg; cases hg; omega
theorem Wr.then {w w1 w2 : World} {b : Nat} {l m : List Nat} {ob : Option Nat} (h : Wr w b l ob w1) (h2 : ∀ ob1, BdN w1 b l ob1 → Wr w1 b m ob1 w2) : Wr w b m ob w2 := by
  obtain ⟨ob1, k1, k2, k3⟩ := h
  obtain ⟨ob2, k4, k5, k6⟩ := h2 ob1 k1
  refine ⟨ob2, k4, k2.step k5 (fun y hy => ?_), ?_⟩
  · rcases List.mem_cons.1 hy with rfl | hy
    · exact .inl (List.mem_cons_self ..)
    · rcases k3 with rfl | ⟨g, rfl, hg⟩
      · exact .inl (List.mem_cons_of_mem _ hy)
      · rw [List.mem_singleton.1 hy]; exact .inr hg
  · rcases k6 with rfl | ⟨g, rfl, hg⟩
    · exact k3
    · exact .inr ⟨g, rfl, Nat.le_trans k2.size hg⟩
theorem zS {w : World} {a : Option Addr} {c : Nat} {l : List Nat} {ob : Option Nat} {r : Int} (hO : OwnS w 5 1 a l.length c (iF l) ob) (hr : IsR r) (hl : l.length ≤ 100000000) :
    Calls Tryz.prog 124 #[.slice a l.length c, .int .i32 r] w (Ret fun v w' => ∃ a' c' ob', v = .slice a' (l.length + (dW r).length) c' ∧ OwnS w' 5 1 a' (l.length + (dW r).length) c' (iF (l ++ dW r)) ob' ∧ Evo ob.toList w w' ∧ (ob' = ob ∨ ∃ g, ob' = some g ∧ w.heap.size ≤ g)) := by
  have hr' := hr; unfold IsR at hr'; obtain ⟨m, hm⟩ : ∃ m : Nat, r = (m : Int) := ⟨r.toNat, by omega⟩; refine bJ (N := 16) Tryz.func124 rfl rfl rfl ?_; refine aE (aB (aM (aC (aA (aE (aE (aB (aG ?_))))))))
  refine aF (kH m rfl Tryz.underlying21 Tryz.underlying163 hm (by show ((m : Nat) : Int) ≤ 4294967295; omega)) ?_
  refine aF (gY rfl rfl) ?_; refine aC (aA (bF rfl (fun hc7 => ?_) (fun hc7 => ?_)))
  ·refine aE (aB (aG (aG (aF (jJ m rfl Tryz.underlying21 Tryz.underlying5 hm) ?_)))); refine bL (vs := [_]) rfl fN rfl rfl rfl rfl fun b1 w2 hO3 hs4 hw5 => ?_; have hE8 := (Evo.refl ob.toList w).then hw5; have hszg := (hE8).size; refine dL rfl rfl rfl rfl fD (hO.evo0 hw5) (Src.ofOwn hO3 ⟨rfl, trivial⟩) (by omega) fun a2 c2 w12 ob2 hO2 hw15 hob16 => ?_; have hob2 : ob2 = ob ∨ ∃ g, ob2 = some g ∧ w.heap.size ≤ g := hob16.imp id (fun ⟨g, h1, h2⟩ => ⟨g, h1, Nat.le_trans hszg h2⟩); refine aM (aC (aA (aO (aN (br1 ?_)))))
   have hf : dW r = [m] := by rw [hm, lD (hm ▸ hr), jL, if_pos (by omega)]
   have hO3 := hO2; rw [Nat.mod_eq_of_lt (show m < 256 by omega)] at hO3
   refine ⟨a2, c2, ob2, by rw [hf]; rfl, ?_, (hE8.step hw15 (fun y hy => .inl hy)), hob2⟩
   rw [hf, jW]; exact hO3
  refine aU (aA (aE (aB (aG (aG ?_))))); refine aK (vs := [_, _]) EH rfl (zT hO hr (by omega) hl) rfl ?_; rintro _ w20 ⟨a2, c2, ob2, rfl, hO2, hw21, hob2⟩; refine aM (aC (aA (aO (br1 ?_)))); exact ⟨a2, c2, ob2, rfl, hO2, ((Evo.refl ob.toList w).step hw21 (fun y hy => .inl hy)), hob2⟩
theorem cW {w : World} {b : Nat} {l m : List Nat} {ob : Option Nat} {s : ByteArray} (h : BdN w b l ob) (hs : s = bstr m) (hm : Lo m) (hl : l.length ≤ 100000000) (hl2 : m.length ≤ 100000000) :
    Calls Tryz.prog 49 #[.pointer (some ⟨b, 0, none⟩), .string s] w (Ret fun v w' => Wr w b (l ++ m) ob w') := by
  obtain ⟨p, a, c, hJ, hp, hO, hap⟩ := xF h; have hbl := eW hJ; refine bJ (N := 19) Tryz.func49 rfl rfl rfl ?_; refine aE (aB (aM (aM (aC (aA (aE (aB (aG (aK (vs := [_]) rJ rfl (qE hJ hp) rfl ?_))))))))); rintro _ w1 ⟨rfl, hJ1, hw2⟩
  have hE3 := (Evo.refl (b :: ob.toList) w).step hw2 (fun y hy => .inl (by rw [List.mem_singleton.1 hy]; exact List.mem_cons_self ..))
  refine aC (aA (aE (aB (aG (aG (aF (aP rfl) (aF (aD rfl iM) (aF (aI rfl mR (aJ hJ1 rfl)) (aG ?_))))))))); have hszg := (hE3).size
  refine dL rfl rfl rfl rfl EU (hO.evo hw2 hap.symm.own1) (by rw [hs]; exact Src.bstr hm) (by omega) fun a2 c2 w7 ob2 hO2 hw10 hob11 => ?_
  have hE13 := hE3.step hw10 (fun y hy => .inl (List.mem_cons_of_mem _ hy)); have hob2 : ob2 = ob ∨ ∃ g, ob2 = some g ∧ w.heap.size ≤ g := hob11.imp id (fun ⟨g, h1, h2⟩ => ⟨g, h1, Nat.le_trans hszg h2⟩); refine aF (aP rfl) (aF (aD rfl iM) (bG rfl rfl (rfl) rH (hw10.blk hJ1 hap.nmem) rfl fun w15 hB16 hw17 => ?_))
  have hE18 := hE13.step hw17 (fun y hy => .inl (by rw [List.mem_singleton.1 hy]; exact List.mem_cons_self ..))
  try simp only [cR, Nat.reduceAdd] at hB16
  refine aC (aA (aE (aB (aG (aF (cM rfl Tryz.underlying9 rfl) ?_))))); refine aM (aM (aC (aA (aO (dC rfl rfl rfl ?_)))))
  exact DK (hap := hap) hbl (by rw [List.length_append]) hB16 (by rw [jW]; exact (hO2.evo hw17 (hap.app (Lt.blk hJ1) hob11).symm.own1)) hE18 hob2
theorem pN {w : World} {b : Nat} {l : List Nat} {ob : Option Nat} (x : Nat) (h : BdN w b l ob) (hl : l.length ≤ 100000000) :
    Calls Tryz.prog 42 #[.pointer (some ⟨b, 0, none⟩), .int .u8 (x : Nat)] w (Ret fun v w' => Wr w b (l ++ [x]) ob w') := by
  obtain ⟨p, a, c, hJ, hp, hO, hap⟩ := xF h; have hbl := eW hJ; refine bJ (N := 17) Tryz.func42 rfl rfl rfl ?_; refine aE (aB (aM (aC (aA (aE (aB (aG (aK (vs := [_]) rJ rfl (qE hJ hp) rfl ?_)))))))); rintro _ w1 ⟨rfl, hJ1, hw2⟩
  have hE3 := (Evo.refl (b :: ob.toList) w).step hw2 (fun y hy => .inl (by rw [List.mem_singleton.1 hy]; exact List.mem_cons_self ..))
  refine aC (aA (aE (aB (aG (aG (aF (aP rfl) (aF (aD rfl iM) (aF (aI rfl mR (aJ hJ1 rfl)) (aG (bL (vs := [_]) rfl fN rfl rfl rfl rfl fun b5 w6 hO7 hs8 hw9 => ?_)))))))))); have hszg := ((hE3.then hw9)).size; refine dL rfl rfl rfl rfl fD ((hO.evo hw2 hap.symm.own1).evo0 hw9) (Src.ofOwn hO7 ⟨rfl, trivial⟩) (by omega) fun a2 c2 w18 ob2 hO2 hw21 hob22 => ?_; have hE25 := (hE3.then hw9).step hw21 (fun y hy => .inl (List.mem_cons_of_mem _ hy)); have hob2 : ob2 = ob ∨ ∃ g, ob2 = some g ∧ w.heap.size ≤ g := hob22.imp id (fun ⟨g, h1, h2⟩ => ⟨g, h1, Nat.le_trans hszg h2⟩); refine aF (aP rfl) (aF (aD rfl iM) (bG rfl rfl (rfl) rH (hw21.blk (hw9.blk0 hJ1) hap.nmem) rfl fun w28 hB29 hw30 => ?_))
  have hE31 := hE25.step hw30 (fun y hy => .inl (by rw [List.mem_singleton.1 hy]; exact List.mem_cons_self ..))
  try simp only [cR, Nat.reduceAdd] at hB29
  refine aC (aA (aE (aB (aM (aC (aA (aO (br1 ?_))))))))
  exact DK (hap := hap) hbl (by rw [List.length_append]; rfl) hB29 (by rw [jW]; exact (hO2.evo hw30 (hap.app (Lt.blk (hw9.blk0 hJ1)) hob22).symm.own1)) hE31 hob2
theorem lQ {w : World} {b : Nat} {l : List Nat} {ob : Option Nat} {r : Int} (h : BdN w b l ob) (hr : IsR r) (hl : l.length ≤ 100000000) :
    Calls Tryz.prog 100 #[.pointer (some ⟨b, 0, none⟩), .int .i32 r] w (Ret fun v w' => Wr w b (l ++ dW r) ob w') := by
  have hfl := rY r; obtain ⟨p, a, c, hJ, hp, hO, hap⟩ := xF h; have hbl := eW hJ; refine bJ (N := 30) Tryz.func100 rfl rfl rfl ?_; refine aE (aB (aM (aM (aC (aA (aE (aB (aG (aK (vs := [_]) rJ rfl (qE hJ hp) rfl ?_))))))))); rintro _ w1 ⟨rfl, hJ1, hw2⟩
  have hE3 := (Evo.refl (b :: ob.toList) w).step hw2 (fun y hy => .inl (by rw [List.mem_singleton.1 hy]; exact List.mem_cons_self ..))
  refine aC (aA (aE (aB (aG (aF (aP rfl) (aF (aD rfl iM) (aF (aI rfl mR (aJ hJ1 rfl)) (aF (bK rfl Tryz.underlying78 rfl) ?_)))))))); refine aM (aC (aA (aE (aB (aG (aG (aF (aP rfl) (aF (aD rfl iM) (aF (aI rfl mR (aJ hJ1 rfl)) (aG (aK (vs := [_, _]) EL rfl (zS (hO.evo hw2 hap.symm.own1) hr hl) rfl ?_))))))))))); rintro _ w5 ⟨a2, c2, ob2, rfl, hO2, hw6, hob1⟩; have hsz9 := hE3.size; have hob2 : ob2 = ob ∨ ∃ g, ob2 = some g ∧ w.heap.size ≤ g := hob1.imp id (fun ⟨g, h1, h2⟩ => ⟨g, h1, Nat.le_trans hsz9 h2⟩); have hE7 := hE3.step hw6 (fun y hy => .inl (List.mem_cons_of_mem _ hy)); refine aF (aP rfl) (aF (aD rfl iM) (bG rfl rfl (rfl) rH (hw6.blk hJ1 (hap.nmem)) rfl fun w9 hB10 hw11 => ?_))
  have hE12 := hE7.step hw11 (fun y hy => .inl (by rw [List.mem_singleton.1 hy]; exact List.mem_cons_self ..))
  try simp only [cR, Nat.reduceAdd] at hB10
  refine aC (aA (aE (aB (aG (aF (aP rfl) (aF (aD rfl iM) (aF (aI rfl mR (aJ hB10 rfl)) (aF (bK rfl Tryz.underlying78 rfl) ?_)))))))); refine aG ?_; refine aF (gK rfl rfl (by omega) (by omega)) ?_; refine aM (aM (aC (aA (aO (dC rfl rfl rfl ?_))))); exact DK (hap := hap) hbl (by rw [List.length_append]) hB10 (hO2.evo hw11 (fM hap (Lt.blk hJ) hob2).symm.own1) hE12 hob2
theorem ML {w : World} {b : Nat} {l : List Nat} {ob : Option Nat} (h : BdN w b l ob) :
    Calls Tryz.prog 51 #[.pointer (some ⟨b, 0, none⟩)] w (Ret fun v w' => v = iv (l.length : Nat) ∧ Evo [] w w') := by
  obtain ⟨p, a, c, hJ, hp, hO, hap⟩ := xF h; have hbl := eW hJ; refine bJ (N := 8) Tryz.func51 rfl rfl rfl ?_; refine aE (aB (aM (aC (aA (aE (aB (aG (aF (aP rfl) (aF (aD rfl iM) (aF (aI rfl mR (aJ hJ rfl)) (aF (bK rfl Tryz.underlying78 rfl) ?_))))))))))); refine aM (aC (aA (aO (br1 ?_)))); exact ⟨rfl, (Evo.refl [] w)⟩
theorem sZ {w : World} {b : Nat} {l : List Nat} {ob : Option Nat} (h : BdN w b l ob) (hl : Lo l) (hg : ∀ g, ob = some g → b ≤ g) :
    Calls Tryz.prog 43 #[.pointer (some ⟨b, 0, none⟩)] w (Ret fun v w' => v = .string (bstr l) ∧ Evo (XB b w) w w') := by
  obtain ⟨⟨p, a, c, hJ, hp, hO⟩, hne⟩ := h
  have hbc := rE hl
  have hll : (bstr l).data.toList.length = l.length := by simp [bstr]
  have hown : w.ownsRow b 5 1 (.slice a l.length c) (Lib.byteCells (bstr l).data.toList).length (Lib.byteCells (bstr l).data.toList) := by
    rw [Lib.byteCells_length, hbc, hll]
    refine ⟨hO.1, ?_⟩
    rcases hO.2 with ⟨h1, h2, h3⟩ | ⟨g, cap, cur, h1, h2, h3, h4⟩
    · exact .inl ⟨h1, h2⟩
    · exact .inr ⟨g, cap, cur, h2, hg g h1, h3, h4⟩
  have hne2 : (Value.slice a l.length c).ownBlock ≠ some b := by
    rcases hO.2 with ⟨h1, h2, h3⟩ | ⟨g, cap, cur, h1, h2, h3, h4⟩
    · rw [h1]; simp [Value.ownBlock]
    · rw [h2]; simp only [Value.ownBlock]; intro e; cases e; exact hne _ h1 rfl
  have hB : Lib.IsBuilder 80 5 b b (Lib.byteCells (bstr l).data.toList) w := by
    rcases hp with rfl | rfl
    · exact .inl ⟨Nat.le_refl _, _, hJ, hown, hne2⟩
    · exact .inr ⟨Nat.le_refl _, _, hJ, hown, hne2⟩
  refine (pM b b _ w hB (Nat.le_of_lt (eW hJ))).mono ?_
  rintro e w' ⟨rfl, h1⟩
  exact ⟨_, rfl, rfl, UB h1⟩
theorem OM : oG Tryz.prog 5 = some false := by kernel_rfl
theorem EI : eY Tryz.prog 140 := ⟨_, Tryz.func140, by kernel_rfl, by kernel_rfl⟩
theorem EB : eY Tryz.prog 157 := ⟨_, Tryz.func157, by kernel_rfl, by kernel_rfl⟩
theorem DZ : eY Tryz.prog 167 := ⟨_, Tryz.func167, by kernel_rfl, by kernel_rfl⟩
theorem DY : eY Tryz.prog 168 := ⟨_, Tryz.func168, by kernel_rfl, by kernel_rfl⟩
theorem DX : eY Tryz.prog 182 := ⟨_, Tryz.func182, by kernel_rfl, by kernel_rfl⟩
theorem mQ : iT Tryz.prog 5 = some 1 := by kernel_rfl
theorem DO : oJ Tryz.prog 187 = some #[.int .u8 0, .int .u8 0, .int .u8 0, .int .u8 0, .int .u8 0, .int .u8 0, .int .u8 0, .int .u8 0, .int .u8 0, .int .u8 0, .int .u8 0, .int .u8 0, .int .u8 0, .int .u8 0, .int .u8 0, .int .u8 0, .int .u8 0, .int .u8 0, .int .u8 0, .int .u8 0, .int .u8 0, .int .u8 0, .int .u8 0, .int .u8 0, .int .u8 0, .int .u8 0, .int .u8 0, .int .u8 0, .int .u8 0, .int .u8 0, .int .u8 0, .int .u8 0, .int .u8 0, .int .u8 0, .int .u8 0, .int .u8 0, .int .u8 0, .int .u8 0, .int .u8 0, .int .u8 0, .int .u8 0, .int .u8 0, .int .u8 0, .int .u8 0, .int .u8 0, .int .u8 0, .int .u8 0, .int .u8 0, .int .u8 0, .int .u8 0, .int .u8 0, .int .u8 0, .int .u8 0, .int .u8 0, .int .u8 0, .int .u8 0, .int .u8 0, .int .u8 0, .int .u8 0, .int .u8 0, .int .u8 0, .int .u8 0, .int .u8 0, .int .u8 0, .int .u8 0] := by kernel_rfl
section
variable {P : Program} {σ : Env} {w : World} {dst : Option Nat} {T : TypeId} {pos : String} {after : Array Edge} {g : Option (Nat × Bool)}
theorem ex_unR {op : UnOp} {t : TypeId} {x : Operand} {a r : Value} (hx : σ.ev x = some a) (h : ∀ w, (execOp (fun _ => a) ⟨none, .unOp op t x, T, pos, after, none⟩).run P w = .ok (.value r) w) : Ex P σ ⟨dst, .unOp op t x, T, pos, after, g⟩ w r w := fun ρ ha => by
  have h1 := h w
  simp only [execOp, ha _ _ hx] at h1 ⊢
  exact h1
theorem JI {x lo : Operand} {t e : TypeId} {len sz b l : Nat} {lv : Int} (hx : σ.ev x = some (.pointer (some ⟨b, 0, none⟩))) (hlo : σ.ev lo = some (.int .i64 lv)) (ht : P.underlying t = some (.array len e)) (hs : iT P e = some sz) (hl : lv = (l : Int)) (hle : l < len) :
    Ex P σ ⟨dst, .slice t x (some lo) none none, T, pos, after, g⟩ w (.slice (some ⟨b, l * sz, none⟩) (len - l) (len - l)) w := fun ρ hρ => by
  subst hl
  have hb : (Instr.sliceBounds false len len (some (.int .i64 (l : Int))) none none).run P w = .ok (l, len, len) w := by
    simp [Instr.sliceBounds, Instr.sliceBound, asIntOf, Nat.le_of_lt hle]
  simp only [execOp, hρ x _ hx, Option.map_some, Option.map_none, hρ lo _ hlo, Instr.sliceAt, run_underlying ht, Sem.run_bind, Result.andThen_ok, Instr.sureAddr, Sem.run_pure, hb, nQ hs]
  rw [if_neg (by omega)]
  simp [Addr.add]
  exact fun h => h.symm
theorem zQ {x : Operand} {t t' e : TypeId} {b o n c : Nat} {l : List Nat} (hx : σ.ev x = some (.slice (some ⟨b, o, none⟩) n c)) (hs : P.underlying t = some (.slice e)) (he : P.underlying e = some (.int .u8)) (hd : P.underlying t' = some .string)
    (hn : l.length = n) (hc : ∀ j v, (iF l)[j]? = some v → w.cell? ⟨b, o + j, none⟩ = some v) : Ex P σ ⟨dst, .convert t t' x, T, pos, after, g⟩ w (.string (bstr l)) w := fun ρ h => by
  have h1 := run_convert_bytes_string (P := P) w t t' e (some ⟨b, o, none⟩) n c hs he hd
  have h3 : (loadCells ⟨b, o, none⟩ n).run P w = .ok ((l.map fun (c : Nat) => (c : Int)).map (Value.int .u8)).toArray w := by
    have h4 : iF l = (l.map fun (c : Nat) => (c : Int)).map (Value.int .u8) := by simp [iF, Function.comp_def]
    rw [← h4]
    have := xK (P := P) (w := w) (b := b) (o := o) (vs := iF l) hc
    rw [show (iF l).length = n by simp [iF, hn]] at this
    exact this
  have h2 : (Conv.bytesToString (.slice (some ⟨b, o, none⟩) n c)).run P w = .ok (.string (bstr l)) w := by
    rw [run_bytesToString (P := P) w _ n c _ h3, List.foldl_map, sL]
    congr 2
  simp only [execOp, h x _ hx, Sem.run_bind, h1, h2, Result.andThen_ok, Sem.run_pure]
end
def hx (d : Nat) : Nat := if d < 10 then 48 + d else 87 + d
def hexL (n : Nat) : List Nat := if n < 16 then [hx n] else hexL (n / 16) ++ [hx (n % 16)]
termination_by n
decreasing_by omega
theorem CK {n : Nat} (h : n < 16) : hexL n = [hx n] := by rw [hexL, if_pos h]
theorem LU {n : Nat} (h : ¬ n < 16) : hexL n = hexL (n / 16) ++ [hx (n % 16)] := by rw [hexL, if_neg h]
abbrev TN : ByteArray := ByteArray.mk #[48, 49, 50, 51, 52, 53, 54, 55, 56, 57, 97, 98, 99, 100, 101, 102, 103, 104, 105, 106, 107, 108, 109, 110, 111, 112, 113, 114, 115, 116, 117, 118, 119, 120, 121, 122]
theorem xB : ∀ n, n < 16 → sb TN n = hx n := by decide +kernel
theorem UD (u : Nat) : u &&& 15 = u % 16 := by
  have := Nat.and_two_pow_sub_one_eq_mod u 4
  rw [show 2 ^ 4 - 1 = 15 from rfl, show (2 : Nat) ^ 4 = 16 from rfl] at this
  exact this
abbrev gTz : Nat := 3
def Tab64 (w : World) : Prop := ∀ k, k < 64 → w.cell? ⟨gTz, k, none⟩ = some (.int .u8 ((Lib.deBruijn64tab.getD k 0 : Nat) : Int))
theorem Tab64.evo {X : List Nat} {w w' : World} (h : Tab64 w) (he : Evo X w w') (hx : gTz ∉ X) : Tab64 w' := fun k hk => he.cell (h k hk) hx
structure FbG where
  u : Nat
  i : Nat
  f : Nat
  D : List Nat
  xs : List Value
structure FbI (w wr : World) (ba N : Nat) (x : FbG) : Prop where
  own : OwnS wr 187 1 (some ⟨ba, 0, none⟩) 65 65 x.xs (some ba)
  hi : x.i + x.D.length = 65
  hf : x.f + x.D.length = 8
  h1 : 1 ≤ x.f
  hu : x.u < 16 ^ x.f
  eq : hexL N = hexL x.u ++ x.D
  cs : x.xs.drop x.i = iF x.D
  ge : Ge w (some ba)
theorem SY {xs : List Value} {D : List Nat} {i d : Nat} (hl : xs.length = 65) (hi : i + D.length = 65) (h0 : 1 ≤ i) (h : xs.drop i = iF D) : (xs.set (i - 1) (.int .u8 (d : Nat))).drop (i - 1) = iF (d :: D) := by
  rw [List.drop_eq_getElem_cons (by simp; omega)]
  have e1 : (xs.set (i - 1) (Value.int .u8 (d : Nat)))[i - 1]'(by simp; omega) = .int .u8 (d : Nat) := by simp
  rw [e1, show i - 1 + 1 = i by omega]
  have e2 : (xs.set (i - 1) (Value.int .u8 (d : Nat))).drop i = xs.drop i := by
    rw [List.drop_set_of_lt (by omega)]
  rw [e2, h]
  rfl
theorem IN {w : World} {b n : Nat} {cs : Array Value} {e : TypeId} (h : w.heap[b]? = some (.cells cs e (0, 0))) (hs : cs.size = n) (hn : n ≤ 1000000) : OwnS w e 1 (some ⟨b, 0, none⟩) n n cs.toList (some b) :=
  ⟨by simp [hs], .inr ⟨b, n, cs, rfl, rfl, h, Nat.le_refl _, by unfold maxLen; omega, by simp [hs], by rw [Nat.mul_one, ← hs]; exact List.take_of_length_le (by simp)⟩⟩
theorem IV {D : List Nat} {xs : List Value} {i j : Nat} {v : Value} (h : xs.drop i = iF D) (hj : (iF D)[j]? = some v) : xs[i + j]? = some v := by rw [← h, List.getElem?_drop] at hj; exact hj
theorem tz16_ok {w : World} (ht : Tab64 w) : Calls Tryz.prog 182 #[.int .u64 16] w (Ret fun v w' => v = iv 4 ∧ Evo [] w w') := by
  refine bJ (N := 14) Tryz.func182 rfl rfl rfl ?_; refine aE (aB (aM (aC (aA (aE (aE (aB (aG ?_)))))))); refine aF (fI (r := .bool false) rfl rfl (fun w => by kernel_rfl)) ?_; refine aC (aA (cO rfl ?_)); refine aU (aA (aE (aB (aG (aG ?_))))); refine aF (ex_unR (a := .int .u64 16) (r := .int .u64 18446744073709551600) rfl (fun w => by kernel_rfl)) ?_; refine aF (fI (r := .int .u64 16) rfl rfl (fun w => by kernel_rfl)) ?_; refine aF (fI (r := .int .u64 4573923408821661840) rfl rfl (fun w => by kernel_rfl)) ?_; refine aF (fI (r := .int .u64 15) rfl rfl (fun w => by kernel_rfl)) ?_; refine aF (jZ (n := 15) rfl rfl Tryz.underlying205 rfl (by decide) mQ) ?_; refine aF (aI (v := .int .u8 4) rfl OM (ht 15 (by decide))) ?_; refine aF (kH 4 rfl Tryz.underlying5 Tryz.underlying3 rfl (by decide)) ?_; refine aM (aC (aA (aO (br1 ?_)))); exact ⟨rfl, (Evo.refl [] w)⟩
theorem OX {w : World} (ht : Tab64 w) : Calls Tryz.prog 168 #[.int .u64 16] w (Ret fun v w' => v = iv 4 ∧ Evo [] w w') := by
  refine bJ (N := 8) Tryz.func168 rfl rfl rfl ?_; refine aE (aB (aM (aC (aA (aE (cO rfl ?_)))))); refine aU (aA (aE (aB (aG (aK (vs := [_]) DX rfl (tz16_ok ht) rfl ?_))))); rintro _ w1 ⟨rfl, hw2⟩; refine aM (aC (aA (aO (br1 ?_)))); exact ⟨rfl, ((Evo.refl [] w).then hw2)⟩
theorem PZ {w : World} : Calls Tryz.prog 167 #[.int .i64 16] w (Ret fun v w' => v = .bool true ∧ Evo [] w w') := by
  refine bJ (N := 8) Tryz.func167 rfl rfl rfl ?_; refine aE (aB (aM (aC (aA (aE (aB (aG (aG ?_)))))))); refine aF (fI (r := .int .i64 15) rfl rfl (fun w => by kernel_rfl)) ?_; refine aF (fI (r := .int .i64 0) rfl rfl (fun w => by kernel_rfl)) ?_; refine aF (fI (r := .bool true) rfl rfl (fun w => by kernel_rfl)) ?_; refine aM (aC (aA (aO (br1 ?_)))); exact ⟨rfl, (Evo.refl [] w)⟩
theorem SX {w : World} (ht : Tab64 w) (N : Nat) (hN : N < 16 ^ 8) (hg : gTz < w.heap.size) : Calls Tryz.prog 157 #[.slice none 0 0, .int .u64 (N : Nat), .int .i64 16, .bool false, .bool false] w (Ret fun v w' => v = .tuple #[.slice none 0 0, .string (bstr (hexL N))] ∧ Evo [] w w') := by
  refine bJ (N := 102) Tryz.func157 rfl rfl rfl ?_; refine aE (aB (aM (aM (aC (aA (aE (aE (aB (aG ?_))))))))); refine aF (fI (r := .bool false) rfl rfl (fun w => by kernel_rfl)) ?_; refine aG (aQ (aG (aQ ?_))); refine aF (fI (r := .bool false) rfl rfl (fun w => by kernel_rfl)) ?_; refine aR (aG (aQ (aG (aQ ?_)))); refine aF (fI (r := .bool false) rfl rfl (fun w => by kernel_rfl)) ?_; refine aR (aC (aA (cO rfl ?_))); refine aU (aA (aE (aB (dA rfl DO fun ba w1 hB2 hs3 hw4 => ?_)))); have hsz_ba := hs3; have hG5 := Ge.new (Evo.refl [] w) hs3; refine aC (aA (aE (aB (aM (aC (aA (aE (aE (aB (aG (aC (aA (cO rfl ?_))))))))))))); refine aU (aA (aE (aE (aB (aG (aK (vs := [_]) DZ rfl (PZ) rfl ?_)))))); rintro _ w7 ⟨rfl, hw8⟩; have hE9 := ((Evo.refl [] w).then hw4).then hw8; refine aC (aA (cV rfl ?_)); refine aE (aB (aG ?_)); refine aF (kH 16 rfl Tryz.underlying3 Tryz.underlying181 rfl (by decide)) ?_; refine aK (vs := [_]) DY rfl (OX (ht.evo hE9 (by simp))) rfl ?_; rintro _ w11 ⟨rfl, hw12⟩; refine aF (kH 4 rfl Tryz.underlying3 Tryz.underlying181 rfl (by decide)) ?_; refine aM ?_
  refine aC (aA (aE (aB (aG ?_)))); refine aF (kH 16 rfl Tryz.underlying3 Tryz.underlying176 rfl (by decide)) ?_; refine aM (aC (aA (aE (aB (aG ?_))))); refine aF (kH 16 rfl Tryz.underlying3 Tryz.underlying181 rfl (by decide)) ?_; refine aF (fI (r := .int .u64 15) rfl rfl (fun w => by kernel_rfl)) ?_; refine aM (aC (aA (aE (bR ?_))))
  refine eV (α := FbG) (⟨N, 65, 8, [], _⟩) (fun x => [(1, .int .u64 (x.u : Nat)), (13, .int .i64 (x.i : Nat))]) [(0, _), (3, _), (4, _), (10, _), (11, _), (12, _), (14, _), (15, _), (16, _)] (fun x wr => Evo [] w wr ∧ (FbI w wr ba N x)) (fun x => x.u) ⟨rfl, rfl, trivial⟩ ⟨rfl, rfl, rfl, rfl, rfl, rfl, rfl, rfl, rfl, trivial⟩ ⟨(hE9.then hw12), ⟨IN (hw12.blk0 (hw8.blk0 hB2)) rfl (by decide), rfl, rfl, (by show 1 ≤ 8; decide), hN, (List.append_nil _).symm, rfl, hG5⟩⟩ ?_
  rintro ⟨u, i, f, D, xs⟩ wr15 ⟨hV16, ⟨hown, hi, hf, h1, hu, heq, hcs, hge⟩⟩; show CW _ _ _ _ [(1, .int .u64 (u : Nat)), (13, .int .i64 (i : Nat)), (0, _), (3, _), (4, _), (10, _), (11, _), (12, _), (14, _), (15, _), (16, _)] _
  try dsimp only at hown
  try dsimp only at hi
  try dsimp only at hf
  try dsimp only at h1
  try dsimp only at hu
  try dsimp only at heq
  try dsimp only at hcs
  try dsimp only at hge
  have hlx0 : xs.length = 65 := by have := hown.length; omega
  have hu64 : u < 16 ^ 8 := Nat.lt_of_lt_of_le hu (Nat.pow_le_pow_right (by decide) (by omega)); replace hu64 : u < 4294967296 := hu64; refine aE (aE (aB (aG (aG (aF (gC rfl rfl) ?_))))); refine aC (aA (bF rfl (fun hc46 => ?_) (fun hc46 => ?_)))
  ·obtain ⟨f', rfl⟩ : ∃ f', f = f' + 2 := ⟨f - 2, by have h9 : f ≠ 1 := fun h9 => (by subst h9; simp at hu; omega); omega⟩
   refine aU (aA (bR (aE (aB (aG ?_))))); refine aF (gK rfl rfl (by omega) (by omega)) ?_; rw [show ((i : Nat) : Int) - 1 = ((i - 1 : Nat) : Int) by omega]; refine aM (aC (aA (aE (aB (aG (aG (aG ?_)))))))
   refine aF (kA (m := u) (n := 15) rfl rfl rfl rfl rfl (by show u < 2 ^ 64; omega) (by decide)) ?_
   refine aF (fL (s := TN) (n := u &&& 15) rfl rfl Tryz.underlying9 rfl (by rw [UD]; show u % 16 < 36; omega)) ?_
   refine aF (jZ (n := i - 1) rfl rfl Tryz.underlying187 (by omega) (by omega) mQ) ?_
   obtain ⟨g26, cur17, hg18, hx19, hcu20, hcs21, -⟩ := hown.at (by omega)
   cases hx19; refine sR rfl rfl (rfl) mQ hcu20 (hown.inb hcs21 (k := (i - 1)) (j := 0) (by omega) (by omega) (by omega)) fun w22 hB23 hw24 => ?_; replace hw24 := sY hg18 hw24; refine aC (aA (aB (aG (aG ?_)))); refine aF (jY (m := u) (n := 4) rfl rfl rfl rfl (by decide)) ?_; refine aM (aC (aW (bY ?_))); refine ⟨⟨u / 2 ^ 4, i - 1, f' + 1, hx (u % 16) :: D, xs.set (0 + (i - 1) * 1) (.int .u8 ((sb TN (u &&& 15) : Nat) : Int))⟩, ?_, ⟨rfl, rfl, trivial⟩, ⟨rfl, rfl, rfl, rfl, rfl, rfl, rfl, rfl, rfl, trivial⟩, (hV16.step hw24 hge.mem), ?_⟩
   · (try dsimp only); show u / 16 < u; omega
   try dsimp only
   have hdv : u / 2 ^ 4 = u / 16 := rfl
   refine ⟨(hown.set' hg18 hcu20 hB23), (by show i - 1 + (D.length + 1) = 65; omega), (by show f' + 1 + (D.length + 1) = 8; omega), (by show 1 ≤ f' + 1; omega), ?_, ?_, ?_, hge⟩
   · rw [hdv]; exact Nat.div_lt_of_lt_mul (by rw [Nat.pow_succ] at hu; rw [Nat.mul_comm]; exact hu)
   · rw [heq, LU (by omega), hdv]; simp
   · have h8 := SY (d := hx (u % 16)) hlx0 hi (by omega) hcs; rw [← xB (u % 16) (by omega), ← UD] at h8; rw [show 0 + (i - 1) * 1 = i - 1 by omega, ← xB (u % 16) (by omega), ← UD]; exact h8
  refine dO (cD (cD (dN (aA ?_)))); refine aE ?_; have hD0 := hcs; refine aB (aG ?_); refine aF (gK rfl rfl (by omega) (by omega)) ?_; rw [show ((i : Nat) : Int) - 1 = ((i - 1 : Nat) : Int) by omega]; refine aM (aC (aA (aB (aG (aG ?_)))))
  refine aF (fL (s := TN) (n := u) rfl rfl Tryz.underlying9 rfl (by show u < 36; omega)) ?_
  refine aF (jZ (n := i - 1) rfl rfl Tryz.underlying187 (by omega) (by omega) mQ) ?_
  obtain ⟨g37, cur28, hg29, hx30, hcu31, hcs32, -⟩ := hown.at (by omega)
  cases hx30; refine sR rfl rfl (rfl) mQ hcu31 (hown.inb hcs32 (k := (i - 1)) (j := 0) (by omega) (by omega) (by omega)) fun w33 hB34 hw35 => ?_; replace hw35 := sY hg29 hw35; refine aC (aA (aE (aE (aB (aG (aC (aA (cO rfl ?_)))))))); refine aU (aA (aE (aE (aB (aG (aC (aA (cO rfl ?_)))))))); refine aU (aA (aE ?_)); have hO30 := (hown.set' hg29 hcu31 hB34); rw [show 0 + (i - 1) * 1 = i - 1 by omega] at hO30; obtain ⟨g9, hg9, ha9, hcell⟩ := hO30.cells (by omega); cases hg9
  have hlx : xs.length = 65 := by have := hown.length; omega
  have hdrop := SY (d := hx u) hlx hi (by omega) hcs; rw [← xB u (by omega)] at hdrop; refine aB (aG ?_); refine aF (JI (l := i - 1) rfl rfl Tryz.underlying187 mQ (by omega) (by omega)) ?_
  refine aF (zQ (l := sb TN u :: D) rfl Tryz.underlying78 Tryz.underlying5 Tryz.underlying9 (by simp; omega) (fun j v hj => by have h8 := hcell _ _ (IV hdrop hj); rw [Nat.mul_one]; rw [Nat.zero_add] at h8; exact h8)) ?_
  refine aM (aC (aA (aO (dC rfl rfl rfl ?_)))); refine ⟨?_, (hV16.step hw35 hge.mem)⟩
  rw [heq, CK (by omega), ← xB u (by omega)]; rfl
theorem ifmt_ok {w : World} (ht : Tab64 w) (N : Nat) (hN : N < 16 ^ 8) (hg : gTz < w.heap.size) : Calls Tryz.prog 140 #[.int .i64 (N : Nat), .int .i64 16] w (Ret fun v w' => v = .string (bstr (hexL N)) ∧ Evo [] w w') := by
  have hN2 : N < 4294967296 := hN; refine bJ (N := 54) Tryz.func140 rfl rfl rfl ?_; refine aE (aB (aM (aC (aA (aE (aE (aB (aG ?_)))))))); refine aF (fI (r := .bool false) rfl rfl (fun w => by kernel_rfl)) ?_; refine aC (aA (cO rfl ?_)); refine aU (aA (aE (aB (aG ?_))))
  refine aF (kH N rfl Tryz.underlying2 Tryz.underlying176 rfl (by show ((N : Nat) : Int) ≤ 18446744073709551615; omega)) ?_
  refine aG (aG (aF (dF rfl rfl) ?_)); rw [show decide (((N : Nat) : Int) < 0) = false from decide_eq_false (by omega)]; refine aK (vs := [_, _, _, _, _]) EB rfl (SX (ht.evo (Evo.refl [] w) (by simp)) N hN (Nat.lt_of_lt_of_le hg (Evo.refl [] w).size)) rfl ?_; rintro _ w1 ⟨rfl, hw2⟩; refine aG (aF (cN rfl rfl) ?_); refine aF (cN rfl rfl) ?_; refine aM (aM (aC (aA (aE (aB (aG (aM (aC (aA (aO (br1 ?_))))))))))); exact ⟨rfl, ((Evo.refl [] w).then hw2)⟩
theorem SU {w : World} (ht : Tab64 w) (N : Nat) (hN : N < 16 ^ 8) : Calls Tryz.prog 123 #[.int .i64 (N : Nat), .int .i64 16] w (Ret fun v w' => v = .string (bstr (hexL N)) ∧ Evo [] w w') := by
  have hg : gTz < w.heap.size := World.block_lt_of_cell? w _ (ht 0 (by decide)); refine bJ (N := 8) Tryz.func123 rfl rfl rfl ?_; refine aE (aB (aM (aC (aA (aE (aB (aG (aG ?_)))))))); refine aK (vs := [_, _]) EI rfl (ifmt_ok (ht.evo (Evo.refl [] w) (by simp)) N hN (Nat.lt_of_lt_of_le hg (Evo.refl [] w).size)) rfl ?_; rintro _ w1 ⟨rfl, hw2⟩; refine aM (aC (aA (aO (br1 ?_)))); exact ⟨rfl, ((Evo.refl [] w).then hw2)⟩
theorem ET : Build Tryz.prog 58 #[(0, 1)] #[.int .i64 0] := ⟨_, .agg #[.int .i64 0], Tryz.underlying58, by kernel_rfl, rfl, fun w => by kernel_rfl⟩
abbrev flt (e : Int) : Value := .iface 58 (.agg #[iv e])
theorem eO {w : World} (e : Int) : Calls Tryz.prog 37 #[iv e] w (RetP (fun _ _ => False) (fun v w' => v = flt e ∧ Evo [] w w')) := by
  refine bJ (N := 5) Tryz.func37 rfl rfl rfl ?_; refine aB (aG (jF rfl (eN (vs := [(0, _)]) ET rfl (cells := [_]) rfl) ?_)); refine jF rfl (TE rfl (fun w => by kernel_rfl)) ?_; refine OO rfl ?_; exact TY ⟨rfl, (Evo.refl [] w)⟩
end Go.Proofs.YtljadkcojnlioaaGreatDoor
namespace Go.Proofs.YtljadkcojnlioaaGreatDoor
open Go.RowKit Go.W
inductive Good : Rx → Prop
  | mk {x : Rx} : NodeP x → (x.kind = 7 → 1 ≤ x.cap ∧ x.cap ≤ 100) → (∀ k, k ∈ x.kids → Good k) → Good x
theorem Good.node {x : Rx} (h : Good x) : NodeP x := by cases h; assumption
theorem Good.capb {x : Rx} (h : Good x) : x.kind = 7 → 1 ≤ x.cap ∧ x.cap ≤ 100 := by cases h; assumption
theorem Good.kid {x : Rx} (h : Good x) : ∀ k, k ∈ x.kids → Good k := by cases h; assumption
structure In where
  op : Int
  out : Int
  alt : Int
  arg : Int
  rs : List (Int × Int)
def In.sp (lazy : Bool) (a b : Nat) : In := if lazy then ⟨3, b, a, 0, []⟩ else ⟨3, a, b, 0, []⟩
def Rep (B : Nat → Nat → Prop) : Nat → Nat → Nat → Prop
  | 0, a, b => a = b
  | r + 1, a, b => ∃ m, B a m ∧ Rep B r m b
def Opt (l : List In) (z : Bool) (B : Nat → Nat → Prop) (e : Nat) : Nat → Nat → Prop
  | 0, a => a = e
  | r + 1, a => ∃ m, l[a]? = some (In.sp z (a + 1) e) ∧ B (a + 1) m ∧ Opt l z B e r m
def CG (k : Int) (a : Nat) : In := ⟨if k = 13 then 9 else k - 3, (a : Int) + 1, 0, if k = 13 then 1 else 0, []⟩
mutual
def Blk (l : List In) : Rx → Nat → Nat → Prop
  | .mk k r rs mn mx lz cp nm ks, a, b =>
    (k = 1 → b = a) ∧
    (k = 2 → b = a + 1 ∧ l[a]? = some ⟨2, (a : Int) + 1, 0, 0, [(r, r)]⟩) ∧
    (k = 3 → b = a + 1 ∧ l[a]? = some (if rs = [] then ⟨11, 0, 0, 0, []⟩ else ⟨2, (a : Int) + 1, 0, 0, rs⟩)) ∧
    (k = 4 → wJ l ks a b) ∧
    (k = 5 → EV l ks a b) ∧
    (k = 6 → ∃ m, Rep (wJ l ks) mn.toNat a m ∧ (mx = -1 → ∃ m', l[m]? = some (In.sp lz (m + 1) b) ∧ wJ l ks (m + 1) m' ∧ l[m']? = some ⟨10, (m : Int), 0, 0, []⟩ ∧ b = m' + 1) ∧
      (mx ≠ -1 → Opt l lz (wJ l ks) b (mx - mn).toNat m)) ∧
    (k = 7 → ∃ m, l[a]? = some ⟨4, (a : Int) + 1, 0, 2 * cp, []⟩ ∧ wJ l ks (a + 1) m ∧ l[m]? = some ⟨4, (m : Int) + 1, 0, 2 * cp + 1, []⟩ ∧ b = m + 1) ∧
    (8 ≤ k → b = a + 1 ∧ l[a]? = some (CG k a))
def wJ (l : List In) : List Rx → Nat → Nat → Prop
  | [], a, b => a = b
  | x :: xs, a, b => ∃ m, Blk l x a m ∧ wJ l xs m b
def EV (l : List In) : List Rx → Nat → Nat → Prop
  | [], _, _ => False
  | x :: xs, a, b => (xs = [] → Blk l x a b) ∧ (xs ≠ [] → ∃ m, l[a]? = some (In.sp false (a + 1) (m + 1)) ∧ Blk l x (a + 1) m ∧ l[m]? = some ⟨10, (b : Int), 0, 0, []⟩ ∧ EV l xs (m + 1) b)
end
def InR (c : Int) (l : List (Int × Int)) : Prop := ∃ g, g ∈ l ∧ g.1 ≤ c ∧ c ≤ g.2
def EY (c : Int) : Prop := (48 ≤ c ∧ c ≤ 57) ∨ (65 ≤ c ∧ c ≤ 90) ∨ (97 ≤ c ∧ c ≤ 122) ∨ c = 95
def Bef (rs : List Int) (i : Nat) : Prop := 0 < i ∧ ∃ c, rs[i - 1]? = some c ∧ EY c
def Aft (rs : List Int) (i : Nat) : Prop := ∃ c, rs[i]? = some c ∧ EY c
def Plc (rs : List Int) (k : Int) (i : Nat) : Prop :=
  (k = 8 ∧ i = 0) ∨ (k = 9 ∧ i = rs.length) ∨ (k = 10 ∧ (i = 0 ∨ rs[i - 1]? = some 10)) ∨ (k = 11 ∧ (i = rs.length ∨ rs[i]? = some 10)) ∨ (k = 12 ∧ ¬ (Bef rs i ↔ Aft rs i)) ∨ (k = 13 ∧ (Bef rs i ↔ Aft rs i))
def It (R : Nat → Nat → Prop) : Nat → Nat → Nat → Prop
  | 0, i, j => i = j
  | c + 1, i, j => ∃ k, R i k ∧ It R c k j
mutual
def Mt (rs : List Int) : Rx → Nat → Nat → Prop
  | .mk k r g mn mx lz cp nm ks, i, j =>
    (k = 1 ∧ i = j) ∨ (k = 2 ∧ j = i + 1 ∧ rs[i]? = some r) ∨ (k = 3 ∧ j = i + 1 ∧ ∃ c, rs[i]? = some c ∧ InR c g) ∨ (k = 4 ∧ Mts rs ks i j) ∨ (k = 5 ∧ MtA rs ks i j) ∨
    (k = 6 ∧ ∃ c, mn.toNat ≤ c ∧ (mx = -1 ∨ c ≤ mx.toNat) ∧ It (Mts rs ks) c i j) ∨ (k = 7 ∧ Mts rs ks i j) ∨ (8 ≤ k ∧ i = j ∧ Plc rs k i)
def Mts (rs : List Int) : List Rx → Nat → Nat → Prop
  | [], i, j => i = j
  | x :: xs, i, j => ∃ k, Mt rs x i k ∧ Mts rs xs k j
def MtA (rs : List Int) : List Rx → Nat → Nat → Prop
  | [], _, _ => False
  | x :: xs, i, j => Mt rs x i j ∨ MtA rs xs i j
end
theorem It.add {R : Nat → Nat → Prop} {a b : Nat} : ∀ {i j}, It R (a + b) i j ↔ ∃ k, It R a i k ∧ It R b k j := by
  induction a with
  | zero => intro i j; simp only [Nat.zero_add, It]; constructor; exact fun h => ⟨i, rfl, h⟩; rintro ⟨k, rfl, h⟩; exact h
  | succ a ih =>
    intro i j
    rw [show a + 1 + b = (a + b) + 1 from by omega]
    simp only [It]
    constructor
    · rintro ⟨k, h1, h2⟩
      obtain ⟨m, h3, h4⟩ := ih.1 h2
      exact ⟨m, ⟨k, h1, h3⟩, h4⟩
    · rintro ⟨m, ⟨k, h1, h3⟩, h4⟩
      exact ⟨k, h1, ih.2 ⟨m, h3, h4⟩⟩
def jQ (rs : List Int) (c : In) (i : Nat) : Prop := c.op = 3 ∨ c.op = 4 ∨ c.op = 10 ∨ (5 ≤ c.op ∧ c.op ≤ 8 ∧ Plc rs (c.op + 3) i) ∨ (c.op = 9 ∧ Plc rs (if c.arg = 0 then 12 else 13) i)
def Eps (l : List In) (rs : List Int) (i p q : Nat) : Prop := ∃ c, l[p]? = some c ∧ jQ rs c i ∧ ((q : Int) = c.out ∨ (c.op = 3 ∧ (q : Int) = c.alt))
def Eat (l : List In) (rs : List Int) (i p q : Nat) : Prop := ∃ c, l[p]? = some c ∧ c.op = 2 ∧ (q : Int) = c.out ∧ ∃ r, rs[i]? = some r ∧ InR r c.rs
def HV (l : List In) (rs : List Int) (p i q j : Nat) : Prop := (j = i ∧ Eps l rs i p q) ∨ (j = i + 1 ∧ Eat l rs i p q)
inductive Way (l : List In) (rs : List Int) (a b q j : Nat) : Nat → Nat → Prop
  | nil : Way l rs a b q j q j
  | cons {p i p' i' : Nat} : a ≤ p → p < b → HV l rs p i p' i' → Way l rs a b q j p' i' → Way l rs a b q j p i
variable {l : List In} {rs : List Int}
theorem Way.mono {a b c d q j p i : Nat} (h : Way l rs c d q j p i) (h1 : a ≤ c) (h2 : d ≤ b) : Way l rs a b q j p i := by
  induction h with
  | nil => exact .nil
  | cons ha hb hs _ ih => exact .cons (by omega) (by omega) hs ih
theorem Way.trans {a b q j m k p i : Nat} (h : Way l rs a b m k p i) (h1 : Way l rs a b q j m k) : Way l rs a b q j p i := by
  induction h with
  | nil => exact h1
  | cons ha hb hs _ ih => exact .cons ha hb hs ih
theorem Way.done {a b q j i : Nat} (h : Way l rs a b q j b i) : q = b ∧ i = j := by
  cases h with
  | nil => exact ⟨rfl, rfl⟩
  | cons ha hb => omega
def UQ (l : List In) (rs : List Int) (a b : Nat) : Prop := ∀ p i q j, a ≤ p → p < b → HV l rs p i q j → a ≤ q ∧ q ≤ b
theorem Way.cut {a b c d j p i : Nat} (h : Way l rs a b b j p i) (hc : UQ l rs c d) (h1 : a ≤ c) (h2 : d ≤ b) (h3 : c ≤ p) (h4 : p ≤ d) : ∃ k, Way l rs c d d k p i ∧ Way l rs a b b j d k := by
  induction h with
  | nil => obtain rfl : b = d := by omega
           exact ⟨_, .nil, .nil⟩
  | cons ha hb hs hw ih =>
    rename_i p i p' i'
    by_cases e : p = d
    · subst e; exact ⟨i, .nil, .cons ha hb hs hw⟩
    · obtain ⟨h5, h6⟩ := hc _ _ _ _ h3 (by omega) hs
      obtain ⟨k, h7, h8⟩ := ih h5 h6
      exact ⟨k, .cons h3 (by omega) hs h7, h8⟩
structure Leads (l : List In) (rs : List Int) (a b : Nat) (R : Nat → Nat → Prop) : Prop where
  le : a ≤ b
  cl : UQ l rs a b
  way : ∀ i j, Way l rs a b b j a i ↔ R i j
theorem Leads.congr {a b : Nat} {R S : Nat → Nat → Prop} (h : Leads l rs a b R) (e : ∀ i j, R i j ↔ S i j) : Leads l rs a b S := ⟨h.le, h.cl, fun i j => (h.way i j).trans (e i j)⟩
theorem rW (a : Nat) : Leads l rs a a (fun i j => i = j) := ⟨Nat.le_refl _, fun p i q j h1 h2 => by omega, fun i j => ⟨fun h => h.done.2, fun h => h ▸ .nil⟩⟩
theorem tG {a i q j : Nat} {c : In} (h : l[a]? = some c) (hs : HV l rs a i q j) : (j = i ∧ jQ rs c i ∧ ((q : Int) = c.out ∨ (c.op = 3 ∧ (q : Int) = c.alt))) ∨ (j = i + 1 ∧ c.op = 2 ∧ (q : Int) = c.out ∧ ∃ r, rs[i]? = some r ∧ InR r c.rs) := by
  rcases hs with ⟨rfl, c', hc, h1, h2⟩ | ⟨rfl, c', hc, h1, h2⟩
  · rw [h] at hc; cases hc; exact .inl ⟨rfl, h1, h2⟩
  · rw [h] at hc; cases hc; exact .inr ⟨rfl, h1, h2⟩
theorem nT {a : Nat} {c : In} (h : l[a]? = some c) (h1 : c.op = 3 → False) (h2 : c.out = (a : Int) + 1 ∨ c.op = 11) :
    Leads l rs a (a + 1) (fun i j => (j = i ∧ jQ rs c i) ∨ (j = i + 1 ∧ c.op = 2 ∧ ∃ r, rs[i]? = some r ∧ InR r c.rs)) := by
  have h11 : c.op = 11 → ∀ i, ¬ jQ rs c i := fun h i hg => by unfold jQ at hg; omega
  have hout : ∀ {q i}, jQ rs c i ∨ c.op = 2 → (q : Int) = c.out → q = (a : Int) + 1 := fun hg e => by
    rcases h2 with h2 | h2
    · omega
    · rcases hg with hg | hg
      · exact (h11 h2 _ hg).elim
      · omega
  refine ⟨by omega, fun p i q j hp hp' hs => ?_, fun i j => ⟨fun hw => ?_, fun hr => ?_⟩⟩
  · obtain rfl : p = a := by omega
    rcases tG h hs with ⟨rfl, hg, h3 | ⟨h3, -⟩⟩ | ⟨rfl, h3, h4, -⟩
    · have := hout (.inl hg) h3; omega
    · exact (h1 h3).elim
    · have := hout (i := i) (.inr h3) h4; omega
  · cases hw with
    | cons ha hb hs hw =>
      rcases tG h hs with ⟨rfl, hg, h3 | ⟨h3, -⟩⟩ | ⟨rfl, h3, h4, h5⟩
      · rename_i p' _
        obtain rfl : p' = a + 1 := by have := hout (.inl hg) h3; omega
        obtain ⟨-, rfl⟩ := hw.done
        exact .inl ⟨rfl, hg⟩
      · exact (h1 h3).elim
      · rename_i p'
        obtain rfl : p' = a + 1 := by have := hout (i := i) (.inr h3) h4; omega
        obtain ⟨-, rfl⟩ := hw.done
        exact .inr ⟨rfl, h3, h5⟩
  · rcases hr with ⟨rfl, hg⟩ | ⟨rfl, h3, h5⟩
    · refine .cons (Nat.le_refl _) (by omega) (.inl ⟨rfl, c, h, hg, .inl ?_⟩) .nil
      rcases h2 with h2 | h2
      · omega
      · exact (h11 h2 _ hg).elim
    · refine .cons (Nat.le_refl _) (by omega) (.inr ⟨rfl, c, h, h3, ?_, h5⟩) .nil
      omega
theorem nS {a m b : Nat} {R S : Nat → Nat → Prop} (h1 : Leads l rs a m R) (h2 : Leads l rs m b S) : Leads l rs a b (fun i j => ∃ k, R i k ∧ S k j) := by
  have e1 := h1.le
  have e2 := h2.le
  refine ⟨by omega, fun p i q j hp hp' hs => ?_, fun i j => ⟨fun hw => ?_, ?_⟩⟩
  · by_cases e : p < m
    · have := h1.cl p i q j hp e hs; omega
    · have := h2.cl p i q j (by omega) hp' hs; omega
  · obtain ⟨k, w1, w2⟩ := hw.cut h1.cl (by omega) (by omega) (by omega) (by omega)
    obtain ⟨k', w3, w4⟩ := w2.cut h2.cl (by omega) (by omega) (by omega) (by omega)
    obtain ⟨-, rfl⟩ := w4.done
    exact ⟨k, (h1.way _ _).1 w1, (h2.way _ _).1 w3⟩
  · rintro ⟨k, r1, r2⟩
    exact (((h1.way _ _).2 r1).mono (Nat.le_refl _) (by omega)).trans (((h2.way _ _).2 r2).mono (by omega) (Nat.le_refl _))
theorem AQ {B : Nat → Nat → Prop} {R : Nat → Nat → Prop} (hB : ∀ a b, B a b → Leads l rs a b R) : ∀ {n a b}, Rep B n a b → Leads l rs a b (It R n)
  | 0, a, b, h => by cases h; exact rW a
  | n + 1, a, b, ⟨m, h1, h2⟩ => nS (hB _ _ h1) (AQ hB h2)
theorem uT {z : Bool} {a x y i q j : Nat} (h : l[a]? = some (In.sp z x y)) (hs : HV l rs a i q j) : j = i ∧ (q = x ∨ q = y) := by
  rcases tG h hs with ⟨rfl, hg, h3⟩ | ⟨rfl, h3, -⟩
  · refine ⟨rfl, ?_⟩
    unfold In.sp at h3
    split at h3 <;> simp only at h3 <;> omega
  · unfold In.sp at h3
    split at h3 <;> simp only at h3 <;> omega
theorem OZ {z : Bool} {a x y i : Nat} (h : l[a]? = some (In.sp z x y)) : HV l rs a i x i := by
  refine .inl ⟨rfl, _, h, ?_, ?_⟩
  · unfold jQ In.sp; split <;> simp
  · unfold In.sp; split <;> simp
theorem IA {z : Bool} {a x y i : Nat} (h : l[a]? = some (In.sp z x y)) : HV l rs a i y i := by
  refine .inl ⟨rfl, _, h, ?_, ?_⟩
  · unfold jQ In.sp; split <;> simp
  · unfold In.sp; split <;> simp
theorem CH {a x i q j : Nat} (h : l[a]? = some ⟨10, (x : Int), 0, 0, []⟩) (hs : HV l rs a i q j) : j = i ∧ q = x := by
  rcases tG h hs with ⟨rfl, hg, h3 | ⟨h3, -⟩⟩ | ⟨rfl, h3, -⟩
  · exact ⟨rfl, by simp only at h3; omega⟩
  · simp only at h3; omega
  · simp only at h3; omega
theorem jp_in {a x i : Nat} (h : l[a]? = some ⟨10, (x : Int), 0, 0, []⟩) : HV l rs a i x i := .inl ⟨rfl, _, h, .inr (.inr (.inl rfl)), .inl rfl⟩
theorem AR {z : Bool} {B : Nat → Nat → Prop} {R : Nat → Nat → Prop} {e : Nat} (hB : ∀ a b, B a b → Leads l rs a b R) : ∀ {r a}, Opt l z B e r a → Leads l rs a e (fun i j => ∃ c, c ≤ r ∧ It R c i j)
  | 0, a, h => by
    cases h
    refine (rW _).congr fun i j => ⟨fun h => ⟨0, Nat.le_refl _, h⟩, ?_⟩
    rintro ⟨c, hc, h⟩
    obtain rfl : c = 0 := by omega
    exact h
  | r + 1, a, ⟨m, h1, h2, h3⟩ => by
    have f1 := hB _ _ h2
    have f2 := AR hB h3
    have e1 := f1.le
    have e2 := f2.le
    refine ⟨by omega, fun p i q j hp hp' hs => ?_, fun i j => ⟨fun hw => ?_, ?_⟩⟩
    · by_cases e : p = a
      · subst e; have := uT h1 hs; omega
      · by_cases e : p < m
        · have := f1.cl p i q j (by omega) e hs; omega
        · have := f2.cl p i q j (by omega) hp' hs; omega
    · cases hw with
      | nil => omega
      | cons ha hb hs hw =>
        obtain ⟨rfl, h4⟩ := uT h1 hs
        rcases h4 with rfl | rfl
        · obtain ⟨k, w1, w2⟩ := hw.cut f1.cl (by omega) (by omega) (by omega) (by omega)
          obtain ⟨k', w3, w4⟩ := w2.cut f2.cl (by omega) (by omega) (by omega) (by omega)
          obtain ⟨-, rfl⟩ := w4.done
          obtain ⟨c, hc, hi⟩ := (f2.way _ _).1 w3
          exact ⟨c + 1, by omega, k, (f1.way _ _).1 w1, hi⟩
        · obtain ⟨-, rfl⟩ := hw.done
          exact ⟨0, by omega, rfl⟩
    · rintro ⟨c, hc, hi⟩
      cases c with
      | zero => cases hi; exact .cons (Nat.le_refl _) (by omega) (IA h1) .nil
      | succ c =>
        obtain ⟨k, r1, r2⟩ := hi
        exact .cons (Nat.le_refl _) (by omega) (OZ h1) ((((f1.way _ _).2 r1).mono (by omega) (by omega)).trans (((f2.way _ _).2 ⟨c, by omega, r2⟩).mono (by omega) (Nat.le_refl _)))
theorem JA {z : Bool} {R : Nat → Nat → Prop} {a m : Nat} (h1 : l[a]? = some (In.sp z (a + 1) (m + 1))) (f1 : Leads l rs (a + 1) m R) (h2 : l[m]? = some ⟨10, (a : Int), 0, 0, []⟩) : Leads l rs a (m + 1) (fun i j => ∃ c, It R c i j) := by
  have e1 := f1.le
  have key : ∀ {j p i}, Way l rs a (m + 1) (m + 1) j p i → (p = a → ∃ c, It R c i j) ∧ (a + 1 ≤ p → p ≤ m → ∃ k c, Way l rs (a + 1) m m k p i ∧ It R c k j) := by
    intro j p i hw
    induction hw with
    | nil => exact ⟨fun h => by omega, fun _ h => by omega⟩
    | cons ha hb hs hw ih =>
      rename_i p i p' i'
      refine ⟨fun e => ?_, fun h3 h4 => ?_⟩
      · subst e
        obtain ⟨rfl, h4⟩ := uT h1 hs
        rcases h4 with rfl | rfl
        · obtain ⟨k, c, w1, w2⟩ := ih.2 (by omega) (by omega)
          exact ⟨c + 1, k, (f1.way _ _).1 w1, w2⟩
        · obtain ⟨-, rfl⟩ := hw.done
          exact ⟨0, rfl⟩
      · by_cases e : p = m
        · subst e
          obtain ⟨rfl, rfl⟩ := CH h2 hs
          obtain ⟨c, hc⟩ := ih.1 rfl
          exact ⟨_, c, .nil, hc⟩
        · have h5 := f1.cl p i p' i' h3 (by omega) hs
          obtain ⟨k, c, w1, w2⟩ := ih.2 h5.1 h5.2
          exact ⟨k, c, .cons h3 (by omega) hs w1, w2⟩
  refine ⟨by omega, fun p i q j hp hp' hs => ?_, fun i j => ⟨fun hw => (key hw).1 rfl, ?_⟩⟩
  · by_cases e : p = a
    · subst e; have := uT h1 hs; omega
    · by_cases e : p = m
      · subst e; have := CH h2 hs; omega
      · have := f1.cl p i q j (by omega) (by omega) hs; omega
  · rintro ⟨c, hc⟩
    induction c generalizing i with
    | zero => cases hc; exact .cons (Nat.le_refl _) (by omega) (IA h1) .nil
    | succ c ih =>
      obtain ⟨k, r1, r2⟩ := hc
      exact .cons (Nat.le_refl _) (by omega) (OZ h1) ((((f1.way _ _).2 r1).mono (by omega) (by omega)).trans (.cons (by omega) (by omega) (jp_in h2) (ih k r2)))
theorem NQ {R S : Nat → Nat → Prop} {a m b : Nat} (h1 : l[a]? = some (In.sp false (a + 1) (m + 1))) (f1 : Leads l rs (a + 1) m R) (h2 : l[m]? = some ⟨10, (b : Int), 0, 0, []⟩) (f2 : Leads l rs (m + 1) b S) :
    Leads l rs a b (fun i j => R i j ∨ S i j) := by
  have e1 := f1.le
  have e2 := f2.le
  refine ⟨by omega, fun p i q j hp hp' hs => ?_, fun i j => ⟨fun hw => ?_, ?_⟩⟩
  · by_cases e : p = a
    · subst e; have := uT h1 hs; omega
    · by_cases e : p = m
      · subst e; have := CH h2 hs; omega
      · by_cases e : p < m
        · have := f1.cl p i q j (by omega) (by omega) hs; omega
        · have := f2.cl p i q j (by omega) (by omega) hs; omega
  · cases hw with
    | nil => omega
    | cons ha hb hs hw =>
      obtain ⟨rfl, h4⟩ := uT h1 hs
      rcases h4 with rfl | rfl
      · obtain ⟨k, w1, w2⟩ := hw.cut f1.cl (by omega) (by omega) (by omega) (by omega)
        cases w2 with
        | nil => omega
        | cons ha hb hs hw =>
          obtain ⟨rfl, rfl⟩ := CH h2 hs
          obtain ⟨-, rfl⟩ := hw.done
          exact .inl ((f1.way _ _).1 w1)
      · obtain ⟨k, w1, w2⟩ := hw.cut f2.cl (by omega) (by omega) (by omega) (by omega)
        obtain ⟨-, rfl⟩ := w2.done
        exact .inr ((f2.way _ _).1 w1)
  · rintro (h | h)
    · exact .cons (Nat.le_refl _) (by omega) (OZ h1) ((((f1.way _ _).2 h).mono (by omega) (by omega)).trans (.cons (by omega) (by omega) (jp_in h2) .nil))
    · exact .cons (Nat.le_refl _) (by omega) (IA h1) (((f2.way _ _).2 h).mono (by omega) (by omega))
theorem mP : ∀ {ks : List Rx}, (∀ k, k ∈ ks → ∀ a b, Blk l k a b → Leads l rs a b (Mt rs k)) → ∀ {a b}, wJ l ks a b → Leads l rs a b (Mts rs ks)
  | [], _, a, b, h => by
    rw [wJ] at h; subst h
    exact (rW a).congr fun i j => by rw [Mts]
  | x :: xs, hk, a, b, h => by
    rw [wJ] at h
    obtain ⟨m, h1, h2⟩ := h
    exact (nS (hk x (by simp) _ _ h1) (mP (fun k hk' => hk k (by simp [hk'])) h2)).congr fun i j => by rw [Mts]
theorem yX : ∀ {ks : List Rx}, (∀ k, k ∈ ks → ∀ a b, Blk l k a b → Leads l rs a b (Mt rs k)) → ∀ {a b}, EV l ks a b → Leads l rs a b (MtA rs ks)
  | [], _, a, b, h => by rw [EV] at h; exact h.elim
  | x :: xs, hk, a, b, h => by
    rw [EV] at h
    obtain ⟨h1, h2⟩ := h
    by_cases e : xs = []
    · subst e
      exact (hk x (by simp) _ _ (h1 rfl)).congr fun i j => by rw [MtA, MtA]; simp
    · obtain ⟨m, h3, h4, h5, h6⟩ := h2 e
      exact (NQ h3 (hk x (by simp) _ _ h4) h5 (yX (fun k hk' => hk k (by simp [hk'])) h6)).congr fun i j => by rw [MtA]
theorem num1 {mn mx : Int} (h1 : 0 ≤ mn) (h2 : mx = -1 ∨ mn ≤ mx ∧ mx ≤ 1000) (e : ¬ mx = -1) : mn.toNat + (mx - mn).toNat = mx.toNat := by omega
theorem num2 {a b c d : Nat} (h : a + b = d) (hc : c ≤ b) : a + c ≤ d := by omega
theorem num3 {a b c d : Nat} (h : a + b = d) (h7 : a ≤ c) (h9 : c ≤ d) : c - a ≤ b := by omega
theorem num4 {k : Int} {a : Nat} (h : ¬ k = 6) : (CG k a).op = 3 → False := by unfold CG; simp only; split <;> omega
theorem num5 {k : Int} {P Q : Prop} (k2 : k ≤ 13) (e : ¬ k = 13) (e9 : ¬ k = 12) (k1 : 1 ≤ k) (e1 : ¬ k = 1) (e2 : ¬ k = 2) (e3 : ¬ k = 3) (e4 : ¬ k = 4) (e5 : ¬ k = 5) (e6 : ¬ k = 6) (e7 : ¬ k = 7) :
    (k - 3 = 3 ∨ k - 3 = 4 ∨ k - 3 = 10 ∨ (5 ≤ k - 3 ∧ k - 3 ≤ 8 ∧ P) ∨ (k - 3 = 9 ∧ Q)) ↔ P := by
  constructor
  · rintro (h | h | h | ⟨-, -, h⟩ | ⟨h, -⟩)
    · omega
    · omega
    · omega
    · exact h
    · omega
  · exact fun h => .inr (.inr (.inr (.inl ⟨by omega, by omega, h⟩)))
theorem num6 (k : Int) : k - 3 + 3 = k := by omega
theorem num7 {k : Int} (k1 : 1 ≤ k) (e1 : ¬ k = 1) (e2 : ¬ k = 2) (e3 : ¬ k = 3) (e4 : ¬ k = 4) (e5 : ¬ k = 5) (e6 : ¬ k = 6) (e7 : ¬ k = 7) : 8 ≤ k := by omega
theorem num8 {k : Int} (k1 : 1 ≤ k) (e1 : ¬ k = 1) (e2 : ¬ k = 2) (e3 : ¬ k = 3) (e4 : ¬ k = 4) (e5 : ¬ k = 5) (e6 : ¬ k = 6) (e7 : ¬ k = 7) : k - 3 = 2 → False := by omega
theorem OK {x : Rx} (hg : Good x) : ∀ a b, Blk l x a b → Leads l rs a b (Mt rs x) := by
  induction hg with
  | @mk x hn hc _ ih =>
    intro a b hb
    have k1 := hn.kind1
    have k2 := hn.kind2
    have kr := hn.rep
    obtain ⟨k, r, g, mn, mx, lz, cp, nm, ks⟩ := x
    simp only [Rx.kind, Rx.kids, Rx.min, Rx.max] at *
    rw [Blk] at hb
    obtain ⟨b1, b2, b3, b4, b5, b6, b7, b8⟩ := hb
    by_cases e1 : k = 1
    · rw [b1 e1]
      exact (rW a).congr fun i j => by rw [Mt]; subst e1; simp
    by_cases e2 : k = 2
    · obtain ⟨rfl, h⟩ := b2 e2
      refine (nT h (by simp) (.inl rfl)).congr fun i j => ?_
      rw [Mt]; subst e2
      simp [jQ, InR]
      intro _
      constructor
      · rintro ⟨r', h1, h2, h3⟩; obtain rfl : r = r' := by omega
        exact h1
      · exact fun h => ⟨r, h, Int.le_refl _, Int.le_refl _⟩
    by_cases e3 : k = 3
    · obtain ⟨rfl, h⟩ := b3 e3
      subst e3
      split at h
      · rename_i e; subst e
        refine (nT h (by simp) (.inr rfl)).congr fun i j => ?_
        rw [Mt]; simp [jQ, InR]
      · refine (nT h (by simp) (.inl rfl)).congr fun i j => ?_
        rw [Mt]; simp [jQ]
    by_cases e4 : k = 4
    · exact (mP ih (b4 e4)).congr fun i j => by rw [Mt]; subst e4; simp
    by_cases e5 : k = 5
    · exact (yX ih (b5 e5)).congr fun i j => by rw [Mt]; subst e5; simp
    by_cases e6 : k = 6
    · obtain ⟨m, h1, h2, h3⟩ := b6 e6
      obtain ⟨q1, q2, q3, q4⟩ := kr e6
      have f1 := AQ (fun a b h => mP ih h) h1
      by_cases e : mx = -1
      · obtain ⟨m', h4, h5, h6, rfl⟩ := h2 e
        refine (nS f1 (JA h4 (mP ih h5) h6)).congr fun i j => ?_
        rw [Mt]; subst e6
        simp only [Int.reduceEq, false_and, false_or, true_and, Int.reduceLE, or_false]
        constructor
        · rintro ⟨k, r1, c, r2⟩
          exact ⟨mn.toNat + c, by omega, .inl e, It.add.2 ⟨k, r1, r2⟩⟩
        · rintro ⟨c, h7, -, h8⟩
          obtain ⟨k, r1, r2⟩ := It.add.1 (show It _ (mn.toNat + (c - mn.toNat)) i j by rw [show mn.toNat + (c - mn.toNat) = c from by omega]; exact h8)
          exact ⟨k, r1, _, r2⟩
      · refine (nS f1 (AR (fun a b h => mP ih h) (h3 e))).congr fun i j => ?_
        rw [Mt]; subst e6
        have q5 : mn.toNat + (mx - mn).toNat = mx.toNat := num1 q1 q3 e
        simp only [Int.reduceEq, false_and, false_or, true_and, Int.reduceLE, or_false]
        constructor
        · rintro ⟨k, r1, c, hc, r2⟩
          exact ⟨mn.toNat + c, by omega, .inr (num2 q5 hc), It.add.2 ⟨k, r1, r2⟩⟩
        · rintro ⟨c, h7, h9, h8⟩
          replace h9 : c ≤ mx.toNat := h9.resolve_left e
          obtain ⟨k, r1, r2⟩ := It.add.1 (show It _ (mn.toNat + (c - mn.toNat)) i j by rw [show mn.toNat + (c - mn.toNat) = c from by omega]; exact h8)
          exact ⟨k, r1, _, num3 q5 h7 h9, r2⟩
    by_cases e7 : k = 7
    · obtain ⟨m, h1, h2, h3, rfl⟩ := b7 e7
      refine (nS (nT h1 (by simp) (.inl rfl)) (nS (mP ih h2) (nT h3 (by simp) (.inl rfl)))).congr fun i j => ?_
      rw [Mt]; subst e7
      simp [jQ]
    · obtain ⟨rfl, h⟩ := b8 (by omega)
      refine (nT h (num4 e6) (.inl rfl)).congr fun i j => ?_
      rw [Mt]
      simp only [e1, e2, e3, e4, e5, e6, e7, false_and, false_or]
      unfold CG jQ
      by_cases e : k = 13
      · subst e; simp; intro _; exact eq_comm
      · simp only [e, if_false]
        by_cases e9 : k = 12
        · subst e9; simp; intro _; exact eq_comm
        · rw [num6 k]
          try simp only [e, e9, if_false, false_and, or_false]
          constructor
          · rintro (⟨rfl, h⟩ | ⟨-, h, -⟩)
            · exact ⟨num7 k1 e1 e2 e3 e4 e5 e6 e7, rfl, (num5 k2 e e9 k1 e1 e2 e3 e4 e5 e6 e7).1 h⟩
            · exact (num8 k1 e1 e2 e3 e4 e5 e6 e7 h).elim
          · rintro ⟨h1, rfl, h2⟩
            exact .inl ⟨rfl, (num5 k2 e e9 k1 e1 e2 e3 e4 e5 e6 e7).2 h2⟩
end Go.Proofs.YtljadkcojnlioaaGreatDoor
namespace Go.Proofs.YtljadkcojnlioaaGreatDoor
open Go.RowKit Go.W
def jR : Int → List (Int × Int) → Prop
  | _, [] => True
  | b, g :: l => b ≤ g.1 ∧ g.1 ≤ g.2 ∧ g.2 ≤ 1114111 ∧ jR (g.2 + 2) l
abbrev sH (l : List (Int × Int)) : Prop := jR 0 l
theorem fQ {c : Int} {g : Int × Int} {l : List (Int × Int)} : InR c (g :: l) ↔ (g.1 ≤ c ∧ c ≤ g.2) ∨ InR c l := by
  constructor
  · rintro ⟨x, hx, h⟩
    cases hx with
    | head => exact .inl h
    | tail _ hx => exact .inr ⟨x, hx, h⟩
  · rintro (h | ⟨x, hx, h⟩)
    · exact ⟨g, List.mem_cons_self .., h⟩
    · exact ⟨x, List.mem_cons_of_mem _ hx, h⟩
theorem kO (c : Int) : ¬ InR c [] := by rintro ⟨g, h, -⟩; cases h
theorem mT {c : Int} {l m : List (Int × Int)} : InR c (l ++ m) ↔ InR c l ∨ InR c m := by
  constructor
  · rintro ⟨x, hx, h⟩
    rcases List.mem_append.1 hx with hx | hx
    · exact .inl ⟨x, hx, h⟩
    · exact .inr ⟨x, hx, h⟩
  · rintro (⟨x, hx, h⟩ | ⟨x, hx, h⟩)
    · exact ⟨x, List.mem_append_left _ hx, h⟩
    · exact ⟨x, List.mem_append_right _ hx, h⟩
theorem jX {c : Int} {g : Int × Int} : InR c [g] ↔ g.1 ≤ c ∧ c ≤ g.2 := by
  rw [fQ]
  exact ⟨fun h => h.elim id (fun h => (kO c h).elim), .inl⟩
theorem GB {c : Int} {l m : List (Int × Int)} (h : l.Perm m) : InR c l ↔ InR c m := by
  constructor
  · rintro ⟨x, hx, h2⟩; exact ⟨x, h.mem_iff.1 hx, h2⟩
  · rintro ⟨x, hx, h2⟩; exact ⟨x, h.mem_iff.2 hx, h2⟩
theorem mB : ∀ {l : List (Int × Int)} {b c : Int}, jR b l → InR c l → b ≤ c ∧ c ≤ 1114111
  | [], b, c, _, h => (kO c h).elim
  | g :: l, b, c, hc, h => by
    rw [jR] at hc
    rcases fQ.1 h with h | h
    · omega
    · have := mB hc.2.2.2 h; omega
theorem DD : ∀ {l : List (Int × Int)} {a b : Int}, jR b l → a ≤ b → jR a l
  | [], a, b, _, _ => trivial
  | g :: l, a, b, h, hab => by
    rw [jR] at h ⊢
    exact ⟨by omega, h.2⟩
theorem BB : ∀ {l m : List (Int × Int)} {b : Int}, jR b l → jR b m → (∀ c, InR c l ↔ InR c m) → l = m
  | [], [], b, _, _, _ => rfl
  | [], h :: m, b, hl, hm, he => by
    rw [jR] at hm
    exact (kO h.1 ((he h.1).2 (fQ.2 (.inl ⟨Int.le_refl _, hm.2.1⟩)))).elim
  | g :: l, [], b, hl, hm, he => by
    rw [jR] at hl
    exact (kO g.1 ((he g.1).1 (fQ.2 (.inl ⟨Int.le_refl _, hl.2.1⟩)))).elim
  | g :: l, h :: m, b, hl, hm, he => by
    rw [jR] at hl hm
    have h1 := (he g.1).1 (fQ.2 (.inl ⟨Int.le_refl _, hl.2.1⟩))
    have h2 := (he h.1).2 (fQ.2 (.inl ⟨Int.le_refl _, hm.2.1⟩))
    have e1 : g.1 = h.1 := by
      rcases fQ.1 h1 with h1 | h1 <;> rcases fQ.1 h2 with h2 | h2
      · omega
      · have := mB hl.2.2.2 h2; omega
      · have := mB hm.2.2.2 h1; omega
      · have := mB hl.2.2.2 h2; have := mB hm.2.2.2 h1; omega
    have e2 : g.2 = h.2 := by
      rcases Int.lt_trichotomy g.2 h.2 with c | c | c
      · have h3 := (he (g.2 + 1)).2 (fQ.2 (.inl (by omega)))
        rcases fQ.1 h3 with h3 | h3
        · omega
        · have := mB hl.2.2.2 h3; omega
      · exact c
      · have h3 := (he (h.2 + 1)).1 (fQ.2 (.inl (by omega)))
        rcases fQ.1 h3 with h3 | h3
        · omega
        · have := mB hm.2.2.2 h3; omega
    have e : g = h := Prod.ext e1 e2
    subst e
    have : l = m := BB hl.2.2.2 hm.2.2.2 fun c => by
      constructor
      · intro hc
        have h3 := mB hl.2.2.2 hc
        rcases fQ.1 ((he c).1 (fQ.2 (.inr hc))) with h4 | h4
        · omega
        · exact h4
      · intro hc
        have h3 := mB hm.2.2.2 hc
        rcases fQ.1 ((he c).2 (fQ.2 (.inr hc))) with h4 | h4
        · omega
        · exact h4
    rw [this]
theorem vG : ∀ {l : List (Int × Int)} {b : Int} {x : Int × Int}, jR b l → b ≤ x.1 → x.1 ≤ x.2 → x.2 ≤ 1114111 → (∀ g, g ∈ l → g.2 + 1 < x.1) → jR b (l ++ [x])
  | [], b, x, _, h1, h2, h3, _ => by show jR b [x]; rw [jR]; exact ⟨h1, h2, h3, trivial⟩
  | g :: l, b, x, h, h1, h2, h3, h4 => by
    rw [jR] at h
    show jR b (g :: (l ++ [x]))
    rw [jR]
    have := h4 g (List.mem_cons_self ..)
    exact ⟨h.1, h.2.1, h.2.2.1, vG h.2.2.2 (by omega) h2 h3 (fun y hy => h4 y (List.mem_cons_of_mem _ hy))⟩
theorem vH : ∀ {l : List (Int × Int)} {b : Int} {x : Int × Int}, jR b (l ++ [x]) → jR b l ∧ b ≤ x.1 ∧ x.1 ≤ x.2 ∧ x.2 ≤ 1114111 ∧ ∀ g, g ∈ l → g.2 + 1 < x.1
  | [], b, x, h => by
    have h' : jR b [x] := h
    rw [jR] at h'
    exact ⟨trivial, h'.1, h'.2.1, h'.2.2.1, fun g hg => by cases hg⟩
  | g :: l, b, x, h => by
    have h' : jR b (g :: (l ++ [x])) := h
    rw [jR] at h'
    obtain ⟨h1, h2, h3, h4, h5⟩ := vH h'.2.2.2
    refine ⟨by rw [jR]; exact ⟨h'.1, h'.2.1, h'.2.2.1, h1⟩, by omega, h3, h4, fun y hy => ?_⟩
    cases hy with
    | head => omega
    | tail _ hy => exact h5 y hy
theorem GY {out : List (Int × Int)} {g x : Int × Int} (h : sH (out ++ [g])) (h1 : g.1 ≤ x.1) (h2 : x.1 ≤ x.2) (h3 : x.2 ≤ 1114111) :
    (x.1 ≤ g.2 + 1 → sH (out ++ [(g.1, max g.2 x.2)]) ∧ ∀ c, InR c (out ++ [(g.1, max g.2 x.2)]) ↔ InR c (out ++ [g]) ∨ (x.1 ≤ c ∧ c ≤ x.2)) ∧
    (¬ x.1 ≤ g.2 + 1 → sH (out ++ [g] ++ [x]) ∧ ∀ c, InR c (out ++ [g] ++ [x]) ↔ InR c (out ++ [g]) ∨ (x.1 ≤ c ∧ c ≤ x.2)) := by
  obtain ⟨i1, i2, i3, i4, i5⟩ := vH h
  refine ⟨fun hx => ⟨vG i1 i2 (by show g.1 ≤ max g.2 x.2; omega) (by show max g.2 x.2 ≤ _; omega) i5, fun c => ?_⟩, fun hx => ⟨vG h (by omega) h2 h3 (fun y hy => ?_), fun c => ?_⟩⟩
  · rw [mT, mT, jX, jX]
    show _ ∨ (g.1 ≤ c ∧ c ≤ max g.2 x.2) ↔ _
    constructor
    · rintro (h | h)
      · exact .inl (.inl h)
      · by_cases hc : c ≤ g.2
        · exact .inl (.inr ⟨h.1, hc⟩)
        · exact .inr (by omega)
    · rintro ((h | h) | h)
      · exact .inl h
      · exact .inr (by omega)
      · exact .inr (by omega)
  · rcases List.mem_append.1 hy with hy | hy
    · have := i5 y hy; omega
    · rw [List.mem_singleton.1 hy]; omega
  · rw [mT, jX]
noncomputable def jP (S : Int → Prop) : List (Int × Int) := open Classical in if h : ∃ l, sH l ∧ ∀ c, InR c l ↔ S c then Classical.choose h else []
theorem rD {S : Int → Prop} {l : List (Int × Int)} (h : sH l) (h2 : ∀ c, InR c l ↔ S c) : jP S = l := by
  have hx : ∃ l, sH l ∧ ∀ c, InR c l ↔ S c := ⟨l, h, h2⟩
  unfold jP
  rw [dif_pos hx]
  have h3 := Classical.choose_spec hx
  exact BB h3.1 h fun c => (h3.2 c).trans (h2 c).symm
theorem yR {a b : Int} (h0 : 0 ≤ a) (h1 : a ≤ b) (h2 : b ≤ 1114111) : sH [(a, b)] := by
  show jR 0 [(a, b)]
  rw [jR]; exact ⟨h0, h1, h2, trivial⟩
theorem OG {c : Int} (h0 : 0 ≤ c) (h1 : c ≤ 1114111) : jP (fun x => x = c) = [(c, c)] :=
  rD (yR h0 (Int.le_refl _) h1) fun x => by rw [jX]; show c ≤ x ∧ x ≤ c ↔ x = c; omega
def oW : Int → List (Int × Int) → List (Int × Int)
  | b, [] => if b ≤ 1114111 then [(b, 1114111)] else []
  | b, g :: l => (if b < g.1 then [(b, g.1 - 1)] else []) ++ oW (g.2 + 1) l
theorem xA : ∀ {l : List (Int × Int)} {b d : Int}, 0 ≤ b → d ≤ b → jR b l → jR d (oW b l) ∧ ∀ c, InR c (oW b l) ↔ b ≤ c ∧ c ≤ 1114111 ∧ ¬ InR c l
  | [], b, d, h0, hd, _ => by
    rw [oW]
    by_cases h : b ≤ 1114111
    · rw [if_pos h]
      refine ⟨by rw [jR]; exact ⟨hd, h, Int.le_refl _, trivial⟩, fun c => ?_⟩
      rw [jX]
      exact ⟨fun h => ⟨h.1, h.2, kO c⟩, fun h => ⟨h.1, h.2.1⟩⟩
    · rw [if_neg h]
      exact ⟨trivial, fun c => ⟨fun h => (kO c h).elim, fun h => by omega⟩⟩
  | g :: l, b, d, h0, hd, hc => by
    rw [jR] at hc
    rw [oW]
    by_cases h : b < g.1
    · rw [if_pos h]
      obtain ⟨i1, i2⟩ := xA (b := g.2 + 1) (d := g.1 + 1) (by omega) (by omega) (DD hc.2.2.2 (by omega))
      refine ⟨?_, fun c => ?_⟩
      · show jR d ((b, g.1 - 1) :: oW (g.2 + 1) l)
        rw [jR]; exact ⟨hd, by show b ≤ g.1 - 1; omega, by show g.1 - 1 ≤ _; omega, by show jR (g.1 - 1 + 2) _; rw [show g.1 - 1 + 2 = g.1 + 1 by omega]; exact i1⟩
      · rw [mT, jX, i2, fQ]
        show (b ≤ c ∧ c ≤ g.1 - 1) ∨ _ ↔ _
        constructor
        · rintro (h3 | h3)
          · exact ⟨h3.1, by omega, fun h4 => by rcases h4 with h4 | h4; omega; (have := mB hc.2.2.2 h4; omega)⟩
          · exact ⟨by omega, h3.2.1, fun h4 => by rcases h4 with h4 | h4; omega; exact h3.2.2 h4⟩
        · rintro ⟨h3, h4, h5⟩
          by_cases h6 : c ≤ g.1 - 1
          · exact .inl ⟨h3, h6⟩
          · refine .inr ⟨?_, h4, fun h7 => h5 (.inr h7)⟩
            by_cases h8 : c ≤ g.2
            · exact (h5 (.inl ⟨by omega, h8⟩)).elim
            · omega
    · rw [if_neg h, List.nil_append]
      obtain ⟨i1, i2⟩ := xA (b := g.2 + 1) (d := d) (by omega) (by omega) (DD hc.2.2.2 (by omega))
      refine ⟨i1, fun c => ?_⟩
      rw [i2, fQ]
      constructor
      · rintro ⟨h3, h4, h5⟩
        exact ⟨by omega, h4, fun h6 => by rcases h6 with h6 | h6; omega; exact h5 h6⟩
      · rintro ⟨h3, h4, h5⟩
        refine ⟨?_, h4, fun h6 => h5 (.inr h6)⟩
        by_cases h8 : c ≤ g.2
        · exact (h5 (.inl ⟨by omega, h8⟩)).elim
        · omega
mutual
theorem AX : ∀ (x : Rx) (b : Int) (st st' : St), x.fine b st = some st' → Good x
  | .mk k r rs mn mx lz cp nm ks, b, st, st', h => by
    by_cases hc : st.1 + 1 ≤ 8194 ∧ (if (Rx.mk k r rs mn mx lz cp nm ks).kind = 7 then b + 1 else b) ≤ 250 ∧ NodeP (.mk k r rs mn mx lz cp nm ks) ∧ ((Rx.mk k r rs mn mx lz cp nm ks).kind = 7 → nP (Rx.mk k r rs mn mx lz cp nm ks).cap (Rx.mk k r rs mn mx lz cp nm ks).name st.2)
    · rw [mA hc] at h
      refine ⟨hc.2.2.1, fun h7 => ?_, sM ks _ _ _ _ h⟩
      obtain ⟨h1, h2, -⟩ := hc.2.2.2 h7
      omega
    · rw [tQ hc] at h; cases h
theorem sM : ∀ (l : List Rx) (k b : Int) (st st' : St), eI l k b st = some st' → ∀ x, x ∈ l → Good x
  | [], _, _, _, _, _, x, hx => by cases hx
  | y :: ys, k, b, st, st', h, x, hx => by
    rw [eI] at h
    cases hy : y.fine (b + if Brk y.kind k then 1 else 0) st with
    | none => rw [hy] at h; cases h
    | some s1 =>
      rw [hy] at h
      rcases List.mem_cons.1 hx with e | hx
      · rw [e]; exact AX y _ _ _ hy
      · exact sM ys _ _ _ _ h x hx
end
theorem Rx.Ok.good {x : Rx} (h : x.Ok) : Good x := by obtain ⟨st, h⟩ := h; exact AX _ _ _ _ h
abbrev Iv := In × Value
def Iv.cells (e : Iv) : List Value := [iv e.1.op, iv e.1.out, iv e.1.alt, iv e.1.arg, e.2]
def Has (l : List In) (a : Nat) (k : List In) : Prop := ∀ i (h : i < k.length), l[a + i]? = some k[i]
theorem Has.left {l : List In} {a : Nat} {k k' : List In} (h : Has l a (k ++ k')) : Has l a k := fun i hi => by
  rw [h i (by rw [List.length_append]; omega), List.getElem_append_left hi]
theorem Has.right {l : List In} {a : Nat} {k k' : List In} (h : Has l a (k ++ k')) : Has l (a + k.length) k' := fun i hi => by
  rw [Nat.add_assoc, h (k.length + i) (by rw [List.length_append]; omega), List.getElem_append_right (by omega)]
  simp
theorem Has.one {l : List In} {a : Nat} {c : In} (h : Has l a [c]) : l[a]? = some c := h 0 (by simp)
def Codes (x : Rx) (a : Nat) (k : List In) : Prop := ∀ l, Has l a k → Blk l x a (a + k.length)
def Pat (l : List In) (a : Nat) (k : List In) (js : List Nat) (f : Nat → In → In) : Prop := ∀ i (h : i < k.length), l[a + i]? = some (if a + i ∈ js then f (a + i) k[i] else k[i])
theorem Pat.left {l : List In} {a : Nat} {k k' : List In} {js js' : List Nat} {f : Nat → In → In} (h : Pat l a (k ++ k') (js ++ js') f) (hj : ∀ p, p ∈ js' → a + k.length ≤ p) : Pat l a k js f := fun i hi => by
  rw [h i (by rw [List.length_append]; omega), List.getElem_append_left hi]
  have : a + i ∉ js' := fun hm => by have := hj _ hm; omega
  simp [List.mem_append, this]
theorem Pat.right {l : List In} {a : Nat} {k k' : List In} {js js' : List Nat} {f : Nat → In → In} (h : Pat l a (k ++ k') (js ++ js') f) (hj : ∀ p, p ∈ js → p < a + k.length) : Pat l (a + k.length) k' js' f := fun i hi => by
  rw [Nat.add_assoc, h (k.length + i) (by rw [List.length_append]; omega), List.getElem_append_right (by omega)]
  have : a + (k.length + i) ∉ js := fun hm => by have := hj _ hm; omega
  simp [List.mem_append, this]
theorem Pat.has {l : List In} {a : Nat} {k : List In} {f : Nat → In → In} (h : Pat l a k [] f) : Has l a k := fun i hi => by rw [h i hi]; simp
def outTo (e : Nat) : Nat → In → In := fun _ c => ⟨c.op, e, c.alt, c.arg, c.rs⟩
structure AltPre (ks : List Rx) (a : Nat) (k : List In) (js : List Nat) : Prop where
  at' : ∀ p, p ∈ js → a ≤ p ∧ p < a + k.length
  blk : ∀ l e, Pat l a k js (outTo e) → ∀ rest, rest ≠ [] → EV l rest (a + k.length) e → EV l (ks ++ rest) a e
theorem AltPre.nil (a : Nat) : AltPre [] a [] [] := ⟨fun p h => (by cases h), fun l e _ rest _ h => h⟩
theorem AltPre.done {ks : List Rx} {a : Nat} {k kx : List In} {js : List Nat} {x : Rx} (h : AltPre ks a k js) (hx : Codes x (a + k.length) kx) {l : List In} (hp : Pat l a (k ++ kx) js (outTo (a + k.length + kx.length))) : EV l (ks ++ [x]) a (a + k.length + kx.length) := by
  have hp' : Pat l a (k ++ kx) (js ++ []) (outTo (a + k.length + kx.length)) := by rw [List.append_nil]; exact hp
  refine h.blk l _ (hp'.left (fun p hp => by cases hp)) [x] (by simp) ?_
  rw [EV]
  exact ⟨fun _ => hx l (hp'.right (fun p hp => (h.at' p hp).2)).has, fun h => (h rfl).elim⟩
def turnTo (z : Bool) (e : Nat) : Nat → In → In := fun p c => ⟨c.op, if z then (e : Int) else (p : Int) + 1, if z then (p : Int) + 1 else (e : Int), c.arg, c.rs⟩
def RepC (ks : List Rx) (j a : Nat) (k : List In) : Prop := ∀ l, Has l a k → Rep (wJ l ks) j a (a + k.length)
theorem RepC.nil (ks : List Rx) (a : Nat) : RepC ks 0 a [] := fun l _ => rfl
structure OptPre (z : Bool) (x : Rx) (j a : Nat) (k : List In) (js : List Nat) : Prop where
  at' : ∀ p, p ∈ js → a ≤ p ∧ p < a + k.length
  blk : ∀ l e, Pat l a k js (turnTo z e) → ∀ r, Opt l z (wJ l [x]) e r (a + k.length) → Opt l z (wJ l [x]) e (j + r) a
theorem OptPre.nil (z : Bool) (x : Rx) (a : Nat) : OptPre z x 0 a [] [] := ⟨fun p h => (by cases h), fun l e _ r h => by rw [Nat.zero_add]; exact h⟩
def Iv.outTo (e : Nat) : Nat → Iv → Iv := fun p x => (Go.Proofs.YtljadkcojnlioaaGreatDoor.outTo e p x.1, x.2)
def Iv.turnTo (z : Bool) (e : Nat) : Nat → Iv → Iv := fun p x => (Go.Proofs.YtljadkcojnlioaaGreatDoor.turnTo z e p x.1, x.2)
def dP (s : ByteArray) : Nat → Nat
  | 0 => 0
  | k + 1 => dP s k + (cE s (dP s k)).2
def runeK (s : ByteArray) (k : Nat) : Int := (cE s (dP s k)).1
def Utf (s : ByteArray) (N : Nat) : Prop := dP s N = s.size ∧ ∀ k, k < N → 0 < (cE s (dP s k)).2
def nW (s : ByteArray) (N : Nat) : List Int := (List.range N).map (runeK s)
theorem wT (s : ByteArray) (k : Nat) : dP s k ≤ s.size := by
  induction k with
  | zero => exact Nat.zero_le _
  | succ k ih =>
    rw [dP]
    rcases oA s (dP s k) with h | h
    · rw [h]; exact ih
    · exact h.2.2.2.2
theorem lI (s : ByteArray) {a b : Nat} (h : a ≤ b) : dP s a ≤ dP s b := by
  induction h with
  | refl => exact Nat.le_refl _
  | step _ ih => rw [dP]; omega
theorem offs_lt {s : ByteArray} {N a b : Nat} (h : ∀ k, k < N → 0 < (cE s (dP s k)).2) (hab : a < b) (hb : b ≤ N) : dP s a < dP s b := by
  have h1 := h a (by omega)
  have h2 : dP s (a + 1) ≤ dP s b := lI s hab
  rw [dP] at h2
  omega
theorem NP {s : ByteArray} {a : Nat} (h : 0 < (cE s a).2) : a + (cE s a).2 ≤ s.size ∧ ((cE s a).1 < 128 → (cE s a).2 = 1 ∧ (sb s a : Int) = (cE s a).1) ∧
    (128 ≤ (cE s a).1 → 128 ≤ sb s a ∧ 128 ≤ sb s (a + (cE s a).2 - 1)) ∧ 0 ≤ (cE s a).1 := by
  by_cases ha : a < s.size
  · rcases gG s a ha with ⟨w, h1, h2, h3, hh, -, h4, h5, -⟩ | ⟨h1, -⟩
    · rw [(jN h1 h2 h3 hh).1]
      refine ⟨h3, ?_, ?_, h4⟩
      all_goals
        have e : w = 1 ∨ w = 2 ∨ w = 3 ∨ w = 4 := by omega
        rcases e with rfl | rfl | rfl | rfl
        · have := (hit1 s a).1 hh
          intro hg
          rw [show dY s a 1 = (sb s a : Int) from by simp [dY]] at hg ⊢
          dsimp only
          omega
        · have := (hit2 s a).1 hh
          intro hg
          simp only [dY, if_true, show (2 : Nat) ≠ 1 from by decide, if_false, show a + 2 - 1 = a + 1 from by omega] at hg ⊢
          omega
        · have := (hit3 s a).1 hh
          intro hg
          simp only [dY, if_true, show (3 : Nat) ≠ 1 from by decide, show (3 : Nat) ≠ 2 from by decide, if_false, show a + 3 - 1 = a + 2 from by omega] at hg ⊢
          omega
        · have := (hit4 s a).1 hh
          intro hg
          simp only [dY, if_true, show (4 : Nat) ≠ 1 from by decide, show (4 : Nat) ≠ 2 from by decide, show (4 : Nat) ≠ 3 from by decide, if_false, show a + 4 - 1 = a + 3 from by omega] at hg ⊢
          omega
    · rw [mN h1] at h; cases h
  · rw [pE (by omega)] at h; cases h
def MQ (s : ByteArray) (j : Int) : Prop := 0 ≤ j ∧ j < s.size ∧ iS (sb s j.toNat)
instance (s : ByteArray) (j : Int) : Decidable (MQ s j) := by unfold MQ; infer_instance
def UO (s : ByteArray) (c : In) (i : Nat) : Prop := c.op = 3 ∨ c.op = 4 ∨ c.op = 10 ∨ (c.op = 5 ∧ i = 0) ∨ (c.op = 6 ∧ i = s.size) ∨ (c.op = 7 ∧ (i = 0 ∨ sb s (i - 1) = 10)) ∨ (c.op = 8 ∧ (i = s.size ∨ sb s i = 10)) ∨
  (c.op = 9 ∧ (¬ (MQ s ((i : Int) - 1) ↔ MQ s i) ↔ c.arg = 0))
def EpsB (l : List In) (s : ByteArray) (i p q : Nat) : Prop := ∃ c, l[p]? = some c ∧ UO s c i ∧ ((q : Int) = c.out ∨ (c.op = 3 ∧ (q : Int) = c.alt))
def Nice (c : In) : Prop := c.op ≠ 1 ∧ 0 ≤ c.out ∧ 0 ≤ c.alt ∧ c.rs.length ≤ 1048576
structure ProgOk (x : Rx) (l : List In) (n : Nat) : Prop where
  len : l.length = n + 1
  last : l[n]? = some ⟨1, 0, 0, 0, []⟩
  ops : ∀ p c, p < n → l[p]? = some c → Nice c
  blk : Blk l x 0 n
  good : Good x
section
variable {x : Rx} {l : List In} {n : Nat}
theorem ProgOk.leads (h : ProgOk x l n) (rs : List Int) : Leads l rs 0 n (Mt rs x) := OK h.good 0 n h.blk
structure RngC (m : Nat) (c : In) : Prop where
  eps : (3 ≤ c.op ∧ c.op ≤ 10) → 0 ≤ c.out ∧ c.out < m
  alt : c.op = 3 → 0 ≤ c.alt ∧ c.alt < m
  eat : c.op = 2 → (∃ r, InR r c.rs) → 0 ≤ c.out ∧ c.out < m
def Rng (l : List In) : Prop := ∀ (p : Nat) (c : In), l[p]? = some c → RngC l.length c
theorem ProgOk.rng (h : ProgOk x l n) : Rng l := fun p c hc => by
  have hlen := h.len
  by_cases hp : p < n
  · obtain ⟨h1, h2, h3, -⟩ := h.ops p c hp hc
    have key : ∀ (rs : List Int) (i : Nat), jQ rs c i → c.out < l.length := fun rs i hg => by
      have := (h.leads rs).cl p i c.out.toNat i (by omega) hp (.inl ⟨rfl, c, hc, hg, .inl (by omega)⟩)
      omega
    refine ⟨fun h4 => ⟨h2, ?_⟩, fun h5 => ⟨h3, ?_⟩, fun h4 ⟨r, hr⟩ => ⟨h2, ?_⟩⟩
    · have e : c.op = 3 ∨ c.op = 4 ∨ c.op = 10 ∨ (c.op = 5 ∨ c.op = 6 ∨ c.op = 7 ∨ c.op = 8) ∨ c.op = 9 := by omega
      rcases e with e | e | e | e | e
      · exact key [] 0 (by unfold jQ; omega)
      · exact key [] 0 (by unfold jQ; omega)
      · exact key [] 0 (by unfold jQ; omega)
      · refine key [] 0 ?_
        unfold jQ Plc
        rcases e with e | e | e | e <;> rw [e] <;> simp
      · by_cases ha : c.arg = 0
        · refine key [97] 0 ?_
          unfold jQ Plc Bef Aft
          rw [e, ha]; simp [EY]
        · refine key [] 0 ?_
          unfold jQ Plc Bef Aft
          rw [e, if_neg ha]; simp
    · have := (h.leads []).cl p 0 c.alt.toNat 0 (by omega) hp (.inl ⟨rfl, c, hc, .inl h5, .inr ⟨h5, by omega⟩⟩)
      omega
    · have := (h.leads [r]).cl p 0 c.out.toNat 1 (by omega) hp (.inr ⟨rfl, c, hc, h4, by omega, r, rfl, hr⟩)
      omega
  · have h1 := (List.getElem?_eq_some_iff.1 hc).1
    obtain rfl : p = n := by omega
    rw [h.last] at hc
    cases hc
    exact ⟨fun h => by simp at h, fun h => by simp at h, fun h => by simp at h⟩
end
inductive EpsS (l : List In) (s : ByteArray) (i : Nat) (init : List Nat) : Nat → Prop
  | base {q : Nat} : q ∈ init → EpsS l s i init q
  | step {p q : Nat} : EpsS l s i init p → EpsB l s i p q → EpsS l s i init q
structure SI (l : List In) (s : ByteArray) (i : Nat) (init ls : List Nat) (k : Nat) (out : List Nat) : Prop where
  le : k ≤ ls.length
  bound : ls.length ≤ init.length + 2 * out.length
  rng : ∀ q, q ∈ ls → q < l.length
  nd : out.Nodup
  done : ∀ j (h : j < ls.length), j < k → ls[j] ∈ out
  succ : ∀ p q, p ∈ out → EpsB l s i p q → q ∈ ls
  sound : ∀ q, q ∈ ls → EpsS l s i init q
  sub : ∀ q, q ∈ out → q ∈ ls
  init : ∀ q, q ∈ init → q ∈ ls
section
variable {l : List In} {s : ByteArray} {i : Nat} {init ls out : List Nat} {k : Nat}
theorem SI.skip (h : SI l s i init ls k out) (hk : k < ls.length) (hm : ls[k] ∈ out) : SI l s i init ls (k + 1) out where
  le := hk
  bound := h.bound
  rng := h.rng
  nd := h.nd
  done := fun j hj hjk => by
    by_cases e : j < k
    · exact h.done j hj e
    · obtain rfl : j = k := by omega
      exact hm
  succ := h.succ
  sound := h.sound
  sub := h.sub
  init := h.init
theorem SI.take (h : SI l s i init ls k out) (hk : k < ls.length) (hm : ls[k] ∉ out) {more : List Nat} (h2 : more.length ≤ 2) (hmore : ∀ q, q ∈ more ↔ EpsB l s i ls[k] q) (hr : ∀ q, q ∈ more → q < l.length) : SI l s i init (ls ++ more) (k + 1) (out ++ [ls[k]]) where
  le := by rw [List.length_append]; omega
  bound := by have := h.bound; simp only [List.length_append, List.length_cons, List.length_nil]; omega
  rng := fun q hq => by
    rcases List.mem_append.1 hq with hq | hq
    · exact h.rng q hq
    · exact hr q hq
  nd := by
    rw [List.nodup_append]
    exact ⟨h.nd, by simp, fun a ha b hb e => by rw [List.mem_singleton] at hb; subst hb; subst e; exact hm ha⟩
  done := fun j hj hjk => by
    rw [List.getElem_append_left (by omega)]
    by_cases e : j < k
    · exact List.mem_append_left _ (h.done j (by omega) e)
    · obtain rfl : j = k := by omega
      exact List.mem_append_right _ (by simp)
  succ := fun p q hp he => by
    rcases List.mem_append.1 hp with hp | hp
    · exact List.mem_append_left _ (h.succ p q hp he)
    · rw [List.mem_singleton] at hp; subst hp
      exact List.mem_append_right _ ((hmore q).2 he)
  sound := fun q hq => by
    rcases List.mem_append.1 hq with hq | hq
    · exact h.sound q hq
    · exact .step (h.sound _ (List.getElem_mem hk)) ((hmore q).1 hq)
  sub := fun q hq => by
    rcases List.mem_append.1 hq with hq | hq
    · exact List.mem_append_left _ (h.sub q hq)
    · rw [List.mem_singleton] at hq; subst hq
      exact List.mem_append_left _ (List.getElem_mem hk)
  init := fun q hq => List.mem_append_left _ (h.init q hq)
end
structure Fl where
  fold : Bool
  lines : Bool
  dots : Bool
  lazy : Bool
structure PS where
  pos : Nat
  now : Fl
  opn : Nat
  names : List ByteArray
abbrev PX (α : Type) := Except Int (α × PS)
abbrev emp : ByteArray := ByteArray.mk #[]
def rxK (k : Int) : Rx := .mk k 0 [] 0 0 false 0 emp []
def lT (c : Int) : Rx := .mk 2 c [] 0 0 false 0 emp []
def jS (l : List (Int × Int)) : Rx := .mk 3 0 l 0 0 false 0 emp []
def lS (k : Int) (l : List Rx) : Rx := .mk k 0 [] 0 0 false 0 emp l
def iY (lo hi : Int) (z : Bool) (x : Rx) : Rx := .mk 6 0 [] lo hi z 0 emp [x]
def oY (n : Int) (nm : ByteArray) (x : Rx) : Rx := .mk 7 0 [] 0 0 false n nm [x]
def oZ (k : Int) : List Rx → Rx
  | [] => rxK 1
  | [x] => x
  | l => lS k l
noncomputable def kG (S : Int → Prop) : Rx := match jP S with
  | [(a, b)] => if a = b then lT a else jS [(a, b)]
  | l => jS l
def nG (S : Int → Prop) : Int → Prop := fun c => S c ∨ (97 ≤ c ∧ c ≤ 122 ∧ S (c - 32)) ∨ (65 ≤ c ∧ c ≤ 90 ∧ S (c + 32))
def tM (S : Int → Prop) : Int → Prop := fun c => 0 ≤ c ∧ c ≤ 1114111 ∧ ¬ S c
noncomputable def lX (f : Fl) (c : Int) : Rx := kG (if f.fold = true then nG (fun x => x = c) else fun x => x = c)
def isB (s : ByteArray) (i b : Nat) : Prop := i < s.size ∧ sb s i = b
instance (s : ByteArray) (i b : Nat) : Decidable (isB s i b) := by unfold isB; infer_instance
def OD (c : Nat) : Prop := 48 ≤ c ∧ c ≤ 57
instance (c : Nat) : Decidable (OD c) := by unfold OD; infer_instance
def gX (s : ByteArray) : Nat → Nat → Int → Int × Nat
  | 0, i, n => (n, i)
  | f + 1, i, n => if i < s.size ∧ OD (sb s i) then gX s f (i + 1) (min (n * 10 + ((sb s i : Int) - 48)) 1001) else (n, i)
def kY (r : ByteArray) : Int × Int × Nat :=
  if sb r 0 = 42 then (0, -1, 1) else if sb r 0 = 43 then (1, -1, 1) else if sb r 0 = 63 then (0, 1, 1) else if sb r 0 ≠ 123 then (0, 0, 0)
  else if 1 < (gX r r.size 1 0).2 ∧ isB r (gX r r.size 1 0).2 44 then
    if isB r (gX r r.size ((gX r r.size 1 0).2 + 1) 0).2 125 then
      ((gX r r.size 1 0).1, (if (gX r r.size ((gX r r.size 1 0).2 + 1) 0).2 = (gX r r.size 1 0).2 + 1 then -1 else (gX r r.size ((gX r r.size 1 0).2 + 1) 0).1), (gX r r.size ((gX r r.size 1 0).2 + 1) 0).2 + 1)
    else (0, 0, 0)
  else if (gX r r.size 1 0).2 = 1 ∨ ¬ isB r (gX r r.size 1 0).2 125 then (0, 0, 0)
  else ((gX r r.size 1 0).1, (gX r r.size 1 0).1, (gX r r.size 1 0).2 + 1)
def hexD (c : Nat) : Option Nat := if 48 ≤ c ∧ c ≤ 57 then some (c - 48) else if 97 ≤ c ∧ c ≤ 102 then some (c - 97 + 10) else if 65 ≤ c ∧ c ≤ 70 then some (c - 65 + 10) else none
def gS (s : ByteArray) (i : Nat) : Except Int (Nat × Nat) := if i < s.size then (match hexD (sb s i) with | some d => .ok (d, i + 1) | none => .error 83) else .error 83
def kF (s : ByteArray) : Nat → Nat → Nat → Except Int (Nat × Nat)
  | 0, n, i => .error 83
  | f + 1, n, i => if isB s i 125 then .ok (n, i + 1) else match gS s i with
    | .error e => .error e
    | .ok (d, j) => if 1114111 < n * 16 + d then .error 83 else kF s f (n * 16 + d) j
def nD (s : ByteArray) (i : Nat) : Except Int (Nat × Nat) :=
  if isB s i 123 then (match gS s (i + 1) with | .error e => .error e | .ok (d, j) => kF s (s.size + 1 - j) d j)
  else match gS s i with
    | .error e => .error e
    | .ok (a, j) => match gS s j with | .error e => .error e | .ok (b, k) => .ok (a * 16 + b, k)
def wH (c : Nat) : Option Nat := if c = 97 then some 7 else if c = 102 then some 12 else if c = 116 then some 9 else if c = 110 then some 10 else if c = 114 then some 13 else if c = 118 then some 11 else none
def lP (s : ByteArray) (i : Nat) : Except Int (Nat × Nat) :=
  if s.size ≤ i + 1 then .error 83 else match wH (sb s (i + 1)) with
    | some v => .ok (v, i + 2)
    | none => if sb s (i + 1) = 120 then nD s (i + 2) else if 128 ≤ sb s (i + 1) ∨ (iS (sb s (i + 1)) ∧ sb s (i + 1) ≠ 95) then .error 83 else .ok (sb s (i + 1), i + 2)
def rs (l : List (Int × Int)) : Int → Prop := fun c => InR c l
def tO (c : Nat) : Option (Int → Prop) :=
  if c = 100 then some (rs [(48, 57)]) else if c = 115 then some (rs [(9, 10), (12, 13), (32, 32)]) else if c = 119 then some (rs [(48, 57), (65, 90), (95, 95), (97, 122)])
  else if c = 68 then some (tM (rs [(48, 57)])) else if c = 83 then some (tM (rs [(9, 10), (12, 13), (32, 32)])) else if c = 87 then some (tM (rs [(48, 57), (65, 90), (95, 95), (97, 122)])) else none
def asc (l : List Nat) : ByteArray := bstr l
def jO (n : ByteArray) : Option (Int → Prop) :=
  if n = asc [97, 108, 110, 117, 109] then some (rs [(48, 57), (65, 90), (97, 122)])
  else if n = asc [97, 108, 112, 104, 97] then some (rs [(65, 90), (97, 122)])
  else if n = asc [97, 115, 99, 105, 105] then some (rs [(0, 127)])
  else if n = asc [98, 108, 97, 110, 107] then some (rs [(9, 9), (32, 32)])
  else if n = asc [99, 110, 116, 114, 108] then some (rs [(0, 31), (127, 127)])
  else if n = asc [100, 105, 103, 105, 116] then some (rs [(48, 57)])
  else if n = asc [103, 114, 97, 112, 104] then some (rs [(33, 126)])
  else if n = asc [108, 111, 119, 101, 114] then some (rs [(97, 122)])
  else if n = asc [112, 114, 105, 110, 116] then some (rs [(32, 126)])
  else if n = asc [112, 117, 110, 99, 116] then some (rs [(33, 47), (58, 64), (91, 96), (123, 126)])
  else if n = asc [115, 112, 97, 99, 101] then some (rs [(9, 13), (32, 32)])
  else if n = asc [117, 112, 112, 101, 114] then some (rs [(65, 90)])
  else if n = asc [119, 111, 114, 100] then some (rs [(48, 57), (65, 90), (95, 95), (97, 122)])
  else if n = asc [120, 100, 105, 103, 105, 116] then some (rs [(48, 57), (65, 70), (97, 102)]) else none
def jV (s : ByteArray) (i : Nat) : Except Int (Int × Nat) :=
  if sb s i = 92 then (match lP s i with | .ok (v, j) => .ok ((v : Int), j) | .error e => .error e) else .ok ((cE s i).1, i + (cE s i).2)
def iG (s : ByteArray) (a b : Nat) : Nat → Nat → Option Nat
  | 0, _ => none
  | f + 1, j => if j + 1 < s.size ∧ sb s j = a ∧ sb s (j + 1) = b then some j else iG s a b f (j + 1)
def unS (S T : Int → Prop) : Int → Prop := fun c => S c ∨ T c
def rgS (lo hi : Int) : Int → Prop := fun c => lo ≤ c ∧ c ≤ hi
abbrev PR := Except Int ((Int → Prop) × Nat)
noncomputable def gP (s : ByteArray) (i : Nat) : PR := match jV s i with
  | .error e => .error e
  | .ok (lo, j) => if isB s j 45 ∧ j + 1 < s.size ∧ sb s (j + 1) ≠ 93 then
      (match jV s (j + 1) with | .error e => .error e | .ok (hi, k) => if hi < lo then .error 81 else .ok (rgS lo hi, k))
    else .ok (rgS lo lo, j)
noncomputable def jA (s : ByteArray) (i : Nat) : PR :=
  if i + 1 < s.size ∧ sb s i = 92 then (match tO (sb s (i + 1)) with | some S => .ok (S, i + 2) | none => gP s i) else gP s i
noncomputable def iN (s : ByteArray) (i : Nat) : PR :=
  if isB s i 91 ∧ isB s (i + 1) 58 then
    (match iG s 58 93 s.size (i + 2) with
    | none => jA s i
    | some j =>
      if i + 2 < j ∧ sb s (i + 2) = 94 then (match jO (s.extract (i + 3) j) with | none => .error 81 | some S => .ok (tM S, j + 2))
      else (match jO (s.extract (i + 2) j) with | none => .error 81 | some S => .ok (S, j + 2)))
  else jA s i
noncomputable def eE (s : ByteArray) : Nat → Bool → (Int → Prop) → Nat → PR
  | 0, _, _, _ => .error 81
  | f + 1, fst, S, i => if s.size ≤ i then .error 81 else if fst = false ∧ sb s i = 93 then .ok (S, i + 1) else match iN s i with
    | .error e => .error e
    | .ok (T, j) => eE s f false (unS S T) j
noncomputable def jH (s : ByteArray) (fl : Fl) (i : Nat) : Except Int (Rx × Nat) :=
  match eE s (s.size + 1) true (fun _ => False) (if isB s i 94 then i + 1 else i) with
  | .error e => .error e
  | .ok (S, j) => .ok (kG (if isB s i 94 then tM (if fl.fold = true then nG S else S) else if fl.fold = true then nG S else S), j)
structure Opn where
  size : Nat
  name : ByteArray
  thn : Fl
  capt : Bool
  sett : Bool
  err : Int
def gV (s : ByteArray) : Nat → Nat → Nat
  | 0, j => j
  | f + 1, j => if j < s.size ∧ iS (sb s j) then gV s f (j + 1) else j
def kU (s : ByteArray) (i h : Nat) (fl : Fl) : Opn :=
  if gV s s.size (i + h) = i + h ∨ ¬ isB s (gV s s.size (i + h)) 62 then ⟨0, emp, fl, false, false, 85⟩
  else ⟨gV s s.size (i + h) + 1 - i, s.extract (i + h) (gV s s.size (i + h)), fl, true, false, 0⟩
def iB (s : ByteArray) (i : Nat) : Nat → Nat → Bool → Int → Bool → Fl → Opn
  | 0, _, _, _, _, fl => ⟨0, emp, fl, false, false, 84⟩
  | f + 1, j, b, n, m, fl =>
    if s.size ≤ j then ⟨0, emp, fl, false, false, 84⟩
    else if sb s j = 105 then iB s i f (j + 1) b (n + 1) m { fl with fold := b }
    else if sb s j = 109 then iB s i f (j + 1) b (n + 1) m { fl with lines := b }
    else if sb s j = 115 then iB s i f (j + 1) b (n + 1) m { fl with dots := b }
    else if sb s j = 85 then iB s i f (j + 1) b (n + 1) m { fl with lazy := b }
    else if sb s j = 45 then (if m = true then ⟨0, emp, fl, false, false, 84⟩ else iB s i f (j + 1) false 0 true fl)
    else if sb s j = 58 ∨ sb s j = 41 then ⟨j + 1 - i, emp, fl, false, decide (sb s j = 41), if n = 0 then 84 else 0⟩
    else ⟨0, emp, fl, false, false, 84⟩
def eA (s : ByteArray) (i : Nat) (fl : Fl) : Opn :=
  if ¬ (isB s i 40 ∧ isB s (i + 1) 63) then ⟨1, emp, fl, true, false, 0⟩
  else if isB s (i + 2) 80 ∧ isB s (i + 3) 60 then kU s i 4 fl
  else if isB s (i + 2) 60 then kU s i 3 fl
  else if isB s (i + 2) 58 then ⟨3, emp, fl, false, false, 0⟩
  else iB s i s.size (i + 2) true 0 false fl
abbrev PL := PX (List Rx)
open Classical in
noncomputable def oH (s : ByteArray) (ex : PS → PX Rx) (st : PS) : PL :=
  let o := eA s st.pos st.now
  if o.err = 0 ∧ o.sett = true then .ok ([], { st with pos := st.pos + o.size, now := o.thn })
  else if st.opn = 250 then .error 3
  else if o.err ≠ 0 then .error o.err
  else if o.capt = true ∧ (st.names.length = 100 ∨ (o.name ≠ emp ∧ o.name ∈ st.names)) then .error 85
  else match ex ⟨st.pos + o.size, o.thn, st.opn + 1, if o.capt = true then st.names ++ [o.name] else st.names⟩ with
    | .error e => .error e
    | .ok (x, st2) => if isB s st2.pos 41 then
        .ok ([if o.capt = true then oY ((st.names.length : Int) + 1) o.name x else x], { st2 with pos := st2.pos + 1, opn := st2.opn - 1, now := st.now })
      else .error 80
noncomputable def kM (s : ByteArray) (fl : Fl) (e : Nat) : Nat → List Rx → Nat → List Rx × Nat
  | 0, l, i => (l, i)
  | f + 1, l, i => if i < e then kM s fl e f (l ++ [lX fl (cE s i).1]) (i + (cE s i).2) else (l, i)
noncomputable def mM (s : ByteArray) (st : PS) : PL := match iG s 92 69 s.size (st.pos + 2) with
  | some e => .ok ((kM s st.now e s.size [] (st.pos + 2)).1, { st with pos := (kM s st.now e s.size [] (st.pos + 2)).2 + 2 })
  | none => .ok ((kM s st.now s.size s.size [] (st.pos + 2)).1, { st with pos := (kM s st.now s.size s.size [] (st.pos + 2)).2 })
noncomputable def fV (s : ByteArray) (st : PS) : PL :=
  if s.size ≤ st.pos + 1 then .error 83
  else if sb s (st.pos + 1) = 65 then .ok ([rxK 8], { st with pos := st.pos + 2 })
  else if sb s (st.pos + 1) = 122 then .ok ([rxK 9], { st with pos := st.pos + 2 })
  else if sb s (st.pos + 1) = 98 then .ok ([rxK 12], { st with pos := st.pos + 2 })
  else if sb s (st.pos + 1) = 66 then .ok ([rxK 13], { st with pos := st.pos + 2 })
  else if sb s (st.pos + 1) = 81 then mM s st
  else match tO (sb s (st.pos + 1)) with
    | some S => .ok ([kG S], { st with pos := st.pos + 2 })
    | none => match lP s st.pos with
      | .error e => .error e
      | .ok (v, j) => .ok ([lX st.now v], { st with pos := j })
noncomputable def jG (s : ByteArray) (st : PS) : PL :=
  .ok ([if (cE s st.pos).1 = 46 then (if st.now.dots = true then kG (rs [(0, 1114111)]) else kG (rs [(0, 9), (11, 1114111)]))
    else if (cE s st.pos).1 = 94 then rxK (if st.now.lines = true then 10 else 8)
    else if (cE s st.pos).1 = 36 then rxK (if st.now.lines = true then 11 else 9)
    else lX st.now (cE s st.pos).1], { st with pos := st.pos + (cE s st.pos).2 })
noncomputable def eM (s : ByteArray) (ex : PS → PX Rx) (st : PS) : PL :=
  if sb s st.pos = 40 then oH s ex st
  else if sb s st.pos = 91 then (match jH s st.now (st.pos + 1) with | .error e => .error e | .ok (x, j) => .ok ([x], { st with pos := j }))
  else if sb s st.pos = 92 then fV s st
  else jG s st
noncomputable def gZ (s : ByteArray) (ex : PS → PX Rx) : Nat → List Rx → Bool → PS → PX Rx
  | 0, l, ah, st => .ok (oZ 4 l, st)
  | f + 1, l, ah, st =>
    if s.size ≤ st.pos ∨ sb s st.pos = 124 ∨ sb s st.pos = 41 then .ok (oZ 4 l, st)
    else
      let r := kY (s.extract st.pos s.size)
      if r.2.2 = 0 then (match eM s ex st with
        | .error e => .error e
        | .ok (g, st2) => gZ s ex f (l ++ g) (decide (0 < g.length)) st2)
      else if ah = false ∨ 1000 < r.1 ∨ 1000 < r.2.1 ∨ (0 ≤ r.2.1 ∧ r.2.1 < r.1) then .error 82
      else if isB s (st.pos + r.2.2) 63 then gZ s ex f (l.dropLast ++ [iY r.1 r.2.1 (!st.now.lazy) (l.getLastD (rxK 1))]) false { st with pos := st.pos + r.2.2 + 1 }
      else gZ s ex f (l.dropLast ++ [iY r.1 r.2.1 st.now.lazy (l.getLastD (rxK 1))]) false { st with pos := st.pos + r.2.2 }
noncomputable def kV (s : ByteArray) (ex : PS → PX Rx) : Nat → List Rx → PS → PX Rx
  | 0, l, st => .ok (oZ 5 l, st)
  | f + 1, l, st => if isB s st.pos 124 then (match gZ s ex (s.size + 1) [] false { st with pos := st.pos + 1 } with
      | .error e => .error e
      | .ok (x, st2) => kV s ex f (l ++ [x]) st2)
    else .ok (oZ 5 l, st)
noncomputable def iU (s : ByteArray) (ex : PS → PX Rx) (st : PS) : PX Rx := match gZ s ex (s.size + 1) [] false st with
  | .error e => .error e
  | .ok (x, st2) => kV s ex (s.size + 1) [x] st2
noncomputable def iD (s : ByteArray) : Nat → PS → PX Rx
  | 0 => fun st => iU s (fun _ => .error 3) st
  | n + 1 => fun st => iU s (iD s n) st
noncomputable def fZ (s : ByteArray) : Except Int Rx := open Classical in
  if 4096 < s.size then .error 1 else if ¬ ∃ N, Utf s N then .error 4
  else match iD s 250 ⟨0, ⟨false, false, false, false⟩, 0, []⟩ with
    | .error e => .error e
    | .ok (x, st) => if st.pos < s.size then .error 80 else .ok x
end Go.Proofs.YtljadkcojnlioaaGreatDoor
namespace Go.Proofs.YtljadkcojnlioaaGreatDoor
open Go.RowKit Go.W
attribute [local irreducible] Decidable.decide
theorem dE : gA Tryz.prog 64 0 = some 0 := by kernel_rfl
theorem bE : gA Tryz.prog 64 1 = some 1 := by kernel_rfl
abbrev rdc (s : ByteArray) (st : PS) (a : Option Addr) (c : Nat) : Array Value := #[.string s, iv (st.pos : Nat), .bool st.now.fold, .bool st.now.lines, .bool st.now.dots, .bool st.now.lazy, iv (st.opn : Nat), .slice a st.names.length c]
structure RdAt (w : World) (b : Nat) (s : ByteArray) (st : PS) (a : Option Addr) (c : Nat) (ob : Option Nat) : Prop where
  blk : w.heap[b]? = some (.cells (rdc s st a c) 64 (0, 0))
  own : OwnS w 9 1 a st.names.length c (st.names.map sv) ob
  ne : ∀ g, ob = some g → g ≠ b
theorem RdAt.ap {w : World} {b : Nat} {s : ByteArray} {st : PS} {a : Option Addr} {c : Nat} {ob : Option Nat} (h : RdAt w b s st a c ob) : Apart (some b) ob := fun g h1 h2 => by cases h1; exact h.ne b h2 rfl
def adv (st : PS) (n : Nat) : PS := { st with pos := st.pos + n }
theorem lR {w : World} {b : Nat} {s : ByteArray} {st : PS} {a : Option Addr} {c : Nat} {ob : Option Nat} (hR : RdAt w b s st a c ob) (hs : s.size ≤ 1000000) (ch : Nat) (hc : ch < 256) :
    Calls Tryz.prog 60 #[.pointer (some ⟨b, 0, none⟩), .int .u8 (ch : Nat)] w (Ret fun v w' => v = .bool (decide (isB s st.pos ch)) ∧ Evo [b] w w' ∧ RdAt w' b s (if isB s st.pos ch then adv st 1 else st) a c ob) := by
  have hap := hR.ap; refine bJ (N := 35) Tryz.func60 rfl rfl rfl ?_; refine aE (aB (aM (aC (aA (aE (aE ?_)))))); refine fH (by kernel_rfl) (by kernel_rfl) ?_; refine bM (fun _ hq2 => bO rfl) ?_; refine bM (fun _ hq2 => aP rfl) ?_; refine bM (fun _ hq2 => aD rfl bE) ?_; refine bM (fun _ hq2 => aI rfl aZ (aJ (hq2.blk0 hR.blk) rfl)) ?_; refine bM (fun _ hq2 => bO rfl) ?_; refine bM (fun _ hq2 => aP rfl) ?_; refine bM (fun _ hq2 => aD rfl dE) ?_; refine bM (fun _ hq2 => aI rfl cJ (aJ (hq2.blk0 hR.blk) rfl)) ?_; refine bM (fun _ hq2 => cM rfl Tryz.underlying9 rfl) ?_; refine bM (fun _ hq2 => dF rfl rfl) ?_; refine bM (fun _ hq2 => bO rfl) ?_; refine kX (t := 15) rfl (fun hs15 => ?_) (fun hs15 => ?_)
  ·have hlt : st.pos < s.size := by omega
   refine qlg ?_; refine bM (fun _ hq2 => bO rfl) ?_; refine qlg ?_; refine bM (fun _ hq2 => aP rfl) ?_; refine qlg ?_; refine bM (fun _ hq2 => aD rfl dE) ?_; refine qlg ?_; refine bM (fun _ hq2 => aI rfl cJ (aJ (hq2.blk0 hR.blk) rfl)) ?_; refine qlg ?_; refine bM (fun _ hq2 => bO rfl) ?_; refine qlg ?_; refine bM (fun _ hq2 => aP rfl) ?_; refine qlg ?_; refine bM (fun _ hq2 => aD rfl bE) ?_; refine qlg ?_; refine bM (fun _ hq2 => aI rfl aZ (aJ (hq2.blk0 hR.blk) rfl)) ?_; refine qlg ?_; refine bM (fun _ hq2 => fL (n := st.pos) rfl rfl Tryz.underlying9 rfl hlt) ?_; refine qlg ?_; refine bM (fun _ hq2 => bO rfl) ?_; refine qlg ?_; refine bM (fun _ hq2 => bD rfl rfl) ?_; refine bM (fun _ hq2 => hD rfl rfl) ?_; refine fP (fun wq1 hq2 => aA ?_); have hE3 := (Evo.refl [b] w).then hq2; have hB4 := hq2.blk0 hR.blk; have hO5 := hR.own.evo0 hq2; refine bF rfl (fun hc27 => ?_) (fun hc27 => ?_)
   ·refine aE (aB (aG (aF (aP rfl) (aF (aD rfl bE) (aF (aI rfl aZ (aJ hB4 rfl)) ?_))))); refine aF (bC rfl rfl (by omega) (by omega)) ?_; refine aF (aP rfl) (aF (aD rfl bE) (bG rfl rfl (rfl) bV hB4 rfl fun w6 hB7 hw8 => ?_)); have hO10 := hO5.evo hw8 hap.symm.own1
    try simp only [cR, Nat.reduceAdd] at hB7
    refine aC (aA (aE (aB (aM (aC (aA (aO (aN (br1 ?_))))))))); have hb : isB s st.pos ch := ⟨hlt, by omega⟩; refine ⟨congrArg Value.bool (decide_eq_true hb).symm, (hE3.step hw8 (fun y hy => .inl hy)), ?_⟩
    rw [if_pos hb]; exact ⟨hB7, hO10, hR.ne⟩
   refine aU (aA (aE (aB (aM (aC (aA (aO (br1 ?_))))))))
   have hb : ¬ isB s st.pos ch := fun h => by first | exact hs15 (by have := h.1; omega) | exact hc27 (by have := h.2; omega)
   refine ⟨congrArg Value.bool (decide_eq_false hb).symm, hE3, ?_⟩
   rw [if_neg hb]; exact ⟨hB4, hO5, hR.ne⟩
  refine qln ?_; refine qln ?_; refine qln ?_; refine qln ?_; refine qln ?_; refine qln ?_; refine qln ?_; refine qln ?_; refine qln ?_; refine qln ?_; refine qln ?_; refine bM (fun _ hq2 => iE rfl rfl) ?_; refine fP (fun wq1 hq2 => aA ?_); have hB12 := hq2.blk0 hR.blk; have hO13 := hR.own.evo0 hq2; refine cO rfl ?_; refine aU (aA (aE (aB (aM (aC (aA (aO (br1 ?_))))))))
  have hb : ¬ isB s st.pos ch := fun h => by first | exact hs15 (by have := h.1; omega) | exact hc27 (by have := h.2; omega)
  refine ⟨congrArg Value.bool (decide_eq_false hb).symm, ((Evo.refl [b] w).then hq2), ?_⟩
  rw [if_neg hb]; exact ⟨hB12, hO13, hR.ne⟩
theorem cS : eY Tryz.prog 37 := ⟨_, Tryz.func37, by kernel_rfl, by kernel_rfl⟩
theorem sG {r : Int} (h0 : -2147483648 ≤ r) (h1 : r ≤ 2147483647) : IntKind.i64.min ≤ r ∧ r ≤ IntKind.i64.max := by
  constructor <;> simp [IntKind.min, IntKind.max, IntKind.signed, IntKind.bits] <;> omega
theorem hexd_no {s : ByteArray} {i : Nat} (h : ¬ i < s.size) : gS s i = .error 83 := by unfold gS; rw [if_neg h]
theorem oD {s : ByteArray} {i d : Nat} (h : i < s.size) (hd : hexD (sb s i) = some d) : gS s i = .ok (d, i + 1) := by unfold gS; rw [if_pos h, hd]
theorem lK {s : ByteArray} {i : Nat} (h : i < s.size) (hd : hexD (sb s i) = none) : gS s i = .error 83 := by unfold gS; rw [if_pos h, hd]
theorem sV {z : Int} {d : Nat} (h : z = d) : Value.int .i64 z = iv (d : Nat) := by rw [h]
theorem oN {w : World} {b : Nat} {s : ByteArray} {st : PS} {a : Option Addr} {c : Nat} {ob : Option Nat} (hR : RdAt w b s st a c ob) (hs : s.size ≤ 1000000) :
    Calls Tryz.prog 161 #[.pointer (some ⟨b, 0, none⟩)] w (RetP (fun v w' => ∃ d, gS s st.pos = .ok (d, st.pos + 1) ∧ v = iv (d : Nat) ∧ Evo [b] w w' ∧ RdAt w' b s (adv st 1) a c ob) (fun v w' => gS s st.pos = .error 83 ∧ v = flt 83 ∧ Evo [b] w w')) := by
  have hap := hR.ap; have hb9 := jM s st.pos; refine bJ (N := 63) Tryz.func161 rfl rfl rfl ?_; refine aE (aB (aM (aC (aA (aE (aE ?_)))))); refine fH (by kernel_rfl) (by kernel_rfl) ?_; refine bM (fun _ hq2 => bO rfl) ?_; refine bM (fun _ hq2 => aP rfl) ?_; refine bM (fun _ hq2 => aD rfl bE) ?_; refine bM (fun _ hq2 => aI rfl aZ (aJ (hq2.blk0 hR.blk) rfl)) ?_; refine bM (fun _ hq2 => bO rfl) ?_; refine bM (fun _ hq2 => aP rfl) ?_; refine bM (fun _ hq2 => aD rfl dE) ?_; refine bM (fun _ hq2 => aI rfl cJ (aJ (hq2.blk0 hR.blk) rfl)) ?_; refine bM (fun _ hq2 => cM rfl Tryz.underlying9 rfl) ?_; refine bM (fun _ hq2 => dF rfl rfl) ?_; refine fP (fun wq1 hq2 => aA ?_); have hE3 := (Evo.refl [b] w).then hq2; have hB4 := hq2.blk0 hR.blk; refine bF rfl (fun hc13 => ?_) (fun hc13 => ?_)
  ·have hlt : st.pos < s.size := by omega
   refine aE ?_; refine fH (by kernel_rfl) (by kernel_rfl) ?_; refine bM (fun _ hq7 => bO rfl) ?_; refine bM (fun _ hq7 => aP rfl) ?_; refine bM (fun _ hq7 => aD rfl dE) ?_; refine bM (fun _ hq7 => aI rfl cJ (aJ (hq7.blk0 hB4) rfl)) ?_; refine bM (fun _ hq7 => bO rfl) ?_; refine bM (fun _ hq7 => aP rfl) ?_; refine bM (fun _ hq7 => aD rfl bE) ?_; refine bM (fun _ hq7 => aI rfl aZ (aJ (hq7.blk0 hB4) rfl)) ?_; refine bM (fun _ hq7 => fL (n := st.pos) rfl rfl Tryz.underlying9 rfl hlt) ?_; refine bM (fun _ hq7 => eT rfl) ?_; refine fP (fun wq6 hq7 => aA ?_); refine aE (aB (aG (aF (aP rfl) (aF (aD rfl bE) (aF (aI rfl aZ (aJ (hq7.blk0 hB4) rfl)) ?_))))); refine aF (bC rfl rfl (by omega) (by omega)) ?_; refine aF (aP rfl) (aF (aD rfl bE) (bG rfl rfl (rfl) bV (hq7.blk0 hB4) rfl fun w11 hB12 hw13 => ?_)); have hE14 := (hE3.then hq7).step hw13 (fun y hy => .inl hy); have hO15 := ((hR.own.evo0 hq2).evo0 hq7).evo hw13 hap.symm.own1
   try simp only [cR, Nat.reduceAdd] at hB12
   refine aC (aA (bR (aE (aB (aG (aF (gC rfl rfl) ?_)))))); refine aG (aV (t := 33) rfl (fun hs33 => ?_) (fun hs33 => ?_))
   ·refine aQ (aG (aQ (aF (gY rfl rfl) ?_))); refine bH (aM (aC (aA (bF rfl (fun hc30 => ?_) (fun hc30 => ?_)))))
    ·refine aE (aB (aG ?_)); refine aF (lL rfl rfl (by omega) (by omega)) ?_; refine aF (jC rfl Tryz.underlying5 Tryz.underlying3 (sG (by omega) (by omega)).1 (sG (by omega) (by omega)).2) ?_; refine aM (aC (aA (aO (aX (aN (bS (br1 ?_)))))))
     exact ⟨_, oD hlt (by unfold hexD; rw [if_pos (by omega)]), sV (by omega), hE14, hB12, hO15, hR.ne⟩
    refine aE (aB (aG (aF (gC rfl rfl) ?_))); refine aG (aV (t := 43) rfl (fun hs43 => ?_) (fun hs43 => ?_))
    ·refine aQ (aG (aQ (aF (gY rfl rfl) ?_))); refine bH (aM (aC (aA (bF rfl (fun hc40 => ?_) (fun hc40 => ?_)))))
     ·refine aE (aB (aG ?_)); refine aF (lL rfl rfl (by omega) (by omega)) ?_; refine aF (jC rfl Tryz.underlying5 Tryz.underlying3 (sG (by omega) (by omega)).1 (sG (by omega) (by omega)).2) ?_; refine aF (bC rfl rfl (by omega) (by omega)) ?_; refine aM (aC (aA (aO (aX (aN (bS (br1 ?_)))))))
      exact ⟨_, oD hlt (by unfold hexD; rw [if_neg (by omega), if_pos (by omega)]), sV (by omega), hE14, hB12, hO15, hR.ne⟩
     refine aE (aB (aG (aF (gC rfl rfl) ?_))); refine aG (aV (t := 54) rfl (fun hs54 => ?_) (fun hs54 => ?_))
     ·refine aQ (aG (aQ (aF (gY rfl rfl) ?_))); refine bH (aM (aC (aA (bF rfl (fun hc51 => ?_) (fun hc51 => ?_)))))
      ·refine aE (aB (aG ?_)); refine aF (lL rfl rfl (by omega) (by omega)) ?_; refine aF (jC rfl Tryz.underlying5 Tryz.underlying3 (sG (by omega) (by omega)).1 (sG (by omega) (by omega)).2) ?_; refine aF (bC rfl rfl (by omega) (by omega)) ?_; refine aM (aC (aA (aO (aX (aN (bS (br1 ?_)))))))
       exact ⟨_, oD hlt (by unfold hexD; rw [if_neg (by omega), if_neg (by omega), if_pos (by omega)]), sV (by omega), hE14, hB12, hO15, hR.ne⟩
      refine aU (aW (aA (aE (aB (bT (vs := [_]) cS rfl (eO 83) rfl ?_ ?_)))))
      ·intro pv wp hpp; obtain ⟨rfl, hpe⟩ := hpp
       exact And.intro rfl ⟨_, rfl, lK hlt (by unfold hexD; rw [if_neg (by omega), if_neg (by omega), if_neg (by omega)]), rfl, (hE14).then hpe⟩
      intro _ _ hF; exact hF.elim
     refine aH (aH (aR (aM (aC (aA (cO rfl ?_)))))); refine aU (aW (aA (aE (aB (bT (vs := [_]) cS rfl (eO 83) rfl ?_ ?_)))))
     ·intro pv wp hpp; obtain ⟨rfl, hpe⟩ := hpp
      exact And.intro rfl ⟨_, rfl, lK hlt (by unfold hexD; rw [if_neg (by omega), if_neg (by omega), if_neg (by omega)]), rfl, (hE14).then hpe⟩
     intro _ _ hF; exact hF.elim
    refine aH (aH (aR (aM (aC (aA (cO rfl ?_)))))); refine aE (aB (aG (aF (gC rfl rfl) ?_))); refine aG (aV (t := 54) rfl (fun hs54 => ?_) (fun hs54 => ?_))
    ·refine aQ (aG (aQ (aF (gY rfl rfl) ?_))); refine bH (aM (aC (aA (bF rfl (fun hc51 => ?_) (fun hc51 => ?_)))))
     ·refine aE (aB (aG ?_)); refine aF (lL rfl rfl (by omega) (by omega)) ?_; refine aF (jC rfl Tryz.underlying5 Tryz.underlying3 (sG (by omega) (by omega)).1 (sG (by omega) (by omega)).2) ?_; refine aF (bC rfl rfl (by omega) (by omega)) ?_; refine aM (aC (aA (aO (aX (aN (bS (br1 ?_)))))))
      exact ⟨_, oD hlt (by unfold hexD; rw [if_neg (by omega), if_neg (by omega), if_pos (by omega)]), sV (by omega), hE14, hB12, hO15, hR.ne⟩
     refine aU (aW (aA (aE (aB (bT (vs := [_]) cS rfl (eO 83) rfl ?_ ?_)))))
     ·intro pv wp hpp; obtain ⟨rfl, hpe⟩ := hpp
      exact And.intro rfl ⟨_, rfl, lK hlt (by unfold hexD; rw [if_neg (by omega), if_neg (by omega), if_neg (by omega)]), rfl, (hE14).then hpe⟩
     intro _ _ hF; exact hF.elim
    refine aH (aH (aR (aM (aC (aA (cO rfl ?_)))))); refine aU (aW (aA (aE (aB (bT (vs := [_]) cS rfl (eO 83) rfl ?_ ?_)))))
    ·intro pv wp hpp; obtain ⟨rfl, hpe⟩ := hpp
     exact And.intro rfl ⟨_, rfl, lK hlt (by unfold hexD; rw [if_neg (by omega), if_neg (by omega), if_neg (by omega)]), rfl, (hE14).then hpe⟩
    intro _ _ hF; exact hF.elim
   refine aH (aH (aR (aM (aC (aA (cO rfl ?_)))))); refine aE (aB (aG (aF (gC rfl rfl) ?_))); refine aG (aV (t := 43) rfl (fun hs43 => ?_) (fun hs43 => ?_))
   ·refine aQ (aG (aQ (aF (gY rfl rfl) ?_))); refine bH (aM (aC (aA (bF rfl (fun hc40 => ?_) (fun hc40 => ?_)))))
    ·refine aE (aB (aG ?_)); refine aF (lL rfl rfl (by omega) (by omega)) ?_; refine aF (jC rfl Tryz.underlying5 Tryz.underlying3 (sG (by omega) (by omega)).1 (sG (by omega) (by omega)).2) ?_; refine aF (bC rfl rfl (by omega) (by omega)) ?_; refine aM (aC (aA (aO (aX (aN (bS (br1 ?_)))))))
     exact ⟨_, oD hlt (by unfold hexD; rw [if_neg (by omega), if_pos (by omega)]), sV (by omega), hE14, hB12, hO15, hR.ne⟩
    refine aE (aB (aG (aF (gC rfl rfl) ?_))); refine aG (aV (t := 54) rfl (fun hs54 => ?_) (fun hs54 => ?_))
    ·refine aQ (aG (aQ (aF (gY rfl rfl) ?_))); refine bH (aM (aC (aA (bF rfl (fun hc51 => ?_) (fun hc51 => ?_)))))
     ·refine aE (aB (aG ?_)); refine aF (lL rfl rfl (by omega) (by omega)) ?_; refine aF (jC rfl Tryz.underlying5 Tryz.underlying3 (sG (by omega) (by omega)).1 (sG (by omega) (by omega)).2) ?_; refine aF (bC rfl rfl (by omega) (by omega)) ?_; refine aM (aC (aA (aO (aX (aN (bS (br1 ?_)))))))
      exact ⟨_, oD hlt (by unfold hexD; rw [if_neg (by omega), if_neg (by omega), if_pos (by omega)]), sV (by omega), hE14, hB12, hO15, hR.ne⟩
     refine aU (aW (aA (aE (aB (bT (vs := [_]) cS rfl (eO 83) rfl ?_ ?_)))))
     ·intro pv wp hpp; obtain ⟨rfl, hpe⟩ := hpp
      exact And.intro rfl ⟨_, rfl, lK hlt (by unfold hexD; rw [if_neg (by omega), if_neg (by omega), if_neg (by omega)]), rfl, (hE14).then hpe⟩
     intro _ _ hF; exact hF.elim
    refine aH (aH (aR (aM (aC (aA (cO rfl ?_)))))); refine aU (aW (aA (aE (aB (bT (vs := [_]) cS rfl (eO 83) rfl ?_ ?_)))))
    ·intro pv wp hpp; obtain ⟨rfl, hpe⟩ := hpp
     exact And.intro rfl ⟨_, rfl, lK hlt (by unfold hexD; rw [if_neg (by omega), if_neg (by omega), if_neg (by omega)]), rfl, (hE14).then hpe⟩
    intro _ _ hF; exact hF.elim
   refine aH (aH (aR (aM (aC (aA (cO rfl ?_)))))); refine aE (aB (aG (aF (gC rfl rfl) ?_))); refine aG (aV (t := 54) rfl (fun hs54 => ?_) (fun hs54 => ?_))
   ·refine aQ (aG (aQ (aF (gY rfl rfl) ?_))); refine bH (aM (aC (aA (bF rfl (fun hc51 => ?_) (fun hc51 => ?_)))))
    ·refine aE (aB (aG ?_)); refine aF (lL rfl rfl (by omega) (by omega)) ?_; refine aF (jC rfl Tryz.underlying5 Tryz.underlying3 (sG (by omega) (by omega)).1 (sG (by omega) (by omega)).2) ?_; refine aF (bC rfl rfl (by omega) (by omega)) ?_; refine aM (aC (aA (aO (aX (aN (bS (br1 ?_)))))))
     exact ⟨_, oD hlt (by unfold hexD; rw [if_neg (by omega), if_neg (by omega), if_pos (by omega)]), sV (by omega), hE14, hB12, hO15, hR.ne⟩
    refine aU (aW (aA (aE (aB (bT (vs := [_]) cS rfl (eO 83) rfl ?_ ?_)))))
    ·intro pv wp hpp; obtain ⟨rfl, hpe⟩ := hpp
     exact And.intro rfl ⟨_, rfl, lK hlt (by unfold hexD; rw [if_neg (by omega), if_neg (by omega), if_neg (by omega)]), rfl, (hE14).then hpe⟩
    intro _ _ hF; exact hF.elim
   refine aH (aH (aR (aM (aC (aA (cO rfl ?_)))))); refine aU (aW (aA (aE (aB (bT (vs := [_]) cS rfl (eO 83) rfl ?_ ?_)))))
   ·intro pv wp hpp; obtain ⟨rfl, hpe⟩ := hpp
    exact And.intro rfl ⟨_, rfl, lK hlt (by unfold hexD; rw [if_neg (by omega), if_neg (by omega), if_neg (by omega)]), rfl, (hE14).then hpe⟩
   intro _ _ hF; exact hF.elim
  refine aU (aA (aE (aB (bT (vs := [_]) cS rfl (eO 83) rfl ?_ ?_))))
  ·intro pv wp hpp; obtain ⟨rfl, hpe⟩ := hpp; exact And.intro rfl ⟨_, rfl, hexd_no (by omega), rfl, (hE3).then hpe⟩
  intro _ _ hF; exact hF.elim
theorem nK : eY Tryz.prog 161 := ⟨_, Tryz.func161, by kernel_rfl, by kernel_rfl⟩
theorem iC : eY Tryz.prog 60 := ⟨_, Tryz.func60, by kernel_rfl, by kernel_rfl⟩
def hY (st : PS) (j : Nat) : PS := { st with pos := j }
theorem yH (s : ByteArray) (i : Nat) : gS s i = .error 83 ∨ ∃ d, d < 16 ∧ i < s.size ∧ gS s i = .ok (d, i + 1) := by
  unfold gS
  by_cases h : i < s.size
  · rw [if_pos h]
    unfold hexD
    split
    · rename_i d hd
      refine .inr ⟨d, ?_, h, rfl⟩
      split at hd
      · cases hd; omega
      · split at hd
        · cases hd; omega
        · split at hd
          · cases hd; omega
          · cases hd
    · exact .inl rfl
  · rw [if_neg h]; exact .inl rfl
theorem zO {r : Int} (h0 : -2147483648 ≤ r) (h1 : r ≤ 2147483647) : IntKind.i32.min ≤ r ∧ r ≤ IntKind.i32.max := by
  constructor <;> simp [IntKind.min, IntKind.max, IntKind.signed, IntKind.bits] <;> omega
theorem SJ {s : ByteArray} {n i : Nat} (hi : i ≤ s.size) (h : isB s i 125) : kF s (s.size + 1 - i) n i = .ok (n, i + 1) := by
  rw [show s.size + 1 - i = (s.size - i) + 1 by omega, kF, if_pos h]
theorem SH {s : ByteArray} {n i : Nat} (hi : i ≤ s.size) (h : ¬ isB s i 125) (he : gS s i = .error 83) : kF s (s.size + 1 - i) n i = .error 83 := by
  rw [show s.size + 1 - i = (s.size - i) + 1 by omega, kF, if_neg h, he]
theorem SK {s : ByteArray} {n i d : Nat} (hi : i ≤ s.size) (h : ¬ isB s i 125) (he : gS s i = .ok (d, i + 1)) (hb : 1114111 < n * 16 + d) : kF s (s.size + 1 - i) n i = .error 83 := by
  rw [show s.size + 1 - i = (s.size - i) + 1 by omega, kF, if_neg h, he]
  show (if 1114111 < n * 16 + d then _ else _) = _
  rw [if_pos hb]
theorem hexl_go {s : ByteArray} {n i d : Nat} (hi : i < s.size) (h : ¬ isB s i 125) (he : gS s i = .ok (d, i + 1)) (hb : ¬ 1114111 < n * 16 + d) : kF s (s.size + 1 - i) n i = kF s (s.size + 1 - (i + 1)) (n * 16 + d) (i + 1) := by
  rw [show s.size + 1 - i = (s.size + 1 - (i + 1)) + 1 by omega, kF, if_neg h, he]
  show (if 1114111 < n * 16 + d then _ else _) = _
  rw [if_neg hb]
theorem wZ {s : ByteArray} {i d j : Nat} (h : gS s i = .ok (d, j)) : d < 16 := by
  rcases yH s i with e | ⟨d', h1, _, e⟩ <;> rw [e] at h <;> cases h
  exact h1
theorem hex_a {s : ByteArray} {i : Nat} (h : ¬ isB s i 123) (e : gS s i = .error 83) : nD s i = .error 83 := by unfold nD; rw [if_neg h, e]
theorem hex_b {s : ByteArray} {i d : Nat} (h : ¬ isB s i 123) (e : gS s i = .ok (d, i + 1)) (e2 : gS s (i + 1) = .error 83) : nD s i = .error 83 := by
  unfold nD; rw [if_neg h, e]; show (match gS s (i + 1) with | .error e => _ | .ok (b, k) => _) = _; rw [e2]
theorem hex_c {s : ByteArray} {i d f : Nat} (h : ¬ isB s i 123) (e : gS s i = .ok (d, i + 1)) (e2 : gS s (i + 1) = .ok (f, i + 1 + 1)) : nD s i = .ok (d * 16 + f, i + 1 + 1) := by
  unfold nD; rw [if_neg h, e]; show (match gS s (i + 1) with | .error e => _ | .ok (b, k) => _) = _; rw [e2]
theorem hex_d {s : ByteArray} {i : Nat} (h : isB s i 123) (e : gS s (i + 1) = .error 83) : nD s i = .error 83 := by unfold nD; rw [if_pos h, e]
theorem hex_e {s : ByteArray} {i d : Nat} (h : isB s i 123) (e : gS s (i + 1) = .ok (d, i + 1 + 1)) : nD s i = kF s (s.size + 1 - (i + 1 + 1)) d (i + 1 + 1) := by unfold nD; rw [if_pos h, e]
structure HxG where
  n : Nat
  p : Nat
structure HxI (w : World) (b : Nat) (s : ByteArray) (st : PS) (a : Option Addr) (c : Nat) (ob : Option Nat) (x : HxG) : Prop where
  hp : x.p ≤ s.size
  hn : x.n ≤ 1114111
  hr : RdAt w b s (hY st x.p) a c ob
  eq : nD s st.pos = kF s (s.size + 1 - x.p) x.n x.p
theorem LS {s : ByteArray} {i d j : Nat} (h : gS s i = .ok (d, j)) : i < s.size := by
  rcases yH s i with e | ⟨d', _, h1, e⟩ <;> rw [e] at h <;> cases h
  exact h1
theorem hex_ok {w : World} {b : Nat} {s : ByteArray} {st : PS} {a : Option Addr} {c : Nat} {ob : Option Nat} (hR : RdAt w b s st a c ob) (hs : s.size ≤ 1000000) :
    Calls Tryz.prog 149 #[.pointer (some ⟨b, 0, none⟩)] w (RetP (fun v w' => ∃ n j, nD s st.pos = .ok (n, j) ∧ v = .int .i32 (n : Nat) ∧ Evo [b] w w' ∧ RdAt w' b s (hY st j) a c ob) (fun v w' => nD s st.pos = .error 83 ∧ v = flt 83 ∧ Evo [b] w w')) := by
  have hap := hR.ap; refine bJ (N := 33) Tryz.func149 rfl rfl rfl ?_; refine aE (aB (aM (aC (aA (aE (aE (aB (aG ?_)))))))); refine aK (vs := [_, _]) iC rfl (lR hR hs 123 (by decide)) rfl ?_; rintro _ w1 ⟨rfl, hw2, hR1⟩; have hE3 := (Evo.refl [b] w).step hw2 (fun y hy => .inl hy); refine aF (nE rfl) ?_; refine aC (aA (bF rfl (fun hc8 => ?_) (fun hc8 => ?_)))
  ·rw [if_neg hc8] at hR1; refine aE (aB (aG (bT (vs := [_]) nK rfl (oN hR1 hs) rfl ?_ ?_)))
   ·intro pv wp hpp; obtain ⟨hpe, rfl, hpw⟩ := hpp; exact And.intro rfl ⟨_, rfl, hex_a hc8 hpe, rfl, (hE3).step hpw (fun y hy => .inl hy)⟩
   rintro _ w4 ⟨d1, hd1, rfl, hw5, hR2⟩; have hE6 := hE3.step hw5 (fun y hy => .inl hy); have hl1 := wZ hd1; refine aG (bT (vs := [_]) nK rfl (oN hR2 hs) rfl ?_ ?_)
   ·intro pv wp hpp; obtain ⟨hpe, rfl, hpw⟩ := hpp; exact And.intro rfl ⟨_, rfl, hex_b hc8 hd1 hpe, rfl, (hE6).step hpw (fun y hy => .inl hy)⟩
   rintro _ w7 ⟨d2, hd2, rfl, hw8, hR3⟩; have hl2 := wZ hd2; refine aM (aM (aC (aA (aE (aB (aG ?_)))))); refine aF (sX rfl rfl (by omega) (by omega)) ?_; refine aG ?_; refine aF (bC rfl rfl (by omega) (by omega)) ?_; refine aF (jC rfl Tryz.underlying3 Tryz.underlying21 (zO (by omega) (by omega)).1 (zO (by omega) (by omega)).2) ?_; refine aM (aC (aA (aO (aN (bS (br1 ?_)))))); exact ⟨_, _, hex_c hc8 hd1 hd2, (by congr 1), (hE6.step hw8 (fun y hy => .inl hy)), hR3⟩
  have hb8 : isB s st.pos 123 := Classical.not_not.1 hc8; rw [if_pos hb8] at hR1; refine aU (aA (aE (aB (aG (bT (vs := [_]) nK rfl (oN hR1 hs) rfl ?_ ?_)))))
  ·intro pv wp hpp; obtain ⟨hpe, rfl, hpw⟩ := hpp; exact And.intro rfl ⟨_, rfl, hex_d hb8 hpe, rfl, (hE3).step hpw (fun y hy => .inl hy)⟩
  rintro _ w10 ⟨d1, hd1, rfl, hw11, hR4⟩; have hl1 := wZ hd1; have hin := LS hd1; refine aM (aC (aA (aE (bR ?_))))
  refine eV (α := HxG) (⟨d1, st.pos + 1 + 1⟩) (fun x => [(5, .int .i64 (x.n : Nat))]) [(0, _), (2, _)] (fun x wr => Evo [b] w wr ∧ (HxI wr b s st a c ob x)) (fun x => s.size + 1 - x.p) ⟨rfl, trivial⟩ ⟨rfl, rfl, trivial⟩ ⟨(hE3.step hw11 (fun y hy => .inl hy)), ⟨by show st.pos + 1 + 1 ≤ _; have : st.pos + 1 < s.size := hin; omega, by show d1 ≤ _; omega, hR4, hex_e hb8 hd1⟩⟩ ?_
  rintro ⟨n, p⟩ wr13 ⟨hV14, ⟨hp9, hn9, hR9, heq⟩⟩; show CW _ _ _ _ [(5, .int .i64 (n : Nat)), (0, _), (2, _)] _
  try dsimp only at hp9
  try dsimp only at hn9
  try dsimp only at hR9
  try dsimp only at heq
  refine aE (aE (aB (aG ?_))); refine aK (vs := [_, _]) iC rfl (lR hR9 hs 125 (by decide)) rfl ?_; rintro _ w15 ⟨rfl, hw16, hR5⟩; have hE17 := hV14.step hw16 (fun y hy => .inl hy); refine aF (nE rfl) ?_; refine aC (aA (bF rfl (fun hc22 => ?_) (fun hc22 => ?_)))
  ·rw [if_neg hc22] at hR5; refine aU (aA (bR (aE (aB (aG ?_))))); refine aF (sX rfl rfl (by omega) (by omega)) ?_; refine aG (bT (vs := [_]) nK rfl (oN hR5 hs) rfl ?_ ?_)
   ·intro pv wp hpp; obtain ⟨hpe, rfl, hpw⟩ := hpp; exact And.intro rfl ⟨_, rfl, heq.trans (SH hp9 hc22 hpe), rfl, (hE17).step hpw (fun y hy => .inl hy)⟩
   rintro _ w18 ⟨d2, hd2, rfl, hw19, hR6⟩; have hE20 := hE17.step hw19 (fun y hy => .inl hy); have hl2 := wZ hd2; have hin2 : p < s.size := LS hd2; refine aF (bC rfl rfl (by omega) (by omega)) ?_; refine aM (aC (aA (aE (aB (aG (aF (gL rfl rfl) ?_)))))); refine aC (aA (bF rfl (fun hc29 => ?_) (fun hc29 => ?_)))
   ·refine aB (bT (vs := [_]) cS rfl (eO 83) rfl ?_ ?_)
    ·intro pv wp hpp; obtain ⟨rfl, hpw⟩ := hpp; exact And.intro rfl ⟨_, rfl, heq.trans (SK hp9 hc22 hd2 (by omega)), rfl, (hE20).then hpw⟩
    intro _ _ hF; exact hF.elim
   refine aU (aW (bY ?_)); refine ⟨⟨n * 16 + d2, p + 1⟩, ?_, ⟨rfl, trivial⟩, ⟨rfl, rfl, trivial⟩, hE20, ?_⟩
   · (try dsimp only); omega
   try dsimp only
   exact ⟨by show p + 1 ≤ _; omega, by show n * 16 + d2 ≤ _; omega, hR6, heq.trans (hexl_go hin2 hc22 hd2 (by omega))⟩
  have hb22 : isB s (hY st p).pos 125 := Classical.not_not.1 hc22; rw [if_pos hb22] at hR5; refine dO (cD (cD (dN (aA ?_)))); refine aE (aB (aG ?_)); refine aF (jC rfl Tryz.underlying3 Tryz.underlying21 (zO (by omega) (by omega)).1 (zO (by omega) (by omega)).2) ?_; refine aM (aC (aA (aO (bS (br1 ?_))))); exact ⟨_, _, heq.trans (SJ hp9 hb22), rfl, hE17, hR5⟩
end Go.Proofs.YtljadkcojnlioaaGreatDoor
namespace Go.Proofs.YtljadkcojnlioaaGreatDoor
open Go.RowKit Go.W
def GR (g : Int × Int) : List Value := [.int .i32 g.1, .int .i32 g.2]
def dZ (l : List (Int × Int)) : List Value := l.flatMap GR
theorem vQ (g : Int × Int) (l : List (Int × Int)) : dZ (g :: l) = .int .i32 g.1 :: .int .i32 g.2 :: dZ l := rfl
theorem kN (l m : List (Int × Int)) : dZ (l ++ m) = dZ l ++ dZ m := List.flatMap_append
theorem jT : ∀ l : List (Int × Int), (dZ l).length = l.length * 2
  | [] => rfl
  | g :: l => by rw [vQ, List.length_cons, List.length_cons, jT l, List.length_cons]; omega
theorem sT : ∀ {l : List (Int × Int)} {i : Nat} (h : i < l.length), (dZ l)[i * 2]? = some (.int .i32 l[i].1) ∧ (dZ l)[i * 2 + 1]? = some (.int .i32 l[i].2)
  | g :: l, 0, h => ⟨rfl, rfl⟩
  | g :: l, i + 1, h => by
    have := sT (l := l) (i := i) (by simpa using h)
    rw [vQ, show (i + 1) * 2 = i * 2 + 1 + 1 by omega]
    exact this
theorem pQ : ∀ l : List (Int × Int), AllOne (dZ l)
  | [] => trivial
  | g :: l => ⟨rfl, rfl, pQ l⟩
section
variable {w : World} {e : TypeId} {a : Option Addr} {n c : Nat} {l : List (Int × Int)} {ob : Option Nat}
theorem pU (h : OwnS w e 2 a n c (dZ l) ob) : n = l.length := by have := h.length; rw [jT] at this; omega
theorem pB (h : OwnS w e 2 a n c (dZ l) ob) {i : Nat} (hi : i < l.length) : ∃ g, ob = some g ∧ a = some ⟨g, 0, none⟩ ∧ CellsAt w g (0 + i * 2) (GR l[i]) := by
  have hn := pU h
  obtain ⟨g, hg, ha, hc⟩ := h.cells (by omega)
  refine ⟨g, hg, ha, fun j v hj => ?_⟩
  obtain ⟨h0, h1⟩ := sT hi
  match j, hj with
  | 0, hj => cases hj; have := hc _ _ h0; simpa using this
  | 1, hj => cases hj; have := hc _ _ h1; simpa [Nat.add_assoc] using this
  | j + 2, hj => cases hj
theorem QS (h : OwnS w e 2 a n c (dZ l) ob) : (a = none ∧ n = 0 ∧ l = [] ∧ ob = none) ∨ ∃ g, a = some ⟨g, 0, none⟩ ∧ ob = some g := by
  have hn := pU h
  rcases h.2 with ⟨h1, h2, h3⟩ | ⟨g, cap, cur, hg, hv, _⟩
  · cases h1; exact .inl ⟨rfl, rfl, List.length_eq_zero_iff.1 hn.symm, h3⟩
  · cases hv; exact .inr ⟨g, rfl, hg⟩
theorem own_rrg (h : OwnS w e 2 a n c (dZ l) ob) {X : List Nat} (hx : ∀ g, ob = some g → g ∉ X) : RSl 2 RRg X w (.slice a l.length c) l := by
  have hn := pU h
  refine ⟨a, c, rfl, by rw [← hn]; exact h.le, fun k hk => ?_⟩
  obtain ⟨g, hg, ha, hc⟩ := pB h hk
  exact ⟨g, 0, _, ha, hx g hg, rfl, hc, rfl⟩
end
theorem qZ (l : List (Int × Int)) : Sort.flatK GR 2 l.toArray = (dZ l).toArray := by
  apply Array.ext
  · simp [jT]
  · intro t h1 h2
    have h3 : t < l.length * 2 := by simpa [jT] using h2
    have h4 := Sort.get_flatK GR 2 l.toArray t (by simpa using h3)
    rw [getElem!_pos _ t h1] at h4
    rw [h4]
    have h5 : t / 2 < l.length := by omega
    have h6 : (l.toArray)[t / 2]! = l[t / 2] := by simp [h5]
    rw [h6]
    obtain ⟨g0, g1⟩ := sT h5
    rcases Nat.mod_two_eq_zero_or_one t with hm | hm <;> rw [hm]
    · rw [show t / 2 * 2 = t by omega] at g0
      show (Value.int .i32 l[t / 2].1) = _
      simp only [List.getElem_toArray]
      exact (Option.some.inj ((List.getElem?_eq_getElem (by rw [jT]; exact h3)).symm.trans g0)).symm
    · rw [show t / 2 * 2 + 1 = t by omega] at g1
      show (Value.int .i32 l[t / 2].2) = _
      simp only [List.getElem_toArray]
      exact (Option.some.inj ((List.getElem?_eq_getElem (by rw [jT]; exact h3)).symm.trans g1)).symm
theorem TH (w : World) (g n : Nat) (d : Array Value) (os : Array Obj) : Evo [g] w (Sort.grow (Sort.putRow id (Sort.ahead w n) g 0 d) os) := by
  refine ⟨rfl, rfl, rfl, ?_, fun b hb hx => ?_⟩
  · simp [Sort.grow, Sort.putRow, Sort.mapBlock, Sort.ahead]
  · have hne : g ≠ b := fun e => hx (by simp [e])
    simp only [Sort.grow, Sort.putRow, Sort.mapBlock, Sort.ahead]
    rw [Array.getElem?_append_left (by simpa using hb), Array.getElem?_modify, if_neg hne]
theorem PI {w : World} {g : Nat} {cur : Array Value} {e : TypeId} (hb : w.heap[g]? = some (.cells cur e (0, 0))) (n : Nat) (d : Array Value) (os : Array Obj) :
    (Sort.grow (Sort.putRow id (Sort.ahead w n) g 0 d) os).heap[g]? = some (.cells (Sort.putCells id 0 d cur) e (0, 0)) := by
  have hlt := eW hb
  simp only [Sort.grow, Sort.putRow, Sort.mapBlock, Sort.ahead]
  rw [Array.getElem?_append_left (by simpa using hlt), Array.getElem?_modify, if_pos rfl, hb]
  rfl
theorem xN (cur : Array Value) (ds : List Value) (hc : ds.length ≤ cur.size) : (Sort.putCells id 0 ds.toArray cur).toList.take ds.length = ds := by
  apply List.ext_getElem?
  intro k
  by_cases hk : k < ds.length
  · rw [List.getElem?_take, if_pos hk]
    simp only [Sort.putCells, Array.getElem?_toList, Array.getElem?_mapIdx, List.getElem?_map]
    have h1 : k < cur.size := by omega
    simp [h1, hk]
  · rw [List.getElem?_eq_none (by simp; omega), List.getElem?_eq_none (by omega)]
theorem NJ {w : World} {e : TypeId} {g n c sz : Nat} {xs ds : List Value} (h : OwnS w e sz (some ⟨g, 0, none⟩) n c xs (some g)) (hd : ds.length = n * sz) (q : Nat) (os : Array Obj) :
    OwnS (Sort.grow (Sort.putRow id (Sort.ahead w q) g 0 ds.toArray) os) e sz (some ⟨g, 0, none⟩) n c ds (some g) := by
  refine ⟨hd, ?_⟩
  rcases h.2 with ⟨h1, _⟩ | ⟨g', cap, cur, hg, hv, hb, hn, hc, hs, ht⟩
  · cases h1
  · cases hg; cases hv
    have hle : n * sz ≤ c * sz := Nat.mul_le_mul_right sz hn
    refine .inr ⟨g, c, _, rfl, rfl, PI hb q ds.toArray os, hn, hc, by simpa [Sort.putCells] using hs, ?_⟩
    rw [← hd]
    exact xN cur ds (by omega)
theorem IP {w : World} {e : TypeId} {g n c : Nat} {l : List (Int × Int)} (h : OwnS w e 2 (some ⟨g, 0, none⟩) n c (dZ l) (some g)) : Sort.HoldsK GR 2 w g 0 l.toArray := fun j hj => by
  rw [qZ] at hj ⊢
  have hj' : j < (dZ l).length := by simpa using hj
  have hl := h.length
  rcases h.2 with ⟨h1, _⟩ | ⟨g', cap, cur, hg, hv, hb, hn, hc, hs, ht⟩
  · cases h1
  · cases hg; cases hv
    constructor
    · refine iJ hb ?_
      have h1 : (cur.toList.take (n * 2))[j]? = some (dZ l)[j] := by rw [ht]; exact List.getElem?_eq_getElem hj'
      rw [List.getElem?_take, if_pos (by omega)] at h1
      rw [Nat.zero_add]
      simpa [hj'] using h1
    · simp [World.frozen?, hb]
end Go.Proofs.YtljadkcojnlioaaGreatDoor
