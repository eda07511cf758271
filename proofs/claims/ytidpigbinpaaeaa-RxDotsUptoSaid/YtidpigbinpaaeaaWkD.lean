/- Dot: part 4 of 5 of what the law rests on. -/
import Derived.Test.YtidpigbinpaaeaaWkC
set_option linter.unusedSectionVars false
set_option linter.unusedSimpArgs false
set_option linter.unusedVariables false
namespace Go.Proofs.Ytidpigbinpaaeaa
open Go.RowKit Go.W
attribute [local irreducible] Decidable.decide
theorem yX : dY Try.prog 59 := ⟨_, Try.func59, by kernel_rfl, by kernel_rfl⟩
theorem qD : dY Try.prog 63 := ⟨_, Try.func63, by kernel_rfl, by kernel_rfl⟩
theorem yV : dY Try.prog 65 := ⟨_, Try.func65, by kernel_rfl, by kernel_rfl⟩
theorem JZ : dY Try.prog 66 := ⟨_, Try.func66, by kernel_rfl, by kernel_rfl⟩
theorem JY : dY Try.prog 67 := ⟨_, Try.func67, by kernel_rfl, by kernel_rfl⟩
theorem yU : dY Try.prog 68 := ⟨_, Try.func68, by kernel_rfl, by kernel_rfl⟩
def LetU (w w' : World) (v : Value) (o : Option (Int → Prop)) : Prop := ∃ a c ob l, v = .tuple #[.slice a l.length c, .bool o.isSome] ∧ OwnS w' 78 2 a l.length c (cW l) ob ∧ Ge w ob ∧ Vr l ∧ l.length ≤ 8 ∧ ∀ S, o = some S → ∀ c, InR c l ↔ S c
theorem LetOut.uni {w w' : World} {v : Value} {o : Option (Int → Prop)} (h : LetOut w w' v o) : LetU w w' v o := by
  rcases h with ⟨rfl, rfl⟩ | ⟨S, v', rfl, rfl, a, c, ob, l, rfl, h2, h3, h4, h5, h6⟩
  · exact ⟨none, 0, none, [], rfl, OwnS.nil _ _ _, Ge.nil _, (fun g hg => by cases hg), Nat.zero_le _, fun S h => by cases h⟩
  · exact ⟨a, c, ob, l, rfl, h2, h3, h4, h6, fun S' e => by cases e; exact h5⟩
theorem BS {α : Type} {o : Option α} (h : o.isSome = true) : ∃ x, o = some x := Option.isSome_iff_exists.1 h
theorem none_of {α : Type} {o : Option α} (h : (!o.isSome) = true) : o = none := by cases o with | none => rfl | some x => cases h
theorem xL {α : Type} {o : Option α} (h : o.isSome = false) : o = none := by cases o with | none => rfl | some x => cases h
theorem MZ {s : ByteArray} {a b j : Nat} (h : 0 ≤ FK s a b j) : ∃ k, jU s a b s.size j = some k ∧ FK s a b j = (k : Int) - (j : Nat) ∧ j ≤ k ∧ k + 1 < s.size := by
  unfold FK at *
  cases hf : jU s a b s.size j with
  | none => rw [hf] at h; exact absurd h (show ¬ (0 : Int) ≤ -1 by omega)
  | some k =>
    obtain ⟨h1, h2, h3⟩ := (pZ s a b s.size j (by omega)).1 k hf
    exact ⟨k, rfl, rfl, h1, h2.1⟩
theorem UD {s : ByteArray} {a b j : Nat} (h : ¬ 0 ≤ FK s a b j) : jU s a b s.size j = none := by
  unfold FK at h
  cases hf : jU s a b s.size j with
  | none => rfl
  | some k =>
    rw [hf] at h
    obtain ⟨h1, h2, h3⟩ := (pZ s a b s.size j (by omega)).1 k hf
    exact absurd (show (0 : Int) ≤ (k : Int) - j by omega) h
section
variable {s : ByteArray} {i k j m : Nat} {S : Int → Prop} {r q : Int} {e : Int}
theorem it_cut (h1 : isB s i 91 ∧ isB s (i + 1) 58) (h2 : jU s 58 93 s.size (i + 2) = some k) (h3 : i + 2 < k ∧ sb s (i + 2) = 94) (h4 : iJ (s.extract (i + 3) k) = some S) : jH s i = .ok (uT S, k + 2) := by unfold jH; rw [if_pos h1, h2]; show (if _ then _ else _) = _; rw [if_pos h3, h4]
theorem it_cutN (h1 : isB s i 91 ∧ isB s (i + 1) 58) (h2 : jU s 58 93 s.size (i + 2) = some k) (h3 : i + 2 < k ∧ sb s (i + 2) = 94) (h4 : iJ (s.extract (i + 3) k) = none) : jH s i = .error 81 := by unfold jH; rw [if_pos h1, h2]; show (if _ then _ else _) = _; rw [if_pos h3, h4]
theorem it_nam (h1 : isB s i 91 ∧ isB s (i + 1) 58) (h2 : jU s 58 93 s.size (i + 2) = some k) (h3 : ¬ (i + 2 < k ∧ sb s (i + 2) = 94)) (h4 : iJ (s.extract (i + 2) k) = some S) : jH s i = .ok (S, k + 2) := by unfold jH; rw [if_pos h1, h2]; show (if _ then _ else _) = _; rw [if_neg h3, h4]
theorem it_namN (h1 : isB s i 91 ∧ isB s (i + 1) 58) (h2 : jU s 58 93 s.size (i + 2) = some k) (h3 : ¬ (i + 2 < k ∧ sb s (i + 2) = 94)) (h4 : iJ (s.extract (i + 2) k) = none) : jH s i = .error 81 := by unfold jH; rw [if_pos h1, h2]; show (if _ then _ else _) = _; rw [if_neg h3, h4]
theorem MU (h : (isB s i 91 ∧ isB s (i + 1) 58) → jU s 58 93 s.size (i + 2) = none) : jH s i = jZ s i := by
  unfold jH
  by_cases h1 : isB s i 91 ∧ isB s (i + 1) 58
  · rw [if_pos h1, h h1]
  · rw [if_neg h1]
theorem it_let (h1 : i + 1 < s.size ∧ sb s i = 92) (h2 : vY (sb s (i + 1)) = some S) : jZ s i = .ok (S, i + 2) := by unfold jZ; rw [if_pos h1, h2]
theorem IS (h : (i + 1 < s.size ∧ sb s i = 92) → vY (sb s (i + 1)) = none) : jZ s i = iF s i := by
  unfold jZ
  by_cases h1 : i + 1 < s.size ∧ sb s i = 92
  · rw [if_pos h1, h h1]
  · rw [if_neg h1]
theorem rg_err (h : lH s i = .error e) : iF s i = .error e := by unfold iF; rw [h]
theorem rg_one (h : lH s i = .ok (r, j)) (h2 : ¬ (isB s j 45 ∧ j + 1 < s.size ∧ sb s (j + 1) ≠ 93)) : iF s i = .ok (rgS r r, j) := by unfold iF; rw [h]; show (if _ then _ else _) = _; rw [if_neg h2]
theorem rg_err2 (h : lH s i = .ok (r, j)) (h2 : isB s j 45 ∧ j + 1 < s.size ∧ sb s (j + 1) ≠ 93) (h3 : lH s (j + 1) = .error e) : iF s i = .error e := by unfold iF; rw [h]; show (if _ then _ else _) = _; rw [if_pos h2, h3]
theorem rg_bad (h : lH s i = .ok (r, j)) (h2 : isB s j 45 ∧ j + 1 < s.size ∧ sb s (j + 1) ≠ 93) (h3 : lH s (j + 1) = .ok (q, m)) (h4 : q < r) : iF s i = .error 81 := by unfold iF; rw [h]; show (if _ then _ else _) = _; rw [if_pos h2, h3]; show (if _ then _ else _) = _; rw [if_pos h4]
theorem rg_two (h : lH s i = .ok (r, j)) (h2 : isB s j 45 ∧ j + 1 < s.size ∧ sb s (j + 1) ≠ 93) (h3 : lH s (j + 1) = .ok (q, m)) (h4 : ¬ q < r) : iF s i = .ok (rgS r q, m) := by unfold iF; rw [h]; show (if _ then _ else _) = _; rw [if_pos h2, h3]; show (if _ then _ else _) = _; rw [if_neg h4]
end
theorem ES {s : ByteArray} {a : Nat} (h : 0 < (bH s a).2) {t : Nat} (h1 : 1 ≤ t) (h2 : t < (bH s a).2) : 128 ≤ sb s (a + t) := by
  have ha : a < s.size := by
    rcases Nat.lt_or_ge a s.size with h3 | h3
    · exact h3
    · rw [oX h3] at h; cases h
  rcases fF s a ha with ⟨w, hw1, hw4, hws, hit, -⟩ | ⟨hn, -⟩
  · obtain ⟨e, -⟩ := oY hw1 hw4 hws hit
    rw [e] at h2
    replace h2 : t < w := h2
    match w, hw1, hw4, hit, h2 with
    | 1, _, _, _, h2 => omega
    | 2, _, _, hit, h2 =>
      have := (hit2 s a).1 hit
      obtain rfl : t = 1 := by omega
      omega
    | 3, _, _, hit, h2 =>
      have := (hit3 s a).1 hit
      obtain rfl | rfl : t = 1 ∨ t = 2 := by omega
      · omega
      · omega
    | 4, _, _, hit, h2 =>
      have := (hit4 s a).1 hit
      obtain rfl | rfl | rfl : t = 1 ∨ t = 2 ∨ t = 3 := by omega
      · omega
      · omega
      · omega
  · rw [sB hn] at h; cases h
theorem mZ {s : ByteArray} {i k : Nat} (hb : Bd s i) (hik : i ≤ k) (hk : k < s.size) (ha : sb s k < 128) : Bd s k := by
  obtain ⟨N, -, hU, -, -⟩ := hb
  have key : ∀ m, m ≤ N → k < cD s m → ∃ n, n < N ∧ cD s n ≤ k ∧ k < cD s (n + 1) := by
    intro m
    induction m with
    | zero => intro _ h; exact absurd h (Nat.not_lt_zero _)
    | succ m ih =>
      intro hm h
      by_cases h1 : k < cD s m
      · exact ih (by omega) h1
      · exact ⟨m, hm, by omega, h⟩
  obtain ⟨n, h1, h2, h3⟩ := key N (Nat.le_refl _) (by rw [hU.1]; exact hk)
  rcases Nat.eq_or_lt_of_le h2 with e | e
  · exact ⟨N, n, hU, by omega, e⟩
  · have h4 := ES (hU.2 n h1) (t := k - cD s n) (by omega) (by rw [cD] at h3; omega)
    rw [show cD s n + (k - cD s n) = k by omega] at h4
    omega
theorem rg_in (r q x : Int) : InR x [(r, q)] ↔ rgS r q x := by rw [jB]; exact Iff.rfl
theorem wI {s : ByteArray} {i j : Nat} {S : Int → Prop} (h : jH s i = .ok (S, j)) (hb : Bd s i) (hi : i < s.size) : Bd s j ∧ i < j := by
  have hrange : iF s i = .ok (S, j) → Bd s j ∧ i < j := fun h => by
    unfold iF at h
    cases h1 : lH s i with
    | error e => rw [h1] at h; cases h
    | ok x =>
      obtain ⟨lo, k⟩ := x
      obtain ⟨h2, h3, -⟩ := uO h1 hb hi
      rw [h1] at h
      replace h : (if isB s k 45 ∧ k + 1 < s.size ∧ sb s (k + 1) ≠ 93 then (match lH s (k + 1) with | .error e => .error e | .ok (hi, k) => if hi < lo then .error 81 else .ok (rgS lo hi, k)) else .ok (rgS lo lo, k) : PR) = .ok (S, j) := h
      split at h
      · rename_i h4
        have h5 := h4.1.asc (by decide) h2
        cases h6 : lH s (k + 1) with
        | error e => rw [h6] at h; cases h
        | ok y =>
          obtain ⟨hi2, m⟩ := y
          obtain ⟨h7, h8, -⟩ := uO h6 h5 h4.2.1
          rw [h6] at h
          replace h : (if hi2 < lo then .error 81 else .ok (rgS lo hi2, m) : PR) = .ok (S, j) := h
          split at h
          · cases h
          · cases h; exact ⟨h7, by omega⟩
      · cases h; exact ⟨h2, h3⟩
  have hrest : jZ s i = .ok (S, j) → Bd s j ∧ i < j := fun h => by
    unfold jZ at h
    split at h
    · rename_i h1
      cases h2 : vY (sb s (i + 1)) with
      | none => rw [h2] at h; exact hrange h
      | some S' =>
        rw [h2] at h
        cases h
        have h3 := (hb.asc hi (by omega)).1
        refine ⟨(h3.asc h1.1 ?_).1, by omega⟩
        rcases Nat.lt_or_ge (sb s (i + 1)) 128 with h4 | h4
        · exact h4
        · rw [uV (by omega)] at h2; cases h2
    · exact hrange h
  unfold jH at h
  split at h
  · rename_i h1
    cases h2 : jU s 58 93 s.size (i + 2) with
    | none => rw [h2] at h; exact hrest h
    | some k =>
      rw [h2] at h
      obtain ⟨h3, h4, -⟩ := (pZ s 58 93 s.size (i + 2) (by omega)).1 k h2
      have hk : ∃ S', (.ok (S', k + 2) : PR) = .ok (S, j) := by
        replace h : (if i + 2 < k ∧ sb s (i + 2) = 94 then (match iJ (s.extract (i + 3) k) with | none => .error 81 | some S => .ok (uT S, k + 2)) else (match iJ (s.extract (i + 2) k) with | none => .error 81 | some S => .ok (S, k + 2)) : PR) = .ok (S, j) := h
        split at h
        · split at h
          · cases h
          · exact ⟨_, h⟩
        · split at h
          · cases h
          · exact ⟨_, h⟩
      obtain ⟨S', h5⟩ := hk
      cases h5
      have h6 : Bd s k := mZ hb (by omega) (by have := h4.1; omega) (by have := h4.2.1; omega)
      exact ⟨isB.asc (b := 93) ⟨h4.1, h4.2.2⟩ (by decide) (isB.asc (b := 58) ⟨by have := h4.1; omega, h4.2.1⟩ (by decide) h6), by omega⟩
  · exact hrest h
theorem cut_iff {s : ByteArray} {i k : Nat} (hk : k ≤ s.size) : (Pre (s.extract i k) (ByteArray.mk #[94]) ↔ i < k ∧ sb s i = 94) ∧ (i < k → (s.extract i k).extract (ByteArray.mk #[94]).size (s.extract i k).size = s.extract (i + 1) k) := by
  have hns := fB (s := s) (a := i) (b := k) hk
  constructor
  · rw [RO]
    constructor
    · rintro ⟨h1, h2⟩
      rw [hns] at h1
      rw [dM hk (by omega)] at h2
      exact ⟨by omega, h2⟩
    · rintro ⟨h1, h2⟩
      exact ⟨by rw [hns]; omega, by rw [dM hk (by omega)]; exact h2⟩
  · intro h1
    show (s.extract i k).extract 1 (s.extract i k).size = _
    apply yL
    · rw [fB (Nat.le_refl _), hns, fB hk]; omega
    · intro j hj
      rw [fB (Nat.le_refl _), hns] at hj
      rw [dM (Nat.le_refl _) (by rw [hns]; omega), dM hk (by omega), dM hk (by omega), Nat.add_assoc]
theorem MS {w : World} {b : Nat} {s : ByteArray} {st : PS} {a : Option Addr} {c : Nat} {ob : Option Nat} (hR : RdAt w b s st a c ob) (hs : s.size ≤ 1000000) (hlt : st.pos < s.size) (hb : Bd s st.pos) (hG : Glb w) :
    Calls Try.prog 55 #[.pointer (some ⟨b, 0, none⟩)] w (RetP (fun v w' => ∃ S j, jH s st.pos = .ok (S, j) ∧ zK w w' v S 16 ∧ Evo [b] w w' ∧ RdAt w' b s (gT st j) a c ob) (fun v w' => ∃ e, jH s st.pos = .error e ∧ v = flt e ∧ Evo [b] w w')) := by
  have hap := hR.ap; have hgb : nU ∉ [b] := fun h => hR.glb hG (List.mem_singleton.1 h).symm
  have hle : st.pos ≤ s.size := by omega
  have hrs := fB (s := s) (a := st.pos) (Nat.le_refl s.size); have e0 : sb (s.extract st.pos s.size) 0 = sb s st.pos := kV (by omega); refine bE (N := 126) Try.func55 rfl rfl rfl ?_; refine csr (wan (aI ?_)); refine eH (by kernel_rfl) (by kernel_rfl) ?_; refine bD (fun _ B => aX rfl) ?_; refine bD (fun _ B => aF rfl) ?_; refine bD (fun _ B => aD rfl cV) ?_; refine bD (fun _ B => aS rfl dC (aY (B.blk0 hR.blk) rfl)) ?_; refine bD (fun _ B => aX rfl) ?_; refine bD (fun _ B => aF rfl) ?_; refine bD (fun _ B => aD rfl bF) ?_; refine bD (fun _ B => aS rfl aT (aY (B.blk0 hR.blk) rfl)) ?_; refine bD (fun _ B => jI (l := st.pos) rfl rfl Try.underlying9 rfl hle) ?_; refine bD (fun _ B => eG rfl) ?_; refine eL (fun e9 B => aC ?_); have d1 := (Evo.refl [b] w).then B; refine aI (mK (α := Unit) (fun x => []) [(0, _), (3, _)] (fun x wr => Evo [] e9 wr ∧ (jH s st.pos = jZ s st.pos)) ⟨rfl, rfl, trivial⟩ ?_ ?_)
  ·refine csr (aB ?_); refine aL (vs := [_, _]) qD rfl (wK (s.extract st.pos s.size) (ByteArray.mk #[91, 58]) (by omega) (show 2 ≤ 140737488355328 by omega)) rfl ?_; rintro _ w6 ⟨rfl, a3⟩; have f5 := (Evo.refl [] e9).then a3; refine wnn (aW rfl (fun a4 => ?_) (fun a4 => ?_))
   ·have hh2 := (pre2 hle).1 a4; refine csr (aB ?_)
    refine aA (CV (l := 2) rfl rfl Try.underlying9 rfl (by have := hh2.2.1; omega) (UH hle)) ?_
    refine aL (vs := [_, _]) yV rfl (MX s 58 93 (st.pos + 2) (by have := hh2.2.1; omega) hs (hG.evo (d1.then a3) hgb)) rfl ?_
    rintro _ h7 ⟨rfl, L⟩; have f8 := f5.then L; refine wan (csr (aB (aA (eF rfl rfl) ?_))); refine wnn (aW rfl (fun a5 => ?_) (fun a5 => ?_))
    ·obtain ⟨k, hk, hfk, hk2, hk3⟩ := MZ a5; rw [hfk]
     have e33 : (s.extract st.pos s.size).extract 2 (k - st.pos) = s.extract (st.pos + 2) k := by rw [yA (by omega) (by omega), show st.pos + (k - st.pos) = k by omega]
     have hns := fB (s := s) (a := st.pos + 2) (b := k) (by omega); have hcut := cut_iff (s := s) (i := st.pos + 2) (k := k) (by omega); refine csr (aB (aB ?_)); refine aA (aK rfl rfl (by omega) (by omega)) ?_; refine aA (rE (l := 2) (h := k - st.pos) rfl rfl rfl Try.underlying9 rfl (by omega) (by omega) (by omega) e33) ?_; refine aL (vs := [_, _]) JZ rfl (cut_ok (s.extract (st.pos + 2) k) (ByteArray.mk #[94]) (by omega) (show 1 ≤ 140737488355328 by omega)) rfl ?_; rintro _ h8 ⟨rfl, a6⟩; have d2 := ((d1.then a3).then L).then a6; have a7 := a6.blk0 (L.blk0 (a3.blk0 (B.blk0 hR.blk)))
     generalize hnm : (if Pre (s.extract (st.pos + 2) k) (ByteArray.mk #[94]) then (s.extract (st.pos + 2) k).extract (ByteArray.mk #[94]).size (s.extract (st.pos + 2) k).size else s.extract (st.pos + 2) k) = nm
     refine aB (aA (bN rfl rfl) ?_); refine aA (bN rfl rfl) ?_; refine bX (wan (csr (aB (aL (vs := [_]) JY rfl (TJ nm) rfl ?_)))); rintro rv i1 ⟨hL, M⟩; obtain ⟨a1, c1, ob1, l1, rfl, F, hg1, hv1, hl1, c6⟩ := hL.uni; have d3 := d2.then M; refine aB (aA (bN rfl rfl) ?_); refine aA (bN rfl rfl) ?_; refine bX (wan (aI (csr (aB (aA (dR rfl) ?_))))); refine wnn (fG rfl (fun a8 => ?_) (fun a8 => ?_))
     ·refine aG (cB (vs := [_]) cQ rfl (eB 81) rfl ?_ ?_)
      ·intro pv wp hpp; obtain ⟨rfl, hpw⟩ := hpp; have hno := none_of a8; refine And.intro rfl ⟨_, rfl, _, ?_, rfl, (d3).then hpw⟩
       by_cases hP : Pre (s.extract (st.pos + 2) k) (ByteArray.mk #[94])
       · have h9 := hcut.1.1 hP; rw [if_pos hP, hcut.2 h9.1] at hnm; subst hnm; exact it_cutN hh2 hk h9 hno
       · rw [if_neg hP] at hnm; subst hnm; exact it_namN hh2 hk (fun h => hP (hcut.1.2 h)) hno
      intro _ _ hF; exact hF.elim
     obtain ⟨S1, hS1'⟩ := BS (by simpa using a8); refine aM (aC (csr (aB (aA (aF rfl) (wfl rfl bF rfl aT (M.blk0 a7) rfl (aB ?_)))))); refine aA (aK rfl rfl (by omega) (by omega)) ?_; refine aA (NG (r := ((k + 2 : Nat) : Int)) rfl rfl (by omega) (by omega) (by omega)) ?_; refine aA (aF rfl) (aA (aD rfl bF) ?_); refine bB rfl rfl (by first | rfl | assumption) bY (M.blk0 a7) rfl fun i2 a9 b4 => ?_
     have b5 := d3.step b4 (by intro y hy; left; simpa using hy)
     have d4 := (((((hR.own.evo0 B).evo0 a3).evo0 L).evo0 a6).evo0 M).evo b4 hap.symm.own1; have d5 := F.evo b4 (Apart.fresh (Lt.blk a7) hg1).symm.own1
     try simp only [cH, Nat.reduceAdd] at a9
     refine wnn (aI (csr (aB (wnn (aW rfl (fun H => ?_) (fun H => ?_))))))
     ·refine aG (aB ?_); refine aL (vs := [_]) lQ rfl (lJ d5 hv1 (by omega) (c6 S1 hS1')) rfl ?_; rintro rv i3 f6; have b6 := f6.evo; refine wan (csr (aB (wan (aH (aE (aE (cE (br1 ?_)))))))); have h9 := hcut.1.1 H; rw [if_pos H, hcut.2 h9.1] at hnm; subst hnm; exact ⟨_, _, it_cut hh2 hk h9 hS1', rY (f6.set b5) (by omega), (b5.then b6), ⟨(b6.blk0 a9), (d4.evo0 b6), hR.ne⟩⟩
     refine aM (aC (csr (aB (wan (aH (aE (aE (cE (br1 ?_))))))))); rw [if_neg H] at hnm; subst hnm; exact ⟨_, _, it_nam hh2 hk (fun h => H (hcut.1.2 h)) hS1', ⟨_, _, _, _, rfl, d5, (Ge.fresh d2 hg1), hv1, c6 S1 hS1', by omega⟩, b5, ⟨a9, d4, hR.ne⟩⟩
    refine aM (bA ?_); refine ⟨(), trivial, ⟨rfl, rfl, trivial⟩, f8, ?_⟩; exact MU (fun _ => UD a5)
   refine aM (bA ?_); refine ⟨(), trivial, ⟨rfl, rfl, trivial⟩, f5, ?_⟩; exact MU (fun h => (a4 ((pre2 hle).2 h)).elim)
  rintro x c7 ⟨b7, hIR⟩; refine aC ?_; show CW _ _ _ _ [(0, _), (3, _)] _; have b8 := d1.then b7; have O := b7.blk0 (B.blk0 hR.blk); have d6 := (hR.own.evo0 B).evo0 b7; refine aI (mK (α := Unit) (fun x => []) [(0, _), (3, _)] (fun x wr => Evo [] c7 wr ∧ (jZ s st.pos = iF s st.pos)) ⟨rfl, rfl, trivial⟩ ?_ ?_)
  ·refine csr (aB (aA (bR rfl Try.underlying9 rfl) ?_)); refine aA (fE rfl rfl) ?_; refine aB (bC (t := 61) rfl (fun f9 => ?_) (fun f9 => ?_))
   ·have e1 : sb (s.extract st.pos s.size) 1 = sb s (st.pos + 1) := kV (by omega); refine aO (aB (aO ?_)); refine aA (iT (n := 0) rfl rfl Try.underlying9 rfl (by omega) e0) ?_; refine aO (wel ?_); refine bQ (wnn (aW rfl (fun g0 => ?_) (fun g0 => ?_)))
    ·refine csr (aB ?_); refine aA (iT (n := 1) rfl rfl Try.underlying9 rfl (by omega) e1) ?_; refine aL (vs := [_]) yX rfl (uB (sb s (st.pos + 1)) (iY s _)) rfl ?_; rintro rv i4 ⟨hL, I⟩; obtain ⟨a1, c1, ob1, l1, rfl, F, hg1, hv1, hl1, c6⟩ := hL.uni; refine aB (aA (bN rfl rfl) ?_); refine aA (bN rfl rfl) ?_; refine bX (wan (csr (aB (wnn (fG rfl (fun b9 => ?_) (fun b9 => ?_))))))
     ·obtain ⟨S1, hS1'⟩ := BS b9; refine csr (aB (aA (aF rfl) (wfl rfl bF rfl aT (I.blk0 O) rfl ?_))); refine aA (aK rfl rfl (by omega) (by omega)) ?_; refine aA (aF rfl) (aA (aD rfl bF) ?_); refine bB rfl rfl (by first | rfl | assumption) bY (I.blk0 O) rfl fun i5 d7 c0 => ?_
      have g1 := (b8.then I).step c0 (by intro y hy; left; simpa using hy)
      try simp only [cH, Nat.reduceAdd] at d7
      refine wnn (csr (aB (wan (aH (aE (aE (cE (br1 ?_)))))))); exact ⟨_, _, (hIR).trans (it_let ⟨by omega, by omega⟩ hS1'), ⟨_, _, _, _, rfl, (F.evo c0 (Apart.fresh (Lt.blk O) hg1).symm.own1), (Ge.fresh b8 hg1), hv1, c6 S1 hS1', by omega⟩, g1, ⟨d7, ((d6.evo0 I).evo c0 hap.symm.own1), hR.ne⟩⟩
     refine aM (bA ?_); refine ⟨(), trivial, ⟨rfl, rfl, trivial⟩, ((Evo.refl [] c7).then I), ?_⟩; exact IS (fun _ => xL b9)
    refine aM (bA ?_); refine ⟨(), trivial, ⟨rfl, rfl, trivial⟩, (Evo.refl [] c7), ?_⟩; exact IS (fun h => by omega)
   refine aJ (aJ (aJ (bK (wnn (cK rfl ?_))))); refine aM (bA ?_); refine ⟨(), trivial, ⟨rfl, rfl, trivial⟩, (Evo.refl [] c7), ?_⟩; exact IS (fun h => by omega)
  rintro x i6 ⟨c2, hRG⟩; refine aC ?_; show CW _ _ _ _ [(0, _), (3, _)] _; have d8 := b8.then c2; refine csr (aB (cB (vs := [_]) yU rfl (AA ⟨(c2.blk0 O), (d6.evo0 c2), hR.ne⟩ hs hlt hb) rfl ?_ ?_))
  ·intro pv wp hpp; obtain ⟨hpe, rfl, hpw⟩ := hpp; exact And.intro rfl ⟨_, rfl, _, (hIR).trans ((hRG).trans (rg_err hpe)), rfl, (d8).step hpw (fun y hy => .inl hy)⟩
  rintro _ i7 ⟨lo, j, hx, rfl, g2, J⟩; obtain ⟨hbj, hij, hlo0, hlo1⟩ := uO hx hb hlt; have hpj : (gT st j).pos = j := rfl; have hbjl := hbj.le; have hrs2 := fB (s := s) (a := j) (Nat.le_refl s.size); refine wan (aI ?_); refine eH (by kernel_rfl) (by kernel_rfl) ?_; refine bD (fun _ A => aX rfl) ?_; refine bD (fun _ A => aF rfl) ?_; refine bD (fun _ A => aD rfl cV) ?_; refine bD (fun _ A => aS rfl dC (aY (A.blk0 J.blk) rfl)) ?_; refine bD (fun _ A => aX rfl) ?_; refine bD (fun _ A => aF rfl) ?_; refine bD (fun _ A => aD rfl bF) ?_; refine bD (fun _ A => aS rfl aT (aY (A.blk0 J.blk) rfl)) ?_; refine bD (fun _ A => jI (l := j) rfl rfl Try.underlying9 rfl hbj.le) ?_; refine bD (fun _ A => eG rfl) ?_; refine eL (fun g3 A => aC ?_); have c3 := (d8.step g2 (fun y hy => .inl hy)).then A; have c4 := A.blk0 J.blk; refine aI (aI (mK (α := Bool) (fun z104 => [(104, .bool z104)]) [(0, _), (11, _)] (fun z104 wr => g3 = wr ∧ (z104 = true ↔ (s.size < j + 2 ∨ sb s j ≠ 45 ∨ sb s (j + 1) = 93))) ⟨rfl, rfl, trivial⟩ ?_ ?_))
  ·refine aG (aB (aA (bR rfl Try.underlying9 rfl) ?_)); refine aA (cU rfl rfl) ?_; refine aB (bC (t := 95) rfl (fun g4 => ?_) (fun g4 => ?_))
   ·refine aJ (aJ (aJ (bQ (aB (aJ (aJ (aJ (bQ (aQ (bA ?_)))))))))); refine ⟨_, ⟨rfl, trivial⟩, ⟨rfl, rfl, trivial⟩, rfl, ?_⟩
    simp only [decide_eq_true_eq, Bool.false_eq_true, Bool.true_eq_false, true_iff, false_iff, eq_self, iff_true]; omega
   have f0 : sb (s.extract j s.size) 0 = sb s j := kV (by omega); have f1 : sb (s.extract j s.size) 1 = sb s (j + 1) := kV (by omega); refine aO (aB (aO ?_)); refine aA (iT (n := 0) rfl rfl Try.underlying9 rfl (by omega) f0) ?_; refine aO (aA (gE rfl rfl) ?_); refine bK (aB (bC (t := 100) rfl (fun d9 => ?_) (fun d9 => ?_)))
   ·refine aJ (aJ (aJ (bQ (aQ (bA ?_))))); refine ⟨_, ⟨rfl, trivial⟩, ⟨rfl, rfl, trivial⟩, rfl, ?_⟩
    simp only [decide_eq_true_eq, Bool.false_eq_true, Bool.true_eq_false, true_iff, false_iff, eq_self, iff_true]; omega
   refine aO (aB (aO ?_)); refine aA (iT (n := 1) rfl rfl Try.underlying9 rfl (by omega) f1) ?_; refine aO (wel ?_); refine bK (aQ (bA ?_)); refine ⟨_, ⟨rfl, trivial⟩, ⟨rfl, rfl, trivial⟩, rfl, ?_⟩
   simp only [decide_eq_true_eq, Bool.false_eq_true, Bool.true_eq_false, true_iff, false_iff, eq_self, iff_true]; omega
  rintro z104 _ ⟨rfl, hz104⟩; refine aC ?_; show CW _ _ _ _ [(104, _), (0, _), (11, _)] _; refine fG rfl (fun U => ?_) (fun U => ?_)
  ·subst U; have hj104 := hz104.1 rfl; refine csr (aB (aB (bM (vs := [_, _]) rfl cS rfl rfl rfl rfl fun i8 i9 g5 g7 V => ?_))); refine aL (vs := [_]) dF rfl (fM (es := [lo, lo]) g5 (by simp)) rfl ?_; rintro _ j0 ⟨a1, c1, ob1, rfl, F, hg1, c5⟩; have e2 := Ge.fresh (c3.then V) hg1; have e3 := (c3.then V).then c5; have e4 := c5.blk0 (V.blk0 c4); have e5 := ((J.own.evo0 A).evo0 V).evo0 c5; refine wan (aH (aE (cE (br1 ?_))))
   exact ⟨_, _, (hIR).trans ((hRG).trans (rg_one hx (by rintro ⟨⟨h1, h2⟩, h3, h4⟩; omega))), ⟨_, _, _, [(lo, lo)], rfl, F, e2, (fun g hg => by rw [List.mem_singleton.1 hg]; exact ⟨hlo0, Int.le_refl _, hlo1⟩), rg_in lo lo, by simp⟩, e3, ⟨e4, e5, hR.ne⟩⟩
  subst U
  have hj104 : ¬ (s.size < j + 2 ∨ sb s j ≠ 45 ∨ sb s (j + 1) = 93) := fun h9 => by have := hz104.2 h9; cases this
  have hdash : isB s j 45 ∧ j + 1 < s.size ∧ sb s (j + 1) ≠ 93 := ⟨⟨by omega, by omega⟩, by omega, by omega⟩; have hbj1 := hdash.1.asc (by decide) hbj; refine aM (aC (csr (aB (aA (aF rfl) (wfl rfl bF rfl aT c4 rfl ?_))))); refine aA (aK rfl rfl (by omega) (by omega)) ?_; refine aA (aF rfl) (aA (aD rfl bF) ?_); refine bB rfl rfl (by first | rfl | assumption) bY c4 rfl fun g8 c8 c9 => ?_
  have d0 := c3.step c9 (by intro y hy; left; simpa using hy)
  try simp only [cH, Nat.reduceAdd] at c8
  refine wnn (csr (aB (cB (vs := [_]) yU rfl (AA (st := gT st (j + 1)) ⟨c8, ((J.own.evo0 A).evo c9 J.ap.symm.own1), hR.ne⟩ hs hdash.2.1 hbj1) rfl ?_ ?_)))
  ·intro pv wp hpp; obtain ⟨hpe, rfl, hpw⟩ := hpp; exact And.intro rfl ⟨_, rfl, _, (hIR).trans ((hRG).trans (rg_err2 hx hdash hpe)), rfl, (d0).step hpw (fun y hy => .inl hy)⟩
  rintro _ g9 ⟨hi, m, hx2, rfl, e6, f7⟩; have a0 := d0.step e6 (fun y hy => .inl hy); obtain ⟨hbm, hjm, hhi0, hhi1⟩ := uO hx2 hbj1 hdash.2.1; refine wan (aI (csr (aB (aB (aA (cU rfl rfl) ?_))))); refine wnn (aW rfl (fun e7 => ?_) (fun e7 => ?_))
  ·refine aG (cB (vs := [_]) cQ rfl (eB 81) rfl ?_ ?_)
   ·intro pv wp hpp; obtain ⟨rfl, hpw⟩ := hpp; exact And.intro rfl ⟨_, rfl, _, (hIR).trans ((hRG).trans (rg_bad hx hdash hx2 (by omega))), rfl, (a0).then hpw⟩
   intro _ _ hF; exact hF.elim
  refine aM (aC (csr (aB (aB (bM (vs := [_, _]) rfl cS rfl rfl rfl rfl fun h0 h5 e8 g6 D => ?_))))); refine aL (vs := [_]) dF rfl (fM (es := [lo, hi]) e8 (by simp)) rfl ?_; rintro _ h6 ⟨a1, c1, ob1, rfl, F, hg1, a2⟩; refine wan (aH (cE (br1 ?_)))
  exact ⟨_, _, (hIR).trans ((hRG).trans (rg_two hx hdash hx2 (by omega))), ⟨_, _, _, [(lo, hi)], rfl, F, (Ge.fresh (a0.then D) hg1), (fun g hg => by rw [List.mem_singleton.1 hg]; exact ⟨hlo0, by omega, hhi1⟩), rg_in lo hi, by simp⟩, ((a0.then D).then a2), ⟨(a2.blk0 (D.blk0 f7.blk)), ((f7.own.evo0 D).evo0 a2), hR.ne⟩⟩
theorem yZ : dY Try.prog 55 := ⟨_, Try.func55, by kernel_rfl, by kernel_rfl⟩
theorem jR {w : World} {o p : Option Nat} (h : Lt w o) (hp : Ge w p) : Apart o p := fun g h1 h2 => by have := h g h1; have := hp g h2; omega
section
variable {s : ByteArray} {f i j : Nat} {fst : Bool} {S T : Int → Prop} {e : Int} {fl : Fl}
theorem its_end (h : s.size ≤ i) : fX s (f + 1) fst S i = .error 81 := by rw [fX, if_pos h]
theorem TS (h : i < s.size) (h2 : sb s i = 93) : fX s (f + 1) false S i = .ok (S, i + 1) := by rw [fX, if_neg (by omega), if_pos ⟨rfl, h2⟩]
theorem MR (h : i < s.size) (h2 : ¬ (fst = false ∧ sb s i = 93)) (h3 : jH s i = .error e) : fX s (f + 1) fst S i = .error e := by rw [fX, if_neg (by omega), if_neg h2, h3]
theorem TT (h : i < s.size) (h2 : ¬ (fst = false ∧ sb s i = 93)) (h3 : jH s i = .ok (T, j)) : fX s (f + 1) fst S i = fX s f false (unS S T) j := by rw [fX, if_neg (by omega), if_neg h2, h3]
theorem wM (h : fX s (s.size + 1) true (fun _ => False) (if isB s i 94 then i + 1 else i) = .error e) : kW s fl i = .error e := by unfold kW; rw [h]
theorem yF (h : fX s (s.size + 1) true (fun _ => False) (if isB s i 94 then i + 1 else i) = .ok (S, j)) :
    kW s fl i = .ok (iZ (if isB s i 94 then uT (if fl.fold = true then oD S else S) else if fl.fold = true then oD S else S), j) := by unfold kW; rw [h]
end
structure ClG where
  f : Nat
  i : Nat
  n : Nat
  fst : Bool
  S : Int → Prop
  l : List (Int × Int)
  sa : Option Addr
  sc : Nat
  so : Option Nat
structure ClI (w wr : World) (b : Nat) (s : ByteArray) (st : PS) (a : Option Addr) (c : Nat) (ob : Option Nat) (b2 i0 : Nat) (x : ClG) : Prop where
  hr : RdAt wr b s (gT st x.i) a c ob
  bd : Bd s x.i
  eq : fX s (s.size + 1) true (fun _ => False) i0 = fX s x.f x.fst x.S x.i
  hf : s.size + 1 ≤ x.f + x.i
  own : OwnS wr 78 2 x.sa x.n x.sc (cW x.l) x.so
  ge : Ge w x.so
  vr : Vr x.l
  hS : ∀ c, InR c x.l ↔ x.S c
  len : x.n ≤ 16 * x.i
  hb2 : wr.heap[b2]? = some (.cells #[iv 0, .int .i32 0, .slice none 0 0, iv 0, iv 0, .bool false, iv 0, .string ByteArray.empty, .slice none 0 0] 37 (0, 0))
  g2 : Ge w (some b2)
  a2 : Apart (some b2) x.so
theorem un_in {l m : List (Int × Int)} {S T : Int → Prop} (h1 : ∀ c, InR c l ↔ S c) (h2 : ∀ c, InR c m ↔ T c) (c : Int) : InR c (l ++ m) ↔ unS S T c := by rw [mS, h1, h2]; exact Iff.rfl
theorem VC {w : World} {b : Nat} {s : ByteArray} {st : PS} {a : Option Addr} {c : Nat} {ob : Option Nat} (hR : RdAt w b s st a c ob) (hs : s.size ≤ 10000) (hb : Bd s st.pos) (hG : Glb w) :
    Calls Try.prog 44 #[.pointer (some ⟨b, 0, none⟩)] w (RetP (fun v w' => ∃ x j, kW s st.now st.pos = .ok (x, j) ∧ TOut w w' v x ∧ Evo [b] w w' ∧ RdAt w' b s (gT st j) a c ob) (fun v w' => ∃ e, kW s st.now st.pos = .error e ∧ v = flt e ∧ Evo [b] w w')) := by
  have hap := hR.ap; have hgb : nU ∉ [b] := fun h => hR.glb hG (List.mem_singleton.1 h).symm; have hbw : Lt w (some b) := Lt.blk hR.blk; have how : Lt w ob := Lt.own hR.own; refine bE (N := 41) Try.func44 rfl rfl rfl ?_; refine csr (cL rfl eN fun b2 w1 g7 e2 e3 => ?_); have g8 := e2; have f8 := Apart.new (Lt.blk hR.blk) e2; have g9 := Ge.new (Evo.refl [b] w) e2; refine wnn (csr (aB ?_)); refine aL (vs := [_, _]) iR rfl (mQ ⟨(e3.blk0 hR.blk), (hR.own.evo0 e3), hR.ne⟩ (by omega) 94 (by decide)) rfl ?_; rintro _ h0 ⟨rfl, e4, d4⟩; have g1 := ((Evo.refl [b] w).then e3).step e4 (fun y hy => .inl hy); have g2 := e4.blk g7 ((by first | exact f8.symm.own1 | exact f8.symm.nmem1)); refine wan (aI ?_)
  have hR1' : RdAt h0 b s (gT st (if isB s st.pos 94 then st.pos + 1 else st.pos)) a c ob := by by_cases h94 : isB s st.pos 94; { rw [if_pos h94] at d4 ⊢; exact d4 }; { rw [if_neg h94] at d4 ⊢; exact d4 }
  generalize hi0 : (if isB s st.pos 94 then st.pos + 1 else st.pos) = i0 at *
  have hbd0 : Bd s i0 := by rw [← hi0]; split; (rename_i h94; exact h94.asc (by decide) hb); exact hb
  refine aG (wan (aI (csr (wan (bJ ?_)))))
  refine dA (α := ClG) (⟨s.size + 1, i0, 0, true, fun _ => False, [], none, 0, none⟩) (fun x => [(4, .slice x.sa x.n x.sc), (5, .bool x.fst)]) [(0, _), (2, _), (3, _)] (fun x wr => Evo [b] w wr ∧ (ClI w wr b s st a c ob b2 i0 x)) (fun x => x.f) ⟨rfl, rfl, trivial⟩ ⟨rfl, rfl, rfl, trivial⟩ ⟨g1, ⟨hR1', hbd0, rfl, by show s.size + 1 ≤ s.size + 1 + i0; omega, OwnS.nil _ _ _, Ge.nil _, fun g hg => (by cases hg), fun c => ⟨fun h => (jV c h).elim, False.elim⟩, Nat.zero_le _, g2, g9, Apart.nil _⟩⟩ ?_
  rintro ⟨f, i, n, fst, S, l, sa, sc, so⟩ wr15 ⟨g3, ⟨L, hbi, heq, hfi, hown, hge, hvr, hSl, hlen, hb2, hg2, ha2⟩⟩; show CW _ _ _ _ [(4, .slice sa n sc), (5, .bool fst), (0, _), (2, _), (3, _)] _
  try dsimp only at L hbi heq hfi hown hge hvr hSl hlen hb2 hg2 ha2
  have hil := hbi.le; have a1 : Apart (some b) so := jR hbw hge; have f9 : Apart ob so := jR how hge; have I : Apart (some b) (some b2) := jR hbw hg2; have d5 : Apart ob (some b2) := jR how hg2; have hpi : (gT st i).pos = i := rfl; obtain ⟨f', hff⟩ : ∃ f', f = f' + 1 := ⟨f - 1, by omega⟩; refine aI (bJ (aI (aI ?_))); refine eH (by kernel_rfl) (by kernel_rfl) ?_; refine bD (fun _ A => aX rfl) ?_; refine bD (fun _ A => aF rfl) ?_; refine bD (fun _ A => aD rfl bF) ?_; refine bD (fun _ A => aS rfl aT (aY (A.blk0 L.blk) rfl)) ?_; refine bD (fun _ A => aX rfl) ?_; refine bD (fun _ A => aF rfl) ?_; refine bD (fun _ A => aD rfl cV) ?_; refine bD (fun _ A => aS rfl dC (aY (A.blk0 L.blk) rfl)) ?_; refine bD (fun _ A => bR rfl Try.underlying9 rfl) ?_; refine bD (fun _ A => lL rfl rfl) ?_; refine eL (fun h4 A => aC ?_); have b6 := g3.then A; refine aW rfl (fun g4 => ?_) (fun g4 => ?_)
  ·refine aG (cB (vs := [_]) cQ rfl (eB 81) rfl ?_ ?_)
   ·intro pv wp hpp; obtain ⟨rfl, hpw⟩ := hpp
    exact And.intro rfl ⟨_, rfl, _, wM (by rw [hi0, heq, hff]; exact its_end (by omega)), rfl, (b6).then hpw⟩
   intro _ _ hF; exact hF.elim
  have hii : i < s.size := by omega
  refine aM (aC (aI (csr (aB (aA (dR rfl) ?_))))); refine aB (jM (t := 21) rfl (fun D => ?_) (fun D => ?_))
  ·replace D := congrArg Bool.not D; simp only [Bool.not_not, Bool.not_true, Bool.not_false] at D; subst D
   refine aO (aB (aO ?_)); refine aL (vs := [_, _]) iR rfl (mQ ⟨(A.blk0 L.blk), (L.own.evo0 A), L.ne⟩ (by omega) 93 (by decide)) rfl ?_; rintro _ i2 ⟨rfl, d3, B⟩; have H := b6.step d3 (fun y hy => .inl hy); have c0 := (hown.evo0 A).evo d3 ((by first | exact a1.symm.own1 | exact a1.symm.nmem1)); have M := d3.blk (A.blk0 hb2) ((by first | exact I.symm.own1 | exact I.symm.nmem1)); refine bQ (wnn (aW rfl (fun O => ?_) (fun O => ?_)))
   ·rw [if_pos O] at B; have hst := (heq.trans (congrArg (fun f => fX s f false S i) hff)).trans (TS hii O.2); have h1 := pV hown; subst h1; refine cN (bL (sF rfl (bL (bL (cM (aC ?_)))))); refine aI (csr (aB (aA (aF rfl) (aA (aD rfl eJ) (wfl rfl rQ rfl hD B.blk rfl (wnn (fG rfl (fun F => ?_) (fun F => ?_))))))))
    ·replace F : st.now.fold = true := F; refine aG (aB ?_); refine aL (vs := [_]) yY rfl (BA c0 hvr (by omega) hSl) rfl ?_; rintro rv i3 ⟨a4, c4, ob4, rfl, g0, hg4, hl4, hcan4, heq4, U⟩; have c1 := H.then U; have c6 := U.blk0 M; refine wan (aI (csr (aB (wnn (aW rfl (fun J => ?_) (fun J => ?_))))))
     ·refine aG (aB ?_); refine aL (vs := [_]) lQ rfl (lJ g0 (vA hcan4) (by omega) heq4) rfl ?_; rintro rv i4 ⟨a5, c5, ob5, rfl, e5, hg5, hl5, hcan5, heq5, V⟩; refine wan (csr (aB ?_)); refine aL (vs := [_]) iQ rfl (mR e5 (vA hcan5) (by omega) heq5) rfl ?_; rintro rv h2 ⟨b7, c7⟩; have b8 := (c1.then V); have hb29 := eM (V.blk0 c6); obtain ⟨vs9, bs9, rfl, hOT, hFr⟩ := b7; obtain ⟨ra, rc, ka, kc, rfl⟩ := id hOT.nine; refine aV rfl rfl aU (c7.blk0 (V.blk0 c6)) rfl rfl ⟨by first | rfl | assumption, by first | rfl | assumption, by first | rfl | assumption, by first | rfl | assumption, by first | rfl | assumption, by first | rfl | assumption, by first | rfl | assumption, by first | rfl | assumption, by first | rfl | assumption, trivial⟩ fun i5 e6 c8 => ?_
      try simp only [cH, Nat.reduceAdd] at e6
      refine wnn (aH (cE (cI rfl (ResOk.cellA rfl bZ aU e6 rfl) ?_)))
      have hcl := yF (fl := st.now) (by rw [hi0]; exact hst)
      rw [if_pos J, if_pos F] at hcl; refine ⟨_, _, hcl, ⟨_, bs9, rfl, hOT.evo ((Evo.refl ([b2]) h2).step c8 (fun y hy => .inl hy)) (fun q hq h => ?_), hFr.older b8.size⟩, (((c1.then V).then c7).step c8 hg2.mem1), ⟨(c8.blk (c7.blk0 (V.blk0 (U.blk0 B.blk))) I.nmem1), ((((B.own.evo0 U).evo0 V).evo0 c7).evo c8 d5.own1), B.ne⟩⟩
      have := hFr.ge q hq; rw [List.mem_singleton.1 h] at this; omega
     refine aM (aC (csr (aB ?_))); refine aL (vs := [_]) iQ rfl (mR g0 (vA hcan4) (by omega) heq4) rfl ?_; rintro rv h3 ⟨b7, c9⟩; have b8 := c1; have hb29 := eM c6; obtain ⟨vs9, bs9, rfl, hOT, hFr⟩ := b7; obtain ⟨ra, rc, ka, kc, rfl⟩ := id hOT.nine; refine aV rfl rfl aU (c9.blk0 c6) rfl rfl ⟨by first | rfl | assumption, by first | rfl | assumption, by first | rfl | assumption, by first | rfl | assumption, by first | rfl | assumption, by first | rfl | assumption, by first | rfl | assumption, by first | rfl | assumption, by first | rfl | assumption, trivial⟩ fun i6 e7 d0 => ?_
     try simp only [cH, Nat.reduceAdd] at e7
     refine wnn (aH (cE (cI rfl (ResOk.cellA rfl bZ aU e7 rfl) ?_)))
     have hcl := yF (fl := st.now) (by rw [hi0]; exact hst)
     rw [if_neg J, if_pos F] at hcl; refine ⟨_, _, hcl, ⟨_, bs9, rfl, hOT.evo ((Evo.refl ([b2]) h3).step d0 (fun y hy => .inl hy)) (fun q hq h => ?_), hFr.older b8.size⟩, ((c1.then c9).step d0 hg2.mem1), ⟨(d0.blk (c9.blk0 (U.blk0 B.blk)) I.nmem1), (((B.own.evo0 U).evo0 c9).evo d0 d5.own1), B.ne⟩⟩
     have := hFr.ge q hq; rw [List.mem_singleton.1 h] at this; omega
    replace F : st.now.fold = false := F; refine aM (aC (aI (csr (aB (wnn (aW rfl (fun J => ?_) (fun J => ?_)))))))
    ·refine aG (aB ?_); refine aL (vs := [_]) lQ rfl (lJ c0 hvr (by omega) hSl) rfl ?_; rintro rv i7 ⟨a5, c5, ob5, rfl, e5, hg5, hl5, hcan5, heq5, a0⟩; refine wan (csr (aB ?_)); refine aL (vs := [_]) iQ rfl (mR e5 (vA hcan5) (by omega) heq5) rfl ?_; rintro rv g5 ⟨b7, a6⟩; have b8 := (H.then a0); have hb29 := eM (a0.blk0 M); obtain ⟨vs9, bs9, rfl, hOT, hFr⟩ := b7; obtain ⟨ra, rc, ka, kc, rfl⟩ := id hOT.nine; refine aV rfl rfl aU (a6.blk0 (a0.blk0 M)) rfl rfl ⟨by first | rfl | assumption, by first | rfl | assumption, by first | rfl | assumption, by first | rfl | assumption, by first | rfl | assumption, by first | rfl | assumption, by first | rfl | assumption, by first | rfl | assumption, by first | rfl | assumption, trivial⟩ fun h5 d6 a7 => ?_
     try simp only [cH, Nat.reduceAdd] at d6
     refine wnn (aH (cE (cI rfl (ResOk.cellA rfl bZ aU d6 rfl) ?_)))
     have hcl := yF (fl := st.now) (by rw [hi0]; exact hst)
     rw [if_pos J, if_neg (show ¬ st.now.fold = true by simp [F])] at hcl; refine ⟨_, _, hcl, ⟨_, bs9, rfl, hOT.evo ((Evo.refl ([b2]) g5).step a7 (fun y hy => .inl hy)) (fun q hq h => ?_), hFr.older b8.size⟩, (((H.then a0).then a6).step a7 hg2.mem1), ⟨(a7.blk (a6.blk0 (a0.blk0 B.blk)) I.nmem1), (((B.own.evo0 a0).evo0 a6).evo a7 d5.own1), B.ne⟩⟩
     have := hFr.ge q hq; rw [List.mem_singleton.1 h] at this; omega
    refine aM (aC (csr (aB ?_))); refine aL (vs := [_]) iQ rfl (mR c0 hvr (by omega) hSl) rfl ?_; rintro rv g6 ⟨b7, a8⟩; have b8 := H; have hb29 := eM M; obtain ⟨vs9, bs9, rfl, hOT, hFr⟩ := b7; obtain ⟨ra, rc, ka, kc, rfl⟩ := id hOT.nine; refine aV rfl rfl aU (a8.blk0 M) rfl rfl ⟨by first | rfl | assumption, by first | rfl | assumption, by first | rfl | assumption, by first | rfl | assumption, by first | rfl | assumption, by first | rfl | assumption, by first | rfl | assumption, by first | rfl | assumption, by first | rfl | assumption, trivial⟩ fun h6 d7 a9 => ?_
    try simp only [cH, Nat.reduceAdd] at d7
    refine wnn (aH (cE (cI rfl (ResOk.cellA rfl bZ aU d7 rfl) ?_)))
    have hcl := yF (fl := st.now) (by rw [hi0]; exact hst)
    rw [if_neg J, if_neg (show ¬ st.now.fold = true by simp [F])] at hcl; refine ⟨_, _, hcl, ⟨_, bs9, rfl, hOT.evo ((Evo.refl ([b2]) g6).step a9 (fun y hy => .inl hy)) (fun q hq h => ?_), hFr.older b8.size⟩, ((H.then a8).step a9 hg2.mem1), ⟨(a9.blk (a8.blk0 B.blk) I.nmem1), ((B.own.evo0 a8).evo a9 d5.own1), B.ne⟩⟩
    have := hFr.ge q hq; rw [List.mem_singleton.1 h] at this; omega
   rw [if_neg O] at B; refine aM (aC (aG (aB (aB ?_)))); refine cB (vs := [_]) yZ rfl (MS ⟨B.blk, B.own, B.ne⟩ (by omega) hii hbi (hG.evo H hgb)) rfl ?_ ?_
   ·intro pv wp hpp; obtain ⟨e9, hpe, rfl, hpw⟩ := hpp
    exact And.intro rfl ⟨_, rfl, _, wM (by rw [hi0, heq, hff]; exact MR hii (fun h => O ⟨hii, h.2⟩) hpe), rfl, (H).step hpw (fun y hy => .inl hy)⟩
   rintro rv h7 ⟨T, j, hx, hT, d1, b9⟩; obtain ⟨a3, c3, ob3, li, rfl, e8, hg3, hv3, f0, hl3⟩ := hT; have d8 := H.step d1 (fun y hy => .inl hy); have f6 := c0.evo d1 ((by first | exact a1.symm.own1 | exact a1.symm.nmem1)); have d9 := d1.blk M ((by first | exact I.symm.own1 | exact I.symm.nmem1)); obtain ⟨hbj, hij⟩ := wI hx hbi hii; have hjl := hbj.le; refine cZ rfl rfl rfl rfl fJ f6 (Src.ofOwn e8 (pP li)) (by omega) fun a2 c2 h8 ob2 f5 b4 hob151 => ?_; refine bX (aQ (aP (aC (aG (bX (aQ (bA ?_))))))); refine ⟨⟨f', j, n + li.length, false, unS S T, l ++ li, a2, c2, ob2⟩, ?_, ⟨rfl, rfl, trivial⟩, ⟨rfl, rfl, rfl, trivial⟩, (d8.step b4 hge.mem), ?_⟩
   · (try dsimp only); omega
   try dsimp only
   refine ⟨⟨(b4.blk b9.blk a1.nmem), (b9.own.evo b4 f9.own), b9.ne⟩, hbj, ?_, (by show s.size + 1 ≤ f' + j; omega), ?_, (hge.app d8 hob151), HK hvr hv3, un_in hSl f0, (by show n + li.length ≤ 16 * j; omega), (b4.blk d9 ha2.nmem), hg2, (ha2.app (Lt.blk d9) hob151)⟩
   · rw [heq, hff]; exact TT hii (fun h => O ⟨hii, h.2⟩) hx
   · rw [jF]; exact f5
  replace D := congrArg Bool.not D; simp only [Bool.not_not, Bool.not_true, Bool.not_false] at D; subst D
  refine aJ (aJ (bK (wnn (cK rfl ?_)))); refine aM (aC (aG (aB (aB ?_)))); refine cB (vs := [_]) yZ rfl (MS ⟨(A.blk0 L.blk), (L.own.evo0 A), L.ne⟩ (by omega) hii hbi (hG.evo b6 hgb)) rfl ?_ ?_
  ·intro pv wp hpp; obtain ⟨e9, hpe, rfl, hpw⟩ := hpp
   exact And.intro rfl ⟨_, rfl, _, wM (by rw [hi0, heq, hff]; exact MR hii (fun h => (by cases h.1)) hpe), rfl, (b6).step hpw (fun y hy => .inl hy)⟩
  rintro rv h9 ⟨T, j, hx, hT, d2, b9⟩; obtain ⟨a3, c3, ob3, li, rfl, e8, hg3, hv3, f0, hl3⟩ := hT; have e0 := b6.step d2 (fun y hy => .inl hy); have f7 := (hown.evo0 A).evo d2 ((by first | exact a1.symm.own1 | exact a1.symm.nmem1)); have e1 := d2.blk (A.blk0 hb2) ((by first | exact I.symm.own1 | exact I.symm.nmem1)); obtain ⟨hbj, hij⟩ := wI hx hbi hii; have hjl := hbj.le; refine cZ rfl rfl rfl rfl fJ f7 (Src.ofOwn e8 (pP li)) (by omega) fun a2 c2 i1 ob2 f5 b5 hob178 => ?_; refine bX (aQ (aP (aC (aG (bX (aQ (bA ?_))))))); refine ⟨⟨f', j, n + li.length, false, unS S T, l ++ li, a2, c2, ob2⟩, ?_, ⟨rfl, rfl, trivial⟩, ⟨rfl, rfl, rfl, trivial⟩, (e0.step b5 hge.mem), ?_⟩
  · (try dsimp only); omega
  try dsimp only
  refine ⟨⟨(b5.blk b9.blk a1.nmem), (b9.own.evo b5 f9.own), b9.ne⟩, hbj, ?_, (by show s.size + 1 ≤ f' + j; omega), ?_, (hge.app e0 hob178), HK hvr hv3, un_in hSl f0, (by show n + li.length ≤ 16 * j; omega), (b5.blk e1 ha2.nmem), hg2, (ha2.app (Lt.blk e1) hob178)⟩
  · rw [heq, hff]; exact TT hii (fun h => (by cases h.1)) hx
  · rw [jF]; exact f5
theorem zB : dY Try.prog 42 := ⟨_, Try.func42, by kernel_rfl, by kernel_rfl⟩
theorem xH {r : ByteArray} : ∀ {f i : Nat} {n : Int}, 0 ≤ n → n ≤ 1001 → i ≤ r.size → 0 ≤ (iI r f i n).1 ∧ (iI r f i n).1 ≤ 1001 ∧ i ≤ (iI r f i n).2 ∧ (iI r f i n).2 ≤ r.size
  | 0, i, n, h0, h1, hi => ⟨h0, h1, Nat.le_refl _, hi⟩
  | f + 1, i, n, h0, h1, hi => by
    rw [iI]
    split
    · rename_i h
      have h2 : 48 ≤ sb r i ∧ sb r i ≤ 57 := h.2
      obtain ⟨i1, i2, i3, i4⟩ := xH (r := r) (f := f) (i := i + 1) (n := min (n * 10 + ((sb r i : Int) - 48)) 1001) (by omega) (by omega) (by omega)
      exact ⟨i1, i2, by omega, i4⟩
    · exact ⟨h0, h1, Nat.le_refl _, hi⟩
theorem pNum_go {r : ByteArray} {f i : Nat} {n : Int} (h : i < r.size) (h2 : 48 ≤ sb r i) (h3 : sb r i ≤ 57) : iI r (f + 1) i n = iI r f (i + 1) (min (n * 10 + ((sb r i : Int) - 48)) 1001) := by rw [iI, if_pos ⟨h, h2, h3⟩]
theorem xG {r : ByteArray} {f i : Nat} {n : Int} (h : ¬ (i < r.size ∧ digN (sb r i))) : iI r f i n = (n, i) := by
  cases f with
  | zero => rfl
  | succ f => rw [iI, if_neg h]
structure NuG where
  f : Nat
  i : Nat
  n : Int
structure NuI (r : ByteArray) (i0 : Nat) (x : NuG) : Prop where
  hi : x.i ≤ r.size
  n0 : 0 ≤ x.n
  n1 : x.n ≤ 1001
  hf : r.size ≤ x.f + x.i
  eq : iI r r.size i0 0 = iI r x.f x.i x.n
theorem AQ {w : World} (r : ByteArray) (i0 : Nat) (hi : i0 ≤ r.size) (hs : r.size ≤ 1000000) :
    Calls Try.prog 42 #[.string r, .int .i64 (i0 : Nat)] w (Ret fun v w' => v = .tuple #[iv (iI r r.size i0 0).1, iv ((iI r r.size i0 0).2 : Nat)] ∧ Evo [] w w') := by
  refine bE (N := 36) Try.func42 rfl rfl rfl ?_; refine csr (bX (wan (csr (wan (aI (bJ ?_))))))
  refine dA (α := NuG) (⟨r.size, i0, 0⟩) (fun x => [(6, .int .i64 x.n), (1, .int .i64 (x.i : Nat))]) [(0, _), (4, _), (5, _)] (fun x wr => Evo [] w wr ∧ (NuI r i0 x)) (fun x => x.f) ⟨rfl, rfl, trivial⟩ ⟨rfl, rfl, rfl, trivial⟩ ⟨(Evo.refl [] w), ⟨hi, Int.le_refl _, (by show (0 : Int) ≤ 1001; omega), Nat.le_add_right _ _, rfl⟩⟩ ?_
  rintro ⟨f, i, n⟩ wr1 ⟨A, ⟨hi1, H, I, hf, heq⟩⟩; show CW _ _ _ _ [(6, .int .i64 n), (1, .int .i64 (i : Nat)), (0, _), (4, _), (5, _)] _
  try dsimp only at hi1 H I hf heq
  have hb := iY r i; refine aI (csr (aB (aB (aA (bR rfl Try.underlying9 rfl) ?_)))); refine aA (cU rfl rfl) ?_; refine aB (bC (t := 11) rfl (fun B => ?_) (fun B => ?_))
  ·refine aO (aB (aO (aB (aO ?_)))); refine aA (eE (n := i) rfl rfl Try.underlying9 rfl (by omega)) ?_; refine aO (aA (eF rfl rfl) ?_); refine bQ (aB (bC (t := 17) rfl (fun D => ?_) (fun D => ?_)))
   ·refine aO (aB (aO (aB (aO ?_)))); refine aA (eE (n := i) rfl rfl Try.underlying9 rfl (by omega)) ?_; refine aO (aA (eW rfl rfl) ?_); refine bQ (wnn (aW rfl (fun F => ?_) (fun F => ?_)))
    ·refine aM (aC (bJ (csr (aB ?_)))); refine aA (fD rfl rfl (by omega) (by omega)) ?_; refine aB (aB ?_); refine aA (eE (n := i) rfl rfl Try.underlying9 rfl (by omega)) ?_; refine aA (kH rfl rfl (by omega) (by omega)) ?_; refine aA (iH rfl Try.underlying5 Try.underlying3 (sN (by omega) (by omega)).1 (sN (by omega) (by omega)).2) ?_; refine aA (aK rfl rfl (by omega) (by omega)) ?_; refine aA (iW rfl rfl) ?_; rw [xQ]; refine wan (aG (aB ?_)); refine aA (aK rfl rfl (by omega) (by omega)) ?_; refine bX (aQ (aP (bA ?_))); refine ⟨⟨f - 1, i + 1, min (n * 10 + ((sb r i : Int) - 48)) 1001⟩, ?_, ⟨rfl, rfl, trivial⟩, ⟨rfl, rfl, rfl, trivial⟩, A, ?_⟩
     · (try dsimp only); show f - 1 < f; omega
     try dsimp only
     have hf2 : f = f - 1 + 1 := by omega
     exact ⟨(by show i + 1 ≤ r.size; omega), (by show 0 ≤ min _ _; omega), (by show min _ _ ≤ _; omega), (by show r.size ≤ f - 1 + (i + 1); omega), heq.trans (by rw [hf2]; exact pNum_go (by omega) (by omega) (by omega))⟩
    refine cN (bL (bL (cM (aC ?_)))); refine csr (aB (aB (bX (wan (aH (cJ rfl rfl rfl ?_))))))
    have hend := heq.trans (xG (by rintro ⟨h1, h2, h3⟩; omega))
    rw [hend]; exact ⟨rfl, A⟩
   refine aJ (aJ (aJ (aJ (bK (wnn (cK rfl ?_)))))); refine cN (bL (bL (cM (aC ?_)))); refine csr (aB (aB (bX (wan (aH (cJ rfl rfl rfl ?_))))))
   have hend := heq.trans (xG (by rintro ⟨h1, h2, h3⟩; omega))
   rw [hend]; exact ⟨rfl, A⟩
  refine aJ (aJ (aJ (aJ (bK (aB (aJ (aJ (aJ (aJ (bK (wnn (cK rfl ?_)))))))))))); refine cN (bL (bL (cM (aC ?_)))); refine csr (aB (aB (bX (wan (aH (cJ rfl rfl rfl ?_))))))
  have hend := heq.trans (xG (by rintro ⟨h1, h2, h3⟩; omega))
  rw [hend]; exact ⟨rfl, A⟩
section
variable {r : ByteArray}
theorem LO (h : sb r 0 = 42) : lG r = (0, -1, 1) := by unfold lG; rw [if_pos h]
theorem LP (h : sb r 0 = 43) : lG r = (1, -1, 1) := by unfold lG; rw [if_neg (by omega), if_pos h]
theorem pr_qu (h : sb r 0 = 63) : lG r = (0, 1, 1) := by unfold lG; rw [if_neg (by omega), if_neg (by omega), if_pos h]
theorem RP (h : ¬ sb r 0 = 42) (h2 : ¬ sb r 0 = 43) (h3 : ¬ sb r 0 = 63) (h4 : ¬ sb r 0 = 123) : lG r = (0, 0, 0) := by unfold lG; rw [if_neg h, if_neg h2, if_neg h3, if_pos h4]
theorem pr_br (h : sb r 0 = 123) {lo : Int} {i : Nat} (h2 : iI r r.size 1 0 = (lo, i)) : lG r = if 1 < i ∧ isB r i 44 then (if isB r (iI r r.size (i + 1) 0).2 125 then (lo, (if (iI r r.size (i + 1) 0).2 = i + 1 then -1 else (iI r r.size (i + 1) 0).1), (iI r r.size (i + 1) 0).2 + 1) else (0, 0, 0))
    else if i = 1 ∨ ¬ isB r i 125 then (0, 0, 0) else (lo, lo, i + 1) := by
  unfold lG
  rw [if_neg (by omega), if_neg (by omega), if_neg (by omega), if_neg (by omega), h2]
end
theorem mP {p : Int × Int × Nat} {a b : Int} {c : Nat} (h : p = (a, b, c)) : (Value.tuple #[iv a, iv b, iv (c : Nat)]) = .tuple #[iv p.1, iv p.2.1, iv (p.2.2 : Nat)] := by rw [h]
theorem HV {w : World} {b : Nat} {s : ByteArray} {st : PS} {a : Option Addr} {c : Nat} {ob : Option Nat} (hR : RdAt w b s st a c ob) (hs : s.size ≤ 1000000) (hlt : st.pos < s.size) :
    Calls Try.prog 36 #[.pointer (some ⟨b, 0, none⟩)] w (Ret fun v w' => v = .tuple #[iv (lG (s.extract st.pos s.size)).1, iv (lG (s.extract st.pos s.size)).2.1, iv ((lG (s.extract st.pos s.size)).2.2 : Nat)] ∧ Evo [] w w') := by
  have hap := hR.ap; have hrs := fB (s := s) (a := st.pos) (Nat.le_refl s.size); refine bE (N := 78) Try.func36 rfl rfl rfl ?_; refine csr (bX (bX (wan (aI ?_)))); refine eH (by kernel_rfl) (by kernel_rfl) ?_; refine bD (fun _ A => aX rfl) ?_; refine bD (fun _ A => aF rfl) ?_; refine bD (fun _ A => aD rfl cV) ?_; refine bD (fun _ A => aS rfl dC (aY (A.blk0 hR.blk) rfl)) ?_; refine bD (fun _ A => aX rfl) ?_; refine bD (fun _ A => aF rfl) ?_; refine bD (fun _ A => aD rfl bF) ?_; refine bD (fun _ A => aS rfl aT (aY (A.blk0 hR.blk) rfl)) ?_; refine bD (fun _ A => jI (l := st.pos) rfl rfl Try.underlying9 rfl (by omega)) ?_; refine bD (fun _ A => eG rfl) ?_; refine eL (fun a5 A => aC ?_); have J := (Evo.refl [] w).then A; refine aI (aI ?_)
  generalize s.extract st.pos s.size = r at *
  refine aG (aB ?_); refine aA (eE (n := 0) rfl rfl Try.underlying9 rfl (by omega)) ?_; refine wnn (bJ (csr (wel ?_))); refine wan (aW rfl (fun L => ?_) (fun L => ?_))
  ·refine csr (bX (bX (wan (aH (aN (aE (dK rfl rfl rfl rfl ?_))))))); exact ⟨mP (LO (by omega)), J⟩
  refine csr (wel ?_); refine wan (aW rfl (fun M => ?_) (fun M => ?_))
  ·refine csr (bX (bX (wan (aH (aN (aE (dK rfl rfl rfl rfl ?_))))))); exact ⟨mP (LP (by omega)), J⟩
  refine csr (wel ?_); refine wan (aW rfl (fun O => ?_) (fun O => ?_))
  ·refine csr (bX (bX (wan (aH (aN (aE (dK rfl rfl rfl rfl ?_))))))); exact ⟨mP (pr_qu (by omega)), J⟩
  refine csr (wel ?_); refine wan (aW rfl (fun U => ?_) (fun U => ?_))
  ·refine aM (aP (aC (csr (aB ?_)))); refine aL (vs := [_, _]) zB rfl (AQ r 1 (by omega) (by omega)) rfl ?_; rintro _ w6 ⟨rfl, a4⟩; obtain ⟨lo, i, hp1⟩ : ∃ lo i, iI r r.size 1 0 = (lo, i) := ⟨_, _, rfl⟩; have hb1 := xH (r := r) (f := r.size) (i := 1) (n := 0) (by omega) (by omega) (by omega); have hbr := pr_br (r := r) (by omega) hp1; rw [hp1] at hb1 ⊢; simp only at hb1; have B := J.then a4; refine aB (aA (bN rfl rfl) ?_); refine aA (bN rfl rfl) ?_; refine bX (wan (csr (aB (wan (aI (csr (aB (aA (fE rfl rfl) ?_)))))))); refine aB (bC (t := 37) rfl (fun V => ?_) (fun V => ?_))
   ·refine aO (aB (aO (aB (aO (aA (bR rfl Try.underlying9 rfl) ?_))))); refine aO (aA (cU rfl rfl) ?_); refine bQ (aB (bC (t := 43) rfl (fun a0 => ?_) (fun a0 => ?_)))
    ·refine aO (aB (aO (aB (aO ?_)))); refine aA (eE (n := i) rfl rfl Try.underlying9 rfl (by omega)) ?_; refine aO (wel ?_); refine bQ (wnn (aW rfl (fun a1 => ?_) (fun a1 => ?_)))
     ·have hcm : 1 < i ∧ isB r i 44 := ⟨by omega, by omega, by omega⟩; refine csr (aB ?_); refine aA (aK rfl rfl (by omega) (by omega)) ?_; refine wan (csr (aB (aB ?_))); refine aL (vs := [_, _]) zB rfl (AQ r (i + 1) (by omega) (by omega)) rfl ?_; rintro _ a6 ⟨rfl, a2⟩; obtain ⟨hi2, m, hp2⟩ : ∃ hi2 m, iI r r.size (i + 1) 0 = (hi2, m) := ⟨_, _, rfl⟩; have hb2 := xH (r := r) (f := r.size) (i := i + 1) (n := 0) (by omega) (by omega) (by omega); rw [if_pos hcm, hp2] at hbr; rw [hp2] at hb2 ⊢; simp only at hb2 hbr; have I := B.then a2; refine aB (aA (bN rfl rfl) ?_); refine aA (bN rfl rfl) ?_; refine bX (wan (csr (aB (aB (wel ?_))))); refine wnn (aW rfl (fun a3 => ?_) (fun a3 => ?_))
      ·have hmi : m = i + 1 := by omega
       refine aG (wan (aI (csr (aB (wel ?_))))); refine aB (bC (t := 62) rfl (fun D => ?_) (fun D => ?_))
       ·refine aJ (aJ (aJ (aJ (bQ (aB (aJ (aJ (aJ (aJ (bQ (wnn (dD rfl ?_)))))))))))); refine csr (bX (bX (wan (aH (aE (dK rfl rfl rfl rfl ?_))))))
        exact ⟨mP (hbr.trans (if_neg (fun h => by have h1 := h.1; have h2 := h.2; omega))), I⟩
       refine aO (aB (aO (aB (aO (aA (bR rfl Try.underlying9 rfl) ?_))))); refine aO (aA (eF rfl rfl) ?_); refine bK (aB (bC (t := 68) rfl (fun F => ?_) (fun F => ?_)))
       ·refine aJ (aJ (aJ (aJ (bQ (wnn (dD rfl ?_)))))); refine csr (bX (bX (wan (aH (aE (dK rfl rfl rfl rfl ?_))))))
        exact ⟨mP (hbr.trans (if_neg (fun h => by have h1 := h.1; have h2 := h.2; omega))), I⟩
       refine aO (aB (aO (aB (aO ?_)))); refine aA (eE (n := m) rfl rfl Try.underlying9 rfl (by omega)) ?_; refine aO (aA (gE rfl rfl) ?_); refine bK (wnn (aW rfl (fun H => ?_) (fun H => ?_)))
       ·refine csr (bX (bX (wan (aH (aE (dK rfl rfl rfl rfl ?_))))))
        exact ⟨mP (hbr.trans (if_neg (fun h => by have h1 := h.1; have h2 := h.2; omega))), I⟩
       refine aM (aC (csr (aB (aB (aB ?_))))); refine aA (aK rfl rfl (by omega) (by omega)) ?_; refine bX (bX (wan (aH (dK rfl rfl rfl rfl ?_)))); exact ⟨mP (hbr.trans ((if_pos ⟨by omega, by omega⟩).trans (by rw [if_pos hmi]))), I⟩
      refine aM (aC (aI (csr (aB (wel ?_))))); refine aB (bC (t := 62) rfl (fun D => ?_) (fun D => ?_))
      ·refine aJ (aJ (aJ (aJ (bQ (aB (aJ (aJ (aJ (aJ (bQ (wnn (dD rfl ?_)))))))))))); refine csr (bX (bX (wan (aH (aE (dK rfl rfl rfl rfl ?_))))))
       exact ⟨mP (hbr.trans (if_neg (fun h => by have h1 := h.1; have h2 := h.2; omega))), I⟩
      refine aO (aB (aO (aB (aO (aA (bR rfl Try.underlying9 rfl) ?_))))); refine aO (aA (eF rfl rfl) ?_); refine bK (aB (bC (t := 68) rfl (fun F => ?_) (fun F => ?_)))
      ·refine aJ (aJ (aJ (aJ (bQ (wnn (dD rfl ?_)))))); refine csr (bX (bX (wan (aH (aE (dK rfl rfl rfl rfl ?_))))))
       exact ⟨mP (hbr.trans (if_neg (fun h => by have h1 := h.1; have h2 := h.2; omega))), I⟩
      refine aO (aB (aO (aB (aO ?_)))); refine aA (eE (n := m) rfl rfl Try.underlying9 rfl (by omega)) ?_; refine aO (aA (gE rfl rfl) ?_); refine bK (wnn (aW rfl (fun H => ?_) (fun H => ?_)))
      ·refine csr (bX (bX (wan (aH (aE (dK rfl rfl rfl rfl ?_))))))
       exact ⟨mP (hbr.trans (if_neg (fun h => by have h1 := h.1; have h2 := h.2; omega))), I⟩
      refine aM (aC (csr (aB (aB (aB ?_))))); refine aA (aK rfl rfl (by omega) (by omega)) ?_; refine bX (bX (wan (aH (dK rfl rfl rfl rfl ?_)))); exact ⟨mP (hbr.trans ((if_pos ⟨by omega, by omega⟩).trans (by rw [if_neg (by omega)]))), I⟩
     refine aM (aC (aI (csr (aB (wel ?_))))); refine aB (bC (t := 62) rfl (fun D => ?_) (fun D => ?_))
     ·refine aJ (aJ (aJ (aJ (bQ (aB (aJ (aJ (aJ (aJ (bQ (wnn (dD rfl ?_)))))))))))); refine csr (bX (bX (wan (aH (aE (dK rfl rfl rfl rfl ?_))))))
      exact ⟨mP (hbr.trans ((if_neg (by rintro ⟨h1, h2, h3⟩; omega)).trans (if_pos (.inl (by omega))))), B⟩
     refine aO (aB (aO (aB (aO (aA (bR rfl Try.underlying9 rfl) ?_))))); refine aO (aA (eF rfl rfl) ?_); refine bK (aB (bC (t := 68) rfl (fun F => ?_) (fun F => ?_)))
     ·refine aJ (aJ (aJ (aJ (bQ (wnn (dD rfl ?_)))))); refine csr (bX (bX (wan (aH (aE (dK rfl rfl rfl rfl ?_))))))
      exact ⟨mP (hbr.trans ((if_neg (by rintro ⟨h1, h2, h3⟩; omega)).trans (if_pos (.inr (fun h => by have h1 := h.1; have h2 := h.2; omega))))), B⟩
     refine aO (aB (aO (aB (aO ?_)))); refine aA (eE (n := i) rfl rfl Try.underlying9 rfl (by omega)) ?_; refine aO (aA (gE rfl rfl) ?_); refine bK (wnn (aW rfl (fun H => ?_) (fun H => ?_)))
     ·refine csr (bX (bX (wan (aH (aE (dK rfl rfl rfl rfl ?_))))))
      exact ⟨mP (hbr.trans ((if_neg (by rintro ⟨h1, h2, h3⟩; omega)).trans (if_pos (.inr (fun h => by have h1 := h.1; have h2 := h.2; omega))))), B⟩
     refine aM (aC (csr (aB (aB (aB ?_))))); refine aA (aK rfl rfl (by omega) (by omega)) ?_; refine bX (bX (wan (aH (dK rfl rfl rfl rfl ?_))))
     exact ⟨mP (hbr.trans ((if_neg (by rintro ⟨h1, h2, h3⟩; omega)).trans (if_neg (by rintro (h | h); omega; exact h ⟨by omega, by omega⟩)))), B⟩
    refine aJ (aJ (aJ (aJ (bK (wnn (cK rfl ?_)))))); refine aM (aC (aI (csr (aB (wel ?_))))); refine aB (bC (t := 62) rfl (fun D => ?_) (fun D => ?_))
    ·refine aJ (aJ (aJ (aJ (bQ (aB (aJ (aJ (aJ (aJ (bQ (wnn (dD rfl ?_)))))))))))); refine csr (bX (bX (wan (aH (aE (dK rfl rfl rfl rfl ?_))))))
     exact ⟨mP (hbr.trans ((if_neg (by rintro ⟨h1, h2, h3⟩; omega)).trans (if_pos (.inl (by omega))))), B⟩
    refine aO (aB (aO (aB (aO (aA (bR rfl Try.underlying9 rfl) ?_))))); refine aO (aA (eF rfl rfl) ?_); refine bK (aB (bC (t := 68) rfl (fun F => ?_) (fun F => ?_)))
    ·refine aJ (aJ (aJ (aJ (bQ (wnn (dD rfl ?_)))))); refine csr (bX (bX (wan (aH (aE (dK rfl rfl rfl rfl ?_))))))
     exact ⟨mP (hbr.trans ((if_neg (by rintro ⟨h1, h2, h3⟩; omega)).trans (if_pos (.inr (fun h => by have h1 := h.1; have h2 := h.2; omega))))), B⟩
    refine aO (aB (aO (aB (aO ?_)))); refine aA (eE (n := i) rfl rfl Try.underlying9 rfl (by omega)) ?_; refine aO (aA (gE rfl rfl) ?_); refine bK (wnn (aW rfl (fun H => ?_) (fun H => ?_)))
    ·refine csr (bX (bX (wan (aH (aE (dK rfl rfl rfl rfl ?_))))))
     exact ⟨mP (hbr.trans ((if_neg (by rintro ⟨h1, h2, h3⟩; omega)).trans (if_pos (.inr (fun h => by have h1 := h.1; have h2 := h.2; omega))))), B⟩
    refine aM (aC (csr (aB (aB (aB ?_))))); refine aA (aK rfl rfl (by omega) (by omega)) ?_; refine bX (bX (wan (aH (dK rfl rfl rfl rfl ?_))))
    exact ⟨mP (hbr.trans ((if_neg (by rintro ⟨h1, h2, h3⟩; omega)).trans (if_neg (by rintro (h | h); omega; exact h ⟨by omega, by omega⟩)))), B⟩
   refine aJ (aJ (aJ (aJ (bK (aB (aJ (aJ (aJ (aJ (bK (wnn (cK rfl ?_)))))))))))); refine aM (aC (aI (csr (aB (wel ?_))))); refine aB (bC (t := 62) rfl (fun D => ?_) (fun D => ?_))
   ·refine aJ (aJ (aJ (aJ (bQ (aB (aJ (aJ (aJ (aJ (bQ (wnn (dD rfl ?_)))))))))))); refine csr (bX (bX (wan (aH (aE (dK rfl rfl rfl rfl ?_))))))
    exact ⟨mP (hbr.trans ((if_neg (by rintro ⟨h1, h2, h3⟩; omega)).trans (if_pos (.inl (by omega))))), B⟩
   refine aO (aB (aO (aB (aO (aA (bR rfl Try.underlying9 rfl) ?_))))); refine aO (aA (eF rfl rfl) ?_); refine bK (aB (bC (t := 68) rfl (fun F => ?_) (fun F => ?_)))
   ·refine aJ (aJ (aJ (aJ (bQ (wnn (dD rfl ?_)))))); refine csr (bX (bX (wan (aH (aE (dK rfl rfl rfl rfl ?_))))))
    exact ⟨mP (hbr.trans ((if_neg (by rintro ⟨h1, h2, h3⟩; omega)).trans (if_pos (.inr (fun h => by have h1 := h.1; have h2 := h.2; omega))))), B⟩
   refine aO (aB (aO (aB (aO ?_)))); refine aA (eE (n := i) rfl rfl Try.underlying9 rfl (by omega)) ?_; refine aO (aA (gE rfl rfl) ?_); refine bK (wnn (aW rfl (fun H => ?_) (fun H => ?_)))
   ·refine csr (bX (bX (wan (aH (aE (dK rfl rfl rfl rfl ?_))))))
    exact ⟨mP (hbr.trans ((if_neg (by rintro ⟨h1, h2, h3⟩; omega)).trans (if_pos (.inr (fun h => by have h1 := h.1; have h2 := h.2; omega))))), B⟩
   refine aM (aC (csr (aB (aB (aB ?_))))); refine aA (aK rfl rfl (by omega) (by omega)) ?_; refine bX (bX (wan (aH (dK rfl rfl rfl rfl ?_))))
   exact ⟨mP (hbr.trans ((if_neg (by rintro ⟨h1, h2, h3⟩; omega)).trans (if_neg (by rintro (h | h); omega; exact h ⟨by omega, by omega⟩)))), B⟩
  refine csr (bX (bX (wan (aH (aN (aE (dK rfl rfl rfl rfl ?_))))))); exact ⟨mP (RP (by omega) (by omega) (by omega) (by omega)), J⟩
theorem cT : pN Try.prog 35 = some (37, 9) := by kernel_rfl
def KOut (w w' : World) (v : Value) (l : List Rx) : Prop := ∃ a c ob cs bs, v = .slice a l.length c ∧ OwnS w' 37 9 a l.length c cs ob ∧ OTs l w' cs bs ∧ Fr w (ob.toList ++ bs)
theorem gW {X : List Nat} {w w1 w2 : World} {x : Rx} {vs : List Value} {bs : List Nat} {g : Nat} (hO : OwnS w2 37 9 (some ⟨g, 0, none⟩) 1 1 vs (some g)) (hT : OT x w1 vs bs) (hF : Fr w bs) (hg : w1.heap.size ≤ g) (he : Evo X w1 w2) (hx : ∀ b, b ∈ bs → b ∉ X) (hw : w.heap.size ≤ w1.heap.size) : KOut w w2 (.slice (some ⟨g, 0, none⟩) 1 1) [x] := by
  refine ⟨_, _, some g, vs, bs, rfl, hO, OTs.single (hT.evo he hx), ⟨List.nodup_cons.2 ⟨fun h => ?_, hF.nd⟩, fun b hb => ?_⟩⟩
  · have := hT.lt g h; omega
  · rcases List.mem_cons.1 hb with rfl | hb
    · omega
    · exact hF.ge b hb
theorem ot_row (k : Int) {l : List Rx} {w : World} {a : Option Addr} {n c : Nat} {cs : List Value} {ob : Option Nat} {bs : List Nat} (hO : OwnS w 37 9 a n c cs ob) (hT : OTs l w cs bs) (hl : l.length ≤ 1000000) :
    OT (sQ k l) w [iv k, .int .i32 0, .slice none 0 0, iv 0, iv 0, .bool false, iv 0, .string ByteArray.empty, .slice a n c] (ob.toList ++ bs) := by
  have h1 := hO.length
  have h2 := hT.len
  obtain rfl : n = l.length := by omega
  unfold sQ
  rw [OT]
  exact ⟨none, 0, none, a, c, ob, cs, bs, rfl, OwnS.nil _ _ _, hO, hT, rfl, by simp, by show (0 : Nat) ≤ 1000000; omega, hl⟩
theorem OB {k : Int} {l : List Rx} (h : 2 ≤ l.length) : qN k l = sQ k l := by
  match l, h with
  | x :: y :: l, _ => rfl
theorem BW {w : World} (k : Int) {l : List Rx} {a : Option Addr} {n c : Nat} {cs : List Value} {ob : Option Nat} {bs : List Nat} (hO : OwnS w 37 9 a n c cs ob) (hT : OTs l w cs bs) (hl : l.length ≤ 1000000) :
    Calls Try.prog 27 #[iv k, .slice a n c] w (Ret fun v w' => (∃ vs bs', v = .agg vs.toArray ∧ OT (qN k l) w' vs bs' ∧ bs'.Sublist (ob.toList ++ bs)) ∧ Evo [] w w') := by
  have h1 := hO.length; have h2 := hT.len
  obtain rfl : n = l.length := by omega
  refine bE (N := 18) Try.func27 rfl rfl rfl ?_; refine csr (cL rfl eN fun b4 w1 B D U => ?_); have a2 := D; have F := Ge.new (Evo.refl [] w) D; have A := (Evo.refl [] w).then U; refine wnn (aI (csr (aB (aA (aZ rfl Try.underlying35 rfl) ?_)))); refine wnn (bJ (csr (wel ?_))); refine wan (aW rfl (fun a3 => ?_) (fun a3 => ?_))
  ·refine csr (aA (cC (vs := [(0, _)]) dI rfl (cells := [_, _, _, _, _, _, _, _, _]) rfl) ?_); refine aV rfl rfl aU B rfl rfl ⟨by first | rfl | assumption, by first | rfl | assumption, by first | rfl | assumption, by first | rfl | assumption, by first | rfl | assumption, by first | rfl | assumption, by first | rfl | assumption, by first | rfl | assumption, by first | rfl | assumption, trivial⟩ fun w9 H V => ?_
   try simp only [cH, Nat.reduceAdd] at H
   refine wnn (aH (aN (aE (cI rfl (ResOk.cellA rfl bZ aU H rfl) ?_)))); obtain rfl := List.length_eq_zero_iff.1 (show l.length = 0 by omega); exact ⟨⟨_, [], rfl, pW 1 _, List.nil_sublist _⟩, (A.step V F.mem1)⟩
  refine csr (wel ?_); refine wan (aW rfl (fun a0 => ?_) (fun a0 => ?_))
  ·obtain ⟨x, rfl⟩ := List.length_eq_one_iff.1 (show l.length = 1 by omega); obtain ⟨g1, hg1', ha1, a4⟩ := hO.cells (by simp); have hX := hT.one'; obtain ⟨ra, rc, ka, kc, rfl⟩ := id hX.nine; refine csr (aB ?_); refine aA (cP (n := 0) rfl rfl ha1 dV (by omega)) ?_; refine aA (cY rfl bZ aU (vs := [_, _, _, _, _, _, _, _, _]) rfl (a4.evo A (by simp))) ?_; refine aV rfl rfl aU B rfl rfl ⟨by first | rfl | assumption, by first | rfl | assumption, by first | rfl | assumption, by first | rfl | assumption, by first | rfl | assumption, by first | rfl | assumption, by first | rfl | assumption, by first | rfl | assumption, by first | rfl | assumption, trivial⟩ fun a5 I a1 => ?_; have J := A.step a1 F.mem1
   try simp only [cH, Nat.reduceAdd] at I
   refine wnn (aH (aN (aE (cI rfl (ResOk.cellA rfl bZ aU I rfl) ?_)))); exact ⟨⟨_, bs, rfl, hX.evo J (fun b hb h => by cases h), List.sublist_append_right _ _⟩, J⟩
  refine aM (aP (aC (csr (aB (aB (aA (cC (vs := [(0, _), (8, _)]) dI rfl (cells := [_, _, _, _, _, _, _, _, _]) rfl) ?_)))))); refine aV rfl rfl aU B rfl rfl ⟨by first | rfl | assumption, by first | rfl | assumption, by first | rfl | assumption, by first | rfl | assumption, by first | rfl | assumption, by first | rfl | assumption, by first | rfl | assumption, by first | rfl | assumption, by first | rfl | assumption, trivial⟩ fun a6 L M => ?_; have O := A.step M F.mem1
  try simp only [cH, Nat.reduceAdd] at L
  refine wnn (aH (cI rfl (ResOk.cellA rfl bZ aU L rfl) ?_)); rw [OB (by omega)]; exact ⟨⟨_, _, rfl, ot_row k ((hO.evo0 U).evo M (Apart.new (Lt.own hO) D).own1) (hT.evo O (fun b hb h => by cases h)) hl, List.Sublist.refl _⟩, O⟩
theorem SO {w : World} (k k2 : Int) (t : Bool) : Calls Try.prog 49 #[iv k, iv k2, .bool t] w (Ret fun v w' => KOut w w' v [rxK (if t = true then k2 else k)] ∧ Evo [] w w') := by
  refine bE (N := 12) Try.func49 rfl rfl rfl ?_; refine csr (wan (aI (csr (aB (wnn (fG rfl (fun A => ?_) (fun A => ?_)))))))
  ·refine aG (aB (wan (csr (aB (aA (cC (vs := [(0, _)]) dI rfl (cells := [_, _, _, _, _, _, _, _, _]) rfl) ?_))))); refine bM (vs := [_]) rfl cT rfl rfl rfl rfl fun H w1 I J L => ?_; have D := (Evo.refl [] w).then L; refine wan (aH (br1 ?_)); rw [if_pos A]; exact ⟨gW I (pW k2 _) (Fr.nil _) ((Ge.new (Evo.refl [] w) J) _ rfl) D (fun b hb => by cases hb) (Nat.le_refl _), D⟩
  refine aM (aC (csr (aB (aA (cC (vs := [(0, _)]) dI rfl (cells := [_, _, _, _, _, _, _, _, _]) rfl) ?_)))); refine bM (vs := [_]) rfl cT rfl rfl rfl rfl fun H w7 M O F => ?_; have B := (Evo.refl [] w).then F; refine wan (aH (br1 ?_)); rw [if_neg (by simp [A])]; exact ⟨gW M (pW k _) (Fr.nil _) ((Ge.new (Evo.refl [] w) O) _ rfl) B (fun b hb => by cases hb) (Nat.le_refl _), B⟩
theorem cF : kT Try.prog 108 = some true := by kernel_rfl
theorem jO : kT Try.prog 24 = some false := by kernel_rfl
theorem lT : kT Try.prog 59 = some true := by kernel_rfl
theorem mG : cX Try.prog 61 4 = some 7 := by kernel_rfl
theorem bG : fQ Try.prog 108 = some 9 := by kernel_rfl
theorem dU : fQ Try.prog 59 = some 4 := by kernel_rfl
theorem GT : mN Try.prog 116 = some #[.string ByteArray.empty, .string ByteArray.empty] := by kernel_rfl
theorem RdAt.mk' {w : World} {b : Nat} {s : ByteArray} {st : PS} {a : Option Addr} {n c : Nat} {ob : Option Nat} (hn : n = st.names.length)
    (hb : w.heap[b]? = some (.cells #[.string s, iv (st.pos : Nat), .bool st.now.fold, .bool st.now.lines, .bool st.now.dots, .bool st.now.lazy, iv (st.opn : Nat), .slice a n c] 61 (0, 0)))
    (ho : OwnS w 9 1 a n c (st.names.map sv) ob) (hne : ∀ g, ob = some g → g ≠ b) : RdAt w b s st a c ob := by subst hn; exact ⟨hb, ho, hne⟩
theorem OH {w : World} {e : TypeId} {a : Option Addr} {n c : Nat} {l : List ByteArray} {ob : Option Nat} (h : OwnS w e 1 a n c (l.map sv) ob) {k : Nat} (hk : k < l.length) : ∃ g, ob = some g ∧ a = some ⟨g, 0, none⟩ ∧ w.cell? ⟨g, 0 + k * 1, none⟩ = some (sv l[k]) := by
  have hl : l.length = n * 1 := by have := h.length; simpa using this
  obtain ⟨g, hg, ha, hc⟩ := h.cells (by omega)
  refine ⟨g, hg, ha, ?_⟩
  rw [Nat.mul_one]
  exact hc k _ (by simp [hk])
def PY (nm : ByteArray) (ns : List ByteArray) : Prop := ns.length = 100 ∨ (nm ≠ emp ∧ nm ∈ ns)
structure NgP (nm : ByteArray) (ns : List ByteArray) (k : Nat) : Prop where
  hk : k ≤ ns.length
  all : ∀ i (h : i < ns.length), i < k → nm = emp ∨ ns[i] ≠ nm
theorem ng_end {nm : ByteArray} {ns : List ByteArray} {k : Nat} (h : NgP nm ns k) (hk : ns.length ≤ k) (h1 : ns.length ≠ 100) : ¬ PY nm ns := by
  rintro (h2 | ⟨h2, h3⟩)
  · exact h1 h2
  · obtain ⟨i, hi, he⟩ := List.getElem_of_mem h3
    rcases h.all i hi (by omega) with h4 | h4
    · exact h2 h4
    · exact h4 he
theorem EU {w : World} {b : Nat} {s : ByteArray} {st : PS} {a : Option Addr} {c : Nat} {ob : Option Nat} (hR : RdAt w b s st a c ob) (nm : ByteArray) (hnl : st.names.length ≤ 100) :
    Calls Try.prog 54 #[.pointer (some ⟨b, 0, none⟩), .string nm] w (RetP (fun v w' => ¬ PY nm st.names ∧ v = iv ((st.names.length : Int) + 1) ∧ Evo (b :: ob.toList) w w' ∧ ∃ a' c' ob', RdAt w' b s { st with names := st.names ++ [nm] } a' c' ob' ∧ (ob' = ob ∨ ∃ g, ob' = some g ∧ w.heap.size ≤ g)) (fun v w' => PY nm st.names ∧ v = flt 85 ∧ Evo [] w w')) := by
  have hap := hR.ap; refine bE (N := 47) Try.func54 rfl rfl rfl ?_; refine csr (wan (aI (csr (aB (aA (aF rfl) (wfl rfl mG rfl kR hR.blk rfl (aA (aZ rfl Try.underlying41 rfl) ?_))))))); refine wel ?_; refine wnn (aW rfl (fun U => ?_) (fun U => ?_))
  ·refine aG (cB (vs := [_]) cQ rfl (eB 85) rfl ?_ ?_)
   ·intro pv wp hpp; obtain ⟨rfl, hpw⟩ := hpp; exact And.intro rfl ⟨_, rfl, .inl (by omega), rfl, ((Evo.refl [] w)).then hpw⟩
   intro _ _ hF; exact hF.elim
  refine aM (aC (aI (csr (aB (aA (aF rfl) (wfl rfl mG rfl kR hR.blk rfl (aA (aZ rfl Try.underlying41 rfl) ?_))))))); refine aB (wnn (bJ ?_)); refine dA (α := Nat) (0) (fun k => [(19, .int .i64 (k : Nat))]) [(0, _), (1, _), (4, _), (17, _), (18, _)] (fun k wr => Evo [] w wr ∧ (NgP nm st.names k)) (fun k => st.names.length - k) ⟨rfl, trivial⟩ ⟨rfl, rfl, rfl, rfl, rfl, trivial⟩ ⟨Evo.refl _ _, ⟨Nat.zero_le _, fun i h h2 => by omega⟩⟩ ?_; rintro k wr3 ⟨A, hng⟩; show CW _ _ _ _ [(19, _), (0, _), (1, _), (4, _), (17, _), (18, _)] _; have I := (Evo.refl [] w).then A; have a4 := (Evo.refl (b :: ob.toList) w).then A; have hngk := hng.hk; refine csr (aA (cU rfl rfl) ?_); refine wnn (aI (aW rfl (fun V => ?_) (fun V => ?_)))
  ·have hk' : k < st.names.length := by omega
   obtain ⟨g1, hg1, ha1, a5⟩ := OH hR.own hk'; refine aM (aC (aI (bJ (csr ?_)))); refine aA (cP (n := k) rfl rfl ha1 zI (by omega)) ?_; refine aA (aS rfl dC ((I).cell a5 (by simp))) ?_; refine wan (csr (aB (aA (NC rfl rfl) ?_))); refine aB (bC (t := 25) rfl (fun D => ?_) (fun D => ?_))
   ·refine aO (aB (aO (aB (aO (aA (gK rfl rfl) ?_))))); refine bQ (wnn (aW rfl (fun F => ?_) (fun F => ?_)))
    ·refine aG (cB (vs := [_]) cQ rfl (eB 85) rfl ?_ ?_)
     ·intro pv wp hpp; obtain ⟨rfl, hpw⟩ := hpp; exact And.intro rfl ⟨_, rfl, .inr ⟨D, F ▸ List.getElem_mem hk'⟩, rfl, (I).then hpw⟩
     intro _ _ hF; exact hF.elim
    refine aM (aP (aC (aG ?_))); refine aA (aK rfl rfl (by omega) (by omega)) ?_; refine aB (aQ (bA ?_)); refine ⟨k + 1, ?_, ⟨rfl, trivial⟩, ⟨rfl, rfl, rfl, rfl, rfl, trivial⟩, A, ?_⟩
    · omega
    refine ⟨hk', fun i h h2 => ?_⟩
    by_cases e : i = k
    · subst e; exact .inr F
    · exact hng.all i h (by omega)
   refine aJ (aJ (aJ (bK (wnn (cK rfl ?_))))); refine aM (aP (aC (aG ?_))); refine aA (aK rfl rfl (by omega) (by omega)) ?_; refine aB (aQ (bA ?_)); refine ⟨k + 1, ?_, ⟨rfl, trivial⟩, ⟨rfl, rfl, rfl, rfl, rfl, trivial⟩, A, ?_⟩
   · omega
   refine ⟨hk', fun i h h2 => ?_⟩
   by_cases e : i = k
   · subst e; exact .inl (Classical.not_not.1 D)
   · exact hng.all i h (by omega)
  refine cN (bL (bL (cM (aC ?_)))); refine csr (aB (aB (aA (aF rfl) (wfl rfl mG rfl kR (A.blk0 hR.blk) rfl (aB (bM (vs := [_]) rfl vP rfl rfl rfl rfl fun a8 a9 a0 a7 B => ?_)))))); have J := B.blk0 (A.blk0 hR.blk); have hx12 := (I.then B); refine cZ rfl rfl rfl rfl uI ((hR.own.evo0 A).evo0 B) (Src.ofOwn a0 ⟨by first | rfl | assumption, trivial⟩) (by omega) fun a2 c2 b4 ob2 a6 L hob32 => ?_; have M := hap.app (Lt.blk J) hob32; have a1 := (a4.then B).step L (fun y hy => .inl (List.mem_cons_of_mem _ hy)); have hob2 := hob32; refine aA (aF rfl) (aA (aD rfl mG) ?_); refine bB rfl rfl (by first | rfl | assumption) yR (L.blk J hap.nmem) rfl fun b5 H O => ?_
  have a3 := a1.step O (fun y hy => .inl (by rw [List.mem_singleton.1 hy]; simp))
  try simp only [cH, Nat.reduceAdd] at H
  refine wnn (csr (aB (aA (aF rfl) (wfl rfl mG rfl kR H rfl (aA (aZ rfl Try.underlying41 rfl) ?_))))); refine wan (aH (cE (br1 ?_)))
  refine ⟨ng_end hng (by omega) (by omega), by rfl, a3, a2, c2, ob2, RdAt.mk' (by simp) H (by rw [List.map_append]; exact (a6.evo O M.symm.own1)) (fun g hg e => (M) g (congrArg some e.symm) hg), ?_⟩
  rcases hob2 with h | ⟨g, h, h2⟩
  · exact .inl h
  · exact .inr ⟨g, h, Nat.le_trans hx12.size h2⟩
theorem fH : cX Try.prog 108 0 = some 0 := by kernel_rfl
theorem iS : cX Try.prog 108 2 = some 2 := by kernel_rfl
theorem lB : cX Try.prog 108 4 = some 7 := by kernel_rfl
theorem dX : cX Try.prog 108 5 = some 8 := by kernel_rfl
theorem rP : cX Try.prog 59 1 = some 1 := by kernel_rfl
theorem vT : cX Try.prog 59 2 = some 2 := by kernel_rfl
theorem rO : cX Try.prog 59 3 = some 3 := by kernel_rfl
theorem eO : fQ Try.prog 24 = some 1 := by kernel_rfl
theorem iK : mN Try.prog 108 = some #[.int .i64 0, .string ByteArray.empty, .bool false, .bool false, .bool false, .bool false, .bool false, .bool false, .int .i64 0] := by kernel_rfl
def opV (o : Opn) : Array Value := #[iv (o.size : Nat), .string o.name, .bool o.thn.fold, .bool o.thn.lines, .bool o.thn.dots, .bool o.thn.lazy, .bool o.capt, .bool o.sett, iv o.err]
section
variable {s : ByteArray} {i f j : Nat} {b m : Bool} {n : Int} {fl : Fl}
theorem HY (h : s.size ≤ j) : gO s i f j b n m fl = ⟨0, emp, fl, false, false, 84⟩ := by
  cases f with
  | zero => rfl
  | succ f => rw [gO, if_pos h]
theorem ps_i (h : j < s.size) (hc : sb s j = 105) : gO s i (f + 1) j b n m fl = gO s i f (j + 1) b (n + 1) m { fl with fold := b } := by rw [gO, if_neg (by omega), if_pos hc]
theorem ps_m (h : j < s.size) (hc : sb s j = 109) : gO s i (f + 1) j b n m fl = gO s i f (j + 1) b (n + 1) m { fl with lines := b } := by rw [gO, if_neg (by omega), if_neg (by omega), if_pos hc]
theorem ps_s (h : j < s.size) (hc : sb s j = 115) : gO s i (f + 1) j b n m fl = gO s i f (j + 1) b (n + 1) m { fl with dots := b } := by rw [gO, if_neg (by omega), if_neg (by omega), if_neg (by omega), if_pos hc]
theorem ps_u (h : j < s.size) (hc : sb s j = 85) : gO s i (f + 1) j b n m fl = gO s i f (j + 1) b (n + 1) m { fl with lazy := b } := by rw [gO, if_neg (by omega), if_neg (by omega), if_neg (by omega), if_neg (by omega), if_pos hc]
theorem RJ (h : j < s.size) (hc : sb s j = 45) : gO s i (f + 1) j b n true fl = ⟨0, emp, fl, false, false, 84⟩ := by rw [gO, if_neg (by omega), if_neg (by omega), if_neg (by omega), if_neg (by omega), if_neg (by omega), if_pos hc, if_pos rfl]
theorem RL (h : j < s.size) (hc : sb s j = 45) : gO s i (f + 1) j b n false fl = gO s i f (j + 1) false 0 true fl := by rw [gO, if_neg (by omega), if_neg (by omega), if_neg (by omega), if_neg (by omega), if_neg (by omega), if_pos hc, if_neg (by simp)]
theorem OD (h : j < s.size) (hc : sb s j = 58 ∨ sb s j = 41) : gO s i (f + 1) j b n m fl = ⟨j + 1 - i, emp, fl, false, decide (sb s j = 41), if n = 0 then 84 else 0⟩ := by rw [gO, if_neg (by omega), if_neg (by omega), if_neg (by omega), if_neg (by omega), if_neg (by omega), if_neg (by omega), if_pos hc]
theorem RI (h : j < s.size) (h1 : ¬ sb s j = 105) (h2 : ¬ sb s j = 109) (h3 : ¬ sb s j = 115) (h4 : ¬ sb s j = 85) (h5 : ¬ sb s j = 45) (h6 : ¬ (sb s j = 58 ∨ sb s j = 41)) : gO s i (f + 1) j b n m fl = ⟨0, emp, fl, false, false, 84⟩ := by rw [gO, if_neg (by omega), if_neg h1, if_neg h2, if_neg h3, if_neg h4, if_neg h5, if_neg h6]
end
structure SeG where
  f : Nat
  k : Nat
  q : Bool
  n : Int
  m : Bool
  fl : Fl
structure SeI (w wr : World) (b3 b4 : Nat) (s : ByteArray) (i : Nat) (fl0 : Fl) (x : SeG) : Prop where
  hk : i + x.k ≤ s.size
  hf : s.size ≤ x.f + (i + x.k)
  n0 : 0 ≤ x.n
  n1 : x.n ≤ x.k
  eq : gO s i s.size (i + 2) true 0 false fl0 = gO s i x.f (i + x.k) x.q x.n x.m x.fl
  hb3 : wr.heap[b3]? = some (.cells #[iv 0, .string emp, .bool x.fl.fold, .bool x.fl.lines, .bool x.fl.dots, .bool x.fl.lazy, .bool false, .bool false, iv 0] 108 (0, 0))
  hb4 : wr.heap[b4]? = some (.cells #[iv 0, .string emp, .bool false, .bool false, .bool false, .bool false, .bool false, .bool false, iv 0] 108 (0, 0))
  g3 : Ge w (some b3)
  g4 : Ge w (some b4)
  a34 : Apart (some b3) (some b4)
theorem HO {w : World} (s : ByteArray) (i : Nat) (fl0 : Fl) (hi : i + 2 ≤ s.size) (hs : s.size ≤ 1000000) :
    Calls Try.prog 64 #[.string (s.extract i s.size), .agg (opV ⟨0, emp, fl0, false, false, 0⟩)] w (Ret fun v w' => v = .agg (opV (gO s i s.size (i + 2) true 0 false fl0)) ∧ Evo [] w w') := by
  have hrs := fB (s := s) (a := i) (Nat.le_refl s.size); show Calls Try.prog 64 #[.string (s.extract i s.size), .agg #[iv 0, .string emp, .bool fl0.fold, .bool fl0.lines, .bool fl0.dots, .bool fl0.lazy, .bool false, .bool false, iv 0]] w _; refine bE (N := 64) Try.func64 rfl rfl rfl ?_; refine csr (gD rfl rfl fun b3 w1 g3 g4 h5 => ?_); have h6 := g4; have g5 := (Evo.refl [] w).then h5; refine cL rfl iK fun b4 w7 h7 c9 d0 => ?_; have h8 := c9; refine wnn (csr (bX (bX (wan (aI (csr (wan (bJ ?_))))))))
  refine dA (α := SeG) (⟨s.size, 2, true, 0, false, fl0⟩) (fun x => [(8, .int .i64 (x.k : Nat)), (5, .bool x.q), (6, .int .i64 x.n), (7, .bool x.m)]) [(0, _), (3, _), (4, _)] (fun x wr => Evo [] w wr ∧ (SeI w wr b3 b4 s i fl0 x)) (fun x => x.f) ⟨rfl, rfl, rfl, rfl, trivial⟩ ⟨rfl, rfl, rfl, trivial⟩ ⟨(g5.then d0), ⟨hi, (by show s.size ≤ s.size + (i + 2); omega), Int.le_refl _, (by show (0 : Int) ≤ ((2 : Nat) : Int); omega), rfl, (d0.blk0 g3), h7, (Ge.new (Evo.refl [] w) g4), (Ge.new g5 c9), (Apart.new (Lt.blk g3) c9)⟩⟩ ?_
  rintro ⟨f, k, q, n, m, fl⟩ wr15 ⟨A, ⟨hk, hf, h9, i1, heq, hb3, hb4, hg3, hg4, ha34⟩⟩; show CW _ _ _ _ [(8, .int .i64 (k : Nat)), (5, .bool q), (6, .int .i64 n), (7, .bool m), (0, _), (3, _), (4, _)] _
  try dsimp only at hk hf h9 i1 heq hb3 hb4 hg3 hg4 ha34
  refine aI (csr (aB (aB (aA (bR rfl Try.underlying9 rfl) ?_)))); refine aA (cU rfl rfl) ?_; refine wnn (aW rfl (fun g6 => ?_) (fun g6 => ?_))
  ·have hik : i + k < s.size := by omega
   have e0 : sb (s.extract i s.size) k = sb s (i + k) := kV hik; obtain ⟨f', rfl⟩ : ∃ f', f = f' + 1 := ⟨f - 1, by omega⟩; have hb9 := iY s (i + k); refine aM (aC (aI (bJ (aI (csr (aB (aB ?_))))))); refine aA (iT (n := k) rfl rfl Try.underlying9 rfl (by omega) e0) ?_; refine wnn (bJ (csr (wel ?_))); refine wan (aW rfl (fun g7 => ?_) (fun g7 => ?_))
   ·refine aG (aB (aA (aD rfl iS) (aA (aD rfl rQ) ?_))); refine bB rfl rfl (by first | rfl | assumption) fP hb3 rfl fun j2 d1 d2 => ?_
    try simp only [cH, Nat.reduceAdd] at d1
    refine aQ (aP (aC (aG (aB ?_)))); refine aA (aK rfl rfl (by omega) (by omega)) ?_; refine bX (aQ (aP (aC (aG (aB ?_))))); refine aA (aK rfl rfl (by omega) (by omega)) ?_; refine bX (aQ (bA ?_)); refine ⟨⟨f', k + 1, q, n + 1, m, { fl with fold := q }⟩, ?_, ⟨rfl, rfl, rfl, rfl, trivial⟩, ⟨rfl, rfl, rfl, trivial⟩, (A.step d2 hg3.mem1), ?_⟩
    · (try dsimp only); show f' < f' + 1; omega
    try dsimp only
    exact ⟨(by show i + (k + 1) ≤ s.size; omega), (by show s.size ≤ f' + (i + (k + 1)); omega), (by show 0 ≤ n + 1; omega), (by show n + 1 ≤ ((k + 1 : Nat) : Int); omega), heq.trans (ps_i (by omega) (by omega)), d1, (d2.blk hb4 ha34.symm.nmem1), hg3, hg4, ha34⟩
   refine csr (wel ?_); refine wan (aW rfl (fun g8 => ?_) (fun g8 => ?_))
   ·refine aG (aB (aA (aD rfl iS) (aA (aD rfl rP) ?_))); refine bB rfl rfl (by first | rfl | assumption) fP hb3 rfl fun j3 d3 d4 => ?_
    try simp only [cH, Nat.reduceAdd] at d3
    refine aQ (aP (aC (aG (aB ?_)))); refine aA (aK rfl rfl (by omega) (by omega)) ?_; refine bX (aQ (aP (aC (aG (aB ?_))))); refine aA (aK rfl rfl (by omega) (by omega)) ?_; refine bX (aQ (bA ?_)); refine ⟨⟨f', k + 1, q, n + 1, m, { fl with lines := q }⟩, ?_, ⟨rfl, rfl, rfl, rfl, trivial⟩, ⟨rfl, rfl, rfl, trivial⟩, (A.step d4 hg3.mem1), ?_⟩
    · (try dsimp only); show f' < f' + 1; omega
    try dsimp only
    exact ⟨(by show i + (k + 1) ≤ s.size; omega), (by show s.size ≤ f' + (i + (k + 1)); omega), (by show 0 ≤ n + 1; omega), (by show n + 1 ≤ ((k + 1 : Nat) : Int); omega), heq.trans (ps_m (by omega) (by omega)), d3, (d4.blk hb4 ha34.symm.nmem1), hg3, hg4, ha34⟩
   refine csr (wel ?_); refine wan (aW rfl (fun g9 => ?_) (fun g9 => ?_))
   ·refine aG (aB (aA (aD rfl iS) (aA (aD rfl vT) ?_))); refine bB rfl rfl (by first | rfl | assumption) fP hb3 rfl fun j4 d5 d6 => ?_
    try simp only [cH, Nat.reduceAdd] at d5
    refine aQ (aP (aC (aG (aB ?_)))); refine aA (aK rfl rfl (by omega) (by omega)) ?_; refine bX (aQ (aP (aC (aG (aB ?_))))); refine aA (aK rfl rfl (by omega) (by omega)) ?_; refine bX (aQ (bA ?_)); refine ⟨⟨f', k + 1, q, n + 1, m, { fl with dots := q }⟩, ?_, ⟨rfl, rfl, rfl, rfl, trivial⟩, ⟨rfl, rfl, rfl, trivial⟩, (A.step d6 hg3.mem1), ?_⟩
    · (try dsimp only); show f' < f' + 1; omega
    try dsimp only
    exact ⟨(by show i + (k + 1) ≤ s.size; omega), (by show s.size ≤ f' + (i + (k + 1)); omega), (by show 0 ≤ n + 1; omega), (by show n + 1 ≤ ((k + 1 : Nat) : Int); omega), heq.trans (ps_s (by omega) (by omega)), d5, (d6.blk hb4 ha34.symm.nmem1), hg3, hg4, ha34⟩
   refine csr (wel ?_); refine wan (aW rfl (fun h0 => ?_) (fun h0 => ?_))
   ·refine aG (aB (aA (aD rfl iS) (aA (aD rfl rO) ?_))); refine bB rfl rfl (by first | rfl | assumption) fP hb3 rfl fun j5 d7 d8 => ?_
    try simp only [cH, Nat.reduceAdd] at d7
    refine aQ (aP (aC (aG (aB ?_)))); refine aA (aK rfl rfl (by omega) (by omega)) ?_; refine bX (aQ (aP (aC (aG (aB ?_))))); refine aA (aK rfl rfl (by omega) (by omega)) ?_; refine bX (aQ (bA ?_)); refine ⟨⟨f', k + 1, q, n + 1, m, { fl with lazy := q }⟩, ?_, ⟨rfl, rfl, rfl, rfl, trivial⟩, ⟨rfl, rfl, rfl, trivial⟩, (A.step d8 hg3.mem1), ?_⟩
    · (try dsimp only); show f' < f' + 1; omega
    try dsimp only
    exact ⟨(by show i + (k + 1) ≤ s.size; omega), (by show s.size ≤ f' + (i + (k + 1)); omega), (by show 0 ≤ n + 1; omega), (by show n + 1 ≤ ((k + 1 : Nat) : Int); omega), heq.trans (ps_u (by omega) (by omega)), d7, (d8.blk hb4 ha34.symm.nmem1), hg3, hg4, ha34⟩
   refine csr (wel ?_); refine wan (aW rfl (fun h1 => ?_) (fun h1 => ?_))
   ·refine aI (csr (aB (wnn (fG rfl (fun a3 => ?_) (fun a3 => ?_)))))
    ·subst a3; refine csr (aA (aD rfl dX) ?_); refine bB rfl rfl (by first | rfl | assumption) eO hb3 rfl fun j6 d9 e3 => ?_
     try simp only [cH, Nat.reduceAdd] at d9
     refine wnn (csr (aA (bW rfl cF bG d9 rfl) ?_)); refine aV rfl rfl bG (e3.blk hb4 ha34.symm.nmem1) rfl rfl ⟨by first | rfl | assumption, by first | rfl | assumption, by first | rfl | assumption, by first | rfl | assumption, by first | rfl | assumption, by first | rfl | assumption, by first | rfl | assumption, by first | rfl | assumption, by first | rfl | assumption, trivial⟩ fun j7 e4 h2 => ?_
     try simp only [cH, Nat.reduceAdd] at e4
     refine wnn (aH (aE (aN (aE (aN (aE (aE (aN (aE (cI rfl (ResOk.cellA rfl cF bG e4 rfl) ?_)))))))))); have hfin := heq.trans (RJ (by omega) (by omega)); rw [hfin]; exact ⟨rfl, ((A.step e3 hg3.mem1).step h2 hg4.mem1)⟩
    subst a3; refine aM (aC (aG (bX (bX (bX (aQ (aP (aC (aG (aB ?_)))))))))); refine aA (aK rfl rfl (by omega) (by omega)) ?_; refine bX (aQ (aP (aC (aG (aB ?_))))); refine aA (aK rfl rfl (by omega) (by omega)) ?_; refine bX (aQ (bA ?_)); refine ⟨⟨f', k + 1, false, 0, true, fl⟩, ?_, ⟨rfl, rfl, rfl, rfl, trivial⟩, ⟨rfl, rfl, rfl, trivial⟩, A, ?_⟩
    · (try dsimp only); show f' < f' + 1; omega
    try dsimp only
    exact ⟨(by show i + (k + 1) ≤ s.size; omega), (by show s.size ≤ f' + (i + (k + 1)); omega), Int.le_refl _, (by show (0 : Int) ≤ ((k + 1 : Nat) : Int); omega), heq.trans (RL (by omega) (by omega)), hb3, hb4, hg3, hg4, ha34⟩
   refine aI (csr (wel ?_)); refine wan (aW rfl (fun J => ?_) (fun J => ?_))
   ·refine aM (aC (aW rfl (fun J => ?_) (fun J => ?_)))
    ·refine aI (csr (aB (wel ?_))); refine wnn (aW rfl (fun F => ?_) (fun F => ?_))
     ·refine aG (aA (aD rfl dX) ?_); refine bB rfl rfl (by first | rfl | assumption) eO hb3 rfl fun j8 e5 e6 => ?_
      try simp only [cH, Nat.reduceAdd] at e5
      refine wnn (aI ?_); refine fT (fun w0 w' => Evo [b3] w0 w') (by kernel_rfl) (fun H a4 => ?_); refine aet 0 rfl (fun _ hS => aX rfl) (Evo.refl [b3] H) ?_; refine aet 1 rfl (fun _ hS => aK rfl rfl (by omega) (by omega)) (Evo.refl [b3] H) ?_; refine aet 2 rfl (fun _ hS => aX rfl) (Evo.refl [b3] H) ?_; refine aet 3 rfl (fun _ hS => aX rfl) (Evo.refl [b3] H) ?_; refine aet 4 rfl (fun _ hS => iT (n := k) rfl rfl Try.underlying9 rfl (by omega) e0) (Evo.refl [b3] H) ?_; refine aet 5 rfl (fun _ hS => lL rfl rfl) (Evo.refl [b3] H) ?_; refine aet 6 rfl (fun _ hS => aD rfl fH) (Evo.refl [b3] H) ?_; refine bV [7] (by kernel_rfl) rfl ⟨?_, trivial⟩; refine cA rfl ?_; refine bB rfl rfl (by first | rfl | assumption) bY (a4.blk0 e5) rfl fun j9 e7 a5 => ?_; have a6 := (Evo.refl [b3] H).step a5 (fun y hy => .inl hy)
      try simp only [cH, Nat.reduceAdd] at e7
      refine aQ (bO (.inl a6) ?_); refine aet 8 rfl (fun _ hS => aD rfl lB) a6 ?_; refine bV [9] (by kernel_rfl) rfl ⟨?_, trivial⟩; refine cA rfl ?_; refine bB rfl rfl (by first | rfl | assumption) fP e7 rfl fun k0 e8 a7 => ?_
      try simp only [cH, Nat.reduceAdd] at e8
      refine aQ (bO (.inl (a6.step a7 (fun y hy => .inl hy))) ?_); refine dH (by kernel_rfl) (aC ?_); refine csr (aA (bW rfl cF bG e8 rfl) ?_); refine aV rfl rfl bG (a7.blk (a5.blk (a4.blk0 (e6.blk hb4 ha34.symm.nmem1)) ha34.symm.nmem1) ha34.symm.nmem1) rfl rfl ⟨by first | rfl | assumption, by first | rfl | assumption, by first | rfl | assumption, by first | rfl | assumption, by first | rfl | assumption, by first | rfl | assumption, by first | rfl | assumption, by first | rfl | assumption, by first | rfl | assumption, trivial⟩ fun k1 e9 h3 => ?_
      try simp only [cH, Nat.reduceAdd] at e9
      refine wnn (aH (aN (aE (aN (aE (aE (aN (aE (cI rfl (ResOk.cellA rfl cF bG e9 rfl) ?_))))))))); have hfin := heq.trans (OD (by omega) (by omega)); rw [if_pos F] at hfin; rw [hfin]
      have e1 : (((i + k + 1 - i : Nat)) : Int) = (k : Int) + 1 := by omega
      have e2 : decide (((sb s (i + k) : Nat) : Int) = 41) = decide (sb s (i + k) = 41) := decide_eq_decide.2 (by omega); refine ⟨?_, (((((A.step e6 hg3.mem1).then a4).step a5 hg3.mem1).step a7 hg3.mem1).step h3 hg4.mem1)⟩; simp only [opV, e1, e2]
     refine aM (aC (aI ?_)); refine fT (fun w0 w' => Evo [b3] w0 w') (by kernel_rfl) (fun I a8 => ?_); refine aet 0 rfl (fun _ hS => aX rfl) (Evo.refl [b3] I) ?_; refine aet 1 rfl (fun _ hS => aK rfl rfl (by omega) (by omega)) (Evo.refl [b3] I) ?_; refine aet 2 rfl (fun _ hS => aX rfl) (Evo.refl [b3] I) ?_; refine aet 3 rfl (fun _ hS => aX rfl) (Evo.refl [b3] I) ?_; refine aet 4 rfl (fun _ hS => iT (n := k) rfl rfl Try.underlying9 rfl (by omega) e0) (Evo.refl [b3] I) ?_; refine aet 5 rfl (fun _ hS => lL rfl rfl) (Evo.refl [b3] I) ?_; refine aet 6 rfl (fun _ hS => aD rfl fH) (Evo.refl [b3] I) ?_; refine bV [7] (by kernel_rfl) rfl ⟨?_, trivial⟩; refine cA rfl ?_; refine bB rfl rfl (by first | rfl | assumption) bY (a8.blk0 hb3) rfl fun k2 f0 a9 => ?_; have b5 := (Evo.refl [b3] I).step a9 (fun y hy => .inl hy)
     try simp only [cH, Nat.reduceAdd] at f0
     refine aQ (bO (.inl b5) ?_); refine aet 8 rfl (fun _ hS => aD rfl lB) b5 ?_; refine bV [9] (by kernel_rfl) rfl ⟨?_, trivial⟩; refine cA rfl ?_; refine bB rfl rfl (by first | rfl | assumption) fP f0 rfl fun k3 f5 b6 => ?_
     try simp only [cH, Nat.reduceAdd] at f5
     refine aQ (bO (.inl (b5.step b6 (fun y hy => .inl hy))) ?_); refine dH (by kernel_rfl) (aC ?_); refine csr (aA (bW rfl cF bG f5 rfl) ?_); refine aV rfl rfl bG (b6.blk (a9.blk (a8.blk0 hb4) ha34.symm.nmem1) ha34.symm.nmem1) rfl rfl ⟨by first | rfl | assumption, by first | rfl | assumption, by first | rfl | assumption, by first | rfl | assumption, by first | rfl | assumption, by first | rfl | assumption, by first | rfl | assumption, by first | rfl | assumption, by first | rfl | assumption, trivial⟩ fun k4 f6 h4 => ?_
     try simp only [cH, Nat.reduceAdd] at f6
     refine wnn (aH (aN (aE (aN (aE (aE (aN (aE (cI rfl (ResOk.cellA rfl cF bG f6 rfl) ?_))))))))); have hfin := heq.trans (OD (by omega) (by omega)); rw [if_neg F] at hfin; rw [hfin]
     have e1 : (((i + k + 1 - i : Nat)) : Int) = (k : Int) + 1 := by omega
     have e2 : decide (((sb s (i + k) : Nat) : Int) = 41) = decide (sb s (i + k) = 41) := decide_eq_decide.2 (by omega); refine ⟨?_, ((((A.then a8).step a9 hg3.mem1).step b6 hg3.mem1).step h4 hg4.mem1)⟩; simp only [opV, e1, e2]
    exfalso; omega
   refine aG (wel ?_); refine wan (aW rfl (fun J => ?_) (fun J => ?_))
   ·refine aI (csr (aB (wel ?_))); refine wnn (aW rfl (fun F => ?_) (fun F => ?_))
    ·refine aG (aA (aD rfl dX) ?_); refine bB rfl rfl (by first | rfl | assumption) eO hb3 rfl fun k5 f7 f8 => ?_
     try simp only [cH, Nat.reduceAdd] at f7
     refine wnn (aI ?_); refine fT (fun w0 w' => Evo [b3] w0 w') (by kernel_rfl) (fun B L => ?_); refine aet 0 rfl (fun _ hS => aX rfl) (Evo.refl [b3] B) ?_; refine aet 1 rfl (fun _ hS => aK rfl rfl (by omega) (by omega)) (Evo.refl [b3] B) ?_; refine aet 2 rfl (fun _ hS => aX rfl) (Evo.refl [b3] B) ?_; refine aet 3 rfl (fun _ hS => aX rfl) (Evo.refl [b3] B) ?_; refine aet 4 rfl (fun _ hS => iT (n := k) rfl rfl Try.underlying9 rfl (by omega) e0) (Evo.refl [b3] B) ?_; refine aet 5 rfl (fun _ hS => lL rfl rfl) (Evo.refl [b3] B) ?_; refine aet 6 rfl (fun _ hS => aD rfl fH) (Evo.refl [b3] B) ?_; refine bV [7] (by kernel_rfl) rfl ⟨?_, trivial⟩; refine cA rfl ?_; refine bB rfl rfl (by first | rfl | assumption) bY (L.blk0 f7) rfl fun i2 b7 M => ?_; have O := (Evo.refl [b3] B).step M (fun y hy => .inl hy)
     try simp only [cH, Nat.reduceAdd] at b7
     refine aQ (bO (.inl O) ?_); refine aet 8 rfl (fun _ hS => aD rfl lB) O ?_; refine bV [9] (by kernel_rfl) rfl ⟨?_, trivial⟩; refine cA rfl ?_; refine bB rfl rfl (by first | rfl | assumption) fP b7 rfl fun i3 b8 U => ?_
     try simp only [cH, Nat.reduceAdd] at b8
     refine aQ (bO (.inl (O.step U (fun y hy => .inl hy))) ?_); refine dH (by kernel_rfl) (aC ?_); refine csr (aA (bW rfl cF bG b8 rfl) ?_); refine aV rfl rfl bG (U.blk (M.blk (L.blk0 (f8.blk hb4 ha34.symm.nmem1)) ha34.symm.nmem1) ha34.symm.nmem1) rfl rfl ⟨by first | rfl | assumption, by first | rfl | assumption, by first | rfl | assumption, by first | rfl | assumption, by first | rfl | assumption, by first | rfl | assumption, by first | rfl | assumption, by first | rfl | assumption, by first | rfl | assumption, trivial⟩ fun i4 b9 f9 => ?_
     try simp only [cH, Nat.reduceAdd] at b9
     refine wnn (aH (aN (aE (aN (aE (aE (aN (aE (cI rfl (ResOk.cellA rfl cF bG b9 rfl) ?_))))))))); have hfin := heq.trans (OD (by omega) (by omega)); rw [if_pos F] at hfin; rw [hfin]
     have e1 : (((i + k + 1 - i : Nat)) : Int) = (k : Int) + 1 := by omega
     have e2 : decide (((sb s (i + k) : Nat) : Int) = 41) = decide (sb s (i + k) = 41) := decide_eq_decide.2 (by omega); refine ⟨?_, (((((A.step f8 hg3.mem1).then L).step M hg3.mem1).step U hg3.mem1).step f9 hg4.mem1)⟩; simp only [opV, e1, e2]
    refine aM (aC (aI ?_)); refine fT (fun w0 w' => Evo [b3] w0 w') (by kernel_rfl) (fun D V => ?_); refine aet 0 rfl (fun _ hS => aX rfl) (Evo.refl [b3] D) ?_; refine aet 1 rfl (fun _ hS => aK rfl rfl (by omega) (by omega)) (Evo.refl [b3] D) ?_; refine aet 2 rfl (fun _ hS => aX rfl) (Evo.refl [b3] D) ?_; refine aet 3 rfl (fun _ hS => aX rfl) (Evo.refl [b3] D) ?_; refine aet 4 rfl (fun _ hS => iT (n := k) rfl rfl Try.underlying9 rfl (by omega) e0) (Evo.refl [b3] D) ?_; refine aet 5 rfl (fun _ hS => lL rfl rfl) (Evo.refl [b3] D) ?_; refine aet 6 rfl (fun _ hS => aD rfl fH) (Evo.refl [b3] D) ?_; refine bV [7] (by kernel_rfl) rfl ⟨?_, trivial⟩; refine cA rfl ?_; refine bB rfl rfl (by first | rfl | assumption) bY (V.blk0 hb3) rfl fun i5 c0 a0 => ?_; have a1 := (Evo.refl [b3] D).step a0 (fun y hy => .inl hy)
    try simp only [cH, Nat.reduceAdd] at c0
    refine aQ (bO (.inl a1) ?_); refine aet 8 rfl (fun _ hS => aD rfl lB) a1 ?_; refine bV [9] (by kernel_rfl) rfl ⟨?_, trivial⟩; refine cA rfl ?_; refine bB rfl rfl (by first | rfl | assumption) fP c0 rfl fun i6 c1 a2 => ?_
    try simp only [cH, Nat.reduceAdd] at c1
    refine aQ (bO (.inl (a1.step a2 (fun y hy => .inl hy))) ?_); refine dH (by kernel_rfl) (aC ?_); refine csr (aA (bW rfl cF bG c1 rfl) ?_); refine aV rfl rfl bG (a2.blk (a0.blk (V.blk0 hb4) ha34.symm.nmem1) ha34.symm.nmem1) rfl rfl ⟨by first | rfl | assumption, by first | rfl | assumption, by first | rfl | assumption, by first | rfl | assumption, by first | rfl | assumption, by first | rfl | assumption, by first | rfl | assumption, by first | rfl | assumption, by first | rfl | assumption, trivial⟩ fun i7 c2 g0 => ?_
    try simp only [cH, Nat.reduceAdd] at c2
    refine wnn (aH (aN (aE (aN (aE (aE (aN (aE (cI rfl (ResOk.cellA rfl cF bG c2 rfl) ?_))))))))); have hfin := heq.trans (OD (by omega) (by omega)); rw [if_neg F] at hfin; rw [hfin]
    have e1 : (((i + k + 1 - i : Nat)) : Int) = (k : Int) + 1 := by omega
    have e2 : decide (((sb s (i + k) : Nat) : Int) = 41) = decide (sb s (i + k) = 41) := decide_eq_decide.2 (by omega); refine ⟨?_, ((((A.then V).step a0 hg3.mem1).step a2 hg3.mem1).step g0 hg4.mem1)⟩; simp only [opV, e1, e2]
   refine csr (aA (aD rfl dX) ?_); refine bB rfl rfl (by first | rfl | assumption) eO hb3 rfl fun i8 c3 c4 => ?_
   try simp only [cH, Nat.reduceAdd] at c3
   refine wnn (csr (aA (bW rfl cF bG c3 rfl) ?_)); refine aV rfl rfl bG (c4.blk hb4 ha34.symm.nmem1) rfl rfl ⟨by first | rfl | assumption, by first | rfl | assumption, by first | rfl | assumption, by first | rfl | assumption, by first | rfl | assumption, by first | rfl | assumption, by first | rfl | assumption, by first | rfl | assumption, by first | rfl | assumption, trivial⟩ fun i9 c5 g1 => ?_
   try simp only [cH, Nat.reduceAdd] at c5
   refine wnn (aH (aN (aE (aN (aE (aE (aN (aE (cI rfl (ResOk.cellA rfl cF bG c5 rfl) ?_))))))))); have hfin := heq.trans (RI (by omega) (by omega) (by omega) (by omega) (by omega) (by omega) (by omega)); rw [hfin]; exact ⟨rfl, ((A.step c4 hg3.mem1).step g1 hg4.mem1)⟩
  refine cN (bL (bL (cM (aC ?_)))); refine csr (aA (aD rfl dX) ?_); refine bB rfl rfl (by first | rfl | assumption) eO hb3 rfl fun j0 c6 c7 => ?_
  try simp only [cH, Nat.reduceAdd] at c6
  refine wnn (csr (aA (bW rfl cF bG c6 rfl) ?_)); refine aV rfl rfl bG (c7.blk hb4 ha34.symm.nmem1) rfl rfl ⟨by first | rfl | assumption, by first | rfl | assumption, by first | rfl | assumption, by first | rfl | assumption, by first | rfl | assumption, by first | rfl | assumption, by first | rfl | assumption, by first | rfl | assumption, by first | rfl | assumption, trivial⟩ fun j1 c8 g2 => ?_
  try simp only [cH, Nat.reduceAdd] at c8
  refine wnn (aH (cI rfl (ResOk.cellA rfl cF bG c8 rfl) ?_)); have hfin := heq.trans (HY (by omega)); rw [hfin]; exact ⟨rfl, ((A.step c7 hg3.mem1).step g2 hg4.mem1)⟩
theorem DN : Build Try.prog 108 #[(0, 1), (1, 1), (2, 4), (6, 1), (7, 1), (8, 1)] #[.int .i64 0, .string ByteArray.empty, .bool false, .bool false, .bool false, .bool false, .bool false, .bool false, .int .i64 0] := ⟨_, .agg #[.int .i64 0, .string ByteArray.empty, .bool false, .bool false, .bool false, .bool false, .bool false, .bool false, .int .i64 0], Try.underlying108, by kernel_rfl, rfl, fun w => by kernel_rfl⟩
theorem jN : cX Try.prog 108 1 = some 1 := by kernel_rfl
theorem gZ : cX Try.prog 108 3 = some 6 := by kernel_rfl
theorem KB : dY Try.prog 64 := ⟨_, Try.func64, by kernel_rfl, by kernel_rfl⟩
def hd (k : Nat) : ByteArray := if k = 0 then ByteArray.mk #[40, 63, 80, 60] else ByteArray.mk #[40, 63, 60]
theorem hd_sz (k : Nat) : (k = 0 ∧ (hd k).size = 4) ∨ (k ≠ 0 ∧ (hd k).size = 3) := by
  unfold hd
  by_cases h : k = 0
  · rw [if_pos h]; exact .inl ⟨h, rfl⟩
  · rw [if_neg h]; exact .inr ⟨h, rfl⟩
theorem part_hd {k : Nat} (hk : k < 2) (w : World) : (part 9 #[.string (ByteArray.mk #[40, 63, 80, 60]), .string (ByteArray.mk #[40, 63, 60])] (k * 1)).run Try.prog w = .ok (.string (hd k)) w := by
  match k, hk with
  | 0, _ => exact AG w dC rfl
  | 1, _ => exact AG w dC rfl
theorem xV {s : ByteArray} {i k : Nat} (hi : i ≤ s.size) (h0 : isB s i 40 ∧ isB s (i + 1) 63) : Pre (s.extract i s.size) (hd k) ↔ (k = 0 ∧ isB s (i + 2) 80 ∧ isB s (i + 3) 60) ∨ (k ≠ 0 ∧ isB s (i + 2) 60) := by
  unfold hd
  by_cases h : k = 0
  · rw [if_pos h, pre4 hi]
    exact ⟨fun h1 => .inl ⟨h, h1.2.2⟩, fun h1 => by rcases h1 with h1 | h1; exact ⟨h0.1, h0.2, h1.2⟩; exact absurd h h1.1⟩
  · rw [if_neg h, pre3 hi]
    exact ⟨fun h1 => .inr ⟨h, h1.2.2⟩, fun h1 => by rcases h1 with h1 | h1; exact absurd h1.1 h; exact ⟨h0.1, h0.2, h1.2⟩⟩
theorem xJ {s : ByteArray} {i : Nat} {fl : Fl} (h : ¬ (isB s i 40 ∧ isB s (i + 1) 63)) : eX s i fl = ⟨1, emp, fl, true, false, 0⟩ := by unfold eX; rw [if_pos h]
theorem OJ {s : ByteArray} {i k : Nat} {fl : Fl} (hi : i ≤ s.size) (h0 : isB s i 40 ∧ isB s (i + 1) 63) (hk : k < 2) (h1 : Pre (s.extract i s.size) (hd k)) (h2 : ∀ j, j < k → ¬ Pre (s.extract i s.size) (hd j)) : eX s i fl = nH s i (hd k).size fl := by
  rcases (show k = 0 ∨ k = 1 by omega) with rfl | rfl
  · unfold eX
    rw [if_neg (fun h => h h0), show (hd 0).size = 4 from rfl]
    rcases (xV hi h0).1 h1 with h3 | h3
    · exact if_pos h3.2
    · exact absurd rfl h3.1
  · unfold eX
    rw [if_neg (fun h => h h0), show (hd 1).size = 3 from rfl, if_neg (fun h => h2 0 (by omega) ((xV hi h0).2 (.inl ⟨rfl, h⟩)))]
    rcases (xV hi h0).1 h1 with h3 | h3
    · exact absurd h3.1 (by omega)
    · exact if_pos h3.2
theorem open_no {s : ByteArray} {i : Nat} {fl : Fl} (hi : i ≤ s.size) (h0 : isB s i 40 ∧ isB s (i + 1) 63) (h2 : ∀ j, j < 2 → ¬ Pre (s.extract i s.size) (hd j)) : eX s i fl = if isB s (i + 2) 58 then ⟨3, emp, fl, false, false, 0⟩ else gO s i s.size (i + 2) true 0 false fl := by
  unfold eX
  rw [if_neg (fun h => h h0), if_neg (fun h => h2 0 (by omega) ((xV hi h0).2 (.inl ⟨rfl, h⟩))), if_neg (fun h => h2 1 (by omega) ((xV hi h0).2 (.inr ⟨by omega, h⟩)))]
theorem xX {w : World} {b : Nat} {s : ByteArray} {st : PS} {a : Option Addr} {c : Nat} {T : TypeId} {z : Nat × Nat} (h : w.heap[b]? = some (.cells (rdc s st a c) T z)) : ∀ j v, ([.bool st.now.fold, .bool st.now.lines, .bool st.now.dots, .bool st.now.lazy] : List Value)[j]? = some v → w.cell? ⟨b, 2 + j, none⟩ = some v
  | 0, v, e => by cases e; exact eS h rfl
  | 1, v, e => by cases e; exact eS h rfl
  | 2, v, e => by cases e; exact eS h rfl
  | 3, v, e => by cases e; exact eS h rfl
  | j + 4, v, e => by cases e
theorem SB {s : ByteArray} {f j : Nat} (h : j < s.size) (h2 : fR (sb s j)) : gU s (f + 1) j = gU s f (j + 1) := by rw [gU, if_pos ⟨h, h2⟩]
theorem iU {s : ByteArray} {f j : Nat} (h : ¬ (j < s.size ∧ fR (sb s j))) : gU s f j = j := by
  cases f with
  | zero => rfl
  | succ f => rw [gU, if_neg h]
theorem kD {s : ByteArray} {i h : Nat} {fl : Fl} {j : Nat} (e : gU s s.size (i + h) = j) (hc : j = i + h ∨ ¬ isB s j 62) : nH s i h fl = ⟨0, emp, fl, false, false, 85⟩ := by unfold nH; rw [e, if_pos hc]
theorem oV {s : ByteArray} {i h : Nat} {fl : Fl} {j : Nat} (e : gU s s.size (i + h) = j) (hc : ¬ (j = i + h ∨ ¬ isB s j 62)) : nH s i h fl = ⟨j + 1 - i, s.extract (i + h) j, fl, true, false, 0⟩ := by unfold nH; rw [e, if_neg hc]
structure HdI (w wr : World) (b2 b4 : Nat) (s : ByteArray) (i : Nat) (fl : Fl) (k : Nat) : Prop where
  hk : k ≤ 2
  no : ∀ j, j < k → ¬ Pre (s.extract i s.size) (hd j)
structure WdG where
  f : Nat
  m : Nat
structure WdI (s : ByteArray) (i h : Nat) (x : WdG) : Prop where
  hm : i + x.m ≤ s.size
  hh : h ≤ x.m
  hf : s.size ≤ x.f + (i + x.m)
  eq : gU s s.size (i + h) = gU s x.f (i + x.m)
theorem nI {w : World} {b : Nat} {s : ByteArray} {st : PS} {a : Option Addr} {c : Nat} {ob : Option Nat} (hR : RdAt w b s st a c ob) (hs : s.size ≤ 1000000) (hlt : st.pos < s.size) :
    Calls Try.prog 53 #[.pointer (some ⟨b, 0, none⟩)] w (Ret fun v w' => v = .agg (opV (eX s st.pos st.now)) ∧ Evo [] w w') := by
  have hap := hR.ap
  have hle : st.pos ≤ s.size := by omega
  have hrs := fB (s := s) (a := st.pos) (Nat.le_refl s.size); refine bE (N := 87) Try.func53 rfl rfl rfl ?_; refine csr (cL rfl iK fun b2 w1 l5 l6 l7 => ?_); have m2 := l6; have J := Ge.new (Evo.refl [] w) l6; have j2 := l7.blk0 hR.blk; refine wnn (aI ?_); refine eH (by kernel_rfl) (by kernel_rfl) ?_; refine bD (fun _ D => aX rfl) ?_; refine bD (fun _ D => aF rfl) ?_; refine bD (fun _ D => aD rfl cV) ?_; refine bD (fun _ D => aS rfl dC (aY (D.blk0 j2) rfl)) ?_; refine bD (fun _ D => aX rfl) ?_; refine bD (fun _ D => aF rfl) ?_; refine bD (fun _ D => aD rfl bF) ?_; refine bD (fun _ D => aS rfl aT (aY (D.blk0 j2) rfl)) ?_; refine bD (fun _ D => jI (l := st.pos) rfl rfl Try.underlying9 rfl hle) ?_; refine bD (fun _ D => eG rfl) ?_; refine eL (fun m6 D => aC ?_); have j3 := ((Evo.refl [] w).then l7).then D; refine csr (aB (aA (aF rfl) (aA (aD rfl eJ) (aA (cY (o := 2) rfl lT dU (vs := [.bool st.now.fold, .bool st.now.lines, .bool st.now.dots, .bool st.now.lazy]) rfl (xX (D.blk0 j2))) ?_)))); refine aA (cC (vs := [(2, _)]) DN rfl (cells := [_, _, _, _, _, _, _, _, _]) rfl) ?_; refine cL rfl iK fun b4 q0 l8 d4 j4 => ?_; have m3 := d4; have A := Apart.new (Lt.blk (D.blk0 l5)) d4; have B := Ge.new j3 d4
  refine aV rfl rfl bG l8 rfl rfl ⟨by first | rfl | assumption, by first | rfl | assumption, by first | rfl | assumption, by first | rfl | assumption, by first | rfl | assumption, by first | rfl | assumption, by first | rfl | assumption, by first | rfl | assumption, by first | rfl | assumption, trivial⟩ fun q1 d5 j5 => ?_
  try simp only [cH, Nat.reduceAdd] at d5
  refine wnn (aI (csr (aB ?_))); refine aL (vs := [_, _]) qD rfl (wK (s.extract st.pos s.size) (ByteArray.mk #[40, 63]) (by omega) (show 2 ≤ 140737488355328 by omega)) rfl ?_; rintro _ m4 ⟨rfl, a7⟩; have d6 := ((j3.then j4).step j5 B.mem1).then a7; have d7 := a7.blk0 (j5.blk (j4.blk0 (D.blk0 l5)) A.nmem1); refine aA (oO rfl) ?_; refine wnn (aW rfl (fun d8 => ?_) (fun d8 => ?_))
  ·refine csr (aA (aD rfl fH) ?_); refine bB rfl rfl (by first | rfl | assumption) bY (a7.blk0 d5) rfl fun q2 j6 j7 => ?_
   try simp only [cH, Nat.reduceAdd] at j6
   refine aA (aD rfl gZ) ?_; refine bB rfl rfl (by first | rfl | assumption) fP j6 rfl fun q3 j8 j9 => ?_
   try simp only [cH, Nat.reduceAdd] at j8
   refine wnn (csr (aA (bW rfl cF bG j8 rfl) ?_)); refine aV rfl rfl bG (j9.blk (j7.blk d7 A.nmem1) A.nmem1) rfl rfl ⟨by first | rfl | assumption, by first | rfl | assumption, by first | rfl | assumption, by first | rfl | assumption, by first | rfl | assumption, by first | rfl | assumption, by first | rfl | assumption, by first | rfl | assumption, by first | rfl | assumption, trivial⟩ fun q4 k0 l9 => ?_
   try simp only [cH, Nat.reduceAdd] at k0
   refine wnn (aH (aE (cI rfl (ResOk.cellA rfl cF bG k0 rfl) ?_))); rw [xJ (fun h => d8 ((pre2 hle).2 h))]; exact ⟨rfl, (((d6.step j7 B.mem1).step j9 B.mem1).step l9 J.mem1)⟩
  have h40 := (pre2 hle).1 (Classical.not_not.1 d8); refine aM (aC (aI (csr ?_))); refine aA (sG (vs := [(0, _), (1, _)]) Try.underlying116 GT lO rfl (cells := #[.string (ByteArray.mk #[40, 63, 80, 60]), .string (ByteArray.mk #[40, 63, 60])]) (by kernel_rfl)) ?_; refine aB (wnn (bJ ?_)); refine dA (α := Nat) (0) (fun k => [(29, .int .i64 (k : Nat))]) [(2, _), (3, _), (4, _), (28, _)] (fun k wr => Evo [] m4 wr ∧ (HdI w wr b2 b4 s st.pos st.now k)) (fun k => 2 - k) ⟨rfl, trivial⟩ ⟨rfl, rfl, rfl, rfl, trivial⟩ ⟨Evo.refl _ _, ⟨Nat.zero_le _, fun j h => by cases h⟩⟩ ?_; rintro k wr64 ⟨O, ⟨hk2, hno⟩⟩; show CW _ _ _ _ [(29, _), (2, _), (3, _), (4, _), (28, _)] _; have d9 := O.blk0 (a7.blk0 d5); refine csr (aA (cU rfl rfl) ?_); refine wnn (aI (aW rfl (fun m0 => ?_) (fun m0 => ?_)))
  ·refine aM (aC (aI (bJ (csr ?_)))); refine aA (NF (n := k) rfl rfl Try.underlying116 rfl (by omega) lO (part_hd (by omega))) ?_; refine wan (aI (csr (aB (aB ?_))))
   refine aL (vs := [_, _]) qD rfl (wK (s.extract st.pos s.size) (hd k) (by omega) (by have := hd_sz k; omega)) rfl ?_
   rintro _ m5 ⟨rfl, a8⟩; refine aA (oO rfl) ?_; refine wnn (aW rfl (fun e1 => ?_) (fun e1 => ?_))
   ·refine cN (bL (cM (aC ?_))); refine aG ?_; refine aA (aK rfl rfl (by omega) (by omega)) ?_; refine aB (aQ (bA ?_)); refine ⟨k + 1, ?_, ⟨rfl, trivial⟩, ⟨rfl, rfl, rfl, rfl, trivial⟩, (O.then a8), ?_⟩
    · omega
    refine ⟨by omega, fun j hj => ?_⟩
    by_cases e : j = k
    · subst e; exact e1
    · exact hno j (by omega)
   have hpk := Classical.not_not.1 e1; have hsz := hd_sz k; have hsl : (hd k).size ≤ (s.extract st.pos s.size).size := hpk.1; have hop := OJ (fl := st.now) hle h40 (by omega) hpk hno; refine aM (aC (csr (aB (aA (bR rfl Try.underlying9 rfl) ?_)))); refine wan (aI (bJ ?_))
   refine dA (α := WdG) (⟨s.size, (hd k).size⟩) (fun x => [(7, .int .i64 (x.m : Nat))]) [(2, _), (3, _), (4, _), (6, _), (28, _), (29, _)] (fun x wr => Evo [] m5 wr ∧ (WdI s st.pos (hd k).size x)) (fun x => x.f) ⟨rfl, trivial⟩ ⟨rfl, rfl, rfl, rfl, rfl, rfl, trivial⟩ ⟨Evo.refl _ _, ⟨by show st.pos + (hd k).size ≤ s.size; omega, Nat.le_refl _, Nat.le_add_right _ _, rfl⟩⟩ ?_
   rintro ⟨f, m⟩ wr79 ⟨a9, ⟨hm, hhm, hf, heq⟩⟩; show CW _ _ _ _ [(7, .int .i64 (m : Nat)), (2, _), (3, _), (4, _), (6, _), (28, _), (29, _)] _
   try dsimp only at hm hhm hf heq
   have U := ((d6.then O).then a8).then a9; have V := a9.blk0 (a8.blk0 (O.blk0 d7)); have a0 := a9.blk0 (a8.blk0 d9); refine aI (csr (aB (aB (aA (bR rfl Try.underlying9 rfl) ?_)))); refine aA (cU rfl rfl) ?_; refine aB (bC (t := 42) rfl (fun m1 => ?_) (fun m1 => ?_))
   ·have e0 : sb (s.extract st.pos s.size) m = sb s (st.pos + m) := kV (by omega); refine aO (aB (aO (aB (aO ?_)))); refine aA (iT (n := m) rfl rfl Try.underlying9 rfl (by omega) e0) ?_; refine aO (aL (vs := [_]) tI rfl (BR (sb s (st.pos + m))) rfl ?_); rintro _ q5 ⟨rfl, b5⟩; have a4 := U.then b5; have a5 := b5.blk0 V; have a6 := b5.blk0 a0; refine bQ (wnn (aW rfl (fun F => ?_) (fun F => ?_)))
    ·refine aM (aC (bJ (aG (aB ?_)))); refine aA (aK rfl rfl (by omega) (by omega)) ?_; refine bX (aQ (aP (bA ?_))); refine ⟨⟨f - 1, m + 1⟩, ?_, ⟨rfl, trivial⟩, ⟨rfl, rfl, rfl, rfl, rfl, rfl, trivial⟩, (a9.then b5), ?_⟩
     · (try dsimp only); show f - 1 < f; omega
     try dsimp only
     have hf2 : f = f - 1 + 1 := by omega
     exact ⟨(by show st.pos + (m + 1) ≤ s.size; omega), Nat.le_succ_of_le hhm, (by show s.size ≤ f - 1 + (st.pos + (m + 1)); omega), heq.trans (by rw [hf2]; exact SB (by omega) F)⟩
    refine cN (bL (bL (cM (aC ?_)))); refine aI (csr (aB (aB (aA (bR rfl Try.underlying9 rfl) ?_)))); refine wel ?_; refine aB (bC (t := 54) rfl (fun e2 => ?_) (fun e2 => ?_))
    ·refine aJ (aJ (aJ (aJ (bQ (aB (aJ (aJ (aJ (aJ (bQ (wnn (dD rfl ?_)))))))))))); refine csr (aA (aD rfl dX) ?_); refine bB rfl rfl (by first | rfl | assumption) eO a6 rfl fun q6 k1 k2 => ?_
     try simp only [cH, Nat.reduceAdd] at k1
     refine wnn (csr (aA (bW rfl cF bG k1 rfl) ?_)); refine aV rfl rfl bG (k2.blk a5 A.nmem1) rfl rfl ⟨by first | rfl | assumption, by first | rfl | assumption, by first | rfl | assumption, by first | rfl | assumption, by first | rfl | assumption, by first | rfl | assumption, by first | rfl | assumption, by first | rfl | assumption, by first | rfl | assumption, trivial⟩ fun m7 e6 k3 => ?_
     try simp only [cH, Nat.reduceAdd] at e6
     refine wnn (aH (aE (aN (aE (aE (aN (aE (cI rfl (ResOk.cellA rfl cF bG e6 rfl) ?_))))))))
     have hend := heq.trans (iU (by rintro ⟨h1, h2⟩; first | omega | exact F h2))
     rw [hop, kD hend (.inl (by omega))]; exact ⟨rfl, ((a4.step k2 B.mem1).step k3 J.mem1)⟩
    refine aO (aB (aO (aB (aO (aA (bR rfl Try.underlying9 rfl) ?_))))); refine aO (wel ?_); refine bK (aB (bC (t := 60) rfl (fun e3 => ?_) (fun e3 => ?_)))
    ·refine aJ (aJ (aJ (aJ (bQ (wnn (dD rfl ?_)))))); refine csr (aA (aD rfl dX) ?_); refine bB rfl rfl (by first | rfl | assumption) eO a6 rfl fun m8 e7 e8 => ?_
     try simp only [cH, Nat.reduceAdd] at e7
     refine wnn (csr (aA (bW rfl cF bG e7 rfl) ?_)); refine aV rfl rfl bG (e8.blk a5 A.nmem1) rfl rfl ⟨by first | rfl | assumption, by first | rfl | assumption, by first | rfl | assumption, by first | rfl | assumption, by first | rfl | assumption, by first | rfl | assumption, by first | rfl | assumption, by first | rfl | assumption, by first | rfl | assumption, trivial⟩ fun m9 e9 k4 => ?_
     try simp only [cH, Nat.reduceAdd] at e9
     refine wnn (aH (aE (aN (aE (aE (aN (aE (cI rfl (ResOk.cellA rfl cF bG e9 rfl) ?_))))))))
     have hend := heq.trans (iU (by rintro ⟨h1, h2⟩; first | omega | exact F h2))
     rw [hop, kD hend (.inr (fun h => by have := h.1; omega))]
     exact ⟨rfl, ((a4.step e8 B.mem1).step k4 J.mem1)⟩
    have e0 : sb (s.extract st.pos s.size) m = sb s (st.pos + m) := kV (by omega); refine aO (aB (aO (aB (aO ?_)))); refine aA (iT (n := m) rfl rfl Try.underlying9 rfl (by omega) e0) ?_; refine aO (aA (gE rfl rfl) ?_); refine bK (wnn (aW rfl (fun e4 => ?_) (fun e4 => ?_)))
    ·refine csr (aA (aD rfl dX) ?_); refine bB rfl rfl (by first | rfl | assumption) eO a6 rfl fun n0 f0 f5 => ?_
     try simp only [cH, Nat.reduceAdd] at f0
     refine wnn (csr (aA (bW rfl cF bG f0 rfl) ?_)); refine aV rfl rfl bG (f5.blk a5 A.nmem1) rfl rfl ⟨by first | rfl | assumption, by first | rfl | assumption, by first | rfl | assumption, by first | rfl | assumption, by first | rfl | assumption, by first | rfl | assumption, by first | rfl | assumption, by first | rfl | assumption, by first | rfl | assumption, trivial⟩ fun n1 f6 k5 => ?_
     try simp only [cH, Nat.reduceAdd] at f6
     refine wnn (aH (aE (aN (aE (aE (aN (aE (cI rfl (ResOk.cellA rfl cF bG f6 rfl) ?_))))))))
     have hend := heq.trans (iU (by rintro ⟨h1, h2⟩; first | omega | exact F h2))
     rw [hop, kD hend (.inr (fun h => by have := h.2; omega))]
     exact ⟨rfl, ((a4.step f5 B.mem1).step k5 J.mem1)⟩
    have e74 : (s.extract st.pos s.size).extract (hd k).size m = s.extract (st.pos + (hd k).size) (st.pos + m) := yA (by omega) hhm; refine aM (aC (aI ?_)); refine fT (fun w0 w' => Evo [b4] w0 w') (by kernel_rfl) (fun H L => ?_); refine aet 0 rfl (fun _ hS => aX rfl) (Evo.refl [b4] H) ?_; refine aet 1 rfl (fun _ hS => aK rfl rfl (by omega) (by omega)) (Evo.refl [b4] H) ?_; refine aet 2 rfl (fun _ hS => aX rfl) (Evo.refl [b4] H) ?_; refine aet 3 rfl (fun _ hS => aX rfl) (Evo.refl [b4] H) ?_; refine aet 4 rfl (fun _ hS => bR rfl Try.underlying9 rfl) (Evo.refl [b4] H) ?_; refine aet 5 rfl (fun _ hS => aX rfl) (Evo.refl [b4] H) ?_; refine aet 7 rfl (fun _ hS => aD rfl fH) (Evo.refl [b4] H) ?_; refine bV [6, 8] (by kernel_rfl) rfl ⟨?_, ?_, trivial⟩
    ·refine cA rfl ?_; refine aA (rE (l := (hd k).size) (h := m) rfl rfl rfl Try.underlying9 rfl rfl hhm (by omega) e74) ?_; refine aQ (bO (.inl (Evo.refl [b4] H)) ?_); refine bV [8] (by kernel_rfl) rfl ⟨?_, trivial⟩; refine cA rfl ?_; refine bB rfl rfl (by first | rfl | assumption) bY (L.blk0 a6) rfl fun n2 f7 b6 => ?_; have b7 := (Evo.refl [b4] H).step b6 (fun y hy => .inl hy)
     try simp only [cH, Nat.reduceAdd] at f7
     refine aQ (bO (.inl b7) ?_); refine aet 9 rfl (fun _ hS => aD rfl jN) b7 ?_; refine bV [10] (by kernel_rfl) rfl ⟨?_, trivial⟩; refine cA rfl ?_; refine bB rfl rfl (by first | rfl | assumption) lO f7 rfl fun n3 f8 b8 => ?_; have b9 := b7.step b8 (fun y hy => .inl hy)
     try simp only [cH, Nat.reduceAdd] at f8
     refine aQ (bO (.inl b9) ?_); refine aet 11 rfl (fun _ hS => aD rfl gZ) b9 ?_; refine bV [12] (by kernel_rfl) rfl ⟨?_, trivial⟩; refine cA rfl ?_; refine bB rfl rfl (by first | rfl | assumption) fP f8 rfl fun n4 f9 c0 => ?_
     try simp only [cH, Nat.reduceAdd] at f9
     refine aQ (bO (.inl (b9.step c0 (fun y hy => .inl hy))) ?_); refine dH (by kernel_rfl) (aC ?_); refine csr (aA (bW rfl cF bG f9 rfl) ?_); refine aV rfl rfl bG (c0.blk (b8.blk (b6.blk (L.blk0 a5) A.nmem1) A.nmem1) A.nmem1) rfl rfl ⟨by first | rfl | assumption, by first | rfl | assumption, by first | rfl | assumption, by first | rfl | assumption, by first | rfl | assumption, by first | rfl | assumption, by first | rfl | assumption, by first | rfl | assumption, by first | rfl | assumption, trivial⟩ fun n5 g0 k6 => ?_
     try simp only [cH, Nat.reduceAdd] at g0
     refine wnn (aH (aN (aE (aE (aN (aE (cI rfl (ResOk.cellA rfl cF bG g0 rfl) ?_)))))))
     have hend := heq.trans (iU (by rintro ⟨h1, h2⟩; first | omega | exact F h2))
     rw [hop, oV hend (by rintro (h | h); omega; exact h ⟨by omega, by omega⟩)]
     refine ⟨?_, (((((a4.then L).step b6 B.mem1).step b8 B.mem1).step c0 B.mem1).step k6 J.mem1)⟩; simp only [opV]; rw [show ((st.pos + m + 1 - st.pos : Nat) : Int) = (m : Int) + 1 by omega]
    refine cA rfl ?_; refine bB rfl rfl (by first | rfl | assumption) bY (L.blk0 a6) rfl fun n6 g1 c1 => ?_; have a1 := (Evo.refl [b4] H).step c1 (fun y hy => .inl hy)
    try simp only [cH, Nat.reduceAdd] at g1
    refine aQ (bO (.inl a1) ?_); refine bV [6] (by kernel_rfl) rfl ⟨?_, trivial⟩; refine cA rfl ?_; refine aA (rE (l := (hd k).size) (h := m) rfl rfl rfl Try.underlying9 rfl rfl hhm (by omega) e74) ?_; refine aQ (bO (.inl a1) ?_); refine aet 9 rfl (fun _ hS => aD rfl jN) a1 ?_; refine bV [10] (by kernel_rfl) rfl ⟨?_, trivial⟩; refine cA rfl ?_; refine bB rfl rfl (by first | rfl | assumption) lO g1 rfl fun n7 g2 c2 => ?_; have c3 := a1.step c2 (fun y hy => .inl hy)
    try simp only [cH, Nat.reduceAdd] at g2
    refine aQ (bO (.inl c3) ?_); refine aet 11 rfl (fun _ hS => aD rfl gZ) c3 ?_; refine bV [12] (by kernel_rfl) rfl ⟨?_, trivial⟩; refine cA rfl ?_; refine bB rfl rfl (by first | rfl | assumption) fP g2 rfl fun n8 g3 c4 => ?_
    try simp only [cH, Nat.reduceAdd] at g3
    refine aQ (bO (.inl (c3.step c4 (fun y hy => .inl hy))) ?_); refine dH (by kernel_rfl) (aC ?_); refine csr (aA (bW rfl cF bG g3 rfl) ?_); refine aV rfl rfl bG (c4.blk (c2.blk (c1.blk (L.blk0 a5) A.nmem1) A.nmem1) A.nmem1) rfl rfl ⟨by first | rfl | assumption, by first | rfl | assumption, by first | rfl | assumption, by first | rfl | assumption, by first | rfl | assumption, by first | rfl | assumption, by first | rfl | assumption, by first | rfl | assumption, by first | rfl | assumption, trivial⟩ fun n9 g4 k7 => ?_
    try simp only [cH, Nat.reduceAdd] at g4
    refine wnn (aH (aN (aE (aE (aN (aE (cI rfl (ResOk.cellA rfl cF bG g4 rfl) ?_)))))))
    have hend := heq.trans (iU (by rintro ⟨h1, h2⟩; first | omega | exact F h2))
    rw [hop, oV hend (by rintro (h | h); omega; exact h ⟨by omega, by omega⟩)]
    refine ⟨?_, (((((a4.then L).step c1 B.mem1).step c2 B.mem1).step c4 B.mem1).step k7 J.mem1)⟩; simp only [opV]; rw [show ((st.pos + m + 1 - st.pos : Nat) : Int) = (m : Int) + 1 by omega]
   refine aJ (aJ (aJ (aJ (bK (wnn (cK rfl ?_)))))); refine cN (bL (bL (cM (aC ?_)))); refine aI (csr (aB (aB (aA (bR rfl Try.underlying9 rfl) ?_)))); refine wel ?_; refine aB (bC (t := 54) rfl (fun e2 => ?_) (fun e2 => ?_))
   ·refine aJ (aJ (aJ (aJ (bQ (aB (aJ (aJ (aJ (aJ (bQ (wnn (dD rfl ?_)))))))))))); refine csr (aA (aD rfl dX) ?_); refine bB rfl rfl (by first | rfl | assumption) eO a0 rfl fun o0 g5 g6 => ?_
    try simp only [cH, Nat.reduceAdd] at g5
    refine wnn (csr (aA (bW rfl cF bG g5 rfl) ?_)); refine aV rfl rfl bG (g6.blk V A.nmem1) rfl rfl ⟨by first | rfl | assumption, by first | rfl | assumption, by first | rfl | assumption, by first | rfl | assumption, by first | rfl | assumption, by first | rfl | assumption, by first | rfl | assumption, by first | rfl | assumption, by first | rfl | assumption, trivial⟩ fun o1 g7 k8 => ?_
    try simp only [cH, Nat.reduceAdd] at g7
    refine wnn (aH (aE (aN (aE (aE (aN (aE (cI rfl (ResOk.cellA rfl cF bG g7 rfl) ?_))))))))
    have hend := heq.trans (iU (by rintro ⟨h1, h2⟩; first | omega | exact F h2))
    rw [hop, kD hend (.inl (by omega))]; exact ⟨rfl, ((U.step g6 B.mem1).step k8 J.mem1)⟩
   refine aO (aB (aO (aB (aO (aA (bR rfl Try.underlying9 rfl) ?_))))); refine aO (wel ?_); refine bK (aB (bC (t := 60) rfl (fun e3 => ?_) (fun e3 => ?_)))
   ·refine aJ (aJ (aJ (aJ (bQ (wnn (dD rfl ?_)))))); refine csr (aA (aD rfl dX) ?_); refine bB rfl rfl (by first | rfl | assumption) eO a0 rfl fun o2 g8 g9 => ?_
    try simp only [cH, Nat.reduceAdd] at g8
    refine wnn (csr (aA (bW rfl cF bG g8 rfl) ?_)); refine aV rfl rfl bG (g9.blk V A.nmem1) rfl rfl ⟨by first | rfl | assumption, by first | rfl | assumption, by first | rfl | assumption, by first | rfl | assumption, by first | rfl | assumption, by first | rfl | assumption, by first | rfl | assumption, by first | rfl | assumption, by first | rfl | assumption, trivial⟩ fun o3 h0 k9 => ?_
    try simp only [cH, Nat.reduceAdd] at h0
    refine wnn (aH (aE (aN (aE (aE (aN (aE (cI rfl (ResOk.cellA rfl cF bG h0 rfl) ?_))))))))
    have hend := heq.trans (iU (by rintro ⟨h1, h2⟩; first | omega | exact F h2))
    rw [hop, kD hend (.inr (fun h => by have := h.1; omega))]
    exact ⟨rfl, ((U.step g9 B.mem1).step k9 J.mem1)⟩
   have e0 : sb (s.extract st.pos s.size) m = sb s (st.pos + m) := kV (by omega); refine aO (aB (aO (aB (aO ?_)))); refine aA (iT (n := m) rfl rfl Try.underlying9 rfl (by omega) e0) ?_; refine aO (aA (gE rfl rfl) ?_); refine bK (wnn (aW rfl (fun e4 => ?_) (fun e4 => ?_)))
   ·refine csr (aA (aD rfl dX) ?_); refine bB rfl rfl (by first | rfl | assumption) eO a0 rfl fun o4 h3 h4 => ?_
    try simp only [cH, Nat.reduceAdd] at h3
    refine wnn (csr (aA (bW rfl cF bG h3 rfl) ?_)); refine aV rfl rfl bG (h4.blk V A.nmem1) rfl rfl ⟨by first | rfl | assumption, by first | rfl | assumption, by first | rfl | assumption, by first | rfl | assumption, by first | rfl | assumption, by first | rfl | assumption, by first | rfl | assumption, by first | rfl | assumption, by first | rfl | assumption, trivial⟩ fun o5 h5 l0 => ?_
    try simp only [cH, Nat.reduceAdd] at h5
    refine wnn (aH (aE (aN (aE (aE (aN (aE (cI rfl (ResOk.cellA rfl cF bG h5 rfl) ?_))))))))
    have hend := heq.trans (iU (by rintro ⟨h1, h2⟩; first | omega | exact F h2))
    rw [hop, kD hend (.inr (fun h => by have := h.2; omega))]
    exact ⟨rfl, ((U.step h4 B.mem1).step l0 J.mem1)⟩
   have e74 : (s.extract st.pos s.size).extract (hd k).size m = s.extract (st.pos + (hd k).size) (st.pos + m) := yA (by omega) hhm; refine aM (aC (aI ?_)); refine fT (fun w0 w' => Evo [b4] w0 w') (by kernel_rfl) (fun I M => ?_); refine aet 0 rfl (fun _ hS => aX rfl) (Evo.refl [b4] I) ?_; refine aet 1 rfl (fun _ hS => aK rfl rfl (by omega) (by omega)) (Evo.refl [b4] I) ?_; refine aet 2 rfl (fun _ hS => aX rfl) (Evo.refl [b4] I) ?_; refine aet 3 rfl (fun _ hS => aX rfl) (Evo.refl [b4] I) ?_; refine aet 4 rfl (fun _ hS => bR rfl Try.underlying9 rfl) (Evo.refl [b4] I) ?_; refine aet 5 rfl (fun _ hS => aX rfl) (Evo.refl [b4] I) ?_; refine aet 7 rfl (fun _ hS => aD rfl fH) (Evo.refl [b4] I) ?_; refine bV [6, 8] (by kernel_rfl) rfl ⟨?_, ?_, trivial⟩
   ·refine cA rfl ?_; refine aA (rE (l := (hd k).size) (h := m) rfl rfl rfl Try.underlying9 rfl rfl hhm (by omega) e74) ?_; refine aQ (bO (.inl (Evo.refl [b4] I)) ?_); refine bV [8] (by kernel_rfl) rfl ⟨?_, trivial⟩; refine cA rfl ?_; refine bB rfl rfl (by first | rfl | assumption) bY (M.blk0 a0) rfl fun o6 h6 c5 => ?_; have c6 := (Evo.refl [b4] I).step c5 (fun y hy => .inl hy)
    try simp only [cH, Nat.reduceAdd] at h6
    refine aQ (bO (.inl c6) ?_); refine aet 9 rfl (fun _ hS => aD rfl jN) c6 ?_; refine bV [10] (by kernel_rfl) rfl ⟨?_, trivial⟩; refine cA rfl ?_; refine bB rfl rfl (by first | rfl | assumption) lO h6 rfl fun o7 h7 c7 => ?_; have c8 := c6.step c7 (fun y hy => .inl hy)
    try simp only [cH, Nat.reduceAdd] at h7
    refine aQ (bO (.inl c8) ?_); refine aet 11 rfl (fun _ hS => aD rfl gZ) c8 ?_; refine bV [12] (by kernel_rfl) rfl ⟨?_, trivial⟩; refine cA rfl ?_; refine bB rfl rfl (by first | rfl | assumption) fP h7 rfl fun o8 h8 c9 => ?_
    try simp only [cH, Nat.reduceAdd] at h8
    refine aQ (bO (.inl (c8.step c9 (fun y hy => .inl hy))) ?_); refine dH (by kernel_rfl) (aC ?_); refine csr (aA (bW rfl cF bG h8 rfl) ?_); refine aV rfl rfl bG (c9.blk (c7.blk (c5.blk (M.blk0 V) A.nmem1) A.nmem1) A.nmem1) rfl rfl ⟨by first | rfl | assumption, by first | rfl | assumption, by first | rfl | assumption, by first | rfl | assumption, by first | rfl | assumption, by first | rfl | assumption, by first | rfl | assumption, by first | rfl | assumption, by first | rfl | assumption, trivial⟩ fun o9 h9 l1 => ?_
    try simp only [cH, Nat.reduceAdd] at h9
    refine wnn (aH (aN (aE (aE (aN (aE (cI rfl (ResOk.cellA rfl cF bG h9 rfl) ?_)))))))
    have hend := heq.trans (iU (by rintro ⟨h1, h2⟩; first | omega | exact F h2))
    rw [hop, oV hend (by rintro (h | h); omega; exact h ⟨by omega, by omega⟩)]
    refine ⟨?_, (((((U.then M).step c5 B.mem1).step c7 B.mem1).step c9 B.mem1).step l1 J.mem1)⟩; simp only [opV]; rw [show ((st.pos + m + 1 - st.pos : Nat) : Int) = (m : Int) + 1 by omega]
   refine cA rfl ?_; refine bB rfl rfl (by first | rfl | assumption) bY (M.blk0 a0) rfl fun p1 i1 d0 => ?_; have a2 := (Evo.refl [b4] I).step d0 (fun y hy => .inl hy)
   try simp only [cH, Nat.reduceAdd] at i1
   refine aQ (bO (.inl a2) ?_); refine bV [6] (by kernel_rfl) rfl ⟨?_, trivial⟩; refine cA rfl ?_; refine aA (rE (l := (hd k).size) (h := m) rfl rfl rfl Try.underlying9 rfl rfl hhm (by omega) e74) ?_; refine aQ (bO (.inl a2) ?_); refine aet 9 rfl (fun _ hS => aD rfl jN) a2 ?_; refine bV [10] (by kernel_rfl) rfl ⟨?_, trivial⟩; refine cA rfl ?_; refine bB rfl rfl (by first | rfl | assumption) lO i1 rfl fun p2 i2 d1 => ?_; have d2 := a2.step d1 (fun y hy => .inl hy)
   try simp only [cH, Nat.reduceAdd] at i2
   refine aQ (bO (.inl d2) ?_); refine aet 11 rfl (fun _ hS => aD rfl gZ) d2 ?_; refine bV [12] (by kernel_rfl) rfl ⟨?_, trivial⟩; refine cA rfl ?_; refine bB rfl rfl (by first | rfl | assumption) fP i2 rfl fun p3 i3 d3 => ?_
   try simp only [cH, Nat.reduceAdd] at i3
   refine aQ (bO (.inl (d2.step d3 (fun y hy => .inl hy))) ?_); refine dH (by kernel_rfl) (aC ?_); refine csr (aA (bW rfl cF bG i3 rfl) ?_); refine aV rfl rfl bG (d3.blk (d1.blk (d0.blk (M.blk0 V) A.nmem1) A.nmem1) A.nmem1) rfl rfl ⟨by first | rfl | assumption, by first | rfl | assumption, by first | rfl | assumption, by first | rfl | assumption, by first | rfl | assumption, by first | rfl | assumption, by first | rfl | assumption, by first | rfl | assumption, by first | rfl | assumption, trivial⟩ fun p4 i4 l2 => ?_
   try simp only [cH, Nat.reduceAdd] at i4
   refine wnn (aH (aN (aE (aE (aN (aE (cI rfl (ResOk.cellA rfl cF bG i4 rfl) ?_)))))))
   have hend := heq.trans (iU (by rintro ⟨h1, h2⟩; first | omega | exact F h2))
   rw [hop, oV hend (by rintro (h | h); omega; exact h ⟨by omega, by omega⟩)]
   refine ⟨?_, (((((U.then M).step d0 B.mem1).step d1 B.mem1).step d3 B.mem1).step l2 J.mem1)⟩; simp only [opV]; rw [show ((st.pos + m + 1 - st.pos : Nat) : Int) = (m : Int) + 1 by omega]
  have hnn : ∀ j, j < 2 → ¬ Pre (s.extract st.pos s.size) (hd j) := fun j hj => hno j (by omega); have hop := open_no (fl := st.now) hle h40 hnn; refine cN (bL (bL (cM (aC ?_)))); refine aI (csr (aB ?_)); refine aL (vs := [_, _]) qD rfl (wK (s.extract st.pos s.size) (ByteArray.mk #[40, 63, 58]) (by omega) (show 3 ≤ 140737488355328 by omega)) rfl ?_; rintro _ p5 ⟨rfl, a3⟩; have i5 := (d6.then O).then a3; have i6 := a3.blk0 (O.blk0 d7); refine wnn (aW rfl (fun e5 => ?_) (fun e5 => ?_))
  ·refine csr (aA (aD rfl fH) ?_); refine bB rfl rfl (by first | rfl | assumption) bY (a3.blk0 d9) rfl fun p6 i7 i8 => ?_
   try simp only [cH, Nat.reduceAdd] at i7
   refine wnn (csr (aA (bW rfl cF bG i7 rfl) ?_)); refine aV rfl rfl bG (i8.blk i6 A.nmem1) rfl rfl ⟨by first | rfl | assumption, by first | rfl | assumption, by first | rfl | assumption, by first | rfl | assumption, by first | rfl | assumption, by first | rfl | assumption, by first | rfl | assumption, by first | rfl | assumption, by first | rfl | assumption, trivial⟩ fun p7 i9 l3 => ?_
   try simp only [cH, Nat.reduceAdd] at i9
   refine wnn (aH (aE (cI rfl (ResOk.cellA rfl cF bG i9 rfl) ?_))); have h58 : isB s (st.pos + 2) 58 := ((pre3 hle).1 e5).2.2; rw [hop, if_pos h58]; exact ⟨rfl, ((i5.step i8 B.mem1).step l3 J.mem1)⟩
  refine aM (aC (csr (aB (aA (bW rfl cF bG (a3.blk0 d9) rfl) ?_))))
  refine aL (vs := [_, _]) KB rfl (HO s st.pos st.now (by have := h40.2.1; omega) hs) rfl ?_
  rintro _ p8 ⟨rfl, j0⟩; refine aV rfl rfl bG (j0.blk0 i6) rfl rfl ⟨by first | rfl | assumption, by first | rfl | assumption, by first | rfl | assumption, by first | rfl | assumption, by first | rfl | assumption, by first | rfl | assumption, by first | rfl | assumption, by first | rfl | assumption, by first | rfl | assumption, trivial⟩ fun p9 j1 l4 => ?_
  try simp only [cH, Nat.reduceAdd] at j1
  refine wnn (aH (cI rfl (ResOk.cellA rfl cF bG j1 rfl) ?_)); have h58 : ¬ isB s (st.pos + 2) 58 := fun h => e5 ((pre3 hle).2 ⟨h40.1, h40.2, h⟩); rw [hop, if_neg h58]; exact ⟨rfl, ((i5.then j0).step l4 J.mem1)⟩
theorem mU : DL Try.prog 35 35 = some (37, 9, 112) := by kernel_rfl
theorem qE : dY Try.prog 50 := ⟨_, Try.func50, by kernel_rfl, by kernel_rfl⟩
theorem OTs.evo0 {l : List Rx} {w w' : World} {cs : List Value} {bs : List Nat} (h : OTs l w cs bs) (he : Evo [] w w') : OTs l w' cs bs := h.evo he (fun b hb h => by cases h)
theorem OT.evo0 {x : Rx} {w w' : World} {vs : List Value} {bs : List Nat} (h : OT x w vs bs) (he : Evo [] w w') : OT x w' vs bs := h.evo he (fun b hb h => by cases h)
theorem qK {w : World} {o : Option Nat} {bs : List Nat} (h : Fr w (o.toList ++ bs)) : ∀ q, q ∈ bs → q ∉ o.toList := fun q hq ho => (List.nodup_append.1 h.nd).2.2 q ho q hq rfl
theorem oC {w : World} {o : Option Nat} {bs : List Nat} (h : Fr w (o.toList ++ bs)) : Ge w o := fun g hg => h.ge g (by simp [hg])
theorem Fr.grow {w w1 w2 : World} {o o2 : Option Nat} {bs bx : List Nat} (h : Fr w (o.toList ++ bs)) (hl : ∀ b, b ∈ o.toList ++ bs → b < w1.heap.size) (hx : Fr w1 bx) (hx2 : ∀ b, b ∈ bx → b < w2.heap.size) (hw : w.heap.size ≤ w1.heap.size) (h12 : w1.heap.size ≤ w2.heap.size)
    (hob : o2 = o ∨ ∃ g, o2 = some g ∧ w2.heap.size ≤ g) : Fr w (o2.toList ++ (bs ++ bx)) := by
  rcases hob with rfl | ⟨g, rfl, hg⟩
  · rw [← List.append_assoc]
    exact h.app hx hw hl
  · have hb : Fr w (bs ++ bx) := Fr.app ⟨(List.nodup_append.1 h.nd).2.1, fun b hb => h.ge b (List.mem_append_right _ hb)⟩ hx hw (fun b hb => hl b (List.mem_append_right _ hb))
    refine ⟨List.nodup_cons.2 ⟨fun hm => ?_, hb.nd⟩, fun b hb2 => ?_⟩
    · have hm' : g ∈ bs ++ bx := by simpa using hm
      rcases List.mem_append.1 hm' with hm' | hm'
      · have := hl g (List.mem_append_right _ hm'); omega
      · have := hx2 g hm'; omega
    · rcases List.mem_cons.1 hb2 with rfl | hb2
      · omega
      · exact hb.ge b hb2
theorem oK {w : World} {a : Option Addr} {n c : Nat} {cs : List Value} {o : Option Nat} {l : List Rx} {bs : List Nat} (hO : OwnS w 37 9 a n c cs o) (hT : OTs l w cs bs) : ∀ b, b ∈ o.toList ++ bs → b < w.heap.size := fun b hb => (List.mem_append.1 hb).elim (CE hO b) (hT.lt b)
theorem MG {w : World} {o : Option Nat} {bs : List Nat} {b : Nat} (h : Fr w (o.toList ++ bs)) (hb : Lt w (some b)) : ∀ q, q ∈ bs → q ∉ [b] := fun q hq hm => by
  have h1 := h.ge q (List.mem_append_right _ hq)
  have h2 := hb b rfl
  rw [List.mem_singleton.1 hm] at h1; omega
theorem NA {s : ByteArray} {a b j k : Nat} (h : jU s a b s.size j = some k) : sb s k = a ∧ sb s (k + 1) = b := ((pZ s a b s.size j (by omega)).1 k h).2.1.2
structure QuG where
  f : Nat
  i : Nat
  n : Nat
  l : List Rx
  qa : Option Addr
  qc : Nat
  qo : Option Nat
  bs : List Nat
structure QuI (w wr : World) (b : Nat) (s : ByteArray) (st : PS) (a : Option Addr) (c : Nat) (ob : Option Nat) (e i0 : Nat) (x : QuG) : Prop where
  hr : RdAt wr b s (gT st x.i) a c ob
  bd : Bd s x.i
  eq : jY s st.now e s.size [] i0 = jY s st.now e x.f x.l x.i
  hf : s.size ≤ x.f + x.i
  kt : ∃ cs, OwnS wr 37 9 x.qa x.n x.qc cs x.qo ∧ OTs x.l wr cs x.bs
  fr : Fr w (x.qo.toList ++ x.bs)
  len : x.l.length + i0 ≤ x.i
  ie : x.i ≤ e
theorem RH {s : ByteArray} {fl : Fl} {e f i : Nat} {l : List Rx} (h : i < e) : jY s fl e (f + 1) l i = jY s fl e f (l ++ [mA fl (bH s i).1]) (i + (bH s i).2) := by rw [jY, if_pos h]
theorem LN {s : ByteArray} {fl : Fl} {e f i : Nat} {l : List Rx} (h : ¬ i < e) : jY s fl e f l i = (l, i) := by
  cases f with
  | zero => rfl
  | succ f => rw [jY, if_neg h]
theorem qZ {w : World} {a : Option Addr} {n c : Nat} {cs : List Value} {o : Option Nat} {l : List Rx} {bs : List Nat} (hO : OwnS w 37 9 a n c cs o) (hT : OTs l w cs bs) : n = l.length := by have h1 := hO.length; have h2 := hT.len; omega
theorem pq_some {s : ByteArray} {st : PS} {k : Nat} (h : jU s 92 69 s.size (st.pos + 2) = some k) : nG s st = .ok ((jY s st.now k s.size [] (st.pos + 2)).1, { st with pos := (jY s st.now k s.size [] (st.pos + 2)).2 + 2 }) := by unfold nG; rw [h]
theorem pq_none {s : ByteArray} {st : PS} (h : jU s 92 69 s.size (st.pos + 2) = none) : nG s st = .ok ((jY s st.now s.size s.size [] (st.pos + 2)).1, { st with pos := (jY s st.now s.size s.size [] (st.pos + 2)).2 }) := by unfold nG; rw [h]
theorem NP {s : ByteArray} {i e : Nat} (h : Bd s i) (hi : i < e) (he : Bd s e) : i + (bH s i).2 ≤ e := by
  obtain ⟨N, k, hU, hk, rfl⟩ := h
  obtain ⟨M, m, hV, hm, rfl⟩ := he
  have hkm : k < m := by
    rcases Nat.lt_or_ge k m with h | h
    · exact h
    · have := uR s h; omega
  exact uR s (show k + 1 ≤ m from hkm)
theorem Bd.size {s : ByteArray} {i : Nat} (h : Bd s i) : Bd s s.size := by obtain ⟨N, k, hU, hk, _⟩ := h; exact ⟨N, N, hU, Nat.le_refl _, hU.1⟩
theorem BX {w : World} {b : Nat} {s : ByteArray} {st : PS} {a : Option Addr} {c : Nat} {ob : Option Nat} (hR : RdAt w b s st a c ob) (hs : s.size ≤ 10000) (hb : Bd s (st.pos + 2)) (hG : Glb w) :
    Calls Try.prog 58 #[.pointer (some ⟨b, 0, none⟩)] w (Ret fun v w' => ∃ l st', nG s st = .ok (l, st') ∧ KOut w w' v l ∧ Evo [b] w w' ∧ RdAt w' b s st' a c ob ∧ st'.opn = st.opn ∧ st'.names = st.names ∧ st.pos + 2 ≤ st'.pos ∧ Bd s st'.pos ∧ l.length + st.pos ≤ st'.pos) := by
  have hap := hR.ap; have hgb : nU ∉ [b] := fun h => hR.glb hG (List.mem_singleton.1 h).symm; have hle := hb.le; have hbw : Lt w (some b) := Lt.blk hR.blk; have how : Lt w ob := Lt.own hR.own; refine bE (N := 59) Try.func58 rfl rfl rfl ?_; refine csr (wan (csr (aB (aA (aF rfl) (wfl rfl bF rfl aT hR.blk rfl ?_))))); refine aA (aK rfl rfl (by omega) (by omega)) ?_; refine aA (aF rfl) (aA (aD rfl bF) ?_); refine bB rfl rfl (by first | rfl | assumption) bY hR.blk rfl fun w1 a8 d4 => ?_
  try simp only [cH, Nat.reduceAdd] at a8
  refine wnn (csr (aB (aA (aF rfl) (wfl rfl cV rfl dC a8 rfl (aA (bR rfl Try.underlying9 rfl) ?_))))); refine bX (wan (aI (aI ?_))); refine fT (fun w0 w' => Evo [] w0 w') (by kernel_rfl) (fun w6 a9 => ?_); have b4 := ((Evo.refl [b] w).step d4 (fun y hy => .inl hy)).then a9; have b5 := a9.blk0 a8; refine aet 0 rfl (fun _ hS => aX rfl) (Evo.refl [] w6) ?_; refine aet 1 rfl (fun _ hS => aF rfl) (Evo.refl [] w6) ?_; refine aet 2 rfl (fun _ hS => aD rfl cV) (Evo.refl [] w6) ?_; refine aet 3 rfl (fun _ hS => aS rfl dC (aY (hS.blk0 b5) rfl)) (Evo.refl [] w6) ?_; refine aet 4 rfl (fun _ hS => aX rfl) (Evo.refl [] w6) ?_; refine aet 5 rfl (fun _ hS => aF rfl) (Evo.refl [] w6) ?_; refine aet 6 rfl (fun _ hS => aD rfl bF) (Evo.refl [] w6) ?_; refine aet 7 rfl (fun _ hS => aS rfl aT (aY (hS.blk0 b5) rfl)) (Evo.refl [] w6) ?_; refine bV [8] (by kernel_rfl) rfl ⟨?_, trivial⟩; refine cA rfl ?_
  refine aA (jI (l := st.pos + 2) rfl rfl Try.underlying9 rfl hle) ?_; refine aQ (bO (.inl (Evo.refl [] w6)) ?_); refine bV [9] (by kernel_rfl) rfl ⟨?_, trivial⟩; refine cA rfl ?_; refine aL (vs := [_, _]) yV rfl (MX s 92 69 (st.pos + 2) hle (by omega) (hG.evo b4 hgb)) rfl ?_; rintro _ e6 ⟨rfl, O⟩; have b6 := (Evo.refl [] w6).then O; have a0 := O.blk0 b5; have b7 := ((hR.own.evo d4 hap.symm.own1).evo0 a9).evo0 O; refine aQ (bO (.inl b6) ?_); refine aet 10 rfl (fun _ hS => eG rfl) b6 ?_; refine dH (by kernel_rfl) (aC ?_); refine csr (aB (aA (eF rfl rfl) ?_)); refine wnn (aW rfl (fun a1 => ?_) (fun a1 => ?_))
  ·obtain ⟨k, hk, hfk, hk2, hk3⟩ := MZ a1; rw [hfk]
   have hbk : Bd s k := mZ hb (by omega) (by omega) (by have h9 : sb s k = 92 := (NA hk).1; omega)
   refine aG (aB (aA (aF rfl) (wfl rfl bF rfl aT a0 rfl (aB ?_)))); refine aA (NG (r := ((k : Nat) : Int)) rfl rfl (by omega) (by omega) (by omega)) ?_; refine bX (wan (csr (wan (aI (bJ ?_)))))
   refine dA (α := QuG) (⟨s.size, st.pos + 2, 0, [], none, 0, none, []⟩) (fun x => [(6, .slice x.qa x.n x.qc)]) [(0, _), (2, _), (3, _), (4, _)] (fun x wr => Evo [b] w wr ∧ (QuI w wr b s st a c ob k (st.pos + 2) x)) (fun x => x.f) ⟨rfl, trivial⟩ ⟨rfl, rfl, rfl, rfl, trivial⟩ ⟨(b4.then O), ⟨⟨a0, b7, hR.ne⟩, hb, rfl, Nat.le_add_right _ _, ⟨[], OwnS.nil _ _ _, OTs.nil _⟩, Fr.nil _, (by show 0 + (st.pos + 2) ≤ st.pos + 2; omega), (by show st.pos + 2 ≤ _; omega)⟩⟩ ?_
   rintro ⟨f, i, n, l, qa, qc, qo, bs⟩ wr17 ⟨b8, ⟨A, hbi, heq, hfi, ⟨cs, hown, hts⟩, hfr, hlen, hie⟩⟩; show CW _ _ _ _ [(6, .slice qa n qc), (0, _), (2, _), (3, _), (4, _)] _
   try dsimp only at A hbi heq hfi cs hown hts hfr hlen hie
   have hpi : (gT st i).pos = i := rfl; have hil := hbi.le; have b9 : Apart ob qo := jR how (oC hfr); have F : Apart (some b) qo := jR hbw (oC hfr); refine aI (csr (aB (aA (aF rfl) (wfl rfl bF rfl aT A.blk rfl (aB (aA (cU rfl rfl) ?_)))))); refine wnn (aW rfl (fun a3 => ?_) (fun a3 => ?_))
   ·have hii : i < k := by omega
    have hsz2 := (hbk).le; obtain ⟨d8, d9, c0, hr0, hr1⟩ := hbi.next (by omega); have c1 := NP hbi hii (hbk); obtain ⟨f', rfl⟩ : ∃ f', f = f' + 1 := ⟨f - 1, by omega⟩; have hql := oK hown hts; refine aM (aC (bJ (aG (aB (aB (aB ?_)))))); refine aL (vs := [_]) qF rfl (wF ⟨A.blk, A.own, A.ne⟩ (by omega) hbi) rfl ?_; rintro _ e7 ⟨rfl, a4, H⟩; have c3 := b8.step a4 (fun y hy => .inl hy); have c4 := hown.evo a4 ((by first | exact F.symm.own1 | exact F.symm.nmem1)); have c5 := hts.evo a4 (MG hfr hbw); refine aL (vs := [_, _]) qE rfl (CO H (bH s i).1 hr0 hr1) rfl ?_; rintro rv e0 ⟨hT, J⟩; have hcall9 := J; have c6 := c3; have hl1 := oK c4 c5; have hql2 : ∀ q, q ∈ qo.toList → q < _ := fun q hq => hl1 q (List.mem_append_left _ hq); obtain ⟨vs, bx, rfl, hOT, hFx⟩ := hT; obtain ⟨ra, rc, ka, kc, rfl⟩ := id hOT.nine; refine bM (vs := [_]) rfl cT rfl rfl rfl rfl fun e8 e9 d5 e2 B => ?_; have a5 := (hOT.evo0 B); have hVV := ((Evo.refl [] e0).then B)
    refine cZ rfl rfl rfl rfl mU ((c4.evo0 J).evo0 B) (Src.ofOwn d5 ⟨by first | rfl | assumption, by first | rfl | assumption, by first | rfl | assumption, by first | rfl | assumption, by first | rfl | assumption, by first | rfl | assumption, by first | rfl | assumption, by first | rfl | assumption, by first | rfl | assumption, trivial⟩) (by have := qZ hown hts; omega) fun a2 c2 f0 ob2 c7 U hob54 => ?_
    have d6 := (hOT.evo0 B).evo U (fun q hq h => by have h8 := hFx.ge q hq; have h9 := hql2 q h; omega)
    have hob2 := hob54; have hFr9 := Fr.grow hfr hl1 hFx (OT.lt a5) c6.size (Nat.le_trans hcall9.size hVV.size) hob2; refine bX (aQ (aP (bA ?_))); refine ⟨⟨f', i + (bH s i).2, n + 1, l ++ [mA st.now (bH s i).1], a2, c2, ob2, bs ++ bx⟩, ?_, ⟨rfl, trivial⟩, ⟨rfl, rfl, rfl, rfl, trivial⟩, (((c3.then J).then B).step U (oC hfr).mem), ?_⟩
    · (try dsimp only); omega
    try dsimp only
    have hTs := OTs.app (((c5.evo0 J).evo0 B).evo U (qK hfr)) (OTs.single d6)
    refine ⟨⟨(U.blk (B.blk0 (J.blk0 H.blk)) F.nmem), (((H.own.evo0 J).evo0 B).evo U b9.own), H.ne⟩, c0, ?_, (by show s.size ≤ f' + (i + (bH s i).2); omega), ⟨_, c7, hTs⟩, hFr9, ?_, c1⟩
    · rw [heq]; exact RH hii
    · show (l ++ [mA st.now (bH s i).1]).length + (st.pos + 2) ≤ i + (bH s i).2; rw [List.length_append]; simp; omega
   refine cN (bL (bL (cM (aC ?_)))); refine csr (aB (aA (aF rfl) (wfl rfl bF rfl aT A.blk rfl (aB ?_)))); refine aA (aK rfl rfl (by omega) (by omega)) ?_; refine aA (aF rfl) (aA (aD rfl bF) ?_); refine bB rfl rfl (by first | rfl | assumption) bY A.blk rfl fun f5 c8 V => ?_
   try simp only [cH, Nat.reduceAdd] at c8
   refine wnn (csr (aB (wan (aH (br1 ?_))))); have hend := heq.trans (LN (by omega)); obtain rfl := qZ hown hts; have h69 : sb s k = 92 ∧ sb s (k + 1) = 69 := NA hk
   obtain rfl : i = k := by omega
   have hb2 : Bd s (i + 1) := isB.asc (b := 92) ⟨by omega, h69.1⟩ (by decide) hbi; have hb3 : Bd s (i + 2) := isB.asc (b := 69) ⟨by omega, h69.2⟩ (by decide) hb2
   exact ⟨l, gT st (i + 2), (pq_some hk).trans (by rw [hend]; rfl), ⟨_, _, _, _, _, rfl, (hown.evo V F.symm.own1), (hts.evo V (MG hfr hbw)), hfr⟩, (b8.step V (fun y hy => .inl hy)), ⟨c8, (A.own.evo V A.ap.symm.own1), A.ne⟩, rfl, rfl, (by show st.pos + 2 ≤ i + 2; omega), hb3, (by show l.length + st.pos ≤ i + 2; omega)⟩
  refine aM (aC (csr (wan (aI (bJ ?_)))))
  refine dA (α := QuG) (⟨s.size, st.pos + 2, 0, [], none, 0, none, []⟩) (fun x => [(6, .slice x.qa x.n x.qc)]) [(0, _), (2, _), (3, _), (4, _)] (fun x wr => Evo [b] w wr ∧ (QuI w wr b s st a c ob s.size (st.pos + 2) x)) (fun x => x.f) ⟨rfl, trivial⟩ ⟨rfl, rfl, rfl, rfl, trivial⟩ ⟨(b4.then O), ⟨⟨a0, b7, hR.ne⟩, hb, rfl, Nat.le_add_right _ _, ⟨[], OwnS.nil _ _ _, OTs.nil _⟩, Fr.nil _, (by show 0 + (st.pos + 2) ≤ st.pos + 2; omega), (by show st.pos + 2 ≤ _; omega)⟩⟩ ?_
  rintro ⟨f, i, n, l, qa, qc, qo, bs⟩ wr73 ⟨c9, ⟨A, hbi, heq, hfi, ⟨cs, hown, hts⟩, hfr, hlen, hie⟩⟩; show CW _ _ _ _ [(6, .slice qa n qc), (0, _), (2, _), (3, _), (4, _)] _
  try dsimp only at A hbi heq hfi cs hown hts hfr hlen hie
  have hpi : (gT st i).pos = i := rfl; have hil := hbi.le; have b9 : Apart ob qo := jR how (oC hfr); have F : Apart (some b) qo := jR hbw (oC hfr); refine aI (csr (aB (aA (aF rfl) (wfl rfl bF rfl aT A.blk rfl (aB (aA (cU rfl rfl) ?_)))))); refine wnn (aW rfl (fun a3 => ?_) (fun a3 => ?_))
  ·have hii : i < s.size := by omega
   have hsz2 := (hb.size).le; obtain ⟨d8, d9, c0, hr0, hr1⟩ := hbi.next (by omega); have c1 := NP hbi hii (hb.size); obtain ⟨f', rfl⟩ : ∃ f', f = f' + 1 := ⟨f - 1, by omega⟩; have hql := oK hown hts; refine aM (aC (bJ (aG (aB (aB (aB ?_)))))); refine aL (vs := [_]) qF rfl (wF ⟨A.blk, A.own, A.ne⟩ (by omega) hbi) rfl ?_; rintro _ f6 ⟨rfl, a6, H⟩; have d0 := c9.step a6 (fun y hy => .inl hy); have d1 := hown.evo a6 ((by first | exact F.symm.own1 | exact F.symm.nmem1)); have d2 := hts.evo a6 (MG hfr hbw); refine aL (vs := [_, _]) qE rfl (CO H (bH s i).1 hr0 hr1) rfl ?_; rintro rv e1 ⟨hT, L⟩; have hcall9 := L; have c6 := d0; have hl1 := oK d1 d2; have hql2 : ∀ q, q ∈ qo.toList → q < _ := fun q hq => hl1 q (List.mem_append_left _ hq); obtain ⟨vs, bx, rfl, hOT, hFx⟩ := hT; obtain ⟨ra, rc, ka, kc, rfl⟩ := id hOT.nine; refine bM (vs := [_]) rfl cT rfl rfl rfl rfl fun f7 f8 d7 e3 D => ?_; have a5 := (hOT.evo0 D); have hVV := ((Evo.refl [] e1).then D)
   refine cZ rfl rfl rfl rfl mU ((d1.evo0 L).evo0 D) (Src.ofOwn d7 ⟨by first | rfl | assumption, by first | rfl | assumption, by first | rfl | assumption, by first | rfl | assumption, by first | rfl | assumption, by first | rfl | assumption, by first | rfl | assumption, by first | rfl | assumption, by first | rfl | assumption, trivial⟩) (by have := qZ hown hts; omega) fun a2 c2 e4 ob2 c7 I hob110 => ?_
   have d3 := (hOT.evo0 D).evo I (fun q hq h => by have h8 := hFx.ge q hq; have h9 := hql2 q h; omega)
   have hob2 := hob110; have hFr9 := Fr.grow hfr hl1 hFx (OT.lt a5) c6.size (Nat.le_trans hcall9.size hVV.size) hob2; refine bX (aQ (aP (bA ?_))); refine ⟨⟨f', i + (bH s i).2, n + 1, l ++ [mA st.now (bH s i).1], a2, c2, ob2, bs ++ bx⟩, ?_, ⟨rfl, trivial⟩, ⟨rfl, rfl, rfl, rfl, trivial⟩, (((d0.then L).then D).step I (oC hfr).mem), ?_⟩
   · (try dsimp only); omega
   try dsimp only
   have hTs := OTs.app (((d2.evo0 L).evo0 D).evo I (qK hfr)) (OTs.single d3)
   refine ⟨⟨(I.blk (D.blk0 (L.blk0 H.blk)) F.nmem), (((H.own.evo0 L).evo0 D).evo I b9.own), H.ne⟩, c0, ?_, (by show s.size ≤ f' + (i + (bH s i).2); omega), ⟨_, c7, hTs⟩, hFr9, ?_, c1⟩
   · rw [heq]; exact RH hii
   · show (l ++ [mA st.now (bH s i).1]).length + (st.pos + 2) ≤ i + (bH s i).2; rw [List.length_append]; simp; omega
  refine cN (bL (bL (cM (aC ?_)))); refine csr (aB (aA (aF rfl) (wfl rfl bF rfl aT A.blk rfl (aB ?_)))); refine aA (aK rfl rfl (by omega) (by omega)) ?_; refine aA (aF rfl) (aA (aD rfl bF) ?_); refine bB rfl rfl (by first | rfl | assumption) bY A.blk rfl fun e5 a7 M => ?_
  try simp only [cH, Nat.reduceAdd] at a7
  refine wnn (csr (aB (wan (aH (br1 ?_))))); have hend := heq.trans (LN (by omega)); obtain rfl := qZ hown hts
  exact ⟨l, gT st (i), (pq_none (UD a1)).trans (by rw [hend]; rfl), ⟨_, _, _, _, _, rfl, (hown.evo M F.symm.own1), (hts.evo M (MG hfr hbw)), hfr⟩, (c9.step M (fun y hy => .inl hy)), ⟨a7, (A.own.evo M A.ap.symm.own1), A.ne⟩, rfl, rfl, (by show st.pos + 2 ≤ i; omega), hbi, (by show l.length + st.pos ≤ i; omega)⟩
theorem KC : dY Try.prog 58 := ⟨_, Try.func58, by kernel_rfl, by kernel_rfl⟩
section
variable {s : ByteArray} {st : PS} {S : Int → Prop} {v j : Nat} {e : Int}
theorem es_end (h : s.size ≤ st.pos + 1) : fN s st = .error 83 := by unfold fN; rw [if_pos h]
theorem es_A (h : ¬ s.size ≤ st.pos + 1) (c : sb s (st.pos + 1) = 65) : fN s st = .ok ([rxK 8], gT st (st.pos + 2)) := by unfold fN; rw [if_neg h, if_pos c]; rfl
theorem es_z (h : ¬ s.size ≤ st.pos + 1) (c : sb s (st.pos + 1) = 122) : fN s st = .ok ([rxK 9], gT st (st.pos + 2)) := by unfold fN; rw [if_neg h, if_neg (by omega), if_pos c]; rfl
theorem es_b (h : ¬ s.size ≤ st.pos + 1) (c : sb s (st.pos + 1) = 98) : fN s st = .ok ([rxK 12], gT st (st.pos + 2)) := by unfold fN; rw [if_neg h, if_neg (by omega), if_neg (by omega), if_pos c]; rfl
theorem es_B (h : ¬ s.size ≤ st.pos + 1) (c : sb s (st.pos + 1) = 66) : fN s st = .ok ([rxK 13], gT st (st.pos + 2)) := by unfold fN; rw [if_neg h, if_neg (by omega), if_neg (by omega), if_neg (by omega), if_pos c]; rfl
theorem es_Q (h : ¬ s.size ≤ st.pos + 1) (c : sb s (st.pos + 1) = 81) : fN s st = nG s st := by unfold fN; rw [if_neg h, if_neg (by omega), if_neg (by omega), if_neg (by omega), if_neg (by omega), if_pos c]
theorem es_rest (h : ¬ s.size ≤ st.pos + 1) (c1 : ¬ sb s (st.pos + 1) = 65) (c2 : ¬ sb s (st.pos + 1) = 122) (c3 : ¬ sb s (st.pos + 1) = 98) (c4 : ¬ sb s (st.pos + 1) = 66) (c5 : ¬ sb s (st.pos + 1) = 81) : fN s st = (match vY (sb s (st.pos + 1)) with
    | some S => .ok ([iZ S], { st with pos := st.pos + 2 })
    | none => match nT s st.pos with
      | .error e => .error e
      | .ok (v, j) => .ok ([mA st.now v], { st with pos := j })) := by unfold fN; rw [if_neg h, if_neg c1, if_neg c2, if_neg c3, if_neg c4, if_neg c5]; rfl
end
theorem KOut.older {w w1 w' : World} {v : Value} {l : List Rx} (h : KOut w1 w' v l) (hw : w.heap.size ≤ w1.heap.size) : KOut w w' v l := by
  obtain ⟨a, c, o, cs, bs, h1, h2, h3, h4⟩ := h
  exact ⟨a, c, o, cs, bs, h1, h2, h3, h4.older hw⟩
theorem MP {c : Nat} {S : Int → Prop} (h : vY c = some S) : c < 128 := by
  rcases Nat.lt_or_ge c 128 with h1 | h1
  · exact h1
  · rw [uV (by omega)] at h; cases h
theorem PG {w : World} {b : Nat} {s : ByteArray} {st : PS} {a : Option Addr} {c : Nat} {ob : Option Nat} (hR : RdAt w b s st a c ob) (hs : s.size ≤ 10000) (hlt : st.pos < s.size) (h92 : sb s st.pos = 92) (hb : Bd s st.pos) (hG : Glb w) :
    Calls Try.prog 45 #[.pointer (some ⟨b, 0, none⟩)] w (RetP (fun v w' => ∃ l st', fN s st = .ok (l, st') ∧ KOut w w' v l ∧ Evo [b] w w' ∧ RdAt w' b s st' a c ob ∧ st'.opn = st.opn ∧ st'.names = st.names ∧ st.pos < st'.pos ∧ Bd s st'.pos ∧ l.length + st.pos ≤ st'.pos) (fun v w' => ∃ e, fN s st = .error e ∧ v = flt e ∧ Evo [b] w w')) := by
  have hap := hR.ap; have hgb : nU ∉ [b] := fun h => hR.glb hG (List.mem_singleton.1 h).symm; have hb1 := (hb.asc hlt (by omega)).1; have hb9 := iY s (st.pos + 1); refine bE (N := 98) Try.func45 rfl rfl rfl ?_; refine csr (wan (aI (aI ?_))); refine eH (by kernel_rfl) (by kernel_rfl) ?_; refine bD (fun _ A => aX rfl) ?_; refine bD (fun _ A => aF rfl) ?_; refine bD (fun _ A => aD rfl bF) ?_; refine bD (fun _ A => aS rfl aT (aY (A.blk0 hR.blk) rfl)) ?_; refine bD (fun _ A => aK rfl rfl (by omega) (by omega)) ?_; refine bD (fun _ A => aX rfl) ?_; refine bD (fun _ A => aF rfl) ?_; refine bD (fun _ A => aD rfl cV) ?_; refine bD (fun _ A => aS rfl dC (aY (A.blk0 hR.blk) rfl)) ?_; refine bD (fun _ A => bR rfl Try.underlying9 rfl) ?_; refine bD (fun _ A => lL rfl rfl) ?_; refine eL (fun i1 A => aC ?_); have e4 := (Evo.refl [b] w).then A; have b4 := A.blk0 hR.blk; refine aW rfl (fun e6 => ?_) (fun e6 => ?_)
  ·refine aG (cB (vs := [_]) cQ rfl (eB 83) rfl ?_ ?_)
   ·intro pv wp hpp; obtain ⟨rfl, hpw⟩ := hpp; exact And.intro rfl ⟨_, rfl, _, es_end (by omega), rfl, (e4).then hpw⟩
   intro _ _ hF; exact hF.elim
  have hle2 : ¬ s.size ≤ st.pos + 1 := by omega
  refine aM (aC (aI (aI ?_))); refine eH (by kernel_rfl) (by kernel_rfl) ?_; refine bD (fun _ B => aX rfl) ?_; refine bD (fun _ B => aF rfl) ?_; refine bD (fun _ B => aD rfl cV) ?_; refine bD (fun _ B => aS rfl dC (aY (B.blk0 b4) rfl)) ?_; refine bD (fun _ B => aX rfl) ?_; refine bD (fun _ B => aF rfl) ?_; refine bD (fun _ B => aD rfl bF) ?_; refine bD (fun _ B => aS rfl aT (aY (B.blk0 b4) rfl)) ?_; refine bD (fun _ B => aK rfl rfl (by omega) (by omega)) ?_; refine bD (fun _ B => eE (n := st.pos + 1) rfl rfl Try.underlying9 rfl (by omega)) ?_; refine bD (fun _ B => eG rfl) ?_; refine eL (fun i2 B => aC ?_); have F := e4.then B; have D := B.blk0 b4; have H := (hR.own.evo0 A).evo0 B; refine csr (aB (wnn (bJ (csr (wel ?_))))); refine wan (aW rfl (fun e7 => ?_) (fun e7 => ?_))
  ·refine csr (aB (aA (aF rfl) (wfl rfl bF rfl aT D rfl ?_))); refine aA (aK rfl rfl (by omega) (by omega)) ?_; refine aA (aF rfl) (aA (aD rfl bF) ?_); refine bB rfl rfl (by first | rfl | assumption) bY D rfl fun i3 b5 b6 => ?_; have b7 := F.step b6 (fun y hy => .inl hy)
   try simp only [cH, Nat.reduceAdd] at b5
   refine wnn (csr (aA (cC (vs := [(0, _)]) dI rfl (cells := [_, _, _, _, _, _, _, _, _]) rfl) ?_)); refine bM (vs := [_]) rfl cT rfl rfl rfl rfl fun i4 i5 e8 e9 a2 => ?_; have b8 := b7.then a2; have f0 := a2.blk0 b5; have f5 := (H.evo b6 hap.symm.own1).evo0 a2; refine wan (aH (aN (aE (cE (br1 ?_)))))
   exact ⟨_, _, es_A hle2 (by omega), gW e8 (pW 8 _) (Fr.nil _) ((Ge.new b7 e9) _ rfl) b8 (fun b hb => by cases hb) (Nat.le_refl _), b8, ⟨f0, f5, hR.ne⟩, rfl, rfl, (by show st.pos < st.pos + 2; omega), (hb1.asc (by omega) (by omega)).1, (by show 1 + st.pos ≤ st.pos + 2; omega)⟩
  refine csr (wel ?_); refine wan (aW rfl (fun f6 => ?_) (fun f6 => ?_))
  ·refine csr (aB (aA (aF rfl) (wfl rfl bF rfl aT D rfl ?_))); refine aA (aK rfl rfl (by omega) (by omega)) ?_; refine aA (aF rfl) (aA (aD rfl bF) ?_); refine bB rfl rfl (by first | rfl | assumption) bY D rfl fun i6 b9 c0 => ?_; have c2 := F.step c0 (fun y hy => .inl hy)
   try simp only [cH, Nat.reduceAdd] at b9
   refine wnn (csr (aA (cC (vs := [(0, _)]) dI rfl (cells := [_, _, _, _, _, _, _, _, _]) rfl) ?_)); refine bM (vs := [_]) rfl cT rfl rfl rfl rfl fun i7 i8 f7 f8 a3 => ?_; have c3 := c2.then a3; have f9 := a3.blk0 b9; have g0 := (H.evo c0 hap.symm.own1).evo0 a3; refine wan (aH (aN (aE (cE (br1 ?_)))))
   exact ⟨_, _, es_z hle2 (by omega), gW f7 (pW 9 _) (Fr.nil _) ((Ge.new c2 f8) _ rfl) c3 (fun b hb => by cases hb) (Nat.le_refl _), c3, ⟨f9, g0, hR.ne⟩, rfl, rfl, (by show st.pos < st.pos + 2; omega), (hb1.asc (by omega) (by omega)).1, (by show 1 + st.pos ≤ st.pos + 2; omega)⟩
  refine csr (wel ?_); refine wan (aW rfl (fun g1 => ?_) (fun g1 => ?_))
  ·refine csr (aB (aA (aF rfl) (wfl rfl bF rfl aT D rfl ?_))); refine aA (aK rfl rfl (by omega) (by omega)) ?_; refine aA (aF rfl) (aA (aD rfl bF) ?_); refine bB rfl rfl (by first | rfl | assumption) bY D rfl fun i9 c4 c5 => ?_; have c6 := F.step c5 (fun y hy => .inl hy)
   try simp only [cH, Nat.reduceAdd] at c4
   refine wnn (csr (aA (cC (vs := [(0, _)]) dI rfl (cells := [_, _, _, _, _, _, _, _, _]) rfl) ?_)); refine bM (vs := [_]) rfl cT rfl rfl rfl rfl fun j0 j1 g2 g3 a4 => ?_; have c7 := c6.then a4; have g4 := a4.blk0 c4; have g5 := (H.evo c5 hap.symm.own1).evo0 a4; refine wan (aH (aN (aE (cE (br1 ?_)))))
   exact ⟨_, _, es_b hle2 (by omega), gW g2 (pW 12 _) (Fr.nil _) ((Ge.new c6 g3) _ rfl) c7 (fun b hb => by cases hb) (Nat.le_refl _), c7, ⟨g4, g5, hR.ne⟩, rfl, rfl, (by show st.pos < st.pos + 2; omega), (hb1.asc (by omega) (by omega)).1, (by show 1 + st.pos ≤ st.pos + 2; omega)⟩
  refine csr (wel ?_); refine wan (aW rfl (fun g6 => ?_) (fun g6 => ?_))
  ·refine csr (aB (aA (aF rfl) (wfl rfl bF rfl aT D rfl ?_))); refine aA (aK rfl rfl (by omega) (by omega)) ?_; refine aA (aF rfl) (aA (aD rfl bF) ?_); refine bB rfl rfl (by first | rfl | assumption) bY D rfl fun j2 c8 c9 => ?_; have d0 := F.step c9 (fun y hy => .inl hy)
   try simp only [cH, Nat.reduceAdd] at c8
   refine wnn (csr (aA (cC (vs := [(0, _)]) dI rfl (cells := [_, _, _, _, _, _, _, _, _]) rfl) ?_)); refine bM (vs := [_]) rfl cT rfl rfl rfl rfl fun j3 j4 g7 g8 a5 => ?_; have d1 := d0.then a5; have g9 := a5.blk0 c8; have h0 := (H.evo c9 hap.symm.own1).evo0 a5; refine wan (aH (aN (aE (cE (br1 ?_)))))
   exact ⟨_, _, es_B hle2 (by omega), gW g7 (pW 13 _) (Fr.nil _) ((Ge.new d0 g8) _ rfl) d1 (fun b hb => by cases hb) (Nat.le_refl _), d1, ⟨g9, h0, hR.ne⟩, rfl, rfl, (by show st.pos < st.pos + 2; omega), (hb1.asc (by omega) (by omega)).1, (by show 1 + st.pos ≤ st.pos + 2; omega)⟩
  refine csr (wel ?_); refine wan (aW rfl (fun h1 => ?_) (fun h1 => ?_))
  ·refine csr (aB ?_)
   refine aL (vs := [_]) KC rfl (BX ⟨D, H, hR.ne⟩ hs (by have := hb1.asc (by omega) (by omega); exact this.1) (hG.evo F hgb)) rfl ?_
   rintro rv j5 ⟨l, st', hq, hK, h2, h5, ho, hnm, hp, hbd, hll⟩; have L := F; refine wan (aH (aN (aE (cE (br1 ?_))))); exact ⟨_, _, (es_Q hle2 (by omega)).trans hq, hK.older L.size, (F.step h2 (fun y hy => .inl hy)), h5, ho, hnm, by omega, hbd, hll⟩
  have hrest := es_rest hle2 (by omega) (by omega) (by omega) (by omega) (by omega); refine csr (aB (aL (vs := [_]) yX rfl (uB (sb s (st.pos + 1)) hb9) rfl ?_)); rintro rv j6 ⟨hL, O⟩; obtain ⟨a1, c1, ob1, l1, rfl, h6, hg1, hv1, hl1, h7⟩ := hL.uni; have a6 := F.then O; have a7 := O.blk0 D; refine aB (aA (bN rfl rfl) ?_); refine aA (bN rfl rfl) ?_; refine bX (wan (csr (aB (wnn (fG rfl (fun U => ?_) (fun U => ?_))))))
  ·obtain ⟨S1, hS1'⟩ := BS U; refine csr (aB (aA (aF rfl) (wfl rfl bF rfl aT a7 rfl ?_))); refine aA (aK rfl rfl (by omega) (by omega)) ?_; refine aA (aF rfl) (aA (aD rfl bF) ?_); refine bB rfl rfl (by first | rfl | assumption) bY a7 rfl fun j7 d2 a8 => ?_; have d3 := a6.step a8 (fun y hy => .inl hy)
   try simp only [cH, Nat.reduceAdd] at d2
   refine wnn (csr (aB ?_)); refine aL (vs := [_]) iQ rfl (mR (h6.evo a8 (Apart.fresh (Lt.blk D) hg1).symm.own1) hv1 (by omega) (h7 S1 hS1')) rfl ?_; rintro rv e5 ⟨hT, V⟩; have hcall9 := V; have L := d3; obtain ⟨vs, bx, rfl, hOT, hFx⟩ := hT; obtain ⟨ra, rc, ka, kc, rfl⟩ := id hOT.nine; refine bM (vs := [_]) rfl cT rfl rfl rfl rfl fun j8 j9 h3 h4 a0 => ?_; have d5 := (d3.then V).then a0; have d6 := a0.blk0 (V.blk0 d2); have d7 := (((H.evo0 O).evo a8 hap.symm.own1).evo0 V).evo0 a0; refine wan (aH (aN (aE (cE (br1 ?_)))))
   exact ⟨[iZ S1], gT st (st.pos + 2), hrest.trans (by rw [hS1']; rfl), gW h3 hOT (hFx.older L.size) ((Ge.new (Evo.refl ([]) e5) h4) _ rfl) ((Evo.refl ([]) e5).then a0) (fun b hb h => by cases h) (Nat.le_trans L.size hcall9.size), d5, ⟨d6, d7, hR.ne⟩, rfl, rfl, (by show st.pos < st.pos + 2; omega), (hb1.asc (by omega) (MP hS1')).1, (by show 1 + st.pos ≤ st.pos + 2; omega)⟩
  refine aM (aP (aC (csr (aB (aB ?_))))); refine cB (vs := [_]) yW rfl (yD ⟨a7, (H.evo0 O), hR.ne⟩ (by omega) hlt) rfl ?_ ?_
  ·intro pv wp hpp; obtain ⟨hpe, rfl, hpw⟩ := hpp; exact And.intro rfl ⟨_, rfl, _, hrest.trans (by rw [xL U, hpe]), rfl, (a6).step hpw (fun y hy => .inl hy)⟩
  rintro _ h8 ⟨n, j, hx, rfl, d8, M⟩; have a9 := a6.step d8 (fun y hy => .inl hy); obtain ⟨hbj, hij, k0⟩ := IE hx hb h92; have hjl := hbj.le; refine aL (vs := [_, _]) qE rfl (CO (st := gT st j) ⟨M.blk, M.own, M.ne⟩ ((n : Nat) : Int) (by omega) (by omega)) rfl ?_; rintro rv d4 ⟨hT, I⟩; have hcall9 := I; have L := a9; obtain ⟨vs, bx, rfl, hOT, hFx⟩ := hT; obtain ⟨ra, rc, ka, kc, rfl⟩ := id hOT.nine; refine bM (vs := [_]) rfl cT rfl rfl rfl rfl fun k1 h9 d9 e0 J => ?_; have e1 := (a9.then I).then J; have e2 := J.blk0 (I.blk0 M.blk); have e3 := (M.own.evo0 I).evo0 J; refine wan (aH (cE (br1 ?_)))
  exact ⟨[mA st.now ((n : Nat) : Int)], gT st j, hrest.trans (by rw [xL U, hx]; rfl), gW d9 hOT (hFx.older L.size) ((Ge.new (Evo.refl ([]) d4) e0) _ rfl) ((Evo.refl ([]) d4).then J) (fun b hb h => by cases h) (Nat.le_trans L.size hcall9.size), e1, ⟨e2, e3, M.ne⟩, rfl, rfl, hij, hbj, (by show 1 + st.pos ≤ j; omega)⟩
end Go.Proofs.Ytidpigbinpaaeaa
namespace Go.Proofs.Ytidpigbinpaaeaa
open Go.RowKit Go.W
theorem xF {s : ByteArray} : ∀ {f j : Nat}, j ≤ gU s f j
  | 0, j => Nat.le_refl _
  | f + 1, j => by
    rw [gU]
    split
    · exact Nat.le_trans (Nat.le_succ j) xF
    · exact Nat.le_refl _
theorem SC {s : ByteArray} {i : Nat} : ∀ {f j : Nat} {b m : Bool} {n : Int} {fl : Fl}, (gO s i f j b n m fl).err = 0 → ∃ k, j ≤ k ∧ k < s.size ∧ (sb s k = 58 ∨ sb s k = 41) ∧ (gO s i f j b n m fl).size = k + 1 - i ∧ (gO s i f j b n m fl).name = emp
  | 0, j, b, m, n, fl, h => absurd h (show ¬ (84 : Int) = 0 by omega)
  | f + 1, j, b, m, n, fl, h => by
    have step : ∀ {b' m' : Bool} {n' : Int} {fl' : Fl}, gO s i (f + 1) j b n m fl = gO s i f (j + 1) b' n' m' fl' → ∃ k, j ≤ k ∧ k < s.size ∧ (sb s k = 58 ∨ sb s k = 41) ∧ (gO s i (f + 1) j b n m fl).size = k + 1 - i ∧ (gO s i (f + 1) j b n m fl).name = emp := by
      intro b' m' n' fl' e
      rw [e] at h ⊢
      obtain ⟨k, h1, h2⟩ := SC h
      exact ⟨k, by omega, h2⟩
    have no : ∀ {fl' : Fl}, gO s i (f + 1) j b n m fl = ⟨0, emp, fl', false, false, 84⟩ → False := fun e => by rw [e] at h; exact absurd h (show ¬ (84 : Int) = 0 by omega)
    by_cases h0 : s.size ≤ j
    · exact (no (HY h0)).elim
    · by_cases h1 : sb s j = 105
      · exact step (ps_i (by omega) h1)
      · by_cases h2 : sb s j = 109
        · exact step (ps_m (by omega) h2)
        · by_cases h3 : sb s j = 115
          · exact step (ps_s (by omega) h3)
          · by_cases h4 : sb s j = 85
            · exact step (ps_u (by omega) h4)
            · by_cases h5 : sb s j = 45
              · cases m with
                | true => exact (no (RJ (by omega) h5)).elim
                | false => exact step (RL (by omega) h5)
              · by_cases h6 : sb s j = 58 ∨ sb s j = 41
                · have e := OD (i := i) (f := f) (b := b) (n := n) (m := m) (fl := fl) (show j < s.size by omega) h6
                  rw [e]
                  exact ⟨j, Nat.le_refl _, by omega, h6, rfl, rfl⟩
                · exact (no (RI (by omega) h1 h2 h3 h4 h5 h6)).elim
theorem LU {s : ByteArray} {i h : Nat} {fl : Fl} (he : (nH s i h fl).err = 0) : ∃ k, i + h ≤ k ∧ isB s k 62 ∧ (nH s i h fl).size = k + 1 - i ∧ (nH s i h fl).name.size ≤ s.size := by
  have hge : i + h ≤ gU s s.size (i + h) := xF
  generalize e : gU s s.size (i + h) = j at hge
  by_cases hc : j = i + h ∨ ¬ isB s j 62
  · rw [kD e hc] at he
    exact absurd he (show ¬ (85 : Int) = 0 by omega)
  · rw [oV e hc]
    have hj : isB s j 62 := Classical.not_not.1 (fun h => hc (.inr h))
    refine ⟨j, hge, hj, rfl, ?_⟩
    show (s.extract (i + h) j).size ≤ _
    rw [fB (by have := hj.1; omega)]
    have := hj.1; omega
theorem BZ {s : ByteArray} {i : Nat} {fl : Fl} (hb : Bd s i) (h40 : isB s i 40) (he : (eX s i fl).err = 0) : 1 ≤ (eX s i fl).size ∧ Bd s (i + (eX s i fl).size) ∧ (eX s i fl).name.size ≤ s.size := by
  have h1 := h40.asc (by decide) hb
  by_cases h : isB s i 40 ∧ isB s (i + 1) 63
  · by_cases ha : isB s (i + 2) 80 ∧ isB s (i + 3) 60
    · have e : eX s i fl = nH s i 4 fl := by unfold eX; rw [if_neg (fun h9 => h9 h), if_pos ha]
      rw [e] at he ⊢
      obtain ⟨k, h2, h3, h4, h5⟩ := LU he
      have h6 : Bd s (k + 1) := h3.asc (by decide) (mZ hb (by omega) h3.1 (by rw [h3.2]; decide))
      exact ⟨by omega, by rw [h4, show i + (k + 1 - i) = k + 1 by omega]; exact h6, h5⟩
    · by_cases hc : isB s (i + 2) 60
      · have e : eX s i fl = nH s i 3 fl := by unfold eX; rw [if_neg (fun h9 => h9 h), if_neg ha, if_pos hc]
        rw [e] at he ⊢
        obtain ⟨k, h2, h3, h4, h5⟩ := LU he
        have h6 : Bd s (k + 1) := h3.asc (by decide) (mZ hb (by omega) h3.1 (by rw [h3.2]; decide))
        exact ⟨by omega, by rw [h4, show i + (k + 1 - i) = k + 1 by omega]; exact h6, h5⟩
      · by_cases hd : isB s (i + 2) 58
        · have e : eX s i fl = ⟨3, emp, fl, false, false, 0⟩ := by unfold eX; rw [if_neg (fun h9 => h9 h), if_neg ha, if_neg hc, if_pos hd]
          rw [e]
          exact ⟨by show 1 ≤ 3; omega, hd.asc (by decide) (h.2.asc (by decide) h1), Nat.zero_le _⟩
        · have e : eX s i fl = gO s i s.size (i + 2) true 0 false fl := by unfold eX; rw [if_neg (fun h9 => h9 h), if_neg ha, if_neg hc, if_neg hd]
          rw [e] at he ⊢
          obtain ⟨k, h2, h3, h4, h5, h6⟩ := SC he
          have h7 : Bd s (k + 1) := ((mZ hb (by omega) h3 (by omega)).asc h3 (by omega)).1
          exact ⟨by omega, by rw [h5, show i + (k + 1 - i) = k + 1 by omega]; exact h7, by rw [h6]; exact Nat.zero_le _⟩
  · have e : eX s i fl = ⟨1, emp, fl, true, false, 0⟩ := xJ h
    rw [e]
    exact ⟨Nat.le_refl _, h1, Nat.zero_le _⟩
theorem pOpen_e {s : ByteArray} {i : Nat} {fl : Fl} : (eX s i fl).size ≤ s.size + 3 := by
  have hn : ∀ h, (nH s i h fl).size ≤ s.size + 3 := fun h => by
    by_cases hc : gU s s.size (i + h) = i + h ∨ ¬ isB s (gU s s.size (i + h)) 62
    · rw [kD rfl hc]; exact Nat.zero_le _
    · rw [oV rfl hc]
      have hj : isB s (gU s s.size (i + h)) 62 := Classical.not_not.1 (fun h => hc (.inr h))
      have := hj.1
      show gU s s.size (i + h) + 1 - i ≤ _
      omega
  have hs : ∀ {f j : Nat} {b m : Bool} {n : Int} {fl : Fl}, (gO s i f j b n m fl).size ≤ s.size + 3 := by
    intro f
    induction f with
    | zero => intro j b m n fl; exact Nat.zero_le _
    | succ f ih =>
      intro j b m n fl
      by_cases h0 : s.size ≤ j
      · rw [HY h0]; exact Nat.zero_le _
      · by_cases h1 : sb s j = 105
        · rw [ps_i (by omega) h1]; exact ih
        · by_cases h2 : sb s j = 109
          · rw [ps_m (by omega) h2]; exact ih
          · by_cases h3 : sb s j = 115
            · rw [ps_s (by omega) h3]; exact ih
            · by_cases h4 : sb s j = 85
              · rw [ps_u (by omega) h4]; exact ih
              · by_cases h5 : sb s j = 45
                · cases m with
                  | true => rw [RJ (by omega) h5]; exact Nat.zero_le _
                  | false => rw [RL (by omega) h5]; exact ih
                · by_cases h6 : sb s j = 58 ∨ sb s j = 41
                  · rw [OD (by omega) h6]; show j + 1 - i ≤ _; omega
                  · rw [RI (by omega) h1 h2 h3 h4 h5 h6]; exact Nat.zero_le _
  unfold eX
  split
  · show 1 ≤ _; omega
  · split
    · exact hn 4
    · split
      · exact hn 3
      · split
        · show 3 ≤ _; omega
        · exact hs
def NB (w : World) (o o' : Option Nat) : Prop := o' = o ∨ ∃ g, o' = some g ∧ w.heap.size ≤ g
structure Mv (s : ByteArray) (st st' : PS) : Prop where
  opn : st'.opn = st.opn
  le : st.pos ≤ st'.pos
  bd : Bd s st'.pos
  nm : st'.names.length ≤ 100
def LC (b : Nat) (s : ByteArray) (ex : PS → PX Rx) (st : PS) (ob : Option Nat) (w : World) (v : Value) (w' : World) : Prop :=
  ∃ x st', ex st = .ok (x, st') ∧ Evo (b :: ob.toList) w w' ∧ Mv s st st' ∧ ∃ a' c' ob' vs bs, v = .agg vs.toArray ∧ OT x w' vs bs ∧ Fr w bs ∧ RdAt w' b s st' a' c' ob' ∧ NB w ob ob'
def ExPan (b : Nat) {α : Type} (ex : PS → PX α) (st : PS) (ob : Option Nat) (w : World) (v : Value) (w' : World) : Prop := ∃ e, ex st = .error e ∧ v = flt e ∧ Evo (b :: ob.toList) w w'
def PcPost (b : Nat) (s : ByteArray) (pp : PS → PL) (st : PS) (ob : Option Nat) (w : World) (v : Value) (w' : World) : Prop :=
  ∃ l st', pp st = .ok (l, st') ∧ Evo (b :: ob.toList) w w' ∧ Mv s st st' ∧ st.pos < st'.pos ∧ l.length + st.pos ≤ st'.pos ∧
    ∃ a' c' ob' ka kc ko cs bs, v = .slice ka l.length kc ∧ OwnS w' 37 9 ka l.length kc cs ko ∧ OTs l w' cs bs ∧ Fr w (ko.toList ++ bs) ∧ RdAt w' b s st' a' c' ob' ∧ NB w ob ob'
def sX (b : Nat) (s : ByteArray) (ex : PS → PX Rx) (m : Nat) : Prop := ∀ {w : World} {st : PS} {a : Option Addr} {c : Nat} {ob : Option Nat}, RdAt w b s st a c ob → st.opn = m → Bd s st.pos → st.names.length ≤ 100 → Glb w → Apart (some nU) ob →
  Calls Try.prog 19 #[.pointer (some ⟨b, 0, none⟩)] w (RetP (LC b s ex st ob w) (ExPan b ex st ob w))
theorem oL {w : World} {b : Nat} {o o1 : Option Nat} (h : NB w o o1) : ∀ y, y ∈ b :: o1.toList → y ∈ b :: o.toList ∨ w.heap.size ≤ y := fun y hy => by
  rcases List.mem_cons.1 hy with rfl | hy
  · exact .inl (List.mem_cons_self ..)
  · rcases h with rfl | ⟨g, rfl, hg⟩
    · exact .inl (List.mem_cons_of_mem _ hy)
    · rw [List.mem_singleton.1 hy]; exact .inr hg
theorem NB.older {w w1 : World} {o o1 o2 : Option Nat} (h : NB w o o1) (h2 : NB w1 o1 o2) (hw : w.heap.size ≤ w1.heap.size) : NB w o o2 := by
  rcases h2 with rfl | ⟨g, rfl, hg⟩
  · exact h
  · exact .inr ⟨g, rfl, Nat.le_trans hw hg⟩
theorem xC {b : Nat} {s : ByteArray} {pp : PS → PL} {st st' : PS} {a : Option Addr} {c : Nat} {ob : Option Nat} {w w' : World} {v : Value} {l : List Rx} (hR : RdAt w b s st a c ob) (h1 : pp st = .ok (l, st')) (hK : KOut w w' v l) (he : Evo [b] w w') (hR' : RdAt w' b s st' a c ob)
    (ho : st'.opn = st.opn) (hn : st'.names = st.names) (hn2 : st.names.length ≤ 100) (hp : st.pos < st'.pos) (hb : Bd s st'.pos) (hl : l.length + st.pos ≤ st'.pos) : PcPost b s pp st ob w v w' := by
  obtain ⟨ka, kc, ko, cs, bs, rfl, h2, h3, h4⟩ := hK
  exact ⟨l, st', h1, he.mono (fun q hq => by rw [List.mem_singleton.1 hq]; simp), ⟨ho, by omega, hb, by rw [hn]; exact hn2⟩, hp, hl, a, c, ob, ka, kc, ko, cs, bs, rfl, h2, h3, h4, hR', .inl rfl⟩
theorem SA {b : Nat} {α : Type} {pp : PS → PX α} {st : PS} {ob : Option Nat} {w w' : World} {e : Int} (h : pp st = .error e) (he : Evo [b] w w') : ExPan b pp st ob w (flt e) w' := ⟨e, h, rfl, he.mono (fun q hq => by rw [List.mem_singleton.1 hq]; simp)⟩
end Go.Proofs.Ytidpigbinpaaeaa
namespace Go.Proofs.Ytidpigbinpaaeaa
open Go.RowKit Go.W
attribute [local irreducible] Decidable.decide
theorem gY : cX Try.prog 61 3 = some 6 := by kernel_rfl
theorem tN : dY Try.prog 19 := ⟨_, Try.func19, by kernel_rfl, by kernel_rfl⟩
theorem nS : dY Try.prog 53 := ⟨_, Try.func53, by kernel_rfl, by kernel_rfl⟩
theorem KD : dY Try.prog 54 := ⟨_, Try.func54, by kernel_rfl, by kernel_rfl⟩
theorem nR : mN Try.prog 59 = some #[.bool false, .bool false, .bool false, .bool false] := by kernel_rfl
structure BrG where
  b3 : Nat
  b4 : Nat
structure BrI (w wr : World) (b : Nat) (s : ByteArray) (st : PS) (a : Option Addr) (c : Nat) (ob : Option Nat) (x : BrG) : Prop where
  hr : RdAt wr b s st a c ob
  h3 : wr.heap[x.b3]? = some (.cells (opV (eX s st.pos st.now)) 108 (0, 0))
  h4 : wr.heap[x.b4]? = some (.cells #[.bool st.now.fold, .bool st.now.lines, .bool st.now.dots, .bool st.now.lazy] 59 (0, 0))
  g3 : Ge w (some x.b3)
  g4 : Ge w (some x.b4)
  a34 : Apart (some x.b3) (some x.b4)
theorem uQ {w : World} {b : Nat} {o : Opn} {T : TypeId} {z : Nat × Nat} (h : w.heap[b]? = some (.cells (opV o) T z)) : ∀ j v, ([.bool o.thn.fold, .bool o.thn.lines, .bool o.thn.dots, .bool o.thn.lazy] : List Value)[j]? = some v → w.cell? ⟨b, 2 + j, none⟩ = some v
  | 0, v, e => by cases e; exact eS h rfl
  | 1, v, e => by cases e; exact eS h rfl
  | 2, v, e => by cases e; exact eS h rfl
  | 3, v, e => by cases e; exact eS h rfl
  | j + 4, v, e => by cases e
section
variable {s : ByteArray} {ex : PS → PX Rx} {st : PS} {o : Opn} {e : Int} {x : Rx} {st2 : PS}
theorem VF (ho : eX s st.pos st.now = o) (h : o.err = 0) (h2 : o.sett = true) : pU s ex st = .ok ([], { st with pos := st.pos + o.size, now := o.thn }) := by unfold pU; rw [ho]; exact if_pos ⟨h, h2⟩
theorem br_deep (ho : eX s st.pos st.now = o) (h : ¬ (o.err = 0 ∧ o.sett = true)) (h2 : st.opn = 250) : pU s ex st = .error 3 := by unfold pU; rw [ho]; exact (if_neg h).trans (if_pos h2)
theorem br_err (ho : eX s st.pos st.now = o) (h : ¬ (o.err = 0 ∧ o.sett = true)) (h2 : ¬ st.opn = 250) (h3 : o.err ≠ 0) : pU s ex st = .error o.err := by unfold pU; rw [ho]; exact (if_neg h).trans ((if_neg h2).trans (if_pos h3))
theorem br_full (ho : eX s st.pos st.now = o) (h : ¬ (o.err = 0 ∧ o.sett = true)) (h2 : ¬ st.opn = 250) (h3 : ¬ o.err ≠ 0) (h4 : o.capt = true) (h5 : PY o.name st.names) : pU s ex st = .error 85 := by unfold pU; rw [ho]; exact (if_neg h).trans ((if_neg h2).trans ((if_neg h3).trans (if_pos ⟨h4, h5⟩)))
theorem yJ (ho : eX s st.pos st.now = o) (h : ¬ (o.err = 0 ∧ o.sett = true)) (h2 : ¬ st.opn = 250) (h3 : ¬ o.err ≠ 0) (h4 : ¬ (o.capt = true ∧ PY o.name st.names)) : pU s ex st = match ex ⟨st.pos + o.size, o.thn, st.opn + 1, if o.capt = true then st.names ++ [o.name] else st.names⟩ with
    | .error e => .error e
    | .ok (x, st2) => if isB s st2.pos 41 then
        .ok ([if o.capt = true then kC ((st.names.length : Int) + 1) o.name x else x], { st2 with pos := st2.pos + 1, opn := st2.opn - 1, now := st.now })
      else .error 80 := by unfold pU; rw [ho]; exact (if_neg h).trans ((if_neg h2).trans ((if_neg h3).trans (if_neg h4)))
end
theorem ot_grp {X : List Nat} {w w1 w2 : World} {x : Rx} {vs : List Value} {bs : List Nat} {g : Nat} {n : Int} {nm : ByteArray} (hO : OwnS w2 37 9 (some ⟨g, 0, none⟩) 1 1 vs (some g)) (hT : OT x w1 vs bs) (hF : Fr w bs) (hg : w1.heap.size ≤ g) (he : Evo X w1 w2) (hx : ∀ b, b ∈ bs → b ∉ X) (hw : w.heap.size ≤ w1.heap.size) (hn : nm.size ≤ 1000000) :
    OT (kC n nm x) w2 [iv 7, .int .i32 0, .slice none 0 0, iv 0, iv 0, .bool false, iv n, .string nm, .slice (some ⟨g, 0, none⟩) 1 1] (g :: bs) ∧ Fr w (g :: bs) := by
  refine ⟨?_, ⟨List.nodup_cons.2 ⟨fun h => ?_, hF.nd⟩, fun b hb => ?_⟩⟩
  · unfold kC
    rw [OT]
    exact ⟨none, 0, none, _, 1, some g, vs, bs, rfl, OwnS.nil _ _ _, hO, OTs.single (hT.evo he hx), rfl, by simp, hn, by simp⟩
  · have := hT.lt g h; omega
  · rcases List.mem_cons.1 hb with rfl | hb
    · omega
    · exact hF.ge b hb
theorem zO {q b : Nat} {o : Option Nat} (h1 : Apart (some q) (some b)) (h2 : Apart (some q) o) : q ∉ b :: o.toList := fun h => by
  rcases List.mem_cons.1 h with rfl | h
  · exact h1 q rfl rfl
  · exact h2 q rfl (Option.mem_toList.1 h)
theorem IU {w : World} (h : Glb w) : Lt w (some nU) := fun g e => by
  cases e
  obtain ⟨m, hm⟩ := h
  rcases Nat.lt_or_ge nU w.heap.size with h1 | h1
  · exact h1
  · have h2 : w.heap[nU]? = none := Array.getElem?_eq_none h1
    simp [World.cell?, h2] at hm
theorem UB {b : Nat} {o : Option Nat} (h1 : nU ∉ [b]) (h2 : Apart (some nU) o) : nU ∉ b :: o.toList := fun h => by
  rcases List.mem_cons.1 h with e | h
  · exact h1 (by rw [e]; simp)
  · exact h2 _ rfl (Option.mem_toList.1 h)
theorem OU {w w1 : World} {b : Nat} {bs : List Nat} (h : Fr w1 bs) (hb : Lt w (some b)) (hw : w.heap.size ≤ w1.heap.size) : ∀ q, q ∈ bs → q ∉ [b] := fun q hq hm => by
  have h1 := h.ge q hq
  have h2 := hb b rfl
  rw [List.mem_singleton.1 hm] at h1; omega
theorem JJ {ex : PS → PX Rx} {w : World} {b : Nat} {s : ByteArray} {st : PS} {a : Option Addr} {c : Nat} {ob : Option Nat} (hex : st.opn < 250 → sX b s ex (st.opn + 1)) (hR : RdAt w b s st a c ob) (hs : s.size ≤ 4096) (h40 : isB s st.pos 40) (hop : st.opn ≤ 250) (hb : Bd s st.pos) (hnl : st.names.length ≤ 100) (hG : Glb w) (hGo : Apart (some nU) ob) :
    Calls Try.prog 43 #[.pointer (some ⟨b, 0, none⟩)] w (RetP (PcPost b s (pU s ex) st ob w) (ExPan b (pU s ex) st ob w)) := by
  have hap := hR.ap; have hgb : nU ∉ [b] := fun h => hR.glb hG (List.mem_singleton.1 h).symm; have hgw := UB hgb hGo; have hbw : Lt w (some b) := Lt.blk hR.blk; have how : Lt w ob := Lt.own hR.own; refine bE (N := 100) Try.func43 rfl rfl rfl ?_; refine csr (wan (aI (mK (α := BrG) (fun x => [(3, .pointer (some ⟨x.b3, 0, none⟩)), (4, .pointer (some ⟨x.b4, 0, none⟩))]) [(0, _), (2, _)] (fun x wr => Evo (b :: ob.toList) w wr ∧ (BrI w wr b s st a c ob x)) ⟨rfl, rfl, trivial⟩ ?_ ?_)))
  ·refine fT (fun w0 w' => Evo [] w0 w') (by kernel_rfl) (fun w1 t2 => ?_); have m1 := (Evo.refl (b :: ob.toList) w).then t2; have j7 := t2.blk0 hR.blk; have k5 := hR.own.evo0 t2; refine aet 0 rfl (fun _ hS => aX rfl) (Evo.refl [] w1) ?_; refine aet 2 rfl (fun _ hS => aX rfl) (Evo.refl [] w1) ?_; refine aet 3 rfl (fun _ hS => aF rfl) (Evo.refl [] w1) ?_; refine aet 4 rfl (fun _ hS => aD rfl eJ) (Evo.refl [] w1) ?_; refine aet 5 rfl (fun _ hS => cY (o := 2) rfl lT dU (vs := [.bool st.now.fold, .bool st.now.lines, .bool st.now.dots, .bool st.now.lazy]) rfl (xX (hS.blk0 j7))) (Evo.refl [] w1) ?_; refine bV [1, 6, 7] (by kernel_rfl) rfl ⟨?_, ?_, ?_, trivial⟩
   ·refine cA rfl ?_; refine aL (vs := [_]) nS rfl (nI ⟨j7, k5, hR.ne⟩ (by omega) h40.1) rfl ?_; rintro _ w6 ⟨rfl, m8⟩; have i1 := m1.then m8; have m2 := (Evo.refl [] w1).then m8; have h0 := m8.blk0 j7; have h1 := k5.evo0 m8; refine aQ (bO (.inl m2) ?_); refine bV [6, 7] (by kernel_rfl) rfl ⟨?_, ?_, trivial⟩
    ·refine cA rfl ?_; refine cL rfl iK fun b3 D8 t4 h2 d9 => ?_; have e3 := h2; have k6 := m2.then d9; refine aQ (bO (.inl k6) ?_); refine bV [7] (by kernel_rfl) rfl ⟨?_, trivial⟩; refine cA rfl ?_; refine cL rfl nR fun b4 D9 y9 h3 h4 => ?_; have e4 := h3; have m4 := Apart.new (Lt.blk t4) h3; have t5 := Ge.new (i1.then d9) h3; refine aQ (bO (.inl (k6.then h4)) ?_); refine bV [8] (by kernel_rfl) rfl ⟨?_, trivial⟩; refine cA rfl ?_; refine aV rfl rfl bG (h4.blk0 t4) rfl rfl ⟨by first | rfl | assumption, by first | rfl | assumption, by first | rfl | assumption, by first | rfl | assumption, by first | rfl | assumption, by first | rfl | assumption, by first | rfl | assumption, by first | rfl | assumption, by first | rfl | assumption, trivial⟩ fun E0 t6 j8 => ?_; have t7 := (k6.then h4).step j8 (Ge.new m2 h2).mem1
     try simp only [cH, Nat.reduceAdd] at t6
     refine aQ (bO (.inl t7) ?_); refine bV [9] (by kernel_rfl) rfl ⟨?_, trivial⟩; refine cA rfl ?_; refine aV rfl rfl dU (j8.blk y9 m4.symm.nmem1) rfl rfl ⟨by first | rfl | assumption, by first | rfl | assumption, by first | rfl | assumption, by first | rfl | assumption, trivial⟩ fun E1 t8 j9 => ?_
     try simp only [cH, Nat.reduceAdd] at t8
     refine aQ (bO (.inl (t7.step j9 (Ge.new k6 h3).mem1)) ?_); refine dH (by kernel_rfl) (bA ?_); refine ⟨⟨b3, b4⟩, ⟨rfl, rfl, trivial⟩, ⟨rfl, rfl, trivial⟩, ((((i1.then d9).then h4).step j8 (Ge.new i1 h2).mem1).step j9 t5.mem1), ?_⟩; exact ⟨⟨(j9.blk (j8.blk (h4.blk0 (d9.blk0 h0)) (Apart.new (Lt.blk h0) h2).nmem1) (Apart.new (Lt.blk (d9.blk0 h0)) h3).nmem1), ((((h1.evo0 d9).evo0 h4).evo j8 (Apart.new (Lt.own h1) h2).own1).evo j9 (Apart.new (Lt.own (h1.evo0 d9)) h3).own1), hR.ne⟩, (j9.blk t6 m4.nmem1), t8, (Ge.new i1 h2), t5, m4⟩
    refine cA rfl ?_; refine cL rfl nR fun b4 E2 t9 h5 e0 => ?_; have e4 := h5; have k7 := m2.then e0; refine aQ (bO (.inl k7) ?_); refine bV [6] (by kernel_rfl) rfl ⟨?_, trivial⟩; refine cA rfl ?_; refine cL rfl iK fun b3 E3 z0 h6 h7 => ?_; have e3 := h6; have m5 := Apart.new (Lt.blk t9) h6; have u0 := Ge.new (i1.then e0) h6; refine aQ (bO (.inl (k7.then h7)) ?_); refine bV [8] (by kernel_rfl) rfl ⟨?_, trivial⟩; refine cA rfl ?_; refine aV rfl rfl bG z0 rfl rfl ⟨by first | rfl | assumption, by first | rfl | assumption, by first | rfl | assumption, by first | rfl | assumption, by first | rfl | assumption, by first | rfl | assumption, by first | rfl | assumption, by first | rfl | assumption, by first | rfl | assumption, trivial⟩ fun E4 u1 k0 => ?_; have u2 := (k7.then h7).step k0 (Ge.new k7 h6).mem1
    try simp only [cH, Nat.reduceAdd] at u1
    refine aQ (bO (.inl u2) ?_); refine bV [9] (by kernel_rfl) rfl ⟨?_, trivial⟩; refine cA rfl ?_; refine aV rfl rfl dU (k0.blk (h7.blk0 t9) m5.nmem1) rfl rfl ⟨by first | rfl | assumption, by first | rfl | assumption, by first | rfl | assumption, by first | rfl | assumption, trivial⟩ fun E5 u3 k1 => ?_
    try simp only [cH, Nat.reduceAdd] at u3
    refine aQ (bO (.inl (u2.step k1 (Ge.new m2 h5).mem1)) ?_); refine dH (by kernel_rfl) (bA ?_); refine ⟨⟨b3, b4⟩, ⟨rfl, rfl, trivial⟩, ⟨rfl, rfl, trivial⟩, ((((i1.then e0).then h7).step k0 u0.mem1).step k1 (Ge.new i1 h5).mem1), ?_⟩; exact ⟨⟨(k1.blk (k0.blk (h7.blk0 (e0.blk0 h0)) (Apart.new (Lt.blk (e0.blk0 h0)) h6).nmem1) (Apart.new (Lt.blk h0) h5).nmem1), ((((h1.evo0 e0).evo0 h7).evo k0 (Apart.new (Lt.own (h1.evo0 e0)) h6).own1).evo k1 (Apart.new (Lt.own h1) h5).own1), hR.ne⟩, (k1.blk u1 m5.symm.nmem1), u3, u0, (Ge.new i1 h5), m5.symm⟩
   ·refine cA rfl ?_; refine cL rfl iK fun b3 E6 k8 k2 k9 => ?_; have e3 := k2; have m9 := Apart.new (Lt.blk j7) k2; have n0 := Apart.new (Lt.own k5) k2; have i2 := Ge.new m1 k2; have n1 := Ge.new (Evo.refl [] w1) k2; have e5 := m1.then k9; have e6 := (Evo.refl [] w1).then k9; have a9 := k9.blk0 j7; have b5 := k5.evo0 k9; refine aQ (bO (.inl e6) ?_); refine bV [1, 7] (by kernel_rfl) rfl ⟨?_, ?_, trivial⟩
    ·refine cA rfl ?_; refine aL (vs := [_]) nS rfl (nI ⟨a9, b5, hR.ne⟩ (by omega) h40.1) rfl ?_; rintro _ z9 ⟨rfl, D⟩; have i3 := e6.then D; refine aQ (bO (.inl i3) ?_); refine bV [7] (by kernel_rfl) rfl ⟨?_, trivial⟩; refine cA rfl ?_; refine cL rfl nR fun b4 A0 v0 b7 b8 => ?_; have e4 := b7; have l0 := Apart.new (Lt.blk (D.blk0 k8)) b7; have n2 := Ge.new (e5.then D) b7; refine aQ (bO (.inl (i3.then b8)) ?_); refine bV [8] (by kernel_rfl) rfl ⟨?_, trivial⟩; refine cA rfl ?_; refine aV rfl rfl bG (b8.blk0 (D.blk0 k8)) rfl rfl ⟨by first | rfl | assumption, by first | rfl | assumption, by first | rfl | assumption, by first | rfl | assumption, by first | rfl | assumption, by first | rfl | assumption, by first | rfl | assumption, by first | rfl | assumption, by first | rfl | assumption, trivial⟩ fun A1 n3 e7 => ?_; have n4 := (i3.then b8).step e7 n1.mem1
     try simp only [cH, Nat.reduceAdd] at n3
     refine aQ (bO (.inl n4) ?_); refine bV [9] (by kernel_rfl) rfl ⟨?_, trivial⟩; refine cA rfl ?_; refine aV rfl rfl dU (e7.blk v0 l0.symm.nmem1) rfl rfl ⟨by first | rfl | assumption, by first | rfl | assumption, by first | rfl | assumption, by first | rfl | assumption, trivial⟩ fun A2 n5 e8 => ?_
     try simp only [cH, Nat.reduceAdd] at n5
     refine aQ (bO (.inl (n4.step e8 (Ge.new i3 b7).mem1)) ?_); refine dH (by kernel_rfl) (bA ?_); refine ⟨⟨b3, b4⟩, ⟨rfl, rfl, trivial⟩, ⟨rfl, rfl, trivial⟩, ((((e5.then D).then b8).step e7 i2.mem1).step e8 n2.mem1), ?_⟩; exact ⟨⟨(e8.blk (e7.blk (b8.blk0 (D.blk0 a9)) m9.nmem1) (Apart.new (Lt.blk (D.blk0 a9)) b7).nmem1), ((((b5.evo0 D).evo0 b8).evo e7 n0.own1).evo e8 (Apart.new (Lt.own (b5.evo0 D)) b7).own1), hR.ne⟩, (e8.blk n3 l0.nmem1), n5, i2, n2, l0⟩
    refine cA rfl ?_; refine cL rfl nR fun b4 A3 v1 a4 I => ?_; have e4 := a4; have l1 := Apart.new (Lt.blk k8) a4; refine aQ (bO (.inl (e6.then I)) ?_); refine bV [1] (by kernel_rfl) rfl ⟨?_, trivial⟩; refine cA rfl ?_; refine aL (vs := [_]) nS rfl (nI ⟨(I.blk0 a9), (b5.evo0 I), hR.ne⟩ (by omega) h40.1) rfl ?_; rintro _ A4 ⟨rfl, b9⟩; have n6 := (e6.then I).then b9; refine aQ (bO (.inl n6) ?_); refine bV [8] (by kernel_rfl) rfl ⟨?_, trivial⟩; refine cA rfl ?_; refine aV rfl rfl bG (b9.blk0 (I.blk0 k8)) rfl rfl ⟨by first | rfl | assumption, by first | rfl | assumption, by first | rfl | assumption, by first | rfl | assumption, by first | rfl | assumption, by first | rfl | assumption, by first | rfl | assumption, by first | rfl | assumption, by first | rfl | assumption, trivial⟩ fun A5 n7 f0 => ?_; have n8 := n6.step f0 n1.mem1
    try simp only [cH, Nat.reduceAdd] at n7
    refine aQ (bO (.inl n8) ?_); refine bV [9] (by kernel_rfl) rfl ⟨?_, trivial⟩; refine cA rfl ?_; refine aV rfl rfl dU (f0.blk (b9.blk0 v1) l1.symm.nmem1) rfl rfl ⟨by first | rfl | assumption, by first | rfl | assumption, by first | rfl | assumption, by first | rfl | assumption, trivial⟩ fun A6 n9 f5 => ?_
    try simp only [cH, Nat.reduceAdd] at n9
    refine aQ (bO (.inl (n8.step f5 (Ge.new e6 a4).mem1)) ?_); refine dH (by kernel_rfl) (bA ?_); refine ⟨⟨b3, b4⟩, ⟨rfl, rfl, trivial⟩, ⟨rfl, rfl, trivial⟩, ((((e5.then I).then b9).step f0 i2.mem1).step f5 (Ge.new e5 a4).mem1), ?_⟩; exact ⟨⟨(f5.blk (f0.blk (b9.blk0 (I.blk0 a9)) m9.nmem1) (Apart.new (Lt.blk a9) a4).nmem1), ((((b5.evo0 I).evo0 b9).evo f0 n0.own1).evo f5 (Apart.new (Lt.own b5) a4).own1), hR.ne⟩, (f5.blk n7 l1.nmem1), n9, i2, (Ge.new e5 a4), l1⟩
   refine cA rfl ?_; refine cL rfl nR fun b4 A7 i4 f6 i5 => ?_; have e4 := f6; have o0 := Apart.new (Lt.blk j7) f6; have o1 := Apart.new (Lt.own k5) f6; have i6 := Ge.new m1 f6; have o2 := Ge.new (Evo.refl [] w1) f6; have f7 := m1.then i5; have f8 := (Evo.refl [] w1).then i5; have c0 := i5.blk0 j7; have c1 := k5.evo0 i5; refine aQ (bO (.inl f8) ?_); refine bV [1, 6] (by kernel_rfl) rfl ⟨?_, ?_, trivial⟩
   ·refine cA rfl ?_; refine aL (vs := [_]) nS rfl (nI ⟨c0, c1, hR.ne⟩ (by omega) h40.1) rfl ?_; rintro _ A8 ⟨rfl, F⟩; have i7 := f8.then F; refine aQ (bO (.inl i7) ?_); refine bV [6] (by kernel_rfl) rfl ⟨?_, trivial⟩; refine cA rfl ?_; refine cL rfl iK fun b3 A9 v2 c4 c5 => ?_; have e3 := c4; have l2 := Apart.new (Lt.blk (F.blk0 i4)) c4; have o3 := Ge.new (f7.then F) c4; refine aQ (bO (.inl (i7.then c5)) ?_); refine bV [8] (by kernel_rfl) rfl ⟨?_, trivial⟩; refine cA rfl ?_; refine aV rfl rfl bG v2 rfl rfl ⟨by first | rfl | assumption, by first | rfl | assumption, by first | rfl | assumption, by first | rfl | assumption, by first | rfl | assumption, by first | rfl | assumption, by first | rfl | assumption, by first | rfl | assumption, by first | rfl | assumption, trivial⟩ fun B0 o4 f9 => ?_; have o5 := (i7.then c5).step f9 (Ge.new i7 c4).mem1
    try simp only [cH, Nat.reduceAdd] at o4
    refine aQ (bO (.inl o5) ?_); refine bV [9] (by kernel_rfl) rfl ⟨?_, trivial⟩; refine cA rfl ?_; refine aV rfl rfl dU (f9.blk (c5.blk0 (F.blk0 i4)) l2.nmem1) rfl rfl ⟨by first | rfl | assumption, by first | rfl | assumption, by first | rfl | assumption, by first | rfl | assumption, trivial⟩ fun B1 o6 g0 => ?_
    try simp only [cH, Nat.reduceAdd] at o6
    refine aQ (bO (.inl (o5.step g0 o2.mem1)) ?_); refine dH (by kernel_rfl) (bA ?_); refine ⟨⟨b3, b4⟩, ⟨rfl, rfl, trivial⟩, ⟨rfl, rfl, trivial⟩, ((((f7.then F).then c5).step f9 o3.mem1).step g0 i6.mem1), ?_⟩; exact ⟨⟨(g0.blk (f9.blk (c5.blk0 (F.blk0 c0)) (Apart.new (Lt.blk (F.blk0 c0)) c4).nmem1) o0.nmem1), ((((c1.evo0 F).evo0 c5).evo f9 (Apart.new (Lt.own (c1.evo0 F)) c4).own1).evo g0 o1.own1), hR.ne⟩, (g0.blk o4 l2.symm.nmem1), o6, o3, i6, l2.symm⟩
   refine cA rfl ?_; refine cL rfl iK fun b3 B2 v3 a5 J => ?_; have e3 := a5; have l3 := Apart.new (Lt.blk i4) a5; refine aQ (bO (.inl (f8.then J)) ?_); refine bV [1] (by kernel_rfl) rfl ⟨?_, trivial⟩; refine cA rfl ?_; refine aL (vs := [_]) nS rfl (nI ⟨(J.blk0 c0), (c1.evo0 J), hR.ne⟩ (by omega) h40.1) rfl ?_; rintro _ B3 ⟨rfl, c6⟩; have o7 := (f8.then J).then c6; refine aQ (bO (.inl o7) ?_); refine bV [8] (by kernel_rfl) rfl ⟨?_, trivial⟩; refine cA rfl ?_; refine aV rfl rfl bG (c6.blk0 v3) rfl rfl ⟨by first | rfl | assumption, by first | rfl | assumption, by first | rfl | assumption, by first | rfl | assumption, by first | rfl | assumption, by first | rfl | assumption, by first | rfl | assumption, by first | rfl | assumption, by first | rfl | assumption, trivial⟩ fun B4 o8 g1 => ?_; have o9 := o7.step g1 (Ge.new f8 a5).mem1
   try simp only [cH, Nat.reduceAdd] at o8
   refine aQ (bO (.inl o9) ?_); refine bV [9] (by kernel_rfl) rfl ⟨?_, trivial⟩; refine cA rfl ?_; refine aV rfl rfl dU (g1.blk (c6.blk0 (J.blk0 i4)) l3.nmem1) rfl rfl ⟨by first | rfl | assumption, by first | rfl | assumption, by first | rfl | assumption, by first | rfl | assumption, trivial⟩ fun B5 p1 g2 => ?_
   try simp only [cH, Nat.reduceAdd] at p1
   refine aQ (bO (.inl (o9.step g2 o2.mem1)) ?_); refine dH (by kernel_rfl) (bA ?_); refine ⟨⟨b3, b4⟩, ⟨rfl, rfl, trivial⟩, ⟨rfl, rfl, trivial⟩, ((((f7.then J).then c6).step g1 (Ge.new f7 a5).mem1).step g2 i6.mem1), ?_⟩; exact ⟨⟨(g2.blk (g1.blk (c6.blk0 (J.blk0 c0)) (Apart.new (Lt.blk c0) a5).nmem1) o0.nmem1), ((((c1.evo0 J).evo0 c6).evo g1 (Apart.new (Lt.own c1) a5).own1).evo g2 o1.own1), hR.ne⟩, (g2.blk o8 l3.symm.nmem1), p1, (Ge.new f7 a5), i6, l3.symm⟩
  rintro ⟨b3, b4⟩ z1 ⟨L, ⟨B, hb3, hb4, hg3, hg4, ha34⟩⟩; refine aC ?_; show CW _ _ _ _ [(3, .pointer (some ⟨b3, 0, none⟩)), (4, .pointer (some ⟨b4, 0, none⟩)), (0, _), (2, _)] _
  try dsimp only at B hb3 hb4 hg3 hg4 ha34
  have A : Apart (some b) (some b3) := jR hbw hg3; have H : Apart (some b) (some b4) := jR hbw hg4; have p2 : Apart ob (some b3) := jR how hg3; have p3 : Apart ob (some b4) := jR how hg4; have hob0 := BZ (fl := st.now) hb h40; have hoe := pOpen_e (s := s) (i := st.pos) (fl := st.now)
  generalize ho : eX s st.pos st.now = o at *
  have hbdl := hb.le; refine aI (aI (mK (α := Bool) (fun z19 => [(19, .bool z19)]) [(0, _), (2, _), (3, _), (4, _)] (fun z19 wr => z1 = wr ∧ (z19 = true ↔ (o.err = 0 ∧ o.sett = true))) ⟨rfl, rfl, rfl, rfl, trivial⟩ ?_ ?_))
  ·refine aG (wfl rfl dX rfl jO hb3 rfl (wel ?_)); refine aB (bC (t := 16) rfl (fun k3 => ?_) (fun k3 => ?_))
   ·refine aO (aA (aD rfl lB) (aO (aA (aS rfl hD (aY hb3 rfl)) (bQ (aQ (bA ?_)))))); refine ⟨_, ⟨rfl, trivial⟩, ⟨rfl, rfl, rfl, rfl, trivial⟩, rfl, ?_⟩
    first | (simp only [Bool.false_eq_true, false_iff]; exact fun h9 => k3 h9.1) | exact ⟨fun h9 => ⟨k3, h9⟩, fun h9 => h9.2⟩
   refine aJ (aJ (bK (aQ (bA ?_)))); refine ⟨_, ⟨rfl, trivial⟩, ⟨rfl, rfl, rfl, rfl, trivial⟩, rfl, ?_⟩
   first | (simp only [Bool.false_eq_true, false_iff]; exact fun h9 => k3 h9.1) | exact ⟨fun h9 => ⟨k3, h9⟩, fun h9 => h9.2⟩
  rintro z19 _ ⟨rfl, hz19⟩; refine aC ?_; show CW _ _ _ _ [(19, _), (0, _), (2, _), (3, _), (4, _)] _; refine fG rfl (fun m6 => ?_) (fun m6 => ?_)
  ·subst m6; have hj19 := hz19.1 rfl; obtain ⟨hz1, hz2, hz3⟩ := hob0 hj19.1; refine aI ?_; refine fT (fun w0 w' => Evo [b] w0 w') (by kernel_rfl) (fun M c7 => ?_); refine aet 0 rfl (fun _ hS => aX rfl) (Evo.refl [b] M) ?_; refine aet 1 rfl (fun _ hS => aF rfl) (Evo.refl [b] M) ?_; refine aet 2 rfl (fun _ hS => aD rfl bF) (Evo.refl [b] M) ?_; refine aet 4 rfl (fun _ hS => aD rfl fH) (Evo.refl [b] M) ?_; refine aet 5 rfl (fun _ hS => aS rfl aT (aY (hS.blk (c7.blk0 hb3) (A.symm.nmem1)) rfl)) (Evo.refl [b] M) ?_; refine bV [3] (by kernel_rfl) rfl ⟨?_, trivial⟩; refine cA rfl ?_; refine aA (aS rfl aT (aY (c7.blk0 B.blk) rfl)) (aQ (bO (.inl (Evo.refl [b] M)) ?_)); refine aet 6 rfl (fun _ hS => aK rfl rfl (by omega) (by omega)) (Evo.refl [b] M) ?_; refine aet 7 rfl (fun _ hS => aF rfl) (Evo.refl [b] M) ?_; refine aet 8 rfl (fun _ hS => aD rfl bF) (Evo.refl [b] M) ?_; refine bV [9] (by kernel_rfl) rfl ⟨?_, trivial⟩; refine cA rfl ?_; refine bB rfl rfl (by first | rfl | assumption) bY (c7.blk0 B.blk) rfl fun B6 p4 i8 => ?_
   have v4 := (L.then c7).step i8 (fun y hy => .inl (by rw [List.mem_singleton.1 hy]; simp))
   try simp only [cH, Nat.reduceAdd] at p4
   refine aQ (bO (.inl ((Evo.refl [b] M).step i8 (fun y hy => .inl hy))) ?_); refine dH (by kernel_rfl) (aC ?_); refine csr (aB (aA (aD rfl iS) (aA (cY (o := 2) rfl lT dU (vs := [.bool o.thn.fold, .bool o.thn.lines, .bool o.thn.dots, .bool o.thn.lazy]) rfl (uQ (i8.blk (c7.blk0 hb3) A.symm.nmem1))) ?_))); refine aA (aF rfl) (aA (aD rfl eJ) (oR (f1 := .bool o.thn.fold) (f2 := .bool o.thn.lines) (f3 := .bool o.thn.dots) (f4 := .bool o.thn.lazy) rfl rfl dU ⟨rfl, rfl, rfl, rfl, trivial⟩ p4 fun B7 v5 p5 => ?_))
   have v6 := v4.step p5 (fun y hy => .inl (by rw [List.mem_singleton.1 hy]; simp))
   refine wnn (csr (wan (aH (aE (cE (br1 ?_))))))
   exact ⟨[], { st with pos := st.pos + o.size, now := o.thn }, VF ho hj19.1 hj19.2, v6, ⟨rfl, Nat.le_add_right _ _, hz2, hnl⟩, (by show st.pos < st.pos + o.size; omega), (by show 0 + st.pos ≤ st.pos + o.size; omega), a, c, ob, none, 0, none, [], [], rfl, OwnS.nil _ _ _, OTs.nil _, Fr.nil _, ⟨v5, (((B.own.evo0 c7).evo i8 B.ap.symm.own1).evo p5 B.ap.symm.own1), hR.ne⟩, .inl rfl⟩
  subst m6
  have hj19 : ¬ (o.err = 0 ∧ o.sett = true) := fun h9 => by have := hz19.2 h9; cases this
  refine aM (aC (aI (aI ?_))); have hno : ¬ (o.err = 0 ∧ o.sett = true) := hj19; refine aG (aB (aA (aF rfl) (wfl rfl gY rfl aT B.blk rfl (wel ?_)))); refine wnn (aW rfl (fun z2 => ?_) (fun z2 => ?_))
  ·refine aG (cB (vs := [_]) cQ rfl (eB 3) rfl ?_ ?_)
   ·intro pv wp hpp; obtain ⟨rfl, hpw⟩ := hpp; exact And.intro rfl ⟨_, rfl, _, br_deep ho hno (by omega), rfl, (L).then hpw⟩
   intro _ _ hF; exact hF.elim
  refine aM (aC (aI (aI ?_)))
  have hne250 : ¬ st.opn = 250 := by omega
  refine aG (wfl rfl dX rfl jO hb3 rfl (aA (gE rfl rfl) ?_)); refine wnn (aW rfl (fun O => ?_) (fun O => ?_))
  ·refine aG (wfl rfl dX rfl jO hb3 rfl (cB (vs := [_]) cQ rfl (eB o.err) rfl ?_ ?_))
   ·intro pv wp hpp; obtain ⟨rfl, hpw⟩ := hpp; exact And.intro rfl ⟨_, rfl, _, br_err ho hno hne250 O, rfl, (L).then hpw⟩
   intro _ _ hF; exact hF.elim
  refine aM (aC (aI ?_)); have herr : o.err = 0 := Classical.not_not.1 O; obtain ⟨hz1, hz2, hz3⟩ := hob0 herr; refine aG (wan (aI (csr (wfl rfl gZ rfl hD hb3 rfl (wnn (fG rfl (fun a6 => ?_) (fun a6 => ?_)))))))
  ·have z3 := L; refine aG (aB (wfl rfl jN rfl dC hb3 rfl (cB (vs := [_, _]) KD rfl (EU ⟨B.blk, B.own, B.ne⟩ o.name hnl) rfl ?_ ?_)))
   ·intro pv wp hpp; obtain ⟨hfl, rfl, hpw⟩ := hpp; exact And.intro rfl ⟨_, rfl, _, br_full ho hno hne250 O a6 hfl, rfl, (L).then hpw⟩
   rintro _ B8 ⟨hnf, rfl, l4, a2, c2, ob2, k4, hnb⟩; have u4 := fO p2.symm (Lt.blk hb3) hnb; have u5 := fO p3.symm (Lt.blk hb4) hnb; have hGo2 := fO hGo (IU (hG.evo L hgw)) hnb; have hnb2 : NB w ob ob2 := (show NB w ob ob from .inl rfl).older hnb z3.size; have hpp2 : ({ st with names := st.names ++ [o.name] } : PS).pos = st.pos := rfl; have hpo2 : ({ st with names := st.names ++ [o.name] } : PS).opn = st.opn := rfl
   have hnl2 : (st.names ++ [o.name]).length ≤ 100 := by rw [List.length_append]; have : st.names.length ≠ 100 := fun h => hnf (.inl h); simp; omega
   refine wan (aI ?_); refine fT (fun w0 w' => Evo [b] w0 w') (by kernel_rfl) (fun U c8 => ?_); have v7 := (L.step l4 (fun y hy => .inl hy)).then c8; have p6 := c8.blk0 (l4.blk hb3 (zO A.symm p2.symm)); refine aet 0 rfl (fun _ hS => aX rfl) (Evo.refl [b] U) ?_; refine aet 1 rfl (fun _ hS => aF rfl) (Evo.refl [b] U) ?_; refine aet 2 rfl (fun _ hS => aD rfl bF) (Evo.refl [b] U) ?_; refine aet 4 rfl (fun _ hS => aD rfl fH) (Evo.refl [b] U) ?_; refine aet 5 rfl (fun _ hS => aS rfl aT (aY (hS.blk p6 (A.symm.nmem1)) rfl)) (Evo.refl [b] U) ?_; refine bV [3] (by kernel_rfl) rfl ⟨?_, trivial⟩; refine cA rfl ?_; refine aA (aS rfl aT (aY (c8.blk0 k4.blk) rfl)) (aQ (bO (.inl (Evo.refl [b] U)) ?_)); refine aet 6 rfl (fun _ hS => aK rfl rfl (by omega) (by omega)) (Evo.refl [b] U) ?_; refine aet 7 rfl (fun _ hS => aF rfl) (Evo.refl [b] U) ?_; refine aet 8 rfl (fun _ hS => aD rfl bF) (Evo.refl [b] U) ?_; refine bV [9] (by kernel_rfl) rfl ⟨?_, trivial⟩; refine cA rfl ?_
   refine bB rfl rfl (by first | rfl | assumption) bY (c8.blk0 k4.blk) rfl fun B9 l5 g3 => ?_
   have v8 := v7.step g3 (fun y hy => .inl (by rw [List.mem_singleton.1 hy]; simp))
   try simp only [cH, Nat.reduceAdd] at l5
   refine aQ (bO (.inl ((Evo.refl [b] U).step g3 (fun y hy => .inl hy))) ?_); refine dH (by kernel_rfl) (aC ?_); refine csr (aB (aA (aF rfl) (wfl rfl gY rfl aT l5 rfl ?_))); refine aA (aK rfl rfl (by omega) (by omega)) ?_; refine aA (aF rfl) (aA (aD rfl gY) ?_); refine bB rfl rfl (by first | rfl | assumption) bY l5 rfl fun C0 p7 i9 => ?_
   have v9 := v8.step i9 (fun y hy => .inl (by rw [List.mem_singleton.1 hy]; simp))
   have p8 := i9.blk (g3.blk p6 A.symm.nmem1) A.symm.nmem1
   try simp only [cH, Nat.reduceAdd] at p7
   refine wnn (csr (aB (aA (aD rfl iS) (aA (cY (o := 2) rfl lT dU (vs := [.bool o.thn.fold, .bool o.thn.lines, .bool o.thn.dots, .bool o.thn.lazy]) rfl (uQ p8)) ?_)))); refine aA (aF rfl) (aA (aD rfl eJ) (oR (f1 := .bool o.thn.fold) (f2 := .bool o.thn.lines) (f3 := .bool o.thn.dots) (f4 := .bool o.thn.lazy) rfl rfl dU ⟨rfl, rfl, rfl, rfl, trivial⟩ p7 fun C1 w2 j0 => ?_))
   have j1 := v9.step j0 (fun y hy => .inl (by rw [List.mem_singleton.1 hy]; simp))
   have p9 := j0.blk p8 A.symm.nmem1; have q0 := j0.blk (i9.blk (g3.blk (c8.blk0 (l4.blk hb4 (zO H.symm p3.symm))) H.symm.nmem1) H.symm.nmem1) H.symm.nmem1; refine wnn (csr (aB ?_)); refine cB (vs := [_]) tN rfl (hex (by omega) (st := ⟨st.pos + o.size, o.thn, st.opn + 1, st.names ++ [o.name]⟩) ⟨w2, ((((k4.own.evo0 c8).evo g3 k4.ap.symm.own1).evo i9 k4.ap.symm.own1).evo j0 k4.ap.symm.own1), k4.ne⟩ rfl hz2 hnl2 (hG.evo j1 hgw) hGo2) rfl ?_ ?_
   ·intro pv wp hpp; obtain ⟨e9, hpe, rfl, hpw⟩ := hpp; exact And.intro rfl ⟨_, rfl, _, (yJ ho hno hne250 O (fun h => hnf h.2)).trans (by rw [if_pos a6, hpe]), rfl, (j1).step hpw (oL hnb2)⟩
   rintro rv C2 ⟨x, st2, hx, l6, hmv, a3, c3, ob3, vs, bs, rfl, hOT, hFr, a0, hnb3⟩; have m3 := j1; have z4 := fO u4 (Lt.blk p9) hnb3; have z5 := fO u5 (Lt.blk q0) hnb3; have hnb4 := hnb2.older hnb3 m3.size; have hFr9 : Fr w bs := hFr.older m3.size; have l7 := j1.step l6 (oL hnb2); have q1 := l6.blk p9 (zO A.symm u4); have q2 := l6.blk q0 (zO H.symm u5); obtain ⟨ra, rc, ka, kc, rfl⟩ := id hOT.nine; have hltx := hOT.lt; refine cL rfl eN fun b6 C3 w3 a7 c9 => ?_; have u6 := a7; have d0 := Apart.new (Lt.blk a0.blk) a7; have q3 := Apart.new (Lt.own a0.own) a7; refine aV rfl rfl aU w3 rfl rfl ⟨by first | rfl | assumption, by first | rfl | assumption, by first | rfl | assumption, by first | rfl | assumption, by first | rfl | assumption, by first | rfl | assumption, by first | rfl | assumption, by first | rfl | assumption, by first | rfl | assumption, trivial⟩ fun C4 q4 d1 => ?_
   have w4 := (hOT.evo0 c9).evo d1 (fun q hq h => by have h8 := hltx q hq; have h9 := List.mem_singleton.1 h; omega)
   try simp only [cH, Nat.reduceAdd] at q4
   refine wnn (aI (csr (aB ?_))); refine aL (vs := [_, _]) iR rfl (mQ ⟨(d1.blk (c9.blk0 a0.blk) d0.nmem1), ((a0.own.evo0 c9).evo d1 q3.own1), a0.ne⟩ (by omega) 41 (by decide)) rfl ?_; rintro _ C5 ⟨rfl, g4, a1⟩
   have q5 := ((l7.then c9).step d1 (Ge.new l7 a7).mem1).step g4 (fun y hy => .inl (by rw [List.mem_singleton.1 hy]; simp))
   have w5 := g4.blk (d1.blk (c9.blk0 q1) (Apart.new (Lt.blk q1) a7).nmem1) ((by first | exact A.symm.own1 | exact A.symm.nmem1)); have w7 := g4.blk (d1.blk (c9.blk0 q2) (Apart.new (Lt.blk q2) a7).nmem1) ((by first | exact H.symm.own1 | exact H.symm.nmem1)); have w8 := w4.evo g4 (OU hFr9 hbw (Nat.le_refl _)); have w9 := g4.blk q4 ((by first | exact d0.symm.own1 | exact d0.symm.nmem1)); refine aA (oO rfl) ?_; refine wnn (aW rfl (fun e1 => ?_) (fun e1 => ?_))
   ·refine aG (cB (vs := [_]) cQ rfl (eB 80) rfl ?_ ?_)
    ·intro pv wp hpp; obtain ⟨rfl, hpw⟩ := hpp
     exact And.intro rfl ⟨_, rfl, _, (yJ ho hno hne250 O (fun h => hnf h.2)).trans (by rw [if_pos a6, hx]; exact if_neg e1), rfl, (q5).then hpw⟩
    intro _ _ hF; exact hF.elim
   have h41 : isB s st2.pos 41 := Classical.not_not.1 e1; rw [if_pos h41] at a1; have ho2 : st2.opn = st.opn + 1 := hmv.opn; have hle2 : st.pos + o.size ≤ st2.pos := hmv.le
   have ho3 : ((adv st2 1).opn : Int) - 1 = ((st2.opn - 1 : Nat) : Int) := by show ((st2.opn : Nat) : Int) - 1 = _; omega
   refine aM (aC (csr (aB (aA (aF rfl) (wfl rfl gY rfl aT a1.blk rfl ?_))))); refine aA (dJ rfl rfl (by omega) (by omega)) ?_; rw [ho3]; refine aA (aF rfl) (aA (aD rfl gY) ?_); refine bB rfl rfl (by first | rfl | assumption) bY a1.blk rfl fun C6 q6 d2 => ?_
   have x0 := q5.step d2 (fun y hy => .inl (by rw [List.mem_singleton.1 hy]; simp))
   try simp only [cH, Nat.reduceAdd] at q6
   refine wnn (csr (aB (aA (bW rfl lT dU (d2.blk w7 H.symm.nmem1) rfl) (aA (aF rfl) (aA (aD rfl eJ) (oR (f1 := .bool st.now.fold) (f2 := .bool st.now.lines) (f3 := .bool st.now.dots) (f4 := .bool st.now.lazy) rfl rfl dU ⟨rfl, rfl, rfl, rfl, trivial⟩ q6 fun u7 x1 g5 => ?_))))))
   have q7 := x0.step g5 (fun y hy => .inl (by rw [List.mem_singleton.1 hy]; simp))
   have q8 := g5.blk (d2.blk w5 A.symm.nmem1) A.symm.nmem1; have q9 := (w8.evo d2 (OU hFr9 hbw (Nat.le_refl _))).evo g5 (OU hFr9 hbw (Nat.le_refl _)); have l8 := g5.blk (d2.blk w9 d0.symm.nmem1) d0.symm.nmem1; refine wnn (aI (csr (wfl rfl gZ rfl hD q8 rfl (wnn (fG rfl (fun e2 => ?_) (fun e2 => ?_))))))
   ·have z6 := q9; refine aG (aB (wfl rfl jN rfl dC q8 rfl (aA (bW rfl bZ aU l8 rfl) (bM (vs := [_]) rfl cT rfl rfl rfl rfl fun E7 C7 x2 r0 d3 => ?_)))); refine aA (cC (vs := [(0, _), (6, _), (7, _), (8, _)]) dI rfl (cells := [_, _, _, _, _, _, _, _, _]) rfl) ?_; refine aV rfl rfl aU (d3.blk0 l8) rfl rfl ⟨by first | rfl | assumption, by first | rfl | assumption, by first | rfl | assumption, by first | rfl | assumption, by first | rfl | assumption, by first | rfl | assumption, by first | rfl | assumption, by first | rfl | assumption, by first | rfl | assumption, trivial⟩ fun u8 r1 d4 => ?_; have r5 := (q7.then d3).step d4 (Ge.new l7 a7).mem1
    have z8 := (q9.evo0 d3).evo d4 (fun q hq h => by have h8 := hltx q hq; have h9 := List.mem_singleton.1 h; omega)
    try simp only [cH, Nat.reduceAdd] at r1
    refine wnn (aI ?_)
    have hgr := ot_grp (n := (st.names.length : Int) + 1) (nm := o.name) (x2.evo d4 (Apart.new (Lt.blk l8) r0).symm.own1) z6 hFr9 ((Ge.new (Evo.refl ([b6]) u7) r0) _ rfl) (((Evo.refl ([b6]) u7).then d3).step d4 (fun y hy => .inl hy)) (fun q hq h => by have h8 := hltx q hq; have h9 := List.mem_singleton.1 h; omega) q7.size (by omega)
    obtain ⟨hgT, hgF⟩ := hgr; have m7 := r5; refine aG (aA (bW rfl bZ aU r1 rfl) (bM (vs := [_]) rfl cT rfl rfl rfl rfl fun z7 C8 x3 x4 j2 => ?_)); refine wan (aH (cE (br1 ?_))); have hK := gW x3 hgT hgF ((Ge.new (Evo.refl ([]) u8) x4) _ rfl) ((Evo.refl ([]) u8).then j2) (fun _ _ h => by cases h) m7.size; obtain ⟨ka9, kc9, ko9, cs9, bs9, hv9, hk1, hk2, hk3⟩ := hK
    refine ⟨[kC ((st.names.length : Int) + 1) o.name x], { st2 with pos := st2.pos + 1, opn := st2.opn - 1, now := st.now }, (yJ ho hno hne250 O (fun h => hnf h.2)).trans (by rw [if_pos a6, hx]; exact (if_pos h41).trans (by rw [if_pos a6])), (r5.then j2), ⟨(by show st2.opn - 1 = st.opn; omega), (by show st.pos ≤ st2.pos + 1; omega), h41.asc (by decide) hmv.bd, hmv.nm⟩, (by show st.pos < st2.pos + 1; omega), (by show 1 + st.pos ≤ st2.pos + 1; omega), a3, c3, ob3, ka9, kc9, ko9, cs9, bs9, hv9, hk1, hk2, hk3, ⟨(j2.blk0 (d4.blk (d3.blk0 x1) d0.nmem1)), (((((a1.own.evo d2 a1.ap.symm.own1).evo g5 a1.ap.symm.own1).evo0 d3).evo d4 q3.own1).evo0 j2), a0.ne⟩, hnb4⟩
   rw [a6] at e2; cases e2
  have hnc : ¬ o.capt = true := by rw [a6]; simp
  refine aM (aC (aI ?_)); refine fT (fun w0 w' => Evo [b] w0 w') (by kernel_rfl) (fun V a8 => ?_); refine aet 0 rfl (fun _ hS => aX rfl) (Evo.refl [b] V) ?_; refine aet 1 rfl (fun _ hS => aF rfl) (Evo.refl [b] V) ?_; refine aet 2 rfl (fun _ hS => aD rfl bF) (Evo.refl [b] V) ?_; refine aet 4 rfl (fun _ hS => aD rfl fH) (Evo.refl [b] V) ?_; refine aet 5 rfl (fun _ hS => aS rfl aT (aY (hS.blk (a8.blk0 hb3) (A.symm.nmem1)) rfl)) (Evo.refl [b] V) ?_; refine bV [3] (by kernel_rfl) rfl ⟨?_, trivial⟩; refine cA rfl ?_; refine aA (aS rfl aT (aY (a8.blk0 B.blk) rfl)) (aQ (bO (.inl (Evo.refl [b] V)) ?_)); refine aet 6 rfl (fun _ hS => aK rfl rfl (by omega) (by omega)) (Evo.refl [b] V) ?_; refine aet 7 rfl (fun _ hS => aF rfl) (Evo.refl [b] V) ?_; refine aet 8 rfl (fun _ hS => aD rfl bF) (Evo.refl [b] V) ?_; refine bV [9] (by kernel_rfl) rfl ⟨?_, trivial⟩; refine cA rfl ?_; refine bB rfl rfl (by first | rfl | assumption) bY (a8.blk0 B.blk) rfl fun C9 l9 g6 => ?_
  have x5 := (L.then a8).step g6 (fun y hy => .inl (by rw [List.mem_singleton.1 hy]; simp))
  try simp only [cH, Nat.reduceAdd] at l9
  refine aQ (bO (.inl ((Evo.refl [b] V).step g6 (fun y hy => .inl hy))) ?_); refine dH (by kernel_rfl) (aC ?_); refine csr (aB (aA (aF rfl) (wfl rfl gY rfl aT l9 rfl ?_))); refine aA (aK rfl rfl (by omega) (by omega)) ?_; refine aA (aF rfl) (aA (aD rfl gY) ?_); refine bB rfl rfl (by first | rfl | assumption) bY l9 rfl fun D0 r6 j3 => ?_
  have x6 := x5.step j3 (fun y hy => .inl (by rw [List.mem_singleton.1 hy]; simp))
  have r7 := j3.blk (g6.blk (a8.blk0 hb3) A.symm.nmem1) A.symm.nmem1
  try simp only [cH, Nat.reduceAdd] at r6
  refine wnn (csr (aB (aA (aD rfl iS) (aA (cY (o := 2) rfl lT dU (vs := [.bool o.thn.fold, .bool o.thn.lines, .bool o.thn.dots, .bool o.thn.lazy]) rfl (uQ r7)) ?_)))); refine aA (aF rfl) (aA (aD rfl eJ) (oR (f1 := .bool o.thn.fold) (f2 := .bool o.thn.lines) (f3 := .bool o.thn.dots) (f4 := .bool o.thn.lazy) rfl rfl dU ⟨rfl, rfl, rfl, rfl, trivial⟩ r6 fun D1 x7 j4 => ?_))
  have j5 := x6.step j4 (fun y hy => .inl (by rw [List.mem_singleton.1 hy]; simp))
  have r8 := j4.blk r7 A.symm.nmem1; have r9 := j4.blk (j3.blk (g6.blk (a8.blk0 hb4) H.symm.nmem1) H.symm.nmem1) H.symm.nmem1; refine wnn (csr (aB ?_)); refine cB (vs := [_]) tN rfl (hex (by omega) (st := ⟨st.pos + o.size, o.thn, st.opn + 1, st.names⟩) ⟨x7, ((((B.own.evo0 a8).evo g6 B.ap.symm.own1).evo j3 B.ap.symm.own1).evo j4 B.ap.symm.own1), B.ne⟩ rfl hz2 hnl (hG.evo j5 hgw) hGo) rfl ?_ ?_
  ·intro pv wp hpp; obtain ⟨e9, hpe, rfl, hpw⟩ := hpp; exact And.intro rfl ⟨_, rfl, _, (yJ ho hno hne250 O (fun h => hnc h.1)).trans (by rw [if_neg hnc, hpe]), rfl, (j5).step hpw (oL (show NB w ob ob from .inl rfl))⟩
  rintro rv D2 ⟨x, st2, hx, m0, hmv, a3, c3, ob3, vs, bs, rfl, hOT, hFr, a0, hnb3⟩; have m3 := j5; have z4 := fO p2.symm (Lt.blk r8) hnb3; have z5 := fO p3.symm (Lt.blk r9) hnb3; have hnb4 := (show NB w ob ob from .inl rfl).older hnb3 m3.size; have hFr9 : Fr w bs := hFr.older m3.size; have s0 := j5.step m0 (oL (show NB w ob ob from .inl rfl)); have s4 := m0.blk r8 (zO A.symm p2.symm); have s5 := m0.blk r9 (zO H.symm p3.symm); obtain ⟨ra, rc, ka, kc, rfl⟩ := id hOT.nine; have hltx := hOT.lt; refine cL rfl eN fun b6 D3 x8 d5 d6 => ?_; have u6 := d5; have g7 := Apart.new (Lt.blk a0.blk) d5; refine aV rfl rfl aU x8 rfl rfl ⟨by first | rfl | assumption, by first | rfl | assumption, by first | rfl | assumption, by first | rfl | assumption, by first | rfl | assumption, by first | rfl | assumption, by first | rfl | assumption, by first | rfl | assumption, by first | rfl | assumption, trivial⟩ fun D4 s6 d7 => ?_
  have x9 := (hOT.evo0 d6).evo d7 (fun q hq h => by have h8 := hltx q hq; have h9 := List.mem_singleton.1 h; omega)
  try simp only [cH, Nat.reduceAdd] at s6
  refine wnn (aI (csr (aB ?_))); refine aL (vs := [_, _]) iR rfl (mQ ⟨(d7.blk (d6.blk0 a0.blk) g7.nmem1), ((a0.own.evo0 d6).evo d7 (Apart.new (Lt.own a0.own) d5).own1), a0.ne⟩ (by omega) 41 (by decide)) rfl ?_; rintro _ D5 ⟨rfl, g8, a1⟩
  have s7 := ((s0.then d6).step d7 (Ge.new s0 d5).mem1).step g8 (fun y hy => .inl (by rw [List.mem_singleton.1 hy]; simp))
  have y1 := g8.blk (d7.blk (d6.blk0 s4) (Apart.new (Lt.blk s4) d5).nmem1) ((by first | exact A.symm.own1 | exact A.symm.nmem1)); have y2 := g8.blk (d7.blk (d6.blk0 s5) (Apart.new (Lt.blk s5) d5).nmem1) ((by first | exact H.symm.own1 | exact H.symm.nmem1)); have y3 := x9.evo g8 (OU hFr9 hbw (Nat.le_refl _)); have y4 := g8.blk s6 ((by first | exact g7.symm.own1 | exact g7.symm.nmem1)); refine aA (oO rfl) ?_; refine wnn (aW rfl (fun e1 => ?_) (fun e1 => ?_))
  ·refine aG (cB (vs := [_]) cQ rfl (eB 80) rfl ?_ ?_)
   ·intro pv wp hpp; obtain ⟨rfl, hpw⟩ := hpp
    exact And.intro rfl ⟨_, rfl, _, (yJ ho hno hne250 O (fun h => hnc h.1)).trans (by rw [if_neg hnc, hx]; exact if_neg e1), rfl, (s7).then hpw⟩
   intro _ _ hF; exact hF.elim
  have h41 : isB s st2.pos 41 := Classical.not_not.1 e1; rw [if_pos h41] at a1; have ho2 : st2.opn = st.opn + 1 := hmv.opn; have hle2 : st.pos + o.size ≤ st2.pos := hmv.le
  have ho3 : ((adv st2 1).opn : Int) - 1 = ((st2.opn - 1 : Nat) : Int) := by show ((st2.opn : Nat) : Int) - 1 = _; omega
  refine aM (aC (csr (aB (aA (aF rfl) (wfl rfl gY rfl aT a1.blk rfl ?_))))); refine aA (dJ rfl rfl (by omega) (by omega)) ?_; rw [ho3]; refine aA (aF rfl) (aA (aD rfl gY) ?_); refine bB rfl rfl (by first | rfl | assumption) bY a1.blk rfl fun D6 s8 d8 => ?_
  have y5 := s7.step d8 (fun y hy => .inl (by rw [List.mem_singleton.1 hy]; simp))
  try simp only [cH, Nat.reduceAdd] at s8
  refine wnn (csr (aB (aA (bW rfl lT dU (d8.blk y2 H.symm.nmem1) rfl) (aA (aF rfl) (aA (aD rfl eJ) (oR (f1 := .bool st.now.fold) (f2 := .bool st.now.lines) (f3 := .bool st.now.dots) (f4 := .bool st.now.lazy) rfl rfl dU ⟨rfl, rfl, rfl, rfl, trivial⟩ s8 fun u9 y6 g9 => ?_))))))
  have s9 := y5.step g9 (fun y hy => .inl (by rw [List.mem_singleton.1 hy]; simp))
  refine wnn (aI (csr (wfl rfl gZ rfl hD (g9.blk (d8.blk y1 A.symm.nmem1) A.symm.nmem1) rfl (wnn (fG rfl (fun e2 => ?_) (fun e2 => ?_))))))
  ·rw [a6] at e2; cases e2
  refine aM (aC (aI ?_)); have hgr : OT x _ _ bs ∧ Fr w bs := ⟨((y3.evo d8 (OU hFr9 hbw (Nat.le_refl _))).evo g9 (OU hFr9 hbw (Nat.le_refl _))), hFr9⟩; obtain ⟨hgT, hgF⟩ := hgr; have m7 := s9; refine aG (aA (bW rfl bZ aU (g9.blk (d8.blk y4 g7.symm.nmem1) g7.symm.nmem1) rfl) (bM (vs := [_]) rfl cT rfl rfl rfl rfl fun z7 D7 y7 y8 j6 => ?_)); refine wan (aH (cE (br1 ?_))); have hK := gW y7 hgT hgF ((Ge.new (Evo.refl ([]) u9) y8) _ rfl) ((Evo.refl ([]) u9).then j6) (fun _ _ h => by cases h) m7.size; obtain ⟨ka9, kc9, ko9, cs9, bs9, hv9, hk1, hk2, hk3⟩ := hK
  refine ⟨[x], { st2 with pos := st2.pos + 1, opn := st2.opn - 1, now := st.now }, (yJ ho hno hne250 O (fun h => hnc h.1)).trans (by rw [if_neg hnc, hx]; exact (if_pos h41).trans (by rw [if_neg hnc])), (s9.then j6), ⟨(by show st2.opn - 1 = st.opn; omega), (by show st.pos ≤ st2.pos + 1; omega), h41.asc (by decide) hmv.bd, hmv.nm⟩, (by show st.pos < st2.pos + 1; omega), (by show 1 + st.pos ≤ st2.pos + 1; omega), a3, c3, ob3, ka9, kc9, ko9, cs9, bs9, hv9, hk1, hk2, hk3, ⟨(j6.blk0 y6), (((a1.own.evo d8 a1.ap.symm.own1).evo g9 a1.ap.symm.own1).evo0 j6), a0.ne⟩, hnb4⟩
theorem KJ : dY Try.prog 43 := ⟨_, Try.func43, by kernel_rfl, by kernel_rfl⟩
theorem KI : dY Try.prog 44 := ⟨_, Try.func44, by kernel_rfl, by kernel_rfl⟩
theorem KH : dY Try.prog 45 := ⟨_, Try.func45, by kernel_rfl, by kernel_rfl⟩
theorem zA : dY Try.prog 49 := ⟨_, Try.func49, by kernel_rfl, by kernel_rfl⟩
theorem xI {s : ByteArray} : ∀ {f i j : Nat} {fst : Bool} {S T : Int → Prop}, fX s f fst S i = .ok (T, j) → Bd s i → Bd s j ∧ i < j
  | 0, i, j, fst, S, T, h, _ => by cases h
  | f + 1, i, j, fst, S, T, h, hb => by
    rw [fX] at h
    split at h
    · cases h
    · rename_i h0
      split at h
      · rename_i h1
        cases h
        exact ⟨(hb.asc (by omega) (by omega)).1, by omega⟩
      · cases h2 : jH s i with
        | error e => rw [h2] at h; cases h
        | ok x =>
          obtain ⟨U, k⟩ := x
          rw [h2] at h
          obtain ⟨h3, h4⟩ := wI h2 hb (by omega)
          obtain ⟨h5, h6⟩ := xI h h3
          exact ⟨h5, by omega⟩
theorem EJ {s : ByteArray} {fl : Fl} {i j : Nat} {x : Rx} (h : kW s fl i = .ok (x, j)) (hb : Bd s i) : Bd s j ∧ i < j := by
  unfold kW at h
  cases h1 : fX s (s.size + 1) true (fun _ => False) (if isB s i 94 then i + 1 else i) with
  | error e => rw [h1] at h; cases h
  | ok y =>
    obtain ⟨S, k⟩ := y
    rw [h1] at h
    cases h
    by_cases h2 : isB s i 94
    · rw [if_pos h2] at h1
      obtain ⟨h3, h4⟩ := xI h1 (h2.asc (by decide) hb)
      exact ⟨h3, by omega⟩
    · rw [if_neg h2] at h1
      exact xI h1 hb
section
variable {s : ByteArray} {ex : PS → PX Rx} {st : PS} {x : Rx} {j : Nat} {e : Int}
theorem LQ (h : sb s st.pos = 40) : dZ s ex st = pU s ex st := by unfold dZ; rw [if_pos h]
theorem pc_cl (h : sb s st.pos = 91) (h2 : kW s st.now (st.pos + 1) = .ok (x, j)) : dZ s ex st = .ok ([x], gT st j) := by unfold dZ; rw [if_neg (by omega), if_pos h, h2]; rfl
theorem pc_clE (h : sb s st.pos = 91) (h2 : kW s st.now (st.pos + 1) = .error e) : dZ s ex st = .error e := by unfold dZ; rw [if_neg (by omega), if_pos h, h2]
theorem pc_es (h : sb s st.pos = 92) : dZ s ex st = fN s st := by unfold dZ; rw [if_neg (by omega), if_neg (by omega), if_pos h]
theorem RS (h1 : ¬ sb s st.pos = 40) (h2 : ¬ sb s st.pos = 91) (h3 : ¬ sb s st.pos = 92) : dZ s ex st = jG s st := by unfold dZ; rw [if_neg h1, if_neg h2, if_neg h3]
theorem pl_all (h : (bH s st.pos).1 = 46) (h2 : st.now.dots = true) : jG s st = .ok ([iZ (rs [(0, 1114111)])], gT st (st.pos + (bH s st.pos).2)) := by unfold jG; rw [if_pos h, if_pos h2]; rfl
theorem pl_dot (h : (bH s st.pos).1 = 46) (h2 : ¬ st.now.dots = true) : jG s st = .ok ([iZ (rs [(0, 9), (11, 1114111)])], gT st (st.pos + (bH s st.pos).2)) := by unfold jG; rw [if_pos h, if_neg h2]; rfl
theorem pl_hat (h : (bH s st.pos).1 = 94) : jG s st = .ok ([rxK (if st.now.lines = true then 10 else 8)], gT st (st.pos + (bH s st.pos).2)) := by unfold jG; rw [if_neg (by omega), if_pos h]; rfl
theorem pl_dol (h : (bH s st.pos).1 = 36) : jG s st = .ok ([rxK (if st.now.lines = true then 11 else 9)], gT st (st.pos + (bH s st.pos).2)) := by unfold jG; rw [if_neg (by omega), if_neg (by omega), if_pos h]; rfl
theorem RQ (h : ¬ (bH s st.pos).1 = 46) (h1 : ¬ (bH s st.pos).1 = 94) (h2 : ¬ (bH s st.pos).1 = 36) : jG s st = .ok ([mA st.now (bH s st.pos).1], gT st (st.pos + (bH s st.pos).2)) := by unfold jG; rw [if_neg h, if_neg h1, if_neg h2]; rfl
end
theorem PcPost.congr {b : Nat} {s : ByteArray} {pp qq : PS → PL} {st : PS} {ob : Option Nat} {w w' : World} {v : Value} (h : PcPost b s pp st ob w v w') (e : qq st = pp st) : PcPost b s qq st ob w v w' := by
  obtain ⟨l, st', h1, h2⟩ := h
  exact ⟨l, st', e.trans h1, h2⟩
theorem ExPan.congr {b : Nat} {α : Type} {pp qq : PS → PX α} {st : PS} {ob : Option Nat} {w w' : World} {v : Value} (h : ExPan b pp st ob w v w') (e : qq st = pp st) : ExPan b qq st ob w v w' := by
  obtain ⟨x, h1, h2⟩ := h
  exact ⟨x, e.trans h1, h2⟩
theorem PcPost.older {b : Nat} {s : ByteArray} {pp : PS → PL} {st : PS} {ob : Option Nat} {w w1 w' : World} {v : Value} (h : PcPost b s pp st ob w1 v w') (he : Evo [] w w1) : PcPost b s pp st ob w v w' := by
  obtain ⟨l, st', h1, h2, h3, h4, h5, a, c, o, ka, kc, ko, cs, bs, h6, h7, h8, h9, h10, h11⟩ := h
  exact ⟨l, st', h1, (he.any _).step h2 (fun y hy => .inl hy), h3, h4, h5, a, c, o, ka, kc, ko, cs, bs, h6, h7, h8, h9.older he.size, h10, (show NB w ob ob from .inl rfl).older h11 he.size⟩
theorem ExPan.older {b : Nat} {α : Type} {pp : PS → PX α} {st : PS} {ob : Option Nat} {w w1 w' : World} {v : Value} (h : ExPan b pp st ob w1 v w') (he : Evo [] w w1) : ExPan b pp st ob w v w' := by
  obtain ⟨e, h1, h2, h3⟩ := h
  exact ⟨e, h1, h2, (he.any _).step h3 (fun y hy => .inl hy)⟩
theorem PcPost.evo {b : Nat} {s : ByteArray} {pp : PS → PL} {st : PS} {ob : Option Nat} {w w' : World} {v : Value} (h : PcPost b s pp st ob w v w') : Evo (b :: ob.toList) w w' := by obtain ⟨l, st', h1, h2, _⟩ := h; exact h2
theorem RR {ex : PS → PX Rx} {w : World} {b : Nat} {s : ByteArray} {st : PS} {a : Option Addr} {c : Nat} {ob : Option Nat} (hex : st.opn < 250 → sX b s ex (st.opn + 1)) (hR : RdAt w b s st a c ob) (hs : s.size ≤ 4096) (hlt : st.pos < s.size) (hop : st.opn ≤ 250) (hb : Bd s st.pos) (hnl : st.names.length ≤ 100) (hG : Glb w) (hGo : Apart (some nU) ob) :
    Calls Try.prog 37 #[.pointer (some ⟨b, 0, none⟩)] w (RetP (PcPost b s (dZ s ex) st ob w) (ExPan b (dZ s ex) st ob w)) := by
  have hap := hR.ap; have hgb : nU ∉ [b] := fun h => hR.glb hG (List.mem_singleton.1 h).symm; obtain ⟨h1, h2, a5, hr0, hr1⟩ := hb.next hlt; refine bE (N := 71) Try.func37 rfl rfl rfl ?_; refine csr (wan (aI (aI ?_))); refine eH (by kernel_rfl) (by kernel_rfl) ?_; refine bD (fun _ D => aX rfl) ?_; refine bD (fun _ D => aF rfl) ?_; refine bD (fun _ D => aD rfl cV) ?_; refine bD (fun _ D => aS rfl dC (aY (D.blk0 hR.blk) rfl)) ?_; refine bD (fun _ D => aX rfl) ?_; refine bD (fun _ D => aF rfl) ?_; refine bD (fun _ D => aD rfl bF) ?_; refine bD (fun _ D => aS rfl aT (aY (D.blk0 hR.blk) rfl)) ?_; refine bD (fun _ D => eE (n := st.pos) rfl rfl Try.underlying9 rfl hlt) ?_; refine eL (fun h3 D => aC ?_); have I := (Evo.refl [b] w).then D; have d7 := (Evo.refl [] w).then D; have a6 := D.blk0 hR.blk; have b5 := hR.own.evo0 D; refine bJ (csr (wel ?_)); refine wan (aW rfl (fun e0 => ?_) (fun e0 => ?_))
  ·refine csr (aB ?_); refine cB (vs := [_]) KJ rfl (JJ hex ⟨a6, b5, hR.ne⟩ hs ⟨hlt, by omega⟩ hop hb hnl (hG.evo I hgb) hGo) rfl ?_ ?_
   ·intro pv wp hpp; exact And.intro rfl ⟨_, rfl, (ExPan.older hpp d7).congr (LQ (by omega))⟩
   rintro rv w7 hpc; have h4 := hpc.evo; have B := I; refine wan (aH (aN (aE (cE (br1 ?_))))); exact (PcPost.older hpc d7).congr (LQ (by omega))
  refine csr (wel ?_); refine wan (aW rfl (fun e1 => ?_) (fun e1 => ?_))
  ·refine csr (aB (aA (aF rfl) (wfl rfl bF rfl aT a6 rfl ?_))); refine aA (aK rfl rfl (by omega) (by omega)) ?_; refine aA (aF rfl) (aA (aD rfl bF) ?_); refine bB rfl rfl (by first | rfl | assumption) bY a6 rfl fun w9 b6 b7 => ?_; have U := I.step b7 (fun y hy => .inl hy)
   try simp only [cH, Nat.reduceAdd] at b6
   refine wnn (csr (aB ?_)); refine cB (vs := [_]) KI rfl (VC (st := gT st (st.pos + 1)) ⟨b6, (b5.evo b7 hap.symm.own1), hR.ne⟩ (by omega) (hb.asc hlt (by omega)).1 (hG.evo U hgb)) rfl ?_ ?_
   ·intro pv wp hpp; obtain ⟨e9, hpe, rfl, hpw⟩ := hpp; exact And.intro rfl ⟨_, rfl, SA (pc_clE (by omega) hpe) ((U).step hpw (fun y hy => .inl hy))⟩
   rintro rv d8 ⟨x, j, hx, hT, b8, b9⟩; have hcall9 := b8; have B := U; obtain ⟨hbj, hij⟩ := EJ hx (hb.asc hlt (by omega)).1; have hij2 : st.pos + 1 < j := hij; obtain ⟨vs, bx, rfl, hOT, hFx⟩ := hT; obtain ⟨ra, rc, ka, kc, rfl⟩ := id hOT.nine; refine bM (vs := [_]) rfl cT rfl rfl rfl rfl fun h5 h6 e2 e3 V => ?_; have e4 := (U.step b8 (fun y hy => .inl hy)).then V; have e5 := V.blk0 b9.blk; have e6 := b9.own.evo0 V; refine wan (aH (aN (aE (cE (br1 ?_)))))
   exact xC (pp := dZ s ex) hR (pc_cl (by omega) hx) (gW e2 hOT (hFx.older B.size) ((Ge.new (Evo.refl [] d8) e3) _ rfl) ((Evo.refl [] d8).then V) (fun b hb h => by cases h) (Nat.le_trans B.size hcall9.size)) e4 ⟨e5, e6, b9.ne⟩ rfl rfl hnl (by show st.pos < j; omega) hbj (by show 1 + st.pos ≤ j; omega)
  refine csr (wel ?_); refine wan (aW rfl (fun e7 => ?_) (fun e7 => ?_))
  ·refine csr (aB ?_); refine cB (vs := [_]) KH rfl (PG ⟨a6, b5, hR.ne⟩ (by omega) hlt (by omega) hb (hG.evo I hgb)) rfl ?_ ?_
   ·intro pv wp hpp; obtain ⟨e9, hpe, rfl, hpw⟩ := hpp; exact And.intro rfl ⟨_, rfl, SA ((pc_es (by omega)).trans hpe) ((I).step hpw (fun y hy => .inl hy))⟩
   rintro rv h7 ⟨l, st', hx, hK, e8, c0, ho, hnm, hp, hbd, hll⟩; have B := I; refine wan (aH (aN (aE (cE (br1 ?_))))); exact xC (pp := dZ s ex) hR ((pc_es (by omega)).trans hx) (hK.older B.size) (I.step e8 (fun y hy => .inl hy)) ⟨c0.blk, c0.own, c0.ne⟩ ho hnm hnl hp hbd hll
  refine aM (aP (aC (aI ?_))); have hpl : dZ s ex st = jG s st := RS (by omega) (by omega) (by omega); refine aG (aB ?_); refine aL (vs := [_]) qF rfl (wF ⟨a6, b5, hR.ne⟩ (by omega) hb) rfl ?_; rintro _ h8 ⟨rfl, f0, A⟩; have F := I.step f0 (fun y hy => .inl hy); refine wan (csr (aB (wnn (bJ (csr (wel ?_)))))); refine wan (aW rfl (fun f5 => ?_) (fun f5 => ?_))
  ·refine aI (csr (aB (aA (aF rfl) (aA (aD rfl eJ) (wfl rfl vT rfl hD A.blk rfl (wnn (fG rfl (fun H => ?_) (fun H => ?_))))))))
   ·replace H : st.now.dots = true := H; refine csr (bM (vs := [_, _]) rfl cS rfl rfl rfl rfl fun h9 i1 f6 g5 a7 => ?_); refine aL (vs := [_]) dF rfl (fM (es := [0, 1114111]) f6 (by decide)) rfl ?_; rintro _ i2 ⟨a1, c1, ob1, rfl, c2, hg1, a8⟩; have c3 := (F.then a7).then a8; refine aL (vs := [_]) iQ rfl (mR (l := [(0, 1114111)]) (S := rs [(0, 1114111)]) c2 (gM (by kernel_rfl)) (by decide) (fun c => Iff.rfl)) rfl ?_; rintro rv d9 ⟨hT, a0⟩; have hcall9 := a0; have B := c3; obtain ⟨vs, bx, rfl, hOT, hFx⟩ := hT; obtain ⟨ra, rc, ka, kc, rfl⟩ := id hOT.nine; refine bM (vs := [_]) rfl cT rfl rfl rfl rfl fun i3 i4 f7 f8 a2 => ?_; have f9 := (c3.then a0).then a2; have g0 := a2.blk0 (a0.blk0 (a8.blk0 (a7.blk0 A.blk))); have g1 := (((A.own.evo0 a7).evo0 a8).evo0 a0).evo0 a2; refine wan (aH (aE (aN (cE (br1 ?_)))))
    exact xC (pp := dZ s ex) hR (hpl.trans (pl_all (by omega) H)) (gW f7 hOT (hFx.older B.size) ((Ge.new (Evo.refl ([]) d9) f8) _ rfl) ((Evo.refl ([]) d9).then a2) (fun b hb h => by cases h) (Nat.le_trans B.size hcall9.size)) f9 ⟨g0, g1, A.ne⟩ rfl rfl hnl (by show st.pos < st.pos + _; omega) a5 (by show 1 + st.pos ≤ st.pos + _; omega)
   replace H : st.now.dots = false := H; refine aM (aC (csr (bM (vs := [_, _, _, _]) rfl cS rfl rfl rfl rfl fun i5 i6 g2 g6 a9 => ?_))); refine aL (vs := [_]) dF rfl (fM (es := [0, 9, 11, 1114111]) g2 (by decide)) rfl ?_; rintro _ i7 ⟨a1, c1, ob1, rfl, c2, hg1, b4⟩; have c4 := (F.then a9).then b4; refine aL (vs := [_]) iQ rfl (mR (l := [(0, 9), (11, 1114111)]) (S := rs [(0, 9), (11, 1114111)]) c2 (gM (by kernel_rfl)) (by decide) (fun c => Iff.rfl)) rfl ?_; rintro rv c5 ⟨hT, J⟩; have hcall9 := J; have B := c4; obtain ⟨vs, bx, rfl, hOT, hFx⟩ := hT; obtain ⟨ra, rc, ka, kc, rfl⟩ := id hOT.nine; refine bM (vs := [_]) rfl cT rfl rfl rfl rfl fun i8 g7 c7 c8 L => ?_; have c9 := (c4.then J).then L; have d0 := L.blk0 (J.blk0 (b4.blk0 (a9.blk0 A.blk))); have d1 := (((A.own.evo0 a9).evo0 b4).evo0 J).evo0 L; refine wan (aH (aN (cE (br1 ?_))))
   exact xC (pp := dZ s ex) hR (hpl.trans (pl_dot (by omega) (by simp [H]))) (gW c7 hOT (hFx.older B.size) ((Ge.new (Evo.refl ([]) c5) c8) _ rfl) ((Evo.refl ([]) c5).then L) (fun b hb h => by cases h) (Nat.le_trans B.size hcall9.size)) c9 ⟨d0, d1, A.ne⟩ rfl rfl hnl (by show st.pos < st.pos + _; omega) a5 (by show 1 + st.pos ≤ st.pos + _; omega)
  refine csr (wel ?_); refine wan (aW rfl (fun g3 => ?_) (fun g3 => ?_))
  ·refine csr (aB (aA (aF rfl) (aA (aD rfl eJ) (wfl rfl rP rfl hD A.blk rfl (aL (vs := [_, _, _]) zA rfl (SO 8 10 st.now.lines) rfl ?_))))); rintro rv g8 ⟨hK, a3⟩; have B := F; refine wan (aH (aN (cE (br1 ?_))))
   exact xC (pp := dZ s ex) hR (hpl.trans (pl_hat (by omega))) (hK.older B.size) (F.then a3) ⟨(a3.blk0 A.blk), (A.own.evo0 a3), A.ne⟩ rfl rfl hnl (by show st.pos < st.pos + _; omega) a5 (by show 1 + st.pos ≤ st.pos + _; omega)
  refine csr (wel ?_); refine wan (aW rfl (fun g4 => ?_) (fun g4 => ?_))
  ·refine csr (aB (aA (aF rfl) (aA (aD rfl eJ) (wfl rfl rP rfl hD A.blk rfl (aL (vs := [_, _, _]) zA rfl (SO 9 11 st.now.lines) rfl ?_))))); rintro rv g9 ⟨hK, a4⟩; have B := F; refine wan (aH (aN (cE (br1 ?_))))
   exact xC (pp := dZ s ex) hR (hpl.trans (pl_dol (by omega))) (hK.older B.size) (F.then a4) ⟨(a4.blk0 A.blk), (A.own.evo0 a4), A.ne⟩ rfl rfl hnl (by show st.pos < st.pos + _; omega) a5 (by show 1 + st.pos ≤ st.pos + _; omega)
  refine csr (aB (aB (aL (vs := [_, _]) qE rfl (CO ⟨A.blk, A.own, A.ne⟩ (bH s st.pos).1 hr0 hr1) rfl ?_))); rintro rv c6 ⟨hT, M⟩; have hcall9 := M; have B := F; obtain ⟨vs, bx, rfl, hOT, hFx⟩ := hT; obtain ⟨ra, rc, ka, kc, rfl⟩ := id hOT.nine; refine bM (vs := [_]) rfl cT rfl rfl rfl rfl fun i9 h0 d2 d3 O => ?_; have d4 := (F.then M).then O; have d5 := O.blk0 (M.blk0 A.blk); have d6 := (A.own.evo0 M).evo0 O; refine wan (aH (aN (cE (br1 ?_))))
  exact xC (pp := dZ s ex) hR (hpl.trans (RQ (by omega) (by omega) (by omega))) (gW d2 hOT (hFx.older B.size) ((Ge.new (Evo.refl ([]) c6) d3) _ rfl) ((Evo.refl ([]) c6).then O) (fun b hb h => by cases h) (Nat.le_trans B.size hcall9.size)) d4 ⟨d5, d6, A.ne⟩ rfl rfl hnl (by show st.pos < st.pos + _; omega) a5 (by show 1 + st.pos ≤ st.pos + _; omega)
end Go.Proofs.Ytidpigbinpaaeaa
namespace Go.Proofs.Ytidpigbinpaaeaa
open Go.RowKit Go.W
theorem SD {s : ByteArray} {i nn : Nat} {lo hi : Int} (hb : Bd s i) (hi0 : i < s.size) (h : lG (s.extract i s.size) = (lo, hi, nn)) : 0 ≤ lo ∧ lo ≤ 1001 ∧ -1 ≤ hi ∧ hi ≤ 1001 ∧ (nn ≠ 0 → i + nn ≤ s.size ∧ Bd s (i + nn)) := by
  have hrs := fB (s := s) (a := i) (Nat.le_refl s.size)
  have e0 : sb (s.extract i s.size) 0 = sb s i := kV (by omega)
  have one : sb s i < 128 → i + 1 ≤ s.size ∧ Bd s (i + 1) := fun h => ⟨hi0, (hb.asc hi0 h).1⟩
  by_cases h1 : sb (s.extract i s.size) 0 = 42
  · rw [LO h1] at h; cases h
    exact ⟨by omega, by omega, by omega, by omega, fun _ => one (by omega)⟩
  · by_cases h2 : sb (s.extract i s.size) 0 = 43
    · rw [LP h2] at h; cases h
      exact ⟨by omega, by omega, by omega, by omega, fun _ => one (by omega)⟩
    · by_cases h3 : sb (s.extract i s.size) 0 = 63
      · rw [pr_qu h3] at h; cases h
        exact ⟨by omega, by omega, by omega, by omega, fun _ => one (by omega)⟩
      · by_cases h4 : sb (s.extract i s.size) 0 = 123
        · have close : ∀ {k : Nat}, isB (s.extract i s.size) k 125 → i + (k + 1) ≤ s.size ∧ Bd s (i + (k + 1)) := fun {k} hk => by
            have hk1 := hk.1
            have h6 : sb s (i + k) = 125 := by rw [← kV (by omega)]; exact hk.2
            exact ⟨by omega, by rw [← Nat.add_assoc]; exact isB.asc (b := 125) ⟨by omega, h6⟩ (by decide) (mZ hb (by omega) (by omega) (by omega))⟩
          obtain ⟨lo1, j, hp1⟩ : ∃ lo1 j, iI (s.extract i s.size) (s.extract i s.size).size 1 0 = (lo1, j) := ⟨_, _, rfl⟩
          have hb1 := xH (r := s.extract i s.size) (f := (s.extract i s.size).size) (i := 1) (n := 0) (by omega) (by omega) (by omega)
          have hbr := pr_br h4 hp1
          rw [hp1] at hb1
          rw [h] at hbr
          replace hb1 : 0 ≤ lo1 ∧ lo1 ≤ 1001 ∧ 1 ≤ j ∧ j ≤ (s.extract i s.size).size := hb1
          split at hbr
          · rename_i hc
            have hb2 := xH (r := s.extract i s.size) (f := (s.extract i s.size).size) (i := j + 1) (n := 0) (by omega) (by omega) (by have := hc.2.1; omega)
            split at hbr
            · rename_i hd
              obtain ⟨rfl, hx⟩ := Prod.mk.inj hbr
              obtain ⟨rfl, rfl⟩ := Prod.mk.inj hx
              refine ⟨hb1.1, hb1.2.1, ?_, ?_, fun _ => close hd⟩
              · split <;> omega
              · split <;> omega
            · cases hbr; exact ⟨by omega, by omega, by omega, by omega, fun h => absurd rfl h⟩
          · split at hbr
            · cases hbr; exact ⟨by omega, by omega, by omega, by omega, fun h => absurd rfl h⟩
            · rename_i hc
              obtain ⟨rfl, hx⟩ := Prod.mk.inj hbr
              obtain ⟨rfl, rfl⟩ := Prod.mk.inj hx
              have hd : isB (s.extract i s.size) j 125 := Classical.not_not.1 (fun h => hc (.inr h))
              exact ⟨hb1.1, hb1.2.1, by omega, by omega, fun _ => close hd⟩
        · rw [RP h1 h2 h3 h4] at h; cases h
          exact ⟨by omega, by omega, by omega, by omega, fun h => absurd rfl h⟩
section
variable {s : ByteArray} {ex : PS → PX Rx} {f : Nat} {l g : List Rx} {ah : Bool} {st st2 : PS} {e lo hi : Int} {nn : Nat}
theorem mT (h : s.size ≤ st.pos ∨ sb s st.pos = 124 ∨ sb s st.pos = 41) : iB s ex f l ah st = .ok (qN 4 l, st) := by
  cases f with
  | zero => rfl
  | succ f => rw [iB, if_pos h]
theorem alt_pcE (h : ¬ (s.size ≤ st.pos ∨ sb s st.pos = 124 ∨ sb s st.pos = 41)) (hr : lG (s.extract st.pos s.size) = (lo, hi, 0)) (hp : dZ s ex st = .error e) : iB s ex (f + 1) l ah st = .error e := by
  rw [iB, if_neg h, hr]; simp only; rw [if_pos trivial, hp]
theorem VP (h : ¬ (s.size ≤ st.pos ∨ sb s st.pos = 124 ∨ sb s st.pos = 41)) (hr : lG (s.extract st.pos s.size) = (lo, hi, 0)) (hp : dZ s ex st = .ok (g, st2)) : iB s ex (f + 1) l ah st = iB s ex f (l ++ g) (decide (0 < g.length)) st2 := by
  rw [iB, if_neg h, hr]; simp only; rw [if_pos trivial, hp]
theorem wN (h : ¬ (s.size ≤ st.pos ∨ sb s st.pos = 124 ∨ sb s st.pos = 41)) (hr : lG (s.extract st.pos s.size) = (lo, hi, nn)) (hn : nn ≠ 0) (hc : ah = false ∨ 1000 < lo ∨ 1000 < hi ∨ (0 ≤ hi ∧ hi < lo)) : iB s ex (f + 1) l ah st = .error 82 := by
  rw [iB, if_neg h, hr]; simp only; rw [if_neg hn, if_pos hc]
theorem NQ (h : ¬ (s.size ≤ st.pos ∨ sb s st.pos = 124 ∨ sb s st.pos = 41)) (hr : lG (s.extract st.pos s.size) = (lo, hi, nn)) (hn : nn ≠ 0) (hc : ¬ (ah = false ∨ 1000 < lo ∨ 1000 < hi ∨ (0 ≤ hi ∧ hi < lo))) (hq : isB s (st.pos + nn) 63) :
    iB s ex (f + 1) l ah st = iB s ex f (l.dropLast ++ [jD lo hi (!st.now.lazy) (l.getLastD (rxK 1))]) false { st with pos := st.pos + nn + 1 } := by
  rw [iB, if_neg h, hr]; simp only; rw [if_neg hn, if_neg hc, if_pos hq]
theorem uG (h : ¬ (s.size ≤ st.pos ∨ sb s st.pos = 124 ∨ sb s st.pos = 41)) (hr : lG (s.extract st.pos s.size) = (lo, hi, nn)) (hn : nn ≠ 0) (hc : ¬ (ah = false ∨ 1000 < lo ∨ 1000 < hi ∨ (0 ≤ hi ∧ hi < lo))) (hq : ¬ isB s (st.pos + nn) 63) :
    iB s ex (f + 1) l ah st = iB s ex f (l.dropLast ++ [jD lo hi st.now.lazy (l.getLastD (rxK 1))]) false { st with pos := st.pos + nn } := by
  rw [iB, if_neg h, hr]; simp only; rw [if_neg hn, if_neg hc, if_neg hq]
theorem GO (h : ¬ isB s st.pos 124) : mO s ex f l st = .ok (qN 5 l, st) := by
  cases f with
  | zero => rfl
  | succ f => rw [mO, if_neg h]
theorem VO (h : isB s st.pos 124) (hp : iB s ex (s.size + 1) [] false (adv st 1) = .error e) : mO s ex (f + 1) l st = .error e := by
  rw [mO, if_pos h]; show (match iB s ex (s.size + 1) [] false (adv st 1) with | .error e => _ | .ok (x, st2) => _) = _; rw [hp]
theorem alts_go {x : Rx} (h : isB s st.pos 124) (hp : iB s ex (s.size + 1) [] false (adv st 1) = .ok (x, st2)) : mO s ex (f + 1) l st = mO s ex f (l ++ [x]) st2 := by
  rw [mO, if_pos h]; show (match iB s ex (s.size + 1) [] false (adv st 1) with | .error e => _ | .ok (x, st2) => _) = _; rw [hp]
end
theorem Fr.right {w : World} {b1 b2 : List Nat} (h : Fr w (b1 ++ b2)) : Fr w b2 := ⟨(List.nodup_append.1 h.nd).2.1, fun b hb => h.ge b (List.mem_append_right _ hb)⟩
theorem Fr.sub {w : World} {b1 b2 : List Nat} (h : Fr w b2) (hs : b1.Sublist b2) : Fr w b1 := ⟨h.nd.sublist hs, fun b hb => h.ge b (hs.subset hb)⟩
theorem Fr.insert {w w1 : World} {b0 b1 b2 : List Nat} {g : Nat} (h : Fr w (b0 ++ (b1 ++ b2))) (hl : ∀ b, b ∈ b0 ++ (b1 ++ b2) → b < w1.heap.size) (hg : w1.heap.size ≤ g) (hw : w.heap.size ≤ w1.heap.size) : Fr w (b0 ++ (b1 ++ (g :: b2))) := by
  have hp : (b0 ++ (b1 ++ (g :: b2))).Perm (g :: (b0 ++ (b1 ++ b2))) := by
    rw [← List.append_assoc, ← List.append_assoc]
    exact List.perm_middle
  refine ⟨hp.nodup_iff.2 (List.nodup_cons.2 ⟨fun hm => ?_, h.nd⟩), fun b hb => ?_⟩
  · have := hl g hm; omega
  · rcases List.mem_cons.1 (hp.mem_iff.1 hb) with rfl | hb
    · omega
    · exact h.ge b hb
theorem uP {w : World} {e e2 : TypeId} {sz sz2 : Nat} {a a2 : Option Addr} {n n2 c c2 : Nat} {xs xs2 : List Value} {o o2 : Option Nat} (h : OwnS w e sz a n c xs o) (h2 : OwnS w e2 sz2 a2 n2 c2 xs2 o2) (hne : e ≠ e2) : Apart o o2 := fun g h3 h4 => by
  rcases h.2 with ⟨_, _, h5⟩ | ⟨g', _, cur, hg, _, hb, _⟩
  · rw [h5] at h3; cases h3
  · rcases h2.2 with ⟨_, _, h5⟩ | ⟨g2, _, cur2, hg2, _, hb2, _⟩
    · rw [h5] at h4; cases h4
    · rw [h3] at hg; cases hg
      rw [h4] at hg2; cases hg2
      rw [hb] at hb2
      injection hb2 with hb2
      injection hb2 with _ hb2
      exact hne hb2
theorem BM {w : World} {e e2 : TypeId} {sz2 : Nat} {a2 : Option Addr} {n2 c2 : Nat} {xs2 : List Value} {o2 : Option Nat} {b : Nat} {cs : Array Value} (h : w.heap[b]? = some (.cells cs e (0, 0))) (h2 : OwnS w e2 sz2 a2 n2 c2 xs2 o2) (hne : e ≠ e2) : Apart (some b) o2 := fun g h3 h4 => by
  cases h3
  rcases h2.2 with ⟨_, _, h5⟩ | ⟨g2, _, cur2, hg2, _, hb2, _⟩
  · rw [h5] at h4; cases h4
  · rw [h4] at hg2; cases hg2
    rw [h] at hb2
    injection hb2 with hb2
    injection hb2 with _ hb2
    exact hne hb2
theorem put_end {c1 c2 vs : List Value} (h : vs.length = c2.length) : tX (c1 ++ c2) c1.length vs = c1 ++ vs := by
  unfold tX
  rw [List.take_left, List.drop_append, h]
  simp
theorem pX {w : World} {g : Nat} {c1 c2 : List Value} (h : CellsAt w g 0 (c1 ++ c2)) : CellsAt w g (0 + c1.length) c2 := fun j v hj => by
  have h1 := h (c1.length + j) v (by rw [List.getElem?_append_right (by omega)]; simpa using hj)
  rw [← Nat.add_assoc] at h1
  exact h1
theorem LI {l : List Rx} (h : l ≠ []) : ∃ l' x, l = l' ++ [x] ∧ l.dropLast = l' ∧ (∀ d, l.getLastD d = x) := by
  rcases List.eq_nil_or_concat l with rfl | ⟨l', x, rfl⟩
  · exact (h rfl).elim
  · exact ⟨l', x, by simp, by simp, fun d => by simp⟩
theorem CF {X : List Nat} {w1 w2 : World} {x : Rx} {vs : List Value} {bs : List Nat} {g : Nat} {lo hi : Int} {z : Bool} (hO : OwnS w2 37 9 (some ⟨g, 0, none⟩) 1 1 vs (some g)) (hT : OT x w1 vs bs) (he : Evo X w1 w2) (hx : ∀ b, b ∈ bs → b ∉ X) :
    OT (jD lo hi z x) w2 [iv 6, .int .i32 0, .slice none 0 0, iv lo, iv hi, .bool z, iv 0, .string ByteArray.empty, .slice (some ⟨g, 0, none⟩) 1 1] (g :: bs) := by
  unfold jD
  rw [OT]
  exact ⟨none, 0, none, _, 1, some g, vs, bs, rfl, OwnS.nil _ _ _, hO, OTs.single (hT.evo he hx), rfl, by simp, by show (0 : Nat) ≤ 1000000; omega, by simp⟩
end Go.Proofs.Ytidpigbinpaaeaa
