/- Joins: part 4 of 6 of what the law rests on. -/
import Derived.Test.YtljadkcojnlioaaGreatDoorTkC
set_option linter.unusedSectionVars false
set_option linter.unusedSimpArgs false
set_option linter.unusedVariables false
namespace Go.Proofs.YtljadkcojnlioaaGreatDoor
open Go.RowKit Go.W
attribute [local irreducible] Decidable.decide
theorem qH : eY Tryz.prog 133 := ⟨_, Tryz.func133, by kernel_rfl, by kernel_rfl⟩
theorem nL : eY Tryz.prog 142 := ⟨_, Tryz.func142, by kernel_rfl, by kernel_rfl⟩
theorem uI : eY Tryz.prog 144 := ⟨_, Tryz.func144, by kernel_rfl, by kernel_rfl⟩
theorem EF : eY Tryz.prog 145 := ⟨_, Tryz.func145, by kernel_rfl, by kernel_rfl⟩
theorem EE : eY Tryz.prog 146 := ⟨_, Tryz.func146, by kernel_rfl, by kernel_rfl⟩
theorem gI : eY Tryz.prog 147 := ⟨_, Tryz.func147, by kernel_rfl, by kernel_rfl⟩
def LetU (w w' : World) (v : Value) (o : Option (Int → Prop)) : Prop := ∃ a c ob l, v = .tuple #[.slice a l.length c, .bool o.isSome] ∧ OwnS w' 56 2 a l.length c (dZ l) ob ∧ Ge w ob ∧ Vr l ∧ l.length ≤ 8 ∧ ∀ S, o = some S → ∀ c, InR c l ↔ S c
theorem LetOut.uni {w w' : World} {v : Value} {o : Option (Int → Prop)} (h : LetOut w w' v o) : LetU w w' v o := by
  rcases h with ⟨rfl, rfl⟩ | ⟨S, v', rfl, rfl, a, c, ob, l, rfl, h2, h3, h4, h5, h6⟩
  · exact ⟨none, 0, none, [], rfl, OwnS.nil _ _ _, Ge.nil _, (fun g hg => by cases hg), Nat.zero_le _, fun S h => by cases h⟩
  · exact ⟨a, c, ob, l, rfl, h2, h3, h4, h6, fun S' e => by cases e; exact h5⟩
theorem wM {α : Type} {o : Option α} (h : o.isSome = true) : ∃ x, o = some x := Option.isSome_iff_exists.1 h
theorem none_of {α : Type} {o : Option α} (h : (!o.isSome) = true) : o = none := by cases o with | none => rfl | some x => cases h
theorem iH {α : Type} {o : Option α} (h : o.isSome = false) : o = none := by cases o with | none => rfl | some x => cases h
theorem LW {s : ByteArray} {a b j : Nat} (h : 0 ≤ GJ s a b j) : ∃ k, iG s a b s.size j = some k ∧ GJ s a b j = (k : Int) - (j : Nat) ∧ j ≤ k ∧ k + 1 < s.size := by
  unfold GJ at *
  cases hf : iG s a b s.size j with
  | none => rw [hf] at h; exact absurd h (show ¬ (0 : Int) ≤ -1 by omega)
  | some k =>
    obtain ⟨h1, h2, h3⟩ := (lE s a b s.size j (by omega)).1 k hf
    exact ⟨k, rfl, rfl, h1, h2.1⟩
theorem iV {s : ByteArray} {a b j : Nat} (h : ¬ 0 ≤ GJ s a b j) : iG s a b s.size j = none := by
  unfold GJ at h
  cases hf : iG s a b s.size j with
  | none => rfl
  | some k =>
    rw [hf] at h
    obtain ⟨h1, h2, h3⟩ := (lE s a b s.size j (by omega)).1 k hf
    exact absurd (show (0 : Int) ≤ (k : Int) - j by omega) h
section
variable {s : ByteArray} {i k j m : Nat} {S : Int → Prop} {r q : Int} {e : Int}
theorem it_cut (h1 : isB s i 91 ∧ isB s (i + 1) 58) (h2 : iG s 58 93 s.size (i + 2) = some k) (h3 : i + 2 < k ∧ sb s (i + 2) = 94) (h4 : jO (s.extract (i + 3) k) = some S) : iN s i = .ok (tM S, k + 2) := by unfold iN; rw [if_pos h1, h2]; show (if _ then _ else _) = _; rw [if_pos h3, h4]
theorem it_cutN (h1 : isB s i 91 ∧ isB s (i + 1) 58) (h2 : iG s 58 93 s.size (i + 2) = some k) (h3 : i + 2 < k ∧ sb s (i + 2) = 94) (h4 : jO (s.extract (i + 3) k) = none) : iN s i = .error 81 := by unfold iN; rw [if_pos h1, h2]; show (if _ then _ else _) = _; rw [if_pos h3, h4]
theorem it_nam (h1 : isB s i 91 ∧ isB s (i + 1) 58) (h2 : iG s 58 93 s.size (i + 2) = some k) (h3 : ¬ (i + 2 < k ∧ sb s (i + 2) = 94)) (h4 : jO (s.extract (i + 2) k) = some S) : iN s i = .ok (S, k + 2) := by unfold iN; rw [if_pos h1, h2]; show (if _ then _ else _) = _; rw [if_neg h3, h4]
theorem it_namN (h1 : isB s i 91 ∧ isB s (i + 1) 58) (h2 : iG s 58 93 s.size (i + 2) = some k) (h3 : ¬ (i + 2 < k ∧ sb s (i + 2) = 94)) (h4 : jO (s.extract (i + 2) k) = none) : iN s i = .error 81 := by unfold iN; rw [if_pos h1, h2]; show (if _ then _ else _) = _; rw [if_neg h3, h4]
theorem dR (h : (isB s i 91 ∧ isB s (i + 1) 58) → iG s 58 93 s.size (i + 2) = none) : iN s i = jA s i := by
  unfold iN
  by_cases h1 : isB s i 91 ∧ isB s (i + 1) 58
  · rw [if_pos h1, h h1]
  · rw [if_neg h1]
theorem SF (h1 : i + 1 < s.size ∧ sb s i = 92) (h2 : tO (sb s (i + 1)) = some S) : jA s i = .ok (S, i + 2) := by unfold jA; rw [if_pos h1, h2]
theorem eZ (h : (i + 1 < s.size ∧ sb s i = 92) → tO (sb s (i + 1)) = none) : jA s i = gP s i := by
  unfold jA
  by_cases h1 : i + 1 < s.size ∧ sb s i = 92
  · rw [if_pos h1, h h1]
  · rw [if_neg h1]
theorem uX (h : jV s i = .error e) : gP s i = .error e := by unfold gP; rw [h]
theorem kJ (h : jV s i = .ok (r, j)) (h2 : ¬ (isB s j 45 ∧ j + 1 < s.size ∧ sb s (j + 1) ≠ 93)) : gP s i = .ok (rgS r r, j) := by unfold gP; rw [h]; show (if _ then _ else _) = _; rw [if_neg h2]
theorem rT (h : jV s i = .ok (r, j)) (h2 : isB s j 45 ∧ j + 1 < s.size ∧ sb s (j + 1) ≠ 93) (h3 : jV s (j + 1) = .error e) : gP s i = .error e := by unfold gP; rw [h]; show (if _ then _ else _) = _; rw [if_pos h2, h3]
theorem uY (h : jV s i = .ok (r, j)) (h2 : isB s j 45 ∧ j + 1 < s.size ∧ sb s (j + 1) ≠ 93) (h3 : jV s (j + 1) = .ok (q, m)) (h4 : q < r) : gP s i = .error 81 := by unfold gP; rw [h]; show (if _ then _ else _) = _; rw [if_pos h2, h3]; show (if _ then _ else _) = _; rw [if_pos h4]
theorem uW (h : jV s i = .ok (r, j)) (h2 : isB s j 45 ∧ j + 1 < s.size ∧ sb s (j + 1) ≠ 93) (h3 : jV s (j + 1) = .ok (q, m)) (h4 : ¬ q < r) : gP s i = .ok (rgS r q, m) := by unfold gP; rw [h]; show (if _ then _ else _) = _; rw [if_pos h2, h3]; show (if _ then _ else _) = _; rw [if_neg h4]
end
theorem RO {s : ByteArray} {a : Nat} (h : 0 < (cE s a).2) {t : Nat} (h1 : 1 ≤ t) (h2 : t < (cE s a).2) : 128 ≤ sb s (a + t) := by
  have ha : a < s.size := by
    rcases Nat.lt_or_ge a s.size with h3 | h3
    · exact h3
    · rw [pE h3] at h; cases h
  rcases gG s a ha with ⟨w, hw1, hw4, hws, hit, -⟩ | ⟨hn, -⟩
  · obtain ⟨e, -⟩ := jN hw1 hw4 hws hit
    rw [e] at h2
    replace h2 : t < w := h2
    match w, hw1, hw4, hit, h2 with
    | 1, _, _, _, h2 => omega
    | 2, _, _, hit, h2 =>
      have := (hit2 s a).1 hit
      obtain rfl : t = 1 := by omega
      omega
    | 3, _, _, hit, h2 =>
      have := (hit3 s a).1 hit
      obtain rfl | rfl : t = 1 ∨ t = 2 := by omega
      · omega
      · omega
    | 4, _, _, hit, h2 =>
      have := (hit4 s a).1 hit
      obtain rfl | rfl | rfl : t = 1 ∨ t = 2 ∨ t = 3 := by omega
      · omega
      · omega
      · omega
  · rw [mN hn] at h; cases h
theorem nU {s : ByteArray} {i k : Nat} (hb : Bd s i) (hik : i ≤ k) (hk : k < s.size) (ha : sb s k < 128) : Bd s k := by
  obtain ⟨N, -, hU, -, -⟩ := hb
  have key : ∀ m, m ≤ N → k < dP s m → ∃ n, n < N ∧ dP s n ≤ k ∧ k < dP s (n + 1) := by
    intro m
    induction m with
    | zero => intro _ h; exact absurd h (Nat.not_lt_zero _)
    | succ m ih =>
      intro hm h
      by_cases h1 : k < dP s m
      · exact ih (by omega) h1
      · exact ⟨m, hm, by omega, h⟩
  obtain ⟨n, h1, h2, h3⟩ := key N (Nat.le_refl _) (by rw [hU.1]; exact hk)
  rcases Nat.eq_or_lt_of_le h2 with e | e
  · exact ⟨N, n, hU, by omega, e⟩
  · have h4 := RO (hU.2 n h1) (t := k - dP s n) (by omega) (by rw [dP] at h3; omega)
    rw [show dP s n + (k - dP s n) = k by omega] at h4
    omega
theorem kL (r q x : Int) : InR x [(r, q)] ↔ rgS r q x := by rw [jX]; exact Iff.rfl
theorem pT {s : ByteArray} {i j : Nat} {S : Int → Prop} (h : iN s i = .ok (S, j)) (hb : Bd s i) (hi : i < s.size) : Bd s j ∧ i < j := by
  have hrange : gP s i = .ok (S, j) → Bd s j ∧ i < j := fun h => by
    unfold gP at h
    cases h1 : jV s i with
    | error e => rw [h1] at h; cases h
    | ok x =>
      obtain ⟨lo, k⟩ := x
      obtain ⟨h2, h3, -⟩ := jU h1 hb hi
      rw [h1] at h
      replace h : (if isB s k 45 ∧ k + 1 < s.size ∧ sb s (k + 1) ≠ 93 then (match jV s (k + 1) with | .error e => .error e | .ok (hi, k) => if hi < lo then .error 81 else .ok (rgS lo hi, k)) else .ok (rgS lo lo, k) : PR) = .ok (S, j) := h
      split at h
      · rename_i h4
        have h5 := h4.1.asc (by decide) h2
        cases h6 : jV s (k + 1) with
        | error e => rw [h6] at h; cases h
        | ok y =>
          obtain ⟨hi2, m⟩ := y
          obtain ⟨h7, h8, -⟩ := jU h6 h5 h4.2.1
          rw [h6] at h
          replace h : (if hi2 < lo then .error 81 else .ok (rgS lo hi2, m) : PR) = .ok (S, j) := h
          split at h
          · cases h
          · cases h; exact ⟨h7, by omega⟩
      · cases h; exact ⟨h2, h3⟩
  have hrest : jA s i = .ok (S, j) → Bd s j ∧ i < j := fun h => by
    unfold jA at h
    split at h
    · rename_i h1
      cases h2 : tO (sb s (i + 1)) with
      | none => rw [h2] at h; exact hrange h
      | some S' =>
        rw [h2] at h
        cases h
        have h3 := (hb.asc hi (by omega)).1
        refine ⟨(h3.asc h1.1 ?_).1, by omega⟩
        rcases Nat.lt_or_ge (sb s (i + 1)) 128 with h4 | h4
        · exact h4
        · rw [vB (by omega)] at h2; cases h2
    · exact hrange h
  unfold iN at h
  split at h
  · rename_i h1
    cases h2 : iG s 58 93 s.size (i + 2) with
    | none => rw [h2] at h; exact hrest h
    | some k =>
      rw [h2] at h
      obtain ⟨h3, h4, -⟩ := (lE s 58 93 s.size (i + 2) (by omega)).1 k h2
      have hk : ∃ S', (.ok (S', k + 2) : PR) = .ok (S, j) := by
        replace h : (if i + 2 < k ∧ sb s (i + 2) = 94 then (match jO (s.extract (i + 3) k) with | none => .error 81 | some S => .ok (tM S, k + 2)) else (match jO (s.extract (i + 2) k) with | none => .error 81 | some S => .ok (S, k + 2)) : PR) = .ok (S, j) := h
        split at h
        · split at h
          · cases h
          · exact ⟨_, h⟩
        · split at h
          · cases h
          · exact ⟨_, h⟩
      obtain ⟨S', h5⟩ := hk
      cases h5
      have h6 : Bd s k := nU hb (by omega) (by have := h4.1; omega) (by have := h4.2.1; omega)
      exact ⟨isB.asc (b := 93) ⟨h4.1, h4.2.2⟩ (by decide) (isB.asc (b := 58) ⟨by have := h4.1; omega, h4.2.1⟩ (by decide) h6), by omega⟩
  · exact hrest h
theorem cut_iff {s : ByteArray} {i k : Nat} (hk : k ≤ s.size) : (Pre (s.extract i k) (ByteArray.mk #[94]) ↔ i < k ∧ sb s i = 94) ∧ (i < k → (s.extract i k).extract (ByteArray.mk #[94]).size (s.extract i k).size = s.extract (i + 1) k) := by
  have hns := fU (s := s) (a := i) (b := k) hk
  constructor
  · rw [PW]
    constructor
    · rintro ⟨h1, h2⟩
      rw [hns] at h1
      rw [dV hk (by omega)] at h2
      exact ⟨by omega, h2⟩
    · rintro ⟨h1, h2⟩
      exact ⟨by rw [hns]; omega, by rw [dV hk (by omega)]; exact h2⟩
  · intro h1
    show (s.extract i k).extract 1 (s.extract i k).size = _
    apply tA
    · rw [fU (Nat.le_refl _), hns, fU hk]; omega
    · intro j hj
      rw [fU (Nat.le_refl _), hns] at hj
      rw [dV (Nat.le_refl _) (by rw [hns]; omega), dV hk (by omega), dV hk (by omega), Nat.add_assoc]
theorem LQ {w : World} {b : Nat} {s : ByteArray} {st : PS} {a : Option Addr} {c : Nat} {ob : Option Nat} (hR : RdAt w b s st a c ob) (hs : s.size ≤ 1000000) (hlt : st.pos < s.size) (hb : Bd s st.pos) (hG : Glb w) :
    Calls Tryz.prog 129 #[.pointer (some ⟨b, 0, none⟩)] w (RetP (fun v w' => ∃ S j, iN s st.pos = .ok (S, j) ∧ zG w w' v S 16 ∧ Evo [b] w w' ∧ RdAt w' b s (hY st j) a c ob) (fun v w' => ∃ e, iN s st.pos = .error e ∧ v = flt e ∧ Evo [b] w w')) := by
  have hap := hR.ap; have hgb : oI ∉ [b] := fun h => hR.glb hG (List.mem_singleton.1 h).symm
  have hle : st.pos ≤ s.size := by omega
  have hrs := fU (s := s) (a := st.pos) (Nat.le_refl s.size); have e0 : sb (s.extract st.pos s.size) 0 = sb s st.pos := gE (by omega); refine bJ (N := 126) Tryz.func129 rfl rfl rfl ?_; refine aE (aB (aM (aC (aA (aE ?_))))); refine fH (by kernel_rfl) (by kernel_rfl) ?_; refine bM (fun _ hq2 => bO rfl) ?_; refine bM (fun _ hq2 => aP rfl) ?_; refine bM (fun _ hq2 => aD rfl dE) ?_; refine bM (fun _ hq2 => aI rfl cJ (aJ (hq2.blk0 hR.blk) rfl)) ?_; refine bM (fun _ hq2 => bO rfl) ?_; refine bM (fun _ hq2 => aP rfl) ?_; refine bM (fun _ hq2 => aD rfl bE) ?_; refine bM (fun _ hq2 => aI rfl aZ (aJ (hq2.blk0 hR.blk) rfl)) ?_; refine bM (fun _ hq2 => gW (l := st.pos) rfl rfl Tryz.underlying9 rfl hle) ?_; refine bM (fun _ hq2 => eT rfl) ?_; refine fP (fun wq1 hq2 => aA ?_); refine aE (aE (aB (aG ?_))); refine aK (vs := [_, _]) nL rfl (wY (s.extract st.pos s.size) (ByteArray.mk #[91, 58]) (by omega) (show 2 ≤ 140737488355328 by omega)) rfl ?_; rintro _ w6 ⟨rfl, hw7⟩; have hE8 := ((Evo.refl [b] w).then hq2).then hw7; have hB9 := hw7.blk0 (hq2.blk0 hR.blk); have hO10 := (hR.own.evo0 hq2).evo0 hw7; refine aC (aA (bF rfl (fun hc23 => ?_) (fun hc23 => ?_)))
  ·have hh2 := (nC hle).1 hc23; refine aE (aB (aG ?_))
   refine aF (CQ (l := 2) rfl rfl Tryz.underlying9 rfl (by have := hh2.2.1; omega) (SZ hle)) ?_
   refine aK (vs := [_, _]) uI rfl (LR s 58 93 (st.pos + 2) (by have := hh2.2.1; omega) hs (hG.evo hE8 hgb)) rfl ?_
   rintro _ w11 ⟨rfl, hw12⟩; have hE13 := hE8.then hw12; have hB14 := hw12.blk0 hB9; have hO15 := hO10.evo0 hw12; refine aM (aC (aA (aE (aB (aG (aF (gC rfl rfl) ?_)))))); refine aC (aA (bF rfl (fun hc28 => ?_) (fun hc28 => ?_)))
   ·obtain ⟨k, hk, hfk, hk2, hk3⟩ := LW hc28; rw [hfk]
    have e33 : (s.extract st.pos s.size).extract 2 (k - st.pos) = s.extract (st.pos + 2) k := by rw [yM (by omega) (by omega), show st.pos + (k - st.pos) = k by omega]
    have hns := fU (s := s) (a := st.pos + 2) (b := k) (by omega); have hcut := cut_iff (s := s) (i := st.pos + 2) (k := k) (by omega); refine aE (aB (aG (aG ?_))); refine aF (bC rfl rfl (by omega) (by omega)) ?_; refine aF (rA (l := 2) (h := k - st.pos) rfl rfl rfl Tryz.underlying9 rfl (by omega) (by omega) (by omega) e33) ?_; refine aK (vs := [_, _]) EF rfl (cut_ok (s.extract (st.pos + 2) k) (ByteArray.mk #[94]) (by omega) (show 1 ≤ 140737488355328 by omega)) rfl ?_; rintro _ w16 ⟨rfl, hw17⟩; have hE18 := hE13.then hw17
    generalize hnm : (if Pre (s.extract (st.pos + 2) k) (ByteArray.mk #[94]) then (s.extract (st.pos + 2) k).extract (ByteArray.mk #[94]).size (s.extract (st.pos + 2) k).size else s.extract (st.pos + 2) k) = nm
    refine aG (aF (cN rfl rfl) ?_); refine aF (cN rfl rfl) ?_; refine aM (aM (aC (aA (aE (aB (aG (aK (vs := [_]) EE rfl (RQ nm) rfl ?_))))))); rintro rv w21 ⟨hL, hw22⟩; obtain ⟨a1, c1, ob1, l1, rfl, hO1, hg1, hv1, hl1, hS1⟩ := hL.uni; have hE26 := hE18.then hw22; have hB27 := hw22.blk0 (hw17.blk0 hB14); refine aG (aF (cN rfl rfl) ?_); refine aF (cN rfl rfl) ?_; refine aM (aM (aC (aA (aE (aE (aB (aG (aF (fF rfl) ?_)))))))); refine aC (aA (fW rfl (fun hc43 => ?_) (fun hc43 => ?_)))
    ·refine aB (bT (vs := [_]) cS rfl (eO 81) rfl ?_ ?_)
     ·intro pv wp hpp; obtain ⟨rfl, hpw⟩ := hpp; have hno := none_of hc43; refine And.intro rfl ⟨_, rfl, _, ?_, rfl, (hE26).then hpw⟩
      by_cases hP : Pre (s.extract (st.pos + 2) k) (ByteArray.mk #[94])
      · have h9 := hcut.1.1 hP; rw [if_pos hP, hcut.2 h9.1] at hnm; subst hnm; exact it_cutN hh2 hk h9 hno
      · rw [if_neg hP] at hnm; subst hnm; exact it_namN hh2 hk (fun h => hP (hcut.1.2 h)) hno
     intro _ _ hF; exact hF.elim
    obtain ⟨S1, hS1'⟩ := wM (by simpa using hc43); refine aU (aA (aE (aB (aG (aF (aP rfl) (aF (aD rfl bE) (aF (aI rfl aZ (aJ hB27 rfl)) (aG ?_)))))))); refine aF (bC rfl rfl (by omega) (by omega)) ?_; refine aF (CV (r := ((k + 2 : Nat) : Int)) rfl rfl (by omega) (by omega) (by omega)) ?_; refine aF (aP rfl) (aF (aD rfl bE) (bG rfl rfl (rfl) bV hB27 rfl fun w31 hB32 hw33 => ?_)); have hE34 := hE26.step hw33 (fun y hy => .inl hy); have hO35 := ((hO15.evo0 hw17).evo0 hw22).evo hw33 hap.symm.own1; have hO36 := hO1.evo hw33 (Apart.fresh (Lt.blk (hw17.blk0 hB14)) hg1).symm.own1
    try simp only [cR, Nat.reduceAdd] at hB32
    refine aC (aA (aE (aE (aB (aG (aC (aA (bF rfl (fun hc54 => ?_) (fun hc54 => ?_)))))))))
    ·refine aB (aG ?_); refine aK (vs := [_]) kT rfl (mO hO36 hv1 (by omega) (hS1 S1 hS1')) rfl ?_; rintro rv w37 hR1; have hw38 := hR1.evo; refine aM (aC (aA (aE (aB (aG (aM (aC (aA (aO (aN (bS (br1 ?_)))))))))))); have h9 := hcut.1.1 hc54; rw [if_pos hc54, hcut.2 h9.1] at hnm; subst hnm; exact ⟨_, _, it_cut hh2 hk h9 hS1', rS (hR1.set hE34) (by omega), (hE34.then hw38), ⟨(hw38.blk0 hB32), (hO35.evo0 hw38), hR.ne⟩⟩
    refine aU (aA (aE (aB (aG (aM (aC (aA (aO (aN (bS (br1 ?_))))))))))); rw [if_neg hc54] at hnm; subst hnm; exact ⟨_, _, it_nam hh2 hk (fun h => hc54 (hcut.1.2 h)) hS1', ⟨_, _, _, _, rfl, hO36, (Ge.fresh hE18 hg1), hv1, hS1 S1 hS1', by omega⟩, hE34, ⟨hB32, hO35, hR.ne⟩⟩
   refine aU (aA (aE (aE (aB (aG (aF (cM rfl Tryz.underlying9 rfl) ?_)))))); refine aF (gL rfl rfl) ?_; refine aG (aV (t := 61) rfl (fun hs61 => ?_) (fun hs61 => ?_))
   ·have e1 : sb (s.extract st.pos s.size) 1 = sb s (st.pos + 1) := gE (by omega); refine aQ (aG (aQ ?_)); refine aF (fK (n := 0) rfl rfl Tryz.underlying9 rfl (by omega) e0) ?_; refine aQ (aF (bD rfl rfl) ?_); refine bH (aC (aA (bF rfl (fun hc65 => ?_) (fun hc65 => ?_))))
    ·refine aE (aB (aG ?_)); refine aF (fK (n := 1) rfl rfl Tryz.underlying9 rfl (by omega) e1) ?_; refine aK (vs := [_]) qH rfl (qA (sb s (st.pos + 1)) (jM s _)) rfl ?_; rintro rv w43 ⟨hL, hw44⟩; obtain ⟨a1, c1, ob1, l1, rfl, hO1, hg1, hv1, hl1, hS1⟩ := hL.uni; have hE48 := hE13.then hw44; have hB49 := hw44.blk0 hB14; refine aG (aF (cN rfl rfl) ?_); refine aF (cN rfl rfl) ?_; refine aM (aM (aC (aA (aE (aB (aG (aC (aA (fW rfl (fun hc72 => ?_) (fun hc72 => ?_))))))))))
     ·obtain ⟨S1, hS1'⟩ := wM hc72; refine aE (aB (aG (aF (aP rfl) (aF (aD rfl bE) (aF (aI rfl aZ (aJ hB49 rfl)) ?_))))); refine aF (bC rfl rfl (by omega) (by omega)) ?_; refine aF (aP rfl) (aF (aD rfl bE) (bG rfl rfl (rfl) bV hB49 rfl fun w51 hB52 hw53 => ?_))
      try simp only [cR, Nat.reduceAdd] at hB52
      refine aC (aA (aE (aB (aG (aM (aC (aA (aO (aN (bS (br1 ?_))))))))))); exact ⟨_, _, (dR (fun _ => iV hc28)).trans (SF ⟨by omega, by omega⟩ hS1'), ⟨_, _, _, _, rfl, (hO1.evo hw53 (Apart.fresh (Lt.blk hB14) hg1).symm.own1), (Ge.fresh hE13 hg1), hv1, hS1 S1 hS1', by omega⟩, (hE48.step hw53 (fun y hy => .inl hy)), ⟨hB52, ((hO15.evo0 hw44).evo hw53 hap.symm.own1), hR.ne⟩⟩
     refine aU (aA (aE (aB (aG (bT (vs := [_]) gI rfl (jB ⟨hB49, (hO15.evo0 hw44), hR.ne⟩ hs hlt hb) rfl ?_ ?_)))))
     ·intro pv wp hpp; obtain ⟨hpe, rfl, hpw⟩ := hpp; exact And.intro rfl ⟨_, rfl, _, (dR (fun _ => iV hc28)).trans ((eZ (fun _ => iH hc72)).trans (uX hpe)), rfl, (hE48).step hpw (fun y hy => .inl hy)⟩
     rintro _ w57 ⟨lo, j, hx, rfl, hw58, hR3⟩; obtain ⟨hbj, hij, hlo0, hlo1⟩ := jU hx hb hlt; have hpj : (hY st j).pos = j := rfl; have hbjl := hbj.le; have hrs2 := fU (s := s) (a := j) (Nat.le_refl s.size); refine aM (aC (aA (aE ?_))); refine fH (by kernel_rfl) (by kernel_rfl) ?_; refine bM (fun _ hq62 => bO rfl) ?_; refine bM (fun _ hq62 => aP rfl) ?_; refine bM (fun _ hq62 => aD rfl dE) ?_; refine bM (fun _ hq62 => aI rfl cJ (aJ (hq62.blk0 hR3.blk) rfl)) ?_; refine bM (fun _ hq62 => bO rfl) ?_; refine bM (fun _ hq62 => aP rfl) ?_; refine bM (fun _ hq62 => aD rfl bE) ?_; refine bM (fun _ hq62 => aI rfl aZ (aJ (hq62.blk0 hR3.blk) rfl)) ?_; refine bM (fun _ hq62 => gW (l := j) rfl rfl Tryz.underlying9 rfl hbj.le) ?_; refine bM (fun _ hq62 => eT rfl) ?_; refine fP (fun wq61 hq62 => aA ?_); have hE63 := (hE48.step hw58 (fun y hy => .inl hy)).then hq62; have hB65 := hq62.blk0 hR3.blk; have hO66 := hR3.own.evo0 hq62; refine aE (aE (aB (aG (aF (cM rfl Tryz.underlying9 rfl) ?_)))); refine aF (dF rfl rfl) ?_; refine aG (aV (t := 95) rfl (fun hs95 => ?_) (fun hs95 => ?_))
     ·refine aH (aH (aH (bH (aG (aH (aH (aH (bH (aC (aA (cV rfl ?_))))))))))); refine aE (aB (aG (aG (bL (vs := [_, _]) rfl bZ rfl rfl rfl rfl fun b67 w68 hO69 hs70 hw71 => ?_)))); refine aK (vs := [_]) cA rfl (dQ (es := [lo, lo]) hO69 (by simp)) rfl ?_; rintro _ w80 ⟨a1, c1, ob1, rfl, hO1, hg1, hw81⟩; have hG86 := Ge.fresh (hE63.then hw71) hg1; have hE87 := (hE63.then hw71).then hw81; have hB89 := hw81.blk0 (hw71.blk0 hB65); have hO90 := (hO66.evo0 hw71).evo0 hw81; refine aM (aC (aA (aO (aN (bS (br1 ?_))))))
      exact ⟨_, _, (dR (fun _ => iV hc28)).trans ((eZ (fun _ => iH hc72)).trans (kJ hx (by rintro ⟨⟨h1, h2⟩, h3, h4⟩; omega))), ⟨_, _, _, [(lo, lo)], rfl, hO1, hG86, (fun g hg => by rw [List.mem_singleton.1 hg]; exact ⟨hlo0, Int.le_refl _, hlo1⟩), kL lo lo, by simp⟩, hE87, ⟨hB89, hO90, hR.ne⟩⟩
     have f0 : sb (s.extract j s.size) 0 = sb s j := gE (by omega); have f1 : sb (s.extract j s.size) 1 = sb s (j + 1) := gE (by omega); refine aQ (aG (aQ ?_)); refine aF (fK (n := 0) rfl rfl Tryz.underlying9 rfl (by omega) f0) ?_; refine aQ (aF (fX rfl rfl) ?_); refine aR (aG (aV (t := 100) rfl (fun hs100 => ?_) (fun hs100 => ?_)))
     ·refine aH (aH (aH (bH (aC (aA (cV rfl ?_)))))); refine aE (aB (aG (aG (bL (vs := [_, _]) rfl bZ rfl rfl rfl rfl fun b92 w93 hO94 hs95 hw96 => ?_)))); refine aK (vs := [_]) cA rfl (dQ (es := [lo, lo]) hO94 (by simp)) rfl ?_; rintro _ w105 ⟨a1, c1, ob1, rfl, hO1, hg1, hw106⟩; have hG111 := Ge.fresh (hE63.then hw96) hg1; have hE112 := (hE63.then hw96).then hw106; have hB114 := hw106.blk0 (hw96.blk0 hB65); have hO115 := (hO66.evo0 hw96).evo0 hw106; refine aM (aC (aA (aO (aN (bS (br1 ?_))))))
      exact ⟨_, _, (dR (fun _ => iV hc28)).trans ((eZ (fun _ => iH hc72)).trans (kJ hx (by rintro ⟨⟨h1, h2⟩, h3, h4⟩; omega))), ⟨_, _, _, [(lo, lo)], rfl, hO1, hG111, (fun g hg => by rw [List.mem_singleton.1 hg]; exact ⟨hlo0, Int.le_refl _, hlo1⟩), kL lo lo, by simp⟩, hE112, ⟨hB114, hO115, hR.ne⟩⟩
     refine aQ (aG (aQ ?_)); refine aF (fK (n := 1) rfl rfl Tryz.underlying9 rfl (by omega) f1) ?_; refine aQ (aF (bD rfl rfl) ?_); refine aR (aC (aA (bF rfl (fun hc104 => ?_) (fun hc104 => ?_))))
     ·refine aE (aB (aG (aG (bL (vs := [_, _]) rfl bZ rfl rfl rfl rfl fun b117 w118 hO119 hs120 hw121 => ?_)))); refine aK (vs := [_]) cA rfl (dQ (es := [lo, lo]) hO119 (by simp)) rfl ?_; rintro _ w130 ⟨a1, c1, ob1, rfl, hO1, hg1, hw131⟩; have hG136 := Ge.fresh (hE63.then hw121) hg1; have hE137 := (hE63.then hw121).then hw131; have hB139 := hw131.blk0 (hw121.blk0 hB65); have hO140 := (hO66.evo0 hw121).evo0 hw131; refine aM (aC (aA (aO (aN (bS (br1 ?_))))))
      exact ⟨_, _, (dR (fun _ => iV hc28)).trans ((eZ (fun _ => iH hc72)).trans (kJ hx (by rintro ⟨⟨h1, h2⟩, h3, h4⟩; omega))), ⟨_, _, _, [(lo, lo)], rfl, hO1, hG136, (fun g hg => by rw [List.mem_singleton.1 hg]; exact ⟨hlo0, Int.le_refl _, hlo1⟩), kL lo lo, by simp⟩, hE137, ⟨hB139, hO140, hR.ne⟩⟩
     have hdash : isB s j 45 ∧ j + 1 < s.size ∧ sb s (j + 1) ≠ 93 := ⟨⟨by omega, by omega⟩, by omega, by omega⟩; have hbj1 := hdash.1.asc (by decide) hbj; refine aU (aA (aE (aB (aG (aF (aP rfl) (aF (aD rfl bE) (aF (aI rfl aZ (aJ hB65 rfl)) ?_))))))); refine aF (bC rfl rfl (by omega) (by omega)) ?_; refine aF (aP rfl) (aF (aD rfl bE) (bG rfl rfl (rfl) bV hB65 rfl fun w142 hB143 hw144 => ?_)); have hE145 := hE63.step hw144 (fun y hy => .inl hy)
     try simp only [cR, Nat.reduceAdd] at hB143
     refine aC (aA (aE (aB (aG (bT (vs := [_]) gI rfl (jB (st := hY st (j + 1)) ⟨hB143, (hO66.evo hw144 hR3.ap.symm.own1), hR.ne⟩ hs hdash.2.1 hbj1) rfl ?_ ?_)))))
     ·intro pv wp hpp; obtain ⟨hpe, rfl, hpw⟩ := hpp; exact And.intro rfl ⟨_, rfl, _, (dR (fun _ => iV hc28)).trans ((eZ (fun _ => iH hc72)).trans (rT hx hdash hpe)), rfl, (hE145).step hpw (fun y hy => .inl hy)⟩
     rintro _ w148 ⟨hi, m, hx2, rfl, hw149, hR4⟩; have hE150 := hE145.step hw149 (fun y hy => .inl hy); obtain ⟨hbm, hjm, hhi0, hhi1⟩ := jU hx2 hbj1 hdash.2.1; refine aM (aC (aA (aE (aE (aB (aG (aG (aF (dF rfl rfl) ?_)))))))); refine aC (aA (bF rfl (fun hc120 => ?_) (fun hc120 => ?_)))
     ·refine aB (bT (vs := [_]) cS rfl (eO 81) rfl ?_ ?_)
      ·intro pv wp hpp; obtain ⟨rfl, hpw⟩ := hpp; exact And.intro rfl ⟨_, rfl, _, (dR (fun _ => iV hc28)).trans ((eZ (fun _ => iH hc72)).trans (uY hx hdash hx2 (by omega))), rfl, (hE150).then hpw⟩
      intro _ _ hF; exact hF.elim
     refine aU (aA (aE (aB (aG (aG (bL (vs := [_, _]) rfl bZ rfl rfl rfl rfl fun b154 w155 hO156 hs157 hw158 => ?_)))))); refine aK (vs := [_]) cA rfl (dQ (es := [lo, hi]) hO156 (by simp)) rfl ?_; rintro _ w167 ⟨a1, c1, ob1, rfl, hO1, hg1, hw168⟩; refine aM (aC (aA (aO (bS (br1 ?_)))))
     exact ⟨_, _, (dR (fun _ => iV hc28)).trans ((eZ (fun _ => iH hc72)).trans (uW hx hdash hx2 (by omega))), ⟨_, _, _, [(lo, hi)], rfl, hO1, (Ge.fresh (hE150.then hw158) hg1), (fun g hg => by rw [List.mem_singleton.1 hg]; exact ⟨hlo0, by omega, hhi1⟩), kL lo hi, by simp⟩, ((hE150.then hw158).then hw168), ⟨(hw168.blk0 (hw158.blk0 hR4.blk)), ((hR4.own.evo0 hw158).evo0 hw168), hR.ne⟩⟩
    refine aU (aA (aE (aB (aG (bT (vs := [_]) gI rfl (jB ⟨hB14, hO15, hR.ne⟩ hs hlt hb) rfl ?_ ?_)))))
    ·intro pv wp hpp; obtain ⟨hpe, rfl, hpw⟩ := hpp; exact And.intro rfl ⟨_, rfl, _, (dR (fun _ => iV hc28)).trans ((eZ (fun h => by omega)).trans (uX hpe)), rfl, (hE13).step hpw (fun y hy => .inl hy)⟩
    rintro _ w179 ⟨lo, j, hx, rfl, hw180, hR3⟩; obtain ⟨hbj, hij, hlo0, hlo1⟩ := jU hx hb hlt; have hpj : (hY st j).pos = j := rfl; have hbjl := hbj.le; have hrs2 := fU (s := s) (a := j) (Nat.le_refl s.size); refine aM (aC (aA (aE ?_))); refine fH (by kernel_rfl) (by kernel_rfl) ?_; refine bM (fun _ hq183 => bO rfl) ?_; refine bM (fun _ hq183 => aP rfl) ?_; refine bM (fun _ hq183 => aD rfl dE) ?_; refine bM (fun _ hq183 => aI rfl cJ (aJ (hq183.blk0 hR3.blk) rfl)) ?_; refine bM (fun _ hq183 => bO rfl) ?_; refine bM (fun _ hq183 => aP rfl) ?_; refine bM (fun _ hq183 => aD rfl bE) ?_; refine bM (fun _ hq183 => aI rfl aZ (aJ (hq183.blk0 hR3.blk) rfl)) ?_; refine bM (fun _ hq183 => gW (l := j) rfl rfl Tryz.underlying9 rfl hbj.le) ?_; refine bM (fun _ hq183 => eT rfl) ?_; refine fP (fun wq182 hq183 => aA ?_); have hE184 := (hE13.step hw180 (fun y hy => .inl hy)).then hq183; have hB185 := hq183.blk0 hR3.blk; have hO186 := hR3.own.evo0 hq183; refine aE (aE (aB (aG (aF (cM rfl Tryz.underlying9 rfl) ?_)))); refine aF (dF rfl rfl) ?_; refine aG (aV (t := 95) rfl (fun hs95 => ?_) (fun hs95 => ?_))
    ·refine aH (aH (aH (bH (aG (aH (aH (aH (bH (aC (aA (cV rfl ?_))))))))))); refine aE (aB (aG (aG (bL (vs := [_, _]) rfl bZ rfl rfl rfl rfl fun b187 w188 hO189 hs190 hw191 => ?_)))); refine aK (vs := [_]) cA rfl (dQ (es := [lo, lo]) hO189 (by simp)) rfl ?_; rintro _ w198 ⟨a1, c1, ob1, rfl, hO1, hg1, hw199⟩; have hG203 := Ge.fresh (hE184.then hw191) hg1; have hE204 := (hE184.then hw191).then hw199; have hB205 := hw199.blk0 (hw191.blk0 hB185); have hO206 := (hO186.evo0 hw191).evo0 hw199; refine aM (aC (aA (aO (aN (bS (br1 ?_))))))
     exact ⟨_, _, (dR (fun _ => iV hc28)).trans ((eZ (fun h => by omega)).trans (kJ hx (by rintro ⟨⟨h1, h2⟩, h3, h4⟩; omega))), ⟨_, _, _, [(lo, lo)], rfl, hO1, hG203, (fun g hg => by rw [List.mem_singleton.1 hg]; exact ⟨hlo0, Int.le_refl _, hlo1⟩), kL lo lo, by simp⟩, hE204, ⟨hB205, hO206, hR.ne⟩⟩
    have f0 : sb (s.extract j s.size) 0 = sb s j := gE (by omega); have f1 : sb (s.extract j s.size) 1 = sb s (j + 1) := gE (by omega); refine aQ (aG (aQ ?_)); refine aF (fK (n := 0) rfl rfl Tryz.underlying9 rfl (by omega) f0) ?_; refine aQ (aF (fX rfl rfl) ?_); refine aR (aG (aV (t := 100) rfl (fun hs100 => ?_) (fun hs100 => ?_)))
    ·refine aH (aH (aH (bH (aC (aA (cV rfl ?_)))))); refine aE (aB (aG (aG (bL (vs := [_, _]) rfl bZ rfl rfl rfl rfl fun b208 w209 hO210 hs211 hw212 => ?_)))); refine aK (vs := [_]) cA rfl (dQ (es := [lo, lo]) hO210 (by simp)) rfl ?_; rintro _ w219 ⟨a1, c1, ob1, rfl, hO1, hg1, hw220⟩; have hG224 := Ge.fresh (hE184.then hw212) hg1; have hE225 := (hE184.then hw212).then hw220; have hB226 := hw220.blk0 (hw212.blk0 hB185); have hO227 := (hO186.evo0 hw212).evo0 hw220; refine aM (aC (aA (aO (aN (bS (br1 ?_))))))
     exact ⟨_, _, (dR (fun _ => iV hc28)).trans ((eZ (fun h => by omega)).trans (kJ hx (by rintro ⟨⟨h1, h2⟩, h3, h4⟩; omega))), ⟨_, _, _, [(lo, lo)], rfl, hO1, hG224, (fun g hg => by rw [List.mem_singleton.1 hg]; exact ⟨hlo0, Int.le_refl _, hlo1⟩), kL lo lo, by simp⟩, hE225, ⟨hB226, hO227, hR.ne⟩⟩
    refine aQ (aG (aQ ?_)); refine aF (fK (n := 1) rfl rfl Tryz.underlying9 rfl (by omega) f1) ?_; refine aQ (aF (bD rfl rfl) ?_); refine aR (aC (aA (bF rfl (fun hc104 => ?_) (fun hc104 => ?_))))
    ·refine aE (aB (aG (aG (bL (vs := [_, _]) rfl bZ rfl rfl rfl rfl fun b229 w230 hO231 hs232 hw233 => ?_)))); refine aK (vs := [_]) cA rfl (dQ (es := [lo, lo]) hO231 (by simp)) rfl ?_; rintro _ w240 ⟨a1, c1, ob1, rfl, hO1, hg1, hw241⟩; have hG245 := Ge.fresh (hE184.then hw233) hg1; have hE246 := (hE184.then hw233).then hw241; have hB247 := hw241.blk0 (hw233.blk0 hB185); have hO248 := (hO186.evo0 hw233).evo0 hw241; refine aM (aC (aA (aO (aN (bS (br1 ?_))))))
     exact ⟨_, _, (dR (fun _ => iV hc28)).trans ((eZ (fun h => by omega)).trans (kJ hx (by rintro ⟨⟨h1, h2⟩, h3, h4⟩; omega))), ⟨_, _, _, [(lo, lo)], rfl, hO1, hG245, (fun g hg => by rw [List.mem_singleton.1 hg]; exact ⟨hlo0, Int.le_refl _, hlo1⟩), kL lo lo, by simp⟩, hE246, ⟨hB247, hO248, hR.ne⟩⟩
    have hdash : isB s j 45 ∧ j + 1 < s.size ∧ sb s (j + 1) ≠ 93 := ⟨⟨by omega, by omega⟩, by omega, by omega⟩; have hbj1 := hdash.1.asc (by decide) hbj; refine aU (aA (aE (aB (aG (aF (aP rfl) (aF (aD rfl bE) (aF (aI rfl aZ (aJ hB185 rfl)) ?_))))))); refine aF (bC rfl rfl (by omega) (by omega)) ?_; refine aF (aP rfl) (aF (aD rfl bE) (bG rfl rfl (rfl) bV hB185 rfl fun w250 hB251 hw252 => ?_)); have hE253 := hE184.step hw252 (fun y hy => .inl hy)
    try simp only [cR, Nat.reduceAdd] at hB251
    refine aC (aA (aE (aB (aG (bT (vs := [_]) gI rfl (jB (st := hY st (j + 1)) ⟨hB251, (hO186.evo hw252 hR3.ap.symm.own1), hR.ne⟩ hs hdash.2.1 hbj1) rfl ?_ ?_)))))
    ·intro pv wp hpp; obtain ⟨hpe, rfl, hpw⟩ := hpp; exact And.intro rfl ⟨_, rfl, _, (dR (fun _ => iV hc28)).trans ((eZ (fun h => by omega)).trans (rT hx hdash hpe)), rfl, (hE253).step hpw (fun y hy => .inl hy)⟩
    rintro _ w255 ⟨hi, m, hx2, rfl, hw256, hR4⟩; have hE257 := hE253.step hw256 (fun y hy => .inl hy); obtain ⟨hbm, hjm, hhi0, hhi1⟩ := jU hx2 hbj1 hdash.2.1; refine aM (aC (aA (aE (aE (aB (aG (aG (aF (dF rfl rfl) ?_)))))))); refine aC (aA (bF rfl (fun hc120 => ?_) (fun hc120 => ?_)))
    ·refine aB (bT (vs := [_]) cS rfl (eO 81) rfl ?_ ?_)
     ·intro pv wp hpp; obtain ⟨rfl, hpw⟩ := hpp; exact And.intro rfl ⟨_, rfl, _, (dR (fun _ => iV hc28)).trans ((eZ (fun h => by omega)).trans (uY hx hdash hx2 (by omega))), rfl, (hE257).then hpw⟩
     intro _ _ hF; exact hF.elim
    refine aU (aA (aE (aB (aG (aG (bL (vs := [_, _]) rfl bZ rfl rfl rfl rfl fun b260 w261 hO262 hs263 hw264 => ?_)))))); refine aK (vs := [_]) cA rfl (dQ (es := [lo, hi]) hO262 (by simp)) rfl ?_; rintro _ w271 ⟨a1, c1, ob1, rfl, hO1, hg1, hw272⟩; refine aM (aC (aA (aO (bS (br1 ?_)))))
    exact ⟨_, _, (dR (fun _ => iV hc28)).trans ((eZ (fun h => by omega)).trans (uW hx hdash hx2 (by omega))), ⟨_, _, _, [(lo, hi)], rfl, hO1, (Ge.fresh (hE257.then hw264) hg1), (fun g hg => by rw [List.mem_singleton.1 hg]; exact ⟨hlo0, by omega, hhi1⟩), kL lo hi, by simp⟩, ((hE257.then hw264).then hw272), ⟨(hw272.blk0 (hw264.blk0 hR4.blk)), ((hR4.own.evo0 hw264).evo0 hw272), hR.ne⟩⟩
   refine aH (aH (aH (aR (aC (aA (cO rfl ?_)))))); refine aU (aA (aE (aB (aG (bT (vs := [_]) gI rfl (jB ⟨hB14, hO15, hR.ne⟩ hs hlt hb) rfl ?_ ?_)))))
   ·intro pv wp hpp; obtain ⟨hpe, rfl, hpw⟩ := hpp; exact And.intro rfl ⟨_, rfl, _, (dR (fun _ => iV hc28)).trans ((eZ (fun h => by omega)).trans (uX hpe)), rfl, (hE13).step hpw (fun y hy => .inl hy)⟩
   rintro _ w281 ⟨lo, j, hx, rfl, hw282, hR3⟩; obtain ⟨hbj, hij, hlo0, hlo1⟩ := jU hx hb hlt; have hpj : (hY st j).pos = j := rfl; have hbjl := hbj.le; have hrs2 := fU (s := s) (a := j) (Nat.le_refl s.size); refine aM (aC (aA (aE ?_))); refine fH (by kernel_rfl) (by kernel_rfl) ?_; refine bM (fun _ hq285 => bO rfl) ?_; refine bM (fun _ hq285 => aP rfl) ?_; refine bM (fun _ hq285 => aD rfl dE) ?_; refine bM (fun _ hq285 => aI rfl cJ (aJ (hq285.blk0 hR3.blk) rfl)) ?_; refine bM (fun _ hq285 => bO rfl) ?_; refine bM (fun _ hq285 => aP rfl) ?_; refine bM (fun _ hq285 => aD rfl bE) ?_; refine bM (fun _ hq285 => aI rfl aZ (aJ (hq285.blk0 hR3.blk) rfl)) ?_; refine bM (fun _ hq285 => gW (l := j) rfl rfl Tryz.underlying9 rfl hbj.le) ?_; refine bM (fun _ hq285 => eT rfl) ?_; refine fP (fun wq284 hq285 => aA ?_); have hE286 := (hE13.step hw282 (fun y hy => .inl hy)).then hq285; have hB287 := hq285.blk0 hR3.blk; have hO288 := hR3.own.evo0 hq285; refine aE (aE (aB (aG (aF (cM rfl Tryz.underlying9 rfl) ?_)))); refine aF (dF rfl rfl) ?_; refine aG (aV (t := 95) rfl (fun hs95 => ?_) (fun hs95 => ?_))
   ·refine aH (aH (aH (bH (aG (aH (aH (aH (bH (aC (aA (cV rfl ?_))))))))))); refine aE (aB (aG (aG (bL (vs := [_, _]) rfl bZ rfl rfl rfl rfl fun b289 w290 hO291 hs292 hw293 => ?_)))); refine aK (vs := [_]) cA rfl (dQ (es := [lo, lo]) hO291 (by simp)) rfl ?_; rintro _ w300 ⟨a1, c1, ob1, rfl, hO1, hg1, hw301⟩; have hG305 := Ge.fresh (hE286.then hw293) hg1; have hE306 := (hE286.then hw293).then hw301; have hB307 := hw301.blk0 (hw293.blk0 hB287); have hO308 := (hO288.evo0 hw293).evo0 hw301; refine aM (aC (aA (aO (aN (bS (br1 ?_))))))
    exact ⟨_, _, (dR (fun _ => iV hc28)).trans ((eZ (fun h => by omega)).trans (kJ hx (by rintro ⟨⟨h1, h2⟩, h3, h4⟩; omega))), ⟨_, _, _, [(lo, lo)], rfl, hO1, hG305, (fun g hg => by rw [List.mem_singleton.1 hg]; exact ⟨hlo0, Int.le_refl _, hlo1⟩), kL lo lo, by simp⟩, hE306, ⟨hB307, hO308, hR.ne⟩⟩
   have f0 : sb (s.extract j s.size) 0 = sb s j := gE (by omega); have f1 : sb (s.extract j s.size) 1 = sb s (j + 1) := gE (by omega); refine aQ (aG (aQ ?_)); refine aF (fK (n := 0) rfl rfl Tryz.underlying9 rfl (by omega) f0) ?_; refine aQ (aF (fX rfl rfl) ?_); refine aR (aG (aV (t := 100) rfl (fun hs100 => ?_) (fun hs100 => ?_)))
   ·refine aH (aH (aH (bH (aC (aA (cV rfl ?_)))))); refine aE (aB (aG (aG (bL (vs := [_, _]) rfl bZ rfl rfl rfl rfl fun b310 w311 hO312 hs313 hw314 => ?_)))); refine aK (vs := [_]) cA rfl (dQ (es := [lo, lo]) hO312 (by simp)) rfl ?_; rintro _ w321 ⟨a1, c1, ob1, rfl, hO1, hg1, hw322⟩; have hG326 := Ge.fresh (hE286.then hw314) hg1; have hE327 := (hE286.then hw314).then hw322; have hB328 := hw322.blk0 (hw314.blk0 hB287); have hO329 := (hO288.evo0 hw314).evo0 hw322; refine aM (aC (aA (aO (aN (bS (br1 ?_))))))
    exact ⟨_, _, (dR (fun _ => iV hc28)).trans ((eZ (fun h => by omega)).trans (kJ hx (by rintro ⟨⟨h1, h2⟩, h3, h4⟩; omega))), ⟨_, _, _, [(lo, lo)], rfl, hO1, hG326, (fun g hg => by rw [List.mem_singleton.1 hg]; exact ⟨hlo0, Int.le_refl _, hlo1⟩), kL lo lo, by simp⟩, hE327, ⟨hB328, hO329, hR.ne⟩⟩
   refine aQ (aG (aQ ?_)); refine aF (fK (n := 1) rfl rfl Tryz.underlying9 rfl (by omega) f1) ?_; refine aQ (aF (bD rfl rfl) ?_); refine aR (aC (aA (bF rfl (fun hc104 => ?_) (fun hc104 => ?_))))
   ·refine aE (aB (aG (aG (bL (vs := [_, _]) rfl bZ rfl rfl rfl rfl fun b331 w332 hO333 hs334 hw335 => ?_)))); refine aK (vs := [_]) cA rfl (dQ (es := [lo, lo]) hO333 (by simp)) rfl ?_; rintro _ w342 ⟨a1, c1, ob1, rfl, hO1, hg1, hw343⟩; have hG347 := Ge.fresh (hE286.then hw335) hg1; have hE348 := (hE286.then hw335).then hw343; have hB349 := hw343.blk0 (hw335.blk0 hB287); have hO350 := (hO288.evo0 hw335).evo0 hw343; refine aM (aC (aA (aO (aN (bS (br1 ?_))))))
    exact ⟨_, _, (dR (fun _ => iV hc28)).trans ((eZ (fun h => by omega)).trans (kJ hx (by rintro ⟨⟨h1, h2⟩, h3, h4⟩; omega))), ⟨_, _, _, [(lo, lo)], rfl, hO1, hG347, (fun g hg => by rw [List.mem_singleton.1 hg]; exact ⟨hlo0, Int.le_refl _, hlo1⟩), kL lo lo, by simp⟩, hE348, ⟨hB349, hO350, hR.ne⟩⟩
   have hdash : isB s j 45 ∧ j + 1 < s.size ∧ sb s (j + 1) ≠ 93 := ⟨⟨by omega, by omega⟩, by omega, by omega⟩; have hbj1 := hdash.1.asc (by decide) hbj; refine aU (aA (aE (aB (aG (aF (aP rfl) (aF (aD rfl bE) (aF (aI rfl aZ (aJ hB287 rfl)) ?_))))))); refine aF (bC rfl rfl (by omega) (by omega)) ?_; refine aF (aP rfl) (aF (aD rfl bE) (bG rfl rfl (rfl) bV hB287 rfl fun w352 hB353 hw354 => ?_)); have hE355 := hE286.step hw354 (fun y hy => .inl hy)
   try simp only [cR, Nat.reduceAdd] at hB353
   refine aC (aA (aE (aB (aG (bT (vs := [_]) gI rfl (jB (st := hY st (j + 1)) ⟨hB353, (hO288.evo hw354 hR3.ap.symm.own1), hR.ne⟩ hs hdash.2.1 hbj1) rfl ?_ ?_)))))
   ·intro pv wp hpp; obtain ⟨hpe, rfl, hpw⟩ := hpp; exact And.intro rfl ⟨_, rfl, _, (dR (fun _ => iV hc28)).trans ((eZ (fun h => by omega)).trans (rT hx hdash hpe)), rfl, (hE355).step hpw (fun y hy => .inl hy)⟩
   rintro _ w357 ⟨hi, m, hx2, rfl, hw358, hR4⟩; have hE359 := hE355.step hw358 (fun y hy => .inl hy); obtain ⟨hbm, hjm, hhi0, hhi1⟩ := jU hx2 hbj1 hdash.2.1; refine aM (aC (aA (aE (aE (aB (aG (aG (aF (dF rfl rfl) ?_)))))))); refine aC (aA (bF rfl (fun hc120 => ?_) (fun hc120 => ?_)))
   ·refine aB (bT (vs := [_]) cS rfl (eO 81) rfl ?_ ?_)
    ·intro pv wp hpp; obtain ⟨rfl, hpw⟩ := hpp; exact And.intro rfl ⟨_, rfl, _, (dR (fun _ => iV hc28)).trans ((eZ (fun h => by omega)).trans (uY hx hdash hx2 (by omega))), rfl, (hE359).then hpw⟩
    intro _ _ hF; exact hF.elim
   refine aU (aA (aE (aB (aG (aG (bL (vs := [_, _]) rfl bZ rfl rfl rfl rfl fun b362 w363 hO364 hs365 hw366 => ?_)))))); refine aK (vs := [_]) cA rfl (dQ (es := [lo, hi]) hO364 (by simp)) rfl ?_; rintro _ w373 ⟨a1, c1, ob1, rfl, hO1, hg1, hw374⟩; refine aM (aC (aA (aO (bS (br1 ?_)))))
   exact ⟨_, _, (dR (fun _ => iV hc28)).trans ((eZ (fun h => by omega)).trans (uW hx hdash hx2 (by omega))), ⟨_, _, _, [(lo, hi)], rfl, hO1, (Ge.fresh (hE359.then hw366) hg1), (fun g hg => by rw [List.mem_singleton.1 hg]; exact ⟨hlo0, by omega, hhi1⟩), kL lo hi, by simp⟩, ((hE359.then hw366).then hw374), ⟨(hw374.blk0 (hw366.blk0 hR4.blk)), ((hR4.own.evo0 hw366).evo0 hw374), hR.ne⟩⟩
  refine aU (aA (aE (aE (aB (aG (aF (cM rfl Tryz.underlying9 rfl) ?_)))))); refine aF (gL rfl rfl) ?_; refine aG (aV (t := 61) rfl (fun hs61 => ?_) (fun hs61 => ?_))
  ·have e1 : sb (s.extract st.pos s.size) 1 = sb s (st.pos + 1) := gE (by omega); refine aQ (aG (aQ ?_)); refine aF (fK (n := 0) rfl rfl Tryz.underlying9 rfl (by omega) e0) ?_; refine aQ (aF (bD rfl rfl) ?_); refine bH (aC (aA (bF rfl (fun hc65 => ?_) (fun hc65 => ?_))))
   ·refine aE (aB (aG ?_)); refine aF (fK (n := 1) rfl rfl Tryz.underlying9 rfl (by omega) e1) ?_; refine aK (vs := [_]) qH rfl (qA (sb s (st.pos + 1)) (jM s _)) rfl ?_; rintro rv w383 ⟨hL, hw384⟩; obtain ⟨a1, c1, ob1, l1, rfl, hO1, hg1, hv1, hl1, hS1⟩ := hL.uni; have hE388 := hE8.then hw384; have hB389 := hw384.blk0 hB9; refine aG (aF (cN rfl rfl) ?_); refine aF (cN rfl rfl) ?_; refine aM (aM (aC (aA (aE (aB (aG (aC (aA (fW rfl (fun hc72 => ?_) (fun hc72 => ?_))))))))))
    ·obtain ⟨S1, hS1'⟩ := wM hc72; refine aE (aB (aG (aF (aP rfl) (aF (aD rfl bE) (aF (aI rfl aZ (aJ hB389 rfl)) ?_))))); refine aF (bC rfl rfl (by omega) (by omega)) ?_; refine aF (aP rfl) (aF (aD rfl bE) (bG rfl rfl (rfl) bV hB389 rfl fun w391 hB392 hw393 => ?_))
     try simp only [cR, Nat.reduceAdd] at hB392
     refine aC (aA (aE (aB (aG (aM (aC (aA (aO (aN (bS (br1 ?_))))))))))); exact ⟨_, _, (dR (fun h => absurd ((nC hle).2 h) hc23)).trans (SF ⟨by omega, by omega⟩ hS1'), ⟨_, _, _, _, rfl, (hO1.evo hw393 (Apart.fresh (Lt.blk hB9) hg1).symm.own1), (Ge.fresh hE8 hg1), hv1, hS1 S1 hS1', by omega⟩, (hE388.step hw393 (fun y hy => .inl hy)), ⟨hB392, ((hO10.evo0 hw384).evo hw393 hap.symm.own1), hR.ne⟩⟩
    refine aU (aA (aE (aB (aG (bT (vs := [_]) gI rfl (jB ⟨hB389, (hO10.evo0 hw384), hR.ne⟩ hs hlt hb) rfl ?_ ?_)))))
    ·intro pv wp hpp; obtain ⟨hpe, rfl, hpw⟩ := hpp; exact And.intro rfl ⟨_, rfl, _, (dR (fun h => absurd ((nC hle).2 h) hc23)).trans ((eZ (fun _ => iH hc72)).trans (uX hpe)), rfl, (hE388).step hpw (fun y hy => .inl hy)⟩
    rintro _ w397 ⟨lo, j, hx, rfl, hw398, hR3⟩; obtain ⟨hbj, hij, hlo0, hlo1⟩ := jU hx hb hlt; have hpj : (hY st j).pos = j := rfl; have hbjl := hbj.le; have hrs2 := fU (s := s) (a := j) (Nat.le_refl s.size); refine aM (aC (aA (aE ?_))); refine fH (by kernel_rfl) (by kernel_rfl) ?_; refine bM (fun _ hq402 => bO rfl) ?_; refine bM (fun _ hq402 => aP rfl) ?_; refine bM (fun _ hq402 => aD rfl dE) ?_; refine bM (fun _ hq402 => aI rfl cJ (aJ (hq402.blk0 hR3.blk) rfl)) ?_; refine bM (fun _ hq402 => bO rfl) ?_; refine bM (fun _ hq402 => aP rfl) ?_; refine bM (fun _ hq402 => aD rfl bE) ?_; refine bM (fun _ hq402 => aI rfl aZ (aJ (hq402.blk0 hR3.blk) rfl)) ?_; refine bM (fun _ hq402 => gW (l := j) rfl rfl Tryz.underlying9 rfl hbj.le) ?_; refine bM (fun _ hq402 => eT rfl) ?_; refine fP (fun wq401 hq402 => aA ?_); have hE403 := (hE388.step hw398 (fun y hy => .inl hy)).then hq402; have hB405 := hq402.blk0 hR3.blk; have hO406 := hR3.own.evo0 hq402; refine aE (aE (aB (aG (aF (cM rfl Tryz.underlying9 rfl) ?_)))); refine aF (dF rfl rfl) ?_; refine aG (aV (t := 95) rfl (fun hs95 => ?_) (fun hs95 => ?_))
    ·refine aH (aH (aH (bH (aG (aH (aH (aH (bH (aC (aA (cV rfl ?_))))))))))); refine aE (aB (aG (aG (bL (vs := [_, _]) rfl bZ rfl rfl rfl rfl fun b407 w408 hO409 hs410 hw411 => ?_)))); refine aK (vs := [_]) cA rfl (dQ (es := [lo, lo]) hO409 (by simp)) rfl ?_; rintro _ w420 ⟨a1, c1, ob1, rfl, hO1, hg1, hw421⟩; have hG426 := Ge.fresh (hE403.then hw411) hg1; have hE427 := (hE403.then hw411).then hw421; have hB429 := hw421.blk0 (hw411.blk0 hB405); have hO430 := (hO406.evo0 hw411).evo0 hw421; refine aM (aC (aA (aO (aN (bS (br1 ?_))))))
     exact ⟨_, _, (dR (fun h => absurd ((nC hle).2 h) hc23)).trans ((eZ (fun _ => iH hc72)).trans (kJ hx (by rintro ⟨⟨h1, h2⟩, h3, h4⟩; omega))), ⟨_, _, _, [(lo, lo)], rfl, hO1, hG426, (fun g hg => by rw [List.mem_singleton.1 hg]; exact ⟨hlo0, Int.le_refl _, hlo1⟩), kL lo lo, by simp⟩, hE427, ⟨hB429, hO430, hR.ne⟩⟩
    have f0 : sb (s.extract j s.size) 0 = sb s j := gE (by omega); have f1 : sb (s.extract j s.size) 1 = sb s (j + 1) := gE (by omega); refine aQ (aG (aQ ?_)); refine aF (fK (n := 0) rfl rfl Tryz.underlying9 rfl (by omega) f0) ?_; refine aQ (aF (fX rfl rfl) ?_); refine aR (aG (aV (t := 100) rfl (fun hs100 => ?_) (fun hs100 => ?_)))
    ·refine aH (aH (aH (bH (aC (aA (cV rfl ?_)))))); refine aE (aB (aG (aG (bL (vs := [_, _]) rfl bZ rfl rfl rfl rfl fun b432 w433 hO434 hs435 hw436 => ?_)))); refine aK (vs := [_]) cA rfl (dQ (es := [lo, lo]) hO434 (by simp)) rfl ?_; rintro _ w445 ⟨a1, c1, ob1, rfl, hO1, hg1, hw446⟩; have hG451 := Ge.fresh (hE403.then hw436) hg1; have hE452 := (hE403.then hw436).then hw446; have hB454 := hw446.blk0 (hw436.blk0 hB405); have hO455 := (hO406.evo0 hw436).evo0 hw446; refine aM (aC (aA (aO (aN (bS (br1 ?_))))))
     exact ⟨_, _, (dR (fun h => absurd ((nC hle).2 h) hc23)).trans ((eZ (fun _ => iH hc72)).trans (kJ hx (by rintro ⟨⟨h1, h2⟩, h3, h4⟩; omega))), ⟨_, _, _, [(lo, lo)], rfl, hO1, hG451, (fun g hg => by rw [List.mem_singleton.1 hg]; exact ⟨hlo0, Int.le_refl _, hlo1⟩), kL lo lo, by simp⟩, hE452, ⟨hB454, hO455, hR.ne⟩⟩
    refine aQ (aG (aQ ?_)); refine aF (fK (n := 1) rfl rfl Tryz.underlying9 rfl (by omega) f1) ?_; refine aQ (aF (bD rfl rfl) ?_); refine aR (aC (aA (bF rfl (fun hc104 => ?_) (fun hc104 => ?_))))
    ·refine aE (aB (aG (aG (bL (vs := [_, _]) rfl bZ rfl rfl rfl rfl fun b457 w458 hO459 hs460 hw461 => ?_)))); refine aK (vs := [_]) cA rfl (dQ (es := [lo, lo]) hO459 (by simp)) rfl ?_; rintro _ w470 ⟨a1, c1, ob1, rfl, hO1, hg1, hw471⟩; have hG476 := Ge.fresh (hE403.then hw461) hg1; have hE477 := (hE403.then hw461).then hw471; have hB479 := hw471.blk0 (hw461.blk0 hB405); have hO480 := (hO406.evo0 hw461).evo0 hw471; refine aM (aC (aA (aO (aN (bS (br1 ?_))))))
     exact ⟨_, _, (dR (fun h => absurd ((nC hle).2 h) hc23)).trans ((eZ (fun _ => iH hc72)).trans (kJ hx (by rintro ⟨⟨h1, h2⟩, h3, h4⟩; omega))), ⟨_, _, _, [(lo, lo)], rfl, hO1, hG476, (fun g hg => by rw [List.mem_singleton.1 hg]; exact ⟨hlo0, Int.le_refl _, hlo1⟩), kL lo lo, by simp⟩, hE477, ⟨hB479, hO480, hR.ne⟩⟩
    have hdash : isB s j 45 ∧ j + 1 < s.size ∧ sb s (j + 1) ≠ 93 := ⟨⟨by omega, by omega⟩, by omega, by omega⟩; have hbj1 := hdash.1.asc (by decide) hbj; refine aU (aA (aE (aB (aG (aF (aP rfl) (aF (aD rfl bE) (aF (aI rfl aZ (aJ hB405 rfl)) ?_))))))); refine aF (bC rfl rfl (by omega) (by omega)) ?_; refine aF (aP rfl) (aF (aD rfl bE) (bG rfl rfl (rfl) bV hB405 rfl fun w482 hB483 hw484 => ?_)); have hE485 := hE403.step hw484 (fun y hy => .inl hy)
    try simp only [cR, Nat.reduceAdd] at hB483
    refine aC (aA (aE (aB (aG (bT (vs := [_]) gI rfl (jB (st := hY st (j + 1)) ⟨hB483, (hO406.evo hw484 hR3.ap.symm.own1), hR.ne⟩ hs hdash.2.1 hbj1) rfl ?_ ?_)))))
    ·intro pv wp hpp; obtain ⟨hpe, rfl, hpw⟩ := hpp; exact And.intro rfl ⟨_, rfl, _, (dR (fun h => absurd ((nC hle).2 h) hc23)).trans ((eZ (fun _ => iH hc72)).trans (rT hx hdash hpe)), rfl, (hE485).step hpw (fun y hy => .inl hy)⟩
    rintro _ w488 ⟨hi, m, hx2, rfl, hw489, hR4⟩; have hE490 := hE485.step hw489 (fun y hy => .inl hy); obtain ⟨hbm, hjm, hhi0, hhi1⟩ := jU hx2 hbj1 hdash.2.1; refine aM (aC (aA (aE (aE (aB (aG (aG (aF (dF rfl rfl) ?_)))))))); refine aC (aA (bF rfl (fun hc120 => ?_) (fun hc120 => ?_)))
    ·refine aB (bT (vs := [_]) cS rfl (eO 81) rfl ?_ ?_)
     ·intro pv wp hpp; obtain ⟨rfl, hpw⟩ := hpp; exact And.intro rfl ⟨_, rfl, _, (dR (fun h => absurd ((nC hle).2 h) hc23)).trans ((eZ (fun _ => iH hc72)).trans (uY hx hdash hx2 (by omega))), rfl, (hE490).then hpw⟩
     intro _ _ hF; exact hF.elim
    refine aU (aA (aE (aB (aG (aG (bL (vs := [_, _]) rfl bZ rfl rfl rfl rfl fun b494 w495 hO496 hs497 hw498 => ?_)))))); refine aK (vs := [_]) cA rfl (dQ (es := [lo, hi]) hO496 (by simp)) rfl ?_; rintro _ w507 ⟨a1, c1, ob1, rfl, hO1, hg1, hw508⟩; refine aM (aC (aA (aO (bS (br1 ?_)))))
    exact ⟨_, _, (dR (fun h => absurd ((nC hle).2 h) hc23)).trans ((eZ (fun _ => iH hc72)).trans (uW hx hdash hx2 (by omega))), ⟨_, _, _, [(lo, hi)], rfl, hO1, (Ge.fresh (hE490.then hw498) hg1), (fun g hg => by rw [List.mem_singleton.1 hg]; exact ⟨hlo0, by omega, hhi1⟩), kL lo hi, by simp⟩, ((hE490.then hw498).then hw508), ⟨(hw508.blk0 (hw498.blk0 hR4.blk)), ((hR4.own.evo0 hw498).evo0 hw508), hR.ne⟩⟩
   refine aU (aA (aE (aB (aG (bT (vs := [_]) gI rfl (jB ⟨hB9, hO10, hR.ne⟩ hs hlt hb) rfl ?_ ?_)))))
   ·intro pv wp hpp; obtain ⟨hpe, rfl, hpw⟩ := hpp; exact And.intro rfl ⟨_, rfl, _, (dR (fun h => absurd ((nC hle).2 h) hc23)).trans ((eZ (fun h => by omega)).trans (uX hpe)), rfl, (hE8).step hpw (fun y hy => .inl hy)⟩
   rintro _ w519 ⟨lo, j, hx, rfl, hw520, hR3⟩; obtain ⟨hbj, hij, hlo0, hlo1⟩ := jU hx hb hlt; have hpj : (hY st j).pos = j := rfl; have hbjl := hbj.le; have hrs2 := fU (s := s) (a := j) (Nat.le_refl s.size); refine aM (aC (aA (aE ?_))); refine fH (by kernel_rfl) (by kernel_rfl) ?_; refine bM (fun _ hq523 => bO rfl) ?_; refine bM (fun _ hq523 => aP rfl) ?_; refine bM (fun _ hq523 => aD rfl dE) ?_; refine bM (fun _ hq523 => aI rfl cJ (aJ (hq523.blk0 hR3.blk) rfl)) ?_; refine bM (fun _ hq523 => bO rfl) ?_; refine bM (fun _ hq523 => aP rfl) ?_; refine bM (fun _ hq523 => aD rfl bE) ?_; refine bM (fun _ hq523 => aI rfl aZ (aJ (hq523.blk0 hR3.blk) rfl)) ?_; refine bM (fun _ hq523 => gW (l := j) rfl rfl Tryz.underlying9 rfl hbj.le) ?_; refine bM (fun _ hq523 => eT rfl) ?_; refine fP (fun wq522 hq523 => aA ?_); have hE524 := (hE8.step hw520 (fun y hy => .inl hy)).then hq523; have hB525 := hq523.blk0 hR3.blk; have hO526 := hR3.own.evo0 hq523; refine aE (aE (aB (aG (aF (cM rfl Tryz.underlying9 rfl) ?_)))); refine aF (dF rfl rfl) ?_; refine aG (aV (t := 95) rfl (fun hs95 => ?_) (fun hs95 => ?_))
   ·refine aH (aH (aH (bH (aG (aH (aH (aH (bH (aC (aA (cV rfl ?_))))))))))); refine aE (aB (aG (aG (bL (vs := [_, _]) rfl bZ rfl rfl rfl rfl fun b527 w528 hO529 hs530 hw531 => ?_)))); refine aK (vs := [_]) cA rfl (dQ (es := [lo, lo]) hO529 (by simp)) rfl ?_; rintro _ w538 ⟨a1, c1, ob1, rfl, hO1, hg1, hw539⟩; have hG543 := Ge.fresh (hE524.then hw531) hg1; have hE544 := (hE524.then hw531).then hw539; have hB545 := hw539.blk0 (hw531.blk0 hB525); have hO546 := (hO526.evo0 hw531).evo0 hw539; refine aM (aC (aA (aO (aN (bS (br1 ?_))))))
    exact ⟨_, _, (dR (fun h => absurd ((nC hle).2 h) hc23)).trans ((eZ (fun h => by omega)).trans (kJ hx (by rintro ⟨⟨h1, h2⟩, h3, h4⟩; omega))), ⟨_, _, _, [(lo, lo)], rfl, hO1, hG543, (fun g hg => by rw [List.mem_singleton.1 hg]; exact ⟨hlo0, Int.le_refl _, hlo1⟩), kL lo lo, by simp⟩, hE544, ⟨hB545, hO546, hR.ne⟩⟩
   have f0 : sb (s.extract j s.size) 0 = sb s j := gE (by omega); have f1 : sb (s.extract j s.size) 1 = sb s (j + 1) := gE (by omega); refine aQ (aG (aQ ?_)); refine aF (fK (n := 0) rfl rfl Tryz.underlying9 rfl (by omega) f0) ?_; refine aQ (aF (fX rfl rfl) ?_); refine aR (aG (aV (t := 100) rfl (fun hs100 => ?_) (fun hs100 => ?_)))
   ·refine aH (aH (aH (bH (aC (aA (cV rfl ?_)))))); refine aE (aB (aG (aG (bL (vs := [_, _]) rfl bZ rfl rfl rfl rfl fun b548 w549 hO550 hs551 hw552 => ?_)))); refine aK (vs := [_]) cA rfl (dQ (es := [lo, lo]) hO550 (by simp)) rfl ?_; rintro _ w559 ⟨a1, c1, ob1, rfl, hO1, hg1, hw560⟩; have hG564 := Ge.fresh (hE524.then hw552) hg1; have hE565 := (hE524.then hw552).then hw560; have hB566 := hw560.blk0 (hw552.blk0 hB525); have hO567 := (hO526.evo0 hw552).evo0 hw560; refine aM (aC (aA (aO (aN (bS (br1 ?_))))))
    exact ⟨_, _, (dR (fun h => absurd ((nC hle).2 h) hc23)).trans ((eZ (fun h => by omega)).trans (kJ hx (by rintro ⟨⟨h1, h2⟩, h3, h4⟩; omega))), ⟨_, _, _, [(lo, lo)], rfl, hO1, hG564, (fun g hg => by rw [List.mem_singleton.1 hg]; exact ⟨hlo0, Int.le_refl _, hlo1⟩), kL lo lo, by simp⟩, hE565, ⟨hB566, hO567, hR.ne⟩⟩
   refine aQ (aG (aQ ?_)); refine aF (fK (n := 1) rfl rfl Tryz.underlying9 rfl (by omega) f1) ?_; refine aQ (aF (bD rfl rfl) ?_); refine aR (aC (aA (bF rfl (fun hc104 => ?_) (fun hc104 => ?_))))
   ·refine aE (aB (aG (aG (bL (vs := [_, _]) rfl bZ rfl rfl rfl rfl fun b569 w570 hO571 hs572 hw573 => ?_)))); refine aK (vs := [_]) cA rfl (dQ (es := [lo, lo]) hO571 (by simp)) rfl ?_; rintro _ w580 ⟨a1, c1, ob1, rfl, hO1, hg1, hw581⟩; have hG585 := Ge.fresh (hE524.then hw573) hg1; have hE586 := (hE524.then hw573).then hw581; have hB587 := hw581.blk0 (hw573.blk0 hB525); have hO588 := (hO526.evo0 hw573).evo0 hw581; refine aM (aC (aA (aO (aN (bS (br1 ?_))))))
    exact ⟨_, _, (dR (fun h => absurd ((nC hle).2 h) hc23)).trans ((eZ (fun h => by omega)).trans (kJ hx (by rintro ⟨⟨h1, h2⟩, h3, h4⟩; omega))), ⟨_, _, _, [(lo, lo)], rfl, hO1, hG585, (fun g hg => by rw [List.mem_singleton.1 hg]; exact ⟨hlo0, Int.le_refl _, hlo1⟩), kL lo lo, by simp⟩, hE586, ⟨hB587, hO588, hR.ne⟩⟩
   have hdash : isB s j 45 ∧ j + 1 < s.size ∧ sb s (j + 1) ≠ 93 := ⟨⟨by omega, by omega⟩, by omega, by omega⟩; have hbj1 := hdash.1.asc (by decide) hbj; refine aU (aA (aE (aB (aG (aF (aP rfl) (aF (aD rfl bE) (aF (aI rfl aZ (aJ hB525 rfl)) ?_))))))); refine aF (bC rfl rfl (by omega) (by omega)) ?_; refine aF (aP rfl) (aF (aD rfl bE) (bG rfl rfl (rfl) bV hB525 rfl fun w590 hB591 hw592 => ?_)); have hE593 := hE524.step hw592 (fun y hy => .inl hy)
   try simp only [cR, Nat.reduceAdd] at hB591
   refine aC (aA (aE (aB (aG (bT (vs := [_]) gI rfl (jB (st := hY st (j + 1)) ⟨hB591, (hO526.evo hw592 hR3.ap.symm.own1), hR.ne⟩ hs hdash.2.1 hbj1) rfl ?_ ?_)))))
   ·intro pv wp hpp; obtain ⟨hpe, rfl, hpw⟩ := hpp; exact And.intro rfl ⟨_, rfl, _, (dR (fun h => absurd ((nC hle).2 h) hc23)).trans ((eZ (fun h => by omega)).trans (rT hx hdash hpe)), rfl, (hE593).step hpw (fun y hy => .inl hy)⟩
   rintro _ w595 ⟨hi, m, hx2, rfl, hw596, hR4⟩; have hE597 := hE593.step hw596 (fun y hy => .inl hy); obtain ⟨hbm, hjm, hhi0, hhi1⟩ := jU hx2 hbj1 hdash.2.1; refine aM (aC (aA (aE (aE (aB (aG (aG (aF (dF rfl rfl) ?_)))))))); refine aC (aA (bF rfl (fun hc120 => ?_) (fun hc120 => ?_)))
   ·refine aB (bT (vs := [_]) cS rfl (eO 81) rfl ?_ ?_)
    ·intro pv wp hpp; obtain ⟨rfl, hpw⟩ := hpp; exact And.intro rfl ⟨_, rfl, _, (dR (fun h => absurd ((nC hle).2 h) hc23)).trans ((eZ (fun h => by omega)).trans (uY hx hdash hx2 (by omega))), rfl, (hE597).then hpw⟩
    intro _ _ hF; exact hF.elim
   refine aU (aA (aE (aB (aG (aG (bL (vs := [_, _]) rfl bZ rfl rfl rfl rfl fun b600 w601 hO602 hs603 hw604 => ?_)))))); refine aK (vs := [_]) cA rfl (dQ (es := [lo, hi]) hO602 (by simp)) rfl ?_; rintro _ w611 ⟨a1, c1, ob1, rfl, hO1, hg1, hw612⟩; refine aM (aC (aA (aO (bS (br1 ?_)))))
   exact ⟨_, _, (dR (fun h => absurd ((nC hle).2 h) hc23)).trans ((eZ (fun h => by omega)).trans (uW hx hdash hx2 (by omega))), ⟨_, _, _, [(lo, hi)], rfl, hO1, (Ge.fresh (hE597.then hw604) hg1), (fun g hg => by rw [List.mem_singleton.1 hg]; exact ⟨hlo0, by omega, hhi1⟩), kL lo hi, by simp⟩, ((hE597.then hw604).then hw612), ⟨(hw612.blk0 (hw604.blk0 hR4.blk)), ((hR4.own.evo0 hw604).evo0 hw612), hR.ne⟩⟩
  refine aH (aH (aH (aR (aC (aA (cO rfl ?_)))))); refine aU (aA (aE (aB (aG (bT (vs := [_]) gI rfl (jB ⟨hB9, hO10, hR.ne⟩ hs hlt hb) rfl ?_ ?_)))))
  ·intro pv wp hpp; obtain ⟨hpe, rfl, hpw⟩ := hpp; exact And.intro rfl ⟨_, rfl, _, (dR (fun h => absurd ((nC hle).2 h) hc23)).trans ((eZ (fun h => by omega)).trans (uX hpe)), rfl, (hE8).step hpw (fun y hy => .inl hy)⟩
  rintro _ w621 ⟨lo, j, hx, rfl, hw622, hR3⟩; obtain ⟨hbj, hij, hlo0, hlo1⟩ := jU hx hb hlt; have hpj : (hY st j).pos = j := rfl; have hbjl := hbj.le; have hrs2 := fU (s := s) (a := j) (Nat.le_refl s.size); refine aM (aC (aA (aE ?_))); refine fH (by kernel_rfl) (by kernel_rfl) ?_; refine bM (fun _ hq625 => bO rfl) ?_; refine bM (fun _ hq625 => aP rfl) ?_; refine bM (fun _ hq625 => aD rfl dE) ?_; refine bM (fun _ hq625 => aI rfl cJ (aJ (hq625.blk0 hR3.blk) rfl)) ?_; refine bM (fun _ hq625 => bO rfl) ?_; refine bM (fun _ hq625 => aP rfl) ?_; refine bM (fun _ hq625 => aD rfl bE) ?_; refine bM (fun _ hq625 => aI rfl aZ (aJ (hq625.blk0 hR3.blk) rfl)) ?_; refine bM (fun _ hq625 => gW (l := j) rfl rfl Tryz.underlying9 rfl hbj.le) ?_; refine bM (fun _ hq625 => eT rfl) ?_; refine fP (fun wq624 hq625 => aA ?_); have hE626 := (hE8.step hw622 (fun y hy => .inl hy)).then hq625; have hB627 := hq625.blk0 hR3.blk; have hO628 := hR3.own.evo0 hq625; refine aE (aE (aB (aG (aF (cM rfl Tryz.underlying9 rfl) ?_)))); refine aF (dF rfl rfl) ?_; refine aG (aV (t := 95) rfl (fun hs95 => ?_) (fun hs95 => ?_))
  ·refine aH (aH (aH (bH (aG (aH (aH (aH (bH (aC (aA (cV rfl ?_))))))))))); refine aE (aB (aG (aG (bL (vs := [_, _]) rfl bZ rfl rfl rfl rfl fun b629 w630 hO631 hs632 hw633 => ?_)))); refine aK (vs := [_]) cA rfl (dQ (es := [lo, lo]) hO631 (by simp)) rfl ?_; rintro _ w640 ⟨a1, c1, ob1, rfl, hO1, hg1, hw641⟩; have hG645 := Ge.fresh (hE626.then hw633) hg1; have hE646 := (hE626.then hw633).then hw641; have hB647 := hw641.blk0 (hw633.blk0 hB627); have hO648 := (hO628.evo0 hw633).evo0 hw641; refine aM (aC (aA (aO (aN (bS (br1 ?_))))))
   exact ⟨_, _, (dR (fun h => absurd ((nC hle).2 h) hc23)).trans ((eZ (fun h => by omega)).trans (kJ hx (by rintro ⟨⟨h1, h2⟩, h3, h4⟩; omega))), ⟨_, _, _, [(lo, lo)], rfl, hO1, hG645, (fun g hg => by rw [List.mem_singleton.1 hg]; exact ⟨hlo0, Int.le_refl _, hlo1⟩), kL lo lo, by simp⟩, hE646, ⟨hB647, hO648, hR.ne⟩⟩
  have f0 : sb (s.extract j s.size) 0 = sb s j := gE (by omega); have f1 : sb (s.extract j s.size) 1 = sb s (j + 1) := gE (by omega); refine aQ (aG (aQ ?_)); refine aF (fK (n := 0) rfl rfl Tryz.underlying9 rfl (by omega) f0) ?_; refine aQ (aF (fX rfl rfl) ?_); refine aR (aG (aV (t := 100) rfl (fun hs100 => ?_) (fun hs100 => ?_)))
  ·refine aH (aH (aH (bH (aC (aA (cV rfl ?_)))))); refine aE (aB (aG (aG (bL (vs := [_, _]) rfl bZ rfl rfl rfl rfl fun b650 w651 hO652 hs653 hw654 => ?_)))); refine aK (vs := [_]) cA rfl (dQ (es := [lo, lo]) hO652 (by simp)) rfl ?_; rintro _ w661 ⟨a1, c1, ob1, rfl, hO1, hg1, hw662⟩; have hG666 := Ge.fresh (hE626.then hw654) hg1; have hE667 := (hE626.then hw654).then hw662; have hB668 := hw662.blk0 (hw654.blk0 hB627); have hO669 := (hO628.evo0 hw654).evo0 hw662; refine aM (aC (aA (aO (aN (bS (br1 ?_))))))
   exact ⟨_, _, (dR (fun h => absurd ((nC hle).2 h) hc23)).trans ((eZ (fun h => by omega)).trans (kJ hx (by rintro ⟨⟨h1, h2⟩, h3, h4⟩; omega))), ⟨_, _, _, [(lo, lo)], rfl, hO1, hG666, (fun g hg => by rw [List.mem_singleton.1 hg]; exact ⟨hlo0, Int.le_refl _, hlo1⟩), kL lo lo, by simp⟩, hE667, ⟨hB668, hO669, hR.ne⟩⟩
  refine aQ (aG (aQ ?_)); refine aF (fK (n := 1) rfl rfl Tryz.underlying9 rfl (by omega) f1) ?_; refine aQ (aF (bD rfl rfl) ?_); refine aR (aC (aA (bF rfl (fun hc104 => ?_) (fun hc104 => ?_))))
  ·refine aE (aB (aG (aG (bL (vs := [_, _]) rfl bZ rfl rfl rfl rfl fun b671 w672 hO673 hs674 hw675 => ?_)))); refine aK (vs := [_]) cA rfl (dQ (es := [lo, lo]) hO673 (by simp)) rfl ?_; rintro _ w682 ⟨a1, c1, ob1, rfl, hO1, hg1, hw683⟩; have hG687 := Ge.fresh (hE626.then hw675) hg1; have hE688 := (hE626.then hw675).then hw683; have hB689 := hw683.blk0 (hw675.blk0 hB627); have hO690 := (hO628.evo0 hw675).evo0 hw683; refine aM (aC (aA (aO (aN (bS (br1 ?_))))))
   exact ⟨_, _, (dR (fun h => absurd ((nC hle).2 h) hc23)).trans ((eZ (fun h => by omega)).trans (kJ hx (by rintro ⟨⟨h1, h2⟩, h3, h4⟩; omega))), ⟨_, _, _, [(lo, lo)], rfl, hO1, hG687, (fun g hg => by rw [List.mem_singleton.1 hg]; exact ⟨hlo0, Int.le_refl _, hlo1⟩), kL lo lo, by simp⟩, hE688, ⟨hB689, hO690, hR.ne⟩⟩
  have hdash : isB s j 45 ∧ j + 1 < s.size ∧ sb s (j + 1) ≠ 93 := ⟨⟨by omega, by omega⟩, by omega, by omega⟩; have hbj1 := hdash.1.asc (by decide) hbj; refine aU (aA (aE (aB (aG (aF (aP rfl) (aF (aD rfl bE) (aF (aI rfl aZ (aJ hB627 rfl)) ?_))))))); refine aF (bC rfl rfl (by omega) (by omega)) ?_; refine aF (aP rfl) (aF (aD rfl bE) (bG rfl rfl (rfl) bV hB627 rfl fun w692 hB693 hw694 => ?_)); have hE695 := hE626.step hw694 (fun y hy => .inl hy)
  try simp only [cR, Nat.reduceAdd] at hB693
  refine aC (aA (aE (aB (aG (bT (vs := [_]) gI rfl (jB (st := hY st (j + 1)) ⟨hB693, (hO628.evo hw694 hR3.ap.symm.own1), hR.ne⟩ hs hdash.2.1 hbj1) rfl ?_ ?_)))))
  ·intro pv wp hpp; obtain ⟨hpe, rfl, hpw⟩ := hpp; exact And.intro rfl ⟨_, rfl, _, (dR (fun h => absurd ((nC hle).2 h) hc23)).trans ((eZ (fun h => by omega)).trans (rT hx hdash hpe)), rfl, (hE695).step hpw (fun y hy => .inl hy)⟩
  rintro _ w697 ⟨hi, m, hx2, rfl, hw698, hR4⟩; have hE699 := hE695.step hw698 (fun y hy => .inl hy); obtain ⟨hbm, hjm, hhi0, hhi1⟩ := jU hx2 hbj1 hdash.2.1; refine aM (aC (aA (aE (aE (aB (aG (aG (aF (dF rfl rfl) ?_)))))))); refine aC (aA (bF rfl (fun hc120 => ?_) (fun hc120 => ?_)))
  ·refine aB (bT (vs := [_]) cS rfl (eO 81) rfl ?_ ?_)
   ·intro pv wp hpp; obtain ⟨rfl, hpw⟩ := hpp; exact And.intro rfl ⟨_, rfl, _, (dR (fun h => absurd ((nC hle).2 h) hc23)).trans ((eZ (fun h => by omega)).trans (uY hx hdash hx2 (by omega))), rfl, (hE699).then hpw⟩
   intro _ _ hF; exact hF.elim
  refine aU (aA (aE (aB (aG (aG (bL (vs := [_, _]) rfl bZ rfl rfl rfl rfl fun b702 w703 hO704 hs705 hw706 => ?_)))))); refine aK (vs := [_]) cA rfl (dQ (es := [lo, hi]) hO704 (by simp)) rfl ?_; rintro _ w713 ⟨a1, c1, ob1, rfl, hO1, hg1, hw714⟩; refine aM (aC (aA (aO (bS (br1 ?_)))))
  exact ⟨_, _, (dR (fun h => absurd ((nC hle).2 h) hc23)).trans ((eZ (fun h => by omega)).trans (uW hx hdash hx2 (by omega))), ⟨_, _, _, [(lo, hi)], rfl, hO1, (Ge.fresh (hE699.then hw706) hg1), (fun g hg => by rw [List.mem_singleton.1 hg]; exact ⟨hlo0, by omega, hhi1⟩), kL lo hi, by simp⟩, ((hE699.then hw706).then hw714), ⟨(hw714.blk0 (hw706.blk0 hR4.blk)), ((hR4.own.evo0 hw706).evo0 hw714), hR.ne⟩⟩
theorem uL : eY Tryz.prog 129 := ⟨_, Tryz.func129, by kernel_rfl, by kernel_rfl⟩
theorem kW {w : World} {o p : Option Nat} (h : Lt w o) (hp : Ge w p) : Apart o p := fun g h1 h2 => by have := h g h1; have := hp g h2; omega
section
variable {s : ByteArray} {f i j : Nat} {fst : Bool} {S T : Int → Prop} {e : Int} {fl : Fl}
theorem its_end (h : s.size ≤ i) : eE s (f + 1) fst S i = .error 81 := by rw [eE, if_pos h]
theorem SD (h : i < s.size) (h2 : sb s i = 93) : eE s (f + 1) false S i = .ok (S, i + 1) := by rw [eE, if_neg (by omega), if_pos ⟨rfl, h2⟩]
theorem LP (h : i < s.size) (h2 : ¬ (fst = false ∧ sb s i = 93)) (h3 : iN s i = .error e) : eE s (f + 1) fst S i = .error e := by rw [eE, if_neg (by omega), if_neg h2, h3]
theorem SE (h : i < s.size) (h2 : ¬ (fst = false ∧ sb s i = 93)) (h3 : iN s i = .ok (T, j)) : eE s (f + 1) fst S i = eE s f false (unS S T) j := by rw [eE, if_neg (by omega), if_neg h2, h3]
theorem tV (h : eE s (s.size + 1) true (fun _ => False) (if isB s i 94 then i + 1 else i) = .error e) : jH s fl i = .error e := by unfold jH; rw [h]
theorem rC (h : eE s (s.size + 1) true (fun _ => False) (if isB s i 94 then i + 1 else i) = .ok (S, j)) :
    jH s fl i = .ok (kG (if isB s i 94 then tM (if fl.fold = true then nG S else S) else if fl.fold = true then nG S else S), j) := by unfold jH; rw [h]
end
structure ClG where
  f : Nat
  i : Nat
  n : Nat
  fst : Bool
  S : Int → Prop
  l : List (Int × Int)
  sa : Option Addr
  sc : Nat
  so : Option Nat
structure ClI (w wr : World) (b : Nat) (s : ByteArray) (st : PS) (a : Option Addr) (c : Nat) (ob : Option Nat) (b2 i0 : Nat) (x : ClG) : Prop where
  hr : RdAt wr b s (hY st x.i) a c ob
  bd : Bd s x.i
  eq : eE s (s.size + 1) true (fun _ => False) i0 = eE s x.f x.fst x.S x.i
  hf : s.size + 1 ≤ x.f + x.i
  own : OwnS wr 56 2 x.sa x.n x.sc (dZ x.l) x.so
  ge : Ge w x.so
  vr : Vr x.l
  hS : ∀ c, InR c x.l ↔ x.S c
  len : x.n ≤ 16 * x.i
  hb2 : wr.heap[b2]? = some (.cells #[iv 0, .int .i32 0, .slice none 0 0, iv 0, iv 0, .bool false, iv 0, .string ByteArray.empty, .slice none 0 0] 27 (0, 0))
  g2 : Ge w (some b2)
  a2 : Apart (some b2) x.so
theorem un_in {l m : List (Int × Int)} {S T : Int → Prop} (h1 : ∀ c, InR c l ↔ S c) (h2 : ∀ c, InR c m ↔ T c) (c : Int) : InR c (l ++ m) ↔ unS S T c := by rw [mT, h1, h2]; exact Iff.rfl
theorem TT {w : World} {b : Nat} {s : ByteArray} {st : PS} {a : Option Addr} {c : Nat} {ob : Option Nat} (hR : RdAt w b s st a c ob) (hs : s.size ≤ 10000) (hb : Bd s st.pos) (hG : Glb w) :
    Calls Tryz.prog 110 #[.pointer (some ⟨b, 0, none⟩)] w (RetP (fun v w' => ∃ x j, jH s st.now st.pos = .ok (x, j) ∧ TOut w w' v x ∧ Evo [b] w w' ∧ RdAt w' b s (hY st j) a c ob) (fun v w' => ∃ e, jH s st.now st.pos = .error e ∧ v = flt e ∧ Evo [b] w w')) := by
  have hap := hR.ap; have hgb : oI ∉ [b] := fun h => hR.glb hG (List.mem_singleton.1 h).symm; have hbw : Lt w (some b) := Lt.blk hR.blk; have how : Lt w ob := Lt.own hR.own; refine bJ (N := 41) Tryz.func110 rfl rfl rfl ?_; refine aE (aB (dA rfl dS fun b2 w1 hB2 hs3 hw4 => ?_)); have hsz_b2 := hs3; have hA5 := Apart.new (Lt.blk hR.blk) hs3; have hG7 := Ge.new (Evo.refl [b] w) hs3; refine aC (aA (aE (aB (aG ?_)))); refine aK (vs := [_, _]) iC rfl (lR ⟨(hw4.blk0 hR.blk), (hR.own.evo0 hw4), hR.ne⟩ (by omega) 94 (by decide)) rfl ?_; rintro _ w11 ⟨rfl, hw12, hR1⟩; have hE13 := ((Evo.refl [b] w).then hw4).step hw12 (fun y hy => .inl hy); have hB14 := hw12.blk hB2 ((by first | exact hA5.symm.own1 | exact hA5.symm.nmem1)); refine aM (aC (aA (aE ?_)))
  have hR1' : RdAt w11 b s (hY st (if isB s st.pos 94 then st.pos + 1 else st.pos)) a c ob := by by_cases h94 : isB s st.pos 94; { rw [if_pos h94] at hR1 ⊢; exact hR1 }; { rw [if_neg h94] at hR1 ⊢; exact hR1 }
  generalize hi0 : (if isB s st.pos 94 then st.pos + 1 else st.pos) = i0 at *
  have hbd0 : Bd s i0 := by rw [← hi0]; split; (rename_i h94; exact h94.asc (by decide) hb); exact hb
  refine aB (aM (aC (aA (aE (aE (aB (aM (aC (aA (bR ?_))))))))))
  refine eV (α := ClG) (⟨s.size + 1, i0, 0, true, fun _ => False, [], none, 0, none⟩) (fun x => [(4, .slice x.sa x.n x.sc), (5, .bool x.fst)]) [(0, _), (2, _), (3, _)] (fun x wr => Evo [b] w wr ∧ (ClI w wr b s st a c ob b2 i0 x)) (fun x => x.f) ⟨rfl, rfl, trivial⟩ ⟨rfl, rfl, rfl, trivial⟩ ⟨hE13, ⟨hR1', hbd0, rfl, by show s.size + 1 ≤ s.size + 1 + i0; omega, OwnS.nil _ _ _, Ge.nil _, fun g hg => (by cases hg), fun c => ⟨fun h => (kO c h).elim, False.elim⟩, Nat.zero_le _, hB14, hG7, Apart.nil _⟩⟩ ?_
  rintro ⟨f, i, n, fst, S, l, sa, sc, so⟩ wr15 ⟨hV16, ⟨hR9, hbi, heq, hfi, hown, hge, hvr, hSl, hlen, hb2, hg2, ha2⟩⟩; show CW _ _ _ _ [(4, .slice sa n sc), (5, .bool fst), (0, _), (2, _), (3, _)] _
  try dsimp only at hR9
  try dsimp only at hbi
  try dsimp only at heq
  try dsimp only at hfi
  try dsimp only at hown
  try dsimp only at hge
  try dsimp only at hvr
  try dsimp only at hSl
  try dsimp only at hlen
  try dsimp only at hb2
  try dsimp only at hg2
  try dsimp only at ha2
  have hil := hbi.le; have hA1 : Apart (some b) so := kW hbw hge; have hA2 : Apart ob so := kW how hge; have hA3 : Apart (some b) (some b2) := kW hbw hg2; have hA4 : Apart ob (some b2) := kW how hg2; have hpi : (hY st i).pos = i := rfl; obtain ⟨f', hff⟩ : ∃ f', f = f' + 1 := ⟨f - 1, by omega⟩; refine aE (bR (aE (aE ?_))); refine fH (by kernel_rfl) (by kernel_rfl) ?_; refine bM (fun _ hq18 => bO rfl) ?_; refine bM (fun _ hq18 => aP rfl) ?_; refine bM (fun _ hq18 => aD rfl bE) ?_; refine bM (fun _ hq18 => aI rfl aZ (aJ (hq18.blk0 hR9.blk) rfl)) ?_; refine bM (fun _ hq18 => bO rfl) ?_; refine bM (fun _ hq18 => aP rfl) ?_; refine bM (fun _ hq18 => aD rfl dE) ?_; refine bM (fun _ hq18 => aI rfl cJ (aJ (hq18.blk0 hR9.blk) rfl)) ?_; refine bM (fun _ hq18 => cM rfl Tryz.underlying9 rfl) ?_; refine bM (fun _ hq18 => bD rfl rfl) ?_; refine fP (fun wq17 hq18 => aA ?_); have hE19 := hV16.then hq18; refine bF rfl (fun hc17 => ?_) (fun hc17 => ?_)
  ·refine aB (bT (vs := [_]) cS rfl (eO 81) rfl ?_ ?_)
   ·intro pv wp hpp; obtain ⟨rfl, hpw⟩ := hpp
    exact And.intro rfl ⟨_, rfl, _, tV (by rw [hi0, heq, hff]; exact its_end (by omega)), rfl, (hE19).then hpw⟩
   intro _ _ hF; exact hF.elim
  have hii : i < s.size := by omega
  refine aU (aA (aE (aE (aB (aG (aF (fF rfl) ?_)))))); refine aG (gU (t := 21) rfl (fun hs21 => ?_) (fun hs21 => ?_))
  ·replace hs21 := congrArg Bool.not hs21; simp only [Bool.not_not, Bool.not_true, Bool.not_false] at hs21; subst hs21
   refine aQ (aG (aQ ?_)); refine aK (vs := [_, _]) iC rfl (lR ⟨(hq18.blk0 hR9.blk), (hR9.own.evo0 hq18), hR9.ne⟩ (by omega) 93 (by decide)) rfl ?_; rintro _ w26 ⟨rfl, hw27, hR2⟩; have hE28 := hE19.step hw27 (fun y hy => .inl hy); have hB29 := (hown.evo0 hq18).evo hw27 ((by first | exact hA1.symm.own1 | exact hA1.symm.nmem1)); have hB30 := hw27.blk (hq18.blk0 hb2) ((by first | exact hA3.symm.own1 | exact hA3.symm.nmem1)); refine bH (aC (aA (bF rfl (fun hc24 => ?_) (fun hc24 => ?_))))
   ·rw [if_pos hc24] at hR2; have hst := (heq.trans (congrArg (fun f => eE s f false S i) hff)).trans (SD hii hc24.2); have hn9 := pU hown; subst hn9; refine dO (cD (CS rfl (cD (cD (dN (aA ?_)))))); refine aE (aE (aB (aG (aF (aP rfl) (aF (aD rfl eQ) (aF (aD rfl qL) (aF (aI rfl dX (aJ hR2.blk rfl)) (aC (aA (fW rfl (fun hc33 => ?_) (fun hc33 => ?_)))))))))))
    ·replace hc33 : st.now.fold = true := hc33; refine aB (aG ?_); refine aK (vs := [_]) uK rfl (AU hB29 hvr (by omega) hSl) rfl ?_; rintro rv w31 ⟨a4, c4, ob4, rfl, hO4, hg4, hl4, hcan4, heq4, hw32⟩; have hE38 := hE28.then hw32; have hB40 := hw32.blk0 hB30; refine aM (aC (aA (aE (aE (aB (aG (aC (aA (bF rfl (fun hc36 => ?_) (fun hc36 => ?_))))))))))
     ·refine aB (aG ?_); refine aK (vs := [_]) kT rfl (mO hO4 (vF hcan4) (by omega) heq4) rfl ?_; rintro rv w43 ⟨a5, c5, ob5, rfl, hO5, hg5, hl5, hcan5, heq5, hw44⟩; refine aM (aC (aA (aE (aB (aG ?_))))); refine aK (vs := [_]) iL rfl (nI hO5 (vF hcan5) (by omega) heq5) rfl ?_; rintro rv w57 ⟨hT9, hw58⟩; have hV9 := (hE38.then hw44); have hb29 := eW (hw44.blk0 hB40); obtain ⟨vs9, bs9, rfl, hOT, hFr⟩ := hT9; obtain ⟨ra, rc, ka, kc, rfl⟩ := id hOT.nine; refine bI rfl rfl aY (hw58.blk0 (hw44.blk0 hB40)) rfl rfl ⟨rfl, rfl, rfl, rfl, rfl, rfl, rfl, rfl, rfl, trivial⟩ fun w65 hB66 hw67 => ?_
      try simp only [cR, Nat.reduceAdd] at hB66
      refine aC (aA (aO (bS (cX rfl (ResOk.cellA rfl bQ aY hB66 rfl) ?_))))
      have hcl := rC (fl := st.now) (by rw [hi0]; exact hst)
      rw [if_pos hc36, if_pos hc33] at hcl; refine ⟨_, _, hcl, ⟨_, bs9, rfl, hOT.evo ((Evo.refl ([b2]) w57).step hw67 (fun y hy => .inl hy)) (fun q hq h => ?_), hFr.older hV9.size⟩, (((hE38.then hw44).then hw58).step hw67 hg2.mem1), ⟨(hw67.blk (hw58.blk0 (hw44.blk0 (hw32.blk0 hR2.blk))) hA3.nmem1), ((((hR2.own.evo0 hw32).evo0 hw44).evo0 hw58).evo hw67 hA4.own1), hR2.ne⟩⟩
      have := hFr.ge q hq; rw [List.mem_singleton.1 h] at this; omega
     refine aU (aA (aE (aB (aG ?_)))); refine aK (vs := [_]) iL rfl (nI hO4 (vF hcan4) (by omega) heq4) rfl ?_; rintro rv w74 ⟨hT9, hw75⟩; have hV9 := hE38; have hb29 := eW hB40; obtain ⟨vs9, bs9, rfl, hOT, hFr⟩ := hT9; obtain ⟨ra, rc, ka, kc, rfl⟩ := id hOT.nine; refine bI rfl rfl aY (hw75.blk0 hB40) rfl rfl ⟨rfl, rfl, rfl, rfl, rfl, rfl, rfl, rfl, rfl, trivial⟩ fun w82 hB83 hw84 => ?_
     try simp only [cR, Nat.reduceAdd] at hB83
     refine aC (aA (aO (bS (cX rfl (ResOk.cellA rfl bQ aY hB83 rfl) ?_))))
     have hcl := rC (fl := st.now) (by rw [hi0]; exact hst)
     rw [if_neg hc36, if_pos hc33] at hcl; refine ⟨_, _, hcl, ⟨_, bs9, rfl, hOT.evo ((Evo.refl ([b2]) w74).step hw84 (fun y hy => .inl hy)) (fun q hq h => ?_), hFr.older hV9.size⟩, ((hE38.then hw75).step hw84 hg2.mem1), ⟨(hw84.blk (hw75.blk0 (hw32.blk0 hR2.blk)) hA3.nmem1), (((hR2.own.evo0 hw32).evo0 hw75).evo hw84 hA4.own1), hR2.ne⟩⟩
     have := hFr.ge q hq; rw [List.mem_singleton.1 h] at this; omega
    replace hc33 : st.now.fold = false := hc33; refine aU (aA (aE (aE (aB (aG (aC (aA (bF rfl (fun hc36 => ?_) (fun hc36 => ?_)))))))))
    ·refine aB (aG ?_); refine aK (vs := [_]) kT rfl (mO hB29 hvr (by omega) hSl) rfl ?_; rintro rv w91 ⟨a5, c5, ob5, rfl, hO5, hg5, hl5, hcan5, heq5, hw92⟩; refine aM (aC (aA (aE (aB (aG ?_))))); refine aK (vs := [_]) iL rfl (nI hO5 (vF hcan5) (by omega) heq5) rfl ?_; rintro rv w103 ⟨hT9, hw104⟩; have hV9 := (hE28.then hw92); have hb29 := eW (hw92.blk0 hB30); obtain ⟨vs9, bs9, rfl, hOT, hFr⟩ := hT9; obtain ⟨ra, rc, ka, kc, rfl⟩ := id hOT.nine; refine bI rfl rfl aY (hw104.blk0 (hw92.blk0 hB30)) rfl rfl ⟨rfl, rfl, rfl, rfl, rfl, rfl, rfl, rfl, rfl, trivial⟩ fun w111 hB112 hw113 => ?_
     try simp only [cR, Nat.reduceAdd] at hB112
     refine aC (aA (aO (bS (cX rfl (ResOk.cellA rfl bQ aY hB112 rfl) ?_))))
     have hcl := rC (fl := st.now) (by rw [hi0]; exact hst)
     rw [if_pos hc36, if_neg (show ¬ st.now.fold = true by simp [hc33])] at hcl; refine ⟨_, _, hcl, ⟨_, bs9, rfl, hOT.evo ((Evo.refl ([b2]) w103).step hw113 (fun y hy => .inl hy)) (fun q hq h => ?_), hFr.older hV9.size⟩, (((hE28.then hw92).then hw104).step hw113 hg2.mem1), ⟨(hw113.blk (hw104.blk0 (hw92.blk0 hR2.blk)) hA3.nmem1), (((hR2.own.evo0 hw92).evo0 hw104).evo hw113 hA4.own1), hR2.ne⟩⟩
     have := hFr.ge q hq; rw [List.mem_singleton.1 h] at this; omega
    refine aU (aA (aE (aB (aG ?_)))); refine aK (vs := [_]) iL rfl (nI hB29 hvr (by omega) hSl) rfl ?_; rintro rv w120 ⟨hT9, hw121⟩; have hV9 := hE28; have hb29 := eW hB30; obtain ⟨vs9, bs9, rfl, hOT, hFr⟩ := hT9; obtain ⟨ra, rc, ka, kc, rfl⟩ := id hOT.nine; refine bI rfl rfl aY (hw121.blk0 hB30) rfl rfl ⟨rfl, rfl, rfl, rfl, rfl, rfl, rfl, rfl, rfl, trivial⟩ fun w127 hB128 hw129 => ?_
    try simp only [cR, Nat.reduceAdd] at hB128
    refine aC (aA (aO (bS (cX rfl (ResOk.cellA rfl bQ aY hB128 rfl) ?_))))
    have hcl := rC (fl := st.now) (by rw [hi0]; exact hst)
    rw [if_neg hc36, if_neg (show ¬ st.now.fold = true by simp [hc33])] at hcl; refine ⟨_, _, hcl, ⟨_, bs9, rfl, hOT.evo ((Evo.refl ([b2]) w120).step hw129 (fun y hy => .inl hy)) (fun q hq h => ?_), hFr.older hV9.size⟩, ((hE28.then hw121).step hw129 hg2.mem1), ⟨(hw129.blk (hw121.blk0 hR2.blk) hA3.nmem1), ((hR2.own.evo0 hw121).evo hw129 hA4.own1), hR2.ne⟩⟩
    have := hFr.ge q hq; rw [List.mem_singleton.1 h] at this; omega
   rw [if_neg hc24] at hR2; refine aU (aA (aB (aG (aG ?_)))); refine bT (vs := [_]) uL rfl (LQ ⟨hR2.blk, hR2.own, hR2.ne⟩ (by omega) hii hbi (hG.evo hE28 hgb)) rfl ?_ ?_
   ·intro pv wp hpp; obtain ⟨e9, hpe, rfl, hpw⟩ := hpp
    exact And.intro rfl ⟨_, rfl, _, tV (by rw [hi0, heq, hff]; exact LP hii (fun h => hc24 ⟨hii, h.2⟩) hpe), rfl, (hE28).step hpw (fun y hy => .inl hy)⟩
   rintro rv w135 ⟨T, j, hx, hT, hw136, hR3⟩; obtain ⟨a3, c3, ob3, li, rfl, hO3, hg3, hv3, hS3, hl3⟩ := hT; have hE142 := hE28.step hw136 (fun y hy => .inl hy); have hB143 := hB29.evo hw136 ((by first | exact hA1.symm.own1 | exact hA1.symm.nmem1)); have hB144 := hw136.blk hB30 ((by first | exact hA3.symm.own1 | exact hA3.symm.nmem1)); obtain ⟨hbj, hij⟩ := pT hx hbi hii; have hjl := hbj.le; refine dL rfl rfl rfl rfl gR hB143 (Src.ofOwn hO3 (pQ li)) (by omega) fun a2 c2 w147 ob2 hO2 hw150 hob151 => ?_; refine aM (aC (aW (aA (aB (aM (aC (bY ?_))))))); refine ⟨⟨f', j, n + li.length, false, unS S T, l ++ li, a2, c2, ob2⟩, ?_, ⟨rfl, rfl, trivial⟩, ⟨rfl, rfl, rfl, trivial⟩, (hE142.step hw150 hge.mem), ?_⟩
   · (try dsimp only); omega
   try dsimp only
   refine ⟨⟨(hw150.blk hR3.blk hA1.nmem), (hR3.own.evo hw150 hA2.own), hR3.ne⟩, hbj, ?_, (by show s.size + 1 ≤ f' + j; omega), ?_, (hge.app hE142 hob151), HZ hvr hv3, un_in hSl hS3, (by show n + li.length ≤ 16 * j; omega), (hw150.blk hB144 ha2.nmem), hg2, (ha2.app (Lt.blk hB144) hob151)⟩
   · rw [heq, hff]; exact SE hii (fun h => hc24 ⟨hii, h.2⟩) hx
   · rw [kN]; exact hO2
  replace hs21 := congrArg Bool.not hs21; simp only [Bool.not_not, Bool.not_true, Bool.not_false] at hs21; subst hs21
  refine aH (aH (aR (aC (aA (cO rfl ?_))))); refine aU (aA (aB (aG (aG ?_)))); refine bT (vs := [_]) uL rfl (LQ ⟨(hq18.blk0 hR9.blk), (hR9.own.evo0 hq18), hR9.ne⟩ (by omega) hii hbi (hG.evo hE19 hgb)) rfl ?_ ?_
  ·intro pv wp hpp; obtain ⟨e9, hpe, rfl, hpw⟩ := hpp
   exact And.intro rfl ⟨_, rfl, _, tV (by rw [hi0, heq, hff]; exact LP hii (fun h => (by cases h.1)) hpe), rfl, (hE19).step hpw (fun y hy => .inl hy)⟩
  rintro rv w162 ⟨T, j, hx, hT, hw163, hR3⟩; obtain ⟨a3, c3, ob3, li, rfl, hO3, hg3, hv3, hS3, hl3⟩ := hT; have hE169 := hE19.step hw163 (fun y hy => .inl hy); have hB170 := (hown.evo0 hq18).evo hw163 ((by first | exact hA1.symm.own1 | exact hA1.symm.nmem1)); have hB171 := hw163.blk (hq18.blk0 hb2) ((by first | exact hA3.symm.own1 | exact hA3.symm.nmem1)); obtain ⟨hbj, hij⟩ := pT hx hbi hii; have hjl := hbj.le; refine dL rfl rfl rfl rfl gR hB170 (Src.ofOwn hO3 (pQ li)) (by omega) fun a2 c2 w174 ob2 hO2 hw177 hob178 => ?_; refine aM (aC (aW (aA (aB (aM (aC (bY ?_))))))); refine ⟨⟨f', j, n + li.length, false, unS S T, l ++ li, a2, c2, ob2⟩, ?_, ⟨rfl, rfl, trivial⟩, ⟨rfl, rfl, rfl, trivial⟩, (hE169.step hw177 hge.mem), ?_⟩
  · (try dsimp only); omega
  try dsimp only
  refine ⟨⟨(hw177.blk hR3.blk hA1.nmem), (hR3.own.evo hw177 hA2.own), hR3.ne⟩, hbj, ?_, (by show s.size + 1 ≤ f' + j; omega), ?_, (hge.app hE169 hob178), HZ hvr hv3, un_in hSl hS3, (by show n + li.length ≤ 16 * j; omega), (hw177.blk hB171 ha2.nmem), hg2, (ha2.app (Lt.blk hB171) hob178)⟩
  · rw [heq, hff]; exact SE hii (fun h => (by cases h.1)) hx
  · rw [kN]; exact hO2
theorem uO : eY Tryz.prog 108 := ⟨_, Tryz.func108, by kernel_rfl, by kernel_rfl⟩
theorem xS {r : ByteArray} : ∀ {f i : Nat} {n : Int}, 0 ≤ n → n ≤ 1001 → i ≤ r.size → 0 ≤ (gX r f i n).1 ∧ (gX r f i n).1 ≤ 1001 ∧ i ≤ (gX r f i n).2 ∧ (gX r f i n).2 ≤ r.size
  | 0, i, n, h0, h1, hi => ⟨h0, h1, Nat.le_refl _, hi⟩
  | f + 1, i, n, h0, h1, hi => by
    rw [gX]
    split
    · rename_i h
      have h2 : 48 ≤ sb r i ∧ sb r i ≤ 57 := h.2
      obtain ⟨i1, i2, i3, i4⟩ := xS (r := r) (f := f) (i := i + 1) (n := min (n * 10 + ((sb r i : Int) - 48)) 1001) (by omega) (by omega) (by omega)
      exact ⟨i1, i2, by omega, i4⟩
    · exact ⟨h0, h1, Nat.le_refl _, hi⟩
theorem pNum_go {r : ByteArray} {f i : Nat} {n : Int} (h : i < r.size) (h2 : 48 ≤ sb r i) (h3 : sb r i ≤ 57) : gX r (f + 1) i n = gX r f (i + 1) (min (n * 10 + ((sb r i : Int) - 48)) 1001) := by rw [gX, if_pos ⟨h, h2, h3⟩]
theorem xR {r : ByteArray} {f i : Nat} {n : Int} (h : ¬ (i < r.size ∧ OD (sb r i))) : gX r f i n = (n, i) := by
  cases f with
  | zero => rfl
  | succ f => rw [gX, if_neg h]
structure NuG where
  f : Nat
  i : Nat
  n : Int
structure NuI (r : ByteArray) (i0 : Nat) (x : NuG) : Prop where
  hi : x.i ≤ r.size
  n0 : 0 ≤ x.n
  n1 : x.n ≤ 1001
  hf : r.size ≤ x.f + x.i
  eq : gX r r.size i0 0 = gX r x.f x.i x.n
theorem AK {w : World} (r : ByteArray) (i0 : Nat) (hi : i0 ≤ r.size) (hs : r.size ≤ 1000000) :
    Calls Tryz.prog 108 #[.string r, .int .i64 (i0 : Nat)] w (Ret fun v w' => v = .tuple #[iv (gX r r.size i0 0).1, iv ((gX r r.size i0 0).2 : Nat)] ∧ Evo [] w w') := by
  refine bJ (N := 36) Tryz.func108 rfl rfl rfl ?_; refine aE (aB (aM (aM (aC (aA (aE (aB (aM (aC (aA (aE (bR ?_))))))))))))
  refine eV (α := NuG) (⟨r.size, i0, 0⟩) (fun x => [(6, .int .i64 x.n), (1, .int .i64 (x.i : Nat))]) [(0, _), (4, _), (5, _)] (fun x wr => Evo [] w wr ∧ (NuI r i0 x)) (fun x => x.f) ⟨rfl, rfl, trivial⟩ ⟨rfl, rfl, rfl, trivial⟩ ⟨(Evo.refl [] w), ⟨hi, Int.le_refl _, (by show (0 : Int) ≤ 1001; omega), Nat.le_add_right _ _, rfl⟩⟩ ?_
  rintro ⟨f, i, n⟩ wr1 ⟨hV2, ⟨hi1, hn0, hn1, hf, heq⟩⟩; show CW _ _ _ _ [(6, .int .i64 n), (1, .int .i64 (i : Nat)), (0, _), (4, _), (5, _)] _
  try dsimp only at hi1
  try dsimp only at hn0
  try dsimp only at hn1
  try dsimp only at hf
  try dsimp only at heq
  have hb := jM r i; refine aE (aE (aB (aG (aG (aF (cM rfl Tryz.underlying9 rfl) ?_))))); refine aF (dF rfl rfl) ?_; refine aG (aV (t := 11) rfl (fun hs11 => ?_) (fun hs11 => ?_))
  ·refine aQ (aG (aQ (aG (aQ ?_)))); refine aF (fL (n := i) rfl rfl Tryz.underlying9 rfl (by omega)) ?_; refine aQ (aF (gC rfl rfl) ?_); refine bH (aG (aV (t := 17) rfl (fun hs17 => ?_) (fun hs17 => ?_)))
   ·refine aQ (aG (aQ (aG (aQ ?_)))); refine aF (fL (n := i) rfl rfl Tryz.underlying9 rfl (by omega)) ?_; refine aQ (aF (gY rfl rfl) ?_); refine bH (aC (aA (bF rfl (fun hc22 => ?_) (fun hc22 => ?_))))
    ·refine aU (aA (bR (aE (aB (aG ?_))))); refine aF (sX rfl rfl (by omega) (by omega)) ?_; refine aG (aG ?_); refine aF (fL (n := i) rfl rfl Tryz.underlying9 rfl (by omega)) ?_; refine aF (lL rfl rfl (by omega) (by omega)) ?_; refine aF (jC rfl Tryz.underlying5 Tryz.underlying3 (sG (by omega) (by omega)).1 (sG (by omega) (by omega)).2) ?_; refine aF (bC rfl rfl (by omega) (by omega)) ?_; refine aF (CU rfl rfl) ?_; rw [yA]; refine aM (aC (aA (aB (aG ?_)))); refine aF (bC rfl rfl (by omega) (by omega)) ?_; refine aM (aC (aW (bY ?_))); refine ⟨⟨f - 1, i + 1, min (n * 10 + ((sb r i : Int) - 48)) 1001⟩, ?_, ⟨rfl, rfl, trivial⟩, ⟨rfl, rfl, rfl, trivial⟩, hV2, ?_⟩
     · (try dsimp only); show f - 1 < f; omega
     try dsimp only
     have hf2 : f = f - 1 + 1 := by omega
     exact ⟨(by show i + 1 ≤ r.size; omega), (by show 0 ≤ min _ _; omega), (by show min _ _ ≤ _; omega), (by show r.size ≤ f - 1 + (i + 1); omega), heq.trans (by rw [hf2]; exact pNum_go (by omega) (by omega) (by omega))⟩
    refine dO (cD (cD (dN (aA ?_)))); refine aE (aB (aG (aG (aM (aM (aC (aA (aO (dC rfl rfl rfl ?_)))))))))
    have hend := heq.trans (xR (by rintro ⟨h1, h2, h3⟩; omega))
    rw [hend]; exact ⟨rfl, hV2⟩
   refine aH (aH (aH (aH (aR (aC (aA (cO rfl ?_))))))); refine dO (cD (cD (dN (aA ?_)))); refine aE (aB (aG (aG (aM (aM (aC (aA (aO (dC rfl rfl rfl ?_)))))))))
   have hend := heq.trans (xR (by rintro ⟨h1, h2, h3⟩; omega))
   rw [hend]; exact ⟨rfl, hV2⟩
  refine aH (aH (aH (aH (aR (aG (aH (aH (aH (aH (aR (aC (aA (cO rfl ?_))))))))))))); refine dO (cD (cD (dN (aA ?_)))); refine aE (aB (aG (aG (aM (aM (aC (aA (aO (dC rfl rfl rfl ?_)))))))))
  have hend := heq.trans (xR (by rintro ⟨h1, h2, h3⟩; omega))
  rw [hend]; exact ⟨rfl, hV2⟩
section
variable {r : ByteArray}
theorem KJ (h : sb r 0 = 42) : kY r = (0, -1, 1) := by unfold kY; rw [if_pos h]
theorem KL (h : sb r 0 = 43) : kY r = (1, -1, 1) := by unfold kY; rw [if_neg (by omega), if_pos h]
theorem pr_qu (h : sb r 0 = 63) : kY r = (0, 1, 1) := by unfold kY; rw [if_neg (by omega), if_neg (by omega), if_pos h]
theorem PY (h : ¬ sb r 0 = 42) (h2 : ¬ sb r 0 = 43) (h3 : ¬ sb r 0 = 63) (h4 : ¬ sb r 0 = 123) : kY r = (0, 0, 0) := by unfold kY; rw [if_neg h, if_neg h2, if_neg h3, if_pos h4]
theorem pr_br (h : sb r 0 = 123) {lo : Int} {i : Nat} (h2 : gX r r.size 1 0 = (lo, i)) : kY r = if 1 < i ∧ isB r i 44 then (if isB r (gX r r.size (i + 1) 0).2 125 then (lo, (if (gX r r.size (i + 1) 0).2 = i + 1 then -1 else (gX r r.size (i + 1) 0).1), (gX r r.size (i + 1) 0).2 + 1) else (0, 0, 0))
    else if i = 1 ∨ ¬ isB r i 125 then (0, 0, 0) else (lo, lo, i + 1) := by
  unfold kY
  rw [if_neg (by omega), if_neg (by omega), if_neg (by omega), if_neg (by omega), h2]
end
theorem nH {p : Int × Int × Nat} {a b : Int} {c : Nat} (h : p = (a, b, c)) : (Value.tuple #[iv a, iv b, iv (c : Nat)]) = .tuple #[iv p.1, iv p.2.1, iv (p.2.2 : Nat)] := by rw [h]
theorem IF {w : World} {b : Nat} {s : ByteArray} {st : PS} {a : Option Addr} {c : Nat} {ob : Option Nat} (hR : RdAt w b s st a c ob) (hs : s.size ≤ 1000000) (hlt : st.pos < s.size) :
    Calls Tryz.prog 86 #[.pointer (some ⟨b, 0, none⟩)] w (Ret fun v w' => v = .tuple #[iv (kY (s.extract st.pos s.size)).1, iv (kY (s.extract st.pos s.size)).2.1, iv ((kY (s.extract st.pos s.size)).2.2 : Nat)] ∧ Evo [] w w') := by
  have hap := hR.ap; have hrs := fU (s := s) (a := st.pos) (Nat.le_refl s.size); refine bJ (N := 78) Tryz.func86 rfl rfl rfl ?_; refine aE (aB (aM (aM (aM (aC (aA (aE ?_))))))); refine fH (by kernel_rfl) (by kernel_rfl) ?_; refine bM (fun _ hq2 => bO rfl) ?_; refine bM (fun _ hq2 => aP rfl) ?_; refine bM (fun _ hq2 => aD rfl dE) ?_; refine bM (fun _ hq2 => aI rfl cJ (aJ (hq2.blk0 hR.blk) rfl)) ?_; refine bM (fun _ hq2 => bO rfl) ?_; refine bM (fun _ hq2 => aP rfl) ?_; refine bM (fun _ hq2 => aD rfl bE) ?_; refine bM (fun _ hq2 => aI rfl aZ (aJ (hq2.blk0 hR.blk) rfl)) ?_; refine bM (fun _ hq2 => gW (l := st.pos) rfl rfl Tryz.underlying9 rfl (by omega)) ?_; refine bM (fun _ hq2 => eT rfl) ?_; refine fP (fun wq1 hq2 => aA ?_); have hE3 := (Evo.refl [] w).then hq2; refine aE (aE ?_)
  generalize s.extract st.pos s.size = r at *
  refine aB (aG ?_); refine aF (fL (n := 0) rfl rfl Tryz.underlying9 rfl (by omega)) ?_; refine aC (aA (bR (aE (aB (aF (bD rfl rfl) ?_))))); refine aM (aC (aA (bF rfl (fun hc21 => ?_) (fun hc21 => ?_))))
  ·refine aE (aB (aM (aM (aM (aC (aA (aO (aX (aN (eX rfl rfl rfl rfl ?_)))))))))); exact ⟨nH (KJ (by omega)), hE3⟩
  refine aE (aB (aF (bD rfl rfl) ?_)); refine aM (aC (aA (bF rfl (fun hc23 => ?_) (fun hc23 => ?_))))
  ·refine aE (aB (aM (aM (aM (aC (aA (aO (aX (aN (eX rfl rfl rfl rfl ?_)))))))))); exact ⟨nH (KL (by omega)), hE3⟩
  refine aE (aB (aF (bD rfl rfl) ?_)); refine aM (aC (aA (bF rfl (fun hc25 => ?_) (fun hc25 => ?_))))
  ·refine aE (aB (aM (aM (aM (aC (aA (aO (aX (aN (eX rfl rfl rfl rfl ?_)))))))))); exact ⟨nH (pr_qu (by omega)), hE3⟩
  refine aE (aB (aF (bD rfl rfl) ?_)); refine aM (aC (aA (bF rfl (fun hc27 => ?_) (fun hc27 => ?_))))
  ·refine aU (aW (aA (aE (aB (aG ?_))))); refine aK (vs := [_, _]) uO rfl (AK r 1 (by omega) (by omega)) rfl ?_; rintro _ w6 ⟨rfl, hw7⟩; obtain ⟨lo, i, hp1⟩ : ∃ lo i, gX r r.size 1 0 = (lo, i) := ⟨_, _, rfl⟩; have hb1 := xS (r := r) (f := r.size) (i := 1) (n := 0) (by omega) (by omega) (by omega); have hbr := pr_br (r := r) (by omega) hp1; rw [hp1] at hb1 ⊢; simp only at hb1; have hE8 := hE3.then hw7; refine aG (aF (cN rfl rfl) ?_); refine aF (cN rfl rfl) ?_; refine aM (aM (aC (aA (aE (aB (aG (aM (aC (aA (aE (aE (aB (aG (aF (gL rfl rfl) ?_)))))))))))))); refine aG (aV (t := 37) rfl (fun hs37 => ?_) (fun hs37 => ?_))
   ·refine aQ (aG (aQ (aG (aQ (aF (cM rfl Tryz.underlying9 rfl) ?_))))); refine aQ (aF (dF rfl rfl) ?_); refine bH (aG (aV (t := 43) rfl (fun hs43 => ?_) (fun hs43 => ?_)))
    ·refine aQ (aG (aQ (aG (aQ ?_)))); refine aF (fL (n := i) rfl rfl Tryz.underlying9 rfl (by omega)) ?_; refine aQ (aF (bD rfl rfl) ?_); refine bH (aC (aA (bF rfl (fun hc48 => ?_) (fun hc48 => ?_))))
     ·have hcm : 1 < i ∧ isB r i 44 := ⟨by omega, by omega, by omega⟩; refine aE (aB (aG ?_)); refine aF (bC rfl rfl (by omega) (by omega)) ?_; refine aM (aC (aA (aE (aB (aG (aG ?_)))))); refine aK (vs := [_, _]) uO rfl (AK r (i + 1) (by omega) (by omega)) rfl ?_; rintro _ w11 ⟨rfl, hw12⟩; obtain ⟨hi2, m, hp2⟩ : ∃ hi2 m, gX r r.size (i + 1) 0 = (hi2, m) := ⟨_, _, rfl⟩; have hb2 := xS (r := r) (f := r.size) (i := i + 1) (n := 0) (by omega) (by omega) (by omega); rw [if_pos hcm, hp2] at hbr; rw [hp2] at hb2 ⊢; simp only at hb2 hbr; have hE13 := hE8.then hw12; refine aG (aF (cN rfl rfl) ?_); refine aF (cN rfl rfl) ?_; refine aM (aM (aC (aA (aE (aB (aG (aG (aF (bD rfl rfl) ?_)))))))); refine aC (aA (bF rfl (fun hc59 => ?_) (fun hc59 => ?_)))
      ·have hmi : m = i + 1 := by omega
       refine aB (aM (aC (aA (aE (aE (aB (aG (aF (bD rfl rfl) ?_)))))))); refine aG (aV (t := 62) rfl (fun hs62 => ?_) (fun hs62 => ?_))
       ·refine aH (aH (aH (aH (bH (aG (aH (aH (aH (aH (bH (aC (aA (cV rfl ?_))))))))))))); refine aE (aB (aM (aM (aM (aC (aA (aO (aN (eX rfl rfl rfl rfl ?_)))))))))
        exact ⟨nH (hbr.trans (if_neg (fun h => by have h1 := h.1; have h2 := h.2; omega))), hE13⟩
       refine aQ (aG (aQ (aG (aQ (aF (cM rfl Tryz.underlying9 rfl) ?_))))); refine aQ (aF (gC rfl rfl) ?_); refine aR (aG (aV (t := 68) rfl (fun hs68 => ?_) (fun hs68 => ?_)))
       ·refine aH (aH (aH (aH (bH (aC (aA (cV rfl ?_))))))); refine aE (aB (aM (aM (aM (aC (aA (aO (aN (eX rfl rfl rfl rfl ?_)))))))))
        exact ⟨nH (hbr.trans (if_neg (fun h => by have h1 := h.1; have h2 := h.2; omega))), hE13⟩
       refine aQ (aG (aQ (aG (aQ ?_)))); refine aF (fL (n := m) rfl rfl Tryz.underlying9 rfl (by omega)) ?_; refine aQ (aF (fX rfl rfl) ?_); refine aR (aC (aA (bF rfl (fun hc73 => ?_) (fun hc73 => ?_))))
       ·refine aE (aB (aM (aM (aM (aC (aA (aO (aN (eX rfl rfl rfl rfl ?_)))))))))
        exact ⟨nH (hbr.trans (if_neg (fun h => by have h1 := h.1; have h2 := h.2; omega))), hE13⟩
       refine aU (aA (aE (aB (aG (aG (aG ?_)))))); refine aF (bC rfl rfl (by omega) (by omega)) ?_; refine aM (aM (aM (aC (aA (aO (eX rfl rfl rfl rfl ?_)))))); exact ⟨nH (hbr.trans ((if_pos ⟨by omega, by omega⟩).trans (by rw [if_pos hmi]))), hE13⟩
      refine aU (aA (aE (aE (aB (aG (aF (bD rfl rfl) ?_)))))); refine aG (aV (t := 62) rfl (fun hs62 => ?_) (fun hs62 => ?_))
      ·refine aH (aH (aH (aH (bH (aG (aH (aH (aH (aH (bH (aC (aA (cV rfl ?_))))))))))))); refine aE (aB (aM (aM (aM (aC (aA (aO (aN (eX rfl rfl rfl rfl ?_)))))))))
       exact ⟨nH (hbr.trans (if_neg (fun h => by have h1 := h.1; have h2 := h.2; omega))), hE13⟩
      refine aQ (aG (aQ (aG (aQ (aF (cM rfl Tryz.underlying9 rfl) ?_))))); refine aQ (aF (gC rfl rfl) ?_); refine aR (aG (aV (t := 68) rfl (fun hs68 => ?_) (fun hs68 => ?_)))
      ·refine aH (aH (aH (aH (bH (aC (aA (cV rfl ?_))))))); refine aE (aB (aM (aM (aM (aC (aA (aO (aN (eX rfl rfl rfl rfl ?_)))))))))
       exact ⟨nH (hbr.trans (if_neg (fun h => by have h1 := h.1; have h2 := h.2; omega))), hE13⟩
      refine aQ (aG (aQ (aG (aQ ?_)))); refine aF (fL (n := m) rfl rfl Tryz.underlying9 rfl (by omega)) ?_; refine aQ (aF (fX rfl rfl) ?_); refine aR (aC (aA (bF rfl (fun hc73 => ?_) (fun hc73 => ?_))))
      ·refine aE (aB (aM (aM (aM (aC (aA (aO (aN (eX rfl rfl rfl rfl ?_)))))))))
       exact ⟨nH (hbr.trans (if_neg (fun h => by have h1 := h.1; have h2 := h.2; omega))), hE13⟩
      refine aU (aA (aE (aB (aG (aG (aG ?_)))))); refine aF (bC rfl rfl (by omega) (by omega)) ?_; refine aM (aM (aM (aC (aA (aO (eX rfl rfl rfl rfl ?_)))))); exact ⟨nH (hbr.trans ((if_pos ⟨by omega, by omega⟩).trans (by rw [if_neg (by omega)]))), hE13⟩
     refine aU (aA (aE (aE (aB (aG (aF (bD rfl rfl) ?_)))))); refine aG (aV (t := 62) rfl (fun hs62 => ?_) (fun hs62 => ?_))
     ·refine aH (aH (aH (aH (bH (aG (aH (aH (aH (aH (bH (aC (aA (cV rfl ?_))))))))))))); refine aE (aB (aM (aM (aM (aC (aA (aO (aN (eX rfl rfl rfl rfl ?_)))))))))
      exact ⟨nH (hbr.trans ((if_neg (by rintro ⟨h1, h2, h3⟩; omega)).trans (if_pos (.inl (by omega))))), hE8⟩
     refine aQ (aG (aQ (aG (aQ (aF (cM rfl Tryz.underlying9 rfl) ?_))))); refine aQ (aF (gC rfl rfl) ?_); refine aR (aG (aV (t := 68) rfl (fun hs68 => ?_) (fun hs68 => ?_)))
     ·refine aH (aH (aH (aH (bH (aC (aA (cV rfl ?_))))))); refine aE (aB (aM (aM (aM (aC (aA (aO (aN (eX rfl rfl rfl rfl ?_)))))))))
      exact ⟨nH (hbr.trans ((if_neg (by rintro ⟨h1, h2, h3⟩; omega)).trans (if_pos (.inr (fun h => by have h1 := h.1; have h2 := h.2; omega))))), hE8⟩
     refine aQ (aG (aQ (aG (aQ ?_)))); refine aF (fL (n := i) rfl rfl Tryz.underlying9 rfl (by omega)) ?_; refine aQ (aF (fX rfl rfl) ?_); refine aR (aC (aA (bF rfl (fun hc73 => ?_) (fun hc73 => ?_))))
     ·refine aE (aB (aM (aM (aM (aC (aA (aO (aN (eX rfl rfl rfl rfl ?_)))))))))
      exact ⟨nH (hbr.trans ((if_neg (by rintro ⟨h1, h2, h3⟩; omega)).trans (if_pos (.inr (fun h => by have h1 := h.1; have h2 := h.2; omega))))), hE8⟩
     refine aU (aA (aE (aB (aG (aG (aG ?_)))))); refine aF (bC rfl rfl (by omega) (by omega)) ?_; refine aM (aM (aM (aC (aA (aO (eX rfl rfl rfl rfl ?_))))))
     exact ⟨nH (hbr.trans ((if_neg (by rintro ⟨h1, h2, h3⟩; omega)).trans (if_neg (by rintro (h | h); omega; exact h ⟨by omega, by omega⟩)))), hE8⟩
    refine aH (aH (aH (aH (aR (aC (aA (cO rfl ?_))))))); refine aU (aA (aE (aE (aB (aG (aF (bD rfl rfl) ?_)))))); refine aG (aV (t := 62) rfl (fun hs62 => ?_) (fun hs62 => ?_))
    ·refine aH (aH (aH (aH (bH (aG (aH (aH (aH (aH (bH (aC (aA (cV rfl ?_))))))))))))); refine aE (aB (aM (aM (aM (aC (aA (aO (aN (eX rfl rfl rfl rfl ?_)))))))))
     exact ⟨nH (hbr.trans ((if_neg (by rintro ⟨h1, h2, h3⟩; omega)).trans (if_pos (.inl (by omega))))), hE8⟩
    refine aQ (aG (aQ (aG (aQ (aF (cM rfl Tryz.underlying9 rfl) ?_))))); refine aQ (aF (gC rfl rfl) ?_); refine aR (aG (aV (t := 68) rfl (fun hs68 => ?_) (fun hs68 => ?_)))
    ·refine aH (aH (aH (aH (bH (aC (aA (cV rfl ?_))))))); refine aE (aB (aM (aM (aM (aC (aA (aO (aN (eX rfl rfl rfl rfl ?_)))))))))
     exact ⟨nH (hbr.trans ((if_neg (by rintro ⟨h1, h2, h3⟩; omega)).trans (if_pos (.inr (fun h => by have h1 := h.1; have h2 := h.2; omega))))), hE8⟩
    refine aQ (aG (aQ (aG (aQ ?_)))); refine aF (fL (n := i) rfl rfl Tryz.underlying9 rfl (by omega)) ?_; refine aQ (aF (fX rfl rfl) ?_); refine aR (aC (aA (bF rfl (fun hc73 => ?_) (fun hc73 => ?_))))
    ·refine aE (aB (aM (aM (aM (aC (aA (aO (aN (eX rfl rfl rfl rfl ?_)))))))))
     exact ⟨nH (hbr.trans ((if_neg (by rintro ⟨h1, h2, h3⟩; omega)).trans (if_pos (.inr (fun h => by have h1 := h.1; have h2 := h.2; omega))))), hE8⟩
    refine aU (aA (aE (aB (aG (aG (aG ?_)))))); refine aF (bC rfl rfl (by omega) (by omega)) ?_; refine aM (aM (aM (aC (aA (aO (eX rfl rfl rfl rfl ?_))))))
    exact ⟨nH (hbr.trans ((if_neg (by rintro ⟨h1, h2, h3⟩; omega)).trans (if_neg (by rintro (h | h); omega; exact h ⟨by omega, by omega⟩)))), hE8⟩
   refine aH (aH (aH (aH (aR (aG (aH (aH (aH (aH (aR (aC (aA (cO rfl ?_))))))))))))); refine aU (aA (aE (aE (aB (aG (aF (bD rfl rfl) ?_)))))); refine aG (aV (t := 62) rfl (fun hs62 => ?_) (fun hs62 => ?_))
   ·refine aH (aH (aH (aH (bH (aG (aH (aH (aH (aH (bH (aC (aA (cV rfl ?_))))))))))))); refine aE (aB (aM (aM (aM (aC (aA (aO (aN (eX rfl rfl rfl rfl ?_)))))))))
    exact ⟨nH (hbr.trans ((if_neg (by rintro ⟨h1, h2, h3⟩; omega)).trans (if_pos (.inl (by omega))))), hE8⟩
   refine aQ (aG (aQ (aG (aQ (aF (cM rfl Tryz.underlying9 rfl) ?_))))); refine aQ (aF (gC rfl rfl) ?_); refine aR (aG (aV (t := 68) rfl (fun hs68 => ?_) (fun hs68 => ?_)))
   ·refine aH (aH (aH (aH (bH (aC (aA (cV rfl ?_))))))); refine aE (aB (aM (aM (aM (aC (aA (aO (aN (eX rfl rfl rfl rfl ?_)))))))))
    exact ⟨nH (hbr.trans ((if_neg (by rintro ⟨h1, h2, h3⟩; omega)).trans (if_pos (.inr (fun h => by have h1 := h.1; have h2 := h.2; omega))))), hE8⟩
   refine aQ (aG (aQ (aG (aQ ?_)))); refine aF (fL (n := i) rfl rfl Tryz.underlying9 rfl (by omega)) ?_; refine aQ (aF (fX rfl rfl) ?_); refine aR (aC (aA (bF rfl (fun hc73 => ?_) (fun hc73 => ?_))))
   ·refine aE (aB (aM (aM (aM (aC (aA (aO (aN (eX rfl rfl rfl rfl ?_)))))))))
    exact ⟨nH (hbr.trans ((if_neg (by rintro ⟨h1, h2, h3⟩; omega)).trans (if_pos (.inr (fun h => by have h1 := h.1; have h2 := h.2; omega))))), hE8⟩
   refine aU (aA (aE (aB (aG (aG (aG ?_)))))); refine aF (bC rfl rfl (by omega) (by omega)) ?_; refine aM (aM (aM (aC (aA (aO (eX rfl rfl rfl rfl ?_))))))
   exact ⟨nH (hbr.trans ((if_neg (by rintro ⟨h1, h2, h3⟩; omega)).trans (if_neg (by rintro (h | h); omega; exact h ⟨by omega, by omega⟩)))), hE8⟩
  refine aE (aB (aM (aM (aM (aC (aA (aO (aX (aN (eX rfl rfl rfl rfl ?_)))))))))); exact ⟨nH (PY (by omega) (by omega) (by omega) (by omega)), hE3⟩
theorem dD : sS Tryz.prog 25 = some (27, 9) := by kernel_rfl
def KOut (w w' : World) (v : Value) (l : List Rx) : Prop := ∃ a c ob cs bs, v = .slice a l.length c ∧ OwnS w' 27 9 a l.length c cs ob ∧ OTs l w' cs bs ∧ Fr w (ob.toList ++ bs)
theorem iI {X : List Nat} {w w1 w2 : World} {x : Rx} {vs : List Value} {bs : List Nat} {g : Nat} (hO : OwnS w2 27 9 (some ⟨g, 0, none⟩) 1 1 vs (some g)) (hT : OT x w1 vs bs) (hF : Fr w bs) (hg : w1.heap.size ≤ g) (he : Evo X w1 w2) (hx : ∀ b, b ∈ bs → b ∉ X) (hw : w.heap.size ≤ w1.heap.size) : KOut w w2 (.slice (some ⟨g, 0, none⟩) 1 1) [x] := by
  refine ⟨_, _, some g, vs, bs, rfl, hO, OTs.single (hT.evo he hx), ⟨List.nodup_cons.2 ⟨fun h => ?_, hF.nd⟩, fun b hb => ?_⟩⟩
  · have := hT.lt g h; omega
  · rcases List.mem_cons.1 hb with rfl | hb
    · omega
    · exact hF.ge b hb
theorem ot_row (k : Int) {l : List Rx} {w : World} {a : Option Addr} {n c : Nat} {cs : List Value} {ob : Option Nat} {bs : List Nat} (hO : OwnS w 27 9 a n c cs ob) (hT : OTs l w cs bs) (hl : l.length ≤ 1000000) :
    OT (lS k l) w [iv k, .int .i32 0, .slice none 0 0, iv 0, iv 0, .bool false, iv 0, .string ByteArray.empty, .slice a n c] (ob.toList ++ bs) := by
  have h1 := hO.length
  have h2 := hT.len
  obtain rfl : n = l.length := by omega
  unfold lS
  rw [OT]
  exact ⟨none, 0, none, a, c, ob, cs, bs, rfl, OwnS.nil _ _ _, hO, hT, rfl, by simp, by show (0 : Nat) ≤ 1000000; omega, hl⟩
theorem ND {k : Int} {l : List Rx} (h : 2 ≤ l.length) : oZ k l = lS k l := by
  match l, h with
  | x :: y :: l, _ => rfl
theorem BK {w : World} (k : Int) {l : List Rx} {a : Option Addr} {n c : Nat} {cs : List Value} {ob : Option Nat} {bs : List Nat} (hO : OwnS w 27 9 a n c cs ob) (hT : OTs l w cs bs) (hl : l.length ≤ 1000000) :
    Calls Tryz.prog 61 #[iv k, .slice a n c] w (Ret fun v w' => (∃ vs bs', v = .agg vs.toArray ∧ OT (oZ k l) w' vs bs' ∧ bs'.Sublist (ob.toList ++ bs)) ∧ Evo [] w w') := by
  have h1 := hO.length; have h2 := hT.len
  obtain rfl : n = l.length := by omega
  refine bJ (N := 18) Tryz.func61 rfl rfl rfl ?_; refine aE (aB (dA rfl dS fun b4 w1 hB2 hs3 hw4 => ?_)); have hsz_b4 := hs3; have hG6 := Ge.new (Evo.refl [] w) hs3; have hE7 := (Evo.refl [] w).then hw4; refine aC (aA (aE (aE (aB (aG (aF (bK rfl Tryz.underlying25 rfl) ?_)))))); refine aC (aA (bR (aE (aB (aF (bD rfl rfl) ?_))))); refine aM (aC (aA (bF rfl (fun hc7 => ?_) (fun hc7 => ?_))))
  ·refine aE (aB (aF (eN (vs := [(0, _)]) dK rfl (cells := [_, _, _, _, _, _, _, _, _]) rfl) ?_)); refine bI rfl rfl aY hB2 rfl rfl ⟨rfl, rfl, rfl, rfl, rfl, rfl, rfl, rfl, rfl, trivial⟩ fun w9 hB10 hw11 => ?_
   try simp only [cR, Nat.reduceAdd] at hB10
   refine aC (aA (aO (aX (aN (cX rfl (ResOk.cellA rfl bQ aY hB10 rfl) ?_))))); obtain rfl := List.length_eq_zero_iff.1 (show l.length = 0 by omega); exact ⟨⟨_, [], rfl, pW 1 _, List.nil_sublist _⟩, (hE7.step hw11 hG6.mem1)⟩
  refine aE (aB (aF (bD rfl rfl) ?_)); refine aM (aC (aA (bF rfl (fun hc10 => ?_) (fun hc10 => ?_))))
  ·obtain ⟨x, rfl⟩ := List.length_eq_one_iff.1 (show l.length = 1 by omega); obtain ⟨g1, hg1', ha1, hc1⟩ := hO.cells (by simp); have hX := hT.one'; obtain ⟨ra, rc, ka, kc, rfl⟩ := id hX.nine; refine aE (aB (aG ?_)); refine aF (eK (n := 0) rfl rfl ha1 dT (by omega)) ?_; refine aF (eJ rfl bQ aY (vs := [_, _, _, _, _, _, _, _, _]) rfl (hc1.evo hE7 (by simp))) ?_; refine bI rfl rfl aY hB2 rfl rfl ⟨rfl, rfl, rfl, rfl, rfl, rfl, rfl, rfl, rfl, trivial⟩ fun w14 hB15 hw16 => ?_; have hE17 := hE7.step hw16 hG6.mem1
   try simp only [cR, Nat.reduceAdd] at hB15
   refine aC (aA (aO (aX (aN (cX rfl (ResOk.cellA rfl bQ aY hB15 rfl) ?_))))); exact ⟨⟨_, bs, rfl, hX.evo hE17 (fun b hb h => by cases h), List.sublist_append_right _ _⟩, hE17⟩
  refine aU (aW (aA (aE (aB (aG (aG (aF (eN (vs := [(0, _), (8, _)]) dK rfl (cells := [_, _, _, _, _, _, _, _, _]) rfl) ?_))))))); refine bI rfl rfl aY hB2 rfl rfl ⟨rfl, rfl, rfl, rfl, rfl, rfl, rfl, rfl, rfl, trivial⟩ fun w19 hB20 hw21 => ?_; have hE22 := hE7.step hw21 hG6.mem1
  try simp only [cR, Nat.reduceAdd] at hB20
  refine aC (aA (aO (cX rfl (ResOk.cellA rfl bQ aY hB20 rfl) ?_))); rw [ND (by omega)]; exact ⟨⟨_, _, rfl, ot_row k ((hO.evo0 hw4).evo hw21 (Apart.new (Lt.own hO) hs3).own1) (hT.evo hE22 (fun b hb h => by cases h)) hl, List.Sublist.refl _⟩, hE22⟩
theorem QW {w : World} (k k2 : Int) (t : Bool) : Calls Tryz.prog 115 #[iv k, iv k2, .bool t] w (Ret fun v w' => KOut w w' v [rxK (if t = true then k2 else k)] ∧ Evo [] w w') := by
  refine bJ (N := 12) Tryz.func115 rfl rfl rfl ?_; refine aE (aB (aM (aC (aA (aE (aE (aB (aG (aC (aA (fW rfl (fun hc7 => ?_) (fun hc7 => ?_))))))))))))
  ·refine aB (aG (aM (aC (aA (aE (aB (aG (aF (eN (vs := [(0, _)]) dK rfl (cells := [_, _, _, _, _, _, _, _, _]) rfl) ?_)))))))); refine bL (vs := [_]) rfl dD rfl rfl rfl rfl fun b11 w1 hO2 hs3 hw4 => ?_; have hE6 := (Evo.refl [] w).then hw4; refine aM (aC (aA (aO (br1 ?_)))); rw [if_pos hc7]; exact ⟨iI hO2 (pW k2 _) (Fr.nil _) ((Ge.new (Evo.refl [] w) hs3) _ rfl) hE6 (fun b hb => by cases hb) (Nat.le_refl _), hE6⟩
  refine aU (aA (aE (aB (aG (aF (eN (vs := [(0, _)]) dK rfl (cells := [_, _, _, _, _, _, _, _, _]) rfl) ?_))))); refine bL (vs := [_]) rfl dD rfl rfl rfl rfl fun b11 w7 hO8 hs9 hw10 => ?_; have hE12 := (Evo.refl [] w).then hw10; refine aM (aC (aA (aO (br1 ?_)))); rw [if_neg (by simp [hc7])]; exact ⟨iI hO8 (pW k _) (Fr.nil _) ((Ge.new (Evo.refl [] w) hs9) _ rfl) hE12 (fun b hb => by cases hb) (Nat.le_refl _), hE12⟩
theorem cQ : oG Tryz.prog 159 = some true := by kernel_rfl
theorem iX : oG Tryz.prog 28 = some false := by kernel_rfl
theorem iW : oG Tryz.prog 62 = some true := by kernel_rfl
theorem mF : gA Tryz.prog 64 4 = some 7 := by kernel_rfl
theorem bN : iT Tryz.prog 159 = some 9 := by kernel_rfl
theorem dJ : iT Tryz.prog 62 = some 4 := by kernel_rfl
theorem DT : oJ Tryz.prog 164 = some #[.string ByteArray.empty, .string ByteArray.empty] := by kernel_rfl
theorem RdAt.mk' {w : World} {b : Nat} {s : ByteArray} {st : PS} {a : Option Addr} {n c : Nat} {ob : Option Nat} (hn : n = st.names.length)
    (hb : w.heap[b]? = some (.cells #[.string s, iv (st.pos : Nat), .bool st.now.fold, .bool st.now.lines, .bool st.now.dots, .bool st.now.lazy, iv (st.opn : Nat), .slice a n c] 64 (0, 0)))
    (ho : OwnS w 9 1 a n c (st.names.map sv) ob) (hne : ∀ g, ob = some g → g ≠ b) : RdAt w b s st a c ob := by subst hn; exact ⟨hb, ho, hne⟩
theorem NI {w : World} {e : TypeId} {a : Option Addr} {n c : Nat} {l : List ByteArray} {ob : Option Nat} (h : OwnS w e 1 a n c (l.map sv) ob) {k : Nat} (hk : k < l.length) : ∃ g, ob = some g ∧ a = some ⟨g, 0, none⟩ ∧ w.cell? ⟨g, 0 + k * 1, none⟩ = some (sv l[k]) := by
  have hl : l.length = n * 1 := by have := h.length; simpa using this
  obtain ⟨g, hg, ha, hc⟩ := h.cells (by omega)
  refine ⟨g, hg, ha, ?_⟩
  rw [Nat.mul_one]
  exact hc k _ (by simp [hk])
def zK (nm : ByteArray) (ns : List ByteArray) : Prop := ns.length = 100 ∨ (nm ≠ emp ∧ nm ∈ ns)
structure NgP (nm : ByteArray) (ns : List ByteArray) (k : Nat) : Prop where
  hk : k ≤ ns.length
  all : ∀ i (h : i < ns.length), i < k → nm = emp ∨ ns[i] ≠ nm
theorem ng_end {nm : ByteArray} {ns : List ByteArray} {k : Nat} (h : NgP nm ns k) (hk : ns.length ≤ k) (h1 : ns.length ≠ 100) : ¬ zK nm ns := by
  rintro (h2 | ⟨h2, h3⟩)
  · exact h1 h2
  · obtain ⟨i, hi, he⟩ := List.getElem_of_mem h3
    rcases h.all i hi (by omega) with h4 | h4
    · exact h2 h4
    · exact h4 he
theorem vR {w : World} {b : Nat} {s : ByteArray} {st : PS} {a : Option Addr} {c : Nat} {ob : Option Nat} (hR : RdAt w b s st a c ob) (nm : ByteArray) (hnl : st.names.length ≤ 100) :
    Calls Tryz.prog 128 #[.pointer (some ⟨b, 0, none⟩), .string nm] w (RetP (fun v w' => ¬ zK nm st.names ∧ v = iv ((st.names.length : Int) + 1) ∧ Evo (b :: ob.toList) w w' ∧ ∃ a' c' ob', RdAt w' b s { st with names := st.names ++ [nm] } a' c' ob' ∧ (ob' = ob ∨ ∃ g, ob' = some g ∧ w.heap.size ≤ g)) (fun v w' => zK nm st.names ∧ v = flt 85 ∧ Evo [] w w')) := by
  have hap := hR.ap; refine bJ (N := 47) Tryz.func128 rfl rfl rfl ?_; refine aE (aB (aM (aC (aA (aE (aE (aB (aG (aF (aP rfl) (aF (aD rfl mF) (aF (aI rfl kQ (aJ hR.blk rfl)) (aF (bK rfl Tryz.underlying22 rfl) ?_)))))))))))); refine aF (bD rfl rfl) ?_; refine aC (aA (bF rfl (fun hc12 => ?_) (fun hc12 => ?_)))
  ·refine aB (bT (vs := [_]) cS rfl (eO 85) rfl ?_ ?_)
   ·intro pv wp hpp; obtain ⟨rfl, hpw⟩ := hpp; exact And.intro rfl ⟨_, rfl, .inl (by omega), rfl, ((Evo.refl [] w)).then hpw⟩
   intro _ _ hF; exact hF.elim
  refine aU (aA (aE (aE (aB (aG (aF (aP rfl) (aF (aD rfl mF) (aF (aI rfl kQ (aJ hR.blk rfl)) (aF (bK rfl Tryz.underlying22 rfl) ?_))))))))); refine aG (aC (aA (bR ?_))); refine eV (α := Nat) (0) (fun k => [(19, .int .i64 (k : Nat))]) [(0, _), (1, _), (4, _), (17, _), (18, _)] (fun k wr => Evo [] w wr ∧ (NgP nm st.names k)) (fun k => st.names.length - k) ⟨rfl, trivial⟩ ⟨rfl, rfl, rfl, rfl, rfl, trivial⟩ ⟨Evo.refl _ _, ⟨Nat.zero_le _, fun i h h2 => by omega⟩⟩ ?_; rintro k wr3 ⟨hV4, hng⟩; show CW _ _ _ _ [(19, _), (0, _), (1, _), (4, _), (17, _), (18, _)] _; have hE5 := (Evo.refl [] w).then hV4; have hE6 := (Evo.refl (b :: ob.toList) w).then hV4; have hngk := hng.hk; refine aE (aB (aF (dF rfl rfl) ?_)); refine aC (aA (aE (bF rfl (fun hc20 => ?_) (fun hc20 => ?_))))
  ·have hk' : k < st.names.length := by omega
   obtain ⟨g1, hg1, ha1, hc1⟩ := NI hR.own hk'; refine aU (aA (aE (bR (aE (aB ?_))))); refine aF (eK (n := k) rfl rfl ha1 nB (by omega)) ?_; refine aF (aI rfl cJ ((hE5).cell hc1 (by simp))) ?_; refine aM (aC (aA (aE (aB (aG (aF (tR rfl rfl) ?_)))))); refine aG (aV (t := 25) rfl (fun hs25 => ?_) (fun hs25 => ?_))
   ·refine aQ (aG (aQ (aG (aQ (aF (gQ rfl rfl) ?_))))); refine bH (aC (aA (bF rfl (fun hc29 => ?_) (fun hc29 => ?_))))
    ·refine aB (bT (vs := [_]) cS rfl (eO 85) rfl ?_ ?_)
     ·intro pv wp hpp; obtain ⟨rfl, hpw⟩ := hpp; exact And.intro rfl ⟨_, rfl, .inr ⟨hs25, hc29 ▸ List.getElem_mem hk'⟩, rfl, (hE5).then hpw⟩
     intro _ _ hF; exact hF.elim
    refine aU (aW (aA (aB ?_))); refine aF (bC rfl rfl (by omega) (by omega)) ?_; refine aG (aC (bY ?_)); refine ⟨k + 1, ?_, ⟨rfl, trivial⟩, ⟨rfl, rfl, rfl, rfl, rfl, trivial⟩, hV4, ?_⟩
    · omega
    refine ⟨hk', fun i h h2 => ?_⟩
    by_cases e : i = k
    · subst e; exact .inr hc29
    · exact hng.all i h (by omega)
   refine aH (aH (aH (aR (aC (aA (cO rfl ?_)))))); refine aU (aW (aA (aB ?_))); refine aF (bC rfl rfl (by omega) (by omega)) ?_; refine aG (aC (bY ?_)); refine ⟨k + 1, ?_, ⟨rfl, trivial⟩, ⟨rfl, rfl, rfl, rfl, rfl, trivial⟩, hV4, ?_⟩
   · omega
   refine ⟨hk', fun i h h2 => ?_⟩
   by_cases e : i = k
   · subst e; exact .inl (Classical.not_not.1 hs25)
   · exact hng.all i h (by omega)
  refine dO (cD (cD (dN (aA ?_)))); refine aE (aB (aG (aG (aF (aP rfl) (aF (aD rfl mF) (aF (aI rfl kQ (aJ (hV4.blk0 hR.blk) rfl)) (aG (bL (vs := [_]) rfl uC rfl rfl rfl rfl fun b11 w12 hO13 hs14 hw15 => ?_)))))))); have hB24 := hw15.blk0 (hV4.blk0 hR.blk); have hx12 := (hE5.then hw15); refine dL rfl rfl rfl rfl sP ((hR.own.evo0 hV4).evo0 hw15) (Src.ofOwn hO13 ⟨rfl, trivial⟩) (by omega) fun a2 c2 w28 ob2 hO2 hw31 hob32 => ?_; have hA33 := hap.app (Lt.blk hB24) hob32; have hE36 := (hE6.then hw15).step hw31 (fun y hy => .inl (List.mem_cons_of_mem _ hy)); have hob2 := hob32; refine aF (aP rfl) (aF (aD rfl mF) (bG rfl rfl (rfl) vV (hw31.blk hB24 hap.nmem) rfl fun w40 hB41 hw42 => ?_))
  have hE43 := hE36.step hw42 (fun y hy => .inl (by rw [List.mem_singleton.1 hy]; simp))
  try simp only [cR, Nat.reduceAdd] at hB41
  refine aC (aA (aE (aB (aG (aF (aP rfl) (aF (aD rfl mF) (aF (aI rfl kQ (aJ hB41 rfl)) (aF (bK rfl Tryz.underlying22 rfl) ?_)))))))); refine aM (aC (aA (aO (bS (br1 ?_)))))
  refine ⟨ng_end hng (by omega) (by omega), by rfl, hE43, a2, c2, ob2, RdAt.mk' (by simp) hB41 (by rw [List.map_append]; exact (hO2.evo hw42 hA33.symm.own1)) (fun g hg e => (hA33) g (congrArg some e.symm) hg), ?_⟩
  rcases hob2 with h | ⟨g, h, h2⟩
  · exact .inl h
  · exact .inr ⟨g, h, Nat.le_trans hx12.size h2⟩
theorem fJ : gA Tryz.prog 159 0 = some 0 := by kernel_rfl
theorem hZ : gA Tryz.prog 159 2 = some 2 := by kernel_rfl
theorem lA : gA Tryz.prog 159 4 = some 7 := by kernel_rfl
theorem eU : gA Tryz.prog 159 5 = some 8 := by kernel_rfl
theorem qJ : gA Tryz.prog 62 1 = some 1 := by kernel_rfl
theorem uR : gA Tryz.prog 62 2 = some 2 := by kernel_rfl
theorem qI : gA Tryz.prog 62 3 = some 3 := by kernel_rfl
theorem fT : iT Tryz.prog 28 = some 1 := by kernel_rfl
theorem jD : oJ Tryz.prog 159 = some #[.int .i64 0, .string ByteArray.empty, .bool false, .bool false, .bool false, .bool false, .bool false, .bool false, .int .i64 0] := by kernel_rfl
def opV (o : Opn) : Array Value := #[iv (o.size : Nat), .string o.name, .bool o.thn.fold, .bool o.thn.lines, .bool o.thn.dots, .bool o.thn.lazy, .bool o.capt, .bool o.sett, iv o.err]
section
variable {s : ByteArray} {i f j : Nat} {b m : Bool} {n : Int} {fl : Fl}
theorem IJ (h : s.size ≤ j) : iB s i f j b n m fl = ⟨0, emp, fl, false, false, 84⟩ := by
  cases f with
  | zero => rfl
  | succ f => rw [iB, if_pos h]
theorem ps_i (h : j < s.size) (hc : sb s j = 105) : iB s i (f + 1) j b n m fl = iB s i f (j + 1) b (n + 1) m { fl with fold := b } := by rw [iB, if_neg (by omega), if_pos hc]
theorem ps_m (h : j < s.size) (hc : sb s j = 109) : iB s i (f + 1) j b n m fl = iB s i f (j + 1) b (n + 1) m { fl with lines := b } := by rw [iB, if_neg (by omega), if_neg (by omega), if_pos hc]
theorem ps_s (h : j < s.size) (hc : sb s j = 115) : iB s i (f + 1) j b n m fl = iB s i f (j + 1) b (n + 1) m { fl with dots := b } := by rw [iB, if_neg (by omega), if_neg (by omega), if_neg (by omega), if_pos hc]
theorem ps_u (h : j < s.size) (hc : sb s j = 85) : iB s i (f + 1) j b n m fl = iB s i f (j + 1) b (n + 1) m { fl with lazy := b } := by rw [iB, if_neg (by omega), if_neg (by omega), if_neg (by omega), if_neg (by omega), if_pos hc]
theorem PU (h : j < s.size) (hc : sb s j = 45) : iB s i (f + 1) j b n true fl = ⟨0, emp, fl, false, false, 84⟩ := by rw [iB, if_neg (by omega), if_neg (by omega), if_neg (by omega), if_neg (by omega), if_neg (by omega), if_pos hc, if_pos rfl]
theorem PV (h : j < s.size) (hc : sb s j = 45) : iB s i (f + 1) j b n false fl = iB s i f (j + 1) false 0 true fl := by rw [iB, if_neg (by omega), if_neg (by omega), if_neg (by omega), if_neg (by omega), if_neg (by omega), if_pos hc, if_neg (by simp)]
theorem NF (h : j < s.size) (hc : sb s j = 58 ∨ sb s j = 41) : iB s i (f + 1) j b n m fl = ⟨j + 1 - i, emp, fl, false, decide (sb s j = 41), if n = 0 then 84 else 0⟩ := by rw [iB, if_neg (by omega), if_neg (by omega), if_neg (by omega), if_neg (by omega), if_neg (by omega), if_neg (by omega), if_pos hc]
theorem PT (h : j < s.size) (h1 : ¬ sb s j = 105) (h2 : ¬ sb s j = 109) (h3 : ¬ sb s j = 115) (h4 : ¬ sb s j = 85) (h5 : ¬ sb s j = 45) (h6 : ¬ (sb s j = 58 ∨ sb s j = 41)) : iB s i (f + 1) j b n m fl = ⟨0, emp, fl, false, false, 84⟩ := by rw [iB, if_neg (by omega), if_neg h1, if_neg h2, if_neg h3, if_neg h4, if_neg h5, if_neg h6]
end
structure SeG where
  f : Nat
  k : Nat
  q : Bool
  n : Int
  m : Bool
  fl : Fl
structure SeI (w wr : World) (b3 b4 : Nat) (s : ByteArray) (i : Nat) (fl0 : Fl) (x : SeG) : Prop where
  hk : i + x.k ≤ s.size
  hf : s.size ≤ x.f + (i + x.k)
  n0 : 0 ≤ x.n
  n1 : x.n ≤ x.k
  eq : iB s i s.size (i + 2) true 0 false fl0 = iB s i x.f (i + x.k) x.q x.n x.m x.fl
  hb3 : wr.heap[b3]? = some (.cells #[iv 0, .string emp, .bool x.fl.fold, .bool x.fl.lines, .bool x.fl.dots, .bool x.fl.lazy, .bool false, .bool false, iv 0] 159 (0, 0))
  hb4 : wr.heap[b4]? = some (.cells #[iv 0, .string emp, .bool false, .bool false, .bool false, .bool false, .bool false, .bool false, iv 0] 159 (0, 0))
  g3 : Ge w (some b3)
  g4 : Ge w (some b4)
  a34 : Apart (some b3) (some b4)
theorem IB {w : World} (s : ByteArray) (i : Nat) (fl0 : Fl) (hi : i + 2 ≤ s.size) (hs : s.size ≤ 1000000) :
    Calls Tryz.prog 143 #[.string (s.extract i s.size), .agg (opV ⟨0, emp, fl0, false, false, 0⟩)] w (Ret fun v w' => v = .agg (opV (iB s i s.size (i + 2) true 0 false fl0)) ∧ Evo [] w w') := by
  have hrs := fU (s := s) (a := i) (Nat.le_refl s.size); show Calls Tryz.prog 143 #[.string (s.extract i s.size), .agg #[iv 0, .string emp, .bool fl0.fold, .bool fl0.lines, .bool fl0.dots, .bool fl0.lazy, .bool false, .bool false, iv 0]] w _; refine bJ (N := 64) Tryz.func143 rfl rfl rfl ?_; refine aE (aB (kS rfl rfl fun b3 w1 hB2 hs3 hw4 => ?_)); have hsz_b3 := hs3; have hE6 := (Evo.refl [] w).then hw4; refine dA rfl jD fun b4 w7 hB8 hs9 hw10 => ?_; have hsz_b4 := hs9; refine aC (aA (aE (aB (aM (aM (aM (aC (aA (aE (aE (aB (aM (aC (aA (bR ?_)))))))))))))))
  refine eV (α := SeG) (⟨s.size, 2, true, 0, false, fl0⟩) (fun x => [(8, .int .i64 (x.k : Nat)), (5, .bool x.q), (6, .int .i64 x.n), (7, .bool x.m)]) [(0, _), (3, _), (4, _)] (fun x wr => Evo [] w wr ∧ (SeI w wr b3 b4 s i fl0 x)) (fun x => x.f) ⟨rfl, rfl, rfl, rfl, trivial⟩ ⟨rfl, rfl, rfl, trivial⟩ ⟨(hE6.then hw10), ⟨hi, (by show s.size ≤ s.size + (i + 2); omega), Int.le_refl _, (by show (0 : Int) ≤ ((2 : Nat) : Int); omega), rfl, (hw10.blk0 hB2), hB8, (Ge.new (Evo.refl [] w) hs3), (Ge.new hE6 hs9), (Apart.new (Lt.blk hB2) hs9)⟩⟩ ?_
  rintro ⟨f, k, q, n, m, fl⟩ wr15 ⟨hV16, ⟨hk, hf, hn0, hn1, heq, hb3, hb4, hg3, hg4, ha34⟩⟩; show CW _ _ _ _ [(8, .int .i64 (k : Nat)), (5, .bool q), (6, .int .i64 n), (7, .bool m), (0, _), (3, _), (4, _)] _
  try dsimp only at hk
  try dsimp only at hf
  try dsimp only at hn0
  try dsimp only at hn1
  try dsimp only at heq
  try dsimp only at hb3
  try dsimp only at hb4
  try dsimp only at hg3
  try dsimp only at hg4
  try dsimp only at ha34
  refine aE (aE (aB (aG (aG (aF (cM rfl Tryz.underlying9 rfl) ?_))))); refine aF (dF rfl rfl) ?_; refine aC (aA (bF rfl (fun hc12 => ?_) (fun hc12 => ?_)))
  ·have hik : i + k < s.size := by omega
   have e0 : sb (s.extract i s.size) k = sb s (i + k) := gE hik; obtain ⟨f', rfl⟩ : ∃ f', f = f' + 1 := ⟨f - 1, by omega⟩; have hb9 := jM s (i + k); refine aU (aA (aE (bR (aE (aE (aB (aG (aG ?_)))))))); refine aF (fK (n := k) rfl rfl Tryz.underlying9 rfl (by omega) e0) ?_; refine aC (aA (bR (aE (aB (aF (bD rfl rfl) ?_))))); refine aM (aC (aA (bF rfl (fun hc20 => ?_) (fun hc20 => ?_))))
   ·refine aB (aG (aF (aD rfl hZ) (aF (aD rfl qL) (bG rfl rfl (rfl) fS hb3 rfl fun w17 hB18 hw19 => ?_))))
    try simp only [cR, Nat.reduceAdd] at hB18
    refine aC (aW (aA (aB (aG ?_)))); refine aF (bC rfl rfl (by omega) (by omega)) ?_; refine aM (aC (aW (aA (aB (aG ?_))))); refine aF (bC rfl rfl (by omega) (by omega)) ?_; refine aM (aC (bY ?_)); refine ⟨⟨f', k + 1, q, n + 1, m, { fl with fold := q }⟩, ?_, ⟨rfl, rfl, rfl, rfl, trivial⟩, ⟨rfl, rfl, rfl, trivial⟩, (hV16.step hw19 hg3.mem1), ?_⟩
    · (try dsimp only); show f' < f' + 1; omega
    try dsimp only
    exact ⟨(by show i + (k + 1) ≤ s.size; omega), (by show s.size ≤ f' + (i + (k + 1)); omega), (by show 0 ≤ n + 1; omega), (by show n + 1 ≤ ((k + 1 : Nat) : Int); omega), heq.trans (ps_i (by omega) (by omega)), hB18, (hw19.blk hb4 ha34.symm.nmem1), hg3, hg4, ha34⟩
   refine aE (aB (aF (bD rfl rfl) ?_)); refine aM (aC (aA (bF rfl (fun hc25 => ?_) (fun hc25 => ?_))))
   ·refine aB (aG (aF (aD rfl hZ) (aF (aD rfl qJ) (bG rfl rfl (rfl) fS hb3 rfl fun w22 hB23 hw24 => ?_))))
    try simp only [cR, Nat.reduceAdd] at hB23
    refine aC (aW (aA (aB (aG ?_)))); refine aF (bC rfl rfl (by omega) (by omega)) ?_; refine aM (aC (aW (aA (aB (aG ?_))))); refine aF (bC rfl rfl (by omega) (by omega)) ?_; refine aM (aC (bY ?_)); refine ⟨⟨f', k + 1, q, n + 1, m, { fl with lines := q }⟩, ?_, ⟨rfl, rfl, rfl, rfl, trivial⟩, ⟨rfl, rfl, rfl, trivial⟩, (hV16.step hw24 hg3.mem1), ?_⟩
    · (try dsimp only); show f' < f' + 1; omega
    try dsimp only
    exact ⟨(by show i + (k + 1) ≤ s.size; omega), (by show s.size ≤ f' + (i + (k + 1)); omega), (by show 0 ≤ n + 1; omega), (by show n + 1 ≤ ((k + 1 : Nat) : Int); omega), heq.trans (ps_m (by omega) (by omega)), hB23, (hw24.blk hb4 ha34.symm.nmem1), hg3, hg4, ha34⟩
   refine aE (aB (aF (bD rfl rfl) ?_)); refine aM (aC (aA (bF rfl (fun hc30 => ?_) (fun hc30 => ?_))))
   ·refine aB (aG (aF (aD rfl hZ) (aF (aD rfl uR) (bG rfl rfl (rfl) fS hb3 rfl fun w27 hB28 hw29 => ?_))))
    try simp only [cR, Nat.reduceAdd] at hB28
    refine aC (aW (aA (aB (aG ?_)))); refine aF (bC rfl rfl (by omega) (by omega)) ?_; refine aM (aC (aW (aA (aB (aG ?_))))); refine aF (bC rfl rfl (by omega) (by omega)) ?_; refine aM (aC (bY ?_)); refine ⟨⟨f', k + 1, q, n + 1, m, { fl with dots := q }⟩, ?_, ⟨rfl, rfl, rfl, rfl, trivial⟩, ⟨rfl, rfl, rfl, trivial⟩, (hV16.step hw29 hg3.mem1), ?_⟩
    · (try dsimp only); show f' < f' + 1; omega
    try dsimp only
    exact ⟨(by show i + (k + 1) ≤ s.size; omega), (by show s.size ≤ f' + (i + (k + 1)); omega), (by show 0 ≤ n + 1; omega), (by show n + 1 ≤ ((k + 1 : Nat) : Int); omega), heq.trans (ps_s (by omega) (by omega)), hB28, (hw29.blk hb4 ha34.symm.nmem1), hg3, hg4, ha34⟩
   refine aE (aB (aF (bD rfl rfl) ?_)); refine aM (aC (aA (bF rfl (fun hc35 => ?_) (fun hc35 => ?_))))
   ·refine aB (aG (aF (aD rfl hZ) (aF (aD rfl qI) (bG rfl rfl (rfl) fS hb3 rfl fun w32 hB33 hw34 => ?_))))
    try simp only [cR, Nat.reduceAdd] at hB33
    refine aC (aW (aA (aB (aG ?_)))); refine aF (bC rfl rfl (by omega) (by omega)) ?_; refine aM (aC (aW (aA (aB (aG ?_))))); refine aF (bC rfl rfl (by omega) (by omega)) ?_; refine aM (aC (bY ?_)); refine ⟨⟨f', k + 1, q, n + 1, m, { fl with lazy := q }⟩, ?_, ⟨rfl, rfl, rfl, rfl, trivial⟩, ⟨rfl, rfl, rfl, trivial⟩, (hV16.step hw34 hg3.mem1), ?_⟩
    · (try dsimp only); show f' < f' + 1; omega
    try dsimp only
    exact ⟨(by show i + (k + 1) ≤ s.size; omega), (by show s.size ≤ f' + (i + (k + 1)); omega), (by show 0 ≤ n + 1; omega), (by show n + 1 ≤ ((k + 1 : Nat) : Int); omega), heq.trans (ps_u (by omega) (by omega)), hB33, (hw34.blk hb4 ha34.symm.nmem1), hg3, hg4, ha34⟩
   refine aE (aB (aF (bD rfl rfl) ?_)); refine aM (aC (aA (bF rfl (fun hc40 => ?_) (fun hc40 => ?_))))
   ·refine aE (aE (aB (aG (aC (aA (fW rfl (fun hc42 => ?_) (fun hc42 => ?_)))))))
    ·subst hc42; refine aE (aB (aF (aD rfl eU) (bG rfl rfl (rfl) fT hb3 rfl fun w37 hB38 hw39 => ?_)))
     try simp only [cR, Nat.reduceAdd] at hB38
     refine aC (aA (aE (aB (aF (bX rfl cQ bN hB38 rfl) (bI rfl rfl bN (hw39.blk hb4 ha34.symm.nmem1) rfl rfl ⟨rfl, rfl, rfl, rfl, rfl, rfl, rfl, rfl, rfl, trivial⟩ fun w42 hB43 hw44 => ?_)))))
     try simp only [cR, Nat.reduceAdd] at hB43
     refine aC (aA (aO (aN (aX (aN (aX (aN (aN (aX (aN (cX rfl (ResOk.cellA rfl cQ bN hB43 rfl) ?_))))))))))); have hfin := heq.trans (PU (by omega) (by omega)); rw [hfin]; exact ⟨rfl, ((hV16.step hw39 hg3.mem1).step hw44 hg4.mem1)⟩
    subst hc42; refine aU (aA (aB (aM (aM (aM (aC (aW (aA (aB (aG ?_)))))))))); refine aF (bC rfl rfl (by omega) (by omega)) ?_; refine aM (aC (aW (aA (aB (aG ?_))))); refine aF (bC rfl rfl (by omega) (by omega)) ?_; refine aM (aC (bY ?_)); refine ⟨⟨f', k + 1, false, 0, true, fl⟩, ?_, ⟨rfl, rfl, rfl, rfl, trivial⟩, ⟨rfl, rfl, rfl, trivial⟩, hV16, ?_⟩
    · (try dsimp only); show f' < f' + 1; omega
    try dsimp only
    exact ⟨(by show i + (k + 1) ≤ s.size; omega), (by show s.size ≤ f' + (i + (k + 1)); omega), Int.le_refl _, (by show (0 : Int) ≤ ((k + 1 : Nat) : Int); omega), heq.trans (PV (by omega) (by omega)), hb3, hb4, hg3, hg4, ha34⟩
   refine aE (aE (aB (aF (bD rfl rfl) ?_))); refine aM (aC (aA (bF rfl (fun hc45 => ?_) (fun hc45 => ?_))))
   ·refine aU (aA (bF rfl (fun hc45 => ?_) (fun hc45 => ?_)))
    ·refine aE (aE (aB (aG (aF (bD rfl rfl) ?_)))); refine aC (aA (bF rfl (fun hc49 => ?_) (fun hc49 => ?_)))
     ·refine aB (aF (aD rfl eU) (bG rfl rfl (rfl) fT hb3 rfl fun w47 hB48 hw49 => ?_))
      try simp only [cR, Nat.reduceAdd] at hB48
      refine aC (aA (aE ?_)); refine iK (fun w0 w' => Evo [b3] w0 w') (by kernel_rfl) (fun w52 hw53 => ?_); refine aet 0 rfl (fun _ hS => bO rfl) (Evo.refl [b3] w52) ?_; refine aet 1 rfl (fun _ hS => bC rfl rfl (by omega) (by omega)) (Evo.refl [b3] w52) ?_; refine aet 2 rfl (fun _ hS => bO rfl) (Evo.refl [b3] w52) ?_; refine aet 3 rfl (fun _ hS => bO rfl) (Evo.refl [b3] w52) ?_; refine aet 4 rfl (fun _ hS => fK (n := k) rfl rfl Tryz.underlying9 rfl (by omega) e0) (Evo.refl [b3] w52) ?_; refine aet 5 rfl (fun _ hS => bD rfl rfl) (Evo.refl [b3] w52) ?_; refine aet 6 rfl (fun _ hS => aD rfl fJ) (Evo.refl [b3] w52) ?_; refine cP [7] (by kernel_rfl) rfl ⟨?_, trivial⟩; refine cU rfl ?_; refine bG rfl rfl (rfl) bV (hw53.blk0 hB48) rfl fun w57 hB58 hw59 => ?_; have hE61 := (Evo.refl [b3] w52).step hw59 (fun y hy => .inl hy)
      try simp only [cR, Nat.reduceAdd] at hB58
      refine aC (cG (.inl hE61) ?_); refine aet 8 rfl (fun _ hS => aD rfl lA) hE61 ?_; refine cP [9] (by kernel_rfl) rfl ⟨?_, trivial⟩; refine cU rfl ?_; refine bG rfl rfl (rfl) fS hB58 rfl fun w63 hB64 hw65 => ?_
      try simp only [cR, Nat.reduceAdd] at hB64
      refine aC (cG (.inl (hE61.step hw65 (fun y hy => .inl hy))) ?_); refine fA (by kernel_rfl) (aA ?_); refine aE (aB (aF (bX rfl cQ bN hB64 rfl) (bI rfl rfl bN (hw65.blk (hw59.blk (hw53.blk0 (hw49.blk hb4 ha34.symm.nmem1)) ha34.symm.nmem1) ha34.symm.nmem1) rfl rfl ⟨rfl, rfl, rfl, rfl, rfl, rfl, rfl, rfl, rfl, trivial⟩ fun w69 hB70 hw71 => ?_)))
      try simp only [cR, Nat.reduceAdd] at hB70
      refine aC (aA (aO (aX (aN (aX (aN (aN (aX (aN (cX rfl (ResOk.cellA rfl cQ bN hB70 rfl) ?_)))))))))); have hfin := heq.trans (NF (by omega) (by omega)); rw [if_pos hc49] at hfin; rw [hfin]
      have e1 : (((i + k + 1 - i : Nat)) : Int) = (k : Int) + 1 := by omega
      have e2 : decide (((sb s (i + k) : Nat) : Int) = 41) = decide (sb s (i + k) = 41) := decide_eq_decide.2 (by omega); refine ⟨?_, (((((hV16.step hw49 hg3.mem1).then hw53).step hw59 hg3.mem1).step hw65 hg3.mem1).step hw71 hg4.mem1)⟩; simp only [opV, e1, e2]
     refine aU (aA (aE ?_)); refine iK (fun w0 w' => Evo [b3] w0 w') (by kernel_rfl) (fun w74 hw75 => ?_); refine aet 0 rfl (fun _ hS => bO rfl) (Evo.refl [b3] w74) ?_; refine aet 1 rfl (fun _ hS => bC rfl rfl (by omega) (by omega)) (Evo.refl [b3] w74) ?_; refine aet 2 rfl (fun _ hS => bO rfl) (Evo.refl [b3] w74) ?_; refine aet 3 rfl (fun _ hS => bO rfl) (Evo.refl [b3] w74) ?_; refine aet 4 rfl (fun _ hS => fK (n := k) rfl rfl Tryz.underlying9 rfl (by omega) e0) (Evo.refl [b3] w74) ?_; refine aet 5 rfl (fun _ hS => bD rfl rfl) (Evo.refl [b3] w74) ?_; refine aet 6 rfl (fun _ hS => aD rfl fJ) (Evo.refl [b3] w74) ?_; refine cP [7] (by kernel_rfl) rfl ⟨?_, trivial⟩; refine cU rfl ?_; refine bG rfl rfl (rfl) bV (hw75.blk0 hb3) rfl fun w79 hB80 hw81 => ?_; have hE83 := (Evo.refl [b3] w74).step hw81 (fun y hy => .inl hy)
     try simp only [cR, Nat.reduceAdd] at hB80
     refine aC (cG (.inl hE83) ?_); refine aet 8 rfl (fun _ hS => aD rfl lA) hE83 ?_; refine cP [9] (by kernel_rfl) rfl ⟨?_, trivial⟩; refine cU rfl ?_; refine bG rfl rfl (rfl) fS hB80 rfl fun w85 hB86 hw87 => ?_
     try simp only [cR, Nat.reduceAdd] at hB86
     refine aC (cG (.inl (hE83.step hw87 (fun y hy => .inl hy))) ?_); refine fA (by kernel_rfl) (aA ?_); refine aE (aB (aF (bX rfl cQ bN hB86 rfl) (bI rfl rfl bN (hw87.blk (hw81.blk (hw75.blk0 hb4) ha34.symm.nmem1) ha34.symm.nmem1) rfl rfl ⟨rfl, rfl, rfl, rfl, rfl, rfl, rfl, rfl, rfl, trivial⟩ fun w91 hB92 hw93 => ?_)))
     try simp only [cR, Nat.reduceAdd] at hB92
     refine aC (aA (aO (aX (aN (aX (aN (aN (aX (aN (cX rfl (ResOk.cellA rfl cQ bN hB92 rfl) ?_)))))))))); have hfin := heq.trans (NF (by omega) (by omega)); rw [if_neg hc49] at hfin; rw [hfin]
     have e1 : (((i + k + 1 - i : Nat)) : Int) = (k : Int) + 1 := by omega
     have e2 : decide (((sb s (i + k) : Nat) : Int) = 41) = decide (sb s (i + k) = 41) := decide_eq_decide.2 (by omega); refine ⟨?_, ((((hV16.then hw75).step hw81 hg3.mem1).step hw87 hg3.mem1).step hw93 hg4.mem1)⟩; simp only [opV, e1, e2]
    exfalso; omega
   refine aB (aF (bD rfl rfl) ?_); refine aM (aC (aA (bF rfl (fun hc45 => ?_) (fun hc45 => ?_))))
   ·refine aE (aE (aB (aG (aF (bD rfl rfl) ?_)))); refine aC (aA (bF rfl (fun hc49 => ?_) (fun hc49 => ?_)))
    ·refine aB (aF (aD rfl eU) (bG rfl rfl (rfl) fT hb3 rfl fun w96 hB97 hw98 => ?_))
     try simp only [cR, Nat.reduceAdd] at hB97
     refine aC (aA (aE ?_)); refine iK (fun w0 w' => Evo [b3] w0 w') (by kernel_rfl) (fun w101 hw102 => ?_); refine aet 0 rfl (fun _ hS => bO rfl) (Evo.refl [b3] w101) ?_; refine aet 1 rfl (fun _ hS => bC rfl rfl (by omega) (by omega)) (Evo.refl [b3] w101) ?_; refine aet 2 rfl (fun _ hS => bO rfl) (Evo.refl [b3] w101) ?_; refine aet 3 rfl (fun _ hS => bO rfl) (Evo.refl [b3] w101) ?_; refine aet 4 rfl (fun _ hS => fK (n := k) rfl rfl Tryz.underlying9 rfl (by omega) e0) (Evo.refl [b3] w101) ?_; refine aet 5 rfl (fun _ hS => bD rfl rfl) (Evo.refl [b3] w101) ?_; refine aet 6 rfl (fun _ hS => aD rfl fJ) (Evo.refl [b3] w101) ?_; refine cP [7] (by kernel_rfl) rfl ⟨?_, trivial⟩; refine cU rfl ?_; refine bG rfl rfl (rfl) bV (hw102.blk0 hB97) rfl fun w106 hB107 hw108 => ?_; have hE110 := (Evo.refl [b3] w101).step hw108 (fun y hy => .inl hy)
     try simp only [cR, Nat.reduceAdd] at hB107
     refine aC (cG (.inl hE110) ?_); refine aet 8 rfl (fun _ hS => aD rfl lA) hE110 ?_; refine cP [9] (by kernel_rfl) rfl ⟨?_, trivial⟩; refine cU rfl ?_; refine bG rfl rfl (rfl) fS hB107 rfl fun w112 hB113 hw114 => ?_
     try simp only [cR, Nat.reduceAdd] at hB113
     refine aC (cG (.inl (hE110.step hw114 (fun y hy => .inl hy))) ?_); refine fA (by kernel_rfl) (aA ?_); refine aE (aB (aF (bX rfl cQ bN hB113 rfl) (bI rfl rfl bN (hw114.blk (hw108.blk (hw102.blk0 (hw98.blk hb4 ha34.symm.nmem1)) ha34.symm.nmem1) ha34.symm.nmem1) rfl rfl ⟨rfl, rfl, rfl, rfl, rfl, rfl, rfl, rfl, rfl, trivial⟩ fun w118 hB119 hw120 => ?_)))
     try simp only [cR, Nat.reduceAdd] at hB119
     refine aC (aA (aO (aX (aN (aX (aN (aN (aX (aN (cX rfl (ResOk.cellA rfl cQ bN hB119 rfl) ?_)))))))))); have hfin := heq.trans (NF (by omega) (by omega)); rw [if_pos hc49] at hfin; rw [hfin]
     have e1 : (((i + k + 1 - i : Nat)) : Int) = (k : Int) + 1 := by omega
     have e2 : decide (((sb s (i + k) : Nat) : Int) = 41) = decide (sb s (i + k) = 41) := decide_eq_decide.2 (by omega); refine ⟨?_, (((((hV16.step hw98 hg3.mem1).then hw102).step hw108 hg3.mem1).step hw114 hg3.mem1).step hw120 hg4.mem1)⟩; simp only [opV, e1, e2]
    refine aU (aA (aE ?_)); refine iK (fun w0 w' => Evo [b3] w0 w') (by kernel_rfl) (fun w123 hw124 => ?_); refine aet 0 rfl (fun _ hS => bO rfl) (Evo.refl [b3] w123) ?_; refine aet 1 rfl (fun _ hS => bC rfl rfl (by omega) (by omega)) (Evo.refl [b3] w123) ?_; refine aet 2 rfl (fun _ hS => bO rfl) (Evo.refl [b3] w123) ?_; refine aet 3 rfl (fun _ hS => bO rfl) (Evo.refl [b3] w123) ?_; refine aet 4 rfl (fun _ hS => fK (n := k) rfl rfl Tryz.underlying9 rfl (by omega) e0) (Evo.refl [b3] w123) ?_; refine aet 5 rfl (fun _ hS => bD rfl rfl) (Evo.refl [b3] w123) ?_; refine aet 6 rfl (fun _ hS => aD rfl fJ) (Evo.refl [b3] w123) ?_; refine cP [7] (by kernel_rfl) rfl ⟨?_, trivial⟩; refine cU rfl ?_; refine bG rfl rfl (rfl) bV (hw124.blk0 hb3) rfl fun w128 hB129 hw130 => ?_; have hE132 := (Evo.refl [b3] w123).step hw130 (fun y hy => .inl hy)
    try simp only [cR, Nat.reduceAdd] at hB129
    refine aC (cG (.inl hE132) ?_); refine aet 8 rfl (fun _ hS => aD rfl lA) hE132 ?_; refine cP [9] (by kernel_rfl) rfl ⟨?_, trivial⟩; refine cU rfl ?_; refine bG rfl rfl (rfl) fS hB129 rfl fun w134 hB135 hw136 => ?_
    try simp only [cR, Nat.reduceAdd] at hB135
    refine aC (cG (.inl (hE132.step hw136 (fun y hy => .inl hy))) ?_); refine fA (by kernel_rfl) (aA ?_); refine aE (aB (aF (bX rfl cQ bN hB135 rfl) (bI rfl rfl bN (hw136.blk (hw130.blk (hw124.blk0 hb4) ha34.symm.nmem1) ha34.symm.nmem1) rfl rfl ⟨rfl, rfl, rfl, rfl, rfl, rfl, rfl, rfl, rfl, trivial⟩ fun w140 hB141 hw142 => ?_)))
    try simp only [cR, Nat.reduceAdd] at hB141
    refine aC (aA (aO (aX (aN (aX (aN (aN (aX (aN (cX rfl (ResOk.cellA rfl cQ bN hB141 rfl) ?_)))))))))); have hfin := heq.trans (NF (by omega) (by omega)); rw [if_neg hc49] at hfin; rw [hfin]
    have e1 : (((i + k + 1 - i : Nat)) : Int) = (k : Int) + 1 := by omega
    have e2 : decide (((sb s (i + k) : Nat) : Int) = 41) = decide (sb s (i + k) = 41) := decide_eq_decide.2 (by omega); refine ⟨?_, ((((hV16.then hw124).step hw130 hg3.mem1).step hw136 hg3.mem1).step hw142 hg4.mem1)⟩; simp only [opV, e1, e2]
   refine aE (aB (aF (aD rfl eU) (bG rfl rfl (rfl) fT hb3 rfl fun w145 hB146 hw147 => ?_)))
   try simp only [cR, Nat.reduceAdd] at hB146
   refine aC (aA (aE (aB (aF (bX rfl cQ bN hB146 rfl) (bI rfl rfl bN (hw147.blk hb4 ha34.symm.nmem1) rfl rfl ⟨rfl, rfl, rfl, rfl, rfl, rfl, rfl, rfl, rfl, trivial⟩ fun w150 hB151 hw152 => ?_)))))
   try simp only [cR, Nat.reduceAdd] at hB151
   refine aC (aA (aO (aX (aN (aX (aN (aN (aX (aN (cX rfl (ResOk.cellA rfl cQ bN hB151 rfl) ?_)))))))))); have hfin := heq.trans (PT (by omega) (by omega) (by omega) (by omega) (by omega) (by omega) (by omega)); rw [hfin]; exact ⟨rfl, ((hV16.step hw147 hg3.mem1).step hw152 hg4.mem1)⟩
  refine dO (cD (cD (dN (aA ?_)))); refine aE (aB (aF (aD rfl eU) (bG rfl rfl (rfl) fT hb3 rfl fun w155 hB156 hw157 => ?_)))
  try simp only [cR, Nat.reduceAdd] at hB156
  refine aC (aA (aE (aB (aF (bX rfl cQ bN hB156 rfl) (bI rfl rfl bN (hw157.blk hb4 ha34.symm.nmem1) rfl rfl ⟨rfl, rfl, rfl, rfl, rfl, rfl, rfl, rfl, rfl, trivial⟩ fun w160 hB161 hw162 => ?_)))))
  try simp only [cR, Nat.reduceAdd] at hB161
  refine aC (aA (aO (cX rfl (ResOk.cellA rfl cQ bN hB161 rfl) ?_))); have hfin := heq.trans (IJ (by omega)); rw [hfin]; exact ⟨rfl, ((hV16.step hw157 hg3.mem1).step hw162 hg4.mem1)⟩
theorem zW : Build Tryz.prog 159 #[(0, 1), (1, 1), (2, 4), (6, 1), (7, 1), (8, 1)] #[.int .i64 0, .string ByteArray.empty, .bool false, .bool false, .bool false, .bool false, .bool false, .bool false, .int .i64 0] := ⟨_, .agg #[.int .i64 0, .string ByteArray.empty, .bool false, .bool false, .bool false, .bool false, .bool false, .bool false, .int .i64 0], Tryz.underlying159, by kernel_rfl, rfl, fun w => by kernel_rfl⟩
theorem iQ : gA Tryz.prog 159 1 = some 1 := by kernel_rfl
theorem gD : gA Tryz.prog 159 3 = some 6 := by kernel_rfl
theorem EG : eY Tryz.prog 143 := ⟨_, Tryz.func143, by kernel_rfl, by kernel_rfl⟩
def hd (k : Nat) : ByteArray := if k = 0 then ByteArray.mk #[40, 63, 80, 60] else ByteArray.mk #[40, 63, 60]
theorem hd_sz (k : Nat) : (k = 0 ∧ (hd k).size = 4) ∨ (k ≠ 0 ∧ (hd k).size = 3) := by
  unfold hd
  by_cases h : k = 0
  · rw [if_pos h]; exact .inl ⟨h, rfl⟩
  · rw [if_neg h]; exact .inr ⟨h, rfl⟩
theorem part_hd {k : Nat} (hk : k < 2) (w : World) : (part 9 #[.string (ByteArray.mk #[40, 63, 80, 60]), .string (ByteArray.mk #[40, 63, 60])] (k * 1)).run Tryz.prog w = .ok (.string (hd k)) w := by
  match k, hk with
  | 0, _ => exact uU w cJ rfl
  | 1, _ => exact uU w cJ rfl
theorem yI {s : ByteArray} {i k : Nat} (hi : i ≤ s.size) (h0 : isB s i 40 ∧ isB s (i + 1) 63) : Pre (s.extract i s.size) (hd k) ↔ (k = 0 ∧ isB s (i + 2) 80 ∧ isB s (i + 3) 60) ∨ (k ≠ 0 ∧ isB s (i + 2) 60) := by
  unfold hd
  by_cases h : k = 0
  · rw [if_pos h, pre4 hi]
    exact ⟨fun h1 => .inl ⟨h, h1.2.2⟩, fun h1 => by rcases h1 with h1 | h1; exact ⟨h0.1, h0.2, h1.2⟩; exact absurd h h1.1⟩
  · rw [if_neg h, pre3 hi]
    exact ⟨fun h1 => .inr ⟨h, h1.2.2⟩, fun h1 => by rcases h1 with h1 | h1; exact absurd h1.1 h; exact ⟨h0.1, h0.2, h1.2⟩⟩
theorem xT {s : ByteArray} {i : Nat} {fl : Fl} (h : ¬ (isB s i 40 ∧ isB s (i + 1) 63)) : eA s i fl = ⟨1, emp, fl, true, false, 0⟩ := by unfold eA; rw [if_pos h]
theorem NK {s : ByteArray} {i k : Nat} {fl : Fl} (hi : i ≤ s.size) (h0 : isB s i 40 ∧ isB s (i + 1) 63) (hk : k < 2) (h1 : Pre (s.extract i s.size) (hd k)) (h2 : ∀ j, j < k → ¬ Pre (s.extract i s.size) (hd j)) : eA s i fl = kU s i (hd k).size fl := by
  rcases (show k = 0 ∨ k = 1 by omega) with rfl | rfl
  · unfold eA
    rw [if_neg (fun h => h h0), show (hd 0).size = 4 from rfl]
    rcases (yI hi h0).1 h1 with h3 | h3
    · exact if_pos h3.2
    · exact absurd rfl h3.1
  · unfold eA
    rw [if_neg (fun h => h h0), show (hd 1).size = 3 from rfl, if_neg (fun h => h2 0 (by omega) ((yI hi h0).2 (.inl ⟨rfl, h⟩)))]
    rcases (yI hi h0).1 h1 with h3 | h3
    · exact absurd h3.1 (by omega)
    · exact if_pos h3.2
theorem open_no {s : ByteArray} {i : Nat} {fl : Fl} (hi : i ≤ s.size) (h0 : isB s i 40 ∧ isB s (i + 1) 63) (h2 : ∀ j, j < 2 → ¬ Pre (s.extract i s.size) (hd j)) : eA s i fl = if isB s (i + 2) 58 then ⟨3, emp, fl, false, false, 0⟩ else iB s i s.size (i + 2) true 0 false fl := by
  unfold eA
  rw [if_neg (fun h => h h0), if_neg (fun h => h2 0 (by omega) ((yI hi h0).2 (.inl ⟨rfl, h⟩))), if_neg (fun h => h2 1 (by omega) ((yI hi h0).2 (.inr ⟨by omega, h⟩)))]
theorem yL {w : World} {b : Nat} {s : ByteArray} {st : PS} {a : Option Addr} {c : Nat} {T : TypeId} {z : Nat × Nat} (h : w.heap[b]? = some (.cells (rdc s st a c) T z)) : ∀ j v, ([.bool st.now.fold, .bool st.now.lines, .bool st.now.dots, .bool st.now.lazy] : List Value)[j]? = some v → w.cell? ⟨b, 2 + j, none⟩ = some v
  | 0, v, e => by cases e; exact iJ h rfl
  | 1, v, e => by cases e; exact iJ h rfl
  | 2, v, e => by cases e; exact iJ h rfl
  | 3, v, e => by cases e; exact iJ h rfl
  | j + 4, v, e => by cases e
theorem xQ {s : ByteArray} {f j : Nat} (h : j < s.size) (h2 : iS (sb s j)) : gV s (f + 1) j = gV s f (j + 1) := by rw [gV, if_pos ⟨h, h2⟩]
theorem iR {s : ByteArray} {f j : Nat} (h : ¬ (j < s.size ∧ iS (sb s j))) : gV s f j = j := by
  cases f with
  | zero => rfl
  | succ f => rw [gV, if_neg h]
theorem lH {s : ByteArray} {i h : Nat} {fl : Fl} {j : Nat} (e : gV s s.size (i + h) = j) (hc : j = i + h ∨ ¬ isB s j 62) : kU s i h fl = ⟨0, emp, fl, false, false, 85⟩ := by unfold kU; rw [e, if_pos hc]
theorem pA {s : ByteArray} {i h : Nat} {fl : Fl} {j : Nat} (e : gV s s.size (i + h) = j) (hc : ¬ (j = i + h ∨ ¬ isB s j 62)) : kU s i h fl = ⟨j + 1 - i, s.extract (i + h) j, fl, true, false, 0⟩ := by unfold kU; rw [e, if_neg hc]
structure HdI (w wr : World) (b2 b4 : Nat) (s : ByteArray) (i : Nat) (fl : Fl) (k : Nat) : Prop where
  hk : k ≤ 2
  no : ∀ j, j < k → ¬ Pre (s.extract i s.size) (hd j)
structure WdG where
  f : Nat
  m : Nat
structure WdI (s : ByteArray) (i h : Nat) (x : WdG) : Prop where
  hm : i + x.m ≤ s.size
  hh : h ≤ x.m
  hf : s.size ≤ x.f + (i + x.m)
  eq : gV s s.size (i + h) = gV s x.f (i + x.m)
theorem nZ {w : World} {b : Nat} {s : ByteArray} {st : PS} {a : Option Addr} {c : Nat} {ob : Option Nat} (hR : RdAt w b s st a c ob) (hs : s.size ≤ 1000000) (hlt : st.pos < s.size) :
    Calls Tryz.prog 127 #[.pointer (some ⟨b, 0, none⟩)] w (Ret fun v w' => v = .agg (opV (eA s st.pos st.now)) ∧ Evo [] w w') := by
  have hap := hR.ap
  have hle : st.pos ≤ s.size := by omega
  have hrs := fU (s := s) (a := st.pos) (Nat.le_refl s.size); refine bJ (N := 87) Tryz.func127 rfl rfl rfl ?_; refine aE (aB (dA rfl jD fun b2 w1 hB2 hs3 hw4 => ?_)); have hsz_b2 := hs3; have hG7 := Ge.new (Evo.refl [] w) hs3; have hB9 := hw4.blk0 hR.blk; refine aC (aA (aE ?_)); refine fH (by kernel_rfl) (by kernel_rfl) ?_; refine bM (fun _ hq12 => bO rfl) ?_; refine bM (fun _ hq12 => aP rfl) ?_; refine bM (fun _ hq12 => aD rfl dE) ?_; refine bM (fun _ hq12 => aI rfl cJ (aJ (hq12.blk0 hB9) rfl)) ?_; refine bM (fun _ hq12 => bO rfl) ?_; refine bM (fun _ hq12 => aP rfl) ?_; refine bM (fun _ hq12 => aD rfl bE) ?_; refine bM (fun _ hq12 => aI rfl aZ (aJ (hq12.blk0 hB9) rfl)) ?_; refine bM (fun _ hq12 => gW (l := st.pos) rfl rfl Tryz.underlying9 rfl hle) ?_; refine bM (fun _ hq12 => eT rfl) ?_; refine fP (fun wq11 hq12 => aA ?_); have hE13 := ((Evo.refl [] w).then hw4).then hq12; refine aE (aB (aG (aF (aP rfl) (aF (aD rfl eQ) (aF (eJ (o := 2) rfl iW dJ (vs := [.bool st.now.fold, .bool st.now.lines, .bool st.now.dots, .bool st.now.lazy]) rfl (yL (hq12.blk0 hB9))) ?_))))); refine aF (eN (vs := [(2, _)]) zW rfl (cells := [_, _, _, _, _, _, _, _, _]) rfl) ?_; refine dA rfl jD fun b4 w17 hB18 hs19 hw20 => ?_; have hsz_b4 := hs19; have hA23 := Apart.new (Lt.blk (hq12.blk0 hB2)) hs19
  have hG24 := Ge.new hE13 hs19; refine bI rfl rfl bN hB18 rfl rfl ⟨rfl, rfl, rfl, rfl, rfl, rfl, rfl, rfl, rfl, trivial⟩ fun w29 hB30 hw31 => ?_
  try simp only [cR, Nat.reduceAdd] at hB30
  refine aC (aA (aE (aE (aB (aG ?_))))); refine aK (vs := [_, _]) nL rfl (wY (s.extract st.pos s.size) (ByteArray.mk #[40, 63]) (by omega) (show 2 ≤ 140737488355328 by omega)) rfl ?_; rintro _ w36 ⟨rfl, hw37⟩; have hE38 := ((hE13.then hw20).step hw31 hG24.mem1).then hw37; have hB41 := hw37.blk0 (hw31.blk (hw20.blk0 (hq12.blk0 hB2)) hA23.nmem1); refine aF (nE rfl) ?_; refine aC (aA (bF rfl (fun hc24 => ?_) (fun hc24 => ?_)))
  ·refine aE (aB (aF (aD rfl fJ) (bG rfl rfl (rfl) bV (hw37.blk0 hB30) rfl fun w43 hB44 hw45 => ?_)))
   try simp only [cR, Nat.reduceAdd] at hB44
   refine aF (aD rfl gD) (bG rfl rfl (rfl) fS hB44 rfl fun w50 hB51 hw52 => ?_)
   try simp only [cR, Nat.reduceAdd] at hB51
   refine aC (aA (aE (aB (aF (bX rfl cQ bN hB51 rfl) (bI rfl rfl bN (hw52.blk (hw45.blk hB41 hA23.nmem1) hA23.nmem1) rfl rfl ⟨rfl, rfl, rfl, rfl, rfl, rfl, rfl, rfl, rfl, trivial⟩ fun w57 hB58 hw59 => ?_)))))
   try simp only [cR, Nat.reduceAdd] at hB58
   refine aC (aA (aO (aN (cX rfl (ResOk.cellA rfl cQ bN hB58 rfl) ?_)))); rw [xT (fun h => hc24 ((nC hle).2 h))]; exact ⟨rfl, (((hE38.step hw45 hG24.mem1).step hw52 hG24.mem1).step hw59 hG7.mem1)⟩
  have h40 := (nC hle).1 (Classical.not_not.1 hc24); refine aU (aA (aE (aE (aB ?_)))); refine aF (sB (vs := [(0, _), (1, _)]) Tryz.underlying164 DT kP rfl (cells := #[.string (ByteArray.mk #[40, 63, 80, 60]), .string (ByteArray.mk #[40, 63, 60])]) (by kernel_rfl)) ?_; refine aG (aC (aA (bR ?_))); refine eV (α := Nat) (0) (fun k => [(29, .int .i64 (k : Nat))]) [(2, _), (3, _), (4, _), (28, _)] (fun k wr => Evo [] w36 wr ∧ (HdI w wr b2 b4 s st.pos st.now k)) (fun k => 2 - k) ⟨rfl, trivial⟩ ⟨rfl, rfl, rfl, rfl, trivial⟩ ⟨Evo.refl _ _, ⟨Nat.zero_le _, fun j h => by cases h⟩⟩ ?_; rintro k wr64 ⟨hV65, ⟨hk2, hno⟩⟩; show CW _ _ _ _ [(29, _), (2, _), (3, _), (4, _), (28, _)] _; have hB70 := hV65.blk0 (hw37.blk0 hB30); refine aE (aB (aF (dF rfl rfl) ?_)); refine aC (aA (aE (bF rfl (fun hc30 => ?_) (fun hc30 => ?_))))
  ·refine aU (aA (aE (bR (aE (aB ?_))))); refine aF (ME (n := k) rfl rfl Tryz.underlying164 rfl (by omega) kP (part_hd (by omega))) ?_; refine aM (aC (aA (aE (aE (aB (aG (aG ?_)))))))
   refine aK (vs := [_, _]) nL rfl (wY (s.extract st.pos s.size) (hd k) (by omega) (by have := hd_sz k; omega)) rfl ?_
   rintro _ w71 ⟨rfl, hw72⟩; refine aF (nE rfl) ?_; refine aC (aA (bF rfl (fun hc35 => ?_) (fun hc35 => ?_)))
   ·refine dO (cD (dN (aA ?_))); refine aB ?_; refine aF (bC rfl rfl (by omega) (by omega)) ?_; refine aG (aC (bY ?_)); refine ⟨k + 1, ?_, ⟨rfl, trivial⟩, ⟨rfl, rfl, rfl, rfl, trivial⟩, (hV65.then hw72), ?_⟩
    · omega
    refine ⟨by omega, fun j hj => ?_⟩
    by_cases e : j = k
    · subst e; exact hc35
    · exact hno j (by omega)
   have hpk := Classical.not_not.1 hc35; have hsz := hd_sz k; have hsl : (hd k).size ≤ (s.extract st.pos s.size).size := hpk.1; have hop := NK (fl := st.now) hle h40 (by omega) hpk hno; refine aU (aA (aE (aB (aG (aF (cM rfl Tryz.underlying9 rfl) ?_))))); refine aM (aC (aA (aE (bR ?_))))
   refine eV (α := WdG) (⟨s.size, (hd k).size⟩) (fun x => [(7, .int .i64 (x.m : Nat))]) [(2, _), (3, _), (4, _), (6, _), (28, _), (29, _)] (fun x wr => Evo [] w71 wr ∧ (WdI s st.pos (hd k).size x)) (fun x => x.f) ⟨rfl, trivial⟩ ⟨rfl, rfl, rfl, rfl, rfl, rfl, trivial⟩ ⟨Evo.refl _ _, ⟨by show st.pos + (hd k).size ≤ s.size; omega, Nat.le_refl _, Nat.le_add_right _ _, rfl⟩⟩ ?_
   rintro ⟨f, m⟩ wr79 ⟨hV80, ⟨hm, hhm, hf, heq⟩⟩; show CW _ _ _ _ [(7, .int .i64 (m : Nat)), (2, _), (3, _), (4, _), (6, _), (28, _), (29, _)] _
   try dsimp only at hm
   try dsimp only at hhm
   try dsimp only at hf
   try dsimp only at heq
   have hE81 := ((hE38.then hV65).then hw72).then hV80; have hB85 := hV80.blk0 (hw72.blk0 (hV65.blk0 hB41)); have hB86 := hV80.blk0 (hw72.blk0 hB70); refine aE (aE (aB (aG (aG (aF (cM rfl Tryz.underlying9 rfl) ?_))))); refine aF (dF rfl rfl) ?_; refine aG (aV (t := 42) rfl (fun hs42 => ?_) (fun hs42 => ?_))
   ·have e0 : sb (s.extract st.pos s.size) m = sb s (st.pos + m) := gE (by omega); refine aQ (aG (aQ (aG (aQ ?_)))); refine aF (fK (n := m) rfl rfl Tryz.underlying9 rfl (by omega) e0) ?_; refine aQ (aK (vs := [_]) nM rfl (wL (sb s (st.pos + m))) rfl ?_); rintro _ w87 ⟨rfl, hw88⟩; have hE89 := hE81.then hw88; have hB94 := hw88.blk0 hB85; have hB95 := hw88.blk0 hB86; refine bH (aC (aA (bF rfl (fun hc47 => ?_) (fun hc47 => ?_))))
    ·refine aU (aA (bR (aB (aG ?_)))); refine aF (bC rfl rfl (by omega) (by omega)) ?_; refine aM (aC (aW (bY ?_))); refine ⟨⟨f - 1, m + 1⟩, ?_, ⟨rfl, trivial⟩, ⟨rfl, rfl, rfl, rfl, rfl, rfl, trivial⟩, (hV80.then hw88), ?_⟩
     · (try dsimp only); show f - 1 < f; omega
     try dsimp only
     have hf2 : f = f - 1 + 1 := by omega
     exact ⟨(by show st.pos + (m + 1) ≤ s.size; omega), Nat.le_succ_of_le hhm, (by show s.size ≤ f - 1 + (st.pos + (m + 1)); omega), heq.trans (by rw [hf2]; exact xQ (by omega) hc47)⟩
    refine dO (cD (cD (dN (aA ?_)))); refine aE (aE (aB (aG (aG (aF (cM rfl Tryz.underlying9 rfl) ?_))))); refine aF (bD rfl rfl) ?_; refine aG (aV (t := 54) rfl (fun hs54 => ?_) (fun hs54 => ?_))
    ·refine aH (aH (aH (aH (bH (aG (aH (aH (aH (aH (bH (aC (aA (cV rfl ?_))))))))))))); refine aE (aB (aF (aD rfl eU) (bG rfl rfl (rfl) fT hB95 rfl fun w96 hB97 hw98 => ?_)))
     try simp only [cR, Nat.reduceAdd] at hB97
     refine aC (aA (aE (aB (aF (bX rfl cQ bN hB97 rfl) (bI rfl rfl bN (hw98.blk hB94 hA23.nmem1) rfl rfl ⟨rfl, rfl, rfl, rfl, rfl, rfl, rfl, rfl, rfl, trivial⟩ fun w105 hB106 hw107 => ?_)))))
     try simp only [cR, Nat.reduceAdd] at hB106
     refine aC (aA (aO (aN (aX (aN (aN (aX (aN (cX rfl (ResOk.cellA rfl cQ bN hB106 rfl) ?_)))))))))
     have hend := heq.trans (iR (by rintro ⟨h1, h2⟩; first | omega | exact hc47 h2))
     rw [hop, lH hend (.inl (by omega))]; exact ⟨rfl, ((hE89.step hw98 hG24.mem1).step hw107 hG7.mem1)⟩
    refine aQ (aG (aQ (aG (aQ (aF (cM rfl Tryz.underlying9 rfl) ?_))))); refine aQ (aF (bD rfl rfl) ?_); refine aR (aG (aV (t := 60) rfl (fun hs60 => ?_) (fun hs60 => ?_)))
    ·refine aH (aH (aH (aH (bH (aC (aA (cV rfl ?_))))))); refine aE (aB (aF (aD rfl eU) (bG rfl rfl (rfl) fT hB95 rfl fun w112 hB113 hw114 => ?_)))
     try simp only [cR, Nat.reduceAdd] at hB113
     refine aC (aA (aE (aB (aF (bX rfl cQ bN hB113 rfl) (bI rfl rfl bN (hw114.blk hB94 hA23.nmem1) rfl rfl ⟨rfl, rfl, rfl, rfl, rfl, rfl, rfl, rfl, rfl, trivial⟩ fun w121 hB122 hw123 => ?_)))))
     try simp only [cR, Nat.reduceAdd] at hB122
     refine aC (aA (aO (aN (aX (aN (aN (aX (aN (cX rfl (ResOk.cellA rfl cQ bN hB122 rfl) ?_)))))))))
     have hend := heq.trans (iR (by rintro ⟨h1, h2⟩; first | omega | exact hc47 h2))
     rw [hop, lH hend (.inr (fun h => by have := h.1; omega))]
     exact ⟨rfl, ((hE89.step hw114 hG24.mem1).step hw123 hG7.mem1)⟩
    have e0 : sb (s.extract st.pos s.size) m = sb s (st.pos + m) := gE (by omega); refine aQ (aG (aQ (aG (aQ ?_)))); refine aF (fK (n := m) rfl rfl Tryz.underlying9 rfl (by omega) e0) ?_; refine aQ (aF (fX rfl rfl) ?_); refine aR (aC (aA (bF rfl (fun hc65 => ?_) (fun hc65 => ?_))))
    ·refine aE (aB (aF (aD rfl eU) (bG rfl rfl (rfl) fT hB95 rfl fun w128 hB129 hw130 => ?_)))
     try simp only [cR, Nat.reduceAdd] at hB129
     refine aC (aA (aE (aB (aF (bX rfl cQ bN hB129 rfl) (bI rfl rfl bN (hw130.blk hB94 hA23.nmem1) rfl rfl ⟨rfl, rfl, rfl, rfl, rfl, rfl, rfl, rfl, rfl, trivial⟩ fun w137 hB138 hw139 => ?_)))))
     try simp only [cR, Nat.reduceAdd] at hB138
     refine aC (aA (aO (aN (aX (aN (aN (aX (aN (cX rfl (ResOk.cellA rfl cQ bN hB138 rfl) ?_)))))))))
     have hend := heq.trans (iR (by rintro ⟨h1, h2⟩; first | omega | exact hc47 h2))
     rw [hop, lH hend (.inr (fun h => by have := h.2; omega))]
     exact ⟨rfl, ((hE89.step hw130 hG24.mem1).step hw139 hG7.mem1)⟩
    have e74 : (s.extract st.pos s.size).extract (hd k).size m = s.extract (st.pos + (hd k).size) (st.pos + m) := yM (by omega) hhm; refine aU (aA (aE ?_)); refine iK (fun w0 w' => Evo [b4] w0 w') (by kernel_rfl) (fun w144 hw145 => ?_); refine aet 0 rfl (fun _ hS => bO rfl) (Evo.refl [b4] w144) ?_; refine aet 1 rfl (fun _ hS => bC rfl rfl (by omega) (by omega)) (Evo.refl [b4] w144) ?_; refine aet 2 rfl (fun _ hS => bO rfl) (Evo.refl [b4] w144) ?_; refine aet 3 rfl (fun _ hS => bO rfl) (Evo.refl [b4] w144) ?_; refine aet 4 rfl (fun _ hS => cM rfl Tryz.underlying9 rfl) (Evo.refl [b4] w144) ?_; refine aet 5 rfl (fun _ hS => bO rfl) (Evo.refl [b4] w144) ?_; refine aet 7 rfl (fun _ hS => aD rfl fJ) (Evo.refl [b4] w144) ?_; refine cP [6, 8] (by kernel_rfl) rfl ⟨?_, ?_, trivial⟩
    ·refine cU rfl ?_; refine aF (rA (l := (hd k).size) (h := m) rfl rfl rfl Tryz.underlying9 rfl rfl hhm (by omega) e74) ?_; refine aC (cG (.inl (Evo.refl [b4] w144)) ?_); refine cP [8] (by kernel_rfl) rfl ⟨?_, trivial⟩; refine cU rfl ?_; refine bG rfl rfl (rfl) bV (hw145.blk0 hB95) rfl fun w153 hB154 hw155 => ?_; have hE159 := (Evo.refl [b4] w144).step hw155 (fun y hy => .inl hy)
     try simp only [cR, Nat.reduceAdd] at hB154
     refine aC (cG (.inl hE159) ?_); refine aet 9 rfl (fun _ hS => aD rfl iQ) hE159 ?_; refine cP [10] (by kernel_rfl) rfl ⟨?_, trivial⟩; refine cU rfl ?_; refine bG rfl rfl (rfl) kP hB154 rfl fun w163 hB164 hw165 => ?_; have hE167 := hE159.step hw165 (fun y hy => .inl hy)
     try simp only [cR, Nat.reduceAdd] at hB164
     refine aC (cG (.inl hE167) ?_); refine aet 11 rfl (fun _ hS => aD rfl gD) hE167 ?_; refine cP [12] (by kernel_rfl) rfl ⟨?_, trivial⟩; refine cU rfl ?_; refine bG rfl rfl (rfl) fS hB164 rfl fun w171 hB172 hw173 => ?_
     try simp only [cR, Nat.reduceAdd] at hB172
     refine aC (cG (.inl (hE167.step hw173 (fun y hy => .inl hy))) ?_); refine fA (by kernel_rfl) (aA ?_); refine aE (aB (aF (bX rfl cQ bN hB172 rfl) (bI rfl rfl bN (hw173.blk (hw165.blk (hw155.blk (hw145.blk0 hB94) hA23.nmem1) hA23.nmem1) hA23.nmem1) rfl rfl ⟨rfl, rfl, rfl, rfl, rfl, rfl, rfl, rfl, rfl, trivial⟩ fun w179 hB180 hw181 => ?_)))
     try simp only [cR, Nat.reduceAdd] at hB180
     refine aC (aA (aO (aX (aN (aN (aX (aN (cX rfl (ResOk.cellA rfl cQ bN hB180 rfl) ?_))))))))
     have hend := heq.trans (iR (by rintro ⟨h1, h2⟩; first | omega | exact hc47 h2))
     rw [hop, pA hend (by rintro (h | h); omega; exact h ⟨by omega, by omega⟩)]
     refine ⟨?_, (((((hE89.then hw145).step hw155 hG24.mem1).step hw165 hG24.mem1).step hw173 hG24.mem1).step hw181 hG7.mem1)⟩; simp only [opV]; rw [show ((st.pos + m + 1 - st.pos : Nat) : Int) = (m : Int) + 1 by omega]
    refine cU rfl ?_; refine bG rfl rfl (rfl) bV (hw145.blk0 hB95) rfl fun w186 hB187 hw188 => ?_; have hE192 := (Evo.refl [b4] w144).step hw188 (fun y hy => .inl hy)
    try simp only [cR, Nat.reduceAdd] at hB187
    refine aC (cG (.inl hE192) ?_); refine cP [6] (by kernel_rfl) rfl ⟨?_, trivial⟩; refine cU rfl ?_; refine aF (rA (l := (hd k).size) (h := m) rfl rfl rfl Tryz.underlying9 rfl rfl hhm (by omega) e74) ?_; refine aC (cG (.inl hE192) ?_); refine aet 9 rfl (fun _ hS => aD rfl iQ) hE192 ?_; refine cP [10] (by kernel_rfl) rfl ⟨?_, trivial⟩; refine cU rfl ?_; refine bG rfl rfl (rfl) kP hB187 rfl fun w196 hB197 hw198 => ?_; have hE200 := hE192.step hw198 (fun y hy => .inl hy)
    try simp only [cR, Nat.reduceAdd] at hB197
    refine aC (cG (.inl hE200) ?_); refine aet 11 rfl (fun _ hS => aD rfl gD) hE200 ?_; refine cP [12] (by kernel_rfl) rfl ⟨?_, trivial⟩; refine cU rfl ?_; refine bG rfl rfl (rfl) fS hB197 rfl fun w204 hB205 hw206 => ?_
    try simp only [cR, Nat.reduceAdd] at hB205
    refine aC (cG (.inl (hE200.step hw206 (fun y hy => .inl hy))) ?_); refine fA (by kernel_rfl) (aA ?_); refine aE (aB (aF (bX rfl cQ bN hB205 rfl) (bI rfl rfl bN (hw206.blk (hw198.blk (hw188.blk (hw145.blk0 hB94) hA23.nmem1) hA23.nmem1) hA23.nmem1) rfl rfl ⟨rfl, rfl, rfl, rfl, rfl, rfl, rfl, rfl, rfl, trivial⟩ fun w212 hB213 hw214 => ?_)))
    try simp only [cR, Nat.reduceAdd] at hB213
    refine aC (aA (aO (aX (aN (aN (aX (aN (cX rfl (ResOk.cellA rfl cQ bN hB213 rfl) ?_))))))))
    have hend := heq.trans (iR (by rintro ⟨h1, h2⟩; first | omega | exact hc47 h2))
    rw [hop, pA hend (by rintro (h | h); omega; exact h ⟨by omega, by omega⟩)]
    refine ⟨?_, (((((hE89.then hw145).step hw188 hG24.mem1).step hw198 hG24.mem1).step hw206 hG24.mem1).step hw214 hG7.mem1)⟩; simp only [opV]; rw [show ((st.pos + m + 1 - st.pos : Nat) : Int) = (m : Int) + 1 by omega]
   refine aH (aH (aH (aH (aR (aC (aA (cO rfl ?_))))))); refine dO (cD (cD (dN (aA ?_)))); refine aE (aE (aB (aG (aG (aF (cM rfl Tryz.underlying9 rfl) ?_))))); refine aF (bD rfl rfl) ?_; refine aG (aV (t := 54) rfl (fun hs54 => ?_) (fun hs54 => ?_))
   ·refine aH (aH (aH (aH (bH (aG (aH (aH (aH (aH (bH (aC (aA (cV rfl ?_))))))))))))); refine aE (aB (aF (aD rfl eU) (bG rfl rfl (rfl) fT hB86 rfl fun w219 hB220 hw221 => ?_)))
    try simp only [cR, Nat.reduceAdd] at hB220
    refine aC (aA (aE (aB (aF (bX rfl cQ bN hB220 rfl) (bI rfl rfl bN (hw221.blk hB85 hA23.nmem1) rfl rfl ⟨rfl, rfl, rfl, rfl, rfl, rfl, rfl, rfl, rfl, trivial⟩ fun w228 hB229 hw230 => ?_)))))
    try simp only [cR, Nat.reduceAdd] at hB229
    refine aC (aA (aO (aN (aX (aN (aN (aX (aN (cX rfl (ResOk.cellA rfl cQ bN hB229 rfl) ?_)))))))))
    have hend := heq.trans (iR (by rintro ⟨h1, h2⟩; first | omega | exact hc47 h2))
    rw [hop, lH hend (.inl (by omega))]; exact ⟨rfl, ((hE81.step hw221 hG24.mem1).step hw230 hG7.mem1)⟩
   refine aQ (aG (aQ (aG (aQ (aF (cM rfl Tryz.underlying9 rfl) ?_))))); refine aQ (aF (bD rfl rfl) ?_); refine aR (aG (aV (t := 60) rfl (fun hs60 => ?_) (fun hs60 => ?_)))
   ·refine aH (aH (aH (aH (bH (aC (aA (cV rfl ?_))))))); refine aE (aB (aF (aD rfl eU) (bG rfl rfl (rfl) fT hB86 rfl fun w235 hB236 hw237 => ?_)))
    try simp only [cR, Nat.reduceAdd] at hB236
    refine aC (aA (aE (aB (aF (bX rfl cQ bN hB236 rfl) (bI rfl rfl bN (hw237.blk hB85 hA23.nmem1) rfl rfl ⟨rfl, rfl, rfl, rfl, rfl, rfl, rfl, rfl, rfl, trivial⟩ fun w244 hB245 hw246 => ?_)))))
    try simp only [cR, Nat.reduceAdd] at hB245
    refine aC (aA (aO (aN (aX (aN (aN (aX (aN (cX rfl (ResOk.cellA rfl cQ bN hB245 rfl) ?_)))))))))
    have hend := heq.trans (iR (by rintro ⟨h1, h2⟩; first | omega | exact hc47 h2))
    rw [hop, lH hend (.inr (fun h => by have := h.1; omega))]
    exact ⟨rfl, ((hE81.step hw237 hG24.mem1).step hw246 hG7.mem1)⟩
   have e0 : sb (s.extract st.pos s.size) m = sb s (st.pos + m) := gE (by omega); refine aQ (aG (aQ (aG (aQ ?_)))); refine aF (fK (n := m) rfl rfl Tryz.underlying9 rfl (by omega) e0) ?_; refine aQ (aF (fX rfl rfl) ?_); refine aR (aC (aA (bF rfl (fun hc65 => ?_) (fun hc65 => ?_))))
   ·refine aE (aB (aF (aD rfl eU) (bG rfl rfl (rfl) fT hB86 rfl fun w251 hB252 hw253 => ?_)))
    try simp only [cR, Nat.reduceAdd] at hB252
    refine aC (aA (aE (aB (aF (bX rfl cQ bN hB252 rfl) (bI rfl rfl bN (hw253.blk hB85 hA23.nmem1) rfl rfl ⟨rfl, rfl, rfl, rfl, rfl, rfl, rfl, rfl, rfl, trivial⟩ fun w260 hB261 hw262 => ?_)))))
    try simp only [cR, Nat.reduceAdd] at hB261
    refine aC (aA (aO (aN (aX (aN (aN (aX (aN (cX rfl (ResOk.cellA rfl cQ bN hB261 rfl) ?_)))))))))
    have hend := heq.trans (iR (by rintro ⟨h1, h2⟩; first | omega | exact hc47 h2))
    rw [hop, lH hend (.inr (fun h => by have := h.2; omega))]
    exact ⟨rfl, ((hE81.step hw253 hG24.mem1).step hw262 hG7.mem1)⟩
   have e74 : (s.extract st.pos s.size).extract (hd k).size m = s.extract (st.pos + (hd k).size) (st.pos + m) := yM (by omega) hhm; refine aU (aA (aE ?_)); refine iK (fun w0 w' => Evo [b4] w0 w') (by kernel_rfl) (fun w267 hw268 => ?_); refine aet 0 rfl (fun _ hS => bO rfl) (Evo.refl [b4] w267) ?_; refine aet 1 rfl (fun _ hS => bC rfl rfl (by omega) (by omega)) (Evo.refl [b4] w267) ?_; refine aet 2 rfl (fun _ hS => bO rfl) (Evo.refl [b4] w267) ?_; refine aet 3 rfl (fun _ hS => bO rfl) (Evo.refl [b4] w267) ?_; refine aet 4 rfl (fun _ hS => cM rfl Tryz.underlying9 rfl) (Evo.refl [b4] w267) ?_; refine aet 5 rfl (fun _ hS => bO rfl) (Evo.refl [b4] w267) ?_; refine aet 7 rfl (fun _ hS => aD rfl fJ) (Evo.refl [b4] w267) ?_; refine cP [6, 8] (by kernel_rfl) rfl ⟨?_, ?_, trivial⟩
   ·refine cU rfl ?_; refine aF (rA (l := (hd k).size) (h := m) rfl rfl rfl Tryz.underlying9 rfl rfl hhm (by omega) e74) ?_; refine aC (cG (.inl (Evo.refl [b4] w267)) ?_); refine cP [8] (by kernel_rfl) rfl ⟨?_, trivial⟩; refine cU rfl ?_; refine bG rfl rfl (rfl) bV (hw268.blk0 hB86) rfl fun w276 hB277 hw278 => ?_; have hE282 := (Evo.refl [b4] w267).step hw278 (fun y hy => .inl hy)
    try simp only [cR, Nat.reduceAdd] at hB277
    refine aC (cG (.inl hE282) ?_); refine aet 9 rfl (fun _ hS => aD rfl iQ) hE282 ?_; refine cP [10] (by kernel_rfl) rfl ⟨?_, trivial⟩; refine cU rfl ?_; refine bG rfl rfl (rfl) kP hB277 rfl fun w286 hB287 hw288 => ?_; have hE290 := hE282.step hw288 (fun y hy => .inl hy)
    try simp only [cR, Nat.reduceAdd] at hB287
    refine aC (cG (.inl hE290) ?_); refine aet 11 rfl (fun _ hS => aD rfl gD) hE290 ?_; refine cP [12] (by kernel_rfl) rfl ⟨?_, trivial⟩; refine cU rfl ?_; refine bG rfl rfl (rfl) fS hB287 rfl fun w294 hB295 hw296 => ?_
    try simp only [cR, Nat.reduceAdd] at hB295
    refine aC (cG (.inl (hE290.step hw296 (fun y hy => .inl hy))) ?_); refine fA (by kernel_rfl) (aA ?_); refine aE (aB (aF (bX rfl cQ bN hB295 rfl) (bI rfl rfl bN (hw296.blk (hw288.blk (hw278.blk (hw268.blk0 hB85) hA23.nmem1) hA23.nmem1) hA23.nmem1) rfl rfl ⟨rfl, rfl, rfl, rfl, rfl, rfl, rfl, rfl, rfl, trivial⟩ fun w302 hB303 hw304 => ?_)))
    try simp only [cR, Nat.reduceAdd] at hB303
    refine aC (aA (aO (aX (aN (aN (aX (aN (cX rfl (ResOk.cellA rfl cQ bN hB303 rfl) ?_))))))))
    have hend := heq.trans (iR (by rintro ⟨h1, h2⟩; first | omega | exact hc47 h2))
    rw [hop, pA hend (by rintro (h | h); omega; exact h ⟨by omega, by omega⟩)]
    refine ⟨?_, (((((hE81.then hw268).step hw278 hG24.mem1).step hw288 hG24.mem1).step hw296 hG24.mem1).step hw304 hG7.mem1)⟩; simp only [opV]; rw [show ((st.pos + m + 1 - st.pos : Nat) : Int) = (m : Int) + 1 by omega]
   refine cU rfl ?_; refine bG rfl rfl (rfl) bV (hw268.blk0 hB86) rfl fun w309 hB310 hw311 => ?_; have hE315 := (Evo.refl [b4] w267).step hw311 (fun y hy => .inl hy)
   try simp only [cR, Nat.reduceAdd] at hB310
   refine aC (cG (.inl hE315) ?_); refine cP [6] (by kernel_rfl) rfl ⟨?_, trivial⟩; refine cU rfl ?_; refine aF (rA (l := (hd k).size) (h := m) rfl rfl rfl Tryz.underlying9 rfl rfl hhm (by omega) e74) ?_; refine aC (cG (.inl hE315) ?_); refine aet 9 rfl (fun _ hS => aD rfl iQ) hE315 ?_; refine cP [10] (by kernel_rfl) rfl ⟨?_, trivial⟩; refine cU rfl ?_; refine bG rfl rfl (rfl) kP hB310 rfl fun w319 hB320 hw321 => ?_; have hE323 := hE315.step hw321 (fun y hy => .inl hy)
   try simp only [cR, Nat.reduceAdd] at hB320
   refine aC (cG (.inl hE323) ?_); refine aet 11 rfl (fun _ hS => aD rfl gD) hE323 ?_; refine cP [12] (by kernel_rfl) rfl ⟨?_, trivial⟩; refine cU rfl ?_; refine bG rfl rfl (rfl) fS hB320 rfl fun w327 hB328 hw329 => ?_
   try simp only [cR, Nat.reduceAdd] at hB328
   refine aC (cG (.inl (hE323.step hw329 (fun y hy => .inl hy))) ?_); refine fA (by kernel_rfl) (aA ?_); refine aE (aB (aF (bX rfl cQ bN hB328 rfl) (bI rfl rfl bN (hw329.blk (hw321.blk (hw311.blk (hw268.blk0 hB85) hA23.nmem1) hA23.nmem1) hA23.nmem1) rfl rfl ⟨rfl, rfl, rfl, rfl, rfl, rfl, rfl, rfl, rfl, trivial⟩ fun w335 hB336 hw337 => ?_)))
   try simp only [cR, Nat.reduceAdd] at hB336
   refine aC (aA (aO (aX (aN (aN (aX (aN (cX rfl (ResOk.cellA rfl cQ bN hB336 rfl) ?_))))))))
   have hend := heq.trans (iR (by rintro ⟨h1, h2⟩; first | omega | exact hc47 h2))
   rw [hop, pA hend (by rintro (h | h); omega; exact h ⟨by omega, by omega⟩)]
   refine ⟨?_, (((((hE81.then hw268).step hw311 hG24.mem1).step hw321 hG24.mem1).step hw329 hG24.mem1).step hw337 hG7.mem1)⟩; simp only [opV]; rw [show ((st.pos + m + 1 - st.pos : Nat) : Int) = (m : Int) + 1 by omega]
  have hnn : ∀ j, j < 2 → ¬ Pre (s.extract st.pos s.size) (hd j) := fun j hj => hno j (by omega); have hop := open_no (fl := st.now) hle h40 hnn; refine dO (cD (cD (dN (aA ?_)))); refine aE (aE (aB (aG ?_))); refine aK (vs := [_, _]) nL rfl (wY (s.extract st.pos s.size) (ByteArray.mk #[40, 63, 58]) (by omega) (show 3 ≤ 140737488355328 by omega)) rfl ?_; rintro _ w342 ⟨rfl, hw343⟩; have hE344 := (hE38.then hV65).then hw343; have hB348 := hw343.blk0 (hV65.blk0 hB41); refine aC (aA (bF rfl (fun hc81 => ?_) (fun hc81 => ?_)))
  ·refine aE (aB (aF (aD rfl fJ) (bG rfl rfl (rfl) bV (hw343.blk0 hB70) rfl fun w350 hB351 hw352 => ?_)))
   try simp only [cR, Nat.reduceAdd] at hB351
   refine aC (aA (aE (aB (aF (bX rfl cQ bN hB351 rfl) (bI rfl rfl bN (hw352.blk hB348 hA23.nmem1) rfl rfl ⟨rfl, rfl, rfl, rfl, rfl, rfl, rfl, rfl, rfl, trivial⟩ fun w358 hB359 hw360 => ?_)))))
   try simp only [cR, Nat.reduceAdd] at hB359
   refine aC (aA (aO (aN (cX rfl (ResOk.cellA rfl cQ bN hB359 rfl) ?_)))); have h58 : isB s (st.pos + 2) 58 := ((pre3 hle).1 hc81).2.2; rw [hop, if_pos h58]; exact ⟨rfl, ((hE344.step hw352 hG24.mem1).step hw360 hG7.mem1)⟩
  refine aU (aA (aE (aB (aG (aF (bX rfl cQ bN (hw343.blk0 hB70) rfl) ?_)))))
  refine aK (vs := [_, _]) EG rfl (IB s st.pos st.now (by have := h40.2.1; omega) hs) rfl ?_
  rintro _ w365 ⟨rfl, hw366⟩; refine bI rfl rfl bN (hw366.blk0 hB348) rfl rfl ⟨rfl, rfl, rfl, rfl, rfl, rfl, rfl, rfl, rfl, trivial⟩ fun w373 hB374 hw375 => ?_
  try simp only [cR, Nat.reduceAdd] at hB374
  refine aC (aA (aO (cX rfl (ResOk.cellA rfl cQ bN hB374 rfl) ?_))); have h58 : ¬ isB s (st.pos + 2) 58 := fun h => hc81 ((pre3 hle).2 ⟨h40.1, h40.2, h⟩); rw [hop, if_neg h58]; exact ⟨rfl, ((hE344.then hw366).step hw375 hG7.mem1)⟩
theorem kI : HD Tryz.prog 25 25 = some (27, 9, 112) := by kernel_rfl
theorem nN : eY Tryz.prog 116 := ⟨_, Tryz.func116, by kernel_rfl, by kernel_rfl⟩
theorem OTs.evo0 {l : List Rx} {w w' : World} {cs : List Value} {bs : List Nat} (h : OTs l w cs bs) (he : Evo [] w w') : OTs l w' cs bs := h.evo he (fun b hb h => by cases h)
theorem OT.evo0 {x : Rx} {w w' : World} {vs : List Value} {bs : List Nat} (h : OT x w vs bs) (he : Evo [] w w') : OT x w' vs bs := h.evo he (fun b hb h => by cases h)
theorem qN {w : World} {o : Option Nat} {bs : List Nat} (h : Fr w (o.toList ++ bs)) : ∀ q, q ∈ bs → q ∉ o.toList := fun q hq ho => (List.nodup_append.1 h.nd).2.2 q ho q hq rfl
theorem oO {w : World} {o : Option Nat} {bs : List Nat} (h : Fr w (o.toList ++ bs)) : Ge w o := fun g hg => h.ge g (by simp [hg])
theorem Fr.grow {w w1 w2 : World} {o o2 : Option Nat} {bs bx : List Nat} (h : Fr w (o.toList ++ bs)) (hl : ∀ b, b ∈ o.toList ++ bs → b < w1.heap.size) (hx : Fr w1 bx) (hx2 : ∀ b, b ∈ bx → b < w2.heap.size) (hw : w.heap.size ≤ w1.heap.size) (h12 : w1.heap.size ≤ w2.heap.size)
    (hob : o2 = o ∨ ∃ g, o2 = some g ∧ w2.heap.size ≤ g) : Fr w (o2.toList ++ (bs ++ bx)) := by
  rcases hob with rfl | ⟨g, rfl, hg⟩
  · rw [← List.append_assoc]
    exact h.app hx hw hl
  · have hb : Fr w (bs ++ bx) := Fr.app ⟨(List.nodup_append.1 h.nd).2.1, fun b hb => h.ge b (List.mem_append_right _ hb)⟩ hx hw (fun b hb => hl b (List.mem_append_right _ hb))
    refine ⟨List.nodup_cons.2 ⟨fun hm => ?_, hb.nd⟩, fun b hb2 => ?_⟩
    · have hm' : g ∈ bs ++ bx := by simpa using hm
      rcases List.mem_append.1 hm' with hm' | hm'
      · have := hl g (List.mem_append_right _ hm'); omega
      · have := hx2 g hm'; omega
    · rcases List.mem_cons.1 hb2 with rfl | hb2
      · omega
      · exact hb.ge b hb2
theorem oV {w : World} {a : Option Addr} {n c : Nat} {cs : List Value} {o : Option Nat} {l : List Rx} {bs : List Nat} (hO : OwnS w 27 9 a n c cs o) (hT : OTs l w cs bs) : ∀ b, b ∈ o.toList ++ bs → b < w.heap.size := fun b hb => (List.mem_append.1 hb).elim (pV hO b) (hT.lt b)
theorem LA {w : World} {o : Option Nat} {bs : List Nat} {b : Nat} (h : Fr w (o.toList ++ bs)) (hb : Lt w (some b)) : ∀ q, q ∈ bs → q ∉ [b] := fun q hq hm => by
  have h1 := h.ge q (List.mem_append_right _ hq)
  have h2 := hb b rfl
  rw [List.mem_singleton.1 hm] at h1; omega
theorem LX {s : ByteArray} {a b j k : Nat} (h : iG s a b s.size j = some k) : sb s k = a ∧ sb s (k + 1) = b := ((lE s a b s.size j (by omega)).1 k h).2.1.2
structure QuG where
  f : Nat
  i : Nat
  n : Nat
  l : List Rx
  qa : Option Addr
  qc : Nat
  qo : Option Nat
  bs : List Nat
structure QuI (w wr : World) (b : Nat) (s : ByteArray) (st : PS) (a : Option Addr) (c : Nat) (ob : Option Nat) (e i0 : Nat) (x : QuG) : Prop where
  hr : RdAt wr b s (hY st x.i) a c ob
  bd : Bd s x.i
  eq : kM s st.now e s.size [] i0 = kM s st.now e x.f x.l x.i
  hf : s.size ≤ x.f + x.i
  kt : ∃ cs, OwnS wr 27 9 x.qa x.n x.qc cs x.qo ∧ OTs x.l wr cs x.bs
  fr : Fr w (x.qo.toList ++ x.bs)
  len : x.l.length + i0 ≤ x.i
  ie : x.i ≤ e
theorem PQ {s : ByteArray} {fl : Fl} {e f i : Nat} {l : List Rx} (h : i < e) : kM s fl e (f + 1) l i = kM s fl e f (l ++ [lX fl (cE s i).1]) (i + (cE s i).2) := by rw [kM, if_pos h]
theorem KI {s : ByteArray} {fl : Fl} {e f i : Nat} {l : List Rx} (h : ¬ i < e) : kM s fl e f l i = (l, i) := by
  cases f with
  | zero => rfl
  | succ f => rw [kM, if_neg h]
theorem qV {w : World} {a : Option Addr} {n c : Nat} {cs : List Value} {o : Option Nat} {l : List Rx} {bs : List Nat} (hO : OwnS w 27 9 a n c cs o) (hT : OTs l w cs bs) : n = l.length := by have h1 := hO.length; have h2 := hT.len; omega
theorem pq_some {s : ByteArray} {st : PS} {k : Nat} (h : iG s 92 69 s.size (st.pos + 2) = some k) : mM s st = .ok ((kM s st.now k s.size [] (st.pos + 2)).1, { st with pos := (kM s st.now k s.size [] (st.pos + 2)).2 + 2 }) := by unfold mM; rw [h]
theorem pq_none {s : ByteArray} {st : PS} (h : iG s 92 69 s.size (st.pos + 2) = none) : mM s st = .ok ((kM s st.now s.size s.size [] (st.pos + 2)).1, { st with pos := (kM s st.now s.size s.size [] (st.pos + 2)).2 }) := by unfold mM; rw [h]
theorem MM {s : ByteArray} {i e : Nat} (h : Bd s i) (hi : i < e) (he : Bd s e) : i + (cE s i).2 ≤ e := by
  obtain ⟨N, k, hU, hk, rfl⟩ := h
  obtain ⟨M, m, hV, hm, rfl⟩ := he
  have hkm : k < m := by
    rcases Nat.lt_or_ge k m with h | h
    · exact h
    · have := lI s h; omega
  exact lI s (show k + 1 ≤ m from hkm)
theorem Bd.size {s : ByteArray} {i : Nat} (h : Bd s i) : Bd s s.size := by obtain ⟨N, k, hU, hk, _⟩ := h; exact ⟨N, N, hU, Nat.le_refl _, hU.1⟩
theorem BN {w : World} {b : Nat} {s : ByteArray} {st : PS} {a : Option Addr} {c : Nat} {ob : Option Nat} (hR : RdAt w b s st a c ob) (hs : s.size ≤ 10000) (hb : Bd s (st.pos + 2)) (hG : Glb w) :
    Calls Tryz.prog 132 #[.pointer (some ⟨b, 0, none⟩)] w (Ret fun v w' => ∃ l st', mM s st = .ok (l, st') ∧ KOut w w' v l ∧ Evo [b] w w' ∧ RdAt w' b s st' a c ob ∧ st'.opn = st.opn ∧ st'.names = st.names ∧ st.pos + 2 ≤ st'.pos ∧ Bd s st'.pos ∧ l.length + st.pos ≤ st'.pos) := by
  have hap := hR.ap; have hgb : oI ∉ [b] := fun h => hR.glb hG (List.mem_singleton.1 h).symm; have hle := hb.le; have hbw : Lt w (some b) := Lt.blk hR.blk; have how : Lt w ob := Lt.own hR.own; refine bJ (N := 59) Tryz.func132 rfl rfl rfl ?_; refine aE (aB (aM (aC (aA (aE (aB (aG (aF (aP rfl) (aF (aD rfl bE) (aF (aI rfl aZ (aJ hR.blk rfl)) ?_)))))))))); refine aF (bC rfl rfl (by omega) (by omega)) ?_; refine aF (aP rfl) (aF (aD rfl bE) (bG rfl rfl (rfl) bV hR.blk rfl fun w1 hB2 hw3 => ?_))
  try simp only [cR, Nat.reduceAdd] at hB2
  refine aC (aA (aE (aB (aG (aF (aP rfl) (aF (aD rfl dE) (aF (aI rfl cJ (aJ hB2 rfl)) (aF (cM rfl Tryz.underlying9 rfl) ?_)))))))); refine aM (aM (aC (aA (aE (aE ?_))))); refine iK (fun w0 w' => Evo [] w0 w') (by kernel_rfl) (fun w6 hw7 => ?_); have hE8 := ((Evo.refl [b] w).step hw3 (fun y hy => .inl hy)).then hw7; have hB9 := hw7.blk0 hB2; refine aet 0 rfl (fun _ hS => bO rfl) (Evo.refl [] w6) ?_; refine aet 1 rfl (fun _ hS => aP rfl) (Evo.refl [] w6) ?_; refine aet 2 rfl (fun _ hS => aD rfl dE) (Evo.refl [] w6) ?_; refine aet 3 rfl (fun _ hS => aI rfl cJ (aJ (hS.blk0 hB9) rfl)) (Evo.refl [] w6) ?_; refine aet 4 rfl (fun _ hS => bO rfl) (Evo.refl [] w6) ?_; refine aet 5 rfl (fun _ hS => aP rfl) (Evo.refl [] w6) ?_; refine aet 6 rfl (fun _ hS => aD rfl bE) (Evo.refl [] w6) ?_; refine aet 7 rfl (fun _ hS => aI rfl aZ (aJ (hS.blk0 hB9) rfl)) (Evo.refl [] w6) ?_; refine cP [8] (by kernel_rfl) rfl ⟨?_, trivial⟩; refine cU rfl ?_
  refine aF (gW (l := st.pos + 2) rfl rfl Tryz.underlying9 rfl hle) ?_; refine aC (cG (.inl (Evo.refl [] w6)) ?_); refine cP [9] (by kernel_rfl) rfl ⟨?_, trivial⟩; refine cU rfl ?_; refine aK (vs := [_, _]) uI rfl (LR s 92 69 (st.pos + 2) hle (by omega) (hG.evo hE8 hgb)) rfl ?_; rintro _ w11 ⟨rfl, hw12⟩; have hE14 := (Evo.refl [] w6).then hw12; have hB15 := hw12.blk0 hB9; have hO16 := ((hR.own.evo hw3 hap.symm.own1).evo0 hw7).evo0 hw12; refine aC (cG (.inl hE14) ?_); refine aet 10 rfl (fun _ hS => eT rfl) hE14 ?_; refine fA (by kernel_rfl) (aA ?_); refine aE (aB (aG (aF (gC rfl rfl) ?_))); refine aC (aA (bF rfl (fun hc30 => ?_) (fun hc30 => ?_)))
  ·obtain ⟨k, hk, hfk, hk2, hk3⟩ := LW hc30; rw [hfk]
   have hbk : Bd s k := nU hb (by omega) (by omega) (by have h9 : sb s k = 92 := (LX hk).1; omega)
   refine aB (aG (aF (aP rfl) (aF (aD rfl bE) (aF (aI rfl aZ (aJ hB15 rfl)) (aG ?_))))); refine aF (CV (r := ((k : Nat) : Int)) rfl rfl (by omega) (by omega) (by omega)) ?_; refine aM (aM (aC (aA (aE (aB (aM (aC (aA (aE (bR ?_))))))))))
   refine eV (α := QuG) (⟨s.size, st.pos + 2, 0, [], none, 0, none, []⟩) (fun x => [(6, .slice x.qa x.n x.qc)]) [(0, _), (2, _), (3, _), (4, _)] (fun x wr => Evo [b] w wr ∧ (QuI w wr b s st a c ob k (st.pos + 2) x)) (fun x => x.f) ⟨rfl, trivial⟩ ⟨rfl, rfl, rfl, rfl, trivial⟩ ⟨(hE8.then hw12), ⟨⟨hB15, hO16, hR.ne⟩, hb, rfl, Nat.le_add_right _ _, ⟨[], OwnS.nil _ _ _, OTs.nil _⟩, Fr.nil _, (by show 0 + (st.pos + 2) ≤ st.pos + 2; omega), (by show st.pos + 2 ≤ _; omega)⟩⟩ ?_
   rintro ⟨f, i, n, l, qa, qc, qo, bs⟩ wr17 ⟨hV18, ⟨hR9, hbi, heq, hfi, ⟨cs, hown, hts⟩, hfr, hlen, hie⟩⟩; show CW _ _ _ _ [(6, .slice qa n qc), (0, _), (2, _), (3, _), (4, _)] _
   try dsimp only at hR9
   try dsimp only at hbi
   try dsimp only at heq
   try dsimp only at hfi
   try dsimp only at cs
   try dsimp only at hown
   try dsimp only at hts
   try dsimp only at hfr
   try dsimp only at hlen
   try dsimp only at hie
   have hpi : (hY st i).pos = i := rfl; have hil := hbi.le; have hA2 : Apart ob qo := kW how (oO hfr); have hA1 : Apart (some b) qo := kW hbw (oO hfr); refine aE (aE (aB (aG (aF (aP rfl) (aF (aD rfl bE) (aF (aI rfl aZ (aJ hR9.blk rfl)) (aG (aF (dF rfl rfl) ?_)))))))); refine aC (aA (bF rfl (fun hc42 => ?_) (fun hc42 => ?_)))
   ·have hii : i < k := by omega
    have hsz2 := (hbk).le; obtain ⟨hn0, hn1, hn2, hr0, hr1⟩ := hbi.next (by omega); have hn3 := MM hbi hii (hbk); obtain ⟨f', rfl⟩ : ∃ f', f = f' + 1 := ⟨f - 1, by omega⟩; have hql := oV hown hts; refine aU (aA (bR (aB (aG (aG (aG ?_)))))); refine aK (vs := [_]) nO rfl (wO ⟨hR9.blk, hR9.own, hR9.ne⟩ (by omega) hbi) rfl ?_; rintro _ w19 ⟨rfl, hw20, hR2⟩; have hE21 := hV18.step hw20 (fun y hy => .inl hy); have hB22 := hown.evo hw20 ((by first | exact hA1.symm.own1 | exact hA1.symm.nmem1)); have hB23 := hts.evo hw20 (LA hfr hbw); refine aK (vs := [_, _]) nN rfl (CE hR2 (cE s i).1 hr0 hr1) rfl ?_; rintro rv w24 ⟨hT, hw25⟩; have hcall9 := hw25; have hV9 := hE21; have hl1 := oV hB22 hB23; have hql2 : ∀ q, q ∈ qo.toList → q < _ := fun q hq => hl1 q (List.mem_append_left _ hq); obtain ⟨vs, bx, rfl, hOT, hFx⟩ := hT; obtain ⟨ra, rc, ka, kc, rfl⟩ := id hOT.nine; refine bL (vs := [_]) rfl dD rfl rfl rfl rfl fun b31 w32 hO33 hs34 hw35 => ?_; have hLT9 := (hOT.evo0 hw35); have hVV := ((Evo.refl [] w24).then hw35)
    refine dL rfl rfl rfl rfl kI ((hB22.evo0 hw25).evo0 hw35) (Src.ofOwn hO33 ⟨rfl, rfl, rfl, rfl, rfl, rfl, rfl, rfl, rfl, trivial⟩) (by have := qV hown hts; omega) fun a2 c2 w50 ob2 hO2 hw53 hob54 => ?_
    have hF64 := (hOT.evo0 hw35).evo hw53 (fun q hq h => by have h8 := hFx.ge q hq; have h9 := hql2 q h; omega)
    have hob2 := hob54; have hFr9 := Fr.grow hfr hl1 hFx (OT.lt hLT9) hV9.size (Nat.le_trans hcall9.size hVV.size) hob2; refine aM (aC (aW (bY ?_))); refine ⟨⟨f', i + (cE s i).2, n + 1, l ++ [lX st.now (cE s i).1], a2, c2, ob2, bs ++ bx⟩, ?_, ⟨rfl, trivial⟩, ⟨rfl, rfl, rfl, rfl, trivial⟩, (((hE21.then hw25).then hw35).step hw53 (oO hfr).mem), ?_⟩
    · (try dsimp only); omega
    try dsimp only
    have hTs := OTs.app (((hB23.evo0 hw25).evo0 hw35).evo hw53 (qN hfr)) (OTs.single hF64)
    refine ⟨⟨(hw53.blk (hw35.blk0 (hw25.blk0 hR2.blk)) hA1.nmem), (((hR2.own.evo0 hw25).evo0 hw35).evo hw53 hA2.own), hR2.ne⟩, hn2, ?_, (by show s.size ≤ f' + (i + (cE s i).2); omega), ⟨_, hO2, hTs⟩, hFr9, ?_, hn3⟩
    · rw [heq]; exact PQ hii
    · show (l ++ [lX st.now (cE s i).1]).length + (st.pos + 2) ≤ i + (cE s i).2; rw [List.length_append]; simp; omega
   refine dO (cD (cD (dN (aA ?_)))); refine aE (aB (aG (aF (aP rfl) (aF (aD rfl bE) (aF (aI rfl aZ (aJ hR9.blk rfl)) (aG ?_)))))); refine aF (bC rfl rfl (by omega) (by omega)) ?_; refine aF (aP rfl) (aF (aD rfl bE) (bG rfl rfl (rfl) bV hR9.blk rfl fun w66 hB67 hw68 => ?_))
   try simp only [cR, Nat.reduceAdd] at hB67
   refine aC (aA (aE (aB (aG (aM (aC (aA (aO (br1 ?_))))))))); have hend := heq.trans (KI (by omega)); obtain rfl := qV hown hts; have h69 : sb s k = 92 ∧ sb s (k + 1) = 69 := LX hk
   obtain rfl : i = k := by omega
   have hb2 : Bd s (i + 1) := isB.asc (b := 92) ⟨by omega, h69.1⟩ (by decide) hbi; have hb3 : Bd s (i + 2) := isB.asc (b := 69) ⟨by omega, h69.2⟩ (by decide) hb2
   exact ⟨l, hY st (i + 2), (pq_some hk).trans (by rw [hend]; rfl), ⟨_, _, _, _, _, rfl, (hown.evo hw68 hA1.symm.own1), (hts.evo hw68 (LA hfr hbw)), hfr⟩, (hV18.step hw68 (fun y hy => .inl hy)), ⟨hB67, (hR9.own.evo hw68 hR9.ap.symm.own1), hR9.ne⟩, rfl, rfl, (by show st.pos + 2 ≤ i + 2; omega), hb3, (by show l.length + st.pos ≤ i + 2; omega)⟩
  refine aU (aA (aE (aB (aM (aC (aA (aE (bR ?_))))))))
  refine eV (α := QuG) (⟨s.size, st.pos + 2, 0, [], none, 0, none, []⟩) (fun x => [(6, .slice x.qa x.n x.qc)]) [(0, _), (2, _), (3, _), (4, _)] (fun x wr => Evo [b] w wr ∧ (QuI w wr b s st a c ob s.size (st.pos + 2) x)) (fun x => x.f) ⟨rfl, trivial⟩ ⟨rfl, rfl, rfl, rfl, trivial⟩ ⟨(hE8.then hw12), ⟨⟨hB15, hO16, hR.ne⟩, hb, rfl, Nat.le_add_right _ _, ⟨[], OwnS.nil _ _ _, OTs.nil _⟩, Fr.nil _, (by show 0 + (st.pos + 2) ≤ st.pos + 2; omega), (by show st.pos + 2 ≤ _; omega)⟩⟩ ?_
  rintro ⟨f, i, n, l, qa, qc, qo, bs⟩ wr73 ⟨hV74, ⟨hR9, hbi, heq, hfi, ⟨cs, hown, hts⟩, hfr, hlen, hie⟩⟩; show CW _ _ _ _ [(6, .slice qa n qc), (0, _), (2, _), (3, _), (4, _)] _
  try dsimp only at hR9
  try dsimp only at hbi
  try dsimp only at heq
  try dsimp only at hfi
  try dsimp only at cs
  try dsimp only at hown
  try dsimp only at hts
  try dsimp only at hfr
  try dsimp only at hlen
  try dsimp only at hie
  have hpi : (hY st i).pos = i := rfl; have hil := hbi.le; have hA2 : Apart ob qo := kW how (oO hfr); have hA1 : Apart (some b) qo := kW hbw (oO hfr); refine aE (aE (aB (aG (aF (aP rfl) (aF (aD rfl bE) (aF (aI rfl aZ (aJ hR9.blk rfl)) (aG (aF (dF rfl rfl) ?_)))))))); refine aC (aA (bF rfl (fun hc42 => ?_) (fun hc42 => ?_)))
  ·have hii : i < s.size := by omega
   have hsz2 := (hb.size).le; obtain ⟨hn0, hn1, hn2, hr0, hr1⟩ := hbi.next (by omega); have hn3 := MM hbi hii (hb.size); obtain ⟨f', rfl⟩ : ∃ f', f = f' + 1 := ⟨f - 1, by omega⟩; have hql := oV hown hts; refine aU (aA (bR (aB (aG (aG (aG ?_)))))); refine aK (vs := [_]) nO rfl (wO ⟨hR9.blk, hR9.own, hR9.ne⟩ (by omega) hbi) rfl ?_; rintro _ w75 ⟨rfl, hw76, hR2⟩; have hE77 := hV74.step hw76 (fun y hy => .inl hy); have hB78 := hown.evo hw76 ((by first | exact hA1.symm.own1 | exact hA1.symm.nmem1)); have hB79 := hts.evo hw76 (LA hfr hbw); refine aK (vs := [_, _]) nN rfl (CE hR2 (cE s i).1 hr0 hr1) rfl ?_; rintro rv w80 ⟨hT, hw81⟩; have hcall9 := hw81; have hV9 := hE77; have hl1 := oV hB78 hB79; have hql2 : ∀ q, q ∈ qo.toList → q < _ := fun q hq => hl1 q (List.mem_append_left _ hq); obtain ⟨vs, bx, rfl, hOT, hFx⟩ := hT; obtain ⟨ra, rc, ka, kc, rfl⟩ := id hOT.nine; refine bL (vs := [_]) rfl dD rfl rfl rfl rfl fun b87 w88 hO89 hs90 hw91 => ?_; have hLT9 := (hOT.evo0 hw91); have hVV := ((Evo.refl [] w80).then hw91)
   refine dL rfl rfl rfl rfl kI ((hB78.evo0 hw81).evo0 hw91) (Src.ofOwn hO89 ⟨rfl, rfl, rfl, rfl, rfl, rfl, rfl, rfl, rfl, trivial⟩) (by have := qV hown hts; omega) fun a2 c2 w106 ob2 hO2 hw109 hob110 => ?_
   have hF120 := (hOT.evo0 hw91).evo hw109 (fun q hq h => by have h8 := hFx.ge q hq; have h9 := hql2 q h; omega)
   have hob2 := hob110; have hFr9 := Fr.grow hfr hl1 hFx (OT.lt hLT9) hV9.size (Nat.le_trans hcall9.size hVV.size) hob2; refine aM (aC (aW (bY ?_))); refine ⟨⟨f', i + (cE s i).2, n + 1, l ++ [lX st.now (cE s i).1], a2, c2, ob2, bs ++ bx⟩, ?_, ⟨rfl, trivial⟩, ⟨rfl, rfl, rfl, rfl, trivial⟩, (((hE77.then hw81).then hw91).step hw109 (oO hfr).mem), ?_⟩
   · (try dsimp only); omega
   try dsimp only
   have hTs := OTs.app (((hB79.evo0 hw81).evo0 hw91).evo hw109 (qN hfr)) (OTs.single hF120)
   refine ⟨⟨(hw109.blk (hw91.blk0 (hw81.blk0 hR2.blk)) hA1.nmem), (((hR2.own.evo0 hw81).evo0 hw91).evo hw109 hA2.own), hR2.ne⟩, hn2, ?_, (by show s.size ≤ f' + (i + (cE s i).2); omega), ⟨_, hO2, hTs⟩, hFr9, ?_, hn3⟩
   · rw [heq]; exact PQ hii
   · show (l ++ [lX st.now (cE s i).1]).length + (st.pos + 2) ≤ i + (cE s i).2; rw [List.length_append]; simp; omega
  refine dO (cD (cD (dN (aA ?_)))); refine aE (aB (aG (aF (aP rfl) (aF (aD rfl bE) (aF (aI rfl aZ (aJ hR9.blk rfl)) (aG ?_)))))); refine aF (bC rfl rfl (by omega) (by omega)) ?_; refine aF (aP rfl) (aF (aD rfl bE) (bG rfl rfl (rfl) bV hR9.blk rfl fun w122 hB123 hw124 => ?_))
  try simp only [cR, Nat.reduceAdd] at hB123
  refine aC (aA (aE (aB (aG (aM (aC (aA (aO (br1 ?_))))))))); have hend := heq.trans (KI (by omega)); obtain rfl := qV hown hts
  exact ⟨l, hY st (i), (pq_none (iV hc30)).trans (by rw [hend]; rfl), ⟨_, _, _, _, _, rfl, (hown.evo hw124 hA1.symm.own1), (hts.evo hw124 (LA hfr hbw)), hfr⟩, (hV74.step hw124 (fun y hy => .inl hy)), ⟨hB123, (hR9.own.evo hw124 hR9.ap.symm.own1), hR9.ne⟩, rfl, rfl, (by show st.pos + 2 ≤ i; omega), hbi, (by show l.length + st.pos ≤ i; omega)⟩
theorem EK : eY Tryz.prog 132 := ⟨_, Tryz.func132, by kernel_rfl, by kernel_rfl⟩
section
variable {s : ByteArray} {st : PS} {S : Int → Prop} {v j : Nat} {e : Int}
theorem es_end (h : s.size ≤ st.pos + 1) : fV s st = .error 83 := by unfold fV; rw [if_pos h]
theorem es_A (h : ¬ s.size ≤ st.pos + 1) (c : sb s (st.pos + 1) = 65) : fV s st = .ok ([rxK 8], hY st (st.pos + 2)) := by unfold fV; rw [if_neg h, if_pos c]; rfl
theorem es_z (h : ¬ s.size ≤ st.pos + 1) (c : sb s (st.pos + 1) = 122) : fV s st = .ok ([rxK 9], hY st (st.pos + 2)) := by unfold fV; rw [if_neg h, if_neg (by omega), if_pos c]; rfl
theorem es_b (h : ¬ s.size ≤ st.pos + 1) (c : sb s (st.pos + 1) = 98) : fV s st = .ok ([rxK 12], hY st (st.pos + 2)) := by unfold fV; rw [if_neg h, if_neg (by omega), if_neg (by omega), if_pos c]; rfl
theorem es_B (h : ¬ s.size ≤ st.pos + 1) (c : sb s (st.pos + 1) = 66) : fV s st = .ok ([rxK 13], hY st (st.pos + 2)) := by unfold fV; rw [if_neg h, if_neg (by omega), if_neg (by omega), if_neg (by omega), if_pos c]; rfl
theorem es_Q (h : ¬ s.size ≤ st.pos + 1) (c : sb s (st.pos + 1) = 81) : fV s st = mM s st := by unfold fV; rw [if_neg h, if_neg (by omega), if_neg (by omega), if_neg (by omega), if_neg (by omega), if_pos c]
theorem es_rest (h : ¬ s.size ≤ st.pos + 1) (c1 : ¬ sb s (st.pos + 1) = 65) (c2 : ¬ sb s (st.pos + 1) = 122) (c3 : ¬ sb s (st.pos + 1) = 98) (c4 : ¬ sb s (st.pos + 1) = 66) (c5 : ¬ sb s (st.pos + 1) = 81) : fV s st = (match tO (sb s (st.pos + 1)) with
    | some S => .ok ([kG S], { st with pos := st.pos + 2 })
    | none => match lP s st.pos with
      | .error e => .error e
      | .ok (v, j) => .ok ([lX st.now v], { st with pos := j })) := by unfold fV; rw [if_neg h, if_neg c1, if_neg c2, if_neg c3, if_neg c4, if_neg c5]; rfl
end
theorem KOut.older {w w1 w' : World} {v : Value} {l : List Rx} (h : KOut w1 w' v l) (hw : w.heap.size ≤ w1.heap.size) : KOut w w' v l := by
  obtain ⟨a, c, o, cs, bs, h1, h2, h3, h4⟩ := h
  exact ⟨a, c, o, cs, bs, h1, h2, h3, h4.older hw⟩
theorem LH {c : Nat} {S : Int → Prop} (h : tO c = some S) : c < 128 := by
  rcases Nat.lt_or_ge c 128 with h1 | h1
  · exact h1
  · rw [vB (by omega)] at h; cases h
theorem OC {w : World} {b : Nat} {s : ByteArray} {st : PS} {a : Option Addr} {c : Nat} {ob : Option Nat} (hR : RdAt w b s st a c ob) (hs : s.size ≤ 10000) (hlt : st.pos < s.size) (h92 : sb s st.pos = 92) (hb : Bd s st.pos) (hG : Glb w) :
    Calls Tryz.prog 111 #[.pointer (some ⟨b, 0, none⟩)] w (RetP (fun v w' => ∃ l st', fV s st = .ok (l, st') ∧ KOut w w' v l ∧ Evo [b] w w' ∧ RdAt w' b s st' a c ob ∧ st'.opn = st.opn ∧ st'.names = st.names ∧ st.pos < st'.pos ∧ Bd s st'.pos ∧ l.length + st.pos ≤ st'.pos) (fun v w' => ∃ e, fV s st = .error e ∧ v = flt e ∧ Evo [b] w w')) := by
  have hap := hR.ap; have hgb : oI ∉ [b] := fun h => hR.glb hG (List.mem_singleton.1 h).symm; have hb1 := (hb.asc hlt (by omega)).1; have hb9 := jM s (st.pos + 1); refine bJ (N := 98) Tryz.func111 rfl rfl rfl ?_; refine aE (aB (aM (aC (aA (aE (aE ?_)))))); refine fH (by kernel_rfl) (by kernel_rfl) ?_; refine bM (fun _ hq2 => bO rfl) ?_; refine bM (fun _ hq2 => aP rfl) ?_; refine bM (fun _ hq2 => aD rfl bE) ?_; refine bM (fun _ hq2 => aI rfl aZ (aJ (hq2.blk0 hR.blk) rfl)) ?_; refine bM (fun _ hq2 => bC rfl rfl (by omega) (by omega)) ?_; refine bM (fun _ hq2 => bO rfl) ?_; refine bM (fun _ hq2 => aP rfl) ?_; refine bM (fun _ hq2 => aD rfl dE) ?_; refine bM (fun _ hq2 => aI rfl cJ (aJ (hq2.blk0 hR.blk) rfl)) ?_; refine bM (fun _ hq2 => cM rfl Tryz.underlying9 rfl) ?_; refine bM (fun _ hq2 => bD rfl rfl) ?_; refine fP (fun wq1 hq2 => aA ?_); have hE3 := (Evo.refl [b] w).then hq2; have hB4 := hq2.blk0 hR.blk; refine bF rfl (fun hc16 => ?_) (fun hc16 => ?_)
  ·refine aB (bT (vs := [_]) cS rfl (eO 83) rfl ?_ ?_)
   ·intro pv wp hpp; obtain ⟨rfl, hpw⟩ := hpp; exact And.intro rfl ⟨_, rfl, _, es_end (by omega), rfl, (hE3).then hpw⟩
   intro _ _ hF; exact hF.elim
  have hle2 : ¬ s.size ≤ st.pos + 1 := by omega
  refine aU (aA (aE (aE ?_))); refine fH (by kernel_rfl) (by kernel_rfl) ?_; refine bM (fun _ hq9 => bO rfl) ?_; refine bM (fun _ hq9 => aP rfl) ?_; refine bM (fun _ hq9 => aD rfl dE) ?_; refine bM (fun _ hq9 => aI rfl cJ (aJ (hq9.blk0 hB4) rfl)) ?_; refine bM (fun _ hq9 => bO rfl) ?_; refine bM (fun _ hq9 => aP rfl) ?_; refine bM (fun _ hq9 => aD rfl bE) ?_; refine bM (fun _ hq9 => aI rfl aZ (aJ (hq9.blk0 hB4) rfl)) ?_; refine bM (fun _ hq9 => bC rfl rfl (by omega) (by omega)) ?_; refine bM (fun _ hq9 => fL (n := st.pos + 1) rfl rfl Tryz.underlying9 rfl (by omega)) ?_; refine bM (fun _ hq9 => eT rfl) ?_; refine fP (fun wq8 hq9 => aA ?_); have hE10 := hE3.then hq9; have hB11 := hq9.blk0 hB4; have hO12 := (hR.own.evo0 hq2).evo0 hq9; refine aE (aB (aG (aC (aA (bR (aE (aB (aF (bD rfl rfl) ?_)))))))); refine aM (aC (aA (bF rfl (fun hc45 => ?_) (fun hc45 => ?_))))
  ·refine aE (aB (aG (aF (aP rfl) (aF (aD rfl bE) (aF (aI rfl aZ (aJ hB11 rfl)) ?_))))); refine aF (bC rfl rfl (by omega) (by omega)) ?_; refine aF (aP rfl) (aF (aD rfl bE) (bG rfl rfl (rfl) bV hB11 rfl fun w13 hB14 hw15 => ?_)); have hE16 := hE10.step hw15 (fun y hy => .inl hy)
   try simp only [cR, Nat.reduceAdd] at hB14
   refine aC (aA (aE (aB (aF (eN (vs := [(0, _)]) dK rfl (cells := [_, _, _, _, _, _, _, _, _]) rfl) ?_)))); refine bL (vs := [_]) rfl dD rfl rfl rfl rfl fun b55 w18 hO19 hs20 hw21 => ?_; have hE25 := hE16.then hw21; have hB26 := hw21.blk0 hB14; have hO27 := (hO12.evo hw15 hap.symm.own1).evo0 hw21; refine aM (aC (aA (aO (aX (aN (bS (br1 ?_)))))))
   exact ⟨_, _, es_A hle2 (by omega), iI hO19 (pW 8 _) (Fr.nil _) ((Ge.new hE16 hs20) _ rfl) hE25 (fun b hb => by cases hb) (Nat.le_refl _), hE25, ⟨hB26, hO27, hR.ne⟩, rfl, rfl, (by show st.pos < st.pos + 2; omega), (hb1.asc (by omega) (by omega)).1, (by show 1 + st.pos ≤ st.pos + 2; omega)⟩
  refine aE (aB (aF (bD rfl rfl) ?_)); refine aM (aC (aA (bF rfl (fun hc56 => ?_) (fun hc56 => ?_))))
  ·refine aE (aB (aG (aF (aP rfl) (aF (aD rfl bE) (aF (aI rfl aZ (aJ hB11 rfl)) ?_))))); refine aF (bC rfl rfl (by omega) (by omega)) ?_; refine aF (aP rfl) (aF (aD rfl bE) (bG rfl rfl (rfl) bV hB11 rfl fun w28 hB29 hw30 => ?_)); have hE31 := hE10.step hw30 (fun y hy => .inl hy)
   try simp only [cR, Nat.reduceAdd] at hB29
   refine aC (aA (aE (aB (aF (eN (vs := [(0, _)]) dK rfl (cells := [_, _, _, _, _, _, _, _, _]) rfl) ?_)))); refine bL (vs := [_]) rfl dD rfl rfl rfl rfl fun b66 w33 hO34 hs35 hw36 => ?_; have hE40 := hE31.then hw36; have hB41 := hw36.blk0 hB29; have hO42 := (hO12.evo hw30 hap.symm.own1).evo0 hw36; refine aM (aC (aA (aO (aX (aN (bS (br1 ?_)))))))
   exact ⟨_, _, es_z hle2 (by omega), iI hO34 (pW 9 _) (Fr.nil _) ((Ge.new hE31 hs35) _ rfl) hE40 (fun b hb => by cases hb) (Nat.le_refl _), hE40, ⟨hB41, hO42, hR.ne⟩, rfl, rfl, (by show st.pos < st.pos + 2; omega), (hb1.asc (by omega) (by omega)).1, (by show 1 + st.pos ≤ st.pos + 2; omega)⟩
  refine aE (aB (aF (bD rfl rfl) ?_)); refine aM (aC (aA (bF rfl (fun hc67 => ?_) (fun hc67 => ?_))))
  ·refine aE (aB (aG (aF (aP rfl) (aF (aD rfl bE) (aF (aI rfl aZ (aJ hB11 rfl)) ?_))))); refine aF (bC rfl rfl (by omega) (by omega)) ?_; refine aF (aP rfl) (aF (aD rfl bE) (bG rfl rfl (rfl) bV hB11 rfl fun w43 hB44 hw45 => ?_)); have hE46 := hE10.step hw45 (fun y hy => .inl hy)
   try simp only [cR, Nat.reduceAdd] at hB44
   refine aC (aA (aE (aB (aF (eN (vs := [(0, _)]) dK rfl (cells := [_, _, _, _, _, _, _, _, _]) rfl) ?_)))); refine bL (vs := [_]) rfl dD rfl rfl rfl rfl fun b77 w48 hO49 hs50 hw51 => ?_; have hE55 := hE46.then hw51; have hB56 := hw51.blk0 hB44; have hO57 := (hO12.evo hw45 hap.symm.own1).evo0 hw51; refine aM (aC (aA (aO (aX (aN (bS (br1 ?_)))))))
   exact ⟨_, _, es_b hle2 (by omega), iI hO49 (pW 12 _) (Fr.nil _) ((Ge.new hE46 hs50) _ rfl) hE55 (fun b hb => by cases hb) (Nat.le_refl _), hE55, ⟨hB56, hO57, hR.ne⟩, rfl, rfl, (by show st.pos < st.pos + 2; omega), (hb1.asc (by omega) (by omega)).1, (by show 1 + st.pos ≤ st.pos + 2; omega)⟩
  refine aE (aB (aF (bD rfl rfl) ?_)); refine aM (aC (aA (bF rfl (fun hc78 => ?_) (fun hc78 => ?_))))
  ·refine aE (aB (aG (aF (aP rfl) (aF (aD rfl bE) (aF (aI rfl aZ (aJ hB11 rfl)) ?_))))); refine aF (bC rfl rfl (by omega) (by omega)) ?_; refine aF (aP rfl) (aF (aD rfl bE) (bG rfl rfl (rfl) bV hB11 rfl fun w58 hB59 hw60 => ?_)); have hE61 := hE10.step hw60 (fun y hy => .inl hy)
   try simp only [cR, Nat.reduceAdd] at hB59
   refine aC (aA (aE (aB (aF (eN (vs := [(0, _)]) dK rfl (cells := [_, _, _, _, _, _, _, _, _]) rfl) ?_)))); refine bL (vs := [_]) rfl dD rfl rfl rfl rfl fun b88 w63 hO64 hs65 hw66 => ?_; have hE70 := hE61.then hw66; have hB71 := hw66.blk0 hB59; have hO72 := (hO12.evo hw60 hap.symm.own1).evo0 hw66; refine aM (aC (aA (aO (aX (aN (bS (br1 ?_)))))))
   exact ⟨_, _, es_B hle2 (by omega), iI hO64 (pW 13 _) (Fr.nil _) ((Ge.new hE61 hs65) _ rfl) hE70 (fun b hb => by cases hb) (Nat.le_refl _), hE70, ⟨hB71, hO72, hR.ne⟩, rfl, rfl, (by show st.pos < st.pos + 2; omega), (hb1.asc (by omega) (by omega)).1, (by show 1 + st.pos ≤ st.pos + 2; omega)⟩
  refine aE (aB (aF (bD rfl rfl) ?_)); refine aM (aC (aA (bF rfl (fun hc89 => ?_) (fun hc89 => ?_))))
  ·refine aE (aB (aG ?_))
   refine aK (vs := [_]) EK rfl (BN ⟨hB11, hO12, hR.ne⟩ hs (by have := hb1.asc (by omega) (by omega); exact this.1) (hG.evo hE10 hgb)) rfl ?_
   rintro rv w73 ⟨l, st', hq, hK, hw74, hR2, ho, hnm, hp, hbd, hll⟩; have hV9 := hE10; refine aM (aC (aA (aO (aX (aN (bS (br1 ?_))))))); exact ⟨_, _, (es_Q hle2 (by omega)).trans hq, hK.older hV9.size, (hE10.step hw74 (fun y hy => .inl hy)), hR2, ho, hnm, by omega, hbd, hll⟩
  have hrest := es_rest hle2 (by omega) (by omega) (by omega) (by omega) (by omega); refine aE (aB (aG (aK (vs := [_]) qH rfl (qA (sb s (st.pos + 1)) hb9) rfl ?_))); rintro rv w76 ⟨hL, hw77⟩; obtain ⟨a1, c1, ob1, l1, rfl, hO1, hg1, hv1, hl1, hS1⟩ := hL.uni; have hE81 := hE10.then hw77; have hB82 := hw77.blk0 hB11; refine aG (aF (cN rfl rfl) ?_); refine aF (cN rfl rfl) ?_; refine aM (aM (aC (aA (aE (aB (aG (aC (aA (fW rfl (fun hc34 => ?_) (fun hc34 => ?_))))))))))
  ·obtain ⟨S1, hS1'⟩ := wM hc34; refine aE (aB (aG (aF (aP rfl) (aF (aD rfl bE) (aF (aI rfl aZ (aJ hB82 rfl)) ?_))))); refine aF (bC rfl rfl (by omega) (by omega)) ?_; refine aF (aP rfl) (aF (aD rfl bE) (bG rfl rfl (rfl) bV hB82 rfl fun w84 hB85 hw86 => ?_)); have hE87 := hE81.step hw86 (fun y hy => .inl hy)
   try simp only [cR, Nat.reduceAdd] at hB85
   refine aC (aA (aE (aB (aG ?_)))); refine aK (vs := [_]) iL rfl (nI (hO1.evo hw86 (Apart.fresh (Lt.blk hB11) hg1).symm.own1) hv1 (by omega) (hS1 S1 hS1')) rfl ?_; rintro rv w90 ⟨hT, hw91⟩; have hcall9 := hw91; have hV9 := hE87; obtain ⟨vs, bx, rfl, hOT, hFx⟩ := hT; obtain ⟨ra, rc, ka, kc, rfl⟩ := id hOT.nine; refine bL (vs := [_]) rfl dD rfl rfl rfl rfl fun b44 w96 hO97 hs98 hw99 => ?_; have hE105 := (hE87.then hw91).then hw99; have hB107 := hw99.blk0 (hw91.blk0 hB85); have hO108 := (((hO12.evo0 hw77).evo hw86 hap.symm.own1).evo0 hw91).evo0 hw99; refine aM (aC (aA (aO (aX (aN (bS (br1 ?_)))))))
   exact ⟨[kG S1], hY st (st.pos + 2), hrest.trans (by rw [hS1']; rfl), iI hO97 hOT (hFx.older hV9.size) ((Ge.new (Evo.refl ([]) w90) hs98) _ rfl) ((Evo.refl ([]) w90).then hw99) (fun b hb h => by cases h) (Nat.le_trans hV9.size hcall9.size), hE105, ⟨hB107, hO108, hR.ne⟩, rfl, rfl, (by show st.pos < st.pos + 2; omega), (hb1.asc (by omega) (LH hS1')).1, (by show 1 + st.pos ≤ st.pos + 2; omega)⟩
  refine aU (aW (aA (aE (aB (aG (aG ?_)))))); refine bT (vs := [_]) uJ rfl (yP ⟨hB82, (hO12.evo0 hw77), hR.ne⟩ (by omega) hlt) rfl ?_ ?_
  ·intro pv wp hpp; obtain ⟨hpe, rfl, hpw⟩ := hpp; exact And.intro rfl ⟨_, rfl, _, hrest.trans (by rw [iH hc34, hpe]), rfl, (hE81).step hpw (fun y hy => .inl hy)⟩
  rintro _ w110 ⟨n, j, hx, rfl, hw111, hR3⟩; have hE112 := hE81.step hw111 (fun y hy => .inl hy); obtain ⟨hbj, hij, hn1⟩ := BV hx hb h92; have hjl := hbj.le; refine aK (vs := [_, _]) nN rfl (CE (st := hY st j) ⟨hR3.blk, hR3.own, hR3.ne⟩ ((n : Nat) : Int) (by omega) (by omega)) rfl ?_; rintro rv w114 ⟨hT, hw115⟩; have hcall9 := hw115; have hV9 := hE112; obtain ⟨vs, bx, rfl, hOT, hFx⟩ := hT; obtain ⟨ra, rc, ka, kc, rfl⟩ := id hOT.nine; refine bL (vs := [_]) rfl dD rfl rfl rfl rfl fun b97 w120 hO121 hs122 hw123 => ?_; have hE129 := (hE112.then hw115).then hw123; have hB132 := hw123.blk0 (hw115.blk0 hR3.blk); have hO133 := (hR3.own.evo0 hw115).evo0 hw123; refine aM (aC (aA (aO (bS (br1 ?_)))))
  exact ⟨[lX st.now ((n : Nat) : Int)], hY st j, hrest.trans (by rw [iH hc34, hx]; rfl), iI hO121 hOT (hFx.older hV9.size) ((Ge.new (Evo.refl ([]) w114) hs122) _ rfl) ((Evo.refl ([]) w114).then hw123) (fun b hb h => by cases h) (Nat.le_trans hV9.size hcall9.size), hE129, ⟨hB132, hO133, hR3.ne⟩, rfl, rfl, hij, hbj, (by show 1 + st.pos ≤ j; omega)⟩
end Go.Proofs.YtljadkcojnlioaaGreatDoor
namespace Go.Proofs.YtljadkcojnlioaaGreatDoor
open Go.RowKit Go.W
theorem qU {s : ByteArray} : ∀ {f j : Nat}, j ≤ gV s f j
  | 0, j => Nat.le_refl _
  | f + 1, j => by
    rw [gV]
    split
    · exact Nat.le_trans (Nat.le_succ j) qU
    · exact Nat.le_refl _
theorem QK {s : ByteArray} {i : Nat} : ∀ {f j : Nat} {b m : Bool} {n : Int} {fl : Fl}, (iB s i f j b n m fl).err = 0 → ∃ k, j ≤ k ∧ k < s.size ∧ (sb s k = 58 ∨ sb s k = 41) ∧ (iB s i f j b n m fl).size = k + 1 - i ∧ (iB s i f j b n m fl).name = emp
  | 0, j, b, m, n, fl, h => absurd h (show ¬ (84 : Int) = 0 by omega)
  | f + 1, j, b, m, n, fl, h => by
    have step : ∀ {b' m' : Bool} {n' : Int} {fl' : Fl}, iB s i (f + 1) j b n m fl = iB s i f (j + 1) b' n' m' fl' → ∃ k, j ≤ k ∧ k < s.size ∧ (sb s k = 58 ∨ sb s k = 41) ∧ (iB s i (f + 1) j b n m fl).size = k + 1 - i ∧ (iB s i (f + 1) j b n m fl).name = emp := by
      intro b' m' n' fl' e
      rw [e] at h ⊢
      obtain ⟨k, h1, h2⟩ := QK h
      exact ⟨k, by omega, h2⟩
    have no : ∀ {fl' : Fl}, iB s i (f + 1) j b n m fl = ⟨0, emp, fl', false, false, 84⟩ → False := fun e => by rw [e] at h; exact absurd h (show ¬ (84 : Int) = 0 by omega)
    by_cases h0 : s.size ≤ j
    · exact (no (IJ h0)).elim
    · by_cases h1 : sb s j = 105
      · exact step (ps_i (by omega) h1)
      · by_cases h2 : sb s j = 109
        · exact step (ps_m (by omega) h2)
        · by_cases h3 : sb s j = 115
          · exact step (ps_s (by omega) h3)
          · by_cases h4 : sb s j = 85
            · exact step (ps_u (by omega) h4)
            · by_cases h5 : sb s j = 45
              · cases m with
                | true => exact (no (PU (by omega) h5)).elim
                | false => exact step (PV (by omega) h5)
              · by_cases h6 : sb s j = 58 ∨ sb s j = 41
                · have e := NF (i := i) (f := f) (b := b) (n := n) (m := m) (fl := fl) (show j < s.size by omega) h6
                  rw [e]
                  exact ⟨j, Nat.le_refl _, by omega, h6, rfl, rfl⟩
                · exact (no (PT (by omega) h1 h2 h3 h4 h5 h6)).elim
theorem KQ {s : ByteArray} {i h : Nat} {fl : Fl} (he : (kU s i h fl).err = 0) : ∃ k, i + h ≤ k ∧ isB s k 62 ∧ (kU s i h fl).size = k + 1 - i ∧ (kU s i h fl).name.size ≤ s.size := by
  have hge : i + h ≤ gV s s.size (i + h) := qU
  generalize e : gV s s.size (i + h) = j at hge
  by_cases hc : j = i + h ∨ ¬ isB s j 62
  · rw [lH e hc] at he
    exact absurd he (show ¬ (85 : Int) = 0 by omega)
  · rw [pA e hc]
    have hj : isB s j 62 := Classical.not_not.1 (fun h => hc (.inr h))
    refine ⟨j, hge, hj, rfl, ?_⟩
    show (s.extract (i + h) j).size ≤ _
    rw [fU (by have := hj.1; omega)]
    have := hj.1; omega
theorem rV {s : ByteArray} {i : Nat} {fl : Fl} (hb : Bd s i) (h40 : isB s i 40) (he : (eA s i fl).err = 0) : 1 ≤ (eA s i fl).size ∧ Bd s (i + (eA s i fl).size) ∧ (eA s i fl).name.size ≤ s.size := by
  have h1 := h40.asc (by decide) hb
  by_cases h : isB s i 40 ∧ isB s (i + 1) 63
  · by_cases ha : isB s (i + 2) 80 ∧ isB s (i + 3) 60
    · have e : eA s i fl = kU s i 4 fl := by unfold eA; rw [if_neg (fun h9 => h9 h), if_pos ha]
      rw [e] at he ⊢
      obtain ⟨k, h2, h3, h4, h5⟩ := KQ he
      have h6 : Bd s (k + 1) := h3.asc (by decide) (nU hb (by omega) h3.1 (by rw [h3.2]; decide))
      exact ⟨by omega, by rw [h4, show i + (k + 1 - i) = k + 1 by omega]; exact h6, h5⟩
    · by_cases hc : isB s (i + 2) 60
      · have e : eA s i fl = kU s i 3 fl := by unfold eA; rw [if_neg (fun h9 => h9 h), if_neg ha, if_pos hc]
        rw [e] at he ⊢
        obtain ⟨k, h2, h3, h4, h5⟩ := KQ he
        have h6 : Bd s (k + 1) := h3.asc (by decide) (nU hb (by omega) h3.1 (by rw [h3.2]; decide))
        exact ⟨by omega, by rw [h4, show i + (k + 1 - i) = k + 1 by omega]; exact h6, h5⟩
      · by_cases hd : isB s (i + 2) 58
        · have e : eA s i fl = ⟨3, emp, fl, false, false, 0⟩ := by unfold eA; rw [if_neg (fun h9 => h9 h), if_neg ha, if_neg hc, if_pos hd]
          rw [e]
          exact ⟨by show 1 ≤ 3; omega, hd.asc (by decide) (h.2.asc (by decide) h1), Nat.zero_le _⟩
        · have e : eA s i fl = iB s i s.size (i + 2) true 0 false fl := by unfold eA; rw [if_neg (fun h9 => h9 h), if_neg ha, if_neg hc, if_neg hd]
          rw [e] at he ⊢
          obtain ⟨k, h2, h3, h4, h5, h6⟩ := QK he
          have h7 : Bd s (k + 1) := ((nU hb (by omega) h3 (by omega)).asc h3 (by omega)).1
          exact ⟨by omega, by rw [h5, show i + (k + 1 - i) = k + 1 by omega]; exact h7, by rw [h6]; exact Nat.zero_le _⟩
  · have e : eA s i fl = ⟨1, emp, fl, true, false, 0⟩ := xT h
    rw [e]
    exact ⟨Nat.le_refl _, h1, Nat.zero_le _⟩
theorem pOpen_e {s : ByteArray} {i : Nat} {fl : Fl} : (eA s i fl).size ≤ s.size + 3 := by
  have hn : ∀ h, (kU s i h fl).size ≤ s.size + 3 := fun h => by
    by_cases hc : gV s s.size (i + h) = i + h ∨ ¬ isB s (gV s s.size (i + h)) 62
    · rw [lH rfl hc]; exact Nat.zero_le _
    · rw [pA rfl hc]
      have hj : isB s (gV s s.size (i + h)) 62 := Classical.not_not.1 (fun h => hc (.inr h))
      have := hj.1
      show gV s s.size (i + h) + 1 - i ≤ _
      omega
  have hs : ∀ {f j : Nat} {b m : Bool} {n : Int} {fl : Fl}, (iB s i f j b n m fl).size ≤ s.size + 3 := by
    intro f
    induction f with
    | zero => intro j b m n fl; exact Nat.zero_le _
    | succ f ih =>
      intro j b m n fl
      by_cases h0 : s.size ≤ j
      · rw [IJ h0]; exact Nat.zero_le _
      · by_cases h1 : sb s j = 105
        · rw [ps_i (by omega) h1]; exact ih
        · by_cases h2 : sb s j = 109
          · rw [ps_m (by omega) h2]; exact ih
          · by_cases h3 : sb s j = 115
            · rw [ps_s (by omega) h3]; exact ih
            · by_cases h4 : sb s j = 85
              · rw [ps_u (by omega) h4]; exact ih
              · by_cases h5 : sb s j = 45
                · cases m with
                  | true => rw [PU (by omega) h5]; exact Nat.zero_le _
                  | false => rw [PV (by omega) h5]; exact ih
                · by_cases h6 : sb s j = 58 ∨ sb s j = 41
                  · rw [NF (by omega) h6]; show j + 1 - i ≤ _; omega
                  · rw [PT (by omega) h1 h2 h3 h4 h5 h6]; exact Nat.zero_le _
  unfold eA
  split
  · show 1 ≤ _; omega
  · split
    · exact hn 4
    · split
      · exact hn 3
      · split
        · show 3 ≤ _; omega
        · exact hs
def NB (w : World) (o o' : Option Nat) : Prop := o' = o ∨ ∃ g, o' = some g ∧ w.heap.size ≤ g
structure Mv (s : ByteArray) (st st' : PS) : Prop where
  opn : st'.opn = st.opn
  le : st.pos ≤ st'.pos
  bd : Bd s st'.pos
  nm : st'.names.length ≤ 100
def JS (b : Nat) (s : ByteArray) (ex : PS → PX Rx) (st : PS) (ob : Option Nat) (w : World) (v : Value) (w' : World) : Prop :=
  ∃ x st', ex st = .ok (x, st') ∧ Evo (b :: ob.toList) w w' ∧ Mv s st st' ∧ ∃ a' c' ob' vs bs, v = .agg vs.toArray ∧ OT x w' vs bs ∧ Fr w bs ∧ RdAt w' b s st' a' c' ob' ∧ NB w ob ob'
def ExPan (b : Nat) {α : Type} (ex : PS → PX α) (st : PS) (ob : Option Nat) (w : World) (v : Value) (w' : World) : Prop := ∃ e, ex st = .error e ∧ v = flt e ∧ Evo (b :: ob.toList) w w'
def PcPost (b : Nat) (s : ByteArray) (pp : PS → PL) (st : PS) (ob : Option Nat) (w : World) (v : Value) (w' : World) : Prop :=
  ∃ l st', pp st = .ok (l, st') ∧ Evo (b :: ob.toList) w w' ∧ Mv s st st' ∧ st.pos < st'.pos ∧ l.length + st.pos ≤ st'.pos ∧
    ∃ a' c' ob' ka kc ko cs bs, v = .slice ka l.length kc ∧ OwnS w' 27 9 ka l.length kc cs ko ∧ OTs l w' cs bs ∧ Fr w (ko.toList ++ bs) ∧ RdAt w' b s st' a' c' ob' ∧ NB w ob ob'
def sQ (b : Nat) (s : ByteArray) (ex : PS → PX Rx) (m : Nat) : Prop := ∀ {w : World} {st : PS} {a : Option Addr} {c : Nat} {ob : Option Nat}, RdAt w b s st a c ob → st.opn = m → Bd s st.pos → st.names.length ≤ 100 → Glb w → Apart (some oI) ob →
  Calls Tryz.prog 36 #[.pointer (some ⟨b, 0, none⟩)] w (RetP (JS b s ex st ob w) (ExPan b ex st ob w))
theorem lV {w : World} {b : Nat} {o o1 : Option Nat} (h : NB w o o1) : ∀ y, y ∈ b :: o1.toList → y ∈ b :: o.toList ∨ w.heap.size ≤ y := fun y hy => by
  rcases List.mem_cons.1 hy with rfl | hy
  · exact .inl (List.mem_cons_self ..)
  · rcases h with rfl | ⟨g, rfl, hg⟩
    · exact .inl (List.mem_cons_of_mem _ hy)
    · rw [List.mem_singleton.1 hy]; exact .inr hg
theorem NB.older {w w1 : World} {o o1 o2 : Option Nat} (h : NB w o o1) (h2 : NB w1 o1 o2) (hw : w.heap.size ≤ w1.heap.size) : NB w o o2 := by
  rcases h2 with rfl | ⟨g, rfl, hg⟩
  · exact h
  · exact .inr ⟨g, rfl, Nat.le_trans hw hg⟩
theorem xO {b : Nat} {s : ByteArray} {pp : PS → PL} {st st' : PS} {a : Option Addr} {c : Nat} {ob : Option Nat} {w w' : World} {v : Value} {l : List Rx} (hR : RdAt w b s st a c ob) (h1 : pp st = .ok (l, st')) (hK : KOut w w' v l) (he : Evo [b] w w') (hR' : RdAt w' b s st' a c ob)
    (ho : st'.opn = st.opn) (hn : st'.names = st.names) (hn2 : st.names.length ≤ 100) (hp : st.pos < st'.pos) (hb : Bd s st'.pos) (hl : l.length + st.pos ≤ st'.pos) : PcPost b s pp st ob w v w' := by
  obtain ⟨ka, kc, ko, cs, bs, rfl, h2, h3, h4⟩ := hK
  exact ⟨l, st', h1, he.mono (fun q hq => by rw [List.mem_singleton.1 hq]; simp), ⟨ho, by omega, hb, by rw [hn]; exact hn2⟩, hp, hl, a, c, ob, ka, kc, ko, cs, bs, rfl, h2, h3, h4, hR', .inl rfl⟩
theorem QJ {b : Nat} {α : Type} {pp : PS → PX α} {st : PS} {ob : Option Nat} {w w' : World} {e : Int} (h : pp st = .error e) (he : Evo [b] w w') : ExPan b pp st ob w (flt e) w' := ⟨e, h, rfl, he.mono (fun q hq => by rw [List.mem_singleton.1 hq]; simp)⟩
end Go.Proofs.YtljadkcojnlioaaGreatDoor
