/- Splits: part 5 of 6 of what the law rests on. -/
import Derived.Test.YtidpigbinpaaeaaGreatYkD
set_option linter.unusedSectionVars false
set_option linter.unusedSimpArgs false
set_option linter.unusedVariables false
namespace Go.Proofs.YtidpigbinpaaeaaGreat
open Go.RowKit Go.W
attribute [local irreducible] Decidable.decide
theorem xO : cX Tryz.prog 152 := ⟨_, Tryz.func152, by kernel_rfl, by kernel_rfl⟩
theorem oG : cX Tryz.prog 158 := ⟨_, Tryz.func158, by kernel_rfl, by kernel_rfl⟩
theorem xM : cX Tryz.prog 160 := ⟨_, Tryz.func160, by kernel_rfl, by kernel_rfl⟩
theorem LS : cX Tryz.prog 161 := ⟨_, Tryz.func161, by kernel_rfl, by kernel_rfl⟩
theorem LR : cX Tryz.prog 162 := ⟨_, Tryz.func162, by kernel_rfl, by kernel_rfl⟩
theorem xL : cX Tryz.prog 163 := ⟨_, Tryz.func163, by kernel_rfl, by kernel_rfl⟩
def LetU (w w' : World) (v : Value) (o : Option (Int → Prop)) : Prop := ∃ a c ob l, v = .tuple #[.slice a l.length c, .bool o.isSome] ∧ OwnS w' 135 2 a l.length c (dC l) ob ∧ Ge w ob ∧ Vr l ∧ l.length ≤ 8 ∧ ∀ S, o = some S → ∀ c, InR c l ↔ S c
theorem LetOut.uni {w w' : World} {v : Value} {o : Option (Int → Prop)} (h : LetOut w w' v o) : LetU w w' v o := by
  rcases h with ⟨rfl, rfl⟩ | ⟨S, v', rfl, rfl, a, c, ob, l, rfl, h2, h3, h4, h5, h6⟩
  · exact ⟨none, 0, none, [], rfl, OwnS.nil _ _ _, Ge.nil _, (fun g hg => by cases hg), Nat.zero_le _, fun S h => by cases h⟩
  · exact ⟨a, c, ob, l, rfl, h2, h3, h4, h6, fun S' e => by cases e; exact h5⟩
theorem IB {α : Type} {o : Option α} (h : o.isSome = true) : ∃ x, o = some x := Option.isSome_iff_exists.1 h
theorem none_of {α : Type} {o : Option α} (h : (!o.isSome) = true) : o = none := by cases o with | none => rfl | some x => cases h
theorem BY {α : Type} {o : Option α} (h : o.isSome = false) : o = none := by cases o with | none => rfl | some x => cases h
theorem VY {s : ByteArray} {a b j : Nat} (h : 0 ≤ OI s a b j) : ∃ k, kO s a b s.size j = some k ∧ OI s a b j = (k : Int) - (j : Nat) ∧ j ≤ k ∧ k + 1 < s.size := by
  unfold OI at *
  cases hf : kO s a b s.size j with
  | none => rw [hf] at h; exact absurd h (show ¬ (0 : Int) ≤ -1 by omega)
  | some k =>
    obtain ⟨h1, h2, h3⟩ := (rY s a b s.size j (by omega)).1 k hf
    exact ⟨k, rfl, rfl, h1, h2.1⟩
theorem fnd_no {s : ByteArray} {a b j : Nat} (h : ¬ 0 ≤ OI s a b j) : kO s a b s.size j = none := by
  unfold OI at h
  cases hf : kO s a b s.size j with
  | none => rfl
  | some k =>
    rw [hf] at h
    obtain ⟨h1, h2, h3⟩ := (rY s a b s.size j (by omega)).1 k hf
    exact absurd (show (0 : Int) ≤ (k : Int) - j by omega) h
section
variable {s : ByteArray} {i k j m : Nat} {S : Int → Prop} {r q : Int} {e : Int}
theorem it_cut (h1 : isB s i 91 ∧ isB s (i + 1) 58) (h2 : kO s 58 93 s.size (i + 2) = some k) (h3 : i + 2 < k ∧ sb s (i + 2) = 94) (h4 : iR (s.extract (i + 3) k) = some S) : jS s i = .ok (yF S, k + 2) := by unfold jS; rw [if_pos h1, h2]; show (if _ then _ else _) = _; rw [if_pos h3, h4]
theorem it_cutN (h1 : isB s i 91 ∧ isB s (i + 1) 58) (h2 : kO s 58 93 s.size (i + 2) = some k) (h3 : i + 2 < k ∧ sb s (i + 2) = 94) (h4 : iR (s.extract (i + 3) k) = none) : jS s i = .error 81 := by unfold jS; rw [if_pos h1, h2]; show (if _ then _ else _) = _; rw [if_pos h3, h4]
theorem it_nam (h1 : isB s i 91 ∧ isB s (i + 1) 58) (h2 : kO s 58 93 s.size (i + 2) = some k) (h3 : ¬ (i + 2 < k ∧ sb s (i + 2) = 94)) (h4 : iR (s.extract (i + 2) k) = some S) : jS s i = .ok (S, k + 2) := by unfold jS; rw [if_pos h1, h2]; show (if _ then _ else _) = _; rw [if_neg h3, h4]
theorem it_namN (h1 : isB s i 91 ∧ isB s (i + 1) 58) (h2 : kO s 58 93 s.size (i + 2) = some k) (h3 : ¬ (i + 2 < k ∧ sb s (i + 2) = 94)) (h4 : iR (s.extract (i + 2) k) = none) : jS s i = .error 81 := by unfold jS; rw [if_pos h1, h2]; show (if _ then _ else _) = _; rw [if_neg h3, h4]
theorem VU (h : (isB s i 91 ∧ isB s (i + 1) 58) → kO s 58 93 s.size (i + 2) = none) : jS s i = lE s i := by
  unfold jS
  by_cases h1 : isB s i 91 ∧ isB s (i + 1) 58
  · rw [if_pos h1, h h1]
  · rw [if_neg h1]
theorem it_let (h1 : i + 1 < s.size ∧ sb s i = 92) (h2 : zY (sb s (i + 1)) = some S) : lE s i = .ok (S, i + 2) := by unfold lE; rw [if_pos h1, h2]
theorem TD (h : (i + 1 < s.size ∧ sb s i = 92) → zY (sb s (i + 1)) = none) : lE s i = iK s i := by
  unfold lE
  by_cases h1 : i + 1 < s.size ∧ sb s i = 92
  · rw [if_pos h1, h h1]
  · rw [if_neg h1]
theorem rg_err (h : mO s i = .error e) : iK s i = .error e := by unfold iK; rw [h]
theorem rg_one (h : mO s i = .ok (r, j)) (h2 : ¬ (isB s j 45 ∧ j + 1 < s.size ∧ sb s (j + 1) ≠ 93)) : iK s i = .ok (rgS r r, j) := by unfold iK; rw [h]; show (if _ then _ else _) = _; rw [if_neg h2]
theorem rg_err2 (h : mO s i = .ok (r, j)) (h2 : isB s j 45 ∧ j + 1 < s.size ∧ sb s (j + 1) ≠ 93) (h3 : mO s (j + 1) = .error e) : iK s i = .error e := by unfold iK; rw [h]; show (if _ then _ else _) = _; rw [if_pos h2, h3]
theorem rg_bad (h : mO s i = .ok (r, j)) (h2 : isB s j 45 ∧ j + 1 < s.size ∧ sb s (j + 1) ≠ 93) (h3 : mO s (j + 1) = .ok (q, m)) (h4 : q < r) : iK s i = .error 81 := by unfold iK; rw [h]; show (if _ then _ else _) = _; rw [if_pos h2, h3]; show (if _ then _ else _) = _; rw [if_pos h4]
theorem rg_two (h : mO s i = .ok (r, j)) (h2 : isB s j 45 ∧ j + 1 < s.size ∧ sb s (j + 1) ≠ 93) (h3 : mO s (j + 1) = .ok (q, m)) (h4 : ¬ q < r) : iK s i = .ok (rgS r q, m) := by unfold iK; rw [h]; show (if _ then _ else _) = _; rw [if_pos h2, h3]; show (if _ then _ else _) = _; rw [if_neg h4]
end
theorem next_mid {s : ByteArray} {a : Nat} (h : 0 < (bQ s a).2) {t : Nat} (h1 : 1 ≤ t) (h2 : t < (bQ s a).2) : 128 ≤ sb s (a + t) := by
  have ha : a < s.size := by
    rcases Nat.lt_or_ge a s.size with h3 | h3
    · exact h3
    · rw [tP h3] at h; cases h
  rcases fR s a ha with ⟨w, hw1, hw4, hws, hit, -⟩ | ⟨hn, -⟩
  · obtain ⟨e, -⟩ := tQ hw1 hw4 hws hit
    rw [e] at h2
    replace h2 : t < w := h2
    match w, hw1, hw4, hit, h2 with
    | 1, _, _, _, h2 => omega
    | 2, _, _, hit, h2 =>
      have := (hit2 s a).1 hit
      obtain rfl : t = 1 := by omega
      omega
    | 3, _, _, hit, h2 =>
      have := (hit3 s a).1 hit
      obtain rfl | rfl : t = 1 ∨ t = 2 := by omega
      · omega
      · omega
    | 4, _, _, hit, h2 =>
      have := (hit4 s a).1 hit
      obtain rfl | rfl | rfl : t = 1 ∨ t = 2 ∨ t = 3 := by omega
      · omega
      · omega
      · omega
  · rw [uQ hn] at h; cases h
theorem oQ {s : ByteArray} {i k : Nat} (hb : Bd s i) (hik : i ≤ k) (hk : k < s.size) (ha : sb s k < 128) : Bd s k := by
  obtain ⟨N, -, hU, -, -⟩ := hb
  have key : ∀ m, m ≤ N → k < dJ s m → ∃ n, n < N ∧ dJ s n ≤ k ∧ k < dJ s (n + 1) := by
    intro m
    induction m with
    | zero => intro _ h; exact absurd h (Nat.not_lt_zero _)
    | succ m ih =>
      intro hm h
      by_cases h1 : k < dJ s m
      · exact ih (by omega) h1
      · exact ⟨m, hm, by omega, h⟩
  obtain ⟨n, h1, h2, h3⟩ := key N (Nat.le_refl _) (by rw [hU.1]; exact hk)
  rcases Nat.eq_or_lt_of_le h2 with e | e
  · exact ⟨N, n, hU, by omega, e⟩
  · have h4 := next_mid (hU.2 n h1) (t := k - dJ s n) (by omega) (by rw [dJ] at h3; omega)
    rw [show dJ s n + (k - dJ s n) = k by omega] at h4
    omega
theorem rg_in (r q x : Int) : InR x [(r, q)] ↔ rgS r q x := by rw [lW]; exact Iff.rfl
theorem AJ {s : ByteArray} {i j : Nat} {S : Int → Prop} (h : jS s i = .ok (S, j)) (hb : Bd s i) (hi : i < s.size) : Bd s j ∧ i < j := by
  have hrange : iK s i = .ok (S, j) → Bd s j ∧ i < j := fun h => by
    unfold iK at h
    cases h1 : mO s i with
    | error e => rw [h1] at h; cases h
    | ok x =>
      obtain ⟨lo, k⟩ := x
      obtain ⟨h2, h3, -⟩ := yA h1 hb hi
      rw [h1] at h
      replace h : (if isB s k 45 ∧ k + 1 < s.size ∧ sb s (k + 1) ≠ 93 then (match mO s (k + 1) with | .error e => .error e | .ok (hi, k) => if hi < lo then .error 81 else .ok (rgS lo hi, k)) else .ok (rgS lo lo, k) : PR) = .ok (S, j) := h
      split at h
      · rename_i h4
        have h5 := h4.1.asc (by decide) h2
        cases h6 : mO s (k + 1) with
        | error e => rw [h6] at h; cases h
        | ok y =>
          obtain ⟨hi2, m⟩ := y
          obtain ⟨h7, h8, -⟩ := yA h6 h5 h4.2.1
          rw [h6] at h
          replace h : (if hi2 < lo then .error 81 else .ok (rgS lo hi2, m) : PR) = .ok (S, j) := h
          split at h
          · cases h
          · cases h; exact ⟨h7, by omega⟩
      · cases h; exact ⟨h2, h3⟩
  have hrest : lE s i = .ok (S, j) → Bd s j ∧ i < j := fun h => by
    unfold lE at h
    split at h
    · rename_i h1
      cases h2 : zY (sb s (i + 1)) with
      | none => rw [h2] at h; exact hrange h
      | some S' =>
        rw [h2] at h
        cases h
        have h3 := (hb.asc hi (by omega)).1
        refine ⟨(h3.asc h1.1 ?_).1, by omega⟩
        rcases Nat.lt_or_ge (sb s (i + 1)) 128 with h4 | h4
        · exact h4
        · rw [yI (by omega)] at h2; cases h2
    · exact hrange h
  unfold jS at h
  split at h
  · rename_i h1
    cases h2 : kO s 58 93 s.size (i + 2) with
    | none => rw [h2] at h; exact hrest h
    | some k =>
      rw [h2] at h
      obtain ⟨h3, h4, -⟩ := (rY s 58 93 s.size (i + 2) (by omega)).1 k h2
      have hk : ∃ S', (.ok (S', k + 2) : PR) = .ok (S, j) := by
        replace h : (if i + 2 < k ∧ sb s (i + 2) = 94 then (match iR (s.extract (i + 3) k) with | none => .error 81 | some S => .ok (yF S, k + 2)) else (match iR (s.extract (i + 2) k) with | none => .error 81 | some S => .ok (S, k + 2)) : PR) = .ok (S, j) := h
        split at h
        · split at h
          · cases h
          · exact ⟨_, h⟩
        · split at h
          · cases h
          · exact ⟨_, h⟩
      obtain ⟨S', h5⟩ := hk
      cases h5
      have h6 : Bd s k := oQ hb (by omega) (by have := h4.1; omega) (by have := h4.2.1; omega)
      exact ⟨isB.asc (b := 93) ⟨h4.1, h4.2.2⟩ (by decide) (isB.asc (b := 58) ⟨by have := h4.1; omega, h4.2.1⟩ (by decide) h6), by omega⟩
  · exact hrest h
theorem cut_iff {s : ByteArray} {i k : Nat} (hk : k ≤ s.size) : (Pre (s.extract i k) (ByteArray.mk #[94]) ↔ i < k ∧ sb s i = 94) ∧ (i < k → (s.extract i k).extract (ByteArray.mk #[94]).size (s.extract i k).size = s.extract (i + 1) k) := by
  have hns := fL (s := s) (a := i) (b := k) hk
  constructor
  · rw [pre_self]
    constructor
    · rintro ⟨h1, h2⟩
      rw [hns] at h1
      rw [dO hk (by omega)] at h2
      exact ⟨by omega, h2⟩
    · rintro ⟨h1, h2⟩
      exact ⟨by rw [hns]; omega, by rw [dO hk (by omega)]; exact h2⟩
  · intro h1
    show (s.extract i k).extract 1 (s.extract i k).size = _
    apply DR
    · rw [fL (Nat.le_refl _), hns, fL hk]; omega
    · intro j hj
      rw [fL (Nat.le_refl _), hns] at hj
      rw [dO (Nat.le_refl _) (by rw [hns]; omega), dO hk (by omega), dO hk (by omega), Nat.add_assoc]
theorem VT {w : World} {b : Nat} {s : ByteArray} {st : PS} {a : Option Addr} {c : Nat} {ob : Option Nat} (hR : RdAt w b s st a c ob) (hs : s.size ≤ 1000000) (hlt : st.pos < s.size) (hb : Bd s st.pos) (hG : Glb w) :
    Calls Tryz.prog 148 #[.pointer (some ⟨b, 0, none⟩)] w (RetP (fun v w' => ∃ S j, jS s st.pos = .ok (S, j) ∧ EB w w' v S 16 ∧ Evo [b] w w' ∧ RdAt w' b s (iP st j) a c ob) (fun v w' => ∃ e, jS s st.pos = .error e ∧ v = flt e ∧ Evo [b] w w')) := by
  have hap := hR.ap; have hgb : pM ∉ [b] := fun h => hR.glb hG (List.mem_singleton.1 h).symm
  have hle : st.pos ≤ s.size := by omega
  have hrs := fL (s := s) (a := st.pos) (Nat.le_refl s.size); have e0 : sb (s.extract st.pos s.size) 0 = sb s st.pos := mY (by omega); refine aT (N := 126) Tryz.func148 rfl rfl rfl ?_; refine csr (wan (aI ?_)); refine eP (by kernel_rfl) (by kernel_rfl) ?_; refine bJ (fun _ E => aY rfl) ?_; refine bJ (fun _ E => aG rfl) ?_; refine bJ (fun _ E => aD rfl cS) ?_; refine bJ (fun _ E => aQ rfl cZ (aV (E.blk0 hR.blk) rfl)) ?_; refine bJ (fun _ E => aY rfl) ?_; refine bJ (fun _ E => aG rfl) ?_; refine bJ (fun _ E => aD rfl bB) ?_; refine bJ (fun _ E => aQ rfl aX (aV (E.blk0 hR.blk) rfl)) ?_; refine bJ (fun _ E => jU (l := st.pos) rfl rfl Tryz.underlying9 rfl hle) ?_; refine bJ (fun _ E => dU rfl) ?_; refine eV (fun f7 E => aA ?_); have d4 := (Evo.refl [b] w).then E; refine aI (mB (α := Unit) (fun x => []) [(0, _), (3, _)] (fun x wr => Evo [] f7 wr ∧ (jS s st.pos = lE s st.pos)) ⟨rfl, rfl, trivial⟩ ?_ ?_)
  ·refine csr (aB ?_); refine aJ (vs := [_, _]) oG rfl (AM (s.extract st.pos s.size) (ByteArray.mk #[91, 58]) (by omega) (show 2 ≤ 140737488355328 by omega)) rfl ?_; rintro _ w6 ⟨rfl, a4⟩; have f8 := (Evo.refl [] f7).then a4; refine wnn (bA rfl (fun a5 => ?_) (fun a5 => ?_))
   ·have hh2 := (pre2 hle).1 a5; refine csr (aB ?_)
    refine aC (JI (l := 2) rfl rfl Tryz.underlying9 rfl (by have := hh2.2.1; omega) (ext_from hle)) ?_
    refine aJ (vs := [_, _]) xM rfl (VV s 58 93 (st.pos + 2) (by have := hh2.2.1; omega) hs (hG.evo (d4.then a4) hgb)) rfl ?_
    rintro _ i2 ⟨rfl, O⟩; have g1 := f8.then O; refine wan (csr (aB (aC (dV rfl rfl) ?_))); refine wnn (bA rfl (fun a6 => ?_) (fun a6 => ?_))
    ·obtain ⟨k, hk, hfk, hk2, hk3⟩ := VY a6; rw [hfk]
     have e33 : (s.extract st.pos s.size).extract 2 (k - st.pos) = s.extract (st.pos + 2) k := by rw [CV (by omega) (by omega), show st.pos + (k - st.pos) = k by omega]
     have hns := fL (s := s) (a := st.pos + 2) (b := k) (by omega); have hcut := cut_iff (s := s) (i := st.pos + 2) (k := k) (by omega); refine csr (aB (aB ?_)); refine aC (aK rfl rfl (by omega) (by omega)) ?_; refine aC (tV (l := 2) (h := k - st.pos) rfl rfl rfl Tryz.underlying9 rfl (by omega) (by omega) (by omega) e33) ?_; refine aJ (vs := [_, _]) LS rfl (cut_ok (s.extract (st.pos + 2) k) (ByteArray.mk #[94]) (by omega) (show 1 ≤ 140737488355328 by omega)) rfl ?_; rintro _ i3 ⟨rfl, a7⟩; have d5 := ((d4.then a4).then O).then a7; have a8 := a7.blk0 (O.blk0 (a4.blk0 (E.blk0 hR.blk)))
     generalize hnm : (if Pre (s.extract (st.pos + 2) k) (ByteArray.mk #[94]) then (s.extract (st.pos + 2) k).extract (ByteArray.mk #[94]).size (s.extract (st.pos + 2) k).size else s.extract (st.pos + 2) k) = nm
     refine aB (aC (bK rfl rfl) ?_); refine aC (bK rfl rfl) ?_; refine bR (wan (csr (aB (aJ (vs := [_]) LR rfl (named_ok nm) rfl ?_)))); rintro rv i4 ⟨hL, U⟩; obtain ⟨a1, c1, ob1, l1, rfl, I, hg1, hv1, hl1, c7⟩ := hL.uni; have d6 := d5.then U; refine aB (aC (bK rfl rfl) ?_); refine aC (bK rfl rfl) ?_; refine bR (wan (aI (csr (aB (aC (fP rfl) ?_))))); refine wnn (dW rfl (fun a9 => ?_) (fun a9 => ?_))
     ·refine aF (cE (vs := [_]) cO rfl (eG 81) rfl ?_ ?_)
      ·intro pv wp hpp; obtain ⟨rfl, hpw⟩ := hpp; have hno := none_of a9; refine And.intro rfl ⟨_, rfl, _, ?_, rfl, (d6).then hpw⟩
       by_cases hP : Pre (s.extract (st.pos + 2) k) (ByteArray.mk #[94])
       · have h9 := hcut.1.1 hP; rw [if_pos hP, hcut.2 h9.1] at hnm; subst hnm; exact it_cutN hh2 hk h9 hno
       · rw [if_neg hP] at hnm; subst hnm; exact it_namN hh2 hk (fun h => hP (hcut.1.2 h)) hno
      intro _ _ hF; exact hF.elim
     obtain ⟨S1, hS1'⟩ := IB (by simpa using a9); refine aL (aA (csr (aB (aC (aG rfl) (wfl rfl bB rfl aX (U.blk0 a8) rfl (aB ?_)))))); refine aC (aK rfl rfl (by omega) (by omega)) ?_; refine aC (JN (r := ((k + 2 : Nat) : Int)) rfl rfl (by omega) (by omega) (by omega)) ?_; refine aC (aG rfl) (aC (aD rfl bB) ?_); refine bE rfl rfl (by first | rfl | assumption) bZ (U.blk0 a8) rfl fun i5 b4 b5 => ?_
     have b6 := d6.step b5 (by intro y hy; left; simpa using hy)
     have d7 := (((((hR.own.evo0 E).evo0 a4).evo0 O).evo0 a7).evo0 U).evo b5 hap.symm.own1; have d8 := I.evo b5 (Apart.fresh (Lt.blk a8) hg1).symm.own1
     try simp only [cG, Nat.reduceAdd] at b4
     refine wnn (aI (csr (aB (wnn (bA rfl (fun J => ?_) (fun J => ?_))))))
     ·refine aF (aB ?_); refine aJ (vs := [_]) kB rfl (mQ d8 hv1 (by omega) (c7 S1 hS1')) rfl ?_; rintro rv i6 f9; have b7 := f9.evo; refine wan (csr (aB (wan (aH (aE (aE (cH (br1 ?_)))))))); have h9 := hcut.1.1 J; rw [if_pos J, hcut.2 h9.1] at hnm; subst hnm; exact ⟨_, _, it_cut hh2 hk h9 hS1', uN (f9.set b6) (by omega), (b6.then b7), ⟨(b7.blk0 b4), (d7.evo0 b7), hR.ne⟩⟩
     refine aL (aA (csr (aB (wan (aH (aE (aE (cH (br1 ?_))))))))); rw [if_neg J] at hnm; subst hnm; exact ⟨_, _, it_nam hh2 hk (fun h => J (hcut.1.2 h)) hS1', ⟨_, _, _, _, rfl, d8, (Ge.fresh d5 hg1), hv1, c7 S1 hS1', by omega⟩, b6, ⟨b4, d7, hR.ne⟩⟩
    refine aL (aW ?_); refine ⟨(), trivial, ⟨rfl, rfl, trivial⟩, g1, ?_⟩; exact VU (fun _ => fnd_no a6)
   refine aL (aW ?_); refine ⟨(), trivial, ⟨rfl, rfl, trivial⟩, f8, ?_⟩; exact VU (fun h => (a5 ((pre2 hle).2 h)).elim)
  rintro x c8 ⟨b8, hIR⟩; refine aA ?_; show CW _ _ _ _ [(0, _), (3, _)] _; have b9 := d4.then b8; have V := b8.blk0 (E.blk0 hR.blk); have d9 := (hR.own.evo0 E).evo0 b8; refine aI (mB (α := Unit) (fun x => []) [(0, _), (3, _)] (fun x wr => Evo [] c8 wr ∧ (lE s st.pos = iK s st.pos)) ⟨rfl, rfl, trivial⟩ ?_ ?_)
  ·refine csr (aB (aC (cD rfl Tryz.underlying9 rfl) ?_)); refine aC (gF rfl rfl) ?_; refine aB (bF (t := 61) rfl (fun g2 => ?_) (fun g2 => ?_))
   ·have e1 : sb (s.extract st.pos s.size) 1 = sb s (st.pos + 1) := mY (by omega); refine aS (aB (aS ?_)); refine aC (jD (n := 0) rfl rfl Tryz.underlying9 rfl (by omega) e0) ?_; refine aS (wel ?_); refine bW (wnn (bA rfl (fun g3 => ?_) (fun g3 => ?_)))
    ·refine csr (aB ?_); refine aC (jD (n := 1) rfl rfl Tryz.underlying9 rfl (by omega) e1) ?_; refine aJ (vs := [_]) xO rfl (wI (sb s (st.pos + 1)) (jN s _)) rfl ?_; rintro rv i7 ⟨hL, L⟩; obtain ⟨a1, c1, ob1, l1, rfl, I, hg1, hv1, hl1, c7⟩ := hL.uni; refine aB (aC (bK rfl rfl) ?_); refine aC (bK rfl rfl) ?_; refine bR (wan (csr (aB (wnn (dW rfl (fun c0 => ?_) (fun c0 => ?_))))))
     ·obtain ⟨S1, hS1'⟩ := IB c0; refine csr (aB (aC (aG rfl) (wfl rfl bB rfl aX (L.blk0 V) rfl ?_))); refine aC (aK rfl rfl (by omega) (by omega)) ?_; refine aC (aG rfl) (aC (aD rfl bB) ?_); refine bE rfl rfl (by first | rfl | assumption) bZ (L.blk0 V) rfl fun i8 e2 c2 => ?_
      have g4 := (b9.then L).step c2 (by intro y hy; left; simpa using hy)
      try simp only [cG, Nat.reduceAdd] at e2
      refine wnn (csr (aB (wan (aH (aE (aE (cH (br1 ?_)))))))); exact ⟨_, _, (hIR).trans (it_let ⟨by omega, by omega⟩ hS1'), ⟨_, _, _, _, rfl, (I.evo c2 (Apart.fresh (Lt.blk V) hg1).symm.own1), (Ge.fresh b9 hg1), hv1, c7 S1 hS1', by omega⟩, g4, ⟨e2, ((d9.evo0 L).evo c2 hap.symm.own1), hR.ne⟩⟩
     refine aL (aW ?_); refine ⟨(), trivial, ⟨rfl, rfl, trivial⟩, ((Evo.refl [] c8).then L), ?_⟩; exact TD (fun _ => BY c0)
    refine aL (aW ?_); refine ⟨(), trivial, ⟨rfl, rfl, trivial⟩, (Evo.refl [] c8), ?_⟩; exact TD (fun h => by omega)
   refine aN (aN (aN (bM (wnn (cM rfl ?_))))); refine aL (aW ?_); refine ⟨(), trivial, ⟨rfl, rfl, trivial⟩, (Evo.refl [] c8), ?_⟩; exact TD (fun h => by omega)
  rintro x i9 ⟨c3, hRG⟩; refine aA ?_; show CW _ _ _ _ [(0, _), (3, _)] _; have e3 := b9.then c3; refine csr (aB (cE (vs := [_]) xL rfl (FM ⟨(c3.blk0 V), (d9.evo0 c3), hR.ne⟩ hs hlt hb) rfl ?_ ?_))
  ·intro pv wp hpp; obtain ⟨hpe, rfl, hpw⟩ := hpp; exact And.intro rfl ⟨_, rfl, _, (hIR).trans ((hRG).trans (rg_err hpe)), rfl, (e3).step hpw (fun y hy => .inl hy)⟩
  rintro _ j0 ⟨lo, j, hx, rfl, g5, M⟩; obtain ⟨hbj, hij, hlo0, hlo1⟩ := yA hx hb hlt; have hpj : (iP st j).pos = j := rfl; have hbjl := hbj.le; have hrs2 := fL (s := s) (a := j) (Nat.le_refl s.size); refine wan (aI ?_); refine eP (by kernel_rfl) (by kernel_rfl) ?_; refine bJ (fun _ A => aY rfl) ?_; refine bJ (fun _ A => aG rfl) ?_; refine bJ (fun _ A => aD rfl cS) ?_; refine bJ (fun _ A => aQ rfl cZ (aV (A.blk0 M.blk) rfl)) ?_; refine bJ (fun _ A => aY rfl) ?_; refine bJ (fun _ A => aG rfl) ?_; refine bJ (fun _ A => aD rfl bB) ?_; refine bJ (fun _ A => aQ rfl aX (aV (A.blk0 M.blk) rfl)) ?_; refine bJ (fun _ A => jU (l := j) rfl rfl Tryz.underlying9 rfl hbj.le) ?_; refine bJ (fun _ A => dU rfl) ?_; refine eV (fun g6 A => aA ?_); have c4 := (e3.step g5 (fun y hy => .inl hy)).then A; have c5 := A.blk0 M.blk; refine aI (aI (mB (α := Bool) (fun z104 => [(104, .bool z104)]) [(0, _), (11, _)] (fun z104 wr => g6 = wr ∧ (z104 = true ↔ (s.size < j + 2 ∨ sb s j ≠ 45 ∨ sb s (j + 1) = 93))) ⟨rfl, rfl, trivial⟩ ?_ ?_))
  ·refine aF (aB (aC (cD rfl Tryz.underlying9 rfl) ?_)); refine aC (cP rfl rfl) ?_; refine aB (bF (t := 95) rfl (fun g7 => ?_) (fun g7 => ?_))
   ·refine aN (aN (aN (bW (aB (aN (aN (aN (bW (aP (aW ?_)))))))))); refine ⟨_, ⟨rfl, trivial⟩, ⟨rfl, rfl, trivial⟩, rfl, ?_⟩
    simp only [decide_eq_true_eq, Bool.false_eq_true, Bool.true_eq_false, true_iff, false_iff, eq_self, iff_true]; omega
   have f0 : sb (s.extract j s.size) 0 = sb s j := mY (by omega); have f1 : sb (s.extract j s.size) 1 = sb s (j + 1) := mY (by omega); refine aS (aB (aS ?_)); refine aC (jD (n := 0) rfl rfl Tryz.underlying9 rfl (by omega) f0) ?_; refine aS (aC (fJ rfl rfl) ?_); refine bM (aB (bF (t := 100) rfl (fun e4 => ?_) (fun e4 => ?_)))
   ·refine aN (aN (aN (bW (aP (aW ?_))))); refine ⟨_, ⟨rfl, trivial⟩, ⟨rfl, rfl, trivial⟩, rfl, ?_⟩
    simp only [decide_eq_true_eq, Bool.false_eq_true, Bool.true_eq_false, true_iff, false_iff, eq_self, iff_true]; omega
   refine aS (aB (aS ?_)); refine aC (jD (n := 1) rfl rfl Tryz.underlying9 rfl (by omega) f1) ?_; refine aS (wel ?_); refine bM (aP (aW ?_)); refine ⟨_, ⟨rfl, trivial⟩, ⟨rfl, rfl, trivial⟩, rfl, ?_⟩
   simp only [decide_eq_true_eq, Bool.false_eq_true, Bool.true_eq_false, true_iff, false_iff, eq_self, iff_true]; omega
  rintro z104 _ ⟨rfl, hz104⟩; refine aA ?_; show CW _ _ _ _ [(104, _), (0, _), (11, _)] _; refine dW rfl (fun W => ?_) (fun W => ?_)
  ·subst W; have hj104 := hz104.1 rfl; refine csr (aB (aB (bL (vs := [_, _]) rfl cQ rfl rfl rfl rfl fun j1 j2 g8 h0 a0 => ?_))); refine aJ (vs := [_]) cW rfl (fU (es := [lo, lo]) g8 (by simp)) rfl ?_; rintro _ j3 ⟨a1, c1, ob1, rfl, I, hg1, c6⟩; have e5 := Ge.fresh (c4.then a0) hg1; have e6 := (c4.then a0).then c6; have e7 := c6.blk0 (a0.blk0 c5); have e8 := ((M.own.evo0 A).evo0 a0).evo0 c6; refine wan (aH (aE (cH (br1 ?_))))
   exact ⟨_, _, (hIR).trans ((hRG).trans (rg_one hx (by rintro ⟨⟨h1, h2⟩, h3, h4⟩; omega))), ⟨_, _, _, [(lo, lo)], rfl, I, e5, (fun g hg => by rw [List.mem_singleton.1 hg]; exact ⟨hlo0, Int.le_refl _, hlo1⟩), rg_in lo lo, by simp⟩, e6, ⟨e7, e8, hR.ne⟩⟩
  subst W
  have hj104 : ¬ (s.size < j + 2 ∨ sb s j ≠ 45 ∨ sb s (j + 1) = 93) := fun h9 => by have := hz104.2 h9; cases this
  have hdash : isB s j 45 ∧ j + 1 < s.size ∧ sb s (j + 1) ≠ 93 := ⟨⟨by omega, by omega⟩, by omega, by omega⟩; have hbj1 := hdash.1.asc (by decide) hbj; refine aL (aA (csr (aB (aC (aG rfl) (wfl rfl bB rfl aX c5 rfl ?_))))); refine aC (aK rfl rfl (by omega) (by omega)) ?_; refine aC (aG rfl) (aC (aD rfl bB) ?_); refine bE rfl rfl (by first | rfl | assumption) bZ c5 rfl fun h5 c9 d0 => ?_
  have d3 := c4.step d0 (by intro y hy; left; simpa using hy)
  try simp only [cG, Nat.reduceAdd] at c9
  refine wnn (csr (aB (cE (vs := [_]) xL rfl (FM (st := iP st (j + 1)) ⟨c9, ((M.own.evo0 A).evo d0 M.ap.symm.own1), hR.ne⟩ hs hdash.2.1 hbj1) rfl ?_ ?_)))
  ·intro pv wp hpp; obtain ⟨hpe, rfl, hpw⟩ := hpp; exact And.intro rfl ⟨_, rfl, _, (hIR).trans ((hRG).trans (rg_err2 hx hdash hpe)), rfl, (d3).step hpw (fun y hy => .inl hy)⟩
  rintro _ h6 ⟨hi, m, hx2, rfl, e9, g0⟩; have a2 := d3.step e9 (fun y hy => .inl hy); obtain ⟨hbm, hjm, hhi0, hhi1⟩ := yA hx2 hbj1 hdash.2.1; refine wan (aI (csr (aB (aB (aC (cP rfl rfl) ?_))))); refine wnn (bA rfl (fun f5 => ?_) (fun f5 => ?_))
  ·refine aF (cE (vs := [_]) cO rfl (eG 81) rfl ?_ ?_)
   ·intro pv wp hpp; obtain ⟨rfl, hpw⟩ := hpp; exact And.intro rfl ⟨_, rfl, _, (hIR).trans ((hRG).trans (rg_bad hx hdash hx2 (by omega))), rfl, (a2).then hpw⟩
   intro _ _ hF; exact hF.elim
  refine aL (aA (csr (aB (aB (bL (vs := [_, _]) rfl cQ rfl rfl rfl rfl fun h7 h8 f6 g9 H => ?_))))); refine aJ (vs := [_]) cW rfl (fU (es := [lo, hi]) f6 (by simp)) rfl ?_; rintro _ i1 ⟨a1, c1, ob1, rfl, I, hg1, a3⟩; refine wan (aH (cH (br1 ?_)))
  exact ⟨_, _, (hIR).trans ((hRG).trans (rg_two hx hdash hx2 (by omega))), ⟨_, _, _, [(lo, hi)], rfl, I, (Ge.fresh (a2.then H) hg1), (fun g hg => by rw [List.mem_singleton.1 hg]; exact ⟨hlo0, by omega, hhi1⟩), rg_in lo hi, by simp⟩, ((a2.then H).then a3), ⟨(a3.blk0 (H.blk0 g0.blk)), ((g0.own.evo0 H).evo0 a3), hR.ne⟩⟩
theorem xQ : cX Tryz.prog 148 := ⟨_, Tryz.func148, by kernel_rfl, by kernel_rfl⟩
theorem kL {w : World} {o p : Option Nat} (h : Lt w o) (hp : Ge w p) : Apart o p := fun g h1 h2 => by have := h g h1; have := hp g h2; omega
section
variable {s : ByteArray} {f i j : Nat} {fst : Bool} {S T : Int → Prop} {e : Int} {fl : Fl}
theorem its_end (h : s.size ≤ i) : gE s (f + 1) fst S i = .error 81 := by rw [gE, if_pos h]
theorem its_stop (h : i < s.size) (h2 : sb s i = 93) : gE s (f + 1) false S i = .ok (S, i + 1) := by rw [gE, if_neg (by omega), if_pos ⟨rfl, h2⟩]
theorem VS (h : i < s.size) (h2 : ¬ (fst = false ∧ sb s i = 93)) (h3 : jS s i = .error e) : gE s (f + 1) fst S i = .error e := by rw [gE, if_neg (by omega), if_neg h2, h3]
theorem its_go (h : i < s.size) (h2 : ¬ (fst = false ∧ sb s i = 93)) (h3 : jS s i = .ok (T, j)) : gE s (f + 1) fst S i = gE s f false (unS S T) j := by rw [gE, if_neg (by omega), if_neg h2, h3]
theorem AR (h : gE s (s.size + 1) true (fun _ => False) (if isB s i 94 then i + 1 else i) = .error e) : lT s fl i = .error e := by unfold lT; rw [h]
theorem DG (h : gE s (s.size + 1) true (fun _ => False) (if isB s i 94 then i + 1 else i) = .ok (S, j)) :
    lT s fl i = .ok (kQ (if isB s i 94 then yF (if fl.fold = true then pW S else S) else if fl.fold = true then pW S else S), j) := by unfold lT; rw [h]
end
structure ClG where
  f : Nat
  i : Nat
  n : Nat
  fst : Bool
  S : Int → Prop
  l : List (Int × Int)
  sa : Option Addr
  sc : Nat
  so : Option Nat
structure ClI (w wr : World) (b : Nat) (s : ByteArray) (st : PS) (a : Option Addr) (c : Nat) (ob : Option Nat) (b2 i0 : Nat) (x : ClG) : Prop where
  hr : RdAt wr b s (iP st x.i) a c ob
  bd : Bd s x.i
  eq : gE s (s.size + 1) true (fun _ => False) i0 = gE s x.f x.fst x.S x.i
  hf : s.size + 1 ≤ x.f + x.i
  own : OwnS wr 135 2 x.sa x.n x.sc (dC x.l) x.so
  ge : Ge w x.so
  vr : Vr x.l
  hS : ∀ c, InR c x.l ↔ x.S c
  len : x.n ≤ 16 * x.i
  hb2 : wr.heap[b2]? = some (.cells #[iv 0, .int .i32 0, .slice none 0 0, iv 0, iv 0, .bool false, iv 0, .string ByteArray.empty, .slice none 0 0] 71 (0, 0))
  g2 : Ge w (some b2)
  a2 : Apart (some b2) x.so
theorem un_in {l m : List (Int × Int)} {S T : Int → Prop} (h1 : ∀ c, InR c l ↔ S c) (h2 : ∀ c, InR c m ↔ T c) (c : Int) : InR c (l ++ m) ↔ unS S T c := by rw [oC, h1, h2]; exact Iff.rfl
theorem class_ok {w : World} {b : Nat} {s : ByteArray} {st : PS} {a : Option Addr} {c : Nat} {ob : Option Nat} (hR : RdAt w b s st a c ob) (hs : s.size ≤ 10000) (hb : Bd s st.pos) (hG : Glb w) :
    Calls Tryz.prog 128 #[.pointer (some ⟨b, 0, none⟩)] w (RetP (fun v w' => ∃ x j, lT s st.now st.pos = .ok (x, j) ∧ TOut w w' v x ∧ Evo [b] w w' ∧ RdAt w' b s (iP st j) a c ob) (fun v w' => ∃ e, lT s st.now st.pos = .error e ∧ v = flt e ∧ Evo [b] w w')) := by
  have hap := hR.ap; have hgb : pM ∉ [b] := fun h => hR.glb hG (List.mem_singleton.1 h).symm; have hbw : Lt w (some b) := Lt.blk hR.blk; have how : Lt w ob := Lt.own hR.own; refine aT (N := 41) Tryz.func128 rfl rfl rfl ?_; refine csr (cF rfl eJ fun b2 w1 h0 e5 e6 => ?_); have h1 := e5; have g1 := Apart.new (Lt.blk hR.blk) e5; have h2 := Ge.new (Evo.refl [b] w) e5; refine wnn (csr (aB ?_)); refine aJ (vs := [_, _]) iC rfl (oA ⟨(e6.blk0 hR.blk), (hR.own.evo0 e6), hR.ne⟩ (by omega) 94 (by decide)) rfl ?_; rintro _ h3 ⟨rfl, e7, d7⟩; have g4 := ((Evo.refl [b] w).then e6).step e7 (fun y hy => .inl hy); have g5 := e7.blk h0 ((by first | exact g1.symm.own1 | exact g1.symm.nmem1)); refine wan (aI ?_)
  have hR1' : RdAt h3 b s (iP st (if isB s st.pos 94 then st.pos + 1 else st.pos)) a c ob := by by_cases h94 : isB s st.pos 94; { rw [if_pos h94] at d7 ⊢; exact d7 }; { rw [if_neg h94] at d7 ⊢; exact d7 }
  generalize hi0 : (if isB s st.pos 94 then st.pos + 1 else st.pos) = i0 at *
  have hbd0 : Bd s i0 := by rw [← hi0]; split; (rename_i h94; exact h94.asc (by decide) hb); exact hb
  refine aF (wan (aI (csr (wan (bC ?_)))))
  refine cN (α := ClG) (⟨s.size + 1, i0, 0, true, fun _ => False, [], none, 0, none⟩) (fun x => [(4, .slice x.sa x.n x.sc), (5, .bool x.fst)]) [(0, _), (2, _), (3, _)] (fun x wr => Evo [b] w wr ∧ (ClI w wr b s st a c ob b2 i0 x)) (fun x => x.f) ⟨rfl, rfl, trivial⟩ ⟨rfl, rfl, rfl, trivial⟩ ⟨g4, ⟨hR1', hbd0, rfl, by show s.size + 1 ≤ s.size + 1 + i0; omega, OwnS.nil _ _ _, Ge.nil _, fun g hg => (by cases hg), fun c => ⟨fun h => (kR c h).elim, False.elim⟩, Nat.zero_le _, g5, h2, Apart.nil _⟩⟩ ?_
  rintro ⟨f, i, n, fst, S, l, sa, sc, so⟩ wr15 ⟨g6, ⟨O, hbi, heq, hfi, hown, hge, hvr, hSl, hlen, hb2, hg2, ha2⟩⟩; show CW _ _ _ _ [(4, .slice sa n sc), (5, .bool fst), (0, _), (2, _), (3, _)] _
  try dsimp only at O hbi heq hfi hown hge hvr hSl hlen hb2 hg2 ha2
  have hil := hbi.le; have a6 : Apart (some b) so := kL hbw hge; have g2 : Apart ob so := kL how hge; have L : Apart (some b) (some b2) := kL hbw hg2; have d8 : Apart ob (some b2) := kL how hg2; have hpi : (iP st i).pos = i := rfl; obtain ⟨f', hff⟩ : ∃ f', f = f' + 1 := ⟨f - 1, by omega⟩; refine aI (bC (aI (aI ?_))); refine eP (by kernel_rfl) (by kernel_rfl) ?_; refine bJ (fun _ A => aY rfl) ?_; refine bJ (fun _ A => aG rfl) ?_; refine bJ (fun _ A => aD rfl bB) ?_; refine bJ (fun _ A => aQ rfl aX (aV (A.blk0 O.blk) rfl)) ?_; refine bJ (fun _ A => aY rfl) ?_; refine bJ (fun _ A => aG rfl) ?_; refine bJ (fun _ A => aD rfl cS) ?_; refine bJ (fun _ A => aQ rfl cZ (aV (A.blk0 O.blk) rfl)) ?_; refine bJ (fun _ A => cD rfl Tryz.underlying9 rfl) ?_; refine bJ (fun _ A => lZ rfl rfl) ?_; refine eV (fun h7 A => aA ?_); have b7 := g6.then A; refine bA rfl (fun g7 => ?_) (fun g7 => ?_)
  ·refine aF (cE (vs := [_]) cO rfl (eG 81) rfl ?_ ?_)
   ·intro pv wp hpp; obtain ⟨rfl, hpw⟩ := hpp
    exact And.intro rfl ⟨_, rfl, _, AR (by rw [hi0, heq, hff]; exact its_end (by omega)), rfl, (b7).then hpw⟩
   intro _ _ hF; exact hF.elim
  have hii : i < s.size := by omega
  refine aL (aA (aI (csr (aB (aC (fP rfl) ?_))))); refine aB (xU (t := 21) rfl (fun H => ?_) (fun H => ?_))
  ·replace H := congrArg Bool.not H; simp only [Bool.not_not, Bool.not_true, Bool.not_false] at H; subst H
   refine aS (aB (aS ?_)); refine aJ (vs := [_, _]) iC rfl (oA ⟨(A.blk0 O.blk), (O.own.evo0 A), O.ne⟩ (by omega) 93 (by decide)) rfl ?_; rintro _ i5 ⟨rfl, d6, E⟩; have J := b7.step d6 (fun y hy => .inl hy); have c1 := (hown.evo0 A).evo d6 ((by first | exact a6.symm.own1 | exact a6.symm.nmem1)); have U := d6.blk (A.blk0 hb2) ((by first | exact L.symm.own1 | exact L.symm.nmem1)); refine bW (wnn (bA rfl (fun V => ?_) (fun V => ?_)))
   ·rw [if_pos V] at E; have hst := (heq.trans (congrArg (fun f => gE s f false S i) hff)).trans (its_stop hii V.2); have h4 := rS hown; subst h4; refine cJ (bH (uT rfl (bH (bH (cI (aA ?_)))))); refine aI (csr (aB (aC (aG rfl) (aC (aD rfl dS) (wfl rfl qS rfl gD E.blk rfl (wnn (dW rfl (fun I => ?_) (fun I => ?_))))))))
    ·replace I : st.now.fold = true := I; refine aF (aB ?_); refine aJ (vs := [_]) xP rfl (GZ c1 hvr (by omega) hSl) rfl ?_; rintro rv i6 ⟨a4, c4, ob4, rfl, g3, hg4, hl4, hcan4, heq4, W⟩; have c6 := J.then W; have c7 := W.blk0 U; refine wan (aI (csr (aB (wnn (bA rfl (fun M => ?_) (fun M => ?_))))))
     ·refine aF (aB ?_); refine aJ (vs := [_]) kB rfl (mQ g3 (yO hcan4) (by omega) heq4) rfl ?_; rintro rv i7 ⟨a5, c5, ob5, rfl, e8, hg5, hl5, hcan5, heq5, a0⟩; refine wan (csr (aB ?_)); refine aJ (vs := [_]) gM rfl (oB e8 (yO hcan5) (by omega) heq5) rfl ?_; rintro rv h5 ⟨b8, c8⟩; have b9 := (c6.then a0); have hb29 := dK (a0.blk0 c7); obtain ⟨vs9, bs9, rfl, hOT, hFr⟩ := b8; obtain ⟨ra, rc, ka, kc, rfl⟩ := id hOT.nine; refine aZ rfl rfl aU (c8.blk0 (a0.blk0 c7)) rfl rfl ⟨by first | rfl | assumption, by first | rfl | assumption, by first | rfl | assumption, by first | rfl | assumption, by first | rfl | assumption, by first | rfl | assumption, by first | rfl | assumption, by first | rfl | assumption, by first | rfl | assumption, trivial⟩ fun i8 f0 c9 => ?_
      try simp only [cG, Nat.reduceAdd] at f0
      refine wnn (aH (cH (cK rfl (ResOk.cellA rfl bV aU f0 rfl) ?_)))
      have hcl := DG (fl := st.now) (by rw [hi0]; exact hst)
      rw [if_pos M, if_pos I] at hcl; refine ⟨_, _, hcl, ⟨_, bs9, rfl, hOT.evo ((Evo.refl ([b2]) h5).step c9 (fun y hy => .inl hy)) (fun q hq h => ?_), hFr.older b9.size⟩, (((c6.then a0).then c8).step c9 hg2.mem1), ⟨(c9.blk (c8.blk0 (a0.blk0 (W.blk0 E.blk))) L.nmem1), ((((E.own.evo0 W).evo0 a0).evo0 c8).evo c9 d8.own1), E.ne⟩⟩
      have := hFr.ge q hq; rw [List.mem_singleton.1 h] at this; omega
     refine aL (aA (csr (aB ?_))); refine aJ (vs := [_]) gM rfl (oB g3 (yO hcan4) (by omega) heq4) rfl ?_; rintro rv h6 ⟨b8, d0⟩; have b9 := c6; have hb29 := dK c7; obtain ⟨vs9, bs9, rfl, hOT, hFr⟩ := b8; obtain ⟨ra, rc, ka, kc, rfl⟩ := id hOT.nine; refine aZ rfl rfl aU (d0.blk0 c7) rfl rfl ⟨by first | rfl | assumption, by first | rfl | assumption, by first | rfl | assumption, by first | rfl | assumption, by first | rfl | assumption, by first | rfl | assumption, by first | rfl | assumption, by first | rfl | assumption, by first | rfl | assumption, trivial⟩ fun i9 f5 d3 => ?_
     try simp only [cG, Nat.reduceAdd] at f5
     refine wnn (aH (cH (cK rfl (ResOk.cellA rfl bV aU f5 rfl) ?_)))
     have hcl := DG (fl := st.now) (by rw [hi0]; exact hst)
     rw [if_neg M, if_pos I] at hcl; refine ⟨_, _, hcl, ⟨_, bs9, rfl, hOT.evo ((Evo.refl ([b2]) h6).step d3 (fun y hy => .inl hy)) (fun q hq h => ?_), hFr.older b9.size⟩, ((c6.then d0).step d3 hg2.mem1), ⟨(d3.blk (d0.blk0 (W.blk0 E.blk)) L.nmem1), (((E.own.evo0 W).evo0 d0).evo d3 d8.own1), E.ne⟩⟩
     have := hFr.ge q hq; rw [List.mem_singleton.1 h] at this; omega
    replace I : st.now.fold = false := I; refine aL (aA (aI (csr (aB (wnn (bA rfl (fun M => ?_) (fun M => ?_)))))))
    ·refine aF (aB ?_); refine aJ (vs := [_]) kB rfl (mQ c1 hvr (by omega) hSl) rfl ?_; rintro rv j0 ⟨a5, c5, ob5, rfl, e8, hg5, hl5, hcan5, heq5, a1⟩; refine wan (csr (aB ?_)); refine aJ (vs := [_]) gM rfl (oB e8 (yO hcan5) (by omega) heq5) rfl ?_; rintro rv g8 ⟨b8, a7⟩; have b9 := (J.then a1); have hb29 := dK (a1.blk0 U); obtain ⟨vs9, bs9, rfl, hOT, hFr⟩ := b8; obtain ⟨ra, rc, ka, kc, rfl⟩ := id hOT.nine; refine aZ rfl rfl aU (a7.blk0 (a1.blk0 U)) rfl rfl ⟨by first | rfl | assumption, by first | rfl | assumption, by first | rfl | assumption, by first | rfl | assumption, by first | rfl | assumption, by first | rfl | assumption, by first | rfl | assumption, by first | rfl | assumption, by first | rfl | assumption, trivial⟩ fun h8 d9 a8 => ?_
     try simp only [cG, Nat.reduceAdd] at d9
     refine wnn (aH (cH (cK rfl (ResOk.cellA rfl bV aU d9 rfl) ?_)))
     have hcl := DG (fl := st.now) (by rw [hi0]; exact hst)
     rw [if_pos M, if_neg (show ¬ st.now.fold = true by simp [I])] at hcl; refine ⟨_, _, hcl, ⟨_, bs9, rfl, hOT.evo ((Evo.refl ([b2]) g8).step a8 (fun y hy => .inl hy)) (fun q hq h => ?_), hFr.older b9.size⟩, (((J.then a1).then a7).step a8 hg2.mem1), ⟨(a8.blk (a7.blk0 (a1.blk0 E.blk)) L.nmem1), (((E.own.evo0 a1).evo0 a7).evo a8 d8.own1), E.ne⟩⟩
     have := hFr.ge q hq; rw [List.mem_singleton.1 h] at this; omega
    refine aL (aA (csr (aB ?_))); refine aJ (vs := [_]) gM rfl (oB c1 hvr (by omega) hSl) rfl ?_; rintro rv g9 ⟨b8, a9⟩; have b9 := J; have hb29 := dK U; obtain ⟨vs9, bs9, rfl, hOT, hFr⟩ := b8; obtain ⟨ra, rc, ka, kc, rfl⟩ := id hOT.nine; refine aZ rfl rfl aU (a9.blk0 U) rfl rfl ⟨by first | rfl | assumption, by first | rfl | assumption, by first | rfl | assumption, by first | rfl | assumption, by first | rfl | assumption, by first | rfl | assumption, by first | rfl | assumption, by first | rfl | assumption, by first | rfl | assumption, trivial⟩ fun h9 e0 b4 => ?_
    try simp only [cG, Nat.reduceAdd] at e0
    refine wnn (aH (cH (cK rfl (ResOk.cellA rfl bV aU e0 rfl) ?_)))
    have hcl := DG (fl := st.now) (by rw [hi0]; exact hst)
    rw [if_neg M, if_neg (show ¬ st.now.fold = true by simp [I])] at hcl; refine ⟨_, _, hcl, ⟨_, bs9, rfl, hOT.evo ((Evo.refl ([b2]) g9).step b4 (fun y hy => .inl hy)) (fun q hq h => ?_), hFr.older b9.size⟩, ((J.then a9).step b4 hg2.mem1), ⟨(b4.blk (a9.blk0 E.blk) L.nmem1), ((E.own.evo0 a9).evo b4 d8.own1), E.ne⟩⟩
    have := hFr.ge q hq; rw [List.mem_singleton.1 h] at this; omega
   rw [if_neg V] at E; refine aL (aA (aF (aB (aB ?_)))); refine cE (vs := [_]) xQ rfl (VT ⟨E.blk, E.own, E.ne⟩ (by omega) hii hbi (hG.evo J hgb)) rfl ?_ ?_
   ·intro pv wp hpp; obtain ⟨e9, hpe, rfl, hpw⟩ := hpp
    exact And.intro rfl ⟨_, rfl, _, AR (by rw [hi0, heq, hff]; exact VS hii (fun h => V ⟨hii, h.2⟩) hpe), rfl, (J).step hpw (fun y hy => .inl hy)⟩
   rintro rv i1 ⟨T, j, hx, hT, d4, c0⟩; obtain ⟨a3, c3, ob3, li, rfl, f6, hg3, hv3, f7, hl3⟩ := hT; have e1 := J.step d4 (fun y hy => .inl hy); have f9 := c1.evo d4 ((by first | exact a6.symm.own1 | exact a6.symm.nmem1)); have e2 := d4.blk U ((by first | exact L.symm.own1 | exact L.symm.nmem1)); obtain ⟨hbj, hij⟩ := AJ hx hbi hii; have hjl := hbj.le; refine cT rfl rfl rfl rfl fB f9 (Src.ofOwn f6 (rO li)) (by omega) fun a2 c2 i2 ob2 f8 b5 hob151 => ?_; refine bR (aP (aO (aA (aF (bR (aP (aW ?_))))))); refine ⟨⟨f', j, n + li.length, false, unS S T, l ++ li, a2, c2, ob2⟩, ?_, ⟨rfl, rfl, trivial⟩, ⟨rfl, rfl, rfl, trivial⟩, (e1.step b5 hge.mem), ?_⟩
   · (try dsimp only); omega
   try dsimp only
   refine ⟨⟨(b5.blk c0.blk a6.nmem), (c0.own.evo b5 g2.own), c0.ne⟩, hbj, ?_, (by show s.size + 1 ≤ f' + j; omega), ?_, (hge.app e1 hob151), RE hvr hv3, un_in hSl f7, (by show n + li.length ≤ 16 * j; omega), (b5.blk e2 ha2.nmem), hg2, (ha2.app (Lt.blk e2) hob151)⟩
   · rw [heq, hff]; exact its_go hii (fun h => V ⟨hii, h.2⟩) hx
   · rw [jR]; exact f8
  replace H := congrArg Bool.not H; simp only [Bool.not_not, Bool.not_true, Bool.not_false] at H; subst H
  refine aN (aN (bM (wnn (cM rfl ?_)))); refine aL (aA (aF (aB (aB ?_)))); refine cE (vs := [_]) xQ rfl (VT ⟨(A.blk0 O.blk), (O.own.evo0 A), O.ne⟩ (by omega) hii hbi (hG.evo b7 hgb)) rfl ?_ ?_
  ·intro pv wp hpp; obtain ⟨e9, hpe, rfl, hpw⟩ := hpp
   exact And.intro rfl ⟨_, rfl, _, AR (by rw [hi0, heq, hff]; exact VS hii (fun h => (by cases h.1)) hpe), rfl, (b7).step hpw (fun y hy => .inl hy)⟩
  rintro rv i3 ⟨T, j, hx, hT, d5, c0⟩; obtain ⟨a3, c3, ob3, li, rfl, f6, hg3, hv3, f7, hl3⟩ := hT; have e3 := b7.step d5 (fun y hy => .inl hy); have g0 := (hown.evo0 A).evo d5 ((by first | exact a6.symm.own1 | exact a6.symm.nmem1)); have e4 := d5.blk (A.blk0 hb2) ((by first | exact L.symm.own1 | exact L.symm.nmem1)); obtain ⟨hbj, hij⟩ := AJ hx hbi hii; have hjl := hbj.le; refine cT rfl rfl rfl rfl fB g0 (Src.ofOwn f6 (rO li)) (by omega) fun a2 c2 i4 ob2 f8 b6 hob178 => ?_; refine bR (aP (aO (aA (aF (bR (aP (aW ?_))))))); refine ⟨⟨f', j, n + li.length, false, unS S T, l ++ li, a2, c2, ob2⟩, ?_, ⟨rfl, rfl, trivial⟩, ⟨rfl, rfl, rfl, trivial⟩, (e3.step b6 hge.mem), ?_⟩
  · (try dsimp only); omega
  try dsimp only
  refine ⟨⟨(b6.blk c0.blk a6.nmem), (c0.own.evo b6 g2.own), c0.ne⟩, hbj, ?_, (by show s.size + 1 ≤ f' + j; omega), ?_, (hge.app e3 hob178), RE hvr hv3, un_in hSl f7, (by show n + li.length ≤ 16 * j; omega), (b6.blk e4 ha2.nmem), hg2, (ha2.app (Lt.blk e4) hob178)⟩
  · rw [heq, hff]; exact its_go hii (fun h => (by cases h.1)) hx
  · rw [jR]; exact f8
theorem xS : cX Tryz.prog 126 := ⟨_, Tryz.func126, by kernel_rfl, by kernel_rfl⟩
theorem BR {r : ByteArray} : ∀ {f i : Nat} {n : Int}, 0 ≤ n → n ≤ 1001 → i ≤ r.size → 0 ≤ (iQ r f i n).1 ∧ (iQ r f i n).1 ≤ 1001 ∧ i ≤ (iQ r f i n).2 ∧ (iQ r f i n).2 ≤ r.size
  | 0, i, n, h0, h1, hi => ⟨h0, h1, Nat.le_refl _, hi⟩
  | f + 1, i, n, h0, h1, hi => by
    rw [iQ]
    split
    · rename_i h
      have h2 : 48 ≤ sb r i ∧ sb r i ≤ 57 := h.2
      obtain ⟨i1, i2, i3, i4⟩ := BR (r := r) (f := f) (i := i + 1) (n := min (n * 10 + ((sb r i : Int) - 48)) 1001) (by omega) (by omega) (by omega)
      exact ⟨i1, i2, by omega, i4⟩
    · exact ⟨h0, h1, Nat.le_refl _, hi⟩
theorem pNum_go {r : ByteArray} {f i : Nat} {n : Int} (h : i < r.size) (h2 : 48 ≤ sb r i) (h3 : sb r i ≤ 57) : iQ r (f + 1) i n = iQ r f (i + 1) (min (n * 10 + ((sb r i : Int) - 48)) 1001) := by rw [iQ, if_pos ⟨h, h2, h3⟩]
theorem BQ {r : ByteArray} {f i : Nat} {n : Int} (h : ¬ (i < r.size ∧ digN (sb r i))) : iQ r f i n = (n, i) := by
  cases f with
  | zero => rfl
  | succ f => rw [iQ, if_neg h]
structure NuG where
  f : Nat
  i : Nat
  n : Int
structure NuI (r : ByteArray) (i0 : Nat) (x : NuG) : Prop where
  hi : x.i ≤ r.size
  n0 : 0 ≤ x.n
  n1 : x.n ≤ 1001
  hf : r.size ≤ x.f + x.i
  eq : iQ r r.size i0 0 = iQ r x.f x.i x.n
theorem GH {w : World} (r : ByteArray) (i0 : Nat) (hi : i0 ≤ r.size) (hs : r.size ≤ 1000000) :
    Calls Tryz.prog 126 #[.string r, .int .i64 (i0 : Nat)] w (Ret fun v w' => v = .tuple #[iv (iQ r r.size i0 0).1, iv ((iQ r r.size i0 0).2 : Nat)] ∧ Evo [] w w') := by
  refine aT (N := 36) Tryz.func126 rfl rfl rfl ?_; refine csr (bR (wan (csr (wan (aI (bC ?_))))))
  refine cN (α := NuG) (⟨r.size, i0, 0⟩) (fun x => [(6, .int .i64 x.n), (1, .int .i64 (x.i : Nat))]) [(0, _), (4, _), (5, _)] (fun x wr => Evo [] w wr ∧ (NuI r i0 x)) (fun x => x.f) ⟨rfl, rfl, trivial⟩ ⟨rfl, rfl, rfl, trivial⟩ ⟨(Evo.refl [] w), ⟨hi, Int.le_refl _, (by show (0 : Int) ≤ 1001; omega), Nat.le_add_right _ _, rfl⟩⟩ ?_
  rintro ⟨f, i, n⟩ wr1 ⟨A, ⟨hi1, J, L, hf, heq⟩⟩; show CW _ _ _ _ [(6, .int .i64 n), (1, .int .i64 (i : Nat)), (0, _), (4, _), (5, _)] _
  try dsimp only at hi1 J L hf heq
  have hb := jN r i; refine aI (csr (aB (aB (aC (cD rfl Tryz.underlying9 rfl) ?_)))); refine aC (cP rfl rfl) ?_; refine aB (bF (t := 11) rfl (fun E => ?_) (fun E => ?_))
  ·refine aS (aB (aS (aB (aS ?_)))); refine aC (eD (n := i) rfl rfl Tryz.underlying9 rfl (by omega)) ?_; refine aS (aC (dV rfl rfl) ?_); refine bW (aB (bF (t := 17) rfl (fun H => ?_) (fun H => ?_)))
   ·refine aS (aB (aS (aB (aS ?_)))); refine aC (eD (n := i) rfl rfl Tryz.underlying9 rfl (by omega)) ?_; refine aS (aC (eH rfl rfl) ?_); refine bW (wnn (bA rfl (fun I => ?_) (fun I => ?_)))
    ·refine aL (aA (bC (csr (aB ?_)))); refine aC (fQ rfl rfl (by omega) (by omega)) ?_; refine aB (aB ?_); refine aC (eD (n := i) rfl rfl Tryz.underlying9 rfl (by omega)) ?_; refine aC (lO rfl rfl (by omega) (by omega)) ?_; refine aC (iM rfl Tryz.underlying5 Tryz.underlying3 (uY (by omega) (by omega)).1 (uY (by omega) (by omega)).2) ?_; refine aC (aK rfl rfl (by omega) (by omega)) ?_; refine aC (jM rfl rfl) ?_; rw [CI]; refine wan (aF (aB ?_)); refine aC (aK rfl rfl (by omega) (by omega)) ?_; refine bR (aP (aO (aW ?_))); refine ⟨⟨f - 1, i + 1, min (n * 10 + ((sb r i : Int) - 48)) 1001⟩, ?_, ⟨rfl, rfl, trivial⟩, ⟨rfl, rfl, rfl, trivial⟩, A, ?_⟩
     · (try dsimp only); show f - 1 < f; omega
     try dsimp only
     have hf2 : f = f - 1 + 1 := by omega
     exact ⟨(by show i + 1 ≤ r.size; omega), (by show 0 ≤ min _ _; omega), (by show min _ _ ≤ _; omega), (by show r.size ≤ f - 1 + (i + 1); omega), heq.trans (by rw [hf2]; exact pNum_go (by omega) (by omega) (by omega))⟩
    refine cJ (bH (bH (cI (aA ?_)))); refine csr (aB (aB (bR (wan (aH (cB rfl rfl rfl ?_))))))
    have hend := heq.trans (BQ (by rintro ⟨h1, h2, h3⟩; omega))
    rw [hend]; exact ⟨rfl, A⟩
   refine aN (aN (aN (aN (bM (wnn (cM rfl ?_)))))); refine cJ (bH (bH (cI (aA ?_)))); refine csr (aB (aB (bR (wan (aH (cB rfl rfl rfl ?_))))))
   have hend := heq.trans (BQ (by rintro ⟨h1, h2, h3⟩; omega))
   rw [hend]; exact ⟨rfl, A⟩
  refine aN (aN (aN (aN (bM (aB (aN (aN (aN (aN (bM (wnn (cM rfl ?_)))))))))))); refine cJ (bH (bH (cI (aA ?_)))); refine csr (aB (aB (bR (wan (aH (cB rfl rfl rfl ?_))))))
  have hend := heq.trans (BQ (by rintro ⟨h1, h2, h3⟩; omega))
  rw [hend]; exact ⟨rfl, A⟩
section
variable {r : ByteArray}
theorem UQ (h : sb r 0 = 42) : oW r = (0, -1, 1) := by unfold oW; rw [if_pos h]
theorem UR (h : sb r 0 = 43) : oW r = (1, -1, 1) := by unfold oW; rw [if_neg (by omega), if_pos h]
theorem pr_qu (h : sb r 0 = 63) : oW r = (0, 1, 1) := by unfold oW; rw [if_neg (by omega), if_neg (by omega), if_pos h]
theorem pr_no (h : ¬ sb r 0 = 42) (h2 : ¬ sb r 0 = 43) (h3 : ¬ sb r 0 = 63) (h4 : ¬ sb r 0 = 123) : oW r = (0, 0, 0) := by unfold oW; rw [if_neg h, if_neg h2, if_neg h3, if_pos h4]
theorem pr_br (h : sb r 0 = 123) {lo : Int} {i : Nat} (h2 : iQ r r.size 1 0 = (lo, i)) : oW r = if 1 < i ∧ isB r i 44 then (if isB r (iQ r r.size (i + 1) 0).2 125 then (lo, (if (iQ r r.size (i + 1) 0).2 = i + 1 then -1 else (iQ r r.size (i + 1) 0).1), (iQ r r.size (i + 1) 0).2 + 1) else (0, 0, 0))
    else if i = 1 ∨ ¬ isB r i 125 then (0, 0, 0) else (lo, lo, i + 1) := by
  unfold oW
  rw [if_neg (by omega), if_neg (by omega), if_neg (by omega), if_neg (by omega), h2]
end
theorem nZ {p : Int × Int × Nat} {a b : Int} {c : Nat} (h : p = (a, b, c)) : (Value.tuple #[iv a, iv b, iv (c : Nat)]) = .tuple #[iv p.1, iv p.2.1, iv (p.2.2 : Nat)] := by rw [h]
theorem RY {w : World} {b : Nat} {s : ByteArray} {st : PS} {a : Option Addr} {c : Nat} {ob : Option Nat} (hR : RdAt w b s st a c ob) (hs : s.size ≤ 1000000) (hlt : st.pos < s.size) :
    Calls Tryz.prog 98 #[.pointer (some ⟨b, 0, none⟩)] w (Ret fun v w' => v = .tuple #[iv (oW (s.extract st.pos s.size)).1, iv (oW (s.extract st.pos s.size)).2.1, iv ((oW (s.extract st.pos s.size)).2.2 : Nat)] ∧ Evo [] w w') := by
  have hap := hR.ap; have hrs := fL (s := s) (a := st.pos) (Nat.le_refl s.size); refine aT (N := 78) Tryz.func98 rfl rfl rfl ?_; refine csr (bR (bR (wan (aI ?_)))); refine eP (by kernel_rfl) (by kernel_rfl) ?_; refine bJ (fun _ A => aY rfl) ?_; refine bJ (fun _ A => aG rfl) ?_; refine bJ (fun _ A => aD rfl cS) ?_; refine bJ (fun _ A => aQ rfl cZ (aV (A.blk0 hR.blk) rfl)) ?_; refine bJ (fun _ A => aY rfl) ?_; refine bJ (fun _ A => aG rfl) ?_; refine bJ (fun _ A => aD rfl bB) ?_; refine bJ (fun _ A => aQ rfl aX (aV (A.blk0 hR.blk) rfl)) ?_; refine bJ (fun _ A => jU (l := st.pos) rfl rfl Tryz.underlying9 rfl (by omega)) ?_; refine bJ (fun _ A => dU rfl) ?_; refine eV (fun a6 A => aA ?_); have M := (Evo.refl [] w).then A; refine aI (aI ?_)
  generalize s.extract st.pos s.size = r at *
  refine aF (aB ?_); refine aC (eD (n := 0) rfl rfl Tryz.underlying9 rfl (by omega)) ?_; refine wnn (bC (csr (wel ?_))); refine wan (bA rfl (fun O => ?_) (fun O => ?_))
  ·refine csr (bR (bR (wan (aH (aM (aE (dI rfl rfl rfl rfl ?_))))))); exact ⟨nZ (UQ (by omega)), M⟩
  refine csr (wel ?_); refine wan (bA rfl (fun U => ?_) (fun U => ?_))
  ·refine csr (bR (bR (wan (aH (aM (aE (dI rfl rfl rfl rfl ?_))))))); exact ⟨nZ (UR (by omega)), M⟩
  refine csr (wel ?_); refine wan (bA rfl (fun V => ?_) (fun V => ?_))
  ·refine csr (bR (bR (wan (aH (aM (aE (dI rfl rfl rfl rfl ?_))))))); exact ⟨nZ (pr_qu (by omega)), M⟩
  refine csr (wel ?_); refine wan (bA rfl (fun W => ?_) (fun W => ?_))
  ·refine aL (aO (aA (csr (aB ?_)))); refine aJ (vs := [_, _]) xS rfl (GH r 1 (by omega) (by omega)) rfl ?_; rintro _ w6 ⟨rfl, a5⟩; obtain ⟨lo, i, hp1⟩ : ∃ lo i, iQ r r.size 1 0 = (lo, i) := ⟨_, _, rfl⟩; have hb1 := BR (r := r) (f := r.size) (i := 1) (n := 0) (by omega) (by omega) (by omega); have hbr := pr_br (r := r) (by omega) hp1; rw [hp1] at hb1 ⊢; simp only at hb1; have E := M.then a5; refine aB (aC (bK rfl rfl) ?_); refine aC (bK rfl rfl) ?_; refine bR (wan (csr (aB (wan (aI (csr (aB (aC (gF rfl rfl) ?_)))))))); refine aB (bF (t := 37) rfl (fun a0 => ?_) (fun a0 => ?_))
   ·refine aS (aB (aS (aB (aS (aC (cD rfl Tryz.underlying9 rfl) ?_))))); refine aS (aC (cP rfl rfl) ?_); refine bW (aB (bF (t := 43) rfl (fun a1 => ?_) (fun a1 => ?_)))
    ·refine aS (aB (aS (aB (aS ?_)))); refine aC (eD (n := i) rfl rfl Tryz.underlying9 rfl (by omega)) ?_; refine aS (wel ?_); refine bW (wnn (bA rfl (fun a2 => ?_) (fun a2 => ?_)))
     ·have hcm : 1 < i ∧ isB r i 44 := ⟨by omega, by omega, by omega⟩; refine csr (aB ?_); refine aC (aK rfl rfl (by omega) (by omega)) ?_; refine wan (csr (aB (aB ?_))); refine aJ (vs := [_, _]) xS rfl (GH r (i + 1) (by omega) (by omega)) rfl ?_; rintro _ a7 ⟨rfl, a3⟩; obtain ⟨hi2, m, hp2⟩ : ∃ hi2 m, iQ r r.size (i + 1) 0 = (hi2, m) := ⟨_, _, rfl⟩; have hb2 := BR (r := r) (f := r.size) (i := i + 1) (n := 0) (by omega) (by omega) (by omega); rw [if_pos hcm, hp2] at hbr; rw [hp2] at hb2 ⊢; simp only at hb2 hbr; have L := E.then a3; refine aB (aC (bK rfl rfl) ?_); refine aC (bK rfl rfl) ?_; refine bR (wan (csr (aB (aB (wel ?_))))); refine wnn (bA rfl (fun a4 => ?_) (fun a4 => ?_))
      ·have hmi : m = i + 1 := by omega
       refine aF (wan (aI (csr (aB (wel ?_))))); refine aB (bF (t := 62) rfl (fun H => ?_) (fun H => ?_))
       ·refine aN (aN (aN (aN (bW (aB (aN (aN (aN (aN (bW (wnn (dB rfl ?_)))))))))))); refine csr (bR (bR (wan (aH (aE (dI rfl rfl rfl rfl ?_))))))
        exact ⟨nZ (hbr.trans (if_neg (fun h => by have h1 := h.1; have h2 := h.2; omega))), L⟩
       refine aS (aB (aS (aB (aS (aC (cD rfl Tryz.underlying9 rfl) ?_))))); refine aS (aC (dV rfl rfl) ?_); refine bM (aB (bF (t := 68) rfl (fun I => ?_) (fun I => ?_)))
       ·refine aN (aN (aN (aN (bW (wnn (dB rfl ?_)))))); refine csr (bR (bR (wan (aH (aE (dI rfl rfl rfl rfl ?_))))))
        exact ⟨nZ (hbr.trans (if_neg (fun h => by have h1 := h.1; have h2 := h.2; omega))), L⟩
       refine aS (aB (aS (aB (aS ?_)))); refine aC (eD (n := m) rfl rfl Tryz.underlying9 rfl (by omega)) ?_; refine aS (aC (fJ rfl rfl) ?_); refine bM (wnn (bA rfl (fun J => ?_) (fun J => ?_)))
       ·refine csr (bR (bR (wan (aH (aE (dI rfl rfl rfl rfl ?_))))))
        exact ⟨nZ (hbr.trans (if_neg (fun h => by have h1 := h.1; have h2 := h.2; omega))), L⟩
       refine aL (aA (csr (aB (aB (aB ?_))))); refine aC (aK rfl rfl (by omega) (by omega)) ?_; refine bR (bR (wan (aH (dI rfl rfl rfl rfl ?_)))); exact ⟨nZ (hbr.trans ((if_pos ⟨by omega, by omega⟩).trans (by rw [if_pos hmi]))), L⟩
      refine aL (aA (aI (csr (aB (wel ?_))))); refine aB (bF (t := 62) rfl (fun H => ?_) (fun H => ?_))
      ·refine aN (aN (aN (aN (bW (aB (aN (aN (aN (aN (bW (wnn (dB rfl ?_)))))))))))); refine csr (bR (bR (wan (aH (aE (dI rfl rfl rfl rfl ?_))))))
       exact ⟨nZ (hbr.trans (if_neg (fun h => by have h1 := h.1; have h2 := h.2; omega))), L⟩
      refine aS (aB (aS (aB (aS (aC (cD rfl Tryz.underlying9 rfl) ?_))))); refine aS (aC (dV rfl rfl) ?_); refine bM (aB (bF (t := 68) rfl (fun I => ?_) (fun I => ?_)))
      ·refine aN (aN (aN (aN (bW (wnn (dB rfl ?_)))))); refine csr (bR (bR (wan (aH (aE (dI rfl rfl rfl rfl ?_))))))
       exact ⟨nZ (hbr.trans (if_neg (fun h => by have h1 := h.1; have h2 := h.2; omega))), L⟩
      refine aS (aB (aS (aB (aS ?_)))); refine aC (eD (n := m) rfl rfl Tryz.underlying9 rfl (by omega)) ?_; refine aS (aC (fJ rfl rfl) ?_); refine bM (wnn (bA rfl (fun J => ?_) (fun J => ?_)))
      ·refine csr (bR (bR (wan (aH (aE (dI rfl rfl rfl rfl ?_))))))
       exact ⟨nZ (hbr.trans (if_neg (fun h => by have h1 := h.1; have h2 := h.2; omega))), L⟩
      refine aL (aA (csr (aB (aB (aB ?_))))); refine aC (aK rfl rfl (by omega) (by omega)) ?_; refine bR (bR (wan (aH (dI rfl rfl rfl rfl ?_)))); exact ⟨nZ (hbr.trans ((if_pos ⟨by omega, by omega⟩).trans (by rw [if_neg (by omega)]))), L⟩
     refine aL (aA (aI (csr (aB (wel ?_))))); refine aB (bF (t := 62) rfl (fun H => ?_) (fun H => ?_))
     ·refine aN (aN (aN (aN (bW (aB (aN (aN (aN (aN (bW (wnn (dB rfl ?_)))))))))))); refine csr (bR (bR (wan (aH (aE (dI rfl rfl rfl rfl ?_))))))
      exact ⟨nZ (hbr.trans ((if_neg (by rintro ⟨h1, h2, h3⟩; omega)).trans (if_pos (.inl (by omega))))), E⟩
     refine aS (aB (aS (aB (aS (aC (cD rfl Tryz.underlying9 rfl) ?_))))); refine aS (aC (dV rfl rfl) ?_); refine bM (aB (bF (t := 68) rfl (fun I => ?_) (fun I => ?_)))
     ·refine aN (aN (aN (aN (bW (wnn (dB rfl ?_)))))); refine csr (bR (bR (wan (aH (aE (dI rfl rfl rfl rfl ?_))))))
      exact ⟨nZ (hbr.trans ((if_neg (by rintro ⟨h1, h2, h3⟩; omega)).trans (if_pos (.inr (fun h => by have h1 := h.1; have h2 := h.2; omega))))), E⟩
     refine aS (aB (aS (aB (aS ?_)))); refine aC (eD (n := i) rfl rfl Tryz.underlying9 rfl (by omega)) ?_; refine aS (aC (fJ rfl rfl) ?_); refine bM (wnn (bA rfl (fun J => ?_) (fun J => ?_)))
     ·refine csr (bR (bR (wan (aH (aE (dI rfl rfl rfl rfl ?_))))))
      exact ⟨nZ (hbr.trans ((if_neg (by rintro ⟨h1, h2, h3⟩; omega)).trans (if_pos (.inr (fun h => by have h1 := h.1; have h2 := h.2; omega))))), E⟩
     refine aL (aA (csr (aB (aB (aB ?_))))); refine aC (aK rfl rfl (by omega) (by omega)) ?_; refine bR (bR (wan (aH (dI rfl rfl rfl rfl ?_))))
     exact ⟨nZ (hbr.trans ((if_neg (by rintro ⟨h1, h2, h3⟩; omega)).trans (if_neg (by rintro (h | h); omega; exact h ⟨by omega, by omega⟩)))), E⟩
    refine aN (aN (aN (aN (bM (wnn (cM rfl ?_)))))); refine aL (aA (aI (csr (aB (wel ?_))))); refine aB (bF (t := 62) rfl (fun H => ?_) (fun H => ?_))
    ·refine aN (aN (aN (aN (bW (aB (aN (aN (aN (aN (bW (wnn (dB rfl ?_)))))))))))); refine csr (bR (bR (wan (aH (aE (dI rfl rfl rfl rfl ?_))))))
     exact ⟨nZ (hbr.trans ((if_neg (by rintro ⟨h1, h2, h3⟩; omega)).trans (if_pos (.inl (by omega))))), E⟩
    refine aS (aB (aS (aB (aS (aC (cD rfl Tryz.underlying9 rfl) ?_))))); refine aS (aC (dV rfl rfl) ?_); refine bM (aB (bF (t := 68) rfl (fun I => ?_) (fun I => ?_)))
    ·refine aN (aN (aN (aN (bW (wnn (dB rfl ?_)))))); refine csr (bR (bR (wan (aH (aE (dI rfl rfl rfl rfl ?_))))))
     exact ⟨nZ (hbr.trans ((if_neg (by rintro ⟨h1, h2, h3⟩; omega)).trans (if_pos (.inr (fun h => by have h1 := h.1; have h2 := h.2; omega))))), E⟩
    refine aS (aB (aS (aB (aS ?_)))); refine aC (eD (n := i) rfl rfl Tryz.underlying9 rfl (by omega)) ?_; refine aS (aC (fJ rfl rfl) ?_); refine bM (wnn (bA rfl (fun J => ?_) (fun J => ?_)))
    ·refine csr (bR (bR (wan (aH (aE (dI rfl rfl rfl rfl ?_))))))
     exact ⟨nZ (hbr.trans ((if_neg (by rintro ⟨h1, h2, h3⟩; omega)).trans (if_pos (.inr (fun h => by have h1 := h.1; have h2 := h.2; omega))))), E⟩
    refine aL (aA (csr (aB (aB (aB ?_))))); refine aC (aK rfl rfl (by omega) (by omega)) ?_; refine bR (bR (wan (aH (dI rfl rfl rfl rfl ?_))))
    exact ⟨nZ (hbr.trans ((if_neg (by rintro ⟨h1, h2, h3⟩; omega)).trans (if_neg (by rintro (h | h); omega; exact h ⟨by omega, by omega⟩)))), E⟩
   refine aN (aN (aN (aN (bM (aB (aN (aN (aN (aN (bM (wnn (cM rfl ?_)))))))))))); refine aL (aA (aI (csr (aB (wel ?_))))); refine aB (bF (t := 62) rfl (fun H => ?_) (fun H => ?_))
   ·refine aN (aN (aN (aN (bW (aB (aN (aN (aN (aN (bW (wnn (dB rfl ?_)))))))))))); refine csr (bR (bR (wan (aH (aE (dI rfl rfl rfl rfl ?_))))))
    exact ⟨nZ (hbr.trans ((if_neg (by rintro ⟨h1, h2, h3⟩; omega)).trans (if_pos (.inl (by omega))))), E⟩
   refine aS (aB (aS (aB (aS (aC (cD rfl Tryz.underlying9 rfl) ?_))))); refine aS (aC (dV rfl rfl) ?_); refine bM (aB (bF (t := 68) rfl (fun I => ?_) (fun I => ?_)))
   ·refine aN (aN (aN (aN (bW (wnn (dB rfl ?_)))))); refine csr (bR (bR (wan (aH (aE (dI rfl rfl rfl rfl ?_))))))
    exact ⟨nZ (hbr.trans ((if_neg (by rintro ⟨h1, h2, h3⟩; omega)).trans (if_pos (.inr (fun h => by have h1 := h.1; have h2 := h.2; omega))))), E⟩
   refine aS (aB (aS (aB (aS ?_)))); refine aC (eD (n := i) rfl rfl Tryz.underlying9 rfl (by omega)) ?_; refine aS (aC (fJ rfl rfl) ?_); refine bM (wnn (bA rfl (fun J => ?_) (fun J => ?_)))
   ·refine csr (bR (bR (wan (aH (aE (dI rfl rfl rfl rfl ?_))))))
    exact ⟨nZ (hbr.trans ((if_neg (by rintro ⟨h1, h2, h3⟩; omega)).trans (if_pos (.inr (fun h => by have h1 := h.1; have h2 := h.2; omega))))), E⟩
   refine aL (aA (csr (aB (aB (aB ?_))))); refine aC (aK rfl rfl (by omega) (by omega)) ?_; refine bR (bR (wan (aH (dI rfl rfl rfl rfl ?_))))
   exact ⟨nZ (hbr.trans ((if_neg (by rintro ⟨h1, h2, h3⟩; omega)).trans (if_neg (by rintro (h | h); omega; exact h ⟨by omega, by omega⟩)))), E⟩
  refine csr (bR (bR (wan (aH (aM (aE (dI rfl rfl rfl rfl ?_))))))); exact ⟨nZ (pr_no (by omega) (by omega) (by omega) (by omega)), M⟩
theorem cU : lS Tryz.prog 69 = some (71, 9) := by kernel_rfl
def KOut (w w' : World) (v : Value) (l : List Rx) : Prop := ∃ a c ob cs bs, v = .slice a l.length c ∧ OwnS w' 71 9 a l.length c cs ob ∧ OTs l w' cs bs ∧ Fr w (ob.toList ++ bs)
theorem iA {X : List Nat} {w w1 w2 : World} {x : Rx} {vs : List Value} {bs : List Nat} {g : Nat} (hO : OwnS w2 71 9 (some ⟨g, 0, none⟩) 1 1 vs (some g)) (hT : OT x w1 vs bs) (hF : Fr w bs) (hg : w1.heap.size ≤ g) (he : Evo X w1 w2) (hx : ∀ b, b ∈ bs → b ∉ X) (hw : w.heap.size ≤ w1.heap.size) : KOut w w2 (.slice (some ⟨g, 0, none⟩) 1 1) [x] := by
  refine ⟨_, _, some g, vs, bs, rfl, hO, OTs.single (hT.evo he hx), ⟨List.nodup_cons.2 ⟨fun h => ?_, hF.nd⟩, fun b hb => ?_⟩⟩
  · have := hT.lt g h; omega
  · rcases List.mem_cons.1 hb with rfl | hb
    · omega
    · exact hF.ge b hb
theorem ot_row (k : Int) {l : List Rx} {w : World} {a : Option Addr} {n c : Nat} {cs : List Value} {ob : Option Nat} {bs : List Nat} (hO : OwnS w 71 9 a n c cs ob) (hT : OTs l w cs bs) (hl : l.length ≤ 1000000) :
    OT (BI k l) w [iv k, .int .i32 0, .slice none 0 0, iv 0, iv 0, .bool false, iv 0, .string ByteArray.empty, .slice a n c] (ob.toList ++ bs) := by
  have h1 := hO.length
  have h2 := hT.len
  obtain rfl : n = l.length := by omega
  unfold BI
  rw [OT]
  exact ⟨none, 0, none, a, c, ob, cs, bs, rfl, OwnS.nil _ _ _, hO, hT, rfl, by simp, by show (0 : Nat) ≤ 1000000; omega, hl⟩
theorem XT {k : Int} {l : List Rx} (h : 2 ≤ l.length) : tL k l = BI k l := by
  match l, h with
  | x :: y :: l, _ => rfl
theorem IE {w : World} (k : Int) {l : List Rx} {a : Option Addr} {n c : Nat} {cs : List Value} {ob : Option Nat} {bs : List Nat} (hO : OwnS w 71 9 a n c cs ob) (hT : OTs l w cs bs) (hl : l.length ≤ 1000000) :
    Calls Tryz.prog 78 #[iv k, .slice a n c] w (Ret fun v w' => (∃ vs bs', v = .agg vs.toArray ∧ OT (tL k l) w' vs bs' ∧ bs'.Sublist (ob.toList ++ bs)) ∧ Evo [] w w') := by
  have h1 := hO.length; have h2 := hT.len
  obtain rfl : n = l.length := by omega
  refine aT (N := 18) Tryz.func78 rfl rfl rfl ?_; refine csr (cF rfl eJ fun b4 w1 E H W => ?_); have a3 := H; have I := Ge.new (Evo.refl [] w) H; have A := (Evo.refl [] w).then W; refine wnn (aI (csr (aB (aC (bD rfl Tryz.underlying69 rfl) ?_)))); refine wnn (bC (csr (wel ?_))); refine wan (bA rfl (fun a4 => ?_) (fun a4 => ?_))
  ·refine csr (aC (cA (vs := [(0, _)]) dE rfl (cells := [_, _, _, _, _, _, _, _, _]) rfl) ?_); refine aZ rfl rfl aU E rfl rfl ⟨by first | rfl | assumption, by first | rfl | assumption, by first | rfl | assumption, by first | rfl | assumption, by first | rfl | assumption, by first | rfl | assumption, by first | rfl | assumption, by first | rfl | assumption, by first | rfl | assumption, trivial⟩ fun w9 J a0 => ?_
   try simp only [cG, Nat.reduceAdd] at J
   refine wnn (aH (aM (aE (cK rfl (ResOk.cellA rfl bV aU J rfl) ?_)))); obtain rfl := List.length_eq_zero_iff.1 (show l.length = 0 by omega); exact ⟨⟨_, [], rfl, rT 1 _, List.nil_sublist _⟩, (A.step a0 I.mem1)⟩
  refine csr (wel ?_); refine wan (bA rfl (fun a1 => ?_) (fun a1 => ?_))
  ·obtain ⟨x, rfl⟩ := List.length_eq_one_iff.1 (show l.length = 1 by omega); obtain ⟨g1, hg1', ha1, a5⟩ := hO.cells (by simp); have hX := hT.one'; obtain ⟨ra, rc, ka, kc, rfl⟩ := id hX.nine; refine csr (aB ?_); refine aC (fK (n := 0) rfl rfl ha1 dN (by omega)) ?_; refine aC (cY rfl bV aU (vs := [_, _, _, _, _, _, _, _, _]) rfl (a5.evo A (by simp))) ?_; refine aZ rfl rfl aU E rfl rfl ⟨by first | rfl | assumption, by first | rfl | assumption, by first | rfl | assumption, by first | rfl | assumption, by first | rfl | assumption, by first | rfl | assumption, by first | rfl | assumption, by first | rfl | assumption, by first | rfl | assumption, trivial⟩ fun a6 L a2 => ?_; have M := A.step a2 I.mem1
   try simp only [cG, Nat.reduceAdd] at L
   refine wnn (aH (aM (aE (cK rfl (ResOk.cellA rfl bV aU L rfl) ?_)))); exact ⟨⟨_, bs, rfl, hX.evo M (fun b hb h => by cases h), List.sublist_append_right _ _⟩, M⟩
  refine aL (aO (aA (csr (aB (aB (aC (cA (vs := [(0, _), (8, _)]) dE rfl (cells := [_, _, _, _, _, _, _, _, _]) rfl) ?_)))))); refine aZ rfl rfl aU E rfl rfl ⟨by first | rfl | assumption, by first | rfl | assumption, by first | rfl | assumption, by first | rfl | assumption, by first | rfl | assumption, by first | rfl | assumption, by first | rfl | assumption, by first | rfl | assumption, by first | rfl | assumption, trivial⟩ fun a7 O U => ?_; have V := A.step U I.mem1
  try simp only [cG, Nat.reduceAdd] at O
  refine wnn (aH (cK rfl (ResOk.cellA rfl bV aU O rfl) ?_)); rw [XT (by omega)]; exact ⟨⟨_, _, rfl, ot_row k ((hO.evo0 W).evo U (Apart.new (Lt.own hO) H).own1) (hT.evo V (fun b hb h => by cases h)) hl, List.Sublist.refl _⟩, V⟩
theorem one_ok {w : World} (k k2 : Int) (t : Bool) : Calls Tryz.prog 133 #[iv k, iv k2, .bool t] w (Ret fun v w' => KOut w w' v [rxK (if t = true then k2 else k)] ∧ Evo [] w w') := by
  refine aT (N := 12) Tryz.func133 rfl rfl rfl ?_; refine csr (wan (aI (csr (aB (wnn (dW rfl (fun A => ?_) (fun A => ?_)))))))
  ·refine aF (aB (wan (csr (aB (aC (cA (vs := [(0, _)]) dE rfl (cells := [_, _, _, _, _, _, _, _, _]) rfl) ?_))))); refine bL (vs := [_]) rfl cU rfl rfl rfl rfl fun J w1 L M O => ?_; have H := (Evo.refl [] w).then O; refine wan (aH (br1 ?_)); rw [if_pos A]; exact ⟨iA L (rT k2 _) (Fr.nil _) ((Ge.new (Evo.refl [] w) M) _ rfl) H (fun b hb => by cases hb) (Nat.le_refl _), H⟩
  refine aL (aA (csr (aB (aC (cA (vs := [(0, _)]) dE rfl (cells := [_, _, _, _, _, _, _, _, _]) rfl) ?_)))); refine bL (vs := [_]) rfl cU rfl rfl rfl rfl fun J w7 U V I => ?_; have E := (Evo.refl [] w).then I; refine wan (aH (br1 ?_)); rw [if_neg (by simp [A])]; exact ⟨iA U (rT k _) (Fr.nil _) ((Ge.new (Evo.refl [] w) V) _ rfl) E (fun b hb => by cases hb) (Nat.le_refl _), E⟩
theorem jY : iN Tryz.prog 114 = some true := by kernel_rfl
theorem cC : iN Tryz.prog 211 = some true := by kernel_rfl
theorem jB : iN Tryz.prog 26 = some false := by kernel_rfl
theorem kX : dA Tryz.prog 116 4 = some 7 := by kernel_rfl
theorem dH : eQ Tryz.prog 114 = some 4 := by kernel_rfl
theorem bG : eQ Tryz.prog 211 = some 9 := by kernel_rfl
theorem KB : kF Tryz.prog 221 = some #[.string ByteArray.empty, .string ByteArray.empty] := by kernel_rfl
theorem RdAt.mk' {w : World} {b : Nat} {s : ByteArray} {st : PS} {a : Option Addr} {n c : Nat} {ob : Option Nat} (hn : n = st.names.length)
    (hb : w.heap[b]? = some (.cells #[.string s, iv (st.pos : Nat), .bool st.now.fold, .bool st.now.lines, .bool st.now.dots, .bool st.now.lazy, iv (st.opn : Nat), .slice a n c] 116 (0, 0)))
    (ho : OwnS w 9 1 a n c (st.names.map sv) ob) (hne : ∀ g, ob = some g → g ≠ b) : RdAt w b s st a c ob := by subst hn; exact ⟨hb, ho, hne⟩
theorem XZ {w : World} {e : TypeId} {a : Option Addr} {n c : Nat} {l : List ByteArray} {ob : Option Nat} (h : OwnS w e 1 a n c (l.map sv) ob) {k : Nat} (hk : k < l.length) : ∃ g, ob = some g ∧ a = some ⟨g, 0, none⟩ ∧ w.cell? ⟨g, 0 + k * 1, none⟩ = some (sv l[k]) := by
  have hl : l.length = n * 1 := by have := h.length; simpa using this
  obtain ⟨g, hg, ha, hc⟩ := h.cells (by omega)
  refine ⟨g, hg, ha, ?_⟩
  rw [Nat.mul_one]
  exact hc k _ (by simp [hk])
def Full (nm : ByteArray) (ns : List ByteArray) : Prop := ns.length = 100 ∨ (nm ≠ emp ∧ nm ∈ ns)
structure NgP (nm : ByteArray) (ns : List ByteArray) (k : Nat) : Prop where
  hk : k ≤ ns.length
  all : ∀ i (h : i < ns.length), i < k → nm = emp ∨ ns[i] ≠ nm
theorem ng_end {nm : ByteArray} {ns : List ByteArray} {k : Nat} (h : NgP nm ns k) (hk : ns.length ≤ k) (h1 : ns.length ≠ 100) : ¬ Full nm ns := by
  rintro (h2 | ⟨h2, h3⟩)
  · exact h1 h2
  · obtain ⟨i, hi, he⟩ := List.getElem_of_mem h3
    rcases h.all i hi (by omega) with h4 | h4
    · exact h2 h4
    · exact h4 he
theorem NQ {w : World} {b : Nat} {s : ByteArray} {st : PS} {a : Option Addr} {c : Nat} {ob : Option Nat} (hR : RdAt w b s st a c ob) (nm : ByteArray) (hnl : st.names.length ≤ 100) :
    Calls Tryz.prog 147 #[.pointer (some ⟨b, 0, none⟩), .string nm] w (RetP (fun v w' => ¬ Full nm st.names ∧ v = iv ((st.names.length : Int) + 1) ∧ Evo (b :: ob.toList) w w' ∧ ∃ a' c' ob', RdAt w' b s { st with names := st.names ++ [nm] } a' c' ob' ∧ (ob' = ob ∨ ∃ g, ob' = some g ∧ w.heap.size ≤ g)) (fun v w' => Full nm st.names ∧ v = flt 85 ∧ Evo [] w w')) := by
  have hap := hR.ap; refine aT (N := 47) Tryz.func147 rfl rfl rfl ?_; refine csr (wan (aI (csr (aB (aC (aG rfl) (wfl rfl kX rfl jW hR.blk rfl (aC (bD rfl Tryz.underlying22 rfl) ?_))))))); refine wel ?_; refine wnn (bA rfl (fun W => ?_) (fun W => ?_))
  ·refine aF (cE (vs := [_]) cO rfl (eG 85) rfl ?_ ?_)
   ·intro pv wp hpp; obtain ⟨rfl, hpw⟩ := hpp; exact And.intro rfl ⟨_, rfl, .inl (by omega), rfl, ((Evo.refl [] w)).then hpw⟩
   intro _ _ hF; exact hF.elim
  refine aL (aA (aI (csr (aB (aC (aG rfl) (wfl rfl kX rfl jW hR.blk rfl (aC (bD rfl Tryz.underlying22 rfl) ?_))))))); refine aB (wnn (bC ?_)); refine cN (α := Nat) (0) (fun k => [(19, .int .i64 (k : Nat))]) [(0, _), (1, _), (4, _), (17, _), (18, _)] (fun k wr => Evo [] w wr ∧ (NgP nm st.names k)) (fun k => st.names.length - k) ⟨rfl, trivial⟩ ⟨rfl, rfl, rfl, rfl, rfl, trivial⟩ ⟨Evo.refl _ _, ⟨Nat.zero_le _, fun i h h2 => by omega⟩⟩ ?_; rintro k wr3 ⟨A, hng⟩; show CW _ _ _ _ [(19, _), (0, _), (1, _), (4, _), (17, _), (18, _)] _; have L := (Evo.refl [] w).then A; have a5 := (Evo.refl (b :: ob.toList) w).then A; have hngk := hng.hk; refine csr (aC (cP rfl rfl) ?_); refine wnn (aI (bA rfl (fun a0 => ?_) (fun a0 => ?_)))
  ·have hk' : k < st.names.length := by omega
   obtain ⟨g1, hg1, ha1, a6⟩ := XZ hR.own hk'; refine aL (aA (aI (bC (csr ?_)))); refine aC (fK (n := k) rfl rfl ha1 zU (by omega)) ?_; refine aC (aQ rfl cZ ((L).cell a6 (by simp))) ?_; refine wan (csr (aB (aC (JJ rfl rfl) ?_))); refine aB (bF (t := 25) rfl (fun H => ?_) (fun H => ?_))
   ·refine aS (aB (aS (aB (aS (aC (gK rfl rfl) ?_))))); refine bW (wnn (bA rfl (fun I => ?_) (fun I => ?_)))
    ·refine aF (cE (vs := [_]) cO rfl (eG 85) rfl ?_ ?_)
     ·intro pv wp hpp; obtain ⟨rfl, hpw⟩ := hpp; exact And.intro rfl ⟨_, rfl, .inr ⟨H, I ▸ List.getElem_mem hk'⟩, rfl, (L).then hpw⟩
     intro _ _ hF; exact hF.elim
    refine aL (aO (aA (aF ?_))); refine aC (aK rfl rfl (by omega) (by omega)) ?_; refine aB (aP (aW ?_)); refine ⟨k + 1, ?_, ⟨rfl, trivial⟩, ⟨rfl, rfl, rfl, rfl, rfl, trivial⟩, A, ?_⟩
    · omega
    refine ⟨hk', fun i h h2 => ?_⟩
    by_cases e : i = k
    · subst e; exact .inr I
    · exact hng.all i h (by omega)
   refine aN (aN (aN (bM (wnn (cM rfl ?_))))); refine aL (aO (aA (aF ?_))); refine aC (aK rfl rfl (by omega) (by omega)) ?_; refine aB (aP (aW ?_)); refine ⟨k + 1, ?_, ⟨rfl, trivial⟩, ⟨rfl, rfl, rfl, rfl, rfl, trivial⟩, A, ?_⟩
   · omega
   refine ⟨hk', fun i h h2 => ?_⟩
   by_cases e : i = k
   · subst e; exact .inl (Classical.not_not.1 H)
   · exact hng.all i h (by omega)
  refine cJ (bH (bH (cI (aA ?_)))); refine csr (aB (aB (aC (aG rfl) (wfl rfl kX rfl jW (A.blk0 hR.blk) rfl (aB (bL (vs := [_]) rfl wW rfl rfl rfl rfl fun a9 b4 a1 a8 E => ?_)))))); have M := E.blk0 (A.blk0 hR.blk); have hx12 := (L.then E); refine cT rfl rfl rfl rfl vL ((hR.own.evo0 A).evo0 E) (Src.ofOwn a1 ⟨by first | rfl | assumption, trivial⟩) (by omega) fun a2 c2 b5 ob2 a7 O hob32 => ?_; have U := hap.app (Lt.blk M) hob32; have a3 := (a5.then E).step O (fun y hy => .inl (List.mem_cons_of_mem _ hy)); have hob2 := hob32; refine aC (aG rfl) (aC (aD rfl kX) ?_); refine bE rfl rfl (by first | rfl | assumption) zL (O.blk M hap.nmem) rfl fun b6 J V => ?_
  have a4 := a3.step V (fun y hy => .inl (by rw [List.mem_singleton.1 hy]; simp))
  try simp only [cG, Nat.reduceAdd] at J
  refine wnn (csr (aB (aC (aG rfl) (wfl rfl kX rfl jW J rfl (aC (bD rfl Tryz.underlying22 rfl) ?_))))); refine wan (aH (cH (br1 ?_)))
  refine ⟨ng_end hng (by omega) (by omega), by rfl, a4, a2, c2, ob2, RdAt.mk' (by simp) J (by rw [List.map_append]; exact (a7.evo V U.symm.own1)) (fun g hg e => (U) g (congrArg some e.symm) hg), ?_⟩
  rcases hob2 with h | ⟨g, h, h2⟩
  · exact .inl h
  · exact .inr ⟨g, h, Nat.le_trans hx12.size h2⟩
theorem qR : dA Tryz.prog 114 1 = some 1 := by kernel_rfl
theorem vJ : dA Tryz.prog 114 2 = some 2 := by kernel_rfl
theorem qQ : dA Tryz.prog 114 3 = some 3 := by kernel_rfl
theorem eZ : dA Tryz.prog 211 0 = some 0 := by kernel_rfl
theorem iH : dA Tryz.prog 211 2 = some 2 := by kernel_rfl
theorem kT : dA Tryz.prog 211 4 = some 7 := by kernel_rfl
theorem dR : dA Tryz.prog 211 5 = some 8 := by kernel_rfl
theorem eK : eQ Tryz.prog 26 = some 1 := by kernel_rfl
theorem iB : kF Tryz.prog 211 = some #[.int .i64 0, .string ByteArray.empty, .bool false, .bool false, .bool false, .bool false, .bool false, .bool false, .int .i64 0] := by kernel_rfl
def opV (o : Opn) : Array Value := #[iv (o.size : Nat), .string o.name, .bool o.thn.fold, .bool o.thn.lines, .bool o.thn.dots, .bool o.thn.lazy, .bool o.capt, .bool o.sett, iv o.err]
section
variable {s : ByteArray} {i f j : Nat} {b m : Bool} {n : Int} {fl : Fl}
theorem SC (h : s.size ≤ j) : gV s i f j b n m fl = ⟨0, emp, fl, false, false, 84⟩ := by
  cases f with
  | zero => rfl
  | succ f => rw [gV, if_pos h]
theorem ps_i (h : j < s.size) (hc : sb s j = 105) : gV s i (f + 1) j b n m fl = gV s i f (j + 1) b (n + 1) m { fl with fold := b } := by rw [gV, if_neg (by omega), if_pos hc]
theorem ps_m (h : j < s.size) (hc : sb s j = 109) : gV s i (f + 1) j b n m fl = gV s i f (j + 1) b (n + 1) m { fl with lines := b } := by rw [gV, if_neg (by omega), if_neg (by omega), if_pos hc]
theorem ps_s (h : j < s.size) (hc : sb s j = 115) : gV s i (f + 1) j b n m fl = gV s i f (j + 1) b (n + 1) m { fl with dots := b } := by rw [gV, if_neg (by omega), if_neg (by omega), if_neg (by omega), if_pos hc]
theorem ps_u (h : j < s.size) (hc : sb s j = 85) : gV s i (f + 1) j b n m fl = gV s i f (j + 1) b (n + 1) m { fl with lazy := b } := by rw [gV, if_neg (by omega), if_neg (by omega), if_neg (by omega), if_neg (by omega), if_pos hc]
theorem ps_mm (h : j < s.size) (hc : sb s j = 45) : gV s i (f + 1) j b n true fl = ⟨0, emp, fl, false, false, 84⟩ := by rw [gV, if_neg (by omega), if_neg (by omega), if_neg (by omega), if_neg (by omega), if_neg (by omega), if_pos hc, if_pos rfl]
theorem ps_m1 (h : j < s.size) (hc : sb s j = 45) : gV s i (f + 1) j b n false fl = gV s i f (j + 1) false 0 true fl := by rw [gV, if_neg (by omega), if_neg (by omega), if_neg (by omega), if_neg (by omega), if_neg (by omega), if_pos hc, if_neg (by simp)]
theorem XV (h : j < s.size) (hc : sb s j = 58 ∨ sb s j = 41) : gV s i (f + 1) j b n m fl = ⟨j + 1 - i, emp, fl, false, decide (sb s j = 41), if n = 0 then 84 else 0⟩ := by rw [gV, if_neg (by omega), if_neg (by omega), if_neg (by omega), if_neg (by omega), if_neg (by omega), if_neg (by omega), if_pos hc]
theorem ps_no (h : j < s.size) (h1 : ¬ sb s j = 105) (h2 : ¬ sb s j = 109) (h3 : ¬ sb s j = 115) (h4 : ¬ sb s j = 85) (h5 : ¬ sb s j = 45) (h6 : ¬ (sb s j = 58 ∨ sb s j = 41)) : gV s i (f + 1) j b n m fl = ⟨0, emp, fl, false, false, 84⟩ := by rw [gV, if_neg (by omega), if_neg h1, if_neg h2, if_neg h3, if_neg h4, if_neg h5, if_neg h6]
end
structure SeG where
  f : Nat
  k : Nat
  q : Bool
  n : Int
  m : Bool
  fl : Fl
structure SeI (w wr : World) (b3 b4 : Nat) (s : ByteArray) (i : Nat) (fl0 : Fl) (x : SeG) : Prop where
  hk : i + x.k ≤ s.size
  hf : s.size ≤ x.f + (i + x.k)
  n0 : 0 ≤ x.n
  n1 : x.n ≤ x.k
  eq : gV s i s.size (i + 2) true 0 false fl0 = gV s i x.f (i + x.k) x.q x.n x.m x.fl
  hb3 : wr.heap[b3]? = some (.cells #[iv 0, .string emp, .bool x.fl.fold, .bool x.fl.lines, .bool x.fl.dots, .bool x.fl.lazy, .bool false, .bool false, iv 0] 211 (0, 0))
  hb4 : wr.heap[b4]? = some (.cells #[iv 0, .string emp, .bool false, .bool false, .bool false, .bool false, .bool false, .bool false, iv 0] 211 (0, 0))
  g3 : Ge w (some b3)
  g4 : Ge w (some b4)
  a34 : Apart (some b3) (some b4)
theorem RN {w : World} (s : ByteArray) (i : Nat) (fl0 : Fl) (hi : i + 2 ≤ s.size) (hs : s.size ≤ 1000000) :
    Calls Tryz.prog 159 #[.string (s.extract i s.size), .agg (opV ⟨0, emp, fl0, false, false, 0⟩)] w (Ret fun v w' => v = .agg (opV (gV s i s.size (i + 2) true 0 false fl0)) ∧ Evo [] w w') := by
  have hrs := fL (s := s) (a := i) (Nat.le_refl s.size); show Calls Tryz.prog 159 #[.string (s.extract i s.size), .agg #[iv 0, .string emp, .bool fl0.fold, .bool fl0.lines, .bool fl0.dots, .bool fl0.lazy, .bool false, .bool false, iv 0]] w _; refine aT (N := 64) Tryz.func159 rfl rfl rfl ?_; refine csr (fT rfl rfl fun b3 w1 g6 g7 h8 => ?_); have h9 := g7; have g8 := (Evo.refl [] w).then h8; refine cF rfl iB fun b4 w7 i1 d0 d3 => ?_; have i2 := d0; refine wnn (csr (bR (bR (wan (aI (csr (wan (bC ?_))))))))
  refine cN (α := SeG) (⟨s.size, 2, true, 0, false, fl0⟩) (fun x => [(8, .int .i64 (x.k : Nat)), (5, .bool x.q), (6, .int .i64 x.n), (7, .bool x.m)]) [(0, _), (3, _), (4, _)] (fun x wr => Evo [] w wr ∧ (SeI w wr b3 b4 s i fl0 x)) (fun x => x.f) ⟨rfl, rfl, rfl, rfl, trivial⟩ ⟨rfl, rfl, rfl, trivial⟩ ⟨(g8.then d3), ⟨hi, (by show s.size ≤ s.size + (i + 2); omega), Int.le_refl _, (by show (0 : Int) ≤ ((2 : Nat) : Int); omega), rfl, (d3.blk0 g6), i1, (Ge.new (Evo.refl [] w) g7), (Ge.new g8 d0), (Apart.new (Lt.blk g6) d0)⟩⟩ ?_
  rintro ⟨f, k, q, n, m, fl⟩ wr15 ⟨A, ⟨hk, hf, i3, i4, heq, hb3, hb4, hg3, hg4, ha34⟩⟩; show CW _ _ _ _ [(8, .int .i64 (k : Nat)), (5, .bool q), (6, .int .i64 n), (7, .bool m), (0, _), (3, _), (4, _)] _
  try dsimp only at hk hf i3 i4 heq hb3 hb4 hg3 hg4 ha34
  refine aI (csr (aB (aB (aC (cD rfl Tryz.underlying9 rfl) ?_)))); refine aC (cP rfl rfl) ?_; refine wnn (bA rfl (fun g9 => ?_) (fun g9 => ?_))
  ·have hik : i + k < s.size := by omega
   have e0 : sb (s.extract i s.size) k = sb s (i + k) := mY hik; obtain ⟨f', rfl⟩ : ∃ f', f = f' + 1 := ⟨f - 1, by omega⟩; have hb9 := jN s (i + k); refine aL (aA (aI (bC (aI (csr (aB (aB ?_))))))); refine aC (jD (n := k) rfl rfl Tryz.underlying9 rfl (by omega) e0) ?_; refine wnn (bC (csr (wel ?_))); refine wan (bA rfl (fun h0 => ?_) (fun h0 => ?_))
   ·refine aF (aB (aC (aD rfl iH) (aC (aD rfl qS) ?_))); refine bE rfl rfl (by first | rfl | assumption) fE hb3 rfl fun j5 d4 d5 => ?_
    try simp only [cG, Nat.reduceAdd] at d4
    refine aP (aO (aA (aF (aB ?_)))); refine aC (aK rfl rfl (by omega) (by omega)) ?_; refine bR (aP (aO (aA (aF (aB ?_))))); refine aC (aK rfl rfl (by omega) (by omega)) ?_; refine bR (aP (aW ?_)); refine ⟨⟨f', k + 1, q, n + 1, m, { fl with fold := q }⟩, ?_, ⟨rfl, rfl, rfl, rfl, trivial⟩, ⟨rfl, rfl, rfl, trivial⟩, (A.step d5 hg3.mem1), ?_⟩
    · (try dsimp only); show f' < f' + 1; omega
    try dsimp only
    exact ⟨(by show i + (k + 1) ≤ s.size; omega), (by show s.size ≤ f' + (i + (k + 1)); omega), (by show 0 ≤ n + 1; omega), (by show n + 1 ≤ ((k + 1 : Nat) : Int); omega), heq.trans (ps_i (by omega) (by omega)), d4, (d5.blk hb4 ha34.symm.nmem1), hg3, hg4, ha34⟩
   refine csr (wel ?_); refine wan (bA rfl (fun h1 => ?_) (fun h1 => ?_))
   ·refine aF (aB (aC (aD rfl iH) (aC (aD rfl qR) ?_))); refine bE rfl rfl (by first | rfl | assumption) fE hb3 rfl fun j6 d6 d7 => ?_
    try simp only [cG, Nat.reduceAdd] at d6
    refine aP (aO (aA (aF (aB ?_)))); refine aC (aK rfl rfl (by omega) (by omega)) ?_; refine bR (aP (aO (aA (aF (aB ?_))))); refine aC (aK rfl rfl (by omega) (by omega)) ?_; refine bR (aP (aW ?_)); refine ⟨⟨f', k + 1, q, n + 1, m, { fl with lines := q }⟩, ?_, ⟨rfl, rfl, rfl, rfl, trivial⟩, ⟨rfl, rfl, rfl, trivial⟩, (A.step d7 hg3.mem1), ?_⟩
    · (try dsimp only); show f' < f' + 1; omega
    try dsimp only
    exact ⟨(by show i + (k + 1) ≤ s.size; omega), (by show s.size ≤ f' + (i + (k + 1)); omega), (by show 0 ≤ n + 1; omega), (by show n + 1 ≤ ((k + 1 : Nat) : Int); omega), heq.trans (ps_m (by omega) (by omega)), d6, (d7.blk hb4 ha34.symm.nmem1), hg3, hg4, ha34⟩
   refine csr (wel ?_); refine wan (bA rfl (fun h2 => ?_) (fun h2 => ?_))
   ·refine aF (aB (aC (aD rfl iH) (aC (aD rfl vJ) ?_))); refine bE rfl rfl (by first | rfl | assumption) fE hb3 rfl fun j7 d8 d9 => ?_
    try simp only [cG, Nat.reduceAdd] at d8
    refine aP (aO (aA (aF (aB ?_)))); refine aC (aK rfl rfl (by omega) (by omega)) ?_; refine bR (aP (aO (aA (aF (aB ?_))))); refine aC (aK rfl rfl (by omega) (by omega)) ?_; refine bR (aP (aW ?_)); refine ⟨⟨f', k + 1, q, n + 1, m, { fl with dots := q }⟩, ?_, ⟨rfl, rfl, rfl, rfl, trivial⟩, ⟨rfl, rfl, rfl, trivial⟩, (A.step d9 hg3.mem1), ?_⟩
    · (try dsimp only); show f' < f' + 1; omega
    try dsimp only
    exact ⟨(by show i + (k + 1) ≤ s.size; omega), (by show s.size ≤ f' + (i + (k + 1)); omega), (by show 0 ≤ n + 1; omega), (by show n + 1 ≤ ((k + 1 : Nat) : Int); omega), heq.trans (ps_s (by omega) (by omega)), d8, (d9.blk hb4 ha34.symm.nmem1), hg3, hg4, ha34⟩
   refine csr (wel ?_); refine wan (bA rfl (fun h3 => ?_) (fun h3 => ?_))
   ·refine aF (aB (aC (aD rfl iH) (aC (aD rfl qQ) ?_))); refine bE rfl rfl (by first | rfl | assumption) fE hb3 rfl fun j8 e3 e4 => ?_
    try simp only [cG, Nat.reduceAdd] at e3
    refine aP (aO (aA (aF (aB ?_)))); refine aC (aK rfl rfl (by omega) (by omega)) ?_; refine bR (aP (aO (aA (aF (aB ?_))))); refine aC (aK rfl rfl (by omega) (by omega)) ?_; refine bR (aP (aW ?_)); refine ⟨⟨f', k + 1, q, n + 1, m, { fl with lazy := q }⟩, ?_, ⟨rfl, rfl, rfl, rfl, trivial⟩, ⟨rfl, rfl, rfl, trivial⟩, (A.step e4 hg3.mem1), ?_⟩
    · (try dsimp only); show f' < f' + 1; omega
    try dsimp only
    exact ⟨(by show i + (k + 1) ≤ s.size; omega), (by show s.size ≤ f' + (i + (k + 1)); omega), (by show 0 ≤ n + 1; omega), (by show n + 1 ≤ ((k + 1 : Nat) : Int); omega), heq.trans (ps_u (by omega) (by omega)), e3, (e4.blk hb4 ha34.symm.nmem1), hg3, hg4, ha34⟩
   refine csr (wel ?_); refine wan (bA rfl (fun h4 => ?_) (fun h4 => ?_))
   ·refine aI (csr (aB (wnn (dW rfl (fun a4 => ?_) (fun a4 => ?_)))))
    ·subst a4; refine csr (aC (aD rfl dR) ?_); refine bE rfl rfl (by first | rfl | assumption) eK hb3 rfl fun j9 e5 e6 => ?_
     try simp only [cG, Nat.reduceAdd] at e5
     refine wnn (csr (aC (bT rfl cC bG e5 rfl) ?_)); refine aZ rfl rfl bG (e6.blk hb4 ha34.symm.nmem1) rfl rfl ⟨by first | rfl | assumption, by first | rfl | assumption, by first | rfl | assumption, by first | rfl | assumption, by first | rfl | assumption, by first | rfl | assumption, by first | rfl | assumption, by first | rfl | assumption, by first | rfl | assumption, trivial⟩ fun k0 e7 h5 => ?_
     try simp only [cG, Nat.reduceAdd] at e7
     refine wnn (aH (aE (aM (aE (aM (aE (aE (aM (aE (cK rfl (ResOk.cellA rfl cC bG e7 rfl) ?_)))))))))); have hfin := heq.trans (ps_mm (by omega) (by omega)); rw [hfin]; exact ⟨rfl, ((A.step e6 hg3.mem1).step h5 hg4.mem1)⟩
    subst a4; refine aL (aA (aF (bR (bR (bR (aP (aO (aA (aF (aB ?_)))))))))); refine aC (aK rfl rfl (by omega) (by omega)) ?_; refine bR (aP (aO (aA (aF (aB ?_))))); refine aC (aK rfl rfl (by omega) (by omega)) ?_; refine bR (aP (aW ?_)); refine ⟨⟨f', k + 1, false, 0, true, fl⟩, ?_, ⟨rfl, rfl, rfl, rfl, trivial⟩, ⟨rfl, rfl, rfl, trivial⟩, A, ?_⟩
    · (try dsimp only); show f' < f' + 1; omega
    try dsimp only
    exact ⟨(by show i + (k + 1) ≤ s.size; omega), (by show s.size ≤ f' + (i + (k + 1)); omega), Int.le_refl _, (by show (0 : Int) ≤ ((k + 1 : Nat) : Int); omega), heq.trans (ps_m1 (by omega) (by omega)), hb3, hb4, hg3, hg4, ha34⟩
   refine aI (csr (wel ?_)); refine wan (bA rfl (fun M => ?_) (fun M => ?_))
   ·refine aL (aA (bA rfl (fun M => ?_) (fun M => ?_)))
    ·refine aI (csr (aB (wel ?_))); refine wnn (bA rfl (fun I => ?_) (fun I => ?_))
     ·refine aF (aC (aD rfl dR) ?_); refine bE rfl rfl (by first | rfl | assumption) eK hb3 rfl fun k1 e8 e9 => ?_
      try simp only [cG, Nat.reduceAdd] at e8
      refine wnn (aI ?_); refine eX (fun w0 w' => Evo [b3] w0 w') (by kernel_rfl) (fun J a5 => ?_); refine aet 0 rfl (fun _ hS => aY rfl) (Evo.refl [b3] J) ?_; refine aet 1 rfl (fun _ hS => aK rfl rfl (by omega) (by omega)) (Evo.refl [b3] J) ?_; refine aet 2 rfl (fun _ hS => aY rfl) (Evo.refl [b3] J) ?_; refine aet 3 rfl (fun _ hS => aY rfl) (Evo.refl [b3] J) ?_; refine aet 4 rfl (fun _ hS => jD (n := k) rfl rfl Tryz.underlying9 rfl (by omega) e0) (Evo.refl [b3] J) ?_; refine aet 5 rfl (fun _ hS => lZ rfl rfl) (Evo.refl [b3] J) ?_; refine aet 6 rfl (fun _ hS => aD rfl eZ) (Evo.refl [b3] J) ?_; refine bS [7] (by kernel_rfl) rfl ⟨?_, trivial⟩; refine bY rfl ?_; refine bE rfl rfl (by first | rfl | assumption) bZ (a5.blk0 e8) rfl fun k2 f0 a6 => ?_; have a7 := (Evo.refl [b3] J).step a6 (fun y hy => .inl hy)
      try simp only [cG, Nat.reduceAdd] at f0
      refine aP (bN (.inl a7) ?_); refine aet 8 rfl (fun _ hS => aD rfl kT) a7 ?_; refine bS [9] (by kernel_rfl) rfl ⟨?_, trivial⟩; refine bY rfl ?_; refine bE rfl rfl (by first | rfl | assumption) fE f0 rfl fun k3 f5 a8 => ?_
      try simp only [cG, Nat.reduceAdd] at f5
      refine aP (bN (.inl (a7.step a8 (fun y hy => .inl hy))) ?_); refine cV (by kernel_rfl) (aA ?_); refine csr (aC (bT rfl cC bG f5 rfl) ?_); refine aZ rfl rfl bG (a8.blk (a6.blk (a5.blk0 (e9.blk hb4 ha34.symm.nmem1)) ha34.symm.nmem1) ha34.symm.nmem1) rfl rfl ⟨by first | rfl | assumption, by first | rfl | assumption, by first | rfl | assumption, by first | rfl | assumption, by first | rfl | assumption, by first | rfl | assumption, by first | rfl | assumption, by first | rfl | assumption, by first | rfl | assumption, trivial⟩ fun k4 f6 h6 => ?_
      try simp only [cG, Nat.reduceAdd] at f6
      refine wnn (aH (aM (aE (aM (aE (aE (aM (aE (cK rfl (ResOk.cellA rfl cC bG f6 rfl) ?_))))))))); have hfin := heq.trans (XV (by omega) (by omega)); rw [if_pos I] at hfin; rw [hfin]
      have e1 : (((i + k + 1 - i : Nat)) : Int) = (k : Int) + 1 := by omega
      have e2 : decide (((sb s (i + k) : Nat) : Int) = 41) = decide (sb s (i + k) = 41) := decide_eq_decide.2 (by omega); refine ⟨?_, (((((A.step e9 hg3.mem1).then a5).step a6 hg3.mem1).step a8 hg3.mem1).step h6 hg4.mem1)⟩; simp only [opV, e1, e2]
     refine aL (aA (aI ?_)); refine eX (fun w0 w' => Evo [b3] w0 w') (by kernel_rfl) (fun L a9 => ?_); refine aet 0 rfl (fun _ hS => aY rfl) (Evo.refl [b3] L) ?_; refine aet 1 rfl (fun _ hS => aK rfl rfl (by omega) (by omega)) (Evo.refl [b3] L) ?_; refine aet 2 rfl (fun _ hS => aY rfl) (Evo.refl [b3] L) ?_; refine aet 3 rfl (fun _ hS => aY rfl) (Evo.refl [b3] L) ?_; refine aet 4 rfl (fun _ hS => jD (n := k) rfl rfl Tryz.underlying9 rfl (by omega) e0) (Evo.refl [b3] L) ?_; refine aet 5 rfl (fun _ hS => lZ rfl rfl) (Evo.refl [b3] L) ?_; refine aet 6 rfl (fun _ hS => aD rfl eZ) (Evo.refl [b3] L) ?_; refine bS [7] (by kernel_rfl) rfl ⟨?_, trivial⟩; refine bY rfl ?_; refine bE rfl rfl (by first | rfl | assumption) bZ (a9.blk0 hb3) rfl fun k5 f7 b5 => ?_; have b6 := (Evo.refl [b3] L).step b5 (fun y hy => .inl hy)
     try simp only [cG, Nat.reduceAdd] at f7
     refine aP (bN (.inl b6) ?_); refine aet 8 rfl (fun _ hS => aD rfl kT) b6 ?_; refine bS [9] (by kernel_rfl) rfl ⟨?_, trivial⟩; refine bY rfl ?_; refine bE rfl rfl (by first | rfl | assumption) fE f7 rfl fun k6 f8 b7 => ?_
     try simp only [cG, Nat.reduceAdd] at f8
     refine aP (bN (.inl (b6.step b7 (fun y hy => .inl hy))) ?_); refine cV (by kernel_rfl) (aA ?_); refine csr (aC (bT rfl cC bG f8 rfl) ?_); refine aZ rfl rfl bG (b7.blk (b5.blk (a9.blk0 hb4) ha34.symm.nmem1) ha34.symm.nmem1) rfl rfl ⟨by first | rfl | assumption, by first | rfl | assumption, by first | rfl | assumption, by first | rfl | assumption, by first | rfl | assumption, by first | rfl | assumption, by first | rfl | assumption, by first | rfl | assumption, by first | rfl | assumption, trivial⟩ fun k7 f9 h7 => ?_
     try simp only [cG, Nat.reduceAdd] at f9
     refine wnn (aH (aM (aE (aM (aE (aE (aM (aE (cK rfl (ResOk.cellA rfl cC bG f9 rfl) ?_))))))))); have hfin := heq.trans (XV (by omega) (by omega)); rw [if_neg I] at hfin; rw [hfin]
     have e1 : (((i + k + 1 - i : Nat)) : Int) = (k : Int) + 1 := by omega
     have e2 : decide (((sb s (i + k) : Nat) : Int) = 41) = decide (sb s (i + k) = 41) := decide_eq_decide.2 (by omega); refine ⟨?_, ((((A.then a9).step b5 hg3.mem1).step b7 hg3.mem1).step h7 hg4.mem1)⟩; simp only [opV, e1, e2]
    exfalso; omega
   refine aF (wel ?_); refine wan (bA rfl (fun M => ?_) (fun M => ?_))
   ·refine aI (csr (aB (wel ?_))); refine wnn (bA rfl (fun I => ?_) (fun I => ?_))
    ·refine aF (aC (aD rfl dR) ?_); refine bE rfl rfl (by first | rfl | assumption) eK hb3 rfl fun k8 g0 g1 => ?_
     try simp only [cG, Nat.reduceAdd] at g0
     refine wnn (aI ?_); refine eX (fun w0 w' => Evo [b3] w0 w') (by kernel_rfl) (fun E O => ?_); refine aet 0 rfl (fun _ hS => aY rfl) (Evo.refl [b3] E) ?_; refine aet 1 rfl (fun _ hS => aK rfl rfl (by omega) (by omega)) (Evo.refl [b3] E) ?_; refine aet 2 rfl (fun _ hS => aY rfl) (Evo.refl [b3] E) ?_; refine aet 3 rfl (fun _ hS => aY rfl) (Evo.refl [b3] E) ?_; refine aet 4 rfl (fun _ hS => jD (n := k) rfl rfl Tryz.underlying9 rfl (by omega) e0) (Evo.refl [b3] E) ?_; refine aet 5 rfl (fun _ hS => lZ rfl rfl) (Evo.refl [b3] E) ?_; refine aet 6 rfl (fun _ hS => aD rfl eZ) (Evo.refl [b3] E) ?_; refine bS [7] (by kernel_rfl) rfl ⟨?_, trivial⟩; refine bY rfl ?_; refine bE rfl rfl (by first | rfl | assumption) bZ (O.blk0 g0) rfl fun i5 b8 U => ?_; have V := (Evo.refl [b3] E).step U (fun y hy => .inl hy)
     try simp only [cG, Nat.reduceAdd] at b8
     refine aP (bN (.inl V) ?_); refine aet 8 rfl (fun _ hS => aD rfl kT) V ?_; refine bS [9] (by kernel_rfl) rfl ⟨?_, trivial⟩; refine bY rfl ?_; refine bE rfl rfl (by first | rfl | assumption) fE b8 rfl fun i6 b9 W => ?_
     try simp only [cG, Nat.reduceAdd] at b9
     refine aP (bN (.inl (V.step W (fun y hy => .inl hy))) ?_); refine cV (by kernel_rfl) (aA ?_); refine csr (aC (bT rfl cC bG b9 rfl) ?_); refine aZ rfl rfl bG (W.blk (U.blk (O.blk0 (g1.blk hb4 ha34.symm.nmem1)) ha34.symm.nmem1) ha34.symm.nmem1) rfl rfl ⟨by first | rfl | assumption, by first | rfl | assumption, by first | rfl | assumption, by first | rfl | assumption, by first | rfl | assumption, by first | rfl | assumption, by first | rfl | assumption, by first | rfl | assumption, by first | rfl | assumption, trivial⟩ fun i7 c0 g2 => ?_
     try simp only [cG, Nat.reduceAdd] at c0
     refine wnn (aH (aM (aE (aM (aE (aE (aM (aE (cK rfl (ResOk.cellA rfl cC bG c0 rfl) ?_))))))))); have hfin := heq.trans (XV (by omega) (by omega)); rw [if_pos I] at hfin; rw [hfin]
     have e1 : (((i + k + 1 - i : Nat)) : Int) = (k : Int) + 1 := by omega
     have e2 : decide (((sb s (i + k) : Nat) : Int) = 41) = decide (sb s (i + k) = 41) := decide_eq_decide.2 (by omega); refine ⟨?_, (((((A.step g1 hg3.mem1).then O).step U hg3.mem1).step W hg3.mem1).step g2 hg4.mem1)⟩; simp only [opV, e1, e2]
    refine aL (aA (aI ?_)); refine eX (fun w0 w' => Evo [b3] w0 w') (by kernel_rfl) (fun H a0 => ?_); refine aet 0 rfl (fun _ hS => aY rfl) (Evo.refl [b3] H) ?_; refine aet 1 rfl (fun _ hS => aK rfl rfl (by omega) (by omega)) (Evo.refl [b3] H) ?_; refine aet 2 rfl (fun _ hS => aY rfl) (Evo.refl [b3] H) ?_; refine aet 3 rfl (fun _ hS => aY rfl) (Evo.refl [b3] H) ?_; refine aet 4 rfl (fun _ hS => jD (n := k) rfl rfl Tryz.underlying9 rfl (by omega) e0) (Evo.refl [b3] H) ?_; refine aet 5 rfl (fun _ hS => lZ rfl rfl) (Evo.refl [b3] H) ?_; refine aet 6 rfl (fun _ hS => aD rfl eZ) (Evo.refl [b3] H) ?_; refine bS [7] (by kernel_rfl) rfl ⟨?_, trivial⟩; refine bY rfl ?_; refine bE rfl rfl (by first | rfl | assumption) bZ (a0.blk0 hb3) rfl fun i8 c1 a1 => ?_; have a2 := (Evo.refl [b3] H).step a1 (fun y hy => .inl hy)
    try simp only [cG, Nat.reduceAdd] at c1
    refine aP (bN (.inl a2) ?_); refine aet 8 rfl (fun _ hS => aD rfl kT) a2 ?_; refine bS [9] (by kernel_rfl) rfl ⟨?_, trivial⟩; refine bY rfl ?_; refine bE rfl rfl (by first | rfl | assumption) fE c1 rfl fun i9 c2 a3 => ?_
    try simp only [cG, Nat.reduceAdd] at c2
    refine aP (bN (.inl (a2.step a3 (fun y hy => .inl hy))) ?_); refine cV (by kernel_rfl) (aA ?_); refine csr (aC (bT rfl cC bG c2 rfl) ?_); refine aZ rfl rfl bG (a3.blk (a1.blk (a0.blk0 hb4) ha34.symm.nmem1) ha34.symm.nmem1) rfl rfl ⟨by first | rfl | assumption, by first | rfl | assumption, by first | rfl | assumption, by first | rfl | assumption, by first | rfl | assumption, by first | rfl | assumption, by first | rfl | assumption, by first | rfl | assumption, by first | rfl | assumption, trivial⟩ fun j0 c3 g3 => ?_
    try simp only [cG, Nat.reduceAdd] at c3
    refine wnn (aH (aM (aE (aM (aE (aE (aM (aE (cK rfl (ResOk.cellA rfl cC bG c3 rfl) ?_))))))))); have hfin := heq.trans (XV (by omega) (by omega)); rw [if_neg I] at hfin; rw [hfin]
    have e1 : (((i + k + 1 - i : Nat)) : Int) = (k : Int) + 1 := by omega
    have e2 : decide (((sb s (i + k) : Nat) : Int) = 41) = decide (sb s (i + k) = 41) := decide_eq_decide.2 (by omega); refine ⟨?_, ((((A.then a0).step a1 hg3.mem1).step a3 hg3.mem1).step g3 hg4.mem1)⟩; simp only [opV, e1, e2]
   refine csr (aC (aD rfl dR) ?_); refine bE rfl rfl (by first | rfl | assumption) eK hb3 rfl fun j1 c4 c5 => ?_
   try simp only [cG, Nat.reduceAdd] at c4
   refine wnn (csr (aC (bT rfl cC bG c4 rfl) ?_)); refine aZ rfl rfl bG (c5.blk hb4 ha34.symm.nmem1) rfl rfl ⟨by first | rfl | assumption, by first | rfl | assumption, by first | rfl | assumption, by first | rfl | assumption, by first | rfl | assumption, by first | rfl | assumption, by first | rfl | assumption, by first | rfl | assumption, by first | rfl | assumption, trivial⟩ fun j2 c6 g4 => ?_
   try simp only [cG, Nat.reduceAdd] at c6
   refine wnn (aH (aM (aE (aM (aE (aE (aM (aE (cK rfl (ResOk.cellA rfl cC bG c6 rfl) ?_))))))))); have hfin := heq.trans (ps_no (by omega) (by omega) (by omega) (by omega) (by omega) (by omega) (by omega)); rw [hfin]; exact ⟨rfl, ((A.step c5 hg3.mem1).step g4 hg4.mem1)⟩
  refine cJ (bH (bH (cI (aA ?_)))); refine csr (aC (aD rfl dR) ?_); refine bE rfl rfl (by first | rfl | assumption) eK hb3 rfl fun j3 c7 c8 => ?_
  try simp only [cG, Nat.reduceAdd] at c7
  refine wnn (csr (aC (bT rfl cC bG c7 rfl) ?_)); refine aZ rfl rfl bG (c8.blk hb4 ha34.symm.nmem1) rfl rfl ⟨by first | rfl | assumption, by first | rfl | assumption, by first | rfl | assumption, by first | rfl | assumption, by first | rfl | assumption, by first | rfl | assumption, by first | rfl | assumption, by first | rfl | assumption, by first | rfl | assumption, trivial⟩ fun j4 c9 g5 => ?_
  try simp only [cG, Nat.reduceAdd] at c9
  refine wnn (aH (cK rfl (ResOk.cellA rfl cC bG c9 rfl) ?_)); have hfin := heq.trans (SC (by omega)); rw [hfin]; exact ⟨rfl, ((A.step c8 hg3.mem1).step g5 hg4.mem1)⟩
theorem FA : Build Tryz.prog 211 #[(0, 1), (1, 1), (2, 4), (6, 1), (7, 1), (8, 1)] #[.int .i64 0, .string ByteArray.empty, .bool false, .bool false, .bool false, .bool false, .bool false, .bool false, .int .i64 0] := ⟨_, .agg #[.int .i64 0, .string ByteArray.empty, .bool false, .bool false, .bool false, .bool false, .bool false, .bool false, .int .i64 0], Tryz.underlying211, by kernel_rfl, rfl, fun w => by kernel_rfl⟩
theorem jI : dA Tryz.prog 211 1 = some 1 := by kernel_rfl
theorem gQ : dA Tryz.prog 211 3 = some 6 := by kernel_rfl
theorem LU : cX Tryz.prog 159 := ⟨_, Tryz.func159, by kernel_rfl, by kernel_rfl⟩
def hd (k : Nat) : ByteArray := if k = 0 then ByteArray.mk #[40, 63, 80, 60] else ByteArray.mk #[40, 63, 60]
theorem hd_sz (k : Nat) : (k = 0 ∧ (hd k).size = 4) ∨ (k ≠ 0 ∧ (hd k).size = 3) := by
  unfold hd
  by_cases h : k = 0
  · rw [if_pos h]; exact .inl ⟨h, rfl⟩
  · rw [if_neg h]; exact .inr ⟨h, rfl⟩
theorem part_hd {k : Nat} (hk : k < 2) (w : World) : (part 9 #[.string (ByteArray.mk #[40, 63, 80, 60]), .string (ByteArray.mk #[40, 63, 60])] (k * 1)).run Tryz.prog w = .ok (.string (hd k)) w := by
  match k, hk with
  | 0, _ => exact FR w cZ rfl
  | 1, _ => exact FR w cZ rfl
theorem CO {s : ByteArray} {i k : Nat} (hi : i ≤ s.size) (h0 : isB s i 40 ∧ isB s (i + 1) 63) : Pre (s.extract i s.size) (hd k) ↔ (k = 0 ∧ isB s (i + 2) 80 ∧ isB s (i + 3) 60) ∨ (k ≠ 0 ∧ isB s (i + 2) 60) := by
  unfold hd
  by_cases h : k = 0
  · rw [if_pos h, pre4 hi]
    exact ⟨fun h1 => .inl ⟨h, h1.2.2⟩, fun h1 => by rcases h1 with h1 | h1; exact ⟨h0.1, h0.2, h1.2⟩; exact absurd h h1.1⟩
  · rw [if_neg h, pre3 hi]
    exact ⟨fun h1 => .inr ⟨h, h1.2.2⟩, fun h1 => by rcases h1 with h1 | h1; exact absurd h1.1 h; exact ⟨h0.1, h0.2, h1.2⟩⟩
theorem NI {s : ByteArray} {i : Nat} {fl : Fl} (h : ¬ (isB s i 40 ∧ isB s (i + 1) 63)) : fN s i fl = ⟨1, emp, fl, true, false, 0⟩ := by unfold fN; rw [if_pos h]
theorem YC {s : ByteArray} {i k : Nat} {fl : Fl} (hi : i ≤ s.size) (h0 : isB s i 40 ∧ isB s (i + 1) 63) (hk : k < 2) (h1 : Pre (s.extract i s.size) (hd k)) (h2 : ∀ j, j < k → ¬ Pre (s.extract i s.size) (hd j)) : fN s i fl = oY s i (hd k).size fl := by
  rcases (show k = 0 ∨ k = 1 by omega) with rfl | rfl
  · unfold fN
    rw [if_neg (fun h => h h0), show (hd 0).size = 4 from rfl]
    rcases (CO hi h0).1 h1 with h3 | h3
    · exact if_pos h3.2
    · exact absurd rfl h3.1
  · unfold fN
    rw [if_neg (fun h => h h0), show (hd 1).size = 3 from rfl, if_neg (fun h => h2 0 (by omega) ((CO hi h0).2 (.inl ⟨rfl, h⟩)))]
    rcases (CO hi h0).1 h1 with h3 | h3
    · exact absurd h3.1 (by omega)
    · exact if_pos h3.2
theorem open_no {s : ByteArray} {i : Nat} {fl : Fl} (hi : i ≤ s.size) (h0 : isB s i 40 ∧ isB s (i + 1) 63) (h2 : ∀ j, j < 2 → ¬ Pre (s.extract i s.size) (hd j)) : fN s i fl = if isB s (i + 2) 58 then ⟨3, emp, fl, false, false, 0⟩ else gV s i s.size (i + 2) true 0 false fl := by
  unfold fN
  rw [if_neg (fun h => h h0), if_neg (fun h => h2 0 (by omega) ((CO hi h0).2 (.inl ⟨rfl, h⟩))), if_neg (fun h => h2 1 (by omega) ((CO hi h0).2 (.inr ⟨by omega, h⟩)))]
theorem CS {w : World} {b : Nat} {s : ByteArray} {st : PS} {a : Option Addr} {c : Nat} {T : TypeId} {z : Nat × Nat} (h : w.heap[b]? = some (.cells (rdc s st a c) T z)) : ∀ j v, ([.bool st.now.fold, .bool st.now.lines, .bool st.now.dots, .bool st.now.lazy] : List Value)[j]? = some v → w.cell? ⟨b, 2 + j, none⟩ = some v
  | 0, v, e => by cases e; exact eY h rfl
  | 1, v, e => by cases e; exact eY h rfl
  | 2, v, e => by cases e; exact eY h rfl
  | 3, v, e => by cases e; exact eY h rfl
  | j + 4, v, e => by cases e
theorem pWord_go {s : ByteArray} {f j : Nat} (h : j < s.size) (h2 : gC (sb s j)) : gY s (f + 1) j = gY s f (j + 1) := by rw [gY, if_pos ⟨h, h2⟩]
theorem jF {s : ByteArray} {f j : Nat} (h : ¬ (j < s.size ∧ gC (sb s j))) : gY s f j = j := by
  cases f with
  | zero => rfl
  | succ f => rw [gY, if_neg h]
theorem lL {s : ByteArray} {i h : Nat} {fl : Fl} {j : Nat} (e : gY s s.size (i + h) = j) (hc : j = i + h ∨ ¬ isB s j 62) : oY s i h fl = ⟨0, emp, fl, false, false, 85⟩ := by unfold oY; rw [e, if_pos hc]
theorem qZ {s : ByteArray} {i h : Nat} {fl : Fl} {j : Nat} (e : gY s s.size (i + h) = j) (hc : ¬ (j = i + h ∨ ¬ isB s j 62)) : oY s i h fl = ⟨j + 1 - i, s.extract (i + h) j, fl, true, false, 0⟩ := by unfold oY; rw [e, if_neg hc]
structure HdI (w wr : World) (b2 b4 : Nat) (s : ByteArray) (i : Nat) (fl : Fl) (k : Nat) : Prop where
  hk : k ≤ 2
  no : ∀ j, j < k → ¬ Pre (s.extract i s.size) (hd j)
structure WdG where
  f : Nat
  m : Nat
structure WdI (s : ByteArray) (i h : Nat) (x : WdG) : Prop where
  hm : i + x.m ≤ s.size
  hh : h ≤ x.m
  hf : s.size ≤ x.f + (i + x.m)
  eq : gY s s.size (i + h) = gY s x.f (i + x.m)
theorem pA {w : World} {b : Nat} {s : ByteArray} {st : PS} {a : Option Addr} {c : Nat} {ob : Option Nat} (hR : RdAt w b s st a c ob) (hs : s.size ≤ 1000000) (hlt : st.pos < s.size) :
    Calls Tryz.prog 146 #[.pointer (some ⟨b, 0, none⟩)] w (Ret fun v w' => v = .agg (opV (fN s st.pos st.now)) ∧ Evo [] w w') := by
  have hap := hR.ap
  have hle : st.pos ≤ s.size := by omega
  have hrs := fL (s := s) (a := st.pos) (Nat.le_refl s.size); refine aT (N := 87) Tryz.func146 rfl rfl rfl ?_; refine csr (cF rfl iB fun b2 w1 l8 l9 m0 => ?_); have m5 := l9; have M := Ge.new (Evo.refl [] w) l9; have j5 := m0.blk0 hR.blk; refine wnn (aI ?_); refine eP (by kernel_rfl) (by kernel_rfl) ?_; refine bJ (fun _ H => aY rfl) ?_; refine bJ (fun _ H => aG rfl) ?_; refine bJ (fun _ H => aD rfl cS) ?_; refine bJ (fun _ H => aQ rfl cZ (aV (H.blk0 j5) rfl)) ?_; refine bJ (fun _ H => aY rfl) ?_; refine bJ (fun _ H => aG rfl) ?_; refine bJ (fun _ H => aD rfl bB) ?_; refine bJ (fun _ H => aQ rfl aX (aV (H.blk0 j5) rfl)) ?_; refine bJ (fun _ H => jU (l := st.pos) rfl rfl Tryz.underlying9 rfl hle) ?_; refine bJ (fun _ H => dU rfl) ?_; refine eV (fun m9 H => aA ?_); have j6 := ((Evo.refl [] w).then m0).then H; refine csr (aB (aC (aG rfl) (aC (aD rfl dS) (aC (cY (o := 2) rfl jY dH (vs := [.bool st.now.fold, .bool st.now.lines, .bool st.now.dots, .bool st.now.lazy]) rfl (CS (H.blk0 j5))) ?_)))); refine aC (cA (vs := [(2, _)]) FA rfl (cells := [_, _, _, _, _, _, _, _, _]) rfl) ?_; refine cF rfl iB fun b4 q4 m1 d7 j7 => ?_; have m6 := d7; have A := Apart.new (Lt.blk (H.blk0 l8)) d7
  have E := Ge.new j6 d7; refine aZ rfl rfl bG m1 rfl rfl ⟨by first | rfl | assumption, by first | rfl | assumption, by first | rfl | assumption, by first | rfl | assumption, by first | rfl | assumption, by first | rfl | assumption, by first | rfl | assumption, by first | rfl | assumption, by first | rfl | assumption, trivial⟩ fun q5 d8 j8 => ?_
  try simp only [cG, Nat.reduceAdd] at d8
  refine wnn (aI (csr (aB ?_))); refine aJ (vs := [_, _]) oG rfl (AM (s.extract st.pos s.size) (ByteArray.mk #[40, 63]) (by omega) (show 2 ≤ 140737488355328 by omega)) rfl ?_; rintro _ m7 ⟨rfl, a8⟩; have d9 := ((j6.then j7).step j8 E.mem1).then a8; have e1 := a8.blk0 (j8.blk (j7.blk0 (H.blk0 l8)) A.nmem1); refine aC (lX rfl) ?_; refine wnn (bA rfl (fun e2 => ?_) (fun e2 => ?_))
  ·refine csr (aC (aD rfl eZ) ?_); refine bE rfl rfl (by first | rfl | assumption) bZ (a8.blk0 d8) rfl fun q6 j9 k0 => ?_
   try simp only [cG, Nat.reduceAdd] at j9
   refine aC (aD rfl gQ) ?_; refine bE rfl rfl (by first | rfl | assumption) fE j9 rfl fun q7 k1 k2 => ?_
   try simp only [cG, Nat.reduceAdd] at k1
   refine wnn (csr (aC (bT rfl cC bG k1 rfl) ?_)); refine aZ rfl rfl bG (k2.blk (k0.blk e1 A.nmem1) A.nmem1) rfl rfl ⟨by first | rfl | assumption, by first | rfl | assumption, by first | rfl | assumption, by first | rfl | assumption, by first | rfl | assumption, by first | rfl | assumption, by first | rfl | assumption, by first | rfl | assumption, by first | rfl | assumption, trivial⟩ fun q8 k3 m2 => ?_
   try simp only [cG, Nat.reduceAdd] at k3
   refine wnn (aH (aE (cK rfl (ResOk.cellA rfl cC bG k3 rfl) ?_))); rw [NI (fun h => e2 ((pre2 hle).2 h))]; exact ⟨rfl, (((d9.step k0 E.mem1).step k2 E.mem1).step m2 M.mem1)⟩
  have h40 := (pre2 hle).1 (Classical.not_not.1 e2); refine aL (aA (aI (csr ?_))); refine aC (uU (vs := [(0, _), (1, _)]) Tryz.underlying221 KB lJ rfl (cells := #[.string (ByteArray.mk #[40, 63, 80, 60]), .string (ByteArray.mk #[40, 63, 60])]) (by kernel_rfl)) ?_; refine aB (wnn (bC ?_)); refine cN (α := Nat) (0) (fun k => [(29, .int .i64 (k : Nat))]) [(2, _), (3, _), (4, _), (28, _)] (fun k wr => Evo [] m7 wr ∧ (HdI w wr b2 b4 s st.pos st.now k)) (fun k => 2 - k) ⟨rfl, trivial⟩ ⟨rfl, rfl, rfl, rfl, trivial⟩ ⟨Evo.refl _ _, ⟨Nat.zero_le _, fun j h => by cases h⟩⟩ ?_; rintro k wr64 ⟨V, ⟨hk2, hno⟩⟩; show CW _ _ _ _ [(29, _), (2, _), (3, _), (4, _), (28, _)] _; have e3 := V.blk0 (a8.blk0 d8); refine csr (aC (cP rfl rfl) ?_); refine wnn (aI (bA rfl (fun m3 => ?_) (fun m3 => ?_)))
  ·refine aL (aA (aI (bC (csr ?_)))); refine aC (WF (n := k) rfl rfl Tryz.underlying221 rfl (by omega) lJ (part_hd (by omega))) ?_; refine wan (aI (csr (aB (aB ?_))))
   refine aJ (vs := [_, _]) oG rfl (AM (s.extract st.pos s.size) (hd k) (by omega) (by have := hd_sz k; omega)) rfl ?_
   rintro _ m8 ⟨rfl, a9⟩; refine aC (lX rfl) ?_; refine wnn (bA rfl (fun e4 => ?_) (fun e4 => ?_))
   ·refine cJ (bH (cI (aA ?_))); refine aF ?_; refine aC (aK rfl rfl (by omega) (by omega)) ?_; refine aB (aP (aW ?_)); refine ⟨k + 1, ?_, ⟨rfl, trivial⟩, ⟨rfl, rfl, rfl, rfl, trivial⟩, (V.then a9), ?_⟩
    · omega
    refine ⟨by omega, fun j hj => ?_⟩
    by_cases e : j = k
    · subst e; exact e4
    · exact hno j (by omega)
   have hpk := Classical.not_not.1 e4; have hsz := hd_sz k; have hsl : (hd k).size ≤ (s.extract st.pos s.size).size := hpk.1; have hop := YC (fl := st.now) hle h40 (by omega) hpk hno; refine aL (aA (csr (aB (aC (cD rfl Tryz.underlying9 rfl) ?_)))); refine wan (aI (bC ?_))
   refine cN (α := WdG) (⟨s.size, (hd k).size⟩) (fun x => [(7, .int .i64 (x.m : Nat))]) [(2, _), (3, _), (4, _), (6, _), (28, _), (29, _)] (fun x wr => Evo [] m8 wr ∧ (WdI s st.pos (hd k).size x)) (fun x => x.f) ⟨rfl, trivial⟩ ⟨rfl, rfl, rfl, rfl, rfl, rfl, trivial⟩ ⟨Evo.refl _ _, ⟨by show st.pos + (hd k).size ≤ s.size; omega, Nat.le_refl _, Nat.le_add_right _ _, rfl⟩⟩ ?_
   rintro ⟨f, m⟩ wr79 ⟨b5, ⟨hm, hhm, hf, heq⟩⟩; show CW _ _ _ _ [(7, .int .i64 (m : Nat)), (2, _), (3, _), (4, _), (6, _), (28, _), (29, _)] _
   try dsimp only at hm hhm hf heq
   have W := ((d9.then V).then a9).then b5; have a0 := b5.blk0 (a9.blk0 (V.blk0 e1)); have a1 := b5.blk0 (a9.blk0 e3); refine aI (csr (aB (aB (aC (cD rfl Tryz.underlying9 rfl) ?_)))); refine aC (cP rfl rfl) ?_; refine aB (bF (t := 42) rfl (fun m4 => ?_) (fun m4 => ?_))
   ·have e0 : sb (s.extract st.pos s.size) m = sb s (st.pos + m) := mY (by omega); refine aS (aB (aS (aB (aS ?_)))); refine aC (jD (n := m) rfl rfl Tryz.underlying9 rfl (by omega) e0) ?_; refine aS (aJ (vs := [_]) sM rfl (HV (sb s (st.pos + m))) rfl ?_); rintro _ q9 ⟨rfl, b6⟩; have a5 := W.then b6; have a6 := b6.blk0 a0; have a7 := b6.blk0 a1; refine bW (wnn (bA rfl (fun I => ?_) (fun I => ?_)))
    ·refine aL (aA (bC (aF (aB ?_)))); refine aC (aK rfl rfl (by omega) (by omega)) ?_; refine bR (aP (aO (aW ?_))); refine ⟨⟨f - 1, m + 1⟩, ?_, ⟨rfl, trivial⟩, ⟨rfl, rfl, rfl, rfl, rfl, rfl, trivial⟩, (b5.then b6), ?_⟩
     · (try dsimp only); show f - 1 < f; omega
     try dsimp only
     have hf2 : f = f - 1 + 1 := by omega
     exact ⟨(by show st.pos + (m + 1) ≤ s.size; omega), Nat.le_succ_of_le hhm, (by show s.size ≤ f - 1 + (st.pos + (m + 1)); omega), heq.trans (by rw [hf2]; exact pWord_go (by omega) I)⟩
    refine cJ (bH (bH (cI (aA ?_)))); refine aI (csr (aB (aB (aC (cD rfl Tryz.underlying9 rfl) ?_)))); refine wel ?_; refine aB (bF (t := 54) rfl (fun e5 => ?_) (fun e5 => ?_))
    ·refine aN (aN (aN (aN (bW (aB (aN (aN (aN (aN (bW (wnn (dB rfl ?_)))))))))))); refine csr (aC (aD rfl dR) ?_); refine bE rfl rfl (by first | rfl | assumption) eK a7 rfl fun r0 k4 k5 => ?_
     try simp only [cG, Nat.reduceAdd] at k4
     refine wnn (csr (aC (bT rfl cC bG k4 rfl) ?_)); refine aZ rfl rfl bG (k5.blk a6 A.nmem1) rfl rfl ⟨by first | rfl | assumption, by first | rfl | assumption, by first | rfl | assumption, by first | rfl | assumption, by first | rfl | assumption, by first | rfl | assumption, by first | rfl | assumption, by first | rfl | assumption, by first | rfl | assumption, trivial⟩ fun n1 e9 k6 => ?_
     try simp only [cG, Nat.reduceAdd] at e9
     refine wnn (aH (aE (aM (aE (aE (aM (aE (cK rfl (ResOk.cellA rfl cC bG e9 rfl) ?_))))))))
     have hend := heq.trans (jF (by rintro ⟨h1, h2⟩; first | omega | exact I h2))
     rw [hop, lL hend (.inl (by omega))]; exact ⟨rfl, ((a5.step k5 E.mem1).step k6 M.mem1)⟩
    refine aS (aB (aS (aB (aS (aC (cD rfl Tryz.underlying9 rfl) ?_))))); refine aS (wel ?_); refine bM (aB (bF (t := 60) rfl (fun e6 => ?_) (fun e6 => ?_)))
    ·refine aN (aN (aN (aN (bW (wnn (dB rfl ?_)))))); refine csr (aC (aD rfl dR) ?_); refine bE rfl rfl (by first | rfl | assumption) eK a7 rfl fun n2 f0 f5 => ?_
     try simp only [cG, Nat.reduceAdd] at f0
     refine wnn (csr (aC (bT rfl cC bG f0 rfl) ?_)); refine aZ rfl rfl bG (f5.blk a6 A.nmem1) rfl rfl ⟨by first | rfl | assumption, by first | rfl | assumption, by first | rfl | assumption, by first | rfl | assumption, by first | rfl | assumption, by first | rfl | assumption, by first | rfl | assumption, by first | rfl | assumption, by first | rfl | assumption, trivial⟩ fun n3 f6 k7 => ?_
     try simp only [cG, Nat.reduceAdd] at f6
     refine wnn (aH (aE (aM (aE (aE (aM (aE (cK rfl (ResOk.cellA rfl cC bG f6 rfl) ?_))))))))
     have hend := heq.trans (jF (by rintro ⟨h1, h2⟩; first | omega | exact I h2))
     rw [hop, lL hend (.inr (fun h => by have := h.1; omega))]
     exact ⟨rfl, ((a5.step f5 E.mem1).step k7 M.mem1)⟩
    have e0 : sb (s.extract st.pos s.size) m = sb s (st.pos + m) := mY (by omega); refine aS (aB (aS (aB (aS ?_)))); refine aC (jD (n := m) rfl rfl Tryz.underlying9 rfl (by omega) e0) ?_; refine aS (aC (fJ rfl rfl) ?_); refine bM (wnn (bA rfl (fun e7 => ?_) (fun e7 => ?_)))
    ·refine csr (aC (aD rfl dR) ?_); refine bE rfl rfl (by first | rfl | assumption) eK a7 rfl fun n4 f7 f8 => ?_
     try simp only [cG, Nat.reduceAdd] at f7
     refine wnn (csr (aC (bT rfl cC bG f7 rfl) ?_)); refine aZ rfl rfl bG (f8.blk a6 A.nmem1) rfl rfl ⟨by first | rfl | assumption, by first | rfl | assumption, by first | rfl | assumption, by first | rfl | assumption, by first | rfl | assumption, by first | rfl | assumption, by first | rfl | assumption, by first | rfl | assumption, by first | rfl | assumption, trivial⟩ fun n5 f9 k8 => ?_
     try simp only [cG, Nat.reduceAdd] at f9
     refine wnn (aH (aE (aM (aE (aE (aM (aE (cK rfl (ResOk.cellA rfl cC bG f9 rfl) ?_))))))))
     have hend := heq.trans (jF (by rintro ⟨h1, h2⟩; first | omega | exact I h2))
     rw [hop, lL hend (.inr (fun h => by have := h.2; omega))]
     exact ⟨rfl, ((a5.step f8 E.mem1).step k8 M.mem1)⟩
    have e74 : (s.extract st.pos s.size).extract (hd k).size m = s.extract (st.pos + (hd k).size) (st.pos + m) := CV (by omega) hhm; refine aL (aA (aI ?_)); refine eX (fun w0 w' => Evo [b4] w0 w') (by kernel_rfl) (fun J O => ?_); refine aet 0 rfl (fun _ hS => aY rfl) (Evo.refl [b4] J) ?_; refine aet 1 rfl (fun _ hS => aK rfl rfl (by omega) (by omega)) (Evo.refl [b4] J) ?_; refine aet 2 rfl (fun _ hS => aY rfl) (Evo.refl [b4] J) ?_; refine aet 3 rfl (fun _ hS => aY rfl) (Evo.refl [b4] J) ?_; refine aet 4 rfl (fun _ hS => cD rfl Tryz.underlying9 rfl) (Evo.refl [b4] J) ?_; refine aet 5 rfl (fun _ hS => aY rfl) (Evo.refl [b4] J) ?_; refine aet 7 rfl (fun _ hS => aD rfl eZ) (Evo.refl [b4] J) ?_; refine bS [6, 8] (by kernel_rfl) rfl ⟨?_, ?_, trivial⟩
    ·refine bY rfl ?_; refine aC (tV (l := (hd k).size) (h := m) rfl rfl rfl Tryz.underlying9 rfl rfl hhm (by omega) e74) ?_; refine aP (bN (.inl (Evo.refl [b4] J)) ?_); refine bS [8] (by kernel_rfl) rfl ⟨?_, trivial⟩; refine bY rfl ?_; refine bE rfl rfl (by first | rfl | assumption) bZ (O.blk0 a7) rfl fun n6 g0 b7 => ?_; have b8 := (Evo.refl [b4] J).step b7 (fun y hy => .inl hy)
     try simp only [cG, Nat.reduceAdd] at g0
     refine aP (bN (.inl b8) ?_); refine aet 9 rfl (fun _ hS => aD rfl jI) b8 ?_; refine bS [10] (by kernel_rfl) rfl ⟨?_, trivial⟩; refine bY rfl ?_; refine bE rfl rfl (by first | rfl | assumption) lJ g0 rfl fun n7 g1 b9 => ?_; have c0 := b8.step b9 (fun y hy => .inl hy)
     try simp only [cG, Nat.reduceAdd] at g1
     refine aP (bN (.inl c0) ?_); refine aet 11 rfl (fun _ hS => aD rfl gQ) c0 ?_; refine bS [12] (by kernel_rfl) rfl ⟨?_, trivial⟩; refine bY rfl ?_; refine bE rfl rfl (by first | rfl | assumption) fE g1 rfl fun n8 g2 c1 => ?_
     try simp only [cG, Nat.reduceAdd] at g2
     refine aP (bN (.inl (c0.step c1 (fun y hy => .inl hy))) ?_); refine cV (by kernel_rfl) (aA ?_); refine csr (aC (bT rfl cC bG g2 rfl) ?_); refine aZ rfl rfl bG (c1.blk (b9.blk (b7.blk (O.blk0 a6) A.nmem1) A.nmem1) A.nmem1) rfl rfl ⟨by first | rfl | assumption, by first | rfl | assumption, by first | rfl | assumption, by first | rfl | assumption, by first | rfl | assumption, by first | rfl | assumption, by first | rfl | assumption, by first | rfl | assumption, by first | rfl | assumption, trivial⟩ fun n9 g3 k9 => ?_
     try simp only [cG, Nat.reduceAdd] at g3
     refine wnn (aH (aM (aE (aE (aM (aE (cK rfl (ResOk.cellA rfl cC bG g3 rfl) ?_)))))))
     have hend := heq.trans (jF (by rintro ⟨h1, h2⟩; first | omega | exact I h2))
     rw [hop, qZ hend (by rintro (h | h); omega; exact h ⟨by omega, by omega⟩)]
     refine ⟨?_, (((((a5.then O).step b7 E.mem1).step b9 E.mem1).step c1 E.mem1).step k9 M.mem1)⟩; simp only [opV]; rw [show ((st.pos + m + 1 - st.pos : Nat) : Int) = (m : Int) + 1 by omega]
    refine bY rfl ?_; refine bE rfl rfl (by first | rfl | assumption) bZ (O.blk0 a7) rfl fun o0 g4 c2 => ?_; have a2 := (Evo.refl [b4] J).step c2 (fun y hy => .inl hy)
    try simp only [cG, Nat.reduceAdd] at g4
    refine aP (bN (.inl a2) ?_); refine bS [6] (by kernel_rfl) rfl ⟨?_, trivial⟩; refine bY rfl ?_; refine aC (tV (l := (hd k).size) (h := m) rfl rfl rfl Tryz.underlying9 rfl rfl hhm (by omega) e74) ?_; refine aP (bN (.inl a2) ?_); refine aet 9 rfl (fun _ hS => aD rfl jI) a2 ?_; refine bS [10] (by kernel_rfl) rfl ⟨?_, trivial⟩; refine bY rfl ?_; refine bE rfl rfl (by first | rfl | assumption) lJ g4 rfl fun o1 g5 c3 => ?_; have c4 := a2.step c3 (fun y hy => .inl hy)
    try simp only [cG, Nat.reduceAdd] at g5
    refine aP (bN (.inl c4) ?_); refine aet 11 rfl (fun _ hS => aD rfl gQ) c4 ?_; refine bS [12] (by kernel_rfl) rfl ⟨?_, trivial⟩; refine bY rfl ?_; refine bE rfl rfl (by first | rfl | assumption) fE g5 rfl fun o2 g6 c5 => ?_
    try simp only [cG, Nat.reduceAdd] at g6
    refine aP (bN (.inl (c4.step c5 (fun y hy => .inl hy))) ?_); refine cV (by kernel_rfl) (aA ?_); refine csr (aC (bT rfl cC bG g6 rfl) ?_); refine aZ rfl rfl bG (c5.blk (c3.blk (c2.blk (O.blk0 a6) A.nmem1) A.nmem1) A.nmem1) rfl rfl ⟨by first | rfl | assumption, by first | rfl | assumption, by first | rfl | assumption, by first | rfl | assumption, by first | rfl | assumption, by first | rfl | assumption, by first | rfl | assumption, by first | rfl | assumption, by first | rfl | assumption, trivial⟩ fun o3 g7 l0 => ?_
    try simp only [cG, Nat.reduceAdd] at g7
    refine wnn (aH (aM (aE (aE (aM (aE (cK rfl (ResOk.cellA rfl cC bG g7 rfl) ?_)))))))
    have hend := heq.trans (jF (by rintro ⟨h1, h2⟩; first | omega | exact I h2))
    rw [hop, qZ hend (by rintro (h | h); omega; exact h ⟨by omega, by omega⟩)]
    refine ⟨?_, (((((a5.then O).step c2 E.mem1).step c3 E.mem1).step c5 E.mem1).step l0 M.mem1)⟩; simp only [opV]; rw [show ((st.pos + m + 1 - st.pos : Nat) : Int) = (m : Int) + 1 by omega]
   refine aN (aN (aN (aN (bM (wnn (cM rfl ?_)))))); refine cJ (bH (bH (cI (aA ?_)))); refine aI (csr (aB (aB (aC (cD rfl Tryz.underlying9 rfl) ?_)))); refine wel ?_; refine aB (bF (t := 54) rfl (fun e5 => ?_) (fun e5 => ?_))
   ·refine aN (aN (aN (aN (bW (aB (aN (aN (aN (aN (bW (wnn (dB rfl ?_)))))))))))); refine csr (aC (aD rfl dR) ?_); refine bE rfl rfl (by first | rfl | assumption) eK a1 rfl fun o4 g8 g9 => ?_
    try simp only [cG, Nat.reduceAdd] at g8
    refine wnn (csr (aC (bT rfl cC bG g8 rfl) ?_)); refine aZ rfl rfl bG (g9.blk a0 A.nmem1) rfl rfl ⟨by first | rfl | assumption, by first | rfl | assumption, by first | rfl | assumption, by first | rfl | assumption, by first | rfl | assumption, by first | rfl | assumption, by first | rfl | assumption, by first | rfl | assumption, by first | rfl | assumption, trivial⟩ fun o5 h0 l1 => ?_
    try simp only [cG, Nat.reduceAdd] at h0
    refine wnn (aH (aE (aM (aE (aE (aM (aE (cK rfl (ResOk.cellA rfl cC bG h0 rfl) ?_))))))))
    have hend := heq.trans (jF (by rintro ⟨h1, h2⟩; first | omega | exact I h2))
    rw [hop, lL hend (.inl (by omega))]; exact ⟨rfl, ((W.step g9 E.mem1).step l1 M.mem1)⟩
   refine aS (aB (aS (aB (aS (aC (cD rfl Tryz.underlying9 rfl) ?_))))); refine aS (wel ?_); refine bM (aB (bF (t := 60) rfl (fun e6 => ?_) (fun e6 => ?_)))
   ·refine aN (aN (aN (aN (bW (wnn (dB rfl ?_)))))); refine csr (aC (aD rfl dR) ?_); refine bE rfl rfl (by first | rfl | assumption) eK a1 rfl fun o6 h3 h4 => ?_
    try simp only [cG, Nat.reduceAdd] at h3
    refine wnn (csr (aC (bT rfl cC bG h3 rfl) ?_)); refine aZ rfl rfl bG (h4.blk a0 A.nmem1) rfl rfl ⟨by first | rfl | assumption, by first | rfl | assumption, by first | rfl | assumption, by first | rfl | assumption, by first | rfl | assumption, by first | rfl | assumption, by first | rfl | assumption, by first | rfl | assumption, by first | rfl | assumption, trivial⟩ fun o7 h5 l2 => ?_
    try simp only [cG, Nat.reduceAdd] at h5
    refine wnn (aH (aE (aM (aE (aE (aM (aE (cK rfl (ResOk.cellA rfl cC bG h5 rfl) ?_))))))))
    have hend := heq.trans (jF (by rintro ⟨h1, h2⟩; first | omega | exact I h2))
    rw [hop, lL hend (.inr (fun h => by have := h.1; omega))]
    exact ⟨rfl, ((W.step h4 E.mem1).step l2 M.mem1)⟩
   have e0 : sb (s.extract st.pos s.size) m = sb s (st.pos + m) := mY (by omega); refine aS (aB (aS (aB (aS ?_)))); refine aC (jD (n := m) rfl rfl Tryz.underlying9 rfl (by omega) e0) ?_; refine aS (aC (fJ rfl rfl) ?_); refine bM (wnn (bA rfl (fun e7 => ?_) (fun e7 => ?_)))
   ·refine csr (aC (aD rfl dR) ?_); refine bE rfl rfl (by first | rfl | assumption) eK a1 rfl fun o8 h6 h7 => ?_
    try simp only [cG, Nat.reduceAdd] at h6
    refine wnn (csr (aC (bT rfl cC bG h6 rfl) ?_)); refine aZ rfl rfl bG (h7.blk a0 A.nmem1) rfl rfl ⟨by first | rfl | assumption, by first | rfl | assumption, by first | rfl | assumption, by first | rfl | assumption, by first | rfl | assumption, by first | rfl | assumption, by first | rfl | assumption, by first | rfl | assumption, by first | rfl | assumption, trivial⟩ fun o9 h8 l3 => ?_
    try simp only [cG, Nat.reduceAdd] at h8
    refine wnn (aH (aE (aM (aE (aE (aM (aE (cK rfl (ResOk.cellA rfl cC bG h8 rfl) ?_))))))))
    have hend := heq.trans (jF (by rintro ⟨h1, h2⟩; first | omega | exact I h2))
    rw [hop, lL hend (.inr (fun h => by have := h.2; omega))]
    exact ⟨rfl, ((W.step h7 E.mem1).step l3 M.mem1)⟩
   have e74 : (s.extract st.pos s.size).extract (hd k).size m = s.extract (st.pos + (hd k).size) (st.pos + m) := CV (by omega) hhm; refine aL (aA (aI ?_)); refine eX (fun w0 w' => Evo [b4] w0 w') (by kernel_rfl) (fun L U => ?_); refine aet 0 rfl (fun _ hS => aY rfl) (Evo.refl [b4] L) ?_; refine aet 1 rfl (fun _ hS => aK rfl rfl (by omega) (by omega)) (Evo.refl [b4] L) ?_; refine aet 2 rfl (fun _ hS => aY rfl) (Evo.refl [b4] L) ?_; refine aet 3 rfl (fun _ hS => aY rfl) (Evo.refl [b4] L) ?_; refine aet 4 rfl (fun _ hS => cD rfl Tryz.underlying9 rfl) (Evo.refl [b4] L) ?_; refine aet 5 rfl (fun _ hS => aY rfl) (Evo.refl [b4] L) ?_; refine aet 7 rfl (fun _ hS => aD rfl eZ) (Evo.refl [b4] L) ?_; refine bS [6, 8] (by kernel_rfl) rfl ⟨?_, ?_, trivial⟩
   ·refine bY rfl ?_; refine aC (tV (l := (hd k).size) (h := m) rfl rfl rfl Tryz.underlying9 rfl rfl hhm (by omega) e74) ?_; refine aP (bN (.inl (Evo.refl [b4] L)) ?_); refine bS [8] (by kernel_rfl) rfl ⟨?_, trivial⟩; refine bY rfl ?_; refine bE rfl rfl (by first | rfl | assumption) bZ (U.blk0 a1) rfl fun p1 h9 c6 => ?_; have c7 := (Evo.refl [b4] L).step c6 (fun y hy => .inl hy)
    try simp only [cG, Nat.reduceAdd] at h9
    refine aP (bN (.inl c7) ?_); refine aet 9 rfl (fun _ hS => aD rfl jI) c7 ?_; refine bS [10] (by kernel_rfl) rfl ⟨?_, trivial⟩; refine bY rfl ?_; refine bE rfl rfl (by first | rfl | assumption) lJ h9 rfl fun p2 i1 c8 => ?_; have c9 := c7.step c8 (fun y hy => .inl hy)
    try simp only [cG, Nat.reduceAdd] at i1
    refine aP (bN (.inl c9) ?_); refine aet 11 rfl (fun _ hS => aD rfl gQ) c9 ?_; refine bS [12] (by kernel_rfl) rfl ⟨?_, trivial⟩; refine bY rfl ?_; refine bE rfl rfl (by first | rfl | assumption) fE i1 rfl fun p3 i2 d0 => ?_
    try simp only [cG, Nat.reduceAdd] at i2
    refine aP (bN (.inl (c9.step d0 (fun y hy => .inl hy))) ?_); refine cV (by kernel_rfl) (aA ?_); refine csr (aC (bT rfl cC bG i2 rfl) ?_); refine aZ rfl rfl bG (d0.blk (c8.blk (c6.blk (U.blk0 a0) A.nmem1) A.nmem1) A.nmem1) rfl rfl ⟨by first | rfl | assumption, by first | rfl | assumption, by first | rfl | assumption, by first | rfl | assumption, by first | rfl | assumption, by first | rfl | assumption, by first | rfl | assumption, by first | rfl | assumption, by first | rfl | assumption, trivial⟩ fun p4 i3 l4 => ?_
    try simp only [cG, Nat.reduceAdd] at i3
    refine wnn (aH (aM (aE (aE (aM (aE (cK rfl (ResOk.cellA rfl cC bG i3 rfl) ?_)))))))
    have hend := heq.trans (jF (by rintro ⟨h1, h2⟩; first | omega | exact I h2))
    rw [hop, qZ hend (by rintro (h | h); omega; exact h ⟨by omega, by omega⟩)]
    refine ⟨?_, (((((W.then U).step c6 E.mem1).step c8 E.mem1).step d0 E.mem1).step l4 M.mem1)⟩; simp only [opV]; rw [show ((st.pos + m + 1 - st.pos : Nat) : Int) = (m : Int) + 1 by omega]
   refine bY rfl ?_; refine bE rfl rfl (by first | rfl | assumption) bZ (U.blk0 a1) rfl fun p5 i4 d3 => ?_; have a3 := (Evo.refl [b4] L).step d3 (fun y hy => .inl hy)
   try simp only [cG, Nat.reduceAdd] at i4
   refine aP (bN (.inl a3) ?_); refine bS [6] (by kernel_rfl) rfl ⟨?_, trivial⟩; refine bY rfl ?_; refine aC (tV (l := (hd k).size) (h := m) rfl rfl rfl Tryz.underlying9 rfl rfl hhm (by omega) e74) ?_; refine aP (bN (.inl a3) ?_); refine aet 9 rfl (fun _ hS => aD rfl jI) a3 ?_; refine bS [10] (by kernel_rfl) rfl ⟨?_, trivial⟩; refine bY rfl ?_; refine bE rfl rfl (by first | rfl | assumption) lJ i4 rfl fun p6 i5 d4 => ?_; have d5 := a3.step d4 (fun y hy => .inl hy)
   try simp only [cG, Nat.reduceAdd] at i5
   refine aP (bN (.inl d5) ?_); refine aet 11 rfl (fun _ hS => aD rfl gQ) d5 ?_; refine bS [12] (by kernel_rfl) rfl ⟨?_, trivial⟩; refine bY rfl ?_; refine bE rfl rfl (by first | rfl | assumption) fE i5 rfl fun p7 i6 d6 => ?_
   try simp only [cG, Nat.reduceAdd] at i6
   refine aP (bN (.inl (d5.step d6 (fun y hy => .inl hy))) ?_); refine cV (by kernel_rfl) (aA ?_); refine csr (aC (bT rfl cC bG i6 rfl) ?_); refine aZ rfl rfl bG (d6.blk (d4.blk (d3.blk (U.blk0 a0) A.nmem1) A.nmem1) A.nmem1) rfl rfl ⟨by first | rfl | assumption, by first | rfl | assumption, by first | rfl | assumption, by first | rfl | assumption, by first | rfl | assumption, by first | rfl | assumption, by first | rfl | assumption, by first | rfl | assumption, by first | rfl | assumption, trivial⟩ fun p8 i7 l5 => ?_
   try simp only [cG, Nat.reduceAdd] at i7
   refine wnn (aH (aM (aE (aE (aM (aE (cK rfl (ResOk.cellA rfl cC bG i7 rfl) ?_)))))))
   have hend := heq.trans (jF (by rintro ⟨h1, h2⟩; first | omega | exact I h2))
   rw [hop, qZ hend (by rintro (h | h); omega; exact h ⟨by omega, by omega⟩)]
   refine ⟨?_, (((((W.then U).step d3 E.mem1).step d4 E.mem1).step d6 E.mem1).step l5 M.mem1)⟩; simp only [opV]; rw [show ((st.pos + m + 1 - st.pos : Nat) : Int) = (m : Int) + 1 by omega]
  have hnn : ∀ j, j < 2 → ¬ Pre (s.extract st.pos s.size) (hd j) := fun j hj => hno j (by omega); have hop := open_no (fl := st.now) hle h40 hnn; refine cJ (bH (bH (cI (aA ?_)))); refine aI (csr (aB ?_)); refine aJ (vs := [_, _]) oG rfl (AM (s.extract st.pos s.size) (ByteArray.mk #[40, 63, 58]) (by omega) (show 3 ≤ 140737488355328 by omega)) rfl ?_; rintro _ p9 ⟨rfl, a4⟩; have i8 := (d9.then V).then a4; have i9 := a4.blk0 (V.blk0 e1); refine wnn (bA rfl (fun e8 => ?_) (fun e8 => ?_))
  ·refine csr (aC (aD rfl eZ) ?_); refine bE rfl rfl (by first | rfl | assumption) bZ (a4.blk0 e3) rfl fun q0 j0 j1 => ?_
   try simp only [cG, Nat.reduceAdd] at j0
   refine wnn (csr (aC (bT rfl cC bG j0 rfl) ?_)); refine aZ rfl rfl bG (j1.blk i9 A.nmem1) rfl rfl ⟨by first | rfl | assumption, by first | rfl | assumption, by first | rfl | assumption, by first | rfl | assumption, by first | rfl | assumption, by first | rfl | assumption, by first | rfl | assumption, by first | rfl | assumption, by first | rfl | assumption, trivial⟩ fun q1 j2 l6 => ?_
   try simp only [cG, Nat.reduceAdd] at j2
   refine wnn (aH (aE (cK rfl (ResOk.cellA rfl cC bG j2 rfl) ?_))); have h58 : isB s (st.pos + 2) 58 := ((pre3 hle).1 e8).2.2; rw [hop, if_pos h58]; exact ⟨rfl, ((i8.step j1 E.mem1).step l6 M.mem1)⟩
  refine aL (aA (csr (aB (aC (bT rfl cC bG (a4.blk0 e3) rfl) ?_))))
  refine aJ (vs := [_, _]) LU rfl (RN s st.pos st.now (by have := h40.2.1; omega) hs) rfl ?_
  rintro _ q2 ⟨rfl, j3⟩; refine aZ rfl rfl bG (j3.blk0 i9) rfl rfl ⟨by first | rfl | assumption, by first | rfl | assumption, by first | rfl | assumption, by first | rfl | assumption, by first | rfl | assumption, by first | rfl | assumption, by first | rfl | assumption, by first | rfl | assumption, by first | rfl | assumption, trivial⟩ fun q3 j4 l7 => ?_
  try simp only [cG, Nat.reduceAdd] at j4
  refine wnn (aH (cK rfl (ResOk.cellA rfl cC bG j4 rfl) ?_)); have h58 : ¬ isB s (st.pos + 2) 58 := fun h => e8 ((pre3 hle).2 ⟨h40.1, h40.2, h⟩); rw [hop, if_neg h58]; exact ⟨rfl, ((i8.then j3).step l7 M.mem1)⟩
theorem nH : AA Tryz.prog 69 69 = some (71, 9, 112) := by kernel_rfl
theorem oH : cX Tryz.prog 134 := ⟨_, Tryz.func134, by kernel_rfl, by kernel_rfl⟩
theorem OTs.evo0 {l : List Rx} {w w' : World} {cs : List Value} {bs : List Nat} (h : OTs l w cs bs) (he : Evo [] w w') : OTs l w' cs bs := h.evo he (fun b hb h => by cases h)
theorem OT.evo0 {x : Rx} {w w' : World} {vs : List Value} {bs : List Nat} (h : OT x w vs bs) (he : Evo [] w w') : OT x w' vs bs := h.evo he (fun b hb h => by cases h)
theorem sW {w : World} {o : Option Nat} {bs : List Nat} (h : Fr w (o.toList ++ bs)) : ∀ q, q ∈ bs → q ∉ o.toList := fun q hq ho => (List.nodup_append.1 h.nd).2.2 q ho q hq rfl
theorem pV {w : World} {o : Option Nat} {bs : List Nat} (h : Fr w (o.toList ++ bs)) : Ge w o := fun g hg => h.ge g (by simp [hg])
theorem Fr.grow {w w1 w2 : World} {o o2 : Option Nat} {bs bx : List Nat} (h : Fr w (o.toList ++ bs)) (hl : ∀ b, b ∈ o.toList ++ bs → b < w1.heap.size) (hx : Fr w1 bx) (hx2 : ∀ b, b ∈ bx → b < w2.heap.size) (hw : w.heap.size ≤ w1.heap.size) (h12 : w1.heap.size ≤ w2.heap.size)
    (hob : o2 = o ∨ ∃ g, o2 = some g ∧ w2.heap.size ≤ g) : Fr w (o2.toList ++ (bs ++ bx)) := by
  rcases hob with rfl | ⟨g, rfl, hg⟩
  · rw [← List.append_assoc]
    exact h.app hx hw hl
  · have hb : Fr w (bs ++ bx) := Fr.app ⟨(List.nodup_append.1 h.nd).2.1, fun b hb => h.ge b (List.mem_append_right _ hb)⟩ hx hw (fun b hb => hl b (List.mem_append_right _ hb))
    refine ⟨List.nodup_cons.2 ⟨fun hm => ?_, hb.nd⟩, fun b hb2 => ?_⟩
    · have hm' : g ∈ bs ++ bx := by simpa using hm
      rcases List.mem_append.1 hm' with hm' | hm'
      · have := hl g (List.mem_append_right _ hm'); omega
      · have := hx2 g hm'; omega
    · rcases List.mem_cons.1 hb2 with rfl | hb2
      · omega
      · exact hb.ge b hb2
theorem qF {w : World} {a : Option Addr} {n c : Nat} {cs : List Value} {o : Option Nat} {l : List Rx} {bs : List Nat} (hO : OwnS w 71 9 a n c cs o) (hT : OTs l w cs bs) : ∀ b, b ∈ o.toList ++ bs → b < w.heap.size := fun b hb => (List.mem_append.1 hb).elim (IN hO b) (hT.lt b)
theorem VH {w : World} {o : Option Nat} {bs : List Nat} {b : Nat} (h : Fr w (o.toList ++ bs)) (hb : Lt w (some b)) : ∀ q, q ∈ bs → q ∉ [b] := fun q hq hm => by
  have h1 := h.ge q (List.mem_append_right _ hq)
  have h2 := hb b rfl
  rw [List.mem_singleton.1 hm] at h1; omega
theorem VZ {s : ByteArray} {a b j k : Nat} (h : kO s a b s.size j = some k) : sb s k = a ∧ sb s (k + 1) = b := ((rY s a b s.size j (by omega)).1 k h).2.1.2
structure QuG where
  f : Nat
  i : Nat
  n : Nat
  l : List Rx
  qa : Option Addr
  qc : Nat
  qo : Option Nat
  bs : List Nat
structure QuI (w wr : World) (b : Nat) (s : ByteArray) (st : PS) (a : Option Addr) (c : Nat) (ob : Option Nat) (e i0 : Nat) (x : QuG) : Prop where
  hr : RdAt wr b s (iP st x.i) a c ob
  bd : Bd s x.i
  eq : lD s st.now e s.size [] i0 = lD s st.now e x.f x.l x.i
  hf : s.size ≤ x.f + x.i
  kt : ∃ cs, OwnS wr 71 9 x.qa x.n x.qc cs x.qo ∧ OTs x.l wr cs x.bs
  fr : Fr w (x.qo.toList ++ x.bs)
  len : x.l.length + i0 ≤ x.i
  ie : x.i ≤ e
theorem quo_go {s : ByteArray} {fl : Fl} {e f i : Nat} {l : List Rx} (h : i < e) : lD s fl e (f + 1) l i = lD s fl e f (l ++ [rD fl (bQ s i).1]) (i + (bQ s i).2) := by rw [lD, if_pos h]
theorem UP {s : ByteArray} {fl : Fl} {e f i : Nat} {l : List Rx} (h : ¬ i < e) : lD s fl e f l i = (l, i) := by
  cases f with
  | zero => rfl
  | succ f => rw [lD, if_neg h]
theorem tN {w : World} {a : Option Addr} {n c : Nat} {cs : List Value} {o : Option Nat} {l : List Rx} {bs : List Nat} (hO : OwnS w 71 9 a n c cs o) (hT : OTs l w cs bs) : n = l.length := by have h1 := hO.length; have h2 := hT.len; omega
theorem pq_some {s : ByteArray} {st : PS} {k : Nat} (h : kO s 92 69 s.size (st.pos + 2) = some k) : oX s st = .ok ((lD s st.now k s.size [] (st.pos + 2)).1, { st with pos := (lD s st.now k s.size [] (st.pos + 2)).2 + 2 }) := by unfold oX; rw [h]
theorem pq_none {s : ByteArray} {st : PS} (h : kO s 92 69 s.size (st.pos + 2) = none) : oX s st = .ok ((lD s st.now s.size s.size [] (st.pos + 2)).1, { st with pos := (lD s st.now s.size s.size [] (st.pos + 2)).2 }) := by unfold oX; rw [h]
theorem WQ {s : ByteArray} {i e : Nat} (h : Bd s i) (hi : i < e) (he : Bd s e) : i + (bQ s i).2 ≤ e := by
  obtain ⟨N, k, hU, hk, rfl⟩ := h
  obtain ⟨M, m, hV, hm, rfl⟩ := he
  have hkm : k < m := by
    rcases Nat.lt_or_ge k m with h | h
    · exact h
    · have := yD s h; omega
  exact yD s (show k + 1 ≤ m from hkm)
theorem Bd.size {s : ByteArray} {i : Nat} (h : Bd s i) : Bd s s.size := by obtain ⟨N, k, hU, hk, _⟩ := h; exact ⟨N, N, hU, Nat.le_refl _, hU.1⟩
theorem IG {w : World} {b : Nat} {s : ByteArray} {st : PS} {a : Option Addr} {c : Nat} {ob : Option Nat} (hR : RdAt w b s st a c ob) (hs : s.size ≤ 10000) (hb : Bd s (st.pos + 2)) (hG : Glb w) :
    Calls Tryz.prog 151 #[.pointer (some ⟨b, 0, none⟩)] w (Ret fun v w' => ∃ l st', oX s st = .ok (l, st') ∧ KOut w w' v l ∧ Evo [b] w w' ∧ RdAt w' b s st' a c ob ∧ st'.opn = st.opn ∧ st'.names = st.names ∧ st.pos + 2 ≤ st'.pos ∧ Bd s st'.pos ∧ l.length + st.pos ≤ st'.pos) := by
  have hap := hR.ap; have hgb : pM ∉ [b] := fun h => hR.glb hG (List.mem_singleton.1 h).symm; have hle := hb.le; have hbw : Lt w (some b) := Lt.blk hR.blk; have how : Lt w ob := Lt.own hR.own; refine aT (N := 59) Tryz.func151 rfl rfl rfl ?_; refine csr (wan (csr (aB (aC (aG rfl) (wfl rfl bB rfl aX hR.blk rfl ?_))))); refine aC (aK rfl rfl (by omega) (by omega)) ?_; refine aC (aG rfl) (aC (aD rfl bB) ?_); refine bE rfl rfl (by first | rfl | assumption) bZ hR.blk rfl fun w1 a9 d7 => ?_
  try simp only [cG, Nat.reduceAdd] at a9
  refine wnn (csr (aB (aC (aG rfl) (wfl rfl cS rfl cZ a9 rfl (aC (cD rfl Tryz.underlying9 rfl) ?_))))); refine bR (wan (aI (aI ?_))); refine eX (fun w0 w' => Evo [] w0 w') (by kernel_rfl) (fun w6 b4 => ?_); have b5 := ((Evo.refl [b] w).step d7 (fun y hy => .inl hy)).then b4; have b6 := b4.blk0 a9; refine aet 0 rfl (fun _ hS => aY rfl) (Evo.refl [] w6) ?_; refine aet 1 rfl (fun _ hS => aG rfl) (Evo.refl [] w6) ?_; refine aet 2 rfl (fun _ hS => aD rfl cS) (Evo.refl [] w6) ?_; refine aet 3 rfl (fun _ hS => aQ rfl cZ (aV (hS.blk0 b6) rfl)) (Evo.refl [] w6) ?_; refine aet 4 rfl (fun _ hS => aY rfl) (Evo.refl [] w6) ?_; refine aet 5 rfl (fun _ hS => aG rfl) (Evo.refl [] w6) ?_; refine aet 6 rfl (fun _ hS => aD rfl bB) (Evo.refl [] w6) ?_; refine aet 7 rfl (fun _ hS => aQ rfl aX (aV (hS.blk0 b6) rfl)) (Evo.refl [] w6) ?_; refine bS [8] (by kernel_rfl) rfl ⟨?_, trivial⟩; refine bY rfl ?_
  refine aC (jU (l := st.pos + 2) rfl rfl Tryz.underlying9 rfl hle) ?_; refine aP (bN (.inl (Evo.refl [] w6)) ?_); refine bS [9] (by kernel_rfl) rfl ⟨?_, trivial⟩; refine bY rfl ?_; refine aJ (vs := [_, _]) xM rfl (VV s 92 69 (st.pos + 2) hle (by omega) (hG.evo b5 hgb)) rfl ?_; rintro _ e9 ⟨rfl, V⟩; have b7 := (Evo.refl [] w6).then V; have a1 := V.blk0 b6; have b8 := ((hR.own.evo d7 hap.symm.own1).evo0 b4).evo0 V; refine aP (bN (.inl b7) ?_); refine aet 10 rfl (fun _ hS => dU rfl) b7 ?_; refine cV (by kernel_rfl) (aA ?_); refine csr (aB (aC (dV rfl rfl) ?_)); refine wnn (bA rfl (fun a3 => ?_) (fun a3 => ?_))
  ·obtain ⟨k, hk, hfk, hk2, hk3⟩ := VY a3; rw [hfk]
   have hbk : Bd s k := oQ hb (by omega) (by omega) (by have h9 : sb s k = 92 := (VZ hk).1; omega)
   refine aF (aB (aC (aG rfl) (wfl rfl bB rfl aX a1 rfl (aB ?_)))); refine aC (JN (r := ((k : Nat) : Int)) rfl rfl (by omega) (by omega) (by omega)) ?_; refine bR (wan (csr (wan (aI (bC ?_)))))
   refine cN (α := QuG) (⟨s.size, st.pos + 2, 0, [], none, 0, none, []⟩) (fun x => [(6, .slice x.qa x.n x.qc)]) [(0, _), (2, _), (3, _), (4, _)] (fun x wr => Evo [b] w wr ∧ (QuI w wr b s st a c ob k (st.pos + 2) x)) (fun x => x.f) ⟨rfl, trivial⟩ ⟨rfl, rfl, rfl, rfl, trivial⟩ ⟨(b5.then V), ⟨⟨a1, b8, hR.ne⟩, hb, rfl, Nat.le_add_right _ _, ⟨[], OwnS.nil _ _ _, OTs.nil _⟩, Fr.nil _, (by show 0 + (st.pos + 2) ≤ st.pos + 2; omega), (by show st.pos + 2 ≤ _; omega)⟩⟩ ?_
   rintro ⟨f, i, n, l, qa, qc, qo, bs⟩ wr17 ⟨b9, ⟨A, hbi, heq, hfi, ⟨cs, hown, hts⟩, hfr, hlen, hie⟩⟩; show CW _ _ _ _ [(6, .slice qa n qc), (0, _), (2, _), (3, _), (4, _)] _
   try dsimp only at A hbi heq hfi cs hown hts hfr hlen hie
   have hpi : (iP st i).pos = i := rfl; have hil := hbi.le; have c0 : Apart ob qo := kL how (pV hfr); have I : Apart (some b) qo := kL hbw (pV hfr); refine aI (csr (aB (aC (aG rfl) (wfl rfl bB rfl aX A.blk rfl (aB (aC (cP rfl rfl) ?_)))))); refine wnn (bA rfl (fun a4 => ?_) (fun a4 => ?_))
   ·have hii : i < k := by omega
    have hsz2 := (hbk).le; obtain ⟨e1, e2, c1, hr0, hr1⟩ := hbi.next (by omega); have c3 := WQ hbi hii (hbk); obtain ⟨f', rfl⟩ : ∃ f', f = f' + 1 := ⟨f - 1, by omega⟩; have hql := qF hown hts; refine aL (aA (bC (aF (aB (aB (aB ?_)))))); refine aJ (vs := [_]) oJ rfl (AG ⟨A.blk, A.own, A.ne⟩ (by omega) hbi) rfl ?_; rintro _ f0 ⟨rfl, a5, J⟩; have c4 := b9.step a5 (fun y hy => .inl hy); have c5 := hown.evo a5 ((by first | exact I.symm.own1 | exact I.symm.nmem1)); have c6 := hts.evo a5 (VH hfr hbw); refine aJ (vs := [_, _]) oH rfl (IZ J (bQ s i).1 hr0 hr1) rfl ?_; rintro rv e3 ⟨hT, M⟩; have hcall9 := M; have c7 := c4; have hl1 := qF c5 c6; have hql2 : ∀ q, q ∈ qo.toList → q < _ := fun q hq => hl1 q (List.mem_append_left _ hq); obtain ⟨vs, bx, rfl, hOT, hFx⟩ := hT; obtain ⟨ra, rc, ka, kc, rfl⟩ := id hOT.nine; refine bL (vs := [_]) rfl cU rfl rfl rfl rfl fun f5 f6 d8 e5 E => ?_; have a6 := (hOT.evo0 E); have hVV := ((Evo.refl [] e3).then E)
    refine cT rfl rfl rfl rfl nH ((c5.evo0 M).evo0 E) (Src.ofOwn d8 ⟨by first | rfl | assumption, by first | rfl | assumption, by first | rfl | assumption, by first | rfl | assumption, by first | rfl | assumption, by first | rfl | assumption, by first | rfl | assumption, by first | rfl | assumption, by first | rfl | assumption, trivial⟩) (by have := tN hown hts; omega) fun a2 c2 f7 ob2 c8 W hob54 => ?_
    have d9 := (hOT.evo0 E).evo W (fun q hq h => by have h8 := hFx.ge q hq; have h9 := hql2 q h; omega)
    have hob2 := hob54; have hFr9 := Fr.grow hfr hl1 hFx (OT.lt a6) c7.size (Nat.le_trans hcall9.size hVV.size) hob2; refine bR (aP (aO (aW ?_))); refine ⟨⟨f', i + (bQ s i).2, n + 1, l ++ [rD st.now (bQ s i).1], a2, c2, ob2, bs ++ bx⟩, ?_, ⟨rfl, trivial⟩, ⟨rfl, rfl, rfl, rfl, trivial⟩, (((c4.then M).then E).step W (pV hfr).mem), ?_⟩
    · (try dsimp only); omega
    try dsimp only
    have hTs := OTs.app (((c6.evo0 M).evo0 E).evo W (sW hfr)) (OTs.single d9)
    refine ⟨⟨(W.blk (E.blk0 (M.blk0 J.blk)) I.nmem), (((J.own.evo0 M).evo0 E).evo W c0.own), J.ne⟩, c1, ?_, (by show s.size ≤ f' + (i + (bQ s i).2); omega), ⟨_, c8, hTs⟩, hFr9, ?_, c3⟩
    · rw [heq]; exact quo_go hii
    · show (l ++ [rD st.now (bQ s i).1]).length + (st.pos + 2) ≤ i + (bQ s i).2; rw [List.length_append]; simp; omega
   refine cJ (bH (bH (cI (aA ?_)))); refine csr (aB (aC (aG rfl) (wfl rfl bB rfl aX A.blk rfl (aB ?_)))); refine aC (aK rfl rfl (by omega) (by omega)) ?_; refine aC (aG rfl) (aC (aD rfl bB) ?_); refine bE rfl rfl (by first | rfl | assumption) bZ A.blk rfl fun f8 c9 a0 => ?_
   try simp only [cG, Nat.reduceAdd] at c9
   refine wnn (csr (aB (wan (aH (br1 ?_))))); have hend := heq.trans (UP (by omega)); obtain rfl := tN hown hts; have h69 : sb s k = 92 ∧ sb s (k + 1) = 69 := VZ hk
   obtain rfl : i = k := by omega
   have hb2 : Bd s (i + 1) := isB.asc (b := 92) ⟨by omega, h69.1⟩ (by decide) hbi; have hb3 : Bd s (i + 2) := isB.asc (b := 69) ⟨by omega, h69.2⟩ (by decide) hb2
   exact ⟨l, iP st (i + 2), (pq_some hk).trans (by rw [hend]; rfl), ⟨_, _, _, _, _, rfl, (hown.evo a0 I.symm.own1), (hts.evo a0 (VH hfr hbw)), hfr⟩, (b9.step a0 (fun y hy => .inl hy)), ⟨c9, (A.own.evo a0 A.ap.symm.own1), A.ne⟩, rfl, rfl, (by show st.pos + 2 ≤ i + 2; omega), hb3, (by show l.length + st.pos ≤ i + 2; omega)⟩
  refine aL (aA (csr (wan (aI (bC ?_)))))
  refine cN (α := QuG) (⟨s.size, st.pos + 2, 0, [], none, 0, none, []⟩) (fun x => [(6, .slice x.qa x.n x.qc)]) [(0, _), (2, _), (3, _), (4, _)] (fun x wr => Evo [b] w wr ∧ (QuI w wr b s st a c ob s.size (st.pos + 2) x)) (fun x => x.f) ⟨rfl, trivial⟩ ⟨rfl, rfl, rfl, rfl, trivial⟩ ⟨(b5.then V), ⟨⟨a1, b8, hR.ne⟩, hb, rfl, Nat.le_add_right _ _, ⟨[], OwnS.nil _ _ _, OTs.nil _⟩, Fr.nil _, (by show 0 + (st.pos + 2) ≤ st.pos + 2; omega), (by show st.pos + 2 ≤ _; omega)⟩⟩ ?_
  rintro ⟨f, i, n, l, qa, qc, qo, bs⟩ wr73 ⟨d0, ⟨A, hbi, heq, hfi, ⟨cs, hown, hts⟩, hfr, hlen, hie⟩⟩; show CW _ _ _ _ [(6, .slice qa n qc), (0, _), (2, _), (3, _), (4, _)] _
  try dsimp only at A hbi heq hfi cs hown hts hfr hlen hie
  have hpi : (iP st i).pos = i := rfl; have hil := hbi.le; have c0 : Apart ob qo := kL how (pV hfr); have I : Apart (some b) qo := kL hbw (pV hfr); refine aI (csr (aB (aC (aG rfl) (wfl rfl bB rfl aX A.blk rfl (aB (aC (cP rfl rfl) ?_)))))); refine wnn (bA rfl (fun a4 => ?_) (fun a4 => ?_))
  ·have hii : i < s.size := by omega
   have hsz2 := (hb.size).le; obtain ⟨e1, e2, c1, hr0, hr1⟩ := hbi.next (by omega); have c3 := WQ hbi hii (hb.size); obtain ⟨f', rfl⟩ : ∃ f', f = f' + 1 := ⟨f - 1, by omega⟩; have hql := qF hown hts; refine aL (aA (bC (aF (aB (aB (aB ?_)))))); refine aJ (vs := [_]) oJ rfl (AG ⟨A.blk, A.own, A.ne⟩ (by omega) hbi) rfl ?_; rintro _ f9 ⟨rfl, a7, J⟩; have d3 := d0.step a7 (fun y hy => .inl hy); have d4 := hown.evo a7 ((by first | exact I.symm.own1 | exact I.symm.nmem1)); have d5 := hts.evo a7 (VH hfr hbw); refine aJ (vs := [_, _]) oH rfl (IZ J (bQ s i).1 hr0 hr1) rfl ?_; rintro rv e4 ⟨hT, O⟩; have hcall9 := O; have c7 := d3; have hl1 := qF d4 d5; have hql2 : ∀ q, q ∈ qo.toList → q < _ := fun q hq => hl1 q (List.mem_append_left _ hq); obtain ⟨vs, bx, rfl, hOT, hFx⟩ := hT; obtain ⟨ra, rc, ka, kc, rfl⟩ := id hOT.nine; refine bL (vs := [_]) rfl cU rfl rfl rfl rfl fun g0 g1 e0 e6 H => ?_; have a6 := (hOT.evo0 H); have hVV := ((Evo.refl [] e4).then H)
   refine cT rfl rfl rfl rfl nH ((d4.evo0 O).evo0 H) (Src.ofOwn e0 ⟨by first | rfl | assumption, by first | rfl | assumption, by first | rfl | assumption, by first | rfl | assumption, by first | rfl | assumption, by first | rfl | assumption, by first | rfl | assumption, by first | rfl | assumption, by first | rfl | assumption, trivial⟩) (by have := tN hown hts; omega) fun a2 c2 e7 ob2 c8 L hob110 => ?_
   have d6 := (hOT.evo0 H).evo L (fun q hq h => by have h8 := hFx.ge q hq; have h9 := hql2 q h; omega)
   have hob2 := hob110; have hFr9 := Fr.grow hfr hl1 hFx (OT.lt a6) c7.size (Nat.le_trans hcall9.size hVV.size) hob2; refine bR (aP (aO (aW ?_))); refine ⟨⟨f', i + (bQ s i).2, n + 1, l ++ [rD st.now (bQ s i).1], a2, c2, ob2, bs ++ bx⟩, ?_, ⟨rfl, trivial⟩, ⟨rfl, rfl, rfl, rfl, trivial⟩, (((d3.then O).then H).step L (pV hfr).mem), ?_⟩
   · (try dsimp only); omega
   try dsimp only
   have hTs := OTs.app (((d5.evo0 O).evo0 H).evo L (sW hfr)) (OTs.single d6)
   refine ⟨⟨(L.blk (H.blk0 (O.blk0 J.blk)) I.nmem), (((J.own.evo0 O).evo0 H).evo L c0.own), J.ne⟩, c1, ?_, (by show s.size ≤ f' + (i + (bQ s i).2); omega), ⟨_, c8, hTs⟩, hFr9, ?_, c3⟩
   · rw [heq]; exact quo_go hii
   · show (l ++ [rD st.now (bQ s i).1]).length + (st.pos + 2) ≤ i + (bQ s i).2; rw [List.length_append]; simp; omega
  refine cJ (bH (bH (cI (aA ?_)))); refine csr (aB (aC (aG rfl) (wfl rfl bB rfl aX A.blk rfl (aB ?_)))); refine aC (aK rfl rfl (by omega) (by omega)) ?_; refine aC (aG rfl) (aC (aD rfl bB) ?_); refine bE rfl rfl (by first | rfl | assumption) bZ A.blk rfl fun e8 a8 U => ?_
  try simp only [cG, Nat.reduceAdd] at a8
  refine wnn (csr (aB (wan (aH (br1 ?_))))); have hend := heq.trans (UP (by omega)); obtain rfl := tN hown hts
  exact ⟨l, iP st (i), (pq_none (fnd_no a3)).trans (by rw [hend]; rfl), ⟨_, _, _, _, _, rfl, (hown.evo U I.symm.own1), (hts.evo U (VH hfr hbw)), hfr⟩, (d0.step U (fun y hy => .inl hy)), ⟨a8, (A.own.evo U A.ap.symm.own1), A.ne⟩, rfl, rfl, (by show st.pos + 2 ≤ i; omega), hbi, (by show l.length + st.pos ≤ i; omega)⟩
theorem LV : cX Tryz.prog 151 := ⟨_, Tryz.func151, by kernel_rfl, by kernel_rfl⟩
section
variable {s : ByteArray} {st : PS} {S : Int → Prop} {v j : Nat} {e : Int}
theorem es_end (h : s.size ≤ st.pos + 1) : fV s st = .error 83 := by unfold fV; rw [if_pos h]
theorem es_A (h : ¬ s.size ≤ st.pos + 1) (c : sb s (st.pos + 1) = 65) : fV s st = .ok ([rxK 8], iP st (st.pos + 2)) := by unfold fV; rw [if_neg h, if_pos c]; rfl
theorem es_z (h : ¬ s.size ≤ st.pos + 1) (c : sb s (st.pos + 1) = 122) : fV s st = .ok ([rxK 9], iP st (st.pos + 2)) := by unfold fV; rw [if_neg h, if_neg (by omega), if_pos c]; rfl
theorem es_b (h : ¬ s.size ≤ st.pos + 1) (c : sb s (st.pos + 1) = 98) : fV s st = .ok ([rxK 12], iP st (st.pos + 2)) := by unfold fV; rw [if_neg h, if_neg (by omega), if_neg (by omega), if_pos c]; rfl
theorem es_B (h : ¬ s.size ≤ st.pos + 1) (c : sb s (st.pos + 1) = 66) : fV s st = .ok ([rxK 13], iP st (st.pos + 2)) := by unfold fV; rw [if_neg h, if_neg (by omega), if_neg (by omega), if_neg (by omega), if_pos c]; rfl
theorem es_Q (h : ¬ s.size ≤ st.pos + 1) (c : sb s (st.pos + 1) = 81) : fV s st = oX s st := by unfold fV; rw [if_neg h, if_neg (by omega), if_neg (by omega), if_neg (by omega), if_neg (by omega), if_pos c]
theorem es_rest (h : ¬ s.size ≤ st.pos + 1) (c1 : ¬ sb s (st.pos + 1) = 65) (c2 : ¬ sb s (st.pos + 1) = 122) (c3 : ¬ sb s (st.pos + 1) = 98) (c4 : ¬ sb s (st.pos + 1) = 66) (c5 : ¬ sb s (st.pos + 1) = 81) : fV s st = (match zY (sb s (st.pos + 1)) with
    | some S => .ok ([kQ S], { st with pos := st.pos + 2 })
    | none => match pJ s st.pos with
      | .error e => .error e
      | .ok (v, j) => .ok ([rD st.now v], { st with pos := j })) := by unfold fV; rw [if_neg h, if_neg c1, if_neg c2, if_neg c3, if_neg c4, if_neg c5]; rfl
end
theorem KOut.older {w w1 w' : World} {v : Value} {l : List Rx} (h : KOut w1 w' v l) (hw : w.heap.size ≤ w1.heap.size) : KOut w w' v l := by
  obtain ⟨a, c, o, cs, bs, h1, h2, h3, h4⟩ := h
  exact ⟨a, c, o, cs, bs, h1, h2, h3, h4.older hw⟩
theorem VQ {c : Nat} {S : Int → Prop} (h : zY c = some S) : c < 128 := by
  rcases Nat.lt_or_ge c 128 with h1 | h1
  · exact h1
  · rw [yI (by omega)] at h; cases h
theorem ZD {w : World} {b : Nat} {s : ByteArray} {st : PS} {a : Option Addr} {c : Nat} {ob : Option Nat} (hR : RdAt w b s st a c ob) (hs : s.size ≤ 10000) (hlt : st.pos < s.size) (h92 : sb s st.pos = 92) (hb : Bd s st.pos) (hG : Glb w) :
    Calls Tryz.prog 129 #[.pointer (some ⟨b, 0, none⟩)] w (RetP (fun v w' => ∃ l st', fV s st = .ok (l, st') ∧ KOut w w' v l ∧ Evo [b] w w' ∧ RdAt w' b s st' a c ob ∧ st'.opn = st.opn ∧ st'.names = st.names ∧ st.pos < st'.pos ∧ Bd s st'.pos ∧ l.length + st.pos ≤ st'.pos) (fun v w' => ∃ e, fV s st = .error e ∧ v = flt e ∧ Evo [b] w w')) := by
  have hap := hR.ap; have hgb : pM ∉ [b] := fun h => hR.glb hG (List.mem_singleton.1 h).symm; have hb1 := (hb.asc hlt (by omega)).1; have hb9 := jN s (st.pos + 1); refine aT (N := 98) Tryz.func129 rfl rfl rfl ?_; refine csr (wan (aI (aI ?_))); refine eP (by kernel_rfl) (by kernel_rfl) ?_; refine bJ (fun _ A => aY rfl) ?_; refine bJ (fun _ A => aG rfl) ?_; refine bJ (fun _ A => aD rfl bB) ?_; refine bJ (fun _ A => aQ rfl aX (aV (A.blk0 hR.blk) rfl)) ?_; refine bJ (fun _ A => aK rfl rfl (by omega) (by omega)) ?_; refine bJ (fun _ A => aY rfl) ?_; refine bJ (fun _ A => aG rfl) ?_; refine bJ (fun _ A => aD rfl cS) ?_; refine bJ (fun _ A => aQ rfl cZ (aV (A.blk0 hR.blk) rfl)) ?_; refine bJ (fun _ A => cD rfl Tryz.underlying9 rfl) ?_; refine bJ (fun _ A => lZ rfl rfl) ?_; refine eV (fun i4 A => aA ?_); have e7 := (Evo.refl [b] w).then A; have b5 := A.blk0 hR.blk; refine bA rfl (fun e9 => ?_) (fun e9 => ?_)
  ·refine aF (cE (vs := [_]) cO rfl (eG 83) rfl ?_ ?_)
   ·intro pv wp hpp; obtain ⟨rfl, hpw⟩ := hpp; exact And.intro rfl ⟨_, rfl, _, es_end (by omega), rfl, (e7).then hpw⟩
   intro _ _ hF; exact hF.elim
  have hle2 : ¬ s.size ≤ st.pos + 1 := by omega
  refine aL (aA (aI (aI ?_))); refine eP (by kernel_rfl) (by kernel_rfl) ?_; refine bJ (fun _ E => aY rfl) ?_; refine bJ (fun _ E => aG rfl) ?_; refine bJ (fun _ E => aD rfl cS) ?_; refine bJ (fun _ E => aQ rfl cZ (aV (E.blk0 b5) rfl)) ?_; refine bJ (fun _ E => aY rfl) ?_; refine bJ (fun _ E => aG rfl) ?_; refine bJ (fun _ E => aD rfl bB) ?_; refine bJ (fun _ E => aQ rfl aX (aV (E.blk0 b5) rfl)) ?_; refine bJ (fun _ E => aK rfl rfl (by omega) (by omega)) ?_; refine bJ (fun _ E => eD (n := st.pos + 1) rfl rfl Tryz.underlying9 rfl (by omega)) ?_; refine bJ (fun _ E => dU rfl) ?_; refine eV (fun i5 E => aA ?_); have I := e7.then E; have H := E.blk0 b5; have J := (hR.own.evo0 A).evo0 E; refine csr (aB (wnn (bC (csr (wel ?_))))); refine wan (bA rfl (fun f0 => ?_) (fun f0 => ?_))
  ·refine csr (aB (aC (aG rfl) (wfl rfl bB rfl aX H rfl ?_))); refine aC (aK rfl rfl (by omega) (by omega)) ?_; refine aC (aG rfl) (aC (aD rfl bB) ?_); refine bE rfl rfl (by first | rfl | assumption) bZ H rfl fun i6 b6 b7 => ?_; have b8 := I.step b7 (fun y hy => .inl hy)
   try simp only [cG, Nat.reduceAdd] at b6
   refine wnn (csr (aC (cA (vs := [(0, _)]) dE rfl (cells := [_, _, _, _, _, _, _, _, _]) rfl) ?_)); refine bL (vs := [_]) rfl cU rfl rfl rfl rfl fun i7 i8 f5 f6 a3 => ?_; have b9 := b8.then a3; have f7 := a3.blk0 b6; have f8 := (J.evo b7 hap.symm.own1).evo0 a3; refine wan (aH (aM (aE (cH (br1 ?_)))))
   exact ⟨_, _, es_A hle2 (by omega), iA f5 (rT 8 _) (Fr.nil _) ((Ge.new b8 f6) _ rfl) b9 (fun b hb => by cases hb) (Nat.le_refl _), b9, ⟨f7, f8, hR.ne⟩, rfl, rfl, (by show st.pos < st.pos + 2; omega), (hb1.asc (by omega) (by omega)).1, (by show 1 + st.pos ≤ st.pos + 2; omega)⟩
  refine csr (wel ?_); refine wan (bA rfl (fun f9 => ?_) (fun f9 => ?_))
  ·refine csr (aB (aC (aG rfl) (wfl rfl bB rfl aX H rfl ?_))); refine aC (aK rfl rfl (by omega) (by omega)) ?_; refine aC (aG rfl) (aC (aD rfl bB) ?_); refine bE rfl rfl (by first | rfl | assumption) bZ H rfl fun i9 c0 c2 => ?_; have c3 := I.step c2 (fun y hy => .inl hy)
   try simp only [cG, Nat.reduceAdd] at c0
   refine wnn (csr (aC (cA (vs := [(0, _)]) dE rfl (cells := [_, _, _, _, _, _, _, _, _]) rfl) ?_)); refine bL (vs := [_]) rfl cU rfl rfl rfl rfl fun j0 j1 g0 g1 a4 => ?_; have c4 := c3.then a4; have g2 := a4.blk0 c0; have g3 := (J.evo c2 hap.symm.own1).evo0 a4; refine wan (aH (aM (aE (cH (br1 ?_)))))
   exact ⟨_, _, es_z hle2 (by omega), iA g0 (rT 9 _) (Fr.nil _) ((Ge.new c3 g1) _ rfl) c4 (fun b hb => by cases hb) (Nat.le_refl _), c4, ⟨g2, g3, hR.ne⟩, rfl, rfl, (by show st.pos < st.pos + 2; omega), (hb1.asc (by omega) (by omega)).1, (by show 1 + st.pos ≤ st.pos + 2; omega)⟩
  refine csr (wel ?_); refine wan (bA rfl (fun g4 => ?_) (fun g4 => ?_))
  ·refine csr (aB (aC (aG rfl) (wfl rfl bB rfl aX H rfl ?_))); refine aC (aK rfl rfl (by omega) (by omega)) ?_; refine aC (aG rfl) (aC (aD rfl bB) ?_); refine bE rfl rfl (by first | rfl | assumption) bZ H rfl fun j2 c5 c6 => ?_; have c7 := I.step c6 (fun y hy => .inl hy)
   try simp only [cG, Nat.reduceAdd] at c5
   refine wnn (csr (aC (cA (vs := [(0, _)]) dE rfl (cells := [_, _, _, _, _, _, _, _, _]) rfl) ?_)); refine bL (vs := [_]) rfl cU rfl rfl rfl rfl fun j3 j4 g5 g6 a5 => ?_; have c8 := c7.then a5; have g7 := a5.blk0 c5; have g8 := (J.evo c6 hap.symm.own1).evo0 a5; refine wan (aH (aM (aE (cH (br1 ?_)))))
   exact ⟨_, _, es_b hle2 (by omega), iA g5 (rT 12 _) (Fr.nil _) ((Ge.new c7 g6) _ rfl) c8 (fun b hb => by cases hb) (Nat.le_refl _), c8, ⟨g7, g8, hR.ne⟩, rfl, rfl, (by show st.pos < st.pos + 2; omega), (hb1.asc (by omega) (by omega)).1, (by show 1 + st.pos ≤ st.pos + 2; omega)⟩
  refine csr (wel ?_); refine wan (bA rfl (fun g9 => ?_) (fun g9 => ?_))
  ·refine csr (aB (aC (aG rfl) (wfl rfl bB rfl aX H rfl ?_))); refine aC (aK rfl rfl (by omega) (by omega)) ?_; refine aC (aG rfl) (aC (aD rfl bB) ?_); refine bE rfl rfl (by first | rfl | assumption) bZ H rfl fun j5 c9 d0 => ?_; have d3 := I.step d0 (fun y hy => .inl hy)
   try simp only [cG, Nat.reduceAdd] at c9
   refine wnn (csr (aC (cA (vs := [(0, _)]) dE rfl (cells := [_, _, _, _, _, _, _, _, _]) rfl) ?_)); refine bL (vs := [_]) rfl cU rfl rfl rfl rfl fun j6 j7 h0 h1 a6 => ?_; have d4 := d3.then a6; have h2 := a6.blk0 c9; have h3 := (J.evo d0 hap.symm.own1).evo0 a6; refine wan (aH (aM (aE (cH (br1 ?_)))))
   exact ⟨_, _, es_B hle2 (by omega), iA h0 (rT 13 _) (Fr.nil _) ((Ge.new d3 h1) _ rfl) d4 (fun b hb => by cases hb) (Nat.le_refl _), d4, ⟨h2, h3, hR.ne⟩, rfl, rfl, (by show st.pos < st.pos + 2; omega), (hb1.asc (by omega) (by omega)).1, (by show 1 + st.pos ≤ st.pos + 2; omega)⟩
  refine csr (wel ?_); refine wan (bA rfl (fun h4 => ?_) (fun h4 => ?_))
  ·refine csr (aB ?_)
   refine aJ (vs := [_]) LV rfl (IG ⟨H, J, hR.ne⟩ hs (by have := hb1.asc (by omega) (by omega); exact this.1) (hG.evo I hgb)) rfl ?_
   rintro rv j8 ⟨l, st', hq, hK, h5, h8, ho, hnm, hp, hbd, hll⟩; have O := I; refine wan (aH (aM (aE (cH (br1 ?_))))); exact ⟨_, _, (es_Q hle2 (by omega)).trans hq, hK.older O.size, (I.step h5 (fun y hy => .inl hy)), h8, ho, hnm, by omega, hbd, hll⟩
  have hrest := es_rest hle2 (by omega) (by omega) (by omega) (by omega) (by omega); refine csr (aB (aJ (vs := [_]) xO rfl (wI (sb s (st.pos + 1)) hb9) rfl ?_)); rintro rv j9 ⟨hL, V⟩; obtain ⟨a1, c1, ob1, l1, rfl, h9, hg1, hv1, hl1, i1⟩ := hL.uni; have a7 := I.then V; have a8 := V.blk0 H; refine aB (aC (bK rfl rfl) ?_); refine aC (bK rfl rfl) ?_; refine bR (wan (csr (aB (wnn (dW rfl (fun W => ?_) (fun W => ?_))))))
  ·obtain ⟨S1, hS1'⟩ := IB W; refine csr (aB (aC (aG rfl) (wfl rfl bB rfl aX a8 rfl ?_))); refine aC (aK rfl rfl (by omega) (by omega)) ?_; refine aC (aG rfl) (aC (aD rfl bB) ?_); refine bE rfl rfl (by first | rfl | assumption) bZ a8 rfl fun k0 d5 a9 => ?_; have d6 := a7.step a9 (fun y hy => .inl hy)
   try simp only [cG, Nat.reduceAdd] at d5
   refine wnn (csr (aB ?_)); refine aJ (vs := [_]) gM rfl (oB (h9.evo a9 (Apart.fresh (Lt.blk H) hg1).symm.own1) hv1 (by omega) (i1 S1 hS1')) rfl ?_; rintro rv e8 ⟨hT, a0⟩; have hcall9 := a0; have O := d6; obtain ⟨vs, bx, rfl, hOT, hFx⟩ := hT; obtain ⟨ra, rc, ka, kc, rfl⟩ := id hOT.nine; refine bL (vs := [_]) rfl cU rfl rfl rfl rfl fun k1 k2 h6 h7 a2 => ?_; have d8 := (d6.then a0).then a2; have d9 := a2.blk0 (a0.blk0 d5); have e0 := (((J.evo0 V).evo a9 hap.symm.own1).evo0 a0).evo0 a2; refine wan (aH (aM (aE (cH (br1 ?_)))))
   exact ⟨[kQ S1], iP st (st.pos + 2), hrest.trans (by rw [hS1']; rfl), iA h6 hOT (hFx.older O.size) ((Ge.new (Evo.refl ([]) e8) h7) _ rfl) ((Evo.refl ([]) e8).then a2) (fun b hb h => by cases h) (Nat.le_trans O.size hcall9.size), d8, ⟨d9, e0, hR.ne⟩, rfl, rfl, (by show st.pos < st.pos + 2; omega), (hb1.asc (by omega) (VQ hS1')).1, (by show 1 + st.pos ≤ st.pos + 2; omega)⟩
  refine aL (aO (aA (csr (aB (aB ?_))))); refine cE (vs := [_]) xN rfl (DC ⟨a8, (J.evo0 V), hR.ne⟩ (by omega) hlt) rfl ?_ ?_
  ·intro pv wp hpp; obtain ⟨hpe, rfl, hpw⟩ := hpp; exact And.intro rfl ⟨_, rfl, _, hrest.trans (by rw [BY W, hpe]), rfl, (a7).step hpw (fun y hy => .inl hy)⟩
  rintro _ i2 ⟨n, j, hx, rfl, e1, U⟩; have b4 := a7.step e1 (fun y hy => .inl hy); obtain ⟨hbj, hij, k3⟩ := SJ hx hb h92; have hjl := hbj.le; refine aJ (vs := [_, _]) oH rfl (IZ (st := iP st j) ⟨U.blk, U.own, U.ne⟩ ((n : Nat) : Int) (by omega) (by omega)) rfl ?_; rintro rv d7 ⟨hT, L⟩; have hcall9 := L; have O := b4; obtain ⟨vs, bx, rfl, hOT, hFx⟩ := hT; obtain ⟨ra, rc, ka, kc, rfl⟩ := id hOT.nine; refine bL (vs := [_]) rfl cU rfl rfl rfl rfl fun k4 i3 e2 e3 M => ?_; have e4 := (b4.then L).then M; have e5 := M.blk0 (L.blk0 U.blk); have e6 := (U.own.evo0 L).evo0 M; refine wan (aH (cH (br1 ?_)))
  exact ⟨[rD st.now ((n : Nat) : Int)], iP st j, hrest.trans (by rw [BY W, hx]; rfl), iA e2 hOT (hFx.older O.size) ((Ge.new (Evo.refl ([]) d7) e3) _ rfl) ((Evo.refl ([]) d7).then M) (fun b hb h => by cases h) (Nat.le_trans O.size hcall9.size), e4, ⟨e5, e6, U.ne⟩, rfl, rfl, hij, hbj, (by show 1 + st.pos ≤ j; omega)⟩
end Go.Proofs.YtidpigbinpaaeaaGreat
namespace Go.Proofs.YtidpigbinpaaeaaGreat
open Go.RowKit Go.W
theorem BP {s : ByteArray} : ∀ {f j : Nat}, j ≤ gY s f j
  | 0, j => Nat.le_refl _
  | f + 1, j => by
    rw [gY]
    split
    · exact Nat.le_trans (Nat.le_succ j) BP
    · exact Nat.le_refl _
theorem pSet_b {s : ByteArray} {i : Nat} : ∀ {f j : Nat} {b m : Bool} {n : Int} {fl : Fl}, (gV s i f j b n m fl).err = 0 → ∃ k, j ≤ k ∧ k < s.size ∧ (sb s k = 58 ∨ sb s k = 41) ∧ (gV s i f j b n m fl).size = k + 1 - i ∧ (gV s i f j b n m fl).name = emp
  | 0, j, b, m, n, fl, h => absurd h (show ¬ (84 : Int) = 0 by omega)
  | f + 1, j, b, m, n, fl, h => by
    have step : ∀ {b' m' : Bool} {n' : Int} {fl' : Fl}, gV s i (f + 1) j b n m fl = gV s i f (j + 1) b' n' m' fl' → ∃ k, j ≤ k ∧ k < s.size ∧ (sb s k = 58 ∨ sb s k = 41) ∧ (gV s i (f + 1) j b n m fl).size = k + 1 - i ∧ (gV s i (f + 1) j b n m fl).name = emp := by
      intro b' m' n' fl' e
      rw [e] at h ⊢
      obtain ⟨k, h1, h2⟩ := pSet_b h
      exact ⟨k, by omega, h2⟩
    have no : ∀ {fl' : Fl}, gV s i (f + 1) j b n m fl = ⟨0, emp, fl', false, false, 84⟩ → False := fun e => by rw [e] at h; exact absurd h (show ¬ (84 : Int) = 0 by omega)
    by_cases h0 : s.size ≤ j
    · exact (no (SC h0)).elim
    · by_cases h1 : sb s j = 105
      · exact step (ps_i (by omega) h1)
      · by_cases h2 : sb s j = 109
        · exact step (ps_m (by omega) h2)
        · by_cases h3 : sb s j = 115
          · exact step (ps_s (by omega) h3)
          · by_cases h4 : sb s j = 85
            · exact step (ps_u (by omega) h4)
            · by_cases h5 : sb s j = 45
              · cases m with
                | true => exact (no (ps_mm (by omega) h5)).elim
                | false => exact step (ps_m1 (by omega) h5)
              · by_cases h6 : sb s j = 58 ∨ sb s j = 41
                · have e := XV (i := i) (f := f) (b := b) (n := n) (m := m) (fl := fl) (show j < s.size by omega) h6
                  rw [e]
                  exact ⟨j, Nat.le_refl _, by omega, h6, rfl, rfl⟩
                · exact (no (ps_no (by omega) h1 h2 h3 h4 h5 h6)).elim
theorem UU {s : ByteArray} {i h : Nat} {fl : Fl} (he : (oY s i h fl).err = 0) : ∃ k, i + h ≤ k ∧ isB s k 62 ∧ (oY s i h fl).size = k + 1 - i ∧ (oY s i h fl).name.size ≤ s.size := by
  have hge : i + h ≤ gY s s.size (i + h) := BP
  generalize e : gY s s.size (i + h) = j at hge
  by_cases hc : j = i + h ∨ ¬ isB s j 62
  · rw [lL e hc] at he
    exact absurd he (show ¬ (85 : Int) = 0 by omega)
  · rw [qZ e hc]
    have hj : isB s j 62 := Classical.not_not.1 (fun h => hc (.inr h))
    refine ⟨j, hge, hj, rfl, ?_⟩
    show (s.extract (i + h) j).size ≤ _
    rw [fL (by have := hj.1; omega)]
    have := hj.1; omega
theorem II {s : ByteArray} {i : Nat} {fl : Fl} (hb : Bd s i) (h40 : isB s i 40) (he : (fN s i fl).err = 0) : 1 ≤ (fN s i fl).size ∧ Bd s (i + (fN s i fl).size) ∧ (fN s i fl).name.size ≤ s.size := by
  have h1 := h40.asc (by decide) hb
  by_cases h : isB s i 40 ∧ isB s (i + 1) 63
  · by_cases ha : isB s (i + 2) 80 ∧ isB s (i + 3) 60
    · have e : fN s i fl = oY s i 4 fl := by unfold fN; rw [if_neg (fun h9 => h9 h), if_pos ha]
      rw [e] at he ⊢
      obtain ⟨k, h2, h3, h4, h5⟩ := UU he
      have h6 : Bd s (k + 1) := h3.asc (by decide) (oQ hb (by omega) h3.1 (by rw [h3.2]; decide))
      exact ⟨by omega, by rw [h4, show i + (k + 1 - i) = k + 1 by omega]; exact h6, h5⟩
    · by_cases hc : isB s (i + 2) 60
      · have e : fN s i fl = oY s i 3 fl := by unfold fN; rw [if_neg (fun h9 => h9 h), if_neg ha, if_pos hc]
        rw [e] at he ⊢
        obtain ⟨k, h2, h3, h4, h5⟩ := UU he
        have h6 : Bd s (k + 1) := h3.asc (by decide) (oQ hb (by omega) h3.1 (by rw [h3.2]; decide))
        exact ⟨by omega, by rw [h4, show i + (k + 1 - i) = k + 1 by omega]; exact h6, h5⟩
      · by_cases hd : isB s (i + 2) 58
        · have e : fN s i fl = ⟨3, emp, fl, false, false, 0⟩ := by unfold fN; rw [if_neg (fun h9 => h9 h), if_neg ha, if_neg hc, if_pos hd]
          rw [e]
          exact ⟨by show 1 ≤ 3; omega, hd.asc (by decide) (h.2.asc (by decide) h1), Nat.zero_le _⟩
        · have e : fN s i fl = gV s i s.size (i + 2) true 0 false fl := by unfold fN; rw [if_neg (fun h9 => h9 h), if_neg ha, if_neg hc, if_neg hd]
          rw [e] at he ⊢
          obtain ⟨k, h2, h3, h4, h5, h6⟩ := pSet_b he
          have h7 : Bd s (k + 1) := ((oQ hb (by omega) h3 (by omega)).asc h3 (by omega)).1
          exact ⟨by omega, by rw [h5, show i + (k + 1 - i) = k + 1 by omega]; exact h7, by rw [h6]; exact Nat.zero_le _⟩
  · have e : fN s i fl = ⟨1, emp, fl, true, false, 0⟩ := NI h
    rw [e]
    exact ⟨Nat.le_refl _, h1, Nat.zero_le _⟩
theorem pOpen_e {s : ByteArray} {i : Nat} {fl : Fl} : (fN s i fl).size ≤ s.size + 3 := by
  have hn : ∀ h, (oY s i h fl).size ≤ s.size + 3 := fun h => by
    by_cases hc : gY s s.size (i + h) = i + h ∨ ¬ isB s (gY s s.size (i + h)) 62
    · rw [lL rfl hc]; exact Nat.zero_le _
    · rw [qZ rfl hc]
      have hj : isB s (gY s s.size (i + h)) 62 := Classical.not_not.1 (fun h => hc (.inr h))
      have := hj.1
      show gY s s.size (i + h) + 1 - i ≤ _
      omega
  have hs : ∀ {f j : Nat} {b m : Bool} {n : Int} {fl : Fl}, (gV s i f j b n m fl).size ≤ s.size + 3 := by
    intro f
    induction f with
    | zero => intro j b m n fl; exact Nat.zero_le _
    | succ f ih =>
      intro j b m n fl
      by_cases h0 : s.size ≤ j
      · rw [SC h0]; exact Nat.zero_le _
      · by_cases h1 : sb s j = 105
        · rw [ps_i (by omega) h1]; exact ih
        · by_cases h2 : sb s j = 109
          · rw [ps_m (by omega) h2]; exact ih
          · by_cases h3 : sb s j = 115
            · rw [ps_s (by omega) h3]; exact ih
            · by_cases h4 : sb s j = 85
              · rw [ps_u (by omega) h4]; exact ih
              · by_cases h5 : sb s j = 45
                · cases m with
                  | true => rw [ps_mm (by omega) h5]; exact Nat.zero_le _
                  | false => rw [ps_m1 (by omega) h5]; exact ih
                · by_cases h6 : sb s j = 58 ∨ sb s j = 41
                  · rw [XV (by omega) h6]; show j + 1 - i ≤ _; omega
                  · rw [ps_no (by omega) h1 h2 h3 h4 h5 h6]; exact Nat.zero_le _
  unfold fN
  split
  · show 1 ≤ _; omega
  · split
    · exact hn 4
    · split
      · exact hn 3
      · split
        · show 3 ≤ _; omega
        · exact hs
def NB (w : World) (o o' : Option Nat) : Prop := o' = o ∨ ∃ g, o' = some g ∧ w.heap.size ≤ g
structure Mv (s : ByteArray) (st st' : PS) : Prop where
  opn : st'.opn = st.opn
  le : st.pos ≤ st'.pos
  bd : Bd s st'.pos
  nm : st'.names.length ≤ 100
def UC (b : Nat) (s : ByteArray) (ex : PS → PX Rx) (st : PS) (ob : Option Nat) (w : World) (v : Value) (w' : World) : Prop :=
  ∃ x st', ex st = .ok (x, st') ∧ Evo (b :: ob.toList) w w' ∧ Mv s st st' ∧ ∃ a' c' ob' vs bs, v = .agg vs.toArray ∧ OT x w' vs bs ∧ Fr w bs ∧ RdAt w' b s st' a' c' ob' ∧ NB w ob ob'
def ExPan (b : Nat) {α : Type} (ex : PS → PX α) (st : PS) (ob : Option Nat) (w : World) (v : Value) (w' : World) : Prop := ∃ e, ex st = .error e ∧ v = flt e ∧ Evo (b :: ob.toList) w w'
def PcPost (b : Nat) (s : ByteArray) (pp : PS → PL) (st : PS) (ob : Option Nat) (w : World) (v : Value) (w' : World) : Prop :=
  ∃ l st', pp st = .ok (l, st') ∧ Evo (b :: ob.toList) w w' ∧ Mv s st st' ∧ st.pos < st'.pos ∧ l.length + st.pos ≤ st'.pos ∧
    ∃ a' c' ob' ka kc ko cs bs, v = .slice ka l.length kc ∧ OwnS w' 71 9 ka l.length kc cs ko ∧ OTs l w' cs bs ∧ Fr w (ko.toList ++ bs) ∧ RdAt w' b s st' a' c' ob' ∧ NB w ob ob'
def vN (b : Nat) (s : ByteArray) (ex : PS → PX Rx) (m : Nat) : Prop := ∀ {w : World} {st : PS} {a : Option Addr} {c : Nat} {ob : Option Nat}, RdAt w b s st a c ob → st.opn = m → Bd s st.pos → st.names.length ≤ 100 → Glb w → Apart (some pM) ob →
  Calls Tryz.prog 52 #[.pointer (some ⟨b, 0, none⟩)] w (RetP (UC b s ex st ob w) (ExPan b ex st ob w))
theorem qG {w : World} {b : Nat} {o o1 : Option Nat} (h : NB w o o1) : ∀ y, y ∈ b :: o1.toList → y ∈ b :: o.toList ∨ w.heap.size ≤ y := fun y hy => by
  rcases List.mem_cons.1 hy with rfl | hy
  · exact .inl (List.mem_cons_self ..)
  · rcases h with rfl | ⟨g, rfl, hg⟩
    · exact .inl (List.mem_cons_of_mem _ hy)
    · rw [List.mem_singleton.1 hy]; exact .inr hg
theorem NB.older {w w1 : World} {o o1 o2 : Option Nat} (h : NB w o o1) (h2 : NB w1 o1 o2) (hw : w.heap.size ≤ w1.heap.size) : NB w o o2 := by
  rcases h2 with rfl | ⟨g, rfl, hg⟩
  · exact h
  · exact .inr ⟨g, rfl, Nat.le_trans hw hg⟩
theorem BM {b : Nat} {s : ByteArray} {pp : PS → PL} {st st' : PS} {a : Option Addr} {c : Nat} {ob : Option Nat} {w w' : World} {v : Value} {l : List Rx} (hR : RdAt w b s st a c ob) (h1 : pp st = .ok (l, st')) (hK : KOut w w' v l) (he : Evo [b] w w') (hR' : RdAt w' b s st' a c ob)
    (ho : st'.opn = st.opn) (hn : st'.names = st.names) (hn2 : st.names.length ≤ 100) (hp : st.pos < st'.pos) (hb : Bd s st'.pos) (hl : l.length + st.pos ≤ st'.pos) : PcPost b s pp st ob w v w' := by
  obtain ⟨ka, kc, ko, cs, bs, rfl, h2, h3, h4⟩ := hK
  exact ⟨l, st', h1, he.mono (fun q hq => by rw [List.mem_singleton.1 hq]; simp), ⟨ho, by omega, hb, by rw [hn]; exact hn2⟩, hp, hl, a, c, ob, ka, kc, ko, cs, bs, rfl, h2, h3, h4, hR', .inl rfl⟩
theorem pan_of {b : Nat} {α : Type} {pp : PS → PX α} {st : PS} {ob : Option Nat} {w w' : World} {e : Int} (h : pp st = .error e) (he : Evo [b] w w') : ExPan b pp st ob w (flt e) w' := ⟨e, h, rfl, he.mono (fun q hq => by rw [List.mem_singleton.1 hq]; simp)⟩
end Go.Proofs.YtidpigbinpaaeaaGreat
namespace Go.Proofs.YtidpigbinpaaeaaGreat
open Go.RowKit Go.W
attribute [local irreducible] Decidable.decide
theorem gB : dA Tryz.prog 116 3 = some 6 := by kernel_rfl
theorem mG : cX Tryz.prog 146 := ⟨_, Tryz.func146, by kernel_rfl, by kernel_rfl⟩
theorem LW : cX Tryz.prog 147 := ⟨_, Tryz.func147, by kernel_rfl, by kernel_rfl⟩
theorem uI : cX Tryz.prog 52 := ⟨_, Tryz.func52, by kernel_rfl, by kernel_rfl⟩
theorem mE : kF Tryz.prog 114 = some #[.bool false, .bool false, .bool false, .bool false] := by kernel_rfl
structure BrG where
  b3 : Nat
  b4 : Nat
structure BrI (w wr : World) (b : Nat) (s : ByteArray) (st : PS) (a : Option Addr) (c : Nat) (ob : Option Nat) (x : BrG) : Prop where
  hr : RdAt wr b s st a c ob
  h3 : wr.heap[x.b3]? = some (.cells (opV (fN s st.pos st.now)) 211 (0, 0))
  h4 : wr.heap[x.b4]? = some (.cells #[.bool st.now.fold, .bool st.now.lines, .bool st.now.dots, .bool st.now.lazy] 114 (0, 0))
  g3 : Ge w (some x.b3)
  g4 : Ge w (some x.b4)
  a34 : Apart (some x.b3) (some x.b4)
theorem yC {w : World} {b : Nat} {o : Opn} {T : TypeId} {z : Nat × Nat} (h : w.heap[b]? = some (.cells (opV o) T z)) : ∀ j v, ([.bool o.thn.fold, .bool o.thn.lines, .bool o.thn.dots, .bool o.thn.lazy] : List Value)[j]? = some v → w.cell? ⟨b, 2 + j, none⟩ = some v
  | 0, v, e => by cases e; exact eY h rfl
  | 1, v, e => by cases e; exact eY h rfl
  | 2, v, e => by cases e; exact eY h rfl
  | 3, v, e => by cases e; exact eY h rfl
  | j + 4, v, e => by cases e
section
variable {s : ByteArray} {ex : PS → PX Rx} {st : PS} {o : Opn} {e : Int} {x : Rx} {st2 : PS}
theorem br_set (ho : fN s st.pos st.now = o) (h : o.err = 0) (h2 : o.sett = true) : sZ s ex st = .ok ([], { st with pos := st.pos + o.size, now := o.thn }) := by unfold sZ; rw [ho]; exact if_pos ⟨h, h2⟩
theorem br_deep (ho : fN s st.pos st.now = o) (h : ¬ (o.err = 0 ∧ o.sett = true)) (h2 : st.opn = 250) : sZ s ex st = .error 3 := by unfold sZ; rw [ho]; exact (if_neg h).trans (if_pos h2)
theorem br_err (ho : fN s st.pos st.now = o) (h : ¬ (o.err = 0 ∧ o.sett = true)) (h2 : ¬ st.opn = 250) (h3 : o.err ≠ 0) : sZ s ex st = .error o.err := by unfold sZ; rw [ho]; exact (if_neg h).trans ((if_neg h2).trans (if_pos h3))
theorem br_full (ho : fN s st.pos st.now = o) (h : ¬ (o.err = 0 ∧ o.sett = true)) (h2 : ¬ st.opn = 250) (h3 : ¬ o.err ≠ 0) (h4 : o.capt = true) (h5 : Full o.name st.names) : sZ s ex st = .error 85 := by unfold sZ; rw [ho]; exact (if_neg h).trans ((if_neg h2).trans ((if_neg h3).trans (if_pos ⟨h4, h5⟩)))
theorem HP (ho : fN s st.pos st.now = o) (h : ¬ (o.err = 0 ∧ o.sett = true)) (h2 : ¬ st.opn = 250) (h3 : ¬ o.err ≠ 0) (h4 : ¬ (o.capt = true ∧ Full o.name st.names)) : sZ s ex st = match ex ⟨st.pos + o.size, o.thn, st.opn + 1, if o.capt = true then st.names ++ [o.name] else st.names⟩ with
    | .error e => .error e
    | .ok (x, st2) => if isB s st2.pos 41 then
        .ok ([if o.capt = true then yY ((st.names.length : Int) + 1) o.name x else x], { st2 with pos := st2.pos + 1, opn := st2.opn - 1, now := st.now })
      else .error 80 := by unfold sZ; rw [ho]; exact (if_neg h).trans ((if_neg h2).trans ((if_neg h3).trans (if_neg h4)))
end
theorem ot_grp {X : List Nat} {w w1 w2 : World} {x : Rx} {vs : List Value} {bs : List Nat} {g : Nat} {n : Int} {nm : ByteArray} (hO : OwnS w2 71 9 (some ⟨g, 0, none⟩) 1 1 vs (some g)) (hT : OT x w1 vs bs) (hF : Fr w bs) (hg : w1.heap.size ≤ g) (he : Evo X w1 w2) (hx : ∀ b, b ∈ bs → b ∉ X) (hw : w.heap.size ≤ w1.heap.size) (hn : nm.size ≤ 1000000) :
    OT (yY n nm x) w2 [iv 7, .int .i32 0, .slice none 0 0, iv 0, iv 0, .bool false, iv n, .string nm, .slice (some ⟨g, 0, none⟩) 1 1] (g :: bs) ∧ Fr w (g :: bs) := by
  refine ⟨?_, ⟨List.nodup_cons.2 ⟨fun h => ?_, hF.nd⟩, fun b hb => ?_⟩⟩
  · unfold yY
    rw [OT]
    exact ⟨none, 0, none, _, 1, some g, vs, bs, rfl, OwnS.nil _ _ _, hO, OTs.single (hT.evo he hx), rfl, by simp, hn, by simp⟩
  · have := hT.lt g h; omega
  · rcases List.mem_cons.1 hb with rfl | hb
    · omega
    · exact hF.ge b hb
theorem EF {q b : Nat} {o : Option Nat} (h1 : Apart (some q) (some b)) (h2 : Apart (some q) o) : q ∉ b :: o.toList := fun h => by
  rcases List.mem_cons.1 h with rfl | h
  · exact h1 q rfl rfl
  · exact h2 q rfl (Option.mem_toList.1 h)
theorem TE {w : World} (h : Glb w) : Lt w (some pM) := fun g e => by
  cases e
  obtain ⟨m, hm⟩ := h
  rcases Nat.lt_or_ge pM w.heap.size with h1 | h1
  · exact h1
  · have h2 : w.heap[pM]? = none := Array.getElem?_eq_none h1
    simp [World.cell?, h2] at hm
theorem gm_nm {b : Nat} {o : Option Nat} (h1 : pM ∉ [b]) (h2 : Apart (some pM) o) : pM ∉ b :: o.toList := fun h => by
  rcases List.mem_cons.1 h with e | h
  · exact h1 (by rw [e]; simp)
  · exact h2 _ rfl (Option.mem_toList.1 h)
theorem YS {w w1 : World} {b : Nat} {bs : List Nat} (h : Fr w1 bs) (hb : Lt w (some b)) (hw : w.heap.size ≤ w1.heap.size) : ∀ q, q ∈ bs → q ∉ [b] := fun q hq hm => by
  have h1 := h.ge q hq
  have h2 := hb b rfl
  rw [List.mem_singleton.1 hm] at h1; omega
theorem TY {ex : PS → PX Rx} {w : World} {b : Nat} {s : ByteArray} {st : PS} {a : Option Addr} {c : Nat} {ob : Option Nat} (hex : st.opn < 250 → vN b s ex (st.opn + 1)) (hR : RdAt w b s st a c ob) (hs : s.size ≤ 4096) (h40 : isB s st.pos 40) (hop : st.opn ≤ 250) (hb : Bd s st.pos) (hnl : st.names.length ≤ 100) (hG : Glb w) (hGo : Apart (some pM) ob) :
    Calls Tryz.prog 127 #[.pointer (some ⟨b, 0, none⟩)] w (RetP (PcPost b s (sZ s ex) st ob w) (ExPan b (sZ s ex) st ob w)) := by
  have hap := hR.ap; have hgb : pM ∉ [b] := fun h => hR.glb hG (List.mem_singleton.1 h).symm; have hgw := gm_nm hgb hGo; have hbw : Lt w (some b) := Lt.blk hR.blk; have how : Lt w ob := Lt.own hR.own; refine aT (N := 100) Tryz.func127 rfl rfl rfl ?_; refine csr (wan (aI (mB (α := BrG) (fun x => [(3, .pointer (some ⟨x.b3, 0, none⟩)), (4, .pointer (some ⟨x.b4, 0, none⟩))]) [(0, _), (2, _)] (fun x wr => Evo (b :: ob.toList) w wr ∧ (BrI w wr b s st a c ob x)) ⟨rfl, rfl, trivial⟩ ?_ ?_)))
  ·refine eX (fun w0 w' => Evo [] w0 w') (by kernel_rfl) (fun w1 t2 => ?_); have m4 := (Evo.refl (b :: ob.toList) w).then t2; have k0 := t2.blk0 hR.blk; have k8 := hR.own.evo0 t2; refine aet 0 rfl (fun _ hS => aY rfl) (Evo.refl [] w1) ?_; refine aet 2 rfl (fun _ hS => aY rfl) (Evo.refl [] w1) ?_; refine aet 3 rfl (fun _ hS => aG rfl) (Evo.refl [] w1) ?_; refine aet 4 rfl (fun _ hS => aD rfl dS) (Evo.refl [] w1) ?_; refine aet 5 rfl (fun _ hS => cY (o := 2) rfl jY dH (vs := [.bool st.now.fold, .bool st.now.lines, .bool st.now.dots, .bool st.now.lazy]) rfl (CS (hS.blk0 k0))) (Evo.refl [] w1) ?_; refine bS [1, 6, 7] (by kernel_rfl) rfl ⟨?_, ?_, ?_, trivial⟩
   ·refine bY rfl ?_; refine aJ (vs := [_]) mG rfl (pA ⟨k0, k8, hR.ne⟩ (by omega) h40.1) rfl ?_; rintro _ w6 ⟨rfl, n2⟩; have i4 := m4.then n2; have m5 := (Evo.refl [] w1).then n2; have h3 := n2.blk0 k0; have h4 := k8.evo0 n2; refine aP (bN (.inl m5) ?_); refine bS [6, 7] (by kernel_rfl) rfl ⟨?_, ?_, trivial⟩
    ·refine bY rfl ?_; refine cF rfl iB fun b3 D7 t3 h5 e2 => ?_; have e6 := h5; have k9 := m5.then e2; refine aP (bN (.inl k9) ?_); refine bS [7] (by kernel_rfl) rfl ⟨?_, trivial⟩; refine bY rfl ?_; refine cF rfl mE fun b4 D8 y8 h6 h7 => ?_; have e7 := h6; have m7 := Apart.new (Lt.blk t3) h6; have t4 := Ge.new (i4.then e2) h6; refine aP (bN (.inl (k9.then h7)) ?_); refine bS [8] (by kernel_rfl) rfl ⟨?_, trivial⟩; refine bY rfl ?_; refine aZ rfl rfl bG (h7.blk0 t3) rfl rfl ⟨by first | rfl | assumption, by first | rfl | assumption, by first | rfl | assumption, by first | rfl | assumption, by first | rfl | assumption, by first | rfl | assumption, by first | rfl | assumption, by first | rfl | assumption, by first | rfl | assumption, trivial⟩ fun D9 t5 k1 => ?_; have t6 := (k9.then h7).step k1 (Ge.new m5 h5).mem1
     try simp only [cG, Nat.reduceAdd] at t5
     refine aP (bN (.inl t6) ?_); refine bS [9] (by kernel_rfl) rfl ⟨?_, trivial⟩; refine bY rfl ?_; refine aZ rfl rfl dH (k1.blk y8 m7.symm.nmem1) rfl rfl ⟨by first | rfl | assumption, by first | rfl | assumption, by first | rfl | assumption, by first | rfl | assumption, trivial⟩ fun E0 t7 k2 => ?_
     try simp only [cG, Nat.reduceAdd] at t7
     refine aP (bN (.inl (t6.step k2 (Ge.new k9 h6).mem1)) ?_); refine cV (by kernel_rfl) (aW ?_); refine ⟨⟨b3, b4⟩, ⟨rfl, rfl, trivial⟩, ⟨rfl, rfl, trivial⟩, ((((i4.then e2).then h7).step k1 (Ge.new i4 h5).mem1).step k2 t4.mem1), ?_⟩; exact ⟨⟨(k2.blk (k1.blk (h7.blk0 (e2.blk0 h3)) (Apart.new (Lt.blk h3) h5).nmem1) (Apart.new (Lt.blk (e2.blk0 h3)) h6).nmem1), ((((h4.evo0 e2).evo0 h7).evo k1 (Apart.new (Lt.own h4) h5).own1).evo k2 (Apart.new (Lt.own (h4.evo0 e2)) h6).own1), hR.ne⟩, (k2.blk t5 m7.nmem1), t7, (Ge.new i4 h5), t4, m7⟩
    refine bY rfl ?_; refine cF rfl mE fun b4 E1 t8 i1 e3 => ?_; have e7 := i1; have l0 := m5.then e3; refine aP (bN (.inl l0) ?_); refine bS [6] (by kernel_rfl) rfl ⟨?_, trivial⟩; refine bY rfl ?_; refine cF rfl iB fun b3 E2 y9 i2 i3 => ?_; have e6 := i2; have m8 := Apart.new (Lt.blk t8) i2; have t9 := Ge.new (i4.then e3) i2; refine aP (bN (.inl (l0.then i3)) ?_); refine bS [8] (by kernel_rfl) rfl ⟨?_, trivial⟩; refine bY rfl ?_; refine aZ rfl rfl bG y9 rfl rfl ⟨by first | rfl | assumption, by first | rfl | assumption, by first | rfl | assumption, by first | rfl | assumption, by first | rfl | assumption, by first | rfl | assumption, by first | rfl | assumption, by first | rfl | assumption, by first | rfl | assumption, trivial⟩ fun E3 u0 k3 => ?_; have u1 := (l0.then i3).step k3 (Ge.new l0 i2).mem1
    try simp only [cG, Nat.reduceAdd] at u0
    refine aP (bN (.inl u1) ?_); refine bS [9] (by kernel_rfl) rfl ⟨?_, trivial⟩; refine bY rfl ?_; refine aZ rfl rfl dH (k3.blk (i3.blk0 t8) m8.nmem1) rfl rfl ⟨by first | rfl | assumption, by first | rfl | assumption, by first | rfl | assumption, by first | rfl | assumption, trivial⟩ fun E4 u2 k4 => ?_
    try simp only [cG, Nat.reduceAdd] at u2
    refine aP (bN (.inl (u1.step k4 (Ge.new m5 i1).mem1)) ?_); refine cV (by kernel_rfl) (aW ?_); refine ⟨⟨b3, b4⟩, ⟨rfl, rfl, trivial⟩, ⟨rfl, rfl, trivial⟩, ((((i4.then e3).then i3).step k3 t9.mem1).step k4 (Ge.new i4 i1).mem1), ?_⟩; exact ⟨⟨(k4.blk (k3.blk (i3.blk0 (e3.blk0 h3)) (Apart.new (Lt.blk (e3.blk0 h3)) i2).nmem1) (Apart.new (Lt.blk h3) i1).nmem1), ((((h4.evo0 e3).evo0 i3).evo k3 (Apart.new (Lt.own (h4.evo0 e3)) i2).own1).evo k4 (Apart.new (Lt.own h4) i1).own1), hR.ne⟩, (k4.blk u0 m8.symm.nmem1), u2, t9, (Ge.new i4 i1), m8.symm⟩
   ·refine bY rfl ?_; refine cF rfl iB fun b3 E5 l1 k5 l2 => ?_; have e6 := k5; have n3 := Apart.new (Lt.blk k0) k5; have n4 := Apart.new (Lt.own k8) k5; have i5 := Ge.new m4 k5; have n5 := Ge.new (Evo.refl [] w1) k5; have e8 := m4.then l2; have f0 := (Evo.refl [] w1).then l2; have b5 := l2.blk0 k0; have b7 := k8.evo0 l2; refine aP (bN (.inl f0) ?_); refine bS [1, 7] (by kernel_rfl) rfl ⟨?_, ?_, trivial⟩
    ·refine bY rfl ?_; refine aJ (vs := [_]) mG rfl (pA ⟨b5, b7, hR.ne⟩ (by omega) h40.1) rfl ?_; rintro _ z8 ⟨rfl, H⟩; have i6 := f0.then H; refine aP (bN (.inl i6) ?_); refine bS [7] (by kernel_rfl) rfl ⟨?_, trivial⟩; refine bY rfl ?_; refine cF rfl mE fun b4 z9 u9 b8 b9 => ?_; have e7 := b8; have l3 := Apart.new (Lt.blk (H.blk0 l1)) b8; have n6 := Ge.new (e8.then H) b8; refine aP (bN (.inl (i6.then b9)) ?_); refine bS [8] (by kernel_rfl) rfl ⟨?_, trivial⟩; refine bY rfl ?_; refine aZ rfl rfl bG (b9.blk0 (H.blk0 l1)) rfl rfl ⟨by first | rfl | assumption, by first | rfl | assumption, by first | rfl | assumption, by first | rfl | assumption, by first | rfl | assumption, by first | rfl | assumption, by first | rfl | assumption, by first | rfl | assumption, by first | rfl | assumption, trivial⟩ fun A0 n7 f5 => ?_; have n8 := (i6.then b9).step f5 n5.mem1
     try simp only [cG, Nat.reduceAdd] at n7
     refine aP (bN (.inl n8) ?_); refine bS [9] (by kernel_rfl) rfl ⟨?_, trivial⟩; refine bY rfl ?_; refine aZ rfl rfl dH (f5.blk u9 l3.symm.nmem1) rfl rfl ⟨by first | rfl | assumption, by first | rfl | assumption, by first | rfl | assumption, by first | rfl | assumption, trivial⟩ fun A1 n9 f6 => ?_
     try simp only [cG, Nat.reduceAdd] at n9
     refine aP (bN (.inl (n8.step f6 (Ge.new i6 b8).mem1)) ?_); refine cV (by kernel_rfl) (aW ?_); refine ⟨⟨b3, b4⟩, ⟨rfl, rfl, trivial⟩, ⟨rfl, rfl, trivial⟩, ((((e8.then H).then b9).step f5 i5.mem1).step f6 n6.mem1), ?_⟩; exact ⟨⟨(f6.blk (f5.blk (b9.blk0 (H.blk0 b5)) n3.nmem1) (Apart.new (Lt.blk (H.blk0 b5)) b8).nmem1), ((((b7.evo0 H).evo0 b9).evo f5 n4.own1).evo f6 (Apart.new (Lt.own (b7.evo0 H)) b8).own1), hR.ne⟩, (f6.blk n7 l3.nmem1), n9, i5, n6, l3⟩
    refine bY rfl ?_; refine cF rfl mE fun b4 A2 v0 a5 L => ?_; have e7 := a5; have l4 := Apart.new (Lt.blk l1) a5; refine aP (bN (.inl (f0.then L)) ?_); refine bS [1] (by kernel_rfl) rfl ⟨?_, trivial⟩; refine bY rfl ?_; refine aJ (vs := [_]) mG rfl (pA ⟨(L.blk0 b5), (b7.evo0 L), hR.ne⟩ (by omega) h40.1) rfl ?_; rintro _ A3 ⟨rfl, c0⟩; have o0 := (f0.then L).then c0; refine aP (bN (.inl o0) ?_); refine bS [8] (by kernel_rfl) rfl ⟨?_, trivial⟩; refine bY rfl ?_; refine aZ rfl rfl bG (c0.blk0 (L.blk0 l1)) rfl rfl ⟨by first | rfl | assumption, by first | rfl | assumption, by first | rfl | assumption, by first | rfl | assumption, by first | rfl | assumption, by first | rfl | assumption, by first | rfl | assumption, by first | rfl | assumption, by first | rfl | assumption, trivial⟩ fun A4 o1 f7 => ?_; have o2 := o0.step f7 n5.mem1
    try simp only [cG, Nat.reduceAdd] at o1
    refine aP (bN (.inl o2) ?_); refine bS [9] (by kernel_rfl) rfl ⟨?_, trivial⟩; refine bY rfl ?_; refine aZ rfl rfl dH (f7.blk (c0.blk0 v0) l4.symm.nmem1) rfl rfl ⟨by first | rfl | assumption, by first | rfl | assumption, by first | rfl | assumption, by first | rfl | assumption, trivial⟩ fun A5 o3 f8 => ?_
    try simp only [cG, Nat.reduceAdd] at o3
    refine aP (bN (.inl (o2.step f8 (Ge.new f0 a5).mem1)) ?_); refine cV (by kernel_rfl) (aW ?_); refine ⟨⟨b3, b4⟩, ⟨rfl, rfl, trivial⟩, ⟨rfl, rfl, trivial⟩, ((((e8.then L).then c0).step f7 i5.mem1).step f8 (Ge.new e8 a5).mem1), ?_⟩; exact ⟨⟨(f8.blk (f7.blk (c0.blk0 (L.blk0 b5)) n3.nmem1) (Apart.new (Lt.blk b5) a5).nmem1), ((((b7.evo0 L).evo0 c0).evo f7 n4.own1).evo f8 (Apart.new (Lt.own b7) a5).own1), hR.ne⟩, (f8.blk o1 l4.nmem1), o3, i5, (Ge.new e8 a5), l4⟩
   refine bY rfl ?_; refine cF rfl mE fun b4 A6 i7 f9 i8 => ?_; have e7 := f9; have o4 := Apart.new (Lt.blk k0) f9; have o5 := Apart.new (Lt.own k8) f9; have i9 := Ge.new m4 f9; have o6 := Ge.new (Evo.refl [] w1) f9; have g0 := m4.then i8; have g1 := (Evo.refl [] w1).then i8; have c1 := i8.blk0 k0; have c4 := k8.evo0 i8; refine aP (bN (.inl g1) ?_); refine bS [1, 6] (by kernel_rfl) rfl ⟨?_, ?_, trivial⟩
   ·refine bY rfl ?_; refine aJ (vs := [_]) mG rfl (pA ⟨c1, c4, hR.ne⟩ (by omega) h40.1) rfl ?_; rintro _ A7 ⟨rfl, I⟩; have j0 := g1.then I; refine aP (bN (.inl j0) ?_); refine bS [6] (by kernel_rfl) rfl ⟨?_, trivial⟩; refine bY rfl ?_; refine cF rfl iB fun b3 A8 v1 c5 c6 => ?_; have e6 := c5; have l5 := Apart.new (Lt.blk (I.blk0 i7)) c5; have o7 := Ge.new (g0.then I) c5; refine aP (bN (.inl (j0.then c6)) ?_); refine bS [8] (by kernel_rfl) rfl ⟨?_, trivial⟩; refine bY rfl ?_; refine aZ rfl rfl bG v1 rfl rfl ⟨by first | rfl | assumption, by first | rfl | assumption, by first | rfl | assumption, by first | rfl | assumption, by first | rfl | assumption, by first | rfl | assumption, by first | rfl | assumption, by first | rfl | assumption, by first | rfl | assumption, trivial⟩ fun A9 o8 g2 => ?_; have o9 := (j0.then c6).step g2 (Ge.new j0 c5).mem1
    try simp only [cG, Nat.reduceAdd] at o8
    refine aP (bN (.inl o9) ?_); refine bS [9] (by kernel_rfl) rfl ⟨?_, trivial⟩; refine bY rfl ?_; refine aZ rfl rfl dH (g2.blk (c6.blk0 (I.blk0 i7)) l5.nmem1) rfl rfl ⟨by first | rfl | assumption, by first | rfl | assumption, by first | rfl | assumption, by first | rfl | assumption, trivial⟩ fun B0 p1 g3 => ?_
    try simp only [cG, Nat.reduceAdd] at p1
    refine aP (bN (.inl (o9.step g3 o6.mem1)) ?_); refine cV (by kernel_rfl) (aW ?_); refine ⟨⟨b3, b4⟩, ⟨rfl, rfl, trivial⟩, ⟨rfl, rfl, trivial⟩, ((((g0.then I).then c6).step g2 o7.mem1).step g3 i9.mem1), ?_⟩; exact ⟨⟨(g3.blk (g2.blk (c6.blk0 (I.blk0 c1)) (Apart.new (Lt.blk (I.blk0 c1)) c5).nmem1) o4.nmem1), ((((c4.evo0 I).evo0 c6).evo g2 (Apart.new (Lt.own (c4.evo0 I)) c5).own1).evo g3 o5.own1), hR.ne⟩, (g3.blk o8 l5.symm.nmem1), p1, o7, i9, l5.symm⟩
   refine bY rfl ?_; refine cF rfl iB fun b3 B1 v2 a6 M => ?_; have e6 := a6; have l6 := Apart.new (Lt.blk i7) a6; refine aP (bN (.inl (g1.then M)) ?_); refine bS [1] (by kernel_rfl) rfl ⟨?_, trivial⟩; refine bY rfl ?_; refine aJ (vs := [_]) mG rfl (pA ⟨(M.blk0 c1), (c4.evo0 M), hR.ne⟩ (by omega) h40.1) rfl ?_; rintro _ B2 ⟨rfl, c7⟩; have p2 := (g1.then M).then c7; refine aP (bN (.inl p2) ?_); refine bS [8] (by kernel_rfl) rfl ⟨?_, trivial⟩; refine bY rfl ?_; refine aZ rfl rfl bG (c7.blk0 v2) rfl rfl ⟨by first | rfl | assumption, by first | rfl | assumption, by first | rfl | assumption, by first | rfl | assumption, by first | rfl | assumption, by first | rfl | assumption, by first | rfl | assumption, by first | rfl | assumption, by first | rfl | assumption, trivial⟩ fun B3 p3 g4 => ?_; have p4 := p2.step g4 (Ge.new g1 a6).mem1
   try simp only [cG, Nat.reduceAdd] at p3
   refine aP (bN (.inl p4) ?_); refine bS [9] (by kernel_rfl) rfl ⟨?_, trivial⟩; refine bY rfl ?_; refine aZ rfl rfl dH (g4.blk (c7.blk0 (M.blk0 i7)) l6.nmem1) rfl rfl ⟨by first | rfl | assumption, by first | rfl | assumption, by first | rfl | assumption, by first | rfl | assumption, trivial⟩ fun B4 p5 g5 => ?_
   try simp only [cG, Nat.reduceAdd] at p5
   refine aP (bN (.inl (p4.step g5 o6.mem1)) ?_); refine cV (by kernel_rfl) (aW ?_); refine ⟨⟨b3, b4⟩, ⟨rfl, rfl, trivial⟩, ⟨rfl, rfl, trivial⟩, ((((g0.then M).then c7).step g4 (Ge.new g0 a6).mem1).step g5 i9.mem1), ?_⟩; exact ⟨⟨(g5.blk (g4.blk (c7.blk0 (M.blk0 c1)) (Apart.new (Lt.blk c1) a6).nmem1) o4.nmem1), ((((c4.evo0 M).evo0 c7).evo g4 (Apart.new (Lt.own c4) a6).own1).evo g5 o5.own1), hR.ne⟩, (g5.blk p3 l6.symm.nmem1), p5, (Ge.new g0 a6), i9, l6.symm⟩
  rintro ⟨b3, b4⟩ z0 ⟨O, ⟨E, hb3, hb4, hg3, hg4, ha34⟩⟩; refine aA ?_; show CW _ _ _ _ [(3, .pointer (some ⟨b3, 0, none⟩)), (4, .pointer (some ⟨b4, 0, none⟩)), (0, _), (2, _)] _
  try dsimp only at E hb3 hb4 hg3 hg4 ha34
  have A : Apart (some b) (some b3) := kL hbw hg3; have J : Apart (some b) (some b4) := kL hbw hg4; have p6 : Apart ob (some b3) := kL how hg3; have p7 : Apart ob (some b4) := kL how hg4; have hob0 := II (fl := st.now) hb h40; have hoe := pOpen_e (s := s) (i := st.pos) (fl := st.now)
  generalize ho : fN s st.pos st.now = o at *
  have hbdl := hb.le; refine aI (aI (mB (α := Bool) (fun z19 => [(19, .bool z19)]) [(0, _), (2, _), (3, _), (4, _)] (fun z19 wr => z0 = wr ∧ (z19 = true ↔ (o.err = 0 ∧ o.sett = true))) ⟨rfl, rfl, rfl, rfl, trivial⟩ ?_ ?_))
  ·refine aF (wfl rfl dR rfl jB hb3 rfl (wel ?_)); refine aB (bF (t := 16) rfl (fun k6 => ?_) (fun k6 => ?_))
   ·refine aS (aC (aD rfl kT) (aS (aC (aQ rfl gD (aV hb3 rfl)) (bW (aP (aW ?_)))))); refine ⟨_, ⟨rfl, trivial⟩, ⟨rfl, rfl, rfl, rfl, trivial⟩, rfl, ?_⟩
    first | (simp only [Bool.false_eq_true, false_iff]; exact fun h9 => k6 h9.1) | exact ⟨fun h9 => ⟨k6, h9⟩, fun h9 => h9.2⟩
   refine aN (aN (bM (aP (aW ?_)))); refine ⟨_, ⟨rfl, trivial⟩, ⟨rfl, rfl, rfl, rfl, trivial⟩, rfl, ?_⟩
   first | (simp only [Bool.false_eq_true, false_iff]; exact fun h9 => k6 h9.1) | exact ⟨fun h9 => ⟨k6, h9⟩, fun h9 => h9.2⟩
  rintro z19 _ ⟨rfl, hz19⟩; refine aA ?_; show CW _ _ _ _ [(19, _), (0, _), (2, _), (3, _), (4, _)] _; refine dW rfl (fun m9 => ?_) (fun m9 => ?_)
  ·subst m9; have hj19 := hz19.1 rfl; obtain ⟨hz1, hz2, hz3⟩ := hob0 hj19.1; refine aI ?_; refine eX (fun w0 w' => Evo [b] w0 w') (by kernel_rfl) (fun U c8 => ?_); refine aet 0 rfl (fun _ hS => aY rfl) (Evo.refl [b] U) ?_; refine aet 1 rfl (fun _ hS => aG rfl) (Evo.refl [b] U) ?_; refine aet 2 rfl (fun _ hS => aD rfl bB) (Evo.refl [b] U) ?_; refine aet 4 rfl (fun _ hS => aD rfl eZ) (Evo.refl [b] U) ?_; refine aet 5 rfl (fun _ hS => aQ rfl aX (aV (hS.blk (c8.blk0 hb3) (A.symm.nmem1)) rfl)) (Evo.refl [b] U) ?_; refine bS [3] (by kernel_rfl) rfl ⟨?_, trivial⟩; refine bY rfl ?_; refine aC (aQ rfl aX (aV (c8.blk0 E.blk) rfl)) (aP (bN (.inl (Evo.refl [b] U)) ?_)); refine aet 6 rfl (fun _ hS => aK rfl rfl (by omega) (by omega)) (Evo.refl [b] U) ?_; refine aet 7 rfl (fun _ hS => aG rfl) (Evo.refl [b] U) ?_; refine aet 8 rfl (fun _ hS => aD rfl bB) (Evo.refl [b] U) ?_; refine bS [9] (by kernel_rfl) rfl ⟨?_, trivial⟩; refine bY rfl ?_; refine bE rfl rfl (by first | rfl | assumption) bZ (c8.blk0 E.blk) rfl fun B5 p8 j1 => ?_
   have v3 := (O.then c8).step j1 (fun y hy => .inl (by rw [List.mem_singleton.1 hy]; simp))
   try simp only [cG, Nat.reduceAdd] at p8
   refine aP (bN (.inl ((Evo.refl [b] U).step j1 (fun y hy => .inl hy))) ?_); refine cV (by kernel_rfl) (aA ?_); refine csr (aB (aC (aD rfl iH) (aC (cY (o := 2) rfl jY dH (vs := [.bool o.thn.fold, .bool o.thn.lines, .bool o.thn.dots, .bool o.thn.lazy]) rfl (yC (j1.blk (c8.blk0 hb3) A.symm.nmem1))) ?_))); refine aC (aG rfl) (aC (aD rfl dS) (qU (f1 := .bool o.thn.fold) (f2 := .bool o.thn.lines) (f3 := .bool o.thn.dots) (f4 := .bool o.thn.lazy) rfl rfl dH ⟨rfl, rfl, rfl, rfl, trivial⟩ p8 fun B6 v4 p9 => ?_))
   have v5 := v3.step p9 (fun y hy => .inl (by rw [List.mem_singleton.1 hy]; simp))
   refine wnn (csr (wan (aH (aE (cH (br1 ?_))))))
   exact ⟨[], { st with pos := st.pos + o.size, now := o.thn }, br_set ho hj19.1 hj19.2, v5, ⟨rfl, Nat.le_add_right _ _, hz2, hnl⟩, (by show st.pos < st.pos + o.size; omega), (by show 0 + st.pos ≤ st.pos + o.size; omega), a, c, ob, none, 0, none, [], [], rfl, OwnS.nil _ _ _, OTs.nil _, Fr.nil _, ⟨v4, (((E.own.evo0 c8).evo j1 E.ap.symm.own1).evo p9 E.ap.symm.own1), hR.ne⟩, .inl rfl⟩
  subst m9
  have hj19 : ¬ (o.err = 0 ∧ o.sett = true) := fun h9 => by have := hz19.2 h9; cases this
  refine aL (aA (aI (aI ?_))); have hno : ¬ (o.err = 0 ∧ o.sett = true) := hj19; refine aF (aB (aC (aG rfl) (wfl rfl gB rfl aX E.blk rfl (wel ?_)))); refine wnn (bA rfl (fun z1 => ?_) (fun z1 => ?_))
  ·refine aF (cE (vs := [_]) cO rfl (eG 3) rfl ?_ ?_)
   ·intro pv wp hpp; obtain ⟨rfl, hpw⟩ := hpp; exact And.intro rfl ⟨_, rfl, _, br_deep ho hno (by omega), rfl, (O).then hpw⟩
   intro _ _ hF; exact hF.elim
  refine aL (aA (aI (aI ?_)))
  have hne250 : ¬ st.opn = 250 := by omega
  refine aF (wfl rfl dR rfl jB hb3 rfl (aC (fJ rfl rfl) ?_)); refine wnn (bA rfl (fun V => ?_) (fun V => ?_))
  ·refine aF (wfl rfl dR rfl jB hb3 rfl (cE (vs := [_]) cO rfl (eG o.err) rfl ?_ ?_))
   ·intro pv wp hpp; obtain ⟨rfl, hpw⟩ := hpp; exact And.intro rfl ⟨_, rfl, _, br_err ho hno hne250 V, rfl, (O).then hpw⟩
   intro _ _ hF; exact hF.elim
  refine aL (aA (aI ?_)); have herr : o.err = 0 := Classical.not_not.1 V; obtain ⟨hz1, hz2, hz3⟩ := hob0 herr; refine aF (wan (aI (csr (wfl rfl gQ rfl gD hb3 rfl (wnn (dW rfl (fun a7 => ?_) (fun a7 => ?_)))))))
  ·have z2 := O; refine aF (aB (wfl rfl jI rfl cZ hb3 rfl (cE (vs := [_, _]) LW rfl (NQ ⟨E.blk, E.own, E.ne⟩ o.name hnl) rfl ?_ ?_)))
   ·intro pv wp hpp; obtain ⟨hfl, rfl, hpw⟩ := hpp; exact And.intro rfl ⟨_, rfl, _, br_full ho hno hne250 V a7 hfl, rfl, (O).then hpw⟩
   rintro _ B7 ⟨hnf, rfl, l7, a2, c2, ob2, k7, hnb⟩; have u3 := fW p6.symm (Lt.blk hb3) hnb; have u4 := fW p7.symm (Lt.blk hb4) hnb; have hGo2 := fW hGo (TE (hG.evo O hgw)) hnb; have hnb2 : NB w ob ob2 := (show NB w ob ob from .inl rfl).older hnb z2.size; have hpp2 : ({ st with names := st.names ++ [o.name] } : PS).pos = st.pos := rfl; have hpo2 : ({ st with names := st.names ++ [o.name] } : PS).opn = st.opn := rfl
   have hnl2 : (st.names ++ [o.name]).length ≤ 100 := by rw [List.length_append]; have : st.names.length ≠ 100 := fun h => hnf (.inl h); simp; omega
   refine wan (aI ?_); refine eX (fun w0 w' => Evo [b] w0 w') (by kernel_rfl) (fun W c9 => ?_); have v6 := (O.step l7 (fun y hy => .inl hy)).then c9; have q0 := c9.blk0 (l7.blk hb3 (EF A.symm p6.symm)); refine aet 0 rfl (fun _ hS => aY rfl) (Evo.refl [b] W) ?_; refine aet 1 rfl (fun _ hS => aG rfl) (Evo.refl [b] W) ?_; refine aet 2 rfl (fun _ hS => aD rfl bB) (Evo.refl [b] W) ?_; refine aet 4 rfl (fun _ hS => aD rfl eZ) (Evo.refl [b] W) ?_; refine aet 5 rfl (fun _ hS => aQ rfl aX (aV (hS.blk q0 (A.symm.nmem1)) rfl)) (Evo.refl [b] W) ?_; refine bS [3] (by kernel_rfl) rfl ⟨?_, trivial⟩; refine bY rfl ?_; refine aC (aQ rfl aX (aV (c9.blk0 k7.blk) rfl)) (aP (bN (.inl (Evo.refl [b] W)) ?_)); refine aet 6 rfl (fun _ hS => aK rfl rfl (by omega) (by omega)) (Evo.refl [b] W) ?_; refine aet 7 rfl (fun _ hS => aG rfl) (Evo.refl [b] W) ?_; refine aet 8 rfl (fun _ hS => aD rfl bB) (Evo.refl [b] W) ?_; refine bS [9] (by kernel_rfl) rfl ⟨?_, trivial⟩; refine bY rfl ?_
   refine bE rfl rfl (by first | rfl | assumption) bZ (c9.blk0 k7.blk) rfl fun B8 l8 g6 => ?_
   have v7 := v6.step g6 (fun y hy => .inl (by rw [List.mem_singleton.1 hy]; simp))
   try simp only [cG, Nat.reduceAdd] at l8
   refine aP (bN (.inl ((Evo.refl [b] W).step g6 (fun y hy => .inl hy))) ?_); refine cV (by kernel_rfl) (aA ?_); refine csr (aB (aC (aG rfl) (wfl rfl gB rfl aX l8 rfl ?_))); refine aC (aK rfl rfl (by omega) (by omega)) ?_; refine aC (aG rfl) (aC (aD rfl gB) ?_); refine bE rfl rfl (by first | rfl | assumption) bZ l8 rfl fun B9 q1 j2 => ?_
   have v8 := v7.step j2 (fun y hy => .inl (by rw [List.mem_singleton.1 hy]; simp))
   have q2 := j2.blk (g6.blk q0 A.symm.nmem1) A.symm.nmem1
   try simp only [cG, Nat.reduceAdd] at q1
   refine wnn (csr (aB (aC (aD rfl iH) (aC (cY (o := 2) rfl jY dH (vs := [.bool o.thn.fold, .bool o.thn.lines, .bool o.thn.dots, .bool o.thn.lazy]) rfl (yC q2)) ?_)))); refine aC (aG rfl) (aC (aD rfl dS) (qU (f1 := .bool o.thn.fold) (f2 := .bool o.thn.lines) (f3 := .bool o.thn.dots) (f4 := .bool o.thn.lazy) rfl rfl dH ⟨rfl, rfl, rfl, rfl, trivial⟩ q1 fun C0 v9 j3 => ?_))
   have j4 := v8.step j3 (fun y hy => .inl (by rw [List.mem_singleton.1 hy]; simp))
   have q3 := j3.blk q2 A.symm.nmem1; have q4 := j3.blk (j2.blk (g6.blk (c9.blk0 (l7.blk hb4 (EF J.symm p7.symm))) J.symm.nmem1) J.symm.nmem1) J.symm.nmem1; refine wnn (csr (aB ?_)); refine cE (vs := [_]) uI rfl (hex (by omega) (st := ⟨st.pos + o.size, o.thn, st.opn + 1, st.names ++ [o.name]⟩) ⟨v9, ((((k7.own.evo0 c9).evo g6 k7.ap.symm.own1).evo j2 k7.ap.symm.own1).evo j3 k7.ap.symm.own1), k7.ne⟩ rfl hz2 hnl2 (hG.evo j4 hgw) hGo2) rfl ?_ ?_
   ·intro pv wp hpp; obtain ⟨e9, hpe, rfl, hpw⟩ := hpp; exact And.intro rfl ⟨_, rfl, _, (HP ho hno hne250 V (fun h => hnf h.2)).trans (by rw [if_pos a7, hpe]), rfl, (j4).step hpw (qG hnb2)⟩
   rintro rv C1 ⟨x, st2, hx, l9, hmv, a3, c3, ob3, vs, bs, rfl, hOT, hFr, a1, hnb3⟩; have m6 := j4; have z3 := fW u3 (Lt.blk q3) hnb3; have z4 := fW u4 (Lt.blk q4) hnb3; have hnb4 := hnb2.older hnb3 m6.size; have hFr9 : Fr w bs := hFr.older m6.size; have m0 := j4.step l9 (qG hnb2); have q5 := l9.blk q3 (EF A.symm u3); have q6 := l9.blk q4 (EF J.symm u4); obtain ⟨ra, rc, ka, kc, rfl⟩ := id hOT.nine; have hltx := hOT.lt; refine cF rfl eJ fun b6 C2 w2 a8 d0 => ?_; have u5 := a8; have d3 := Apart.new (Lt.blk a1.blk) a8; have q7 := Apart.new (Lt.own a1.own) a8; refine aZ rfl rfl aU w2 rfl rfl ⟨by first | rfl | assumption, by first | rfl | assumption, by first | rfl | assumption, by first | rfl | assumption, by first | rfl | assumption, by first | rfl | assumption, by first | rfl | assumption, by first | rfl | assumption, by first | rfl | assumption, trivial⟩ fun C3 q8 d4 => ?_
   have w3 := (hOT.evo0 d0).evo d4 (fun q hq h => by have h8 := hltx q hq; have h9 := List.mem_singleton.1 h; omega)
   try simp only [cG, Nat.reduceAdd] at q8
   refine wnn (aI (csr (aB ?_))); refine aJ (vs := [_, _]) iC rfl (oA ⟨(d4.blk (d0.blk0 a1.blk) d3.nmem1), ((a1.own.evo0 d0).evo d4 q7.own1), a1.ne⟩ (by omega) 41 (by decide)) rfl ?_; rintro _ C4 ⟨rfl, g7, a4⟩
   have q9 := ((m0.then d0).step d4 (Ge.new m0 a8).mem1).step g7 (fun y hy => .inl (by rw [List.mem_singleton.1 hy]; simp))
   have w4 := g7.blk (d4.blk (d0.blk0 q5) (Apart.new (Lt.blk q5) a8).nmem1) ((by first | exact A.symm.own1 | exact A.symm.nmem1)); have w5 := g7.blk (d4.blk (d0.blk0 q6) (Apart.new (Lt.blk q6) a8).nmem1) ((by first | exact J.symm.own1 | exact J.symm.nmem1)); have w7 := w3.evo g7 (YS hFr9 hbw (Nat.le_refl _)); have w8 := g7.blk q8 ((by first | exact d3.symm.own1 | exact d3.symm.nmem1)); refine aC (lX rfl) ?_; refine wnn (bA rfl (fun e4 => ?_) (fun e4 => ?_))
   ·refine aF (cE (vs := [_]) cO rfl (eG 80) rfl ?_ ?_)
    ·intro pv wp hpp; obtain ⟨rfl, hpw⟩ := hpp
     exact And.intro rfl ⟨_, rfl, _, (HP ho hno hne250 V (fun h => hnf h.2)).trans (by rw [if_pos a7, hx]; exact if_neg e4), rfl, (q9).then hpw⟩
    intro _ _ hF; exact hF.elim
   have h41 : isB s st2.pos 41 := Classical.not_not.1 e4; rw [if_pos h41] at a4; have ho2 : st2.opn = st.opn + 1 := hmv.opn; have hle2 : st.pos + o.size ≤ st2.pos := hmv.le
   have ho3 : ((adv st2 1).opn : Int) - 1 = ((st2.opn - 1 : Nat) : Int) := by show ((st2.opn : Nat) : Int) - 1 = _; omega
   refine aL (aA (csr (aB (aC (aG rfl) (wfl rfl gB rfl aX a4.blk rfl ?_))))); refine aC (dG rfl rfl (by omega) (by omega)) ?_; rw [ho3]; refine aC (aG rfl) (aC (aD rfl gB) ?_); refine bE rfl rfl (by first | rfl | assumption) bZ a4.blk rfl fun C5 r0 d5 => ?_
   have w9 := q9.step d5 (fun y hy => .inl (by rw [List.mem_singleton.1 hy]; simp))
   try simp only [cG, Nat.reduceAdd] at r0
   refine wnn (csr (aB (aC (bT rfl jY dH (d5.blk w5 J.symm.nmem1) rfl) (aC (aG rfl) (aC (aD rfl dS) (qU (f1 := .bool st.now.fold) (f2 := .bool st.now.lines) (f3 := .bool st.now.dots) (f4 := .bool st.now.lazy) rfl rfl dH ⟨rfl, rfl, rfl, rfl, trivial⟩ r0 fun u6 x0 g8 => ?_))))))
   have r1 := w9.step g8 (fun y hy => .inl (by rw [List.mem_singleton.1 hy]; simp))
   have r5 := g8.blk (d5.blk w4 A.symm.nmem1) A.symm.nmem1; have r6 := (w7.evo d5 (YS hFr9 hbw (Nat.le_refl _))).evo g8 (YS hFr9 hbw (Nat.le_refl _)); have m1 := g8.blk (d5.blk w8 d3.symm.nmem1) d3.symm.nmem1; refine wnn (aI (csr (wfl rfl gQ rfl gD r5 rfl (wnn (dW rfl (fun e5 => ?_) (fun e5 => ?_))))))
   ·have z5 := r6; refine aF (aB (wfl rfl jI rfl cZ r5 rfl (aC (bT rfl bV aU m1 rfl) (bL (vs := [_]) rfl cU rfl rfl rfl rfl fun E6 C6 x1 r7 d6 => ?_)))); refine aC (cA (vs := [(0, _), (6, _), (7, _), (8, _)]) dE rfl (cells := [_, _, _, _, _, _, _, _, _]) rfl) ?_; refine aZ rfl rfl aU (d6.blk0 m1) rfl rfl ⟨by first | rfl | assumption, by first | rfl | assumption, by first | rfl | assumption, by first | rfl | assumption, by first | rfl | assumption, by first | rfl | assumption, by first | rfl | assumption, by first | rfl | assumption, by first | rfl | assumption, trivial⟩ fun u7 r8 d7 => ?_; have r9 := (r1.then d6).step d7 (Ge.new m0 a8).mem1
    have z7 := (r6.evo0 d6).evo d7 (fun q hq h => by have h8 := hltx q hq; have h9 := List.mem_singleton.1 h; omega)
    try simp only [cG, Nat.reduceAdd] at r8
    refine wnn (aI ?_)
    have hgr := ot_grp (n := (st.names.length : Int) + 1) (nm := o.name) (x1.evo d7 (Apart.new (Lt.blk m1) r7).symm.own1) z5 hFr9 ((Ge.new (Evo.refl ([b6]) u6) r7) _ rfl) (((Evo.refl ([b6]) u6).then d6).step d7 (fun y hy => .inl hy)) (fun q hq h => by have h8 := hltx q hq; have h9 := List.mem_singleton.1 h; omega) r1.size (by omega)
    obtain ⟨hgT, hgF⟩ := hgr; have n1 := r9; refine aF (aC (bT rfl bV aU r8 rfl) (bL (vs := [_]) rfl cU rfl rfl rfl rfl fun z6 C7 x2 x3 j5 => ?_)); refine wan (aH (cH (br1 ?_))); have hK := iA x2 hgT hgF ((Ge.new (Evo.refl ([]) u7) x3) _ rfl) ((Evo.refl ([]) u7).then j5) (fun _ _ h => by cases h) n1.size; obtain ⟨ka9, kc9, ko9, cs9, bs9, hv9, hk1, hk2, hk3⟩ := hK
    refine ⟨[yY ((st.names.length : Int) + 1) o.name x], { st2 with pos := st2.pos + 1, opn := st2.opn - 1, now := st.now }, (HP ho hno hne250 V (fun h => hnf h.2)).trans (by rw [if_pos a7, hx]; exact (if_pos h41).trans (by rw [if_pos a7])), (r9.then j5), ⟨(by show st2.opn - 1 = st.opn; omega), (by show st.pos ≤ st2.pos + 1; omega), h41.asc (by decide) hmv.bd, hmv.nm⟩, (by show st.pos < st2.pos + 1; omega), (by show 1 + st.pos ≤ st2.pos + 1; omega), a3, c3, ob3, ka9, kc9, ko9, cs9, bs9, hv9, hk1, hk2, hk3, ⟨(j5.blk0 (d7.blk (d6.blk0 x0) d3.nmem1)), (((((a4.own.evo d5 a4.ap.symm.own1).evo g8 a4.ap.symm.own1).evo0 d6).evo d7 q7.own1).evo0 j5), a1.ne⟩, hnb4⟩
   rw [a7] at e5; cases e5
  have hnc : ¬ o.capt = true := by rw [a7]; simp
  refine aL (aA (aI ?_)); refine eX (fun w0 w' => Evo [b] w0 w') (by kernel_rfl) (fun a0 a9 => ?_); refine aet 0 rfl (fun _ hS => aY rfl) (Evo.refl [b] a0) ?_; refine aet 1 rfl (fun _ hS => aG rfl) (Evo.refl [b] a0) ?_; refine aet 2 rfl (fun _ hS => aD rfl bB) (Evo.refl [b] a0) ?_; refine aet 4 rfl (fun _ hS => aD rfl eZ) (Evo.refl [b] a0) ?_; refine aet 5 rfl (fun _ hS => aQ rfl aX (aV (hS.blk (a9.blk0 hb3) (A.symm.nmem1)) rfl)) (Evo.refl [b] a0) ?_; refine bS [3] (by kernel_rfl) rfl ⟨?_, trivial⟩; refine bY rfl ?_; refine aC (aQ rfl aX (aV (a9.blk0 E.blk) rfl)) (aP (bN (.inl (Evo.refl [b] a0)) ?_)); refine aet 6 rfl (fun _ hS => aK rfl rfl (by omega) (by omega)) (Evo.refl [b] a0) ?_; refine aet 7 rfl (fun _ hS => aG rfl) (Evo.refl [b] a0) ?_; refine aet 8 rfl (fun _ hS => aD rfl bB) (Evo.refl [b] a0) ?_; refine bS [9] (by kernel_rfl) rfl ⟨?_, trivial⟩; refine bY rfl ?_; refine bE rfl rfl (by first | rfl | assumption) bZ (a9.blk0 E.blk) rfl fun C8 m2 g9 => ?_
  have x4 := (O.then a9).step g9 (fun y hy => .inl (by rw [List.mem_singleton.1 hy]; simp))
  try simp only [cG, Nat.reduceAdd] at m2
  refine aP (bN (.inl ((Evo.refl [b] a0).step g9 (fun y hy => .inl hy))) ?_); refine cV (by kernel_rfl) (aA ?_); refine csr (aB (aC (aG rfl) (wfl rfl gB rfl aX m2 rfl ?_))); refine aC (aK rfl rfl (by omega) (by omega)) ?_; refine aC (aG rfl) (aC (aD rfl gB) ?_); refine bE rfl rfl (by first | rfl | assumption) bZ m2 rfl fun C9 s0 j6 => ?_
  have x5 := x4.step j6 (fun y hy => .inl (by rw [List.mem_singleton.1 hy]; simp))
  have s1 := j6.blk (g9.blk (a9.blk0 hb3) A.symm.nmem1) A.symm.nmem1
  try simp only [cG, Nat.reduceAdd] at s0
  refine wnn (csr (aB (aC (aD rfl iH) (aC (cY (o := 2) rfl jY dH (vs := [.bool o.thn.fold, .bool o.thn.lines, .bool o.thn.dots, .bool o.thn.lazy]) rfl (yC s1)) ?_)))); refine aC (aG rfl) (aC (aD rfl dS) (qU (f1 := .bool o.thn.fold) (f2 := .bool o.thn.lines) (f3 := .bool o.thn.dots) (f4 := .bool o.thn.lazy) rfl rfl dH ⟨rfl, rfl, rfl, rfl, trivial⟩ s0 fun D0 x6 j7 => ?_))
  have j8 := x5.step j7 (fun y hy => .inl (by rw [List.mem_singleton.1 hy]; simp))
  have s2 := j7.blk s1 A.symm.nmem1; have s3 := j7.blk (j6.blk (g9.blk (a9.blk0 hb4) J.symm.nmem1) J.symm.nmem1) J.symm.nmem1; refine wnn (csr (aB ?_)); refine cE (vs := [_]) uI rfl (hex (by omega) (st := ⟨st.pos + o.size, o.thn, st.opn + 1, st.names⟩) ⟨x6, ((((E.own.evo0 a9).evo g9 E.ap.symm.own1).evo j6 E.ap.symm.own1).evo j7 E.ap.symm.own1), E.ne⟩ rfl hz2 hnl (hG.evo j8 hgw) hGo) rfl ?_ ?_
  ·intro pv wp hpp; obtain ⟨e9, hpe, rfl, hpw⟩ := hpp; exact And.intro rfl ⟨_, rfl, _, (HP ho hno hne250 V (fun h => hnc h.1)).trans (by rw [if_neg hnc, hpe]), rfl, (j8).step hpw (qG (show NB w ob ob from .inl rfl))⟩
  rintro rv D1 ⟨x, st2, hx, m3, hmv, a3, c3, ob3, vs, bs, rfl, hOT, hFr, a1, hnb3⟩; have m6 := j8; have z3 := fW p6.symm (Lt.blk s2) hnb3; have z4 := fW p7.symm (Lt.blk s3) hnb3; have hnb4 := (show NB w ob ob from .inl rfl).older hnb3 m6.size; have hFr9 : Fr w bs := hFr.older m6.size; have s4 := j8.step m3 (qG (show NB w ob ob from .inl rfl)); have s5 := m3.blk s2 (EF A.symm p6.symm); have s6 := m3.blk s3 (EF J.symm p7.symm); obtain ⟨ra, rc, ka, kc, rfl⟩ := id hOT.nine; have hltx := hOT.lt; refine cF rfl eJ fun b6 D2 x7 d8 d9 => ?_; have u5 := d8; have h0 := Apart.new (Lt.blk a1.blk) d8; refine aZ rfl rfl aU x7 rfl rfl ⟨by first | rfl | assumption, by first | rfl | assumption, by first | rfl | assumption, by first | rfl | assumption, by first | rfl | assumption, by first | rfl | assumption, by first | rfl | assumption, by first | rfl | assumption, by first | rfl | assumption, trivial⟩ fun D3 s7 e0 => ?_
  have x8 := (hOT.evo0 d9).evo e0 (fun q hq h => by have h8 := hltx q hq; have h9 := List.mem_singleton.1 h; omega)
  try simp only [cG, Nat.reduceAdd] at s7
  refine wnn (aI (csr (aB ?_))); refine aJ (vs := [_, _]) iC rfl (oA ⟨(e0.blk (d9.blk0 a1.blk) h0.nmem1), ((a1.own.evo0 d9).evo e0 (Apart.new (Lt.own a1.own) d8).own1), a1.ne⟩ (by omega) 41 (by decide)) rfl ?_; rintro _ D4 ⟨rfl, h1, a4⟩
  have s8 := ((s4.then d9).step e0 (Ge.new s4 d8).mem1).step h1 (fun y hy => .inl (by rw [List.mem_singleton.1 hy]; simp))
  have x9 := h1.blk (e0.blk (d9.blk0 s5) (Apart.new (Lt.blk s5) d8).nmem1) ((by first | exact A.symm.own1 | exact A.symm.nmem1)); have y1 := h1.blk (e0.blk (d9.blk0 s6) (Apart.new (Lt.blk s6) d8).nmem1) ((by first | exact J.symm.own1 | exact J.symm.nmem1)); have y2 := x8.evo h1 (YS hFr9 hbw (Nat.le_refl _)); have y3 := h1.blk s7 ((by first | exact h0.symm.own1 | exact h0.symm.nmem1)); refine aC (lX rfl) ?_; refine wnn (bA rfl (fun e4 => ?_) (fun e4 => ?_))
  ·refine aF (cE (vs := [_]) cO rfl (eG 80) rfl ?_ ?_)
   ·intro pv wp hpp; obtain ⟨rfl, hpw⟩ := hpp
    exact And.intro rfl ⟨_, rfl, _, (HP ho hno hne250 V (fun h => hnc h.1)).trans (by rw [if_neg hnc, hx]; exact if_neg e4), rfl, (s8).then hpw⟩
   intro _ _ hF; exact hF.elim
  have h41 : isB s st2.pos 41 := Classical.not_not.1 e4; rw [if_pos h41] at a4; have ho2 : st2.opn = st.opn + 1 := hmv.opn; have hle2 : st.pos + o.size ≤ st2.pos := hmv.le
  have ho3 : ((adv st2 1).opn : Int) - 1 = ((st2.opn - 1 : Nat) : Int) := by show ((st2.opn : Nat) : Int) - 1 = _; omega
  refine aL (aA (csr (aB (aC (aG rfl) (wfl rfl gB rfl aX a4.blk rfl ?_))))); refine aC (dG rfl rfl (by omega) (by omega)) ?_; rw [ho3]; refine aC (aG rfl) (aC (aD rfl gB) ?_); refine bE rfl rfl (by first | rfl | assumption) bZ a4.blk rfl fun D5 s9 e1 => ?_
  have y4 := s8.step e1 (fun y hy => .inl (by rw [List.mem_singleton.1 hy]; simp))
  try simp only [cG, Nat.reduceAdd] at s9
  refine wnn (csr (aB (aC (bT rfl jY dH (e1.blk y1 J.symm.nmem1) rfl) (aC (aG rfl) (aC (aD rfl dS) (qU (f1 := .bool st.now.fold) (f2 := .bool st.now.lines) (f3 := .bool st.now.dots) (f4 := .bool st.now.lazy) rfl rfl dH ⟨rfl, rfl, rfl, rfl, trivial⟩ s9 fun u8 y5 h2 => ?_))))))
  have t1 := y4.step h2 (fun y hy => .inl (by rw [List.mem_singleton.1 hy]; simp))
  refine wnn (aI (csr (wfl rfl gQ rfl gD (h2.blk (e1.blk x9 A.symm.nmem1) A.symm.nmem1) rfl (wnn (dW rfl (fun e5 => ?_) (fun e5 => ?_))))))
  ·rw [a7] at e5; cases e5
  refine aL (aA (aI ?_)); have hgr : OT x _ _ bs ∧ Fr w bs := ⟨((y2.evo e1 (YS hFr9 hbw (Nat.le_refl _))).evo h2 (YS hFr9 hbw (Nat.le_refl _))), hFr9⟩; obtain ⟨hgT, hgF⟩ := hgr; have n1 := t1; refine aF (aC (bT rfl bV aU (h2.blk (e1.blk y3 h0.symm.nmem1) h0.symm.nmem1) rfl) (bL (vs := [_]) rfl cU rfl rfl rfl rfl fun z6 D6 y6 y7 j9 => ?_)); refine wan (aH (cH (br1 ?_))); have hK := iA y6 hgT hgF ((Ge.new (Evo.refl ([]) u8) y7) _ rfl) ((Evo.refl ([]) u8).then j9) (fun _ _ h => by cases h) n1.size; obtain ⟨ka9, kc9, ko9, cs9, bs9, hv9, hk1, hk2, hk3⟩ := hK
  refine ⟨[x], { st2 with pos := st2.pos + 1, opn := st2.opn - 1, now := st.now }, (HP ho hno hne250 V (fun h => hnc h.1)).trans (by rw [if_neg hnc, hx]; exact (if_pos h41).trans (by rw [if_neg hnc])), (t1.then j9), ⟨(by show st2.opn - 1 = st.opn; omega), (by show st.pos ≤ st2.pos + 1; omega), h41.asc (by decide) hmv.bd, hmv.nm⟩, (by show st.pos < st2.pos + 1; omega), (by show 1 + st.pos ≤ st2.pos + 1; omega), a3, c3, ob3, ka9, kc9, ko9, cs9, bs9, hv9, hk1, hk2, hk3, ⟨(j9.blk0 y5), (((a4.own.evo e1 a4.ap.symm.own1).evo h2 a4.ap.symm.own1).evo0 j9), a1.ne⟩, hnb4⟩
theorem MB : cX Tryz.prog 127 := ⟨_, Tryz.func127, by kernel_rfl, by kernel_rfl⟩
theorem MA : cX Tryz.prog 128 := ⟨_, Tryz.func128, by kernel_rfl, by kernel_rfl⟩
theorem LZ : cX Tryz.prog 129 := ⟨_, Tryz.func129, by kernel_rfl, by kernel_rfl⟩
theorem xR : cX Tryz.prog 133 := ⟨_, Tryz.func133, by kernel_rfl, by kernel_rfl⟩
theorem BS {s : ByteArray} : ∀ {f i j : Nat} {fst : Bool} {S T : Int → Prop}, gE s f fst S i = .ok (T, j) → Bd s i → Bd s j ∧ i < j
  | 0, i, j, fst, S, T, h, _ => by cases h
  | f + 1, i, j, fst, S, T, h, hb => by
    rw [gE] at h
    split at h
    · cases h
    · rename_i h0
      split at h
      · rename_i h1
        cases h
        exact ⟨(hb.asc (by omega) (by omega)).1, by omega⟩
      · cases h2 : jS s i with
        | error e => rw [h2] at h; cases h
        | ok x =>
          obtain ⟨U, k⟩ := x
          rw [h2] at h
          obtain ⟨h3, h4⟩ := AJ h2 hb (by omega)
          obtain ⟨h5, h6⟩ := BS h h3
          exact ⟨h5, by omega⟩
theorem ND {s : ByteArray} {fl : Fl} {i j : Nat} {x : Rx} (h : lT s fl i = .ok (x, j)) (hb : Bd s i) : Bd s j ∧ i < j := by
  unfold lT at h
  cases h1 : gE s (s.size + 1) true (fun _ => False) (if isB s i 94 then i + 1 else i) with
  | error e => rw [h1] at h; cases h
  | ok y =>
    obtain ⟨S, k⟩ := y
    rw [h1] at h
    cases h
    by_cases h2 : isB s i 94
    · rw [if_pos h2] at h1
      obtain ⟨h3, h4⟩ := BS h1 (h2.asc (by decide) hb)
      exact ⟨h3, by omega⟩
    · rw [if_neg h2] at h1
      exact BS h1 hb
section
variable {s : ByteArray} {ex : PS → PX Rx} {st : PS} {x : Rx} {j : Nat} {e : Int}
theorem pc_br (h : sb s st.pos = 40) : fX s ex st = sZ s ex st := by unfold fX; rw [if_pos h]
theorem pc_cl (h : sb s st.pos = 91) (h2 : lT s st.now (st.pos + 1) = .ok (x, j)) : fX s ex st = .ok ([x], iP st j) := by unfold fX; rw [if_neg (by omega), if_pos h, h2]; rfl
theorem pc_clE (h : sb s st.pos = 91) (h2 : lT s st.now (st.pos + 1) = .error e) : fX s ex st = .error e := by unfold fX; rw [if_neg (by omega), if_pos h, h2]
theorem pc_es (h : sb s st.pos = 92) : fX s ex st = fV s st := by unfold fX; rw [if_neg (by omega), if_neg (by omega), if_pos h]
theorem pc_pl (h1 : ¬ sb s st.pos = 40) (h2 : ¬ sb s st.pos = 91) (h3 : ¬ sb s st.pos = 92) : fX s ex st = kJ s st := by unfold fX; rw [if_neg h1, if_neg h2, if_neg h3]
theorem pl_all (h : (bQ s st.pos).1 = 46) (h2 : st.now.dots = true) : kJ s st = .ok ([kQ (rs [(0, 1114111)])], iP st (st.pos + (bQ s st.pos).2)) := by unfold kJ; rw [if_pos h, if_pos h2]; rfl
theorem pl_dot (h : (bQ s st.pos).1 = 46) (h2 : ¬ st.now.dots = true) : kJ s st = .ok ([kQ (rs [(0, 9), (11, 1114111)])], iP st (st.pos + (bQ s st.pos).2)) := by unfold kJ; rw [if_pos h, if_neg h2]; rfl
theorem pl_hat (h : (bQ s st.pos).1 = 94) : kJ s st = .ok ([rxK (if st.now.lines = true then 10 else 8)], iP st (st.pos + (bQ s st.pos).2)) := by unfold kJ; rw [if_neg (by omega), if_pos h]; rfl
theorem pl_dol (h : (bQ s st.pos).1 = 36) : kJ s st = .ok ([rxK (if st.now.lines = true then 11 else 9)], iP st (st.pos + (bQ s st.pos).2)) := by unfold kJ; rw [if_neg (by omega), if_neg (by omega), if_pos h]; rfl
theorem pl_lit (h : ¬ (bQ s st.pos).1 = 46) (h1 : ¬ (bQ s st.pos).1 = 94) (h2 : ¬ (bQ s st.pos).1 = 36) : kJ s st = .ok ([rD st.now (bQ s st.pos).1], iP st (st.pos + (bQ s st.pos).2)) := by unfold kJ; rw [if_neg h, if_neg h1, if_neg h2]; rfl
end
theorem PcPost.congr {b : Nat} {s : ByteArray} {pp qq : PS → PL} {st : PS} {ob : Option Nat} {w w' : World} {v : Value} (h : PcPost b s pp st ob w v w') (e : qq st = pp st) : PcPost b s qq st ob w v w' := by
  obtain ⟨l, st', h1, h2⟩ := h
  exact ⟨l, st', e.trans h1, h2⟩
theorem ExPan.congr {b : Nat} {α : Type} {pp qq : PS → PX α} {st : PS} {ob : Option Nat} {w w' : World} {v : Value} (h : ExPan b pp st ob w v w') (e : qq st = pp st) : ExPan b qq st ob w v w' := by
  obtain ⟨x, h1, h2⟩ := h
  exact ⟨x, e.trans h1, h2⟩
theorem PcPost.older {b : Nat} {s : ByteArray} {pp : PS → PL} {st : PS} {ob : Option Nat} {w w1 w' : World} {v : Value} (h : PcPost b s pp st ob w1 v w') (he : Evo [] w w1) : PcPost b s pp st ob w v w' := by
  obtain ⟨l, st', h1, h2, h3, h4, h5, a, c, o, ka, kc, ko, cs, bs, h6, h7, h8, h9, h10, h11⟩ := h
  exact ⟨l, st', h1, (he.any _).step h2 (fun y hy => .inl hy), h3, h4, h5, a, c, o, ka, kc, ko, cs, bs, h6, h7, h8, h9.older he.size, h10, (show NB w ob ob from .inl rfl).older h11 he.size⟩
theorem ExPan.older {b : Nat} {α : Type} {pp : PS → PX α} {st : PS} {ob : Option Nat} {w w1 w' : World} {v : Value} (h : ExPan b pp st ob w1 v w') (he : Evo [] w w1) : ExPan b pp st ob w v w' := by
  obtain ⟨e, h1, h2, h3⟩ := h
  exact ⟨e, h1, h2, (he.any _).step h3 (fun y hy => .inl hy)⟩
theorem PcPost.evo {b : Nat} {s : ByteArray} {pp : PS → PL} {st : PS} {ob : Option Nat} {w w' : World} {v : Value} (h : PcPost b s pp st ob w v w') : Evo (b :: ob.toList) w w' := by obtain ⟨l, st', h1, h2, _⟩ := h; exact h2
theorem piece_ok {ex : PS → PX Rx} {w : World} {b : Nat} {s : ByteArray} {st : PS} {a : Option Addr} {c : Nat} {ob : Option Nat} (hex : st.opn < 250 → vN b s ex (st.opn + 1)) (hR : RdAt w b s st a c ob) (hs : s.size ≤ 4096) (hlt : st.pos < s.size) (hop : st.opn ≤ 250) (hb : Bd s st.pos) (hnl : st.names.length ≤ 100) (hG : Glb w) (hGo : Apart (some pM) ob) :
    Calls Tryz.prog 99 #[.pointer (some ⟨b, 0, none⟩)] w (RetP (PcPost b s (fX s ex) st ob w) (ExPan b (fX s ex) st ob w)) := by
  have hap := hR.ap; have hgb : pM ∉ [b] := fun h => hR.glb hG (List.mem_singleton.1 h).symm; obtain ⟨h4, h5, a6, hr0, hr1⟩ := hb.next hlt; refine aT (N := 71) Tryz.func99 rfl rfl rfl ?_; refine csr (wan (aI (aI ?_))); refine eP (by kernel_rfl) (by kernel_rfl) ?_; refine bJ (fun _ H => aY rfl) ?_; refine bJ (fun _ H => aG rfl) ?_; refine bJ (fun _ H => aD rfl cS) ?_; refine bJ (fun _ H => aQ rfl cZ (aV (H.blk0 hR.blk) rfl)) ?_; refine bJ (fun _ H => aY rfl) ?_; refine bJ (fun _ H => aG rfl) ?_; refine bJ (fun _ H => aD rfl bB) ?_; refine bJ (fun _ H => aQ rfl aX (aV (H.blk0 hR.blk) rfl)) ?_; refine bJ (fun _ H => eD (n := st.pos) rfl rfl Tryz.underlying9 rfl hlt) ?_; refine eV (fun h6 H => aA ?_); have L := (Evo.refl [b] w).then H; have e0 := (Evo.refl [] w).then H; have a7 := H.blk0 hR.blk; have b6 := hR.own.evo0 H; refine bC (csr (wel ?_)); refine wan (bA rfl (fun e3 => ?_) (fun e3 => ?_))
  ·refine csr (aB ?_); refine cE (vs := [_]) MB rfl (TY hex ⟨a7, b6, hR.ne⟩ hs ⟨hlt, by omega⟩ hop hb hnl (hG.evo L hgb) hGo) rfl ?_ ?_
   ·intro pv wp hpp; exact And.intro rfl ⟨_, rfl, (ExPan.older hpp e0).congr (pc_br (by omega))⟩
   rintro rv w7 hpc; have h7 := hpc.evo; have E := L; refine wan (aH (aM (aE (cH (br1 ?_))))); exact (PcPost.older hpc e0).congr (pc_br (by omega))
  refine csr (wel ?_); refine wan (bA rfl (fun e4 => ?_) (fun e4 => ?_))
  ·refine csr (aB (aC (aG rfl) (wfl rfl bB rfl aX a7 rfl ?_))); refine aC (aK rfl rfl (by omega) (by omega)) ?_; refine aC (aG rfl) (aC (aD rfl bB) ?_); refine bE rfl rfl (by first | rfl | assumption) bZ a7 rfl fun w9 b7 b8 => ?_; have W := L.step b8 (fun y hy => .inl hy)
   try simp only [cG, Nat.reduceAdd] at b7
   refine wnn (csr (aB ?_)); refine cE (vs := [_]) MA rfl (class_ok (st := iP st (st.pos + 1)) ⟨b7, (b6.evo b8 hap.symm.own1), hR.ne⟩ (by omega) (hb.asc hlt (by omega)).1 (hG.evo W hgb)) rfl ?_ ?_
   ·intro pv wp hpp; obtain ⟨e9, hpe, rfl, hpw⟩ := hpp; exact And.intro rfl ⟨_, rfl, pan_of (pc_clE (by omega) hpe) ((W).step hpw (fun y hy => .inl hy))⟩
   rintro rv e1 ⟨x, j, hx, hT, b9, c0⟩; have hcall9 := b9; have E := W; obtain ⟨hbj, hij⟩ := ND hx (hb.asc hlt (by omega)).1; have hij2 : st.pos + 1 < j := hij; obtain ⟨vs, bx, rfl, hOT, hFx⟩ := hT; obtain ⟨ra, rc, ka, kc, rfl⟩ := id hOT.nine; refine bL (vs := [_]) rfl cU rfl rfl rfl rfl fun h8 h9 e5 e6 a0 => ?_; have e7 := (W.step b9 (fun y hy => .inl hy)).then a0; have e8 := a0.blk0 c0.blk; have f0 := c0.own.evo0 a0; refine wan (aH (aM (aE (cH (br1 ?_)))))
   exact BM (pp := fX s ex) hR (pc_cl (by omega) hx) (iA e5 hOT (hFx.older E.size) ((Ge.new (Evo.refl [] e1) e6) _ rfl) ((Evo.refl [] e1).then a0) (fun b hb h => by cases h) (Nat.le_trans E.size hcall9.size)) e7 ⟨e8, f0, c0.ne⟩ rfl rfl hnl (by show st.pos < j; omega) hbj (by show 1 + st.pos ≤ j; omega)
  refine csr (wel ?_); refine wan (bA rfl (fun f5 => ?_) (fun f5 => ?_))
  ·refine csr (aB ?_); refine cE (vs := [_]) LZ rfl (ZD ⟨a7, b6, hR.ne⟩ (by omega) hlt (by omega) hb (hG.evo L hgb)) rfl ?_ ?_
   ·intro pv wp hpp; obtain ⟨e9, hpe, rfl, hpw⟩ := hpp; exact And.intro rfl ⟨_, rfl, pan_of ((pc_es (by omega)).trans hpe) ((L).step hpw (fun y hy => .inl hy))⟩
   rintro rv i1 ⟨l, st', hx, hK, f6, c2, ho, hnm, hp, hbd, hll⟩; have E := L; refine wan (aH (aM (aE (cH (br1 ?_))))); exact BM (pp := fX s ex) hR ((pc_es (by omega)).trans hx) (hK.older E.size) (L.step f6 (fun y hy => .inl hy)) ⟨c2.blk, c2.own, c2.ne⟩ ho hnm hnl hp hbd hll
  refine aL (aO (aA (aI ?_))); have hpl : fX s ex st = kJ s st := pc_pl (by omega) (by omega) (by omega); refine aF (aB ?_); refine aJ (vs := [_]) oJ rfl (AG ⟨a7, b6, hR.ne⟩ (by omega) hb) rfl ?_; rintro _ i2 ⟨rfl, f7, A⟩; have I := L.step f7 (fun y hy => .inl hy); refine wan (csr (aB (wnn (bC (csr (wel ?_)))))); refine wan (bA rfl (fun f8 => ?_) (fun f8 => ?_))
  ·refine aI (csr (aB (aC (aG rfl) (aC (aD rfl dS) (wfl rfl vJ rfl gD A.blk rfl (wnn (dW rfl (fun J => ?_) (fun J => ?_))))))))
   ·replace J : st.now.dots = true := J; refine csr (bL (vs := [_, _]) rfl cQ rfl rfl rfl rfl fun i3 i4 f9 g8 a8 => ?_); refine aJ (vs := [_]) cW rfl (fU (es := [0, 1114111]) f9 (by decide)) rfl ?_; rintro _ i5 ⟨a1, c1, ob1, rfl, c3, hg1, a9⟩; have c4 := (I.then a8).then a9; refine aJ (vs := [_]) gM rfl (oB (l := [(0, 1114111)]) (S := rs [(0, 1114111)]) c3 (gU (by kernel_rfl)) (by decide) (fun c => Iff.rfl)) rfl ?_; rintro rv e2 ⟨hT, a2⟩; have hcall9 := a2; have E := c4; obtain ⟨vs, bx, rfl, hOT, hFx⟩ := hT; obtain ⟨ra, rc, ka, kc, rfl⟩ := id hOT.nine; refine bL (vs := [_]) rfl cU rfl rfl rfl rfl fun i6 i7 g0 g1 a3 => ?_; have g2 := (c4.then a2).then a3; have g3 := a3.blk0 (a2.blk0 (a9.blk0 (a8.blk0 A.blk))); have g4 := (((A.own.evo0 a8).evo0 a9).evo0 a2).evo0 a3; refine wan (aH (aE (aM (cH (br1 ?_)))))
    exact BM (pp := fX s ex) hR (hpl.trans (pl_all (by omega) J)) (iA g0 hOT (hFx.older E.size) ((Ge.new (Evo.refl ([]) e2) g1) _ rfl) ((Evo.refl ([]) e2).then a3) (fun b hb h => by cases h) (Nat.le_trans E.size hcall9.size)) g2 ⟨g3, g4, A.ne⟩ rfl rfl hnl (by show st.pos < st.pos + _; omega) a6 (by show 1 + st.pos ≤ st.pos + _; omega)
   replace J : st.now.dots = false := J; refine aL (aA (csr (bL (vs := [_, _, _, _]) rfl cQ rfl rfl rfl rfl fun i8 i9 g5 g9 b4 => ?_))); refine aJ (vs := [_]) cW rfl (fU (es := [0, 9, 11, 1114111]) g5 (by decide)) rfl ?_; rintro _ j0 ⟨a1, c1, ob1, rfl, c3, hg1, b5⟩; have c5 := (I.then b4).then b5; refine aJ (vs := [_]) gM rfl (oB (l := [(0, 9), (11, 1114111)]) (S := rs [(0, 9), (11, 1114111)]) c3 (gU (by kernel_rfl)) (by decide) (fun c => Iff.rfl)) rfl ?_; rintro rv c6 ⟨hT, M⟩; have hcall9 := M; have E := c5; obtain ⟨vs, bx, rfl, hOT, hFx⟩ := hT; obtain ⟨ra, rc, ka, kc, rfl⟩ := id hOT.nine; refine bL (vs := [_]) rfl cU rfl rfl rfl rfl fun j1 h0 c8 c9 O => ?_; have d0 := (c5.then M).then O; have d3 := O.blk0 (M.blk0 (b5.blk0 (b4.blk0 A.blk))); have d4 := (((A.own.evo0 b4).evo0 b5).evo0 M).evo0 O; refine wan (aH (aM (cH (br1 ?_))))
   exact BM (pp := fX s ex) hR (hpl.trans (pl_dot (by omega) (by simp [J]))) (iA c8 hOT (hFx.older E.size) ((Ge.new (Evo.refl ([]) c6) c9) _ rfl) ((Evo.refl ([]) c6).then O) (fun b hb h => by cases h) (Nat.le_trans E.size hcall9.size)) d0 ⟨d3, d4, A.ne⟩ rfl rfl hnl (by show st.pos < st.pos + _; omega) a6 (by show 1 + st.pos ≤ st.pos + _; omega)
  refine csr (wel ?_); refine wan (bA rfl (fun g6 => ?_) (fun g6 => ?_))
  ·refine csr (aB (aC (aG rfl) (aC (aD rfl dS) (wfl rfl qR rfl gD A.blk rfl (aJ (vs := [_, _, _]) xR rfl (one_ok 8 10 st.now.lines) rfl ?_))))); rintro rv h1 ⟨hK, a4⟩; have E := I; refine wan (aH (aM (cH (br1 ?_))))
   exact BM (pp := fX s ex) hR (hpl.trans (pl_hat (by omega))) (hK.older E.size) (I.then a4) ⟨(a4.blk0 A.blk), (A.own.evo0 a4), A.ne⟩ rfl rfl hnl (by show st.pos < st.pos + _; omega) a6 (by show 1 + st.pos ≤ st.pos + _; omega)
  refine csr (wel ?_); refine wan (bA rfl (fun g7 => ?_) (fun g7 => ?_))
  ·refine csr (aB (aC (aG rfl) (aC (aD rfl dS) (wfl rfl qR rfl gD A.blk rfl (aJ (vs := [_, _, _]) xR rfl (one_ok 9 11 st.now.lines) rfl ?_))))); rintro rv h2 ⟨hK, a5⟩; have E := I; refine wan (aH (aM (cH (br1 ?_))))
   exact BM (pp := fX s ex) hR (hpl.trans (pl_dol (by omega))) (hK.older E.size) (I.then a5) ⟨(a5.blk0 A.blk), (A.own.evo0 a5), A.ne⟩ rfl rfl hnl (by show st.pos < st.pos + _; omega) a6 (by show 1 + st.pos ≤ st.pos + _; omega)
  refine csr (aB (aB (aJ (vs := [_, _]) oH rfl (IZ ⟨A.blk, A.own, A.ne⟩ (bQ s st.pos).1 hr0 hr1) rfl ?_))); rintro rv c7 ⟨hT, U⟩; have hcall9 := U; have E := I; obtain ⟨vs, bx, rfl, hOT, hFx⟩ := hT; obtain ⟨ra, rc, ka, kc, rfl⟩ := id hOT.nine; refine bL (vs := [_]) rfl cU rfl rfl rfl rfl fun j2 h3 d5 d6 V => ?_; have d7 := (I.then U).then V; have d8 := V.blk0 (U.blk0 A.blk); have d9 := (A.own.evo0 U).evo0 V; refine wan (aH (aM (cH (br1 ?_))))
  exact BM (pp := fX s ex) hR (hpl.trans (pl_lit (by omega) (by omega) (by omega))) (iA d5 hOT (hFx.older E.size) ((Ge.new (Evo.refl ([]) c7) d6) _ rfl) ((Evo.refl ([]) c7).then V) (fun b hb h => by cases h) (Nat.le_trans E.size hcall9.size)) d7 ⟨d8, d9, A.ne⟩ rfl rfl hnl (by show st.pos < st.pos + _; omega) a6 (by show 1 + st.pos ≤ st.pos + _; omega)
end Go.Proofs.YtidpigbinpaaeaaGreat
namespace Go.Proofs.YtidpigbinpaaeaaGreat
open Go.RowKit Go.W
theorem pRep_b {s : ByteArray} {i nn : Nat} {lo hi : Int} (hb : Bd s i) (hi0 : i < s.size) (h : oW (s.extract i s.size) = (lo, hi, nn)) : 0 ≤ lo ∧ lo ≤ 1001 ∧ -1 ≤ hi ∧ hi ≤ 1001 ∧ (nn ≠ 0 → i + nn ≤ s.size ∧ Bd s (i + nn)) := by
  have hrs := fL (s := s) (a := i) (Nat.le_refl s.size)
  have e0 : sb (s.extract i s.size) 0 = sb s i := mY (by omega)
  have one : sb s i < 128 → i + 1 ≤ s.size ∧ Bd s (i + 1) := fun h => ⟨hi0, (hb.asc hi0 h).1⟩
  by_cases h1 : sb (s.extract i s.size) 0 = 42
  · rw [UQ h1] at h; cases h
    exact ⟨by omega, by omega, by omega, by omega, fun _ => one (by omega)⟩
  · by_cases h2 : sb (s.extract i s.size) 0 = 43
    · rw [UR h2] at h; cases h
      exact ⟨by omega, by omega, by omega, by omega, fun _ => one (by omega)⟩
    · by_cases h3 : sb (s.extract i s.size) 0 = 63
      · rw [pr_qu h3] at h; cases h
        exact ⟨by omega, by omega, by omega, by omega, fun _ => one (by omega)⟩
      · by_cases h4 : sb (s.extract i s.size) 0 = 123
        · have close : ∀ {k : Nat}, isB (s.extract i s.size) k 125 → i + (k + 1) ≤ s.size ∧ Bd s (i + (k + 1)) := fun {k} hk => by
            have hk1 := hk.1
            have h6 : sb s (i + k) = 125 := by rw [← mY (by omega)]; exact hk.2
            exact ⟨by omega, by rw [← Nat.add_assoc]; exact isB.asc (b := 125) ⟨by omega, h6⟩ (by decide) (oQ hb (by omega) (by omega) (by omega))⟩
          obtain ⟨lo1, j, hp1⟩ : ∃ lo1 j, iQ (s.extract i s.size) (s.extract i s.size).size 1 0 = (lo1, j) := ⟨_, _, rfl⟩
          have hb1 := BR (r := s.extract i s.size) (f := (s.extract i s.size).size) (i := 1) (n := 0) (by omega) (by omega) (by omega)
          have hbr := pr_br h4 hp1
          rw [hp1] at hb1
          rw [h] at hbr
          replace hb1 : 0 ≤ lo1 ∧ lo1 ≤ 1001 ∧ 1 ≤ j ∧ j ≤ (s.extract i s.size).size := hb1
          split at hbr
          · rename_i hc
            have hb2 := BR (r := s.extract i s.size) (f := (s.extract i s.size).size) (i := j + 1) (n := 0) (by omega) (by omega) (by have := hc.2.1; omega)
            split at hbr
            · rename_i hd
              obtain ⟨rfl, hx⟩ := Prod.mk.inj hbr
              obtain ⟨rfl, rfl⟩ := Prod.mk.inj hx
              refine ⟨hb1.1, hb1.2.1, ?_, ?_, fun _ => close hd⟩
              · split <;> omega
              · split <;> omega
            · cases hbr; exact ⟨by omega, by omega, by omega, by omega, fun h => absurd rfl h⟩
          · split at hbr
            · cases hbr; exact ⟨by omega, by omega, by omega, by omega, fun h => absurd rfl h⟩
            · rename_i hc
              obtain ⟨rfl, hx⟩ := Prod.mk.inj hbr
              obtain ⟨rfl, rfl⟩ := Prod.mk.inj hx
              have hd : isB (s.extract i s.size) j 125 := Classical.not_not.1 (fun h => hc (.inr h))
              exact ⟨hb1.1, hb1.2.1, by omega, by omega, fun _ => close hd⟩
        · rw [pr_no h1 h2 h3 h4] at h; cases h
          exact ⟨by omega, by omega, by omega, by omega, fun h => absurd rfl h⟩
section
variable {s : ByteArray} {ex : PS → PX Rx} {f : Nat} {l g : List Rx} {ah : Bool} {st st2 : PS} {e lo hi : Int} {nn : Nat}
theorem JY (h : s.size ≤ st.pos ∨ sb s st.pos = 124 ∨ sb s st.pos = 41) : kP s ex f l ah st = .ok (tL 4 l, st) := by
  cases f with
  | zero => rfl
  | succ f => rw [kP, if_pos h]
theorem alt_pcE (h : ¬ (s.size ≤ st.pos ∨ sb s st.pos = 124 ∨ sb s st.pos = 41)) (hr : oW (s.extract st.pos s.size) = (lo, hi, 0)) (hp : fX s ex st = .error e) : kP s ex (f + 1) l ah st = .error e := by
  rw [kP, if_neg h, hr]; simp only; rw [if_pos trivial, hp]
theorem alt_pc (h : ¬ (s.size ≤ st.pos ∨ sb s st.pos = 124 ∨ sb s st.pos = 41)) (hr : oW (s.extract st.pos s.size) = (lo, hi, 0)) (hp : fX s ex st = .ok (g, st2)) : kP s ex (f + 1) l ah st = kP s ex f (l ++ g) (decide (0 < g.length)) st2 := by
  rw [kP, if_neg h, hr]; simp only; rw [if_pos trivial, hp]
theorem AU (h : ¬ (s.size ≤ st.pos ∨ sb s st.pos = 124 ∨ sb s st.pos = 41)) (hr : oW (s.extract st.pos s.size) = (lo, hi, nn)) (hn : nn ≠ 0) (hc : ah = false ∨ 1000 < lo ∨ 1000 < hi ∨ (0 ≤ hi ∧ hi < lo)) : kP s ex (f + 1) l ah st = .error 82 := by
  rw [kP, if_neg h, hr]; simp only; rw [if_neg hn, if_pos hc]
theorem WU (h : ¬ (s.size ≤ st.pos ∨ sb s st.pos = 124 ∨ sb s st.pos = 41)) (hr : oW (s.extract st.pos s.size) = (lo, hi, nn)) (hn : nn ≠ 0) (hc : ¬ (ah = false ∨ 1000 < lo ∨ 1000 < hi ∨ (0 ≤ hi ∧ hi < lo))) (hq : isB s (st.pos + nn) 63) :
    kP s ex (f + 1) l ah st = kP s ex f (l.dropLast ++ [pO lo hi (!st.now.lazy) (l.getLastD (rxK 1))]) false { st with pos := st.pos + nn + 1 } := by
  rw [kP, if_neg h, hr]; simp only; rw [if_neg hn, if_neg hc, if_pos hq]
theorem WV (h : ¬ (s.size ≤ st.pos ∨ sb s st.pos = 124 ∨ sb s st.pos = 41)) (hr : oW (s.extract st.pos s.size) = (lo, hi, nn)) (hn : nn ≠ 0) (hc : ¬ (ah = false ∨ 1000 < lo ∨ 1000 < hi ∨ (0 ≤ hi ∧ hi < lo))) (hq : ¬ isB s (st.pos + nn) 63) :
    kP s ex (f + 1) l ah st = kP s ex f (l.dropLast ++ [pO lo hi st.now.lazy (l.getLastD (rxK 1))]) false { st with pos := st.pos + nn } := by
  rw [kP, if_neg h, hr]; simp only; rw [if_neg hn, if_neg hc, if_neg hq]
theorem alts_end (h : ¬ isB s st.pos 124) : nY s ex f l st = .ok (tL 5 l, st) := by
  cases f with
  | zero => rfl
  | succ f => rw [nY, if_neg h]
theorem alts_err (h : isB s st.pos 124) (hp : kP s ex (s.size + 1) [] false (adv st 1) = .error e) : nY s ex (f + 1) l st = .error e := by
  rw [nY, if_pos h]; show (match kP s ex (s.size + 1) [] false (adv st 1) with | .error e => _ | .ok (x, st2) => _) = _; rw [hp]
theorem alts_go {x : Rx} (h : isB s st.pos 124) (hp : kP s ex (s.size + 1) [] false (adv st 1) = .ok (x, st2)) : nY s ex (f + 1) l st = nY s ex f (l ++ [x]) st2 := by
  rw [nY, if_pos h]; show (match kP s ex (s.size + 1) [] false (adv st 1) with | .error e => _ | .ok (x, st2) => _) = _; rw [hp]
end
theorem Fr.right {w : World} {b1 b2 : List Nat} (h : Fr w (b1 ++ b2)) : Fr w b2 := ⟨(List.nodup_append.1 h.nd).2.1, fun b hb => h.ge b (List.mem_append_right _ hb)⟩
theorem Fr.sub {w : World} {b1 b2 : List Nat} (h : Fr w b2) (hs : b1.Sublist b2) : Fr w b1 := ⟨h.nd.sublist hs, fun b hb => h.ge b (hs.subset hb)⟩
theorem Fr.insert {w w1 : World} {b0 b1 b2 : List Nat} {g : Nat} (h : Fr w (b0 ++ (b1 ++ b2))) (hl : ∀ b, b ∈ b0 ++ (b1 ++ b2) → b < w1.heap.size) (hg : w1.heap.size ≤ g) (hw : w.heap.size ≤ w1.heap.size) : Fr w (b0 ++ (b1 ++ (g :: b2))) := by
  have hp : (b0 ++ (b1 ++ (g :: b2))).Perm (g :: (b0 ++ (b1 ++ b2))) := by
    rw [← List.append_assoc, ← List.append_assoc]
    exact List.perm_middle
  refine ⟨hp.nodup_iff.2 (List.nodup_cons.2 ⟨fun hm => ?_, h.nd⟩), fun b hb => ?_⟩
  · have := hl g hm; omega
  · rcases List.mem_cons.1 (hp.mem_iff.1 hb) with rfl | hb
    · omega
    · exact h.ge b hb
theorem yB {w : World} {e e2 : TypeId} {sz sz2 : Nat} {a a2 : Option Addr} {n n2 c c2 : Nat} {xs xs2 : List Value} {o o2 : Option Nat} (h : OwnS w e sz a n c xs o) (h2 : OwnS w e2 sz2 a2 n2 c2 xs2 o2) (hne : e ≠ e2) : Apart o o2 := fun g h3 h4 => by
  rcases h.2 with ⟨_, _, h5⟩ | ⟨g', _, cur, hg, _, hb, _⟩
  · rw [h5] at h3; cases h3
  · rcases h2.2 with ⟨_, _, h5⟩ | ⟨g2, _, cur2, hg2, _, hb2, _⟩
    · rw [h5] at h4; cases h4
    · rw [h3] at hg; cases hg
      rw [h4] at hg2; cases hg2
      rw [hb] at hb2
      injection hb2 with hb2
      injection hb2 with _ hb2
      exact hne hb2
theorem HS {w : World} {e e2 : TypeId} {sz2 : Nat} {a2 : Option Addr} {n2 c2 : Nat} {xs2 : List Value} {o2 : Option Nat} {b : Nat} {cs : Array Value} (h : w.heap[b]? = some (.cells cs e (0, 0))) (h2 : OwnS w e2 sz2 a2 n2 c2 xs2 o2) (hne : e ≠ e2) : Apart (some b) o2 := fun g h3 h4 => by
  cases h3
  rcases h2.2 with ⟨_, _, h5⟩ | ⟨g2, _, cur2, hg2, _, hb2, _⟩
  · rw [h5] at h4; cases h4
  · rw [h4] at hg2; cases hg2
    rw [h] at hb2
    injection hb2 with hb2
    injection hb2 with _ hb2
    exact hne hb2
theorem put_end {c1 c2 vs : List Value} (h : vs.length = c2.length) : wG (c1 ++ c2) c1.length vs = c1 ++ vs := by
  unfold wG
  rw [List.take_left, List.drop_append, h]
  simp
theorem rX {w : World} {g : Nat} {c1 c2 : List Value} (h : CellsAt w g 0 (c1 ++ c2)) : CellsAt w g (0 + c1.length) c2 := fun j v hj => by
  have h1 := h (c1.length + j) v (by rw [List.getElem?_append_right (by omega)]; simpa using hj)
  rw [← Nat.add_assoc] at h1
  exact h1
theorem UK {l : List Rx} (h : l ≠ []) : ∃ l' x, l = l' ++ [x] ∧ l.dropLast = l' ∧ (∀ d, l.getLastD d = x) := by
  rcases List.eq_nil_or_concat l with rfl | ⟨l', x, rfl⟩
  · exact (h rfl).elim
  · exact ⟨l', x, by simp, by simp, fun d => by simp⟩
theorem IP {X : List Nat} {w1 w2 : World} {x : Rx} {vs : List Value} {bs : List Nat} {g : Nat} {lo hi : Int} {z : Bool} (hO : OwnS w2 71 9 (some ⟨g, 0, none⟩) 1 1 vs (some g)) (hT : OT x w1 vs bs) (he : Evo X w1 w2) (hx : ∀ b, b ∈ bs → b ∉ X) :
    OT (pO lo hi z x) w2 [iv 6, .int .i32 0, .slice none 0 0, iv lo, iv hi, .bool z, iv 0, .string ByteArray.empty, .slice (some ⟨g, 0, none⟩) 1 1] (g :: bs) := by
  unfold pO
  rw [OT]
  exact ⟨none, 0, none, _, 1, some g, vs, bs, rfl, OwnS.nil _ _ _, hO, OTs.single (hT.evo he hx), rfl, by simp, by show (0 : Nat) ≤ 1000000; omega, by simp⟩
end Go.Proofs.YtidpigbinpaaeaaGreat
