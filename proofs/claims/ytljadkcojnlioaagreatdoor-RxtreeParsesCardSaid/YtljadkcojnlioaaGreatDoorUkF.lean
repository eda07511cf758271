/- Parses: part 6 of 7 of what the law rests on. -/
import Derived.Test.YtljadkcojnlioaaGreatDoorUkE
set_option linter.unusedSectionVars false
set_option linter.unusedSimpArgs false
set_option linter.unusedVariables false
namespace Go.Proofs.YtljadkcojnlioaaGreatDoor
open Go.RowKit Go.W
attribute [local irreducible] Decidable.decide
theorem GH : dW Tryz.prog 137 := ⟨_, Tryz.func137, by kernel_rfl, by kernel_rfl⟩
theorem vQ : dW Tryz.prog 138 := ⟨_, Tryz.func138, by kernel_rfl, by kernel_rfl⟩
structure FnI (s : ByteArray) (N k n : Nat) : Prop where
  two : 2 ≤ n
  le : k + n ≤ N
  no : ∀ q, aU s k + 2 ≤ q → q < aU s (k + n) → ¬ Occ s 58 93 q
section
variable {s : ByteArray} {N k n : Nat} (hU : Utf s N) (hk : k < N)
include hU hk
theorem ES : (rn s N k = 91 ∧ rn s N (k + 1) = 58) ↔ (isB s (aU s k) 91 ∧ isB s (aU s k + 1) 58) := by
  constructor
  · rintro ⟨h1, h2⟩
    obtain ⟨a1, a2, a3⟩ := dR (b := 91) hU (Nat.le_of_lt hk) (by decide) h1
    exact ⟨a1, by rw [← a2]; exact (dR (b := 58) hU (i := k + 1) (by omega) (by decide) h2).1⟩
  · rintro ⟨h1, h2⟩
    have h0 := (dS hU (Nat.le_of_lt hk) (b := 91) (by decide)).2 h1
    have a2 := pC hU (Nat.le_of_lt hk) (b := 91) (by decide) h1
    exact ⟨h0, (dS hU (i := k + 1) (by omega) (b := 58) (by decide)).2 (by rw [a2]; exact h2)⟩
theorem VD (h1 : rn s N k = 91) (h2 : rn s N (k + 1) = 58) : aU s (k + 2) = aU s k + 2 ∧ k + 2 ≤ N := by
  obtain ⟨a1, a2, a3⟩ := dR (b := 91) hU (Nat.le_of_lt hk) (by decide) h1
  obtain ⟨b1, b2, b3⟩ := dR (b := 58) hU (i := k + 1) (by omega) (by decide) h2
  exact ⟨by rw [show k + 2 = k + 1 + 1 by rfl, b2, a2], b3⟩
omit hk in
theorem FnI.step (h : FnI s N k n) (hn : k + n < N) (hne : ¬ (rn s N (k + n) = 58 ∧ rn s N (k + (n + 1)) = 93)) : FnI s N k (n + 1) := by
  refine ⟨by have := h.two; omega, hn, fun q h1 h2 ho => ?_⟩
  rcases Nat.lt_or_ge q (aU s (k + n)) with h3 | h3
  · exact h.no q h1 h3 ho
  · obtain ⟨o1, o2, o3⟩ := ho
    have hb := nH (hU.bd (Nat.le_of_lt hn)) h3 (show q < s.size by omega) (by omega)
    have e : q = aU s (k + n) := by
      rcases Nat.eq_or_lt_of_le h3 with e | e
      · exact e.symm
      · have h4 := AF (hU.2 _ hn) (t := q - aU s (k + n)) (by omega) (by have : aU s (k + (n + 1)) = aU s (k + n) + (cL s (aU s (k + n))).2 := rfl; omega)
        rw [show aU s (k + n) + (q - aU s (k + n)) = q by omega] at h4
        omega
    subst e
    have k1 := (dS hU (Nat.le_of_lt hn) (b := 58) (by decide)).2 ⟨by omega, o2⟩
    have k2 := pC hU (Nat.le_of_lt hn) (b := 58) (by decide) ⟨by omega, o2⟩
    exact hne ⟨k1, (dS hU (i := k + (n + 1)) hn (b := 93) (by decide)).2 (by rw [← Nat.add_assoc, k2]; exact ⟨o1, o3⟩)⟩
omit hk in
theorem FnI.miss (h : FnI s N k n) (hn : ¬ k + n < N) : jL s 58 93 s.size (aU s k + 2) = none := by
  have e : k + n = N := by have := h.le; omega
  cases hf : jL s 58 93 s.size (aU s k + 2) with
  | none => rfl
  | some q =>
    obtain ⟨h1, h2, -⟩ := (lU s 58 93 s.size _ (by omega)).1 q hf
    exact (h.no q h1 (by rw [e, rI hU]; have := h2.1; omega) h2).elim
omit hk in
theorem FnI.hit (h : FnI s N k n) (hn : k + n < N) (h1 : rn s N (k + n) = 58) (h2 : rn s N (k + (n + 1)) = 93) (ho : aU s (k + 2) = aU s k + 2) : jL s 58 93 s.size (aU s k + 2) = some (aU s (k + n)) ∧ aU s (k + (n + 2)) = aU s (k + n) + 2 ∧ k + (n + 2) ≤ N ∧ aU s k + 2 ≤ aU s (k + n) := by
  obtain ⟨a1, a2, a3⟩ := dR (b := 58) hU (Nat.le_of_lt hn) (by decide) h1
  obtain ⟨b1, b2, b3⟩ := dR (b := 93) hU (i := k + (n + 1)) hn (by decide) h2
  have hm : aU s k + 2 ≤ aU s (k + n) := by rw [← ho]; exact mG s (by have := h.two; omega)
  rw [← Nat.add_assoc, a2] at b1
  have hocc : Occ s 58 93 (aU s (k + n)) := ⟨b1.1, a1.2, b1.2⟩
  refine ⟨?_, by rw [show k + (n + 2) = k + (n + 1) + 1 by omega, b2, ← Nat.add_assoc, a2], b3, hm⟩
  cases hf : jL s 58 93 s.size (aU s k + 2) with
  | none => exact ((lU s 58 93 s.size _ (by omega)).2 hf _ hm hocc).elim
  | some q =>
    obtain ⟨c1, c2, c3⟩ := (lU s 58 93 s.size _ (by omega)).1 q hf
    rcases Nat.lt_trichotomy q (aU s (k + n)) with e | e | e
    · exact (h.no q c1 e c2).elim
    · rw [e]
    · exact (c3 _ hm e hocc).elim
omit hk in
theorem it_cutq (h : FnI s N k n) (hn : k + n < N) (ho : aU s (k + 2) = aU s k + 2) : (rn s N (k + 2) = 94 ∧ 2 < n) ↔ (aU s k + 2 < aU s (k + n) ∧ sb s (aU s k + 2) = 94) := by
  have h2 := h.two
  constructor
  · rintro ⟨h1, h3⟩
    obtain ⟨a1, a2, a3⟩ := dR (b := 94) hU (i := k + 2) (by omega) (by decide) h1
    rw [ho] at a1
    exact ⟨by rw [← ho]; exact mP hU.2 (show k + 2 < k + n by omega) (by omega), a1.2⟩
  · rintro ⟨h1, h3⟩
    have h4 : 2 < n := by
      rcases Nat.lt_or_ge 2 n with h5 | h5
      · exact h5
      · obtain rfl : n = 2 := by omega
        omega
    exact ⟨(dS hU (i := k + 2) (by omega) (b := 94) (by decide)).2 (by rw [ho]; exact ⟨by have := jF s (k + n); omega, h3⟩), h4⟩
theorem it_shl (h92 : rn s N k = 92) {S : Int → Prop} (h : shI (rn s N (k + 1)) = some S) : lD s (aU s k) = .ok (S, aU s (k + 2)) ∧ k + 2 ≤ N := by
  have hk1 := IF hU hk h92 h
  have hl := DO hU hk h92 hk1
  have h0 := (yD hU hk h92).1
  have hlt := gA hU hk1
  rw [h0] at hlt
  have hb := (dR (b := 92) hU (Nat.le_of_lt hk) (by decide) h92).1
  rw [h] at hl
  have hlo : rn s N (k + 1) < 128 := by
    rcases Int.lt_or_le (rn s N (k + 1)) 128 with h8 | h8
    · exact h8
    · unfold shI at h
      rw [if_pos (by omega), mI ⟨by omega, by omega, by omega, by omega, by omega, by omega⟩] at h; cases h
  have h2 := (pT hU hk1 hlo).2
  rw [h0] at h2
  rw [VG ⟨hlt, hb.2⟩ hl.symm, show k + 2 = k + 1 + 1 by rfl, h2]
  exact ⟨rfl, hk1⟩
theorem VE (h : rn s N k = 92 → shI (rn s N (k + 1)) = none) : lD s (aU s k) = iP s (aU s k) := by
  refine AJ fun ⟨h1, h2⟩ => ?_
  have h92 := (dS hU (Nat.le_of_lt hk) (b := 92) (by decide)).2 ⟨gA hU hk, h2⟩
  have hk1 : k + 1 < N := tL hU (yD hU hk h92).2 (by rw [(yD hU hk h92).1]; omega)
  rw [← DO hU hk h92 hk1]; exact h h92
end
def ErR (s : ByteArray) (R : PR) (e : Int) : Prop := R = .error e ∨ (e = 81 ∧ ∃ S j, R = .ok (S, j) ∧ isB s j 45 ∧ s.size ≤ j + 1)
section
variable {s : ByteArray} {N i k : Nat} {r : Int} (hU : Utf s N) (h : kZ s i = .ok (r, aU s k)) (hk : k ≤ N)
include hU h hk
theorem rg_dash (h45 : rn s N k = 45) (h93 : rn s N (k + 1) ≠ 93) (hk1 : k + 1 < N) : isB s (aU s k) 45 ∧ aU s k + 1 < s.size ∧ sb s (aU s k + 1) ≠ 93 ∧ aU s (k + 1) = aU s k + 1 := by
  obtain ⟨a1, a2, a3⟩ := dR (b := 45) hU hk (by decide) h45
  have hl := gA hU hk1
  rw [a2] at hl
  exact ⟨a1, hl, fun h9 => h93 ((dS hU (i := k + 1) (by omega) (b := 93) (by decide)).2 (by rw [a2]; exact ⟨hl, h9⟩)), a2⟩
theorem SS (hn : rn s N k = 45 → rn s N (k + 1) = 93) : iP s i = .ok (rgS r r, aU s k) := by
  refine DW h fun ⟨h1, h2, h3⟩ => ?_
  have h45 := (dS hU hk (b := 45) (by decide)).2 h1
  have a2 := pC hU hk (b := 45) (by decide) h1
  have a3 := tL hU hk h1.1
  exact h3 (by have := (dS hU (i := k + 1) (by omega) (b := 93) (by decide)).1 (hn h45); rw [a2] at this; exact this.2)
theorem rg_last (h45 : rn s N k = 45) (hk1 : ¬ k + 1 < N) : ErR s (iP s i) 81 := by
  obtain ⟨a1, a2, a3⟩ := dR (b := 45) hU hk (by decide) h45
  have e : k + 1 = N := by omega
  have hz := rI hU
  rw [← e, a2] at hz
  exact .inr ⟨rfl, _, _, DW h (fun h9 => by have := h9.2.1; omega), a1, by omega⟩
end
def ItO (s : ByteArray) (N b : Nat) (m : RfM) (o : Nat) (ns : List ByteArray) (k : Nat) (w w' : World) (v : Value) (R : PR) : Prop :=
  ∃ a c ob l k' e, v = .slice a l.length c ∧ OwnS w' 56 2 a l.length c (cS l) ob ∧ Ge w ob ∧ Apart (some b) ob ∧ Vw l ∧ l.length ≤ 9 ∧ k' ≤ N ∧ RfAt w' b s N ⟨k', o, ns, e⟩ m ∧
    ((e = 0 ∧ k < k' ∧ k' ≤ N ∧ Vr l ∧ ∃ S, R = .ok (S, aU s k') ∧ ∀ c, InR c l ↔ S c) ∨ (e ≠ 0 ∧ ErR s R e))
section
variable {P : Program} {σ : Env} {w : World} {dst : Option Nat} {T : TypeId} {pos : String} {after : Array Edge} {gg : Option (Nat × Bool)}
theorem ex_seg0 {x lo hi : Operand} {t e : TypeId} {a : Option Addr} {len c l h g : Nat} (hx : σ.ev x = some (.slice a len c)) (ht : P.underlying t = some (.slice e)) (hs : iJ P e = some 1) (hlo : σ.ev lo = some (.int .i64 (l : Nat))) (hhi : σ.ev hi = some (.int .i64 (h : Nat)))
    (ha : a = some ⟨g, 0, none⟩) (hl : l ≤ h) (hh : h < len) (hc : len ≤ c) : Ex P σ ⟨dst, .slice t x (some lo) (some hi) none, T, pos, after, gg⟩ w (.slice (some ⟨g, l, none⟩) (h - l) (c - l)) w := by
  have h1 := IS (P := P) (σ := σ) (w := w) (dst := dst) (T := T) (pos := pos) (after := after) (g := gg) (lo := some lo) (hi := some hi) (l := l) (h := h) (lv := some (l : Nat)) (hv := some (h : Nat)) hx ht hs (by simp [hlo]) (by simp [hhi]) rfl rfl hl (by omega) hc
  rw [if_neg (by omega), ha] at h1
  have e : (some (⟨g, 0, none⟩ : Addr)).map (·.add (l * 1)) = some ⟨g, l, none⟩ := by simp [Addr.add]; omega
  rw [e] at h1
  exact h1
end
section
variable {s : ByteArray} {N k n : Nat} (hU : Utf s N) (h : FnI s N k n) (hn : k + n < N) (ho : aU s (k + 2) = aU s k + 2)
include hU h hn ho
theorem nm_two : txt (seg s (k + 2) (n - 2)) = s.extract (aU s k + 2) (aU s (k + n)) := by
  have := h.two
  rw [DR hU (by omega), ho, show k + 2 + (n - 2) = k + n by omega]
theorem UP (h94 : rn s N (k + 2) = 94) (hn2 : 2 < n) : txt (seg s (k + 3) (n - 3)) = s.extract (aU s k + 3) (aU s (k + n)) := by
  have e := (dR (b := 94) hU (i := k + 2) (by omega) (by decide) h94).2.1
  rw [DR hU (by omega), show k + 3 = k + 2 + 1 by rfl, e, ho, show k + 2 + 1 + (n - 3) = k + n by omega]
end
structure RgG where
  r2 : Int
  k2 : Nat
  e2 : Int
theorem nm_of {s : ByteArray} {N k n : Nat} {z : Bool} {d : Nat} (hU : Utf s N) (h : FnI s N k n) (hn : k + n < N) (ho : aU s (k + 2) = aU s k + 2) (hz : (z = true ∧ d = 3 ∧ rn s N (k + 2) = 94 ∧ 2 < n) ∨ (z = false ∧ d = 2 ∧ ¬ (rn s N (k + 2) = 94 ∧ 2 < n))) : txt (seg s (k + d) (n - d)) = s.extract (aU s k + d) (aU s (k + n)) := by
  rcases hz with ⟨-, rfl, h1, h2⟩ | ⟨-, rfl, -⟩
  · exact UP hU h hn ho h1 h2
  · exact nm_two hU h hn ho
section
variable {s : ByteArray} {N k n d : Nat} {z : Bool} (hU : Utf s N) (hk : k < N) (hh : rn s N k = 91 ∧ rn s N (k + 1) = 58) (hI : FnI s N k n) (hn : k + n < N) (h1 : rn s N (k + n) = 58) (h2 : rn s N (k + (n + 1)) = 93)
  (hz : (z = true ∧ d = 3 ∧ rn s N (k + 2) = 94 ∧ 2 < n) ∨ (z = false ∧ d = 2 ∧ ¬ (rn s N (k + 2) = 94 ∧ 2 < n)))
include hU hk hh hI hn h1 h2 hz
theorem uW {o : Option (Int → Prop)} (ho : fW (s.extract (aU s k + d) (aU s (k + n))) = o) : (o = none → jD s (aU s k) = .error 81) ∧ (∀ S, o = some S → jD s (aU s k) = .ok (if z = true then lO S else S, aU s (k + (n + 2))) ∧ k + (n + 2) ≤ N) := by
  have h0 := VD hU hk hh.1 hh.2
  obtain ⟨f1, f2, f3, f4⟩ := hI.hit hU hn h1 h2 h0.1
  have hop := (ES hU hk).1 hh
  have hq := it_cutq hU hI hn h0.1
  rcases hz with ⟨rfl, rfl, e3⟩ | ⟨rfl, rfl, e3⟩
  · refine ⟨fun e => OB hop f1 (hq.1 e3) (by rw [ho, e]), fun S e => ⟨?_, f3⟩⟩
    rw [VH hop f1 (hq.1 e3) (by rw [ho, e]), f2]; rfl
  · refine ⟨fun e => OA hop f1 (fun h => e3 (hq.2 h)) (by rw [ho, e]), fun S e => ⟨?_, f3⟩⟩
    rw [VF hop f1 (fun h => e3 (hq.2 h)) (by rw [ho, e]), f2]; rfl
end
theorem HK {w : World} {b : Nat} {s : ByteArray} {N k o : Nat} {ns : List ByteArray} {m : RfM} (hR : RfAt w b s N ⟨k, o, ns, 0⟩ m) (hU : Utf s N) (hk : k < N) (hN : N ≤ 1000000) :
    Calls Tryz.prog 118 #[.pointer (some ⟨b, 0, none⟩)] w (Ret fun v w' => ItO s N b m o ns k w w' v (jD s (aU s k)) ∧ Evo [b] w w') := by
  have hap1 := hR.ap1; have hap2 := hR.ap2; have hap3 := hR.ap3; refine bE (N := 171) Tryz.func118 rfl rfl rfl ?_; refine csr (wan (aM (gR (α := Unit) (fun x => []) [(0, _)] (fun x wr => Evo [b] w wr ∧ (RfAt wr b s N ⟨k, o, ns, 0⟩ m ∧ jD s (aU s k) = lD s (aU s k))) ⟨rfl, trivial⟩ ?_ ?_)))
  ·refine csr (aA ?_)
   refine aG (vs := [_, _]) cJ rfl (dK (x := ⟨k, o, ns, 0⟩) ⟨hR.b0, hR.run, hR.o0⟩ 0 (by show k + 0 ≤ 1000000000; omega) (by omega)) rfl ?_
   rintro _ w1 ⟨rfl, j3⟩; have l7 := (Evo.refl [b] w).then j3; have j4 := j3.blk0 hR.b0; have j5 := hR.run.evo0 j3; have j6 := hR.o0.evo0 j3; refine wel ?_; refine aA (bH (t := 13) rfl (fun U => ?_) (fun U => ?_))
   ·refine aW (aA (aW ?_))
    refine aG (vs := [_, _]) cJ rfl (dK (x := ⟨k, o, ns, 0⟩) ⟨j4, j5, j6⟩ 1 (by show k + 1 ≤ 1000000000; omega) (by omega)) rfl ?_
    rintro _ w7 ⟨rfl, b5⟩; refine aW (wel ?_); refine bW (wnn (aZ rfl (fun V => ?_) (fun V => ?_)))
    ·have hoo := VD hU hk U V; refine csr (wan (aM (bK ?_)))
     refine dL (α := Nat) (2) (fun n => [(3, .int .i64 (n : Nat))]) [(0, _), (2, _)] (fun n wr => Evo [b] w wr ∧ (FnI s N k n ∧ RfAt wr b s N ⟨k, o, ns, 0⟩ m)) (fun n => N - n) ⟨rfl, trivial⟩ ⟨rfl, rfl, trivial⟩ ⟨(l7.then b5), ⟨⟨Nat.le_refl _, hoo.2, fun q h1 h2 => by rw [hoo.1] at h2; omega⟩, ⟨(b5.blk0 j4), (j5.evo0 b5), (j6.evo0 b5)⟩⟩⟩ ?_
     rintro n wr13 ⟨l8, ⟨hI, l9⟩⟩; show CW _ _ _ _ [(3, _), (0, _), (2, _)] _; have i1 := hI.le; refine aM (aM ?_); refine fR (fun w0 w' => Evo [] w0 w') (by kernel_rfl) (fun D c8 => ?_); have W := c8.blk0 l9.b0; have h0 := l9.run.evo0 c8; have h6 := l9.o0.evo0 c8; refine aet 0 rfl (fun _ hS => bC rfl) (Evo.refl [] D) ?_; refine aet 1 rfl (fun _ hS => aH rfl) (Evo.refl [] D) ?_; refine aet 2 rfl (fun _ hS => aD rfl bO) (Evo.refl [] D) ?_; refine aet 3 rfl (fun _ hS => aX rfl bD (bI (hS.blk0 W) rfl)) (Evo.refl [] D) ?_; refine aet 4 rfl (fun _ hS => bC rfl) (Evo.refl [] D) ?_; refine aet 5 rfl (fun _ hS => aI rfl rfl (by omega) (by omega)) (Evo.refl [] D) ?_; refine aet 6 rfl (fun _ hS => bC rfl) (Evo.refl [] D) ?_; refine aet 7 rfl (fun _ hS => aH rfl) (Evo.refl [] D) ?_; refine aet 8 rfl (fun _ hS => aD rfl fL) (Evo.refl [] D) ?_; refine aet 9 rfl (fun _ hS => aX rfl gD (bI (hS.blk0 W) rfl)) (Evo.refl [] D) ?_
     refine aet 10 rfl (fun _ hS => bM rfl Tryz.underlying67 rfl) (Evo.refl [] D) ?_; refine aet 11 rfl (fun _ hS => dA rfl rfl) (Evo.refl [] D) ?_; refine aet 12 rfl (fun _ hS => bC rfl) (Evo.refl [] D) ?_; refine qT (t := 30) rfl (fun p1 => ?_) (fun p1 => ?_)
     ·refine eL 13 rfl rfl rfl rfl rfl (by kernel_rfl) (by kernel_rfl) (by kernel_rfl) rfl (fun _ hS => bC rfl) (Evo.refl [] D) ?_; refine eL 14 rfl rfl rfl rfl rfl (by kernel_rfl) (by kernel_rfl) (by kernel_rfl) rfl (fun _ hS => bC rfl) (Evo.refl [] D) ?_; refine cA [15] (by kernel_rfl) rfl ⟨?_, trivial⟩; refine cG rfl ?_; refine aW ?_
      refine aG (vs := [_, _]) cJ rfl (dK (x := ⟨k, o, ns, 0⟩) ⟨W, h0, h6⟩ (n) (by show k + (n) ≤ 1000000000; omega) (by omega)) rfl ?_
      rintro _ s1 ⟨rfl, c9⟩; have i0 := (l8.then c8).then c9; have G := (Evo.refl [] D).then c9; have i3 := c9.blk0 W; have d5 := h0.evo0 c9; have d6 := h6.evo0 c9; refine aR (bV (.inl G) ?_); refine eL 16 rfl rfl rfl rfl rfl (by kernel_rfl) (by kernel_rfl) (by kernel_rfl) rfl (fun _ hS => kK rfl rfl) G ?_; refine eL 17 rfl rfl rfl rfl rfl (by kernel_rfl) (by kernel_rfl) (by kernel_rfl) rfl (fun _ hS => bC rfl) G ?_; refine qT (t := 35) rfl (fun I => ?_) (fun I => ?_)
      ·refine eL 18 rfl rfl rfl rfl rfl (by kernel_rfl) (by kernel_rfl) (by kernel_rfl) rfl (fun _ hS => bC rfl) G ?_; refine eL 19 rfl rfl rfl rfl rfl (by kernel_rfl) (by kernel_rfl) (by kernel_rfl) rfl (fun _ hS => bC rfl) G ?_; refine eL 20 rfl rfl rfl rfl rfl (by kernel_rfl) (by kernel_rfl) (by kernel_rfl) rfl (fun _ hS => aI rfl rfl (by omega) (by omega)) G ?_; refine cA [21] (by kernel_rfl) rfl ⟨?_, trivial⟩; refine cG rfl ?_; refine aW ?_
       refine aG (vs := [_, _]) cJ rfl (dK (x := ⟨k, o, ns, 0⟩) ⟨i3, d5, d6⟩ (n + 1) (by show k + (n + 1) ≤ 1000000000; omega) (by omega)) rfl ?_
       rintro _ s2 ⟨rfl, M⟩; have d0 := G.then M; have d7 := M.blk0 i3; refine aR (bV (.inl d0) ?_); refine eL 22 rfl rfl rfl rfl rfl (by kernel_rfl) (by kernel_rfl) (by kernel_rfl) rfl (fun _ hS => kK rfl rfl) d0 ?_; refine eL 23 rfl rfl rfl rfl rfl (by kernel_rfl) (by kernel_rfl) (by kernel_rfl) rfl (fun _ hS => eP rfl rfl) d0 ?_; refine eL 24 rfl rfl rfl rfl rfl (by kernel_rfl) (by kernel_rfl) (by kernel_rfl) rfl (fun _ hS => mS rfl) d0 ?_; refine aet 25 rfl (fun _ hS => eP rfl rfl) d0 ?_; refine dB (by kernel_rfl) (aC ?_); refine aZ rfl (fun J => ?_) (fun J => ?_)
       ·refine aN (aC (bK (aF (aA ?_)))); refine aB (aI rfl rfl (by omega) (by omega)) ?_; refine bN (aR (aQ (aY ?_))); refine ⟨(n + 1), ?_, ⟨rfl, trivial⟩, ⟨rfl, rfl, trivial⟩, (i0.then M), ?_⟩
        · omega
        exact ⟨hI.step hU (by omega) (fun h9 => J h9.2), ⟨d7, (d5.evo0 M), (d6.evo0 M)⟩⟩
       refine cW (bS (bS (cV (aC ?_)))); refine aM ?_; refine eK (by kernel_rfl) (by kernel_rfl) ?_; refine bG (fun _ F => bC rfl) ?_; refine bG (fun _ F => aH rfl) ?_; refine bG (fun _ F => aD rfl bO) ?_; refine bG (fun _ F => aX rfl bD (bI (F.blk0 d7) rfl)) ?_; refine bG (fun _ F => bC rfl) ?_; refine bG (fun _ F => aI rfl rfl (by omega) (by omega)) ?_; refine bG (fun _ F => bC rfl) ?_; refine bG (fun _ F => aH rfl) ?_; refine bG (fun _ F => aD rfl fL) ?_; refine bG (fun _ F => aX rfl gD (bI (F.blk0 d7) rfl)) ?_; refine bG (fun _ F => bM rfl Tryz.underlying67 rfl) ?_; refine bG (fun _ F => dA rfl rfl) ?_; refine eN (fun m0 F => aC ?_); have i4 := F.blk0 d7; have m1 := (d5.evo0 M).evo0 F; have m2 := (d6.evo0 M).evo0 F; refine aZ rfl (fun i5 => ?_) (fun i5 => ?_)
       ·obtain ⟨g9, ha9, s3, hg9⟩ := DU hR.run hk; have i2 := hI.two; refine csr (aA (aB (aH rfl) (wfl rfl bO rfl bD i4 rfl ?_))); refine aB (aI rfl rfl (by omega) (by omega)) ?_; refine wan (aM (gR (α := Bool) (fun z => [(5, .bool z)]) [(0, _), (2, _), (3, _), (4, _)] (fun z wr => Evo [] m0 wr ∧ ((z = true ∧ rn s N (k + 2) = 94 ∧ 2 < n) ∨ (z = false ∧ ¬ (rn s N (k + 2) = 94 ∧ 2 < n)))) ⟨rfl, rfl, rfl, rfl, trivial⟩ ?_ ?_))
        ·refine aF (aA ?_)
         refine aG (vs := [_, _]) cJ rfl (dK (x := ⟨k, o, ns, 0⟩) ⟨i4, m1, m2⟩ 2 (by show k + 2 ≤ 1000000000; omega) (by omega)) rfl ?_
         rintro _ s4 ⟨rfl, p2⟩; have m3 := (Evo.refl [] m0).then p2; refine wel ?_; refine aA (bH (t := 66) rfl (fun i6 => ?_) (fun i6 => ?_))
         ·refine aW (aA (aW (aB (eW rfl rfl) ?_))); refine bW (bN (aR (aY ?_))); refine ⟨decide (2 < (n : Int)), ⟨rfl, trivial⟩, ⟨rfl, rfl, rfl, rfl, trivial⟩, m3, ?_⟩
          by_cases h9 : 2 < n
          · exact .inl ⟨decide_eq_true (by omega), i6, h9⟩
          · exact .inr ⟨decide_eq_false (by omega), fun h8 => h9 h8.2⟩
         refine aP (aP (bR (bN (aR (aY ?_))))); refine ⟨false, ⟨rfl, trivial⟩, ⟨rfl, rfl, rfl, rfl, trivial⟩, m3, ?_⟩; exact .inr ⟨rfl, fun h9 => i6 h9.1⟩
        rintro z m4 ⟨d8, hz0⟩; refine aC ?_; show CW _ _ _ _ [(5, _), (0, _), (2, _), (3, _), (4, _)] _; refine aM (gR (α := Nat) (fun d => [(4, .int .i64 (k + d : Nat))]) [(0, _), (2, _), (3, _), (5, _)] (fun d wr => Evo [] m4 wr ∧ ((z = true ∧ d = 3 ∧ rn s N (k + 2) = 94 ∧ 2 < n) ∨ (z = false ∧ d = 2 ∧ ¬ (rn s N (k + 2) = 94 ∧ 2 < n)))) ⟨rfl, rfl, rfl, rfl, trivial⟩ ?_ ?_)
        ·refine csr (aA (wnn (eO rfl (fun i7 => ?_) (fun i7 => ?_))))
         ·subst i7; refine aF (aA ?_); refine aB (aI rfl rfl (by omega) (by omega)) ?_; refine bN (aR (aY ?_)); refine ⟨3, ⟨rfl, trivial⟩, ⟨rfl, rfl, rfl, rfl, trivial⟩, (Evo.refl [] m4), ?_⟩
          rcases hz0 with ⟨h7, h8⟩ | ⟨h7, h8⟩
          · first | exact .inl ⟨rfl, rfl, h8⟩ | cases h7
          · first | exact .inr ⟨rfl, rfl, h8⟩ | cases h7
         subst i7; refine aN (aY ?_); refine ⟨2, ⟨rfl, trivial⟩, ⟨rfl, rfl, rfl, rfl, trivial⟩, (Evo.refl [] m4), ?_⟩
         rcases hz0 with ⟨h7, h8⟩ | ⟨h7, h8⟩
         · first | exact .inl ⟨rfl, rfl, h8⟩ | cases h7
         · first | exact .inr ⟨rfl, rfl, h8⟩ | cases h7
        rintro d s5 ⟨d9, hz⟩; refine aC ?_; show CW _ _ _ _ [(4, _), (0, _), (2, _), (3, _), (5, _)] _; refine aM ?_; refine fR (fun w0 w' => Evo [] w0 w') (by kernel_rfl) (fun H e0 => ?_); have e3 := ((((i0.then M).then F).then d8).then d9).then e0; have e4 := e0.blk0 (d9.blk0 (d8.blk0 i4)); have i8 := ((m1.evo0 d8).evo0 d9).evo0 e0; refine aet 0 rfl (fun _ hS => bC rfl) (Evo.refl [] H) ?_; refine aet 1 rfl (fun _ hS => aH rfl) (Evo.refl [] H) ?_; refine aet 2 rfl (fun _ hS => aD rfl fL) (Evo.refl [] H) ?_; refine aet 3 rfl (fun _ hS => aX rfl gD (bI (hS.blk0 e4) rfl)) (Evo.refl [] H) ?_; refine aet 4 rfl (fun _ hS => bC rfl) (Evo.refl [] H) ?_; refine aet 5 rfl (fun _ hS => bC rfl) (Evo.refl [] H) ?_; refine aet 6 rfl (fun _ hS => aH rfl) (Evo.refl [] H) ?_; refine aet 7 rfl (fun _ hS => aD rfl bO) (Evo.refl [] H) ?_; refine aet 8 rfl (fun _ hS => aX rfl bD (bI (hS.blk0 e4) rfl)) (Evo.refl [] H) ?_; refine aet 9 rfl (fun _ hS => bC rfl) (Evo.refl [] H) ?_
        refine aet 10 rfl (fun _ hS => aI rfl rfl (by omega) (by omega)) (Evo.refl [] H) ?_; refine cA [11] (by kernel_rfl) rfl ⟨?_, trivial⟩; refine cG rfl ?_; refine aB (ex_seg0 (l := k + d) (h := k + n) rfl Tryz.underlying67 gP rfl rfl ha9 (by omega) (by omega) hR.run.le) ?_; refine aR (bV (.inl (Evo.refl [] H)) ?_)
        refine aet 12 rfl (fun _ hS => CX (l := seg s (k + d) (n - d)) rfl Tryz.underlying67 Tryz.underlying21 Tryz.underlying9 (by rw [DT]; omega) (SC hU (by omega)) (nm_of hU hI (by omega) hoo.1 hz) (CF (i8.evo0 hS) (by omega) g9 ha9)) (Evo.refl [] H) ?_
        refine cA [13] (by kernel_rfl) rfl ⟨?_, trivial⟩; refine cG rfl ?_; refine aG (vs := [_]) GH rfl (set9 _) rfl ?_; rintro _ s6 ⟨⟨a1, c1, ob1, l, rfl, j7, hg1, hv1, hl1, hSe⟩, Y⟩; have a8 := Apart.fresh (Lt.blk e4) hg1; have m5 := (Evo.refl [] H).then Y; have i9 := Y.blk0 e4; have m6 := (((m2.evo0 d8).evo0 d9).evo0 e0).evo0 Y; refine aR (bV (.inl m5) ?_); refine aet 14 rfl (fun _ hS => cR rfl) m5 ?_; refine dB (by kernel_rfl) (aC ?_); refine aM (csr (aA (aB (bM rfl Tryz.underlying24 rfl) ?_))); refine wel ?_; refine wnn (aZ rfl (fun j0 => ?_) (fun j0 => ?_))
        ·refine aF (aA ?_); refine aG (vs := [_, _]) eQ rfl (kW (k := k) (o := o) (ns := ns) ⟨i9, (i8.evo0 Y), m6⟩ 81 (by decide)) rfl ?_; rintro _ s7 ⟨rfl, m7, j8⟩; have p3 := (e3.then Y).step m7 (fun y hy => .inl hy); have p4 := j7.evo m7 ((by first | exact a8.symm.own1 | exact a8.symm.nmem1)); refine wnn (csr (aA (aB (aH rfl) (wfl rfl bO rfl bD j8.b0 rfl (aA ?_))))); refine aB (aI rfl rfl (by omega) (by omega)) ?_; refine aB (aI rfl rfl (by omega) (by omega)) ?_; refine aB (aH rfl) (aB (aD rfl bO) (bJ rfl rfl (rfl) bY j8.b0 rfl fun s8 e5 e6 => ?_)); have j1 := p3.step e6 (fun y hy => .inl hy); have m8 := p4.evo e6 a8.symm.own1; have m9 := j8.run.evo e6 hap2.symm.own1; have n0 := j8.o0.evo e6 hap1.symm.own1
         try simp only [cH, Nat.reduceAdd] at e5
         refine wnn (aM (csr (aA (wnn (eO rfl (fun L => ?_) (fun L => ?_))))))
         ·subst L; refine csr (aA ?_); refine aG (vs := [_]) kO rfl (nL m8 hv1.w (by omega)) rfl ?_; rintro _ s9 ⟨a3, c3, ob3, q, rfl, n4, hg3, hl3, hcan3, hvw3, a9⟩; refine aG (vs := [_]) kH rfl (mB n4 hvw3 (by omega)) rfl ?_; rintro _ p8 ⟨⟨⟨a2, c2, ob2, rfl, n5, hg2⟩, hl2⟩, b6⟩; refine wan (aK (aE (aE (aE (br1 ?_)))))
          have h35 : rn s N (k + (n + 1)) = 93 := by first | exact J | exact Classical.not_not.1 J
          have hf := uW hU hk ⟨U, V⟩ hI (by omega) I h35 hz rfl; have hnn := (hI.hit hU (by omega) I h35 hoo.1).2.2.1; have hno := (hSe.resolve_right (fun ⟨S, _, _, h9⟩ => by omega)).1; rw [hf.1 hno]; have p5 : q = [] := List.length_eq_zero_iff.1 (by omega)
          have hvg : Vw (lV 0 q) := by rw [p5, lV, if_pos (by decide)]; intro g hg; rw [List.mem_singleton.1 hg]; decide
          exact ⟨⟨a2, c2, ob2, lV 0 q, k + (n + 2), 81, rfl, n5, (Ge.fresh (j1.then a9) hg2), (Apart.fresh (Lt.blk (a9.blk0 e5)) hg2), hvg, by omega, by omega, ⟨(b6.blk0 (a9.blk0 e5)), ((m9.evo0 a9).evo0 b6), ((n0.evo0 a9).evo0 b6)⟩, .inr ⟨by decide, .inl rfl⟩⟩, ((j1.then a9).then b6)⟩
         subst L; refine aN (aC (csr (aA (wan (aK (aE (aE (br1 ?_))))))))
         have h35 : rn s N (k + (n + 1)) = 93 := by first | exact J | exact Classical.not_not.1 J
         have hf := uW hU hk ⟨U, V⟩ hI (by omega) I h35 hz rfl; have hnn := (hI.hit hU (by omega) I h35 hoo.1).2.2.1; have hno := (hSe.resolve_right (fun ⟨S, _, _, h9⟩ => by omega)).1; rw [hf.1 hno]; exact ⟨⟨a1, c1, ob1, l, k + (n + 2), 81, rfl, m8, (Ge.fresh e3 hg1), a8, hv1.w, by omega, by omega, ⟨e5, m9, n0⟩, .inr ⟨by decide, .inl rfl⟩⟩, j1⟩
        refine aN (aC (csr (aA (aB (aH rfl) (wfl rfl bO rfl bD i9 rfl (aA ?_)))))); refine aB (aI rfl rfl (by omega) (by omega)) ?_; refine aB (aI rfl rfl (by omega) (by omega)) ?_; refine aB (aH rfl) (aB (aD rfl bO) (bJ rfl rfl (rfl) bY i9 rfl fun p9 b7 b8 => ?_)); have e7 := (e3.then Y).step b8 (fun y hy => .inl hy); have j9 := (i8.evo0 Y).evo b8 hap2.symm.own1; have k0 := m6.evo b8 hap1.symm.own1; have k3 := j7.evo b8 a8.symm.own1
        try simp only [cH, Nat.reduceAdd] at b7
        refine wnn (aM (csr (aA (wnn (eO rfl (fun L => ?_) (fun L => ?_))))))
        ·subst L; refine csr (aA ?_); refine aG (vs := [_]) kO rfl (nL k3 hv1.w (by omega)) rfl ?_; rintro _ q0 ⟨a3, c3, ob3, q, rfl, n4, hg3, hl3, hcan3, hvw3, O⟩; refine aG (vs := [_]) kH rfl (mB n4 hvw3 (by omega)) rfl ?_; rintro _ q1 ⟨⟨⟨a2, c2, ob2, rfl, n5, hg2⟩, hl2⟩, b9⟩; refine wan (aK (aE (aE (aE (br1 ?_)))))
         have h35 : rn s N (k + (n + 1)) = 93 := by first | exact J | exact Classical.not_not.1 J
         have hf := uW hU hk ⟨U, V⟩ hI (by omega) I h35 hz rfl; have hnn := (hI.hit hU (by omega) I h35 hoo.1).2.2.1
         obtain ⟨S, hS, heq, -⟩ := hSe.resolve_left (fun h9 => by have h8 := h9.2; subst h8; exact j0 rfl)
         rw [(hf.2 S hS).1]; obtain ⟨g1, g2, g3⟩ := hcan3 hv1; obtain ⟨n1, n2, n3⟩ := qO g1 (fun c => (g3 c).trans (heq c)); exact ⟨⟨a2, c2, ob2, lV 0 q, k + (n + 2), 0, rfl, n5, (Ge.fresh (e7.then O) hg2), (Apart.fresh (Lt.blk (O.blk0 b7)) hg2), (oD n1).w, by omega, by omega, ⟨(b9.blk0 (O.blk0 b7)), ((j9.evo0 O).evo0 b9), ((k0.evo0 O).evo0 b9)⟩, .inl ⟨rfl, by omega, hnn, oD n1, _, rfl, n2⟩⟩, ((e7.then O).then b9)⟩
        subst L; refine aN (aC (csr (aA (wan (aK (aE (aE (br1 ?_))))))))
        have h35 : rn s N (k + (n + 1)) = 93 := by first | exact J | exact Classical.not_not.1 J
        have hf := uW hU hk ⟨U, V⟩ hI (by omega) I h35 hz rfl; have hnn := (hI.hit hU (by omega) I h35 hoo.1).2.2.1
        obtain ⟨S, hS, heq, -⟩ := hSe.resolve_left (fun h9 => by have h8 := h9.2; subst h8; exact j0 rfl)
        rw [(hf.2 S hS).1]; exact ⟨⟨a1, c1, ob1, l, k + (n + 2), 0, rfl, k3, (Ge.fresh e3 hg1), a8, hv1.w, by omega, by omega, ⟨b7, j9, k0⟩, .inl ⟨rfl, by omega, hnn, hv1, _, rfl, heq⟩⟩, e7⟩
       exfalso; omega
      refine lX 18 rfl G ?_; refine lX 19 rfl G ?_; refine lX 20 rfl G ?_; refine cA [21] (by kernel_rfl) rfl ⟨?_, trivial⟩; refine cG rfl ?_; refine aP (aR (bV (.inl G) ?_)); refine lX 22 rfl G ?_; refine eL 23 rfl rfl rfl rfl rfl (by kernel_rfl) (by kernel_rfl) (by kernel_rfl) rfl (fun _ hS => eZ rfl rfl) G ?_; refine eL 24 rfl rfl rfl rfl rfl (by kernel_rfl) (by kernel_rfl) (by kernel_rfl) rfl (fun _ hS => fV rfl) G ?_; refine aet 25 rfl (fun _ hS => eP rfl rfl) G ?_; refine dB (by kernel_rfl) (aC ?_); refine cZ rfl ?_; refine aN (aC (bK (aF (aA ?_)))); refine aB (aI rfl rfl (by omega) (by omega)) ?_; refine bN (aR (aQ (aY ?_))); refine ⟨(n + 1), ?_, ⟨rfl, trivial⟩, ⟨rfl, rfl, trivial⟩, i0, ?_⟩
      · omega
      exact ⟨hI.step hU (by omega) (fun h9 => I h9.1), ⟨i3, d5, d6⟩⟩
     refine lX 13 rfl (Evo.refl [] D) ?_; refine lX 14 rfl (Evo.refl [] D) ?_; refine cA [15] (by kernel_rfl) rfl ⟨?_, trivial⟩; refine cG rfl ?_; refine aP (aR (bV (.inl (Evo.refl [] D)) ?_)); refine lX 16 rfl (Evo.refl [] D) ?_; refine lX 17 rfl (Evo.refl [] D) ?_; refine qS 18 rfl rfl rfl rfl rfl (by kernel_rfl) (by kernel_rfl) (by kernel_rfl) rfl (Evo.refl [] D) ?_; refine qS 19 rfl rfl rfl rfl rfl (by kernel_rfl) (by kernel_rfl) (by kernel_rfl) rfl (Evo.refl [] D) ?_; refine qS 20 rfl rfl rfl rfl rfl (by kernel_rfl) (by kernel_rfl) (by kernel_rfl) rfl (Evo.refl [] D) ?_; refine cA [21] (by kernel_rfl) rfl ⟨?_, trivial⟩; refine cG rfl ?_; refine eS ?_; refine aR (bV (.inl (Evo.refl [] D)) ?_); refine qS 22 rfl rfl rfl rfl rfl (by kernel_rfl) (by kernel_rfl) (by kernel_rfl) rfl (Evo.refl [] D) ?_; refine lX 23 rfl (Evo.refl [] D) ?_; refine lX 24 rfl (Evo.refl [] D) ?_; refine aet 25 rfl (fun _ hS => eZ rfl rfl) (Evo.refl [] D) ?_; refine dB (by kernel_rfl) (aC ?_); refine cF rfl ?_; refine cW (bS (bS (cV (aC ?_)))); refine aM ?_; refine eK (by kernel_rfl) (by kernel_rfl) ?_
     refine bG (fun _ B => bC rfl) ?_; refine bG (fun _ B => aH rfl) ?_; refine bG (fun _ B => aD rfl bO) ?_; refine bG (fun _ B => aX rfl bD (bI (B.blk0 W) rfl)) ?_; refine bG (fun _ B => bC rfl) ?_; refine bG (fun _ B => aI rfl rfl (by omega) (by omega)) ?_; refine bG (fun _ B => bC rfl) ?_; refine bG (fun _ B => aH rfl) ?_; refine bG (fun _ B => aD rfl fL) ?_; refine bG (fun _ B => aX rfl gD (bI (B.blk0 W) rfl)) ?_; refine bG (fun _ B => bM rfl Tryz.underlying67 rfl) ?_; refine bG (fun _ B => dA rfl rfl) ?_; refine eN (fun p6 B => aC ?_); refine aZ rfl (fun i5 => ?_) (fun i5 => ?_)
     ·exfalso; omega
     refine aN (aY ?_); refine ⟨(), trivial, ⟨rfl, trivial⟩, ((l8.then c8).then B), ?_⟩; exact ⟨⟨(B.blk0 W), (h0.evo0 B), (h6.evo0 B)⟩, tB (fun _ => hI.miss hU (by omega))⟩
    refine aN (aY ?_); refine ⟨(), trivial, ⟨rfl, trivial⟩, (l7.then b5), ?_⟩; exact ⟨⟨(b5.blk0 j4), (j5.evo0 b5), (j6.evo0 b5)⟩, tB (fun h9 => absurd ((ES hU hk).2 h9).2 V)⟩
   refine aP (aP (aP (bR (wnn (cF rfl ?_))))); refine aN (aY ?_); refine ⟨(), trivial, ⟨rfl, trivial⟩, l7, ?_⟩; exact ⟨⟨j4, j5, j6⟩, tB (fun h9 => absurd ((ES hU hk).2 h9).1 U)⟩
  rintro x q3 ⟨k4, ⟨b4, hpr⟩⟩; refine aC ?_; show CW _ _ _ _ [(0, _)] _; refine aM (gR (α := Unit) (fun x => []) [(0, _)] (fun x wr => Evo [b] w wr ∧ (RfAt wr b s N ⟨k, o, ns, 0⟩ m ∧ (rn s N k = 92 → shI (rn s N (k + 1)) = none))) ⟨rfl, trivial⟩ ?_ ?_)
  ·refine csr (aA ?_)
   refine aG (vs := [_, _]) cJ rfl (dK (x := ⟨k, o, ns, 0⟩) ⟨b4.b0, b4.run, b4.o0⟩ 0 (by show k + 0 ≤ 1000000000; omega) (by omega)) rfl ?_
   rintro _ q4 ⟨rfl, Z⟩; have c0 := Z.blk0 b4.b0; have e8 := b4.run.evo0 Z; have e9 := b4.o0.evo0 Z; refine wel ?_; refine wnn (aZ rfl (fun f0 => ?_) (fun f0 => ?_))
   ·refine csr (aA ?_)
    refine aG (vs := [_, _]) cJ rfl (dK (x := ⟨k, o, ns, 0⟩) ⟨c0, e8, e9⟩ 1 (by show k + 1 ≤ 1000000000; omega) (by omega)) rfl ?_
    rintro _ q5 ⟨rfl, a0⟩; have f5 := (k4.then Z).then a0; refine aG (vs := [_]) mU rfl (SB (rn s N (k + 1)) (uJ hU).1 (uJ hU).2) rfl ?_; rintro _ q6 ⟨⟨a1, c1, ob1, l, rfl, j7, hg1, hv1, hl1, hSe⟩, a4⟩; have k5 := Apart.fresh (Lt.blk (a0.blk0 c0)) hg1; have f6 := a4.blk0 (a0.blk0 c0); have k6 := (e8.evo0 a0).evo0 a4; have k7 := (e9.evo0 a0).evo0 a4; refine wan (csr (aA (aB (bM rfl Tryz.underlying24 rfl) ?_))); refine aB (eW rfl rfl) ?_; refine wnn (aZ rfl (fun k8 => ?_) (fun k8 => ?_))
    ·refine csr (aA (aB (aH rfl) (wfl rfl bO rfl bD f6 rfl ?_))); refine aB (aI rfl rfl (by omega) (by omega)) ?_; refine aB (aH rfl) (aB (aD rfl bO) (bJ rfl rfl (rfl) bY f6 rfl fun q7 k9 c4 => ?_))
     try simp only [cH, Nat.reduceAdd] at k9
     refine wnn (csr (aA (wan (aK (aE (aE (br1 ?_)))))))
     obtain ⟨S, hS, heq, -⟩ := hSe.resolve_left (fun h9 => by have h8 := h9.2; subst h8; exact absurd k8 (by decide))
     obtain ⟨y1, y2⟩ := it_shl hU hk f0 hS; exact ⟨⟨a1, c1, ob1, l, k + 2, 0, rfl, (j7.evo c4 k5.symm.own1), (Ge.fresh f5 hg1), k5, hv1.w, hl1, by omega, ⟨k9, (k6.evo c4 hap2.symm.own1), (k7.evo c4 hap1.symm.own1)⟩, .inl ⟨rfl, by omega, y2, hv1, S, hpr.trans y1, heq⟩⟩, ((f5.then a4).step c4 (fun y hy => .inl hy))⟩
    refine aN (aY ?_); refine ⟨(), trivial, ⟨rfl, trivial⟩, (f5.then a4), ?_⟩; exact ⟨⟨f6, k6, k7⟩, fun h9 => (hSe.resolve_right (fun ⟨S, _, _, h8⟩ => by omega)).1⟩
   refine aN (aY ?_); refine ⟨(), trivial, ⟨rfl, trivial⟩, (k4.then Z), ?_⟩; exact ⟨⟨c0, e8, e9⟩, fun h9 => absurd h9 f0⟩
  rintro x q8 ⟨n8, ⟨j2, hsn⟩⟩; refine aC ?_; show CW _ _ _ _ [(0, _)] _; refine csr (aA (aG (vs := [_]) vQ rfl (MY (k := k) (o := o) (ns := ns) ⟨j2.b0, j2.run, j2.o0⟩ hU hk hN) rfl ?_)); rintro _ q9 ⟨r, rfl, hrb, n9, k1, e1, d3, d1⟩; refine wan (csr (aA (wan (aM (gR (α := RgG) (fun x => [(9, .int .i32 x.r2)]) [(8, _)] (fun x wr => Evo [b] w wr ∧ (RfAt wr b s N ⟨x.k2, o, ns, x.e2⟩ m ∧ (0 ≤ x.r2 ∧ x.r2 ≤ 1114111) ∧ x.k2 ≤ N ∧ ((x.e2 = 0 ∧ k < x.k2 ∧ x.k2 ≤ N ∧ r ≤ x.r2 ∧ iP s (aU s k) = .ok (rgS r x.r2, aU s x.k2)) ∨ (x.e2 ≠ 0 ∧ ErR s (iP s (aU s k)) x.e2)))) ⟨rfl, trivial⟩ ?_ ?_)))))
  ·refine csr (aA ?_)
   refine aG (vs := [_, _]) cJ rfl (dK (x := ⟨k1, o, ns, e1⟩) ⟨d3.b0, d3.run, d3.o0⟩ 0 (by show k1 + 0 ≤ 1000000000; omega) (by omega)) rfl ?_
   rintro _ r0 ⟨rfl, c5⟩; have l0 := (n8.step n9 (fun y hy => .inl hy)).then c5; have f7 := c5.blk0 d3.b0; have f8 := d3.run.evo0 c5; have f9 := d3.o0.evo0 c5; refine wel ?_; refine aA (bH (t := 129) rfl (fun a5 => ?_) (fun a5 => ?_))
   ·refine aW (aA (aW ?_))
    refine aG (vs := [_, _]) cJ rfl (dK (x := ⟨k1, o, ns, e1⟩) ⟨f7, f8, f9⟩ 1 (by show k1 + 1 ≤ 1000000000; omega) (by omega)) rfl ?_
    rintro _ r1 ⟨rfl, c6⟩; have g0 := l0.then c6; have a6 := c6.blk0 f7; have g4 := f8.evo0 c6; have g5 := f9.evo0 c6; refine aW (aB (fE rfl rfl) ?_); refine bW (aA (bH (t := 134) rfl (fun g6 => ?_) (fun g6 => ?_)))
    ·refine aW (aA (aW (aB (aH rfl) (aW (aB (aD rfl iY) (aW (aB (aX rfl bD (bI a6 rfl)) (aW (wel ?_))))))))); refine bW (wnn (aZ rfl (fun o1 => ?_) (fun o1 => ?_)))
     ·obtain ⟨-, hp1, hkN, hkk⟩ := d1.resolve_right (fun h9 => by omega)
      have he1 : e1 = 0 := by omega
      subst he1; refine csr (aA (aB (aH rfl) (wfl rfl bO rfl bD a6 rfl ?_))); refine aB (aI rfl rfl (by omega) (by omega)) ?_; refine aB (aH rfl) (aB (aD rfl bO) (bJ rfl rfl (rfl) bY a6 rfl fun r5 a7 g7 => ?_))
      try simp only [cH, Nat.reduceAdd] at a7
      refine wnn (aM (aM ?_)); refine eK (by kernel_rfl) (by kernel_rfl) ?_; refine bG (fun _ E => bC rfl) ?_; refine bG (fun _ E => aH rfl) ?_; refine bG (fun _ E => aD rfl bO) ?_; refine bG (fun _ E => aX rfl bD (bI (E.blk0 a7) rfl)) ?_; refine bG (fun _ E => bC rfl) ?_; refine bG (fun _ E => aH rfl) ?_; refine bG (fun _ E => aD rfl fL) ?_; refine bG (fun _ E => aX rfl gD (bI (E.blk0 a7) rfl)) ?_; refine bG (fun _ E => bM rfl Tryz.underlying67 rfl) ?_; refine bG (fun _ E => dQ rfl rfl) ?_; refine eN (fun p7 E => aC ?_); have l1 := (g0.step g7 (fun y hy => .inl hy)).then E; have l2 := (g4.evo g7 hap2.symm.own1).evo0 E; have l3 := (g5.evo g7 hap1.symm.own1).evo0 E; refine aZ rfl (fun o2 => ?_) (fun o2 => ?_)
      ·refine csr (aA ?_); refine aG (vs := [_, _]) eQ rfl (kW (k := k1 + 1) (o := o) (ns := ns) ⟨(E.blk0 a7), l2, l3⟩ 81 (by decide)) rfl ?_; rintro _ r6 ⟨rfl, o3, n6⟩; have o4 := l1.step o3 (fun y hy => .inl hy); refine wnn (csr (wan (aK (aE (aE (aE (br1 ?_))))))); have hpq := hpr.trans (VE hU hk hsn); have h45 := (dR (b := 45) hU hkN (by decide) a5).2.2; rw [hpq]; exact ⟨⟨none, 0, none, [], k1 + 1, 81, rfl, OwnS.nil _ _ _, Ge.nil _, Apart.nil _, (fun g hg => by cases hg), Nat.zero_le _, by omega, ⟨n6.b0, n6.run, n6.o0⟩, .inr ⟨by decide, rg_last hU hp1 hkN a5 (by omega)⟩⟩, o4⟩
      obtain ⟨hd1, hd2, hd3, hd4⟩ := rg_dash hU hp1 hkN a5 g6 (by omega); have hdd := And.intro hd1 (And.intro hd2 hd3); refine aN (aC (csr (aA ?_))); refine aG (vs := [_]) vQ rfl (MY (k := k1 + 1) (o := o) (ns := ns) ⟨(E.blk0 a7), l2, l3⟩ hU (by omega) hN) rfl ?_; rintro _ r7 ⟨r2, rfl, hrb2, o5, k2, e2, d4, g8⟩; have l4 := l1.step o5 (fun y hy => .inl hy); rw [hd4] at g8; refine wan (csr (aA (aA (aB (dA rfl rfl) ?_)))); refine wnn (aZ rfl (fun o6 => ?_) (fun o6 => ?_))
      ·refine aF (aA ?_); refine aG (vs := [_, _]) eQ rfl (zN (x := ⟨k2, o, ns, e2⟩) ⟨d4.b0, d4.run, d4.o0⟩ 81 (by decide)) rfl ?_; rintro _ r8 ⟨rfl, o7, n7⟩; refine aR (aY ?_); refine ⟨⟨r2, k2, if e2 = 0 then 81 else e2⟩, ⟨rfl, trivial⟩, ⟨rfl, trivial⟩, (l4.step o7 (fun y hy => .inl hy)), ?_⟩
       have hkb2 : k2 ≤ N := by rcases g8 with ⟨-, -, h8, -⟩ | ⟨-, -, h8⟩ <;> omega
       refine ⟨⟨n7.b0, n7.run, n7.o0⟩, hrb2, hkb2, ?_⟩
       rcases g8 with ⟨rfl, hp2, h8, h9⟩ | ⟨rfl, hp2, rfl⟩
       · exact .inr ⟨by simp, .inl (SV hp1 hdd hp2 (by omega))⟩
       · exact .inr ⟨by simp, .inl (DX hp1 hdd hp2)⟩
      refine aN (aY ?_); refine ⟨⟨r2, k2, e2⟩, ⟨rfl, trivial⟩, ⟨rfl, trivial⟩, l4, ?_⟩
      have hkb2 : k2 ≤ N := by rcases g8 with ⟨-, -, h8, -⟩ | ⟨-, -, h8⟩ <;> omega
      refine ⟨⟨d4.b0, d4.run, d4.o0⟩, hrb2, hkb2, ?_⟩
      rcases g8 with ⟨rfl, hp2, h8, h9⟩ | ⟨rfl, hp2, rfl⟩
      · exact .inl ⟨rfl, by show k < k2; omega, h8, by show r ≤ r2; omega, SR hp1 hdd hp2 (by omega)⟩
      · exact .inr ⟨by simp, .inl (DX hp1 hdd hp2)⟩
     refine aN (aY ?_); refine ⟨⟨r, k1, e1⟩, ⟨rfl, trivial⟩, ⟨rfl, trivial⟩, g0, ?_⟩
     have hkb1 : k1 ≤ N := by rcases d1 with ⟨-, -, h8, -⟩ | ⟨-, -, h8⟩ <;> omega
     refine ⟨⟨a6, g4, g5⟩, hrb, hkb1, ?_⟩
     rcases d1 with ⟨rfl, hp1, h8, h9⟩ | ⟨rfl, hp1, rfl⟩
     · exact .inl ⟨rfl, h9, h8, Int.le_refl _, SS hU hp1 h8 (fun h9 => by omega)⟩
     · exact .inr ⟨by simp, .inl (DY hp1)⟩
    refine aP (aP (aP (aP (aP (bR (wnn (cF rfl ?_))))))); refine aN (aY ?_); refine ⟨⟨r, k1, e1⟩, ⟨rfl, trivial⟩, ⟨rfl, trivial⟩, g0, ?_⟩
    have hkb1 : k1 ≤ N := by rcases d1 with ⟨-, -, h8, -⟩ | ⟨-, -, h8⟩ <;> omega
    refine ⟨⟨a6, g4, g5⟩, hrb, hkb1, ?_⟩
    rcases d1 with ⟨rfl, hp1, h8, h9⟩ | ⟨rfl, hp1, rfl⟩
    · exact .inl ⟨rfl, h9, h8, Int.le_refl _, SS hU hp1 h8 (fun _ => Classical.not_not.1 g6)⟩
    · exact .inr ⟨by simp, .inl (DY hp1)⟩
   refine aP (aP (aP (bR (aA (aP (aP (aP (aP (aP (bR (wnn (cF rfl ?_)))))))))))); refine aN (aY ?_); refine ⟨⟨r, k1, e1⟩, ⟨rfl, trivial⟩, ⟨rfl, trivial⟩, l0, ?_⟩
   have hkb1 : k1 ≤ N := by rcases d1 with ⟨-, -, h8, -⟩ | ⟨-, -, h8⟩ <;> omega
   refine ⟨⟨f7, f8, f9⟩, hrb, hkb1, ?_⟩
   rcases d1 with ⟨rfl, hp1, h8, h9⟩ | ⟨rfl, hp1, rfl⟩
   · exact .inl ⟨rfl, h9, h8, Int.le_refl _, SS hU hp1 h8 (fun h9 => absurd h9 a5)⟩
   · exact .inr ⟨by simp, .inl (DY hp1)⟩
  rintro ⟨r2, k2, e2⟩ r9 ⟨l5, ⟨d2, hrb2, hk2, o9⟩⟩; refine aC ?_; show CW _ _ _ _ [(9, .int .i32 r2), (8, _)] _
  try dsimp only at d2 hrb2 hk2 o9
  refine csr (aA (aA (aB (cI (vs := [(0, _), (1, _)]) eE rfl (cells := [_, _]) rfl) ?_))); refine bL (vs := [_]) rfl dE rfl rfl rfl rfl fun K s0 o8 l6 c7 => ?_; refine wan (aK (br1 ?_)); have hpq := hpr.trans (VE hU hk hsn)
  refine ⟨⟨_, _, _, [(r, r2)], k2, e2, rfl, o8, (Ge.new l5 l6), (Apart.new (Lt.blk d2.b0) l6), (fun g hg => by rw [List.mem_singleton.1 hg]; exact ⟨hrb.1, hrb.2, hrb2.1, hrb2.2⟩), by show 1 ≤ 9; decide, hk2, ⟨(c7.blk0 d2.b0), (d2.run.evo0 c7), (d2.o0.evo0 c7)⟩, ?_⟩, (l5.then c7)⟩
  exact o9.elim (fun ⟨h1, h2, h3, h4, h5⟩ => .inl ⟨h1, h2, h3, (fun g hg => by rw [List.mem_singleton.1 hg]; exact ⟨hrb.1, h4, hrb2.2⟩), _, hpq.trans h5, SU r r2⟩) (fun ⟨h1, h2⟩ => .inr ⟨h1, by rw [hpq]; exact h2⟩)
theorem vW : dW Tryz.prog 118 := ⟨_, Tryz.func118, by kernel_rfl, by kernel_rfl⟩
theorem GN : dW Tryz.prog 119 := ⟨_, Tryz.func119, by kernel_rfl, by kernel_rfl⟩
theorem OS {s : ByteArray} {f i : Nat} {fst : Bool} {S : Int → Prop} {e : Int} (hb : Bd s i) (hi : i < s.size) (hn : ¬ (fst = false ∧ sb s i = 93)) (hf : s.size ≤ f + i) (h : ErR s (jD s i) e) : gB s (f + 1) fst S i = .error e := by
  rcases h with h | ⟨rfl, S', j, h, h45, hz⟩
  · exact ER hi hn h
  · obtain ⟨hbj, hij⟩ := yN h hb hi
    have ha := hbj.asc h45.1 (by rw [h45.2]; decide)
    rw [wR hi hn h]
    have hjz := h45.1
    obtain ⟨f', rfl⟩ : ∃ f', f = f' + 1 := ⟨f - 1, by omega⟩
    have h1 : kZ s j = .ok (45, j + 1) := by
      unfold kZ
      rw [if_neg (by rw [h45.2]; decide), ha.2.1, ha.2.2, h45.2]; rfl
    have h2 : jD s j = .ok (rgS 45 45, j + 1) := by
      rw [tB (fun h9 => absurd h9.1.2 (by rw [h45.2]; decide)), AJ (fun h9 => absurd h9.2 (by rw [h45.2]; decide))]
      exact DW h1 (fun h9 => by have := h9.2.1; omega)
    rw [wR hjz (fun h9 => absurd h9.2 (by rw [h45.2]; decide)) h2]
    cases f' with
    | zero => rfl
    | succ f'' => exact yP hz
structure CrG where
  j : Nat
  e : Int
  f : Nat
  n : Nat
  fst : Bool
  S : Int → Prop
  l : List (Int × Int)
  sa : Option Addr
  sc : Nat
  so : Option Nat
structure CrI (w wr : World) (b : Nat) (s : ByteArray) (N k o : Nat) (ns : List ByteArray) (m : RfM) (fl : Fl) (b3 b4 i0 : Nat) (x : CrG) : Prop where
  hr : RfAt wr b s N ⟨x.j, o, ns, x.e⟩ m
  h3 : wr.heap[b3]? = some (.cells (flv fl).toArray 75 (0, 0))
  h4 : wr.heap[b4]? = some (.cells #[iv 0, .int .i32 0, .slice none 0 0, iv 0, iv 0, .bool false, iv 0, .string ByteArray.empty, .slice none 0 0] 27 (0, 0))
  own : OwnS wr 56 2 x.sa x.n x.sc (cS x.l) x.so
  ge : Ge w x.so
  a3 : Apart (some b3) x.so
  a4 : Apart (some b4) x.so
  vw : Vw x.l
  len : x.n + 9 * x.f ≤ 9 * (s.size + 1)
  jle : x.j ≤ N
  D : (x.e = 0 ∧ k < x.j ∧ Vr x.l ∧ (∀ c, InR c x.l ↔ x.S c) ∧ gB s (s.size + 1) true (fun _ => False) (aU s i0) = gB s x.f x.fst x.S (aU s x.j) ∧ s.size + 1 ≤ x.f + aU s x.j) ∨ (x.e ≠ 0 ∧ gB s (s.size + 1) true (fun _ => False) (aU s i0) = .error x.e)
structure CsG where
  j : Nat
  e : Int
  n : Nat
  S : Int → Prop
  l : List (Int × Int)
  sa : Option Addr
  sc : Nat
  so : Option Nat
structure CsI (w wr : World) (b : Nat) (s : ByteArray) (N k o : Nat) (ns : List ByteArray) (m : RfM) (fl : Fl) (b3 b4 i0 : Nat) (x : CsG) : Prop where
  hr : RfAt wr b s N ⟨x.j, o, ns, x.e⟩ m
  h3 : wr.heap[b3]? = some (.cells (flv fl).toArray 75 (0, 0))
  h4 : wr.heap[b4]? = some (.cells #[iv 0, .int .i32 0, .slice none 0 0, iv 0, iv 0, .bool false, iv 0, .string ByteArray.empty, .slice none 0 0] 27 (0, 0))
  own : OwnS wr 56 2 x.sa x.n x.sc (cS x.l) x.so
  ge : Ge w x.so
  a3 : Apart (some b3) x.so
  a4 : Apart (some b4) x.so
  vw : Vw x.l
  len : x.n ≤ 100000
  jle : x.j ≤ N
  D : (x.e = 0 ∧ k < x.j ∧ x.j < N ∧ Vr x.l ∧ (∀ c, InR c x.l ↔ x.S c) ∧ gB s (s.size + 1) true (fun _ => False) (aU s i0) = .ok (x.S, aU s (x.j + 1))) ∨ (x.e ≠ 0 ∧ gB s (s.size + 1) true (fun _ => False) (aU s i0) = .error x.e)
structure CtG where
  n2 : Nat
  l2 : List (Int × Int)
  sa2 : Option Addr
  sc2 : Nat
  so2 : Option Nat
theorem vr_un {l m : List (Int × Int)} {S T : Int → Prop} (h1 : ∀ c, InR c l ↔ S c) (h2 : ∀ c, InR c m ↔ T c) (c : Int) : InR c (l ++ m) ↔ unS S T c := by rw [mR, h1, h2]; exact Iff.rfl
open Classical in
noncomputable def itS (s : ByteArray) (i : Nat) : Int → Prop := match jD s i with | .ok (S, _) => S | .error _ => fun _ => False
theorem ET {s : ByteArray} {i j : Nat} {S : Int → Prop} (h : jD s i = .ok (S, j)) : itS s i = S := by unfold itS; rw [h]
theorem cl_i0 {s : ByteArray} {N k : Nat} (hU : Utf s N) (hk : k < N) (h91 : rn s N k = 91) : (rn s N (k + 1) = 94 ↔ isB s (aU s k + 1) 94) ∧ ∀ i0, (i0 = if rn s N (k + 1) = 94 then k + 2 else k + 1) → aU s i0 = (if isB s (aU s k + 1) 94 then aU s k + 1 + 1 else aU s k + 1) ∧ k < i0 ∧ i0 ≤ N := by
  obtain ⟨a1, a2, a3⟩ := dR (b := 91) hU (Nat.le_of_lt hk) (by decide) h91
  have e := dS hU (i := k + 1) (by omega) (b := 94) (by decide)
  rw [a2] at e
  refine ⟨e, fun i0 hi => ?_⟩
  by_cases h : rn s N (k + 1) = 94
  · obtain ⟨b1, b2, b3⟩ := dR (b := 94) hU (i := k + 1) (by omega) (by decide) h
    rw [if_pos h] at hi
    subst hi
    rw [if_pos (e.1 h)]
    exact ⟨by rw [show k + 2 = k + 1 + 1 by rfl, b2, a2], by omega, b3⟩
  · rw [if_neg h] at hi
    subst hi
    rw [if_neg (fun h9 => h (e.2 h9))]
    exact ⟨a2, by omega, hk⟩
theorem PY {w : World} {b : Nat} {s : ByteArray} {N k o : Nat} {ns : List ByteArray} {m : RfM} (hR : RfAt w b s N ⟨k, o, ns, 0⟩ m) {fl : Fl} (hU : Utf s N) (hk : k < N) (h91 : rn s N k = 91) (hN : N ≤ 10000) (hs : s.size ≤ 10000) :
    Calls Tryz.prog 92 #[.pointer (some ⟨b, 0, none⟩), .agg (flv fl).toArray] w (Ret fun v w' => PcO s N b m o ns k w w' v (lE s fl (aU s k + 1)) ∧ Evo [b] w w') := by
  have hbw : Lt w (some b) := Lt.blk hR.blk; have hrw : Lt w m.rb := Lt.own hR.run; have hnw : Lt w m.nb := Lt.own hR.own; have hap1 := hR.ap1; have hap2 := hR.ap2; have hap3 := hR.ap3; refine bE (N := 76) Tryz.func92 rfl rfl rfl ?_; refine csr (iM rfl rfl fun b3 w1 l8 d5 a6 => ?_); have l9 := d5; have i9 := Apart.new (Lt.blk hR.b0) d5; have k8 := (Evo.refl [b] w).then a6; refine cO rfl dC fun b4 o2 l0 a7 a8 => ?_; have m0 := a7; have L := Apart.new (Lt.blk (a6.blk0 hR.b0)) a7; have a9 := Apart.new (Lt.own (hR.run.evo0 a6)) a7; have b5 := Apart.new (Lt.own (hR.o0.evo0 a6)) a7; have j0 := a8.blk0 (a6.blk0 hR.b0); have hA3r := i9.symm; have hA3u := (Apart.new (Lt.own hR.run) d5).symm; have hA3n := (Apart.new (Lt.own hR.o0) d5).symm; have hA4r := L.symm; have hA4u := a9.symm; have hA4n := b5.symm; have hg3 := (Ge.new (Evo.refl [b] w) d5); have hg4 := (Ge.new k8 a7); refine wnn (csr (aA (aB (aH rfl) (wfl rfl bO rfl bD j0 rfl ?_)))); refine aB (aI rfl rfl (by omega) (by omega)) ?_; refine aB (aH rfl) (aB (aD rfl bO) (bJ rfl rfl (rfl) bY j0 rfl fun o3 d8 b6 => ?_)); have d9 := ((hR.run.evo0 a6).evo0 a8).evo b6 hap2.symm.own1; have e0 := ((hR.o0.evo0 a6).evo0 a8).evo b6 hap1.symm.own1
  try simp only [cH, Nat.reduceAdd] at d8
  refine wnn (csr (aA ?_))
  refine aG (vs := [_, _]) cJ rfl (dK (x := ⟨k + 1, o, ns, 0⟩) ⟨d8, d9, e0⟩ 0 (by show k + 1 + 0 ≤ 1000000000; omega) (by omega)) rfl ?_
  rintro _ o4 ⟨rfl, H⟩; have j1 := ((k8.then a8).step b6 (fun y hy => .inl hy)).then H; have e1 := H.blk0 d8; have j3 := H.blk0 (b6.blk (a8.blk0 l8) i9.symm.nmem1); have j4 := H.blk0 (b6.blk l0 L.symm.nmem1); refine wel ?_; refine wan (aM (gR (α := Nat) (fun i0 => []) [(0, _), (3, _), (4, _), (5, _)] (fun i0 wr => Evo [b] w wr ∧ (RfAt wr b s N ⟨i0, o, ns, 0⟩ m ∧ wr.heap[b3]? = some (.cells (flv fl).toArray 75 (0, 0)) ∧ wr.heap[b4]? = some (.cells #[iv 0, .int .i32 0, .slice none 0 0, iv 0, iv 0, .bool false, iv 0, .string ByteArray.empty, .slice none 0 0] 27 (0, 0)) ∧ i0 = if rn s N (k + 1) = 94 then k + 2 else k + 1)) ⟨rfl, rfl, rfl, rfl, trivial⟩ ?_ ?_))
  ·refine csr (aA (wnn (aZ rfl (fun e3 => ?_) (fun e3 => ?_))))
   ·refine aF (aA (aB (aH rfl) (wfl rfl bO rfl bD e1 rfl ?_))); refine aB (aI rfl rfl (by omega) (by omega)) ?_; refine aB (aH rfl) (aB (aD rfl bO) (bJ rfl rfl (rfl) bY e1 rfl fun o5 j5 b7 => ?_))
    try simp only [cH, Nat.reduceAdd] at j5
    refine aR (aY ?_); refine ⟨(k + 2), trivial, ⟨rfl, rfl, rfl, rfl, trivial⟩, (j1.step b7 (fun y hy => .inl hy)), ?_⟩; exact ⟨⟨j5, ((d9.evo0 H).evo b7 hap2.symm.own1), ((e0.evo0 H).evo b7 hap1.symm.own1)⟩, (b7.blk j3 i9.symm.nmem1), (b7.blk j4 L.symm.nmem1), by rw [if_pos e3]⟩
   refine aN (aY ?_); refine ⟨(k + 1), trivial, ⟨rfl, rfl, rfl, rfl, trivial⟩, j1, ?_⟩; exact ⟨⟨e1, (d9.evo0 H), (e0.evo0 H)⟩, j3, j4, by rw [if_neg e3]⟩
  rintro i0 o6 ⟨l1, ⟨e4, h3, h4, hi⟩⟩; refine aC ?_; show CW _ _ _ _ [(0, _), (3, _), (4, _), (5, _)] _; obtain ⟨hb94, hi0'⟩ := cl_i0 hU hk h91; obtain ⟨hi0, hki, hiN⟩ := hi0' i0 hi; refine csr (wan (aM (gR (α := CsG) (fun x => [(6, .slice x.sa x.n x.sc)]) [(0, _), (3, _), (4, _), (5, _)] (fun x wr => Evo [b] w wr ∧ (CsI w wr b s N k o ns m fl b3 b4 i0 x)) ⟨rfl, rfl, rfl, rfl, trivial⟩ ?_ ?_)))
  ·refine csr (wan (bK ?_))
   refine dL (α := CrG) (⟨i0, 0, s.size + 1, 0, true, fun _ => False, [], none, 0, none⟩) (fun x => [(6, .slice x.sa x.n x.sc), (7, .bool x.fst)]) [(0, _), (3, _), (4, _), (5, _)] (fun x wr => Evo [b] w wr ∧ (CrI w wr b s N k o ns m fl b3 b4 i0 x)) (fun x => x.f) ⟨rfl, rfl, trivial⟩ ⟨rfl, rfl, rfl, rfl, trivial⟩ ⟨l1, ⟨⟨e4.b0, e4.run, e4.o0⟩, h3, h4, OwnS.nil _ _ _, Ge.nil _, Apart.nil _, Apart.nil _, (fun g hg => by cases hg), (by show 0 + 9 * (s.size + 1) ≤ _; omega), hiN, .inl ⟨rfl, hki, (fun g hg => by cases hg), fun c => ⟨fun h => (kU c h).elim, False.elim⟩, rfl, by show s.size + 1 ≤ s.size + 1 + aU s i0; omega⟩⟩⟩ ?_
   rintro ⟨j, e, f, n, fst, S, l, sa, sc, so⟩ wr53 ⟨b8, ⟨E, h31, h41, hown, hge, ha3, ha4, hvw, hlen, hjl, hD⟩⟩; show CW _ _ _ _ [(6, .slice sa n sc), (7, .bool fst), (0, _), (3, _), (4, _), (5, _)] _
   try dsimp only at E h31 h41 hown hge ha3 ha4 hvw hlen hjl hD
   have hAo1 : Apart (some b) so := jJ hbw hge; have hAo2 : Apart m.rb so := jJ hrw hge; have hAo3 : Apart m.nb so := jJ hnw hge
   have hjp : j ≤ 1000000 := by omega
   refine aM (csr (aA (aB (aH rfl) (wfl rfl iY rfl bD E.b0 rfl (wel ?_))))); refine aA (bH (t := 32) rfl (fun l3 => ?_) (fun l3 => ?_))
   ·obtain ⟨he0, hkj, hvr, hSl, heq, hfi⟩ := hD.resolve_right (fun h9 => by omega); subst he0; have hoj := jF s j; obtain ⟨f', hff⟩ : ∃ f', f = f' + 1 := ⟨f - 1, by omega⟩; refine aW (aA (aW (aA (nD (t := 34) rfl (fun e5 => ?_) (fun e5 => ?_)))))
    ·subst e5; refine aP (aP (aP (aW (bW (bW (wnn (cZ rfl ?_))))))); refine aN (aC (aM (bK (aM (aM ?_))))); refine eK (by kernel_rfl) (by kernel_rfl) ?_; refine bG (fun _ D => bC rfl) ?_; refine bG (fun _ D => aH rfl) ?_; refine bG (fun _ D => aD rfl bO) ?_; refine bG (fun _ D => aX rfl bD (bI (D.blk0 E.b0) rfl)) ?_; refine bG (fun _ D => bC rfl) ?_; refine bG (fun _ D => aH rfl) ?_; refine bG (fun _ D => aD rfl fL) ?_; refine bG (fun _ D => aX rfl gD (bI (D.blk0 E.b0) rfl)) ?_; refine bG (fun _ D => bM rfl Tryz.underlying67 rfl) ?_; refine bG (fun _ D => dQ rfl rfl) ?_; refine eN (fun m5 D => aC ?_); refine aZ rfl (fun e6 => ?_) (fun e6 => ?_)
     ·refine csr (aA ?_); refine aG (vs := [_, _]) eQ rfl (kW (k := j) (o := o) (ns := ns) ⟨(D.blk0 E.b0), (E.run.evo0 D), (E.o0.evo0 D)⟩ 81 (by decide)) rfl ?_; rintro _ o7 ⟨rfl, j6, b9⟩; have l4 := j6.blk (D.blk0 h41) ((by first | exact hA4r.own1 | exact hA4r.nmem1)); refine wnn (csr (aB (cI (vs := []) cB rfl (cells := [_, _, _, _, _, _, _, _, _]) rfl) ?_)); refine aV rfl rfl aJ l4 rfl rfl ⟨rfl, rfl, rfl, rfl, rfl, rfl, rfl, rfl, rfl, trivial⟩ fun o8 j7 c8 => ?_
      try simp only [cH, Nat.reduceAdd] at j7
      refine wnn (aK (aE (aO (aE (aE (aO (aE (aE (bT rfl (ResOk.cellA rfl bF aJ j7 rfl) ?_)))))))))
      exact ⟨.inr ⟨81, j, rH (by rw [← hi0, heq, hff]; exact yP (by rw [show j = N by omega, rI hU]; exact Nat.le_refl _)), by decide, by omega, mQ, ⟨(c8.blk b9.b0 L.nmem1), (b9.run.evo c8 a9.own1), (b9.o0.evo c8 b5.own1)⟩⟩, (((b8.then D).step j6 (fun y hy => .inl hy)).step c8 hg4.mem1)⟩
     refine aN (aC (csr (aA ?_))); refine aG (vs := [_]) vW rfl (HK (k := j) (o := o) (ns := ns) ⟨(D.blk0 E.b0), (E.run.evo0 D), (E.o0.evo0 D)⟩ hU (by omega) (by omega)) rfl ?_; rintro _ o9 ⟨⟨a3, c3, ob3, li, j2, e2, rfl, c7, hg3, hab3, hvl, hl9, hj2, c0, j8⟩, c9⟩; have j9 := (b8.then D).step c9 (fun y hy => .inl hy); have k0 := c9.blk (D.blk0 h31) ((by first | exact hA3r.own1 | exact hA3r.nmem1)); have k1 := c9.blk (D.blk0 h41) ((by first | exact hA4r.own1 | exact hA4r.nmem1)); have l5 := (hown.evo0 D).evo c9 ((by first | exact hAo1.symm.own1 | exact hAo1.symm.nmem1)); refine wan (aF (aA (aA ?_))); refine cM rfl rfl rfl rfl cX l5 (Src.ofOwn c7 (nE li)) (by omega) fun a2 c2 p1 ob2 d6 a0 hob98 => ?_; refine bN (aR (aQ (aC (aF (bN (aR (aY ?_))))))); refine ⟨⟨j2, e2, f', n + li.length, false, unS S (itS s (aU s j)), l ++ li, a2, c2, ob2⟩, ?_, ⟨rfl, rfl, trivial⟩, ⟨rfl, rfl, rfl, rfl, trivial⟩, (j9.step a0 hge.mem), ?_⟩
     · (try dsimp only); omega
     try dsimp only
     have hjj : j < N := by omega
     have hbj := hU.bd (Nat.le_of_lt hjj); have hlj := gA hU hjj
     refine ⟨⟨(a0.blk c0.b0 hAo1.nmem), (c0.run.evo a0 hAo2.own), (c0.o0.evo a0 hAo3.own)⟩, (a0.blk k0 ha3.nmem), (a0.blk k1 ha4.nmem), by rw [dH]; exact d6, (hge.app j9 hob98), (ha3.app (Lt.blk k0) hob98), (ha4.app (Lt.blk k1) hob98), hvw.app hvl, (by show n + li.length + 9 * f' ≤ 9 * (s.size + 1); omega), hj2, ?_⟩
     rcases j8 with ⟨rfl, h6, h7, hv3, S3, hp3, k2⟩ | ⟨h6, h7⟩
     · have hlt := mP hU.2 (show j < j2 by omega) h7
       exact .inl ⟨rfl, by show k < j2; omega, zD hvr hv3, fun c => (by show InR c (l ++ li) ↔ unS S (itS s (aU s j)) c; rw [ET hp3]; exact vr_un hSl k2 c), by show _ = gB s f' false (unS S (itS s (aU s j))) (aU s j2); rw [ET hp3, heq, hff]; exact wR hlj (fun h9 => (by cases h9.1)) hp3, by show s.size + 1 ≤ f' + aU s j2; omega⟩
     · exact .inr ⟨h6, by rw [heq, hff]; exact OS hbj hlj (fun h9 => (by cases h9.1)) (by omega) h7⟩
    subst e5; refine aW (aA (aW ?_))
    refine aG (vs := [_, _]) cJ rfl (dK (x := ⟨j, o, ns, 0⟩) ⟨E.b0, E.run, E.o0⟩ 0 (by show j + 0 ≤ 1000000000; omega) (by omega)) rfl ?_
    rintro _ m6 ⟨rfl, F⟩; have M := F.blk0 E.b0; refine aW (aB (fE rfl rfl) ?_); refine aW (bR (bW (wnn (aZ rfl (fun d0 => ?_) (fun d0 => ?_)))))
    ·refine aN (aC (aM (bK (aM (aM ?_))))); refine eK (by kernel_rfl) (by kernel_rfl) ?_; refine bG (fun _ B => bC rfl) ?_; refine bG (fun _ B => aH rfl) ?_; refine bG (fun _ B => aD rfl bO) ?_; refine bG (fun _ B => aX rfl bD (bI (B.blk0 M) rfl)) ?_; refine bG (fun _ B => bC rfl) ?_; refine bG (fun _ B => aH rfl) ?_; refine bG (fun _ B => aD rfl fL) ?_; refine bG (fun _ B => aX rfl gD (bI (B.blk0 M) rfl)) ?_; refine bG (fun _ B => bM rfl Tryz.underlying67 rfl) ?_; refine bG (fun _ B => dQ rfl rfl) ?_; refine eN (fun m4 B => aC ?_); have f0 := (b8.then F).then B; have f5 := (E.run.evo0 F).evo0 B; have f6 := (E.o0.evo0 F).evo0 B; have f7 := B.blk0 (F.blk0 h41); refine aZ rfl (fun e6 => ?_) (fun e6 => ?_)
     ·refine csr (aA ?_); refine aG (vs := [_, _]) eQ rfl (kW (k := j) (o := o) (ns := ns) ⟨(B.blk0 M), f5, f6⟩ 81 (by decide)) rfl ?_; rintro _ m7 ⟨rfl, f8, b9⟩; have k4 := f8.blk f7 ((by first | exact hA4r.own1 | exact hA4r.nmem1)); refine wnn (csr (aB (cI (vs := []) cB rfl (cells := [_, _, _, _, _, _, _, _, _]) rfl) ?_)); refine aV rfl rfl aJ k4 rfl rfl ⟨rfl, rfl, rfl, rfl, rfl, rfl, rfl, rfl, rfl, trivial⟩ fun m8 f9 a1 => ?_
      try simp only [cH, Nat.reduceAdd] at f9
      refine wnn (aK (aE (aO (aE (aE (aO (aE (aE (bT rfl (ResOk.cellA rfl bF aJ f9 rfl) ?_)))))))))
      exact ⟨.inr ⟨81, j, rH (by rw [← hi0, heq, hff]; exact yP (by rw [show j = N by omega, rI hU]; exact Nat.le_refl _)), by decide, by omega, mQ, ⟨(a1.blk b9.b0 L.nmem1), (b9.run.evo a1 a9.own1), (b9.o0.evo a1 b5.own1)⟩⟩, ((f0.step f8 (fun y hy => .inl hy)).step a1 hg4.mem1)⟩
     refine aN (aC (csr (aA ?_))); refine aG (vs := [_]) vW rfl (HK (k := j) (o := o) (ns := ns) ⟨(B.blk0 M), f5, f6⟩ hU (by omega) (by omega)) rfl ?_; rintro _ m9 ⟨⟨a3, c3, ob3, li, j2, e2, rfl, c7, hg3, hab3, hvl, hl9, hj2, c0, j8⟩, a5⟩; have g0 := f0.step a5 (fun y hy => .inl hy); have g4 := a5.blk (B.blk0 (F.blk0 h31)) ((by first | exact hA3r.own1 | exact hA3r.nmem1)); have g5 := a5.blk f7 ((by first | exact hA4r.own1 | exact hA4r.nmem1)); have k5 := ((hown.evo0 F).evo0 B).evo a5 ((by first | exact hAo1.symm.own1 | exact hAo1.symm.nmem1)); refine wan (aF (aA (aA ?_))); refine cM rfl rfl rfl rfl cX k5 (Src.ofOwn c7 (nE li)) (by omega) fun a2 c2 n0 ob2 d6 I hob165 => ?_; refine bN (aR (aQ (aC (aF (bN (aR (aY ?_))))))); refine ⟨⟨j2, e2, f', n + li.length, false, unS S (itS s (aU s j)), l ++ li, a2, c2, ob2⟩, ?_, ⟨rfl, rfl, trivial⟩, ⟨rfl, rfl, rfl, rfl, trivial⟩, (g0.step I hge.mem), ?_⟩
     · (try dsimp only); omega
     try dsimp only
     have hjj : j < N := by omega
     have hbj := hU.bd (Nat.le_of_lt hjj); have hlj := gA hU hjj
     refine ⟨⟨(I.blk c0.b0 hAo1.nmem), (c0.run.evo I hAo2.own), (c0.o0.evo I hAo3.own)⟩, (I.blk g4 ha3.nmem), (I.blk g5 ha4.nmem), by rw [dH]; exact d6, (hge.app g0 hob165), (ha3.app (Lt.blk g4) hob165), (ha4.app (Lt.blk g5) hob165), hvw.app hvl, (by show n + li.length + 9 * f' ≤ 9 * (s.size + 1); omega), hj2, ?_⟩
     rcases j8 with ⟨rfl, h6, h7, hv3, S3, hp3, k2⟩ | ⟨h6, h7⟩
     · have hlt := mP hU.2 (show j < j2 by omega) h7
       exact .inl ⟨rfl, by show k < j2; omega, zD hvr hv3, fun c => (by show InR c (l ++ li) ↔ unS S (itS s (aU s j)) c; rw [ET hp3]; exact vr_un hSl k2 c), by show _ = gB s f' false (unS S (itS s (aU s j))) (aU s j2); rw [ET hp3, heq, hff]; exact wR hlj (fun h9 => d0 ((dS hU (i := j) (by omega) (b := 93) (by decide)).2 ⟨gA hU (show j < N by omega), h9.2⟩)) hp3, by show s.size + 1 ≤ f' + aU s j2; omega⟩
     · exact .inr ⟨h6, by rw [heq, hff]; exact OS hbj hlj (fun h9 => d0 ((dS hU (i := j) (by omega) (b := 93) (by decide)).2 ⟨gA hU (show j < N by omega), h9.2⟩)) (by omega) h7⟩
    refine cW (bS (bS (cV (aY ?_)))); refine ⟨⟨j, 0, n, S, l, sa, sc, so⟩, ⟨rfl, trivial⟩, ⟨rfl, rfl, rfl, rfl, trivial⟩, (b8.then F), ?_⟩
    refine ⟨⟨M, (E.run.evo0 F), (E.o0.evo0 F)⟩, (F.blk0 h31), (F.blk0 h41), (hown.evo0 F), hge, ha3, ha4, hvw, (by show n ≤ 100000; omega), hjl, ?_⟩
    have h93 := Classical.not_not.1 d0; obtain ⟨c1, c2, c3⟩ := dR (b := 93) hU (i := j) hjl (by decide) h93
    exact .inl ⟨rfl, hkj, c3, hvr, hSl, by rw [heq, hff, c2]; exact IE c1.1 c1.2⟩
   refine aP (aP (eS ?_)); refine eS ?_; refine eS ?_; refine aP (bR (wnn (cF rfl ?_))); refine cW (bS (bS (cV (aY ?_)))); refine ⟨⟨j, e, n, S, l, sa, sc, so⟩, ⟨rfl, trivial⟩, ⟨rfl, rfl, rfl, rfl, trivial⟩, b8, ?_⟩
   refine ⟨⟨E.b0, E.run, E.o0⟩, h31, h41, hown, hge, ha3, ha4, hvw, (by show n ≤ 100000; omega), hjl, ?_⟩
   exact .inr (hD.resolve_left (fun h9 => by omega))
  rintro ⟨j, e, n, S, l, sa, sc, so⟩ n4 ⟨k6, ⟨c5, h32, h42, hown2, hge2, ha32, ha42, hvw2, hlen2, hjl2, d7⟩⟩; refine aC ?_; show CW _ _ _ _ [(6, .slice sa n sc), (0, _), (3, _), (4, _), (5, _)] _
  try dsimp only at c5 h32 h42 hown2 hge2 ha32 ha42 hvw2 hlen2 hjl2 d7
  have hAo1 : Apart (some b) so := jJ hbw hge2; have hAo2 : Apart m.rb so := jJ hrw hge2; have hAo3 : Apart m.nb so := jJ hnw hge2; have m1 := lK hown2; subst m1; refine csr (aA (aB (aH rfl) (wfl rfl bO rfl bD c5.b0 rfl ?_))); refine aB (aI rfl rfl (by omega) (by omega)) ?_; refine aB (aH rfl) (aB (aD rfl bO) (bJ rfl rfl (rfl) bY c5.b0 rfl fun e7 g6 J => ?_)); have d1 := k6.step J (fun y hy => .inl hy); have d2 := J.blk h42 hA4r.nmem1; have g7 := hown2.evo J hAo1.symm.own1
  try simp only [cH, Nat.reduceAdd] at g6
  refine wnn (aM (gR (α := CtG) (fun x => [(6, .slice x.sa2 x.n2 x.sc2)]) [(4, _), (5, _)] (fun x wr => Evo [] e7 wr ∧ (OwnS wr 56 2 x.sa2 x.n2 x.sc2 (cS x.l2) x.so2 ∧ Ge w x.so2 ∧ Apart (some b4) x.so2 ∧ Vw x.l2 ∧ x.n2 ≤ 300000 ∧ (e = 0 → Vr x.l2 ∧ ∀ c, InR c x.l2 ↔ (if fl.fold = true then oH S else S) c))) ⟨rfl, rfl, trivial⟩ ?_ ?_))
  ·refine csr (wfl rfl rO rfl fI (J.blk h32 hA3r.nmem1) rfl (wnn (eO rfl (fun e8 => ?_) (fun e8 => ?_))))
   ·refine aF (aA ?_); refine aG (vs := [_]) GN rfl (LW g7 hvw2 (by omega)) rfl ?_; rintro _ n5 ⟨⟨a4, c4, ob4, rfl, m2, hg4'⟩, k7⟩; refine bN (aR (aY ?_)); refine ⟨⟨(tG l).length, tG l, a4, c4, ob4⟩, ⟨rfl, trivial⟩, ⟨rfl, rfl, trivial⟩, ((Evo.refl [] e7).then k7), ?_⟩; have hlx := AQ l
    refine ⟨m2, (Ge.fresh d1 hg4'), (Apart.fresh (Lt.blk d2) hg4'), fldX_vw hvw2, by show (tG l).length ≤ 300000; omega, fun he9 => ?_⟩
    obtain ⟨-, -, -, hv2, c6, -⟩ := d7.resolve_right (fun h9 => h9.1 he9)
    exact ⟨fldX_vr hv2, fun c => by rw [if_pos e8]; exact (fldX_in l c).trans (foldL_in.trans (xM c6 c))⟩
   refine aN (aY ?_); refine ⟨⟨l.length, l, sa, sc, so⟩, ⟨rfl, trivial⟩, ⟨rfl, rfl, trivial⟩, (Evo.refl [] e7), ?_⟩
   refine ⟨g7, hge2, ha42, hvw2, by show l.length ≤ 300000; omega, fun he9 => ?_⟩
   obtain ⟨-, -, -, hv2, c6, -⟩ := d7.resolve_right (fun h9 => h9.1 he9)
   exact ⟨hv2, fun c => by rw [if_neg (by rw [e8]; decide)]; exact c6 c⟩
  rintro ⟨n2, l2, sa2, sc2, so2⟩ n6 ⟨G, ⟨hown3, hge3, ha43, hvw3, hlen3, hDD⟩⟩; refine aC ?_; show CW _ _ _ _ [(6, .slice sa2 n2 sc2), (4, _), (5, _)] _
  try dsimp only at hown3 hge3 ha43 hvw3 hlen3 hDD
  have m3 := lK hown3; subst m3; refine csr (aA ?_); refine aG (vs := [_]) kO rfl (nL hown3 hvw3 (by omega)) rfl ?_; rintro _ n7 ⟨a3, c3, ob3, q, rfl, c7, hg3', hl3, hcan3, hvw4, O⟩; have d3 := (d1.then G).then O; have g8 := O.blk0 (G.blk0 g6); have g9 := ((c5.run.evo J hap2.symm.own1).evo0 G).evo0 O; have h0 := ((c5.o0.evo J hap1.symm.own1).evo0 G).evo0 O; have d4 := O.blk0 (G.blk0 d2); refine wan (aM (csr (aA (wnn (aZ rfl (fun e9 => ?_) (fun e9 => ?_))))))
  ·refine aF (aA ?_); refine aG (vs := [_]) kH rfl (mB c7 hvw4 (by omega)) rfl ?_; rintro _ n8 ⟨⟨⟨a2, c2, ob2, rfl, d6, hg2⟩, hl2⟩, U⟩; refine wan (csr (aA ?_)); refine aG (vs := [_]) nY rfl (uS d6 (by omega)) rfl ?_; rintro _ l6 ⟨⟨⟨k9, r9, mn9, mx9, cp9, ra9, ka9, rl9, rc9, kl9, kc9, lz9, nm9, rfl⟩, k3⟩, V⟩; refine aV rfl rfl aJ (V.blk0 (U.blk0 d4)) rfl rfl ⟨rfl, rfl, rfl, rfl, rfl, rfl, rfl, rfl, rfl, trivial⟩ fun n9 h5 W => ?_; have h8 := ((d3.then U).then V).step W hg4.mem1; have i1 := W.blk (V.blk0 (U.blk0 g8)) L.nmem1; have i2 := ((g9.evo0 U).evo0 V).evo W a9.own1; have i3 := ((h0.evo0 U).evo0 V).evo W b5.own1
   try simp only [cH, Nat.reduceAdd] at h5
   refine wnn (aK (bT rfl (ResOk.cellA rfl bF aJ h5 rfl) ?_))
   rcases d7 with ⟨he9, hkj, hjN, -, -, hp2⟩ | ⟨he9, hp2⟩
   · rw [hi0] at hp2
     obtain ⟨hv2, c6⟩ := hDD he9; subst he9; have hcl := wX (fl := fl) hp2; rw [if_pos (hb94.1 e9)] at hcl; obtain ⟨g1, g2, g3⟩ := hcan3 hv2; obtain ⟨n1, n2, n3⟩ := qO g1 (fun c => (g3 c).trans (c6 c)); obtain ⟨vs9, hvs9, bs, hOT, hsb, hnd⟩ := k3 _ n3.symm; exact ⟨.inl ⟨_, j + 1, hcl, by omega, by omega, ⟨vs9, bs, hvs9, hOT.evo ((Evo.refl ([b4]) l6).step W (fun y hy => .inl hy)) (fun q hq h => ((Apart.fresh (Lt.blk d4) hg2).symm).own1 _ (hsb q hq) h), ⟨hnd, fun q hq => (Ge.fresh d3 hg2) q (hsb q hq)⟩⟩, ⟨i1, i2, i3⟩⟩, h8⟩
   · rw [hi0] at hp2
     exact ⟨.inr ⟨e, j + 1, rH hp2, he9, by omega, ⟨_, _, _, _, _, _, _, _, _, _, _, _, _, rfl⟩, ⟨i1, i2, i3⟩⟩, h8⟩
  refine aN (aC (csr (aA ?_))); refine aG (vs := [_]) nY rfl (uS c7 (by omega)) rfl ?_; rintro _ l7 ⟨⟨⟨k9, r9, mn9, mx9, cp9, ra9, ka9, rl9, rc9, kl9, kc9, lz9, nm9, rfl⟩, k3⟩, Y⟩; refine aV rfl rfl aJ (Y.blk0 d4) rfl rfl ⟨rfl, rfl, rfl, rfl, rfl, rfl, rfl, rfl, rfl, trivial⟩ fun o1 i4 Z => ?_; have i5 := (d3.then Y).step Z hg4.mem1; have i6 := Z.blk (Y.blk0 g8) L.nmem1; have i7 := (g9.evo0 Y).evo Z a9.own1; have i8 := (h0.evo0 Y).evo Z b5.own1
  try simp only [cH, Nat.reduceAdd] at i4
  refine wnn (aK (bT rfl (ResOk.cellA rfl bF aJ i4 rfl) ?_))
  rcases d7 with ⟨he9, hkj, hjN, -, -, hp2⟩ | ⟨he9, hp2⟩
  · rw [hi0] at hp2
    obtain ⟨hv2, c6⟩ := hDD he9; subst he9; have hcl := wX (fl := fl) hp2; rw [if_neg (fun h9 => e9 (hb94.2 h9))] at hcl; obtain ⟨g1, g2, g3⟩ := hcan3 hv2; obtain ⟨vs9, hvs9, bs, hOT, hsb, hnd⟩ := k3 _ (g2 _ c6).symm; exact ⟨.inl ⟨_, j + 1, hcl, by omega, by omega, ⟨vs9, bs, hvs9, hOT.evo ((Evo.refl ([b4]) l7).step Z (fun y hy => .inl hy)) (fun q hq h => ((Apart.fresh (Lt.blk (G.blk0 d2)) hg3').symm).own1 _ (hsb q hq) h), ⟨hnd, fun q hq => (Ge.fresh (d1.then G) hg3') q (hsb q hq)⟩⟩, ⟨i6, i7, i8⟩⟩, i5⟩
  · rw [hi0] at hp2
    exact ⟨.inr ⟨e, j + 1, rH hp2, he9, by omega, ⟨_, _, _, _, _, _, _, _, _, _, _, _, _, rfl⟩, ⟨i6, i7, i8⟩⟩, i5⟩
theorem JO : dW Tryz.prog 91 := ⟨_, Tryz.func91, by kernel_rfl, by kernel_rfl⟩
theorem JN : dW Tryz.prog 92 := ⟨_, Tryz.func92, by kernel_rfl, by kernel_rfl⟩
theorem JM : dW Tryz.prog 93 := ⟨_, Tryz.func93, by kernel_rfl, by kernel_rfl⟩
@[reducible] def RfM.nm (m : RfM) (na : Option Addr) (nc : Nat) (nb : Option Nat) : RfM := ⟨m.ra, m.rc, m.rb, na, nc, nb⟩
def PxO (s : ByteArray) (N b : Nat) (m : RfM) (o k : Nat) (fl : Fl) (w w' : World) (v : Value) (R : PL) : Prop :=
  (∃ x k' ns' na nc nb, R = .ok ([x], ⟨aU s k', fl, o, ns'⟩) ∧ k < k' ∧ k' ≤ N ∧ ns'.length ≤ 100 ∧ TrO w w' v x ∧ RfAt w' b s N ⟨k', o, ns', 0⟩ (m.nm na nc nb) ∧ NB w m.nb nb) ∨
  (∃ e k' ns' na nc nb, R = .error e ∧ e ≠ 0 ∧ k' + o ≤ N + 251 ∧ Jk v ∧ RfAt w' b s N ⟨k', o, ns', e⟩ (m.nm na nc nb) ∧ NB w m.nb nb)
theorem OT.jk {x : Rx} {w : World} {vs : List Value} {bs : List Nat} (h : OT x w vs bs) : Jk (.agg vs.toArray) := by
  obtain ⟨ra, rc, ka, kc, rfl⟩ := h.nine
  exact ⟨_, _, _, _, _, _, _, _, _, _, _, _, _, rfl⟩
theorem PxO.jk {s : ByteArray} {N b : Nat} {m : RfM} {o k : Nat} {fl : Fl} {w w' : World} {v : Value} {R : PL} (h : PxO s N b m o k fl w w' v R) : Jk v := by
  rcases h with ⟨x, k', ns', na, nc, nb, -, -, -, -, ⟨vs, bs, rfl, h, -⟩, -⟩ | ⟨e, k', ns', na, nc, nb, -, -, -, h, -⟩
  · exact h.jk
  · exact h
def pxR (fl : Fl) (o : Nat) (ns : List ByteArray) (R : Except Int (Rx × Nat)) : PL := match R with | .error e => .error e | .ok (x, j) => .ok ([x], ⟨j, fl, o, ns⟩)
theorem PcO.px {s : ByteArray} {N b : Nat} {m : RfM} {o : Nat} {ns : List ByteArray} {k : Nat} {fl : Fl} {w w' : World} {v : Value} {R : Except Int (Rx × Nat)} (h : PcO s N b m o ns k w w' v R) {R' : PL} (hR : R' = pxR fl o ns R) (hn : ns.length ≤ 100) (ho : o ≤ 250) : PxO s N b m o k fl w w' v R' := by
  rcases h with ⟨x, k', rfl, h1, h2, h3, h4⟩ | ⟨e, k', rfl, h1, h2, h3, h4⟩
  · exact .inl ⟨x, k', ns, m.na, m.nc, m.nb, hR, h1, h2, hn, h3, h4, .inl rfl⟩
  · exact .inr ⟨e, k', ns, m.na, m.nc, m.nb, hR, h1, by omega, h3, h4, .inl rfl⟩
theorem PxO.thr {s : ByteArray} {N b b4 : Nat} {m : RfM} {o k : Nat} {fl : Fl} {w0 w1 w2 w3 : World} {v : Value} {R : PL} (h : PxO s N b m o k fl w1 w2 v R) (h01 : w0.heap.size ≤ w1.heap.size) (h23 : Evo [b4] w2 w3) (h4 : b4 < w1.heap.size) (hb : b ≠ b4) (hr : Apart (some b4) m.rb) (hn : Apart (some b4) m.nb) : PxO s N b m o k fl w0 w3 v R := by
  have hx : ∀ {x : RfS} {na nc nb}, RfAt w2 b s N x (m.nm na nc nb) → NB w1 m.nb nb → RfAt w3 b s N x (m.nm na nc nb) := fun {x na nc nb} hR hN =>
    ⟨h23.blk hR.blk (fun h => hb (List.mem_singleton.1 h)), hR.run.evo h23 (fun g hg hm => hr b4 rfl (by rw [List.mem_singleton.1 hm] at hg; exact hg)), hR.own.evo h23 (fun g hg hm => by
      have e := List.mem_singleton.1 hm
      subst e
      rcases hN with hN | ⟨g', hg', hge⟩
      · exact hn g rfl (hN ▸ hg)
      · have h9 : nb = some g := hg
        rw [h9] at hg'; cases hg'; omega)⟩
  rcases h with ⟨x, k', ns', na, nc, nb, h1, h2, h3, h5, ⟨vs, bs, rfl, hT, hF⟩, hR, hN⟩ | ⟨e, k', ns', na, nc, nb, h1, h2, h3, h5, hR, hN⟩
  · exact .inl ⟨x, k', ns', na, nc, nb, h1, h2, h3, h5, ⟨vs, bs, rfl, hT.evo h23 (fun q hq hm => by have := hF.ge q hq; rw [List.mem_singleton.1 hm] at this; omega), hF.older h01⟩, hx hR hN, NB.older (show NB w0 m.nb m.nb from .inl rfl) hN h01⟩
  · exact .inr ⟨e, k', ns', na, nc, nb, h1, h2, h3, h5, hx hR hN, NB.older (show NB w0 m.nb m.nb from .inl rfl) hN h01⟩
theorem CH {w : World} {a : Option Addr} {c : Nat} {ob : Option Nat} {l : List (Int × Int)} {S : Int → Prop} (hm : iA S = l) (hO : OwnS w 56 2 a l.length c (cS l) ob) (hl : l.length ≤ 1000000) :
    Calls Tryz.prog 94 #[.slice a l.length c] w (Ret fun v w' => (∃ vs, v = .agg vs.toArray ∧ ∃ bs, OT (jX S) w' vs bs ∧ (∀ q, q ∈ bs → ob = some q) ∧ bs.Nodup) ∧ Evo [] w w') :=
  (uS hO hl).mono fun _ _ ⟨v, h, h2, h3⟩ => ⟨v, h, h2.2 S hm, h3⟩
theorem dot_all : iA (rs [(0, 1114111)]) = lV 0 [] := by
  rw [show lV 0 [] = [(0, 1114111)] by decide]
  exact nT (sJ (by decide) (by decide) (by decide)) (fun c => Iff.rfl)
theorem dot_nl : iA (rs [(0, 9), (11, 1114111)]) = lV 0 [(10, 10)] := by
  rw [show lV 0 [(10, 10)] = [(0, 9), (11, 1114111)] by decide]
  refine nT ?_ (fun c => Iff.rfl)
  show jK 0 _
  rw [jK, jK, jK]
  refine ⟨?_, ?_, ?_, ?_, ?_, ?_, trivial⟩ <;> decide
def BrHyp (b : Nat) (s : ByteArray) (N : Nat) (m : RfM) (o k : Nat) (ns : List ByteArray) (fl : Fl) (R : PL) : Prop := ∀ w : World, RfAt w b s N ⟨k, o, ns, 0⟩ m →
  Calls Tryz.prog 91 #[.pointer (some ⟨b, 0, none⟩), .agg (flv fl).toArray] w (Ret fun v w' => PxO s N b m o k fl w w' v R ∧ Evo (b :: m.nb.toList) w w')
theorem one_w {b : Nat} {o : Option Nat} {w w' : World} (h : Evo [b] w w') : Evo (b :: o.toList) w w' := (Evo.refl (b :: o.toList) w).step h (fun y hy => .inl (by rw [List.mem_singleton.1 hy]; simp))
theorem esc_q2 {s : ByteArray} {p o : Nat} {fl : Fl} {ns : List ByteArray} (h : ¬ isB s (p + 1) 81) : gJ s ⟨p, fl, o, ns⟩ = pxR fl o ns (wV s p fl) := by
  by_cases hz : s.size ≤ p + 1
  · unfold gJ wV
    rw [if_pos hz, if_pos hz]; rfl
  · rw [esc_q (fun h9 => h ⟨by omega, h9⟩)]
    cases wV s p fl with
    | error e => rfl
    | ok q => rfl
theorem SX {w : World} {b : Nat} {s : ByteArray} {N k o : Nat} {ns : List ByteArray} {m : RfM} (hR : RfAt w b s N ⟨k, o, ns, 0⟩ m) {fl : Fl} (hU : Utf s N) (hk : k < N) (h92 : rn s N k = 92) (hq : rn s N (k + 1) ≠ 81) (hN : N ≤ 1000000) (hn : ns.length ≤ 100) (ho : o ≤ 250) :
    Calls Tryz.prog 93 #[.pointer (some ⟨b, 0, none⟩), .agg (flv fl).toArray] w (Ret fun v w' => PxO s N b m o k fl w w' v (gJ s ⟨aU s k, fl, o, ns⟩) ∧ Evo (b :: m.nb.toList) w w') :=
  (KW hR hU hk h92 hN).mono fun _ _ ⟨v, h, h2, h3⟩ => ⟨v, h, h2.px (esc_q2 (fun h9 => hq (by
    have h0 := yD hU hk h92
    exact (dS hU h0.2 (b := 81) (by decide)).2 (by rw [h0.1]; exact h9)))) hn ho, one_w h3⟩
theorem SZ {w : World} {b : Nat} {s : ByteArray} {N k o : Nat} {ns : List ByteArray} {m : RfM} (hR : RfAt w b s N ⟨k, o, ns, 0⟩ m) {fl : Fl} {ex : PS → PX Rx} (hU : Utf s N) (hk : k < N) (h91 : rn s N k = 91) (hN : N ≤ 10000) (hs : s.size ≤ 10000) (hn : ns.length ≤ 100) (ho : o ≤ 250) :
    Calls Tryz.prog 92 #[.pointer (some ⟨b, 0, none⟩), .agg (flv fl).toArray] w (Ret fun v w' => PxO s N b m o k fl w w' v (fQ s ex ⟨aU s k, fl, o, ns⟩) ∧ Evo (b :: m.nb.toList) w w') :=
  (PY hR hU hk h91 hN hs).mono fun _ _ ⟨v, h, h2, h3⟩ => ⟨v, h, h2.px (by
    have hb := (dR (b := 91) hU (Nat.le_of_lt hk) (by decide) h91).1.2
    cases hc : lE s fl (aU s k + 1) with
    | error e => exact TL hb hc
    | ok q => exact TM hb hc) hn ho, one_w h3⟩
theorem PT {w : World} {b : Nat} {s : ByteArray} {N k o : Nat} {ns : List ByteArray} {m : RfM} (hR : RfAt w b s N ⟨k, o, ns, 0⟩ m) {fl : Fl} {ex : PS → PX Rx} (hU : Utf s N) (hk : k < N) (hN : N ≤ 10000) (hs : s.size ≤ 10000) (hn : ns.length ≤ 100) (ho : o ≤ 250) (hbr : rn s N k = 40 → BrHyp b s N m o k ns fl (mZ s ex ⟨aU s k, fl, o, ns⟩)) (hq : rn s N k = 92 → rn s N (k + 1) ≠ 81) :
    Calls Tryz.prog 68 #[.pointer (some ⟨b, 0, none⟩), .agg (flv fl).toArray] w (Ret fun v w' => PxO s N b m o k fl w w' v (fQ s ex ⟨aU s k, fl, o, ns⟩) ∧ Evo (b :: m.nb.toList) w w') := by
  have hap1 := hR.ap1; have hap2 := hR.ap2; have hap3 := hR.ap3; refine bE (N := 73) Tryz.func68 rfl rfl rfl ?_; refine csr (iM rfl rfl fun b3 w1 h0 g4 c3 => ?_); have h3 := g4; have g5 := (Evo.refl (b :: m.nb.toList) w).then c3; refine cO rfl dC fun b4 j0 g6 c4 c5 => ?_; have h4 := c4; have B := Apart.new (Lt.blk (c3.blk0 hR.b0)) c4; have F := Apart.new (Lt.own (hR.run.evo0 c3)) c4; have D := Apart.new (Lt.own (hR.o0.evo0 c3)) c4; have G := Ge.new g5 c4; have e7 := c5.blk0 (c3.blk0 hR.b0); have e8 := (hR.run.evo0 c3).evo0 c5; have e9 := (hR.o0.evo0 c3).evo0 c5; refine wnn (csr (aA ?_))
  refine aG (vs := [_, _]) cJ rfl (dK (x := ⟨k, o, ns, 0⟩) ⟨e7, e8, e9⟩ 0 (by show k + 0 ≤ 1000000000; omega) (by omega)) rfl ?_
  rintro _ j1 ⟨rfl, b5⟩; have W := (g5.then c5).then b5; have c6 := b5.blk0 e7; have d2 := e8.evo0 b5; have d3 := e9.evo0 b5; have d4 := b5.blk0 (c5.blk0 h0); have Y := b5.blk0 g6; refine wan (aM (csr (aA (wnn (bK (csr (wel ?_))))))); refine wan (aZ rfl (fun V => ?_) (fun V => ?_))
  ·refine csr (aA (aB (bX rfl dU cN d4 rfl) (aG (vs := [_, _]) JO rfl (hbr V _ ⟨c6, d2, d3⟩) rfl ?_))); rintro _ h5 ⟨hP, f0⟩; have c7 := W; have hl4 := (Array.getElem?_eq_some_iff.1 Y).1; have hb4r := F.symm; have hb4n := D.symm; have hb4b := B.symm; obtain ⟨k9, r9, mn9, mx9, cp9, ra9, ka9, rl9, rc9, kl9, kc9, lz9, nm9, rfl⟩ := id hP.jk; refine aV rfl rfl aJ (f0.blk Y (sA B.symm D.symm)) rfl rfl ⟨rfl, rfl, rfl, rfl, rfl, rfl, rfl, rfl, rfl, trivial⟩ fun j2 f5 f6 => ?_; have g7 := (W.step f0 (fun y hy => .inl hy)).step f6 G.mem1
   try simp only [cH, Nat.reduceAdd] at f5
   refine wnn (aK (aO (aE (bT rfl (ResOk.cellA rfl bF aJ f5 rfl) ?_)))); rw [HR (dR (b := 40) hU (Nat.le_of_lt hk) (by decide) V).1.2]; exact ⟨hP.thr c7.size ((Evo.refl ([b4]) h5).step f6 (fun y hy => .inl hy)) hl4 (fun h9 => hb4b b4 rfl (congrArg some h9)) hb4r hb4n, g7⟩
  refine csr (wel ?_); refine wan (aZ rfl (fun J => ?_) (fun J => ?_))
  ·refine csr (aA (aB (bX rfl dU cN d4 rfl) (aG (vs := [_, _]) JN rfl (SZ (ex := ex) ⟨c6, d2, d3⟩ hU hk J hN hs hn ho) rfl ?_))); rintro _ h6 ⟨hP, f7⟩; have c7 := W; have hl4 := (Array.getElem?_eq_some_iff.1 Y).1; have hb4r := F.symm; have hb4n := D.symm; have hb4b := B.symm; obtain ⟨k9, r9, mn9, mx9, cp9, ra9, ka9, rl9, rc9, kl9, kc9, lz9, nm9, rfl⟩ := id hP.jk; refine aV rfl rfl aJ (f7.blk Y (sA B.symm D.symm)) rfl rfl ⟨rfl, rfl, rfl, rfl, rfl, rfl, rfl, rfl, rfl, trivial⟩ fun j3 f8 f9 => ?_; have g8 := (W.step f7 (fun y hy => .inl hy)).step f9 G.mem1
   try simp only [cH, Nat.reduceAdd] at f8
   refine wnn (aK (aO (aE (bT rfl (ResOk.cellA rfl bF aJ f8 rfl) ?_)))); exact ⟨hP.thr c7.size ((Evo.refl ([b4]) h6).step f9 (fun y hy => .inl hy)) hl4 (fun h9 => hb4b b4 rfl (congrArg some h9)) hb4r hb4n, g8⟩
  refine csr (wel ?_); refine wan (aZ rfl (fun E => ?_) (fun E => ?_))
  ·refine csr (aA (aB (bX rfl dU cN d4 rfl) ?_)); refine aG (vs := [_, _]) JM rfl (SX ⟨c6, d2, d3⟩ hU hk E (hq E) (by omega) hn ho) rfl ?_; rintro _ h7 ⟨hP, g0⟩; have c7 := W; have hl4 := (Array.getElem?_eq_some_iff.1 Y).1; have hb4r := F.symm; have hb4n := D.symm; have hb4b := B.symm; obtain ⟨k9, r9, mn9, mx9, cp9, ra9, ka9, rl9, rc9, kl9, kc9, lz9, nm9, rfl⟩ := id hP.jk; refine aV rfl rfl aJ (g0.blk Y (sA B.symm D.symm)) rfl rfl ⟨rfl, rfl, rfl, rfl, rfl, rfl, rfl, rfl, rfl, trivial⟩ fun j4 g1 g2 => ?_; have g9 := (W.step g0 (fun y hy => .inl hy)).step g2 G.mem1
   try simp only [cH, Nat.reduceAdd] at g1
   refine wnn (aK (aO (aE (bT rfl (ResOk.cellA rfl bF aJ g1 rfl) ?_)))); rw [NG (dR (b := 92) hU (Nat.le_of_lt hk) (by decide) E).1.2]; exact ⟨hP.thr c7.size ((Evo.refl ([b4]) h7).step g2 (fun y hy => .inl hy)) hl4 (fun h9 => hb4b b4 rfl (congrArg some h9)) hb4r hb4n, g9⟩
  refine aN (aQ (aC (csr (aA (aB (aH rfl) (wfl rfl bO rfl bD c6 rfl ?_)))))); refine aB (aI rfl rfl (by omega) (by omega)) ?_; refine aB (aH rfl) (aB (aD rfl bO) (bJ rfl rfl (rfl) bY c6 rfl fun j5 O c8 => ?_))
  have H := W.step c8 (fun y hy => .inl (by rw [List.mem_singleton.1 hy]; simp))
  have Z := d2.evo c8 hap2.symm.own1; have a0 := d3.evo c8 hap1.symm.own1; have d5 := c8.blk d4 (Apart.new (Lt.blk hR.b0) g4).symm.nmem1; have I := c8.blk Y B.symm.nmem1
  try simp only [cH, Nat.reduceAdd] at O
  refine wnn (aM (bK (csr (aA (wel ?_))))); refine aA (bH (t := 34) rfl (fun d6 => ?_) (fun d6 => ?_))
  ·refine aW (aB (aD rfl wC) (aW (aB (aX rfl fI (bI d5 rfl)) (bW (wan (eO rfl (fun d7 => ?_) (fun d7 => ?_)))))))
   ·refine csr ?_; refine aG (vs := [_]) kH rfl (mB (m := []) (OwnS.nil _ _ _) (fun g hg => by cases hg) (by decide)) rfl ?_; rintro _ j6 ⟨⟨⟨a2, c2, ob2, rfl, g3, hg2⟩, hl2⟩, c9⟩; have hgo := (Ge.fresh H hg2); refine aG (vs := [_]) nY rfl (CH (S := rs [(0, 1114111)]) dot_all g3 (by decide)) rfl ?_; rintro _ j7 ⟨⟨vs, rfl, bs, hT, hsb, hnd⟩, d0⟩; have hFr : Fr w bs := ⟨hnd, fun q h => hgo q (hsb q h)⟩; have hnb : b4 ∉ bs := fun h9 => ((Apart.fresh (Lt.blk I) hg2).symm).own1 _ (hsb _ h9) (List.mem_singleton.2 rfl); obtain ⟨ra9, rc9, ka9, kc9, rfl⟩ := id hT.nine; refine aV rfl rfl aJ (d0.blk0 (c9.blk0 I)) rfl rfl ⟨rfl, rfl, rfl, rfl, rfl, rfl, rfl, rfl, rfl, trivial⟩ fun j8 e0 a4 => ?_
    try simp only [cH, Nat.reduceAdd] at e0
    refine wnn (aK (aO (aE (bT rfl (ResOk.cellA rfl bF aJ e0 rfl) ?_)))); have hpl := (uL (ex := ex) (st := ⟨aU s k, fl, o, ns⟩) (fun h9 => V ((dS hU (Nat.le_of_lt hk) (b := 40) (by decide)).2 ⟨gA hU hk, h9⟩)) (fun h9 => J ((dS hU (Nat.le_of_lt hk) (b := 91) (by decide)).2 ⟨gA hU hk, h9⟩)) (fun h9 => E ((dS hU (Nat.le_of_lt hk) (b := 92) (by decide)).2 ⟨gA hU hk, h9⟩))); rw [hpl]; have hr9 : (cL s (aU s k)).1 = rn s N k := (nP hk).symm; refine ⟨.inl ⟨jX (rs [(0, 1114111)]), k + 1, ns, m.na, m.nc, m.nb, ?_, by omega, hk, hn, ⟨_, bs, rfl, (hT.evo a4 (fun q hq h => hnb (List.mem_singleton.1 h ▸ hq))), hFr⟩, ⟨(a4.blk (d0.blk0 (c9.blk0 O)) B.nmem1), (((Z.evo0 c9).evo0 d0).evo a4 F.own1), (((a0.evo0 c9).evo0 d0).evo a4 D.own1)⟩, .inl rfl⟩, (((H.then c9).then d0).step a4 G.mem1)⟩; unfold jR; simp only; rw [if_pos (hr9.trans d6), if_pos d7]
    rfl
   refine csr (aA (wel ?_)); refine wan (aZ rfl (fun a3 => ?_) (fun a3 => ?_))
   ·refine csr ?_; refine aG (vs := [_]) eY rfl (jE (s := ByteArray.mk #[10, 10]) (l := [(10, 10)]) (by decide) (by decide +kernel)) rfl ?_; rintro _ i0 ⟨⟨a1, c1, ob1, rfl, h8, hg1⟩, L⟩
    refine aG (vs := [_]) kH rfl (mB (m := [(10, 10)]) h8 (fun g hg => by rw [List.mem_singleton.1 hg]; decide) (by decide)) rfl ?_
    rintro _ i1 ⟨⟨⟨a2, c2, ob2, rfl, g3, hg2⟩, hl2⟩, a5⟩; have hgo := (Ge.fresh (H.then L) hg2); refine aG (vs := [_]) nY rfl (CH (S := rs [(0, 9), (11, 1114111)]) dot_nl g3 (by decide)) rfl ?_; rintro _ i2 ⟨⟨vs, rfl, bs, hT, hsb, hnd⟩, a6⟩; have hFr : Fr w bs := ⟨hnd, fun q h => hgo q (hsb q h)⟩; have hnb : b4 ∉ bs := fun h9 => ((Apart.fresh (Lt.blk (L.blk0 I)) hg2).symm).own1 _ (hsb _ h9) (List.mem_singleton.2 rfl); obtain ⟨ra9, rc9, ka9, kc9, rfl⟩ := id hT.nine; refine aV rfl rfl aJ (a6.blk0 (a5.blk0 (L.blk0 I))) rfl rfl ⟨rfl, rfl, rfl, rfl, rfl, rfl, rfl, rfl, rfl, trivial⟩ fun i3 e1 a7 => ?_
    try simp only [cH, Nat.reduceAdd] at e1
    refine wnn (aK (aO (aE (bT rfl (ResOk.cellA rfl bF aJ e1 rfl) ?_)))); have hpl := (uL (ex := ex) (st := ⟨aU s k, fl, o, ns⟩) (fun h9 => V ((dS hU (Nat.le_of_lt hk) (b := 40) (by decide)).2 ⟨gA hU hk, h9⟩)) (fun h9 => J ((dS hU (Nat.le_of_lt hk) (b := 91) (by decide)).2 ⟨gA hU hk, h9⟩)) (fun h9 => E ((dS hU (Nat.le_of_lt hk) (b := 92) (by decide)).2 ⟨gA hU hk, h9⟩))); rw [hpl]; have hr9 : (cL s (aU s k)).1 = rn s N k := (nP hk).symm; refine ⟨.inl ⟨jX (rs [(0, 9), (11, 1114111)]), k + 1, ns, m.na, m.nc, m.nb, ?_, by omega, hk, hn, ⟨_, bs, rfl, (hT.evo a7 (fun q hq h => hnb (List.mem_singleton.1 h ▸ hq))), hFr⟩, ⟨(a7.blk (a6.blk0 (a5.blk0 (L.blk0 O))) B.nmem1), ((((Z.evo0 L).evo0 a5).evo0 a6).evo a7 F.own1), ((((a0.evo0 L).evo0 a5).evo0 a6).evo a7 D.own1)⟩, .inl rfl⟩, ((((H.then L).then a5).then a6).step a7 G.mem1)⟩; unfold jR; simp only
    rw [if_pos (hr9.trans a3), if_neg (by rw [d7]; decide)]
    rfl
   exact absurd d6 a3
  refine aP (aP (bR (wan (cF rfl ?_)))); refine csr (aA (wel ?_)); refine wan (aZ rfl (fun a3 => ?_) (fun a3 => ?_))
  ·exact absurd a3 d6
  refine csr (aA (wel ?_)); refine aA (bH (t := 49) rfl (fun d1 => ?_) (fun d1 => ?_))
  ·refine aW (aB (aD rfl rN) (aW (aB (aX rfl fI (bI d5 rfl)) (bW (wan (eO rfl (fun d8 => ?_) (fun d8 => ?_)))))))
   ·refine csr (aB (cI (vs := [(0, _)]) cB rfl (cells := [_, _, _, _, _, _, _, _, _]) rfl) ?_); refine aV rfl rfl aJ I rfl rfl ⟨rfl, rfl, rfl, rfl, rfl, rfl, rfl, rfl, rfl, trivial⟩ fun i4 e2 b7 => ?_
    try simp only [cH, Nat.reduceAdd] at e2
    refine wnn (aK (aO (aE (bT rfl (ResOk.cellA rfl bF aJ e2 rfl) ?_)))); have hpl := (uL (ex := ex) (st := ⟨aU s k, fl, o, ns⟩) (fun h9 => V ((dS hU (Nat.le_of_lt hk) (b := 40) (by decide)).2 ⟨gA hU hk, h9⟩)) (fun h9 => J ((dS hU (Nat.le_of_lt hk) (b := 91) (by decide)).2 ⟨gA hU hk, h9⟩)) (fun h9 => E ((dS hU (Nat.le_of_lt hk) (b := 92) (by decide)).2 ⟨gA hU hk, h9⟩))); rw [hpl]; have hr9 : (cL s (aU s k)).1 = rn s N k := (nP hk).symm; refine ⟨.inl ⟨rxK 10, k + 1, ns, m.na, m.nc, m.nb, ?_, by omega, hk, hn, ⟨_, [], rfl, EM _ _, Fr.nil _⟩, ⟨(b7.blk O B.nmem1), (Z.evo b7 F.own1), (a0.evo b7 D.own1)⟩, .inl rfl⟩, (H.step b7 G.mem1)⟩; unfold jR; simp only
    rw [if_neg (by rw [hr9, show rn s N k = 94 from d1]; decide), if_pos (hr9.trans d1), if_pos d8]
    rfl
   refine csr (aA (wel ?_)); refine wan (aZ rfl (fun U => ?_) (fun U => ?_))
   ·refine csr (aB (cI (vs := [(0, _)]) cB rfl (cells := [_, _, _, _, _, _, _, _, _]) rfl) ?_); refine aV rfl rfl aJ I rfl rfl ⟨rfl, rfl, rfl, rfl, rfl, rfl, rfl, rfl, rfl, trivial⟩ fun i5 e3 b8 => ?_
    try simp only [cH, Nat.reduceAdd] at e3
    refine wnn (aK (aO (aE (bT rfl (ResOk.cellA rfl bF aJ e3 rfl) ?_)))); have hpl := (uL (ex := ex) (st := ⟨aU s k, fl, o, ns⟩) (fun h9 => V ((dS hU (Nat.le_of_lt hk) (b := 40) (by decide)).2 ⟨gA hU hk, h9⟩)) (fun h9 => J ((dS hU (Nat.le_of_lt hk) (b := 91) (by decide)).2 ⟨gA hU hk, h9⟩)) (fun h9 => E ((dS hU (Nat.le_of_lt hk) (b := 92) (by decide)).2 ⟨gA hU hk, h9⟩))); rw [hpl]; have hr9 : (cL s (aU s k)).1 = rn s N k := (nP hk).symm; refine ⟨.inl ⟨rxK 8, k + 1, ns, m.na, m.nc, m.nb, ?_, by omega, hk, hn, ⟨_, [], rfl, EM _ _, Fr.nil _⟩, ⟨(b8.blk O B.nmem1), (Z.evo b8 F.own1), (a0.evo b8 D.own1)⟩, .inl rfl⟩, (H.step b8 G.mem1)⟩; unfold jR; simp only
    rw [if_neg (by rw [hr9, show rn s N k = 94 from U]; decide), if_pos (hr9.trans U), if_neg (by rw [d8]; decide)]
    rfl
   exact absurd d1 U
  refine aP (aP (bR (wan (cF rfl ?_)))); refine csr (aA (wel ?_)); refine wan (aZ rfl (fun U => ?_) (fun U => ?_))
  ·exact absurd U d1
  refine csr (aA (wel ?_)); refine aA (bH (t := 61) rfl (fun b6 => ?_) (fun b6 => ?_))
  ·refine aW (aB (aD rfl rN) (aW (aB (aX rfl fI (bI d5 rfl)) (bW (wan (eO rfl (fun d9 => ?_) (fun d9 => ?_)))))))
   ·refine csr (aB (cI (vs := [(0, _)]) cB rfl (cells := [_, _, _, _, _, _, _, _, _]) rfl) ?_); refine aV rfl rfl aJ I rfl rfl ⟨rfl, rfl, rfl, rfl, rfl, rfl, rfl, rfl, rfl, trivial⟩ fun i6 e4 b9 => ?_
    try simp only [cH, Nat.reduceAdd] at e4
    refine wnn (aK (aO (aE (bT rfl (ResOk.cellA rfl bF aJ e4 rfl) ?_)))); have hpl := (uL (ex := ex) (st := ⟨aU s k, fl, o, ns⟩) (fun h9 => V ((dS hU (Nat.le_of_lt hk) (b := 40) (by decide)).2 ⟨gA hU hk, h9⟩)) (fun h9 => J ((dS hU (Nat.le_of_lt hk) (b := 91) (by decide)).2 ⟨gA hU hk, h9⟩)) (fun h9 => E ((dS hU (Nat.le_of_lt hk) (b := 92) (by decide)).2 ⟨gA hU hk, h9⟩))); rw [hpl]; have hr9 : (cL s (aU s k)).1 = rn s N k := (nP hk).symm; refine ⟨.inl ⟨rxK 11, k + 1, ns, m.na, m.nc, m.nb, ?_, by omega, hk, hn, ⟨_, [], rfl, EM _ _, Fr.nil _⟩, ⟨(b9.blk O B.nmem1), (Z.evo b9 F.own1), (a0.evo b9 D.own1)⟩, .inl rfl⟩, (H.step b9 G.mem1)⟩; unfold jR; simp only
    rw [if_neg (by rw [hr9, show rn s N k = 36 from b6]; decide), if_neg (by rw [hr9, show rn s N k = 36 from b6]; decide), if_pos (hr9.trans b6), if_pos d9]
    rfl
   refine csr (aA (wel ?_)); refine wan (aZ rfl (fun M => ?_) (fun M => ?_))
   ·refine csr (aB (cI (vs := [(0, _)]) cB rfl (cells := [_, _, _, _, _, _, _, _, _]) rfl) ?_); refine aV rfl rfl aJ I rfl rfl ⟨rfl, rfl, rfl, rfl, rfl, rfl, rfl, rfl, rfl, trivial⟩ fun i7 e5 c0 => ?_
    try simp only [cH, Nat.reduceAdd] at e5
    refine wnn (aK (aO (aE (bT rfl (ResOk.cellA rfl bF aJ e5 rfl) ?_)))); have hpl := (uL (ex := ex) (st := ⟨aU s k, fl, o, ns⟩) (fun h9 => V ((dS hU (Nat.le_of_lt hk) (b := 40) (by decide)).2 ⟨gA hU hk, h9⟩)) (fun h9 => J ((dS hU (Nat.le_of_lt hk) (b := 91) (by decide)).2 ⟨gA hU hk, h9⟩)) (fun h9 => E ((dS hU (Nat.le_of_lt hk) (b := 92) (by decide)).2 ⟨gA hU hk, h9⟩))); rw [hpl]; have hr9 : (cL s (aU s k)).1 = rn s N k := (nP hk).symm; refine ⟨.inl ⟨rxK 9, k + 1, ns, m.na, m.nc, m.nb, ?_, by omega, hk, hn, ⟨_, [], rfl, EM _ _, Fr.nil _⟩, ⟨(c0.blk O B.nmem1), (Z.evo c0 F.own1), (a0.evo c0 D.own1)⟩, .inl rfl⟩, (H.step c0 G.mem1)⟩; unfold jR; simp only
    rw [if_neg (by rw [hr9, show rn s N k = 36 from M]; decide), if_neg (by rw [hr9, show rn s N k = 36 from M]; decide), if_pos (hr9.trans M), if_neg (by rw [d9]; decide)]
    rfl
   exact absurd b6 M
  refine aP (aP (bR (wan (cF rfl ?_)))); refine csr (aA (wel ?_)); refine wan (aZ rfl (fun M => ?_) (fun M => ?_))
  ·exact absurd M b6
  refine aN (aQ (aC (csr (aA (aB (bX rfl dU cN d5 rfl) (aG (vs := [_, _]) sQ rfl (tR (rn s N k) fl (HJ hU hk).1 (HJ hU hk).2) rfl ?_)))))); rintro _ i8 ⟨⟨vs, bs, rfl, hT, hFr0⟩, a8⟩; have c7 := H; have hl9 := (Array.getElem?_eq_some_iff.1 I).1; have hFr := hFr0.older c7.size; have hnb : b4 ∉ bs := fun h9 => absurd (hFr0.ge _ h9) (by omega); obtain ⟨ra9, rc9, ka9, kc9, rfl⟩ := id hT.nine; refine aV rfl rfl aJ (a8.blk0 I) rfl rfl ⟨rfl, rfl, rfl, rfl, rfl, rfl, rfl, rfl, rfl, trivial⟩ fun i9 e6 a9 => ?_
  try simp only [cH, Nat.reduceAdd] at e6
  refine wnn (aK (bT rfl (ResOk.cellA rfl bF aJ e6 rfl) ?_)); have hpl := (uL (ex := ex) (st := ⟨aU s k, fl, o, ns⟩) (fun h9 => V ((dS hU (Nat.le_of_lt hk) (b := 40) (by decide)).2 ⟨gA hU hk, h9⟩)) (fun h9 => J ((dS hU (Nat.le_of_lt hk) (b := 91) (by decide)).2 ⟨gA hU hk, h9⟩)) (fun h9 => E ((dS hU (Nat.le_of_lt hk) (b := 92) (by decide)).2 ⟨gA hU hk, h9⟩))); rw [hpl]; have hr9 : (cL s (aU s k)).1 = rn s N k := (nP hk).symm; refine ⟨.inl ⟨lP fl (rn s N k), k + 1, ns, m.na, m.nc, m.nb, ?_, by omega, hk, hn, ⟨_, bs, rfl, (hT.evo a9 (fun q hq h => hnb (List.mem_singleton.1 h ▸ hq))), hFr⟩, ⟨(a9.blk (a8.blk0 O) B.nmem1), ((Z.evo0 a8).evo a9 F.own1), ((a0.evo0 a8).evo a9 D.own1)⟩, .inl rfl⟩, ((H.then a8).step a9 G.mem1)⟩; unfold jR; simp only
  rw [if_neg (by rw [hr9]; exact a3), if_neg (by rw [hr9]; exact U), if_neg (by rw [hr9]; exact M), hr9]
  rfl
theorem XF {l vs : List Value} (h : Value.agg l.toArray = .agg vs.toArray) : l = vs := by injection h with h; exact congrArg Array.toList h
theorem zL {w : World} {a : Option Addr} {n c : Nat} {cs : List Value} {ob : Option Nat} (hO : OwnS w 27 9 a n c cs ob) (hj : n = 1 → Jk (.agg cs.toArray)) :
    Calls Tryz.prog 66 #[.slice a n c] w (Ret fun v w' => (Jk v ∧ ∀ l bs, OTs l w cs bs → l.length ≤ 1000000 → ∃ vs bs', v = .agg vs.toArray ∧ OT (oA 4 l) w' vs bs' ∧ bs'.Sublist (ob.toList ++ bs)) ∧ Evo [] w w') := by
  have h1 := hO.length; refine bE (N := 15) Tryz.func66 rfl rfl rfl ?_; refine csr (cO rfl dC fun b2 w1 D E O => ?_); have W := E; have F := Ge.new (Evo.refl [] w) E; have B := (Evo.refl [] w).then O; refine wnn (aM (csr (aA (aB (bM rfl Tryz.underlying25 rfl) ?_)))); refine wel ?_; refine wnn (aZ rfl (fun Y => ?_) (fun Y => ?_))
  ·refine csr (aB (cI (vs := [(0, _)]) cB rfl (cells := [_, _, _, _, _, _, _, _, _]) rfl) ?_); refine aV rfl rfl aJ D rfl rfl ⟨rfl, rfl, rfl, rfl, rfl, rfl, rfl, rfl, rfl, trivial⟩ fun w9 G U => ?_
   try simp only [cH, Nat.reduceAdd] at G
   refine wnn (aK (aE (bT rfl (ResOk.cellA rfl bF aJ G rfl) ?_))); refine ⟨⟨⟨_, _, _, _, _, _, _, _, _, _, _, _, _, rfl⟩, fun l bs hT hl => ?_⟩, (B.step U F.mem1)⟩; have h2 := hT.len; obtain rfl := List.length_eq_zero_iff.1 (show l.length = 0 by omega); exact ⟨_, [], rfl, EM 1 _, List.nil_sublist _⟩
  refine aN (aC (aM (csr (aA (aB (bM rfl Tryz.underlying25 rfl) ?_))))); refine wel ?_; refine wnn (aZ rfl (fun Z => ?_) (fun Z => ?_))
  ·obtain ⟨k9, r9, mn9, mx9, cp9, ra9, ka9, rl9, rc9, kl9, kc9, lz9, nm9, hv9⟩ := hj (by omega); have hvs := XF (l := [_, _, _, _, _, _, _, _, _]) hv9.symm; subst hvs; obtain ⟨g1, hg1', ha1, a0⟩ := hO.cells (by omega); refine csr (aA ?_); refine aB (eC (n := 0) rfl rfl ha1 dO (by omega)) ?_; refine aB (eB rfl bF aJ (vs := [_, _, _, _, _, _, _, _, _]) rfl (a0.evo B (by simp))) ?_; refine aV rfl rfl aJ D rfl rfl ⟨rfl, rfl, rfl, rfl, rfl, rfl, rfl, rfl, rfl, trivial⟩ fun a1 H V => ?_; have I := B.step V F.mem1
   try simp only [cH, Nat.reduceAdd] at H
   refine wnn (aK (aE (bT rfl (ResOk.cellA rfl bF aJ H rfl) ?_))); refine ⟨⟨⟨_, _, _, _, _, _, _, _, _, _, _, _, _, rfl⟩, fun l bs hT hl => ?_⟩, I⟩; have h2 := hT.len; obtain ⟨x, rfl⟩ := List.length_eq_one_iff.1 (show l.length = 1 by omega); exact ⟨_, bs, rfl, hT.one'.evo I (fun b hb h => by cases h), List.sublist_append_right _ _⟩
  refine aN (aC (csr (aA (aB (cI (vs := [(0, _), (8, _)]) cB rfl (cells := [_, _, _, _, _, _, _, _, _]) rfl) ?_)))); refine aV rfl rfl aJ D rfl rfl ⟨rfl, rfl, rfl, rfl, rfl, rfl, rfl, rfl, rfl, trivial⟩ fun a2 J L => ?_; have M := B.step L F.mem1
  try simp only [cH, Nat.reduceAdd] at J
  refine wnn (aK (bT rfl (ResOk.cellA rfl bF aJ J rfl) ?_)); refine ⟨⟨⟨_, _, _, _, _, _, _, _, _, _, _, _, _, rfl⟩, fun l bs hT hl => ?_⟩, M⟩; have h2 := hT.len; rw [wH (by omega)]; exact ⟨_, _, rfl, LK 4 ((hO.evo0 O).evo L (Apart.new (Lt.own hO) E).own1) (hT.evo M (fun b hb h => by cases h)) hl, List.Sublist.refl _⟩
theorem LJ {w : World} {a : Option Addr} {n c : Nat} {cs : List Value} {ob : Option Nat} {l : List Rx} {bs : List Nat} (hO : OwnS w 27 9 a n c cs ob) (hT : OTs l w cs bs) : n = 1 → Jk (.agg cs.toArray) := fun hn => by
  have h1 := hO.length
  have h2 := hT.len
  obtain ⟨x, rfl⟩ := List.length_eq_one_iff.1 (show l.length = 1 by omega)
  exact hT.one'.jk
theorem rrow_ok {w : World} {l : List Rx} {a : Option Addr} {n c : Nat} {cs : List Value} {ob : Option Nat} {bs : List Nat} (hO : OwnS w 27 9 a n c cs ob) (hT : OTs l w cs bs) (hl : l.length ≤ 1000000) :
    Calls Tryz.prog 66 #[.slice a n c] w (Ret fun v w' => (∃ vs bs', v = .agg vs.toArray ∧ OT (oA 4 l) w' vs bs' ∧ bs'.Sublist (ob.toList ++ bs)) ∧ Evo [] w w') :=
  (zL hO (LJ hO hT)).mono fun _ _ ⟨v, h, h2, h3⟩ => ⟨v, h, h2.2 l bs hT hl, h3⟩
structure OpY (s : ByteArray) (N k : Nat) (fl : Fl) (sz : Nat) (nm : ByteArray) (cp : Bool) (g : Fl) : Prop where
  op : eT s (aU s k) fl = ⟨sz, nm, g, cp, false, 0⟩
  pos : 0 < sz
  le : k + sz ≤ N
  of : aU s (k + sz) = aU s k + sz
  nl : nm.size ≤ s.size
theorem TT (s : ByteArray) (i h : Nat) (f : Fl) : (mE s i h f).name.size ≤ s.size := by
  unfold mE
  split
  · exact Nat.zero_le _
  · show (s.extract _ _).size ≤ _
    rw [ByteArray.size_extract]; omega
section
variable {s : ByteArray} {N k : Nat} {fl : Fl} (hU : Utf s N) (hk : k < N) (h40 : rn s N k = 40)
include hU hk h40
theorem UA : isB s (aU s k) 40 ∧ aU s (k + 1) = aU s k + 1 ∧ k + 1 ≤ N := by
  obtain ⟨a1, a2, a3⟩ := dR (b := 40) hU (Nat.le_of_lt hk) (by decide) h40
  exact ⟨a1, a2, hk⟩
theorem op_grp (h : rn s N (k + 1) ≠ 63) : OpY s N k fl 1 emp true fl := by
  obtain ⟨a1, a2, a3⟩ := UA hU hk h40
  exact ⟨uQ (fun h9 => h ((dS hU (i := k + 1) a3 (b := 63) (by decide)).2 (by rw [a2]; exact h9.2))), Nat.one_pos, a3, a2, Nat.zero_le _⟩
section
variable (h63 : rn s N (k + 1) = 63)
include h63
theorem LL : (isB s (aU s k) 40 ∧ isB s (aU s k + 1) 63) ∧ aU s (k + 2) = aU s k + 2 ∧ k + 2 ≤ N := by
  obtain ⟨a1, a2, a3⟩ := UA hU hk h40
  obtain ⟨b1, b2, b3⟩ := dR (b := 63) hU (i := k + 1) a3 (by decide) h63
  exact ⟨⟨a1, by rw [← a2]; exact b1⟩, by rw [show k + 2 = k + 1 + 1 by rfl, b2, a2], b3⟩
theorem LM {b : Nat} (hb : b < 128) : rn s N (k + 2) = (b : Int) ↔ isB s (aU s k + 2) b := by
  obtain ⟨-, q2, q3⟩ := LL hU hk h40 h63
  rw [← q2]; exact dS hU q3 hb
theorem op_3 (h : rn s N (k + 2) = 80) : (rn s N (k + 3) = 60 ↔ isB s (aU s k + 3) 60) ∧ aU s (k + 3) = aU s k + 3 ∧ k + 3 ≤ N := by
  obtain ⟨-, q2, q3⟩ := LL hU hk h40 h63
  obtain ⟨b1, b2, b3⟩ := dR (b := 80) hU q3 (by decide) h
  have e : aU s (k + 3) = aU s k + 3 := by rw [show k + 3 = k + 2 + 1 by rfl, b2, q2]
  exact ⟨by rw [← e]; exact dS hU (i := k + 3) b3 (by decide), e, b3⟩
theorem op_P : (isB s (aU s k + 2) 80 ∧ isB s (aU s k + 3) 60) ↔ (rn s N (k + 2) = 80 ∧ rn s N (k + 3) = 60) := by
  constructor
  · rintro ⟨h1, h2⟩
    have h := (LM hU hk h40 h63 (b := 80) (by decide)).2 h1
    exact ⟨h, (op_3 hU hk h40 h63 h).1.2 h2⟩
  · rintro ⟨h1, h2⟩
    exact ⟨(LM hU hk h40 h63 (b := 80) (by decide)).1 h1, (op_3 hU hk h40 h63 h1).1.1 h2⟩
theorem NJ {n : Nat} (hn : (n = 3 ∧ rn s N (k + 2) = 60) ∨ (n = 4 ∧ rn s N (k + 2) = 80 ∧ rn s N (k + 3) = 60)) : eT s (aU s k) fl = mE s (aU s k) n fl ∧ aU s (k + n) = aU s k + n ∧ k + n ≤ N := by
  obtain ⟨q1, q2, q3⟩ := LL hU hk h40 h63
  unfold eT
  rw [if_neg (fun h => h q1)]
  rcases hn with ⟨rfl, h⟩ | ⟨rfl, h⟩
  · obtain ⟨b1, b2, b3⟩ := dR (b := 60) hU q3 (by decide) h
    rw [if_neg (fun h9 => by have := ((op_P hU hk h40 h63).1 h9).1; omega), if_pos ((LM hU hk h40 h63 (b := 60) (by decide)).1 h)]
    exact ⟨rfl, by rw [show k + 3 = k + 2 + 1 by rfl, b2, q2], b3⟩
  · obtain ⟨c1, c2, c3⟩ := op_3 hU hk h40 h63 h.1
    obtain ⟨b1, b2, b3⟩ := dR (b := 60) hU c3 (by decide) h.2
    rw [if_pos ((op_P hU hk h40 h63).2 h)]
    exact ⟨rfl, by rw [show k + 4 = k + 3 + 1 by rfl, b2, c2], b3⟩
theorem op_name {n l : Nat} {nm : ByteArray} (hn : (n = 3 ∧ rn s N (k + 2) = 60) ∨ (n = 4 ∧ rn s N (k + 2) = 80 ∧ rn s N (k + 3) = 60)) (hX : NaIs s N k n fl l nm) : (l = 0 → (eT s (aU s k) fl).err = 85) ∧ (l ≠ 0 → OpY s N k fl l nm true fl) := by
  rw [(NJ hU hk h40 h63 hn).1]
  refine ⟨hX.no, fun h => ?_⟩
  obtain ⟨h1, h2, h3⟩ := hX.yes h
  exact ⟨(NJ hU hk h40 h63 hn).1.trans h1, by omega, h2, h3, by have h9 := TT s (aU s k) n fl; rw [h1] at h9; exact h9⟩
section
variable (hno : ¬ (rn s N (k + 2) = 60) ∧ ¬ (rn s N (k + 2) = 80 ∧ rn s N (k + 3) = 60))
include hno
theorem op_col (h : rn s N (k + 2) = 58) : OpY s N k fl 3 emp false fl := by
  obtain ⟨q1, q2, q3⟩ := LL hU hk h40 h63
  obtain ⟨b1, b2, b3⟩ := dR (b := 58) hU q3 (by decide) h
  refine ⟨?_, by decide, b3, by rw [show k + 3 = k + 2 + 1 by rfl, b2, q2], Nat.zero_le _⟩
  unfold eT
  rw [if_neg (fun h => h q1), if_neg (fun h9 => hno.2 ((op_P hU hk h40 h63).1 h9)), if_neg (fun h9 => hno.1 ((LM hU hk h40 h63 (b := 60) (by decide)).2 h9)), if_pos ((LM hU hk h40 h63 (b := 58) (by decide)).1 h)]
theorem op_ps (h : rn s N (k + 2) ≠ 58) : eT s (aU s k) fl = fT s (aU s k) s.size (aU s k + 2) true 0 false fl := by
  obtain ⟨q1, q2, q3⟩ := LL hU hk h40 h63
  unfold eT
  rw [if_neg (fun h => h q1), if_neg (fun h9 => hno.2 ((op_P hU hk h40 h63).1 h9)), if_neg (fun h9 => hno.1 ((LM hU hk h40 h63 (b := 60) (by decide)).2 h9)), if_neg (fun h9 => h ((LM hU hk h40 h63 (b := 58) (by decide)).2 h9))]
theorem op_set {c : Nat} {g : Fl} (h : rn s N (k + 2) ≠ 58) (hF : FlIs s N k fl c g) (c0 : c ≠ 0) (hr : rn s N (k + (2 + c)) = 58) : OpY s N k fl (c + 3) emp false g := by
  rw [← Nat.add_assoc] at hr
  obtain ⟨b1, b2, b3⟩ := dR (b := 58) hU (hF.le c0) (by decide) hr
  exact ⟨(op_ps hU hk h40 h63 hno h).trans (hF.col c0 hr), by omega, by omega, by rw [show k + (c + 3) = k + 2 + c + 1 by omega, b2, hF.of c0]; omega, Nat.zero_le _⟩
theorem UB {c : Nat} {g : Fl} (h : rn s N (k + 2) ≠ 58) (hF : FlIs s N k fl c g) (hc : c ≠ 0 → rn s N (k + (2 + c)) ≠ 58) (hns : ¬ ((eT s (aU s k) fl).err = 0 ∧ (eT s (aU s k) fl).sett = true)) : (eT s (aU s k) fl).err = 84 := by
  have e := op_ps hU hk h40 h63 hno h (fl := fl)
  rw [e] at hns ⊢
  by_cases c0 : c = 0
  · exact hF.bad c0
  · by_cases h41 : rn s N (k + 2 + c) = 41
    · rw [hF.set c0 h41] at hns; exact (hns ⟨rfl, rfl⟩).elim
    · exact hF.oth c0 h41 (by rw [Nat.add_assoc]; exact hc c0)
end
end
end
def ExO (s : ByteArray) (N b : Nat) (m : RfM) (o k : Nat) (w w' : World) (v : Value) (R : PX Rx) : Prop :=
  (∃ x k' fl' ns' na nc nb, R = .ok (x, ⟨aU s k', fl', o, ns'⟩) ∧ k ≤ k' ∧ k' ≤ N ∧ ns'.length ≤ 100 ∧ TrO w w' v x ∧ RfAt w' b s N ⟨k', o, ns', 0⟩ (m.nm na nc nb) ∧ NB w m.nb nb) ∨
  (∃ e k' ns' na nc nb, R = .error e ∧ e ≠ 0 ∧ k' + o ≤ N + 251 ∧ Jk v ∧ RfAt w' b s N ⟨k', o, ns', e⟩ (m.nm na nc nb) ∧ NB w m.nb nb)
def ExR (b : Nat) (s : ByteArray) (N : Nat) (m : RfM) (o : Nat) (ex : PS → PX Rx) : Prop := ∀ (w : World) (k : Nat) (fl : Fl) (ns : List ByteArray) (na : Option Addr) (nc : Nat) (nb : Option Nat) (e : Int) (R : PX Rx), RfAt w b s N ⟨k, o, ns, e⟩ (m.nm na nc nb) →
  (e = 0 → k ≤ N ∧ ns.length ≤ 100 ∧ R = ex ⟨aU s k, fl, o, ns⟩) → (e ≠ 0 → R = .error e ∧ k + o ≤ N + 251 ∧ ns.length ≤ 1000) →
  Calls Tryz.prog 39 #[.pointer (some ⟨b, 0, none⟩), .agg (flv fl).toArray] w (Ret fun v w' => ExO s N b (m.nm na nc nb) o k w w' v R ∧ Evo (b :: nb.toList) w w')
theorem ExO.jk {s : ByteArray} {N b : Nat} {m : RfM} {o k : Nat} {w w' : World} {v : Value} {R : PX Rx} (h : ExO s N b m o k w w' v R) : Jk v := by
  rcases h with ⟨x, k', fl', ns', na, nc, nb, -, -, -, -, ⟨vs, bs, rfl, h, -⟩, -⟩ | ⟨e, k', ns', na, nc, nb, -, -, -, h, -⟩
  · exact h.jk
  · exact h
theorem mW : eU Tryz.prog 72 2 = some 2 := by kernel_rfl
theorem oY : eU Tryz.prog 72 3 = some 3 := by kernel_rfl
theorem oX : eU Tryz.prog 72 4 = some 4 := by kernel_rfl
theorem GO : dW Tryz.prog 117 := ⟨_, Tryz.func117, by kernel_rfl, by kernel_rfl⟩
theorem xZ : dW Tryz.prog 39 := ⟨_, Tryz.func39, by kernel_rfl, by kernel_rfl⟩
structure OpG where
  sz : Nat
  nm : ByteArray
  cp : Bool
  g : Fl
structure NlG where
  i : Nat
  e : Int
structure NaG where
  ix : Nat
  e : Int
  ns2 : List ByteArray
  na : Option Addr
  nc : Nat
  nb : Option Nat
def NlD (nm : ByteArray) (ns : List ByteArray) (i : Nat) (e : Int) : Prop := (e = 0 ∧ NgP nm ns i) ∨ (e = 85 ∧ nm ≠ emp ∧ nm ∈ ns)
def NaD (cp : Bool) (nm : ByteArray) (ns : List ByteArray) (x : NaG) : Prop := x.ns2.length ≤ 1000 ∧ x.ix ≤ 1000 ∧ ((x.e = 0 ∧ ¬ (cp = true ∧ yG nm ns) ∧ x.ns2 = (if cp = true then ns ++ [nm] else ns) ∧ x.ns2.length ≤ 100 ∧ (cp = true → x.ix = ns.length + 1)) ∨ (x.e = 85 ∧ cp = true ∧ yG nm ns))
theorem mC {w : World} {b : Nat} {s : ByteArray} {N k o : Nat} {ns : List ByteArray} {e : Int} {m : RfM} (hR : RfAt w b s N ⟨k, o, ns, e⟩ m) (e2 : Int) (he : -1000 ≤ e2 ∧ e2 ≤ 1000) :
    Calls Tryz.prog 40 #[.pointer (some ⟨b, 0, none⟩), .int .i64 e2] w (Ret fun v w' => v = .tuple #[] ∧ Evo [b] w w' ∧ RfAt w' b s N ⟨k, o, ns, if e = 0 then e2 else e⟩ m) := zN hR e2 he
theorem str_at {w : World} {e : TypeId} {a : Option Addr} {n c i g : Nat} {ns : List ByteArray} {ob : Option Nat} (h : OwnS w e 1 a n c (ns.map sv) ob) (hi : i < ns.length) (ha : a = some ⟨g, 0, none⟩) : w.cell? ⟨g, 0 + i * 1, none⟩ = some (.string ns[i]) := by
  obtain ⟨g', _, ha', hc⟩ := wM h hi
  rw [ha] at ha'; cases ha'
  exact hc
theorem RfAt.push {w : World} {b : Nat} {s : ByteArray} {N k o c2 : Nat} {ns : List ByteArray} {nm : ByteArray} {e : Int} {m : RfM} {a2 : Option Addr} {ob2 : Option Nat} (h : w.heap[b]? = some (.cells #[.slice m.ra N m.rc, iv k, iv o, .int .i64 ((ns.length : Int) + 1), .slice a2 (ns.length + 1) c2, iv e] 72 (0, 0))) (hr : OwnS w 21 1 m.ra N m.rc (wS (jH s N)) m.rb) (ho : OwnS w 9 1 a2 (ns.length + 1) c2 (ns.map sv ++ [sv nm]) ob2) : RfAt w b s N ⟨k, o, ns ++ [nm], e⟩ (m.nm a2 c2 ob2) := by
  refine ⟨?_, hr, ?_⟩
  · unfold rfc
    simp only [List.length_append, List.length_cons, List.length_nil]
    exact h
  · simp only [List.length_append, List.length_cons, List.length_nil, List.map_append]
    exact ho
theorem NlD.go {nm : ByteArray} {ns : List ByteArray} {i : Nat} {e : Int} (h : NlD nm ns i e) (hi : i < ns.length) : (nm ≠ emp ∧ ns[i] = nm → NlD nm ns (i + 1) (if e = 0 then 85 else e)) ∧ (¬ (nm ≠ emp ∧ ns[i] = nm) → NlD nm ns (i + 1) e) := by
  refine ⟨fun ⟨h1, h2⟩ => .inr ⟨?_, h1, h2 ▸ List.getElem_mem hi⟩, fun h1 => ?_⟩
  · rcases h with ⟨rfl, -⟩ | ⟨rfl, -⟩
    · exact if_pos rfl
    · exact if_neg (by decide)
  · rcases h with ⟨rfl, h⟩ | h
    · refine .inl ⟨rfl, hi, fun j hj hj2 => ?_⟩
      by_cases e : j = i
      · subst e
        by_cases h3 : nm = emp
        · exact .inl h3
        · exact .inr (fun h4 => h1 ⟨h3, h4⟩)
      · exact h.all j hj (by omega)
    · exact .inr h
theorem ExO.un {s : ByteArray} {N b : Nat} {m : RfM} {o k : Nat} {w w' : World} {v : Value} {R : PX Rx} (h : ExO s N b m o k w w' v R) (ho : o ≤ 250) : ∃ k' ns' na nc nb e, RfAt w' b s N ⟨k', o, ns', e⟩ (m.nm na nc nb) ∧ NB w m.nb nb ∧ Jk v ∧ k' + o ≤ N + 251 ∧
    ((e = 0 ∧ ∃ x fl', R = .ok (x, ⟨aU s k', fl', o, ns'⟩) ∧ k ≤ k' ∧ k' ≤ N ∧ ns'.length ≤ 100 ∧ TrO w w' v x) ∨ (e ≠ 0 ∧ R = .error e)) := by
  have hj := h.jk
  rcases h with ⟨x, k', fl', ns', na, nc, nb, h1, h2, h3, h4, h5, h6, h7⟩ | ⟨e, k', ns', na, nc, nb, h1, h2, h3, h4, h5, h6⟩
  · exact ⟨k', ns', na, nc, nb, 0, h6, h7, hj, by omega, .inl ⟨rfl, x, fl', h1, h2, h3, h4, h5⟩⟩
  · exact ⟨k', ns', na, nc, nb, e, h5, h6, h4, h3, .inr ⟨h2, h1⟩⟩
theorem WW {s : ByteArray} {N k o sz : Nat} {fl g : Fl} {nm : ByteArray} {cp : Bool} {ns : List ByteArray} (ex : PS → PX Rx) (hY : OpY s N k fl sz nm cp g) (ho : o < 250) : (cp = true ∧ yG nm ns → mZ s ex ⟨aU s k, fl, o, ns⟩ = .error 85) ∧
    (¬ (cp = true ∧ yG nm ns) → mZ s ex ⟨aU s k, fl, o, ns⟩ = match ex ⟨aU s (k + sz), g, o + 1, if cp = true then ns ++ [nm] else ns⟩ with
      | .error e => .error e
      | .ok (x, st2) => if isB s st2.pos 41 then .ok ([if cp = true then zI ((ns.length : Int) + 1) nm x else x], { st2 with pos := st2.pos + 1, opn := st2.opn - 1, now := fl }) else .error 80) := by
  refine ⟨fun h => OX (st := ⟨aU s k, fl, o, ns⟩) hY.op (fun h9 => by cases h9.2) (by show ¬ o = 250; omega) (fun h9 => h9 rfl) h.1 h.2, fun h => ?_⟩
  rw [hY.of]
  exact xP (st := ⟨aU s k, fl, o, ns⟩) hY.op (fun h9 => by cases h9.2) (by show ¬ o = 250; omega) (fun h9 => h9 rfl) h
theorem FH {s : ByteArray} {N k o sz : Nat} {fl g : Fl} {nm : ByteArray} {cp : Bool} {ns : List ByteArray} {ex : PS → PX Rx} {x1 : NaG} (hY : OpY s N k fl sz nm cp g) (ho : o < 250) (hna : NaD cp nm ns x1) {R : PX Rx} (hR : R = if x1.e = 0 then ex ⟨aU s (k + sz), g, o + 1, x1.ns2⟩ else .error x1.e) :
    (∀ e, R = .error e → mZ s ex ⟨aU s k, fl, o, ns⟩ = .error e) ∧ (∀ x fl' k2 ns3, R = .ok (x, ⟨aU s k2, fl', o + 1, ns3⟩) → (cp = true → x1.ix = ns.length + 1) ∧
      (isB s (aU s k2) 41 → mZ s ex ⟨aU s k, fl, o, ns⟩ = .ok ([if cp = true then zI ((ns.length : Int) + 1) nm x else x], ⟨aU s k2 + 1, fl, o, ns3⟩)) ∧ (¬ isB s (aU s k2) 41 → mZ s ex ⟨aU s k, fl, o, ns⟩ = .error 80)) := by
  have hA := (WW (ns := ns) ex hY ho).1
  have hB := (WW (ns := ns) ex hY ho).2
  obtain ⟨-, -, ⟨h1, h2, h3, h4, h5⟩ | ⟨h1, h2⟩⟩ := hna
  · rw [if_pos h1, h3] at hR
    refine ⟨fun e h => by rw [hB h2, ← hR, h], fun x fl' k2 ns3 h => ⟨h5, fun h9 => ?_, fun h9 => ?_⟩⟩
    · rw [hB h2, ← hR, h]
      simp only
      rw [if_pos h9]; rfl
    · rw [hB h2, ← hR, h]
      simp only
      rw [if_neg h9]
  · rw [h1, if_neg (by decide)] at hR
    exact ⟨fun e h => by (rw [hA h2]; rw [hR] at h; cases h; rfl), fun x fl' k2 ns3 h => by rw [hR] at h; cases h⟩
theorem vH {l vs : List Value} (h : Value.agg l.toArray = .agg vs.toArray) : l = vs := by injection h with h; exact congrArg Array.toList h
theorem HP {w : World} {b : Nat} {s : ByteArray} {N k o : Nat} {ns : List ByteArray} {m : RfM} (hR : RfAt w b s N ⟨k, o, ns, 0⟩ m) {fl : Fl} {ex : PS → PX Rx} (hU : Utf s N) (hk : k < N) (h40 : rn s N k = 40) (hN : N ≤ 10000) (hs : s.size ≤ 10000) (hn : ns.length ≤ 100) (ho : o ≤ 250) (hex : o < 250 → ExR b s N m (o + 1) ex) (hns : ¬ ((eT s (aU s k) fl).err = 0 ∧ (eT s (aU s k) fl).sett = true)) :
    Calls Tryz.prog 91 #[.pointer (some ⟨b, 0, none⟩), .agg (flv fl).toArray] w (Ret fun v w' => PxO s N b m o k fl w w' v (mZ s ex ⟨aU s k, fl, o, ns⟩) ∧ Evo (b :: m.nb.toList) w w') := by
  have hap1 := hR.ap1; have hap2 := hR.ap2; have hap3 := hR.ap3; refine bE (N := 174) Tryz.func91 rfl rfl rfl ?_; refine csr (iM rfl rfl fun b3 w1 w0 j9 g4 => ?_); have x9 := j9; have w2 := Apart.new (Lt.blk hR.b0) j9; have w3 := Apart.new (Lt.own hR.run) j9; have w4 := Apart.new (Lt.own hR.o0) j9; have w5 := Ge.new (Evo.refl (b :: m.nb.toList) w) j9; have r1 := (Evo.refl (b :: m.nb.toList) w).then g4; refine cO rfl dC fun b4 C5 k1 e4 e5 => ?_; have y0 := e4; have E := Apart.new (Lt.blk (g4.blk0 hR.b0)) e4; have U := Apart.new (Lt.own (hR.run.evo0 g4)) e4; have g5 := Apart.new (Lt.own (hR.o0.evo0 g4)) e4; have g6 := Ge.new r1 e4; have h6 := e5.blk0 (g4.blk0 hR.b0); have k3 := (hR.run.evo0 g4).evo0 e5; have k4 := (hR.o0.evo0 g4).evo0 e5; have hA3r := w2.symm; have hA3u := w3.symm; have hA3n := w4.symm; have hA4r := E.symm; have hA4u := U.symm; have hA4n := g5.symm; have hg3 := w5; have hg4 := g6; refine wnn (aM (csr (aA (aB (aH rfl) (wfl rfl mW rfl bD h6 rfl (aB (dQ rfl rfl) ?_)))))); refine wnn (aZ rfl (fun w7 => ?_) (fun w7 => ?_))
  ·refine csr (aA ?_); refine aG (vs := [_, _]) eQ rfl (kW (k := k) (o := o) (ns := ns) ⟨h6, k3, k4⟩ 3 (by decide)) rfl ?_; rintro _ C6 ⟨rfl, r5, r6⟩
   have w8 := (r1.then e5).step r5 (fun y hy => .inl (by rw [List.mem_singleton.1 hy]; simp))
   have w9 := r5.blk k1 ((by first | exact E.symm.own1 | exact E.symm.nmem1)); refine wnn (csr (aB (cI (vs := []) cB rfl (cells := [_, _, _, _, _, _, _, _, _]) rfl) ?_)); refine aV rfl rfl aJ w9 rfl rfl ⟨rfl, rfl, rfl, rfl, rfl, rfl, rfl, rfl, rfl, trivial⟩ fun C7 r7 i0 => ?_
   try simp only [cH, Nat.reduceAdd] at r7
   refine wnn (aK (aE (bT rfl (ResOk.cellA rfl bF aJ r7 rfl) ?_))); rw [show mZ s ex ⟨aU s k, fl, o, ns⟩ = .error 3 from OY rfl hns (show o = 250 by omega)]; exact ⟨.inr ⟨3, k, ns, m.na, m.nc, m.nb, rfl, by decide, by omega, mQ, ⟨(i0.blk r6.b0 E.nmem1), (r6.run.evo i0 U.own1), (r6.o0.evo i0 g5.own1)⟩, .inl rfl⟩, (w8.step i0 g6.mem1)⟩
  have ho2 : o < 250 := by omega
  refine aN (aC (csr (bN (bN (wan (aM (gR (α := OpG) (fun x => [(5, .int .i64 (x.sz : Nat)), (6, .string x.nm), (7, .bool x.cp)]) [(0, _), (3, _), (4, _)] (fun x wr => Evo (b :: m.nb.toList) w wr ∧ (RfAt wr b s N ⟨k, o, ns, 0⟩ m ∧ wr.heap[b3]? = some (.cells (flv x.g).toArray 75 (0, 0)) ∧ wr.heap[b4]? = some (.cells #[iv 0, .int .i32 0, .slice none 0 0, iv 0, iv 0, .bool false, iv 0, .string ByteArray.empty, .slice none 0 0] 27 (0, 0)) ∧ OpY s N k fl x.sz x.nm x.cp x.g)) ⟨rfl, rfl, rfl, trivial⟩ ?_ ?_)))))))
  ·refine csr (aA ?_)
   refine aG (vs := [_, _]) cJ rfl (dK (x := ⟨k, o, ns, 0⟩) ⟨h6, k3, k4⟩ 1 (by show k + 1 ≤ 1000000000; omega) (by omega)) rfl ?_
   rintro _ w6 ⟨rfl, a9⟩; have r8 := (r1.then e5).then a9; have e6 := a9.blk0 h6; have e7 := k3.evo0 a9; have e8 := k4.evo0 a9; have k5 := a9.blk0 (e5.blk0 w0); refine wel ?_; refine wnn (aZ rfl (fun I => ?_) (fun I => ?_))
   ·refine csr (wan (aM (gR (α := Nat) (fun pn => [(8, .int .i64 (pn : Nat))]) [(0, _), (3, _), (4, _), (5, _), (6, _), (7, _)] (fun pn wr => Evo [] w6 wr ∧ ((pn = 0 ∧ ¬ (rn s N (k + 2) = 60) ∧ ¬ (rn s N (k + 2) = 80 ∧ rn s N (k + 3) = 60)) ∨ ((pn = 3 ∧ rn s N (k + 2) = 60) ∨ (pn = 4 ∧ rn s N (k + 2) = 80 ∧ rn s N (k + 3) = 60)))) ⟨rfl, rfl, rfl, rfl, rfl, rfl, trivial⟩ ?_ ?_)))
    ·refine csr (aA ?_)
     refine aG (vs := [_, _]) cJ rfl (dK (x := ⟨k, o, ns, 0⟩) ⟨e6, e7, e8⟩ 2 (by show k + 2 ≤ 1000000000; omega) (by omega)) rfl ?_
     rintro _ C8 ⟨rfl, b5⟩; have k6 := (Evo.refl [] w6).then b5; refine wel ?_; refine wnn (aZ rfl (fun i1 => ?_) (fun i1 => ?_))
     ·refine aF (bN (aR (aY ?_))); refine ⟨3, ⟨rfl, trivial⟩, ⟨rfl, rfl, rfl, rfl, rfl, rfl, trivial⟩, k6, ?_⟩; exact .inr (.inl ⟨rfl, i1⟩)
     refine csr (aA ?_)
     refine aG (vs := [_, _]) cJ rfl (dK (x := ⟨k, o, ns, 0⟩) ⟨(b5.blk0 e6), (e7.evo0 b5), (e8.evo0 b5)⟩ 2 (by show k + 2 ≤ 1000000000; omega) (by omega)) rfl ?_
     rintro _ C9 ⟨rfl, g7⟩; refine wel ?_; refine aA (bH (t := 31) rfl (fun k7 => ?_) (fun k7 => ?_))
     ·refine aW (aA (aW ?_))
      refine aG (vs := [_, _]) cJ rfl (dK (x := ⟨k, o, ns, 0⟩) ⟨(g7.blk0 (b5.blk0 e6)), ((e7.evo0 b5).evo0 g7), ((e8.evo0 b5).evo0 g7)⟩ 3 (by show k + 3 ≤ 1000000000; omega) (by omega)) rfl ?_
      rintro _ D0 ⟨rfl, x0⟩; have s0 := (k6.then g7).then x0; refine aW (wel ?_); refine bW (wnn (aZ rfl (fun k8 => ?_) (fun k8 => ?_)))
      ·refine aF (bN (aR (aY ?_))); refine ⟨4, ⟨rfl, trivial⟩, ⟨rfl, rfl, rfl, rfl, rfl, rfl, trivial⟩, s0, ?_⟩; exact .inr (.inr ⟨rfl, k7, k8⟩)
      refine aN (aY ?_); refine ⟨0, ⟨rfl, trivial⟩, ⟨rfl, rfl, rfl, rfl, rfl, rfl, trivial⟩, s0, ?_⟩; exact .inl ⟨rfl, i1, fun h9 => k8 h9.2⟩
     refine aP (aP (aP (bR (wnn (cF rfl ?_))))); refine aN (aY ?_); refine ⟨0, ⟨rfl, trivial⟩, ⟨rfl, rfl, rfl, rfl, rfl, rfl, trivial⟩, (k6.then g7), ?_⟩; exact .inl ⟨rfl, i1, fun h9 => k7 h9.1⟩
    rintro pn D1 ⟨M, hpn0⟩; refine aC ?_; show CW _ _ _ _ [(8, _), (0, _), (3, _), (4, _), (5, _), (6, _), (7, _)] _; refine csr (aA (aB (bX rfl dU cN (M.blk0 k5) rfl) ?_)); refine aG (vs := [_, _, _]) xS rfl (CI (x := ⟨k, o, ns, 0⟩) ⟨(M.blk0 e6), (e7.evo0 M), (e8.evo0 M)⟩ hU (LL hU hk h40 I).2.2 (LL hU hk h40 I).2.1 (by omega)) rfl ?_; rintro _ D2 ⟨c, g, rfl, hF, e9⟩; have s1 := (r8.then M).then e9; have s2 := e9.blk0 (M.blk0 e6); have s3 := (e7.evo0 M).evo0 e9; have s4 := (e8.evo0 M).evo0 e9; have s5 := e9.blk0 (M.blk0 k5); have s6 := e9.blk0 (M.blk0 (a9.blk0 k1))
    have hcN : c ≤ N := by (by_cases h9 : c = 0); omega; (have := hF.le h9; omega)
    refine aA (aB (cC rfl rfl) ?_); refine aB (cC rfl rfl) ?_; refine cO rfl nV fun D3 D4 x1 b6 f0 => ?_; have x7 := b6; refine bN (aV rfl rfl cN x1 rfl rfl ⟨rfl, rfl, rfl, rfl, trivial⟩ fun y9 l4 Y => ?_); have i2 := (s1.then f0).step Y (Ge.new s1 b6).mem1; have b8 := Y.blk (f0.blk0 s2) (Apart.new (Lt.blk s2) b6).nmem1; have b9 := (s3.evo0 f0).evo Y (Apart.new (Lt.own s3) b6).own1; have c4 := (s4.evo0 f0).evo Y (Apart.new (Lt.own s4) b6).own1; have i3 := Y.blk (f0.blk0 s5) (Apart.new (Lt.blk s5) b6).nmem1; have i4 := Y.blk (f0.blk0 s6) (Apart.new (Lt.blk s6) b6).nmem1
    try simp only [cH, Nat.reduceAdd] at l4
    refine wnn (bK (csr (aA (aB (eW rfl rfl) ?_)))); refine wan (aZ rfl (fun x2 => ?_) (fun x2 => ?_))
    ·have hpn := hpn0.resolve_left (fun h9 => by omega); refine csr (aA (aA ?_)); refine aG (vs := [_, _]) GO rfl (SO (x := ⟨k, o, ns, 0⟩) ⟨b8, b9, c4⟩ hU pn (NJ (fl := fl) hU hk h40 I hpn).2.2 (NJ (fl := fl) hU hk h40 I hpn).2.1 (by omega) fl) rfl ?_; rintro _ z0 ⟨l, nm, rfl, hX, G⟩; have hnn := op_name hU hk h40 I hpn hX; refine aA (aB (cC rfl rfl) ?_); refine aB (cC rfl rfl) ?_; refine bN (wan (csr (aA (wel ?_)))); refine wnn (aZ rfl (fun x3 => ?_) (fun x3 => ?_))
     ·refine csr (aA ?_); refine aG (vs := [_, _]) eQ rfl (kW (k := k) (o := o) (ns := ns) ⟨(G.blk0 b8), (b9.evo0 G), (c4.evo0 G)⟩ 85 (by decide)) rfl ?_; rintro _ z1 ⟨rfl, l5, s7⟩
      have t1 := (i2.then G).step l5 (fun y hy => .inl (by rw [List.mem_singleton.1 hy]; simp))
      have t2 := l5.blk (G.blk0 i4) ((by first | exact E.symm.own1 | exact E.symm.nmem1)); refine wnn (csr (aB (cI (vs := []) cB rfl (cells := [_, _, _, _, _, _, _, _, _]) rfl) ?_)); refine aV rfl rfl aJ t2 rfl rfl ⟨rfl, rfl, rfl, rfl, rfl, rfl, rfl, rfl, rfl, trivial⟩ fun z2 l6 f5 => ?_
      try simp only [cH, Nat.reduceAdd] at l6
      refine wnn (aK (aO (aE (aE (bT rfl (ResOk.cellA rfl bF aJ l6 rfl) ?_))))); have he9 := hnn.1 (by omega)
      rw [show mZ s ex ⟨aU s k, fl, o, ns⟩ = .error 85 from by have h8 := FI (ex := ex) (st := ⟨aU s k, fl, o, ns⟩) rfl hns (by show ¬ o = 250; omega) (by show (eT s (aU s k) fl).err ≠ 0; rw [he9]; decide); rw [h8]; show Except.error (eT s (aU s k) fl).err = _; rw [he9]]
      exact ⟨.inr ⟨85, k, ns, m.na, m.nc, m.nb, rfl, by decide, by omega, mQ, ⟨(f5.blk s7.b0 E.nmem1), (s7.run.evo f5 U.own1), (s7.o0.evo f5 g5.own1)⟩, .inl rfl⟩, (t1.step f5 g6.mem1)⟩
     refine aN (aQ (aY ?_)); refine ⟨⟨l, nm, true, fl⟩, ⟨rfl, rfl, rfl, trivial⟩, ⟨rfl, rfl, rfl, trivial⟩, (i2.then G), ?_⟩; exact ⟨⟨(G.blk0 b8), (b9.evo0 G), (c4.evo0 G)⟩, (G.blk0 i3), (G.blk0 i4), hnn.2 (by omega)⟩
    have hno := (hpn0.resolve_right (fun h9 => by omega)).2; refine csr (aA ?_)
    refine aG (vs := [_, _]) cJ rfl (dK (x := ⟨k, o, ns, 0⟩) ⟨b8, b9, c4⟩ 2 (by show k + 2 ≤ 1000000000; omega) (by omega)) rfl ?_
    rintro _ z3 ⟨rfl, J⟩; have f6 := i2.then J; have c5 := J.blk0 b8; have c6 := b9.evo0 J; have c7 := c4.evo0 J; have f7 := J.blk0 i4; refine wel ?_; refine wan (aZ rfl (fun g8 => ?_) (fun g8 => ?_))
    ·refine aF (bN (bN (aR (aQ (aY ?_))))); refine ⟨⟨3, emp, false, fl⟩, ⟨rfl, rfl, rfl, trivial⟩, ⟨rfl, rfl, rfl, trivial⟩, f6, ?_⟩; exact ⟨⟨c5, c6, c7⟩, (J.blk0 i3), f7, op_col hU hk h40 I hno g8⟩
    refine csr (aA (aB (eW rfl rfl) ?_)); refine aA (bH (t := 66) rfl (fun x4 => ?_) (fun x4 => ?_))
    ·refine aW (aA (aW (aA (aW ?_)))); refine aB (aI rfl rfl (by omega) (by omega)) ?_; refine aW ?_
     refine aG (vs := [_, _]) cJ rfl (dK (x := ⟨k, o, ns, 0⟩) ⟨c5, c6, c7⟩ (2 + c) (by show k + (2 + c) ≤ 1000000000; omega) (by omega)) rfl ?_
     rintro _ z4 ⟨rfl, F⟩; refine aW (wel ?_); refine bW (wan (aZ rfl (fun l0 => ?_) (fun l0 => ?_)))
     ·refine csr (aA ?_); refine aB (aI rfl rfl (by omega) (by omega)) ?_; refine bN (wan (aF (aB (bX rfl dU cN (F.blk0 (J.blk0 l4)) rfl) (aV rfl rfl cN (F.blk0 (J.blk0 i3)) rfl rfl ⟨rfl, rfl, rfl, rfl, trivial⟩ fun z5 l7 c8 => ?_))))
      try simp only [cH, Nat.reduceAdd] at l7
      refine aR (aQ (aY ?_)); refine ⟨⟨c + 3, emp, false, g⟩, ⟨rfl, rfl, rfl, trivial⟩, ⟨rfl, rfl, rfl, trivial⟩, ((f6.then F).step c8 w5.mem1), ?_⟩; exact ⟨⟨(c8.blk (F.blk0 c5) w2.nmem1), ((c6.evo0 F).evo c8 w3.own1), ((c7.evo0 F).evo c8 w4.own1)⟩, l7, (c8.blk (F.blk0 f7) (Apart.new (Lt.blk w0) e4).symm.nmem1), op_set hU hk h40 I hno g8 hF (by omega) l0⟩
     refine csr (aA ?_); refine aG (vs := [_, _]) eQ rfl (kW (k := k) (o := o) (ns := ns) ⟨(F.blk0 c5), (c6.evo0 F), (c7.evo0 F)⟩ 84 (by decide)) rfl ?_; rintro _ z6 ⟨rfl, l8, h0⟩
     have t3 := (f6.then F).step l8 (fun y hy => .inl (by rw [List.mem_singleton.1 hy]; simp))
     have t4 := l8.blk (F.blk0 f7) ((by first | exact E.symm.own1 | exact E.symm.nmem1)); refine wnn (csr (aB (cI (vs := []) cB rfl (cells := [_, _, _, _, _, _, _, _, _]) rfl) ?_)); refine aV rfl rfl aJ t4 rfl rfl ⟨rfl, rfl, rfl, rfl, rfl, rfl, rfl, rfl, rfl, trivial⟩ fun z7 l9 f8 => ?_
     try simp only [cH, Nat.reduceAdd] at l9
     refine wnn (aK (aO (aE (aE (bT rfl (ResOk.cellA rfl bF aJ l9 rfl) ?_))))); have he9 := UB hU hk h40 I hno g8 hF (fun c0 => l0) hns
     rw [show mZ s ex ⟨aU s k, fl, o, ns⟩ = .error 84 from by have h8 := FI (ex := ex) (st := ⟨aU s k, fl, o, ns⟩) rfl hns (by show ¬ o = 250; omega) (by show (eT s (aU s k) fl).err ≠ 0; rw [he9]; decide); rw [h8]; show Except.error (eT s (aU s k) fl).err = _; rw [he9]]
     exact ⟨.inr ⟨84, k, ns, m.na, m.nc, m.nb, rfl, by decide, by omega, mQ, ⟨(f8.blk h0.b0 E.nmem1), (h0.run.evo f8 U.own1), (h0.o0.evo f8 g5.own1)⟩, .inl rfl⟩, (t3.step f8 g6.mem1)⟩
    refine aP (aP (aP (aP (aP (bR (wan (cF rfl ?_))))))); refine csr (aA ?_); refine aG (vs := [_, _]) eQ rfl (kW (k := k) (o := o) (ns := ns) ⟨c5, c6, c7⟩ 84 (by decide)) rfl ?_; rintro _ z8 ⟨rfl, m0, h0⟩
    have t5 := f6.step m0 (fun y hy => .inl (by rw [List.mem_singleton.1 hy]; simp))
    have t6 := m0.blk f7 ((by first | exact E.symm.own1 | exact E.symm.nmem1)); refine wnn (csr (aB (cI (vs := []) cB rfl (cells := [_, _, _, _, _, _, _, _, _]) rfl) ?_)); refine aV rfl rfl aJ t6 rfl rfl ⟨rfl, rfl, rfl, rfl, rfl, rfl, rfl, rfl, rfl, trivial⟩ fun z9 m1 f9 => ?_
    try simp only [cH, Nat.reduceAdd] at m1
    refine wnn (aK (aO (aE (aE (bT rfl (ResOk.cellA rfl bF aJ m1 rfl) ?_))))); have he9 := UB hU hk h40 I hno g8 hF (fun c0 => by omega) hns
    rw [show mZ s ex ⟨aU s k, fl, o, ns⟩ = .error 84 from by have h8 := FI (ex := ex) (st := ⟨aU s k, fl, o, ns⟩) rfl hns (by show ¬ o = 250; omega) (by show (eT s (aU s k) fl).err ≠ 0; rw [he9]; decide); rw [h8]; show Except.error (eT s (aU s k) fl).err = _; rw [he9]]
    exact ⟨.inr ⟨84, k, ns, m.na, m.nc, m.nb, rfl, by decide, by omega, mQ, ⟨(f9.blk h0.b0 E.nmem1), (h0.run.evo f9 U.own1), (h0.o0.evo f9 g5.own1)⟩, .inl rfl⟩, (t5.step f9 g6.mem1)⟩
   refine aN (aY ?_); refine ⟨⟨1, emp, true, fl⟩, ⟨rfl, rfl, rfl, trivial⟩, ⟨rfl, rfl, rfl, trivial⟩, r8, ?_⟩; exact ⟨⟨e6, e7, e8⟩, k5, (a9.blk0 k1), op_grp hU hk h40 I⟩
  rintro ⟨sz, nm, cp, g⟩ A0 ⟨m2, ⟨b7, h3, h4, hY⟩⟩; refine aC ?_; show CW _ _ _ _ [(5, .int .i64 (sz : Nat)), (6, .string nm), (7, .bool cp), (0, _), (3, _), (4, _)] _
  try dsimp only at b7 h3 h4 hY
  have hYle := hY.le; refine csr (wan (aM (gR (α := NaG) (fun x => [(11, .int .i64 (x.ix : Nat))]) [(0, _), (3, _), (4, _), (5, _), (6, _), (7, _)] (fun x wr => Evo (b :: m.nb.toList) w wr ∧ (RfAt wr b s N ⟨k, o, x.ns2, x.e⟩ (m.nm x.na x.nc x.nb) ∧ wr.heap[b3]? = some (.cells (flv g).toArray 75 (0, 0)) ∧ wr.heap[b4]? = some (.cells #[iv 0, .int .i32 0, .slice none 0 0, iv 0, iv 0, .bool false, iv 0, .string ByteArray.empty, .slice none 0 0] 27 (0, 0)) ∧ NB w m.nb x.nb ∧ NaD cp nm ns x)) ⟨rfl, rfl, rfl, rfl, rfl, rfl, trivial⟩ ?_ ?_)))
  ·refine csr (aA (wnn (eO rfl (fun l1 => ?_) (fun l1 => ?_))))
   ·subst l1; refine aM (csr (wan (bK (dL (α := NlG) (⟨0, 0⟩) (fun x => [(12, .int .i64 (x.i : Nat))]) [(0, _), (3, _), (4, _), (5, _), (6, _), (7, _), (11, _)] (fun x wr => Evo (b :: m.nb.toList) w wr ∧ (RfAt wr b s N ⟨k, o, ns, x.e⟩ m ∧ wr.heap[b3]? = some (.cells (flv g).toArray 75 (0, 0)) ∧ wr.heap[b4]? = some (.cells #[iv 0, .int .i32 0, .slice none 0 0, iv 0, iv 0, .bool false, iv 0, .string ByteArray.empty, .slice none 0 0] 27 (0, 0)) ∧ x.i ≤ ns.length ∧ NlD nm ns x.i x.e)) (fun x => ns.length - x.i) ⟨rfl, trivial⟩ ⟨rfl, rfl, rfl, rfl, rfl, rfl, rfl, trivial⟩ ⟨m2, ⟨⟨b7.b0, b7.run, b7.o0⟩, h3, h4, Nat.zero_le _,   .inl ⟨rfl, Nat.zero_le _, fun j h1 h2 => absurd h2 (Nat.not_lt_zero _)⟩⟩⟩ ?_)))); rintro ⟨i, e⟩ wr199 ⟨c9, ⟨D, h31, h41, hil, hnl⟩⟩; show CW _ _ _ _ [(12, .int .i64 (i : Nat)), (0, _), (3, _), (4, _), (5, _), (6, _), (7, _), (11, _)] _
    try dsimp only at D h31 h41 hil hnl
    refine aM (csr (aA (aA (aB (aH rfl) (wfl rfl oX rfl jW D.b0 rfl (aB (bM rfl Tryz.underlying22 rfl) ?_)))))); refine aB (dA rfl rfl) ?_; refine wnn (aZ rfl (fun x5 => ?_) (fun x5 => ?_))
    ·have hi' : i < ns.length := by omega
     obtain ⟨g1, hg1, ha1, D5⟩ := wM D.o0 hi'; refine aN (aC (aM (bK (csr (aA (aB (vC rfl rfl) ?_)))))); refine aA (bH (t := 88) rfl (fun l2 => ?_) (fun l2 => ?_))
     ·refine aW (aA (aW (aB (aH rfl) (aW (aB (aD rfl oX) (aW (aB (aX rfl jW (bI D.b0 rfl)) (aW (aA (aW ?_)))))))))); refine aB (eC (n := i) rfl rfl ha1 nZ (by omega)) ?_; refine aW (aB (aX rfl dG (str_at D.o0 hi' ha1)) (aW (aA (aW (aB (fX rfl rfl) ?_))))); refine bW (wnn (aZ rfl (fun l3 => ?_) (fun l3 => ?_)))
      ·refine aF (aA ?_); refine aG (vs := [_, _]) eQ rfl (mC (k := k) (o := o) (ns := ns) (e := e) ⟨D.b0, D.run, D.o0⟩ 85 (by decide)) rfl ?_; rintro _ A1 ⟨rfl, i5, s8⟩
       have t7 := c9.step i5 (fun y hy => .inl (by rw [List.mem_singleton.1 hy]; simp))
       have t8 := i5.blk h31 ((by first | exact hA3r.own1 | exact hA3r.nmem1)); have t9 := i5.blk h41 ((by first | exact hA4r.own1 | exact hA4r.nmem1)); refine aR (aQ (aC (aF (aA ?_)))); refine aB (aI rfl rfl (by omega) (by omega)) ?_; refine bN (aR (aY ?_)); refine ⟨⟨i + 1, if e = 0 then 85 else e⟩, ?_, ⟨rfl, trivial⟩, ⟨rfl, rfl, rfl, rfl, rfl, rfl, rfl, trivial⟩, t7, ?_⟩
       · (try dsimp only); omega
       try dsimp only
       exact ⟨⟨s8.b0, s8.run, s8.o0⟩, t8, t9, hi', (hnl.go hi').1 ⟨l2, l3⟩⟩
      refine aN (aQ (aC (aF (aA ?_)))); refine aB (aI rfl rfl (by omega) (by omega)) ?_; refine bN (aR (aY ?_)); refine ⟨⟨i + 1, e⟩, ?_, ⟨rfl, trivial⟩, ⟨rfl, rfl, rfl, rfl, rfl, rfl, rfl, trivial⟩, c9, ?_⟩
      · (try dsimp only); omega
      try dsimp only
      exact ⟨⟨D.b0, D.run, D.o0⟩, h31, h41, hi', (hnl.go hi').2 (fun h9 => l3 h9.2)⟩
     refine aP (aP (aP (aP (aP (aP (aP (aP (aP (bR (wnn (cF rfl ?_))))))))))); refine aN (aQ (aC (aF (aA ?_)))); refine aB (aI rfl rfl (by omega) (by omega)) ?_; refine bN (aR (aY ?_)); refine ⟨⟨i + 1, e⟩, ?_, ⟨rfl, trivial⟩, ⟨rfl, rfl, rfl, rfl, rfl, rfl, rfl, trivial⟩, c9, ?_⟩
     · (try dsimp only); omega
     try dsimp only
     exact ⟨⟨D.b0, D.run, D.o0⟩, h31, h41, hi', (hnl.go hi').2 (fun h9 => l2 h9.1)⟩
    refine cW (bS (bS (cV (aC ?_)))); refine aM (gR (α := Int) (fun e2 => []) [(0, _), (3, _), (4, _), (5, _), (6, _), (7, _), (11, _)] (fun e2 wr => Evo (b :: m.nb.toList) w wr ∧ (RfAt wr b s N ⟨k, o, ns, e2⟩ m ∧ wr.heap[b3]? = some (.cells (flv g).toArray 75 (0, 0)) ∧ wr.heap[b4]? = some (.cells #[iv 0, .int .i32 0, .slice none 0 0, iv 0, iv 0, .bool false, iv 0, .string ByteArray.empty, .slice none 0 0] 27 (0, 0)) ∧ ((e2 = 0 ∧ ¬ yG nm ns) ∨ (e2 = 85 ∧ yG nm ns)))) ⟨rfl, rfl, rfl, rfl, rfl, rfl, rfl, trivial⟩ ?_ ?_)
    ·refine csr (aA (aB (aH rfl) (wfl rfl oY rfl bD D.b0 rfl (aB (dQ rfl rfl) ?_)))); refine wnn (aZ rfl (fun u0 => ?_) (fun u0 => ?_))
     ·refine aF (aA ?_); refine aG (vs := [_, _]) eQ rfl (mC (k := k) (o := o) (ns := ns) (e := e) ⟨D.b0, D.run, D.o0⟩ 85 (by decide)) rfl ?_; rintro _ A2 ⟨rfl, i6, s9⟩
      have u1 := c9.step i6 (fun y hy => .inl (by rw [List.mem_singleton.1 hy]; simp))
      have u2 := i6.blk h31 ((by first | exact hA3r.own1 | exact hA3r.nmem1)); have u3 := i6.blk h41 ((by first | exact hA4r.own1 | exact hA4r.nmem1)); refine aR (aY ?_); refine ⟨(if e = 0 then 85 else e), trivial, ⟨rfl, rfl, rfl, rfl, rfl, rfl, rfl, trivial⟩, u1, ?_⟩; refine ⟨⟨s9.b0, s9.run, s9.o0⟩, u2, u3, ?_⟩; refine .inr ⟨?_, .inl (by omega)⟩
      rcases hnl with ⟨rfl, -⟩ | ⟨rfl, -⟩ <;> rfl
     refine aN (aY ?_); refine ⟨e, trivial, ⟨rfl, rfl, rfl, rfl, rfl, rfl, rfl, trivial⟩, c9, ?_⟩; refine ⟨⟨D.b0, D.run, D.o0⟩, h31, h41, ?_⟩
     rcases hnl with ⟨h8, h9⟩ | ⟨h8, h9⟩
     · exact .inl ⟨h8, UR h9 (by omega) (by omega)⟩
     · exact .inr ⟨h8, .inr h9⟩
    rintro e2 A3 ⟨u4, ⟨i7, h32, h42, y1⟩⟩; refine aC ?_; show CW _ _ _ _ [(0, _), (3, _), (4, _), (5, _), (6, _), (7, _), (11, _)] _; refine csr (aA (aB (aH rfl) (wfl rfl oY rfl bD i7.b0 rfl ?_))); refine aB (aI rfl rfl (by omega) (by omega)) ?_; refine aB (aH rfl) (aB (aD rfl oY) (bJ rfl rfl (rfl) bY i7.b0 rfl fun A4 d0 d3 => ?_))
    have m3 := u4.step d3 (fun y hy => .inl (by rw [List.mem_singleton.1 hy]; simp))
    try simp only [cH, Nat.reduceAdd] at d0
    refine wnn (csr (aA (aB (aH rfl) (wfl rfl oY rfl bD d0 rfl (wan (aF (aA (aA (aB (aH rfl) (wfl rfl oX rfl jW d0 rfl ?_)))))))))); refine aA (bL (vs := [_]) rfl rL rfl rfl rfl rfl fun A5 A6 u5 y4 L => ?_); have hx12 := (m3.then L); refine cM rfl rfl rfl rfl qJ ((i7.o0.evo d3 hap1.symm.own1).evo0 L) (Src.ofOwn u5 ⟨rfl, trivial⟩) (by omega) fun a2 c2 A7 ob2 y2 d4 hob244 => ?_; have u6 := (m3.then L).step d4 (fun y hy => .inl (List.mem_cons_of_mem _ hy)); have hob2 := hob244; refine aB (aH rfl) (aB (aD rfl oX) (bJ rfl rfl (rfl) sN (d4.blk (L.blk0 d0) hap1.nmem) rfl fun A8 m4 d5 => ?_))
    have u7 := u6.step d5 (fun y hy => .inl (by rw [List.mem_singleton.1 hy]; simp))
    try simp only [cH, Nat.reduceAdd] at m4
    refine aR (aY ?_); refine ⟨⟨ns.length + 1, e2, ns ++ [nm], a2, c2, ob2⟩, ⟨rfl, trivial⟩, ⟨rfl, rfl, rfl, rfl, rfl, rfl, trivial⟩, u7, ?_⟩; refine ⟨RfAt.push m4 ((((i7.run.evo d3 hap2.symm.own1).evo0 L).evo d4 hap3.own).evo d5 hap2.symm.own1) (y2.evo d5 (hap1.app (Lt.blk (L.blk0 d0)) hob244).symm.own1), (d5.blk (d4.blk (L.blk0 (d3.blk h32 hA3r.nmem1)) hA3n.nmem) hA3r.nmem1), (d5.blk (d4.blk (L.blk0 (d3.blk h42 hA4r.nmem1)) hA4n.nmem) hA4r.nmem1), ?_, ?_⟩
    · rcases hob2 with h | ⟨g9, h, h2⟩
      · exact .inl h
      · exact .inr ⟨g9, h, Nat.le_trans hx12.size h2⟩
    · refine ⟨by simp; omega, by show ns.length + 1 ≤ 1000; omega, ?_⟩
      rcases y1 with ⟨h8, h9⟩ | ⟨h8, h9⟩
      · exact .inl ⟨h8, fun h7 => h9 h7.2, rfl, by have : ns.length ≠ 100 := fun h7 => h9 (.inl h7); simp; omega, fun _ => rfl⟩
      · exact .inr ⟨h8, rfl, h9⟩
   subst l1; refine aN (aY ?_); refine ⟨⟨0, 0, ns, m.na, m.nc, m.nb⟩, ⟨rfl, trivial⟩, ⟨rfl, rfl, rfl, rfl, rfl, rfl, trivial⟩, m2, ?_⟩
   exact ⟨⟨b7.b0, b7.run, b7.o0⟩, h3, h4, .inl rfl, by show ns.length ≤ 1000; omega, by show (0 : Nat) ≤ 1000; omega, .inl ⟨rfl, (fun h9 => by cases h9.1), rfl, hn, (fun h9 => by cases h9)⟩⟩
  rintro ⟨ix, e, ns2, na, nc, nb⟩ A9 ⟨u8, ⟨V, h33, h43, hnb, hna⟩⟩; refine aC ?_; show CW _ _ _ _ [(11, .int .i64 (ix : Nat)), (0, _), (3, _), (4, _), (5, _), (6, _), (7, _)] _
  try dsimp only at V h33 h43 hnb hna
  have hap1n := V.ap1; have hap3n := V.ap3; have hA3m := fO h33 V.own (by decide +kernel); have hA4m := fO h43 V.own (by decide +kernel)
  have hnl2 : e = 0 → ns2.length ≤ 100 := fun h9 => by obtain ⟨-, -, h8 | h8⟩ := id hna; exact h8.2.2.2.1; have h7 : e = 85 := h8.1; omega
  refine csr (aA (aB (aH rfl) (wfl rfl bO rfl bD V.b0 rfl (aA ?_)))); refine aB (aI rfl rfl (by omega) (by omega)) ?_; refine aB (aH rfl) (aB (aD rfl bO) (bJ rfl rfl (rfl) bY V.b0 rfl fun B0 i8 d6 => ?_))
  have u9 := u8.step d6 (fun y hy => .inl (by rw [List.mem_singleton.1 hy]; simp))
  try simp only [cH, Nat.reduceAdd] at i8
  refine wnn (csr (aA (aB (aH rfl) (wfl rfl mW rfl bD i8 rfl ?_)))); refine aB (aI rfl rfl (by omega) (by omega)) ?_; refine aB (aH rfl) (aB (aD rfl mW) (bJ rfl rfl (rfl) bY i8 rfl fun B1 i9 d7 => ?_))
  have m5 := u9.step d7 (fun y hy => .inl (by rw [List.mem_singleton.1 hy]; simp))
  have m6 := d7.blk (d6.blk h33 hA3r.nmem1) hA3r.nmem1; have m7 := d7.blk (d6.blk h43 hA4r.nmem1) hA4r.nmem1
  try simp only [cH, Nat.reduceAdd] at i9
  refine wnn (csr (aA (aB (bX rfl dU cN m6 rfl) ?_)))
  refine aG (vs := [_, _]) xZ rfl (hex ho2 _ (k + sz) g ns2 na nc nb e (if e = 0 then ex ⟨aU s (k + sz), g, o + 1, ns2⟩ else .error e) ⟨i9, ((V.run.evo d6 hap2.symm.own1).evo d7 hap2.symm.own1), ((V.o0.evo d6 hap1n.symm.own1).evo d7 hap1n.symm.own1)⟩ (fun h9 => ⟨hY.le, hnl2 h9, if_pos h9⟩) (fun h9 => ⟨if_neg h9, by have := hY.le; omega, hna.1⟩)) rfl ?_
  rintro _ t0 ⟨hX, g0⟩; have h5 := m5; have x6 := g0; have hl4 := (Array.getElem?_eq_some_iff.1 m7).1; have hlb := (Array.getElem?_eq_some_iff.1 i9).1; have m8 := m5.step g0 (oB hnb); have j0 := g0.blk m7 (sA hA4r hA4m); obtain ⟨k2, ns3, na3, nc3, nb3, e3, O, hnb3, y3, hbd3, m9⟩ := hX.un (by omega); obtain ⟨k9, r9, mn9, mx9, cp9, ra9, ka9, rl9, rc9, kl9, kc9, lz9, nm9, rfl⟩ := id y3; have hap1o := O.ap1; have hap3o := O.ap3; have hA4o := fO j0 O.own (by decide +kernel); have hA3o := fO (g0.blk m6 (sA hA3r hA3m)) O.own (by decide +kernel); refine cO rfl dC fun D6 B2 v0 W Z => ?_; have x8 := W; have a0 := Apart.new (Lt.blk O.b0) W; refine aV rfl rfl aJ v0 rfl rfl ⟨rfl, rfl, rfl, rfl, rfl, rfl, rfl, rfl, rfl, trivial⟩ fun B3 n0 a1 => ?_; have n1 := a1.blk (Z.blk0 O.b0) a0.nmem1
  try simp only [cH, Nat.reduceAdd] at n0
  refine wnn (csr (aA (aB (aH rfl) (wfl rfl mW rfl bD n1 rfl ?_)))); refine aB (dX rfl rfl (by omega) (by omega)) ?_; rw [show (((o + 1 : Nat) : Int) - 1) = ((o : Nat) : Int) from by omega]; refine aB (aH rfl) (aB (aD rfl mW) (bJ rfl rfl (rfl) bY n1 rfl fun B4 j1 a3 => ?_))
  have n2 := ((m8.then Z).step a1 (Ge.new m8 W).mem1).step a3 (fun y hy => .inl (by rw [List.mem_singleton.1 hy]; simp))
  have n3 := (((Evo.refl [b, b4] t0).then Z).step a1 (Ge.new (Evo.refl [b, b4] t0) W).mem1).step a3 (fun y hy => .inl (by rw [List.mem_singleton.1 hy]; simp))
  have j2 := ((O.run.evo0 Z).evo a1 (Apart.new (Lt.own O.run) W).own1).evo a3 hap2.symm.own1; have j3 := ((O.o0.evo0 Z).evo a1 (Apart.new (Lt.own O.o0) W).own1).evo a3 hap1o.symm.own1
  try simp only [cH, Nat.reduceAdd] at j1
  refine wnn (aM (csr (aA ?_)))
  refine aG (vs := [_, _]) cJ rfl (dK (x := ⟨k2, o, ns3, e3⟩) ⟨j1, j2, j3⟩ 0 (by show k2 + 0 ≤ 1000000000; omega) (by omega)) rfl ?_
  rintro _ B5 ⟨rfl, H⟩; have n4 := H.blk0 (a3.blk (a1.blk (Z.blk0 j0) (Apart.new (Lt.blk j0) W).nmem1) hA4r.nmem1); have j4 := H.blk0 j1; have n5 := H.blk0 (a3.blk n0 a0.symm.nmem1); refine aB (fE rfl rfl) ?_; refine wnn (aZ rfl (fun d8 => ?_) (fun d8 => ?_))
  ·refine aF (aA ?_); refine aG (vs := [_, _]) eQ rfl (mC (k := k2) (o := o) (ns := ns3) (e := e3) ⟨j4, (j2.evo0 H), (j3.evo0 H)⟩ 80 (by decide)) rfl ?_; rintro _ B6 ⟨rfl, g3, n6⟩
   have v1 := (n2.then H).step g3 (fun y hy => .inl (by rw [List.mem_singleton.1 hy]; simp))
   have v2 := (n3.then H).step g3 (fun y hy => .inl (by rw [List.mem_singleton.1 hy]; simp))
   have v3 := g3.blk n4 ((by first | exact hA4r.own1 | exact hA4r.nmem1)); have v4 := g3.blk n5 ((by first | exact a0.symm.own1 | exact a0.symm.nmem1)); refine wnn (csr (aA (aB (aH rfl) (wfl rfl bO rfl bD n6.b0 rfl ?_)))); refine aB (aI rfl rfl (by omega) (by omega)) ?_; refine aB (aH rfl) (aB (aD rfl bO) (bJ rfl rfl (rfl) bY n6.b0 rfl fun B7 j5 a4 => ?_))
   have n7 := v1.step a4 (fun y hy => .inl (by rw [List.mem_singleton.1 hy]; simp))
   have n8 := v2.step a4 (fun y hy => .inl (by rw [List.mem_singleton.1 hy]; simp))
   have n9 := a4.blk v3 hA4r.nmem1; have o1 := a4.blk v4 a0.symm.nmem1; have o2 := n6.run.evo a4 hap2.symm.own1; have o3 := n6.o0.evo a4 hap1o.symm.own1
   try simp only [cH, Nat.reduceAdd] at j5
   refine wnn (aM (csr (aA (aB (fV rfl) ?_)))); refine wnn (eO rfl (fun B => ?_) (fun B => ?_))
   ·replace B := congrArg Bool.not B; simp only [Bool.not_not, Bool.not_true, Bool.not_false] at B; subst B
    refine csr (aB (bX rfl bF aJ o1 rfl) (aV rfl rfl aJ n9 rfl rfl ⟨rfl, rfl, rfl, rfl, rfl, rfl, rfl, rfl, rfl, trivial⟩ fun B8 o4 d9 => ?_)); have o5 := n7.step d9 hg4.mem1
    have y5 := n8.step d9 (fun y hy => .inl (by rw [List.mem_singleton.1 hy]; simp))
    have o6 := d9.blk j5 E.nmem1; have o7 := o2.evo d9 U.own1; have o8 := o3.evo d9 hA4o.symm.own1
    try simp only [cH, Nat.reduceAdd] at o4
    refine wnn (aK (aE (bT rfl (ResOk.cellA rfl bF aJ o4 rfl) ?_))); have hbf := FH (ex := ex) hY ho2 hna rfl; have hlt := hY.pos; have hr41 : rn s N k2 ≠ 41 := d8; have hnb9 := NB.older hnb hnb3 h5.size
    rcases m9 with ⟨he3, x, fl', hRx, hkk, hkN, k0, vs, bs, hv, hT, hF⟩ | ⟨he3, hRe⟩
    · subst he3
      exact ⟨.inr ⟨80, k2 + 1, ns3, na3, nc3, nb3, (hbf.2 _ _ _ _ hRx).2.2 (fun h9 => hr41 ((dS hU hkN (b := 41) (by decide)).2 h9)), by decide, by omega, ⟨_, _, _, _, _, _, _, _, _, _, _, _, _, rfl⟩, ⟨o6, o7, o8⟩, hnb9⟩, o5⟩
    · exact ⟨.inr ⟨(if e3 = 0 then 80 else e3), k2 + 1, ns3, na3, nc3, nb3, by rw [if_neg he3]; exact hbf.1 _ hRe, by rw [if_neg he3]; exact he3, by omega, ⟨_, _, _, _, _, _, _, _, _, _, _, _, _, rfl⟩, ⟨o6, o7, o8⟩, hnb9⟩, o5⟩
   replace B := congrArg Bool.not B; simp only [Bool.not_not, Bool.not_true, Bool.not_false] at B; subst B
   refine aN (aC (csr (aA (aA (aB (bX rfl bF aJ o1 rfl) (bL (vs := [_]) rfl cY rfl rfl rfl rfl fun K B9 y6 y7 a5 => ?_)))))); refine aB (cI (vs := [(0, _), (6, _), (7, _), (8, _)]) cB rfl (cells := [_, _, _, _, _, _, _, _, _]) rfl) ?_; refine aV rfl rfl aJ (a5.blk0 n9) rfl rfl ⟨rfl, rfl, rfl, rfl, rfl, rfl, rfl, rfl, rfl, trivial⟩ fun C0 o9 e0 => ?_; have p1 := (n7.then a5).step e0 hg4.mem1
   have y8 := (n8.then a5).step e0 (fun y hy => .inl (by rw [List.mem_singleton.1 hy]; simp))
   have p2 := e0.blk (a5.blk0 j5) E.nmem1; have p3 := (o2.evo0 a5).evo e0 U.own1; have p4 := (o3.evo0 a5).evo e0 hA4o.symm.own1
   try simp only [cH, Nat.reduceAdd] at o9
   refine wnn (aK (bT rfl (ResOk.cellA rfl bF aJ o9 rfl) ?_)); have hbf := FH (ex := ex) hY ho2 hna rfl; have hlt := hY.pos; have hr41 : rn s N k2 ≠ 41 := d8; have hnb9 := NB.older hnb hnb3 h5.size
   rcases m9 with ⟨he3, x, fl', hRx, hkk, hkN, k0, vs, bs, hv, hT, hF⟩ | ⟨he3, hRe⟩
   · subst he3
     exact ⟨.inr ⟨80, k2 + 1, ns3, na3, nc3, nb3, (hbf.2 _ _ _ _ hRx).2.2 (fun h9 => hr41 ((dS hU hkN (b := 41) (by decide)).2 h9)), by decide, by omega, ⟨_, _, _, _, _, _, _, _, _, _, _, _, _, rfl⟩, ⟨p2, p3, p4⟩, hnb9⟩, p1⟩
   · exact ⟨.inr ⟨(if e3 = 0 then 80 else e3), k2 + 1, ns3, na3, nc3, nb3, by rw [if_neg he3]; exact hbf.1 _ hRe, by rw [if_neg he3]; exact he3, by omega, ⟨_, _, _, _, _, _, _, _, _, _, _, _, _, rfl⟩, ⟨p2, p3, p4⟩, hnb9⟩, p1⟩
  refine aN (aC (csr (aA (aB (aH rfl) (wfl rfl bO rfl bD j4 rfl ?_))))); refine aB (aI rfl rfl (by omega) (by omega)) ?_; refine aB (aH rfl) (aB (aD rfl bO) (bJ rfl rfl (rfl) bY j4 rfl fun C1 j6 a6 => ?_))
  have p5 := (n2.then H).step a6 (fun y hy => .inl (by rw [List.mem_singleton.1 hy]; simp))
  have j7 := (n3.then H).step a6 (fun y hy => .inl (by rw [List.mem_singleton.1 hy]; simp))
  have j8 := a6.blk n4 hA4r.nmem1; have p6 := (j2.evo0 H).evo a6 hap2.symm.own1; have p7 := (j3.evo0 H).evo a6 hap1o.symm.own1; have p8 := a6.blk n5 a0.symm.nmem1
  try simp only [cH, Nat.reduceAdd] at j6
  refine wnn (aM (csr (aA (aB (fV rfl) ?_)))); refine wnn (eO rfl (fun B => ?_) (fun B => ?_))
  ·replace B := congrArg Bool.not B; simp only [Bool.not_not, Bool.not_true, Bool.not_false] at B; subst B
   refine csr (aB (bX rfl bF aJ p8 rfl) (aV rfl rfl aJ j8 rfl rfl ⟨rfl, rfl, rfl, rfl, rfl, rfl, rfl, rfl, rfl, trivial⟩ fun C2 p9 e1 => ?_)); have q0 := p5.step e1 hg4.mem1
   have v5 := j7.step e1 (fun y hy => .inl (by rw [List.mem_singleton.1 hy]; simp))
   have q1 := e1.blk j6 E.nmem1; have q3 := p6.evo e1 U.own1; have q4 := p7.evo e1 hA4o.symm.own1
   try simp only [cH, Nat.reduceAdd] at p9
   refine wnn (aK (aE (bT rfl (ResOk.cellA rfl bF aJ p9 rfl) ?_))); have hbf := FH (ex := ex) hY ho2 hna rfl; have hlt := hY.pos; have hr41 : rn s N k2 = 41 := Classical.not_not.1 d8; have hnb9 := NB.older hnb hnb3 h5.size
   rcases m9 with ⟨he3, x, fl', hRx, hkk, hkN, k0, vs, bs, hv, hT, hF⟩ | ⟨he3, hRe⟩
   · subst he3
     obtain ⟨c1, c2, c3⟩ := dR (b := 41) hU hkN (by decide) hr41; obtain ⟨d1, d2, -⟩ := hbf.2 _ _ _ _ hRx
     have hnx : ∀ q, q ∈ bs → q ∉ [b, b4] := fun q hq h => by have h8 := hF.ge q hq; simp at h; omega
     exact ⟨.inl ⟨x, k2 + 1, ns3, na3, nc3, nb3, (d2 c1).trans (by rw [c2]; rfl), by omega, c3, k0, ⟨vs, bs, hv, hT.evo v5 hnx, hF.older h5.size⟩, ⟨q1, q3, q4⟩, hnb9⟩, q0⟩
   · exact ⟨.inr ⟨e3, k2 + 1, ns3, na3, nc3, nb3, by exact hbf.1 _ hRe, by exact he3, by omega, ⟨_, _, _, _, _, _, _, _, _, _, _, _, _, rfl⟩, ⟨q1, q3, q4⟩, hnb9⟩, q0⟩
  replace B := congrArg Bool.not B; simp only [Bool.not_not, Bool.not_true, Bool.not_false] at B; subst B
  refine aN (aC (csr (aA (aA (aB (bX rfl bF aJ p8 rfl) (bL (vs := [_]) rfl cY rfl rfl rfl rfl fun K C3 v6 q5 a7 => ?_)))))); have v7 := Ge.new j7 q5; refine aB (cI (vs := [(0, _), (6, _), (7, _), (8, _)]) cB rfl (cells := [_, _, _, _, _, _, _, _, _]) rfl) ?_; refine aV rfl rfl aJ (a7.blk0 j8) rfl rfl ⟨rfl, rfl, rfl, rfl, rfl, rfl, rfl, rfl, rfl, trivial⟩ fun C4 q6 a8 => ?_; have q7 := (p5.then a7).step a8 hg4.mem1
  have v8 := (j7.then a7).step a8 (fun y hy => .inl (by rw [List.mem_singleton.1 hy]; simp))
  have q8 := a8.blk (a7.blk0 j6) E.nmem1; have q9 := (p6.evo0 a7).evo a8 U.own1; have r0 := (p7.evo0 a7).evo a8 hA4o.symm.own1; have v9 := v6.evo a8 (Apart.new (Lt.blk j8) q5).symm.own1
  try simp only [cH, Nat.reduceAdd] at q6
  refine wnn (aK (bT rfl (ResOk.cellA rfl bF aJ q6 rfl) ?_)); have hbf := FH (ex := ex) hY ho2 hna rfl; have hlt := hY.pos; have hr41 : rn s N k2 = 41 := Classical.not_not.1 d8; have hnb9 := NB.older hnb hnb3 h5.size
  rcases m9 with ⟨he3, x, fl', hRx, hkk, hkN, k0, vs, bs, hv, hT, hF⟩ | ⟨he3, hRe⟩
  · subst he3
    obtain ⟨c1, c2, c3⟩ := dR (b := 41) hU hkN (by decide) hr41; obtain ⟨d1, d2, -⟩ := hbf.2 _ _ _ _ hRx
    have hnx : ∀ q, q ∈ bs → q ∉ [b, b4] := fun q hq h => by have h8 := hF.ge q hq; simp at h; omega
    have hvs := vH (l := [_, _, _, _, _, _, _, _, _]) hv; subst hvs; have hix := d1 rfl
    obtain ⟨g1, g2⟩ := TZ (n := (ns.length : Int) + 1) (nm := nm) v9 hT hF (v7 _ rfl) v8 hnx x6.size (by have := hY.nl; omega)
    exact ⟨.inl ⟨_, k2 + 1, ns3, na3, nc3, nb3, (d2 c1).trans (by rw [c2]; rfl), by omega, c3, k0, ⟨_, _, by rw [show (ix : Int) = (ns.length : Int) + 1 by have h8 : ix = ns.length + 1 := hix; omega], g1, g2.older h5.size⟩, ⟨q8, q9, r0⟩, hnb9⟩, q7⟩
  · exact ⟨.inr ⟨e3, k2 + 1, ns3, na3, nc3, nb3, by exact hbf.1 _ hRe, by exact he3, by omega, ⟨_, _, _, _, _, _, _, _, _, _, _, _, _, rfl⟩, ⟨q8, q9, r0⟩, hnb9⟩, q7⟩
noncomputable def uC (s : ByteArray) (ex : PS → PX Rx) (A : List Rx) (f : Nat) (l : List Rx) (ah : Bool) (sx : PS) (f2 : Nat) : PX Rx := match iR s ex f l ah sx with
  | .error e => .error e
  | .ok (x, st2) => pJ s ex f2 (A ++ [x]) st2
theorem MF (s : ByteArray) (ex : PS → PX Rx) (st : PS) : nC s ex st = uC s ex [] (s.size + 1) [] false st (s.size + 1) := rfl
section
variable {s : ByteArray} {ex : PS → PX Rx} {A : List Rx} {f f2 : Nat} {l g : List Rx} {ah : Bool} {sx st2 : PS} {lo hi e : Int} {nn : Nat}
theorem sI (h : iR s ex f l ah sx = .error e) : uC s ex A f l ah sx f2 = .error e := by unfold uC; rw [h]
theorem tE {f' : Nat} {l' : List Rx} {ah' : Bool} {sx' : PS} (h : iR s ex f l ah sx = iR s ex f' l' ah' sx') : uC s ex A f l ah sx f2 = uC s ex A f' l' ah' sx' f2 := by unfold uC; rw [h]
theorem WQ (h : isB s sx.pos 124) : uC s ex A f l ah sx (f2 + 1) = uC s ex (A ++ [oA 4 l]) (s.size + 1) [] false (adv sx 1) f2 := by
  have h1 : uC s ex A f l ah sx (f2 + 1) = pJ s ex (f2 + 1) (A ++ [oA 4 l]) sx := by unfold uC; rw [qB (.inr (.inl h.2))]
  rw [h1]
  unfold uC
  cases hp : iR s ex (s.size + 1) [] false (adv sx 1) with
  | error e => rw [JF h hp]
  | ok q => obtain ⟨x, st2⟩ := q; rw [FK h hp]
theorem JA (h : s.size ≤ sx.pos ∨ isB s sx.pos 41) : uC s ex A f l ah sx f2 = .ok (oA 5 (A ++ [oA 4 l]), sx) := by
  unfold uC
  rw [qB (h.elim .inl (fun h => .inr (.inr h.2)))]
  simp only
  exact vG (fun h9 => h.elim (fun h8 => by have := h9.1; omega) (fun h8 => by have := h9.2; have := h8.2; omega))
end
structure FnQ (s : ByteArray) (N k n : Nat) : Prop where
  two : 2 ≤ n
  le : k + n ≤ N
  no : ∀ q, aU s k + 2 ≤ q → q < aU s (k + n) → ¬ Occ s 92 69 q
section
variable {s : ByteArray} {N k n : Nat} (hU : Utf s N)
include hU
theorem FnQ.step (h : FnQ s N k n) (hn : k + n < N) (hne : ¬ (rn s N (k + n) = 92 ∧ rn s N (k + (n + 1)) = 69)) : FnQ s N k (n + 1) := by
  refine ⟨by have := h.two; omega, hn, fun q h1 h2 ho => ?_⟩
  rcases Nat.lt_or_ge q (aU s (k + n)) with h3 | h3
  · exact h.no q h1 h3 ho
  · obtain ⟨o1, o2, o3⟩ := ho
    have e : q = aU s (k + n) := by
      rcases Nat.eq_or_lt_of_le h3 with e | e
      · exact e.symm
      · have h4 := AF (hU.2 _ hn) (t := q - aU s (k + n)) (by omega) (by have : aU s (k + (n + 1)) = aU s (k + n) + (cL s (aU s (k + n))).2 := rfl; omega)
        rw [show aU s (k + n) + (q - aU s (k + n)) = q by omega] at h4
        omega
    subst e
    have k1 := (dS hU (Nat.le_of_lt hn) (b := 92) (by decide)).2 ⟨by omega, o2⟩
    have k2 := pC hU (Nat.le_of_lt hn) (b := 92) (by decide) ⟨by omega, o2⟩
    exact hne ⟨k1, (dS hU (i := k + (n + 1)) hn (b := 69) (by decide)).2 (by rw [← Nat.add_assoc, k2]; exact ⟨o1, o3⟩)⟩
theorem FnQ.miss (h : FnQ s N k n) (hn : ¬ k + n < N) : jL s 92 69 s.size (aU s k + 2) = none := by
  have e : k + n = N := by have := h.le; omega
  cases hf : jL s 92 69 s.size (aU s k + 2) with
  | none => rfl
  | some q =>
    obtain ⟨h1, h2, -⟩ := (lU s 92 69 s.size _ (by omega)).1 q hf
    exact (h.no q h1 (by rw [e, rI hU]; have := h2.1; omega) h2).elim
theorem FnQ.hit (h : FnQ s N k n) (hn : k + n < N) (h1 : rn s N (k + n) = 92) (h2 : rn s N (k + (n + 1)) = 69) (ho : aU s (k + 2) = aU s k + 2) : jL s 92 69 s.size (aU s k + 2) = some (aU s (k + n)) ∧ aU s (k + (n + 2)) = aU s (k + n) + 2 ∧ k + (n + 2) ≤ N := by
  obtain ⟨a1, a2, a3⟩ := dR (b := 92) hU (Nat.le_of_lt hn) (by decide) h1
  obtain ⟨b1, b2, b3⟩ := dR (b := 69) hU (i := k + (n + 1)) hn (by decide) h2
  have hm : aU s k + 2 ≤ aU s (k + n) := by rw [← ho]; exact mG s (by have := h.two; omega)
  rw [← Nat.add_assoc, a2] at b1
  have hocc : Occ s 92 69 (aU s (k + n)) := ⟨b1.1, a1.2, b1.2⟩
  refine ⟨?_, by rw [show k + (n + 2) = k + (n + 1) + 1 by omega, b2, ← Nat.add_assoc, a2], b3⟩
  cases hf : jL s 92 69 s.size (aU s k + 2) with
  | none => exact ((lU s 92 69 s.size _ (by omega)).2 hf _ hm hocc).elim
  | some q =>
    obtain ⟨c1, c2, c3⟩ := (lU s 92 69 s.size _ (by omega)).1 q hf
    rcases Nat.lt_trichotomy q (aU s (k + n)) with e | e | e
    · exact (h.no q c1 e c2).elim
    · rw [e]
    · exact (c3 _ hm e hocc).elim
noncomputable def rB (s : ByteArray) (fl : Fl) (k : Nat) : Nat → List Rx
  | 0 => []
  | j + 1 => rB s fl k j ++ [lP fl (xJ s (k + j))]
omit hU in
theorem mO (s : ByteArray) (fl : Fl) (k : Nat) : ∀ j, (rB s fl k j).length = j
  | 0 => rfl
  | j + 1 => by rw [rB, List.length_append, mO s fl k j]; rfl
theorem TQ {fl : Fl} {k j : Nat} (hj : k + j ≤ N) {f : Nat} (hf : j ≤ f) (hz : aU s (k + j) ≤ s.size) : pH s fl (aU s (k + j)) f [] (aU s k) = (rB s fl k j, aU s (k + j)) := by
  have key : ∀ d i, i + d = j → ∀ f, d ≤ f → pH s fl (aU s (k + j)) f (rB s fl k i) (aU s (k + i)) = (rB s fl k j, aU s (k + j)) := by
    intro d
    induction d with
    | zero => intro i hi f _; obtain rfl : i = j := by omega
              exact EA (Nat.lt_irrefl _)
    | succ d ih =>
      intro i hi f hf
      obtain ⟨f', rfl⟩ : ∃ f', f = f' + 1 := ⟨f - 1, by omega⟩
      rw [KZ (mP hU.2 (show k + i < k + j by omega) hj)]
      exact ih (i + 1) (by omega) f' (by omega)
  exact key j 0 (by omega) f hf
end
theorem Fr.perm {w : World} {l1 l2 : List Nat} (h : Fr w l1) (p : l1.Perm l2) : Fr w l2 := ⟨p.nodup_iff.1 h.nd, fun b hb => h.ge b (p.mem_iff.2 hb)⟩
theorem perm_in (a b c d : List Nat) : ((a ++ (b ++ c)) ++ d).Perm (a ++ ((b ++ d) ++ c)) := by
  rw [List.append_assoc, List.append_assoc, List.append_assoc]
  exact ((List.perm_append_comm (l₁ := c) (l₂ := d)).append_left b).append_left a
theorem Fr.grow1 {w w1 w2 : World} {o o2 : Option Nat} {bs bx rest : List Nat} (h : Fr w ((o.toList ++ bs) ++ rest)) (hl : ∀ b, b ∈ (o.toList ++ bs) ++ rest → b < w1.heap.size) (hx : Fr w1 bx) (hx2 : ∀ b, b ∈ bx → b < w2.heap.size) (hw : w.heap.size ≤ w1.heap.size) (h12 : w1.heap.size ≤ w2.heap.size)
    (hob : o2 = o ∨ ∃ g, o2 = some g ∧ w2.heap.size ≤ g) : Fr w ((o2.toList ++ (bs ++ bx)) ++ rest) := by
  rw [List.append_assoc] at h hl
  have h1 := Fr.grow (bs := bs ++ rest) h hl hx hx2 hw h12 hob
  exact h1.perm (perm_in _ _ _ _).symm
theorem Fr.over {w w2 : World} {o o2 : Option Nat} {b1 bx bs : List Nat} (h : Fr w (b1 ++ (o.toList ++ bs))) (hsub : bx.Sublist b1) (hl : ∀ b, b ∈ b1 ++ (o.toList ++ bs) → b < w2.heap.size) (hw : w.heap.size ≤ w2.heap.size) (hob : o2 = o ∨ ∃ g, o2 = some g ∧ w2.heap.size ≤ g) : Fr w (o2.toList ++ (bs ++ bx)) := by
  have h1 : Fr w (bx ++ (o.toList ++ bs)) := h.sub (hsub.append_right _)
  have h2 : Fr w (o.toList ++ (bs ++ bx)) := by
    refine h1.perm ?_
    refine List.perm_append_comm.trans ?_
    rw [List.append_assoc]
  rcases hob with rfl | ⟨g, rfl, hg⟩
  · exact h2
  · refine ⟨List.nodup_cons.2 ⟨fun hm => ?_, (List.nodup_append.1 h2.nd).2.1⟩, fun b hb => ?_⟩
    · have hm' : g ∈ bs ++ bx := by simpa using hm
      have : g < w2.heap.size := hl g (by
        rcases List.mem_append.1 hm' with h9 | h9
        · exact List.mem_append_right _ (List.mem_append_right _ h9)
        · exact List.mem_append_left _ (hsub.subset h9))
      omega
    · rcases List.mem_cons.1 hb with rfl | hb
      · omega
      · exact h2.ge b (List.mem_append_right _ hb)
theorem Fr.wrap {w w1 : World} {o b1 b2 rest : List Nat} {g : Nat} (h : Fr w ((o ++ (b1 ++ b2)) ++ rest)) (hl : ∀ b, b ∈ (o ++ (b1 ++ b2)) ++ rest → b < w1.heap.size) (hg : w1.heap.size ≤ g) (hw : w.heap.size ≤ w1.heap.size) : Fr w ((o ++ (b1 ++ (g :: b2))) ++ rest) := by
  have e : ((o ++ (b1 ++ b2)) ++ rest).Perm (o ++ (b1 ++ (b2 ++ rest))) := by rw [List.append_assoc, List.append_assoc]
  have e2 : ((o ++ (b1 ++ (g :: b2))) ++ rest) = (o ++ (b1 ++ (g :: (b2 ++ rest)))) := by rw [List.append_assoc, List.append_assoc]; rfl
  rw [e2]
  exact Fr.insert (h.perm e) (fun b hb => hl b (e.mem_iff.2 hb)) hg hw
theorem tr_ty {w : World} {qa : Option Addr} {n qc : Nat} {cs : List Value} {qo : Option Nat} {l : List Rx} {bs : List Nat} (hO : OwnS w 27 9 qa n qc cs qo) (hT : OTs l w cs bs) {q : Nat} (hq : q ∈ qo.toList ++ bs) : ∃ cs T, w.heap[q]? = some (.cells cs T (0, 0)) ∧ (T = 27 ∨ T = 56) := by
  rcases List.mem_append.1 hq with hq | hq
  · obtain ⟨c, hc⟩ := wL hO q hq; exact ⟨c, _, hc, .inl rfl⟩
  · exact hT.types q hq
theorem RU {w : World} {q : Nat} {T : TypeId} (h : ∃ cs T, w.heap[q]? = some (.cells cs T (0, 0)) ∧ (T = 27 ∨ T = 56)) {c : Array Value} (h2 : w.heap[q]? = some (.cells c T (0, 0))) (hT : ¬ (T = 27 ∨ T = 56)) : False := by
  obtain ⟨c1, T1, h1, h3⟩ := h
  rw [h2] at h1
  injection h1 with h1
  injection h1 with _ h1
  rw [← h1] at h3
  exact hT h3
theorem HY {w : World} {b : Nat} {s : ByteArray} {N : Nat} {x : RfS} {m : RfM} (hR : RfAt w b s N x m) {qa : Option Addr} {n qc : Nat} {cs : List Value} {qo : Option Nat} {l : List Rx} {bs : List Nat} (hO : OwnS w 27 9 qa n qc cs qo) (hT : OTs l w cs bs) : ∀ q, q ∈ qo.toList ++ bs → q ∉ b :: m.nb.toList := fun q hq hm => by
  have h := tr_ty hO hT hq
  rcases List.mem_cons.1 hm with rfl | hm
  · exact RU h hR.blk (by decide +kernel)
  · obtain ⟨c2, h2⟩ := wL hR.own q hm
    exact RU h h2 (by decide +kernel)
theorem NS {w : World} {b : Nat} {c : Array Value} {T : TypeId} (hb : w.heap[b]? = some (.cells c T (0, 0))) (hn : ¬ (T = 27 ∨ T = 56)) {qa : Option Addr} {n qc : Nat} {cs : List Value} {qo : Option Nat} {l : List Rx} {bs : List Nat} (hO : OwnS w 27 9 qa n qc cs qo) (hT : OTs l w cs bs) : ∀ q, q ∈ qo.toList ++ bs → q ∉ [b] := fun q hq hm => by
  rw [List.mem_singleton.1 hm] at hq
  exact RU (tr_ty hO hT hq) hb hn
theorem JZ : dW Tryz.prog 64 := ⟨_, Tryz.func64, by kernel_rfl, by kernel_rfl⟩
theorem JY : dW Tryz.prog 65 := ⟨_, Tryz.func65, by kernel_rfl, by kernel_rfl⟩
theorem sR : dW Tryz.prog 66 := ⟨_, Tryz.func66, by kernel_rfl, by kernel_rfl⟩
theorem JX : dW Tryz.prog 68 := ⟨_, Tryz.func68, by kernel_rfl, by kernel_rfl⟩
structure XpG where
  f : Nat
  f2 : Nat
  k : Nat
  n : Nat
  n2 : Nat
  e : Int
  fl : Fl
  xs : List Rx
  l : List Rx
  ah : Bool
  qa : Option Addr
  qc : Nat
  qo : Option Nat
  bs : List Nat
  aa : Option Addr
  ac : Nat
  ao : Option Nat
  bs2 : List Nat
  ns : List ByteArray
  na : Option Addr
  nc : Nat
  nb : Option Nat
structure XpI (w wr : World) (b : Nat) (s : ByteArray) (N k0 o : Nat) (m : RfM) (ex : PS → PX Rx) (R : PX Rx) (b3 b4 : Nat) (x : XpG) : Prop where
  hr : RfAt wr b s N ⟨x.k, o, x.ns, x.e⟩ (m.nm x.na x.nc x.nb)
  h3 : wr.heap[b3]? = some (.cells (flv x.fl).toArray 75 (0, 0))
  h4 : wr.heap[b4]? = some (.cells #[iv 0, .int .i32 0, .slice none 0 0, iv 0, iv 0, .bool false, iv 0, .string ByteArray.empty, .slice none 0 0] 27 (0, 0))
  p : ∃ cs, OwnS wr 27 9 x.qa x.n x.qc cs x.qo ∧ (x.e = 0 → OTs x.l wr cs x.bs) ∧ (x.e ≠ 0 → x.n = 1 → Jk (.agg cs.toArray))
  a : ∃ cs, OwnS wr 27 9 x.aa x.n2 x.ac cs x.ao ∧ OTs x.xs wr cs x.bs2
  fr : Fr w ((x.qo.toList ++ x.bs) ++ (x.ao.toList ++ x.bs2))
  a4 : b4 ∉ (x.qo.toList ++ x.bs) ++ (x.ao.toList ++ x.bs2)
  nbo : NB w m.nb x.nb
  len : x.l.length + x.xs.length ≤ N + 2
  D : (x.e = 0 ∧ k0 ≤ x.k ∧ x.k ≤ N ∧ x.ns.length ≤ 100 ∧ R = uC s ex x.xs x.f x.l x.ah ⟨aU s x.k, x.fl, o, x.ns⟩ x.f2 ∧ s.size + 1 ≤ x.f + aU s x.k ∧ s.size + 1 ≤ x.f2 + aU s x.k ∧ (x.ah = true → x.l ≠ []) ∧ x.l.length + x.xs.length ≤ x.k) ∨ (x.e ≠ 0 ∧ R = .error x.e ∧ x.k + o ≤ N + 251)
structure QtG where
  j : Nat
  z : Bool
  n3 : Nat
  qa3 : Option Addr
  qc3 : Nat
  qo3 : Option Nat
  bs3 : List Nat
structure QtI (w wr : World) (b : Nat) (s : ByteArray) (N k o : Nat) (m : RfM) (b3 b4 : Nat) (fl : Fl) (l xs : List Rx) (ns : List ByteArray) (aa : Option Addr) (n2 ac : Nat) (ao : Option Nat) (bs2 : List Nat) (x : QtG) : Prop where
  hr : RfAt wr b s N ⟨k + (2 + x.j), o, ns, 0⟩ m
  h3 : wr.heap[b3]? = some (.cells (flv fl).toArray 75 (0, 0))
  h4 : wr.heap[b4]? = some (.cells #[iv 0, .int .i32 0, .slice none 0 0, iv 0, iv 0, .bool false, iv 0, .string ByteArray.empty, .slice none 0 0] 27 (0, 0))
  p : ∃ cs, OwnS wr 27 9 x.qa3 x.n3 x.qc3 cs x.qo3 ∧ OTs (l ++ rB s fl (k + 2) x.j) wr cs x.bs3
  a : ∃ cs, OwnS wr 27 9 aa n2 ac cs ao ∧ OTs xs wr cs bs2
  fr : Fr w ((x.qo3.toList ++ x.bs3) ++ (ao.toList ++ bs2))
  a4 : b4 ∉ (x.qo3.toList ++ x.bs3) ++ (ao.toList ++ bs2)
  fq : FnQ s N k (2 + x.j)
  hz : x.z = decide (0 < x.j)
structure XeG where
  k : Nat
  n : Nat
  n2 : Nat
  e : Int
  fl : Fl
  xs : List Rx
  l : List Rx
  qa : Option Addr
  qc : Nat
  qo : Option Nat
  bs : List Nat
  aa : Option Addr
  ac : Nat
  ao : Option Nat
  bs2 : List Nat
  ns : List ByteArray
  na : Option Addr
  nc : Nat
  nb : Option Nat
structure XeI (w wr : World) (b : Nat) (s : ByteArray) (N k0 o : Nat) (m : RfM) (R : PX Rx) (b4 : Nat) (x : XeG) : Prop where
  hr : RfAt wr b s N ⟨x.k, o, x.ns, x.e⟩ (m.nm x.na x.nc x.nb)
  h4 : wr.heap[b4]? = some (.cells #[iv 0, .int .i32 0, .slice none 0 0, iv 0, iv 0, .bool false, iv 0, .string ByteArray.empty, .slice none 0 0] 27 (0, 0))
  p : ∃ cs, OwnS wr 27 9 x.qa x.n x.qc cs x.qo ∧ (x.e = 0 → OTs x.l wr cs x.bs) ∧ (x.n = 1 → Jk (.agg cs.toArray))
  a : ∃ cs, OwnS wr 27 9 x.aa x.n2 x.ac cs x.ao ∧ OTs x.xs wr cs x.bs2
  fr : Fr w ((x.qo.toList ++ x.bs) ++ (x.ao.toList ++ x.bs2))
  a4 : b4 ∉ (x.qo.toList ++ x.bs) ++ (x.ao.toList ++ x.bs2)
  nbo : NB w m.nb x.nb
  len : x.l.length + x.xs.length ≤ N + 2
  D : (x.e = 0 ∧ k0 ≤ x.k ∧ x.k ≤ N ∧ x.ns.length ≤ 100 ∧ R = .ok (oA 5 (x.xs ++ [oA 4 x.l]), ⟨aU s x.k, x.fl, o, x.ns⟩)) ∨ (x.e ≠ 0 ∧ R = .error x.e ∧ x.k + o ≤ N + 251)
section
variable {s : ByteArray} {N k o : Nat} {fl : Fl} {ns : List ByteArray} {ex : PS → PX Rx} {l : List Rx} {ah : Bool} {f' : Nat} (hU : Utf s N) (hk : k < N)
include hU hk
theorem at_ng (h1 : rn s N k ≠ 124) (h2 : rn s N k ≠ 41) : ¬ (s.size ≤ aU s k ∨ sb s (aU s k) = 124 ∨ sb s (aU s k) = 41) := by
  have hl := gA hU hk
  rintro (h | h | h)
  · omega
  · exact h1 ((dS hU (Nat.le_of_lt hk) (b := 124) (by decide)).2 ⟨hl, h⟩)
  · exact h2 ((dS hU (Nat.le_of_lt hk) (b := 41) (by decide)).2 ⟨hl, h⟩)
omit hU hk in
theorem at_set {n9 : Nat} {g9 : Fl} {lo hi : Int} (hng : ¬ (s.size ≤ aU s k ∨ sb s (aU s k) = 124 ∨ sb s (aU s k) = 41)) (hrp : kY (tl s (aU s k)) = (lo, hi, 0)) (hS : SeIs s N k fl n9 g9) (hn : n9 ≠ 0) : iR s ex (f' + 1) l ah ⟨aU s k, fl, o, ns⟩ = iR s ex f' l false ⟨aU s (k + n9), g9, o, ns⟩ := by
  obtain ⟨h1, h2, h3, h4⟩ := hS.yes hn
  have h5 : fQ s ex ⟨aU s k, fl, o, ns⟩ = .ok ([], ⟨aU s (k + n9), g9, o, ns⟩) := by
    rw [HR (st := ⟨aU s k, fl, o, ns⟩) h1.2, WV (st := ⟨aU s k, fl, o, ns⟩) h2 rfl rfl, h4]
  rw [BD (st := ⟨aU s k, fl, o, ns⟩) hng hrp h5, List.append_nil, show decide (0 < ([] : List Rx).length) = false from decide_eq_false (by simp)]
end
theorem PxO.un {s : ByteArray} {N b : Nat} {m : RfM} {o k : Nat} {fl : Fl} {w w' : World} {v : Value} {R : PL} (h : PxO s N b m o k fl w w' v R) : ∃ k' ns' na nc nb e bx x, RfAt w' b s N ⟨k', o, ns', e⟩ (m.nm na nc nb) ∧ NB w m.nb nb ∧ Jk v ∧ Fr w bx ∧ (∀ q, q ∈ bx → q < w'.heap.size) ∧
    ((e = 0 ∧ R = .ok ([x], ⟨aU s k', fl, o, ns'⟩) ∧ k < k' ∧ k' ≤ N ∧ ns'.length ≤ 100 ∧ ∃ vs, v = .agg vs.toArray ∧ OT x w' vs bx) ∨ (e ≠ 0 ∧ R = .error e ∧ k' + o ≤ N + 251)) := by
  have hj := h.jk
  rcases h with ⟨x, k', ns', na, nc, nb, h1, h2, h3, h4, ⟨vs, bs, hv, h5, h6⟩, h7, h8⟩ | ⟨e, k', ns', na, nc, nb, h1, h2, h3, h4, h5, h6⟩
  · exact ⟨k', ns', na, nc, nb, 0, bs, x, h7, h8, hj, h6, h5.lt, .inl ⟨rfl, h1, h2, h3, h4, vs, hv, h5⟩⟩
  · exact ⟨k', ns', na, nc, nb, e, [], rxK 1, h5, h6, h4, Fr.nil _, (fun q hq => by cases hq), .inr ⟨h2, h1, h3⟩⟩
theorem at_pc {s : ByteArray} {k k' o : Nat} {fl : Fl} {ns ns' : List ByteArray} {ex : PS → PX Rx} {l : List Rx} {ah : Bool} {f' : Nat} {lo hi : Int} {x : Rx} (hng : ¬ (s.size ≤ aU s k ∨ sb s (aU s k) = 124 ∨ sb s (aU s k) = 41)) (hrp : kY (tl s (aU s k)) = (lo, hi, 0)) (h : fQ s ex ⟨aU s k, fl, o, ns⟩ = .ok ([x], ⟨aU s k', fl, o, ns'⟩)) :
    iR s ex (f' + 1) l ah ⟨aU s k, fl, o, ns⟩ = iR s ex f' (l ++ [x]) true ⟨aU s k', fl, o, ns'⟩ := by
  rw [BD (st := ⟨aU s k, fl, o, ns⟩) hng hrp h, show decide (0 < [x].length) = true from decide_eq_true (by simp)]
theorem TA {s : ByteArray} {N k o j K f' : Nat} {fl : Fl} {ns : List ByteArray} {ex : PS → PX Rx} {l : List Rx} {ah : Bool} {lo hi : Int} (hU : Utf s N) (h1 : isB s (aU s k) 92) (h3 : aU s (k + 1) = aU s k + 1) (h2 : isB s (aU s (k + 1)) 81) (ho : aU s (k + 2) = aU s k + 2) (hf : FnQ s N k (2 + j))
    (hng : ¬ (s.size ≤ aU s k ∨ sb s (aU s k) = 124 ∨ sb s (aU s k) = 41)) (hrp : kY (tl s (aU s k)) = (lo, hi, 0))
    (hK : (¬ k + (2 + j) < N ∧ K = N) ∨ (k + (2 + j) < N ∧ rn s N (k + (2 + j)) = 92 ∧ rn s N (k + (2 + j + 1)) = 69 ∧ K = min (k + (2 + j + 2)) N)) :
    iR s ex (f' + 1) l ah ⟨aU s k, fl, o, ns⟩ = iR s ex f' (l ++ rB s fl (k + 2) j) (decide (0 < j)) ⟨aU s K, fl, o, ns⟩ ∧ K ≤ N ∧ k + (2 + j) ≤ K := by
  have hj := hf.le
  have hp : fQ s ex ⟨aU s k, fl, o, ns⟩ = qG s ⟨aU s k, fl, o, ns⟩ := by
    rw [NG (st := ⟨aU s k, fl, o, ns⟩) h1.2, es_Q (st := ⟨aU s k, fl, o, ns⟩) (by show ¬ s.size ≤ aU s k + 1; have := h2.1; omega) (by show sb s (aU s k + 1) = 81; rw [← h3]; exact h2.2)]
  have hge : N ≤ s.size := by have h9 := EN hU.2; rw [hU.1] at h9; exact h9
  have hq : pH s fl (aU s (k + (2 + j))) s.size [] (aU s k + 2) = (rB s fl (k + 2) j, aU s (k + (2 + j))) := by
    rw [← ho, ← Nat.add_assoc]
    have hjz : j ≤ s.size := by omega
    exact TQ hU (by omega) hjz (jF s _)
  have key : fQ s ex ⟨aU s k, fl, o, ns⟩ = .ok (rB s fl (k + 2) j, ⟨aU s K, fl, o, ns⟩) ∧ K ≤ N ∧ k + (2 + j) ≤ K := by
    rcases hK with ⟨hn, rfl⟩ | ⟨hn, r1, r2, rfl⟩
    · have e : k + (2 + j) = K := by omega
      rw [e, rI hU] at hq
      refine ⟨?_, Nat.le_refl _, by omega⟩
      rw [hp, ND (st := ⟨aU s k, fl, o, ns⟩) (hf.miss hU hn), rI hU]
      show Except.ok ((pH s fl s.size s.size [] (aU s k + 2)).1, (⟨(pH s fl s.size s.size [] (aU s k + 2)).2, fl, o, ns⟩ : PS)) = _
      rw [hq]
    · obtain ⟨a1, a2, a3⟩ := hf.hit hU hn r1 r2 ho
      rw [Nat.min_eq_left a3]
      refine ⟨?_, a3, by omega⟩
      rw [hp, NC (st := ⟨aU s k, fl, o, ns⟩) a1, a2]
      show Except.ok ((pH s fl (aU s (k + (2 + j))) s.size [] (aU s k + 2)).1, (⟨(pH s fl (aU s (k + (2 + j))) s.size [] (aU s k + 2)).2 + 2, fl, o, ns⟩ : PS)) = _
      rw [hq]
  refine ⟨?_, key.2⟩
  rw [BD (st := ⟨aU s k, fl, o, ns⟩) hng hrp key.1, mO]
theorem HM {w : World} {b : Nat} {s : ByteArray} {N k0 o : Nat} {ns0 : List ByteArray} {e0 : Int} {m : RfM} (hR : RfAt w b s N ⟨k0, o, ns0, e0⟩ m) {fl0 : Fl} {R : PX Rx} {ex : PS → PX Rx} (hU : Utf s N) (hN : N ≤ 10000) (hs : s.size ≤ 10000) (ho : o ≤ 250) (hex : o < 250 → ExR b s N m (o + 1) ex)
  (h0 : e0 = 0 → k0 ≤ N ∧ ns0.length ≤ 100 ∧ R = nC s ex ⟨aU s k0, fl0, o, ns0⟩) (h1 : e0 ≠ 0 → R = .error e0 ∧ k0 + o ≤ N + 251 ∧ ns0.length ≤ 1000) :
    Calls Tryz.prog 39 #[.pointer (some ⟨b, 0, none⟩), .agg (flv fl0).toArray] w (Ret fun v w' => ExO s N b m o k0 w w' v R ∧ Evo (b :: m.nb.toList) w w') := by
  have hap1 := hR.ap1; have hap2 := hR.ap2; have hap3 := hR.ap3
  have J7 : (e0 = 0 ∧ k0 ≤ k0 ∧ k0 ≤ N ∧ ns0.length ≤ 100 ∧ R = uC s ex [] (s.size + 1) [] false ⟨aU s k0, fl0, o, ns0⟩ (s.size + 1) ∧ s.size + 1 ≤ s.size + 1 + aU s k0 ∧ s.size + 1 ≤ s.size + 1 + aU s k0 ∧ (false = true → ([] : List Rx) ≠ []) ∧ ([] : List Rx).length + ([] : List Rx).length ≤ k0) ∨ (e0 ≠ 0 ∧ R = .error e0 ∧ k0 + o ≤ N + 251) := by
    by_cases h9 : e0 = 0
    · obtain ⟨a1, a2, a3⟩ := h0 h9
      exact .inl ⟨h9, Nat.le_refl _, a1, a2, a3.trans (MF s ex _), Nat.le_add_right _ _, Nat.le_add_right _ _, (fun h => by cases h), Nat.zero_le _⟩
    · exact .inr ⟨h9, (h1 h9).1, (h1 h9).2.1⟩
  refine bE (N := 224) Tryz.func39 rfl rfl rfl ?_; refine csr (iM rfl rfl fun b3 w1 H7 p1 j5 => ?_); have J8 := p1; have H8 := (Evo.refl (b :: m.nb.toList) w).then j5; refine cO rfl dC fun b4 P9 I0 g8 j6 => ?_; have J9 := g8; have hA3r := (Apart.new (Lt.blk hR.b0) p1).symm; have hA3u := (Apart.new (Lt.own hR.run) p1).symm; have hA3n := (Apart.new (Lt.own hR.o0) p1).symm; have hA4r := (Apart.new (Lt.blk (j5.blk0 hR.b0)) g8).symm; have hA4u := (Apart.new (Lt.own (hR.run.evo0 j5)) g8).symm; have hA4n := (Apart.new (Lt.own (hR.o0.evo0 j5)) g8).symm; have hg3 := (Ge.new (Evo.refl (b :: m.nb.toList) w) p1); have hg4 := (Ge.new H8 g8); refine wnn (csr (bN (wan (csr (wan (aM (gR (α := XeG) (fun x => [(5, .slice x.aa x.n2 x.ac), (6, .slice x.qa x.n x.qc)]) [(4, _)] (fun x wr => Evo (b :: m.nb.toList) w wr ∧ (XeI w wr b s N k0 o m R b4 x)) ⟨rfl, trivial⟩ ?_ ?_)))))))
  ·refine bK ?_; refine dL (α := XpG) (⟨s.size + 1, s.size + 1, k0, 0, 0, e0, fl0, [], [], false, none, 0, none, [], none, 0, none, [], ns0, m.na, m.nc, m.nb⟩) (fun x => [(5, .slice x.aa x.n2 x.ac), (6, .slice x.qa x.n x.qc), (7, .bool x.ah)]) [(0, _), (3, _), (4, _)] (fun x wr => Evo (b :: m.nb.toList) w wr ∧ (XpI w wr b s N k0 o m ex R b3 b4 x)) (fun x => (if x.e = 0 then N + 1 - x.k else 0)) ⟨rfl, rfl, rfl, trivial⟩ ⟨rfl, rfl, rfl, trivial⟩ ⟨(H8.then j6), ⟨⟨(j6.blk0 (j5.blk0 hR.b0)), ((hR.run.evo0 j5).evo0 j6), ((hR.o0.evo0 j5).evo0 j6)⟩, (j6.blk0 H7), I0, ⟨[], OwnS.nil _ _ _, fun _ => OTs.nil _, fun _ h => by cases h⟩, ⟨[], OwnS.nil _ _ _, OTs.nil _⟩, Fr.nil _, List.not_mem_nil, .inl rfl, Nat.zero_le _, J7⟩⟩ ?_; rintro ⟨f, f2, k, n, n2, e, fl, xs, l, ah, qa, qc, qo, bs, aa, ac, ao, bs2, ns, na, nc, nb⟩ wr27 ⟨I1, ⟨D, h3, h4, ⟨cs, hown, hts0, hjk⟩, ⟨csA, hownA, htsA⟩, hfr, ha4, hnb, hlen, hD⟩⟩; show CW _ _ _ _ [(5, .slice aa n2 ac), (6, .slice qa n qc), (7, .bool ah), (0, _), (3, _), (4, _)] _
   try dsimp only at D h3 h4 cs hown hts0 hjk csA hownA htsA hfr ha4 hnb hlen hD
   have hp1 := D.ap1; have hp3 := D.ap3; have hp4 := fO h3 D.own (by decide +kernel); have hp5 := fO h4 D.own (by decide +kernel); have hp6 := (fO D.b0 hown (by decide +kernel)).symm; have hp7 := gZ hown D.own (by decide +kernel); have hp8 := gZ hown D.run (by decide +kernel); have hp9 := (fO h3 hown (by decide +kernel)).symm; have hp10 := (BC (fun h => ha4 (List.mem_append_left _ h))).symm; have f7 := (fO D.b0 hownA (by decide +kernel)).symm; have z7 := gZ hownA D.own (by decide +kernel); have z8 := gZ hownA D.run (by decide +kernel); have f8 := (fO h3 hownA (by decide +kernel)).symm; have j9 := (BC (fun h => ha4 (List.mem_append_right _ h))).symm; have hp11 : Apart qo ao := fun g h7 h8 => (List.nodup_append.1 hfr.nd).2.2 g (List.mem_append_left _ (by simp [h7])) g (List.mem_append_left _ (by simp [h8])) rfl; have nma := HY D hownA htsA; have nb3a := NS h3 (by decide +kernel) hownA htsA; refine aM (aM ?_); refine fR (fun w0 w' => Evo [] w0 w') (by kernel_rfl) (fun B e8 => ?_); have k1 := I1.then e8; have g2 := e8.blk0 D.b0; have k3 := D.run.evo0 e8; have k4 := D.o0.evo0 e8; have k5 := e8.blk0 h4; have k6 := hown.evo0 e8; have k7 := hownA.evo0 e8; have k8 := htsA.evo0 e8; refine aet 0 rfl (fun _ hS => bC rfl) (Evo.refl [] B) ?_; refine aet 1 rfl (fun _ hS => aH rfl) (Evo.refl [] B) ?_; refine aet 2 rfl (fun _ hS => aD rfl iY) (Evo.refl [] B) ?_
   refine aet 3 rfl (fun _ hS => aX rfl bD (bI (hS.blk0 g2) rfl)) (Evo.refl [] B) ?_; refine aet 4 rfl (fun _ hS => kK rfl rfl) (Evo.refl [] B) ?_; refine aet 5 rfl (fun _ hS => bC rfl) (Evo.refl [] B) ?_; refine qT (t := 21) rfl (fun I2 => ?_) (fun I2 => ?_)
   ·obtain ⟨he0, hk0, hkN, hnl, hRc, hf1, hf2, hah, hlk⟩ := hD.resolve_right (fun h9 => h9.1 (by omega)); subst he0; replace hf1 : s.size + 1 ≤ f + aU s k := hf1; replace hf2 : s.size + 1 ≤ f2 + aU s k := hf2; replace hlk : l.length + xs.length ≤ k := hlk; have nmq := HY D hown (hts0 rfl); have nb3 := NS h3 (by decide +kernel) hown (hts0 rfl); have hts := (hts0 rfl).evo0 ((Evo.refl ([]) wr27).then e8); refine eL 6 rfl rfl rfl rfl rfl (by kernel_rfl) (by kernel_rfl) (by kernel_rfl) rfl (fun _ hS => bC rfl) (Evo.refl [] B) ?_; refine eL 7 rfl rfl rfl rfl rfl (by kernel_rfl) (by kernel_rfl) (by kernel_rfl) rfl (fun _ hS => aH rfl) (Evo.refl [] B) ?_; refine eL 8 rfl rfl rfl rfl rfl (by kernel_rfl) (by kernel_rfl) (by kernel_rfl) rfl (fun _ hS => aD rfl bO) (Evo.refl [] B) ?_; refine eL 9 rfl rfl rfl rfl rfl (by kernel_rfl) (by kernel_rfl) (by kernel_rfl) rfl (fun _ hS => aX rfl bD (bI (hS.blk0 g2) rfl)) (Evo.refl [] B) ?_; refine eL 10 rfl rfl rfl rfl rfl (by kernel_rfl) (by kernel_rfl) (by kernel_rfl) rfl (fun _ hS => bC rfl) (Evo.refl [] B) ?_; refine eL 11 rfl rfl rfl rfl rfl (by kernel_rfl) (by kernel_rfl) (by kernel_rfl) rfl (fun _ hS => aH rfl) (Evo.refl [] B) ?_; refine eL 12 rfl rfl rfl rfl rfl (by kernel_rfl) (by kernel_rfl) (by kernel_rfl) rfl (fun _ hS => aD rfl fL) (Evo.refl [] B) ?_; refine eL 13 rfl rfl rfl rfl rfl (by kernel_rfl) (by kernel_rfl) (by kernel_rfl) rfl (fun _ hS => aX rfl gD (bI (hS.blk0 g2) rfl)) (Evo.refl [] B) ?_
    refine eL 14 rfl rfl rfl rfl rfl (by kernel_rfl) (by kernel_rfl) (by kernel_rfl) rfl (fun _ hS => bM rfl Tryz.underlying67 rfl) (Evo.refl [] B) ?_; refine eL 15 rfl rfl rfl rfl rfl (by kernel_rfl) (by kernel_rfl) (by kernel_rfl) rfl (fun _ hS => dA rfl rfl) (Evo.refl [] B) ?_; refine aet 16 rfl (fun _ hS => eP rfl rfl) (Evo.refl [] B) ?_; refine aet 17 rfl (fun _ hS => bC rfl) (Evo.refl [] B) ?_; refine qT (t := 33) rfl (fun I3 => ?_) (fun I3 => ?_)
    ·refine eL 18 rfl rfl rfl rfl rfl (by kernel_rfl) (by kernel_rfl) (by kernel_rfl) rfl (fun _ hS => bC rfl) (Evo.refl [] B) ?_; refine cA [19] (by kernel_rfl) rfl ⟨?_, trivial⟩; refine cG rfl ?_; refine aW ?_
     refine aG (vs := [_, _]) cJ rfl (dK (x := ⟨k, o, ns, 0⟩) ⟨g2, k3, k4⟩ 0 (by show k + 0 ≤ 1000000000; omega) (by omega)) rfl ?_
     rintro _ Q0 ⟨rfl, W⟩; have p2 := (Evo.refl [] B).then W; have l0 := W.blk0 g2; have l1 := k3.evo0 W; have l2 := k4.evo0 W; have p3 := k6.evo0 W; have p4 := hts.evo0 W; refine aR (bV (.inl p2) ?_); refine eL 20 rfl rfl rfl rfl rfl (by kernel_rfl) (by kernel_rfl) (by kernel_rfl) rfl (fun _ hS => fE rfl rfl) p2 ?_; refine aet 21 rfl (fun _ hS => eP rfl rfl) p2 ?_; refine dB (by kernel_rfl) (aC ?_); refine aZ rfl (fun p5 => ?_) (fun p5 => ?_)
     ·refine aN (aC (bK (aM ?_)))
      have hkk : k < N := by omega
      refine aF (aA ?_); refine aG (vs := [_]) JZ rfl (KT (x := ⟨k, o, ns, 0⟩) ⟨l0, l1, l2⟩ hU hkk (by omega)) rfl ?_; rintro _ Q1 ⟨nn, lo, hi, rfl, hRp, b7⟩; have p6 := b7.blk0 (W.blk0 (e8.blk0 h3)); replace hRp : RpIs s N k nn lo hi := hRp; obtain ⟨hlo0, hlo1, hhi0, hhi1, hrp, hrle, hrof⟩ := id hRp; refine aA (aB (cC rfl rfl) ?_); refine aB (cC rfl rfl) ?_; refine aB (cC rfl rfl) ?_; refine bN (bN (wan (csr (aA (aB (bX rfl dU cN p6 rfl) ?_))))); refine aG (vs := [_, _]) JY rfl (HI (x := ⟨k, o, ns, 0⟩) ⟨(b7.blk0 l0), (l1.evo0 b7), (l2.evo0 b7)⟩ hU hkN (by omega)) rfl ?_; rintro _ Q2 ⟨n9, g9, rfl, hSe, d9⟩; have z9 := ((k1.then W).then b7).then d9; have A0 := d9.blk0 (b7.blk0 l0); have A1 := (l1.evo0 b7).evo0 d9; have A2 := (l2.evo0 b7).evo0 d9; have A3 := d9.blk0 (b7.blk0 (W.blk0 k5)); have p7 := (p3.evo0 b7).evo0 d9; have p8 := ((k7.evo0 W).evo0 b7).evo0 d9; replace hSe : SeIs s N k fl n9 g9 := hSe; refine aA (aB (cC rfl rfl) ?_); refine aB (cC rfl rfl) ?_; refine cO rfl nV fun Q3 Q4 p9 e9 d1 => ?_; have J5 := e9; have A4 := Apart.new (Lt.blk A0) e9; have A5 := (((k8.evo0 W).evo0 b7).evo0 d9).evo0 d1; have q6 := ((p4.evo0 b7).evo0 d9).evo0 d1; have nb11 := NS p9 (by decide +kernel) (p7.evo0 d1) q6; have nb11a := NS p9 (by decide +kernel) (p8.evo0 d1) A5
      refine aV rfl rfl cN p9 rfl rfl ⟨rfl, rfl, rfl, rfl, trivial⟩ fun L3 q7 b8 => ?_; have q8 := b8.blk (d1.blk0 A0) A4.nmem1; have q9 := (A1.evo0 d1).evo b8 (Apart.new (Lt.own A1) e9).own1; have r0 := (A2.evo0 d1).evo b8 (Apart.new (Lt.own A2) e9).own1; have B1 := A5.evo b8 (fun q hq => nb11a q (List.mem_append_right _ hq)); have B2 := q6.evo b8 (fun q hq => nb11 q (List.mem_append_right _ hq))
      try simp only [cH, Nat.reduceAdd] at q7
      refine wan (bK (csr (aA ?_)))
      refine aG (vs := [_, _]) cJ rfl (dK (x := ⟨k, o, ns, 0⟩) ⟨q8, q9, r0⟩ 0 (by show k + 0 ≤ 1000000000; omega) (by omega)) rfl ?_
      rintro _ j7 ⟨rfl, Y⟩; have e1 := ((z9.then d1).step b8 (Ge.new z9 e9).mem1).then Y; have I := Y.blk0 q8; have Z := q9.evo0 Y; have a0 := r0.evo0 Y; have i2 := Y.blk0 (b8.blk (d1.blk0 (d9.blk0 p6)) (Apart.new (Lt.blk (d9.blk0 p6)) e9).nmem1); have e2 := Y.blk0 (b8.blk (d1.blk0 A3) (Apart.new (Lt.blk A3) e9).nmem1); have i3 := ((p7.evo0 d1).evo b8 (Apart.new (Lt.own p7) e9).own1).evo0 Y; have i4 := ((p8.evo0 d1).evo b8 (Apart.new (Lt.own p8) e9).own1).evo0 Y; have i5 := B1.evo0 Y; have i6 := B2.evo0 Y; refine wel ?_; refine wan (aZ rfl (fun q0 => ?_) (fun q0 => ?_))
      ·have hc57b := dR (b := 124) hU hkN (by decide) q0
       obtain ⟨f2', rfl⟩ : ∃ f2', f2 = f2' + 1 := ⟨f2 - 1, by have := gA hU hkk; omega⟩
       have hbar := WQ (s := s) (ex := ex) (A := xs) (f := f) (l := l) (ah := ah) (sx := ⟨aU s k, fl, o, ns⟩) (f2 := f2') hc57b.1; refine csr (aA (aB (aH rfl) (wfl rfl bO rfl bD I rfl ?_))); refine aB (aI rfl rfl (by omega) (by omega)) ?_; refine aB (aH rfl) (aB (aD rfl bO) (bJ rfl rfl (rfl) bY I rfl fun L4 r1 d3 => ?_))
       have B3 := e1.step d3 (fun y hy => .inl (by rw [List.mem_singleton.1 hy]; simp))
       have r5 := i3.evo d3 hp6.own1; have B4 := i5.evo d3 (fun q hq h => nma q (List.mem_append_right _ hq) (lR q h)); have r6 := i6.evo d3 (fun q hq h => nmq q (List.mem_append_right _ hq) (lR q h))
       try simp only [cH, Nat.reduceAdd] at r1
       refine wnn (csr (aA (aA ?_))); refine aG (vs := [_]) sR rfl (rrow_ok r5 r6 (by omega)) rfl ?_; rintro _ L5 ⟨⟨vs, bs', rfl, hOT, hsub⟩, b9⟩; obtain ⟨ra, rc, ka, kc, rfl⟩ := id hOT.nine; refine bL (vs := [_]) rfl cY rfl rfl rfl rfl fun L6 L7 B5 K9 a4 => ?_; have r7 := (B3.then b9).then a4; have r8 := a4.blk0 (b9.blk0 (d3.blk e2 hA4r.nmem1)); have s0 := ((i4.evo d3 f7.own1).evo0 b9).evo0 a4; have s1 := (B4.evo0 b9).evo0 a4; have j8 := r7; have hb49 := fF r8; have hlq := jI ((r5.evo0 b9).evo0 a4) ((r6.evo0 b9).evo0 a4); have hla := jI s0 s1; have hlall := fun q (h : q ∈ (qo.toList ++ bs) ++ (ao.toList ++ bs2)) => (List.mem_append.1 h).elim (hlq q) (hla q)
       refine cM rfl rfl rfl rfl jB s0 (Src.ofOwn B5 ⟨rfl, rfl, rfl, rfl, rfl, rfl, rfl, rfl, rfl, trivial⟩) (by have h8 := lF hownA htsA; omega) fun aa2 ac2 L8 ao2 i0 e4 hob185 => ?_
       have B6 := (hOT.evo0 a4).evo e4 (fun q hq h => (List.nodup_append.1 hfr.nd).2.2 q (hsub.subset hq) q (List.mem_append_left _ h) rfl); have hob2 := hob185; have hFr9 := Fr.over hfr hsub hlall j8.size hob2; have hnin := sB (fun h => ha4 (List.mem_append_right _ h)) hb49 (fun q hq e => ha4 (List.mem_append_left _ (hsub.subset (e ▸ hq)))) hob2; refine wan (csr (wan (aF (bN (aR (aQ (aQ (aY ?_)))))))); refine ⟨⟨s.size + 1, f2', k + 1, 0, n2 + 1, 0, fl, xs ++ [oA 4 l], [], false, none, 0, none, [], aa2, ac2, ao2, bs2 ++ bs', ns, na, nc, nb⟩, ?_, ⟨rfl, rfl, rfl, trivial⟩, ⟨rfl, rfl, rfl, trivial⟩, (r7.step e4 (fun y hy => .inr (hfr.ge y (List.mem_append_right _ (List.mem_append_left _ hy))))), ?_⟩
       · (try dsimp only); show (if (0 : Int) = 0 then _ else _) < (if (0 : Int) = 0 then _ else _); rw [if_pos rfl, if_pos rfl]; show N + 1 - (k + 1) < N + 1 - k; omega
       try dsimp only
       exact ⟨⟨(e4.blk (a4.blk0 (b9.blk0 r1)) (f7).symm.nmem), ((((Z.evo d3 (hap2).symm.own1).evo0 b9).evo0 a4).evo e4 (z8).symm.own), ((((a0.evo d3 (hp1).symm.own1).evo0 b9).evo0 a4).evo e4 (z7).symm.own)⟩, (e4.blk (a4.blk0 (b9.blk0 (d3.blk i2 hA3r.nmem1))) (f8).symm.nmem), (e4.blk r8 (j9).symm.nmem), ⟨[], OwnS.nil _ _ _, fun _ => OTs.nil _, fun h => (h rfl).elim⟩, ⟨_, i0, OTs.app (s1.evo e4 (pX (Fr.right hfr))) (OTs.single B6)⟩, hFr9, hnin, hnb, by show 0 + (xs ++ [oA 4 l]).length ≤ N + 2; rw [List.length_append]; show 0 + (xs.length + 1) ≤ N + 2; omega, .inl ⟨rfl, by show k0 ≤ k + 1; omega, hc57b.2.2, hnl, hRc.trans (hbar.trans (by rw [hc57b.2.1]; rfl)), Nat.le_add_right _ _, by show s.size + 1 ≤ f2' + aU s (k + 1); rw [hc57b.2.1]; omega, (fun h => by cases h), by show 0 + (xs ++ [oA 4 l]).length ≤ k + 1; rw [List.length_append]; show 0 + (xs.length + 1) ≤ k + 1; omega⟩⟩
      have hng := at_ng hU hkk q0 p5
      obtain ⟨f', rfl⟩ : ∃ f', f = f' + 1 := ⟨f - 1, by have := gA hU hkk; omega⟩
      refine csr (aA (aB (eW rfl rfl) ?_)); refine wan (aZ rfl (fun I4 => ?_) (fun I4 => ?_))
      ·refine aM (gR (α := Unit) (fun x => []) [(0, _), (3, _), (4, _), (5, _), (6, _), (7, _), (8, _), (9, _), (10, _)] (fun x wr => Evo [] j7 wr ∧ (ah = true ∧ lo ≤ 1000 ∧ hi ≤ 1000 ∧ ¬ (0 ≤ hi ∧ hi < lo))) ⟨rfl, rfl, rfl, rfl, rfl, rfl, rfl, rfl, rfl, trivial⟩ ?_ ?_)
       ·refine csr (aA (aB (fV rfl) ?_)); refine aA (nD (t := 78) rfl (fun f0 => ?_) (fun f0 => ?_))
        ·replace f0 := congrArg Bool.not f0; simp only [Bool.not_not, Bool.not_true, Bool.not_false] at f0; subst f0
         refine aP (aP (bW (aA (aP (aP (bW (aA (aP (aP (aP (eS ?_))))))))))); refine eS ?_; refine eS ?_; refine aP (bW (wnn (cZ rfl ?_))); refine csr (aA ?_); refine aG (vs := [_, _]) eQ rfl (mC (k := k) (o := o) (ns := ns) (e := 0) ⟨I, Z, a0⟩ 82 (by decide)) rfl ?_; rintro _ L9 ⟨rfl, s2, F⟩
         have B7 := e1.step s2 (fun y hy => .inl (by rw [List.mem_singleton.1 hy]; simp))
         have B8 := s2.blk e2 ((by first | exact hA4r.own1 | exact hA4r.nmem1)); refine wnn (csr (aB (cI (vs := []) cB rfl (cells := [_, _, _, _, _, _, _, _, _]) rfl) ?_)); refine aV rfl rfl aJ B8 rfl rfl ⟨rfl, rfl, rfl, rfl, rfl, rfl, rfl, rfl, rfl, trivial⟩ fun M0 s3 i7 => ?_
         try simp only [cH, Nat.reduceAdd] at s3
         refine wnn (aK (aE (aE (aO (aO (aE (aO (aE (aE (bT rfl (ResOk.cellA rfl bF aJ s3 rfl) ?_)))))))))); have hcc : (false : Bool) = false ∨ 1000 < min lo 1001 ∨ 1000 < min hi 1001 ∨ (0 ≤ min hi 1001 ∧ min hi 1001 < min lo 1001) := .inl rfl; exact ⟨.inr ⟨82, k, ns, na, nc, nb, hRc.trans (sI (qA (st := ⟨aU s k, fl, o, ns⟩) hng hrp (by omega) hcc)), by decide, by omega, mQ, ⟨(i7.blk F.b0 (hA4r).symm.nmem1), (F.run.evo i7 (hA4u).symm.own1), (F.o0.evo i7 (hp5).symm.own1)⟩, hnb⟩, (B7.step i7 hg4.mem1)⟩
        replace f0 := congrArg Bool.not f0; simp only [Bool.not_not, Bool.not_true, Bool.not_false] at f0; subst f0
        refine aW (aA (aW (aB (eW rfl rfl) ?_))); refine bR (aA (bH (t := 82) rfl (fun I5 => ?_) (fun I5 => ?_)))
        ·refine aP (aP (bW (aA (aP (aP (aP (eS ?_))))))); refine eS ?_; refine eS ?_; refine aP (bW (wnn (cZ rfl ?_))); refine csr (aA ?_); refine aG (vs := [_, _]) eQ rfl (mC (k := k) (o := o) (ns := ns) (e := 0) ⟨I, Z, a0⟩ 82 (by decide)) rfl ?_; rintro _ M1 ⟨rfl, s4, F⟩
         have B9 := e1.step s4 (fun y hy => .inl (by rw [List.mem_singleton.1 hy]; simp))
         have C0 := s4.blk e2 ((by first | exact hA4r.own1 | exact hA4r.nmem1)); refine wnn (csr (aB (cI (vs := []) cB rfl (cells := [_, _, _, _, _, _, _, _, _]) rfl) ?_)); refine aV rfl rfl aJ C0 rfl rfl ⟨rfl, rfl, rfl, rfl, rfl, rfl, rfl, rfl, rfl, trivial⟩ fun M2 s5 i8 => ?_
         try simp only [cH, Nat.reduceAdd] at s5
         refine wnn (aK (aE (aE (aO (aO (aE (aO (aE (aE (bT rfl (ResOk.cellA rfl bF aJ s5 rfl) ?_)))))))))); have hcc : (true : Bool) = false ∨ 1000 < min lo 1001 ∨ 1000 < min hi 1001 ∨ (0 ≤ min hi 1001 ∧ min hi 1001 < min lo 1001) := .inr (by omega); exact ⟨.inr ⟨82, k, ns, na, nc, nb, hRc.trans (sI (qA (st := ⟨aU s k, fl, o, ns⟩) hng hrp (by omega) hcc)), by decide, by omega, mQ, ⟨(i8.blk F.b0 (hA4r).symm.nmem1), (F.run.evo i8 (hA4u).symm.own1), (F.o0.evo i8 (hp5).symm.own1)⟩, hnb⟩, (B9.step i8 hg4.mem1)⟩
        refine aW (aA (aW (aB (eW rfl rfl) ?_))); refine bR (aA (bH (t := 86) rfl (fun I6 => ?_) (fun I6 => ?_)))
        ·refine aP (aP (aP (eS ?_))); refine eS ?_; refine eS ?_; refine aP (bW (wnn (cZ rfl ?_))); refine csr (aA ?_); refine aG (vs := [_, _]) eQ rfl (mC (k := k) (o := o) (ns := ns) (e := 0) ⟨I, Z, a0⟩ 82 (by decide)) rfl ?_; rintro _ M3 ⟨rfl, s6, F⟩
         have C1 := e1.step s6 (fun y hy => .inl (by rw [List.mem_singleton.1 hy]; simp))
         have C2 := s6.blk e2 ((by first | exact hA4r.own1 | exact hA4r.nmem1)); refine wnn (csr (aB (cI (vs := []) cB rfl (cells := [_, _, _, _, _, _, _, _, _]) rfl) ?_)); refine aV rfl rfl aJ C2 rfl rfl ⟨rfl, rfl, rfl, rfl, rfl, rfl, rfl, rfl, rfl, trivial⟩ fun M4 s7 i9 => ?_
         try simp only [cH, Nat.reduceAdd] at s7
         refine wnn (aK (aE (aE (aO (aO (aE (aO (aE (aE (bT rfl (ResOk.cellA rfl bF aJ s7 rfl) ?_)))))))))); have hcc : (true : Bool) = false ∨ 1000 < min lo 1001 ∨ 1000 < min hi 1001 ∨ (0 ≤ min hi 1001 ∧ min hi 1001 < min lo 1001) := .inr (by omega); exact ⟨.inr ⟨82, k, ns, na, nc, nb, hRc.trans (sI (qA (st := ⟨aU s k, fl, o, ns⟩) hng hrp (by omega) hcc)), by decide, by omega, mQ, ⟨(i9.blk F.b0 (hA4r).symm.nmem1), (F.run.evo i9 (hA4u).symm.own1), (F.o0.evo i9 (hp5).symm.own1)⟩, hnb⟩, (C1.step i9 hg4.mem1)⟩
        refine aW (aA (aW (aB (dQ rfl rfl) ?_))); refine aW (aA (bH (t := 89) rfl (fun I7 => ?_) (fun I7 => ?_)))
        ·refine aW (aA (aW (aA (aW (aB (dA rfl rfl) ?_))))); refine aW (bW (bR (wnn (aZ rfl (fun I8 => ?_) (fun I8 => ?_)))))
         ·refine csr (aA ?_); refine aG (vs := [_, _]) eQ rfl (mC (k := k) (o := o) (ns := ns) (e := 0) ⟨I, Z, a0⟩ 82 (by decide)) rfl ?_; rintro _ M5 ⟨rfl, s8, F⟩
          have C3 := e1.step s8 (fun y hy => .inl (by rw [List.mem_singleton.1 hy]; simp))
          have C4 := s8.blk e2 ((by first | exact hA4r.own1 | exact hA4r.nmem1)); refine wnn (csr (aB (cI (vs := []) cB rfl (cells := [_, _, _, _, _, _, _, _, _]) rfl) ?_)); refine aV rfl rfl aJ C4 rfl rfl ⟨rfl, rfl, rfl, rfl, rfl, rfl, rfl, rfl, rfl, trivial⟩ fun M6 s9 j0 => ?_
          try simp only [cH, Nat.reduceAdd] at s9
          refine wnn (aK (aE (aE (aO (aO (aE (aO (aE (aE (bT rfl (ResOk.cellA rfl bF aJ s9 rfl) ?_)))))))))); have hcc : (true : Bool) = false ∨ 1000 < min lo 1001 ∨ 1000 < min hi 1001 ∨ (0 ≤ min hi 1001 ∧ min hi 1001 < min lo 1001) := .inr (by omega); exact ⟨.inr ⟨82, k, ns, na, nc, nb, hRc.trans (sI (qA (st := ⟨aU s k, fl, o, ns⟩) hng hrp (by omega) hcc)), by decide, by omega, mQ, ⟨(j0.blk F.b0 (hA4r).symm.nmem1), (F.run.evo j0 (hA4u).symm.own1), (F.o0.evo j0 (hp5).symm.own1)⟩, hnb⟩, (C3.step j0 hg4.mem1)⟩
         refine aN (aY ?_); refine ⟨(), trivial, ⟨rfl, rfl, rfl, rfl, rfl, rfl, rfl, rfl, rfl, trivial⟩, (Evo.refl [] j7), ?_⟩; exact ⟨rfl, by omega, by omega, by omega⟩
        refine aP (aP (aP (aW (bR (bR (wnn (cF rfl ?_))))))); refine aN (aY ?_); refine ⟨(), trivial, ⟨rfl, rfl, rfl, rfl, rfl, rfl, rfl, rfl, rfl, trivial⟩, (Evo.refl [] j7), ?_⟩; exact ⟨rfl, by omega, by omega, by omega⟩
       rintro x M7 ⟨a5, hcc⟩; refine aC ?_; show CW _ _ _ _ [(0, _), (3, _), (4, _), (5, _), (6, _), (7, _), (8, _), (9, _), (10, _)] _; refine aM ?_; have hne9 := lF hown (hts0 rfl); have hln9 : l.length + xs.length ≤ k := hlk; have hpos9 := List.length_pos_iff.2 (hah hcc.1); refine aF (aA (aB (aH rfl) (wfl rfl bO rfl bD (a5.blk0 I) rfl (aA ?_)))); refine aB (aI rfl rfl (by omega) (by omega)) ?_; refine aB (aH rfl) (aB (aD rfl bO) (bJ rfl rfl (rfl) bY (a5.blk0 I) rfl fun M8 l3 d4 => ?_))
       have C5 := (e1.then a5).step d4 (fun y hy => .inl (by rw [List.mem_singleton.1 hy]; simp))
       have l4 := (Z.evo0 a5).evo d4 (hap2).symm.own1; have l5 := (a0.evo0 a5).evo d4 (hp1).symm.own1; have l6 := d4.blk (a5.blk0 i2) hA3r.nmem1; have C6 := (i5.evo0 a5).evo d4 (fun q hq h => nma q (List.mem_append_right _ hq) (lR q h)); have C7 := (i6.evo0 a5).evo d4 (fun q hq h => nmq q (List.mem_append_right _ hq) (lR q h))
       try simp only [cH, Nat.reduceAdd] at l3
       refine wnn (csr (wfl rfl wB rfl fI l6 rfl (wan (aM (csr (aA ?_))))))
       refine aG (vs := [_, _]) cJ rfl (dK (x := ⟨k + nn, o, ns, 0⟩) ⟨l3, l4, l5⟩ 0 (by show k + nn + 0 ≤ 1000000000; omega) (by omega)) rfl ?_
       rintro _ q1 ⟨rfl, J⟩; have l7 := C5.then J; have l8 := J.blk0 l3; have l9 := J.blk0 (d4.blk (a5.blk0 e2) hA4r.nmem1); have g3 := ((i3.evo0 a5).evo d4 hp6.own1).evo0 J; have m0 := ((i4.evo0 a5).evo d4 f7.own1).evo0 J; have m1 := C6.evo0 J; have m2 := C7.evo0 J; refine wel ?_; refine wnn (aZ rfl (fun j1 => ?_) (fun j1 => ?_))
       ·refine csr (aA (aB (aH rfl) (wfl rfl bO rfl bD l8 rfl ?_))); refine aB (aI rfl rfl (by omega) (by omega)) ?_; refine aB (aH rfl) (aB (aD rfl bO) (bJ rfl rfl (rfl) bY l8 rfl fun q3 t0 d5 => ?_))
        have t1 := l7.step d5 (fun y hy => .inl (by rw [List.mem_singleton.1 hy]; simp))
        have t2 := d5.blk l9 hA4r.nmem1; have j2 := g3.evo d5 hp6.own1; have t3 := m0.evo d5 f7.own1; have t4 := m1.evo d5 (fun q hq h => nma q (List.mem_append_right _ hq) (lR q h)); have t5 := m2.evo d5 (fun q hq h => nmq q (List.mem_append_right _ hq) (lR q h))
        try simp only [cH, Nat.reduceAdd] at t0
        refine wnn (aF (aA (aB (fV rfl) ?_))); refine wan (csr (aA (aB (bM rfl Tryz.underlying25 rfl) ?_))); refine aB (dX rfl rfl (by omega) (by omega)) ?_; refine wan (aM ?_); have hah' := hah hcc.1; obtain ⟨l', x, hlx, hdl, hgl⟩ := yJ hah'; have hne := lF hown (hts0 rfl)
        have K0 : n = l'.length + 1 := by rw [hne, hlx]; simp
        have hts16 := t5; rw [hlx] at hts16; obtain ⟨c1, c2, b1, bx, hcs, hbs, ht1, ht2⟩ := OTs.parts hts16; have hl16 := jI j2 t5; have hla16 := jI t3 t4; have q4 := t1; have hb416 := fF t2; subst hcs; subst hbs; have hX := ht2.one'; obtain ⟨ra, rc, ka, kc, rfl⟩ := id hX.nine; obtain ⟨gq, hgq, haq, hcq⟩ := (j2).cells (by omega); have hcl := nG hcq; have hc1l := ht1.len; rw [hc1l] at hcl; refine aF (aA (aA (aA (aA (aA (aA (aA ?_))))))); refine aB (bZ (n := l'.length) rfl rfl haq (by omega) dO (by omega)) ?_; refine aB (eB rfl bF aJ (vs := [_, _, _, _, _, _, _, _, _]) rfl (hcl.evo (Evo.refl [] q3) (by simp))) ?_; refine bL (vs := [_]) rfl cY rfl rfl rfl rfl fun q5 M9 C8 t6 c0 => ?_; have m3 := j2.evo0 c0; refine aB (cI (vs := [(0, _), (3, _), (4, _), (5, _), (8, _)]) cB rfl (cells := [_, _, _, _, _, _, _, _, _]) rfl) ?_; refine aB (bZ (n := l'.length) rfl rfl haq (by omega) dO (by omega)) ?_; have g4 := (Ge.new (Evo.refl [] q3) t6)
        obtain ⟨g9, cur9, hg9, hx9, hcu9, hcs9, -⟩ := m3.at (by omega)
        rw [haq] at hx9; cases hx9
        refine kB rfl rfl aJ rfl (fun u hu => AllOne.mem (l := [_, _, _, _, _, _, _, _, _]) ⟨rfl, rfl, rfl, rfl, rfl, rfl, rfl, rfl, rfl, trivial⟩ u hu) hcu9 (by have h8 := (m3).le; rw [hcs9]; omega) fun N0 C9 M => ?_
        replace M := oC hg9 M; have D0 := mF m3 hg9 hcu9 hc1l (by omega) rfl rfl C9; have D1 := (t1.then c0).step M (fun y hy => .inr (by first | exact hfr.ge y (List.mem_append_left _ (List.mem_append_left _ hy)) | exact hfr3.ge y (List.mem_append_left _ (List.mem_append_left _ hy)))); have t7 := ((Evo.refl qo.toList q3).then c0).step M (fun y hy => .inl hy); have D2 := (t4.evo0 c0).evo M (fun q hq h => by first | exact (List.nodup_append.1 hfr.nd).2.2 q (List.mem_append_left _ h) q (List.mem_append_right _ hq) rfl | exact (List.nodup_append.1 hfr3.nd).2.2 q (List.mem_append_left _ h) q (List.mem_append_right _ hq) rfl); refine wnn (aF (bN (aR (aQ (aQ (aY ?_)))))); refine ⟨⟨f', f2, k + nn + 1, n, n2, 0, fl, xs, l' ++ [lM lo hi (!fl.lazy) x], false, qa, qc, qo, b1 ++ (q5 :: bx), aa, ac, ao, bs2, ns, na, nc, nb⟩, ?_, ⟨rfl, rfl, rfl, trivial⟩, ⟨rfl, rfl, rfl, trivial⟩, D1, ?_⟩
        · (try dsimp only); show (if (0 : Int) = 0 then _ else _) < (if (0 : Int) = 0 then _ else _); rw [if_pos rfl, if_pos rfl]; show N + 1 - (k + nn + 1) < N + 1 - k; omega
        try dsimp only
        have hrp9 : kY (tl s (aU s k)) = (lo, hi, nn) := by rw [hrp, show min lo 1001 = lo by omega, show min hi 1001 = hi by omega]
        have hnn0 : nn ≠ 0 := by omega
        have A6 : ¬ (ah = false ∨ 1000 < lo ∨ 1000 < hi ∨ (0 ≤ hi ∧ hi < lo)) := by rintro (h | h | h | h); (rw [hcc.1] at h; cases h); omega; omega; exact hcc.2.2.2 h
        have f8 := dS hU (i := k + nn) hrle (b := 63) (by decide); rw [hrof] at f8; have A7 := dR (b := 63) hU (i := k + nn) hrle (by decide) j1
        have hof9 : aU s (k + nn + 1) = aU s k + nn + 1 := by rw [A7.2.1, hrof]
        have hRp9 := wN (lo := lo) (hi := hi) (z := !fl.lazy) (C8.evo M (Apart.new (Lt.own j2) t6).symm.own) hX t7 (fun q hq h => (List.nodup_append.1 (List.nodup_append.1 hfr.nd).1).2.2 q h q (List.mem_append_right _ hq) rfl)
        refine ⟨⟨(M.blk (c0.blk0 t0) (hp6).symm.nmem), ((((l4.evo0 J).evo d5 (hap2).symm.own1).evo0 c0).evo M (hp8).symm.own), ((((l5.evo0 J).evo d5 (hp1).symm.own1).evo0 c0).evo M (hp7).symm.own)⟩, (M.blk (c0.blk0 (d5.blk (J.blk0 l6) hA3r.nmem1)) (hp9).symm.nmem), (M.blk (c0.blk0 t2) (hp10).symm.nmem), ⟨_, D0, fun _ => OTs.app (ht1.evo t7 (fun q hq h => (List.nodup_append.1 (List.nodup_append.1 hfr.nd).1).2.2 q h q (List.mem_append_left _ hq) rfl)) (OTs.single hRp9), fun h => (h rfl).elim⟩, ⟨_, ((t3.evo0 c0).evo M (hp11).symm.own), D2⟩, Fr.wrap hfr (fun q h => (List.mem_append.1 h).elim (hl16 q) (hla16 q)) (g4 _ rfl) q4.size, ?_, hnb, ?_, .inl ⟨rfl, by show k0 ≤ k + nn + 1; omega, A7.2.2, hnl, hRc.trans (tE ((zB (st := ⟨aU s k, fl, o, ns⟩) hng hrp9 hnn0 A6 (f8.1 j1)).trans (by rw [hdl, hgl, hof9]))), by show s.size + 1 ≤ f' + aU s (k + nn + 1); omega, by show s.size + 1 ≤ f2 + aU s (k + nn + 1); omega, (fun h => by cases h), ?_⟩⟩
        · intro hm; have hne4 := g4 _ rfl; simp only [List.mem_append, List.mem_cons] at hm ha4; rcases hm with (hm | hm | hm | hm) | hm | hm; exact ha4 (.inl (.inl hm)); exact ha4 (.inl (.inr (.inl hm))); omega; exact ha4 (.inl (.inr (.inr hm))); exact ha4 (.inr (.inl hm)); exact ha4 (.inr (.inr hm))
        · show (l' ++ [_]).length + xs.length ≤ N + 2; rw [hlx] at hln9; rw [List.length_append] at hln9 ⊢; simp at hln9 ⊢; omega
        · show (l' ++ [_]).length + xs.length ≤ k + nn + 1; rw [hlx] at hln9; rw [List.length_append] at hln9 ⊢; simp at hln9 ⊢; omega
       refine aN (aC (csr (aA (aB (bM rfl Tryz.underlying25 rfl) ?_)))); refine aB (dX rfl rfl (by omega) (by omega)) ?_; refine wan (aM ?_); have hah' := hah hcc.1; obtain ⟨l', x, hlx, hdl, hgl⟩ := yJ hah'; have hne := lF hown (hts0 rfl)
       have K0 : n = l'.length + 1 := by rw [hne, hlx]; simp
       have hts16 := m2; rw [hlx] at hts16; obtain ⟨c1, c2, b1, bx, hcs, hbs, ht1, ht2⟩ := OTs.parts hts16; have hl16 := jI g3 m2; have hla16 := jI m0 m1; have q4 := l7; have hb416 := fF l9; subst hcs; subst hbs; have hX := ht2.one'; obtain ⟨ra, rc, ka, kc, rfl⟩ := id hX.nine; obtain ⟨gq, hgq, haq, hcq⟩ := (g3).cells (by omega); have hcl := nG hcq; have hc1l := ht1.len; rw [hc1l] at hcl; refine aF (aA (aA (aA (aA (aA (aA (aA ?_))))))); refine aB (bZ (n := l'.length) rfl rfl haq (by omega) dO (by omega)) ?_; refine aB (eB rfl bF aJ (vs := [_, _, _, _, _, _, _, _, _]) rfl (hcl.evo (Evo.refl [] q1) (by simp))) ?_; refine bL (vs := [_]) rfl cY rfl rfl rfl rfl fun q5 N1 D3 t8 c3 => ?_; have m4 := g3.evo0 c3; refine aB (cI (vs := [(0, _), (3, _), (4, _), (5, _), (8, _)]) cB rfl (cells := [_, _, _, _, _, _, _, _, _]) rfl) ?_; refine aB (bZ (n := l'.length) rfl rfl haq (by omega) dO (by omega)) ?_; have g4 := (Ge.new (Evo.refl [] q1) t8)
       obtain ⟨g9, cur9, hg9, hx9, hcu9, hcs9, -⟩ := m4.at (by omega)
       rw [haq] at hx9; cases hx9
       refine kB rfl rfl aJ rfl (fun u hu => AllOne.mem (l := [_, _, _, _, _, _, _, _, _]) ⟨rfl, rfl, rfl, rfl, rfl, rfl, rfl, rfl, rfl, trivial⟩ u hu) hcu9 (by have h8 := (m4).le; rw [hcs9]; omega) fun N2 D4 O => ?_
       replace O := oC hg9 O; have D5 := mF m4 hg9 hcu9 hc1l (by omega) rfl rfl D4; have D6 := (l7.then c3).step O (fun y hy => .inr (by first | exact hfr.ge y (List.mem_append_left _ (List.mem_append_left _ hy)) | exact hfr3.ge y (List.mem_append_left _ (List.mem_append_left _ hy)))); have t9 := ((Evo.refl qo.toList q1).then c3).step O (fun y hy => .inl hy); have D7 := (m1.evo0 c3).evo O (fun q hq h => by first | exact (List.nodup_append.1 hfr.nd).2.2 q (List.mem_append_left _ h) q (List.mem_append_right _ hq) rfl | exact (List.nodup_append.1 hfr3.nd).2.2 q (List.mem_append_left _ h) q (List.mem_append_right _ hq) rfl); refine wnn (aF (bN (aR (aQ (aQ (aY ?_)))))); refine ⟨⟨f', f2, k + nn, n, n2, 0, fl, xs, l' ++ [lM lo hi (fl.lazy) x], false, qa, qc, qo, b1 ++ (q5 :: bx), aa, ac, ao, bs2, ns, na, nc, nb⟩, ?_, ⟨rfl, rfl, rfl, trivial⟩, ⟨rfl, rfl, rfl, trivial⟩, D6, ?_⟩
       · (try dsimp only); show (if (0 : Int) = 0 then _ else _) < (if (0 : Int) = 0 then _ else _); rw [if_pos rfl, if_pos rfl]; show N + 1 - (k + nn) < N + 1 - k; omega
       try dsimp only
       have hrp9 : kY (tl s (aU s k)) = (lo, hi, nn) := by rw [hrp, show min lo 1001 = lo by omega, show min hi 1001 = hi by omega]
       have hnn0 : nn ≠ 0 := by omega
       have A6 : ¬ (ah = false ∨ 1000 < lo ∨ 1000 < hi ∨ (0 ≤ hi ∧ hi < lo)) := by rintro (h | h | h | h); (rw [hcc.1] at h; cases h); omega; omega; exact hcc.2.2.2 h
       have f8 := dS hU (i := k + nn) hrle (b := 63) (by decide); rw [hrof] at f8; have hof9 : aU s (k + nn) = aU s k + nn := hrof; have hRp9 := wN (lo := lo) (hi := hi) (z := fl.lazy) (D3.evo O (Apart.new (Lt.own g3) t8).symm.own) hX t9 (fun q hq h => (List.nodup_append.1 (List.nodup_append.1 hfr.nd).1).2.2 q h q (List.mem_append_right _ hq) rfl)
       refine ⟨⟨(O.blk (c3.blk0 l8) (hp6).symm.nmem), (((l4.evo0 J).evo0 c3).evo O (hp8).symm.own), (((l5.evo0 J).evo0 c3).evo O (hp7).symm.own)⟩, (O.blk (c3.blk0 (J.blk0 l6)) (hp9).symm.nmem), (O.blk (c3.blk0 l9) (hp10).symm.nmem), ⟨_, D5, fun _ => OTs.app (ht1.evo t9 (fun q hq h => (List.nodup_append.1 (List.nodup_append.1 hfr.nd).1).2.2 q h q (List.mem_append_left _ hq) rfl)) (OTs.single hRp9), fun h => (h rfl).elim⟩, ⟨_, ((m0.evo0 c3).evo O (hp11).symm.own), D7⟩, Fr.wrap hfr (fun q h => (List.mem_append.1 h).elim (hl16 q) (hla16 q)) (g4 _ rfl) q4.size, ?_, hnb, ?_, .inl ⟨rfl, by show k0 ≤ k + nn; omega, hrle, hnl, hRc.trans (tE ((FL (st := ⟨aU s k, fl, o, ns⟩) hng hrp9 hnn0 A6 (fun h => j1 (f8.2 h))).trans (by rw [hdl, hgl, hof9]))), by show s.size + 1 ≤ f' + aU s (k + nn); omega, by show s.size + 1 ≤ f2 + aU s (k + nn); omega, (fun h => by cases h), ?_⟩⟩
       · intro hm; have hne4 := g4 _ rfl; simp only [List.mem_append, List.mem_cons] at hm ha4; rcases hm with (hm | hm | hm | hm) | hm | hm; exact ha4 (.inl (.inl hm)); exact ha4 (.inl (.inr (.inl hm))); omega; exact ha4 (.inl (.inr (.inr hm))); exact ha4 (.inr (.inl hm)); exact ha4 (.inr (.inr hm))
       · show (l' ++ [_]).length + xs.length ≤ N + 2; rw [hlx] at hln9; rw [List.length_append] at hln9 ⊢; simp at hln9 ⊢; omega
       · show (l' ++ [_]).length + xs.length ≤ k + nn; rw [hlx] at hln9; rw [List.length_append] at hln9 ⊢; simp at hln9 ⊢; omega
      have hrp0 := hrp; rw [show nn = 0 by omega] at hrp0; refine csr (aA (aB (eW rfl rfl) ?_)); refine wan (aZ rfl (fun D8 => ?_) (fun D8 => ?_))
      ·have i1 : n9 ≠ 0 := by omega
       have hsy := hSe.yes i1; refine csr (aA (aB (aH rfl) (wfl rfl bO rfl bD I rfl (aA ?_)))); refine aB (aI rfl rfl (by omega) (by omega)) ?_; refine aB (aH rfl) (aB (aD rfl bO) (bJ rfl rfl (rfl) bY I rfl fun N3 u0 c4 => ?_))
       have D9 := e1.step c4 (fun y hy => .inl (by rw [List.mem_singleton.1 hy]; simp))
       have E0 := i5.evo c4 (fun q hq h => nma q (List.mem_append_right _ hq) (lR q h)); have E1 := i6.evo c4 (fun q hq h => nmq q (List.mem_append_right _ hq) (lR q h))
       try simp only [cH, Nat.reduceAdd] at u0
       refine wnn (csr (aB (bX rfl dU cN (c4.blk (Y.blk0 q7) A4.symm.nmem1) rfl) (aV rfl rfl cN (c4.blk i2 hA3r.nmem1) rfl rfl ⟨rfl, rfl, rfl, rfl, trivial⟩ fun N4 u1 d6 => ?_))); have E2 := E0.evo d6 (fun q hq => nb3a q (List.mem_append_right _ hq)); have E3 := E1.evo d6 (fun q hq => nb3 q (List.mem_append_right _ hq))
       try simp only [cH, Nat.reduceAdd] at u1
       refine wnn (aF (bN (aR (aQ (aQ (aY ?_)))))); refine ⟨⟨f', f2, k + n9, n, n2, 0, g9, xs, l, false, qa, qc, qo, bs, aa, ac, ao, bs2, ns, na, nc, nb⟩, ?_, ⟨rfl, rfl, rfl, trivial⟩, ⟨rfl, rfl, rfl, trivial⟩, (D9.step d6 hg3.mem1), ?_⟩
       · (try dsimp only); have := (hSe.yes i1).2.2.1; show (if (0 : Int) = 0 then _ else _) < (if (0 : Int) = 0 then _ else _); rw [if_pos rfl, if_pos rfl]; show N + 1 - (k + n9) < N + 1 - k; omega
       try dsimp only
       exact ⟨⟨(d6.blk u0 (hA3r).symm.nmem1), ((Z.evo c4 (hap2).symm.own1).evo d6 (hA3u).symm.own1), ((a0.evo c4 (hp1).symm.own1).evo d6 (hp4).symm.own1)⟩, u1, (d6.blk (c4.blk e2 hA4r.nmem1) (((Apart.new (Lt.blk H7) g8))).symm.nmem1), ⟨_, ((i3.evo c4 hp6.own1).evo d6 hp9.own1), fun _ => E3, fun h => (h rfl).elim⟩, ⟨_, ((i4.evo c4 f7.own1).evo d6 f8.own1), E2⟩, hfr, ha4, hnb, hlen, .inl ⟨rfl, by show k0 ≤ k + n9; omega, (hSe.yes i1).2.2.1, hnl, hRc.trans (tE (at_set hng hrp0 hSe i1)), by show s.size + 1 ≤ f' + aU s (k + n9); have := (hSe.yes i1).2.2.2; omega, by show s.size + 1 ≤ f2 + aU s (k + n9); have := (hSe.yes i1).2.2.2; omega, (fun h => by cases h), by show l.length + xs.length ≤ k + n9; omega⟩⟩
      refine aM (gR (α := Bool) (fun z => [(147, .bool z)]) [(0, _), (3, _), (4, _), (5, _), (6, _), (7, _)] (fun z wr => Evo [] j7 wr ∧ ((z = true ∧ rn s N k = 92 ∧ rn s N (k + 1) = 81) ∨ (z = false ∧ ¬ (rn s N k = 92 ∧ rn s N (k + 1) = 81)))) ⟨rfl, rfl, rfl, rfl, rfl, rfl, trivial⟩ ?_ ?_)
      ·refine aF (aA ?_)
       refine aG (vs := [_, _]) cJ rfl (dK (x := ⟨k, o, ns, 0⟩) ⟨I, Z, a0⟩ 0 (by show k + 0 ≤ 1000000000; omega) (by omega)) rfl ?_
       rintro _ N5 ⟨rfl, j3⟩; have u2 := (Evo.refl [] j7).then j3; refine wel ?_; refine aA (bH (t := 151) rfl (fun m5 => ?_) (fun m5 => ?_))
       ·refine aW (aA (aW ?_))
        refine aG (vs := [_, _]) cJ rfl (dK (x := ⟨k, o, ns, 0⟩) ⟨(j3.blk0 I), (Z.evo0 j3), (a0.evo0 j3)⟩ 1 (by show k + 1 ≤ 1000000000; omega) (by omega)) rfl ?_
        rintro _ N6 ⟨rfl, E4⟩; refine aW (wel ?_); refine bW (bN (aR (aY ?_))); refine ⟨decide (rn s N (k + 1) = 81), ⟨rfl, trivial⟩, ⟨rfl, rfl, rfl, rfl, rfl, rfl, trivial⟩, (u2.then E4), ?_⟩
        by_cases h9 : rn s N (k + 1) = 81
        · exact .inl ⟨decide_eq_true h9, m5, h9⟩
        · exact .inr ⟨decide_eq_false h9, fun h8 => h9 h8.2⟩
       refine aP (aP (aP (bR (bN (aR (aY ?_)))))); refine ⟨false, ⟨rfl, trivial⟩, ⟨rfl, rfl, rfl, rfl, rfl, rfl, trivial⟩, u2, ?_⟩; exact .inr ⟨rfl, fun h9 => m5 h9.1⟩
      rintro z N7 ⟨U, hz⟩; refine aC ?_; show CW _ _ _ _ [(147, _), (0, _), (3, _), (4, _), (5, _), (6, _), (7, _)] _; have m6 := e1.then U; have m7 := U.blk0 I; have m8 := U.blk0 i2; have m9 := U.blk0 e2; have n0 := i3.evo0 U; have n1 := i4.evo0 U; have n4 := i5.evo0 U; have n5 := i6.evo0 U; refine eO rfl (fun n6 => ?_) (fun n6 => ?_)
      ·subst n6
       have f8 : rn s N k = 92 ∧ rn s N (k + 1) = 81 := by (rcases hz with h | h; exact h.2; cases h.1)
       have hqb := dR (b := 92) hU hkN (by decide) f8.1; have hqc := dR (b := 81) hU (i := k + 1) hqb.2.2 (by decide) f8.2
       have hqo : aU s (k + 2) = aU s k + 2 := by rw [show k + 2 = k + 1 + 1 by rfl, hqc.2.1, hqb.2.1]
       have hqN : k + 2 ≤ N := hqc.2.2; refine csr (wan (csr (aA (aB (aH rfl) (wfl rfl bO rfl bD m7 rfl ?_))))); refine aB (aI rfl rfl (by omega) (by omega)) ?_; refine aB (aH rfl) (aB (aD rfl bO) (bJ rfl rfl (rfl) bY m7 rfl fun N8 u3 d7 => ?_))
       have E5 := m6.step d7 (fun y hy => .inl (by rw [List.mem_singleton.1 hy]; simp))
       have E6 := n4.evo d7 (fun q hq h => nma q (List.mem_append_right _ hq) (lR q h)); have E7 := n5.evo d7 (fun q hq h => nmq q (List.mem_append_right _ hq) (lR q h))
       try simp only [cH, Nat.reduceAdd] at u3
       refine wnn (aM (bK ?_))
       refine dL (α := QtG) (⟨0, false, n, qa, qc, qo, bs⟩) (fun y => [(6, .slice y.qa3 y.n3 y.qc3), (7, .bool y.z)]) [(0, _), (3, _), (4, _), (5, _)] (fun y wr => Evo (b :: m.nb.toList) w wr ∧ (QtI w wr b s N k o (m.nm na nc nb) b3 b4 fl l xs ns aa n2 ac ao bs2 y)) (fun y => N - y.j) ⟨rfl, rfl, trivial⟩ ⟨rfl, rfl, rfl, rfl, trivial⟩ ⟨E5, ⟨⟨u3, ((Z.evo0 U).evo d7 (hap2).symm.own1), ((a0.evo0 U).evo d7 (hp1).symm.own1)⟩, (d7.blk m8 hA3r.nmem1), (d7.blk m9 hA4r.nmem1), ⟨_, (n0.evo d7 hp6.own1), by rw [show l ++ rB s fl (k + 2) 0 = l from List.append_nil l]; exact E7⟩, ⟨_, (n1.evo d7 f7.own1), E6⟩, hfr, ha4, ⟨Nat.le_refl _, hqN, fun q h1 h2 => by have h3 : q < aU s (k + 2) := h2; omega⟩, (decide_eq_false (by show ¬ 0 < 0; omega)).symm⟩⟩ ?_
       rintro ⟨j, z, n3, qa3, qc3, qo3, bs3⟩ wr520 ⟨u4, ⟨F, h32, h42, ⟨cs3, hown3, hts3⟩, ⟨csB, hownB, htsB⟩, hfr3, ha43, hfq, hzj⟩⟩; show CW _ _ _ _ [(6, .slice qa3 n3 qc3), (7, .bool z), (0, _), (3, _), (4, _), (5, _)] _
       try dsimp only at F h32 h42 cs3 hown3 hts3 csB hownB htsB hfr3 ha43 hfq hzj
       have nmq := HY F hown3 hts3; have u5 := (fO F.b0 hown3 (by decide +kernel)).symm; have K1 := gZ hown3 F.own (by decide +kernel); have K2 := gZ hown3 F.run (by decide +kernel); have H9 := (fO h32 hown3 (by decide +kernel)).symm; have I9 := (BC (fun h => ha43 (List.mem_append_left _ h))).symm; have J0 : Apart qo3 ao := fun g h7 h8 => (List.nodup_append.1 hfr3.nd).2.2 g (List.mem_append_left _ (by simp [h7])) g (List.mem_append_left _ (by simp [h8])) rfl; have hlen9 : l.length + xs.length ≤ N + 2 := hlen; have J1 := lF hown3 hts3; rw [List.length_append, mO] at J1; have hqle := hfq.le; replace hqle : k + (2 + j) ≤ N := hqle; refine aM (aM (gR (α := Bool) (fun z3 => [(183, .bool z3)]) [(0, _), (3, _), (4, _), (5, _), (6, _), (7, _)] (fun z3 wr => Evo [] wr520 wr ∧ ((z3 = true ∧ k + (2 + j) < N ∧ ¬ (rn s N (k + (2 + j)) = 92 ∧ rn s N (k + (2 + j + 1)) = 69)) ∨ (z3 = false ∧ (¬ k + (2 + j) < N ∨ (k + (2 + j) < N ∧ rn s N (k + (2 + j)) = 92 ∧ rn s N (k + (2 + j + 1)) = 69))))) ⟨rfl, rfl, rfl, rfl, rfl, rfl, trivial⟩ ?_ ?_))
       ·refine fR (fun w0 w' => Evo [] w0 w') (by kernel_rfl) (fun G f9 => ?_); have n7 := (Evo.refl [] wr520).then f9; have j4 := f9.blk0 F.b0; refine aet 0 rfl (fun _ hS => bC rfl) (Evo.refl [] G) ?_; refine aet 1 rfl (fun _ hS => aH rfl) (Evo.refl [] G) ?_; refine aet 2 rfl (fun _ hS => aD rfl bO) (Evo.refl [] G) ?_; refine aet 3 rfl (fun _ hS => aX rfl bD (bI (hS.blk0 j4) rfl)) (Evo.refl [] G) ?_; refine aet 4 rfl (fun _ hS => bC rfl) (Evo.refl [] G) ?_; refine aet 5 rfl (fun _ hS => aH rfl) (Evo.refl [] G) ?_; refine aet 6 rfl (fun _ hS => aD rfl fL) (Evo.refl [] G) ?_; refine aet 7 rfl (fun _ hS => aX rfl gD (bI (hS.blk0 j4) rfl)) (Evo.refl [] G) ?_; refine aet 8 rfl (fun _ hS => bM rfl Tryz.underlying67 rfl) (Evo.refl [] G) ?_; refine aet 9 rfl (fun _ hS => dA rfl rfl) (Evo.refl [] G) ?_; refine aet 10 rfl (fun _ hS => bC rfl) (Evo.refl [] G) ?_; refine qT (t := 173) rfl (fun E8 => ?_) (fun E8 => ?_)
        ·have hqlt : k + (2 + j) < N := by omega
         refine eL 11 rfl rfl rfl rfl rfl (by kernel_rfl) (by kernel_rfl) (by kernel_rfl) rfl (fun _ hS => bC rfl) (Evo.refl [] G) ?_; refine cA [12] (by kernel_rfl) rfl ⟨?_, trivial⟩; refine cG rfl ?_; refine aW ?_
         refine aG (vs := [_, _]) cJ rfl (dK (x := ⟨k + (2 + j), o, ns, 0⟩) ⟨j4, (F.run.evo0 f9), (F.o0.evo0 f9)⟩ 0 (by show k + (2 + j) + 0 ≤ 1000000000; omega) (by omega)) rfl ?_
         rintro _ N9 ⟨rfl, g0⟩; have a6 := (Evo.refl [] G).then g0; refine aR (bV (.inl a6) ?_); refine eL 13 rfl rfl rfl rfl rfl (by kernel_rfl) (by kernel_rfl) (by kernel_rfl) rfl (fun _ hS => kK rfl rfl) a6 ?_; refine eL 14 rfl rfl rfl rfl rfl (by kernel_rfl) (by kernel_rfl) (by kernel_rfl) rfl (fun _ hS => bC rfl) a6 ?_; refine qT (t := 177) rfl (fun n8 => ?_) (fun n8 => ?_)
         ·refine eL 15 rfl rfl rfl rfl rfl (by kernel_rfl) (by kernel_rfl) (by kernel_rfl) rfl (fun _ hS => bC rfl) a6 ?_; refine cA [16] (by kernel_rfl) rfl ⟨?_, trivial⟩; refine cG rfl ?_; refine aW ?_
          refine aG (vs := [_, _]) cJ rfl (dK (x := ⟨k + (2 + j), o, ns, 0⟩) ⟨(g0.blk0 j4), ((F.run.evo0 f9).evo0 g0), ((F.o0.evo0 f9).evo0 g0)⟩ 1 (by show k + (2 + j) + 1 ≤ 1000000000; omega) (by omega)) rfl ?_
          rintro _ O0 ⟨rfl, u6⟩; have g5 := a6.then u6; refine aR (bV (.inl g5) ?_); refine eL 17 rfl rfl rfl rfl rfl (by kernel_rfl) (by kernel_rfl) (by kernel_rfl) rfl (fun _ hS => kK rfl rfl) g5 ?_; refine eL 18 rfl rfl rfl rfl rfl (by kernel_rfl) (by kernel_rfl) (by kernel_rfl) rfl (fun _ hS => eP rfl rfl) g5 ?_; refine eL 19 rfl rfl rfl rfl rfl (by kernel_rfl) (by kernel_rfl) (by kernel_rfl) rfl (fun _ hS => mS rfl) g5 ?_; refine aet 20 rfl (fun _ hS => eP rfl rfl) g5 ?_; refine dB (by kernel_rfl) (aY ?_); refine ⟨decide (¬ (rn s N (k + (2 + j) + 1) = 69)), ⟨rfl, trivial⟩, ⟨rfl, rfl, rfl, rfl, rfl, rfl, trivial⟩, ((n7.then g0).then u6), ?_⟩
          by_cases h9 : rn s N (k + (2 + j) + 1) = 69
          · exact .inr ⟨decide_eq_false (not_not_intro h9), .inr ⟨hqlt, n8, h9⟩⟩
          · exact .inl ⟨decide_eq_true h9, hqlt, fun h8 => h9 h8.2⟩
         refine lX 15 rfl a6 ?_; refine cA [16] (by kernel_rfl) rfl ⟨?_, trivial⟩; refine cG rfl ?_; refine aP (aR (bV (.inl a6) ?_)); refine lX 17 rfl a6 ?_; refine eL 18 rfl rfl rfl rfl rfl (by kernel_rfl) (by kernel_rfl) (by kernel_rfl) rfl (fun _ hS => eZ rfl rfl) a6 ?_; refine eL 19 rfl rfl rfl rfl rfl (by kernel_rfl) (by kernel_rfl) (by kernel_rfl) rfl (fun _ hS => fV rfl) a6 ?_; refine aet 20 rfl (fun _ hS => eP rfl rfl) a6 ?_; refine dB (by kernel_rfl) (aY ?_); refine ⟨true, ⟨rfl, trivial⟩, ⟨rfl, rfl, rfl, rfl, rfl, rfl, trivial⟩, (n7.then g0), ?_⟩; exact .inl ⟨rfl, hqlt, fun h9 => n8 h9.1⟩
        refine lX 11 rfl (Evo.refl [] G) ?_; refine cA [12] (by kernel_rfl) rfl ⟨?_, trivial⟩; refine cG rfl ?_; refine aP (aR (bV (.inl (Evo.refl [] G)) ?_)); refine lX 13 rfl (Evo.refl [] G) ?_; refine lX 14 rfl (Evo.refl [] G) ?_; refine qS 15 rfl rfl rfl rfl rfl (by kernel_rfl) (by kernel_rfl) (by kernel_rfl) rfl (Evo.refl [] G) ?_; refine cA [16] (by kernel_rfl) rfl ⟨?_, trivial⟩; refine cG rfl ?_; refine eS ?_; refine aR (bV (.inl (Evo.refl [] G)) ?_); refine qS 17 rfl rfl rfl rfl rfl (by kernel_rfl) (by kernel_rfl) (by kernel_rfl) rfl (Evo.refl [] G) ?_; refine lX 18 rfl (Evo.refl [] G) ?_; refine lX 19 rfl (Evo.refl [] G) ?_; refine aet 20 rfl (fun _ hS => eZ rfl rfl) (Evo.refl [] G) ?_; refine dB (by kernel_rfl) (aY ?_); refine ⟨false, ⟨rfl, trivial⟩, ⟨rfl, rfl, rfl, rfl, rfl, rfl, trivial⟩, n7, ?_⟩; exact .inr ⟨rfl, .inl (by omega)⟩
       rintro z3 O1 ⟨E, hz3⟩; refine aC ?_; show CW _ _ _ _ [(183, _), (0, _), (3, _), (4, _), (5, _), (6, _), (7, _)] _; refine eO rfl (fun o1 => ?_) (fun o1 => ?_)
       ·subst o1; obtain ⟨-, hqlt, hqne⟩ := hz3.resolve_right (fun h9 => by cases h9.1); refine aN (aC (bK (aM ?_))); refine fR (fun w0 w' => Evo qo3.toList w0 w') (by kernel_rfl) (fun o2 c5 => ?_); have u7 := c5.blk0 (E.blk0 F.b0); have u8 := (F.run.evo0 E).evo0 c5; have u9 := (F.o0.evo0 E).evo0 c5; have v0 := c5.blk0 (E.blk0 h32); refine aet 0 rfl (fun _ hS => bC rfl) (Evo.refl qo3.toList o2) ?_; refine aet 1 rfl (fun _ hS => bC rfl) (Evo.refl qo3.toList o2) ?_; refine aet 3 rfl (fun _ hS => bX rfl dU cN (hS.blk v0 ((H9).symm.nmem)) rfl) (Evo.refl qo3.toList o2) ?_; refine cA [2] (by kernel_rfl) rfl ⟨?_, trivial⟩; refine cG rfl ?_
        refine aG (vs := [_, _]) cJ rfl (dK (x := ⟨k + (2 + j), o, ns, 0⟩) ⟨u7, u8, u9⟩ 0 (by show k + (2 + j) + 0 ≤ 1000000000; omega) (by omega)) rfl ?_
        rintro _ O2 ⟨rfl, a7⟩; have v1 := ((u4.then E).then c5).then a7; have o3 := (Evo.refl qo3.toList o2).then a7; have v2 := a7.blk0 (c5.blk0 (E.blk0 h42)); have v3 := ((hown3.evo0 E).evo0 c5).evo0 a7; have v4 := ((hownB.evo0 E).evo0 c5).evo0 a7; have v5 := ((htsB.evo0 E).evo0 c5).evo0 a7; have v6 := ((hts3.evo0 E).evo0 c5).evo0 a7; refine aR (bV (.inl o3) ?_); refine cA [4] (by kernel_rfl) rfl ⟨?_, trivial⟩; refine cG rfl ?_; refine aG (vs := [_, _]) sQ rfl (tR (rn s N (k + (2 + j))) fl (HJ hU hqlt).1 (HJ hU hqlt).2) rfl ?_; rintro _ J2 ⟨⟨vs, bx, rfl, hT, hFx⟩, L⟩; have j8 := v1; have hcall9 := L; have hlq := jI v3 v6; have hla := jI v4 v5; have hlall := fun q (h : q ∈ (qo3.toList ++ bs3) ++ (ao.toList ++ bs2)) => (List.mem_append.1 h).elim (hlq q) (hla q); have hb4l := fF v2; obtain ⟨ra9, rc9, ka9, kc9, rfl⟩ := id hT.nine; refine aR (bV (.inl (o3.then L)) ?_); refine cA [5] (by kernel_rfl) rfl ⟨?_, trivial⟩; refine cG rfl ?_; refine bL (vs := [_]) rfl cY rfl rfl rfl rfl fun O3 O4 E9 L0 V => ?_; have v7 := (o3.then L).then V; have v8 := (Evo.refl (qo3.toList) J2).then V; have v9 := V.blk0 (L.blk0 (a7.blk0 u7)); refine aR (bV (.inl v7) ?_); refine cA [6] (by kernel_rfl) rfl ⟨?_, trivial⟩; refine cG rfl ?_; have hVV := v8; refine cM rfl rfl rfl rfl jB ((v3.evo0 L).evo0 V) (Src.ofOwn E9 ⟨rfl, rfl, rfl, rfl, rfl, rfl, rfl, rfl, rfl, trivial⟩) (by omega) fun qa4 qc4 O5 qo4 i0 a8 hob646 => ?_
        have F0 := ((v1.then L).then V).step a8 (fun y hy => .inr (by first | exact hfr.ge y (List.mem_append_left _ (List.mem_append_left _ hy)) | exact hfr3.ge y (List.mem_append_left _ (List.mem_append_left _ hy)))); have w2 := v7.step a8 (fun y hy => .inl hy); have o4 := a8.blk v9 (u5).symm.nmem; have w3 := (((u8.evo0 a7).evo0 L).evo0 V).evo a8 (K2).symm.own; have w4 := (((u9.evo0 a7).evo0 L).evo0 V).evo a8 (K1).symm.own; have F1 := ((v5.evo0 L).evo0 V).evo a8 (fun q hq h => by first | exact (List.nodup_append.1 hfr.nd).2.2 q (List.mem_append_left _ h) q (List.mem_append_right _ hq) rfl | exact (List.nodup_append.1 hfr3.nd).2.2 q (List.mem_append_left _ h) q (List.mem_append_right _ hq) rfl); have F2 := ((v6.evo0 L).evo0 V).evo a8 (fun q hq h => by first | exact (List.nodup_append.1 (List.nodup_append.1 hfr.nd).1).2.2 q h q hq rfl | exact (List.nodup_append.1 (List.nodup_append.1 hfr3.nd).1).2.2 q h q hq rfl); have hob2 := hob646; have hFr9 := Fr.grow1 hfr3 hlall hFx (fun q hq => Nat.lt_of_lt_of_le (hT.lt q hq) hVV.size) j8.size (Nat.le_trans hcall9.size hVV.size) hob2
        have hnin : b4 ∉ (qo4.toList ++ (bs3 ++ bx)) ++ (ao.toList ++ bs2) := fun h => (List.mem_append.1 h).elim (sB (fun h => ha43 (List.mem_append_left _ h)) (Nat.lt_of_lt_of_le hb4l (Nat.le_trans hcall9.size hVV.size)) (fun q hq e => by have := hFx.ge q hq; omega) hob2) (fun h => ha43 (List.mem_append_right _ h))
        refine aR (bV (.inl w2) ?_); refine aet 7 rfl (fun _ hS => cR rfl) w2 ?_; refine dB (by kernel_rfl) (aC ?_); refine aM ?_; have hpq := (v8.step a8 (fun y hy => .inl hy))
        have w5 := OTs.app F2 (OTs.single (hT.evo hpq (fun q hq h => by have h7 := hFx.ge q hq; have h8 := hlq q (List.mem_append_left _ h); omega)))
        have nmq := HY (x := ⟨k + (2 + j), o, ns, 0⟩) (m := m.nm na nc nb) ⟨o4, w3, w4⟩ i0 w5; refine aF (aA (aB (aH rfl) (wfl rfl bO rfl bD o4 rfl ?_))); refine aB (aI rfl rfl (by omega) (by omega)) ?_; refine aB (aH rfl) (aB (aD rfl bO) (bJ rfl rfl (rfl) bY o4 rfl fun O6 w6 d8 => ?_))
        have F3 := F0.step d8 (fun y hy => .inl (by rw [List.mem_singleton.1 hy]; simp))
        have F4 := F1.evo d8 (fun q hq h => nma q (List.mem_append_right _ hq) (lR q h))
        try simp only [cH, Nat.reduceAdd] at w6
        refine wnn (aF (bN (aR (aQ (aY ?_))))); refine ⟨⟨j + 1, true, n3 + 1, qa4, qc4, qo4, bs3 ++ bx⟩, ?_, ⟨rfl, rfl, trivial⟩, ⟨rfl, rfl, rfl, rfl, trivial⟩, F3, ?_⟩
        · (try dsimp only); show N - (j + 1) < N - j; omega
        try dsimp only
        have hqs : (l ++ rB s fl (k + 2) j) ++ [lP fl (rn s N (k + (2 + j)))] = l ++ rB s fl (k + 2) (j + 1) := by rw [List.append_assoc, nP hqlt, ← Nat.add_assoc]; rfl
        exact ⟨⟨w6, (w3.evo d8 (hap2).symm.own1), (w4.evo d8 (hp1).symm.own1)⟩, (d8.blk (a8.blk (V.blk0 (L.blk0 (a7.blk0 v0))) (H9).symm.nmem) hA3r.nmem1), (d8.blk (a8.blk (V.blk0 (L.blk0 v2)) (I9).symm.nmem) hA4r.nmem1), ⟨_, (i0.evo d8 ((u5).symm.app (Lt.blk v9) hob646).symm.own1), by have h9 := (w5.evo d8 (fun q hq h => nmq q (List.mem_append_right _ hq) (lR q h))); rw [hqs] at h9; exact h9⟩, ⟨_, ((((v4.evo0 L).evo0 V).evo a8 (J0).symm.own).evo d8 f7.own1), F4⟩, hFr9, hnin, hfq.step hU hqlt (hqne), (decide_eq_true (Nat.succ_pos j)).symm⟩
       subst o1; have hqK := (hz3.resolve_left (fun h9 => by cases h9.1)).2; refine cW (bS (bS (cV (aC ?_)))); refine fR (fun w0 w' => Evo [b] w0 w') (by kernel_rfl) (fun H c6 => ?_); have w7 := (u4.then E).then c6; have g1 := c6.blk0 (E.blk0 F.b0); have w8 := (F.run.evo0 E).evo0 c6; have x0 := (F.o0.evo0 E).evo0 c6; have x1 := c6.blk0 (E.blk0 h32); have x2 := c6.blk0 (E.blk0 h42); have x3 := (hown3.evo0 E).evo0 c6; have x4 := (hownB.evo0 E).evo0 c6; have x5 := (htsB.evo0 E).evo0 c6; have x6 := (hts3.evo0 E).evo0 c6; refine aet 0 rfl (fun _ hS => bC rfl) (Evo.refl [b] H) ?_; refine aet 1 rfl (fun _ hS => bC rfl) (Evo.refl [b] H) ?_; refine aet 2 rfl (fun _ hS => aH rfl) (Evo.refl [b] H) ?_; refine aet 3 rfl (fun _ hS => aD rfl bO) (Evo.refl [b] H) ?_; refine aet 6 rfl (fun _ hS => bC rfl) (Evo.refl [b] H) ?_; refine aet 7 rfl (fun _ hS => aH rfl) (Evo.refl [b] H) ?_; refine aet 8 rfl (fun _ hS => aD rfl fL) (Evo.refl [b] H) ?_; refine cA [4, 9] (by kernel_rfl) rfl ⟨?_, ?_, trivial⟩
       ·refine cG rfl ?_; refine aB (aX rfl bD (bI g1 rfl)) (aR (bV (.inl (Evo.refl [b] H)) ?_)); refine aet 5 rfl (fun _ hS => aI rfl rfl (by omega) (by omega)) (Evo.refl [b] H) ?_; refine cA [9] (by kernel_rfl) rfl ⟨?_, trivial⟩; refine cG rfl ?_; refine aB (aX rfl gD (bI g1 rfl)) (aR (bV (.inl (Evo.refl [b] H)) ?_)); refine aet 10 rfl (fun _ hS => bM rfl Tryz.underlying67 rfl) (Evo.refl [b] H) ?_; refine aet 11 rfl (fun _ hS => lH rfl rfl) (Evo.refl [b] H) ?_
        rw [show (if (N : Int) < ((k + (2 + j) : Nat) : Int) + 2 then (N : Int) else ((k + (2 + j) : Nat) : Int) + 2) = ((min (k + (2 + j + 2)) N : Nat) : Int) by split <;> omega]
        refine aet 12 rfl (fun _ hS => aH rfl) (Evo.refl [b] H) ?_; refine aet 13 rfl (fun _ hS => aD rfl bO) (Evo.refl [b] H) ?_; refine cA [14] (by kernel_rfl) rfl ⟨?_, trivial⟩; refine cG rfl ?_; refine bJ rfl rfl (rfl) bY g1 rfl fun O7 x7 c7 => ?_
        have F5 := w7.step c7 (fun y hy => .inl (by rw [List.mem_singleton.1 hy]; simp))
        have F6 := x5.evo c7 (fun q hq h => nma q (List.mem_append_right _ hq) (lR q h)); have F7 := x6.evo c7 (fun q hq h => nmq q (List.mem_append_right _ hq) (lR q h))
        try simp only [cH, Nat.reduceAdd] at x7
        refine aR (bV (.inl ((Evo.refl [b] H).step c7 (fun y hy => .inl hy))) ?_); refine dB (by kernel_rfl) (aQ (aQ (aY ?_))); refine ⟨⟨f', f2, min (k + (2 + j + 2)) N, n3, n2, 0, fl, xs, l ++ rB s fl (k + 2) j, z, qa3, qc3, qo3, bs3, aa, ac, ao, bs2, ns, na, nc, nb⟩, ?_, ⟨rfl, rfl, rfl, trivial⟩, ⟨rfl, rfl, rfl, trivial⟩, F5, ?_⟩
        · (try dsimp only); show (if (0 : Int) = 0 then _ else _) < (if (0 : Int) = 0 then _ else _); rw [if_pos rfl, if_pos rfl]; show N + 1 - (min (k + (2 + j + 2)) N) < N + 1 - k; omega
        try dsimp only
        obtain ⟨hal, hKN, hKk⟩ := TA (ex := ex) (o := o) (ns := ns) (l := l) (ah := ah) (f' := f') (K := min (k + (2 + j + 2)) N) hU hqb.1 hqb.2.1 hqc.1 hqo hfq hng hrp0 (hqK.imp (fun h9 => ⟨h9, by omega⟩) (fun h9 => ⟨h9.1, h9.2.1, h9.2.2, rfl⟩)); rw [← hzj] at hal; have hlt9 := mP hU.2 (show k < min (k + (2 + j + 2)) N by omega) hKN
        exact ⟨⟨x7, (w8.evo c7 (hap2).symm.own1), (x0.evo c7 (hp1).symm.own1)⟩, (c7.blk x1 hA3r.nmem1), (c7.blk x2 hA4r.nmem1), ⟨_, (x3.evo c7 u5.own1), fun _ => F7, fun h => (h rfl).elim⟩, ⟨_, (x4.evo c7 f7.own1), F6⟩, hfr3, ha43, hnb, by show (l ++ rB s fl (k + 2) j).length + xs.length ≤ N + 2; rw [List.length_append, mO]; omega, .inl ⟨rfl, by show k0 ≤ min (k + (2 + j + 2)) N; omega, hKN, hnl, hRc.trans (tE hal), by show s.size + 1 ≤ f' + aU s (min (k + (2 + j + 2)) N); omega, by show s.size + 1 ≤ f2 + aU s (min (k + (2 + j + 2)) N); omega, (fun h9 h8 => by have h7 : 0 < j := of_decide_eq_true (hzj.symm.trans h9); have h6 := congrArg List.length h8; rw [List.length_append, mO] at h6; have h5 : l.length + j = 0 := h6; omega), by show (l ++ rB s fl (k + 2) j).length + xs.length ≤ min (k + (2 + j + 2)) N; rw [List.length_append, mO]; omega⟩⟩
       refine cG rfl ?_; refine aB (aX rfl gD (bI g1 rfl)) (aR (bV (.inl (Evo.refl [b] H)) ?_)); refine aet 10 rfl (fun _ hS => bM rfl Tryz.underlying67 rfl) (Evo.refl [b] H) ?_; refine cA [4] (by kernel_rfl) rfl ⟨?_, trivial⟩; refine cG rfl ?_; refine aB (aX rfl bD (bI g1 rfl)) (aR (bV (.inl (Evo.refl [b] H)) ?_)); refine aet 5 rfl (fun _ hS => aI rfl rfl (by omega) (by omega)) (Evo.refl [b] H) ?_; refine aet 11 rfl (fun _ hS => lH rfl rfl) (Evo.refl [b] H) ?_
       rw [show (if (N : Int) < ((k + (2 + j) : Nat) : Int) + 2 then (N : Int) else ((k + (2 + j) : Nat) : Int) + 2) = ((min (k + (2 + j + 2)) N : Nat) : Int) by split <;> omega]
       refine aet 12 rfl (fun _ hS => aH rfl) (Evo.refl [b] H) ?_; refine aet 13 rfl (fun _ hS => aD rfl bO) (Evo.refl [b] H) ?_; refine cA [14] (by kernel_rfl) rfl ⟨?_, trivial⟩; refine cG rfl ?_; refine bJ rfl rfl (rfl) bY g1 rfl fun O8 x8 c8 => ?_
       have F8 := w7.step c8 (fun y hy => .inl (by rw [List.mem_singleton.1 hy]; simp))
       have F9 := x5.evo c8 (fun q hq h => nma q (List.mem_append_right _ hq) (lR q h)); have G0 := x6.evo c8 (fun q hq h => nmq q (List.mem_append_right _ hq) (lR q h))
       try simp only [cH, Nat.reduceAdd] at x8
       refine aR (bV (.inl ((Evo.refl [b] H).step c8 (fun y hy => .inl hy))) ?_); refine dB (by kernel_rfl) (aQ (aQ (aY ?_))); refine ⟨⟨f', f2, min (k + (2 + j + 2)) N, n3, n2, 0, fl, xs, l ++ rB s fl (k + 2) j, z, qa3, qc3, qo3, bs3, aa, ac, ao, bs2, ns, na, nc, nb⟩, ?_, ⟨rfl, rfl, rfl, trivial⟩, ⟨rfl, rfl, rfl, trivial⟩, F8, ?_⟩
       · (try dsimp only); show (if (0 : Int) = 0 then _ else _) < (if (0 : Int) = 0 then _ else _); rw [if_pos rfl, if_pos rfl]; show N + 1 - (min (k + (2 + j + 2)) N) < N + 1 - k; omega
       try dsimp only
       obtain ⟨hal, hKN, hKk⟩ := TA (ex := ex) (o := o) (ns := ns) (l := l) (ah := ah) (f' := f') (K := min (k + (2 + j + 2)) N) hU hqb.1 hqb.2.1 hqc.1 hqo hfq hng hrp0 (hqK.imp (fun h9 => ⟨h9, by omega⟩) (fun h9 => ⟨h9.1, h9.2.1, h9.2.2, rfl⟩)); rw [← hzj] at hal; have hlt9 := mP hU.2 (show k < min (k + (2 + j + 2)) N by omega) hKN
       exact ⟨⟨x8, (w8.evo c8 (hap2).symm.own1), (x0.evo c8 (hp1).symm.own1)⟩, (c8.blk x1 hA3r.nmem1), (c8.blk x2 hA4r.nmem1), ⟨_, (x3.evo c8 u5.own1), fun _ => G0, fun h => (h rfl).elim⟩, ⟨_, (x4.evo c8 f7.own1), F9⟩, hfr3, ha43, hnb, by show (l ++ rB s fl (k + 2) j).length + xs.length ≤ N + 2; rw [List.length_append, mO]; omega, .inl ⟨rfl, by show k0 ≤ min (k + (2 + j + 2)) N; omega, hKN, hnl, hRc.trans (tE hal), by show s.size + 1 ≤ f' + aU s (min (k + (2 + j + 2)) N); omega, by show s.size + 1 ≤ f2 + aU s (min (k + (2 + j + 2)) N); omega, (fun h9 h8 => by have h7 : 0 < j := of_decide_eq_true (hzj.symm.trans h9); have h6 := congrArg List.length h8; rw [List.length_append, mO] at h6; have h5 : l.length + j = 0 := h6; omega), by show (l ++ rB s fl (k + 2) j).length + xs.length ≤ min (k + (2 + j + 2)) N; rw [List.length_append, mO]; omega⟩⟩
      subst n6; refine csr (aA (aB (bX rfl dU cN m8 rfl) ?_)); refine aG (vs := [_, _]) JX rfl (PT (ex := ex) (m := m.nm na nc nb) ⟨m7, (Z.evo0 U), (a0.evo0 U)⟩ hU hkk hN hs hnl ho (fun h40 w9 K3 => HP K3 hU hkk h40 hN hs hnl ho (fun h => hex h) (hSe.no (by omega) (dR (b := 40) hU hkN (by decide) h40).1)) (fun h92 h81 => hz.elim (fun h => by cases h.1) (fun h => h.2 ⟨h92, h81⟩))) rfl ?_; rintro _ A8 ⟨hP, e5⟩; have j8 := m6; have hcall9 := e5; have hlq := jI n0 n5; have hla := jI n1 n4; have hlall := fun q (h : q ∈ (qo.toList ++ bs) ++ (ao.toList ++ bs2)) => (List.mem_append.1 h).elim (hlq q) (hla q); have hb4l := fF m9; have x9 := m6.step e5 (oB hnb); have o5 := e5.blk m8 (sA hA3r hp4); have o6 := e5.blk m9 (sA hA4r hp5); have o7 := n0.evo e5 (fun q hq => nmq q (List.mem_append_left _ (by simp [hq]))); have o8 := n1.evo e5 (fun q hq => nma q (List.mem_append_left _ (by simp [hq]))); have G1 := n4.evo e5 (fun q hq => nma q (List.mem_append_right _ hq)); obtain ⟨k2, ns3, na3, nc3, nb3, e3, bx, x, d2, hnb3, K4, hFx, hlx, A9⟩ := hP.un; obtain ⟨k9, r9, mn9, mx9, cp9, ra9, ka9, rl9, rc9, kl9, kc9, lz9, nm9, rfl⟩ := id K4; have hu1 := d2.ap1; have hu2 := d2.ap3; have hu3 := fO o5 d2.own (by decide +kernel); have hu4 := fO o6 d2.own (by decide +kernel); have hu5 := gZ o7 d2.own (by decide +kernel); have hu6 := gZ o8 d2.own (by decide +kernel); refine cO rfl dC fun Q5 O9 G2 c9 a9 => ?_; have J6 := c9; have o9 := Ge.new (Evo.refl qo.toList A8) c9
      have G3 := (n5.evo e5 (fun q hq => nmq q (List.mem_append_right _ hq))).evo0 a9; refine aV rfl rfl aJ G2 rfl rfl ⟨rfl, rfl, rfl, rfl, rfl, rfl, rfl, rfl, rfl, trivial⟩ fun P0 y0 b5 => ?_
      have G4 := (G1.evo0 a9).evo b5 (fun q hq h => by have h7 := hla q (List.mem_append_right _ hq); have h8 := o9 _ rfl; have h6 := hcall9.size; rw [List.mem_singleton.1 h] at h7; omega)
      have G5 := G3.evo b5 (fun q hq h => by have h7 := hlq q (List.mem_append_right _ hq); have h8 := o9 _ rfl; have h6 := hcall9.size; rw [List.mem_singleton.1 h] at h7; omega)
      try simp only [cH, Nat.reduceAdd] at y0
      refine wnn (csr (aA (aB (bX rfl bF aJ y0 rfl) (bL (vs := [_]) rfl cY rfl rfl rfl rfl fun P1 P2 G6 L1 b6 => ?_)))); have y1 := (((Evo.refl qo.toList A8).then a9).step b5 o9.mem1).then b6; have hVV := y1
      refine cM rfl rfl rfl rfl jB (((o7.evo0 a9).evo b5 (Apart.new (Lt.own o7) c9).own1).evo0 b6) (Src.ofOwn G6 ⟨rfl, rfl, rfl, rfl, rfl, rfl, rfl, rfl, rfl, trivial⟩) (by have h8 := lF hown (hts0 rfl); omega) fun qa2 qc2 P3 qo2 i0 d0 hob798 => ?_
      have G7 := (((x9.then a9).step b5 (Ge.new x9 c9).mem1).then b6).step d0 (fun y hy => .inr (by first | exact hfr.ge y (List.mem_append_left _ (List.mem_append_left _ hy)) | exact hfr3.ge y (List.mem_append_left _ (List.mem_append_left _ hy)))); have G8 := (G4.evo0 b6).evo d0 (fun q hq h => by first | exact (List.nodup_append.1 hfr.nd).2.2 q (List.mem_append_left _ h) q (List.mem_append_right _ hq) rfl | exact (List.nodup_append.1 hfr3.nd).2.2 q (List.mem_append_left _ h) q (List.mem_append_right _ hq) rfl); have G9 := (G5.evo0 b6).evo d0 (fun q hq h => by first | exact (List.nodup_append.1 (List.nodup_append.1 hfr.nd).1).2.2 q h q hq rfl | exact (List.nodup_append.1 (List.nodup_append.1 hfr3.nd).1).2.2 q h q hq rfl); have hob2 := hob798; have hFr9 := Fr.grow1 hfr hlall hFx (fun q hq => Nat.lt_of_lt_of_le (hlx q hq) hVV.size) j8.size (Nat.le_trans hcall9.size hVV.size) hob2
      have hnin : b4 ∉ (qo2.toList ++ (bs ++ bx)) ++ (ao.toList ++ bs2) := fun h => (List.mem_append.1 h).elim (sB (fun h => ha4 (List.mem_append_left _ h)) (Nat.lt_of_lt_of_le hb4l (Nat.le_trans hcall9.size hVV.size)) (fun q hq e => by have := hFx.ge q hq; omega) hob2) (fun h => ha4 (List.mem_append_right _ h))
      refine wan (aF (bN (aR (aQ (aQ (aY ?_)))))); refine ⟨⟨f', f2, k2, n + 1, n2, e3, fl, xs, l ++ [x], true, qa2, qc2, qo2, bs ++ bx, aa, ac, ao, bs2, ns3, na3, nc3, nb3⟩, ?_, ⟨rfl, rfl, rfl, trivial⟩, ⟨rfl, rfl, rfl, trivial⟩, G7, ?_⟩
      · (try dsimp only); show (if e3 = 0 then N + 1 - k2 else 0) < (if (0 : Int) = 0 then N + 1 - k else 0); rw [if_pos rfl]; rcases A9 with ⟨h1, -, h2, h3, -⟩ | ⟨h1, -⟩; (rw [if_pos h1]; omega); (rw [if_neg h1]; omega)
      try dsimp only
      refine ⟨⟨(d0.blk (b6.blk0 (b5.blk (a9.blk0 d2.b0) (Apart.new (Lt.blk d2.b0) c9).nmem1)) (hp6).symm.nmem), ((((d2.run.evo0 a9).evo b5 (Apart.new (Lt.own d2.run) c9).own1).evo0 b6).evo d0 (hp8).symm.own), ((((d2.o0.evo0 a9).evo b5 (Apart.new (Lt.own d2.o0) c9).own1).evo0 b6).evo d0 (hu5).symm.own)⟩, (d0.blk (b6.blk0 (b5.blk (a9.blk0 o5) (Apart.new (Lt.blk o5) c9).nmem1)) (hp9).symm.nmem), (d0.blk (b6.blk0 (b5.blk (a9.blk0 o6) (Apart.new (Lt.blk o6) c9).nmem1)) (hp10).symm.nmem), ⟨_, i0, fun h9 => ?_, fun h9 i1 => ?_⟩, ⟨_, ((((o8.evo0 a9).evo b5 (Apart.new (Lt.own o8) c9).own1).evo0 b6).evo d0 (hp11).symm.own), G8⟩, hFr9, hnin, NB.older hnb hnb3 j8.size, by show (l ++ [x]).length + xs.length ≤ N + 2; rw [List.length_append]; show l.length + 1 + xs.length ≤ N + 2; omega, ?_⟩
      · obtain ⟨-, -, -, -, -, vs, hv, hOT⟩ := A9.resolve_right (fun h8 => h8.1 h9)
        have hvs := vH (l := [_, _, _, _, _, _, _, _, _]) hv; subst hvs
        exact OTs.app G9 (OTs.single (hOT.evo (y1.step d0 (fun y hy => .inl hy)) (fun q hq h => by have h7 := hFx.ge q hq; have h8 := hlq q (List.mem_append_left _ h); omega)))
      · have K5 : n = 0 := by have h8 : n + 1 = 1 := i1; omega
        have K6 := hown.length; rw [K5] at K6; have K7 : cs = [] := List.length_eq_zero_iff.1 (by omega); rw [K7]; exact ⟨_, _, _, _, _, _, _, _, _, _, _, _, _, rfl⟩
      · rcases A9 with ⟨rfl, hx, h2, h3, h4, -⟩ | ⟨h1, h2, h3⟩
        · have hlt := mP hU.2 h2 h3
          exact .inl ⟨rfl, by show k0 ≤ k2; omega, h3, h4, hRc.trans (tE (at_pc hng hrp0 hx)), by show s.size + 1 ≤ f' + aU s k2; omega, by show s.size + 1 ≤ f2 + aU s k2; omega, fun _ h8 => by simp at h8, by show (l ++ [x]).length + xs.length ≤ k2; rw [List.length_append]; show l.length + 1 + xs.length ≤ k2; omega⟩
        · exact .inr ⟨h1, hRc.trans (sI (FM (st := ⟨aU s k, fl, o, ns⟩) hng hrp0 h2)), h3⟩
     refine cW (bS (bS (cV (aY ?_)))); refine ⟨⟨k, n, n2, 0, fl, xs, l, qa, qc, qo, bs, aa, ac, ao, bs2, ns, na, nc, nb⟩, ⟨rfl, rfl, trivial⟩, ⟨rfl, trivial⟩, (k1.then W), ?_⟩; refine ⟨⟨l0, l1, l2⟩, (W.blk0 k5), ⟨_, p3, fun _ => p4, LJ p3 p4⟩, ⟨_, (k7.evo0 W), (k8.evo0 W)⟩, hfr, ha4, hnb, hlen, ?_⟩; refine .inl ⟨rfl, hk0, hkN, hnl, hRc.trans (JA ?_)⟩; exact .inr (dR (b := 41) hU hkN (by decide) (Classical.not_not.1 p5)).1
    refine lX 18 rfl (Evo.refl [] B) ?_; refine cA [19] (by kernel_rfl) rfl ⟨?_, trivial⟩; refine cG rfl ?_; refine aP (aR (bV (.inl (Evo.refl [] B)) ?_)); refine lX 20 rfl (Evo.refl [] B) ?_; refine aet 21 rfl (fun _ hS => eZ rfl rfl) (Evo.refl [] B) ?_; refine dB (by kernel_rfl) (aC ?_); refine cF rfl ?_; refine cW (bS (bS (cV (aY ?_)))); refine ⟨⟨k, n, n2, 0, fl, xs, l, qa, qc, qo, bs, aa, ac, ao, bs2, ns, na, nc, nb⟩, ⟨rfl, rfl, trivial⟩, ⟨rfl, trivial⟩, k1, ?_⟩; refine ⟨⟨g2, k3, k4⟩, k5, ⟨_, k6, fun _ => hts, LJ k6 hts⟩, ⟨_, k7, k8⟩, hfr, ha4, hnb, hlen, ?_⟩; refine .inl ⟨rfl, hk0, hkN, hnl, hRc.trans (JA ?_)⟩
    exact .inl (by show s.size ≤ aU s k; rw [show k = N by omega, rI hU]; exact Nat.le_refl _)
   refine lX 6 rfl (Evo.refl [] B) ?_; refine lX 7 rfl (Evo.refl [] B) ?_; refine lX 8 rfl (Evo.refl [] B) ?_; refine lX 9 rfl (Evo.refl [] B) ?_; refine lX 10 rfl (Evo.refl [] B) ?_; refine lX 11 rfl (Evo.refl [] B) ?_; refine lX 12 rfl (Evo.refl [] B) ?_; refine lX 13 rfl (Evo.refl [] B) ?_; refine lX 14 rfl (Evo.refl [] B) ?_; refine lX 15 rfl (Evo.refl [] B) ?_; refine aet 16 rfl (fun _ hS => eZ rfl rfl) (Evo.refl [] B) ?_; refine aet 17 rfl (fun _ hS => bC rfl) (Evo.refl [] B) ?_; refine lX 18 rfl (Evo.refl [] B) ?_; refine cA [19] (by kernel_rfl) rfl ⟨?_, trivial⟩; refine cG rfl ?_; refine aP (aR (bV (.inl (Evo.refl [] B)) ?_)); refine lX 20 rfl (Evo.refl [] B) ?_
   refine aet 21 rfl (fun _ hS => eZ rfl rfl) (Evo.refl [] B) ?_; refine dB (by kernel_rfl) (aC ?_); refine cF rfl ?_; refine cW (bS (bS (cV (aY ?_)))); refine ⟨⟨k, n, n2, e, fl, xs, l, qa, qc, qo, bs, aa, ac, ao, bs2, ns, na, nc, nb⟩, ⟨rfl, rfl, trivial⟩, ⟨rfl, trivial⟩, k1, ?_⟩
   refine ⟨⟨g2, k3, k4⟩, k5, ⟨_, k6, fun h9 => absurd h9 (by show ¬ e = 0; omega), hjk (by show e ≠ 0; omega)⟩, ⟨_, k7, k8⟩, hfr, ha4, hnb, hlen, ?_⟩
   exact .inr (hD.resolve_left (fun h9 => absurd h9.1 (by show ¬ e = 0; omega)))
  rintro ⟨k, n, n2, e, fl, xs, l, qa, qc, qo, bs, aa, ac, ao, bs2, ns, na, nc, nb⟩ B0 ⟨y2, ⟨D, h4, ⟨cs, hown, hts0, hjk⟩, ⟨csA, hownA, htsA⟩, hfr, ha4, hnb, hlen, hD⟩⟩; refine aC ?_; show CW _ _ _ _ [(5, .slice aa n2 ac), (6, .slice qa n qc), (4, _)] _
  try dsimp only at D h4 cs hown hts0 hjk csA hownA htsA hfr ha4 hnb hlen hD
  have hp1 := D.ap1; have hp3 := D.ap3; have hp5 := fO h4 D.own (by decide +kernel); have hp6 := (fO D.b0 hown (by decide +kernel)).symm; have hp7 := gZ hown D.own (by decide +kernel); have hp8 := gZ hown D.run (by decide +kernel); have hp10 := (BC (fun h => ha4 (List.mem_append_left _ h))).symm; have f7 := (fO D.b0 hownA (by decide +kernel)).symm; have z7 := gZ hownA D.own (by decide +kernel); have z8 := gZ hownA D.run (by decide +kernel); have j9 := (BC (fun h => ha4 (List.mem_append_right _ h))).symm; have hp11 : Apart qo ao := fun g h7 h8 => (List.nodup_append.1 hfr.nd).2.2 g (List.mem_append_left _ (by simp [h7])) g (List.mem_append_left _ (by simp [h8])) rfl; have nma := HY D hownA htsA; refine aM (csr (aA (aB (bM rfl Tryz.underlying25 rfl) ?_))); refine wel ?_; refine wnn (aZ rfl (fun H0 => ?_) (fun H0 => ?_))
  ·refine csr (aA (aG (vs := [_]) sR rfl (zL hown hjk) rfl ?_)); rintro _ J3 ⟨⟨hJ, hrow⟩, g6⟩; have hEx := (Evo.refl ([]) B0); obtain ⟨k9, r9, mn9, mx9, cp9, ra9, ka9, rl9, rc9, kl9, kc9, lz9, nm9, rfl⟩ := id hJ; refine aV rfl rfl aJ (g6.blk0 h4) rfl rfl ⟨rfl, rfl, rfl, rfl, rfl, rfl, rfl, rfl, rfl, trivial⟩ fun P4 y3 g7 => ?_; have y4 := (y2.then g6).step g7 hg4.mem1
   have H1 := (Evo.refl ([b4]) J3).step g7 (fun y hy => .inl (by rw [List.mem_singleton.1 hy]; simp))
   have y5 := g7.blk (g6.blk0 D.b0) (hA4r).symm.nmem1; have y6 := (D.run.evo0 g6).evo g7 (hA4u).symm.own1; have y7 := (D.o0.evo0 g6).evo g7 (hp5).symm.own1
   try simp only [cH, Nat.reduceAdd] at y3
   refine wnn (aK (aE (bT rfl (ResOk.cellA rfl bF aJ y3 rfl) ?_)))
   rcases hD with ⟨he, hk0, hkN, hnl, hRx⟩ | ⟨he, hRe, hbd⟩
   · replace hlen : l.length + xs.length ≤ N + 2 := hlen
     have hts9 := (hts0 he).evo0 hEx; obtain ⟨vs, bs', hv, hOT, hsub⟩ := hrow l bs hts9 (by omega); have hvs := vH (l := [_, _, _, _, _, _, _, _, _]) hv; subst hvs; have he' : e = 0 := he; subst he'
     have hxs : xs = [] := List.length_eq_zero_iff.1 (by have h8 := lF hownA htsA; omega)
     subst hxs; exact ⟨.inl ⟨oA 4 l, k, fl, ns, na, nc, nb, hRx, hk0, hkN, hnl, ⟨_, bs', rfl, hOT.evo H1 (fun q hq h => ha4 (List.mem_append_left _ (hsub.subset (List.mem_singleton.1 h ▸ hq)))), hfr.sub (hsub.trans (List.sublist_append_left _ _))⟩, ⟨y5, y6, y7⟩, hnb⟩, y4⟩
   · exact ⟨.inr ⟨e, k, ns, na, nc, nb, hRe, he, hbd, ⟨_, _, _, _, _, _, _, _, _, _, _, _, _, rfl⟩, ⟨y5, y6, y7⟩, hnb⟩, y4⟩
  refine aN (aC (csr (aA (aA (aG (vs := [_]) sR rfl (zL hown hjk) rfl ?_))))); rintro _ J4 ⟨⟨hJ, hrow⟩, e6⟩; have hEx := (Evo.refl ([]) B0); have hrw9 := e6; obtain ⟨k9, r9, mn9, mx9, cp9, ra9, ka9, rl9, rc9, kl9, kc9, lz9, nm9, rfl⟩ := id hJ; refine bL (vs := [_]) rfl cY rfl rfl rfl rfl fun P5 P6 H2 L2 e7 => ?_; have y8 := (y2.then e6).then e7; have y9 := (Evo.refl (b4 :: ao.toList) J4).then e7; have z0 := e7.blk0 (e6.blk0 h4); have hVq := y9; have hVw := y8
  refine cM rfl rfl rfl rfl jB ((hownA.evo0 e6).evo0 e7) (Src.ofOwn H2 ⟨rfl, rfl, rfl, rfl, rfl, rfl, rfl, rfl, rfl, trivial⟩) (by have h8 := lF hownA htsA; omega) fun aa2 ac2 P7 ao2 i0 f5 hob885 => ?_
  have H3 := y8.step f5 (fun y hy => .inr (hfr.ge y (List.mem_append_right _ (List.mem_append_left _ hy)))); have H4 := y9.step f5 (fun y hy => .inl (List.mem_cons_of_mem _ hy)); have hob2 := hob885; refine wan (csr (aA (aB (cI (vs := [(0, _), (8, _)]) cB rfl (cells := [_, _, _, _, _, _, _, _, _]) rfl) ?_))); refine aV rfl rfl aJ (f5.blk z0 (j9).symm.nmem) rfl rfl ⟨rfl, rfl, rfl, rfl, rfl, rfl, rfl, rfl, rfl, trivial⟩ fun P8 z1 f6 => ?_; have z2 := H3.step f6 hg4.mem1
  have H5 := H4.step f6 (fun y hy => .inl (by rw [List.mem_singleton.1 hy]; simp))
  have z4 := f6.blk (f5.blk (e7.blk0 (e6.blk0 D.b0)) (f7).symm.nmem) (hA4r).symm.nmem1; have z5 := (((D.run.evo0 e6).evo0 e7).evo f5 (z8).symm.own).evo f6 (hA4u).symm.own1; have z6 := (((D.o0.evo0 e6).evo0 e7).evo f5 (z7).symm.own).evo f6 (hp5).symm.own1; have H6 := (((htsA.evo0 e6).evo0 e7).evo f5 (pX (Fr.right hfr))).evo f6 (fun q hq h => ha4 (List.mem_append_right _ (List.mem_append_right _ (List.mem_singleton.1 h ▸ hq))))
  try simp only [cH, Nat.reduceAdd] at z1
  refine wnn (aK (bT rfl (ResOk.cellA rfl bF aJ z1 rfl) ?_))
  rcases hD with ⟨he, hk0, hkN, hnl, hRx⟩ | ⟨he, hRe, hbd⟩
  · replace hlen : l.length + xs.length ≤ N + 2 := hlen
    have hts9 := (hts0 he).evo0 hEx; obtain ⟨vs, bs', hv, hOT, hsub⟩ := hrow l bs hts9 (by omega); have hvs := vH (l := [_, _, _, _, _, _, _, _, _]) hv; subst hvs; have he' : e = 0 := he; subst he'; have Q6 := lF hownA htsA; have K8 := Fr.over hfr hsub (fun q h => Nat.lt_of_lt_of_le ((List.mem_append.1 h).elim (jI hown (hts0 he) q) (jI hownA htsA q)) (Nat.le_trans hEx.size (Nat.le_trans hrw9.size hVq.size))) hVw.size hob2
    have w5 := OTs.app H6 (OTs.single (hOT.evo H5 (fun q hq h => by rcases List.mem_cons.1 h with rfl | h; (exact ha4 (List.mem_append_left _ (hsub.subset hq))); (exact (List.nodup_append.1 hfr.nd).2.2 q (hsub.subset hq) q (List.mem_append_left _ h) rfl))))
    have hl9 : 2 ≤ (xs ++ [oA 4 l]).length := by rw [List.length_append]; show 2 ≤ xs.length + 1; omega
    rw [wH hl9] at hRx
    exact ⟨.inl ⟨_, k, fl, ns, na, nc, nb, hRx, hk0, hkN, hnl, ⟨_, _, rfl, LK 5 (i0.evo f6 ((j9).symm.app (Lt.blk z0) hob885).symm.own1) w5 (by rw [List.length_append]; show xs.length + 1 ≤ 1000000; omega), K8⟩, ⟨z4, z5, z6⟩, hnb⟩, z2⟩
  · exact ⟨.inr ⟨e, k, ns, na, nc, nb, hRe, he, hbd, ⟨_, _, _, _, _, _, _, _, _, _, _, _, _, rfl⟩, ⟨z4, z5, z6⟩, hnb⟩, z2⟩
theorem GX : Build Tryz.prog 72 #[(0, 1), (1, 1), (2, 1), (3, 1), (4, 1), (5, 1)] #[.slice none 0 0, .int .i64 0, .int .i64 0, .int .i64 0, .slice none 0 0, .int .i64 0] := ⟨_, .agg #[.slice none 0 0, .int .i64 0, .int .i64 0, .int .i64 0, .slice none 0 0, .int .i64 0], Tryz.underlying72, by kernel_rfl, rfl, fun w => by kernel_rfl⟩
theorem GW : Build Tryz.prog 75 #[(0, 1), (1, 1), (2, 1), (3, 1)] #[.bool false, .bool false, .bool false, .bool false] := ⟨_, .agg #[.bool false, .bool false, .bool false, .bool false], Tryz.underlying75, by kernel_rfl, rfl, fun w => by kernel_rfl⟩
theorem KD : dW Tryz.prog 38 := ⟨_, Tryz.func38, by kernel_rfl, by kernel_rfl⟩
theorem WE {s : ByteArray} {N : Nat} (hU : Utf s N) (hN : N ≤ 10000) (hs : s.size ≤ 10000) (b : Nat) : ∀ (n o : Nat) (m : RfM), o + n = 250 → ExR b s N m o (oL s n)
  | 0, o, m, ho => fun w k fl ns na nc nb e R hR h0 h1 => HM (m := m.nm na nc nb) hR hU hN hs (by omega) (ex := fun _ => .error 3) (fun h => by omega) h0 h1
  | n + 1, o, m, ho => fun w k fl ns na nc nb e R hR h0 h1 => HM (m := m.nm na nc nb) hR hU hN hs (by omega) (ex := oL s n) (fun h => WE hU hN hs b n (o + 1) (m.nm na nc nb) (by omega)) h0 h1
theorem PU {w : World} (s : ByteArray) :
    Calls Tryz.prog 12 #[.string s] w (Ret fun v w' => Evo [] w w' ∧ ((∃ e, iV s = .error e ∧ e ≠ 0 ∧ v = .tuple #[zRx, iv e]) ∨ ∃ x vs bs, iV s = .ok x ∧ v = .tuple #[.agg vs.toArray, iv 0] ∧ OT x w' vs bs ∧ Fr w bs)) := by
  refine bE (N := 49) Tryz.func12 rfl rfl rfl ?_; refine csr (cO rfl dC fun b2 w1 d5 d6 f0 => ?_); have f5 := d6; have a2 := Ge.new (Evo.refl [] w) d6; have d7 := (Evo.refl [] w).then f0; refine wan (aM (csr (aA (aB (cQ rfl Tryz.underlying9 rfl) ?_)))); refine aB (eW rfl rfl) ?_; refine wnn (aZ rfl (fun e3 => ?_) (fun e3 => ?_))
  ·refine csr (aB (cI (vs := []) cB rfl (cells := [_, _, _, _, _, _, _, _, _]) rfl) ?_); refine aV rfl rfl aJ d5 rfl rfl ⟨rfl, rfl, rfl, rfl, rfl, rfl, rfl, rfl, rfl, trivial⟩ fun w7 d8 f6 => ?_
   try simp only [cH, Nat.reduceAdd] at d8
   refine wan (aK (aE (gC rfl (ResOk.cellA rfl bF aJ d8 rfl) (ResOk.tmp rfl) ?_))); exact ⟨(d7.step f6 a2.mem1), .inl ⟨1, NF (by omega), by decide, rfl⟩⟩
  have hlen : ¬ 4096 < s.size := by omega
  refine aN (aC (csr (aA ?_))); refine aG (vs := [_]) KD rfl (HO s (by omega)) rfl ?_; rintro _ g5 ⟨c0, ra, N, rc, e0, rfl, hrn⟩; have I := d7.then c0; have U := c0.blk0 d5; refine aA (aB (cC rfl rfl) ?_); refine aB (cC rfl rfl) ?_; refine bN (wan (aM (csr (aA (aB (fE rfl rfl) ?_))))); refine wnn (aZ rfl (fun c1 => ?_) (fun c1 => ?_))
  ·refine csr (aB (cI (vs := []) cB rfl (cells := [_, _, _, _, _, _, _, _, _]) rfl) ?_); refine aV rfl rfl aJ U rfl rfl ⟨rfl, rfl, rfl, rfl, rfl, rfl, rfl, rfl, rfl, trivial⟩ fun g6 c3 e4 => ?_
   try simp only [cH, Nat.reduceAdd] at c3
   refine wan (aK (aE (gC rfl (ResOk.cellA rfl bF aJ c3 rfl) (ResOk.tmp rfl) ?_))); obtain ⟨he4, hnU⟩ := hrn.resolve_right (fun h9 => c1 (by rw [h9.1])); exact ⟨(I.step e4 a2.mem1), .inl ⟨4, TG hlen hnU, by decide, rfl⟩⟩
  obtain ⟨he0, hU, ro, hRU, hGe⟩ := hrn.resolve_left (fun h9 => by omega)
  have g7 : N ≤ s.size := by have h9 := EN hU.2; rw [hU.1] at h9; exact h9
  refine aN (aC (csr (aA (aB (cI (vs := [(0, _)]) GX rfl (cells := [_, _, _, _, _, _]) rfl) ?_)))); refine iM rfl rfl fun b g8 c4 V J => ?_; have f8 := V; have F := Apart.new (Lt.blk U) V; refine wan (csr (aA (aB (cI (vs := []) GW rfl (cells := [_, _, _, _]) rfl) ?_)))
  refine aG (vs := [_, _]) xZ rfl (WE hU (by omega) (by omega) b 250 0 ⟨ra, rc, ro, none, 0, none⟩ rfl _ 0 ⟨false, false, false, false⟩ [] none 0 none 0 (oL s 250 st0) ⟨c4, (hRU.evo0 J), OwnS.nil _ _ _⟩ (fun _ => ⟨Nat.zero_le _, by show 0 ≤ 100; omega, rfl⟩) (fun h => (h rfl).elim)) rfl ?_
  rintro _ d9 ⟨hP, h0w⟩; have hVc := (I.then J); have hbl := fF c4; have hb2l := fF (J.blk0 U); have c5 : Evo [b] _ _ := h0w; have c6 := (I.then J).step c5 ((Ge.new I V).mem1); have c7 := c5.blk (J.blk0 U) ((by first | exact F.own1 | exact F.nmem1)); obtain ⟨k1, ns1, na1, nc1, nb1, e1, D, hnb30, e5, hk30, W⟩ := hP.un (by omega); obtain ⟨k9, r9, mn9, mx9, cp9, ra9, ka9, rl9, rc9, kl9, kc9, lz9, nm9, rfl⟩ := id e5; have hap1 := D.ap1; have hap2 := D.ap2; have hap3 := D.ap3; refine cO rfl dC fun b7 g9 e6 E G => ?_; have f7 := E; have a3 := Apart.new (Lt.blk D.b0) E; refine aV rfl rfl aJ e6 rfl rfl ⟨rfl, rfl, rfl, rfl, rfl, rfl, rfl, rfl, rfl, trivial⟩ fun h0 a4 H => ?_; have a5 := H.blk (G.blk0 D.b0) a3.nmem1
  try simp only [cH, Nat.reduceAdd] at a4
  refine wnn (aM (aM ?_)); refine eK (by kernel_rfl) (by kernel_rfl) ?_; refine bG (fun _ B => bC rfl) ?_; refine bG (fun _ B => aH rfl) ?_; refine bG (fun _ B => aD rfl bO) ?_; refine bG (fun _ B => aX rfl bD (bI (B.blk0 a5) rfl)) ?_; refine bG (fun _ B => bC rfl) ?_; refine bG (fun _ B => aH rfl) ?_; refine bG (fun _ B => aD rfl fL) ?_; refine bG (fun _ B => aX rfl gD (bI (B.blk0 a5) rfl)) ?_; refine bG (fun _ B => bM rfl Tryz.underlying67 rfl) ?_; refine bG (fun _ B => dA rfl rfl) ?_; refine eN (fun g0 B => aC ?_); have a6 := ((c6.then G).step H (Ge.new c6 E).mem1).then B; have a7 := (((Evo.refl [b, b2] d9).then G).step H (Ge.new (Evo.refl [b, b2] d9) E).mem1).then B; have a8 := B.blk0 (H.blk (G.blk0 c7) (Apart.new (Lt.blk c7) E).nmem1); have a9 := B.blk0 a5; refine aZ rfl (fun e7 => ?_) (fun e7 => ?_)
  ·refine aF (aA ?_); refine aG (vs := [_, _]) eQ rfl (mC (k := k1) (o := 0) (ns := ns1) (e := e1) ⟨a9, (((D.run.evo0 G).evo H (Apart.new (Lt.own D.run) E).own1).evo0 B), (((D.o0.evo0 G).evo H (Apart.new (Lt.own D.o0) E).own1).evo0 B)⟩ 80 (by decide)) rfl ?_; rintro _ h3 ⟨rfl, Y, e2⟩
   have c8 := a7.step Y (fun y hy => .inl (by rw [List.mem_singleton.1 hy]; simp))
   have c9 := Y.blk a8 ((by first | exact F.own1 | exact F.nmem1)); have e8 := Y.blk (B.blk0 a4) ((by first | exact a3.symm.own1 | exact a3.symm.nmem1)); refine wnn (aM (csr (aA (aB (aH rfl) (wfl rfl iY rfl bD e2.b0 rfl (aB (fE rfl rfl) ?_)))))); refine wnn (aZ rfl (fun L => ?_) (fun L => ?_))
   ·refine aM ?_; refine fR (fun w0 w' => Evo [b2] w0 w') (by kernel_rfl) (fun M Z => ?_); refine aet 0 rfl (fun _ hS => cI (vs := []) cB rfl (cells := [_, _, _, _, _, _, _, _, _]) rfl) (Evo.refl [b2] M) ?_; refine aet 1 rfl (fun _ hS => bC rfl) (Evo.refl [b2] M) ?_; refine aet 2 rfl (fun _ hS => aH rfl) (Evo.refl [b2] M) ?_; refine aet 3 rfl (fun _ hS => aD rfl iY) (Evo.refl [b2] M) ?_; refine aet 4 rfl (fun _ hS => aX rfl bD (bI (hS.blk (Z.blk0 e2.b0) (F.symm.nmem1)) rfl)) (Evo.refl [b2] M) ?_; refine cA [5] (by kernel_rfl) rfl ⟨?_, trivial⟩; refine cG rfl ?_; refine aV rfl rfl aJ (Z.blk0 c9) rfl rfl ⟨rfl, rfl, rfl, rfl, rfl, rfl, rfl, rfl, rfl, trivial⟩ fun h4 d0 b4 => ?_; have d1 := ((a6.step Y ((Ge.new I V).mem1)).then Z).step b4 a2.mem1
    have g1 := (c8.then Z).step b4 (fun y hy => .inl (by rw [List.mem_singleton.1 hy]; simp))
    have d2 := (Evo.refl [b2] M).step b4 (fun y hy => .inl (by rw [List.mem_singleton.1 hy]; simp))
    try simp only [cH, Nat.reduceAdd] at d0
    refine aR (bV (.inl d2) ?_); refine aet 6 rfl (fun _ hS => cR rfl) d2 ?_; refine dB (by kernel_rfl) (aC ?_); refine aK (aE (gC rfl (ResOk.cellA rfl bF aJ d0 rfl) (ResOk.tmp rfl) ?_))
    by_cases he1 : e1 = 0
    · subst he1
      obtain ⟨-, x, fl', hx, -⟩ := W.resolve_right (fun h9 => h9.1 rfl); exact ⟨d1, .inl ⟨80, NE hlen ⟨N, hU⟩ hx (gA hU (by omega)), by decide, rfl⟩⟩
    · have hx := (W.resolve_left (fun h9 => he1 h9.1)).2
      exact ⟨d1, .inl ⟨e1, EG hlen ⟨N, hU⟩ hx, he1, by rw [if_neg he1]⟩⟩
   refine aN (aC (csr (aB (bX rfl bF aJ e8 rfl) (aV rfl rfl aJ c9 rfl rfl ⟨rfl, rfl, rfl, rfl, rfl, rfl, rfl, rfl, rfl, trivial⟩ fun h5 d3 e9 => ?_))))
   have g2 := c8.step e9 (fun y hy => .inl (by rw [List.mem_singleton.1 hy]; simp))
   try simp only [cH, Nat.reduceAdd] at d3
   refine wan (aK (gC rfl (ResOk.cellA rfl bF aJ d3 rfl) (ResOk.tmp rfl) ?_))
   exact (by split at L <;> omega : False).elim
  refine aN (aC (aM (csr (aA (aB (aH rfl) (wfl rfl iY rfl bD a9 rfl (aB (fE rfl rfl) ?_))))))); refine wnn (aZ rfl (fun L => ?_) (fun L => ?_))
  ·refine aM ?_; refine fR (fun w0 w' => Evo [b2] w0 w') (by kernel_rfl) (fun O a0 => ?_); refine aet 0 rfl (fun _ hS => cI (vs := []) cB rfl (cells := [_, _, _, _, _, _, _, _, _]) rfl) (Evo.refl [b2] O) ?_; refine aet 1 rfl (fun _ hS => bC rfl) (Evo.refl [b2] O) ?_; refine aet 2 rfl (fun _ hS => aH rfl) (Evo.refl [b2] O) ?_; refine aet 3 rfl (fun _ hS => aD rfl iY) (Evo.refl [b2] O) ?_; refine aet 4 rfl (fun _ hS => aX rfl bD (bI (hS.blk (a0.blk0 a9) (F.symm.nmem1)) rfl)) (Evo.refl [b2] O) ?_; refine cA [5] (by kernel_rfl) rfl ⟨?_, trivial⟩; refine cG rfl ?_; refine aV rfl rfl aJ (a0.blk0 a8) rfl rfl ⟨rfl, rfl, rfl, rfl, rfl, rfl, rfl, rfl, rfl, trivial⟩ fun g3 b5 a1 => ?_
   have f9 := (a7.then a0).step a1 (fun y hy => .inl (by rw [List.mem_singleton.1 hy]; simp))
   have b6 := (Evo.refl [b2] O).step a1 (fun y hy => .inl (by rw [List.mem_singleton.1 hy]; simp))
   try simp only [cH, Nat.reduceAdd] at b5
   refine aR (bV (.inl b6) ?_); refine aet 6 rfl (fun _ hS => cR rfl) b6 ?_; refine dB (by kernel_rfl) (aC ?_); refine aK (aE (gC rfl (ResOk.cellA rfl bF aJ b5 rfl) (ResOk.tmp rfl) ?_)); have he1 : e1 ≠ 0 := L; have hx := (W.resolve_left (fun h9 => he1 h9.1)).2; exact ⟨((a6.then a0).step a1 a2.mem1), .inl ⟨e1, EG hlen ⟨N, hU⟩ hx, he1, rfl⟩⟩
  refine aN (aC (csr (aB (bX rfl bF aJ (B.blk0 a4) rfl) (aV rfl rfl aJ a8 rfl rfl ⟨rfl, rfl, rfl, rfl, rfl, rfl, rfl, rfl, rfl, trivial⟩ fun g4 b8 b9 => ?_))))
  have d4 := a7.step b9 (fun y hy => .inl (by rw [List.mem_singleton.1 hy]; simp))
  try simp only [cH, Nat.reduceAdd] at b8
  refine wan (aK (gC rfl (ResOk.cellA rfl bF aJ b8 rfl) (ResOk.tmp rfl) ?_)); obtain ⟨-, x, fl', hx, -, hkN, -, vs, bs, hv, hT, hF⟩ := W.resolve_right (fun h9 => h9.1 (by omega)); have hvs := vH (l := [_, _, _, _, _, _, _, _, _]) hv; subst hvs
  exact ⟨(a6.step b9 a2.mem1), .inr ⟨x, _, bs, TH hlen ⟨N, hU⟩ hx (by show ¬ aU s k1 < s.size; rw [show k1 = N by omega, rI hU]; omega), rfl, hT.evo d4 (fun q hq h9 => by have h8 := hF.ge q hq; simp at h9; omega), hF.older hVc.size⟩⟩
end Go.Proofs.YtljadkcojnlioaaGreatDoor
namespace Go.Proofs.YtljadkcojnlioaaGreatDoor
open Go.RowKit Go.W
section
variable {k m : Nat} {S T : Int → Prop}
end
section
variable {s : ByteArray}
def SzOk (s : ByteArray) (ex : PS → PX Rx) (n : Nat) : Prop := ∀ st x st', st.opn = n → Bd s st.pos → st.names.length ≤ 100 → ex st = .ok (x, st') → x.ms + 1000 * st.pos ≤ 1000 * st'.pos + 80
section
variable {ex : PS → PX Rx} {o : Nat} (ho : o ≤ 250) (hex : o < 250 → ExOk s ex (o + 1)) (hsz : SzOk s ex (o + 1))
include ho hex hsz
end
end
end Go.Proofs.YtljadkcojnlioaaGreatDoor
namespace Go.Proofs.YtljadkcojnlioaaGreatDoor
open Go.RowKit Go.W
attribute [local irreducible] Decidable.decide
theorem KJ : dW Tryz.prog 10 := ⟨_, Tryz.func10, by kernel_rfl, by kernel_rfl⟩
end Go.Proofs.YtljadkcojnlioaaGreatDoor
