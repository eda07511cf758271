/- Parses: part 5 of 7 of what the law rests on. -/
import Derived.Test.YtljadkcojnlioaaGreatDoorUkD
set_option linter.unusedSectionVars false
set_option linter.unusedSimpArgs false
set_option linter.unusedVariables false
namespace Go.Proofs.YtljadkcojnlioaaGreatDoor
open Go.RowKit Go.W
attribute [local irreducible] Decidable.decide
theorem fL : eU Tryz.prog 72 0 = some 0 := by kernel_rfl
theorem bO : eU Tryz.prog 72 1 = some 1 := by kernel_rfl
theorem iY : eU Tryz.prog 72 5 = some 5 := by kernel_rfl
structure RfS where
  k : Nat
  opn : Nat
  names : List ByteArray
  err : Int
structure RfM where
  ra : Option Addr
  rc : Nat
  rb : Option Nat
  na : Option Addr
  nc : Nat
  nb : Option Nat
def rfc (N : Nat) (x : RfS) (m : RfM) : Array Value := #[.slice m.ra N m.rc, iv x.k, iv x.opn, iv x.names.length, .slice m.na x.names.length m.nc, iv x.err]
structure RfAt (w : World) (b : Nat) (s : ByteArray) (N : Nat) (x : RfS) (m : RfM) : Prop where
  blk : w.heap[b]? = some (.cells (rfc N x m) 72 (0, 0))
  run : OwnS w 21 1 m.ra N m.rc (wS (jH s N)) m.rb
  own : OwnS w 9 1 m.na x.names.length m.nc (x.names.map sv) m.nb
section
variable {w : World} {b : Nat} {s : ByteArray} {N : Nat} {x : RfS} {m : RfM}
theorem RfAt.ap1 (h : RfAt w b s N x m) : Apart (some b) m.nb := fO h.blk h.own (by decide +kernel)
theorem RfAt.ap2 (h : RfAt w b s N x m) : Apart (some b) m.rb := fO h.blk h.run (by decide +kernel)
theorem RfAt.ap3 (h : RfAt w b s N x m) : Apart m.rb m.nb := gZ h.run h.own (by decide +kernel)
end
def rn (s : ByteArray) (N i : Nat) : Int := if i < N then xJ s i else -1
section
variable {s : ByteArray} {N i : Nat}
theorem nP (h : i < N) : rn s N i = (cL s (aU s i)).1 := by rw [rn, if_pos h]; rfl
theorem tT (h : ¬ i < N) : rn s N i = -1 := by rw [rn, if_neg h]
theorem Utf.bd (hU : Utf s N) (h : i ≤ N) : Bd s (aU s i) := ⟨N, i, hU, h, rfl⟩
theorem uJ (hU : Utf s N) : -1 ≤ rn s N i ∧ rn s N i ≤ 1114111 := by
  by_cases h : i < N
  · rw [nP h]
    have h1 := mP hU.2 h (Nat.le_refl _)
    have h2 := (hU.bd (Nat.le_of_lt h)).next (by have := hU.1; omega)
    omega
  · rw [tT h]; omega
theorem rI (hU : Utf s N) : aU s N = s.size := hU.1
theorem gA (hU : Utf s N) (h : i < N) : aU s i < s.size := by have h1 := mP hU.2 h (Nat.le_refl _); have := hU.1; omega
theorem tL (hU : Utf s N) (hi : i ≤ N) (h : aU s i < s.size) : i < N := by
  rcases Nat.lt_or_ge i N with h1 | h1
  · exact h1
  · obtain rfl : i = N := by omega
    have := hU.1; omega
theorem dS (hU : Utf s N) (hi : i ≤ N) {b : Nat} (hb : b < 128) : rn s N i = (b : Int) ↔ isB s (aU s i) b := by
  constructor
  · intro h
    by_cases hc : i < N
    · rw [nP hc] at h
      have h1 := gA hU hc
      have h2 := tA ((hU.bd hi).next h1).1
      exact ⟨h1, by have := (h2.2.1 (by omega)).2; omega⟩
    · rw [tT hc] at h; omega
  · intro h
    have hc := tL hU hi h.1
    rw [nP hc, ((hU.bd hi).asc h.1 (by rw [h.2]; exact hb)).2.1, h.2]
theorem pC (hU : Utf s N) (hi : i ≤ N) {b : Nat} (hb : b < 128) (h : isB s (aU s i) b) : aU s (i + 1) = aU s i + 1 := by
  show aU s i + (cL s (aU s i)).2 = _
  rw [((hU.bd hi).asc h.1 (by rw [h.2]; exact hb)).2.2]
theorem dR (hU : Utf s N) (hi : i ≤ N) {b : Nat} (hb : b < 128) (h : rn s N i = (b : Int)) : isB s (aU s i) b ∧ aU s (i + 1) = aU s i + 1 ∧ i < N := by
  have h1 := (dS hU hi hb).1 h
  exact ⟨h1, pC hU hi hb h1, tL hU hi h1.1⟩
theorem pT (hU : Utf s N) (hi : i < N) (h : rn s N i < 128) : (sb s (aU s i) : Int) = rn s N i ∧ aU s (i + 1) = aU s i + 1 := by
  have h0 := uJ hU (i := i)
  rw [nP hi] at h ⊢
  have h1 := gA hU hi
  have h2 := tA ((hU.bd (Nat.le_of_lt hi)).next h1).1
  have h3 := h2.2.1 h
  exact ⟨h3.2, by show aU s i + (cL s (aU s i)).2 = _; rw [h3.1]⟩
theorem rn_hi (hU : Utf s N) (hi : i < N) (h : 128 ≤ rn s N i) : 128 ≤ sb s (aU s i) := by
  rw [nP hi] at h
  have h1 := gA hU hi
  exact ((tA ((hU.bd (Nat.le_of_lt hi)).next h1).1).2.2.1 h).1
end
theorem DU {w : World} {s : ByteArray} {N k c : Nat} {a : Option Addr} {e : TypeId} {ob : Option Nat} (h : OwnS w e 1 a N c (wS (jH s N)) ob) (hk : k < N) :
    ∃ g, a = some ⟨g, 0, none⟩ ∧ w.cell? ⟨g, 0 + k * 1, none⟩ = some (.int .i32 (rn s N k)) ∧ ob = some g := by
  obtain ⟨g, hg, ha, hc⟩ := h.cells (by omega)
  refine ⟨g, ha, ?_, hg⟩
  have h1 : (wS (jH s N))[k]? = some (.int .i32 (rn s N k)) := by
    unfold wS
    rw [List.getElem?_map, zJ hk, rn, if_pos hk]; rfl
  have := hc k _ h1
  rw [Nat.zero_add, Nat.mul_one]
  rw [Nat.zero_add] at this
  exact this
theorem dK {w : World} {b : Nat} {s : ByteArray} {N : Nat} {x : RfS} {m : RfM} (hR : RfAt w b s N x m) (n : Nat) (hx : x.k + n ≤ 1000000000) (hN : N ≤ 1000000000) :
    Calls Tryz.prog 63 #[.pointer (some ⟨b, 0, none⟩), .int .i64 (n : Nat)] w (Ret fun v w' => v = .int .i32 (rn s N (x.k + n)) ∧ Evo [] w w') := by
  have hap1 := hR.ap1; have hap2 := hR.ap2; have hap3 := hR.ap3; refine bE (N := 29) Tryz.func63 rfl rfl rfl ?_; refine csr (wan (aM (aM ?_))); refine eK (by kernel_rfl) (by kernel_rfl) ?_; refine bG (fun _ B => bC rfl) ?_; refine bG (fun _ B => aH rfl) ?_; refine bG (fun _ B => aD rfl bO) ?_; refine bG (fun _ B => aX rfl bD (bI (B.blk0 hR.blk) rfl)) ?_; refine bG (fun _ B => bC rfl) ?_; refine bG (fun _ B => aI rfl rfl (by omega) (by omega)) ?_; refine bG (fun _ B => bC rfl) ?_; refine bG (fun _ B => aH rfl) ?_; refine bG (fun _ B => aD rfl fL) ?_; refine bG (fun _ B => aX rfl gD (bI (B.blk0 hR.blk) rfl)) ?_; refine bG (fun _ B => bM rfl Tryz.underlying67 rfl) ?_; refine bG (fun _ B => dA rfl rfl) ?_; refine eN (fun H B => aC ?_); have E := (Evo.refl [] w).then B; refine aZ rfl (fun F => ?_) (fun F => ?_)
  ·have hk9 : x.k + n < N := by omega
   obtain ⟨g9, ha9, G, hg9⟩ := DU hR.run hk9; refine aM ?_; refine eK (by kernel_rfl) (by kernel_rfl) ?_; refine bG (fun _ D => bC rfl) ?_; refine bG (fun _ D => aH rfl) ?_; refine bG (fun _ D => aD rfl fL) ?_; refine bG (fun _ D => aX rfl gD (bI (D.blk0 (B.blk0 hR.blk)) rfl)) ?_; refine bG (fun _ D => bC rfl) ?_; refine bG (fun _ D => aH rfl) ?_; refine bG (fun _ D => aD rfl bO) ?_; refine bG (fun _ D => aX rfl bD (bI (D.blk0 (B.blk0 hR.blk)) rfl)) ?_; refine bG (fun _ D => bC rfl) ?_; refine bG (fun _ D => aI rfl rfl (by omega) (by omega)) ?_; refine bG (fun _ D => eC (n := x.k + n) rfl (by rfl) ha9 qF hk9) ?_; refine bG (fun _ D => aX rfl cD (((E.then D)).cell G (by simp))) ?_; refine bG (fun _ D => cR rfl) ?_; refine eN (fun I D => aC ?_); refine aK (aE (br1 ?_)); exact ⟨rfl, (E.then D)⟩
  refine aN (aC (csr (wan (aK (br1 ?_))))); exact ⟨by rw [tT (by omega)], E⟩
theorem zN {w : World} {b : Nat} {s : ByteArray} {N : Nat} {x : RfS} {m : RfM} (hR : RfAt w b s N x m) (e : Int) (he : -1000 ≤ e ∧ e ≤ 1000) :
    Calls Tryz.prog 40 #[.pointer (some ⟨b, 0, none⟩), .int .i64 e] w (Ret fun v w' => v = .tuple #[] ∧ Evo [b] w w' ∧ RfAt w' b s N ⟨x.k, x.opn, x.names, if x.err = 0 then e else x.err⟩ m) := by
  have hap1 := hR.ap1; have hap2 := hR.ap2; have hap3 := hR.ap3; refine bE (N := 13) Tryz.func40 rfl rfl rfl ?_; refine csr (aA (aB (aH rfl) (wfl rfl iY rfl bD hR.blk rfl (wel ?_)))); refine wnn (aZ rfl (fun E => ?_) (fun E => ?_))
  ·refine aF (aA (aA (aB (aH rfl) (aB (aD rfl iY) (bJ rfl rfl (rfl) bY hR.blk rfl fun w1 D B => ?_)))))
   try simp only [cH, Nat.reduceAdd] at D
   refine aR (dD rfl ?_)
   exact ⟨rfl, ((Evo.refl [b] w).step B (fun y hy => .inl hy)), ⟨by rw [if_pos (by omega)]; exact D, (hR.run.evo B hap2.symm.own1), (hR.own.evo B hap1.symm.own1)⟩⟩
  refine aN (dD rfl ?_)
  exact ⟨rfl, (Evo.refl [b] w), ⟨by rw [if_neg (by omega)]; exact hR.blk, hR.run, hR.own⟩⟩
theorem RfAt.b0 {w : World} {b : Nat} {s : ByteArray} {N k o : Nat} {ns : List ByteArray} {e : Int} {m : RfM} (h : RfAt w b s N ⟨k, o, ns, e⟩ m) : w.heap[b]? = some (.cells #[.slice m.ra N m.rc, iv k, iv o, iv ns.length, .slice m.na ns.length m.nc, iv e] 72 (0, 0)) := h.blk
theorem RfAt.o0 {w : World} {b : Nat} {s : ByteArray} {N k o : Nat} {ns : List ByteArray} {e : Int} {m : RfM} (h : RfAt w b s N ⟨k, o, ns, e⟩ m) : OwnS w 9 1 m.na ns.length m.nc (ns.map sv) m.nb := h.own
theorem kW {w : World} {b : Nat} {s : ByteArray} {N k o : Nat} {ns : List ByteArray} {m : RfM} (hR : RfAt w b s N ⟨k, o, ns, 0⟩ m) (e : Int) (he : -1000 ≤ e ∧ e ≤ 1000) :
    Calls Tryz.prog 40 #[.pointer (some ⟨b, 0, none⟩), .int .i64 e] w (Ret fun v w' => v = .tuple #[] ∧ Evo [b] w w' ∧ RfAt w' b s N ⟨k, o, ns, e⟩ m) := by
  have h := zN hR e he
  simpa using h
theorem cJ : dW Tryz.prog 63 := ⟨_, Tryz.func63, by kernel_rfl, by kernel_rfl⟩
theorem xT : dW Tryz.prog 88 := ⟨_, Tryz.func88, by kernel_rfl, by kernel_rfl⟩
abbrev tl (s : ByteArray) (i : Nat) : ByteArray := s.extract i s.size
theorem SP {s : ByteArray} {N i : Nat} (hU : Utf s N) (hi : i ≤ N) : (48 ≤ rn s N i ∧ rn s N i ≤ 57) ↔ (aU s i < s.size ∧ IW (sb s (aU s i))) := by
  constructor
  · rintro ⟨h1, h2⟩
    have hc : i < N := by
      rcases Nat.lt_or_ge i N with h | h
      · exact h
      · rw [tT (by omega)] at h1; omega
    have h3 := (pT hU hc (by omega)).1
    exact ⟨gA hU hc, by omega, by omega⟩
  · rintro ⟨h1, h2, h3⟩
    have hc := tL hU hi h1
    have h4 : rn s N i = (sb s (aU s i) : Int) := (dS hU hi (by omega)).2 ⟨h1, rfl⟩
    omega
theorem KQ {s : ByteArray} {N k j : Nat} (hU : Utf s N) (hk : k + j ≤ N) (ho : aU s (k + j) = aU s k + j) : (48 ≤ rn s N (k + j) ∧ rn s N (k + j) ≤ 57) ↔ (j < (tl s (aU s k)).size ∧ IW (sb (tl s (aU s k)) j)) := by
  have hz := jF s k
  rw [SP hU hk, ho, gF (Nat.le_refl _)]
  constructor
  · rintro ⟨h1, h2⟩; exact ⟨by omega, by rw [iU h1]; exact h2⟩
  · rintro ⟨h1, h2⟩; exact ⟨by omega, by rw [← iU (by omega)]; exact h2⟩
theorem HW {s : ByteArray} {N i : Nat} (hU : Utf s N) (hi : i ≤ N) (h : 48 ≤ rn s N i ∧ rn s N i ≤ 57) : i < N ∧ aU s (i + 1) = aU s i + 1 ∧ (sb s (aU s i) : Int) = rn s N i := by
  have hc := tL hU hi ((SP hU hi).1 h).1
  have := pT hU hc (by omega)
  exact ⟨hc, this.2, this.1⟩
theorem num_go {r : ByteArray} {f i : Nat} {n : Int} (h : i < r.size ∧ IW (sb r i)) : iK r (f + 1) i n = iK r f (i + 1) (min (n * 10 + ((sb r i : Int) - 48)) 1001) := by rw [iK, if_pos h]
theorem NP {r : ByteArray} {f i : Nat} {n : Int} (h : ¬ (i < r.size ∧ IW (sb r i))) : iK r f i n = (n, i) := by
  cases f with
  | zero => rfl
  | succ f => rw [iK, if_neg h]
structure RnG where
  c : Nat
  v : Int
structure RnI (s : ByteArray) (N k n : Nat) (x : RnG) : Prop where
  le : k + n + x.c ≤ N
  of : aU s (k + n + x.c) = aU s k + n + x.c
  lo : 0 ≤ x.v
  hi : x.v ≤ 99999
  eq : ∃ f, (tl s (aU s k)).size ≤ n + x.c + f ∧ iK (tl s (aU s k)) (tl s (aU s k)).size n 0 = iK (tl s (aU s k)) f (n + x.c) (min x.v 1001)
theorem RnI.step {s : ByteArray} {N k n c : Nat} {v v' : Int} (hU : Utf s N) (h : RnI s N k n ⟨c, v⟩) (hd : 48 ≤ rn s N (k + (n + c)) ∧ rn s N (k + (n + c)) ≤ 57) (hv : v' = if v < 10000 then 10 * v + (rn s N (k + (n + c)) - 48) else v) : RnI s N k n ⟨c + 1, v'⟩ := by
  obtain ⟨h1, h2, h3, h4, f, h5, h6⟩ := h
  simp only at h1 h2 h3 h4 h6
  have h5' : (tl s (aU s k)).size ≤ n + c + f := h5
  rw [Nat.add_assoc] at h1 h2
  obtain ⟨d1, d2, d3⟩ := HW hU h1 hd
  have ht := (KQ hU h1 (by omega)).1 hd
  have hz := jF s k
  have hb : (sb (tl s (aU s k)) (n + c) : Int) = rn s N (k + (n + c)) := by
    rw [iU (by have := ht.1; rw [gF (Nat.le_refl _)] at this; omega), ← d3, h2, Nat.add_assoc]
  obtain ⟨f', rfl⟩ : ∃ f', f = f' + 1 := ⟨f - 1, by have := ht.1; omega⟩
  refine ⟨by show k + n + (c + 1) ≤ N; omega, by show aU s (k + n + (c + 1)) = aU s k + n + (c + 1); rw [show k + n + (c + 1) = k + (n + c) + 1 by omega, d2, h2]; omega, ?_, ?_, f', Nat.le_trans h5' (by show n + c + (f' + 1) ≤ n + (c + 1) + f'; omega), ?_⟩
  · show 0 ≤ v'; rw [hv]; split <;> omega
  · show v' ≤ 99999; rw [hv]; split <;> omega
  · rw [h6, num_go ht, hb]
    show iK _ f' (n + c + 1) _ = iK _ f' (n + (c + 1)) (min v' 1001)
    rw [Nat.add_assoc]
    congr 1
    rw [hv]; split <;> omega
theorem zM {w : World} {b : Nat} {s : ByteArray} {N : Nat} {x : RfS} {m : RfM} (hR : RfAt w b s N x m) (hU : Utf s N) (n : Nat) (hn : x.k + n ≤ N) (ho : aU s (x.k + n) = aU s x.k + n) (hN : N ≤ 1000000) :
    Calls Tryz.prog 88 #[.pointer (some ⟨b, 0, none⟩), .int .i64 (n : Nat)] w (Ret fun v w' => ∃ (c : Nat) (q : Int), v = .tuple #[iv c, iv q] ∧ 0 ≤ q ∧ q ≤ 99999 ∧ x.k + n + c ≤ N ∧ aU s (x.k + n + c) = aU s x.k + n + c ∧ iK (tl s (aU s x.k)) (tl s (aU s x.k)).size n 0 = (min q 1001, n + c) ∧ Evo [] w w') := by
  have hap1 := hR.ap1; have hap2 := hR.ap2; have hap3 := hR.ap3; refine bE (N := 38) Tryz.func88 rfl rfl rfl ?_; refine csr (bN (wan (csr (bN (wan (aM (bK ?_))))))); refine dL (α := RnG) (⟨0, 0⟩) (fun y => [(6, .int .i64 (y.c : Nat)), (7, .int .i64 y.v)]) [(0, _), (1, _), (4, _), (5, _)] (fun y wr => Evo [] w wr ∧ (RnI s N x.k n y ∧ RfAt wr b s N x m)) (fun y => N - y.c) ⟨rfl, rfl, trivial⟩ ⟨rfl, rfl, rfl, rfl, trivial⟩ ⟨(Evo.refl [] w), ⟨⟨hn, ho, by decide, by decide, _, Nat.le_add_left _ _, rfl⟩, ⟨hR.blk, hR.run, hR.own⟩⟩⟩ ?_; rintro ⟨c, v⟩ wr1 ⟨L, ⟨hI, B⟩⟩; show CW _ _ _ _ [(6, .int .i64 (c : Nat)), (7, .int .i64 v), (0, _), (1, _), (4, _), (5, _)] _
  try dsimp only at hI B
  obtain ⟨i1, i2, i3, i4, i5⟩ := id hI; simp only at i1 i2 i3 i4; refine aM (csr (aA (aA (aA ?_)))); refine aB (aI rfl rfl (by omega) (by omega)) ?_; refine aG (vs := [_, _]) cJ rfl (dK ⟨B.blk, B.run, B.own⟩ (n + c) (by omega) (by omega)) rfl ?_; rintro _ w3 ⟨rfl, F⟩; have M := F.blk0 B.blk; have O := B.run.evo0 F; have U := B.own.evo0 F; refine aB (dQ rfl rfl) ?_; refine aA (bH (t := 14) rfl (fun V => ?_) (fun V => ?_))
  ·refine aW (aA (aW (aA (aW (aA (aW ?_)))))); refine aB (aI rfl rfl (by omega) (by omega)) ?_; refine aW ?_; refine aG (vs := [_, _]) cJ rfl (dK ⟨M, O, U⟩ (n + c) (by omega) (by omega)) rfl ?_; rintro _ w9 ⟨rfl, D⟩; have G := (L.then F).then D; have H := D.blk0 M; have I := O.evo0 D; have J := U.evo0 D; refine aW (aB (dM rfl rfl) ?_); refine bW (wnn (aZ rfl (fun W => ?_) (fun W => ?_)))
   ·have hdg := HW hU (i := x.k + (n + c)) (by omega) ⟨by omega, by omega⟩; refine aN (aC (bK (aM (csr (aA (aB (dA rfl rfl) ?_)))))); refine wnn (aZ rfl (fun Y => ?_) (fun Y => ?_))
    ·refine aF (aA ?_); refine aB (lW rfl rfl (by omega) (by omega)) ?_; refine aA (aA (aA ?_)); refine aB (aI rfl rfl (by omega) (by omega)) ?_; refine aG (vs := [_, _]) cJ rfl (dK ⟨H, I, J⟩ (n + c) (by omega) (by omega)) rfl ?_; rintro _ Z ⟨rfl, E⟩; refine aB (dY rfl rfl (by omega) (by omega)) ?_; refine aB (fM rfl Tryz.underlying21 Tryz.underlying3 (lQ (by omega) (by omega)).1 (lQ (by omega) (by omega)).2) ?_; refine aB (aI rfl rfl (by omega) (by omega)) ?_; refine wan (aF (aA ?_)); refine aB (aI rfl rfl (by omega) (by omega)) ?_; refine bN (aR (aQ (aY ?_))); refine ⟨⟨c + 1, 10 * v + (rn s N (x.k + (n + c)) - 48)⟩, ?_, ⟨rfl, rfl, trivial⟩, ⟨rfl, rfl, rfl, rfl, trivial⟩, (G.then E), ?_⟩
     · (try dsimp only); omega
     try dsimp only
     exact ⟨RnI.step hU hI ⟨by omega, by omega⟩ (by rw [if_pos (by omega)]), ⟨(E.blk0 H), (I.evo0 E), (J.evo0 E)⟩⟩
    refine aN (aC (aF (aA ?_))); refine aB (aI rfl rfl (by omega) (by omega)) ?_; refine bN (aR (aQ (aY ?_))); refine ⟨⟨c + 1, v⟩, ?_, ⟨rfl, rfl, trivial⟩, ⟨rfl, rfl, rfl, rfl, trivial⟩, G, ?_⟩
    · (try dsimp only); omega
    try dsimp only
    exact ⟨RnI.step hU hI ⟨by omega, by omega⟩ (by rw [if_neg (by omega)]), ⟨H, I, J⟩⟩
   refine cW (bS (bS (cV (aC ?_)))); refine csr (aA (aA (bN (wan (aK (cE rfl rfl rfl ?_)))))); obtain ⟨f9, f1, f2⟩ := i5; refine ⟨c, v, rfl, i3, i4, i1, i2, ?_, G⟩; rw [f2, NP (fun h => ?_)]
   have h9 := (KQ hU (j := n + c) (by omega) (by rw [← Nat.add_assoc, i2]; omega)).2 h
   omega
  refine aP (aP (aP (aP (aP (aP (bR (wnn (cF rfl ?_)))))))); refine cW (bS (bS (cV (aC ?_)))); refine csr (aA (aA (bN (wan (aK (cE rfl rfl rfl ?_)))))); obtain ⟨f9, f1, f2⟩ := i5; refine ⟨c, v, rfl, i3, i4, i1, i2, ?_, (L.then F)⟩; rw [f2, NP (fun h => ?_)]
  have h9 := (KQ hU (j := n + c) (by omega) (by rw [← Nat.add_assoc, i2]; omega)).2 h
  omega
theorem rU {s : ByteArray} {N k j : Nat} (hU : Utf s N) (hk : k + j ≤ N) (ho : aU s (k + j) = aU s k + j) {c : Nat} (hc : c < 128) : rn s N (k + j) = (c : Int) ↔ isB (tl s (aU s k)) j c := by
  have hz := jF s k
  rw [dS hU hk hc, ho]
  unfold isB
  rw [gF (Nat.le_refl _)]
  constructor
  · rintro ⟨h1, h2⟩; exact ⟨by omega, by rw [iU h1]; exact h2⟩
  · rintro ⟨h1, h2⟩; exact ⟨by omega, by rw [← iU (by omega)]; exact h2⟩
structure RpIs (s : ByteArray) (N k : Nat) (nn : Nat) (lo hi : Int) : Prop where
  lo0 : 0 ≤ lo
  lo1 : lo ≤ 99999
  hi0 : -1 ≤ hi
  hi1 : hi ≤ 99999
  eq : kY (tl s (aU s k)) = (min lo 1001, min hi 1001, nn)
  le : k + nn ≤ N
  of : aU s (k + nn) = aU s k + nn
section
variable {s : ByteArray} {N k : Nat} {lo hi : Int} {a c : Nat}
theorem uI (hU : Utf s N) (hk : k ≤ N) (h : kY (tl s (aU s k)) = (0, 0, 0)) : RpIs s N k 0 0 0 := ⟨by decide, by decide, by decide, by decide, h, hk, rfl⟩
theorem KV (hU : Utf s N) (hk : k < N) {b : Nat} (hb : b < 128) (hr : rn s N k = (b : Int)) (h0 : 0 ≤ lo) (h1 : lo ≤ 1) (h2 : -1 ≤ hi) (h3 : hi ≤ 1) (h : kY (tl s (aU s k)) = (lo, hi, 1)) : RpIs s N k 1 lo hi :=
  ⟨h0, by omega, h2, by omega, by rw [h]; congr 1 <;> first | omega | (congr 1; omega), hk, (dR hU (Nat.le_of_lt hk) hb hr).2.1⟩
theorem tS (hU : Utf s N) (hk : k < N) {b : Nat} (hb : b < 128) : rn s N k = (b : Int) ↔ sb (tl s (aU s k)) 0 = b := by
  have h1 := gA hU hk
  rw [iU (by omega), dS hU (Nat.le_of_lt hk) hb]
  exact ⟨fun h => h.2, fun h => ⟨h1, h⟩⟩
theorem SJ (hU : Utf s N) (hk : k < N) (h1 : ¬ rn s N k = 42) (h2 : ¬ rn s N k = 43) (h3 : ¬ rn s N k = 63) (h4 : ¬ rn s N k = 123) : RpIs s N k 0 0 0 :=
  uI hU (Nat.le_of_lt hk) (NA (fun h => h1 ((tS hU hk (b := 42) (by decide)).2 h)) (fun h => h2 ((tS hU hk (b := 43) (by decide)).2 h)) (fun h => h3 ((tS hU hk (b := 63) (by decide)).2 h)) (fun h => h4 ((tS hU hk (b := 123) (by decide)).2 h)))
section
variable {r : ByteArray} {q q2 : Int} {c c2 : Nat} (hb : sb r 0 = 123) (hp : iK r r.size 1 0 = (q, 1 + c))
include hb hp
theorem br_0 (h : c = 0) : kY r = (0, 0, 0) := by rw [zS hb hp, if_neg (fun h9 => by have := h9.1; omega), if_pos (.inl (by omega))]
theorem br_1 (h : ¬ c = 0) (h2 : isB r (1 + c) 125) : kY r = (q, q, c + 2) := by
  rw [zS hb hp, if_neg (fun h9 => isB.ne h2 (by decide) h9.2), if_neg (fun h9 => h9.elim (by omega) (fun h8 => h8 h2)), show 1 + c + 1 = c + 2 by omega]
theorem br_2 (h2 : ¬ isB r (1 + c) 125) (h3 : ¬ isB r (1 + c) 44) : kY r = (0, 0, 0) := by rw [zS hb hp, if_neg (fun h9 => h3 h9.2), if_pos (.inr h2)]
theorem br_3 (h : ¬ c = 0) (h3 : isB r (1 + c) 44) (hp2 : iK r r.size (2 + c) 0 = (q2, 2 + c + c2)) (h4 : isB r (2 + c + c2) 125) : kY r = (q, if c2 = 0 then -1 else q2, c + c2 + 3) := by
  rw [zS hb hp, if_pos ⟨by omega, h3⟩, show 1 + c + 1 = 2 + c by omega, hp2]
  simp only
  rw [if_pos h4, show 2 + c + c2 + 1 = c + c2 + 3 by omega]
  congr 2
  by_cases h9 : c2 = 0
  · rw [if_pos h9, if_pos (by omega)]
  · rw [if_neg h9, if_neg (by omega)]
theorem br_4 (h : ¬ c = 0) (h3 : isB r (1 + c) 44) (hp2 : iK r r.size (2 + c) 0 = (q2, 2 + c + c2)) (h4 : ¬ isB r (2 + c + c2) 125) : kY r = (0, 0, 0) := by
  rw [zS hb hp, if_pos ⟨by omega, h3⟩, show 1 + c + 1 = 2 + c by omega, hp2]
  simp only
  rw [if_neg h4]
end
theorem SK (hU : Utf s N) (hk : k < N) (hr : rn s N k = 123) : sb (tl s (aU s k)) 0 = 123 ∧ aU s (k + 1) = aU s k + 1 := by
  have h1 := dR (b := 123) hU (Nat.le_of_lt hk) (by decide) hr
  refine ⟨?_, h1.2.1⟩
  rw [iU (by have := h1.1.1; omega)]
  exact h1.1.2
end
theorem KT {w : World} {b : Nat} {s : ByteArray} {N : Nat} {x : RfS} {m : RfM} (hR : RfAt w b s N x m) (hU : Utf s N) (hk : x.k < N) (hN : N ≤ 1000000) :
    Calls Tryz.prog 64 #[.pointer (some ⟨b, 0, none⟩)] w (Ret fun v w' => ∃ (nn : Nat) (lo hi : Int), v = .tuple #[iv nn, iv lo, iv hi] ∧ RpIs s N x.k nn lo hi ∧ Evo [] w w') := by
  have hap1 := hR.ap1; have hap2 := hR.ap2; have hap3 := hR.ap3; have hk9 := Nat.le_of_lt hk
  have hr0 := iU (s := s) (i := aU s x.k) (k := 0) (by have := gA hU hk; omega)
  refine bE (N := 62) Tryz.func64 rfl rfl rfl ?_; refine csr (bN (bN (wan (aM (csr (aA ?_)))))); refine aG (vs := [_, _]) cJ rfl (dK ⟨hR.blk, hR.run, hR.own⟩ 0 (by omega) (by omega)) rfl ?_; rintro _ w1 ⟨rfl, F⟩; have I := (Evo.refl [] w).then F; refine wnn (bK (csr (wel ?_))); refine wan (aZ rfl (fun J => ?_) (fun J => ?_))
  ·refine csr (bN (bN (wan (aK (aO (aE (dN rfl rfl rfl rfl ?_))))))); exact ⟨1, 0, -1, rfl, KV hU hk (b := 42) (by decide) J (by decide) (by decide) (by decide) (by decide) (EE ((tS hU hk (b := 42) (by decide)).1 J)), I⟩
  refine csr (wel ?_); refine wan (aZ rfl (fun L => ?_) (fun L => ?_))
  ·refine csr (bN (bN (wan (aK (aO (aE (dN rfl rfl rfl rfl ?_))))))); exact ⟨1, 1, -1, rfl, KV hU hk (b := 43) (by decide) L (by decide) (by decide) (by decide) (by decide) (EF ((tS hU hk (b := 43) (by decide)).1 L)), I⟩
  refine csr (wel ?_); refine wan (aZ rfl (fun M => ?_) (fun M => ?_))
  ·refine csr (bN (bN (wan (aK (aO (aE (dN rfl rfl rfl rfl ?_))))))); exact ⟨1, 0, 1, rfl, KV hU hk (b := 63) (by decide) M (by decide) (by decide) (by decide) (by decide) (TF ((tS hU hk (b := 63) (by decide)).1 M)), I⟩
  refine csr (wel ?_); refine wan (aZ rfl (fun O => ?_) (fun O => ?_))
  ·have hb0 := (SK hU hk O).1; refine csr (aA (aG (vs := [_, _]) xT rfl (zM ⟨(F.blk0 hR.blk), (hR.run.evo0 F), (hR.own.evo0 F)⟩ hU 1 hk (SK hU hk O).2 hN) rfl ?_)); rintro _ w7 ⟨c, q, rfl, a7, a6, b8, ho1, hp1, W⟩; have Y := W.blk0 (F.blk0 hR.blk); have Z := (hR.run.evo0 F).evo0 W; have a0 := (hR.own.evo0 F).evo0 W
   have ho1p : aU s (x.k + (1 + c)) = aU s x.k + (1 + c) := by rw [← Nat.add_assoc, ho1]; omega
   refine aA (aB (cC rfl rfl) ?_); refine aB (cC rfl rfl) ?_; refine bN (wan (aM (csr (aA (wel ?_))))); refine wnn (aZ rfl (fun b4 => ?_) (fun b4 => ?_))
   ·have G : c = 0 := by omega
    refine csr (bN (bN (wan (aK (aE (aO (aE (dN rfl rfl rfl rfl ?_)))))))); exact ⟨0, 0, 0, rfl, uI hU hk9 (br_0 hb0 hp1 G), (I.then W)⟩
   have G : ¬ c = 0 := by omega
   refine aN (aC (aM (csr (aA (aA ?_))))); refine aB (aI rfl rfl (by omega) (by omega)) ?_; refine aG (vs := [_, _]) cJ rfl (dK ⟨Y, Z, a0⟩ (1 + c) (by omega) (by omega)) rfl ?_; rintro _ b9 ⟨rfl, D⟩; have a1 := (I.then W).then D; refine wel ?_; refine wnn (aZ rfl (fun U => ?_) (fun U => ?_))
   ·have h125 := (rU hU (j := 1 + c) (c := 125) (by omega) (by omega) (by decide)).1 U; refine csr (aA ?_); refine aB (aI rfl rfl (by omega) (by omega)) ?_; refine aA (aA (bN (bN (wan (aK (aE (aO (aE (dN rfl rfl rfl rfl ?_))))))))); have hcl := dR (b := 125) hU (i := x.k + (1 + c)) (by omega) (by decide) U
    exact ⟨c + 2, q, q, rfl, ⟨a7, a6, by omega, a6, br_1 hb0 hp1 G h125, by omega, by rw [show x.k + (c + 2) = x.k + (1 + c) + 1 by omega, hcl.2.1, ← Nat.add_assoc, ho1]; omega⟩, a1⟩
   have h125 : ¬ isB (tl s (aU s x.k)) (1 + c) 125 := fun h9 => U ((rU hU (j := 1 + c) (c := 125) (by omega) (by omega) (by decide)).2 h9); refine aN (aC (aM (csr (aA (aA ?_))))); refine aB (aI rfl rfl (by omega) (by omega)) ?_; refine aG (vs := [_, _]) cJ rfl (dK ⟨(D.blk0 Y), (Z.evo0 D), (a0.evo0 D)⟩ (1 + c) (by omega) (by omega)) rfl ?_; rintro _ c0 ⟨rfl, H⟩; have a2 := H.blk0 (D.blk0 Y); have a3 := (Z.evo0 D).evo0 H; have a4 := (a0.evo0 D).evo0 H; refine aB (fE rfl rfl) ?_; refine wnn (aZ rfl (fun a5 => ?_) (fun a5 => ?_))
   ·have h44 : ¬ isB (tl s (aU s x.k)) (1 + c) 44 := fun h9 => a5 ((rU hU (j := 1 + c) (c := 44) (by omega) (by omega) (by decide)).2 h9); refine csr (bN (bN (wan (aK (aE (aO (aE (dN rfl rfl rfl rfl ?_)))))))); exact ⟨0, 0, 0, rfl, uI hU hk9 (br_2 hb0 hp1 h125 h44), (a1.then H)⟩
   have h44 := (rU hU (j := 1 + c) (c := 44) (by omega) (by omega) (by decide)).1 (Classical.not_not.1 a5); have hcm := dR (b := 44) hU (i := x.k + (1 + c)) (by omega) (by decide) (by omega)
   have ho2c : aU s (x.k + (2 + c)) = aU s x.k + (2 + c) := by rw [show x.k + (2 + c) = x.k + (1 + c) + 1 by omega, hcm.2.1, ← Nat.add_assoc, ho1]; omega
   refine aN (aC (csr (aA (aA ?_)))); refine aB (aI rfl rfl (by omega) (by omega)) ?_; refine aG (vs := [_, _]) xT rfl (zM ⟨a2, a3, a4⟩ hU (2 + c) (by omega) (by omega) hN) rfl ?_; rintro _ c1 ⟨c2, q2, rfl, b6, b7, c3, ho2, hp2, E⟩; have V := (a1.then H).then E
   have ho2p : aU s (x.k + (2 + c + c2)) = aU s x.k + (2 + c + c2) := by rw [← Nat.add_assoc, ho2]; omega
   refine aA (aB (cC rfl rfl) ?_); refine aB (cC rfl rfl) ?_; refine bN (wan (aM (csr (aA (wel ?_))))); refine wnn (aZ rfl (fun b5 => ?_) (fun b5 => ?_))
   ·refine aF (wan (csr (aA (aA ?_)))); refine aB (aI rfl rfl (by omega) (by omega)) ?_; refine aA ?_; refine aB (aI rfl rfl (by omega) (by omega)) ?_; refine aG (vs := [_, _]) cJ rfl (dK ⟨(E.blk0 a2), (a3.evo0 E), (a4.evo0 E)⟩ (2 + c + c2) (by omega) (by omega)) rfl ?_; rintro _ c4 ⟨rfl, a8⟩; refine wel ?_; refine wnn (aZ rfl (fun B => ?_) (fun B => ?_))
    ·have h125b := (rU hU (j := 2 + c + c2) (c := 125) (by omega) (by omega) (by decide)).1 B; have hcl := dR (b := 125) hU (i := x.k + (2 + c + c2)) (by omega) (by decide) B; refine csr (aA (aA ?_)); refine aB (aI rfl rfl (by omega) (by omega)) ?_; refine aB (aI rfl rfl (by omega) (by omega)) ?_; refine aA (aA (bN (bN (wan (aK (aO (aE (dN rfl rfl rfl rfl ?_)))))))); have hpr := br_3 hb0 hp1 G h44 hp2 h125b; rw [if_pos (by omega)] at hpr
     exact ⟨c + c2 + 3, q, -1, rfl, ⟨a7, a6, by omega, by omega, hpr, by omega, by rw [show x.k + (c + c2 + 3) = x.k + (2 + c + c2) + 1 by omega, hcl.2.1, show x.k + (2 + c + c2) = x.k + (2 + c) + c2 by omega, ho2]; omega⟩, (V.then a8)⟩
    have h125b : ¬ isB (tl s (aU s x.k)) (2 + c + c2) 125 := fun h9 => B ((rU hU (j := 2 + c + c2) (c := 125) (by omega) (by omega) (by decide)).2 h9); refine aN (aQ (aC (csr (bN (bN (wan (aK (dN rfl rfl rfl rfl ?_)))))))); exact ⟨0, 0, 0, rfl, uI hU hk9 (br_4 hb0 hp1 G h44 hp2 h125b), (V.then a8)⟩
   refine aN (aC (csr (aA (aA ?_)))); refine aB (aI rfl rfl (by omega) (by omega)) ?_; refine aA ?_; refine aB (aI rfl rfl (by omega) (by omega)) ?_; refine aG (vs := [_, _]) cJ rfl (dK ⟨(E.blk0 a2), (a3.evo0 E), (a4.evo0 E)⟩ (2 + c + c2) (by omega) (by omega)) rfl ?_; rintro _ c5 ⟨rfl, a9⟩; refine wel ?_; refine wnn (aZ rfl (fun B => ?_) (fun B => ?_))
   ·have h125b := (rU hU (j := 2 + c + c2) (c := 125) (by omega) (by omega) (by decide)).1 B; have hcl := dR (b := 125) hU (i := x.k + (2 + c + c2)) (by omega) (by decide) B; refine csr (aA (aA ?_)); refine aB (aI rfl rfl (by omega) (by omega)) ?_; refine aB (aI rfl rfl (by omega) (by omega)) ?_; refine aA (aA (bN (bN (wan (aK (aO (aE (dN rfl rfl rfl rfl ?_)))))))); have hpr := br_3 hb0 hp1 G h44 hp2 h125b; rw [if_neg (by omega)] at hpr
    exact ⟨c + c2 + 3, q, q2, rfl, ⟨a7, a6, by omega, by omega, hpr, by omega, by rw [show x.k + (c + c2 + 3) = x.k + (2 + c + c2) + 1 by omega, hcl.2.1, show x.k + (2 + c + c2) = x.k + (2 + c) + c2 by omega, ho2]; omega⟩, (V.then a9)⟩
   have h125b : ¬ isB (tl s (aU s x.k)) (2 + c + c2) 125 := fun h9 => B ((rU hU (j := 2 + c + c2) (c := 125) (by omega) (by omega) (by decide)).2 h9); refine aN (aQ (aC (csr (bN (bN (wan (aK (dN rfl rfl rfl rfl ?_)))))))); exact ⟨0, 0, 0, rfl, uI hU hk9 (br_4 hb0 hp1 G h44 hp2 h125b), (V.then a9)⟩
  refine aN (aQ (aC (csr (bN (bN (wan (aK (dN rfl rfl rfl rfl ?_)))))))); exact ⟨0, 0, 0, rfl, SJ hU hk J L M O, I⟩
theorem dU : nU Tryz.prog 75 = some true := by kernel_rfl
theorem rO : eU Tryz.prog 75 0 = some 0 := by kernel_rfl
theorem rN : eU Tryz.prog 75 1 = some 1 := by kernel_rfl
theorem wC : eU Tryz.prog 75 2 = some 2 := by kernel_rfl
theorem wB : eU Tryz.prog 75 3 = some 3 := by kernel_rfl
theorem xS : dW Tryz.prog 89 := ⟨_, Tryz.func89, by kernel_rfl, by kernel_rfl⟩
theorem cN : iJ Tryz.prog 75 = some 4 := by kernel_rfl
theorem nV : pF Tryz.prog 75 = some #[.bool false, .bool false, .bool false, .bool false] := by kernel_rfl
abbrev flv (f : Fl) : List Value := [.bool f.fold, .bool f.lines, .bool f.dots, .bool f.lazy]
structure FgG where
  c : Nat
  n : Nat
  z : Bool
  g : Fl
structure FgI (s : ByteArray) (N k : Nat) (f : Fl) (x : FgG) : Prop where
  le : k + 2 + x.c ≤ N
  of : aU s (k + 2 + x.c) = aU s k + 2 + x.c
  nc : x.n ≤ x.c
  eq : ∃ q, s.size ≤ aU s k + 2 + x.c + q ∧ fT s (aU s k) s.size (aU s k + 2) true 0 false f = fT s (aU s k) q (aU s k + 2 + x.c) x.z x.n (!x.z) x.g
structure FlIs (s : ByteArray) (N k : Nat) (f : Fl) (c : Nat) (g : Fl) : Prop where
  bad : c = 0 → (fT s (aU s k) s.size (aU s k + 2) true 0 false f).err = 84
  le : c ≠ 0 → k + 2 + c ≤ N
  of : c ≠ 0 → aU s (k + 2 + c) = aU s k + 2 + c
  set : c ≠ 0 → rn s N (k + 2 + c) = 41 → fT s (aU s k) s.size (aU s k + 2) true 0 false f = ⟨c + 3, emp, g, false, true, 0⟩
  col : c ≠ 0 → rn s N (k + 2 + c) = 58 → fT s (aU s k) s.size (aU s k + 2) true 0 false f = ⟨c + 3, emp, g, false, false, 0⟩
  oth : c ≠ 0 → rn s N (k + 2 + c) ≠ 41 → rn s N (k + 2 + c) ≠ 58 → (fT s (aU s k) s.size (aU s k + 2) true 0 false f).err = 84
section
variable {s : ByteArray} {i q j : Nat} {b m : Bool} {n : Int} {fl : Fl}
theorem st_end (h : s.size ≤ j) : (fT s i q j b n m fl).err = 84 := by
  cases q with
  | zero => rfl
  | succ q => rw [fT, if_pos h]
theorem RV (h1 : sb s j ≠ 105) (h2 : sb s j ≠ 109) (h3 : sb s j ≠ 115) (h4 : sb s j ≠ 85) (h5 : sb s j ≠ 45) (h6 : sb s j ≠ 58) (h7 : sb s j ≠ 41) : (fT s i q j b n m fl).err = 84 := by
  cases q with
  | zero => rfl
  | succ q =>
    by_cases hz : s.size ≤ j
    · rw [fT, if_pos hz]
    · rw [fT, if_neg hz, if_neg h1, if_neg h2, if_neg h3, if_neg h4, if_neg h5, if_neg (by omega)]
theorem st_go {c : Nat} {fl' : Fl} (h : isB s j c) (hq : s.size ≤ j + q) (hc : (c = 105 ∧ fl' = { fl with fold := b }) ∨ (c = 109 ∧ fl' = { fl with lines := b }) ∨ (c = 115 ∧ fl' = { fl with dots := b }) ∨ (c = 85 ∧ fl' = { fl with lazy := b })) :
    ∃ q', q = q' + 1 ∧ fT s i q j b n m fl = fT s i q' (j + 1) b (n + 1) m fl' := by
  obtain ⟨h1, h2⟩ := h
  obtain ⟨q', rfl⟩ : ∃ q', q = q' + 1 := ⟨q - 1, by omega⟩
  refine ⟨q', rfl, ?_⟩
  rw [fT, if_neg (by omega)]
  rcases hc with ⟨rfl, rfl⟩ | ⟨rfl, rfl⟩ | ⟨rfl, rfl⟩ | ⟨rfl, rfl⟩
  · rw [if_pos h2]
  · rw [if_neg (by omega), if_pos h2]
  · rw [if_neg (by omega), if_neg (by omega), if_pos h2]
  · rw [if_neg (by omega), if_neg (by omega), if_neg (by omega), if_pos h2]
theorem st_min (h : isB s j 45) (hq : s.size ≤ j + q) (hm : m = false) : ∃ q', q = q' + 1 ∧ fT s i q j b n m fl = fT s i q' (j + 1) false 0 true fl := by
  obtain ⟨h1, h2⟩ := h
  obtain ⟨q', rfl⟩ : ∃ q', q = q' + 1 := ⟨q - 1, by omega⟩
  refine ⟨q', rfl, ?_⟩
  rw [fT, if_neg (by omega), if_neg (by omega), if_neg (by omega), if_neg (by omega), if_neg (by omega), if_pos h2, if_neg (by rw [hm]; simp)]
theorem st_min2 (h : isB s j 45) (hm : m = true) : (fT s i q j b n m fl).err = 84 := by
  obtain ⟨h1, h2⟩ := h
  cases q with
  | zero => rfl
  | succ q => rw [fT, if_neg (by omega), if_neg (by omega), if_neg (by omega), if_neg (by omega), if_neg (by omega), if_pos h2, if_pos hm]
theorem RX {c : Nat} (h : isB s j c) (hq : s.size ≤ j + q) (hc : c = 58 ∨ c = 41) : fT s i q j b n m fl = ⟨j + 1 - i, emp, fl, false, decide (c = 41), if n = 0 then 84 else 0⟩ := by
  obtain ⟨h1, h2⟩ := h
  obtain ⟨q', rfl⟩ : ∃ q', q = q' + 1 := ⟨q - 1, by omega⟩
  rw [fT, if_neg (by omega), if_neg (by omega), if_neg (by omega), if_neg (by omega), if_neg (by omega), if_neg (by omega), if_pos (by omega), h2]
end
section
variable {s : ByteArray} {N k : Nat} {f : Fl} {c n : Nat} {z : Bool} {g : Fl} (hU : Utf s N)
include hU
theorem FgI.go {ch : Nat} {g' : Fl} (h : FgI s N k f ⟨c, n, z, g⟩) (hr : rn s N (k + (2 + c)) = (ch : Int)) (hc : (ch = 105 ∧ g' = { g with fold := z }) ∨ (ch = 109 ∧ g' = { g with lines := z }) ∨ (ch = 115 ∧ g' = { g with dots := z }) ∨ (ch = 85 ∧ g' = { g with lazy := z })) :
    FgI s N k f ⟨c + 1, n + 1, z, g'⟩ := by
  obtain ⟨h1, h2, h3, q, h4, h5⟩ := h
  have h1' : k + 2 + c ≤ N := h1
  have h2' : aU s (k + 2 + c) = aU s k + 2 + c := h2
  have h3' : n ≤ c := h3
  rw [← Nat.add_assoc] at hr
  obtain ⟨b1, b2, b3⟩ := dR hU h1' (by omega) hr
  rw [h2'] at b1 b2
  obtain ⟨q', rfl, e⟩ := st_go (i := aU s k) (n := (n : Int)) (m := !z) (fl := g) (b := z) b1 h4 hc
  refine ⟨by show k + 2 + (c + 1) ≤ N; omega, b2, by show n + 1 ≤ c + 1; omega, q', Nat.le_trans h4 (by show aU s k + 2 + c + (q' + 1) ≤ aU s k + 2 + (c + 1) + q'; omega), h5.trans ?_⟩
  exact e
theorem FgI.min (h : FgI s N k f ⟨c, n, true, g⟩) (hr : rn s N (k + (2 + c)) = 45) : FgI s N k f ⟨c + 1, 0, false, g⟩ := by
  obtain ⟨h1, h2, h3, q, h4, h5⟩ := h
  have h1' : k + 2 + c ≤ N := h1
  have h2' : aU s (k + 2 + c) = aU s k + 2 + c := h2
  rw [← Nat.add_assoc] at hr
  obtain ⟨b1, b2, b3⟩ := dR (b := 45) hU h1' (by decide) hr
  rw [h2'] at b1 b2
  obtain ⟨q', rfl, e⟩ := st_min (i := aU s k) (n := (n : Int)) (m := !true) (fl := g) (b := true) b1 h4 rfl
  exact ⟨by show k + 2 + (c + 1) ≤ N; omega, b2, Nat.zero_le _, q', Nat.le_trans h4 (by show aU s k + 2 + c + (q' + 1) ≤ aU s k + 2 + (c + 1) + q'; omega), h5.trans e⟩
theorem VY {g : Fl} (h : (fT s (aU s k) s.size (aU s k + 2) true 0 false f).err = 84) : FlIs s N k f 0 g := ⟨fun _ => h, fun h => (h rfl).elim, fun h => (h rfl).elim, fun h => (h rfl).elim, fun h => (h rfl).elim, fun h => (h rfl).elim⟩
theorem FgI.bad2 (h : FgI s N k f ⟨c, n, false, g⟩) (hr : rn s N (k + (2 + c)) = 45) : FlIs s N k f 0 g := by
  obtain ⟨h1, h2, h3, q, h4, h5⟩ := h
  have h1' : k + 2 + c ≤ N := h1
  have h2' : aU s (k + 2 + c) = aU s k + 2 + c := h2
  rw [← Nat.add_assoc] at hr
  obtain ⟨b1, b2, b3⟩ := dR (b := 45) hU h1' (by decide) hr
  rw [h2'] at b1
  refine VY hU ?_
  rw [h5]
  exact st_min2 b1 rfl
theorem FgI.stop (h : FgI s N k f ⟨c, n, z, g⟩) (k1 : rn s N (k + (2 + c)) ≠ 105) (k2 : rn s N (k + (2 + c)) ≠ 109) (k3 : rn s N (k + (2 + c)) ≠ 115) (k4 : rn s N (k + (2 + c)) ≠ 85) (k5 : rn s N (k + (2 + c)) ≠ 45) :
    (n = 0 → FlIs s N k f 0 g) ∧ (n ≠ 0 → c ≠ 0 ∧ FlIs s N k f c g) := by
  obtain ⟨h1, h2, h3, q, h4, h5⟩ := h
  have h1' : k + 2 + c ≤ N := h1
  have h2' : aU s (k + 2 + c) = aU s k + 2 + c := h2
  have h3' : n ≤ c := h3
  have h4' : s.size ≤ aU s k + 2 + c + q := h4
  rw [← Nat.add_assoc] at k1 k2 k3 k4 k5
  have h5' : fT s (aU s k) s.size (aU s k + 2) true 0 false f = fT s (aU s k) q (aU s k + 2 + c) z n (!z) g := h5
  have hg : ∀ b : Nat, b < 128 → (rn s N (k + 2 + c) = (b : Int) ↔ isB s (aU s k + 2 + c) b) := fun b hb => by rw [dS hU h1' hb, h2']
  have fin : ∀ b : Nat, (b = 58 ∨ b = 41) → rn s N (k + 2 + c) = (b : Int) → fT s (aU s k) s.size (aU s k + 2) true 0 false f = ⟨c + 3, emp, g, false, decide (b = 41), if (n : Int) = 0 then 84 else 0⟩ := fun b hb hr => by
    rw [h5']
    refine (RX ((hg b (by omega)).1 hr) h4' hb).trans ?_
    rw [show aU s k + 2 + c + 1 - aU s k = c + 3 by omega]
  have oth : rn s N (k + 2 + c) ≠ 41 → rn s N (k + 2 + c) ≠ 58 → (fT s (aU s k) s.size (aU s k + 2) true 0 false f).err = 84 := fun o1 o2 => by
    rw [h5']
    by_cases hz : s.size ≤ aU s k + 2 + c
    · exact st_end hz
    · have key : ∀ b : Nat, b < 128 → rn s N (k + 2 + c) ≠ (b : Int) → sb s (aU s k + 2 + c) ≠ b := fun b hb hne he => hne ((hg b hb).2 ⟨by omega, he⟩)
      exact RV (key 105 (by decide) k1) (key 109 (by decide) k2) (key 115 (by decide) k3) (key 85 (by decide) k4) (key 45 (by decide) k5) (key 58 (by decide) o2) (key 41 (by decide) o1)
  refine ⟨fun hn => VY hU ?_, fun hn => ⟨by omega, ⟨fun h0 => by omega, fun _ => h1', fun _ => h2', fun _ hr => ?_, fun _ hr => ?_, fun _ o1 o2 => oth o1 o2⟩⟩⟩
  · by_cases e1 : rn s N (k + 2 + c) = 41
    · rw [fin 41 (.inr rfl) e1, hn]; rfl
    · by_cases e2 : rn s N (k + 2 + c) = 58
      · rw [fin 58 (.inl rfl) e2, hn]; rfl
      · exact oth e1 e2
  · rw [fin 41 (.inr rfl) hr, if_neg (by omega)]; simp
  · rw [fin 58 (.inl rfl) hr, if_neg (by omega)]; simp
end
theorem CI {w : World} {b : Nat} {s : ByteArray} {N : Nat} {x : RfS} {m : RfM} {fl : Fl} (hR : RfAt w b s N x m) (hU : Utf s N) (hn : x.k + 2 ≤ N) (ho : aU s (x.k + 2) = aU s x.k + 2) (hN : N ≤ 1000000) :
    Calls Tryz.prog 89 #[.pointer (some ⟨b, 0, none⟩), iv 2, .agg (flv fl).toArray] w (Ret fun v w' => ∃ (c : Nat) (g : Fl), v = .tuple #[iv c, .agg (flv g).toArray] ∧ FlIs s N x.k fl c g ∧ Evo [] w w') := by
  have hap1 := hR.ap1; have hap2 := hR.ap2; have hap3 := hR.ap3; refine bE (N := 46) Tryz.func89 rfl rfl rfl ?_; refine csr (iM rfl rfl fun b5 w1 d3 a8 L => ?_); have d8 := a8; have a9 := Apart.new (Lt.blk hR.blk) a8; have b4 := Apart.new (Lt.own hR.run) a8; have b6 := Apart.new (Lt.own hR.own) a8; have d4 := (Evo.refl [] w).then L; refine bN (cO rfl nV fun b7 e1 d5 H M => ?_); have d9 := H; have G := (Apart.new (Lt.blk d3) H); have hA5r := a9.symm; have hA5u := b4.symm; have hA5n := b6.symm; have hA7r := (Apart.new (Lt.blk (L.blk0 hR.blk)) H).symm; have hA7u := (Apart.new (Lt.own (hR.run.evo0 L)) H).symm; have hA7n := (Apart.new (Lt.own (hR.own.evo0 L)) H).symm; have hg5 := (Ge.new (Evo.refl [] w) a8); have hg7 := (Ge.new d4 H); refine wnn (csr (bN (bN (wan (bK (dL (α := FgG) (⟨0, 0, true, fl⟩) (fun y => [(8, .int .i64 (y.c : Nat)), (9, .int .i64 (y.n : Nat)), (10, .bool y.z)]) [(0, _), (1, _), (5, _), (7, _)] (fun y wr => Evo [] w wr ∧ (FgI s N x.k fl y ∧ RfAt wr b s N x m ∧ wr.heap[b5]? = some (.cells (flv y.g).toArray 75 (0, 0)) ∧ wr.heap[b7]? = some (.cells #[.bool false, .bool false, .bool false, .bool false] 75 (0, 0)))) (fun y => N - y.c) ⟨rfl, rfl, rfl, trivial⟩ ⟨rfl, rfl, rfl, rfl, trivial⟩ ⟨(d4.then M), ⟨⟨hn, ho, Nat.le_refl _, s.size, Nat.le_add_left _ _, rfl⟩, ⟨(M.blk0 (L.blk0 hR.blk)), ((hR.run.evo0 L).evo0 M), ((hR.own.evo0 L).evo0 M)⟩, (M.blk0 d3), d5⟩⟩ ?_)))))); rintro ⟨c, n, z, g⟩ wr27 ⟨d6, ⟨hI, O, hb5, hb7⟩⟩
  show CW _ _ _ _ [(8, .int .i64 (c : Nat)), (9, .int .i64 (n : Nat)), (10, .bool z), (0, _), (1, _), (5, _), (7, _)] _
  try dsimp only at hI O hb5 hb7
  obtain ⟨i1, i2, i3, -⟩ := id hI; simp only at i1 i2 i3; refine bK (aM (csr (aA (aA (aA ?_))))); refine aB (aI rfl rfl (by omega) (by omega)) ?_; refine aG (vs := [_, _]) cJ rfl (dK ⟨O.blk, O.run, O.own⟩ (2 + c) (by omega) (by omega)) rfl ?_; rintro _ e2 ⟨rfl, I⟩; have D := d6.then I; have U := I.blk0 O.blk; have V := O.run.evo0 I; have W := O.own.evo0 I; have E := I.blk0 hb5; have F := I.blk0 hb7; refine wnn (bK (csr (wel ?_))); refine wan (aZ rfl (fun Y => ?_) (fun Y => ?_))
  ·have hin := (dR (b := 105) hU (i := x.k + (2 + c)) (by omega) (by decide) Y).2.2; refine aF (aA (aB (aD rfl rO) (bJ rfl rfl (rfl) fK E rfl fun e3 c3 Z => ?_)))
   try simp only [cH, Nat.reduceAdd] at c3
   refine aR (aQ (aC (csr (aA ?_)))); refine aB (aI rfl rfl (by omega) (by omega)) ?_; refine wan (aF (aA ?_)); refine aB (aI rfl rfl (by omega) (by omega)) ?_; refine bN (aR (aQ (aY ?_))); refine ⟨⟨c + 1, n + 1, z, { g with fold := z }⟩, ?_, ⟨rfl, rfl, rfl, trivial⟩, ⟨rfl, rfl, rfl, rfl, trivial⟩, (D.step Z hg5.mem1), ?_⟩
   · (try dsimp only); omega
   try dsimp only
   exact ⟨FgI.go hU (ch := 105) hI Y (.inl ⟨rfl, rfl⟩), ⟨(Z.blk U a9.nmem1), (V.evo Z b4.own1), (W.evo Z b6.own1)⟩, c3, (Z.blk F G.symm.nmem1)⟩
  refine csr (wel ?_); refine wan (aZ rfl (fun a0 => ?_) (fun a0 => ?_))
  ·have hin := (dR (b := 109) hU (i := x.k + (2 + c)) (by omega) (by decide) a0).2.2; refine aF (aA (aB (aD rfl rN) (bJ rfl rfl (rfl) fK E rfl fun e4 c4 a1 => ?_)))
   try simp only [cH, Nat.reduceAdd] at c4
   refine aR (aQ (aC (csr (aA ?_)))); refine aB (aI rfl rfl (by omega) (by omega)) ?_; refine wan (aF (aA ?_)); refine aB (aI rfl rfl (by omega) (by omega)) ?_; refine bN (aR (aQ (aY ?_))); refine ⟨⟨c + 1, n + 1, z, { g with lines := z }⟩, ?_, ⟨rfl, rfl, rfl, trivial⟩, ⟨rfl, rfl, rfl, rfl, trivial⟩, (D.step a1 hg5.mem1), ?_⟩
   · (try dsimp only); omega
   try dsimp only
   exact ⟨FgI.go hU (ch := 109) hI a0 (.inr (.inl ⟨rfl, rfl⟩)), ⟨(a1.blk U a9.nmem1), (V.evo a1 b4.own1), (W.evo a1 b6.own1)⟩, c4, (a1.blk F G.symm.nmem1)⟩
  refine csr (wel ?_); refine wan (aZ rfl (fun a2 => ?_) (fun a2 => ?_))
  ·have hin := (dR (b := 115) hU (i := x.k + (2 + c)) (by omega) (by decide) a2).2.2; refine aF (aA (aB (aD rfl wC) (bJ rfl rfl (rfl) fK E rfl fun e5 c5 a3 => ?_)))
   try simp only [cH, Nat.reduceAdd] at c5
   refine aR (aQ (aC (csr (aA ?_)))); refine aB (aI rfl rfl (by omega) (by omega)) ?_; refine wan (aF (aA ?_)); refine aB (aI rfl rfl (by omega) (by omega)) ?_; refine bN (aR (aQ (aY ?_))); refine ⟨⟨c + 1, n + 1, z, { g with dots := z }⟩, ?_, ⟨rfl, rfl, rfl, trivial⟩, ⟨rfl, rfl, rfl, rfl, trivial⟩, (D.step a3 hg5.mem1), ?_⟩
   · (try dsimp only); omega
   try dsimp only
   exact ⟨FgI.go hU (ch := 115) hI a2 (.inr (.inr (.inl ⟨rfl, rfl⟩))), ⟨(a3.blk U a9.nmem1), (V.evo a3 b4.own1), (W.evo a3 b6.own1)⟩, c5, (a3.blk F G.symm.nmem1)⟩
  refine csr (wel ?_); refine wan (aZ rfl (fun a4 => ?_) (fun a4 => ?_))
  ·have hin := (dR (b := 85) hU (i := x.k + (2 + c)) (by omega) (by decide) a4).2.2; refine aF (aA (aB (aD rfl wB) (bJ rfl rfl (rfl) fK E rfl fun e6 c6 a5 => ?_)))
   try simp only [cH, Nat.reduceAdd] at c6
   refine aR (aQ (aC (csr (aA ?_)))); refine aB (aI rfl rfl (by omega) (by omega)) ?_; refine wan (aF (aA ?_)); refine aB (aI rfl rfl (by omega) (by omega)) ?_; refine bN (aR (aQ (aY ?_))); refine ⟨⟨c + 1, n + 1, z, { g with lazy := z }⟩, ?_, ⟨rfl, rfl, rfl, trivial⟩, ⟨rfl, rfl, rfl, rfl, trivial⟩, (D.step a5 hg5.mem1), ?_⟩
   · (try dsimp only); omega
   try dsimp only
   exact ⟨FgI.go hU (ch := 85) hI a4 (.inr (.inr (.inr (⟨rfl, rfl⟩)))), ⟨(a5.blk U a9.nmem1), (V.evo a5 b4.own1), (W.evo a5 b6.own1)⟩, c6, (a5.blk F G.symm.nmem1)⟩
  refine csr (wel ?_); refine wan (aZ rfl (fun J => ?_) (fun J => ?_))
  ·have hin := (dR (b := 45) hU (i := x.k + (2 + c)) (by omega) (by decide) J).2.2; refine aM (csr (aA (aB (fV rfl) ?_))); refine wnn (eO rfl (fun B => ?_) (fun B => ?_))
   ·replace B := congrArg Bool.not B; simp only [Bool.not_not, Bool.not_true, Bool.not_false] at B; subst B
    refine aM ?_; refine fR (fun w0 w' => Evo [b7] w0 w') (by kernel_rfl) (fun c7 b8 => ?_); refine aet 0 rfl (fun _ hS => bX rfl dU cN (hS.blk (b8.blk0 E) (G.nmem1)) rfl) (Evo.refl [b7] c7) ?_; refine aet 1 rfl (fun _ hS => cR rfl) (Evo.refl [b7] c7) ?_; refine cA [2] (by kernel_rfl) rfl ⟨?_, trivial⟩; refine cG rfl ?_; refine aV rfl rfl cN (b8.blk0 F) rfl rfl ⟨rfl, rfl, rfl, rfl, trivial⟩ fun e7 c8 c9 => ?_
    try simp only [cH, Nat.reduceAdd] at c8
    refine aR (bV (.inl ((Evo.refl [b7] c7).step c9 (fun y hy => .inl hy))) ?_); refine dB (by kernel_rfl) (aC ?_); refine aK (aE (aO (aE (aO (aE (aO (gC rfl (ResOk.tmp rfl) (ResOk.cellA rfl dU cN c8 rfl) ?_))))))); exact ⟨0, g, rfl, FgI.bad2 hU (by simpa using hI) J, ((D.then b8).step c9 hg7.mem1)⟩
   replace B := congrArg Bool.not B; simp only [Bool.not_not, Bool.not_true, Bool.not_false] at B; subst B
   refine aN (aC (csr (wan (aF (bN (aR (aQ (aC (csr (aA ?_)))))))))); refine aB (aI rfl rfl (by omega) (by omega)) ?_; refine wan (aF (aA ?_)); refine aB (aI rfl rfl (by omega) (by omega)) ?_; refine bN (aR (aQ (aY ?_))); refine ⟨⟨c + 1, 0, false, g⟩, ?_, ⟨rfl, rfl, rfl, trivial⟩, ⟨rfl, rfl, rfl, rfl, trivial⟩, D, ?_⟩
   · (try dsimp only); omega
   try dsimp only
   exact ⟨FgI.min hU (by simpa using hI) J, ⟨U, V, W⟩, E, F⟩
  refine aM (csr (aA (wel ?_))); refine wnn (aZ rfl (fun d7 => ?_) (fun d7 => ?_))
  ·refine aM ?_; refine fR (fun w0 w' => Evo [b7] w0 w') (by kernel_rfl) (fun d0 b9 => ?_); refine aet 0 rfl (fun _ hS => bX rfl dU cN (hS.blk (b9.blk0 E) (G.nmem1)) rfl) (Evo.refl [b7] d0) ?_; refine aet 1 rfl (fun _ hS => cR rfl) (Evo.refl [b7] d0) ?_; refine cA [2] (by kernel_rfl) rfl ⟨?_, trivial⟩; refine cG rfl ?_; refine aV rfl rfl cN (b9.blk0 F) rfl rfl ⟨rfl, rfl, rfl, rfl, trivial⟩ fun e8 d1 d2 => ?_
   try simp only [cH, Nat.reduceAdd] at d1
   refine aR (bV (.inl ((Evo.refl [b7] d0).step d2 (fun y hy => .inl hy))) ?_); refine dB (by kernel_rfl) (aC ?_); refine aK (aE (aO (aE (aO (aE (aO (gC rfl (ResOk.tmp rfl) (ResOk.cellA rfl dU cN d1 rfl) ?_))))))); exact ⟨0, g, rfl, (FgI.stop hU hI Y a0 a2 a4 J).1 (by omega), ((D.then b9).step d2 hg7.mem1)⟩
  refine aN (aC (aM ?_)); refine fR (fun w0 w' => Evo [b7] w0 w') (by kernel_rfl) (fun a6 a7 => ?_); refine aet 0 rfl (fun _ hS => bC rfl) (Evo.refl [b7] a6) ?_; refine aet 1 rfl (fun _ hS => bX rfl dU cN (hS.blk (a7.blk0 E) (G.nmem1)) rfl) (Evo.refl [b7] a6) ?_; refine aet 2 rfl (fun _ hS => cR rfl) (Evo.refl [b7] a6) ?_; refine cA [3] (by kernel_rfl) rfl ⟨?_, trivial⟩; refine cG rfl ?_; refine aV rfl rfl cN (a7.blk0 F) rfl rfl ⟨rfl, rfl, rfl, rfl, trivial⟩ fun e0 c0 c1 => ?_
  try simp only [cH, Nat.reduceAdd] at c0
  refine aR (bV (.inl ((Evo.refl [b7] a6).step c1 (fun y hy => .inl hy))) ?_); refine dB (by kernel_rfl) (aC ?_); refine aK (aO (aE (aO (aE (aO (gC rfl (ResOk.tmp rfl) (ResOk.cellA rfl dU cN c0 rfl) ?_)))))); exact ⟨c, g, rfl, ((FgI.stop hU hI Y a0 a2 a4 J).2 (by omega)).2, ((D.then a7).step c1 hg7.mem1)⟩
structure SeIs (s : ByteArray) (N k : Nat) (f : Fl) (n : Nat) (g : Fl) : Prop where
  yes : n ≠ 0 → isB s (aU s k) 40 ∧ eT s (aU s k) f = ⟨n, emp, g, false, true, 0⟩ ∧ k + n ≤ N ∧ aU s (k + n) = aU s k + n
  no : n = 0 → isB s (aU s k) 40 → ¬ ((eT s (aU s k) f).err = 0 ∧ (eT s (aU s k) f).sett = true)
theorem zY {s : ByteArray} {i h : Nat} {fl : Fl} : (mE s i h fl).sett = false := by unfold mE; split <;> rfl
section
variable {s : ByteArray} {N k : Nat} {f g : Fl} {c : Nat}
theorem QH {i : Nat} (h1 : isB s i 40) (h2 : isB s (i + 1) 63) (he : (fT s i s.size (i + 2) true 0 false f).err = 0) : eT s i f = fT s i s.size (i + 2) true 0 false f ∧ ¬ isB s (i + 2) 58 := by
  have hno : ∀ b, (b = 80 ∨ b = 60 ∨ b = 58) → ¬ isB s (i + 2) b := fun b hb h => by
    by_cases h58 : b = 58
    · subst h58
      rw [RX h (by omega) (.inl rfl)] at he
      simp at he
    · have := RV (s := s) (i := i) (q := s.size) (j := i + 2) (b := true) (n := 0) (m := false) (fl := f) (by rw [h.2]; omega) (by rw [h.2]; omega) (by rw [h.2]; omega) (by rw [h.2]; omega) (by rw [h.2]; omega) (by rw [h.2]; omega) (by rw [h.2]; omega)
      rw [this] at he; exact absurd he (by decide)
  refine ⟨?_, hno 58 (by omega)⟩
  unfold eT
  rw [if_neg (fun h => h ⟨h1, h2⟩), if_neg (fun h => hno 80 (by omega) h.1), if_neg (hno 60 (by omega)), if_neg (hno 58 (by omega))]
theorem AB (i : Nat) (h1 : isB s i 40) (hs : (eT s i f).err = 0 ∧ (eT s i f).sett = true) : isB s (i + 1) 63 ∧ eT s i f = fT s i s.size (i + 2) true 0 false f := by
  unfold eT at hs ⊢
  by_cases c1 : isB s i 40 ∧ isB s (i + 1) 63
  · rw [if_neg (fun h => h c1)] at hs ⊢
    by_cases c2 : isB s (i + 2) 80 ∧ isB s (i + 3) 60
    · rw [if_pos c2, zY] at hs; cases hs.2
    · rw [if_neg c2] at hs ⊢
      by_cases c3 : isB s (i + 2) 60
      · rw [if_pos c3, zY] at hs; cases hs.2
      · rw [if_neg c3] at hs ⊢
        by_cases c4 : isB s (i + 2) 58
        · rw [if_pos c4] at hs; cases hs.2
        · rw [if_neg c4] at hs ⊢
          exact ⟨c1.2, rfl⟩
  · rw [if_pos c1] at hs; cases hs.2
theorem se_no1 (h : ¬ isB s (aU s k) 40) : SeIs s N k f 0 g := ⟨fun h9 => (h9 rfl).elim, fun _ h9 => (h h9).elim⟩
theorem se_no2 (h : ¬ isB s (aU s k + 1) 63) : SeIs s N k f 0 g := ⟨fun h9 => (h9 rfl).elim, fun _ h9 hs => h (AB _ h9 hs).1⟩
theorem SD (h : FlIs s N k f c g) (hc : ¬ (c ≠ 0 ∧ rn s N (k + 2 + c) = 41)) {g' : Fl} : SeIs s N k f 0 g' := ⟨fun h9 => (h9 rfl).elim, fun _ h9 hs => by
  have e := (AB _ h9 hs).2
  rw [e] at hs
  by_cases c0 : c = 0
  · have := h.bad c0; rw [this] at hs; exact absurd hs.1 (by decide)
  · by_cases e58 : rn s N (k + 2 + c) = 58
    · rw [h.col c0 e58] at hs; cases hs.2
    · have := h.oth c0 (fun h8 => hc ⟨c0, h8⟩) e58; rw [this] at hs; exact absurd hs.1 (by decide)⟩
theorem se_yes (hU : Utf s N) (h1 : isB s (aU s k) 40) (h2 : isB s (aU s k + 1) 63) (h : FlIs s N k f c g) (c0 : c ≠ 0) (hr : rn s N (k + 2 + c) = 41) : SeIs s N k f (c + 3) g := ⟨fun _ => by
  have e := h.set c0 hr
  have hle := h.le c0
  have hof := h.of c0
  have hcl := dR (b := 41) hU hle (by decide) hr
  refine ⟨h1, ?_, by omega, by rw [show k + (c + 3) = k + 2 + c + 1 by omega, hcl.2.1, hof]; omega⟩
  rw [(QH h1 h2 (by rw [e])).1, e], fun h => by omega⟩
end
theorem HI {w : World} {b : Nat} {s : ByteArray} {N : Nat} {x : RfS} {m : RfM} {fl : Fl} (hR : RfAt w b s N x m) (hU : Utf s N) (hk : x.k ≤ N) (hN : N ≤ 1000000) :
    Calls Tryz.prog 65 #[.pointer (some ⟨b, 0, none⟩), .agg (flv fl).toArray] w (Ret fun v w' => ∃ (n : Nat) (g : Fl), v = .tuple #[.agg (flv g).toArray, iv n] ∧ SeIs s N x.k fl n g ∧ Evo [] w w') := by
  have hap1 := hR.ap1; have hap2 := hR.ap2; have hap3 := hR.ap3; refine bE (N := 36) Tryz.func65 rfl rfl rfl ?_; refine csr (iM rfl rfl fun b3 w1 d4 d5 a7 => ?_); have d6 := d5; have c9 := (Evo.refl [] w).then a7; refine cO rfl nV fun b4 e2 b6 b8 J => ?_; have d7 := b8; have L := Ge.new c9 b8; have U := J.blk0 (a7.blk0 hR.blk); have V := (hR.run.evo0 a7).evo0 J; have W := (hR.own.evo0 a7).evo0 J; refine wan (aM (csr (aA ?_))); refine aG (vs := [_, _]) cJ rfl (dK ⟨U, V, W⟩ 0 (by omega) (by omega)) rfl ?_; rintro _ e3 ⟨rfl, D⟩; have Y := (c9.then J).then D; have b9 := D.blk0 (J.blk0 d4); refine aB (fE rfl rfl) ?_; refine aA (bH (t := 11) rfl (fun M => ?_) (fun M => ?_))
  ·refine aP (aP (aP (bW (wnn (cZ rfl ?_))))); refine csr (aB (bX rfl dU cN b9 rfl) (aV rfl rfl cN (D.blk0 b6) rfl rfl ⟨rfl, rfl, rfl, rfl, trivial⟩ fun e4 c0 d0 => ?_))
   try simp only [cH, Nat.reduceAdd] at c0
   refine wan (aK (aE (gC rfl (ResOk.cellA rfl dU cN c0 rfl) (ResOk.tmp rfl) ?_))); exact ⟨0, fl, rfl, se_no1 (fun h9 => M ((dS hU hk (by decide)).2 h9)), (Y.step d0 L.mem1)⟩
  refine aW (aA (aW ?_)); refine aG (vs := [_, _]) cJ rfl (dK ⟨(D.blk0 U), (V.evo0 D), (W.evo0 D)⟩ 1 (by omega) (by omega)) rfl ?_; rintro _ e5 ⟨rfl, E⟩; have Z := E.blk0 (D.blk0 U); have a0 := (V.evo0 D).evo0 E; have a1 := (W.evo0 D).evo0 E; have O := E.blk0 b9; have a2 := E.blk0 (D.blk0 b6); refine aW (aB (fE rfl rfl) ?_); refine bR (wnn (aZ rfl (fun a3 => ?_) (fun a3 => ?_)))
  ·refine csr (aB (bX rfl dU cN O rfl) (aV rfl rfl cN a2 rfl rfl ⟨rfl, rfl, rfl, rfl, trivial⟩ fun e6 c1 d1 => ?_))
   try simp only [cH, Nat.reduceAdd] at c1
   refine wan (aK (aE (gC rfl (ResOk.cellA rfl dU cN c1 rfl) (ResOk.tmp rfl) ?_))); have hb1 := dR (b := 40) hU hk (by decide) (Classical.not_not.1 M)
   exact ⟨0, fl, rfl, se_no2 (fun h9 => a3 ((dS hU hb1.2.2 (by decide)).2 (by rw [hb1.2.1]; exact h9))), ((Y.then E).step d1 L.mem1)⟩
  have hb1 := dR (b := 40) hU hk (by decide) (Classical.not_not.1 M); have hb2 := dR (b := 63) hU (i := x.k + 1) hb1.2.2 (by decide) (Classical.not_not.1 a3)
  have h63 : isB s (aU s x.k + 1) 63 := by rw [← hb1.2.1]; exact hb2.1
  refine aN (aC (csr (aA (aB (bX rfl dU cN O rfl) ?_)))); refine aG (vs := [_, _, _]) xS rfl (CI ⟨Z, a0, a1⟩ hU hb2.2.2 (by rw [show x.k + 2 = x.k + 1 + 1 by rfl, hb2.2.1, hb1.2.1]) hN) rfl ?_; rintro _ e7 ⟨c, g, rfl, hF, B⟩; have c3 := (Y.then E).then B
  have hcN : c ≤ N := by (by_cases h9 : c = 0); omega; (have := hF.le h9; omega)
  refine aA (aB (cC rfl rfl) ?_); refine aB (cC rfl rfl) ?_; refine cO rfl nV fun b7 e8 d2 F G => ?_; have d8 := F; refine bN (aV rfl rfl cN d2 rfl rfl ⟨rfl, rfl, rfl, rfl, trivial⟩ fun e9 c4 H => ?_); have a4 := (c3.then G).step H (Ge.new c3 F).mem1; have c5 := H.blk (G.blk0 (B.blk0 O)) (Apart.new (Lt.blk (B.blk0 O)) F).nmem1; have a5 := H.blk (G.blk0 (B.blk0 a2)) (Apart.new (Lt.blk (B.blk0 a2)) F).nmem1
  try simp only [cH, Nat.reduceAdd] at c4
  refine wnn (aM (csr (aA (aB (eW rfl rfl) ?_)))); refine aA (bH (t := 25) rfl (fun d3 => ?_) (fun d3 => ?_))
  ·refine aW (aA (aW (aA (aW ?_)))); refine aB (aI rfl rfl (by omega) (by omega)) ?_; refine aW ?_; refine aG (vs := [_, _]) cJ rfl (dK ⟨(H.blk (G.blk0 (B.blk0 Z)) (Apart.new (Lt.blk (B.blk0 Z)) F).nmem1), (((a0.evo0 B).evo0 G).evo H (Apart.new (Lt.own (a0.evo0 B)) F).own1), (((a1.evo0 B).evo0 G).evo H (Apart.new (Lt.own (a1.evo0 B)) F).own1)⟩ (2 + c) (by omega) (by omega)) rfl ?_; rintro _ f0 ⟨rfl, I⟩; refine aW (wel ?_); refine bW (wnn (aZ rfl (fun a6 => ?_) (fun a6 => ?_)))
   ·refine csr (aB (bX rfl dU cN (I.blk0 c4) rfl) (aA ?_)); refine aB (aI rfl rfl (by omega) (by omega)) ?_; refine aV rfl rfl cN (I.blk0 a5) rfl rfl ⟨rfl, rfl, rfl, rfl, trivial⟩ fun d9 a8 c6 => ?_
    try simp only [cH, Nat.reduceAdd] at a8
    refine wan (aK (aE (gC rfl (ResOk.cellA rfl dU cN a8 rfl) (ResOk.tmp rfl) ?_)))
    exact ⟨c + 3, g, rfl, se_yes hU hb1.1 h63 hF (by omega) (by rw [Nat.add_assoc]; exact a6), ((a4.then I).step c6 L.mem1)⟩
   refine aN (aC (csr (aB (bX rfl dU cN (I.blk0 c5) rfl) (aV rfl rfl cN (I.blk0 a5) rfl rfl ⟨rfl, rfl, rfl, rfl, trivial⟩ fun e0 a9 c7 => ?_))))
   try simp only [cH, Nat.reduceAdd] at a9
   refine wan (aK (gC rfl (ResOk.cellA rfl dU cN a9 rfl) (ResOk.tmp rfl) ?_))
   exact ⟨0, fl, rfl, SD hF (fun h9 => a6 (by rw [Nat.add_assoc] at h9; exact h9.2)), ((a4.then I).step c7 L.mem1)⟩
  refine aP (aP (aP (aP (aP (bR (wnn (cF rfl ?_))))))); refine aN (aC (csr (aB (bX rfl dU cN c5 rfl) (aV rfl rfl cN a5 rfl rfl ⟨rfl, rfl, rfl, rfl, trivial⟩ fun e1 b5 c8 => ?_))))
  try simp only [cH, Nat.reduceAdd] at b5
  refine wan (aK (gC rfl (ResOk.cellA rfl dU cN b5 rfl) (ResOk.tmp rfl) ?_)); exact ⟨0, fl, rfl, SD hF (fun h9 => by omega), (a4.step c8 L.mem1)⟩
def kF (c : Int) : Prop := c = 95 ∨ (48 ≤ c ∧ c ≤ 57) ∨ (65 ≤ c ∧ c ≤ 90) ∨ (97 ≤ c ∧ c ≤ 122)
instance (c : Int) : Decidable (kF c) := by unfold kF; infer_instance
theorem IK : ∀ (l : List Int) (r : ByteArray), VR l → l.foldl (fun r n => r ++ Utf8.encode n) r = r ++ txt l
  | [], r, h => by rw [List.foldl_nil, txt_nil]; exact (ByteArray.append_empty).symm
  | x :: l, r, h => by
    rw [List.foldl_cons, IK l _ (fun y hy => h y (by simp [hy])), AV (h x (by simp)), show x :: l = [x] ++ l from rfl, DJ, ByteArray.append_assoc]
    congr 2
    show bstr (eJ x) = bstr (frm [x])
    unfold frm; simp
section
variable {P : Program} {σ : Env} {w : World} {dst : Option Nat} {T : TypeId} {pos : String} {after : Array Edge} {gg : Option (Nat × Bool)}
theorem ex_seg {x lo hi : Operand} {t e : TypeId} {a : Option Addr} {len c l h g : Nat} (hx : σ.ev x = some (.slice a len c)) (ht : P.underlying t = some (.slice e)) (hs : iJ P e = some 1) (hlo : σ.ev lo = some (.int .i64 (l : Nat))) (hhi : σ.ev hi = some (.int .i64 (h : Nat)))
    (ha : a = some ⟨g, 0, none⟩) (hl : l < h) (hh : h ≤ len) (hc : len ≤ c) : Ex P σ ⟨dst, .slice t x (some lo) (some hi) none, T, pos, after, gg⟩ w (.slice (some ⟨g, l, none⟩) (h - l) (c - l)) w := by
  have h1 := IS (P := P) (σ := σ) (w := w) (dst := dst) (T := T) (pos := pos) (after := after) (g := gg) (lo := some lo) (hi := some hi) (l := l) (h := h) (lv := some (l : Nat)) (hv := some (h : Nat)) hx ht hs (by simp [hlo]) (by simp [hhi]) rfl rfl (Nat.le_of_lt hl) (by omega) hc
  rw [if_neg (by omega), ha] at h1
  have e : (some (⟨g, 0, none⟩ : Addr)).map (·.add (l * 1)) = some ⟨g, l, none⟩ := by simp [Addr.add]; omega
  rw [e] at h1
  exact h1
theorem CX {x : Operand} {t t' e : TypeId} {b o n c : Nat} {l : List Int} {r : ByteArray} (hx : σ.ev x = some (.slice (some ⟨b, o, none⟩) n c)) (hs : P.underlying t = some (.slice e)) (he : P.underlying e = some (.int .i32)) (hd : P.underlying t' = some .string)
    (hn : l.length = n) (hv : VR l) (hr : txt l = r) (hc : ∀ j v, (l.map (Value.int .i32))[j]? = some v → w.cell? ⟨b, o + j, none⟩ = some v) : Ex P σ ⟨dst, .convert t t' x, T, pos, after, gg⟩ w (.string r) w := by
  have h1 := IT (P := P) (σ := σ) (w := w) (dst := dst) (T := T) (pos := pos) (after := after) (g := gg) hx hs he hd hn hc
  rw [IK l _ hv, ByteArray.empty_append, hr] at h1
  exact h1
end
def seg (s : ByteArray) (a c : Nat) : List Int := (List.range c).map fun j => xJ s (a + j)
theorem DT (s : ByteArray) (a c : Nat) : (seg s a c).length = c := by simp [seg]
theorem PO (s : ByteArray) (a c : Nat) : jH s (a + c) = jH s a ++ seg s a c := by
  unfold jH seg
  rw [List.range_add, List.map_append, List.map_map]; rfl
theorem DR {s : ByteArray} {N a c : Nat} (hU : Utf s N) (h : a + c ≤ N) : txt (seg s a c) = s.extract (aU s a) (aU s (a + c)) := by
  have key : ∀ k, k ≤ N → txt (jH s k) = s.extract 0 (aU s k) := by
    intro k
    induction k with
    | zero => intro _; symm; exact ByteArray.size_eq_zero_iff.1 (by rw [ByteArray.size_extract]; show min 0 _ - 0 = 0; omega)
    | succ k ih =>
      intro hk
      have h1 := HZ (hU.2 k (by omega))
      rw [xI, DJ, ih (by omega), OL (b := aU s k) (Nat.zero_le _) (mG s (Nat.le_succ k)), aU, h1.1]
      congr 1
      simp [txt, frm]
  have h1 := key (a + c) h
  rw [PO, DJ, key a (by omega), OL (b := aU s a) (Nat.zero_le _) (mG s (Nat.le_add_right a c))] at h1
  have h2 : (s.extract 0 (aU s a)).data.toList ++ (txt (seg s a c)).data.toList = (s.extract 0 (aU s a)).data.toList ++ (s.extract (aU s a) (aU s (a + c))).data.toList := by
    rw [← Array.toList_append, ← Array.toList_append, ← ByteArray.data_append, ← ByteArray.data_append, h1]
  exact ByteArray.ext (Array.ext' (List.append_cancel_left h2))
theorem SC {s : ByteArray} {N a c : Nat} (hU : Utf s N) (h : a + c ≤ N) : VR (seg s a c) := fun x hx => by
  obtain ⟨j, hj, rfl⟩ := List.mem_map.1 hx
  exact SF hU _ (by unfold jH; exact List.mem_map.2 ⟨a + j, List.mem_range.2 (by have := List.mem_range.1 hj; omega), rfl⟩)
theorem CF {w : World} {s : ByteArray} {N a c rc : Nat} {ra : Option Addr} {e : TypeId} {rb : Option Nat} (h : OwnS w e 1 ra N rc (wS (jH s N)) rb) (ha : a + c ≤ N) :
    ∀ g, ra = some ⟨g, 0, none⟩ → ∀ (j : Nat) v, ((seg s a c).map (Value.int .i32))[j]? = some v → w.cell? ⟨g, a + j, none⟩ = some v := fun g hg j v hv => by
  have hj : j < c := by have := (List.getElem?_eq_some_iff.1 hv).1; simpa [DT] using this
  obtain ⟨g', hg', ha', hc⟩ := h.cells (by omega)
  rw [hg] at ha'; cases ha'
  have h1 : (wS (jH s N))[a + j]? = some (.int .i32 (xJ s (a + j))) := by unfold wS; rw [List.getElem?_map, zJ (by omega)]; rfl
  have h2 : v = .int .i32 (xJ s (a + j)) := by
    rw [List.getElem?_map] at hv
    have : (seg s a c)[j]? = some (xJ s (a + j)) := by unfold seg; rw [List.getElem?_map, List.getElem?_range hj]; rfl
    rw [this] at hv; exact (Option.some.inj hv).symm
  rw [h2]
  have := hc _ _ h1
  rw [Nat.zero_add] at this
  exact this
theorem uH {w : World} (c : Int) : Calls Tryz.prog 103 #[.int .i32 c] w (Ret fun v w' => v = .bool (decide (kF c)) ∧ Evo [] w w') := by
  refine bE (N := 29) Tryz.func103 rfl rfl rfl ?_; refine csr (wan (csr (aA (wel ?_)))); refine aA (bH (t := 5) rfl (fun G => ?_) (fun G => ?_))
  ·refine aP (aP (aP (eS ?_))); refine eS ?_; refine aP (bW (aA (aP (aP (aP (eS ?_)))))); refine eS ?_; refine aP (bW (aA (aP (aP (aP (eS ?_)))))); refine eS ?_; refine aP (bW (wan (aK (br1 ?_)))); refine ⟨congrArg Value.bool (Bool.eq_iff_iff.2 ?_), (Evo.refl [] w)⟩; simp only [decide_eq_true_eq, Bool.false_eq_true, true_iff, false_iff]; unfold kF; omega
  refine aW (aA (aW (aB (dQ rfl rfl) ?_))); refine aW (aA (bH (t := 8) rfl (fun H => ?_) (fun H => ?_)))
  ·refine aW (aA (aW (aB (dM rfl rfl) ?_))); refine aW (bW (bR (aA (bH (t := 13) rfl (fun F => ?_) (fun F => ?_)))))
   ·refine aP (aP (aP (eS ?_))); refine eS ?_; refine aP (bW (aA (aP (aP (aP (eS ?_)))))); refine eS ?_; refine aP (bW (wan (aK (br1 ?_)))); refine ⟨congrArg Value.bool (Bool.eq_iff_iff.2 ?_), (Evo.refl [] w)⟩; simp only [decide_eq_true_eq, Bool.false_eq_true, true_iff, false_iff]; unfold kF; omega
   refine aW (aA (aW (aB (dQ rfl rfl) ?_))); refine aW (aA (bH (t := 16) rfl (fun D => ?_) (fun D => ?_)))
   ·refine aW (aA (aW (aB (dM rfl rfl) ?_))); refine aW (bW (bR (aA (bH (t := 21) rfl (fun E => ?_) (fun E => ?_)))))
    ·refine aP (aP (aP (eS ?_))); refine eS ?_; refine aP (bW (wan (aK (br1 ?_)))); refine ⟨congrArg Value.bool (Bool.eq_iff_iff.2 ?_), (Evo.refl [] w)⟩; simp only [decide_eq_true_eq, Bool.false_eq_true, true_iff, false_iff]; unfold kF; omega
    refine aW (aA (aW (aB (dQ rfl rfl) ?_))); refine aW (aA (bH (t := 24) rfl (fun B => ?_) (fun B => ?_)))
    ·refine aW (aA (aW (aB (dM rfl rfl) ?_))); refine aW (bW (bR (wan (aK (br1 ?_))))); refine ⟨congrArg Value.bool (Bool.eq_iff_iff.2 ?_), (Evo.refl [] w)⟩; simp only [decide_eq_true_eq, Bool.false_eq_true, true_iff, false_iff]; unfold kF; omega
    refine aP (aP (aW (bR (bR (wan (aK (br1 ?_))))))); refine ⟨congrArg Value.bool (Bool.eq_iff_iff.2 ?_), (Evo.refl [] w)⟩; simp only [decide_eq_true_eq, Bool.false_eq_true, true_iff, false_iff]; unfold kF; omega
   refine aP (aP (aW (bR (bR (aA (aW (aA (aW (aB (dQ rfl rfl) ?_))))))))); refine aW (aA (bH (t := 24) rfl (fun B => ?_) (fun B => ?_)))
   ·refine aW (aA (aW (aB (dM rfl rfl) ?_))); refine aW (bW (bR (wan (aK (br1 ?_))))); refine ⟨congrArg Value.bool (Bool.eq_iff_iff.2 ?_), (Evo.refl [] w)⟩; simp only [decide_eq_true_eq, Bool.false_eq_true, true_iff, false_iff]; unfold kF; omega
   refine aP (aP (aW (bR (bR (wan (aK (br1 ?_))))))); refine ⟨congrArg Value.bool (Bool.eq_iff_iff.2 ?_), (Evo.refl [] w)⟩; simp only [decide_eq_true_eq, Bool.false_eq_true, true_iff, false_iff]; unfold kF; omega
  refine aP (aP (aW (bR (bR (aA (aW (aA (aW (aB (dQ rfl rfl) ?_))))))))); refine aW (aA (bH (t := 16) rfl (fun D => ?_) (fun D => ?_)))
  ·refine aW (aA (aW (aB (dM rfl rfl) ?_))); refine aW (bW (bR (aA (bH (t := 21) rfl (fun E => ?_) (fun E => ?_)))))
   ·refine aP (aP (aP (eS ?_))); refine eS ?_; refine aP (bW (wan (aK (br1 ?_)))); refine ⟨congrArg Value.bool (Bool.eq_iff_iff.2 ?_), (Evo.refl [] w)⟩; simp only [decide_eq_true_eq, Bool.false_eq_true, true_iff, false_iff]; unfold kF; omega
   refine aW (aA (aW (aB (dQ rfl rfl) ?_))); refine aW (aA (bH (t := 24) rfl (fun B => ?_) (fun B => ?_)))
   ·refine aW (aA (aW (aB (dM rfl rfl) ?_))); refine aW (bW (bR (wan (aK (br1 ?_))))); refine ⟨congrArg Value.bool (Bool.eq_iff_iff.2 ?_), (Evo.refl [] w)⟩; simp only [decide_eq_true_eq, Bool.false_eq_true, true_iff, false_iff]; unfold kF; omega
   refine aP (aP (aW (bR (bR (wan (aK (br1 ?_))))))); refine ⟨congrArg Value.bool (Bool.eq_iff_iff.2 ?_), (Evo.refl [] w)⟩; simp only [decide_eq_true_eq, Bool.false_eq_true, true_iff, false_iff]; unfold kF; omega
  refine aP (aP (aW (bR (bR (aA (aW (aA (aW (aB (dQ rfl rfl) ?_))))))))); refine aW (aA (bH (t := 24) rfl (fun B => ?_) (fun B => ?_)))
  ·refine aW (aA (aW (aB (dM rfl rfl) ?_))); refine aW (bW (bR (wan (aK (br1 ?_))))); refine ⟨congrArg Value.bool (Bool.eq_iff_iff.2 ?_), (Evo.refl [] w)⟩; simp only [decide_eq_true_eq, Bool.false_eq_true, true_iff, false_iff]; unfold kF; omega
  refine aP (aP (aW (bR (bR (wan (aK (br1 ?_))))))); refine ⟨congrArg Value.bool (Bool.eq_iff_iff.2 ?_), (Evo.refl [] w)⟩; simp only [decide_eq_true_eq, Bool.false_eq_true, true_iff, false_iff]; unfold kF; omega
theorem RE {s : ByteArray} {N i : Nat} (hU : Utf s N) (hi : i ≤ N) : kF (rn s N i) ↔ (aU s i < s.size ∧ iH (sb s (aU s i))) := by
  constructor
  · intro h
    have hc : i < N := by
      rcases Nat.lt_or_ge i N with h9 | h9
      · exact h9
      · rw [tT (by omega)] at h; unfold kF at h; omega
    have h3 := (pT hU hc (by unfold kF at h; omega)).1
    exact ⟨gA hU hc, by unfold kF at h; unfold iH; omega⟩
  · rintro ⟨h1, h2⟩
    have hlt : sb s (aU s i) < 128 := by unfold iH at h2; omega
    have h4 : rn s N i = (sb s (aU s i) : Int) := (dS hU hi hlt).2 ⟨h1, rfl⟩
    unfold kF; unfold iH at h2; omega
structure NmI (s : ByteArray) (N k n c : Nat) : Prop where
  le : k + n + c ≤ N
  of : aU s (k + n + c) = aU s k + n + c
  eq : ∃ q, s.size ≤ aU s k + n + c + q ∧ kE s s.size (aU s k + n) = kE s q (aU s k + n + c)
theorem NmI.step {s : ByteArray} {N k n c : Nat} (hU : Utf s N) (h : NmI s N k n c) (hw : kF (rn s N (k + (n + c)))) : NmI s N k n (c + 1) ∧ k + n + c < N := by
  obtain ⟨h1, h2, q, h3, h4⟩ := h
  rw [← Nat.add_assoc] at hw
  have hb := (RE hU h1).1 hw
  have hc := tL hU h1 hb.1
  have hlt : sb s (aU s (k + n + c)) < 128 := by have := hb.2; unfold iH at this; omega
  have ho := pC hU h1 hlt ⟨hb.1, rfl⟩
  rw [h2] at hb ho
  obtain ⟨q', rfl⟩ : ∃ q', q = q' + 1 := ⟨q - 1, by omega⟩
  exact ⟨⟨by omega, ho, q', by omega, by rw [h4, HS hb.1 hb.2]; rfl⟩, hc⟩
theorem NmI.done {s : ByteArray} {N k n c : Nat} (hU : Utf s N) (h : NmI s N k n c) (hw : ¬ kF (rn s N (k + (n + c)))) : kE s s.size (aU s k + n) = aU s k + n + c := by
  obtain ⟨h1, h2, q, h3, h4⟩ := h
  rw [← Nat.add_assoc] at hw
  rw [h4, kD (fun h9 => hw ((RE hU h1).2 (by rw [h2]; exact h9)))]
structure NaIs (s : ByteArray) (N k n : Nat) (f : Fl) (l : Nat) (nm : ByteArray) : Prop where
  no : l = 0 → (mE s (aU s k) n f).err = 85
  yes : l ≠ 0 → mE s (aU s k) n f = ⟨l, nm, f, true, false, 0⟩ ∧ k + l ≤ N ∧ aU s (k + l) = aU s k + l
theorem na_no {s : ByteArray} {N k n c : Nat} {f : Fl} {nm : ByteArray} (h : kE s s.size (aU s k + n) = aU s k + n + c) (hc : c = 0 ∨ ¬ isB s (aU s k + n + c) 62) : NaIs s N k n f 0 nm :=
  ⟨fun _ => by rw [lI h (hc.elim (fun h9 => .inl (by omega)) .inr)], fun h => (h rfl).elim⟩
theorem na_yes {s : ByteArray} {N k n c : Nat} {f : Fl} (hU : Utf s N) (hI : NmI s N k n c) (h : kE s s.size (aU s k + n) = aU s k + n + c) (hc : c ≠ 0) (hr : rn s N (k + (n + c)) = 62) (hn : aU s (k + n) = aU s k + n) :
    NaIs s N k n f (n + c + 1) (txt (seg s (k + n) c)) := by
  rw [← Nat.add_assoc] at hr
  have hcl := dR (b := 62) hU hI.le (by decide) hr
  refine ⟨fun h => by omega, fun _ => ⟨?_, by omega, by rw [show k + (n + c + 1) = k + n + c + 1 by omega, hcl.2.1, hI.of]; omega⟩⟩
  rw [pI h (fun h9 => h9.elim (by omega) (fun h8 => h8 (by rw [← hI.of]; exact hcl.1))), DR hU hI.le, hI.of, hn]
  congr 1
  omega
theorem SO {w : World} {b : Nat} {s : ByteArray} {N : Nat} {x : RfS} {m : RfM} (hR : RfAt w b s N x m) (hU : Utf s N) (n : Nat) (hn : x.k + n ≤ N) (ho : aU s (x.k + n) = aU s x.k + n) (hN : N ≤ 1000000) (f : Fl) :
    Calls Tryz.prog 117 #[.pointer (some ⟨b, 0, none⟩), .int .i64 (n : Nat)] w (Ret fun v w' => ∃ (l : Nat) (nm : ByteArray), v = .tuple #[iv l, .string nm] ∧ NaIs s N x.k n f l nm ∧ Evo [] w w') := by
  have hap1 := hR.ap1; have hap2 := hR.ap2; have hap3 := hR.ap3; refine bE (N := 49) Tryz.func117 rfl rfl rfl ?_; refine csr (bN (wan (csr (wan (aM (bK (dL (α := Nat) (0) (fun c => [(6, .int .i64 (c : Nat))]) [(0, _), (1, _), (4, _), (5, _)] (fun c wr => Evo [] w wr ∧ (NmI s N x.k n c ∧ RfAt wr b s N x m)) (fun c => N - c) ⟨rfl, trivial⟩ ⟨rfl, rfl, rfl, rfl, trivial⟩ ⟨(Evo.refl [] w), ⟨⟨hn, ho, _, Nat.le_add_left _ _, rfl⟩, ⟨hR.blk, hR.run, hR.own⟩⟩⟩ ?_))))))); rintro c wr1 ⟨W, ⟨hI, D⟩⟩; show CW _ _ _ _ [(6, _), (0, _), (1, _), (4, _), (5, _)] _; have i1 := hI.le; refine aM (csr (aA (aA (aA ?_)))); refine aB (aI rfl rfl (by omega) (by omega)) ?_; refine aG (vs := [_, _]) cJ rfl (dK ⟨D.blk, D.run, D.own⟩ (n + c) (by omega) (by omega)) rfl ?_; rintro _ w3 ⟨rfl, O⟩; refine aG (vs := [_]) vZ rfl (uH (rn s N (x.k + (n + c)))) rfl ?_; rintro _ w9 ⟨rfl, E⟩; have F := (W.then O).then E; have H := E.blk0 (O.blk0 D.blk); have I := (D.run.evo0 O).evo0 E; have U := (D.own.evo0 O).evo0 E; refine wnn (aZ rfl (fun J => ?_) (fun J => ?_))
  ·have hst := NmI.step hU hI J; refine aN (aC (bK (aF (aA ?_)))); refine aB (aI rfl rfl (by omega) (by omega)) ?_; refine bN (aR (aQ (aY ?_))); refine ⟨(c + 1), ?_, ⟨rfl, trivial⟩, ⟨rfl, rfl, rfl, rfl, trivial⟩, F, ?_⟩
   · omega
   exact ⟨hst.1, ⟨H, I, U⟩⟩
  have hdn := NmI.done hU hI J; refine cW (bS (bS (cV (aC ?_)))); refine aM (csr (aA (wel ?_))); refine aA (bH (t := 17) rfl (fun V => ?_) (fun V => ?_))
  ·refine aP (aP (aP (aP (aP (aP (bW (wnn (cZ rfl ?_)))))))); refine csr (bN (wan (aK (aE (cE rfl rfl rfl ?_))))); exact ⟨0, _, rfl, na_no hdn (.inl (by omega)), F⟩
  refine aW (aA (aW (aA (aW (aA (aW ?_)))))); refine aB (aI rfl rfl (by omega) (by omega)) ?_; refine aW ?_; refine aG (vs := [_, _]) cJ rfl (dK ⟨H, I, U⟩ (n + c) (by omega) (by omega)) rfl ?_; rintro _ a0 ⟨rfl, G⟩; have L := G.blk0 H; refine aW (aB (fE rfl rfl) ?_); refine bR (wnn (aZ rfl (fun M => ?_) (fun M => ?_)))
  ·refine csr (bN (wan (aK (aE (cE rfl rfl rfl ?_)))))
   exact ⟨0, _, rfl, na_no hdn (.inr (fun h9 => M ((dS hU (i := x.k + (n + c)) (by omega) (by decide)).2 (by rw [← Nat.add_assoc, hI.of]; exact h9)))), (F.then G)⟩
  have Y : c ≠ 0 := by omega
  have hr62 := Classical.not_not.1 M; have hcl := dR (b := 62) hU (i := x.k + (n + c)) (by omega) (by decide) hr62
  obtain ⟨g9, ha9, hcc9⟩ : ∃ g, m.ra = some ⟨g, 0, none⟩ ∧ m.rb = some g := by obtain ⟨g, h1, h2, -⟩ := hR.run.cells (by omega); exact ⟨g, h2, h1⟩
  refine aN (aC (aM ?_)); refine eK (by kernel_rfl) (by kernel_rfl) ?_; refine bG (fun _ B => bC rfl) ?_; refine bG (fun _ B => bC rfl) ?_; refine bG (fun _ B => aI rfl rfl (by omega) (by omega)) ?_; refine bG (fun _ B => aI rfl rfl (by omega) (by omega)) ?_; refine bG (fun _ B => bC rfl) ?_; refine bG (fun _ B => aH rfl) ?_; refine bG (fun _ B => aD rfl fL) ?_; refine bG (fun _ B => aX rfl gD (bI (B.blk0 L) rfl)) ?_; refine bG (fun _ B => bC rfl) ?_; refine bG (fun _ B => aH rfl) ?_; refine bG (fun _ B => aD rfl bO) ?_; refine bG (fun _ B => aX rfl bD (bI (B.blk0 L) rfl)) ?_; refine bG (fun _ B => bC rfl) ?_; refine bG (fun _ B => aI rfl rfl (by omega) (by omega)) ?_; refine bG (fun _ B => bC rfl) ?_; refine bG (fun _ B => aH rfl) ?_; refine bG (fun _ B => aD rfl bO) ?_; refine bG (fun _ B => aX rfl bD (bI (B.blk0 L) rfl)) ?_; refine bG (fun _ B => bC rfl) ?_; refine bG (fun _ B => aI rfl rfl (by omega) (by omega)) ?_; refine bG (fun _ B => bC rfl) ?_; refine bG (fun _ B => aI rfl rfl (by omega) (by omega)) ?_; refine bG (fun _ B => ex_seg (l := x.k + n) (h := x.k + n + c) rfl Tryz.underlying67 gP rfl rfl ha9 (by omega) hI.le hR.run.le) ?_
  refine bG (fun _ B => CX (l := seg s (x.k + n) c) rfl Tryz.underlying67 Tryz.underlying21 Tryz.underlying9 (by rw [DT]; omega) (SC hU hI.le) rfl (CF ((I.evo0 G).evo0 B) hI.le g9 ha9)) ?_
  refine bG (fun _ B => cR rfl) ?_; refine bG (fun _ B => cR rfl) ?_; refine eN (fun Z B => aC ?_); refine aK (cE rfl rfl rfl ?_); exact ⟨n + c + 1, _, rfl, na_yes hU hI hdn Y hr62 ho, ((F.then G).then B)⟩
theorem vV : dW Tryz.prog 122 := ⟨_, Tryz.func122, by kernel_rfl, by kernel_rfl⟩
theorem GG : dW Tryz.prog 139 := ⟨_, Tryz.func139, by kernel_rfl, by kernel_rfl⟩
theorem oQ : dW Tryz.prog 153 := ⟨_, Tryz.func153, by kernel_rfl, by kernel_rfl⟩
theorem eQ : dW Tryz.prog 40 := ⟨_, Tryz.func40, by kernel_rfl, by kernel_rfl⟩
def hxI (c : Int) : Int := if 48 ≤ c ∧ c ≤ 57 then c - 48 else if 97 ≤ c ∧ c ≤ 102 then c - 97 + 10 else if 65 ≤ c ∧ c ≤ 70 then c - 65 + 10 else -1
theorem CP (c : Int) : -1 ≤ hxI c ∧ hxI c ≤ 15 := by
  unfold hxI
  repeat' split
  all_goals omega
theorem OD {c : Int} (h : 0 ≤ hxI c) : 48 ≤ c ∧ c ≤ 102 := by
  unfold hxI at h
  repeat' split at h
  all_goals omega
theorem VO (b : Nat) : (∀ d, nS b = some d → hxI b = d) ∧ (nS b = none → hxI b = -1) := by
  unfold nS hxI
  refine ⟨fun d h => ?_, fun h => ?_⟩
  · repeat' split at h
    all_goals (try cases h)
    · rw [if_pos (by omega)]; omega
    · rw [if_neg (by omega), if_pos (by omega)]; omega
    · rw [if_neg (by omega), if_neg (by omega), if_pos (by omega)]; omega
  · repeat' split at h
    all_goals (try cases h)
    rw [if_neg (by omega), if_neg (by omega), if_neg (by omega)]
section
variable {s : ByteArray} {N i : Nat} (hU : Utf s N) (hi : i ≤ N)
include hU hi
theorem yR (h : 0 ≤ hxI (rn s N i)) : ∃ d : Nat, (d : Int) = hxI (rn s N i) ∧ d ≤ 15 ∧ gL s (aU s i) = .ok (d, aU s i + 1) ∧ i < N ∧ aU s (i + 1) = aU s i + 1 ∧ ¬ isB s (aU s i) 125 := by
  have ha := OD h
  have hc : i < N := by
    rcases Nat.lt_or_ge i N with h9 | h9
    · exact h9
    · rw [tT (by omega)] at ha; omega
  obtain ⟨e1, e2⟩ := pT hU hc (by omega)
  have hl := gA hU hc
  obtain ⟨q1, q2⟩ := VO (sb s (aU s i))
  rw [e1] at q1 q2
  cases hd : nS (sb s (aU s i)) with
  | none => have := q2 hd; omega
  | some d =>
    have h1 := q1 d hd
    have hb := CP (rn s N i)
    refine ⟨d, h1.symm, by omega, ?_, hc, e2, fun h9 => by have := h9.2; omega⟩
    unfold gL; rw [if_pos hl, hd]
theorem EU (h : hxI (rn s N i) < 0) : gL s (aU s i) = .error 83 := by
  unfold gL
  split
  · rename_i hl
    have hc := tL hU hi hl
    obtain ⟨q1, q2⟩ := VO (sb s (aU s i))
    cases hd : nS (sb s (aU s i)) with
    | none => rfl
    | some d =>
      have h1 := q1 d hd
      have ha := OD (c := (sb s (aU s i) : Int)) (by omega)
      have h4 : rn s N i = (sb s (aU s i) : Int) := (dS hU hi (by omega)).2 ⟨hl, rfl⟩
      rw [h4] at h; omega
  · rfl
end
structure EsIs (s : ByteArray) (N k : Nat) (R : Except Int (Nat × Nat)) (r : Int) (n : Nat) : Prop where
  no : n = 0 → R = .error 83
  yes : n ≠ 0 → R = .ok (r.toNat, aU s k + n) ∧ k + n ≤ N ∧ aU s (k + n) = aU s k + n ∧ 0 ≤ r ∧ r ≤ 1114111
theorem xO {s : ByteArray} {N k : Nat} {R : Except Int (Nat × Nat)} {r : Int} (h : R = .error 83) : EsIs s N k R r 0 := ⟨fun _ => h, fun h9 => (h9 rfl).elim⟩
structure RhG where
  c : Nat
  v : Int
structure RhS (s : ByteArray) (N k : Nat) (x : RhG) : Prop where
  le : k + 3 + x.c ≤ N
  of : aU s (k + 3 + x.c) = aU s k + 3 + x.c
  v0 : 0 ≤ x.v
  v1 : x.v ≤ 17825791
  eq : (x.c = 0 ∧ x.v = 0) ∨ (x.c ≠ 0 ∧ ((x.v ≤ 1114111 ∧ ∃ f, s.size < aU s k + 3 + x.c + f ∧ kT s (aU s k + 2) = kG s f x.v.toNat (aU s k + 3 + x.c)) ∨ (1114111 < x.v ∧ kT s (aU s k + 2) = .error 83)))
section
variable {s : ByteArray} {N k c : Nat} {v : Int} (hU : Utf s N)
include hU
theorem RhS.step (h : RhS s N k ⟨c, v⟩) (hb : isB s (aU s k + 2) 123) (hd : 0 ≤ hxI (rn s N (k + (3 + c)))) {v' : Int} (hv : v' = if v ≤ 1114111 then 16 * v + hxI (rn s N (k + (3 + c))) else v) : RhS s N k ⟨c + 1, v'⟩ ∧ k + 3 + c < N := by
  obtain ⟨h1, h2, h3, h4, h5⟩ := h
  have h1' : k + 3 + c ≤ N := h1
  have h2' : aU s (k + 3 + c) = aU s k + 3 + c := h2
  have h3' : 0 ≤ v := h3
  have h4' : v ≤ 17825791 := h4
  have h5' : (c = 0 ∧ v = 0) ∨ (c ≠ 0 ∧ ((v ≤ 1114111 ∧ ∃ f, s.size < aU s k + 3 + c + f ∧ kT s (aU s k + 2) = kG s f v.toNat (aU s k + 3 + c)) ∨ (1114111 < v ∧ kT s (aU s k + 2) = .error 83))) := h5
  have hbd := CP (rn s N (k + (3 + c)))
  rw [← Nat.add_assoc] at hd hv hbd
  obtain ⟨d, e1, e2, e3, e4, e5, e6⟩ := yR hU h1' hd
  rw [h2'] at e3 e5 e6
  have hvb : 0 ≤ v' ∧ v' ≤ 17825791 := by rw [hv]; split <;> omega
  refine ⟨⟨by show k + 3 + (c + 1) ≤ N; omega, e5, hvb.1, hvb.2, .inr ⟨Nat.succ_ne_zero c, ?_⟩⟩, e4⟩
  show (v' ≤ 1114111 ∧ ∃ f, s.size < aU s k + 3 + (c + 1) + f ∧ kT s (aU s k + 2) = kG s f v'.toNat (aU s k + 3 + (c + 1))) ∨ (1114111 < v' ∧ kT s (aU s k + 2) = .error 83)
  rcases h5' with ⟨rfl, rfl⟩ | ⟨hc, ⟨hv1, f, hf, hp⟩ | ⟨hv1, hp⟩⟩
  · have hv2 : v' = d := by rw [hv, if_pos (by decide)]; omega
    refine .inl ⟨by omega, s.size + 1 - (aU s k + 3 + 1), by have := jF s (k + 3 + (0 + 1)); have : aU s (k + 3 + (0 + 1)) = aU s k + 3 + 0 + 1 := e5; omega, ?_⟩
    unfold kT
    rw [if_pos hb]
    have e3' : gL s (aU s k + 2 + 1) = .ok (d, aU s k + 3 + 1) := e3
    rw [e3', hv2]
    simp only [Int.toNat_natCast, Nat.zero_add]
  · obtain ⟨f', rfl⟩ : ∃ f', f = f' + 1 := ⟨f - 1, by have := jF s (k + 3 + c); omega⟩
    have hv2 : v' = 16 * v + d := by rw [hv, if_pos hv1, e1]
    have hgo : kG s (f' + 1) v.toNat (aU s k + 3 + c) = if 1114111 < v.toNat * 16 + d then .error 83 else kG s f' (v.toNat * 16 + d) (aU s k + 3 + c + 1) := by
      rw [kG, if_neg e6, e3]
    rw [hgo] at hp
    by_cases hov : 1114111 < v'
    · exact .inr ⟨hov, by rw [hp, if_pos (by omega)]⟩
    · refine .inl ⟨by omega, f', by omega, ?_⟩
      rw [hp, if_neg (by omega), show v.toNat * 16 + d = v'.toNat by omega, Nat.add_assoc (aU s k + 3)]
  · have hv2 : v' = v := by rw [hv, if_neg (by omega)]
    exact .inr ⟨by omega, hp⟩
theorem RhS.none0 (h : RhS s N k ⟨c, v⟩) (hb : isB s (aU s k + 2) 123) (hd : hxI (rn s N (k + (3 + c))) < 0) (hc : c = 0) : kT s (aU s k + 2) = .error 83 := by
  subst hc
  have h1 : k + 3 ≤ N := h.le
  have h2 : aU s (k + 3) = aU s k + 3 := h.of
  have e := EU hU h1 hd
  rw [h2] at e
  unfold kT
  rw [if_pos hb]
  have e' : gL s (aU s k + 2 + 1) = .error 83 := e
  rw [e']
theorem RhS.over (h : RhS s N k ⟨c, v⟩) (hc : c ≠ 0) (hv : 1114111 < v) : kT s (aU s k + 2) = .error 83 := by
  rcases h.eq with ⟨h1, -⟩ | ⟨-, ⟨h1, -⟩ | ⟨-, h2⟩⟩
  · exact (hc h1).elim
  · have h1' : v ≤ 1114111 := h1; omega
  · exact h2
theorem RhS.fin (h : RhS s N k ⟨c, v⟩) (hc : c ≠ 0) (hv : v ≤ 1114111) (hd : hxI (rn s N (k + (3 + c))) < 0) : (rn s N (k + (3 + c)) = 125 → EsIs s N k (kT s (aU s k + 2)) v (c + 4)) ∧ (rn s N (k + (3 + c)) ≠ 125 → kT s (aU s k + 2) = .error 83) := by
  have h1 : k + 3 + c ≤ N := h.le
  have h2 : aU s (k + 3 + c) = aU s k + 3 + c := h.of
  have h3 : 0 ≤ v := h.v0
  rw [← Nat.add_assoc] at hd ⊢
  obtain ⟨f, hf, hp⟩ : ∃ f, s.size < aU s k + 3 + c + f ∧ kT s (aU s k + 2) = kG s f v.toNat (aU s k + 3 + c) := by
    rcases h.eq with ⟨h1, -⟩ | ⟨-, ⟨-, h2⟩ | ⟨h1, -⟩⟩
    · exact (hc h1).elim
    · exact h2
    · have h1' : 1114111 < v := h1; omega
  obtain ⟨f', rfl⟩ : ∃ f', f = f' + 1 := ⟨f - 1, by have := jF s (k + 3 + c); omega⟩
  refine ⟨fun hr => ?_, fun hr => ?_⟩
  · have hcl := dR (b := 125) hU h1 (by decide) hr
    rw [h2] at hcl
    refine ⟨fun h => by omega, fun _ => ⟨?_, by omega, by rw [show k + (c + 4) = k + 3 + c + 1 by omega, hcl.2.1]; omega, h3, hv⟩⟩
    rw [hp, kG, if_pos hcl.1, show aU s k + 3 + c + 1 = aU s k + (c + 4) by omega]
  · have hno : ¬ isB s (aU s k + 3 + c) 125 := fun h9 => hr ((dS hU h1 (by decide)).2 (by rw [h2]; exact h9))
    have e := EU hU h1 hd
    rw [h2] at e
    rw [hp, kG, if_neg hno, e]
theorem hx_two (hk : k + 2 ≤ N) (ho : aU s (k + 2) = aU s k + 2) (hb : rn s N (k + 2) ≠ 123) (h1 : 0 ≤ hxI (rn s N (k + 2))) (h2 : 0 ≤ hxI (rn s N (k + 3))) : EsIs s N k (kT s (aU s k + 2)) (16 * hxI (rn s N (k + 2)) + hxI (rn s N (k + 3))) 4 := by
  obtain ⟨d, e1, e2, e3, e4, e5, -⟩ := yR hU hk h1
  obtain ⟨d2, f1, f2, f3, f4, f5, -⟩ := yR hU (show k + 3 ≤ N from e4) h2
  have e5' : aU s (k + 3) = aU s k + 3 := by rw [show k + 3 = k + 2 + 1 by rfl, e5, ho]
  rw [ho] at e3
  rw [e5'] at f3 f5
  refine ⟨fun h => by omega, fun _ => ⟨?_, by omega, f5, by omega, by omega⟩⟩
  unfold kT
  have hno : ¬ isB s (aU s k + 2) 123 := fun h9 => hb ((dS hU hk (by decide)).2 (by rw [ho]; exact h9))
  have f3' : gL s (aU s k + 2 + 1) = .ok (d2, aU s k + 3 + 1) := f3
  rw [if_neg hno, e3]
  simp only
  rw [f3']
  simp only
  rw [← e1, ← f1]
  congr 2
  omega
theorem VK (hk : k + 2 ≤ N) (ho : aU s (k + 2) = aU s k + 2) (hb : rn s N (k + 2) ≠ 123) (h : hxI (rn s N (k + 2)) < 0 ∨ hxI (rn s N (k + 3)) < 0) : kT s (aU s k + 2) = .error 83 := by
  unfold kT
  have hno : ¬ isB s (aU s k + 2) 123 := fun h9 => hb ((dS hU hk (by decide)).2 (by rw [ho]; exact h9))
  rw [if_neg hno]
  rcases Int.lt_or_le (hxI (rn s N (k + 2))) 0 with h1 | h1
  · have e := EU hU hk h1
    rw [ho] at e
    rw [e]
  · obtain ⟨d, e1, e2, e3, e4, e5, -⟩ := yR hU hk h1
    have e5' : aU s (k + 3) = aU s k + 3 := by rw [show k + 3 = k + 2 + 1 by rfl, e5, ho]
    have e := EU hU (show k + 3 ≤ N from e4) (h.resolve_left (by omega))
    rw [ho] at e3
    rw [e5'] at e
    have e' : gL s (aU s k + 2 + 1) = .error 83 := e
    rw [e3]; simp only; rw [e']
end
theorem uK {w : World} (c : Int) (h0 : -1 ≤ c) (h1 : c ≤ 1114111) : Calls Tryz.prog 153 #[.int .i32 c] w (Ret fun v w' => v = iv (hxI c) ∧ Evo [] w w') := by
  refine bE (N := 35) Tryz.func153 rfl rfl rfl ?_; refine csr (wan (aM (bK (csr (aA (aB (dQ rfl rfl) ?_)))))); refine aA (bH (t := 6) rfl (fun G => ?_) (fun G => ?_))
  ·refine aW (aA (aW (aB (dM rfl rfl) ?_))); refine bW (wan (aZ rfl (fun H => ?_) (fun H => ?_)))
   ·refine csr (aA ?_); refine aB (dY rfl rfl (by omega) (by omega)) ?_; refine aB (fM rfl Tryz.underlying21 Tryz.underlying3 (lQ (by omega) (by omega)).1 (lQ (by omega) (by omega)).2) ?_; refine wan (aK (aO (aE (br1 ?_)))); refine ⟨congrArg iv ?_, (Evo.refl [] w)⟩; unfold hxI; rw [if_pos (by omega)]
   refine csr (aA (aB (dQ rfl rfl) ?_)); refine aA (bH (t := 16) rfl (fun E => ?_) (fun E => ?_))
   ·refine aW (aA (aW (aB (dM rfl rfl) ?_))); refine bW (wan (aZ rfl (fun F => ?_) (fun F => ?_)))
    ·refine csr (aA ?_); refine aB (dY rfl rfl (by omega) (by omega)) ?_; refine aB (fM rfl Tryz.underlying21 Tryz.underlying3 (lQ (by omega) (by omega)).1 (lQ (by omega) (by omega)).2) ?_; refine aB (aI rfl rfl (by omega) (by omega)) ?_; refine wan (aK (aO (aE (br1 ?_)))); refine ⟨congrArg iv ?_, (Evo.refl [] w)⟩; unfold hxI; rw [if_neg (by omega), if_pos (by omega)]
    refine csr (aA (aB (dQ rfl rfl) ?_)); refine aA (bH (t := 27) rfl (fun B => ?_) (fun B => ?_))
    ·refine aW (aA (aW (aB (dM rfl rfl) ?_))); refine bW (wan (aZ rfl (fun D => ?_) (fun D => ?_)))
     ·refine csr (aA ?_); refine aB (dY rfl rfl (by omega) (by omega)) ?_; refine aB (fM rfl Tryz.underlying21 Tryz.underlying3 (lQ (by omega) (by omega)).1 (lQ (by omega) (by omega)).2) ?_; refine aB (aI rfl rfl (by omega) (by omega)) ?_; refine wan (aK (aO (aE (br1 ?_)))); refine ⟨congrArg iv ?_, (Evo.refl [] w)⟩; unfold hxI; rw [if_neg (by omega), if_neg (by omega), if_pos (by omega)]
     refine aN (aQ (aC (csr (wan (aK (br1 ?_)))))); refine ⟨congrArg iv ?_, (Evo.refl [] w)⟩; unfold hxI; rw [if_neg (by omega), if_neg (by omega), if_neg (by omega)]
    refine aP (aP (bR (wan (cF rfl ?_)))); refine aN (aQ (aC (csr (wan (aK (br1 ?_)))))); refine ⟨congrArg iv ?_, (Evo.refl [] w)⟩; unfold hxI; rw [if_neg (by omega), if_neg (by omega), if_neg (by omega)]
   refine aP (aP (bR (wan (cF rfl ?_)))); refine csr (aA (aB (dQ rfl rfl) ?_)); refine aA (bH (t := 27) rfl (fun B => ?_) (fun B => ?_))
   ·refine aW (aA (aW (aB (dM rfl rfl) ?_))); refine bW (wan (aZ rfl (fun D => ?_) (fun D => ?_)))
    ·refine csr (aA ?_); refine aB (dY rfl rfl (by omega) (by omega)) ?_; refine aB (fM rfl Tryz.underlying21 Tryz.underlying3 (lQ (by omega) (by omega)).1 (lQ (by omega) (by omega)).2) ?_; refine aB (aI rfl rfl (by omega) (by omega)) ?_; refine wan (aK (aO (aE (br1 ?_)))); refine ⟨congrArg iv ?_, (Evo.refl [] w)⟩; unfold hxI; rw [if_neg (by omega), if_neg (by omega), if_pos (by omega)]
    refine aN (aQ (aC (csr (wan (aK (br1 ?_)))))); refine ⟨congrArg iv ?_, (Evo.refl [] w)⟩; unfold hxI; rw [if_neg (by omega), if_neg (by omega), if_neg (by omega)]
   refine aP (aP (bR (wan (cF rfl ?_)))); refine aN (aQ (aC (csr (wan (aK (br1 ?_)))))); refine ⟨congrArg iv ?_, (Evo.refl [] w)⟩; unfold hxI; rw [if_neg (by omega), if_neg (by omega), if_neg (by omega)]
  refine aP (aP (bR (wan (cF rfl ?_)))); refine csr (aA (aB (dQ rfl rfl) ?_)); refine aA (bH (t := 16) rfl (fun E => ?_) (fun E => ?_))
  ·refine aW (aA (aW (aB (dM rfl rfl) ?_))); refine bW (wan (aZ rfl (fun F => ?_) (fun F => ?_)))
   ·refine csr (aA ?_); refine aB (dY rfl rfl (by omega) (by omega)) ?_; refine aB (fM rfl Tryz.underlying21 Tryz.underlying3 (lQ (by omega) (by omega)).1 (lQ (by omega) (by omega)).2) ?_; refine aB (aI rfl rfl (by omega) (by omega)) ?_; refine wan (aK (aO (aE (br1 ?_)))); refine ⟨congrArg iv ?_, (Evo.refl [] w)⟩; unfold hxI; rw [if_neg (by omega), if_pos (by omega)]
   refine csr (aA (aB (dQ rfl rfl) ?_)); refine aA (bH (t := 27) rfl (fun B => ?_) (fun B => ?_))
   ·refine aW (aA (aW (aB (dM rfl rfl) ?_))); refine bW (wan (aZ rfl (fun D => ?_) (fun D => ?_)))
    ·refine csr (aA ?_); refine aB (dY rfl rfl (by omega) (by omega)) ?_; refine aB (fM rfl Tryz.underlying21 Tryz.underlying3 (lQ (by omega) (by omega)).1 (lQ (by omega) (by omega)).2) ?_; refine aB (aI rfl rfl (by omega) (by omega)) ?_; refine wan (aK (aO (aE (br1 ?_)))); refine ⟨congrArg iv ?_, (Evo.refl [] w)⟩; unfold hxI; rw [if_neg (by omega), if_neg (by omega), if_pos (by omega)]
    refine aN (aQ (aC (csr (wan (aK (br1 ?_)))))); refine ⟨congrArg iv ?_, (Evo.refl [] w)⟩; unfold hxI; rw [if_neg (by omega), if_neg (by omega), if_neg (by omega)]
   refine aP (aP (bR (wan (cF rfl ?_)))); refine aN (aQ (aC (csr (wan (aK (br1 ?_)))))); refine ⟨congrArg iv ?_, (Evo.refl [] w)⟩; unfold hxI; rw [if_neg (by omega), if_neg (by omega), if_neg (by omega)]
  refine aP (aP (bR (wan (cF rfl ?_)))); refine csr (aA (aB (dQ rfl rfl) ?_)); refine aA (bH (t := 27) rfl (fun B => ?_) (fun B => ?_))
  ·refine aW (aA (aW (aB (dM rfl rfl) ?_))); refine bW (wan (aZ rfl (fun D => ?_) (fun D => ?_)))
   ·refine csr (aA ?_); refine aB (dY rfl rfl (by omega) (by omega)) ?_; refine aB (fM rfl Tryz.underlying21 Tryz.underlying3 (lQ (by omega) (by omega)).1 (lQ (by omega) (by omega)).2) ?_; refine aB (aI rfl rfl (by omega) (by omega)) ?_; refine wan (aK (aO (aE (br1 ?_)))); refine ⟨congrArg iv ?_, (Evo.refl [] w)⟩; unfold hxI; rw [if_neg (by omega), if_neg (by omega), if_pos (by omega)]
   refine aN (aQ (aC (csr (wan (aK (br1 ?_)))))); refine ⟨congrArg iv ?_, (Evo.refl [] w)⟩; unfold hxI; rw [if_neg (by omega), if_neg (by omega), if_neg (by omega)]
  refine aP (aP (bR (wan (cF rfl ?_)))); refine aN (aQ (aC (csr (wan (aK (br1 ?_)))))); refine ⟨congrArg iv ?_, (Evo.refl [] w)⟩; unfold hxI; rw [if_neg (by omega), if_neg (by omega), if_neg (by omega)]
theorem rhex_ok {w : World} {b : Nat} {s : ByteArray} {N : Nat} {x : RfS} {m : RfM} (hR : RfAt w b s N x m) (hU : Utf s N) (hk : x.k + 2 ≤ N) (ho : aU s (x.k + 2) = aU s x.k + 2) (hN : N ≤ 1000000) :
    Calls Tryz.prog 139 #[.pointer (some ⟨b, 0, none⟩), iv 0] w (Ret fun v w' => ∃ (r : Int) (n : Nat), v = .tuple #[.int .i32 r, iv n] ∧ EsIs s N x.k (kT s (aU s x.k + 2)) r n ∧ Evo [] w w') := by
  have hap1 := hR.ap1; have hap2 := hR.ap2; have hap3 := hR.ap3; refine bE (N := 77) Tryz.func139 rfl rfl rfl ?_; refine csr (bN (wan (aM (csr (aA (aA ?_)))))); refine aB (aI rfl rfl (by omega) (by omega)) ?_; refine aG (vs := [_, _]) cJ rfl (dK ⟨hR.blk, hR.run, hR.own⟩ 2 (by omega) (by omega)) rfl ?_; rintro _ w1 ⟨rfl, W⟩; have a6 := (Evo.refl [] w).then W; have Z := W.blk0 hR.blk; have a0 := hR.run.evo0 W; have a1 := hR.own.evo0 W; refine aB (fE rfl rfl) ?_; refine wnn (aZ rfl (fun D => ?_) (fun D => ?_))
  ·refine csr (aA (aA ?_)); refine aB (aI rfl rfl (by omega) (by omega)) ?_; refine aG (vs := [_, _]) cJ rfl (dK ⟨Z, a0, a1⟩ 2 (by omega) (by omega)) rfl ?_; rintro _ w7 ⟨rfl, Y⟩; refine aG (vs := [_]) oQ rfl (uK (rn s N (x.k + 2)) (uJ hU).1 (uJ hU).2) rfl ?_; rintro _ b7 ⟨rfl, F⟩; have hb2 := CP (rn s N (x.k + 2)); refine aA (aA ?_); refine aB (aI rfl rfl (by omega) (by omega)) ?_; refine aG (vs := [_, _]) cJ rfl (dK ⟨(F.blk0 (Y.blk0 Z)), ((a0.evo0 Y).evo0 F), ((a1.evo0 Y).evo0 F)⟩ 3 (by omega) (by omega)) rfl ?_; rintro _ b8 ⟨rfl, a7⟩; refine aG (vs := [_]) oQ rfl (uK (rn s N (x.k + 3)) (uJ hU).1 (uJ hU).2) rfl ?_; rintro _ b9 ⟨rfl, a8⟩; have U := (((a6.then Y).then F).then a7).then a8; have hb3 := CP (rn s N (x.k + 3)); refine bN (wan (aM (csr (aA (aB (dA rfl rfl) ?_))))); refine aA (bH (t := 27) rfl (fun a2 => ?_) (fun a2 => ?_))
   ·refine aP (aP (bW (wnn (cZ rfl ?_)))); refine csr (bN (wan (aK (aE (aE (cE rfl rfl rfl ?_)))))); exact ⟨0, 0, rfl, xO (VK hU hk ho D (.inl a2)), U⟩
   refine aW (aA (aW (aB (dA rfl rfl) ?_))); refine bR (wnn (aZ rfl (fun a3 => ?_) (fun a3 => ?_)))
   ·refine csr (bN (wan (aK (aE (aE (cE rfl rfl rfl ?_)))))); exact ⟨0, 0, rfl, xO (VK hU hk ho D (.inr a3)), U⟩
   refine aN (aC (csr (aA ?_))); refine aB (lW rfl rfl (by omega) (by omega)) ?_; refine aA ?_; refine aB (aI rfl rfl (by omega) (by omega)) ?_; refine aB (fM rfl Tryz.underlying3 Tryz.underlying21 (uX (by omega) (by omega)).1 (uX (by omega) (by omega)).2) ?_; refine bN (wan (aK (aE (cE rfl rfl rfl ?_)))); exact ⟨_, 4, rfl, hx_two hU hk ho D (by omega) (by omega), U⟩
  have hr123 := Classical.not_not.1 D; have hbr := dR (b := 123) hU hk (by decide) hr123; rw [ho] at hbr; refine aN (aC (csr (bN (wan (aM (bK ?_)))))); refine dL (α := RhG) (⟨0, 0⟩) (fun y => [(8, .int .i64 y.v), (9, .int .i64 (y.c : Nat))]) [(0, _), (1, _), (4, _), (5, _)] (fun y wr => Evo [] w wr ∧ (RhS s N x.k y ∧ RfAt wr b s N x m)) (fun y => N - y.c) ⟨rfl, rfl, trivial⟩ ⟨rfl, rfl, rfl, rfl, trivial⟩ ⟨a6, ⟨⟨hbr.2.2, hbr.2.1, by decide, by decide, .inl ⟨rfl, rfl⟩⟩, ⟨Z, a0, a1⟩⟩⟩ ?_; rintro ⟨c, v⟩ wr31 ⟨a9, ⟨hI, E⟩⟩; show CW _ _ _ _ [(8, .int .i64 v), (9, .int .i64 (c : Nat)), (0, _), (1, _), (4, _), (5, _)] _
  try dsimp only at hI E
  have i1 : x.k + 3 + c ≤ N := hI.le; have i2 : 0 ≤ v := hI.v0; have i3 : v ≤ 17825791 := hI.v1; refine aM (csr (aA (aA ?_))); refine aB (aI rfl rfl (by omega) (by omega)) ?_; refine aA ?_; refine aB (aI rfl rfl (by omega) (by omega)) ?_; refine aG (vs := [_, _]) cJ rfl (dK ⟨E.blk, E.run, E.own⟩ (3 + c) (by omega) (by omega)) rfl ?_; rintro _ c0 ⟨rfl, G⟩; refine aG (vs := [_]) oQ rfl (uK (rn s N (x.k + (3 + c))) (uJ hU).1 (uJ hU).2) rfl ?_; rintro _ c1 ⟨rfl, H⟩; have B := (a9.then G).then H; have I := H.blk0 (G.blk0 E.blk); have J := (E.run.evo0 G).evo0 H; have L := (E.own.evo0 G).evo0 H; have hb3c := CP (rn s N (x.k + (3 + c))); refine aB (dQ rfl rfl) ?_; refine wnn (aZ rfl (fun a4 => ?_) (fun a4 => ?_))
  ·have hst := fun (v' : Int) hv => RhS.step hU (v' := v') hI hbr.1 a4 hv; refine aN (aC (bK (aM (csr (aA (aB (dM rfl rfl) ?_)))))); refine wnn (aZ rfl (fun b4 => ?_) (fun b4 => ?_))
   ·refine aF (aA ?_); refine aB (lW rfl rfl (by omega) (by omega)) ?_; refine aA (aA ?_); refine aB (aI rfl rfl (by omega) (by omega)) ?_; refine aA ?_; refine aB (aI rfl rfl (by omega) (by omega)) ?_; refine aG (vs := [_, _]) cJ rfl (dK ⟨I, J, L⟩ (3 + c) (by omega) (by omega)) rfl ?_; rintro _ c3 ⟨rfl, M⟩; refine aG (vs := [_]) oQ rfl (uK (rn s N (x.k + (3 + c))) (uJ hU).1 (uJ hU).2) rfl ?_; rintro _ c4 ⟨rfl, O⟩; have hb3c := CP (rn s N (x.k + (3 + c))); refine aB (aI rfl rfl (by omega) (by omega)) ?_; refine wan (aF (aA ?_)); refine aB (aI rfl rfl (by omega) (by omega)) ?_; refine bN (aR (aQ (aY ?_))); refine ⟨⟨c + 1, 16 * v + hxI (rn s N (x.k + (3 + c)))⟩, ?_, ⟨rfl, rfl, trivial⟩, ⟨rfl, rfl, rfl, rfl, trivial⟩, ((B.then M).then O), ?_⟩
    · (try dsimp only); have h9 := (hst _ rfl).2; omega
    try dsimp only
    exact ⟨(hst _ (by rw [if_pos (by omega)])).1, ⟨(O.blk0 (M.blk0 I)), ((J.evo0 M).evo0 O), ((L.evo0 M).evo0 O)⟩⟩
   refine aN (aC (aF (aA ?_))); refine aB (aI rfl rfl (by omega) (by omega)) ?_; refine bN (aR (aQ (aY ?_))); refine ⟨⟨c + 1, v⟩, ?_, ⟨rfl, rfl, trivial⟩, ⟨rfl, rfl, rfl, rfl, trivial⟩, B, ?_⟩
   · (try dsimp only); have h9 := (hst _ rfl).2; omega
   try dsimp only
   exact ⟨(hst _ (by rw [if_neg (by omega)])).1, ⟨I, J, L⟩⟩
  refine cW (bS (bS (cV (aC ?_)))); refine aM (csr (aA (wel ?_))); refine aA (bH (t := 60) rfl (fun b5 => ?_) (fun b5 => ?_))
  ·refine aP (aP (bW (aA (aP (aP (aP (aP (aP (aP (aP (bW (wnn (cZ rfl ?_))))))))))))); refine csr (bN (wan (aK (aE (cE rfl rfl rfl ?_))))); exact ⟨0, 0, rfl, xO (RhS.none0 hU hI hbr.1 (by omega) (by omega)), B⟩
  refine aW (aA (aW (aB (eW rfl rfl) ?_))); refine bR (aA (bH (t := 64) rfl (fun b6 => ?_) (fun b6 => ?_)))
  ·refine aP (aP (aP (aP (aP (aP (aP (bW (wnn (cZ rfl ?_))))))))); refine csr (bN (wan (aK (aE (cE rfl rfl rfl ?_))))); exact ⟨0, 0, rfl, xO (RhS.over hU hI (by omega) (by omega)), B⟩
  refine aW (aA (aW (aA (aW ?_)))); refine aB (aI rfl rfl (by omega) (by omega)) ?_; refine aW (aA (aW ?_)); refine aB (aI rfl rfl (by omega) (by omega)) ?_; refine aW ?_; refine aG (vs := [_, _]) cJ rfl (dK ⟨I, J, L⟩ (3 + c) (by omega) (by omega)) rfl ?_; rintro _ c5 ⟨rfl, a5⟩; refine aW (aB (fE rfl rfl) ?_); refine bR (wnn (aZ rfl (fun V => ?_) (fun V => ?_)))
  ·refine csr (bN (wan (aK (aE (cE rfl rfl rfl ?_))))); exact ⟨0, 0, rfl, xO ((RhS.fin hU hI (by omega) (by omega) (by omega)).2 V), (B.then a5)⟩
  refine aN (aC (csr (aA ?_))); refine aB (fM rfl Tryz.underlying3 Tryz.underlying21 (uX (by omega) (by omega)).1 (uX (by omega) (by omega)).2) ?_; refine aA ?_; refine aB (aI rfl rfl (by omega) (by omega)) ?_; refine bN (wan (aK (cE rfl rfl rfl ?_))); exact ⟨_, c + 4, rfl, (RhS.fin hU hI (by omega) (by omega) (by omega)).1 (Classical.not_not.1 V), (B.then a5)⟩
section
variable {s : ByteArray} {N k : Nat} (hU : Utf s N) (hk : k < N) (h92 : rn s N k = 92)
include hU hk h92
theorem yD : aU s (k + 1) = aU s k + 1 ∧ k + 1 ≤ N := ⟨(dR (b := 92) hU (Nat.le_of_lt hk) (by decide) h92).2.1, hk⟩
theorem HQ {b : Nat} (hb : b < 128) (h : rn s N (k + 1) = (b : Int)) : sb s (aU s k + 1) = b ∧ ¬ s.size ≤ aU s k + 1 ∧ aU s (k + 2) = aU s k + 2 ∧ k + 2 ≤ N := by
  have h0 := yD hU hk h92
  have h1 := dR hU h0.2 hb h
  rw [h0.1] at h1
  exact ⟨h1.1.2, by have := h1.1.1; omega, h1.2.1, h1.2.2⟩
theorem wK {b v : Nat} (h : rn s N (k + 1) = (b : Int)) (he : uA b = some v) (hv : v ≤ 1114111) : EsIs s N k (lN s (aU s k)) v 2 := by
  obtain ⟨h1, h2, h3, h4⟩ := HQ hU hk h92 (OR he) h
  exact ⟨fun h9 => by omega, fun _ => ⟨by rw [TU h2 (by rw [h1]; exact he), Int.toNat_natCast], h4, h3, by omega, by omega⟩⟩
theorem pl_x {r : Int} {n : Nat} (h : rn s N (k + 1) = 120) (he : EsIs s N k (kT s (aU s k + 2)) r n) : EsIs s N k (lN s (aU s k)) r n := by
  obtain ⟨h1, h2, h3, h4⟩ := HQ hU hk h92 (b := 120) (by decide) h
  rw [LG h2 h1]; exact he
theorem EH {b : Nat} (h1 : b ≠ 97) (h2 : b ≠ 102) (h3 : b ≠ 116) (h4 : b ≠ 110) (h5 : b ≠ 114) (h6 : b ≠ 118) : uA b = none := by unfold uA; rw [if_neg h1, if_neg h2, if_neg h3, if_neg h4, if_neg h5, if_neg h6]
theorem pl_ok (h0 : 0 ≤ rn s N (k + 1)) (h128 : rn s N (k + 1) < 128) (hw : ¬ (kF (rn s N (k + 1)) ∧ rn s N (k + 1) ≠ 95)) : EsIs s N k (lN s (aU s k)) (rn s N (k + 1)) 2 := by
  obtain ⟨b, hb⟩ : ∃ b : Nat, rn s N (k + 1) = (b : Int) := ⟨(rn s N (k + 1)).toNat, by omega⟩
  rw [hb] at h0 h128 hw ⊢
  obtain ⟨h1, h2, h3, h4⟩ := HQ hU hk h92 (by omega) hb
  unfold kF at hw
  refine ⟨fun h9 => by omega, fun _ => ⟨?_, h4, h3, by omega, by omega⟩⟩
  rw [EJ h2 (by rw [h1]; exact EH hU hk h92 (by omega) (by omega) (by omega) (by omega) (by omega) (by omega)) (by rw [h1]; omega) (by rw [h1]; unfold iH; omega), h1, Int.toNat_natCast]
theorem LC (h : rn s N (k + 1) < 0 ∨ 128 ≤ rn s N (k + 1) ∨ (kF (rn s N (k + 1)) ∧ rn s N (k + 1) ≠ 95)) (k1 : rn s N (k + 1) ≠ 97) (k2 : rn s N (k + 1) ≠ 102) (k3 : rn s N (k + 1) ≠ 116) (k4 : rn s N (k + 1) ≠ 110) (k5 : rn s N (k + 1) ≠ 114) (k6 : rn s N (k + 1) ≠ 118) (k7 : rn s N (k + 1) ≠ 120) : lN s (aU s k) = .error 83 := by
  obtain ⟨e0, e1⟩ := yD hU hk h92
  by_cases hz : s.size ≤ aU s k + 1
  · exact uN hz
  have hc : k + 1 < N := tL hU e1 (by rw [e0]; omega)
  have hnn : 0 ≤ rn s N (k + 1) := by rw [nP hc]; exact ((hU.bd e1).next (gA hU hc)).2.2.2.1
  rcases Int.lt_or_le (rn s N (k + 1)) 128 with h8 | h8
  · have hb := (pT hU hc h8).1
    rw [e0] at hb
    have hw : kF (rn s N (k + 1)) ∧ rn s N (k + 1) ≠ 95 := (h.resolve_left (by omega)).resolve_left (by omega)
    unfold kF at hw
    exact uO hz (EH hU hk h92 (by omega) (by omega) (by omega) (by omega) (by omega) (by omega)) (by omega) (.inr ⟨by unfold iH; omega, by omega⟩)
  · have hb := rn_hi hU hc h8
    rw [e0] at hb
    exact uO hz (EH hU hk h92 (by omega) (by omega) (by omega) (by omega) (by omega) (by omega)) (by omega) (.inl hb)
end
theorem CG {w : World} {b : Nat} {s : ByteArray} {N : Nat} {x : RfS} {m : RfM} (hR : RfAt w b s N x m) (hU : Utf s N) (hk : x.k < N) (h92 : rn s N x.k = 92) (hN : N ≤ 1000000) :
    Calls Tryz.prog 122 #[.pointer (some ⟨b, 0, none⟩), iv 0] w (Ret fun v w' => ∃ (r : Int) (n : Nat), v = .tuple #[.int .i32 r, iv n] ∧ EsIs s N x.k (lN s (aU s x.k)) r n ∧ Evo [] w w') := by
  have hap1 := hR.ap1; have hap2 := hR.ap2; have hap3 := hR.ap3; refine bE (N := 54) Tryz.func122 rfl rfl rfl ?_; refine csr (bN (wan (csr (aA (aA ?_))))); refine aB (aI rfl rfl (by omega) (by omega)) ?_; refine aG (vs := [_, _]) cJ rfl (dK ⟨hR.blk, hR.run, hR.own⟩ 1 (by omega) (by omega)) rfl ?_; rintro _ w1 ⟨rfl, V⟩; have B := (Evo.refl [] w).then V; refine wan (aM (bK (csr (aA (wel ?_))))); refine wan (aZ rfl (fun E => ?_) (fun E => ?_))
  ·refine csr (bN (wan (aK (aO (aE (cE rfl rfl rfl ?_)))))); exact ⟨7, 2, rfl, wK hU hk h92 (b := 97) (v := 7) E rfl (by decide), B⟩
  refine csr (aA (wel ?_)); refine wan (aZ rfl (fun F => ?_) (fun F => ?_))
  ·refine csr (bN (wan (aK (aO (aE (cE rfl rfl rfl ?_)))))); exact ⟨12, 2, rfl, wK hU hk h92 (b := 102) (v := 12) F rfl (by decide), B⟩
  refine csr (aA (wel ?_)); refine wan (aZ rfl (fun G => ?_) (fun G => ?_))
  ·refine csr (bN (wan (aK (aO (aE (cE rfl rfl rfl ?_)))))); exact ⟨9, 2, rfl, wK hU hk h92 (b := 116) (v := 9) G rfl (by decide), B⟩
  refine csr (aA (wel ?_)); refine wan (aZ rfl (fun H => ?_) (fun H => ?_))
  ·refine csr (bN (wan (aK (aO (aE (cE rfl rfl rfl ?_)))))); exact ⟨10, 2, rfl, wK hU hk h92 (b := 110) (v := 10) H rfl (by decide), B⟩
  refine csr (aA (wel ?_)); refine wan (aZ rfl (fun I => ?_) (fun I => ?_))
  ·refine csr (bN (wan (aK (aO (aE (cE rfl rfl rfl ?_)))))); exact ⟨13, 2, rfl, wK hU hk h92 (b := 114) (v := 13) I rfl (by decide), B⟩
  refine csr (aA (wel ?_)); refine wan (aZ rfl (fun J => ?_) (fun J => ?_))
  ·refine csr (bN (wan (aK (aO (aE (cE rfl rfl rfl ?_)))))); exact ⟨11, 2, rfl, wK hU hk h92 (b := 118) (v := 11) J rfl (by decide), B⟩
  refine csr (aA (wel ?_)); refine wan (aZ rfl (fun D => ?_) (fun D => ?_))
  ·have hx2 := HQ hU hk h92 (b := 120) (by decide) D; refine csr (aA (aA (aG (vs := [_, _]) GG rfl (rhex_ok ⟨(V.blk0 hR.blk), (hR.run.evo0 V), (hR.own.evo0 V)⟩ hU hx2.2.2.2 hx2.2.2.1 hN) rfl ?_))); rintro _ w7 ⟨r, n, rfl, hX, Y⟩; refine aB (cC rfl rfl) ?_; refine aB (cC rfl rfl) ?_; refine bN (wan (aK (aO (aE (cE rfl rfl rfl ?_))))); exact ⟨r, n, rfl, pl_x hU hk h92 D hX, (B.then Y)⟩
  refine csr (aA (aB (dQ rfl rfl) ?_)); refine aA (bH (t := 40) rfl (fun L => ?_) (fun L => ?_))
  ·refine aW (aA (aW (aB (dA rfl rfl) ?_))); refine bW (aA (bH (t := 44) rfl (fun M => ?_) (fun M => ?_)))
   ·refine aW (aA (aW (wel ?_))); refine aW (aA (bH (t := 47) rfl (fun O => ?_) (fun O => ?_)))
    ·refine aP (aP (aP (aW (bW (bW (wan (cZ rfl ?_))))))); refine csr (aA (bN (wan (aK (aO (aE (cE rfl rfl rfl ?_))))))); exact ⟨_, 2, rfl, pl_ok hU hk h92 L M (fun h9 => h9.2 O), B⟩
    refine aW (aA (aW (aG (vs := [_]) vZ rfl (uH (rn s N (x.k + 1))) rfl ?_))); rintro _ Z ⟨rfl, W⟩; refine aW (aB (mS rfl) ?_); refine aW (bR (bW (wan (aZ rfl (fun U => ?_) (fun U => ?_)))))
    ·refine csr (aA (bN (wan (aK (aO (aE (cE rfl rfl rfl ?_))))))); exact ⟨_, 2, rfl, pl_ok hU hk h92 L M (fun h9 => U h9.1), (B.then W)⟩
    refine aN (aQ (aC (csr (bN (wan (aK (cE rfl rfl rfl ?_))))))); exact ⟨0, 0, rfl, xO (LC hU hk h92 (.inr (.inr ⟨Classical.not_not.1 U, O⟩)) E F G H I J D), (B.then W)⟩
   refine aP (aP (aP (eS ?_))); refine eS ?_; refine eS ?_; refine aP (bR (wan (cF rfl ?_))); refine aN (aQ (aC (csr (bN (wan (aK (cE rfl rfl rfl ?_))))))); exact ⟨0, 0, rfl, xO (LC hU hk h92 (.inr (.inl (by omega))) E F G H I J D), B⟩
  refine aP (aP (bR (aA (aP (aP (aP (eS ?_))))))); refine eS ?_; refine eS ?_; refine aP (bR (wan (cF rfl ?_))); refine aN (aQ (aC (csr (bN (wan (aK (cE rfl rfl rfl ?_))))))); exact ⟨0, 0, rfl, xO (LC hU hk h92 (.inl (by omega)) E F G H I J D), B⟩
theorem HJ {s : ByteArray} {N k : Nat} (hU : Utf s N) (hk : k < N) : 0 ≤ rn s N k ∧ rn s N k ≤ 1114111 :=
  ⟨by rw [nP hk]; exact ((hU.bd (Nat.le_of_lt hk)).next (gA hU hk)).2.2.2.1, (uJ hU).2⟩
theorem UC {s : ByteArray} {N k : Nat} (hU : Utf s N) (hk : k < N) (h : rn s N k ≠ 92) : kZ s (aU s k) = .ok (rn s N k, aU s (k + 1)) := by
  unfold kZ
  rw [if_neg (fun h9 => h ((dS hU (Nat.le_of_lt hk) (b := 92) (by decide)).2 ⟨gA hU hk, h9⟩)), nP hk]; rfl
theorem one_esc {s : ByteArray} {N k : Nat} (hU : Utf s N) (hk : k < N) (h : rn s N k = 92) {r : Int} {n : Nat} (he : EsIs s N k (lN s (aU s k)) r n) : (n = 0 → kZ s (aU s k) = .error 83) ∧ (n ≠ 0 → kZ s (aU s k) = .ok (r, aU s (k + n)) ∧ k + n ≤ N) := by
  have hb := (dR (b := 92) hU (Nat.le_of_lt hk) (by decide) h).1
  unfold kZ
  rw [if_pos hb.2]
  refine ⟨fun h9 => by rw [he.no h9], fun h9 => ?_⟩
  obtain ⟨e1, e2, e3, e4, e5⟩ := he.yes h9
  rw [e1, e3]
  simp only
  exact ⟨by rw [Int.toNat_of_nonneg e4], e2⟩
theorem MY {w : World} {b : Nat} {s : ByteArray} {N k o : Nat} {ns : List ByteArray} {m : RfM} (hR : RfAt w b s N ⟨k, o, ns, 0⟩ m) (hU : Utf s N) (hk : k < N) (hN : N ≤ 1000000) :
    Calls Tryz.prog 138 #[.pointer (some ⟨b, 0, none⟩)] w (Ret fun v w' => ∃ r, v = .int .i32 r ∧ (0 ≤ r ∧ r ≤ 1114111) ∧ Evo [b] w w' ∧ ∃ k' e, RfAt w' b s N ⟨k', o, ns, e⟩ m ∧ ((e = 0 ∧ kZ s (aU s k) = .ok (r, aU s k') ∧ k' ≤ N ∧ k < k') ∨ (e = 83 ∧ kZ s (aU s k) = .error 83 ∧ k' = k))) := by
  have hap1 := hR.ap1; have hap2 := hR.ap2; have hap3 := hR.ap3; refine bE (N := 44) Tryz.func138 rfl rfl rfl ?_; refine csr (wan (aM (csr (aA ?_))))
  refine aG (vs := [_, _]) cJ rfl (dK (x := ⟨k, o, ns, 0⟩) ⟨hR.b0, hR.run, hR.o0⟩ 0 (by show k + 0 ≤ 1000000000; omega) (by omega)) rfl ?_
  rintro _ w1 ⟨rfl, G⟩; have O := (Evo.refl [b] w).then G; have H := G.blk0 hR.b0; have I := hR.run.evo0 G; have J := hR.o0.evo0 G; refine aB (fE rfl rfl) ?_; refine wnn (aZ rfl (fun L => ?_) (fun L => ?_))
  ·refine csr (aA (aB (aH rfl) (wfl rfl bO rfl bD H rfl ?_))); refine aB (aI rfl rfl (by omega) (by omega)) ?_; refine aB (aH rfl) (aB (aD rfl bO) (bJ rfl rfl (rfl) bY H rfl fun w7 M U => ?_)); have V := O.step U (fun y hy => .inl hy)
   try simp only [cH, Nat.reduceAdd] at M
   refine wnn (aM ?_); refine eK (by kernel_rfl) (by kernel_rfl) ?_; obtain ⟨g9, ha9, a3, hg9⟩ := DU hR.run hk; refine bG (fun _ B => bC rfl) ?_; refine bG (fun _ B => aH rfl) ?_; refine bG (fun _ B => aD rfl fL) ?_; refine bG (fun _ B => aX rfl gD (bI (B.blk0 M) rfl)) ?_; refine bG (fun _ B => bC rfl) ?_; refine bG (fun _ B => aH rfl) ?_; refine bG (fun _ B => aD rfl bO) ?_; refine bG (fun _ B => aX rfl bD (bI (B.blk0 M) rfl)) ?_; refine bG (fun _ B => dX rfl rfl (by omega) (by omega)) ?_; refine bG (fun _ B => bZ (n := k) rfl rfl ha9 (by omega) qF hk) ?_
   refine bG (fun _ B => aX rfl cD (((V.then B)).cell a3 (fun h => hap2 b rfl (by rw [hg9]; exact congrArg some (List.mem_singleton.1 h))))) ?_
   refine bG (fun _ B => cR rfl) ?_; refine eN (fun a4 B => aC ?_); refine aK (aE (br1 ?_)); exact ⟨_, rfl, HJ hU hk, (V.then B), k + 1, 0, ⟨(B.blk0 M), ((I.evo U hap2.symm.own1).evo0 B), ((J.evo U hap1.symm.own1).evo0 B)⟩, .inl ⟨rfl, UC hU hk L, hk, by omega⟩⟩
  refine aN (aC (csr (aA (aG (vs := [_, _]) vV rfl (CG (x := ⟨k, o, ns, 0⟩) ⟨H, I, J⟩ hU hk (Classical.not_not.1 L) hN) rfl ?_)))); rintro _ a5 ⟨r, n, rfl, hX, D⟩; have E := D.blk0 H; have W := one_esc hU hk (Classical.not_not.1 L) hX; refine aA (aB (cC rfl rfl) ?_); refine aB (cC rfl rfl) ?_; refine bN (wan (aM (csr (aA (wel ?_))))); refine wnn (aZ rfl (fun a1 => ?_) (fun a1 => ?_))
  ·refine csr (aA ?_); refine aG (vs := [_, _]) eQ rfl (kW (k := k) (o := o) (ns := ns) ⟨E, (I.evo0 D), (J.evo0 D)⟩ 83 (by decide)) rfl ?_; rintro _ a6 ⟨rfl, a2, Y⟩; refine wnn (csr (wan (aK (aE (br1 ?_))))); exact ⟨0, rfl, by decide, ((O.then D).step a2 (fun y hy => .inl hy)), k, 83, ⟨Y.b0, Y.run, Y.o0⟩, .inr ⟨rfl, W.1 (by omega), rfl⟩⟩
  have a7 : k + n ≤ N := (W.2 (by omega)).2; refine aN (aC (csr (aA (aB (aH rfl) (wfl rfl bO rfl bD E rfl (aA ?_)))))); refine aB (aI rfl rfl (by omega) (by omega)) ?_; refine aB (aH rfl) (aB (aD rfl bO) (bJ rfl rfl (rfl) bY E rfl fun a8 Z F => ?_))
  try simp only [cH, Nat.reduceAdd] at Z
  refine wnn (csr (aA (wan (aK (br1 ?_)))))
  have a0 : n ≠ 0 := by omega
  obtain ⟨y1, y2⟩ := W.2 a0; obtain ⟨-, -, -, y4, y5⟩ := hX.yes a0; exact ⟨r, rfl, ⟨y4, y5⟩, ((O.then D).step F (fun y hy => .inl hy)), k + n, 0, ⟨Z, ((I.evo0 D).evo F hap2.symm.own1), ((J.evo0 D).evo F hap1.symm.own1)⟩, .inl ⟨rfl, y1, y2, by omega⟩⟩
def KN (w w' : World) (v : Value) (l : List (Int × Int)) : Prop := ∃ a c ob, v = .slice a l.length c ∧ OwnS w' 56 2 a l.length c (cS l) ob ∧ Ge w ob
structure RspG where
  j : Nat
  a : Option Addr
  c : Nat
  ob : Option Nat
def prs (s : ByteArray) : Nat → List (Int × Int)
  | 0 => []
  | j + 1 => prs s j ++ [((sb s (2 * j) : Int), (sb s (2 * j + 1) : Int))]
theorem EC (s : ByteArray) : ∀ j, (prs s j).length = j
  | 0 => rfl
  | j + 1 => by rw [prs, List.length_append, EC s j]; rfl
theorem PQ {w : World} (s : ByteArray) (hs : s.size ≤ 1000) : Calls Tryz.prog 96 #[.string s] w (Ret fun v w' => KN w w' v (prs s (s.size / 2)) ∧ Evo [] w w') := by
  refine bE (N := 26) Tryz.func96 rfl rfl rfl ?_; refine csr (wan (csr (wan (aM (csr (wan (bK (dL (α := RspG) (⟨0, none, 0, none⟩) (fun x => [(3, .slice x.a x.j x.c), (4, .int .i64 (2 * x.j : Nat))]) [(0, _), (2, _)] (fun x wr => Evo [] w wr ∧ (2 * x.j ≤ s.size ∧ OwnS wr 56 2 x.a x.j x.c (cS (prs s x.j)) x.ob ∧ Ge w x.ob)) (fun x => s.size - 2 * x.j) ⟨rfl, rfl, trivial⟩ ⟨rfl, rfl, trivial⟩ ⟨(Evo.refl [] w), ⟨Nat.zero_le _, OwnS.nil _ _ _, Ge.nil _⟩⟩ ?_)))))))); rintro ⟨j, a, c, ob⟩ wr1 ⟨H, ⟨hj, hown, hge⟩⟩; show CW _ _ _ _ [(3, .slice a j c), (4, .int .i64 (2 * j : Nat)), (0, _), (2, _)] _
  try dsimp only at hj hown hge
  refine aM (csr (aA ?_)); refine aB (aI rfl rfl (by omega) (by omega)) ?_; refine aA (aB (cQ rfl Tryz.underlying9 rfl) ?_); refine aB (dA rfl rfl) ?_; refine wnn (aZ rfl (fun J => ?_) (fun J => ?_))
  ·refine aN (aC (aM (bK ?_))); refine fR (fun w0 w' => Evo ob.toList w0 w') (by kernel_rfl) (fun w3 I => ?_); refine aet 0 rfl (fun _ hS => bC rfl) (Evo.refl ob.toList w3) ?_; refine aet 1 rfl (fun _ hS => bC rfl) (Evo.refl ob.toList w3) ?_; refine aet 2 rfl (fun _ hS => bC rfl) (Evo.refl ob.toList w3) ?_; refine aet 3 rfl (fun _ hS => fN (n := 2 * j) rfl rfl Tryz.underlying9 rfl (by omega)) (Evo.refl ob.toList w3) ?_
   refine aet 4 rfl (fun _ hS => fY (sb s (2 * j)) rfl Tryz.underlying5 Tryz.underlying21 rfl (by have := iC s (2 * j); show ((sb s (2 * j) : Nat) : Int) ≤ 2147483647; omega)) (Evo.refl ob.toList w3) ?_
   refine aet 5 rfl (fun _ hS => bC rfl) (Evo.refl ob.toList w3) ?_; refine aet 6 rfl (fun _ hS => bC rfl) (Evo.refl ob.toList w3) ?_; refine aet 7 rfl (fun _ hS => aI rfl rfl (by omega) (by omega)) (Evo.refl ob.toList w3) ?_; refine aet 8 rfl (fun _ hS => fN (n := 2 * j + 1) rfl rfl Tryz.underlying9 rfl (by omega)) (Evo.refl ob.toList w3) ?_
   refine aet 9 rfl (fun _ hS => fY (sb s (2 * j + 1)) rfl Tryz.underlying5 Tryz.underlying21 rfl (by have := iC s (2 * j + 1); show ((sb s (2 * j + 1) : Nat) : Int) ≤ 2147483647; omega)) (Evo.refl ob.toList w3) ?_
   refine aet 10 rfl (fun _ hS => cI (vs := [(0, _), (1, _)]) eE rfl (cells := [_, _]) rfl) (Evo.refl ob.toList w3) ?_; refine cA [11] (by kernel_rfl) rfl ⟨?_, trivial⟩; refine cG rfl ?_; refine bL (vs := [_]) rfl dE rfl rfl rfl rfl fun b7 w8 L O B => ?_; have D := (H.then I).then B; have E := (Evo.refl ob.toList w3).then B; refine aR (bV (.inl E) ?_); refine cA [12] (by kernel_rfl) rfl ⟨?_, trivial⟩; refine cG rfl ?_; refine cM rfl rfl rfl rfl cX ((hown.evo0 I).evo0 B) (Src.ofOwn L ⟨rfl, rfl, trivial⟩) (by omega) fun a2 c2 U ob2 M F hob24 => ?_; have G := E.step F (fun y hy => .inl hy); refine aR (bV (.inl G) ?_); refine aet 13 rfl (fun _ hS => cR rfl) G ?_; refine dB (by kernel_rfl) (aQ (aC ?_)); refine aF (aA ?_); refine aB (aI rfl rfl (by omega) (by omega)) ?_; refine bN (aR (aY ?_)); refine ⟨⟨j + 1, a2, c2, ob2⟩, ?_, ⟨rfl, rfl, trivial⟩, ⟨rfl, rfl, trivial⟩, (D.step F hge.mem), ?_⟩
   · (try dsimp only); omega
   try dsimp only
   refine ⟨by omega, ?_, (hge.app D hob24)⟩
   rw [prs, mD]; exact M
  refine cW (bS (bS (cV (aC ?_)))); refine csr (aA (wan (aK (br1 ?_))))
  have e : s.size / 2 = j := by omega
  rw [e]
  exact ⟨⟨a, c, ob, by rw [EC], by rw [EC]; exact hown, hge⟩, H⟩
theorem xR : UX Tryz.prog 24 = some (56, 2, 8, #[.int .i32 0, .int .i32 0]) := by kernel_rfl
def qP (m : List (Int × Int)) (x : Int × Int) (j : Nat) : List (Int × Int) := m.take j ++ x :: m.drop j
theorem sD {m : List (Int × Int)} {x : Int × Int} {j : Nat} (hj : j ≤ m.length) : (qP m x j).length = m.length + 1 := by
  unfold qP; rw [List.length_append, List.length_cons, List.length_take, List.length_drop]; omega
theorem VJ (m : List (Int × Int)) (x : Int × Int) : qP m x m.length = m ++ [x] := by unfold qP; rw [List.take_length, List.drop_length]
theorem CO (m : List (Int × Int)) (x : Int × Int) (j : Nat) : (qP m x j).Perm (m ++ [x]) := by
  unfold qP
  refine List.perm_middle.trans ?_
  rw [List.take_append_drop]
  exact (List.perm_append_singleton x m).symm
theorem VI {m : List (Int × Int)} {x : Int × Int} {j : Nat} (hj : j + 1 ≤ m.length) : (qP m x (j + 1))[j]? = m[j]? := by
  unfold qP
  rw [List.getElem?_append_left (by rw [List.length_take]; omega), List.getElem?_take_of_lt (by omega)]
theorem QN {m : List (Int × Int)} {x : Int × Int} {j : Nat} (hj : j + 1 ≤ m.length) : ((qP m x (j + 1)).set (j + 1) m[j]).set j x = qP m x j := by
  apply List.ext_getElem?
  intro i
  have hlen := sD (x := x) hj
  rw [List.getElem?_set, List.getElem?_set]
  have hd : ∀ q, (m.drop q)[i - (q + 1)]? = m[q + (i - (q + 1))]? := fun q => List.getElem?_drop
  by_cases e1 : j = i
  · subst e1
    rw [if_pos rfl, if_pos (by rw [List.length_set, hlen]; omega)]
    unfold qP
    rw [List.getElem?_append_right (by rw [List.length_take]; omega), List.length_take, Nat.min_eq_left (by omega), Nat.sub_self]; rfl
  · rw [if_neg e1]
    by_cases e2 : j + 1 = i
    · subst e2
      rw [if_pos rfl, if_pos (by rw [hlen]; omega)]
      unfold qP
      rw [List.getElem?_append_right (by rw [List.length_take]; omega), List.length_take, Nat.min_eq_left (by omega), show j + 1 - j = 0 + 1 by omega, List.getElem?_cons_succ, List.getElem?_drop, Nat.add_zero, List.getElem?_eq_getElem (by omega)]
    · rw [if_neg e2]
      unfold qP
      rcases Nat.lt_or_ge i j with h9 | h9
      · rw [List.getElem?_append_left (by rw [List.length_take]; omega), List.getElem?_append_left (by rw [List.length_take]; omega), List.getElem?_take_of_lt (by omega), List.getElem?_take_of_lt (by omega)]
      · rw [List.getElem?_append_right (by rw [List.length_take]; omega), List.getElem?_append_right (by rw [List.length_take]; omega), List.length_take, List.length_take, Nat.min_eq_left (by omega), Nat.min_eq_left (by omega)]
        rw [show i - (j + 1) = (i - (j + 2)) + 1 by omega, show i - j = (i - (j + 1)) + 1 by omega, List.getElem?_cons_succ, List.getElem?_cons_succ, List.getElem?_drop, List.getElem?_drop]
        congr 1; omega
def Rsg (m : List (Int × Int)) : Prop := ∀ i j (hij : i < j) (hj : j < m.length), m[i].1 ≤ m[j].1
theorem MX {m : List (Int × Int)} : Rsg m ↔ ∀ (i j : Nat) g h, i < j → m[i]? = some g → m[j]? = some h → g.1 ≤ h.1 := by
  constructor
  · intro hm i j g h hij hg hh
    obtain ⟨h1, rfl⟩ := List.getElem?_eq_some_iff.1 hg
    obtain ⟨h2, rfl⟩ := List.getElem?_eq_some_iff.1 hh
    exact hm i j hij h2
  · intro hm i j hij hj
    exact hm i j _ _ hij (List.getElem?_eq_getElem (by omega)) (List.getElem?_eq_getElem hj)
theorem MW {m : List (Int × Int)} {x : Int × Int} {j : Nat} (hm : Rsg m) (hj : j ≤ m.length) (h1 : ∀ i (h : i < m.length), i < j → m[i].1 ≤ x.1) (h2 : ∀ i (h : i < m.length), j ≤ i → x.1 < m[i].1) : Rsg (qP m x j) := by
  rw [MX]
  have hm' := MX.1 hm
  have get : ∀ (i : Nat) g, (qP m x j)[i]? = some g → (i < j ∧ m[i]? = some g) ∨ (i = j ∧ g = x) ∨ (j < i ∧ m[i - 1]? = some g) := fun i g hg => by
    unfold qP at hg
    rcases Nat.lt_trichotomy i j with h9 | rfl | h9
    · rw [List.getElem?_append_left (by rw [List.length_take]; omega), List.getElem?_take_of_lt h9] at hg
      exact .inl ⟨h9, hg⟩
    · rw [List.getElem?_append_right (by rw [List.length_take]; omega), List.length_take, Nat.min_eq_left hj, Nat.sub_self] at hg
      exact .inr (.inl ⟨rfl, (Option.some.inj hg).symm⟩)
    · rw [List.getElem?_append_right (by rw [List.length_take]; omega), List.length_take, Nat.min_eq_left hj, show i - j = (i - j - 1) + 1 by omega, List.getElem?_cons_succ, List.getElem?_drop, show j + (i - j - 1) = i - 1 by omega] at hg
      exact .inr (.inr ⟨h9, hg⟩)
  intro a b g h hab hg hh
  have lo : ∀ {i : Nat} {g : Int × Int}, m[i]? = some g → i < j → g.1 ≤ x.1 := fun {i g} hi hl => by
    obtain ⟨k1, rfl⟩ := List.getElem?_eq_some_iff.1 hi; exact h1 i k1 hl
  have hi : ∀ {i : Nat} {g : Int × Int}, m[i]? = some g → j ≤ i → x.1 < g.1 := fun {i g} hi hl => by
    obtain ⟨k1, rfl⟩ := List.getElem?_eq_some_iff.1 hi; exact h2 i k1 hl
  rcases get a g hg with ⟨a1, a2⟩ | ⟨rfl, rfl⟩ | ⟨a1, a2⟩
  · rcases get b h hh with ⟨b1, b2⟩ | ⟨rfl, rfl⟩ | ⟨b1, b2⟩
    · exact hm' a b g h hab a2 b2
    · exact lo a2 a1
    · have := lo a2 a1; have := hi b2 (by omega); omega
  · rcases get b h hh with ⟨b1, b2⟩ | ⟨rfl, rfl⟩ | ⟨b1, b2⟩
    · omega
    · omega
    · have := hi b2 (by omega); omega
  · rcases get b h hh with ⟨b1, b2⟩ | ⟨rfl, rfl⟩ | ⟨b1, b2⟩
    · omega
    · omega
    · exact hm' (a - 1) (b - 1) g h (by omega) a2 b2
theorem rput {l : List (Int × Int)} {k : Nat} (hk : k < l.length) (p : Int × Int) : rZ (cS l) (0 + k * 2) (yF p) = cS (l.set k p) := by
  obtain ⟨a, b⟩ := p
  have e : l = l.take k ++ l[k] :: l.drop (k + 1) := by simp
  have e2 : l.set k (a, b) = l.take k ++ (a, b) :: l.drop (k + 1) := by rw [List.set_eq_take_append_cons_drop, if_pos hk]
  have hl : (cS (l.take k)).length = k * 2 := by rw [jQ, List.length_take]; omega
  rw [e2]
  conv => lhs; rw [e]
  rw [dH, dH, pU, pU]
  unfold rZ
  rw [List.take_append_of_le_length (by omega), List.take_of_length_le (by omega), List.drop_append, List.drop_eq_nil_of_le (by show _ ≤ 0 + k * 2 + 2; omega), List.nil_append, show 0 + k * 2 + (yF (a, b)).length - (cS (l.take k)).length = 2 by show 0 + k * 2 + 2 - _ = 2; omega, List.append_assoc]
  rfl
def Vw (l : List (Int × Int)) : Prop := ∀ g, g ∈ l → 0 ≤ g.1 ∧ g.1 ≤ 1114111 ∧ 0 ≤ g.2 ∧ g.2 ≤ 1114111
theorem Vr.w {l : List (Int × Int)} (h : Vr l) : Vw l := fun g hg => by have := h g hg; omega
theorem Vw.app {l m : List (Int × Int)} (h : Vw l) (h2 : Vw m) : Vw (l ++ m) := fun g hg => (List.mem_append.1 hg).elim (h g) (h2 g)
structure MgQ (m : List (Int × Int)) (k : Nat) (o : List (Int × Int)) : Prop where
  hk : k ≤ m.length
  len : o.length ≤ k
  vw : Vw o
  p : Vr m → MgP m k o
section
variable {m : List (Int × Int)} {k : Nat} {o : List (Int × Int)}
theorem UU (h : MgQ m k o) (hk : k < m.length) (hv : Vw m) (hs : Rsg m) (ho : o = [] ∨ ∃ o' g, o = o' ++ [g] ∧ ¬ m[k].1 ≤ g.2 + 1) : MgQ m (k + 1) (o ++ [m[k]]) :=
  ⟨hk, by have := h.len; simp; omega, h.vw.app fun g hg => by rw [List.mem_singleton.1 hg]; exact hv _ (List.getElem_mem hk), fun h9 => LQ (h.p h9) hk h9 hs ho⟩
theorem mq_ext {o' : List (Int × Int)} {g : Int × Int} (h : MgQ m k (o' ++ [g])) (hk : k < m.length) (hv : Vw m) (hn : m[k].1 ≤ g.2 + 1) : MgQ m (k + 1) (o' ++ [(g.1, max g.2 m[k].2)]) :=
  ⟨hk, by have := h.len; simp at this ⊢; omega, fun q hq => by
    rcases List.mem_append.1 hq with hq | hq
    · exact h.vw q (by simp [hq])
    · rw [List.mem_singleton.1 hq]
      have h1 := h.vw g (by simp)
      have h2 := hv _ (List.getElem_mem hk)
      show 0 ≤ g.1 ∧ g.1 ≤ 1114111 ∧ 0 ≤ max g.2 m[k].2 ∧ max g.2 m[k].2 ≤ 1114111
      omega, fun h9 => UV (h.p h9) hk h9 hn⟩
end
def CaO (w w' : World) (v : Value) (l : List (Int × Int)) : Prop := ∃ a c ob o, v = .slice a o.length c ∧ OwnS w' 56 2 a o.length c (cS o) ob ∧ Ge w ob ∧ o.length ≤ l.length ∧ (Vr l → uF o ∧ (∀ S : Int → Prop, (∀ c, InR c l ↔ S c) → o = iA S) ∧ ∀ c, InR c o ↔ InR c l) ∧ Vw o ∧ Evo [] w w'
theorem CaO.rs {w w' : World} {v : Value} {l : List (Int × Int)} {S : Int → Prop} (h : CaO w w' v l) (hv : Vr l) (hS : ∀ c, InR c l ↔ S c) : RsOut w w' v S l.length := by
  obtain ⟨a, c, ob, o, h1, h2, h3, h4, h5, h6, h7⟩ := h
  obtain ⟨k1, k2, k3⟩ := h5 hv
  have e := k2 S hS
  subst e
  exact ⟨a, c, ob, h1, h2, h3, h4, k1, fun c => (k3 c).trans (hS c), h7⟩
structure MhI (w wr : World) (m : List (Int × Int)) (a1 : Option Addr) (c1 : Nat) (ob1 : Option Nat) (x : MgG) : Prop where
  p : MgQ m x.k x.o
  cl : OwnS wr 56 2 a1 m.length c1 (cS m) ob1
  own : OwnS wr 56 2 x.sa x.n x.sc (cS x.o) x.so
  ge : Ge w x.so
  gc : Ge w ob1
  ap : Apart ob1 x.so
structure CaG where
  k : Nat
  m : List (Int × Int)
  n : Nat
  sa : Option Addr
  sc : Nat
  so : Option Nat
structure CaI (w wr : World) (l : List (Int × Int)) (a : Option Addr) (c : Nat) (ob : Option Nat) (x : CaG) : Prop where
  hk : x.k ≤ l.length
  pm : x.m.Perm (l.take x.k)
  so : Rsg x.m
  cl : OwnS wr 56 2 a l.length c (cS l) ob
  own : OwnS wr 56 2 x.sa x.n x.sc (cS x.m) x.so
  ge : Ge w x.so
  ap : Apart ob x.so
structure CjI (w wr : World) (l m : List (Int × Int)) (x : Int × Int) (a : Option Addr) (c : Nat) (ob : Option Nat) (sa : Option Addr) (n sc : Nat) (so : Option Nat) (j : Nat) : Prop where
  hj : j ≤ m.length
  hi : ∀ i (h : i < m.length), j ≤ i → x.1 < m[i].1
  cl : OwnS wr 56 2 a l.length c (cS l) ob
  own : OwnS wr 56 2 sa n sc (cS (qP m x j)) so
theorem qH {w : World} {e : TypeId} {a : Option Addr} {n c i g : Nat} {l : List (Int × Int)} {ob : Option Nat} (h : OwnS w e 2 a n c (cS l) ob) (hi : i < l.length) (ha : a = some ⟨g, 0, none⟩) : w.cell? ⟨g, 0 + i * 2 + 1, none⟩ = some (.int .i32 l[i].2) := by
  obtain ⟨g', _, ha', hc⟩ := iL h hi
  rw [ha] at ha'; cases ha'
  exact hc 1 _ rfl
theorem own_hi' {w : World} {e : TypeId} {a : Option Addr} {n c i g : Nat} {l : List (Int × Int)} {ob : Option Nat} {q : Int × Int} (h : OwnS w e 2 a n c (cS l) ob) (hi : i < l.length) (ha : a = some ⟨g, 0, none⟩) (hq : l[i] = q) : w.cell? ⟨g, 0 + i * 2 + 1, none⟩ = some (.int .i32 q.2) := by
  rw [← hq]; exact qH h hi ha
theorem inbR {w : World} {e : TypeId} {sz : Nat} {a : Option Addr} {n c j : Nat} {xs : List Value} {ob : Option Nat} {cur : Array Value} (h : OwnS w e sz a n c xs ob) (hs : cur.size = c * sz) (hj : j < n) : 0 + j * sz + sz ≤ cur.size := by
  have h1 := h.le
  have h2 : (j + 1) * sz ≤ c * sz := Nat.mul_le_mul_right _ (by omega)
  rw [Nat.add_mul] at h2; omega
set_option maxHeartbeats 4000000 in
theorem nL {w : World} {a : Option Addr} {c : Nat} {l : List (Int × Int)} {ob : Option Nat} (hO : OwnS w 56 2 a l.length c (cS l) ob) (hv : Vw l) (hl : l.length ≤ 300000) :
    Calls Tryz.prog 120 #[.slice a l.length c] w (Ret fun v w' => CaO w w' v l) := by
  refine bE (N := 110) Tryz.func120 rfl rfl rfl ?_; refine csr (wan (csr (aA (aB (bM rfl Tryz.underlying24 rfl) ?_)))); refine MO (len := 0) (c := l.length) rfl rfl rfl xR (by rfl) (by omega) (by omega) (by decide) (by omega) (by omega) fun b0 w2 d9 c7 c8 => ?_; have e0 := Apart.new (Lt.own hO) c7; have e1 := Ge.new (Evo.refl [] w) c7; have a5 := hO.evo0 c8; refine wan (aM (csr (wan (bK ?_)))); refine dL (α := CaG) (⟨0, [], 0, some ⟨b0, 0, none⟩, l.length, some b0⟩) (fun x => [(3, .slice x.sa x.n x.sc), (4, .int .i64 (x.k : Nat))]) [(0, _), (2, _)] (fun x wr => Evo [] w wr ∧ (CaI w wr l a c ob x)) (fun x => l.length - x.k) ⟨rfl, rfl, trivial⟩ ⟨rfl, rfl, trivial⟩ ⟨((Evo.refl [] w).then c8), ⟨Nat.zero_le _, .refl _, fun i j hij hj => (by cases hj), a5, by simpa [cS, tH] using d9, e1, e0⟩⟩ ?_; rintro ⟨k, m, n, sa, sc, so⟩ wr10 ⟨Y, ⟨hk, hpm, hso, hcl, hown, hge, hap⟩⟩; show CW _ _ _ _ [(3, .slice sa n sc), (4, .int .i64 (k : Nat)), (0, _), (2, _)] _
  try dsimp only at hk hpm hso hcl hown hge hap
  have hnm := lK hown; have hml := hpm.length_eq; rw [List.length_take] at hml; refine aM (csr (aA (aA (aB (bM rfl Tryz.underlying24 rfl) ?_)))); refine aB (dA rfl rfl) ?_; refine wnn (aZ rfl (fun c9 => ?_) (fun c9 => ?_))
  ·have hk' : k < l.length := by omega
   obtain ⟨g1, hg1', ha1, e2⟩ := iL hcl hk'; refine aN (aC (aM (bK (csr (aA (aA (aA ?_))))))); refine aB (bZ (n := k) rfl rfl ha1 (by omega) cK hk') ?_; refine aB (eB rfl gK eH (vs := [_, _]) rfl (e2.evo (Evo.refl ([]) wr10) (by simp))) ?_; refine bL (vs := [_]) rfl dE rfl rfl rfl rfl fun f9 g0 d0 e8 G => ?_; refine cM rfl rfl rfl rfl cX (hown.evo0 G) (Src.ofOwn d0 ⟨rfl, rfl, trivial⟩) (by omega) fun a2 c2 g2 ob2 e3 b6 hob32 => ?_; refine wan (aM ?_); have hge2 := (hge.app (Y.then G) hob32); have hap2 := (hap.app (Lt.own (hcl.evo0 G)) hob32); refine aF (aA (aB (bM rfl Tryz.underlying24 rfl) ?_)); refine aB (dX rfl rfl (by omega) (by omega)) ?_; rw [show (((n + 1 : Nat) : Int) - 1) = ((m.length : Nat) : Int) from by omega]; refine wan (bK ?_)
   refine dL (α := Nat) (m.length) (fun j => [(5, .int .i64 (j : Nat))]) [(0, _), (2, _), (3, _), (4, _)] (fun j wr => Evo [] w wr ∧ (CjI w wr l m l[k] a c ob a2 (n + 1) c2 ob2 j)) (fun j => j) ⟨rfl, trivial⟩ ⟨rfl, rfl, rfl, rfl, trivial⟩ ⟨((Y.then G).step b6 hge.mem), ⟨Nat.le_refl _, (fun i h h2 => absurd h2 (by omega)), ((hcl.evo0 G).evo b6 hap.own), by rw [VJ, dH]; exact e3⟩⟩ ?_
   rintro j wr40 ⟨Z, ⟨hj, hi2, hcl2, hown2⟩⟩; show CW _ _ _ _ [(5, _), (0, _), (2, _), (3, _), (4, _)] _; have a0 := Evo.refl ([]) wr40; refine aM (aM ?_); refine eK (by kernel_rfl) (by kernel_rfl) ?_; refine bG (fun _ D => bC rfl) ?_; refine bG (fun _ D => eW rfl rfl) ?_; refine bG (fun _ D => bC rfl) ?_; refine kC (t := 30) rfl (fun d1 => ?_) (fun d1 => ?_)
   ·obtain ⟨j', rfl⟩ : ∃ j', j = j' + 1 := ⟨j - 1, by omega⟩
    obtain ⟨gq, hgq, haq, hcq⟩ := iL hown2 (i := j') (by rw [sD hj]; omega)
    rw [show (qP m l[k] (j' + 1))[j']'(by rw [sD hj]; omega) = m[j'] from Option.some.inj ((List.getElem?_eq_getElem _).symm.trans ((VI hj).trans (List.getElem?_eq_getElem (by omega))))] at hcq
    obtain ⟨g3, hg3, ha3, e4⟩ := iL hcl2 hk'; refine qlg ?_; refine bG (fun _ D => bC rfl) ?_; refine qlg ?_; refine bG (fun _ D => bC rfl) ?_; refine qlg ?_; refine bG (fun _ D => dX rfl rfl (by omega) (by omega)) ?_; refine qlg ?_; refine bG (fun _ D => bZ (n := j') rfl rfl haq (by omega) cK (by omega)) ?_; refine qlg ?_; refine bG (fun _ D => aD rfl dP) ?_; refine qlg ?_; refine bG (fun _ D => aX rfl cD (((a0.then D)).cell (hcq 0 _ rfl) (by simp))) ?_; refine qlg ?_; refine bG (fun _ D => bC rfl) ?_; refine qlg ?_; refine bG (fun _ D => bC rfl) ?_; refine qlg ?_; refine bG (fun _ D => bZ (n := k) rfl rfl ha3 (by omega) cK hk') ?_; refine qlg ?_; refine bG (fun _ D => aD rfl dP) ?_; refine qlg ?_; refine bG (fun _ D => aX rfl cD (((a0.then D)).cell (e4 0 _ rfl) (by simp))) ?_; refine qlg ?_; refine bG (fun _ D => eW rfl rfl) ?_; refine bG (fun _ D => eP rfl rfl) ?_; refine eN (fun d2 D => aC ?_); have H := hown2.evo0 D; refine aZ rfl (fun b7 => ?_) (fun b7 => ?_)
    ·refine aN (aC (aM (bK (csr (aA (aA (aA (aA ?_)))))))); refine aB (dX rfl rfl (by omega) (by omega)) ?_; refine aB (bZ (n := j') rfl rfl haq (by omega) cK (by omega)) ?_; refine aB (eB rfl gK eH (vs := [_, _]) rfl (hcq.evo (a0.then D) (by simp))) ?_; refine aB (bZ (n := j' + 1) rfl rfl haq (by omega) cK (by omega)) ?_
     obtain ⟨g58, cur54, hg53, hx55, hcu56, hcs57, -⟩ := H.at (by omega)
     rw [haq] at hx55; cases hx55
     refine kB (n := 2) rfl rfl eH rfl (fun u hu => AllOne.mem (l := [_, _]) ⟨rfl, rfl, trivial⟩ u hu) hcu56 (inbR H hcs57 (by omega)) fun g6 d3 I => ?_; replace I := oC hg53 I; have J := OwnS.put (k := (j' + 1)) (vs := yF m[j']) H hg53 hcu56 (by omega) (by omega) rfl d3
     rw [rput (by rw [sD hj]; omega)] at J
     have b8 := (hcl2.evo0 D).evo I hap2.own; refine wnn ?_; obtain ⟨g4, hg4, ha4, e5⟩ := iL b8 hk'; refine aF (aA (aA ?_)); refine aB (dX rfl rfl (by omega) (by omega)) ?_; refine aA (aA ?_); refine aB (bZ (n := k) rfl rfl ha4 (by omega) cK hk') ?_; refine aB (eB rfl gK eH (vs := [_, _]) rfl e5) ?_; refine aB (bZ (n := j') rfl rfl haq (by omega) cK (by omega)) ?_
     obtain ⟨g71, cur67, hg66, hx68, hcu69, hcs70, -⟩ := J.at (by omega)
     rw [haq] at hx68; cases hx68
     refine kB (n := 2) rfl rfl eH rfl (fun u hu => AllOne.mem (l := [_, _]) ⟨rfl, rfl, trivial⟩ u hu) hcu69 (inbR J hcs70 (by omega)) fun g7 d4 L => ?_; replace L := oC hg66 L; have b9 := OwnS.put (k := j') (vs := yF l[k]) J hg66 hcu69 (by omega) (by omega) rfl d4
     rw [rput (by rw [List.length_set, sD hj]; omega)] at b9
     refine aR (aQ (aC (aF (aA ?_)))); refine aB (dX rfl rfl (by omega) (by omega)) ?_; rw [show (((j' + 1 : Nat) : Int) - 1) = ((j' : Nat) : Int) from by omega]; refine bN (aR (aY ?_)); refine ⟨j', ?_, ⟨rfl, trivial⟩, ⟨rfl, rfl, rfl, rfl, trivial⟩, (((Z.then D).step I hge2.mem).step L hge2.mem), ?_⟩
     · omega
     refine ⟨by omega, fun i h hji => ?_, (b8.evo L hap2.own), ?_⟩
     · by_cases e : i = j'
       · subst e; exact b7
       · exact hi2 i h (by omega)
     · have h9 := b9
       rw [QN hj] at h9; exact h9
    have hlo : ∀ i (h : i < m.length), i < j' + 1 → m[i].1 ≤ l[k].1 := fun i h hij => by by_cases e : i = j'; (subst e; omega); exact Int.le_trans (hso i j' (by omega) (by omega)) (by omega)
    refine cW (bS (bS (cV (aQ (aC ?_))))); refine aF (aA ?_); refine aB (aI rfl rfl (by omega) (by omega)) ?_; refine bN (aR (aY ?_)); refine ⟨⟨k + 1, qP m l[k] (j' + 1), n + 1, a2, c2, ob2⟩, ?_, ⟨rfl, rfl, trivial⟩, ⟨rfl, rfl, trivial⟩, (Z.then D), ?_⟩
    · (try dsimp only); omega
    try dsimp only
    refine ⟨hk', (CO m l[k] _).trans ?_, MW hso hj hlo hi2, (hcl2.evo0 D), H, hge2, hap2⟩
    rw [List.take_succ_eq_append_getElem hk']; exact hpm.append_right _
   have hlo : ∀ i (h : i < m.length), i < j → m[i].1 ≤ l[k].1 := fun i h hij => by omega
   refine qln ?_; refine qln ?_; refine qln ?_; refine qln ?_; refine qln ?_; refine qln ?_; refine qln ?_; refine qln ?_; refine qln ?_; refine qln ?_; refine qln ?_; refine qln ?_; refine bG (fun _ D => eZ rfl rfl) ?_; refine eN (fun d2 D => aC ?_); refine cF rfl ?_; refine cW (bS (bS (cV (aQ (aC ?_))))); refine aF (aA ?_); refine aB (aI rfl rfl (by omega) (by omega)) ?_; refine bN (aR (aY ?_)); refine ⟨⟨k + 1, qP m l[k] j, n + 1, a2, c2, ob2⟩, ?_, ⟨rfl, rfl, trivial⟩, ⟨rfl, rfl, trivial⟩, (Z.then D), ?_⟩
   · (try dsimp only); omega
   try dsimp only
   refine ⟨hk', (CO m l[k] _).trans ?_, MW hso hj hlo hi2, (hcl2.evo0 D), (hown2.evo0 D), hge2, hap2⟩
   rw [List.take_succ_eq_append_getElem hk']; exact hpm.append_right _
  rw [List.take_of_length_le (show l.length ≤ k by omega)] at hpm; have hvm : Vw m := fun g hg => hv g (hpm.mem_iff.1 hg); have hml2 := hpm.length_eq; subst hnm; refine cW (bS (bS (cV (aC ?_)))); refine csr (wan (aM (csr (wan (bK ?_))))); refine dL (α := MgG) (⟨0, 0, [], none, 0, none⟩) (fun x => [(6, .slice x.sa x.n x.sc), (7, .int .i64 (x.k : Nat))]) [(2, _), (3, _)] (fun x wr => Evo [] w wr ∧ (MhI w wr m sa sc so x)) (fun x => m.length - x.k) ⟨rfl, rfl, trivial⟩ ⟨rfl, rfl, trivial⟩ ⟨Y, ⟨⟨Nat.zero_le _, Nat.le_refl _, (fun g hg => by cases hg), fun _ => IB m⟩, hown, OwnS.nil _ _ _, Ge.nil _, hge, Apart.nil _⟩⟩ ?_; rintro ⟨k, n, o, sa, sc, so⟩ wr78 ⟨M, ⟨hp, hcl3, hown3, hge3, hgc3, hap3⟩⟩; show CW _ _ _ _ [(6, .slice sa n sc), (7, .int .i64 (k : Nat)), (2, _), (3, _)] _
  try dsimp only at hp hcl3 hown3 hge3 hgc3 hap3
  have O := Evo.refl ([]) wr78; have hon := lK hown3; have hpl := hp.len; have hpk := hp.hk
  try dsimp only at hpl hpk
  refine aM (csr (aA (aA (aB (bM rfl Tryz.underlying24 rfl) ?_)))); refine aB (dA rfl rfl) ?_; refine wnn (aZ rfl (fun d5 => ?_) (fun d5 => ?_))
  ·have hk2 : k < m.length := by omega
   have hvk := hvm _ (List.getElem_mem hk2); obtain ⟨g5, hg5, ha5, c0⟩ := iL hcl3 hk2; refine aN (aC (aM (bK (csr (aA (aB (bM rfl Tryz.underlying24 rfl) ?_)))))); refine aB (dX rfl rfl (by omega) (by omega)) ?_; refine wan (aM ?_); refine eK (by kernel_rfl) (by kernel_rfl) ?_; refine bG (fun _ B => bC rfl) ?_; refine bG (fun _ B => dQ rfl rfl) ?_; refine bG (fun _ B => bC rfl) ?_; refine kC (t := 73) rfl (fun d6 => ?_) (fun d6 => ?_)
   ·have h0 : 0 < o.length := by omega
    obtain ⟨o', q, hoq, hol⟩ := MU h0; subst hoq
    have hol2 : (o' ++ [q]).length = o'.length + 1 := by simp
    have hqb := hp.vw q (by simp); obtain ⟨gq, hgq, haq, hcq⟩ := iL hown3 (i := o'.length) (by omega); rw [List.getElem_concat_length (h := rfl)] at hcq; refine qlg ?_; refine bG (fun _ B => bC rfl) ?_; refine qlg ?_; refine bG (fun _ B => bC rfl) ?_; refine qlg ?_; refine bG (fun _ B => bZ (n := k) rfl rfl ha5 (by omega) cK hk2) ?_; refine qlg ?_; refine bG (fun _ B => aD rfl dP) ?_; refine qlg ?_; refine bG (fun _ B => aX rfl cD (((O.then B)).cell (c0 0 _ rfl) (by simp))) ?_; refine qlg ?_; refine bG (fun _ B => bC rfl) ?_; refine qlg ?_; refine bG (fun _ B => bC rfl) ?_; refine qlg ?_; refine bG (fun _ B => bZ (n := o'.length) rfl rfl haq (by omega) cK (by omega)) ?_; refine qlg ?_; refine bG (fun _ B => aD rfl dF) ?_; refine qlg ?_; refine bG (fun _ B => aX rfl cD (((O.then B)).cell (hcq 1 _ rfl) (by simp))) ?_; refine qlg ?_; refine bG (fun _ B => fA rfl rfl (by omega) (by omega)) ?_; refine qlg ?_; refine bG (fun _ B => dM rfl rfl) ?_; refine bG (fun _ B => eP rfl rfl) ?_; refine eN (fun d7 B => aC ?_); refine aZ rfl (fun a1 => ?_) (fun a1 => ?_)
    ·refine fR (fun w0 w' => Evo so.toList w0 w') (by kernel_rfl) (fun E a4 => ?_); have U := (hown3.evo0 B).evo0 a4; have c1 := (hcl3.evo0 B).evo0 a4; refine aet 0 rfl (fun _ hS => bC rfl) (Evo.refl so.toList E) ?_; refine aet 1 rfl (fun _ hS => bC rfl) (Evo.refl so.toList E) ?_; refine aet 2 rfl (fun _ hS => bC rfl) (Evo.refl so.toList E) ?_; refine aet 3 rfl (fun _ hS => bC rfl) (Evo.refl so.toList E) ?_; refine aet 4 rfl (fun _ hS => bZ (n := o'.length) rfl rfl haq (by omega) cK (by omega)) (Evo.refl so.toList E) ?_; refine aet 5 rfl (fun _ hS => aD rfl dF) (Evo.refl so.toList E) ?_; refine aet 7 rfl (fun _ hS => bC rfl) (Evo.refl so.toList E) ?_; refine aet 8 rfl (fun _ hS => bC rfl) (Evo.refl so.toList E) ?_; refine aet 9 rfl (fun _ hS => bZ (n := k) rfl rfl ha5 (by omega) cK hk2) (Evo.refl so.toList E) ?_; refine aet 10 rfl (fun _ hS => aD rfl dF) (Evo.refl so.toList E) ?_; refine aet 11 rfl (fun _ hS => aX rfl cD (qH (c1.evo hS hap3.own) hk2 ha5)) (Evo.refl so.toList E) ?_
     refine cA [6] (by kernel_rfl) rfl ⟨?_, trivial⟩; refine cG rfl ?_; refine aB (aX rfl cD (own_hi' (i := o'.length) (q := q) U (by omega) haq (by simp))) ?_; refine aR (bV (.inl (Evo.refl so.toList E)) ?_); refine cA [12] (by kernel_rfl) rfl ⟨?_, trivial⟩; refine cG rfl ?_; refine aB (lL rfl rfl) ?_; refine aR (bV (.inl (Evo.refl so.toList E)) ?_); refine aet 13 rfl (fun _ hS => bZ (n := o'.length) rfl rfl haq (by omega) cK (by omega)) (Evo.refl so.toList E) ?_; refine aet 14 rfl (fun _ hS => aD rfl dF) (Evo.refl so.toList E) ?_; refine cA [15] (by kernel_rfl) rfl ⟨?_, trivial⟩; refine cG rfl ?_
     obtain ⟨g102, cur93, hg94, hx95, hcu96, hcs97, -⟩ := U.at (by omega)
     rw [haq] at hx95; cases hx95
     refine qX rfl rfl (rfl) gP hcu96 (U.inb hcs97 (k := o'.length) (j := 1) (by omega) (by omega) (by omega)) fun g8 d8 F => ?_; replace F := oC hg94 F; refine aR (bV (.inl ((Evo.refl so.toList E).step F (fun y hy => .inl hy))) ?_); refine dB (by kernel_rfl) (aQ (aC ?_)); refine aF (aA ?_); refine aB (aI rfl rfl (by omega) (by omega)) ?_; refine bN (aR (aY ?_)); refine ⟨⟨k + 1, n, o' ++ [(q.1, max q.2 m[k].2)], sa, sc, so⟩, ?_, ⟨rfl, rfl, trivial⟩, ⟨rfl, rfl, trivial⟩, (((M.then B).then a4).step F hge3.mem), ?_⟩
     · (try dsimp only); omega
     try dsimp only
     have a5 := (U.set' hg94 hcu96 d8); rw [zQ _ _ _ _ rfl, gM] at a5; exact ⟨mq_ext hp hk2 hvm a1, (c1.evo F hap3.own), a5, hge3, hgc3, hap3⟩
    refine aF (aA (aA (aA ?_))); refine aB (bZ (n := k) rfl rfl ha5 (by omega) cK hk2) ?_; refine aB (eB rfl gK eH (vs := [_, _]) rfl (c0.evo (O.then B) (by simp))) ?_; refine bL (vs := [_]) rfl dE rfl rfl rfl rfl fun e9 f0 c5 e6 V => ?_; have a6 := (M.then B).then V; have a7 := (hcl3.evo0 B).evo0 V
    refine cM rfl rfl rfl rfl cX ((hown3.evo0 B).evo0 V) (Src.ofOwn c5 ⟨rfl, rfl, trivial⟩) (by have := hp.len; omega) fun a3 c3 f5 ob3 c4 a8 hob126 => ?_
    refine bN (aR (aQ (aC (aF (aA ?_))))); refine aB (aI rfl rfl (by omega) (by omega)) ?_; refine bN (aR (aY ?_)); refine ⟨⟨k + 1, n + 1, (o' ++ [q]) ++ [m[k]], a3, c3, ob3⟩, ?_, ⟨rfl, rfl, trivial⟩, ⟨rfl, rfl, trivial⟩, (a6.step a8 hge3.mem), ?_⟩
    · (try dsimp only); omega
    try dsimp only
    refine ⟨UU hp hk2 hvm hso (.inr ⟨o', q, rfl, a1⟩), (a7.evo a8 hap3.own), ?_, (hge3.app a6 hob126), hgc3, (hap3.app (Lt.own a7) hob126)⟩
    rw [dH]; exact c4
   refine qln ?_; refine qln ?_; refine qln ?_; refine qln ?_; refine qln ?_; refine qln ?_; refine qln ?_; refine qln ?_; refine qln ?_; refine qln ?_; refine qln ?_; refine qln ?_; refine bG (fun _ B => eZ rfl rfl) ?_; refine eN (fun d7 B => aC ?_); refine cF rfl ?_; refine aF (aA (aA (aA ?_))); refine aB (bZ (n := k) rfl rfl ha5 (by omega) cK hk2) ?_; refine aB (eB rfl gK eH (vs := [_, _]) rfl (c0.evo (O.then B) (by simp))) ?_; refine bL (vs := [_]) rfl dE rfl rfl rfl rfl fun f6 f7 c6 e7 W => ?_; have a9 := (M.then B).then W; have b4 := (hcl3.evo0 B).evo0 W
   refine cM rfl rfl rfl rfl cX ((hown3.evo0 B).evo0 W) (Src.ofOwn c6 ⟨rfl, rfl, trivial⟩) (by have := hp.len; omega) fun a3 c3 f8 ob3 c4 b5 hob157 => ?_
   refine bN (aR (aQ (aC (aF (aA ?_))))); refine aB (aI rfl rfl (by omega) (by omega)) ?_; refine bN (aR (aY ?_)); refine ⟨⟨k + 1, n + 1, o ++ [m[k]], a3, c3, ob3⟩, ?_, ⟨rfl, rfl, trivial⟩, ⟨rfl, rfl, trivial⟩, (a9.step b5 hge3.mem), ?_⟩
   · (try dsimp only); omega
   try dsimp only
   refine ⟨UU hp hk2 hvm hso (.inl (List.length_eq_zero_iff.1 (by omega))), (b4.evo b5 hap3.own), ?_, (hge3.app a9 hob157), hgc3, (hap3.app (Lt.own b4) hob157)⟩
   rw [dH]; exact c4
  refine cW (bS (bS (cV (aC ?_)))); refine csr (aA (wan (aK (br1 ?_)))); subst hon; refine ⟨sa, sc, so, o, rfl, hown3, hge3, by omega, fun h9 => ?_, hp.vw, M⟩; have hp9 := hp.p (DI hpm h9); exact ⟨hp9.can, fun S hS => UW hp9 (by omega) hpm hS, fun c => by rw [hp9.eq, List.take_of_length_le (by omega), AK hpm]⟩
theorem oN {w : World} {a : Option Addr} {c : Nat} {l : List (Int × Int)} {ob : Option Nat} (hO : OwnS w 56 2 a l.length c (cS l) ob) (hv : Vr l) (hl : l.length ≤ 300000) {S : Int → Prop} (hS : ∀ c, InR c l ↔ S c) :
    Calls Tryz.prog 120 #[.slice a l.length c] w (Ret fun v w' => RsOut w w' v S l.length) :=
  (nL hO hv.w hl).mono fun _ _ ⟨v, h, h2⟩ => ⟨v, h, h2.rs hv hS⟩
theorem rD {w : World} {e : TypeId} {a : Option Addr} {n c i g : Nat} {l : List (Int × Int)} {ob : Option Nat} (h : OwnS w e 2 a n c (cS l) ob) (hi : i < l.length) (ha : a = some ⟨g, 0, none⟩) : w.cell? ⟨g, 0 + i * 2 + 0, none⟩ = some (.int .i32 l[i].1) := by
  obtain ⟨g', _, ha', hc⟩ := iL h hi
  rw [ha] at ha'; cases ha'
  exact hc 0 _ rfl
def tG (l : List (Int × Int)) : List (Int × Int) := l.flatMap fun x => x :: oI x 2
theorem fldX_in (l : List (Int × Int)) (c : Int) : InR c (tG l) ↔ InR c (l ++ pY l) := by
  rw [mR]
  unfold tG pY
  constructor
  · rintro ⟨g, hg, h⟩
    obtain ⟨x, hx, hgx⟩ := List.mem_flatMap.1 hg
    rcases List.mem_cons.1 hgx with rfl | hgx
    · exact .inl ⟨g, hx, h⟩
    · exact .inr ⟨g, List.mem_flatMap.2 ⟨x, hx, hgx⟩, h⟩
  · rintro (⟨g, hg, h⟩ | ⟨g, hg, h⟩)
    · exact ⟨g, List.mem_flatMap.2 ⟨g, hg, List.mem_cons_self ..⟩, h⟩
    · obtain ⟨x, hx, hgx⟩ := List.mem_flatMap.1 hg
      exact ⟨g, List.mem_flatMap.2 ⟨x, hx, List.mem_cons_of_mem _ hgx⟩, h⟩
theorem fldX_vr {l : List (Int × Int)} (hv : Vr l) : Vr (tG l) := fun g hg => by
  obtain ⟨x, hx, hgx⟩ := List.mem_flatMap.1 hg
  rcases List.mem_cons.1 hgx with rfl | hgx
  · exact hv g hx
  · exact AP g (List.mem_flatMap.2 ⟨x, hx, hgx⟩)
theorem fldX_vw {l : List (Int × Int)} (hv : Vw l) : Vw (tG l) := fun g hg => by
  obtain ⟨x, hx, hgx⟩ := List.mem_flatMap.1 hg
  rcases List.mem_cons.1 hgx with rfl | hgx
  · exact hv g hx
  · have := AP g (List.mem_flatMap.2 ⟨x, hx, hgx⟩); omega
theorem hZ {l : List (Int × Int)} {k : Nat} (hk : k < l.length) : tG (l.take (k + 1)) = tG (l.take k) ++ [l[k]] ++ fH (65, 32) l[k] ++ fH (97, -32) l[k] := by
  unfold tG
  rw [List.take_succ_eq_append_getElem hk, List.flatMap_append]
  show _ ++ ((l[k] :: oI l[k] 2) ++ []) = _
  show _ ++ ((l[k] :: (([] ++ fH (65, 32) l[k]) ++ fH (97, -32) l[k])) ++ []) = _
  simp
theorem AQ : ∀ l : List (Int × Int), (tG l).length ≤ 3 * l.length
  | [] => Nat.le_refl _
  | x :: l => by
    have h1 : tG (x :: l) = (x :: oI x 2) ++ tG l := List.flatMap_cons
    have h2 := AQ l
    have h3 := wT x 2
    rw [h1, List.length_append, List.length_cons, List.length_cons]; omega
theorem mB {w : World} {a : Option Addr} {c : Nat} {m : List (Int × Int)} {ob : Option Nat} (hO : OwnS w 56 2 a m.length c (cS m) ob) (hvw : Vw m) (hl : m.length ≤ 1000000) :
    Calls Tryz.prog 95 #[.slice a m.length c] w (Ret fun v w' => (KN w w' v (lV 0 m) ∧ (lV 0 m).length ≤ m.length + 1) ∧ Evo [] w w') := by
  refine bE (N := 44) Tryz.func95 rfl rfl rfl ?_; refine csr (wan (csr (wan (csr (wan (aM (csr ?_))))))); refine wan (bK ?_)
  refine dL (α := NgG) (⟨0, 0, [], 0, none, 0, none⟩) (fun x => [(3, .slice x.sa x.n x.sc), (5, .int .i64 (x.k : Nat)), (4, .int .i32 x.nx)]) [(0, _), (2, _)] (fun x wr => Evo [] w wr ∧ (x.k ≤ m.length ∧ x.o ++ lV x.nx (m.drop x.k) = lV 0 m ∧ 0 ≤ x.nx ∧ x.nx ≤ 1114112 ∧ x.n ≤ x.k ∧ OwnS wr 56 2 a m.length c (cS m) ob ∧ OwnS wr 56 2 x.sa x.n x.sc (cS x.o) x.so ∧ Ge w x.so ∧ Apart ob x.so)) (fun x => m.length - x.k) ⟨rfl, rfl, rfl, trivial⟩ ⟨rfl, rfl, trivial⟩ ⟨(Evo.refl [] w), ⟨Nat.zero_le _, rfl, Int.le_refl _, (by show (0 : Int) ≤ 1114112; omega), Nat.le_refl _, hO, OwnS.nil _ _ _, Ge.nil _, Apart.nil _⟩⟩ ?_
  rintro ⟨k, n, o, nx, sa, sc, so⟩ wr1 ⟨D, ⟨hk, heq, hb0, hb1, hlen, hcl, hown, hge, hap⟩⟩; show CW _ _ _ _ [(3, .slice sa n sc), (5, .int .i64 (k : Nat)), (4, .int .i32 nx), (0, _), (2, _)] _
  try dsimp only at hk heq hb0 hb1 hlen hcl hown hge hap
  refine aM (csr (aA (aA (aB (bM rfl Tryz.underlying24 rfl) ?_)))); refine aB (dA rfl rfl) ?_; refine wnn (aZ rfl (fun V => ?_) (fun V => ?_))
  ·have hk' : k < m.length := by omega
   have hmk := hvw _ (List.getElem_mem hk'); obtain ⟨g1, hg1', ha1, Z⟩ := iL hcl hk'; have hgc0 := CQ nx hk'; refine aN (aC (aM (bK (aM (csr (aA (aA ?_))))))); refine aB (bZ (n := k) rfl rfl ha1 (by omega) cK hk') ?_; refine aB (aD rfl dP) (aB (aX rfl cD (rD hcl hk' ha1)) (aA (aB (eW rfl rfl) ?_))); refine wnn (aZ rfl (fun L => ?_) (fun L => ?_))
   ·refine aF (aA (aA (aA (aA ?_)))); refine aB (bZ (n := k) rfl rfl ha1 (by omega) cK hk') ?_; refine aB (aD rfl dP) (aB (aX rfl cD (rD hcl hk' ha1)) ?_); refine aB (dY rfl rfl (by omega) (by omega)) ?_; refine aB (cI (vs := [(0, _), (1, _)]) eE rfl (cells := [_, _]) rfl) ?_; refine bL (vs := [_]) rfl dE rfl rfl rfl rfl fun b3 w4 W a0 E => ?_; refine cM rfl rfl rfl rfl cX (hown.evo0 E) (Src.ofOwn W ⟨rfl, rfl, trivial⟩) (by omega) fun a2 c2 a1 ob2 H I hob20 => ?_; have J := (hcl.evo0 E).evo I hap.own; refine wan (aF (aA (aA ?_))); refine aB (bZ (n := k) rfl rfl ha1 (by omega) cK hk') ?_; refine aB (aD rfl dF) (aB (aX rfl cD (qH J hk' ha1)) ?_); refine aB (fA rfl rfl (by omega) (by omega)) ?_; refine bN (aR (aQ (aC (aF (aA ?_))))); refine aB (aI rfl rfl (by omega) (by omega)) ?_; refine bN (aR (aY ?_)); refine ⟨⟨k + 1, n + 1, o ++ [(nx, m[k].1 - 1)], m[k].2 + 1, a2, c2, ob2⟩, ?_, ⟨rfl, rfl, rfl, trivial⟩, ⟨rfl, rfl, trivial⟩, ((D.then E).step I hge.mem), ?_⟩
    · (try dsimp only); omega
    try dsimp only
    refine ⟨hk', ?_, (by show 0 ≤ m[k].2 + 1; omega), (by show m[k].2 + 1 ≤ 1114112; omega), (by show n + 1 ≤ k + 1; omega), J, ?_, (hge.app (D.then E) hob20), (hap.app (Lt.own (hcl.evo0 E)) hob20)⟩
    · rw [← heq, hgc0, if_pos (by omega), List.append_assoc]
    · rw [mD]; exact H
   refine aN (aC (aF (aA (aA ?_)))); refine aB (bZ (n := k) rfl rfl ha1 (by omega) cK hk') ?_; refine aB (aD rfl dF) (aB (aX rfl cD (qH hcl hk' ha1)) ?_); refine aB (fA rfl rfl (by omega) (by omega)) ?_; refine bN (aR (aQ (aC (aF (aA ?_))))); refine aB (aI rfl rfl (by omega) (by omega)) ?_; refine bN (aR (aY ?_)); refine ⟨⟨k + 1, n, o, m[k].2 + 1, sa, sc, so⟩, ?_, ⟨rfl, rfl, rfl, trivial⟩, ⟨rfl, rfl, trivial⟩, D, ?_⟩
   · (try dsimp only); omega
   try dsimp only
   refine ⟨hk', ?_, (by show 0 ≤ m[k].2 + 1; omega), (by show m[k].2 + 1 ≤ 1114112; omega), (by show n ≤ k + 1; omega), hcl, hown, hge, hap⟩
   rw [← heq, hgc0, if_neg (by omega), List.nil_append]
  refine cW (bS (bS (cV (aC ?_)))); refine aM (csr (aA (aB (dM rfl rfl) ?_))); refine wnn (aZ rfl (fun M => ?_) (fun M => ?_))
  ·refine aF (aA (aA (aB (cI (vs := [(0, _), (1, _)]) eE rfl (cells := [_, _]) rfl) ?_))); refine bL (vs := [_]) rfl dE rfl rfl rfl rfl fun a3 a4 O Y G => ?_; refine cM rfl rfl rfl rfl cX (hown.evo0 G) (Src.ofOwn O ⟨rfl, rfl, trivial⟩) (by omega) fun a2 c2 a5 ob2 H U hob44 => ?_; refine wan (csr (aA (wan (aK (br1 ?_))))); rw [List.drop_eq_nil_of_le (by omega), lV, if_pos (by omega)] at heq; have B : OwnS _ _ 2 _ _ _ (cS o ++ cS [(nx, 1114111)]) _ := H; rw [← dH, heq] at B; have F := lK B
   exact ⟨⟨⟨a2, c2, ob2, by rw [F], by rw [← F]; exact B, (hge.app (D.then G) hob44)⟩, by omega⟩, ((D.then G).step U hge.mem)⟩
  refine aN (aC (csr (aA (wan (aK (br1 ?_)))))); rw [List.drop_eq_nil_of_le (by omega), lV, if_neg (by omega), List.append_nil] at heq; have B := hown; rw [heq] at B; have F := lK B
  exact ⟨⟨⟨sa, sc, so, by rw [F], by rw [← F]; exact B, hge⟩, by omega⟩, D⟩
theorem tP {w : World} {a : Option Addr} {c : Nat} {m : List (Int × Int)} {ob : Option Nat} (hO : OwnS w 56 2 a m.length c (cS m) ob) (hcan : uF m) (hl : m.length ≤ 1000000) {S : Int → Prop} (hS : ∀ c, InR c m ↔ S c) :
    Calls Tryz.prog 95 #[.slice a m.length c] w (Ret fun v w' => RsOut w w' v (lO S) (m.length + 1)) :=
  (mB hO (oD hcan).w hl).mono fun _ _ ⟨v, h, ⟨⟨a', c', ob', k1, k2, k3⟩, k4⟩, k5⟩ => by
    obtain ⟨h1, h2, h3⟩ := qO hcan hS
    rw [h3] at k1 k2 k4 h1 h2
    exact ⟨v, h, a', c', ob', k1, k2, k3, k4, h1, h2, k5⟩
structure FxG where
  k : Nat
  n : Nat
  sa : Option Addr
  sc : Nat
  so : Option Nat
theorem LW {w : World} {a : Option Addr} {c : Nat} {l : List (Int × Int)} {ob : Option Nat} (hO : OwnS w 56 2 a l.length c (cS l) ob) (hv : Vw l) (hl : l.length ≤ 100000) :
    Calls Tryz.prog 119 #[.slice a l.length c] w (Ret fun v w' => KN w w' v (tG l) ∧ Evo [] w w') := by
  refine bE (N := 70) Tryz.func119 rfl rfl rfl ?_; refine csr (wan (csr (aA (aB (bM rfl Tryz.underlying24 rfl) ?_)))); refine MO (len := 0) (c := l.length) rfl rfl rfl xR (by rfl) (by omega) (by omega) (by decide) (by omega) (by omega) fun b0 w2 h7 g7 g8 => ?_; have D := hO.evo0 g8; refine wan (aM (csr (wan (bK ?_)))); refine dL (α := FxG) (⟨0, 0, some ⟨b0, 0, none⟩, l.length, some b0⟩) (fun x => [(3, .slice x.sa x.n x.sc), (4, .int .i64 (x.k : Nat))]) [(0, _), (2, _)] (fun x wr => Evo [] w wr ∧ (x.k ≤ l.length ∧ OwnS wr 56 2 a l.length c (cS l) ob ∧ OwnS wr 56 2 x.sa x.n x.sc (cS (tG (l.take x.k))) x.so ∧ Ge w x.so ∧ Apart ob x.so ∧ x.n ≤ 3 * x.k)) (fun x => l.length - x.k) ⟨rfl, rfl, trivial⟩ ⟨rfl, rfl, trivial⟩ ⟨((Evo.refl [] w).then g8), ⟨Nat.zero_le _, D, by simpa [tG, cS, tH] using h7, (Ge.new (Evo.refl [] w) g7), (Apart.new (Lt.own hO) g7), Nat.le_refl _⟩⟩ ?_; rintro ⟨k, n, sa, sc, so⟩ wr10 ⟨d8, ⟨hk, hcl, hown, hge, hap, hn⟩⟩; show CW _ _ _ _ [(3, .slice sa n sc), (4, .int .i64 (k : Nat)), (0, _), (2, _)] _
  try dsimp only at hk hcl hown hge hap hn
  refine aM (csr (aA (aA (aB (bM rfl Tryz.underlying24 rfl) ?_)))); refine aB (dA rfl rfl) ?_; refine wnn (aZ rfl (fun h0 => ?_) (fun h0 => ?_))
  ·have hk' : k < l.length := by omega
   have hlk := hv _ (List.getElem_mem hk'); obtain ⟨g1, hg1', ha1, h8⟩ := iL hcl hk'; refine aN (aC (aM (bK (csr (aA (aA (aA ?_))))))); refine aB (bZ (n := k) rfl rfl ha1 (by omega) cK hk') ?_; refine aB (eB rfl gK eH (vs := [_, _]) rfl h8) ?_; refine bL (vs := [_]) rfl dE rfl rfl rfl rfl fun l3 l4 h3 i7 c9 => ?_; refine cM rfl rfl rfl rfl cX (hown.evo0 c9) (Src.ofOwn h3 ⟨rfl, rfl, trivial⟩) (by omega) fun a2 c2 l5 ob2 h9 f5 hob29 => ?_; have I := hap.app (Lt.own (hcl.evo0 c9)) hob29; have J := hge.app (d8.then c9) hob29; refine wan (aM ?_); refine fR (fun w0 w' => Evo [] w0 w') (by kernel_rfl) (fun L d9 => ?_); have b9 := ((d8.then c9).step f5 hge.mem).then d9; have Y := ((hcl.evo0 c9).evo f5 hap.own).evo0 d9; have d3 := h9.evo0 d9; refine aet 0 rfl (fun _ hS => bC rfl) (Evo.refl [] L) ?_; refine aet 1 rfl (fun _ hS => bC rfl) (Evo.refl [] L) ?_; refine aet 2 rfl (fun _ hS => bZ (n := k) rfl rfl ha1 (by omega) cK hk') (Evo.refl [] L) ?_; refine aet 3 rfl (fun _ hS => aD rfl dP) (Evo.refl [] L) ?_; refine aet 4 rfl (fun _ hS => aX rfl cD (rD (Y.evo0 hS) hk' ha1)) (Evo.refl [] L) ?_
   refine aet 6 rfl (fun _ hS => bC rfl) (Evo.refl [] L) ?_; refine aet 7 rfl (fun _ hS => bC rfl) (Evo.refl [] L) ?_; refine aet 8 rfl (fun _ hS => bZ (n := k) rfl rfl ha1 (by omega) cK hk') (Evo.refl [] L) ?_; refine aet 9 rfl (fun _ hS => aD rfl dF) (Evo.refl [] L) ?_; refine aet 10 rfl (fun _ hS => aX rfl cD (qH (Y.evo0 hS) hk' ha1)) (Evo.refl [] L) ?_; refine cA [5, 11] (by kernel_rfl) rfl ⟨?_, ?_, trivial⟩
   ·refine cG rfl ?_; refine aB (lL rfl rfl) ?_; refine aR (bV (.inl (Evo.refl [] L)) ?_); refine aet 12 rfl (fun _ hS => cR rfl) (Evo.refl [] L) ?_; refine cA [11] (by kernel_rfl) rfl ⟨?_, trivial⟩; refine cG rfl ?_; refine aB (lH rfl rfl) ?_; refine aR (bV (.inl (Evo.refl [] L)) ?_); refine aet 13 rfl (fun _ hS => cR rfl) (Evo.refl [] L) ?_; refine dB (by kernel_rfl) (aC ?_); refine aM (csr (aA (aA (aB (dM rfl rfl) ?_)))); refine wnn (aZ rfl (fun E => ?_) (fun E => ?_))
    ·refine aF (aA (aA ?_)); refine aB (fA rfl rfl (by omega) (by omega)) ?_; refine aA ?_; refine aB (fA rfl rfl (by omega) (by omega)) ?_; refine aB (cI (vs := [(0, _), (1, _)]) eE rfl (cells := [_, _]) rfl) ?_; refine bL (vs := [_]) rfl dE rfl rfl rfl rfl fun l6 l7 h4 i8 d0 => ?_; refine cM rfl rfl rfl rfl cX (d3.evo0 d0) (Src.ofOwn h4 ⟨rfl, rfl, trivial⟩) (by omega) fun a3 c3 l8 ob3 f6 f7 hob58 => ?_; have c0 := I.app (Lt.own (Y.evo0 d0)) hob58; have c1 := J.app (b9.then d0) hob58; refine wan (aM ?_); refine fR (fun w0 w' => Evo [] w0 w') (by kernel_rfl) (fun M e0 => ?_); have c5 := ((b9.then d0).step f7 J.mem).then e0; have Z := ((Y.evo0 d0).evo f7 I.own).evo0 e0; have d4 := f6.evo0 e0; refine aet 0 rfl (fun _ hS => bC rfl) (Evo.refl [] M) ?_; refine aet 1 rfl (fun _ hS => bC rfl) (Evo.refl [] M) ?_; refine aet 2 rfl (fun _ hS => bZ (n := k) rfl rfl ha1 (by omega) cK hk') (Evo.refl [] M) ?_; refine aet 3 rfl (fun _ hS => aD rfl dP) (Evo.refl [] M) ?_; refine aet 4 rfl (fun _ hS => aX rfl cD (rD (Z.evo0 hS) hk' ha1)) (Evo.refl [] M) ?_; refine aet 6 rfl (fun _ hS => bC rfl) (Evo.refl [] M) ?_
     refine aet 7 rfl (fun _ hS => bC rfl) (Evo.refl [] M) ?_; refine aet 8 rfl (fun _ hS => bZ (n := k) rfl rfl ha1 (by omega) cK hk') (Evo.refl [] M) ?_; refine aet 9 rfl (fun _ hS => aD rfl dF) (Evo.refl [] M) ?_; refine aet 10 rfl (fun _ hS => aX rfl cD (qH (Z.evo0 hS) hk' ha1)) (Evo.refl [] M) ?_; refine cA [5, 11] (by kernel_rfl) rfl ⟨?_, ?_, trivial⟩
     ·refine cG rfl ?_; refine aB (lL rfl rfl) ?_; refine aR (bV (.inl (Evo.refl [] M)) ?_); refine aet 12 rfl (fun _ hS => cR rfl) (Evo.refl [] M) ?_; refine cA [11] (by kernel_rfl) rfl ⟨?_, trivial⟩; refine cG rfl ?_; refine aB (lH rfl rfl) ?_; refine aR (bV (.inl (Evo.refl [] M)) ?_); refine aet 13 rfl (fun _ hS => cR rfl) (Evo.refl [] M) ?_; refine dB (by kernel_rfl) (aC ?_); refine csr (aA (aA (aB (dM rfl rfl) ?_))); refine wnn (aZ rfl (fun B => ?_) (fun B => ?_))
      ·refine aF (aA (aA ?_)); refine aB (dY rfl rfl (by omega) (by omega)) ?_; refine aA ?_; refine aB (dY rfl rfl (by omega) (by omega)) ?_; refine aB (cI (vs := [(0, _), (1, _)]) eE rfl (cells := [_, _]) rfl) ?_; refine bL (vs := [_]) rfl dE rfl rfl rfl rfl fun l9 m0 h5 i9 d1 => ?_; refine cM rfl rfl rfl rfl cX (d4.evo0 d1) (Src.ofOwn h5 ⟨rfl, rfl, trivial⟩) (by omega) fun a4 c4 m1 ob4 O f8 hob87 => ?_; refine bN (aR (aQ (aC (aF (aA ?_))))); refine aB (aI rfl rfl (by omega) (by omega)) ?_; refine bN (aR (aY ?_)); refine ⟨⟨k + 1, n + 1 + 1 + 1, a4, c4, ob4⟩, ?_, ⟨rfl, rfl, trivial⟩, ⟨rfl, rfl, trivial⟩, ((c5.then d1).step f8 c1.mem), ?_⟩
       · (try dsimp only); omega
       try dsimp only
       simp only [gM, gS] at E B; have e1 : fH (65, 32) l[k] = [(max l[k].1 65 + 32, min l[k].2 (65 + 25) + 32)] := gE E; have e2 : fH (97, -32) l[k] = [(max l[k].1 97 + -32, min l[k].2 (97 + 25) + -32)] := gE B; refine ⟨hk', ((Z.evo0 d1).evo f8 c0.own), ?_, (c1.app (c5.then d1) hob87), (c0.app (Lt.own (Z.evo0 d1)) hob87), by omega⟩; rw [hZ hk', e1, e2]; have D := O
       try simp only [gM, gS] at D
       simp only [dH, List.append_nil]; exact D
      refine aN (aQ (aC (aF (aA ?_)))); refine aB (aI rfl rfl (by omega) (by omega)) ?_; refine bN (aR (aY ?_)); refine ⟨⟨k + 1, n + 1 + 1, a3, c3, ob3⟩, ?_, ⟨rfl, rfl, trivial⟩, ⟨rfl, rfl, trivial⟩, c5, ?_⟩
      · (try dsimp only); omega
      try dsimp only
      simp only [gM, gS] at E B; have e1 : fH (65, 32) l[k] = [(max l[k].1 65 + 32, min l[k].2 (65 + 25) + 32)] := gE E; have e2 : fH (97, -32) l[k] = [] := iD B; refine ⟨hk', Z, ?_, c1, c0, by omega⟩; rw [hZ hk', e1, e2]; have D := d4
      try simp only [gM, gS] at D
      simp only [dH, List.append_nil]; exact D
     refine cG rfl ?_; refine aB (lH rfl rfl) ?_; refine aR (bV (.inl (Evo.refl [] M)) ?_); refine cA [5] (by kernel_rfl) rfl ⟨?_, trivial⟩; refine cG rfl ?_; refine aB (lL rfl rfl) ?_; refine aR (bV (.inl (Evo.refl [] M)) ?_); refine aet 12 rfl (fun _ hS => cR rfl) (Evo.refl [] M) ?_; refine aet 13 rfl (fun _ hS => cR rfl) (Evo.refl [] M) ?_; refine dB (by kernel_rfl) (aC ?_); refine csr (aA (aA (aB (dM rfl rfl) ?_))); refine wnn (aZ rfl (fun B => ?_) (fun B => ?_))
     ·refine aF (aA (aA ?_)); refine aB (dY rfl rfl (by omega) (by omega)) ?_; refine aA ?_; refine aB (dY rfl rfl (by omega) (by omega)) ?_; refine aB (cI (vs := [(0, _), (1, _)]) eE rfl (cells := [_, _]) rfl) ?_; refine bL (vs := [_]) rfl dE rfl rfl rfl rfl fun m2 m3 h6 j0 d2 => ?_; refine cM rfl rfl rfl rfl cX (d4.evo0 d2) (Src.ofOwn h6 ⟨rfl, rfl, trivial⟩) (by omega) fun a4 c4 j1 ob4 O e3 hob111 => ?_; refine bN (aR (aQ (aC (aF (aA ?_))))); refine aB (aI rfl rfl (by omega) (by omega)) ?_; refine bN (aR (aY ?_)); refine ⟨⟨k + 1, n + 1 + 1 + 1, a4, c4, ob4⟩, ?_, ⟨rfl, rfl, trivial⟩, ⟨rfl, rfl, trivial⟩, ((c5.then d2).step e3 c1.mem), ?_⟩
      · (try dsimp only); omega
      try dsimp only
      simp only [gM, gS] at E B; have e1 : fH (65, 32) l[k] = [(max l[k].1 65 + 32, min l[k].2 (65 + 25) + 32)] := gE E; have e2 : fH (97, -32) l[k] = [(max l[k].1 97 + -32, min l[k].2 (97 + 25) + -32)] := gE B; refine ⟨hk', ((Z.evo0 d2).evo e3 c0.own), ?_, (c1.app (c5.then d2) hob111), (c0.app (Lt.own (Z.evo0 d2)) hob111), by omega⟩; rw [hZ hk', e1, e2]; have D := O
      try simp only [gM, gS] at D
      simp only [dH, List.append_nil]; exact D
     refine aN (aQ (aC (aF (aA ?_)))); refine aB (aI rfl rfl (by omega) (by omega)) ?_; refine bN (aR (aY ?_)); refine ⟨⟨k + 1, n + 1 + 1, a3, c3, ob3⟩, ?_, ⟨rfl, rfl, trivial⟩, ⟨rfl, rfl, trivial⟩, c5, ?_⟩
     · (try dsimp only); omega
     try dsimp only
     simp only [gM, gS] at E B; have e1 : fH (65, 32) l[k] = [(max l[k].1 65 + 32, min l[k].2 (65 + 25) + 32)] := gE E; have e2 : fH (97, -32) l[k] = [] := iD B; refine ⟨hk', Z, ?_, c1, c0, by omega⟩; rw [hZ hk', e1, e2]; have D := d4
     try simp only [gM, gS] at D
     simp only [dH, List.append_nil]; exact D
    refine aN (aC (aM ?_)); refine fR (fun w0 w' => Evo [] w0 w') (by kernel_rfl) (fun F d5 => ?_); have a0 := b9.then d5; have U := Y.evo0 d5; have c6 := d3.evo0 d5; refine aet 0 rfl (fun _ hS => bC rfl) (Evo.refl [] F) ?_; refine aet 1 rfl (fun _ hS => bC rfl) (Evo.refl [] F) ?_; refine aet 2 rfl (fun _ hS => bZ (n := k) rfl rfl ha1 (by omega) cK hk') (Evo.refl [] F) ?_; refine aet 3 rfl (fun _ hS => aD rfl dP) (Evo.refl [] F) ?_; refine aet 4 rfl (fun _ hS => aX rfl cD (rD (U.evo0 hS) hk' ha1)) (Evo.refl [] F) ?_; refine aet 6 rfl (fun _ hS => bC rfl) (Evo.refl [] F) ?_; refine aet 7 rfl (fun _ hS => bC rfl) (Evo.refl [] F) ?_; refine aet 8 rfl (fun _ hS => bZ (n := k) rfl rfl ha1 (by omega) cK hk') (Evo.refl [] F) ?_; refine aet 9 rfl (fun _ hS => aD rfl dF) (Evo.refl [] F) ?_; refine aet 10 rfl (fun _ hS => aX rfl cD (qH (U.evo0 hS) hk' ha1)) (Evo.refl [] F) ?_; refine cA [5, 11] (by kernel_rfl) rfl ⟨?_, ?_, trivial⟩
    ·refine cG rfl ?_; refine aB (lL rfl rfl) ?_; refine aR (bV (.inl (Evo.refl [] F)) ?_); refine aet 12 rfl (fun _ hS => cR rfl) (Evo.refl [] F) ?_; refine cA [11] (by kernel_rfl) rfl ⟨?_, trivial⟩; refine cG rfl ?_; refine aB (lH rfl rfl) ?_; refine aR (bV (.inl (Evo.refl [] F)) ?_); refine aet 13 rfl (fun _ hS => cR rfl) (Evo.refl [] F) ?_; refine dB (by kernel_rfl) (aC ?_); refine csr (aA (aA (aB (dM rfl rfl) ?_))); refine wnn (aZ rfl (fun B => ?_) (fun B => ?_))
     ·refine aF (aA (aA ?_)); refine aB (dY rfl rfl (by omega) (by omega)) ?_; refine aA ?_; refine aB (dY rfl rfl (by omega) (by omega)) ?_; refine aB (cI (vs := [(0, _), (1, _)]) eE rfl (cells := [_, _]) rfl) ?_; refine bL (vs := [_]) rfl dE rfl rfl rfl rfl fun j2 j3 f9 i0 a8 => ?_; refine cM rfl rfl rfl rfl cX (c6.evo0 a8) (Src.ofOwn f9 ⟨rfl, rfl, trivial⟩) (by omega) fun a4 c4 j4 ob4 O e4 hob140 => ?_; refine bN (aR (aQ (aC (aF (aA ?_))))); refine aB (aI rfl rfl (by omega) (by omega)) ?_; refine bN (aR (aY ?_)); refine ⟨⟨k + 1, n + 1 + 1, a4, c4, ob4⟩, ?_, ⟨rfl, rfl, trivial⟩, ⟨rfl, rfl, trivial⟩, ((a0.then a8).step e4 J.mem), ?_⟩
      · (try dsimp only); omega
      try dsimp only
      simp only [gM, gS] at E B; have e1 : fH (65, 32) l[k] = [] := iD E; have e2 : fH (97, -32) l[k] = [(max l[k].1 97 + -32, min l[k].2 (97 + 25) + -32)] := gE B; refine ⟨hk', ((U.evo0 a8).evo e4 I.own), ?_, (J.app (a0.then a8) hob140), (I.app (Lt.own (U.evo0 a8)) hob140), by omega⟩; rw [hZ hk', e1, e2]; have D := O
      try simp only [gM, gS] at D
      simp only [dH, List.append_nil]; exact D
     refine aN (aQ (aC (aF (aA ?_)))); refine aB (aI rfl rfl (by omega) (by omega)) ?_; refine bN (aR (aY ?_)); refine ⟨⟨k + 1, n + 1, a2, c2, ob2⟩, ?_, ⟨rfl, rfl, trivial⟩, ⟨rfl, rfl, trivial⟩, a0, ?_⟩
     · (try dsimp only); omega
     try dsimp only
     simp only [gM, gS] at E B; have e1 : fH (65, 32) l[k] = [] := iD E; have e2 : fH (97, -32) l[k] = [] := iD B; refine ⟨hk', U, ?_, J, I, by omega⟩; rw [hZ hk', e1, e2]; have D := c6
     try simp only [gM, gS] at D
     simp only [dH, List.append_nil]; exact D
    refine cG rfl ?_; refine aB (lH rfl rfl) ?_; refine aR (bV (.inl (Evo.refl [] F)) ?_); refine cA [5] (by kernel_rfl) rfl ⟨?_, trivial⟩; refine cG rfl ?_; refine aB (lL rfl rfl) ?_; refine aR (bV (.inl (Evo.refl [] F)) ?_); refine aet 12 rfl (fun _ hS => cR rfl) (Evo.refl [] F) ?_; refine aet 13 rfl (fun _ hS => cR rfl) (Evo.refl [] F) ?_; refine dB (by kernel_rfl) (aC ?_); refine csr (aA (aA (aB (dM rfl rfl) ?_))); refine wnn (aZ rfl (fun B => ?_) (fun B => ?_))
    ·refine aF (aA (aA ?_)); refine aB (dY rfl rfl (by omega) (by omega)) ?_; refine aA ?_; refine aB (dY rfl rfl (by omega) (by omega)) ?_; refine aB (cI (vs := [(0, _), (1, _)]) eE rfl (cells := [_, _]) rfl) ?_; refine bL (vs := [_]) rfl dE rfl rfl rfl rfl fun j5 j6 g0 i1 a9 => ?_; refine cM rfl rfl rfl rfl cX (c6.evo0 a9) (Src.ofOwn g0 ⟨rfl, rfl, trivial⟩) (by omega) fun a4 c4 j7 ob4 O e5 hob164 => ?_; refine bN (aR (aQ (aC (aF (aA ?_))))); refine aB (aI rfl rfl (by omega) (by omega)) ?_; refine bN (aR (aY ?_)); refine ⟨⟨k + 1, n + 1 + 1, a4, c4, ob4⟩, ?_, ⟨rfl, rfl, trivial⟩, ⟨rfl, rfl, trivial⟩, ((a0.then a9).step e5 J.mem), ?_⟩
     · (try dsimp only); omega
     try dsimp only
     simp only [gM, gS] at E B; have e1 : fH (65, 32) l[k] = [] := iD E; have e2 : fH (97, -32) l[k] = [(max l[k].1 97 + -32, min l[k].2 (97 + 25) + -32)] := gE B; refine ⟨hk', ((U.evo0 a9).evo e5 I.own), ?_, (J.app (a0.then a9) hob164), (I.app (Lt.own (U.evo0 a9)) hob164), by omega⟩; rw [hZ hk', e1, e2]; have D := O
     try simp only [gM, gS] at D
     simp only [dH, List.append_nil]; exact D
    refine aN (aQ (aC (aF (aA ?_)))); refine aB (aI rfl rfl (by omega) (by omega)) ?_; refine bN (aR (aY ?_)); refine ⟨⟨k + 1, n + 1, a2, c2, ob2⟩, ?_, ⟨rfl, rfl, trivial⟩, ⟨rfl, rfl, trivial⟩, a0, ?_⟩
    · (try dsimp only); omega
    try dsimp only
    simp only [gM, gS] at E B; have e1 : fH (65, 32) l[k] = [] := iD E; have e2 : fH (97, -32) l[k] = [] := iD B; refine ⟨hk', U, ?_, J, I, by omega⟩; rw [hZ hk', e1, e2]; have D := c6
    try simp only [gM, gS] at D
    simp only [dH, List.append_nil]; exact D
   refine cG rfl ?_; refine aB (lH rfl rfl) ?_; refine aR (bV (.inl (Evo.refl [] L)) ?_); refine cA [5] (by kernel_rfl) rfl ⟨?_, trivial⟩; refine cG rfl ?_; refine aB (lL rfl rfl) ?_; refine aR (bV (.inl (Evo.refl [] L)) ?_); refine aet 12 rfl (fun _ hS => cR rfl) (Evo.refl [] L) ?_; refine aet 13 rfl (fun _ hS => cR rfl) (Evo.refl [] L) ?_; refine dB (by kernel_rfl) (aC ?_); refine aM (csr (aA (aA (aB (dM rfl rfl) ?_)))); refine wnn (aZ rfl (fun E => ?_) (fun E => ?_))
   ·refine aF (aA (aA ?_)); refine aB (fA rfl rfl (by omega) (by omega)) ?_; refine aA ?_; refine aB (fA rfl rfl (by omega) (by omega)) ?_; refine aB (cI (vs := [(0, _), (1, _)]) eE rfl (cells := [_, _]) rfl) ?_; refine bL (vs := [_]) rfl dE rfl rfl rfl rfl fun j8 j9 g2 i2 b4 => ?_; refine cM rfl rfl rfl rfl cX (d3.evo0 b4) (Src.ofOwn g2 ⟨rfl, rfl, trivial⟩) (by omega) fun a3 c3 k0 ob3 f6 e6 hob188 => ?_; have a1 := I.app (Lt.own (Y.evo0 b4)) hob188; have a5 := J.app (b9.then b4) hob188; refine wan (aM ?_); refine fR (fun w0 w' => Evo [] w0 w') (by kernel_rfl) (fun G d6 => ?_); have a6 := ((b9.then b4).step e6 J.mem).then d6; have V := ((Y.evo0 b4).evo e6 I.own).evo0 d6; have c7 := f6.evo0 d6; refine aet 0 rfl (fun _ hS => bC rfl) (Evo.refl [] G) ?_; refine aet 1 rfl (fun _ hS => bC rfl) (Evo.refl [] G) ?_; refine aet 2 rfl (fun _ hS => bZ (n := k) rfl rfl ha1 (by omega) cK hk') (Evo.refl [] G) ?_; refine aet 3 rfl (fun _ hS => aD rfl dP) (Evo.refl [] G) ?_; refine aet 4 rfl (fun _ hS => aX rfl cD (rD (V.evo0 hS) hk' ha1)) (Evo.refl [] G) ?_
    refine aet 6 rfl (fun _ hS => bC rfl) (Evo.refl [] G) ?_; refine aet 7 rfl (fun _ hS => bC rfl) (Evo.refl [] G) ?_; refine aet 8 rfl (fun _ hS => bZ (n := k) rfl rfl ha1 (by omega) cK hk') (Evo.refl [] G) ?_; refine aet 9 rfl (fun _ hS => aD rfl dF) (Evo.refl [] G) ?_; refine aet 10 rfl (fun _ hS => aX rfl cD (qH (V.evo0 hS) hk' ha1)) (Evo.refl [] G) ?_; refine cA [5, 11] (by kernel_rfl) rfl ⟨?_, ?_, trivial⟩
    ·refine cG rfl ?_; refine aB (lL rfl rfl) ?_; refine aR (bV (.inl (Evo.refl [] G)) ?_); refine aet 12 rfl (fun _ hS => cR rfl) (Evo.refl [] G) ?_; refine cA [11] (by kernel_rfl) rfl ⟨?_, trivial⟩; refine cG rfl ?_; refine aB (lH rfl rfl) ?_; refine aR (bV (.inl (Evo.refl [] G)) ?_); refine aet 13 rfl (fun _ hS => cR rfl) (Evo.refl [] G) ?_; refine dB (by kernel_rfl) (aC ?_); refine csr (aA (aA (aB (dM rfl rfl) ?_))); refine wnn (aZ rfl (fun B => ?_) (fun B => ?_))
     ·refine aF (aA (aA ?_)); refine aB (dY rfl rfl (by omega) (by omega)) ?_; refine aA ?_; refine aB (dY rfl rfl (by omega) (by omega)) ?_; refine aB (cI (vs := [(0, _), (1, _)]) eE rfl (cells := [_, _]) rfl) ?_; refine bL (vs := [_]) rfl dE rfl rfl rfl rfl fun k1 k2 g3 i3 b5 => ?_; refine cM rfl rfl rfl rfl cX (c7.evo0 b5) (Src.ofOwn g3 ⟨rfl, rfl, trivial⟩) (by omega) fun a4 c4 k3 ob4 O e7 hob217 => ?_; refine bN (aR (aQ (aC (aF (aA ?_))))); refine aB (aI rfl rfl (by omega) (by omega)) ?_; refine bN (aR (aY ?_)); refine ⟨⟨k + 1, n + 1 + 1 + 1, a4, c4, ob4⟩, ?_, ⟨rfl, rfl, trivial⟩, ⟨rfl, rfl, trivial⟩, ((a6.then b5).step e7 a5.mem), ?_⟩
      · (try dsimp only); omega
      try dsimp only
      simp only [gM, gS] at E B; have e1 : fH (65, 32) l[k] = [(max l[k].1 65 + 32, min l[k].2 (65 + 25) + 32)] := gE E; have e2 : fH (97, -32) l[k] = [(max l[k].1 97 + -32, min l[k].2 (97 + 25) + -32)] := gE B; refine ⟨hk', ((V.evo0 b5).evo e7 a1.own), ?_, (a5.app (a6.then b5) hob217), (a1.app (Lt.own (V.evo0 b5)) hob217), by omega⟩; rw [hZ hk', e1, e2]; have D := O
      try simp only [gM, gS] at D
      simp only [dH, List.append_nil]; exact D
     refine aN (aQ (aC (aF (aA ?_)))); refine aB (aI rfl rfl (by omega) (by omega)) ?_; refine bN (aR (aY ?_)); refine ⟨⟨k + 1, n + 1 + 1, a3, c3, ob3⟩, ?_, ⟨rfl, rfl, trivial⟩, ⟨rfl, rfl, trivial⟩, a6, ?_⟩
     · (try dsimp only); omega
     try dsimp only
     simp only [gM, gS] at E B; have e1 : fH (65, 32) l[k] = [(max l[k].1 65 + 32, min l[k].2 (65 + 25) + 32)] := gE E; have e2 : fH (97, -32) l[k] = [] := iD B; refine ⟨hk', V, ?_, a5, a1, by omega⟩; rw [hZ hk', e1, e2]; have D := c7
     try simp only [gM, gS] at D
     simp only [dH, List.append_nil]; exact D
    refine cG rfl ?_; refine aB (lH rfl rfl) ?_; refine aR (bV (.inl (Evo.refl [] G)) ?_); refine cA [5] (by kernel_rfl) rfl ⟨?_, trivial⟩; refine cG rfl ?_; refine aB (lL rfl rfl) ?_; refine aR (bV (.inl (Evo.refl [] G)) ?_); refine aet 12 rfl (fun _ hS => cR rfl) (Evo.refl [] G) ?_; refine aet 13 rfl (fun _ hS => cR rfl) (Evo.refl [] G) ?_; refine dB (by kernel_rfl) (aC ?_); refine csr (aA (aA (aB (dM rfl rfl) ?_))); refine wnn (aZ rfl (fun B => ?_) (fun B => ?_))
    ·refine aF (aA (aA ?_)); refine aB (dY rfl rfl (by omega) (by omega)) ?_; refine aA ?_; refine aB (dY rfl rfl (by omega) (by omega)) ?_; refine aB (cI (vs := [(0, _), (1, _)]) eE rfl (cells := [_, _]) rfl) ?_; refine bL (vs := [_]) rfl dE rfl rfl rfl rfl fun k4 k5 g4 i4 b6 => ?_; refine cM rfl rfl rfl rfl cX (c7.evo0 b6) (Src.ofOwn g4 ⟨rfl, rfl, trivial⟩) (by omega) fun a4 c4 k6 ob4 O e8 hob241 => ?_; refine bN (aR (aQ (aC (aF (aA ?_))))); refine aB (aI rfl rfl (by omega) (by omega)) ?_; refine bN (aR (aY ?_)); refine ⟨⟨k + 1, n + 1 + 1 + 1, a4, c4, ob4⟩, ?_, ⟨rfl, rfl, trivial⟩, ⟨rfl, rfl, trivial⟩, ((a6.then b6).step e8 a5.mem), ?_⟩
     · (try dsimp only); omega
     try dsimp only
     simp only [gM, gS] at E B; have e1 : fH (65, 32) l[k] = [(max l[k].1 65 + 32, min l[k].2 (65 + 25) + 32)] := gE E; have e2 : fH (97, -32) l[k] = [(max l[k].1 97 + -32, min l[k].2 (97 + 25) + -32)] := gE B; refine ⟨hk', ((V.evo0 b6).evo e8 a1.own), ?_, (a5.app (a6.then b6) hob241), (a1.app (Lt.own (V.evo0 b6)) hob241), by omega⟩; rw [hZ hk', e1, e2]; have D := O
     try simp only [gM, gS] at D
     simp only [dH, List.append_nil]; exact D
    refine aN (aQ (aC (aF (aA ?_)))); refine aB (aI rfl rfl (by omega) (by omega)) ?_; refine bN (aR (aY ?_)); refine ⟨⟨k + 1, n + 1 + 1, a3, c3, ob3⟩, ?_, ⟨rfl, rfl, trivial⟩, ⟨rfl, rfl, trivial⟩, a6, ?_⟩
    · (try dsimp only); omega
    try dsimp only
    simp only [gM, gS] at E B; have e1 : fH (65, 32) l[k] = [(max l[k].1 65 + 32, min l[k].2 (65 + 25) + 32)] := gE E; have e2 : fH (97, -32) l[k] = [] := iD B; refine ⟨hk', V, ?_, a5, a1, by omega⟩; rw [hZ hk', e1, e2]; have D := c7
    try simp only [gM, gS] at D
    simp only [dH, List.append_nil]; exact D
   refine aN (aC (aM ?_)); refine fR (fun w0 w' => Evo [] w0 w') (by kernel_rfl) (fun H d7 => ?_); have a7 := b9.then d7; have W := Y.evo0 d7; have c8 := d3.evo0 d7; refine aet 0 rfl (fun _ hS => bC rfl) (Evo.refl [] H) ?_; refine aet 1 rfl (fun _ hS => bC rfl) (Evo.refl [] H) ?_; refine aet 2 rfl (fun _ hS => bZ (n := k) rfl rfl ha1 (by omega) cK hk') (Evo.refl [] H) ?_; refine aet 3 rfl (fun _ hS => aD rfl dP) (Evo.refl [] H) ?_; refine aet 4 rfl (fun _ hS => aX rfl cD (rD (W.evo0 hS) hk' ha1)) (Evo.refl [] H) ?_; refine aet 6 rfl (fun _ hS => bC rfl) (Evo.refl [] H) ?_; refine aet 7 rfl (fun _ hS => bC rfl) (Evo.refl [] H) ?_; refine aet 8 rfl (fun _ hS => bZ (n := k) rfl rfl ha1 (by omega) cK hk') (Evo.refl [] H) ?_; refine aet 9 rfl (fun _ hS => aD rfl dF) (Evo.refl [] H) ?_; refine aet 10 rfl (fun _ hS => aX rfl cD (qH (W.evo0 hS) hk' ha1)) (Evo.refl [] H) ?_; refine cA [5, 11] (by kernel_rfl) rfl ⟨?_, ?_, trivial⟩
   ·refine cG rfl ?_; refine aB (lL rfl rfl) ?_; refine aR (bV (.inl (Evo.refl [] H)) ?_); refine aet 12 rfl (fun _ hS => cR rfl) (Evo.refl [] H) ?_; refine cA [11] (by kernel_rfl) rfl ⟨?_, trivial⟩; refine cG rfl ?_; refine aB (lH rfl rfl) ?_; refine aR (bV (.inl (Evo.refl [] H)) ?_); refine aet 13 rfl (fun _ hS => cR rfl) (Evo.refl [] H) ?_; refine dB (by kernel_rfl) (aC ?_); refine csr (aA (aA (aB (dM rfl rfl) ?_))); refine wnn (aZ rfl (fun B => ?_) (fun B => ?_))
    ·refine aF (aA (aA ?_)); refine aB (dY rfl rfl (by omega) (by omega)) ?_; refine aA ?_; refine aB (dY rfl rfl (by omega) (by omega)) ?_; refine aB (cI (vs := [(0, _), (1, _)]) eE rfl (cells := [_, _]) rfl) ?_; refine bL (vs := [_]) rfl dE rfl rfl rfl rfl fun k7 k8 g5 i5 b7 => ?_; refine cM rfl rfl rfl rfl cX (c8.evo0 b7) (Src.ofOwn g5 ⟨rfl, rfl, trivial⟩) (by omega) fun a4 c4 k9 ob4 O e9 hob270 => ?_; refine bN (aR (aQ (aC (aF (aA ?_))))); refine aB (aI rfl rfl (by omega) (by omega)) ?_; refine bN (aR (aY ?_)); refine ⟨⟨k + 1, n + 1 + 1, a4, c4, ob4⟩, ?_, ⟨rfl, rfl, trivial⟩, ⟨rfl, rfl, trivial⟩, ((a7.then b7).step e9 J.mem), ?_⟩
     · (try dsimp only); omega
     try dsimp only
     simp only [gM, gS] at E B; have e1 : fH (65, 32) l[k] = [] := iD E; have e2 : fH (97, -32) l[k] = [(max l[k].1 97 + -32, min l[k].2 (97 + 25) + -32)] := gE B; refine ⟨hk', ((W.evo0 b7).evo e9 I.own), ?_, (J.app (a7.then b7) hob270), (I.app (Lt.own (W.evo0 b7)) hob270), by omega⟩; rw [hZ hk', e1, e2]; have D := O
     try simp only [gM, gS] at D
     simp only [dH, List.append_nil]; exact D
    refine aN (aQ (aC (aF (aA ?_)))); refine aB (aI rfl rfl (by omega) (by omega)) ?_; refine bN (aR (aY ?_)); refine ⟨⟨k + 1, n + 1, a2, c2, ob2⟩, ?_, ⟨rfl, rfl, trivial⟩, ⟨rfl, rfl, trivial⟩, a7, ?_⟩
    · (try dsimp only); omega
    try dsimp only
    simp only [gM, gS] at E B; have e1 : fH (65, 32) l[k] = [] := iD E; have e2 : fH (97, -32) l[k] = [] := iD B; refine ⟨hk', W, ?_, J, I, by omega⟩; rw [hZ hk', e1, e2]; have D := c8
    try simp only [gM, gS] at D
    simp only [dH, List.append_nil]; exact D
   refine cG rfl ?_; refine aB (lH rfl rfl) ?_; refine aR (bV (.inl (Evo.refl [] H)) ?_); refine cA [5] (by kernel_rfl) rfl ⟨?_, trivial⟩; refine cG rfl ?_; refine aB (lL rfl rfl) ?_; refine aR (bV (.inl (Evo.refl [] H)) ?_); refine aet 12 rfl (fun _ hS => cR rfl) (Evo.refl [] H) ?_; refine aet 13 rfl (fun _ hS => cR rfl) (Evo.refl [] H) ?_; refine dB (by kernel_rfl) (aC ?_); refine csr (aA (aA (aB (dM rfl rfl) ?_))); refine wnn (aZ rfl (fun B => ?_) (fun B => ?_))
   ·refine aF (aA (aA ?_)); refine aB (dY rfl rfl (by omega) (by omega)) ?_; refine aA ?_; refine aB (dY rfl rfl (by omega) (by omega)) ?_; refine aB (cI (vs := [(0, _), (1, _)]) eE rfl (cells := [_, _]) rfl) ?_; refine bL (vs := [_]) rfl dE rfl rfl rfl rfl fun l0 l1 g6 i6 b8 => ?_; refine cM rfl rfl rfl rfl cX (c8.evo0 b8) (Src.ofOwn g6 ⟨rfl, rfl, trivial⟩) (by omega) fun a4 c4 l2 ob4 O f0 hob294 => ?_; refine bN (aR (aQ (aC (aF (aA ?_))))); refine aB (aI rfl rfl (by omega) (by omega)) ?_; refine bN (aR (aY ?_)); refine ⟨⟨k + 1, n + 1 + 1, a4, c4, ob4⟩, ?_, ⟨rfl, rfl, trivial⟩, ⟨rfl, rfl, trivial⟩, ((a7.then b8).step f0 J.mem), ?_⟩
    · (try dsimp only); omega
    try dsimp only
    simp only [gM, gS] at E B; have e1 : fH (65, 32) l[k] = [] := iD E; have e2 : fH (97, -32) l[k] = [(max l[k].1 97 + -32, min l[k].2 (97 + 25) + -32)] := gE B; refine ⟨hk', ((W.evo0 b8).evo f0 I.own), ?_, (J.app (a7.then b8) hob294), (I.app (Lt.own (W.evo0 b8)) hob294), by omega⟩; rw [hZ hk', e1, e2]; have D := O
    try simp only [gM, gS] at D
    simp only [dH, List.append_nil]; exact D
   refine aN (aQ (aC (aF (aA ?_)))); refine aB (aI rfl rfl (by omega) (by omega)) ?_; refine bN (aR (aY ?_)); refine ⟨⟨k + 1, n + 1, a2, c2, ob2⟩, ?_, ⟨rfl, rfl, trivial⟩, ⟨rfl, rfl, trivial⟩, a7, ?_⟩
   · (try dsimp only); omega
   try dsimp only
   simp only [gM, gS] at E B; have e1 : fH (65, 32) l[k] = [] := iD E; have e2 : fH (97, -32) l[k] = [] := iD B; refine ⟨hk', W, ?_, J, I, by omega⟩; rw [hZ hk', e1, e2]; have D := c8
   try simp only [gM, gS] at D
   simp only [dH, List.append_nil]; exact D
  obtain rfl : k = l.length := by omega
  rw [List.take_length] at hown; refine cW (bS (bS (cV (aC ?_)))); refine csr (aA (wan (aK (br1 ?_)))); have g9 := lK hown; have hlx := AQ l
  refine ⟨⟨sa, sc, so, by rw [g9], by rw [← g9]; exact hown, hge⟩, d8⟩
theorem kO : dW Tryz.prog 120 := ⟨_, Tryz.func120, by kernel_rfl, by kernel_rfl⟩
theorem mU : dW Tryz.prog 121 := ⟨_, Tryz.func121, by kernel_rfl, by kernel_rfl⟩
theorem sO : dW Tryz.prog 90 := ⟨_, Tryz.func90, by kernel_rfl, by kernel_rfl⟩
theorem kH : dW Tryz.prog 95 := ⟨_, Tryz.func95, by kernel_rfl, by kernel_rfl⟩
theorem eY : dW Tryz.prog 96 := ⟨_, Tryz.func96, by kernel_rfl, by kernel_rfl⟩
def Jk (v : Value) : Prop := ∃ (k r mn mx cp : Int) (ra ka : Option Addr) (rl rc kl kc : Nat) (lz : Bool) (nm : ByteArray), v = .agg #[iv k, .int .i32 r, .slice ra rl rc, iv mn, iv mx, .bool lz, iv cp, .string nm, .slice ka kl kc]
theorem mQ : Jk (.agg #[iv 0, .int .i32 0, .slice none 0 0, iv 0, iv 0, .bool false, iv 0, .string ByteArray.empty, .slice none 0 0]) := ⟨0, 0, 0, 0, 0, none, none, 0, 0, 0, 0, false, _, rfl⟩
theorem uS {w : World} {a : Option Addr} {c : Nat} {ob : Option Nat} {m : List (Int × Int)} (hO : OwnS w 56 2 a m.length c (cS m) ob) (hl : m.length ≤ 1000000) :
    Calls Tryz.prog 94 #[.slice a m.length c] w (Ret fun v w' => (Jk v ∧ ∀ S, iA S = m → ∃ vs, v = .agg vs.toArray ∧ ∃ bs, OT (jX S) w' vs bs ∧ (∀ q, q ∈ bs → ob = some q) ∧ bs.Nodup) ∧ Evo [] w w') := by
  refine bE (N := 24) Tryz.func94 rfl rfl rfl ?_; refine csr (cO rfl dC fun b2 w1 F G V => ?_); have a2 := G; have W := Apart.new (Lt.own hO) G; have H := Ge.new (Evo.refl [] w) G; have I := (Evo.refl [] w).then V; have D := hO.evo0 V; refine wnn (aM (aM ?_)); refine eK (by kernel_rfl) (by kernel_rfl) ?_; refine bG (fun _ B => bC rfl) ?_; refine bG (fun _ B => bM rfl Tryz.underlying24 rfl) ?_; refine bG (fun _ B => kK rfl rfl) ?_; refine bG (fun _ B => bC rfl) ?_; refine kC (t := 6) rfl (fun a3 => ?_) (fun a3 => ?_)
  ·have hm1 : m.length = 1 := by omega
   obtain ⟨g1, hg1', ha1, a5⟩ := iL hO (i := 0) (by omega); refine qlg ?_; refine bG (fun _ B => bC rfl) ?_; refine qlg ?_; refine bG (fun _ B => bZ (n := 0) rfl rfl ha1 (by omega) cK (by omega)) ?_; refine qlg ?_; refine bG (fun _ B => aD rfl dP) ?_; refine qlg ?_; refine bG (fun _ B => aX rfl cD (rD (i := 0) (D.evo0 B) (by omega) ha1)) ?_; refine qlg ?_; refine bG (fun _ B => bC rfl) ?_; refine qlg ?_; refine bG (fun _ B => bZ (n := 0) rfl rfl ha1 (by omega) cK (by omega)) ?_; refine qlg ?_; refine bG (fun _ B => aD rfl dF) ?_; refine qlg ?_; refine bG (fun _ B => aX rfl cD (qH (i := 0) (D.evo0 B) (by omega) ha1)) ?_; refine qlg ?_; refine bG (fun _ B => kK rfl rfl) ?_; refine bG (fun _ B => eP rfl rfl) ?_; refine eN (fun a4 B => aC ?_); refine aZ rfl (fun E => ?_) (fun E => ?_)
   ·refine csr (aA ?_); refine aB (bZ (n := 0) rfl rfl ha1 (by omega) cK (by omega)) ?_; refine aB (aD rfl dP) ?_; refine aB (aX rfl cD (rD (i := 0) (D.evo0 B) (by omega) ha1)) ?_; refine aB (cI (vs := [(0, _), (1, _)]) cB rfl (cells := [_, _, _, _, _, _, _, _, _]) rfl) ?_; refine aV rfl rfl aJ (B.blk0 F) rfl rfl ⟨rfl, rfl, rfl, rfl, rfl, rfl, rfl, rfl, rfl, trivial⟩ fun a6 J Y => ?_; have Z := (I.then B).step Y H.mem1
    try simp only [cH, Nat.reduceAdd] at J
    refine wnn (aK (aE (bT rfl (ResOk.cellA rfl bF aJ J rfl) ?_))); refine ⟨⟨⟨_, _, _, _, _, _, _, _, _, _, _, _, _, rfl⟩, fun S hm => ⟨_, rfl, [], ?_, (fun q hq => by cases hq), List.nodup_nil⟩⟩, Z⟩; rw [uR hm hm1 (by simpa using E)]; exact EL _ _
   refine aN (aC (csr (aA (aB (cI (vs := [(0, _), (2, _)]) cB rfl (cells := [_, _, _, _, _, _, _, _, _]) rfl) ?_)))); refine aV rfl rfl aJ (B.blk0 F) rfl rfl ⟨rfl, rfl, rfl, rfl, rfl, rfl, rfl, rfl, rfl, trivial⟩ fun a7 L M => ?_; have a0 := (I.then B).step M H.mem1
   try simp only [cH, Nat.reduceAdd] at L
   refine wnn (aK (bT rfl (ResOk.cellA rfl bF aJ L rfl) ?_)); refine ⟨⟨⟨_, _, _, _, _, _, _, _, _, _, _, _, _, rfl⟩, fun S hm => ⟨_, rfl, ob.toList, ?_, (fun q hq => by cases ob with | none => cases hq | some g => rw [List.mem_singleton.1 hq]), by cases ob with | none => exact List.nodup_nil | some g => simp⟩⟩, a0⟩; rw [qN hm (fun h1 => by simpa using E)]; exact AA ((D.evo0 B).evo M W.own1) (by omega)
  refine qln ?_; refine qln ?_; refine qln ?_; refine qln ?_; refine qln ?_; refine qln ?_; refine qln ?_; refine qln ?_; refine qln ?_; refine bG (fun _ B => eZ rfl rfl) ?_; refine eN (fun a4 B => aC ?_); refine cF rfl ?_; refine aN (aC (csr (aA (aB (cI (vs := [(0, _), (2, _)]) cB rfl (cells := [_, _, _, _, _, _, _, _, _]) rfl) ?_)))); refine aV rfl rfl aJ (B.blk0 F) rfl rfl ⟨rfl, rfl, rfl, rfl, rfl, rfl, rfl, rfl, rfl, trivial⟩ fun a8 O U => ?_; have a1 := (I.then B).step U H.mem1
  try simp only [cH, Nat.reduceAdd] at O
  refine wnn (aK (bT rfl (ResOk.cellA rfl bF aJ O rfl) ?_)); refine ⟨⟨⟨_, _, _, _, _, _, _, _, _, _, _, _, _, rfl⟩, fun S hm => ⟨_, rfl, ob.toList, ?_, (fun q hq => by cases ob with | none => cases hq | some g => rw [List.mem_singleton.1 hq]), by cases ob with | none => exact List.nodup_nil | some g => simp⟩⟩, a1⟩; rw [qN hm (fun h1 => by omega)]; exact AA ((D.evo0 B).evo U W.own1) (by omega)
theorem SN {w : World} {a : Option Addr} {c : Nat} {ob : Option Nat} {S : Int → Prop} (hO : OwnS w 56 2 a (iA S).length c (cS (iA S)) ob) (hl : (iA S).length ≤ 1000000) :
    Calls Tryz.prog 94 #[.slice a (iA S).length c] w (Ret fun v w' => (∃ vs, v = .agg vs.toArray ∧ ∃ bs, OT (jX S) w' vs bs ∧ (∀ q, q ∈ bs → ob = some q) ∧ bs.Nodup) ∧ Evo [] w w') :=
  (uS hO hl).mono fun _ _ ⟨v, h, h2, h3⟩ => ⟨v, h, h2.2 S rfl, h3⟩
def nQ (c : Int) : Int := if 65 ≤ c ∧ c ≤ 90 then c + 32 else if 97 ≤ c ∧ c ≤ 122 then c - 32 else c
theorem wI {w : World} (c : Int) (h0 : -1 ≤ c) (h1 : c ≤ 1114111) : Calls Tryz.prog 90 #[.int .i32 c] w (Ret fun v w' => v = .int .i32 (nQ c) ∧ Evo [] w w') := by
  refine bE (N := 20) Tryz.func90 rfl rfl rfl ?_; refine csr (wan (aM (csr (aA (aB (dQ rfl rfl) ?_))))); refine aA (bH (t := 5) rfl (fun E => ?_) (fun E => ?_))
  ·refine aW (aA (aW (aB (dM rfl rfl) ?_))); refine bW (wnn (aZ rfl (fun F => ?_) (fun F => ?_)))
   ·refine csr (aA ?_); refine aB (fA rfl rfl (by omega) (by omega)) ?_; refine wan (aK (aE (br1 ?_))); refine ⟨congrArg (Value.int .i32) ?_, (Evo.refl [] w)⟩; unfold nQ; rw [if_pos (by omega)]
   refine aN (aC (aM (csr (aA (aB (dQ rfl rfl) ?_))))); refine aA (bH (t := 13) rfl (fun B => ?_) (fun B => ?_))
   ·refine aW (aA (aW (aB (dM rfl rfl) ?_))); refine bW (wnn (aZ rfl (fun D => ?_) (fun D => ?_)))
    ·refine csr (aA ?_); refine aB (dY rfl rfl (by omega) (by omega)) ?_; refine wan (aK (aE (br1 ?_))); refine ⟨congrArg (Value.int .i32) ?_, (Evo.refl [] w)⟩; unfold nQ; rw [if_neg (by omega), if_pos (by omega)]
    refine aN (aC (csr (aA (wan (aK (br1 ?_)))))); refine ⟨congrArg (Value.int .i32) ?_, (Evo.refl [] w)⟩; unfold nQ; rw [if_neg (by omega), if_neg (by omega)]
   refine aP (aP (bR (wnn (cF rfl ?_)))); refine aN (aC (csr (aA (wan (aK (br1 ?_)))))); refine ⟨congrArg (Value.int .i32) ?_, (Evo.refl [] w)⟩; unfold nQ; rw [if_neg (by omega), if_neg (by omega)]
  refine aP (aP (bR (wnn (cF rfl ?_)))); refine aN (aC (aM (csr (aA (aB (dQ rfl rfl) ?_))))); refine aA (bH (t := 13) rfl (fun B => ?_) (fun B => ?_))
  ·refine aW (aA (aW (aB (dM rfl rfl) ?_))); refine bW (wnn (aZ rfl (fun D => ?_) (fun D => ?_)))
   ·refine csr (aA ?_); refine aB (dY rfl rfl (by omega) (by omega)) ?_; refine wan (aK (aE (br1 ?_))); refine ⟨congrArg (Value.int .i32) ?_, (Evo.refl [] w)⟩; unfold nQ; rw [if_neg (by omega), if_pos (by omega)]
   refine aN (aC (csr (aA (wan (aK (br1 ?_)))))); refine ⟨congrArg (Value.int .i32) ?_, (Evo.refl [] w)⟩; unfold nQ; rw [if_neg (by omega), if_neg (by omega)]
  refine aP (aP (bR (wnn (cF rfl ?_)))); refine aN (aC (csr (aA (wan (aK (br1 ?_)))))); refine ⟨congrArg (Value.int .i32) ?_, (Evo.refl [] w)⟩; unfold nQ; rw [if_neg (by omega), if_neg (by omega)]
theorem VA {f : Fl} {c : Int} (h0 : 0 ≤ c) (h1 : c ≤ 1114111) (hf : f.fold = true) (ho : nQ c ≠ c) : lP f c = kS [(min c (nQ c), min c (nQ c)), (max c (nQ c), max c (nQ c))] := by
  rw [litS, if_pos hf]
  have hb : (65 ≤ c ∧ c ≤ 90 ∧ nQ c = c + 32) ∨ (97 ≤ c ∧ c ≤ 122 ∧ nQ c = c - 32) := by unfold nQ at ho ⊢; (repeat' split at ho) <;> (repeat' split) <;> omega
  refine qN (nT ?_ fun x => ?_) (fun h => by simp at h)
  · show jK 0 _
    rw [jK, jK, jK]
    refine ⟨?_, Int.le_refl _, ?_, ?_, Int.le_refl _, ?_, trivial⟩ <;> (simp only; omega)
  · rw [gV, lB]
    unfold oH
    simp only
    omega
theorem IC {f : Fl} {c : Int} (h0 : 0 ≤ c) (h1 : c ≤ 1114111) (ho : f.fold = false ∨ nQ c = c) : lP f c = nA c := by
  by_cases hf : f.fold = true
  · have ho' : nQ c = c := ho.resolve_left (by rw [hf]; simp)
    have hb : ¬ (65 ≤ c ∧ c ≤ 90) ∧ ¬ (97 ≤ c ∧ c ≤ 122) := by unfold nQ at ho'; (repeat' split at ho') <;> omega
    rw [litS, if_pos hf]
    refine uR (m := [(c, c)]) ?_ rfl rfl
    refine nT (sJ h0 (Int.le_refl _) h1) fun x => ?_
    rw [lB]; unfold oH; simp only; omega
  · exact AH (by cases h : f.fold <;> simp_all) h0 h1
theorem othI_b {c : Int} (h0 : 0 ≤ c) (h1 : c ≤ 1114111) : 0 ≤ nQ c ∧ nQ c ≤ 1114111 := by unfold nQ; (repeat' split) <;> omega
theorem tR {w : World} (c : Int) (f : Fl) (h0 : 0 ≤ c) (h1 : c ≤ 1114111) : Calls Tryz.prog 67 #[.int .i32 c, .agg (flv f).toArray] w (Ret fun v w' => (∃ vs bs, v = .agg vs.toArray ∧ OT (lP f c) w' vs bs ∧ Fr w bs) ∧ Evo [] w w') := by
  have hob := othI_b h0 h1; refine bE (N := 33) Tryz.func67 rfl rfl rfl ?_; refine csr (iM rfl rfl fun b3 w1 a5 a6 a7 => ?_); have a8 := a6; have H := (Evo.refl [] w).then a7; refine cO rfl dC fun b4 w7 I B D => ?_; have a9 := B; have E := Ge.new H B; refine wnn (aM (csr (wfl rfl rO rfl fI (D.blk0 a5) rfl (aA (nD (t := 9) rfl (fun B => ?_) (fun B => ?_))))))
  ·refine aW (aA (aW ?_)); refine aG (vs := [_]) sO rfl (wI c (by omega) h1) rfl ?_; rintro _ b5 ⟨rfl, F⟩; have J := (H.then D).then F; refine aW (aA (aW (aB (fE rfl rfl) ?_))); refine bW (wnn (aZ rfl (fun G => ?_) (fun G => ?_)))
   ·refine csr (aA (aA ?_)); refine aG (vs := [_]) sO rfl (wI c (by omega) h1) rfl ?_; rintro _ b6 ⟨rfl, L⟩; refine aB (lH rfl rfl) ?_; refine aA (aA ?_); refine aG (vs := [_]) sO rfl (wI c (by omega) h1) rfl ?_; rintro _ b7 ⟨rfl, M⟩; have O := (J.then L).then M; have U := M.blk0 (L.blk0 (F.blk0 I)); refine aB (lL rfl rfl) ?_; refine bN (wan (csr (aA (aA (aB (cI (vs := [(0, _), (1, _)]) eE rfl (cells := [_, _]) rfl) ?_))))); refine aA (aA (aB (cI (vs := [(0, _), (1, _)]) eE rfl (cells := [_, _]) rfl) ?_)); refine bL (vs := [_, _]) rfl dE rfl rfl rfl rfl fun K b8 a2 V W => ?_; refine aB (cI (vs := [(0, _), (2, _)]) cB rfl (cells := [_, _, _, _, _, _, _, _, _]) rfl) ?_; refine aV rfl rfl aJ (W.blk0 U) rfl rfl ⟨rfl, rfl, rfl, rfl, rfl, rfl, rfl, rfl, rfl, trivial⟩ fun b9 Y Z => ?_
    try simp only [cH, Nat.reduceAdd] at Y
    refine wnn (aK (aE (bT rfl (ResOk.cellA rfl bF aJ Y rfl) ?_))); refine ⟨⟨_, [K], rfl, ?_, VV (Ge.new O V)⟩, ((O.then W).step Z E.mem1)⟩; rw [VA h0 h1 B G]; have hK := (a2.evo Z (Apart.new (Lt.blk U) V).symm.own1); simp only [gM, gS] at hK ⊢
    exact AA (l := [(min c (nQ c), min c (nQ c)), (max c (nQ c), max c (nQ c))]) hK (by show 2 ≤ 1000000; omega)
   refine aN (aC (csr (aA (aB (cI (vs := [(0, _), (1, _)]) cB rfl (cells := [_, _, _, _, _, _, _, _, _]) rfl) ?_)))); refine aV rfl rfl aJ (F.blk0 I) rfl rfl ⟨rfl, rfl, rfl, rfl, rfl, rfl, rfl, rfl, rfl, trivial⟩ fun c0 a0 a3 => ?_
   try simp only [cH, Nat.reduceAdd] at a0
   refine wnn (aK (bT rfl (ResOk.cellA rfl bF aJ a0 rfl) ?_)); refine ⟨⟨_, [], rfl, ?_, Fr.nil _⟩, (J.step a3 E.mem1)⟩; rw [IC h0 h1 (.inr (Classical.not_not.1 G))]; exact EL _ _
  refine aP (aP (aP (aP (bR (wnn (cF rfl ?_)))))); refine aN (aC (csr (aA (aB (cI (vs := [(0, _), (1, _)]) cB rfl (cells := [_, _, _, _, _, _, _, _, _]) rfl) ?_)))); refine aV rfl rfl aJ I rfl rfl ⟨rfl, rfl, rfl, rfl, rfl, rfl, rfl, rfl, rfl, trivial⟩ fun c1 a1 a4 => ?_
  try simp only [cH, Nat.reduceAdd] at a1
  refine wnn (aK (bT rfl (ResOk.cellA rfl bF aJ a1 rfl) ?_)); refine ⟨⟨_, [], rfl, ?_, Fr.nil _⟩, ((H.then D).step a4 E.mem1)⟩; rw [IC h0 h1 (.inl B)]; exact EL _ _
theorem jE {w : World} {s : ByteArray} {l : List (Int × Int)} (hs : s.size ≤ 1000) (h : prs s (s.size / 2) = l) : Calls Tryz.prog 96 #[.string s] w (Ret fun v w' => KN w w' v l ∧ Evo [] w w') := by
  rw [← h]; exact PQ s hs
def SeOut (w w' : World) (v : Value) (o : Option (Int → Prop)) (n : Nat) : Prop := (o = none ∧ v = .slice none 0 0) ∨ ∃ S a c ob l, o = some S ∧ v = .slice a l.length c ∧ OwnS w' 56 2 a l.length c (cS l) ob ∧ Ge w ob ∧ Vr l ∧ (∀ c, InR c l ↔ S c) ∧ 0 < l.length ∧ l.length ≤ n
def shI (c : Int) : Option (Int → Prop) := if 0 ≤ c then tW c.toNat else none
theorem DN {c : Int} (h : c ≠ 100 ∧ c ≠ 115 ∧ c ≠ 119 ∧ c ≠ 68 ∧ c ≠ 83 ∧ c ≠ 87) : shI c = none := by
  unfold shI
  split
  · exact mI ⟨by omega, by omega, by omega, by omega, by omega, by omega⟩
  · rfl
theorem nO {w w' : World} {v : Value} {l : List (Int × Int)} {o : Option (Int → Prop)} (h : KN w w' v l) (ho : o = some (rs l)) (hv : l.all (fun g => decide (0 ≤ g.1) && decide (g.1 ≤ g.2) && decide (g.2 ≤ 1114111)) = true) (h0 : 0 < l.length) {n : Nat} (h8 : l.length ≤ n) : SeOut w w' v o n := by
  obtain ⟨a, c, ob, h1, h2, h3⟩ := h
  exact .inr ⟨rs l, a, c, ob, l, ho, h1, h2, h3, jC hv, fun c => Iff.rfl, h0, h8⟩
def ShC (c : Int) (n : Nat) : Prop := ∀ w : World, Calls Tryz.prog 121 #[.int .i32 c] w (Ret fun v w' => SeOut w w' v (shI c) n ∧ Evo [] w w')
theorem zG (c : Int) (n : Nat) (hn : 8 ≤ n) (h0 : -1 ≤ c) (h1 : c ≤ 1114111) (ih : c = 68 ∨ c = 83 ∨ c = 87 → 9 ≤ n ∧ ShC (c + 32) 8) : ShC c n := by
  intro w; refine bE (N := 22) Tryz.func121 rfl rfl rfl ?_; refine csr (wan (aM (csr (aA (wnn (bK (csr (wel ?_)))))))); refine wan (aZ rfl (fun hc4 => ?_) (fun hc4 => ?_))
  ·refine csr ?_; refine aG (vs := [_]) eY rfl (jE (s := (ByteArray.mk #[48, 57])) (l := [(48, 57)]) (by decide) (by decide +kernel)) rfl ?_; rintro _ w1 ⟨hL, hw2⟩; refine wan (aK (aO (aE (br1 ?_))))
   obtain rfl : c = 100 := by omega
   exact ⟨nO hL rfl (by kernel_rfl) (by decide) (Nat.le_trans (by decide) hn), ((Evo.refl [] w).then hw2)⟩
  refine csr (wel ?_); refine wan (aZ rfl (fun hc7 => ?_) (fun hc7 => ?_))
  ·refine csr ?_; refine aG (vs := [_]) eY rfl (jE (s := (ByteArray.mk #[9, 10, 12, 13, 32, 32])) (l := [(9, 10), (12, 13), (32, 32)]) (by decide) (by decide +kernel)) rfl ?_; rintro _ w4 ⟨hL, hw5⟩; refine wan (aK (aO (aE (br1 ?_))))
   obtain rfl : c = 115 := by omega
   exact ⟨nO hL rfl (by kernel_rfl) (by decide) (Nat.le_trans (by decide) hn), ((Evo.refl [] w).then hw5)⟩
  refine csr (wel ?_); refine wan (aZ rfl (fun hc10 => ?_) (fun hc10 => ?_))
  ·refine csr ?_; refine aG (vs := [_]) eY rfl (jE (s := (ByteArray.mk #[48, 57, 65, 90, 95, 95, 97, 122])) (l := [(48, 57), (65, 90), (95, 95), (97, 122)]) (by decide) (by decide +kernel)) rfl ?_; rintro _ w7 ⟨hL, hw8⟩; refine wan (aK (aO (aE (br1 ?_))))
   obtain rfl : c = 119 := by omega
   exact ⟨nO hL rfl (by kernel_rfl) (by decide) (Nat.le_trans (by decide) hn), ((Evo.refl [] w).then hw8)⟩
  refine aM (csr (wel ?_)); refine wan (aZ rfl (fun hc13 => ?_) (fun hc13 => ?_))
  ·refine aN (aC (aZ rfl (fun hc13 => ?_) (fun hc13 => ?_)))
   ·refine csr (aA ?_); refine aB (fA rfl rfl (by omega) (by omega)) ?_; refine aG (vs := [_]) mU rfl ((ih (by omega)).2 _) rfl ?_; rintro v9 w10 ⟨hSe, hw11⟩; have hE12 := (Evo.refl [] w).then hw11; have hV1 := hE12
    have hcc : c = 68 ∨ c = 83 ∨ c = 87 := by omega
    obtain ⟨h9, -⟩ | ⟨S, a1, c1, ob1, l, hS1, rfl, hO1, hg1, hv1, heq1, hl0, hl8⟩ := hSe
    · exfalso; rcases hcc with rfl | rfl | rfl <;> (revert h9; decide)
    have hc8 : shI c = some (lO S) := by rcases hcc with rfl | rfl | rfl <;> (have h9 := Option.some.inj hS1; rw [← h9]; rfl)
    have h0S : ¬ S 0 := by rcases hcc with rfl | rfl | rfl <;> (have h9 := Option.some.inj hS1; rw [← h9]; rintro ⟨g, hg, hg1, hg2⟩; revert g; decide)
    refine aG (vs := [_]) kO rfl (oN hO1 hv1 (by omega) heq1) rfl ?_; rintro _ w13 ⟨a3, c3, ob3, rfl, hO3, hg3, hl3, hcan3, heq3, hw14⟩; refine aG (vs := [_]) kH rfl (tP hO3 hcan3 (by omega) heq3) rfl ?_; rintro _ w19 ⟨a2, c2, ob2, rfl, hO2, hg2, hl2, hcan2, heq2, hw20⟩
    have hne : 0 < (iA (lO S)).length := by rcases h9 : iA (lO S) with _ | ⟨g, r⟩; (have h8 := (heq2 0).2 ⟨by decide, by decide, h0S⟩; rw [h9] at h8; exact (kU 0 h8).elim); simp
    have hn9 := (ih hcc).1
    have hle8 : (iA (lO S)).length ≤ n := by omega
    refine wan (aK (aO (aE (br1 ?_)))); exact ⟨.inr ⟨lO S, a2, c2, ob2, iA (lO S), hc8, rfl, hO2, (Ge.fresh (hE12.then hw14) hg2), oD hcan2, heq2, hne, hle8⟩, ((hE12.then hw14).then hw20)⟩
   refine aN (aQ (aC (csr (wan (aK (br1 ?_)))))); exact ⟨.inl ⟨DN ⟨by omega, by omega, by omega, by omega, by omega, by omega⟩, rfl⟩, (Evo.refl [] w)⟩
  refine csr (wel ?_); refine wan (aZ rfl (fun hc13 => ?_) (fun hc13 => ?_))
  ·refine aN (aC (aZ rfl (fun hc13 => ?_) (fun hc13 => ?_)))
   ·refine csr (aA ?_); refine aB (fA rfl rfl (by omega) (by omega)) ?_; refine aG (vs := [_]) mU rfl ((ih (by omega)).2 _) rfl ?_; rintro v9 w27 ⟨hSe, hw28⟩; have hE29 := (Evo.refl [] w).then hw28; have hV1 := hE29
    have hcc : c = 68 ∨ c = 83 ∨ c = 87 := by omega
    obtain ⟨h9, -⟩ | ⟨S, a1, c1, ob1, l, hS1, rfl, hO1, hg1, hv1, heq1, hl0, hl8⟩ := hSe
    · exfalso; rcases hcc with rfl | rfl | rfl <;> (revert h9; decide)
    have hc8 : shI c = some (lO S) := by rcases hcc with rfl | rfl | rfl <;> (have h9 := Option.some.inj hS1; rw [← h9]; rfl)
    have h0S : ¬ S 0 := by rcases hcc with rfl | rfl | rfl <;> (have h9 := Option.some.inj hS1; rw [← h9]; rintro ⟨g, hg, hg1, hg2⟩; revert g; decide)
    refine aG (vs := [_]) kO rfl (oN hO1 hv1 (by omega) heq1) rfl ?_; rintro _ w30 ⟨a3, c3, ob3, rfl, hO3, hg3, hl3, hcan3, heq3, hw31⟩; refine aG (vs := [_]) kH rfl (tP hO3 hcan3 (by omega) heq3) rfl ?_; rintro _ w36 ⟨a2, c2, ob2, rfl, hO2, hg2, hl2, hcan2, heq2, hw37⟩
    have hne : 0 < (iA (lO S)).length := by rcases h9 : iA (lO S) with _ | ⟨g, r⟩; (have h8 := (heq2 0).2 ⟨by decide, by decide, h0S⟩; rw [h9] at h8; exact (kU 0 h8).elim); simp
    have hn9 := (ih hcc).1
    have hle8 : (iA (lO S)).length ≤ n := by omega
    refine wan (aK (aO (aE (br1 ?_)))); exact ⟨.inr ⟨lO S, a2, c2, ob2, iA (lO S), hc8, rfl, hO2, (Ge.fresh (hE29.then hw31) hg2), oD hcan2, heq2, hne, hle8⟩, ((hE29.then hw31).then hw37)⟩
   refine aN (aQ (aC (csr (wan (aK (br1 ?_)))))); exact ⟨.inl ⟨DN ⟨by omega, by omega, by omega, by omega, by omega, by omega⟩, rfl⟩, (Evo.refl [] w)⟩
  refine aF (wel ?_); refine wan (aZ rfl (fun hc13 => ?_) (fun hc13 => ?_))
  ·refine csr (aA ?_); refine aB (fA rfl rfl (by omega) (by omega)) ?_; refine aG (vs := [_]) mU rfl ((ih (by omega)).2 _) rfl ?_; rintro v9 w44 ⟨hSe, hw45⟩; have hE46 := (Evo.refl [] w).then hw45; have hV1 := hE46
   have hcc : c = 68 ∨ c = 83 ∨ c = 87 := by omega
   obtain ⟨h9, -⟩ | ⟨S, a1, c1, ob1, l, hS1, rfl, hO1, hg1, hv1, heq1, hl0, hl8⟩ := hSe
   · exfalso; rcases hcc with rfl | rfl | rfl <;> (revert h9; decide)
   have hc8 : shI c = some (lO S) := by rcases hcc with rfl | rfl | rfl <;> (have h9 := Option.some.inj hS1; rw [← h9]; rfl)
   have h0S : ¬ S 0 := by rcases hcc with rfl | rfl | rfl <;> (have h9 := Option.some.inj hS1; rw [← h9]; rintro ⟨g, hg, hg1, hg2⟩; revert g; decide)
   refine aG (vs := [_]) kO rfl (oN hO1 hv1 (by omega) heq1) rfl ?_; rintro _ w47 ⟨a3, c3, ob3, rfl, hO3, hg3, hl3, hcan3, heq3, hw48⟩; refine aG (vs := [_]) kH rfl (tP hO3 hcan3 (by omega) heq3) rfl ?_; rintro _ w53 ⟨a2, c2, ob2, rfl, hO2, hg2, hl2, hcan2, heq2, hw54⟩
   have hne : 0 < (iA (lO S)).length := by rcases h9 : iA (lO S) with _ | ⟨g, r⟩; (have h8 := (heq2 0).2 ⟨by decide, by decide, h0S⟩; rw [h9] at h8; exact (kU 0 h8).elim); simp
   have hn9 := (ih hcc).1
   have hle8 : (iA (lO S)).length ≤ n := by omega
   refine wan (aK (aO (aE (br1 ?_)))); exact ⟨.inr ⟨lO S, a2, c2, ob2, iA (lO S), hc8, rfl, hO2, (Ge.fresh (hE46.then hw48) hg2), oD hcan2, heq2, hne, hle8⟩, ((hE46.then hw48).then hw54)⟩
  refine aN (aQ (aC (csr (wan (aK (br1 ?_)))))); exact ⟨.inl ⟨DN ⟨by omega, by omega, by omega, by omega, by omega, by omega⟩, rfl⟩, (Evo.refl [] w)⟩
theorem SA {w : World} (c : Int) (h0 : -1 ≤ c) (h1 : c ≤ 1114111) : Calls Tryz.prog 121 #[.int .i32 c] w (Ret fun v w' => SeOut w w' v (shI c) 9 ∧ Evo [] w w') :=
  zG c 9 (by decide) h0 h1 (fun h => ⟨Nat.le_refl _, zG (c + 32) 8 (Nat.le_refl _) (by omega) (by omega) (fun h2 => by omega)⟩) w
theorem nam_4 : fW (asc [97, 108, 110, 117, 109]) = some (rs [(48, 57), (65, 90), (97, 122)]) := by
  unfold fW
  rw [if_pos rfl]
theorem nam_7 : fW (asc [97, 108, 112, 104, 97]) = some (rs [(65, 90), (97, 122)]) := by
  unfold fW
  rw [if_neg (by decide +kernel), if_pos rfl]
theorem nam_10 : fW (asc [97, 115, 99, 105, 105]) = some (rs [(0, 127)]) := by
  unfold fW
  rw [if_neg (by decide +kernel), if_neg (by decide +kernel), if_pos rfl]
theorem nam_13 : fW (asc [98, 108, 97, 110, 107]) = some (rs [(9, 9), (32, 32)]) := by
  unfold fW
  rw [if_neg (by decide +kernel), if_neg (by decide +kernel), if_neg (by decide +kernel), if_pos rfl]
theorem nam_16 : fW (asc [99, 110, 116, 114, 108]) = some (rs [(0, 31), (127, 127)]) := by
  unfold fW
  rw [if_neg (by decide +kernel), if_neg (by decide +kernel), if_neg (by decide +kernel), if_neg (by decide +kernel), if_pos rfl]
theorem nam_19 : fW (asc [100, 105, 103, 105, 116]) = some (rs [(48, 57)]) := by
  unfold fW
  rw [if_neg (by decide +kernel), if_neg (by decide +kernel), if_neg (by decide +kernel), if_neg (by decide +kernel), if_neg (by decide +kernel), if_pos rfl]
theorem nam_22 : fW (asc [103, 114, 97, 112, 104]) = some (rs [(33, 126)]) := by
  unfold fW
  rw [if_neg (by decide +kernel), if_neg (by decide +kernel), if_neg (by decide +kernel), if_neg (by decide +kernel), if_neg (by decide +kernel), if_neg (by decide +kernel), if_pos rfl]
theorem nam_25 : fW (asc [108, 111, 119, 101, 114]) = some (rs [(97, 122)]) := by
  unfold fW
  rw [if_neg (by decide +kernel), if_neg (by decide +kernel), if_neg (by decide +kernel), if_neg (by decide +kernel), if_neg (by decide +kernel), if_neg (by decide +kernel), if_neg (by decide +kernel), if_pos rfl]
theorem nam_28 : fW (asc [112, 114, 105, 110, 116]) = some (rs [(32, 126)]) := by
  unfold fW
  rw [if_neg (by decide +kernel), if_neg (by decide +kernel), if_neg (by decide +kernel), if_neg (by decide +kernel), if_neg (by decide +kernel), if_neg (by decide +kernel), if_neg (by decide +kernel), if_neg (by decide +kernel), if_pos rfl]
theorem nam_31 : fW (asc [112, 117, 110, 99, 116]) = some (rs [(33, 47), (58, 64), (91, 96), (123, 126)]) := by
  unfold fW
  rw [if_neg (by decide +kernel), if_neg (by decide +kernel), if_neg (by decide +kernel), if_neg (by decide +kernel), if_neg (by decide +kernel), if_neg (by decide +kernel), if_neg (by decide +kernel), if_neg (by decide +kernel), if_neg (by decide +kernel), if_pos rfl]
theorem nam_34 : fW (asc [115, 112, 97, 99, 101]) = some (rs [(9, 13), (32, 32)]) := by
  unfold fW
  rw [if_neg (by decide +kernel), if_neg (by decide +kernel), if_neg (by decide +kernel), if_neg (by decide +kernel), if_neg (by decide +kernel), if_neg (by decide +kernel), if_neg (by decide +kernel), if_neg (by decide +kernel), if_neg (by decide +kernel), if_neg (by decide +kernel), if_pos rfl]
theorem nam_37 : fW (asc [117, 112, 112, 101, 114]) = some (rs [(65, 90)]) := by
  unfold fW
  rw [if_neg (by decide +kernel), if_neg (by decide +kernel), if_neg (by decide +kernel), if_neg (by decide +kernel), if_neg (by decide +kernel), if_neg (by decide +kernel), if_neg (by decide +kernel), if_neg (by decide +kernel), if_neg (by decide +kernel), if_neg (by decide +kernel), if_neg (by decide +kernel), if_pos rfl]
theorem nam_40 : fW (asc [119, 111, 114, 100]) = some (rs [(48, 57), (65, 90), (95, 95), (97, 122)]) := by
  unfold fW
  rw [if_neg (by decide +kernel), if_neg (by decide +kernel), if_neg (by decide +kernel), if_neg (by decide +kernel), if_neg (by decide +kernel), if_neg (by decide +kernel), if_neg (by decide +kernel), if_neg (by decide +kernel), if_neg (by decide +kernel), if_neg (by decide +kernel), if_neg (by decide +kernel), if_neg (by decide +kernel), if_pos rfl]
theorem nam_43 : fW (asc [120, 100, 105, 103, 105, 116]) = some (rs [(48, 57), (65, 70), (97, 102)]) := by
  unfold fW
  rw [if_neg (by decide +kernel), if_neg (by decide +kernel), if_neg (by decide +kernel), if_neg (by decide +kernel), if_neg (by decide +kernel), if_neg (by decide +kernel), if_neg (by decide +kernel), if_neg (by decide +kernel), if_neg (by decide +kernel), if_neg (by decide +kernel), if_neg (by decide +kernel), if_neg (by decide +kernel), if_neg (by decide +kernel), if_pos rfl]
theorem set_ok {w : World} (n : ByteArray) : Calls Tryz.prog 137 #[.string n] w (Ret fun v w' => SeOut w w' v (fW n) 8 ∧ Evo [] w w') := by
  refine bE (N := 46) Tryz.func137 rfl rfl rfl ?_; refine csr (wan (aM (csr (aA (wnn (bK (csr (aB (fX rfl rfl) ?_)))))))); refine wan (aZ rfl (fun V => ?_) (fun V => ?_))
  ·refine csr ?_; refine aG (vs := [_]) eY rfl (jE (s := (ByteArray.mk #[48, 57, 65, 90, 97, 122])) (l := [(48, 57), (65, 90), (97, 122)]) (by decide) (by decide +kernel)) rfl ?_; rintro _ w1 ⟨hL, a9⟩; refine wan (aK (aO (aE (br1 ?_))))
   exact ⟨nO hL (by rw [show n = asc [97, 108, 110, 117, 109] from V]; exact nam_4) (by kernel_rfl) (by decide) (by decide), ((Evo.refl [] w).then a9)⟩
  refine csr (aB (fX rfl rfl) ?_); refine wan (aZ rfl (fun W => ?_) (fun W => ?_))
  ·refine csr ?_; refine aG (vs := [_]) eY rfl (jE (s := (ByteArray.mk #[65, 90, 97, 122])) (l := [(65, 90), (97, 122)]) (by decide) (by decide +kernel)) rfl ?_; rintro _ w4 ⟨hL, b4⟩; refine wan (aK (aO (aE (br1 ?_))))
   exact ⟨nO hL (by rw [show n = asc [97, 108, 112, 104, 97] from W]; exact nam_7) (by kernel_rfl) (by decide) (by decide), ((Evo.refl [] w).then b4)⟩
  refine csr (aB (fX rfl rfl) ?_); refine wan (aZ rfl (fun B => ?_) (fun B => ?_))
  ·refine csr ?_; refine aG (vs := [_]) eY rfl (jE (s := (ByteArray.mk #[0, 127])) (l := [(0, 127)]) (by decide) (by decide +kernel)) rfl ?_; rintro _ w7 ⟨hL, b5⟩; refine wan (aK (aO (aE (br1 ?_))))
   exact ⟨nO hL (by rw [show n = asc [97, 115, 99, 105, 105] from B]; exact nam_10) (by kernel_rfl) (by decide) (by decide), ((Evo.refl [] w).then b5)⟩
  refine csr (aB (fX rfl rfl) ?_); refine wan (aZ rfl (fun D => ?_) (fun D => ?_))
  ·refine csr ?_; refine aG (vs := [_]) eY rfl (jE (s := (ByteArray.mk #[9, 9, 32, 32])) (l := [(9, 9), (32, 32)]) (by decide) (by decide +kernel)) rfl ?_; rintro _ b6 ⟨hL, Y⟩; refine wan (aK (aO (aE (br1 ?_))))
   exact ⟨nO hL (by rw [show n = asc [98, 108, 97, 110, 107] from D]; exact nam_13) (by kernel_rfl) (by decide) (by decide), ((Evo.refl [] w).then Y)⟩
  refine csr (aB (fX rfl rfl) ?_); refine wan (aZ rfl (fun E => ?_) (fun E => ?_))
  ·refine csr ?_; refine aG (vs := [_]) eY rfl (jE (s := (ByteArray.mk #[0, 31, 127, 127])) (l := [(0, 31), (127, 127)]) (by decide) (by decide +kernel)) rfl ?_; rintro _ b7 ⟨hL, Z⟩; refine wan (aK (aO (aE (br1 ?_))))
   exact ⟨nO hL (by rw [show n = asc [99, 110, 116, 114, 108] from E]; exact nam_16) (by kernel_rfl) (by decide) (by decide), ((Evo.refl [] w).then Z)⟩
  refine csr (aB (fX rfl rfl) ?_); refine wan (aZ rfl (fun F => ?_) (fun F => ?_))
  ·refine csr ?_; refine aG (vs := [_]) eY rfl (jE (s := (ByteArray.mk #[48, 57])) (l := [(48, 57)]) (by decide) (by decide +kernel)) rfl ?_; rintro _ b8 ⟨hL, a0⟩; refine wan (aK (aO (aE (br1 ?_))))
   exact ⟨nO hL (by rw [show n = asc [100, 105, 103, 105, 116] from F]; exact nam_19) (by kernel_rfl) (by decide) (by decide), ((Evo.refl [] w).then a0)⟩
  refine csr (aB (fX rfl rfl) ?_); refine wan (aZ rfl (fun G => ?_) (fun G => ?_))
  ·refine csr ?_; refine aG (vs := [_]) eY rfl (jE (s := (ByteArray.mk #[33, 126])) (l := [(33, 126)]) (by decide) (by decide +kernel)) rfl ?_; rintro _ b9 ⟨hL, a1⟩; refine wan (aK (aO (aE (br1 ?_))))
   exact ⟨nO hL (by rw [show n = asc [103, 114, 97, 112, 104] from G]; exact nam_22) (by kernel_rfl) (by decide) (by decide), ((Evo.refl [] w).then a1)⟩
  refine csr (aB (fX rfl rfl) ?_); refine wan (aZ rfl (fun H => ?_) (fun H => ?_))
  ·refine csr ?_; refine aG (vs := [_]) eY rfl (jE (s := (ByteArray.mk #[97, 122])) (l := [(97, 122)]) (by decide) (by decide +kernel)) rfl ?_; rintro _ c0 ⟨hL, a2⟩; refine wan (aK (aO (aE (br1 ?_))))
   exact ⟨nO hL (by rw [show n = asc [108, 111, 119, 101, 114] from H]; exact nam_25) (by kernel_rfl) (by decide) (by decide), ((Evo.refl [] w).then a2)⟩
  refine csr (aB (fX rfl rfl) ?_); refine wan (aZ rfl (fun I => ?_) (fun I => ?_))
  ·refine csr ?_; refine aG (vs := [_]) eY rfl (jE (s := (ByteArray.mk #[32, 126])) (l := [(32, 126)]) (by decide) (by decide +kernel)) rfl ?_; rintro _ c1 ⟨hL, a3⟩; refine wan (aK (aO (aE (br1 ?_))))
   exact ⟨nO hL (by rw [show n = asc [112, 114, 105, 110, 116] from I]; exact nam_28) (by kernel_rfl) (by decide) (by decide), ((Evo.refl [] w).then a3)⟩
  refine csr (aB (fX rfl rfl) ?_); refine wan (aZ rfl (fun J => ?_) (fun J => ?_))
  ·refine csr ?_; refine aG (vs := [_]) eY rfl (jE (s := (ByteArray.mk #[33, 47, 58, 64, 91, 96, 123, 126])) (l := [(33, 47), (58, 64), (91, 96), (123, 126)]) (by decide) (by decide +kernel)) rfl ?_; rintro _ c3 ⟨hL, a4⟩; refine wan (aK (aO (aE (br1 ?_))))
   exact ⟨nO hL (by rw [show n = asc [112, 117, 110, 99, 116] from J]; exact nam_31) (by kernel_rfl) (by decide) (by decide), ((Evo.refl [] w).then a4)⟩
  refine csr (aB (fX rfl rfl) ?_); refine wan (aZ rfl (fun L => ?_) (fun L => ?_))
  ·refine csr ?_; refine aG (vs := [_]) eY rfl (jE (s := (ByteArray.mk #[9, 13, 32, 32])) (l := [(9, 13), (32, 32)]) (by decide) (by decide +kernel)) rfl ?_; rintro _ c4 ⟨hL, a5⟩; refine wan (aK (aO (aE (br1 ?_))))
   exact ⟨nO hL (by rw [show n = asc [115, 112, 97, 99, 101] from L]; exact nam_34) (by kernel_rfl) (by decide) (by decide), ((Evo.refl [] w).then a5)⟩
  refine csr (aB (fX rfl rfl) ?_); refine wan (aZ rfl (fun M => ?_) (fun M => ?_))
  ·refine csr ?_; refine aG (vs := [_]) eY rfl (jE (s := (ByteArray.mk #[65, 90])) (l := [(65, 90)]) (by decide) (by decide +kernel)) rfl ?_; rintro _ c5 ⟨hL, a6⟩; refine wan (aK (aO (aE (br1 ?_))))
   exact ⟨nO hL (by rw [show n = asc [117, 112, 112, 101, 114] from M]; exact nam_37) (by kernel_rfl) (by decide) (by decide), ((Evo.refl [] w).then a6)⟩
  refine csr (aB (fX rfl rfl) ?_); refine wan (aZ rfl (fun O => ?_) (fun O => ?_))
  ·refine csr ?_; refine aG (vs := [_]) eY rfl (jE (s := (ByteArray.mk #[48, 57, 65, 90, 95, 95, 97, 122])) (l := [(48, 57), (65, 90), (95, 95), (97, 122)]) (by decide) (by decide +kernel)) rfl ?_; rintro _ c6 ⟨hL, a7⟩; refine wan (aK (aO (aE (br1 ?_))))
   exact ⟨nO hL (by rw [show n = asc [119, 111, 114, 100] from O]; exact nam_40) (by kernel_rfl) (by decide) (by decide), ((Evo.refl [] w).then a7)⟩
  refine csr (aB (fX rfl rfl) ?_); refine wan (aZ rfl (fun U => ?_) (fun U => ?_))
  ·refine csr ?_; refine aG (vs := [_]) eY rfl (jE (s := (ByteArray.mk #[48, 57, 65, 70, 97, 102])) (l := [(48, 57), (65, 70), (97, 102)]) (by decide) (by decide +kernel)) rfl ?_; rintro _ c7 ⟨hL, a8⟩; refine wan (aK (aO (aE (br1 ?_))))
   exact ⟨nO hL (by rw [show n = asc [120, 100, 105, 103, 105, 116] from U]; exact nam_43) (by kernel_rfl) (by decide) (by decide), ((Evo.refl [] w).then a8)⟩
  refine aN (aQ (aC (csr (wan (aK (br1 ?_)))))); refine ⟨.inl ⟨?_, rfl⟩, (Evo.refl [] w)⟩; unfold fW; rw [if_neg (show ¬ n = asc [97, 108, 110, 117, 109] from V), if_neg (show ¬ n = asc [97, 108, 112, 104, 97] from W), if_neg (show ¬ n = asc [97, 115, 99, 105, 105] from B), if_neg (show ¬ n = asc [98, 108, 97, 110, 107] from D), if_neg (show ¬ n = asc [99, 110, 116, 114, 108] from E), if_neg (show ¬ n = asc [100, 105, 103, 105, 116] from F), if_neg (show ¬ n = asc [103, 114, 97, 112, 104] from G), if_neg (show ¬ n = asc [108, 111, 119, 101, 114] from H), if_neg (show ¬ n = asc [112, 114, 105, 110, 116] from I), if_neg (show ¬ n = asc [112, 117, 110, 99, 116] from J), if_neg (show ¬ n = asc [115, 112, 97, 99, 101] from L), if_neg (show ¬ n = asc [117, 112, 112, 101, 114] from M), if_neg (show ¬ n = asc [119, 111, 114, 100] from O), if_neg (show ¬ n = asc [120, 100, 105, 103, 105, 116] from U)]
theorem sQ : dW Tryz.prog 67 := ⟨_, Tryz.func67, by kernel_rfl, by kernel_rfl⟩
theorem nY : dW Tryz.prog 94 := ⟨_, Tryz.func94, by kernel_rfl, by kernel_rfl⟩
noncomputable def wV (s : ByteArray) (i : Nat) (fl : Fl) : Except Int (Rx × Nat) :=
  if s.size ≤ i + 1 then .error 83 else if sb s (i + 1) = 65 then .ok (rxK 8, i + 2) else if sb s (i + 1) = 122 then .ok (rxK 9, i + 2) else if sb s (i + 1) = 98 then .ok (rxK 12, i + 2) else if sb s (i + 1) = 66 then .ok (rxK 13, i + 2)
  else match tW (sb s (i + 1)) with
    | some S => .ok (jX S, i + 2)
    | none => match lN s i with
      | .error e => .error e
      | .ok (v, j) => .ok (lP fl v, j)
theorem esc_q {s : ByteArray} {st : PS} (h : sb s (st.pos + 1) ≠ 81) : gJ s st = match wV s st.pos st.now with | .error e => .error e | .ok (x, j) => .ok ([x], { st with pos := j }) := by
  unfold gJ wV
  rw [if_neg h]
  split
  · rfl
  split
  · rfl
  split
  · rfl
  split
  · rfl
  split
  · rfl
  cases tW (sb s (st.pos + 1)) with
  | some S => rfl
  | none =>
    simp only
    cases lN s st.pos with
    | error e => rfl
    | ok q => rfl
def TrO (w w' : World) (v : Value) (x : Rx) : Prop := ∃ vs bs, v = .agg vs.toArray ∧ OT x w' vs bs ∧ Fr w bs
theorem EM (c : Int) (w : World) : OT (rxK c) w [iv c, .int .i32 0, .slice none 0 0, iv 0, iv 0, .bool false, iv 0, .string ByteArray.empty, .slice none 0 0] [] := by
  unfold rxK
  rw [OT]
  exact ⟨none, 0, none, none, 0, none, [], [], rfl, OwnS.nil _ _ _, OwnS.nil _ _ _, OTs.nil w, rfl, by simp, by show (0 : Nat) ≤ 1000000; omega, by simp⟩
def SeU (w w' : World) (v : Value) (o : Option (Int → Prop)) (n : Nat) : Prop := ∃ a c ob l, v = .slice a l.length c ∧ OwnS w' 56 2 a l.length c (cS l) ob ∧ Ge w ob ∧ Vr l ∧ l.length ≤ n ∧ ((o = none ∧ l = []) ∨ ∃ S, o = some S ∧ (∀ c, InR c l ↔ S c) ∧ 0 < l.length)
theorem SeOut.uni {w w' : World} {v : Value} {o : Option (Int → Prop)} {n : Nat} (h : SeOut w w' v o n) : SeU w w' v o n := by
  rcases h with ⟨h1, rfl⟩ | ⟨S, a, c, ob, l, h1, h2, h3, h4, h5, h6, h7, h8⟩
  · exact ⟨none, 0, none, [], rfl, OwnS.nil _ _ _, Ge.nil _, (fun g hg => by cases hg), Nat.zero_le _, .inl ⟨h1, rfl⟩⟩
  · exact ⟨a, c, ob, l, h2, h3, h4, h5, h8, .inr ⟨S, h1, h6, h7⟩⟩
theorem SB {w : World} (c : Int) (h0 : -1 ≤ c) (h1 : c ≤ 1114111) : Calls Tryz.prog 121 #[.int .i32 c] w (Ret fun v w' => SeU w w' v (shI c) 9 ∧ Evo [] w w') :=
  (SA c h0 h1).mono fun _ _ ⟨v, h, h2, h3⟩ => ⟨v, h, h2.uni, h3⟩
theorem set9 {w : World} (n : ByteArray) : Calls Tryz.prog 137 #[.string n] w (Ret fun v w' => SeU w w' v (fW n) 8 ∧ Evo [] w w') :=
  (set_ok n).mono fun _ _ ⟨v, h, h2, h3⟩ => ⟨v, h, h2.uni, h3⟩
def PcO (s : ByteArray) (N b : Nat) (m : RfM) (o : Nat) (ns : List ByteArray) (k : Nat) (w w' : World) (v : Value) (R : Except Int (Rx × Nat)) : Prop :=
  (∃ x k', R = .ok (x, aU s k') ∧ k < k' ∧ k' ≤ N ∧ TrO w w' v x ∧ RfAt w' b s N ⟨k', o, ns, 0⟩ m) ∨ (∃ e k', R = .error e ∧ e ≠ 0 ∧ k' ≤ N + 1 ∧ Jk v ∧ RfAt w' b s N ⟨k', o, ns, e⟩ m)
section
variable {s : ByteArray} {N k : Nat} {fl : Fl} (hU : Utf s N) (hk : k < N) (h92 : rn s N k = 92)
include hU hk h92
theorem eq_k {b : Nat} {q : Int} (h : (b = 65 ∧ q = 8) ∨ (b = 122 ∧ q = 9) ∨ (b = 98 ∧ q = 12) ∨ (b = 66 ∧ q = 13)) (hr : rn s N (k + 1) = (b : Int)) : wV s (aU s k) fl = .ok (rxK q, aU s (k + 2)) ∧ k + 2 ≤ N := by
  obtain ⟨h1, h2, h3, h4⟩ := HQ hU hk h92 (by omega) hr
  refine ⟨?_, h4⟩
  unfold wV
  rw [if_neg h2, h1, h3]
  rcases h with ⟨rfl, rfl⟩ | ⟨rfl, rfl⟩ | ⟨rfl, rfl⟩ | ⟨rfl, rfl⟩ <;> rfl
theorem DO (hk1 : k + 1 < N) : shI (rn s N (k + 1)) = tW (sb s (aU s k + 1)) := by
  have h0 := (yD hU hk h92).1
  have hnn : 0 ≤ rn s N (k + 1) := by rw [nP hk1]; exact ((hU.bd (Nat.le_of_lt hk1)).next (gA hU hk1)).2.2.2.1
  unfold shI
  rw [if_pos hnn]
  rcases Int.lt_or_le (rn s N (k + 1)) 128 with h8 | h8
  · have hb := (pT hU hk1 h8).1
    rw [h0] at hb
    rw [show (rn s N (k + 1)).toNat = sb s (aU s k + 1) by omega]
  · have hb := rn_hi hU hk1 h8
    rw [h0] at hb
    rw [mI ⟨by omega, by omega, by omega, by omega, by omega, by omega⟩, mI ⟨by omega, by omega, by omega, by omega, by omega, by omega⟩]
theorem IF {S : Int → Prop} (h : shI (rn s N (k + 1)) = some S) : k + 1 < N := by
  rcases Nat.lt_or_ge (k + 1) N with h9 | h9
  · exact h9
  · rw [tT (by omega)] at h; cases h
theorem eq_no (k1 : rn s N (k + 1) ≠ 65) (k2 : rn s N (k + 1) ≠ 122) (k3 : rn s N (k + 1) ≠ 98) (k4 : rn s N (k + 1) ≠ 66) : wV s (aU s k) fl = if s.size ≤ aU s k + 1 then .error 83 else match tW (sb s (aU s k + 1)) with
    | some S => .ok (jX S, aU s k + 2)
    | none => match lN s (aU s k) with
      | .error e => .error e
      | .ok (v, j) => .ok (lP fl v, j) := by
  have key : ∀ b : Nat, b < 128 → rn s N (k + 1) ≠ (b : Int) → ¬ s.size ≤ aU s k + 1 → sb s (aU s k + 1) ≠ b := fun b hb hne hz he => hne ((dS hU (yD hU hk h92).2 hb).2 (by rw [(yD hU hk h92).1]; exact ⟨by omega, he⟩))
  unfold wV
  by_cases hz : s.size ≤ aU s k + 1
  · rw [if_pos hz, if_pos hz]
  · rw [if_neg hz, if_neg hz, if_neg (key 65 (by decide) k1 hz), if_neg (key 122 (by decide) k2 hz), if_neg (key 98 (by decide) k3 hz), if_neg (key 66 (by decide) k4 hz)]
theorem eq_s (k1 : rn s N (k + 1) ≠ 65) (k2 : rn s N (k + 1) ≠ 122) (k3 : rn s N (k + 1) ≠ 98) (k4 : rn s N (k + 1) ≠ 66) {S : Int → Prop} (h : shI (rn s N (k + 1)) = some S) : wV s (aU s k) fl = .ok (jX S, aU s (k + 2)) ∧ k + 2 ≤ N := by
  have hk1 := IF hU hk h92 h
  have hl := DO hU hk h92 hk1
  have h0 := (yD hU hk h92).1
  have hlt := gA hU hk1
  rw [h0] at hlt
  rw [h] at hl
  have hlo : rn s N (k + 1) < 128 := by
    rcases Int.lt_or_le (rn s N (k + 1)) 128 with h8 | h8
    · exact h8
    · unfold shI at h
      rw [if_pos (by omega), mI ⟨by omega, by omega, by omega, by omega, by omega, by omega⟩] at h; cases h
  have h2 := (pT hU hk1 hlo).2
  rw [h0] at h2
  rw [eq_no hU hk h92 k1 k2 k3 k4, if_neg (by omega), ← hl]
  simp only
  rw [show k + 2 = k + 1 + 1 by rfl, h2]
  exact ⟨rfl, hk1⟩
theorem eq_p (k1 : rn s N (k + 1) ≠ 65) (k2 : rn s N (k + 1) ≠ 122) (k3 : rn s N (k + 1) ≠ 98) (k4 : rn s N (k + 1) ≠ 66) (h : shI (rn s N (k + 1)) = none) {r : Int} {n : Nat} (hX : EsIs s N k (lN s (aU s k)) r n) :
    (n = 0 → wV s (aU s k) fl = .error 83) ∧ (n ≠ 0 → wV s (aU s k) fl = .ok (lP fl r, aU s (k + n)) ∧ k + n ≤ N ∧ 0 ≤ r ∧ r ≤ 1114111) := by
  rw [eq_no hU hk h92 k1 k2 k3 k4]
  by_cases hz : s.size ≤ aU s k + 1
  · rw [if_pos hz]
    refine ⟨fun _ => rfl, fun hn => ?_⟩
    have := (hX.yes hn).1
    rw [uN hz] at this; cases this
  · have hk1 : k + 1 < N := tL hU (yD hU hk h92).2 (by rw [(yD hU hk h92).1]; omega)
    rw [if_neg hz, ← DO hU hk h92 hk1, h]
    refine ⟨fun hn => by rw [hX.no hn], fun hn => ?_⟩
    obtain ⟨e1, e2, e3, e4, e5⟩ := hX.yes hn
    rw [e1, e3]
    simp only
    rw [Int.toNat_of_nonneg e4]
    exact ⟨rfl, e2, e4, e5⟩
end
theorem KW {w : World} {b : Nat} {s : ByteArray} {N k o : Nat} {ns : List ByteArray} {m : RfM} (hR : RfAt w b s N ⟨k, o, ns, 0⟩ m) {fl : Fl} (hU : Utf s N) (hk : k < N) (h92 : rn s N k = 92) (hN : N ≤ 1000000) :
    Calls Tryz.prog 93 #[.pointer (some ⟨b, 0, none⟩), .agg (flv fl).toArray] w (Ret fun v w' => PcO s N b m o ns k w w' v (wV s (aU s k) fl) ∧ Evo [b] w w') := by
  have hap1 := hR.ap1; have hap2 := hR.ap2; have hap3 := hR.ap3; refine bE (N := 68) Tryz.func93 rfl rfl rfl ?_; refine csr (iM rfl rfl fun b3 w1 g8 g3 a7 => ?_); have g9 := g3; have g4 := (Evo.refl [b] w).then a7; refine cO rfl dC fun b4 i6 g6 a8 a9 => ?_; have h0 := a8; have B := Apart.new (Lt.blk (a7.blk0 hR.b0)) a8; have G := Apart.new (Lt.own (hR.run.evo0 a7)) a8; have H := Apart.new (Lt.own (hR.o0.evo0 a7)) a8; have I := Ge.new g4 a8; have e6 := a9.blk0 (a7.blk0 hR.b0); have e7 := (hR.run.evo0 a7).evo0 a9; have e8 := (hR.o0.evo0 a7).evo0 a9; refine wnn (csr (aA ?_))
  refine aG (vs := [_, _]) cJ rfl (dK (x := ⟨k, o, ns, 0⟩) ⟨e6, e7, e8⟩ 1 (by show k + 1 ≤ 1000000000; omega) (by omega)) rfl ?_
  rintro _ i7 ⟨rfl, Y⟩; have Z := (g4.then a9).then Y; have F := Y.blk0 e6; have b5 := e7.evo0 Y; have b6 := e8.evo0 Y; have a0 := Y.blk0 g6; refine wan (csr (wan (aM (csr (aA (wnn (bK (csr (wel ?_))))))))); refine wan (aZ rfl (fun b7 => ?_) (fun b7 => ?_))
  ·refine aF (bN (aR (aQ (aC (aM (csr (aA ?_))))))); refine aB (fJ (r := .bool true) rfl rfl (fun w => by kernel_rfl)) ?_; refine wnn (cZ rfl ?_); refine csr (aA (aB (aH rfl) (wfl rfl bO rfl bD F rfl ?_))); refine aB (aI rfl rfl (by omega) (by omega)) ?_; refine aB (aH rfl) (aB (aD rfl bO) (bJ rfl rfl (rfl) bY F rfl fun i8 e9 b8 => ?_))
   try simp only [cH, Nat.reduceAdd] at e9
   refine wnn (csr (aA (aB (cI (vs := [(0, _)]) cB rfl (cells := [_, _, _, _, _, _, _, _, _]) rfl) ?_))); refine aV rfl rfl aJ (b8.blk a0 B.symm.nmem1) rfl rfl ⟨rfl, rfl, rfl, rfl, rfl, rfl, rfl, rfl, rfl, trivial⟩ fun i9 f0 b9 => ?_
   try simp only [cH, Nat.reduceAdd] at f0
   refine wnn (aK (aE (bT rfl (ResOk.cellA rfl bF aJ f0 rfl) ?_))); obtain ⟨y1, y2⟩ := eq_k (fl := fl) hU hk h92 (b := 65) (q := 8) (by omega) b7; exact ⟨.inl ⟨rxK 8, k + 2, y1, by omega, y2, ⟨_, [], rfl, EM 8 _, Fr.nil _⟩, ⟨(b9.blk e9 B.nmem1), ((b5.evo b8 hap2.symm.own1).evo b9 G.own1), ((b6.evo b8 hap1.symm.own1).evo b9 H.own1)⟩⟩, ((Z.step b8 (fun y hy => .inl hy)).step b9 I.mem1)⟩
  refine csr (wel ?_); refine wan (aZ rfl (fun c0 => ?_) (fun c0 => ?_))
  ·refine aF (bN (aR (aQ (aC (aM (csr (aA ?_))))))); refine aB (fJ (r := .bool true) rfl rfl (fun w => by kernel_rfl)) ?_; refine wnn (cZ rfl ?_); refine csr (aA (aB (aH rfl) (wfl rfl bO rfl bD F rfl ?_))); refine aB (aI rfl rfl (by omega) (by omega)) ?_; refine aB (aH rfl) (aB (aD rfl bO) (bJ rfl rfl (rfl) bY F rfl fun j0 f5 c4 => ?_))
   try simp only [cH, Nat.reduceAdd] at f5
   refine wnn (csr (aA (aB (cI (vs := [(0, _)]) cB rfl (cells := [_, _, _, _, _, _, _, _, _]) rfl) ?_))); refine aV rfl rfl aJ (c4.blk a0 B.symm.nmem1) rfl rfl ⟨rfl, rfl, rfl, rfl, rfl, rfl, rfl, rfl, rfl, trivial⟩ fun j1 f6 c5 => ?_
   try simp only [cH, Nat.reduceAdd] at f6
   refine wnn (aK (aE (bT rfl (ResOk.cellA rfl bF aJ f6 rfl) ?_))); obtain ⟨y1, y2⟩ := eq_k (fl := fl) hU hk h92 (b := 122) (q := 9) (by omega) c0; exact ⟨.inl ⟨rxK 9, k + 2, y1, by omega, y2, ⟨_, [], rfl, EM 9 _, Fr.nil _⟩, ⟨(c5.blk f5 B.nmem1), ((b5.evo c4 hap2.symm.own1).evo c5 G.own1), ((b6.evo c4 hap1.symm.own1).evo c5 H.own1)⟩⟩, ((Z.step c4 (fun y hy => .inl hy)).step c5 I.mem1)⟩
  refine csr (wel ?_); refine wan (aZ rfl (fun c6 => ?_) (fun c6 => ?_))
  ·refine aF (bN (aR (aQ (aC (aM (csr (aA ?_))))))); refine aB (fJ (r := .bool true) rfl rfl (fun w => by kernel_rfl)) ?_; refine wnn (cZ rfl ?_); refine csr (aA (aB (aH rfl) (wfl rfl bO rfl bD F rfl ?_))); refine aB (aI rfl rfl (by omega) (by omega)) ?_; refine aB (aH rfl) (aB (aD rfl bO) (bJ rfl rfl (rfl) bY F rfl fun j2 f7 c7 => ?_))
   try simp only [cH, Nat.reduceAdd] at f7
   refine wnn (csr (aA (aB (cI (vs := [(0, _)]) cB rfl (cells := [_, _, _, _, _, _, _, _, _]) rfl) ?_))); refine aV rfl rfl aJ (c7.blk a0 B.symm.nmem1) rfl rfl ⟨rfl, rfl, rfl, rfl, rfl, rfl, rfl, rfl, rfl, trivial⟩ fun j3 f8 c8 => ?_
   try simp only [cH, Nat.reduceAdd] at f8
   refine wnn (aK (aE (bT rfl (ResOk.cellA rfl bF aJ f8 rfl) ?_))); obtain ⟨y1, y2⟩ := eq_k (fl := fl) hU hk h92 (b := 98) (q := 12) (by omega) c6; exact ⟨.inl ⟨rxK 12, k + 2, y1, by omega, y2, ⟨_, [], rfl, EM 12 _, Fr.nil _⟩, ⟨(c8.blk f7 B.nmem1), ((b5.evo c7 hap2.symm.own1).evo c8 G.own1), ((b6.evo c7 hap1.symm.own1).evo c8 H.own1)⟩⟩, ((Z.step c7 (fun y hy => .inl hy)).step c8 I.mem1)⟩
  refine csr (wel ?_); refine wan (aZ rfl (fun c9 => ?_) (fun c9 => ?_))
  ·refine aF (bN (aR (aQ (aC (aM (csr (aA ?_))))))); refine aB (fJ (r := .bool true) rfl rfl (fun w => by kernel_rfl)) ?_; refine wnn (cZ rfl ?_); refine csr (aA (aB (aH rfl) (wfl rfl bO rfl bD F rfl ?_))); refine aB (aI rfl rfl (by omega) (by omega)) ?_; refine aB (aH rfl) (aB (aD rfl bO) (bJ rfl rfl (rfl) bY F rfl fun j4 f9 d0 => ?_))
   try simp only [cH, Nat.reduceAdd] at f9
   refine wnn (csr (aA (aB (cI (vs := [(0, _)]) cB rfl (cells := [_, _, _, _, _, _, _, _, _]) rfl) ?_))); refine aV rfl rfl aJ (d0.blk a0 B.symm.nmem1) rfl rfl ⟨rfl, rfl, rfl, rfl, rfl, rfl, rfl, rfl, rfl, trivial⟩ fun j5 g0 d1 => ?_
   try simp only [cH, Nat.reduceAdd] at g0
   refine wnn (aK (aE (bT rfl (ResOk.cellA rfl bF aJ g0 rfl) ?_))); obtain ⟨y1, y2⟩ := eq_k (fl := fl) hU hk h92 (b := 66) (q := 13) (by omega) c9; exact ⟨.inl ⟨rxK 13, k + 2, y1, by omega, y2, ⟨_, [], rfl, EM 13 _, Fr.nil _⟩, ⟨(d1.blk f9 B.nmem1), ((b5.evo d0 hap2.symm.own1).evo d1 G.own1), ((b6.evo d0 hap1.symm.own1).evo d1 H.own1)⟩⟩, ((Z.step d0 (fun y hy => .inl hy)).step d1 I.mem1)⟩
  refine aN (aQ (aC (aM (csr (aA ?_))))); refine aB (fJ (r := .bool false) rfl rfl (fun w => by kernel_rfl)) ?_; refine wnn (cF rfl ?_); refine aN (aC (csr (aA (aG (vs := [_]) mU rfl (SB (rn s N (k + 1)) (uJ hU).1 (uJ hU).2) rfl ?_)))); rintro _ j6 ⟨⟨a1, c1, ob1, l, rfl, h3, hg1, hv1, hl1, hSe⟩, D⟩; have a2 := D.blk0 F; have a4 := b5.evo0 D; have a5 := b6.evo0 D; refine wan (aM (csr (aA (aB (bM rfl Tryz.underlying24 rfl) ?_)))); refine aB (eW rfl rfl) ?_; refine wnn (aZ rfl (fun d3 => ?_) (fun d3 => ?_))
  ·obtain ⟨S, hsS, heq1, -⟩ := hSe.resolve_left (fun h9 => by rw [h9.2] at d3; revert d3; decide)
   obtain ⟨y1, y2⟩ := eq_s (fl := fl) hU hk h92 b7 c0 c6 c9 hsS; refine csr (aA (aB (aH rfl) (wfl rfl bO rfl bD a2 rfl ?_))); refine aB (aI rfl rfl (by omega) (by omega)) ?_; refine aB (aH rfl) (aB (aD rfl bO) (bJ rfl rfl (rfl) bY a2 rfl fun h5 d4 J => ?_)); have d5 := (Z.then D).step J (fun y hy => .inl hy); have d6 := J.blk (D.blk0 a0) B.symm.nmem1
   try simp only [cH, Nat.reduceAdd] at d4
   refine wnn (csr (aA ?_)); refine aG (vs := [_]) kO rfl (oN (h3.evo J (Apart.fresh (Lt.blk F) hg1).symm.own1) hv1 (by omega) heq1) rfl ?_; rintro _ h6 ⟨a3, c3, ob3, rfl, h4, hg3, hl3, hcan3, heq3, L⟩; have hgo := (Ge.fresh d5 hg3); refine aG (vs := [_]) nY rfl (SN h4 (by omega)) rfl ?_; rintro _ h7 ⟨⟨vs, rfl, bs, hT, hsb, hnd⟩, M⟩; have hFr : Fr w bs := ⟨hnd, fun q h => hgo q (hsb q h)⟩; have hnb : b4 ∉ bs := fun h9 => ((Apart.fresh (Lt.blk d6) hg3).symm).own1 _ (hsb _ h9) (List.mem_singleton.2 rfl); obtain ⟨ra9, rc9, ka9, kc9, rfl⟩ := id hT.nine; refine aV rfl rfl aJ (M.blk0 (L.blk0 d6)) rfl rfl ⟨rfl, rfl, rfl, rfl, rfl, rfl, rfl, rfl, rfl, trivial⟩ fun h8 d7 O => ?_
   try simp only [cH, Nat.reduceAdd] at d7
   refine wnn (aK (aE (bT rfl (ResOk.cellA rfl bF aJ d7 rfl) ?_))); exact ⟨.inl ⟨jX S, k + 2, y1, by omega, y2, ⟨_, bs, rfl, (hT.evo O (fun q hq h => hnb (List.mem_singleton.1 h ▸ hq))), hFr⟩, ⟨(O.blk (M.blk0 (L.blk0 d4)) B.nmem1), ((((a4.evo J hap2.symm.own1).evo0 L).evo0 M).evo O G.own1), ((((a5.evo J hap1.symm.own1).evo0 L).evo0 M).evo O H.own1)⟩⟩, (((d5.then L).then M).step O I.mem1)⟩
  have hsn := (hSe.resolve_right (fun ⟨S, _, _, h9⟩ => by omega)).1; refine aN (aC (csr (aA (aG (vs := [_, _]) vV rfl (CG (x := ⟨k, o, ns, 0⟩) ⟨a2, a4, a5⟩ hU hk h92 hN) rfl ?_)))); rintro _ i0 ⟨r, n, rfl, hX, E⟩; have d8 := (Z.then D).then E; have d2 := E.blk0 a2; have d9 := E.blk0 (D.blk0 a0); have g5 := eq_p (fl := fl) hU hk h92 b7 c0 c6 c9 hsn hX; refine aA (aB (cC rfl rfl) ?_); refine aB (cC rfl rfl) ?_; refine bN (wan (aM (csr (aA (wel ?_))))); refine wnn (aZ rfl (fun g7 => ?_) (fun g7 => ?_))
  ·refine csr (aA ?_); refine aG (vs := [_, _]) eQ rfl (kW (k := k) (o := o) (ns := ns) ⟨d2, (a4.evo0 E), (a5.evo0 E)⟩ 83 (by decide)) rfl ?_; rintro _ i1 ⟨rfl, e0, g1⟩; have g2 := e0.blk d9 ((by first | exact B.symm.own1 | exact B.symm.nmem1)); refine wnn (csr (aB (cI (vs := []) cB rfl (cells := [_, _, _, _, _, _, _, _, _]) rfl) ?_)); refine aV rfl rfl aJ g2 rfl rfl ⟨rfl, rfl, rfl, rfl, rfl, rfl, rfl, rfl, rfl, trivial⟩ fun i2 e1 a6 => ?_
   try simp only [cH, Nat.reduceAdd] at e1
   refine wnn (aK (aE (bT rfl (ResOk.cellA rfl bF aJ e1 rfl) ?_))); exact ⟨.inr ⟨83, k, g5.1 (by omega), by decide, by omega, mQ, ⟨(a6.blk g1.b0 B.nmem1), (g1.run.evo a6 G.own1), (g1.o0.evo a6 H.own1)⟩⟩, ((d8.step e0 (fun y hy => .inl hy)).step a6 I.mem1)⟩
  obtain ⟨y1, y2, y3, y4⟩ := g5.2 (by omega); refine aN (aC (csr (aA (aB (aH rfl) (wfl rfl bO rfl bD d2 rfl (aA ?_)))))); refine aB (aI rfl rfl (by omega) (by omega)) ?_; refine aB (aH rfl) (aB (aD rfl bO) (bJ rfl rfl (rfl) bY d2 rfl fun i3 e2 U => ?_)); have e3 := d8.step U (fun y hy => .inl hy); have e4 := U.blk d9 B.symm.nmem1
  try simp only [cH, Nat.reduceAdd] at e2
  refine wnn (csr (aA (aB (bX rfl dU cN (U.blk (E.blk0 (D.blk0 (Y.blk0 (a9.blk0 g8)))) (Apart.new (Lt.blk hR.b0) g3).symm.nmem1) rfl) (aG (vs := [_, _]) sQ rfl (tR r fl y3 y4) rfl ?_)))); rintro _ i4 ⟨⟨vs, bs, rfl, hT, hFr0⟩, V⟩; have hl9 := (Array.getElem?_eq_some_iff.1 e4).1; have hFr := hFr0.older e3.size; have hnb : b4 ∉ bs := fun h9 => absurd (hFr0.ge _ h9) (by omega); obtain ⟨ra9, rc9, ka9, kc9, rfl⟩ := id hT.nine; refine aV rfl rfl aJ (V.blk0 e4) rfl rfl ⟨rfl, rfl, rfl, rfl, rfl, rfl, rfl, rfl, rfl, trivial⟩ fun i5 e5 W => ?_
  try simp only [cH, Nat.reduceAdd] at e5
  refine wnn (aK (bT rfl (ResOk.cellA rfl bF aJ e5 rfl) ?_)); exact ⟨.inl ⟨lP fl r, k + n, y1, by omega, y2, ⟨_, bs, rfl, (hT.evo W (fun q hq h => hnb (List.mem_singleton.1 h ▸ hq))), hFr⟩, ⟨(W.blk (V.blk0 e2) B.nmem1), ((((a4.evo0 E).evo U hap2.symm.own1).evo0 V).evo W G.own1), ((((a5.evo0 E).evo U hap1.symm.own1).evo0 V).evo W H.own1)⟩⟩, ((e3.then V).step W I.mem1)⟩
end Go.Proofs.YtljadkcojnlioaaGreatDoor
