/- RxtreeShows: every Show, Valid and Groups of any tree, valid or not, is the document's. Conditions: what came in is of bulk at most 1048576 (the form Upto); the library's tables hold what the text of the program lays. -/
import Derived.Test.YtljadkcojnlioaaGreatDoorPkF
set_option linter.unusedSectionVars false
set_option linter.unusedSimpArgs false
set_option linter.unusedVariables false
namespace Go.Proofs.YtljadkcojnlioaaGreatDoor
open Go.Proofs
open Go.W Go.RowKit
attribute [local irreducible] Decidable.decide
theorem vY : eM Tryz.prog 20 := ⟨_, Tryz.func20, by kernel_rfl, by kernel_rfl⟩
theorem oA : eM Tryz.prog 53 := ⟨_, Tryz.func53, by kernel_rfl, by kernel_rfl⟩
theorem FJ : eM Tryz.prog 81 := ⟨_, Tryz.func81, by kernel_rfl, by kernel_rfl⟩
theorem FI : eM Tryz.prog 82 := ⟨_, Tryz.func82, by kernel_rfl, by kernel_rfl⟩
theorem FH : eM Tryz.prog 83 := ⟨_, Tryz.func83, by kernel_rfl, by kernel_rfl⟩
structure PcG where
  k : Nat
  n : Nat
  sa : Option Addr
  sc : Nat
  so : Option Nat
structure PcI (w0 w wr : World) (L : List Nat) (ob : Option Nat) (a : Option Addr) (n c : Nat) (o : Option Nat) : Prop where
  hn : n = L.length
  own : OwnS wr 5 1 a L.length c (fL L) o
  e0 : Evo [] w0 wr
  nb : o = ob ∨ ∃ g, o = some g ∧ w.heap.size ≤ g
  hu : Ge w0 o
theorem KY {w0 w : World} {a : Option Addr} {c : Nat} {l : List Nat} {ob : Option Nat} {v : Value} {rs : List (Int × Int)} (hG : Gw w0) (hE0 : Evo [] w0 w) (huo : Ge w0 ob) (hO : OwnS w 5 1 a l.length c (fL l) ob) (hr : RSl 2 RRg [] w0 v rs) (hrg : RgB rs) (hl : l.length + 26 * rs.length ≤ 80000000) :
    Calls Tryz.prog 82 #[.slice a l.length c, v] w (Ret fun v w' => Pt w (l ++ tF rs) ob v w') := by
  obtain ⟨ka, kc, rfl, hkc, e1⟩ := hr; refine bL (N := 49) Tryz.func82 rfl rfl rfl ?_; refine aF (aC (aM (aD (aA (aF (aF (aC (aH (aB rfl (bO rfl Tryz.underlying24 rfl) ?_))))))))); refine aB rfl (bC rfl rfl) ?_; refine aD (aA (bJ rfl (fun hc8 => ?_) (fun hc8 => ?_)))
  ·skip
   refine aF (aC (aH ?_))
   refine aN (vs := [_, _]) eR rfl (iA hO (m := HI) (by decide +kernel) (cC (by decide +kernel)) (by first | omega | simp only [List.length_append, List.length_cons, List.length_nil]; omega) (by decide)) rfl ?_
   rintro _ w1 ⟨ja1, jc1, jo1, rfl, hSL1, hw2, hnb1⟩; have hV9 := (Evo.refl ob.toList w); have hV90 := hE0; have hN1 := cT (Or.inl rfl) hnb1 hV9.size; have hU1 := dK huo hV90.size hnb1; have hE3 := (Evo.refl ob.toList w).step hw2 (gO (Or.inl rfl)); refine aM (aD (aA (aQ (aO (aK rfl rfl ?_))))); exact vI hSL1 (by rw [tF, if_pos (List.length_eq_zero_iff.1 (by omega))]) hE3 hN1
  refine bA (aA (aF (aC (aH ?_))))
  refine aN (vs := [_, _]) eR rfl (iA hO (m := [91]) (by decide +kernel) (cC (by decide +kernel)) (by first | omega | simp only [List.length_append, List.length_cons, List.length_nil]; omega) (by decide)) rfl ?_
  rintro _ w5 ⟨ja1, jc1, jo1, rfl, hSL1, hw6, hnb1⟩; have hV9 := (Evo.refl ob.toList w); have hV90 := hE0; have hN1 := cT (Or.inl rfl) hnb1 hV9.size; have hU1 := dK huo hV90.size hnb1; have hE7 := (Evo.refl ob.toList w).step hw6 (gO (Or.inl rfl)); have hE8 := hE0.step hw6 (huo.mem); refine aM (aD (aA (aF (aF (aC (aM (aD (aA (bX ?_))))))))); refine eT (α := PcG) (⟨0, _, ja1, jc1, jo1⟩) (fun x => [(0, .slice x.sa x.n x.sc), (5, .int .i64 (x.k : Nat))]) [(1, _), (4, _)] (fun x wr => Evo ob.toList w wr ∧ (x.k ≤ rs.length ∧ PcI w0 w wr (l ++ ([91] ++ (rs.take x.k).flatMap oN)) ob x.sa x.n x.sc x.so)) (fun x => rs.length - x.k) ⟨rfl, rfl, trivial⟩ ⟨rfl, rfl, trivial⟩ ⟨hE7, ⟨Nat.zero_le _, rfl, by simpa using hSL1, hE8, hN1, hU1⟩⟩ ?_; rintro ⟨k, n, sa, sc, so⟩ wr9 ⟨hV10, ⟨hk, hn9, hSLl, hE0l, hNl, hUl⟩⟩; show CW _ _ _ _ [(0, .slice sa n sc), (5, .int .i64 (k : Nat)), (1, _), (4, _)] _
  try dsimp only at hk
  try dsimp only at hn9
  try dsimp only at hSLl
  try dsimp only at hE0l
  try dsimp only at hNl
  try dsimp only at hUl
  subst hn9; refine aF (aF (aC (aH (aH (aB rfl (bO rfl Tryz.underlying24 rfl) ?_))))); refine aB rfl (dF rfl rfl) ?_; refine aD (aA (bJ rfl (fun hc16 => ?_) (fun hc16 => ?_)))
  ·skip
   have hk' : k < rs.length := by omega
   obtain ⟨b1, o1', vs1, ha1, hb1, hvl1, hc1, hrk⟩ := e1 k hk'; obtain rfl := hrk; obtain ⟨hr0, hr1, hr2⟩ := hrg _ (List.getElem_mem hk'); have hfl := pF (l := rs.take k) (fun g hg => hrg g (List.mem_of_mem_take hg)); rw [List.length_take] at hfl; have hle1 := tD hr0 (show rs[k].1 ≤ 1114111 by omega); have hle2 := tD (show 0 ≤ rs[k].2 by omega) hr2; refine bA (aA (aF (bX (aF (aC (aH (aH (aH ?_))))))))
   refine aB rfl (dP (n := k) (by rw [ha1]; rfl) rfl dW (by omega)) ?_
   refine aB rfl (aE rfl fF) ?_; refine aB rfl (aI rfl cD ((hE0l).cell (hc1 0 _ rfl) (by simp))) ?_; refine aN (vs := [_]) tY rfl (ON (hG.evo0 hE0l) hr0 (by omega)) rfl ?_; rintro _ w11 ⟨rfl, hw12⟩; have hE13 := hV10.then hw12; have hE14 := hE0l.then hw12; have hO15 := hSLl.evo0 hw12
   refine aN (vs := [_, _]) eR rfl (iA hO15 (m := nL rs[k].1) rfl hle1.2 (by simp only [List.length_append, List.length_cons, List.length_nil]; omega) (by omega)) rfl ?_
   rintro _ w16 ⟨ja2, jc2, jo2, rfl, hSL2, hw17, hnb2⟩; have hV9 := hE13; have hV90 := hE14; have hN2 := cT hNl hnb2 hV9.size; have hU2 := dK hUl hV90.size hnb2; have hE18 := hE13.step hw17 (gO hNl); have hE19 := hE14.step hw17 (hUl.mem); refine aM (aD (aA (aF ?_))); refine hD (fun w0 w' => Evo [] w0 w') (by kernel_rfl) (fun w20 hw21 => ?_); have hE22 := hE18.then hw21; have hE23 := hE19.then hw21; have hO24 := hSL2.evo0 hw21; refine bB 0 rfl (by kernel_rfl) (by kernel_rfl) (by kernel_rfl) rfl (fun _ hS => bM rfl) (Evo.refl [] w20) ?_; refine bB 1 rfl (by kernel_rfl) (by kernel_rfl) (by kernel_rfl) rfl (fun _ hS => bM rfl) (Evo.refl [] w20) ?_
   refine bB 2 rfl (by kernel_rfl) (by kernel_rfl) (by kernel_rfl) rfl (fun _ hS => dP (n := k) (by rw [ha1]; rfl) rfl dW (by omega)) (Evo.refl [] w20) ?_
   refine bB 3 rfl (by kernel_rfl) (by kernel_rfl) (by kernel_rfl) rfl (fun _ hS => aE rfl eA) (Evo.refl [] w20) ?_; refine bB 4 rfl (by kernel_rfl) (by kernel_rfl) (by kernel_rfl) rfl (fun _ hS => aI rfl cD (((hE23.then hS)).cell (hc1 1 _ rfl) (by simp))) (Evo.refl [] w20) ?_; refine bB 5 rfl (by kernel_rfl) (by kernel_rfl) (by kernel_rfl) rfl (fun _ hS => bM rfl) (Evo.refl [] w20) ?_; refine bB 6 rfl (by kernel_rfl) (by kernel_rfl) (by kernel_rfl) rfl (fun _ hS => bM rfl) (Evo.refl [] w20) ?_
   refine bB 7 rfl (by kernel_rfl) (by kernel_rfl) (by kernel_rfl) rfl (fun _ hS => dP (n := k) (by rw [ha1]; rfl) rfl dW (by omega)) (Evo.refl [] w20) ?_
   refine bB 8 rfl (by kernel_rfl) (by kernel_rfl) (by kernel_rfl) rfl (fun _ hS => aE rfl fF) (Evo.refl [] w20) ?_; refine bB 9 rfl (by kernel_rfl) (by kernel_rfl) (by kernel_rfl) rfl (fun _ hS => aI rfl cD (((hE23.then hS)).cell (hc1 0 _ rfl) (by simp))) (Evo.refl [] w20) ?_; refine bB 10 rfl (by kernel_rfl) (by kernel_rfl) (by kernel_rfl) rfl (fun _ hS => eZ rfl rfl) (Evo.refl [] w20) ?_; refine eH (by kernel_rfl) (aA ?_); refine bJ rfl (fun hc37 => ?_) (fun hc37 => ?_)
   ·skip
    refine aC (aH (aH (aH ?_)))
    refine aB rfl (dP (n := k) (by rw [ha1]; rfl) rfl dW (by omega)) ?_
    refine aB rfl (aE rfl eA) ?_; refine aB rfl (aI rfl cD ((hE23).cell (hc1 1 _ rfl) (by simp))) ?_; refine aN (vs := [_]) tY rfl (ON (hG.evo0 hE23) (by omega) hr2) rfl ?_; rintro _ w25 ⟨rfl, hw26⟩; have hE27 := hE22.then hw26; have hE28 := hE23.then hw26; have hO29 := hO24.evo0 hw26
    refine aB rfl (bZ rfl rfl (by rw [bsz]; show 1 + _ ≤ _; omega)) ?_
    rw [show ByteArray.mk #[45] = bstr [45] from by decide +kernel, bap]
    refine aN (vs := [_, _]) eR rfl (iA hO29 (m := 45 :: nL rs[k].2) rfl (fun x hx => (List.mem_cons.1 hx).elim (fun h9 => by omega) (hle2.2 x)) (by simp only [List.length_append, List.length_cons, List.length_nil]; omega) (by simp only [List.length_cons]; omega)) rfl ?_
    rintro _ w30 ⟨ja3, jc3, jo3, rfl, hSL3, hw31, hnb3⟩; have hV9 := hE27; have hV90 := hE28; have hN3 := cT hN2 hnb3 hV9.size; have hU3 := dK hU2 hV90.size hnb3; have hE32 := hE27.step hw31 (gO hN2); have hE33 := hE28.step hw31 (hU2.mem); refine aM (aD (aY (aA (aC (aH ?_))))); refine aB rfl (bF rfl rfl (by omega) (by omega)) ?_; refine aM (aD (bI ?_)); refine ⟨⟨k + 1, _, ja3, jc3, jo3⟩, ?_, ⟨rfl, rfl, trivial⟩, ⟨rfl, rfl, trivial⟩, hE32, ?_⟩
    · (try dsimp only); omega
    try dsimp only
    have hfin := hSL3
    have heq9 : l ++ ([91] ++ (rs.take (k + 1)).flatMap oN) = l ++ ([91] ++ (rs.take k).flatMap oN) ++ nL rs[k].1 ++ 45 :: nL rs[k].2 := by rw [sT hk', oN, if_pos hc37]; simp
    refine ⟨by omega, ?_, ?_, hE33, hN3, hU3⟩
    · exact congrArg List.length heq9.symm
    · rw [heq9]; exact hfin
   refine bA (aY (aA (aC (aH ?_)))); refine aB rfl (bF rfl rfl (by omega) (by omega)) ?_; refine aM (aD (bI ?_)); refine ⟨⟨k + 1, _, ja2, jc2, jo2⟩, ?_, ⟨rfl, rfl, trivial⟩, ⟨rfl, rfl, trivial⟩, hE22, ?_⟩
   · (try dsimp only); omega
   try dsimp only
   have hfin := hO24
   have heq9 : l ++ ([91] ++ (rs.take (k + 1)).flatMap oN) = l ++ ([91] ++ (rs.take k).flatMap oN) ++ nL rs[k].1 := by rw [sT hk', oN, if_neg hc37]; simp
   refine ⟨by omega, ?_, ?_, hE23, hN2, hU2⟩
   · exact congrArg List.length heq9.symm
   · rw [heq9]; exact hfin
  have hfl := pF (l := rs.take k) (fun g hg => hrg g (List.mem_of_mem_take hg)); rw [List.length_take] at hfl; refine dT (cK (cK (dS (aA ?_)))); refine aF (aC (aH ?_))
  refine aN (vs := [_, _]) eR rfl (iA hSLl (m := [93]) (by decide +kernel) (cC (by decide +kernel)) (by first | omega | simp only [List.length_append, List.length_cons, List.length_nil]; omega) (by decide)) rfl ?_
  rintro _ w34 ⟨ja2, jc2, jo2, rfl, hSL2, hw35, hnb2⟩; have hV9 := hV10; have hV90 := hE0l; have hN2 := cT hNl hnb2 hV9.size; have hU2 := dK hUl hV90.size hnb2; have hE36 := hV10.step hw35 (gO hNl); refine aM (aD (aA (aQ (aK rfl rfl ?_))))
  exact vI hSL2 (by rw [tF, if_neg (fun h9 => hc8 (by rw [h9]; rfl))]; obtain rfl : k = rs.length := (by omega); rw [List.take_length]; simp) hE36 hN2
theorem lt63 : ByteArray.mk #[63] = bstr [63] := by decide +kernel
theorem tim_a {lo hi : Int} (h : lo = 0 ∧ hi = -1) : gZ lo hi = [42] := by rw [gZ, if_pos h]
theorem tim_b {lo hi : Int} (h : lo = 1 ∧ hi = -1) : gZ lo hi = [43] := by rw [gZ, if_neg (by omega), if_pos h]
theorem HU {lo hi : Int} (h : lo = 0 ∧ hi = 1) : gZ lo hi = [63] := by rw [gZ, if_neg (by omega), if_neg (by omega), if_pos h]
theorem vD {lo hi : Int} (h : hi = -1) (h0 : lo ≠ 0) (h1 : lo ≠ 1) : gZ lo hi = [123] ++ fO lo.toNat ++ [44, 125] := by rw [gZ, if_neg (by omega), if_neg (by omega), if_neg (by omega), if_pos h]
theorem vC {lo hi : Int} (h : hi = lo) (h0 : hi ≠ -1) : gZ lo hi = [123] ++ fO lo.toNat ++ [125] := by rw [gZ, if_neg (by omega), if_neg (by omega), if_neg (by omega), if_neg h0, if_pos h]
theorem vB {lo hi : Int} (h : hi ≠ lo) (h0 : hi ≠ -1) (h1 : ¬ (lo = 0 ∧ hi = 1)) : gZ lo hi = [123] ++ fO lo.toNat ++ [44] ++ fO hi.toNat ++ [125] := by rw [gZ, if_neg (by omega), if_neg (by omega), if_neg h1, if_neg h0, if_neg h]
theorem JT {n : Nat} {X : List Nat} {w : World} {vs : List Value} {t : Rx} (hG : Gw w) (hx : RRx n X w vs t) (h0 : 0 ≤ t.min) (h1 : t.min ≤ 1000) (h2 : t.max = -1 ∨ (t.min ≤ t.max ∧ t.max ≤ 1000)) :
    Calls Tryz.prog 83 #[.agg vs.toArray] w (Ret fun v w' => v = .string (bstr (gZ t.min t.max ++ (if t.lazy = true then [63] else []))) ∧ Evo [] w w') := by
  have hx0 := hx; obtain ⟨m, ra, rc, ka, kc, hm, rfl, hrg, hk, bl1, bl2, bl3⟩ := hx.get; refine bL (N := 66) Tryz.func83 rfl rfl rfl ?_; refine aF (aC (gT rfl rfl fun b1x w1 hB2 hs3 hw4 => ?_)); have hsz_b1x := hs3; have hE6 := (Evo.refl [] w).then hw4; refine aM (aD (aA (aF ?_))); refine hD (fun w0 w' => Evo [] w0 w') (by kernel_rfl) (fun w7 hw8 => ?_); have hE9 := hE6.then hw8; have hB10 := hw8.blk0 hB2; refine bB 0 rfl (by kernel_rfl) (by kernel_rfl) (by kernel_rfl) rfl (fun _ hS => aE rfl bT) (Evo.refl [] w7) ?_; refine bB 1 rfl (by kernel_rfl) (by kernel_rfl) (by kernel_rfl) rfl (fun _ hS => aI rfl aU (aJ (hS.blk0 hB10) rfl)) (Evo.refl [] w7) ?_; refine bB 5 rfl (by kernel_rfl) (by kernel_rfl) (by kernel_rfl) rfl (fun _ hS => aE rfl bY) (Evo.refl [] w7) ?_; refine bB 6 rfl (by kernel_rfl) (by kernel_rfl) (by kernel_rfl) rfl (fun _ hS => aI rfl aU (aJ (hS.blk0 hB10) rfl)) (Evo.refl [] w7) ?_; refine cL [2] (by kernel_rfl) rfl ⟨?_, trivial⟩; refine cV rfl ?_; refine aN (vs := [_]) cF rfl (hY (hG.evo0 hE9) t.min (by omega) (by omega)) rfl ?_; rintro _ w11 ⟨rfl, hl1, hd1, hw12⟩; have hE13 := hE9.then hw12; have hE14 := (Evo.refl [] w7).then hw12; have hB15 := hw12.blk0 hB10; have hdA := hd1 h0; refine aD (cG (.inl hE14) ?_)
  refine bB 3 rfl (by kernel_rfl) (by kernel_rfl) (by kernel_rfl) rfl (fun _ hS => bZ rfl rfl (by simp only [bW, cS, bH, bV, bap, bsz, List.length_append, List.length_cons, List.length_nil]; omega)) hE14 ?_
  refine bB 4 rfl (by kernel_rfl) (by kernel_rfl) (by kernel_rfl) rfl (fun _ hS => bZ rfl rfl (by simp only [bW, cS, bH, bV, bap, bsz, List.length_append, List.length_cons, List.length_nil]; omega)) hE14 ?_
  refine cL [7] (by kernel_rfl) rfl ⟨?_, trivial⟩; refine cV rfl ?_; refine aN (vs := [_]) cF rfl (hY (hG.evo0 hE13) t.max (by omega) (by omega)) rfl ?_; rintro _ w16 ⟨rfl, hl2, hd2, hw17⟩; have hE18 := hE13.then hw17; have hE19 := hE14.then hw17; have hB20 := hw17.blk0 hB15; refine aD (cG (.inl hE19) ?_)
  refine bB 8 rfl (by kernel_rfl) (by kernel_rfl) (by kernel_rfl) rfl (fun _ hS => bZ rfl rfl (by simp only [bW, cS, bH, bV, bap, bsz, List.length_append, List.length_cons, List.length_nil]; omega)) hE19 ?_
  refine bB 9 rfl (by kernel_rfl) (by kernel_rfl) (by kernel_rfl) rfl (fun _ hS => bZ rfl rfl (by simp only [bW, cS, bH, bV, bap, bsz, List.length_append, List.length_cons, List.length_nil]; omega)) hE19 ?_
  refine bB 10 rfl (by kernel_rfl) (by kernel_rfl) (by kernel_rfl) rfl (fun _ hS => eE rfl) hE19 ?_; refine eH (by kernel_rfl) (aA ?_); refine aF (oK (α := List Nat) (fun z => [(3, .string (bstr z))]) [(1, _), (2, _)] (fun z wr => Evo [] w16 wr ∧ (z = gZ t.min t.max)) ⟨rfl, rfl, trivial⟩ ?_ ?_)
  ·skip
   refine bX (aF (aC (aB rfl (aE rfl bT) (aB rfl (aI rfl aU (aJ hB20 rfl)) (aB rfl (bC rfl rfl) ?_))))); refine aH (aX (t := 18) rfl (fun hs18 => ?_) (fun hs18 => ?_))
   ·skip
    refine aP (aB rfl (aE rfl bY) (aP (aB rfl (aI rfl aU (aJ hB20 rfl)) (aP (aB rfl (bC rfl rfl) ?_))))); refine bD (aM (aD (aA (bJ rfl (fun hc14 => ?_) (fun hc14 => ?_)))))
    ·skip
     refine aC (aM (aD (aY (bI ?_)))); refine ⟨([42]), ⟨rfl, trivial⟩, ⟨rfl, rfl, trivial⟩, (Evo.refl [] w16), ?_⟩; exact (tim_a ⟨by omega, by omega⟩).symm
    refine aF (aC (aB rfl (aE rfl bT) (aB rfl (aI rfl aU (aJ hB20 rfl)) (aB rfl (bC rfl rfl) ?_)))); refine aH (aX (t := 27) rfl (fun hs27 => ?_) (fun hs27 => ?_))
    ·skip
     refine aP (aB rfl (aE rfl bY) (aP (aB rfl (aI rfl aU (aJ hB20 rfl)) (aP (aB rfl (bC rfl rfl) ?_))))); refine bD (aM (aD (aA (bJ rfl (fun hc23 => ?_) (fun hc23 => ?_)))))
     ·skip
      refine aC (aM (aD (aY (bI ?_)))); refine ⟨([43]), ⟨rfl, trivial⟩, ⟨rfl, rfl, trivial⟩, (Evo.refl [] w16), ?_⟩; exact (tim_b ⟨by omega, by omega⟩).symm
     refine aF (aC (aB rfl (aE rfl bT) (aB rfl (aI rfl aU (aJ hB20 rfl)) (aB rfl (bC rfl rfl) ?_)))); refine aH (aX (t := 36) rfl (fun hs36 => ?_) (fun hs36 => ?_))
     ·skip
      refine aP (aB rfl (aE rfl bY) (aP (aB rfl (aI rfl aU (aJ hB20 rfl)) (aP (aB rfl (bC rfl rfl) ?_))))); refine bD (aM (aD (aA (bJ rfl (fun hc32 => ?_) (fun hc32 => ?_)))))
      ·skip
       refine aC (aM (aD (aY (bI ?_)))); refine ⟨([63]), ⟨rfl, trivial⟩, ⟨rfl, rfl, trivial⟩, (Evo.refl [] w16), ?_⟩; exact (HU ⟨by omega, by omega⟩).symm
      refine aF (aC (aB rfl (aE rfl bY) (aB rfl (aI rfl aU (aJ hB20 rfl)) (aB rfl (bC rfl rfl) ?_)))); refine aM (aD (aA (bJ rfl (fun hc41 => ?_) (fun hc41 => ?_))))
      ·skip
       refine aC (aB rfl (aE rfl bT) (aB rfl (aI rfl aU (aJ hB20 rfl)) ?_)); refine aN (vs := [_]) cF rfl (hY (hG.evo0 hE18) t.min (by omega) (by omega)) rfl ?_; rintro _ w21 ⟨rfl, -, -, hw22⟩; have hE24 := (Evo.refl [] w16).then hw22
       refine aB rfl (bZ rfl rfl (by simp only [bW, cS, bH, bV, bap, bsz, List.length_append, List.length_cons, List.length_nil]; omega)) ?_
       simp only [bW, cS, bH, bV, bap]
       refine aB rfl (bZ rfl rfl (by simp only [bW, cS, bH, bV, bap, bsz, List.length_append, List.length_cons, List.length_nil]; omega)) ?_
       simp only [bW, cS, bH, bV, bap, hdA]; refine aM (aD (aY (bI ?_))); refine ⟨([123] ++ fO t.min.toNat ++ [44, 125]), ⟨rfl, trivial⟩, ⟨rfl, rfl, trivial⟩, hE24, ?_⟩; exact (vD (by omega) (by omega) (by omega)).symm
      refine aF (aC (aB rfl (aE rfl bY) (aB rfl (aI rfl aU (aJ hB20 rfl)) (aB rfl (aE rfl bT) (aB rfl (aI rfl aU (aJ hB20 rfl)) (aB rfl (bC rfl rfl) ?_)))))); refine aM (aD (aA (bJ rfl (fun hc50 => ?_) (fun hc50 => ?_))))
      ·skip
       refine aC (aB rfl (aE rfl bT) (aB rfl (aI rfl aU (aJ hB20 rfl)) ?_)); refine aN (vs := [_]) cF rfl (hY (hG.evo0 hE18) t.min (by omega) (by omega)) rfl ?_; rintro _ w26 ⟨rfl, -, -, hw27⟩; have hE29 := (Evo.refl [] w16).then hw27
       refine aB rfl (bZ rfl rfl (by simp only [bW, cS, bH, bV, bap, bsz, List.length_append, List.length_cons, List.length_nil]; omega)) ?_
       simp only [bW, cS, bH, bV, bap]
       refine aB rfl (bZ rfl rfl (by simp only [bW, cS, bH, bV, bap, bsz, List.length_append, List.length_cons, List.length_nil]; omega)) ?_
       simp only [bW, cS, bH, bV, bap, hdA]; refine aM (aD (aY (bI ?_))); refine ⟨([123] ++ fO t.min.toNat ++ [125]), ⟨rfl, trivial⟩, ⟨rfl, rfl, trivial⟩, hE29, ?_⟩; exact (vC (by omega) (by omega)).symm
      simp only [bW, cS, bH, bV, bap, hdA, hd2 (by omega : 0 ≤ t.max)]; refine bA (aY (bI ?_)); refine ⟨([123] ++ fO t.min.toNat ++ [44] ++ fO t.max.toNat ++ [125]), ⟨rfl, trivial⟩, ⟨rfl, rfl, trivial⟩, (Evo.refl [] w16), ?_⟩; exact (vB (by omega) (by omega) (by omega)).symm
     refine aG (aG (aG (aV (aM (aD (aA (cQ rfl ?_))))))); refine aF (aC (aB rfl (aE rfl bY) (aB rfl (aI rfl aU (aJ hB20 rfl)) (aB rfl (bC rfl rfl) ?_)))); refine aM (aD (aA (bJ rfl (fun hc41 => ?_) (fun hc41 => ?_))))
     ·skip
      refine aC (aB rfl (aE rfl bT) (aB rfl (aI rfl aU (aJ hB20 rfl)) ?_)); refine aN (vs := [_]) cF rfl (hY (hG.evo0 hE18) t.min (by omega) (by omega)) rfl ?_; rintro _ w31 ⟨rfl, -, -, hw32⟩; have hE34 := (Evo.refl [] w16).then hw32
      refine aB rfl (bZ rfl rfl (by simp only [bW, cS, bH, bV, bap, bsz, List.length_append, List.length_cons, List.length_nil]; omega)) ?_
      simp only [bW, cS, bH, bV, bap]
      refine aB rfl (bZ rfl rfl (by simp only [bW, cS, bH, bV, bap, bsz, List.length_append, List.length_cons, List.length_nil]; omega)) ?_
      simp only [bW, cS, bH, bV, bap, hdA]; refine aM (aD (aY (bI ?_))); refine ⟨([123] ++ fO t.min.toNat ++ [44, 125]), ⟨rfl, trivial⟩, ⟨rfl, rfl, trivial⟩, hE34, ?_⟩; exact (vD (by omega) (by omega) (by omega)).symm
     refine aF (aC (aB rfl (aE rfl bY) (aB rfl (aI rfl aU (aJ hB20 rfl)) (aB rfl (aE rfl bT) (aB rfl (aI rfl aU (aJ hB20 rfl)) (aB rfl (bC rfl rfl) ?_)))))); refine aM (aD (aA (bJ rfl (fun hc50 => ?_) (fun hc50 => ?_))))
     ·skip
      refine aC (aB rfl (aE rfl bT) (aB rfl (aI rfl aU (aJ hB20 rfl)) ?_)); refine aN (vs := [_]) cF rfl (hY (hG.evo0 hE18) t.min (by omega) (by omega)) rfl ?_; rintro _ w36 ⟨rfl, -, -, hw37⟩; have hE39 := (Evo.refl [] w16).then hw37
      refine aB rfl (bZ rfl rfl (by simp only [bW, cS, bH, bV, bap, bsz, List.length_append, List.length_cons, List.length_nil]; omega)) ?_
      simp only [bW, cS, bH, bV, bap]
      refine aB rfl (bZ rfl rfl (by simp only [bW, cS, bH, bV, bap, bsz, List.length_append, List.length_cons, List.length_nil]; omega)) ?_
      simp only [bW, cS, bH, bV, bap, hdA]; refine aM (aD (aY (bI ?_))); refine ⟨([123] ++ fO t.min.toNat ++ [125]), ⟨rfl, trivial⟩, ⟨rfl, rfl, trivial⟩, hE39, ?_⟩; exact (vC (by omega) (by omega)).symm
     simp only [bW, cS, bH, bV, bap, hdA, hd2 (by omega : 0 ≤ t.max)]; refine bA (aY (bI ?_)); refine ⟨([123] ++ fO t.min.toNat ++ [44] ++ fO t.max.toNat ++ [125]), ⟨rfl, trivial⟩, ⟨rfl, rfl, trivial⟩, (Evo.refl [] w16), ?_⟩; exact (vB (by omega) (by omega) (by omega)).symm
    refine aG (aG (aG (aV (aM (aD (aA (cQ rfl ?_))))))); refine aF (aC (aB rfl (aE rfl bT) (aB rfl (aI rfl aU (aJ hB20 rfl)) (aB rfl (bC rfl rfl) ?_)))); refine aH (aX (t := 36) rfl (fun hs36 => ?_) (fun hs36 => ?_))
    ·skip
     refine aP (aB rfl (aE rfl bY) (aP (aB rfl (aI rfl aU (aJ hB20 rfl)) (aP (aB rfl (bC rfl rfl) ?_))))); refine bD (aM (aD (aA (bJ rfl (fun hc32 => ?_) (fun hc32 => ?_)))))
     ·skip
      refine aC (aM (aD (aY (bI ?_)))); refine ⟨([63]), ⟨rfl, trivial⟩, ⟨rfl, rfl, trivial⟩, (Evo.refl [] w16), ?_⟩; exact (HU ⟨by omega, by omega⟩).symm
     refine aF (aC (aB rfl (aE rfl bY) (aB rfl (aI rfl aU (aJ hB20 rfl)) (aB rfl (bC rfl rfl) ?_)))); refine aM (aD (aA (bJ rfl (fun hc41 => ?_) (fun hc41 => ?_))))
     ·skip
      refine aC (aB rfl (aE rfl bT) (aB rfl (aI rfl aU (aJ hB20 rfl)) ?_)); refine aN (vs := [_]) cF rfl (hY (hG.evo0 hE18) t.min (by omega) (by omega)) rfl ?_; rintro _ w41 ⟨rfl, -, -, hw42⟩; have hE44 := (Evo.refl [] w16).then hw42
      refine aB rfl (bZ rfl rfl (by simp only [bW, cS, bH, bV, bap, bsz, List.length_append, List.length_cons, List.length_nil]; omega)) ?_
      simp only [bW, cS, bH, bV, bap]
      refine aB rfl (bZ rfl rfl (by simp only [bW, cS, bH, bV, bap, bsz, List.length_append, List.length_cons, List.length_nil]; omega)) ?_
      simp only [bW, cS, bH, bV, bap, hdA]; refine aM (aD (aY (bI ?_))); refine ⟨([123] ++ fO t.min.toNat ++ [44, 125]), ⟨rfl, trivial⟩, ⟨rfl, rfl, trivial⟩, hE44, ?_⟩; exact (vD (by omega) (by omega) (by omega)).symm
     refine aF (aC (aB rfl (aE rfl bY) (aB rfl (aI rfl aU (aJ hB20 rfl)) (aB rfl (aE rfl bT) (aB rfl (aI rfl aU (aJ hB20 rfl)) (aB rfl (bC rfl rfl) ?_)))))); refine aM (aD (aA (bJ rfl (fun hc50 => ?_) (fun hc50 => ?_))))
     ·skip
      refine aC (aB rfl (aE rfl bT) (aB rfl (aI rfl aU (aJ hB20 rfl)) ?_)); refine aN (vs := [_]) cF rfl (hY (hG.evo0 hE18) t.min (by omega) (by omega)) rfl ?_; rintro _ w46 ⟨rfl, -, -, hw47⟩; have hE49 := (Evo.refl [] w16).then hw47
      refine aB rfl (bZ rfl rfl (by simp only [bW, cS, bH, bV, bap, bsz, List.length_append, List.length_cons, List.length_nil]; omega)) ?_
      simp only [bW, cS, bH, bV, bap]
      refine aB rfl (bZ rfl rfl (by simp only [bW, cS, bH, bV, bap, bsz, List.length_append, List.length_cons, List.length_nil]; omega)) ?_
      simp only [bW, cS, bH, bV, bap, hdA]; refine aM (aD (aY (bI ?_))); refine ⟨([123] ++ fO t.min.toNat ++ [125]), ⟨rfl, trivial⟩, ⟨rfl, rfl, trivial⟩, hE49, ?_⟩; exact (vC (by omega) (by omega)).symm
     simp only [bW, cS, bH, bV, bap, hdA, hd2 (by omega : 0 ≤ t.max)]; refine bA (aY (bI ?_)); refine ⟨([123] ++ fO t.min.toNat ++ [44] ++ fO t.max.toNat ++ [125]), ⟨rfl, trivial⟩, ⟨rfl, rfl, trivial⟩, (Evo.refl [] w16), ?_⟩; exact (vB (by omega) (by omega) (by omega)).symm
    refine aG (aG (aG (aV (aM (aD (aA (cQ rfl ?_))))))); refine aF (aC (aB rfl (aE rfl bY) (aB rfl (aI rfl aU (aJ hB20 rfl)) (aB rfl (bC rfl rfl) ?_)))); refine aM (aD (aA (bJ rfl (fun hc41 => ?_) (fun hc41 => ?_))))
    ·skip
     refine aC (aB rfl (aE rfl bT) (aB rfl (aI rfl aU (aJ hB20 rfl)) ?_)); refine aN (vs := [_]) cF rfl (hY (hG.evo0 hE18) t.min (by omega) (by omega)) rfl ?_; rintro _ w51 ⟨rfl, -, -, hw52⟩; have hE54 := (Evo.refl [] w16).then hw52
     refine aB rfl (bZ rfl rfl (by simp only [bW, cS, bH, bV, bap, bsz, List.length_append, List.length_cons, List.length_nil]; omega)) ?_
     simp only [bW, cS, bH, bV, bap]
     refine aB rfl (bZ rfl rfl (by simp only [bW, cS, bH, bV, bap, bsz, List.length_append, List.length_cons, List.length_nil]; omega)) ?_
     simp only [bW, cS, bH, bV, bap, hdA]; refine aM (aD (aY (bI ?_))); refine ⟨([123] ++ fO t.min.toNat ++ [44, 125]), ⟨rfl, trivial⟩, ⟨rfl, rfl, trivial⟩, hE54, ?_⟩; exact (vD (by omega) (by omega) (by omega)).symm
    refine aF (aC (aB rfl (aE rfl bY) (aB rfl (aI rfl aU (aJ hB20 rfl)) (aB rfl (aE rfl bT) (aB rfl (aI rfl aU (aJ hB20 rfl)) (aB rfl (bC rfl rfl) ?_)))))); refine aM (aD (aA (bJ rfl (fun hc50 => ?_) (fun hc50 => ?_))))
    ·skip
     refine aC (aB rfl (aE rfl bT) (aB rfl (aI rfl aU (aJ hB20 rfl)) ?_)); refine aN (vs := [_]) cF rfl (hY (hG.evo0 hE18) t.min (by omega) (by omega)) rfl ?_; rintro _ w56 ⟨rfl, -, -, hw57⟩; have hE59 := (Evo.refl [] w16).then hw57
     refine aB rfl (bZ rfl rfl (by simp only [bW, cS, bH, bV, bap, bsz, List.length_append, List.length_cons, List.length_nil]; omega)) ?_
     simp only [bW, cS, bH, bV, bap]
     refine aB rfl (bZ rfl rfl (by simp only [bW, cS, bH, bV, bap, bsz, List.length_append, List.length_cons, List.length_nil]; omega)) ?_
     simp only [bW, cS, bH, bV, bap, hdA]; refine aM (aD (aY (bI ?_))); refine ⟨([123] ++ fO t.min.toNat ++ [125]), ⟨rfl, trivial⟩, ⟨rfl, rfl, trivial⟩, hE59, ?_⟩; exact (vC (by omega) (by omega)).symm
    simp only [bW, cS, bH, bV, bap, hdA, hd2 (by omega : 0 ≤ t.max)]; refine bA (aY (bI ?_)); refine ⟨([123] ++ fO t.min.toNat ++ [44] ++ fO t.max.toNat ++ [125]), ⟨rfl, trivial⟩, ⟨rfl, rfl, trivial⟩, (Evo.refl [] w16), ?_⟩; exact (vB (by omega) (by omega) (by omega)).symm
   refine aG (aG (aG (aV (aM (aD (aA (cQ rfl ?_))))))); refine aF (aC (aB rfl (aE rfl bT) (aB rfl (aI rfl aU (aJ hB20 rfl)) (aB rfl (bC rfl rfl) ?_)))); refine aH (aX (t := 27) rfl (fun hs27 => ?_) (fun hs27 => ?_))
   ·skip
    refine aP (aB rfl (aE rfl bY) (aP (aB rfl (aI rfl aU (aJ hB20 rfl)) (aP (aB rfl (bC rfl rfl) ?_))))); refine bD (aM (aD (aA (bJ rfl (fun hc23 => ?_) (fun hc23 => ?_)))))
    ·skip
     refine aC (aM (aD (aY (bI ?_)))); refine ⟨([43]), ⟨rfl, trivial⟩, ⟨rfl, rfl, trivial⟩, (Evo.refl [] w16), ?_⟩; exact (tim_b ⟨by omega, by omega⟩).symm
    refine aF (aC (aB rfl (aE rfl bT) (aB rfl (aI rfl aU (aJ hB20 rfl)) (aB rfl (bC rfl rfl) ?_)))); refine aH (aX (t := 36) rfl (fun hs36 => ?_) (fun hs36 => ?_))
    ·skip
     refine aP (aB rfl (aE rfl bY) (aP (aB rfl (aI rfl aU (aJ hB20 rfl)) (aP (aB rfl (bC rfl rfl) ?_))))); refine bD (aM (aD (aA (bJ rfl (fun hc32 => ?_) (fun hc32 => ?_)))))
     ·skip
      refine aC (aM (aD (aY (bI ?_)))); refine ⟨([63]), ⟨rfl, trivial⟩, ⟨rfl, rfl, trivial⟩, (Evo.refl [] w16), ?_⟩; exact (HU ⟨by omega, by omega⟩).symm
     refine aF (aC (aB rfl (aE rfl bY) (aB rfl (aI rfl aU (aJ hB20 rfl)) (aB rfl (bC rfl rfl) ?_)))); refine aM (aD (aA (bJ rfl (fun hc41 => ?_) (fun hc41 => ?_))))
     ·skip
      refine aC (aB rfl (aE rfl bT) (aB rfl (aI rfl aU (aJ hB20 rfl)) ?_)); refine aN (vs := [_]) cF rfl (hY (hG.evo0 hE18) t.min (by omega) (by omega)) rfl ?_; rintro _ w61 ⟨rfl, -, -, hw62⟩; have hE64 := (Evo.refl [] w16).then hw62
      refine aB rfl (bZ rfl rfl (by simp only [bW, cS, bH, bV, bap, bsz, List.length_append, List.length_cons, List.length_nil]; omega)) ?_
      simp only [bW, cS, bH, bV, bap]
      refine aB rfl (bZ rfl rfl (by simp only [bW, cS, bH, bV, bap, bsz, List.length_append, List.length_cons, List.length_nil]; omega)) ?_
      simp only [bW, cS, bH, bV, bap, hdA]; refine aM (aD (aY (bI ?_))); refine ⟨([123] ++ fO t.min.toNat ++ [44, 125]), ⟨rfl, trivial⟩, ⟨rfl, rfl, trivial⟩, hE64, ?_⟩; exact (vD (by omega) (by omega) (by omega)).symm
     refine aF (aC (aB rfl (aE rfl bY) (aB rfl (aI rfl aU (aJ hB20 rfl)) (aB rfl (aE rfl bT) (aB rfl (aI rfl aU (aJ hB20 rfl)) (aB rfl (bC rfl rfl) ?_)))))); refine aM (aD (aA (bJ rfl (fun hc50 => ?_) (fun hc50 => ?_))))
     ·skip
      refine aC (aB rfl (aE rfl bT) (aB rfl (aI rfl aU (aJ hB20 rfl)) ?_)); refine aN (vs := [_]) cF rfl (hY (hG.evo0 hE18) t.min (by omega) (by omega)) rfl ?_; rintro _ w66 ⟨rfl, -, -, hw67⟩; have hE69 := (Evo.refl [] w16).then hw67
      refine aB rfl (bZ rfl rfl (by simp only [bW, cS, bH, bV, bap, bsz, List.length_append, List.length_cons, List.length_nil]; omega)) ?_
      simp only [bW, cS, bH, bV, bap]
      refine aB rfl (bZ rfl rfl (by simp only [bW, cS, bH, bV, bap, bsz, List.length_append, List.length_cons, List.length_nil]; omega)) ?_
      simp only [bW, cS, bH, bV, bap, hdA]; refine aM (aD (aY (bI ?_))); refine ⟨([123] ++ fO t.min.toNat ++ [125]), ⟨rfl, trivial⟩, ⟨rfl, rfl, trivial⟩, hE69, ?_⟩; exact (vC (by omega) (by omega)).symm
     simp only [bW, cS, bH, bV, bap, hdA, hd2 (by omega : 0 ≤ t.max)]; refine bA (aY (bI ?_)); refine ⟨([123] ++ fO t.min.toNat ++ [44] ++ fO t.max.toNat ++ [125]), ⟨rfl, trivial⟩, ⟨rfl, rfl, trivial⟩, (Evo.refl [] w16), ?_⟩; exact (vB (by omega) (by omega) (by omega)).symm
    refine aG (aG (aG (aV (aM (aD (aA (cQ rfl ?_))))))); refine aF (aC (aB rfl (aE rfl bY) (aB rfl (aI rfl aU (aJ hB20 rfl)) (aB rfl (bC rfl rfl) ?_)))); refine aM (aD (aA (bJ rfl (fun hc41 => ?_) (fun hc41 => ?_))))
    ·skip
     refine aC (aB rfl (aE rfl bT) (aB rfl (aI rfl aU (aJ hB20 rfl)) ?_)); refine aN (vs := [_]) cF rfl (hY (hG.evo0 hE18) t.min (by omega) (by omega)) rfl ?_; rintro _ w71 ⟨rfl, -, -, hw72⟩; have hE74 := (Evo.refl [] w16).then hw72
     refine aB rfl (bZ rfl rfl (by simp only [bW, cS, bH, bV, bap, bsz, List.length_append, List.length_cons, List.length_nil]; omega)) ?_
     simp only [bW, cS, bH, bV, bap]
     refine aB rfl (bZ rfl rfl (by simp only [bW, cS, bH, bV, bap, bsz, List.length_append, List.length_cons, List.length_nil]; omega)) ?_
     simp only [bW, cS, bH, bV, bap, hdA]; refine aM (aD (aY (bI ?_))); refine ⟨([123] ++ fO t.min.toNat ++ [44, 125]), ⟨rfl, trivial⟩, ⟨rfl, rfl, trivial⟩, hE74, ?_⟩; exact (vD (by omega) (by omega) (by omega)).symm
    refine aF (aC (aB rfl (aE rfl bY) (aB rfl (aI rfl aU (aJ hB20 rfl)) (aB rfl (aE rfl bT) (aB rfl (aI rfl aU (aJ hB20 rfl)) (aB rfl (bC rfl rfl) ?_)))))); refine aM (aD (aA (bJ rfl (fun hc50 => ?_) (fun hc50 => ?_))))
    ·skip
     refine aC (aB rfl (aE rfl bT) (aB rfl (aI rfl aU (aJ hB20 rfl)) ?_)); refine aN (vs := [_]) cF rfl (hY (hG.evo0 hE18) t.min (by omega) (by omega)) rfl ?_; rintro _ w76 ⟨rfl, -, -, hw77⟩; have hE79 := (Evo.refl [] w16).then hw77
     refine aB rfl (bZ rfl rfl (by simp only [bW, cS, bH, bV, bap, bsz, List.length_append, List.length_cons, List.length_nil]; omega)) ?_
     simp only [bW, cS, bH, bV, bap]
     refine aB rfl (bZ rfl rfl (by simp only [bW, cS, bH, bV, bap, bsz, List.length_append, List.length_cons, List.length_nil]; omega)) ?_
     simp only [bW, cS, bH, bV, bap, hdA]; refine aM (aD (aY (bI ?_))); refine ⟨([123] ++ fO t.min.toNat ++ [125]), ⟨rfl, trivial⟩, ⟨rfl, rfl, trivial⟩, hE79, ?_⟩; exact (vC (by omega) (by omega)).symm
    simp only [bW, cS, bH, bV, bap, hdA, hd2 (by omega : 0 ≤ t.max)]; refine bA (aY (bI ?_)); refine ⟨([123] ++ fO t.min.toNat ++ [44] ++ fO t.max.toNat ++ [125]), ⟨rfl, trivial⟩, ⟨rfl, rfl, trivial⟩, (Evo.refl [] w16), ?_⟩; exact (vB (by omega) (by omega) (by omega)).symm
   refine aG (aG (aG (aV (aM (aD (aA (cQ rfl ?_))))))); refine aF (aC (aB rfl (aE rfl bT) (aB rfl (aI rfl aU (aJ hB20 rfl)) (aB rfl (bC rfl rfl) ?_)))); refine aH (aX (t := 36) rfl (fun hs36 => ?_) (fun hs36 => ?_))
   ·skip
    refine aP (aB rfl (aE rfl bY) (aP (aB rfl (aI rfl aU (aJ hB20 rfl)) (aP (aB rfl (bC rfl rfl) ?_))))); refine bD (aM (aD (aA (bJ rfl (fun hc32 => ?_) (fun hc32 => ?_)))))
    ·skip
     refine aC (aM (aD (aY (bI ?_)))); refine ⟨([63]), ⟨rfl, trivial⟩, ⟨rfl, rfl, trivial⟩, (Evo.refl [] w16), ?_⟩; exact (HU ⟨by omega, by omega⟩).symm
    refine aF (aC (aB rfl (aE rfl bY) (aB rfl (aI rfl aU (aJ hB20 rfl)) (aB rfl (bC rfl rfl) ?_)))); refine aM (aD (aA (bJ rfl (fun hc41 => ?_) (fun hc41 => ?_))))
    ·skip
     refine aC (aB rfl (aE rfl bT) (aB rfl (aI rfl aU (aJ hB20 rfl)) ?_)); refine aN (vs := [_]) cF rfl (hY (hG.evo0 hE18) t.min (by omega) (by omega)) rfl ?_; rintro _ w81 ⟨rfl, -, -, hw82⟩; have hE84 := (Evo.refl [] w16).then hw82
     refine aB rfl (bZ rfl rfl (by simp only [bW, cS, bH, bV, bap, bsz, List.length_append, List.length_cons, List.length_nil]; omega)) ?_
     simp only [bW, cS, bH, bV, bap]
     refine aB rfl (bZ rfl rfl (by simp only [bW, cS, bH, bV, bap, bsz, List.length_append, List.length_cons, List.length_nil]; omega)) ?_
     simp only [bW, cS, bH, bV, bap, hdA]; refine aM (aD (aY (bI ?_))); refine ⟨([123] ++ fO t.min.toNat ++ [44, 125]), ⟨rfl, trivial⟩, ⟨rfl, rfl, trivial⟩, hE84, ?_⟩; exact (vD (by omega) (by omega) (by omega)).symm
    refine aF (aC (aB rfl (aE rfl bY) (aB rfl (aI rfl aU (aJ hB20 rfl)) (aB rfl (aE rfl bT) (aB rfl (aI rfl aU (aJ hB20 rfl)) (aB rfl (bC rfl rfl) ?_)))))); refine aM (aD (aA (bJ rfl (fun hc50 => ?_) (fun hc50 => ?_))))
    ·skip
     refine aC (aB rfl (aE rfl bT) (aB rfl (aI rfl aU (aJ hB20 rfl)) ?_)); refine aN (vs := [_]) cF rfl (hY (hG.evo0 hE18) t.min (by omega) (by omega)) rfl ?_; rintro _ w86 ⟨rfl, -, -, hw87⟩; have hE89 := (Evo.refl [] w16).then hw87
     refine aB rfl (bZ rfl rfl (by simp only [bW, cS, bH, bV, bap, bsz, List.length_append, List.length_cons, List.length_nil]; omega)) ?_
     simp only [bW, cS, bH, bV, bap]
     refine aB rfl (bZ rfl rfl (by simp only [bW, cS, bH, bV, bap, bsz, List.length_append, List.length_cons, List.length_nil]; omega)) ?_
     simp only [bW, cS, bH, bV, bap, hdA]; refine aM (aD (aY (bI ?_))); refine ⟨([123] ++ fO t.min.toNat ++ [125]), ⟨rfl, trivial⟩, ⟨rfl, rfl, trivial⟩, hE89, ?_⟩; exact (vC (by omega) (by omega)).symm
    simp only [bW, cS, bH, bV, bap, hdA, hd2 (by omega : 0 ≤ t.max)]; refine bA (aY (bI ?_)); refine ⟨([123] ++ fO t.min.toNat ++ [44] ++ fO t.max.toNat ++ [125]), ⟨rfl, trivial⟩, ⟨rfl, rfl, trivial⟩, (Evo.refl [] w16), ?_⟩; exact (vB (by omega) (by omega) (by omega)).symm
   refine aG (aG (aG (aV (aM (aD (aA (cQ rfl ?_))))))); refine aF (aC (aB rfl (aE rfl bY) (aB rfl (aI rfl aU (aJ hB20 rfl)) (aB rfl (bC rfl rfl) ?_)))); refine aM (aD (aA (bJ rfl (fun hc41 => ?_) (fun hc41 => ?_))))
   ·skip
    refine aC (aB rfl (aE rfl bT) (aB rfl (aI rfl aU (aJ hB20 rfl)) ?_)); refine aN (vs := [_]) cF rfl (hY (hG.evo0 hE18) t.min (by omega) (by omega)) rfl ?_; rintro _ w91 ⟨rfl, -, -, hw92⟩; have hE94 := (Evo.refl [] w16).then hw92
    refine aB rfl (bZ rfl rfl (by simp only [bW, cS, bH, bV, bap, bsz, List.length_append, List.length_cons, List.length_nil]; omega)) ?_
    simp only [bW, cS, bH, bV, bap]
    refine aB rfl (bZ rfl rfl (by simp only [bW, cS, bH, bV, bap, bsz, List.length_append, List.length_cons, List.length_nil]; omega)) ?_
    simp only [bW, cS, bH, bV, bap, hdA]; refine aM (aD (aY (bI ?_))); refine ⟨([123] ++ fO t.min.toNat ++ [44, 125]), ⟨rfl, trivial⟩, ⟨rfl, rfl, trivial⟩, hE94, ?_⟩; exact (vD (by omega) (by omega) (by omega)).symm
   refine aF (aC (aB rfl (aE rfl bY) (aB rfl (aI rfl aU (aJ hB20 rfl)) (aB rfl (aE rfl bT) (aB rfl (aI rfl aU (aJ hB20 rfl)) (aB rfl (bC rfl rfl) ?_)))))); refine aM (aD (aA (bJ rfl (fun hc50 => ?_) (fun hc50 => ?_))))
   ·skip
    refine aC (aB rfl (aE rfl bT) (aB rfl (aI rfl aU (aJ hB20 rfl)) ?_)); refine aN (vs := [_]) cF rfl (hY (hG.evo0 hE18) t.min (by omega) (by omega)) rfl ?_; rintro _ w96 ⟨rfl, -, -, hw97⟩; have hE99 := (Evo.refl [] w16).then hw97
    refine aB rfl (bZ rfl rfl (by simp only [bW, cS, bH, bV, bap, bsz, List.length_append, List.length_cons, List.length_nil]; omega)) ?_
    simp only [bW, cS, bH, bV, bap]
    refine aB rfl (bZ rfl rfl (by simp only [bW, cS, bH, bV, bap, bsz, List.length_append, List.length_cons, List.length_nil]; omega)) ?_
    simp only [bW, cS, bH, bV, bap, hdA]; refine aM (aD (aY (bI ?_))); refine ⟨([123] ++ fO t.min.toNat ++ [125]), ⟨rfl, trivial⟩, ⟨rfl, rfl, trivial⟩, hE99, ?_⟩; exact (vC (by omega) (by omega)).symm
   simp only [bW, cS, bH, bV, bap, hdA, hd2 (by omega : 0 ≤ t.max)]; refine bA (aY (bI ?_)); refine ⟨([123] ++ fO t.min.toNat ++ [44] ++ fO t.max.toNat ++ [125]), ⟨rfl, trivial⟩, ⟨rfl, rfl, trivial⟩, (Evo.refl [] w16), ?_⟩; exact (vB (by omega) (by omega) (by omega)).symm
  rintro z w101 ⟨hV102, hz⟩; refine aA ?_; show CW _ _ _ _ [(3, _), (1, _), (2, _)] _; have hE103 := hE18.then hV102; have hB104 := hV102.blk0 hB20; refine aF (aF (aC (aB rfl (aE rfl eK) (aB rfl (aI rfl eF (aJ hB104 rfl)) (aD (aA (fB rfl (fun hc62 => ?_) (fun hc62 => ?_))))))))
  ·skip
   refine aC (aH ?_)
   refine aB rfl (bZ rfl rfl (by rw [bsz]; show _ + 1 ≤ _; have := sR h0 h1 h2; rw [hz]; omega)) ?_
   rw [lt63, bap]; refine aM (aD (aA (aF (aC (aH (aM (aD (aA (aQ (aK rfl rfl ?_)))))))))); refine ⟨?_, hE103⟩
   subst hz; rw [if_pos hc62]
  refine bA (aA (aF (aC (aH (aM (aD (aA (aQ (aK rfl rfl ?_))))))))); refine ⟨?_, hE103⟩
  subst hz; rw [if_neg (by rw [hc62]; simp), List.append_nil]
def brP (p : Prop) [Decidable p] : List Nat := if p then [40, 63, 58] else []
def WOK8 (n : Nat) : Prop := ∀ {w0 w : World} {a : Option Addr} {c : Nat} {l : List Nat} {ob : Option Nat} {vs : List Value} {t : Rx} {k : Int} (hG : Gw w0) (hE0 : Evo [] w0 w) (huo : Ge w0 ob) (hO : OwnS w 5 1 a l.length c (fL l) ob) (hx : RRx n [] w0 vs t) (hg : Good t) (hl : l.length + t.ms + 3 ≤ 70000000),
    Calls Tryz.prog 53 #[.slice a l.length c, .agg vs.toArray, .int .i64 k] w (Ret fun v w' => Pt w (l ++ brW (Brk t.kind k) t.w) ob v w')
structure PdI (w0 w wr : World) (b4 : Nat) (C : Array Value) (L : List Nat) (ob : Option Nat) (a : Option Addr) (n c : Nat) (o : Option Nat) : Prop where
  hn : n = L.length
  own : OwnS wr 5 1 a L.length c (fL L) o
  e0 : Evo [] w0 wr
  nb : o = ob ∨ ∃ g, o = some g ∧ w.heap.size ≤ g
  hu : Ge w0 o
  h4 : wr.heap[b4]? = some (.cells C 27 (0, 0))
  ao : Apart (some b4) o
theorem oO {w0 w wr : World} {b4 : Nat} {C : Array Value} {L L' : List Nat} {ob : Option Nat} {a : Option Addr} {c : Nat} {o : Option Nat} (h : OwnS wr 5 1 a L.length c (fL L) o) (e : L = L') (h0 : Evo [] w0 wr) (h1 : o = ob ∨ ∃ g, o = some g ∧ w.heap.size ≤ g) (h2 : Ge w0 o) (h3 : wr.heap[b4]? = some (.cells C 27 (0, 0))) (h4 : Apart (some b4) o) : PdI w0 w wr b4 C L' ob a L.length c o := by
  subst e; exact ⟨rfl, h, h0, h1, h2, h3, h4⟩
theorem yZ {t : Rx} {l Z : List Nat} {k : Int} (h1 : t.kind = 6 → Z = gZ t.min t.max ++ (if t.lazy = true then [63] else [])) (h2 : t.kind ≠ 6 → Z = []) (p : Bool) (hp : p = true ↔ t.kind = 7 ∨ Brk t.kind k) :
    l ++ brP (Brk t.kind k) ++ mL t.kind t.r t.ranges t.name ++ fU t.kind true t.kids ++ Z ++ (if p = true then [41] else []) = l ++ brW (Brk t.kind k) t.w := by
  rw [Rx.w_eq, brW, brP, yN]
  by_cases hb : Brk t.kind k
  · have h7 : t.kind ≠ 7 := by unfold Brk at hb; omega
    rw [if_pos hb, if_pos hb, if_pos (hp.2 (.inr hb)), if_neg h7]
    by_cases h6 : t.kind = 6
    · rw [if_pos h6, h1 h6]; simp
    · rw [if_neg h6, h2 h6]; simp
  · rw [if_neg hb, if_neg hb]
    by_cases h7 : t.kind = 7
    · rw [if_pos (hp.2 (.inl h7)), if_neg (by omega), if_pos h7, h2 (by omega)]; simp
    · rw [if_neg (fun h => (hp.1 h).elim h7 hb), if_neg h7]
      by_cases h6 : t.kind = 6
      · rw [if_pos h6, h1 h6]; simp
      · rw [if_neg h6, h2 h6]; simp
theorem MK {t : Rx} (hg : Good t) : (mL t.kind t.r t.ranges t.name).length + 35 ≤ t.ms - kms t.kids + 15 := by
  have hn := (bE _).1 hg.node
  have hm := Rx.ms_eq t
  have h2 : (mL t.kind t.r t.ranges t.name).length ≤ 20 + t.name.size + 26 * t.ranges.length := by
      unfold mL
      split
      · have := (wN (hn.lit1 (by assumption)) (hn.lit2 (by assumption))).1
        omega
      · split
        · have := pF (RangesOk.b (hn.cls (by assumption)))
          unfold tF
          split
          · show 19 ≤ _; omega
          · rw [List.length_append, List.length_append]; simp only [List.length_cons, List.length_nil]; omega
        · split
          · split
            · simp; omega
            · simp [sY]; omega
          · split
            · simp; omega
            · split
              · simp; omega
              · split
                · simp; omega
                · split
                  · simp; omega
                  · split
                    · simp; omega
                    · split
                      · simp; omega
                      · simp
  omega
theorem mU (p : Prop) [Decidable p] : (brP p).length ≤ 3 := by unfold brP; split <;> simp
structure PeG where
  n : Nat
  sa : Option Addr
  sc : Nat
  so : Option Nat
structure PfG where
  j : Nat
  n : Nat
  sa : Option Addr
  sc : Nat
  so : Option Nat
set_option maxHeartbeats 8000000 in
theorem CV {n : Nat} (ih : WOK8 n) {w0 w : World} {a : Option Addr} {c : Nat} {l : List Nat} {ob : Option Nat} {vs : List Value} {t : Rx} {k : Int} (hG : Gw w0) (hE0 : Evo [] w0 w) (huo : Ge w0 ob) (hO : OwnS w 5 1 a l.length c (fL l) ob) (hx : RRx (n + 1) [] w0 vs t) (hg : Good t) (hl : l.length + t.ms + 3 ≤ 70000000) :
    Calls Tryz.prog 53 #[.slice a l.length c, .agg vs.toArray, .int .i64 k] w (Ret fun v w' => Pt w (l ++ brW (Brk t.kind k) t.w) ob v w') := by
  have hx0 := hx; obtain ⟨m, ra, rc, ka, kc, hm, rfl, hrg, hk, bl1, bl2, bl3⟩ := hx.get
  obtain rfl : m = n := by omega
  have hn := (bE t).1 hg.node; have hms := Rx.ms_eq t; have hpl := MK hg; have hbl := mU (Brk t.kind k); have hk' := hk; obtain ⟨_, _, hke, hkc, e1⟩ := hk'; cases hke; refine bL (N := 109) Tryz.func53 rfl rfl rfl ?_; refine aF (aC (gT rfl rfl fun b4 w1 hB2 hs3 hw4 => ?_)); have hsz_b4 := hs3; have hA5 := Apart.new (Lt.own hO) hs3; have hE8 := (Evo.refl ob.toList w).then hw4; have hE9 := hE0.then hw4; have hO10 := hO.evo0 hw4; refine aM (aD (aA (aF (aC (aH (aB rfl (aE rfl dG) (aB rfl (aI rfl aU (aJ hB2 rfl)) (aN (vs := [_, _]) vQ rfl (vM k t.kind) rfl ?_)))))))); rintro _ w11 ⟨rfl, hw12⟩; have hE13 := hE8.then hw12; have hE14 := hE9.then hw12; have hO15 := hO10.evo0 hw12; have hB16 := hw12.blk0 hB2; refine aM (aD (aA (aF (oK (α := PeG) (fun x => [(0, .slice x.sa x.n x.sc)]) [(4, _), (6, _), (7, _)] (fun x wr => Evo ob.toList w wr ∧ (PdI w0 w wr b4 #[iv t.kind, .int .i32 t.r, .slice ra t.ranges.length rc, iv t.min, iv t.max, .bool t.lazy, iv t.cap, .string t.name, .slice ka t.kids.length kc] (l ++ brP (Brk t.kind k)) ob x.sa x.n x.sc x.so)) ⟨rfl, rfl, rfl, trivial⟩ ?_ ?_))))
  ·skip
   refine aF (aC (aH (aD (aA (fB rfl (fun hc13 => ?_) (fun hc13 => ?_))))))
   ·skip
    refine aC (aH ?_)
    refine aN (vs := [_, _]) eR rfl (iA hO15 (m := [40, 63, 58]) (by decide +kernel) (cC (by decide +kernel)) (by first | omega | simp only [List.length_append, List.length_cons, List.length_nil]; omega) (by decide)) rfl ?_
    rintro _ w17 ⟨ja1, jc1, jo1, rfl, hSL1, hw18, hnb1⟩; have hV9 := hE13; have hV90 := hE14; have hN1 := cT (Or.inl rfl) hnb1 hV9.size; have hU1 := dK huo hV90.size hnb1; have hAO1_b4 := eG hA5.symm (Lt.blk hB16) hnb1; have hE19 := hE13.step hw18 (gO (Or.inl rfl)); have hE20 := hE14.step hw18 (huo.mem); have hB21 := hw18.blk hB16 (hA5.symm.nmem); refine aM (aD (bI ?_)); refine ⟨⟨_, ja1, jc1, jo1⟩, ⟨rfl, trivial⟩, ⟨rfl, rfl, rfl, trivial⟩, hE19, ?_⟩; exact oO hSL1 (by rw [brP, if_pos (of_decide_eq_true hc13)]) hE20 hN1 hU1 hB21 hAO1_b4
   refine bA (bI ?_); refine ⟨⟨_, a, c, ob⟩, ⟨rfl, trivial⟩, ⟨rfl, rfl, rfl, trivial⟩, hE13, ?_⟩; exact oO hO15 (by rw [brP, if_neg (of_decide_eq_false hc13), List.append_nil]) hE14 (Or.inl rfl) huo hB16 hA5.symm
  rintro ⟨n, sa, sc, so⟩ w22 ⟨hV23, ⟨hn9, hSLl, hE0l, hNl, hUl, hB4l, hA4l⟩⟩; refine aA ?_; show CW _ _ _ _ [(0, .slice sa n sc), (4, _), (6, _), (7, _)] _
  try dsimp only at hn9
  try dsimp only at hSLl
  try dsimp only at hE0l
  try dsimp only at hNl
  try dsimp only at hUl
  try dsimp only at hB4l
  try dsimp only at hA4l
  subst hn9; refine aF (oK (α := PeG) (fun x => [(0, .slice x.sa x.n x.sc)]) [(4, _), (6, _), (7, _)] (fun x wr => Evo ob.toList w wr ∧ (PdI w0 w wr b4 #[iv t.kind, .int .i32 t.r, .slice ra t.ranges.length rc, iv t.min, iv t.max, .bool t.lazy, iv t.cap, .string t.name, .slice ka t.kids.length kc] (l ++ brP (Brk t.kind k) ++ mL t.kind t.r t.ranges t.name) ob x.sa x.n x.sc x.so)) ⟨rfl, rfl, rfl, trivial⟩ ?_ ?_)
  ·skip
   refine aF (aC (aB rfl (aE rfl dG) (aB rfl (aI rfl aU (aJ hB4l rfl)) (aD (aA (bX (aF (aC (aB rfl (bC rfl rfl) ?_))))))))); refine aM (aD (aA (bJ rfl (fun hc18 => ?_) (fun hc18 => ?_))))
   ·skip
    refine aC (aH (aB rfl (aE rfl eL) (aB rfl (aI rfl cD (aJ hB4l rfl)) ?_))); refine aN (vs := [_]) FJ rfl (lit_ok8 (hG.evo0 hE0l) (hn.lit1 (by omega)) (hn.lit2 (by omega))) rfl ?_; rintro _ w24 ⟨rfl, hw25⟩; have hE26 := hV23.then hw25; have hE27 := hE0l.then hw25; have hO28 := hSLl.evo0 hw25; have hB29 := hw25.blk0 hB4l; have hlw := wN (hn.lit1 (by omega)) (hn.lit2 (by omega))
    refine aN (vs := [_, _]) eR rfl (iA hO28 (m := mO t.r) rfl hlw.2 (by simp only [List.length_append, List.length_cons, List.length_nil]; omega) (by omega)) rfl ?_
    rintro _ w30 ⟨ja1, jc1, jo1, rfl, hSL1, hw31, hnb1⟩; have hV9 := hE26; have hV90 := hE27; have hN1 := cT hNl hnb1 hV9.size; have hU1 := dK hUl hV90.size hnb1; have hAO1_b4 := eG hA4l (Lt.blk hB29) hnb1; have hE32 := hE26.step hw31 (gO hNl); have hE33 := hE27.step hw31 (hUl.mem); have hB34 := hw31.blk hB29 (hA4l.nmem); refine aM (aD (aY (bI ?_))); refine ⟨⟨_, ja1, jc1, jo1⟩, ⟨rfl, trivial⟩, ⟨rfl, rfl, rfl, trivial⟩, hE32, ?_⟩
    exact oO hSL1 (by rw [show t.kind = 2 by omega]; rfl) hE33 hN1 hU1 hB34 hAO1_b4
   refine aF (aC (aB rfl (bC rfl rfl) ?_)); refine aM (aD (aA (bJ rfl (fun hc25 => ?_) (fun hc25 => ?_))))
   ·skip
    refine aC (aH (aB rfl (aE rfl eP) (aB rfl (aI rfl fX (aJ hB4l rfl)) ?_)))
    refine aN (vs := [_, _]) FI rfl (KY hG hE0l hUl hSLl hrg (RangesOk.b (hn.cls (by omega))) (by simp only [List.length_append, List.length_cons, List.length_nil]; omega)) rfl ?_
    rintro _ w35 ⟨ja1, jc1, jo1, rfl, hSL1, hw36, hnb1⟩; have hV9 := hV23; have hV90 := hE0l; have hN1 := cT hNl hnb1 hV9.size; have hU1 := dK hUl hV90.size hnb1; have hAO1_b4 := eG hA4l (Lt.blk hB4l) hnb1; have hE37 := hV23.step hw36 (gO hNl); have hE38 := hE0l.step hw36 (hUl.mem); have hB39 := hw36.blk hB4l (hA4l.nmem); refine aM (aD (aY (bI ?_))); refine ⟨⟨_, ja1, jc1, jo1⟩, ⟨rfl, trivial⟩, ⟨rfl, rfl, rfl, trivial⟩, hE37, ?_⟩
    exact oO hSL1 (by rw [show t.kind = 3 by omega]; rfl) hE38 hN1 hU1 hB39 hAO1_b4
   refine aF (aC (aB rfl (bC rfl rfl) ?_)); refine aM (aD (aA (bJ rfl (fun hc31 => ?_) (fun hc31 => ?_))))
   ·skip
    refine aF (aC (aH ?_))
    refine aN (vs := [_, _]) eR rfl (iA hSLl (m := [40]) (by decide +kernel) (cC (by decide +kernel)) (by have h9 := mU (Brk t.kind k); simp only [List.length_append, List.length_cons, List.length_nil]; omega) (by decide)) rfl ?_
    rintro _ w40 ⟨ja1, jc1, jo1, rfl, hSL1, hw41, hnb1⟩; have hV9 := hV23; have hV90 := hE0l; have hN1 := cT hNl hnb1 hV9.size; have hU1 := dK hUl hV90.size hnb1; have hAO1_b4 := eG hA4l (Lt.blk hB4l) hnb1; have hE42 := hV23.step hw41 (gO hNl); have hE43 := hE0l.step hw41 (hUl.mem); have hB44 := hw41.blk hB4l (hA4l.nmem); refine aM (aD (aA (aF (aC (aB rfl (aE rfl dR) (aB rfl (aI rfl cR (aJ hB44 rfl)) (aB rfl (rJ rfl rfl) ?_))))))); refine aD (aA (bJ rfl (fun hc37 => ?_) (fun hc37 => ?_)))
    ·skip
     refine aC (aH (aB rfl (aE rfl dR) (aB rfl (aI rfl cR (aJ hB44 rfl)) ?_)))
     refine aB rfl (bZ rfl rfl (by show 3 + _ ≤ _; omega)) ?_
     refine aB rfl (bZ rfl rfl (by rw [ByteArray.size_append]; show 3 + _ + 1 ≤ _; omega)) ?_
     refine aN (vs := [_, _]) eR rfl (iA hSL1 (m := [63, 80, 60] ++ nmL t.name ++ [62]) (by rw [← bap, ← bap, DO]; rfl) (((cC (by decide +kernel)).app (HS _)).app (cC (by decide +kernel))) (by have hnl := sY t.name; simp only [List.length_append, List.length_cons, List.length_nil]; omega) (by have hnl := sY t.name; simp only [List.length_append, List.length_cons, List.length_nil]; omega)) rfl ?_
     rintro _ w45 ⟨ja2, jc2, jo2, rfl, hSL2, hw46, hnb2⟩; have hV9 := hE42; have hV90 := hE43; have hN2 := cT hN1 hnb2 hV9.size; have hU2 := dK hU1 hV90.size hnb2; have hAO2_b4 := eG hAO1_b4 (Lt.blk hB44) hnb2; have hE47 := hE42.step hw46 (gO hN1); have hE48 := hE43.step hw46 (hU1.mem); have hB49 := hw46.blk hB44 (hAO1_b4.nmem); refine aM (aD (aY (bI ?_))); refine ⟨⟨_, ja2, jc2, jo2⟩, ⟨rfl, trivial⟩, ⟨rfl, rfl, rfl, trivial⟩, hE47, ?_⟩
     exact oO hSL2 (by rw [show mL t.kind t.r t.ranges t.name = [40] ++ ([63, 80, 60] ++ nmL t.name ++ [62]) by rw [show t.kind = 7 by omega]; show [40] ++ _ = _; rw [if_neg (fun h9 => hc37 h9)]]; simp) hE48 hN2 hU2 hB49 hAO2_b4
    refine bA (aY (bI ?_)); refine ⟨⟨_, ja1, jc1, jo1⟩, ⟨rfl, trivial⟩, ⟨rfl, rfl, rfl, trivial⟩, hE42, ?_⟩
    exact oO hSL1 (by rw [show mL t.kind t.r t.ranges t.name = [40] by rw [show t.kind = 7 by omega]; show [40] ++ _ = _; rw [if_pos (Classical.not_not.1 hc37)]; rfl]) hE43 hN1 hU1 hB44 hAO1_b4
   refine aF (aC (aB rfl (bC rfl rfl) ?_)); refine aM (aD (aA (bJ rfl (fun hc44 => ?_) (fun hc44 => ?_))))
   ·skip
    refine aC (aH ?_)
    refine aN (vs := [_, _]) eR rfl (iA hSLl (m := [92, 65]) (by decide +kernel) (cC (by decide +kernel)) (by have h9 := mU (Brk t.kind k); simp only [List.length_append, List.length_cons, List.length_nil]; omega) (by decide)) rfl ?_
    rintro _ w50 ⟨ja1, jc1, jo1, rfl, hSL1, hw51, hnb1⟩; have hV9 := hV23; have hV90 := hE0l; have hN1 := cT hNl hnb1 hV9.size; have hU1 := dK hUl hV90.size hnb1; have hAO1_b4 := eG hA4l (Lt.blk hB4l) hnb1; have hE52 := hV23.step hw51 (gO hNl); have hE53 := hE0l.step hw51 (hUl.mem); have hB54 := hw51.blk hB4l (hA4l.nmem); refine aM (aD (aY (bI ?_))); refine ⟨⟨_, ja1, jc1, jo1⟩, ⟨rfl, trivial⟩, ⟨rfl, rfl, rfl, trivial⟩, hE52, ?_⟩
    exact oO hSL1 (by rw [show t.kind = 8 by omega]; rfl) hE53 hN1 hU1 hB54 hAO1_b4
   refine aF (aC (aB rfl (bC rfl rfl) ?_)); refine aM (aD (aA (bJ rfl (fun hc48 => ?_) (fun hc48 => ?_))))
   ·skip
    refine aC (aH ?_)
    refine aN (vs := [_, _]) eR rfl (iA hSLl (m := [92, 122]) (by decide +kernel) (cC (by decide +kernel)) (by have h9 := mU (Brk t.kind k); simp only [List.length_append, List.length_cons, List.length_nil]; omega) (by decide)) rfl ?_
    rintro _ w55 ⟨ja1, jc1, jo1, rfl, hSL1, hw56, hnb1⟩; have hV9 := hV23; have hV90 := hE0l; have hN1 := cT hNl hnb1 hV9.size; have hU1 := dK hUl hV90.size hnb1; have hAO1_b4 := eG hA4l (Lt.blk hB4l) hnb1; have hE57 := hV23.step hw56 (gO hNl); have hE58 := hE0l.step hw56 (hUl.mem); have hB59 := hw56.blk hB4l (hA4l.nmem); refine aM (aD (aY (bI ?_))); refine ⟨⟨_, ja1, jc1, jo1⟩, ⟨rfl, trivial⟩, ⟨rfl, rfl, rfl, trivial⟩, hE57, ?_⟩
    exact oO hSL1 (by rw [show t.kind = 9 by omega]; rfl) hE58 hN1 hU1 hB59 hAO1_b4
   refine aF (aC (aB rfl (bC rfl rfl) ?_)); refine aM (aD (aA (bJ rfl (fun hc52 => ?_) (fun hc52 => ?_))))
   ·skip
    refine aC (aH ?_)
    refine aN (vs := [_, _]) eR rfl (iA hSLl (m := [94]) (by decide +kernel) (cC (by decide +kernel)) (by have h9 := mU (Brk t.kind k); simp only [List.length_append, List.length_cons, List.length_nil]; omega) (by decide)) rfl ?_
    rintro _ w60 ⟨ja1, jc1, jo1, rfl, hSL1, hw61, hnb1⟩; have hV9 := hV23; have hV90 := hE0l; have hN1 := cT hNl hnb1 hV9.size; have hU1 := dK hUl hV90.size hnb1; have hAO1_b4 := eG hA4l (Lt.blk hB4l) hnb1; have hE62 := hV23.step hw61 (gO hNl); have hE63 := hE0l.step hw61 (hUl.mem); have hB64 := hw61.blk hB4l (hA4l.nmem); refine aM (aD (aY (bI ?_))); refine ⟨⟨_, ja1, jc1, jo1⟩, ⟨rfl, trivial⟩, ⟨rfl, rfl, rfl, trivial⟩, hE62, ?_⟩
    exact oO hSL1 (by rw [show t.kind = 10 by omega]; rfl) hE63 hN1 hU1 hB64 hAO1_b4
   refine aF (aC (aB rfl (bC rfl rfl) ?_)); refine aM (aD (aA (bJ rfl (fun hc56 => ?_) (fun hc56 => ?_))))
   ·skip
    refine aC (aH ?_)
    refine aN (vs := [_, _]) eR rfl (iA hSLl (m := [36]) (by decide +kernel) (cC (by decide +kernel)) (by have h9 := mU (Brk t.kind k); simp only [List.length_append, List.length_cons, List.length_nil]; omega) (by decide)) rfl ?_
    rintro _ w65 ⟨ja1, jc1, jo1, rfl, hSL1, hw66, hnb1⟩; have hV9 := hV23; have hV90 := hE0l; have hN1 := cT hNl hnb1 hV9.size; have hU1 := dK hUl hV90.size hnb1; have hAO1_b4 := eG hA4l (Lt.blk hB4l) hnb1; have hE67 := hV23.step hw66 (gO hNl); have hE68 := hE0l.step hw66 (hUl.mem); have hB69 := hw66.blk hB4l (hA4l.nmem); refine aM (aD (aY (bI ?_))); refine ⟨⟨_, ja1, jc1, jo1⟩, ⟨rfl, trivial⟩, ⟨rfl, rfl, rfl, trivial⟩, hE67, ?_⟩
    exact oO hSL1 (by rw [show t.kind = 11 by omega]; rfl) hE68 hN1 hU1 hB69 hAO1_b4
   refine aF (aC (aB rfl (bC rfl rfl) ?_)); refine aM (aD (aA (bJ rfl (fun hc60 => ?_) (fun hc60 => ?_))))
   ·skip
    refine aC (aH ?_)
    refine aN (vs := [_, _]) eR rfl (iA hSLl (m := [92, 98]) (by decide +kernel) (cC (by decide +kernel)) (by have h9 := mU (Brk t.kind k); simp only [List.length_append, List.length_cons, List.length_nil]; omega) (by decide)) rfl ?_
    rintro _ w70 ⟨ja1, jc1, jo1, rfl, hSL1, hw71, hnb1⟩; have hV9 := hV23; have hV90 := hE0l; have hN1 := cT hNl hnb1 hV9.size; have hU1 := dK hUl hV90.size hnb1; have hAO1_b4 := eG hA4l (Lt.blk hB4l) hnb1; have hE72 := hV23.step hw71 (gO hNl); have hE73 := hE0l.step hw71 (hUl.mem); have hB74 := hw71.blk hB4l (hA4l.nmem); refine aM (aD (aY (bI ?_))); refine ⟨⟨_, ja1, jc1, jo1⟩, ⟨rfl, trivial⟩, ⟨rfl, rfl, rfl, trivial⟩, hE72, ?_⟩
    exact oO hSL1 (by rw [show t.kind = 12 by omega]; rfl) hE73 hN1 hU1 hB74 hAO1_b4
   refine aF (aC (aB rfl (bC rfl rfl) ?_)); refine aM (aD (aA (bJ rfl (fun hc64 => ?_) (fun hc64 => ?_))))
   ·skip
    refine aC (aH ?_)
    refine aN (vs := [_, _]) eR rfl (iA hSLl (m := [92, 66]) (by decide +kernel) (cC (by decide +kernel)) (by have h9 := mU (Brk t.kind k); simp only [List.length_append, List.length_cons, List.length_nil]; omega) (by decide)) rfl ?_
    rintro _ w75 ⟨ja1, jc1, jo1, rfl, hSL1, hw76, hnb1⟩; have hV9 := hV23; have hV90 := hE0l; have hN1 := cT hNl hnb1 hV9.size; have hU1 := dK hUl hV90.size hnb1; have hAO1_b4 := eG hA4l (Lt.blk hB4l) hnb1; have hE77 := hV23.step hw76 (gO hNl); have hE78 := hE0l.step hw76 (hUl.mem); have hB79 := hw76.blk hB4l (hA4l.nmem); refine aM (aD (aY (bI ?_))); refine ⟨⟨_, ja1, jc1, jo1⟩, ⟨rfl, trivial⟩, ⟨rfl, rfl, rfl, trivial⟩, hE77, ?_⟩
    exact oO hSL1 (by rw [show t.kind = 13 by omega]; rfl) hE78 hN1 hU1 hB79 hAO1_b4
   refine bA (aY (bI ?_)); refine ⟨⟨_, sa, sc, so⟩, ⟨rfl, trivial⟩, ⟨rfl, rfl, rfl, trivial⟩, hV23, ?_⟩
   exact oO hSLl (by rw [show mL t.kind t.r t.ranges t.name = [] by have h1 := hn.kind1; have h2 := hn.kind2; rw [mL]; repeat rw [if_neg (by omega)]]; simp) hE0l hNl hUl hB4l hA4l
  rintro ⟨n, sa, sc, so⟩ w80 ⟨hV81, ⟨hn9, hSLl, hE0l, hNl, hUl, hB4l, hA4l⟩⟩; refine aA ?_; show CW _ _ _ _ [(0, .slice sa n sc), (4, _), (6, _), (7, _)] _
  try dsimp only at hn9
  try dsimp only at hSLl
  try dsimp only at hE0l
  try dsimp only at hNl
  try dsimp only at hUl
  try dsimp only at hB4l
  try dsimp only at hA4l
  subst hn9; refine aF (aF (aC (aM (aD (aA (bX ?_))))))
  refine eT (α := PfG) (⟨0, _, sa, sc, so⟩) (fun x => [(0, .slice x.sa x.n x.sc), (8, .int .i64 (x.j : Nat))]) [(4, _), (6, _), (7, _)] (fun x wr => Evo ob.toList w wr ∧ (x.j ≤ t.kids.length ∧ PdI w0 w wr b4 #[iv t.kind, .int .i32 t.r, .slice ra t.ranges.length rc, iv t.min, iv t.max, .bool t.lazy, iv t.cap, .string t.name, .slice ka t.kids.length kc] (l ++ brP (Brk t.kind k) ++ mL t.kind t.r t.ranges t.name ++ fU t.kind true (t.kids.take x.j)) ob x.sa x.n x.sc x.so)) (fun x => t.kids.length - x.j) ⟨rfl, rfl, trivial⟩ ⟨rfl, rfl, rfl, trivial⟩ ⟨hV81, ⟨Nat.zero_le _, by rw [List.take_zero, fU, List.append_nil], by rw [List.take_zero, fU, List.append_nil]; exact hSLl, hE0l, hNl, hUl, hB4l, hA4l⟩⟩ ?_
  rintro ⟨j, n, sa, sc, so⟩ wr82 ⟨hV83, ⟨hkj, hn9, hSLl, hE0l, hNl, hUl, hB4l, hA4l⟩⟩; show CW _ _ _ _ [(0, .slice sa n sc), (8, .int .i64 (j : Nat)), (4, _), (6, _), (7, _)] _
  try dsimp only at hkj
  try dsimp only at hn9
  try dsimp only at hSLl
  try dsimp only at hE0l
  try dsimp only at hNl
  try dsimp only at hUl
  try dsimp only at hB4l
  try dsimp only at hA4l
  subst hn9; refine aF (aF (aC (aH (aB rfl (aE rfl cM) (aB rfl (aI rfl cZ (aJ hB4l rfl)) (aB rfl (bO rfl Tryz.underlying25 rfl) ?_)))))); refine aB rfl (dF rfl rfl) ?_; refine aD (aA (bJ rfl (fun hc72 => ?_) (fun hc72 => ?_)))
  ·skip
   have hj' : j < t.kids.length := by omega
   obtain ⟨b1, o1', vs1, ha1, hb1, hvl1, hc1, hrk⟩ := e1 j hj'; obtain ⟨m1, ra1, rc1, ka1, kc1, rfl, rfl, -⟩ := id hrk.get; have hkt := qM hj'; have hkl := qN (l := t.kids) (j + 1); have hwl := jF (t.kids.take j) t.kind true (fun k hk => hg.kid k (List.mem_of_mem_take hk)); refine bA (aA (aF (bX (aF (aF (aC (aB rfl (aE rfl dG) (aB rfl (aI rfl aU (aJ hB4l rfl)) (aB rfl (bC rfl rfl) ?_))))))))); refine aH (aX (t := 78) rfl (fun hs78 => ?_) (fun hs78 => ?_))
   ·skip
    refine aP (aH (aP (aB rfl (eZ rfl rfl) ?_))); refine bD (aD (aA (bJ rfl (fun hc81 => ?_) (fun hc81 => ?_))))
    ·skip
     refine aC (aH ?_)
     refine aN (vs := [_, _]) eR rfl (iA hSLl (m := [124]) (by decide +kernel) (cC (by decide +kernel)) (by have h9 := mU (Brk t.kind k); simp only [List.length_append, List.length_cons, List.length_nil]; omega) (by decide)) rfl ?_
     rintro _ w84 ⟨ja1, jc1, jo1, rfl, hSL1, hw85, hnb1⟩; have hV9 := hV83; have hV90 := hE0l; have hN1 := cT hNl hnb1 hV9.size; have hU1 := dK hUl hV90.size hnb1; have hAO1_b4 := eG hA4l (Lt.blk hB4l) hnb1; have hE86 := hV83.step hw85 (gO hNl); have hE87 := hE0l.step hw85 (hUl.mem); have hB88 := hw85.blk hB4l (hA4l.nmem); refine aM (aD (aA ?_)); refine hD (fun w0 w' => Evo (jo1.toList) w0 w') (by kernel_rfl) (fun w89 hw90 => ?_); have hE91 := hE86.then hw90; have hE92 := hE87.then hw90; have hB93 := hw90.blk0 hB88; have hO94 := hSL1.evo0 hw90; refine bB 0 rfl (by kernel_rfl) (by kernel_rfl) (by kernel_rfl) rfl (fun _ hS => bM rfl) (Evo.refl (jo1.toList) w89) ?_; refine bB 1 rfl (by kernel_rfl) (by kernel_rfl) (by kernel_rfl) rfl (fun _ hS => aE rfl cM) (Evo.refl (jo1.toList) w89) ?_; refine bB 2 rfl (by kernel_rfl) (by kernel_rfl) (by kernel_rfl) rfl (fun _ hS => aI rfl cZ (aJ (hS.blk hB93 (hAO1_b4.nmem)) rfl)) (Evo.refl (jo1.toList) w89) ?_; refine bB 3 rfl (by kernel_rfl) (by kernel_rfl) (by kernel_rfl) rfl (fun _ hS => bM rfl) (Evo.refl (jo1.toList) w89) ?_
     refine bB 4 rfl (by kernel_rfl) (by kernel_rfl) (by kernel_rfl) rfl (fun _ hS => dP (n := j) (by rw [ha1]; rfl) rfl dV (by omega)) (Evo.refl (jo1.toList) w89) ?_
     refine bB 5 rfl (by kernel_rfl) (by kernel_rfl) (by kernel_rfl) rfl (fun _ hS => eQ rfl bS bG (vs := [_, _, _, _, _, _, _, _, _]) rfl (hc1.evo (hE92.step hS (hU1.mem)) (by simp))) (Evo.refl (jo1.toList) w89) ?_; refine bB 6 rfl (by kernel_rfl) (by kernel_rfl) (by kernel_rfl) rfl (fun _ hS => aE rfl dG) (Evo.refl (jo1.toList) w89) ?_; refine bB 7 rfl (by kernel_rfl) (by kernel_rfl) (by kernel_rfl) rfl (fun _ hS => aI rfl aU (aJ (hS.blk hB93 (hAO1_b4.nmem)) rfl)) (Evo.refl (jo1.toList) w89) ?_; refine cL [8] (by kernel_rfl) rfl ⟨?_, trivial⟩; refine cV rfl ?_
     refine aN (vs := [_, _, _]) oA rfl (ih hG hE92 hU1 hO94 hrk (hg.kid _ (List.getElem_mem hj')) (by simp only [List.length_append, List.length_cons, List.length_nil]; omega)) rfl ?_
     rintro _ w95 ⟨ja2, jc2, jo2, rfl, hSL2, hw96, hnb2⟩; have hV9 := hE91; have hV90 := hE92; have hN2 := cT hN1 hnb2 hV9.size; have hU2 := dK hU1 hV90.size hnb2; have hAO2_b4 := eG hAO1_b4 (Lt.blk hB93) hnb2; have hE97 := hE91.step hw96 (gO hN1); have hE98 := hE92.step hw96 (hU1.mem); have hE99 := (Evo.refl (jo1.toList) w89).step hw96 (fun y hy => .inl hy); have hB100 := hw96.blk hB93 (hAO1_b4.nmem); refine aD (cG (.inl hE99) ?_); refine bB 9 rfl (by kernel_rfl) (by kernel_rfl) (by kernel_rfl) rfl (fun _ hS => eE rfl) hE99 ?_; refine eH (by kernel_rfl) (aY (aA ?_)); refine aC (aH ?_); refine aB rfl (bF rfl rfl (by omega) (by omega)) ?_; refine aM (aD (bI ?_)); refine ⟨⟨j + 1, _, ja2, jc2, jo2⟩, ?_, ⟨rfl, rfl, trivial⟩, ⟨rfl, rfl, rfl, trivial⟩, hE97, ?_⟩
     · (try dsimp only); omega
     try dsimp only
     have hfin := hSL2
     have heq9 : l ++ brP (Brk t.kind k) ++ mL t.kind t.r t.ranges t.name ++ fU t.kind true (t.kids.take (j + 1)) = l ++ brP (Brk t.kind k) ++ mL t.kind t.r t.ranges t.name ++ fU t.kind true (t.kids.take j) ++ [124] ++ brW (Brk t.kids[j].kind t.kind) t.kids[j].w := by rw [kH hj', tI, if_pos ⟨by omega, decide_eq_false (by omega)⟩]; simp
     refine ⟨by omega, ?_, ?_, hE98, hN2, hU2, hB100, hAO2_b4⟩
     · exact congrArg List.length heq9.symm
     · rw [heq9]; exact hfin
    refine bA (aA ?_); refine hD (fun w0 w' => Evo (so.toList) w0 w') (by kernel_rfl) (fun w101 hw102 => ?_); have hE103 := hV83.then hw102; have hE104 := hE0l.then hw102; have hO105 := hSLl.evo0 hw102; have hB106 := hw102.blk0 hB4l; refine bB 0 rfl (by kernel_rfl) (by kernel_rfl) (by kernel_rfl) rfl (fun _ hS => bM rfl) (Evo.refl (so.toList) w101) ?_; refine bB 1 rfl (by kernel_rfl) (by kernel_rfl) (by kernel_rfl) rfl (fun _ hS => aE rfl cM) (Evo.refl (so.toList) w101) ?_; refine bB 2 rfl (by kernel_rfl) (by kernel_rfl) (by kernel_rfl) rfl (fun _ hS => aI rfl cZ (aJ (hS.blk hB106 (hA4l.nmem)) rfl)) (Evo.refl (so.toList) w101) ?_; refine bB 3 rfl (by kernel_rfl) (by kernel_rfl) (by kernel_rfl) rfl (fun _ hS => bM rfl) (Evo.refl (so.toList) w101) ?_
    refine bB 4 rfl (by kernel_rfl) (by kernel_rfl) (by kernel_rfl) rfl (fun _ hS => dP (n := j) (by rw [ha1]; rfl) rfl dV (by omega)) (Evo.refl (so.toList) w101) ?_
    refine bB 5 rfl (by kernel_rfl) (by kernel_rfl) (by kernel_rfl) rfl (fun _ hS => eQ rfl bS bG (vs := [_, _, _, _, _, _, _, _, _]) rfl (hc1.evo (hE104.step hS (hUl.mem)) (by simp))) (Evo.refl (so.toList) w101) ?_; refine bB 6 rfl (by kernel_rfl) (by kernel_rfl) (by kernel_rfl) rfl (fun _ hS => aE rfl dG) (Evo.refl (so.toList) w101) ?_; refine bB 7 rfl (by kernel_rfl) (by kernel_rfl) (by kernel_rfl) rfl (fun _ hS => aI rfl aU (aJ (hS.blk hB106 (hA4l.nmem)) rfl)) (Evo.refl (so.toList) w101) ?_; refine cL [8] (by kernel_rfl) rfl ⟨?_, trivial⟩; refine cV rfl ?_
    refine aN (vs := [_, _, _]) oA rfl (ih hG hE104 hUl hO105 hrk (hg.kid _ (List.getElem_mem hj')) (by simp only [List.length_append, List.length_cons, List.length_nil]; omega)) rfl ?_
    rintro _ w107 ⟨ja1, jc1, jo1, rfl, hSL1, hw108, hnb1⟩; have hV9 := hE103; have hV90 := hE104; have hN1 := cT hNl hnb1 hV9.size; have hU1 := dK hUl hV90.size hnb1; have hAO1_b4 := eG hA4l (Lt.blk hB106) hnb1; have hE109 := hE103.step hw108 (gO hNl); have hE110 := hE104.step hw108 (hUl.mem); have hE111 := (Evo.refl (so.toList) w101).step hw108 (fun y hy => .inl hy); have hB112 := hw108.blk hB106 (hA4l.nmem); refine aD (cG (.inl hE111) ?_); refine bB 9 rfl (by kernel_rfl) (by kernel_rfl) (by kernel_rfl) rfl (fun _ hS => eE rfl) hE111 ?_; refine eH (by kernel_rfl) (aY (aA ?_)); refine aC (aH ?_); refine aB rfl (bF rfl rfl (by omega) (by omega)) ?_; refine aM (aD (bI ?_)); refine ⟨⟨j + 1, _, ja1, jc1, jo1⟩, ?_, ⟨rfl, rfl, trivial⟩, ⟨rfl, rfl, rfl, trivial⟩, hE109, ?_⟩
    · (try dsimp only); omega
    try dsimp only
    have hfin := hSL1
    have heq9 : l ++ brP (Brk t.kind k) ++ mL t.kind t.r t.ranges t.name ++ fU t.kind true (t.kids.take (j + 1)) = l ++ brP (Brk t.kind k) ++ mL t.kind t.r t.ranges t.name ++ fU t.kind true (t.kids.take j) ++ brW (Brk t.kids[j].kind t.kind) t.kids[j].w := by rw [kH hj', tI, if_neg (fun h9 => by have h8 := of_decide_eq_false h9.2; omega)]; simp
    refine ⟨by omega, ?_, ?_, hE110, hN1, hU1, hB112, hAO1_b4⟩
    · exact congrArg List.length heq9.symm
    · rw [heq9]; exact hfin
   refine aG (aG (aV (aD (aA (cQ rfl ?_))))); refine bA (aA ?_); refine hD (fun w0 w' => Evo (so.toList) w0 w') (by kernel_rfl) (fun w113 hw114 => ?_); have hE115 := hV83.then hw114; have hE116 := hE0l.then hw114; have hO117 := hSLl.evo0 hw114; have hB118 := hw114.blk0 hB4l; refine bB 0 rfl (by kernel_rfl) (by kernel_rfl) (by kernel_rfl) rfl (fun _ hS => bM rfl) (Evo.refl (so.toList) w113) ?_; refine bB 1 rfl (by kernel_rfl) (by kernel_rfl) (by kernel_rfl) rfl (fun _ hS => aE rfl cM) (Evo.refl (so.toList) w113) ?_; refine bB 2 rfl (by kernel_rfl) (by kernel_rfl) (by kernel_rfl) rfl (fun _ hS => aI rfl cZ (aJ (hS.blk hB118 (hA4l.nmem)) rfl)) (Evo.refl (so.toList) w113) ?_; refine bB 3 rfl (by kernel_rfl) (by kernel_rfl) (by kernel_rfl) rfl (fun _ hS => bM rfl) (Evo.refl (so.toList) w113) ?_
   refine bB 4 rfl (by kernel_rfl) (by kernel_rfl) (by kernel_rfl) rfl (fun _ hS => dP (n := j) (by rw [ha1]; rfl) rfl dV (by omega)) (Evo.refl (so.toList) w113) ?_
   refine bB 5 rfl (by kernel_rfl) (by kernel_rfl) (by kernel_rfl) rfl (fun _ hS => eQ rfl bS bG (vs := [_, _, _, _, _, _, _, _, _]) rfl (hc1.evo (hE116.step hS (hUl.mem)) (by simp))) (Evo.refl (so.toList) w113) ?_; refine bB 6 rfl (by kernel_rfl) (by kernel_rfl) (by kernel_rfl) rfl (fun _ hS => aE rfl dG) (Evo.refl (so.toList) w113) ?_; refine bB 7 rfl (by kernel_rfl) (by kernel_rfl) (by kernel_rfl) rfl (fun _ hS => aI rfl aU (aJ (hS.blk hB118 (hA4l.nmem)) rfl)) (Evo.refl (so.toList) w113) ?_; refine cL [8] (by kernel_rfl) rfl ⟨?_, trivial⟩; refine cV rfl ?_
   refine aN (vs := [_, _, _]) oA rfl (ih hG hE116 hUl hO117 hrk (hg.kid _ (List.getElem_mem hj')) (by simp only [List.length_append, List.length_cons, List.length_nil]; omega)) rfl ?_
   rintro _ w119 ⟨ja1, jc1, jo1, rfl, hSL1, hw120, hnb1⟩; have hV9 := hE115; have hV90 := hE116; have hN1 := cT hNl hnb1 hV9.size; have hU1 := dK hUl hV90.size hnb1; have hAO1_b4 := eG hA4l (Lt.blk hB118) hnb1; have hE121 := hE115.step hw120 (gO hNl); have hE122 := hE116.step hw120 (hUl.mem); have hE123 := (Evo.refl (so.toList) w113).step hw120 (fun y hy => .inl hy); have hB124 := hw120.blk hB118 (hA4l.nmem); refine aD (cG (.inl hE123) ?_); refine bB 9 rfl (by kernel_rfl) (by kernel_rfl) (by kernel_rfl) rfl (fun _ hS => eE rfl) hE123 ?_; refine eH (by kernel_rfl) (aY (aA ?_)); refine aC (aH ?_); refine aB rfl (bF rfl rfl (by omega) (by omega)) ?_; refine aM (aD (bI ?_)); refine ⟨⟨j + 1, _, ja1, jc1, jo1⟩, ?_, ⟨rfl, rfl, trivial⟩, ⟨rfl, rfl, rfl, trivial⟩, hE121, ?_⟩
   · (try dsimp only); omega
   try dsimp only
   have hfin := hSL1
   have heq9 : l ++ brP (Brk t.kind k) ++ mL t.kind t.r t.ranges t.name ++ fU t.kind true (t.kids.take (j + 1)) = l ++ brP (Brk t.kind k) ++ mL t.kind t.r t.ranges t.name ++ fU t.kind true (t.kids.take j) ++ brW (Brk t.kids[j].kind t.kind) t.kids[j].w := by rw [kH hj', tI, if_neg (fun h9 => by have h8 := of_decide_eq_false h9.2; omega)]; simp
   refine ⟨by omega, ?_, ?_, hE122, hN1, hU1, hB124, hAO1_b4⟩
   · exact congrArg List.length heq9.symm
   · rw [heq9]; exact hfin
  refine dT (cK (cK (dS (aA ?_)))); refine aF (aF (aC (aB rfl (aE rfl dG) (aB rfl (aI rfl aU (aJ hB4l rfl)) (aB rfl (bC rfl rfl) ?_))))); refine aD (aA (bJ rfl (fun hc95 => ?_) (fun hc95 => ?_)))
  ·skip
   refine aC (aH (aB rfl (cA rfl bS bG hB4l rfl) ?_)); refine aN (vs := [_]) FH rfl (JT (hG.evo0 hE0l) (RRx.pers _ _ _ _ _ _ hE0l hx0) (hn.rep1 (by omega)) (hn.rep2 (by omega)) (hn.rep3 (by omega))) rfl ?_; rintro _ w125 ⟨rfl, hw126⟩; have hE127 := hV83.then hw126; have hE128 := hE0l.then hw126; have hO129 := hSLl.evo0 hw126; have hB130 := hw126.blk0 hB4l; have htl := sR (hn.rep1 (by omega)) (hn.rep2 (by omega)) (hn.rep3 (by omega))
   refine aN (vs := [_, _]) eR rfl (iA hO129 (m := gZ t.min t.max ++ (if t.lazy = true then [63] else [])) rfl ((HV _ _).app (by split; exact cC (by decide +kernel); exact fun b hb => by cases hb)) (by have hw9 := jF (t.kids.take j) t.kind true (fun k hk => hg.kid k (List.mem_of_mem_take hk)); have hk9 := qN (l := t.kids) j; simp only [List.length_append]; omega) (by rw [List.length_append]; split <;> simp <;> omega)) rfl ?_
   rintro _ w131 ⟨ja1, jc1, jo1, rfl, hSL1, hw132, hnb1⟩; have hV9 := hE127; have hV90 := hE128; have hN1 := cT hNl hnb1 hV9.size; have hU1 := dK hUl hV90.size hnb1; have hAO1_b4 := eG hA4l (Lt.blk hB130) hnb1; have hE133 := hE127.step hw132 (gO hNl); have hE134 := hE128.step hw132 (hUl.mem); have hB135 := hw132.blk hB130 (hA4l.nmem); refine aM (aD (aA (aF (aF (aC (aB rfl (aE rfl dG) (aB rfl (aI rfl aU (aJ hB135 rfl)) (aB rfl (bC rfl rfl) ?_)))))))); refine aH (aX (t := 103) rfl (fun hs103 => ?_) (fun hs103 => ?_))
   ·skip
    refine aG (bD (aD (aA (cW rfl ?_)))); refine aC (aH ?_)
    refine aN (vs := [_, _]) eR rfl (iA hSL1 (m := [41]) (by decide +kernel) (cC (by decide +kernel)) (by have hw9 := jF (t.kids.take j) t.kind true (fun k hk => hg.kid k (List.mem_of_mem_take hk)); have hk9 := qN (l := t.kids) j; have hz9 : (if t.lazy = true then [63] else ([] : List Nat)).length ≤ 1 := (by split <;> simp); simp only [List.length_append]; omega) (by decide)) rfl ?_
    rintro _ w136 ⟨ja2, jc2, jo2, rfl, hSL2, hw137, hnb2⟩; have hV9 := hE133; have hV90 := hE134; have hN2 := cT hN1 hnb2 hV9.size; have hU2 := dK hU1 hV90.size hnb2; have hAO2_b4 := eG hAO1_b4 (Lt.blk hB135) hnb2; have hE138 := hE133.step hw137 (gO hN1); refine aM (aD (aA (aF (aC (aH (aM (aD (aA (aQ (aK rfl rfl ?_))))))))))
    have hfin := yZ (t := t) (l := l) (k := k) (Z := gZ t.min t.max ++ (if t.lazy = true then [63] else [])) (fun h6 => rfl) (fun h6 => (by omega)) true (by simp only [true_iff]; first | (left; omega) | (right; exact of_decide_eq_true hc105))
    skip
    exact vI hSL2 (by rw [List.take_of_length_le (by omega), ← hfin]; simp) hE138 hN2
   refine aP (aH (aV (aD (aA (fB rfl (fun hc105 => ?_) (fun hc105 => ?_))))))
   ·skip
    refine aC (aH ?_)
    refine aN (vs := [_, _]) eR rfl (iA hSL1 (m := [41]) (by decide +kernel) (cC (by decide +kernel)) (by have hw9 := jF (t.kids.take j) t.kind true (fun k hk => hg.kid k (List.mem_of_mem_take hk)); have hk9 := qN (l := t.kids) j; have hz9 : (if t.lazy = true then [63] else ([] : List Nat)).length ≤ 1 := (by split <;> simp); simp only [List.length_append]; omega) (by decide)) rfl ?_
    rintro _ w141 ⟨ja2, jc2, jo2, rfl, hSL2, hw142, hnb2⟩; have hV9 := hE133; have hV90 := hE134; have hN2 := cT hN1 hnb2 hV9.size; have hU2 := dK hU1 hV90.size hnb2; have hAO2_b4 := eG hAO1_b4 (Lt.blk hB135) hnb2; have hE143 := hE133.step hw142 (gO hN1); refine aM (aD (aA (aF (aC (aH (aM (aD (aA (aQ (aK rfl rfl ?_))))))))))
    have hfin := yZ (t := t) (l := l) (k := k) (Z := gZ t.min t.max ++ (if t.lazy = true then [63] else [])) (fun h6 => rfl) (fun h6 => (by omega)) true (by simp only [true_iff]; first | (left; omega) | (right; exact of_decide_eq_true hc105))
    skip
    exact vI hSL2 (by rw [List.take_of_length_le (by omega), ← hfin]; simp) hE143 hN2
   refine bA (aA (aF (aC (aH (aM (aD (aA (aQ (aK rfl rfl ?_)))))))))
   have hfin := yZ (t := t) (l := l) (k := k) (Z := gZ t.min t.max ++ (if t.lazy = true then [63] else [])) (fun h6 => rfl) (fun h6 => (by omega)) false (by simp only [Bool.false_eq_true, false_iff]; rintro (h9 | h9); omega; exact absurd h9 (of_decide_eq_false hc105))
   skip
   exact vI hSL1 (by rw [List.take_of_length_le (by omega), ← hfin]; simp) hE133 hN1
  refine bA (aA (aF (aF (aC (aB rfl (aE rfl dG) (aB rfl (aI rfl aU (aJ hB4l rfl)) (aB rfl (bC rfl rfl) ?_))))))); refine aH (aX (t := 103) rfl (fun hs103 => ?_) (fun hs103 => ?_))
  ·skip
   refine aG (bD (aD (aA (cW rfl ?_)))); refine aC (aH ?_)
   refine aN (vs := [_, _]) eR rfl (iA hSLl (m := [41]) (by decide +kernel) (cC (by decide +kernel)) (by have hw9 := jF (t.kids.take j) t.kind true (fun k hk => hg.kid k (List.mem_of_mem_take hk)); have hk9 := qN (l := t.kids) j; have hz9 : (if t.lazy = true then [63] else ([] : List Nat)).length ≤ 1 := (by split <;> simp); simp only [List.length_append]; omega) (by decide)) rfl ?_
   rintro _ w146 ⟨ja1, jc1, jo1, rfl, hSL1, hw147, hnb1⟩; have hV9 := hV83; have hV90 := hE0l; have hN1 := cT hNl hnb1 hV9.size; have hU1 := dK hUl hV90.size hnb1; have hAO1_b4 := eG hA4l (Lt.blk hB4l) hnb1; have hE148 := hV83.step hw147 (gO hNl); refine aM (aD (aA (aF (aC (aH (aM (aD (aA (aQ (aK rfl rfl ?_))))))))))
   have hfin := yZ (t := t) (l := l) (k := k) (Z := []) (fun h6 => (by omega)) (fun h6 => rfl) true (by simp only [true_iff]; first | (left; omega) | (right; exact of_decide_eq_true hc105))
   skip
   exact vI hSL1 (by rw [List.take_of_length_le (by omega), ← hfin]; simp) hE148 hN1
  refine aP (aH (aV (aD (aA (fB rfl (fun hc105 => ?_) (fun hc105 => ?_))))))
  ·skip
   refine aC (aH ?_)
   refine aN (vs := [_, _]) eR rfl (iA hSLl (m := [41]) (by decide +kernel) (cC (by decide +kernel)) (by have hw9 := jF (t.kids.take j) t.kind true (fun k hk => hg.kid k (List.mem_of_mem_take hk)); have hk9 := qN (l := t.kids) j; have hz9 : (if t.lazy = true then [63] else ([] : List Nat)).length ≤ 1 := (by split <;> simp); simp only [List.length_append]; omega) (by decide)) rfl ?_
   rintro _ w151 ⟨ja1, jc1, jo1, rfl, hSL1, hw152, hnb1⟩; have hV9 := hV83; have hV90 := hE0l; have hN1 := cT hNl hnb1 hV9.size; have hU1 := dK hUl hV90.size hnb1; have hAO1_b4 := eG hA4l (Lt.blk hB4l) hnb1; have hE153 := hV83.step hw152 (gO hNl); refine aM (aD (aA (aF (aC (aH (aM (aD (aA (aQ (aK rfl rfl ?_))))))))))
   have hfin := yZ (t := t) (l := l) (k := k) (Z := []) (fun h6 => (by omega)) (fun h6 => rfl) true (by simp only [true_iff]; first | (left; omega) | (right; exact of_decide_eq_true hc105))
   skip
   exact vI hSL1 (by rw [List.take_of_length_le (by omega), ← hfin]; simp) hE153 hN1
  refine bA (aA (aF (aC (aH (aM (aD (aA (aQ (aK rfl rfl ?_)))))))))
  have hfin := yZ (t := t) (l := l) (k := k) (Z := []) (fun h6 => (by omega)) (fun h6 => rfl) false (by simp only [Bool.false_eq_true, false_iff]; rintro (h9 | h9); omega; exact absurd h9 (of_decide_eq_false hc105))
  skip
  exact vI hSLl (by rw [List.take_of_length_le (by omega), ← hfin]; simp) hV83 hNl
theorem GC (n : Nat) : WOK8 n := by
  induction n with
  | zero => unfold WOK8; intro w0 w a c l ob vs t k _ _ _ _ hx; exact hx.elim
  | succ n ih => unfold WOK8; intro w0 w a c l ob vs t k hG hE0 huo hO hx hg hl; exact CV ih hG hE0 huo hO hx hg hl
end Go.Proofs.YtljadkcojnlioaaGreatDoor
namespace Go.Proofs.YtljadkcojnlioaaGreatDoor
open Go.Proofs
open Go.W Go.RowKit
attribute [local irreducible] Decidable.decide
theorem rB : eM Tryz.prog 42 := ⟨_, Tryz.func42, by kernel_rfl, by kernel_rfl⟩
theorem vW : eM Tryz.prog 47 := ⟨_, Tryz.func47, by kernel_rfl, by kernel_rfl⟩
def qc (c : Nat) : List Nat := if c ∈ spec then [92, c] else [c]
def qK (s : ByteArray) : Nat → List Nat
  | 0 => []
  | k + 1 => qK s k ++ qc (sb s k)
theorem AN (s : ByteArray) : ∀ k, (qK s k).length ≤ 2 * k
  | 0 => by simp [qK]
  | k + 1 => by have := AN s k; rw [qK, List.length_append]; unfold qc; split <;> simp <;> omega
theorem qK_lo (s : ByteArray) : ∀ k, Lo (qK s k)
  | 0 => fun b hb => by cases hb
  | k + 1 => by
    have h1 := jB s k
    rw [qK]
    refine (qK_lo s k).app ?_
    unfold qc
    split
    · intro b hb; simp at hb; omega
    · intro b hb; simp at hb; omega
theorem JV : ∀ m, m < 256 → (0 ≤ Lib.indexByte (ByteArray.mk #[92, 46, 43, 42, 63, 40, 41, 124, 91, 93, 123, 125, 94, 36]).data.toList (UInt8.ofNat m) ↔ m ∈ spec) := by decide +kernel
theorem JW {w : World} (m : Nat) (hm : m < 256) : Calls Tryz.prog 41 #[.string (ByteArray.mk #[92, 46, 43, 42, 63, 40, 41, 124, 91, 93, 123, 125, 94, 36]), .int .u8 (m : Nat)] w (Ret fun v w' => ∃ z, v = .int .i64 z ∧ (0 ≤ z ↔ m ∈ spec) ∧ Evo [] w w') := by
  refine (jW _ _ w).mono ?_
  rintro e w' ⟨rfl, rfl⟩
  refine ⟨_, rfl, _, rfl, ?_, Evo.refl _ _⟩
  rw [← JV m hm]
  simp
structure QgG where
  k : Nat
  o : Option Nat
theorem PJ {w : World} (s : ByteArray) (hs : s.size ≤ 30000000) :
    Calls Tryz.prog 14 #[.string s] w (Ret fun v w' => v = .string (bstr (qK s s.size)) ∧ Evo [] w w') := by
  refine bL (N := 22) Tryz.func14 rfl rfl rfl ?_; refine aF (aC (aM (aD (aA (aF (aC (dN rfl vN fun bb w1 hB2 hs3 hw4 => ?_))))))); have hsz_bb := hs3; have hE6 := (Evo.refl [] w).then hw4; have hub := Nat.le_of_eq hsz_bb; refine aD (aA (aF (aF (aC (aH (aB rfl (cX rfl Tryz.underlying9 rfl) ?_)))))); refine aH (aD (aA (bX (eT (α := QgG) (⟨0, none⟩) (fun x => [(7, .int .i64 (x.k : Nat))]) [(0, _), (2, _), (3, _), (6, _)] (fun x wr => Evo [] w wr ∧ (x.k ≤ s.size ∧ BdN wr bb (qK s x.k) x.o ∧ Ge w x.o)) (fun x => s.size - x.k) ⟨rfl, trivial⟩ ⟨rfl, rfl, rfl, rfl, trivial⟩ ⟨hE6, ⟨Nat.zero_le _, (BdN.new hB2), Ge.nil _⟩⟩ ?_)))); rintro ⟨k, o⟩ wr7 ⟨hV8, ⟨hk, hBDl, hul⟩⟩; show CW _ _ _ _ [(7, .int .i64 (k : Nat)), (0, _), (2, _), (3, _), (6, _)] _
  try dsimp only at hk
  try dsimp only at hBDl
  try dsimp only at hul
  refine aF (aC (aB rfl (dF rfl rfl) ?_)); refine aD (aA (aF (bJ rfl (fun hc8 => ?_) (fun hc8 => ?_))))
  ·skip
   have hk' : k < s.size := by omega
   refine bA (aA (aF (bX (aF (aC (aH (aM (aD (aA (aF (aF (aC (aH (aH (aB rfl (gA (n := k) rfl rfl Tryz.underlying9 rfl hk') ?_))))))))))))))); refine aN (vs := [_, _]) oB rfl (JW (sb s k) (jB s k)) rfl ?_; rintro _ w9 ⟨z, rfl, hz, hw10⟩; have hE11 := hV8.then hw10; have hF12 := hBDl.evo0 hw10; refine aB rfl (fD rfl rfl) ?_; refine aD (aA (bJ rfl (fun hc14 => ?_) (fun hc14 => ?_)))
   ·skip
    refine aC ?_
    refine aN (vs := [_, _]) rB rfl (pC 92 hF12 (by have h9 := AN s k; omega)) rfl ?_
    rintro _ w13 ⟨obw1, hBDw1, hw14, hnb1⟩; have hV91 := hE11; have hU1 := dK hul hV91.size hnb1; have hE15 := hE11.step hw14 (iD hub hul); refine aD (aA (aC (aH (aH (aB rfl (gA (n := k) rfl rfl Tryz.underlying9 rfl hk') ?_)))))
    refine aN (vs := [_, _]) rB rfl (pC (sb s k) hBDw1 (by have h9 := AN s k; first | omega | (rw [List.length_append]; simp; omega))) rfl ?_
    rintro _ w16 ⟨obw2, hBDw2, hw17, hnb2⟩; have hV91 := hE15; have hU2 := dK hU1 hV91.size hnb2; have hE18 := hE15.step hw17 (iD hub hU1); refine aD (aY (aA (aC ?_))); refine aB rfl (bF rfl rfl (by omega) (by omega)) ?_; refine aH (aD (bI ?_)); refine ⟨⟨k + 1, obw2⟩, ?_, ⟨rfl, trivial⟩, ⟨rfl, rfl, rfl, rfl, trivial⟩, hE18, ?_⟩
    · (try dsimp only); omega
    try dsimp only
    have hfin := hBDw2; refine ⟨by omega, ?_, hU2⟩
    rw [qK, qc, if_pos (hz.1 (by omega))]; simpa [List.append_assoc] using hfin
   refine bA (aA (aC (aH (aH (aB rfl (gA (n := k) rfl rfl Tryz.underlying9 rfl hk') ?_)))))
   refine aN (vs := [_, _]) rB rfl (pC (sb s k) hF12 (by have h9 := AN s k; first | omega | (rw [List.length_append]; simp; omega))) rfl ?_
   rintro _ w19 ⟨obw1, hBDw1, hw20, hnb1⟩; have hV91 := hE11; have hU1 := dK hul hV91.size hnb1; have hE21 := hE11.step hw20 (iD hub hul); refine aD (aY (aA (aC ?_))); refine aB rfl (bF rfl rfl (by omega) (by omega)) ?_; refine aH (aD (bI ?_)); refine ⟨⟨k + 1, obw1⟩, ?_, ⟨rfl, trivial⟩, ⟨rfl, rfl, rfl, rfl, trivial⟩, hE21, ?_⟩
   · (try dsimp only); omega
   try dsimp only
   have hfin := hBDw1; refine ⟨by omega, ?_, hU1⟩
   rw [qK, qc, if_neg (fun h9 => by have := hz.2 h9; omega)]; simpa [List.append_assoc] using hfin
  obtain rfl : k = s.size := by omega
  refine dT (cK (cK (dS (aA ?_)))); refine aF (aC ?_)
  refine aN (vs := [_]) rA rfl (sL hBDl (qK_lo s _) (fun g hg => by have h9 := hul g hg; omega)) rfl ?_
  rintro _ w22 ⟨rfl, hw23⟩; have hE24 := hV8.step hw23 (fun y hy => .inr (Nat.le_trans hub (AT.1 hy).2)); refine aM (aD (aA (aQ (aK rfl rfl ?_)))); exact ⟨rfl, hE24⟩
theorem ME {n : Nat} {w : World} {vs : List Value} {t : Rx} (hG : Gw w) (hx : RRx n [] w vs t) (hms : t.ms ≤ 60000000) :
    Calls Tryz.prog 22 #[.agg vs.toArray] w (Ret fun v w' => ∃ s e, ShowIs t s e ∧ v = .tuple #[.string (bstr s), iv e] ∧ Evo [] w w') := by
  have hx0 := hx; obtain ⟨m, ra, rc, ka, kc, hm, rfl, hrg, hk, bl1, bl2, bl3⟩ := hx.get; refine bL (N := 19) Tryz.func22 rfl rfl rfl ?_; refine aF (aC (gT rfl rfl fun b1x w1 hB2 hs3 hw4 => ?_)); have hsz_b1x := hs3; have hE6 := (Evo.refl [] w).then hw4; refine aM (aM (aD (aA (aF (aF (aC (aB rfl (cA rfl bS bG hB2 rfl) (aN (vs := [_]) vY rfl (vG (RRx.pers _ _ _ _ _ _ hE6 hx0)) rfl ?_)))))))); rintro _ w7 ⟨r, rfl, hvr, hw8⟩; have hE9 := hE6.then hw8; have hB10 := hw8.blk0 hB2; refine aB rfl (eO rfl) ?_; refine aD (aA (fB rfl (fun hc7 => ?_) (fun hc7 => ?_)))
  ·skip
   refine aF (aC (aM (aM (aD (aA (aQ (aO (dE rfl rfl rfl ?_)))))))); exact ⟨[], 2, .inl ⟨fun h => (by simp [hvr.2 h] at hc7), rfl, rfl⟩, rfl, hE9⟩
  refine bA (aA (aF ?_)); have hok : t.Ok := hvr.1 (by simpa using hc7); have hgd := hok.good; have hwl := DA t hgd
  have hbr : brW (Brk t.kind 0) t.w = t.w := by rw [brW, if_neg (by unfold Brk; omega)]
  refine aC (aB rfl (cA rfl bS bG hB10 rfl) ?_)
  refine aN (vs := [_, _, _]) oA rfl (GC _ (l := []) (k := 0) (hG.evo0 hE9) (Evo.refl [] _) (Ge.nil _) (OwnS.nil _ _ _) (RRx.pers _ _ _ _ _ _ hE9 hx0) hgd (by show 0 + t.ms + 3 ≤ _; omega)) rfl ?_
  rintro _ w11 ⟨ja, jc, jo, rfl, hSL, hw12, -⟩; have hE13 := hE9.then hw12; have hB14 := hw12.blk0 hB10; rw [List.nil_append, hbr] at hSL; rw [List.nil_append, hbr]; refine aB rfl (qS (l := t.w) rfl Tryz.underlying78 Tryz.underlying5 Tryz.underlying9 ⟨_, hSL⟩) ?_; refine aM (aD (aA (aF (aF (aC (aB rfl (cA rfl bS bG hB14 rfl) (aN (vs := [_]) vT rfl (zC (RRx.pers _ _ _ _ _ _ hE13 hx0)) rfl ?_))))))); rintro _ w15 ⟨rfl, hw16⟩; have hE17 := hE13.then hw16; refine aD (aA (fB rfl (fun hc12 => ?_) (fun hc12 => ?_)))
  ·skip
   refine aC (aH ?_)
   refine aB rfl (bZ rfl rfl (by rw [bsz]; show 4 + _ ≤ _; omega)) ?_
   rw [show ByteArray.mk #[40, 63, 109, 41] = bstr [40, 63, 109, 41] from by decide +kernel, bap]; refine aM (aD (aA (aF (aF ?_))))
   have hln9 : ([40, 63, 109, 41] ++ t.w : List Nat) = pE t := by rw [pE, if_pos hc12]
   refine aC (aH (aB rfl (cX rfl Tryz.underlying9 rfl) ?_)); refine aB rfl (eZ rfl rfl) ?_; refine aD (aA (bJ rfl (fun hc17 => ?_) (fun hc17 => ?_)))
   ·skip
    refine aF (aC (aM (aM (aD (aA (aQ (aO (dE rfl rfl rfl ?_)))))))); rw [bsz, hln9] at hc17; refine ⟨[], 1, .inr ⟨hok, .inl ⟨by omega, rfl, rfl⟩⟩, rfl, hE17⟩
   refine bA (aA (aF (aC (aH (aM (aM (aD (aA (aQ (dE rfl rfl rfl ?_)))))))))); rw [bsz, hln9] at hc17; refine ⟨pE t, 0, .inr ⟨hok, .inr ⟨by omega, rfl, rfl⟩⟩, (by rw [hln9]), hE17⟩
  refine bA (aA (aF (aF ?_)))
  have hln9 : (t.w : List Nat) = pE t := by rw [pE, if_neg (by rw [hc12]; simp)]; rfl
  refine aC (aH (aB rfl (cX rfl Tryz.underlying9 rfl) ?_)); refine aB rfl (eZ rfl rfl) ?_; refine aD (aA (bJ rfl (fun hc17 => ?_) (fun hc17 => ?_)))
  ·skip
   refine aF (aC (aM (aM (aD (aA (aQ (aO (dE rfl rfl rfl ?_)))))))); rw [bsz, hln9] at hc17; refine ⟨[], 1, .inr ⟨hok, .inl ⟨by omega, rfl, rfl⟩⟩, rfl, hE17⟩
  refine bA (aA (aF (aC (aH (aM (aM (aD (aA (aQ (dE rfl rfl rfl ?_)))))))))); rw [bsz, hln9] at hc17; refine ⟨pE t, 0, .inr ⟨hok, .inr ⟨by omega, rfl, rfl⟩⟩, (by rw [hln9]), hE17⟩
theorem GM {n : Nat} {w : World} {vs : List Value} {t : Rx} (hx : RRx n [] w vs t) :
    Calls Tryz.prog 23 #[.agg vs.toArray] w (Ret fun v w' => ∃ a c ob, v = .slice a (qD t).length c ∧ OwnS w' 9 1 a (qD t).length c ((qD t).map sv) ob ∧ Ge w ob ∧ (qD t).length ≤ 100000 ∧ Evo [] w w') := by
  have hx0 := hx; obtain ⟨m, ra, rc, ka, kc, hm, rfl, hrg, hk, bl1, bl2, bl3⟩ := hx.get; refine bL (N := 16) Tryz.func23 rfl rfl rfl ?_; refine aF (aC (gT rfl rfl fun b1x w1 hB2 hs3 hw4 => ?_)); have hsz_b1x := hs3; have hE6 := (Evo.refl [] w).then hw4; refine aM (aD (aA (aF (aC (aB rfl (eU (vs := []) uC rfl (cells := [_, _, _]) rfl) ?_))))); refine gT rfl rfl fun jb w7 hB8 hs9 hw10 => ?_; have hsz_jb := hs9; have hG12 := Ge.new hE6 hs9; have hE13 := hE6.then hw10; have hB14 := hw10.blk0 hB2; refine aM (aD (aA (aF (aC (aH (aB rfl (cA rfl bS bG hB14 rfl) ?_)))))); refine aN (vs := [_, _, _, _]) qZ rfl (uO (st := (0, [])) (k := 0) (b0 := 0) (CAt.new hB8) (RRx.step hx0 hE13 hG12.mem1 (fun b hb => by cases hb)) ⟨Nat.le_refl _, by decide⟩ (by decide) (by decide)) rfl ?_; rintro _ w15 ⟨r, rfl, hr, hw16, hst⟩; have hE9 := hE13; have hsz9 := hE9.size; have hE17 := hE13.step hw16 (hG12.mem1)
  rw [show (0 + (if Brk t.kind 0 then 1 else 0) : Int) = 0 from by rw [if_neg (by unfold Brk; omega)]; rfl] at hr hst
  refine aM (aD (aA (aF (aF (aC (aH (aB rfl (eO rfl) ?_))))))); refine aD (aA (fB rfl (fun hc11 => ?_) (fun hc11 => ?_)))
  ·skip
   refine aF (aC (aM (aD (aA (aQ (aO (aK rfl rfl ?_)))))))
   have hno : t.fine 0 (0, []) = none := by cases h9 : t.fine 0 (0, []) with | none => rfl | some z => rw [h9] at hr; rw [hr] at hc11; cases hc11
   have hgr : qD t = [] := by rw [qD, hno]
   rw [hgr]; exact ⟨none, 0, none, rfl, OwnS.nil _ _ _, Ge.nil _, Nat.zero_le _, hE17⟩
  obtain ⟨st', hst'⟩ := Option.isSome_iff_exists.1 (show (t.fine 0 (0, [])).isSome = true by rw [← hr]; simpa using hc11)
  obtain ⟨hs9, a2, c2, o2, hJ2, ho2⟩ := hst st' hst'
  have hgr : qD t = st'.2 := by rw [qD, hst']
  refine bA (aA (aF (aC (aH (aB rfl (aR rfl) (aB rfl (aE rfl lL) (aB rfl (aI rfl iH (aJ hJ2.blk rfl)) (aM (aD (aA (aQ (aK rfl rfl ?_)))))))))))); rw [hgr]
  refine ⟨a2, c2, o2, rfl, hJ2.own, fun g hg => ?_, by have := hs9.1; have := hs9.2; omega, hE17⟩
  rcases ho2 g hg with h9 | h9
  · cases h9
  · omega
set_option maxHeartbeats 4000000 in
theorem BJ {n : Nat} (ih : ∀ {w : World} {bc : Nat} {k : Int} {vs : List Value} {t : Rx} (hB : w.heap[bc]? = some (.cells #[iv k] 3 (0, 0))) (h0 : 0 ≤ k) (h1 : k ≤ 200000) (hx : RRx n [bc] w vs t), Calls Tryz.prog 47 #[.agg vs.toArray, .pointer (some ⟨bc, 0, none⟩)] w (Ret fun v w' => ∃ bv k', v = .bool bv ∧ 0 ≤ k' ∧ k' ≤ 200001 ∧ w'.heap[bc]? = some (.cells #[iv k'] 3 (0, 0)) ∧ Evo [bc] w w')) {w : World} {bc : Nat} {k : Int} {vs : List Value} {t : Rx} (hB : w.heap[bc]? = some (.cells #[iv k] 3 (0, 0))) (h0 : 0 ≤ k) (h1 : k ≤ 200000) (hx : RRx (n + 1) [bc] w vs t) : Calls Tryz.prog 47 #[.agg vs.toArray, .pointer (some ⟨bc, 0, none⟩)] w (Ret fun v w' => ∃ bv k', v = .bool bv ∧ 0 ≤ k' ∧ k' ≤ 200001 ∧ w'.heap[bc]? = some (.cells #[iv k'] 3 (0, 0)) ∧ Evo [bc] w w') := by
  have hx0 := hx; obtain ⟨m, xa, xc, ka, kc, hm, rfl, hrg, hk, bl1, bl2, bl3⟩ := hx.get
  obtain rfl : m = n := by omega
  obtain ⟨_, _, hke, hkc, e1⟩ := hk; cases hke; refine bL (N := 35) Tryz.func47 rfl rfl rfl ?_; refine aF (aC (gT rfl rfl fun b2 w1 hB2 hs3 hw4 => ?_)); have hsz_b2 := hs3; have hA5 := Apart.new (Lt.blk hB) hs3; have hE7 := (Evo.refl [bc] w).then hw4; have hB8 := hw4.blk0 hB; have hA2c := hA5.symm; refine aM (aD (aA (aF (aC (aH (aB rfl (aR rfl) (aB rfl (aI rfl aU (aJ hB8 rfl)) ?_))))))); refine aB rfl (bF rfl rfl (by omega) (by omega)) ?_; refine aB rfl (aR rfl) (bN rfl rfl (rfl) cB hB8 rfl fun w9 hB10 hw11 => ?_); have hE12 := hE7.step hw11 (fun y hy => .inl hy); have hB13 := hw11.blk hB2 hA5.symm.nmem1
  try simp only [dB, Nat.reduceAdd] at hB10
  refine aD (aA (aF (aF (aC (aM (aD (aA (bX ?_)))))))); refine eT (α := Nat × Int) ((0, _)) (fun x => [(5, .int .i64 (x.1 : Nat))]) [(1, _), (2, _), (4, _)] (fun x wr => Evo [bc] w wr ∧ (x.1 ≤ t.kids.length ∧ 0 ≤ x.2 ∧ x.2 ≤ 200001 ∧ wr.heap[bc]? = some (.cells #[iv x.2] 3 (0, 0)) ∧ wr.heap[b2]? = some (.cells #[iv t.kind, .int .i32 t.r, .slice xa t.ranges.length xc, iv t.min, iv t.max, .bool t.lazy, iv t.cap, .string t.name, .slice ka t.kids.length kc] 27 (0, 0)))) (fun x => t.kids.length - x.1) ⟨rfl, trivial⟩ ⟨rfl, rfl, rfl, trivial⟩ ⟨hE12, ⟨Nat.zero_le _, by omega, by omega, hB10, hB13⟩⟩ ?_; rintro ⟨j, q⟩ wr14 ⟨hV15, ⟨hj, hq0, hq1, hBC, hb2⟩⟩; show CW _ _ _ _ [(5, .int .i64 (j : Nat)), (1, _), (2, _), (4, _)] _
  try dsimp only at hj
  try dsimp only at hq0
  try dsimp only at hq1
  try dsimp only at hBC
  try dsimp only at hb2
  refine aF (aF (aC (aH (aB rfl (aE rfl cM) (aB rfl (aI rfl cZ (aJ hb2 rfl)) (aB rfl (bO rfl Tryz.underlying25 rfl) ?_)))))); refine aB rfl (dF rfl rfl) ?_; refine aH (aX (t := 16) rfl (fun hs16 => ?_) (fun hs16 => ?_))
  ·skip
   refine aP (aH (aP (aB rfl (aR rfl) (aP (aB rfl (aI rfl aU (aJ hBC rfl)) (aP (aB rfl (fM rfl rfl) ?_))))))); refine bD (aD (aA (bJ rfl (fun hc21 => ?_) (fun hc21 => ?_))))
   ·skip
    have hj' : j < t.kids.length := by omega
    obtain ⟨b1, o1, vs1, ha1, hb1, hvl1, hc1, hrk⟩ := e1 j hj'; obtain ⟨m1, ra1, rc1, ka1, kc1, rfl, rfl, -⟩ := id hrk.get; refine bA (aA (aF (bX (aC (aB rfl (aE rfl cM) (aB rfl (aI rfl cZ (aJ hb2 rfl)) (aH ?_)))))))
    refine aB rfl (dP (n := j) (by rw [ha1]; rfl) rfl dV (by omega)) ?_
    refine aB rfl (eQ rfl bS bG (vs := [_, _, _, _, _, _, _, _, _]) rfl (hc1.evo hV15 hb1)) ?_; refine aH ?_; refine aN (vs := [_, _]) vW rfl (ih hBC (by omega) (by omega) (RRx.pers _ _ _ _ _ _ hV15 hrk)) rfl ?_; rintro _ w16 ⟨bv2, k2, rfl, hk20, hk21, hBk, hw17⟩; have hE18 := hV15.step hw17 (fun y hy => .inl hy); have hB19 := hw17.blk hb2 (hA2c.nmem1); refine aD (aY (aA (aC (aH ?_)))); refine aB rfl (bF rfl rfl (by omega) (by omega)) ?_; refine aM (aD (bI ?_)); refine ⟨(j + 1, k2), ?_, ⟨rfl, trivial⟩, ⟨rfl, rfl, rfl, trivial⟩, hE18, ?_⟩
    · (try dsimp only); omega
    try dsimp only
    exact ⟨by omega, hk20, hk21, hBk, hB19⟩
   refine dT (cK (cK (dS (aA ?_)))); refine aF (aC (aH (aB rfl (aR rfl) (aB rfl (aI rfl aU (aJ hBC rfl)) (aB rfl (fM rfl rfl) ?_))))); refine aM (aD (aA (aQ (aK rfl rfl ?_)))); exact ⟨_, q, rfl, hq0, hq1, hBC, hV15⟩
  refine aG (aG (aG (aG (aV (aD (aA (cQ rfl ?_))))))); refine dT (cK (cK (dS (aA ?_)))); refine aF (aC (aH (aB rfl (aR rfl) (aB rfl (aI rfl aU (aJ hBC rfl)) (aB rfl (fM rfl rfl) ?_))))); refine aM (aD (aA (aQ (aK rfl rfl ?_)))); exact ⟨_, q, rfl, hq0, hq1, hBC, hV15⟩
theorem xX : ∀ {n : Nat} {w : World} {bc : Nat} {k : Int} {vs : List Value} {t : Rx} (hB : w.heap[bc]? = some (.cells #[iv k] 3 (0, 0))) (h0 : 0 ≤ k) (h1 : k ≤ 200000) (hx : RRx n [bc] w vs t), Calls Tryz.prog 47 #[.agg vs.toArray, .pointer (some ⟨bc, 0, none⟩)] w (Ret fun v w' => ∃ bv k', v = .bool bv ∧ 0 ≤ k' ∧ k' ≤ 200001 ∧ w'.heap[bc]? = some (.cells #[iv k'] 3 (0, 0)) ∧ Evo [bc] w w')
  | 0, w, bc, k, vs, t, hB, h0, h1, hx => hx.elim
  | n + 1, w, bc, k, vs, t, hB, h0, h1, hx => BJ (n := n) (fun hB h0 h1 hx => xX hB h0 h1 hx) hB h0 h1 hx
theorem wide_ok {n : Nat} {w : World} {vs : List Value} {t : Rx} (hx : RRx n [] w vs t) : Calls Tryz.prog 18 #[.agg vs.toArray] w (Ret fun v w' => ∃ b, v = .bool b ∧ Evo [] w w') := by
  have hx0 := hx; obtain ⟨m, xa, xc, ka, kc, hm, rfl, hrg, hk, bl1, bl2, bl3⟩ := hx.get; refine bL (N := 7) Tryz.func18 rfl rfl rfl ?_; refine aF (aC (gT rfl rfl fun b1 w1 hB2 hs3 hw4 => ?_)); have hsz_b1 := hs3; have hE6 := (Evo.refl [] w).then hw4; refine aM (aD (aA (aF (aC (dN rfl HN fun bc w7 hB8 hs9 hw10 => ?_))))); have hsz_bc := hs9; have hA11 := Apart.new (Lt.blk hB2) hs9; have hG12 := Ge.new hE6 hs9; have hE13 := hE6.then hw10; have hB14 := hw10.blk0 hB2; refine bN rfl rfl (rfl) cB hB8 rfl fun w15 hB16 hw17 => ?_; have hE18 := hE13.step hw17 hG12.mem1; have hB19 := hw17.blk hB14 hA11.nmem1
  try simp only [dB, Nat.reduceAdd] at hB16
  refine aD (aA (aF (aC (aB rfl (cA rfl bS bG hB19 rfl) ?_)))); refine aN (vs := [_, _]) vW rfl (xX hB16 (by decide) (by decide) (RRx.step hx0 hE18 hG12.mem1 (fun b hb => by cases hb))) rfl ?_; rintro _ w20 ⟨bv, k', rfl, -, -, -, hw21⟩; have hE22 := hE18.step hw21 (hG12.mem1); refine aB rfl (eO rfl) ?_; refine aM (aD (aA (aQ (aK rfl rfl ?_)))); exact ⟨_, rfl, hE22⟩
end Go.Proofs.YtljadkcojnlioaaGreatDoor
namespace Go.Proofs.YtljadkcojnlioaaGreatDoor
open Go.Proofs Go.W Go.RowKit
abbrev flz : Fl := ⟨false, false, false, false⟩
theorem GW {f : Fl} {c : Int} (hf : f.fold = false) (h0 : 0 ≤ c) (h1 : c ≤ 1114111) : oI f c = mC c := by
  rw [oI, if_neg (by rw [hf]; simp)]
  exact DN (m := [(c, c)]) (KZ h0 h1) rfl rfl
theorem NI {a b : Int} (h0 : 0 ≤ a) (h1 : a < b) (h2 : b ≤ 1114111) {S : Int → Prop} (hS : ∀ c, S c ↔ a ≤ c ∧ c ≤ b) : lP S = kC [(a, b)] :=
  xI (tG (xY h0 (by omega) h2) fun c => by rw [kS, hS]) fun _ => by show ¬ a = b; omega
abbrev aL : List Nat := [97, 124, 91, 99, 45, 101, 93, 43, 63]
def aS : ByteArray := ByteArray.mk #[97, 124, 91, 99, 45, 101, 93, 43, 63]
def aT : Rx := wY 5 [mC 97, lE 1 (-1) true (kC [(99, 101)])]
theorem aS_size : aS.size = 9 := rfl
theorem PI : ∀ k, k < aS.size → sb aS k < 128 := by rw [aS_size]; decide +kernel
theorem nxA {k : Nat} (hk : k < 9) : dA aS k = (((sb aS k : Nat) : Int), 1) := AS hk (PI k hk)
theorem PH : lS aS flz 3 = .ok (kC [(99, 101)], 7) := by
  have h1 : mN aS 3 = .ok (99, 4) := by rw [sV (by decide +kernel), nxA (by decide)]; exact congrArg Except.ok (Prod.ext (show ((sb aS 3 : Nat) : Int) = 99 by decide +kernel) rfl)
  have h2 : mN aS 5 = .ok (101, 6) := by rw [sV (by decide +kernel), nxA (by decide)]; exact congrArg Except.ok (Prod.ext (show ((sb aS 5 : Nat) : Int) = 101 by decide +kernel) rfl)
  have h3 : kG aS 3 = .ok (rgS 99 101, 6) := by
    unfold kG
    rw [h1]
    simp only
    rw [if_pos (by decide +kernel), h2]
    simp only
    rw [if_neg (by decide)]
  have h4 : kW aS 3 = .ok (rgS 99 101, 6) := by
    unfold kW
    rw [if_neg (by decide +kernel)]
    unfold oF
    rw [if_neg (by decide +kernel), h3]
  have h5 : iT aS (aS.size + 1) true (fun _ => False) 3 = .ok (unS (fun _ => False) (rgS 99 101), 7) := by
    show iT aS 10 true (fun _ => False) 3 = _
    rw [iT, if_neg (by decide +kernel), if_neg (by decide), h4]
    simp only
    rw [iT, if_neg (by decide +kernel), if_pos (by decide +kernel)]
  unfold lS
  rw [if_neg (show ¬ isB aS 3 94 by decide +kernel), h5]
  simp only
  rw [if_neg (show ¬ isB aS 3 94 by decide +kernel), if_neg (by decide)]
  exact congrArg Except.ok (Prod.ext (NI (by decide) (by decide) (by decide) fun c => by unfold unS rgS; simp) rfl)
theorem PG : kN aS = .ok aT := by
  have e1 : jZ aS (oR aS 249) (aS.size + 1) [] false st0 = .ok (mC 97, ⟨1, flz, 0, []⟩) := by
    show jZ aS (oR aS 249) 10 [] false st0 = _
    rw [PE (c := 97) (by decide +kernel) (by decide), rN (st := iG st0 1) (.inr (.inl (by decide +kernel)))]
    show Except.ok (oI flz 97, _) = _
    rw [GW rfl (by decide) (by decide)]
    rfl
  have e2 : jZ aS (oR aS 249) (aS.size + 1) [] false (adv ⟨1, flz, 0, []⟩ 1) = .ok (lE 1 (-1) true (kC [(99, 101)]), ⟨9, flz, 0, []⟩) := by
    show jZ aS (oR aS 249) 10 [] false ⟨2, flz, 0, []⟩ = _
    rw [AF (c := 91) (st := ⟨2, flz, 0, []⟩) (by decide +kernel) (by decide) (pc_cl (by decide +kernel) PH)]
    have hr : mR (aS.extract 7 aS.size) = (1, -1, 1) := by decide +kernel
    rw [BP (lo := 1) (hi := -1) (nn := 1) (st := iG ⟨2, flz, 0, []⟩ 7) (by decide +kernel) hr (by decide) (by decide) (by decide +kernel), rN (.inl (by decide +kernel))]
    rfl
  have e3 : oR aS 250 st0 = .ok (aT, ⟨9, flz, 0, []⟩) := by
    show nR aS (oR aS 249) st0 = _
    rw [HB (show rV aS (oR aS 249) st0 = _ from e1), JL (st := ⟨1, flz, 0, []⟩) (by decide +kernel) e2, yF (by decide +kernel)]
    rfl
  exact pp_ok (by decide +kernel) ⟨_, HR PI⟩ e3 (by decide +kernel)
def oS : ByteArray := ByteArray.mk #[40]
theorem NY {s : ByteArray} {ex : PS → PX Rx} {st st2 : PS} {x : Rx} (h : isB s st.pos 40) (hq : ¬ isB s (st.pos + 1) 63) (ho : st.opn ≠ 250) (hl : ¬ LG emp st.names) (hx : ex ⟨st.pos + 1, st.now, st.opn + 1, st.names ++ [emp]⟩ = .ok (x, st2)) (hc : ¬ isB s st2.pos 41) : gU s ex st = .error 80 := by
  rw [br_open h, oY (xG (fun h2 => hq h2.2)) (by simp) ho (by simp) (fun h3 => hl h3.2)]
  show (match ex ⟨st.pos + 1, st.now, st.opn + 1, if true = true then st.names ++ [emp] else st.names⟩ with | .error e => _ | .ok (x, st2) => _) = _
  rw [if_pos rfl, hx]
  simp only
  rw [if_neg hc]
theorem NG : kN oS = .error 80 := by
  obtain ⟨ex, he⟩ := pExp_ex oS 249
  have e0 : oR oS 249 ⟨1, flz, 1, [emp]⟩ = .ok (rxK 1, ⟨1, flz, 1, [emp]⟩) := by
    rw [he]; exact OF (rN (.inl (by decide +kernel))) (by decide +kernel)
  have e1 : gU oS (oR oS 249) st0 = .error 80 := NY (st := st0) (st2 := ⟨1, flz, 1, [emp]⟩) (by decide +kernel) (by decide +kernel) (by decide) (fun h => h.elim (by decide) (fun h3 => h3.1 rfl)) e0 (by decide +kernel)
  have e2 : oR oS 250 st0 = .error 80 := by
    show nR oS (oR oS 249) st0 = _
    exact OG (HM (c := 40) (by decide +kernel) (by decide) e1)
  exact MM (by decide +kernel) ⟨_, HR (by decide +kernel)⟩ e2
theorem np_lit {c : Int} (h0 : 0 ≤ c) (h1 : c ≤ 1114111) : NodeP (mC c) := ⟨by show (1 : Int) ≤ 2; decide, by show (2 : Int) ≤ 13; decide, .inl rfl, .inr rfl, .inr ⟨rfl, rfl, rfl⟩, .inr ⟨rfl, rfl⟩, fun _ => ⟨h0, h1⟩, fun h => absurd (show (2 : Int) = 3 from h) (by decide), fun h => absurd (show (2 : Int) = 4 ∨ (2 : Int) = 5 from h) (by decide), fun h => absurd (show (2 : Int) = 6 from h) (by decide), fun h => absurd (show (2 : Int) = 7 from h) (by decide), fun _ => rfl⟩
theorem np_cls {l : List (Int × Int)} (h : RangesOk l) : NodeP (kC l) := ⟨by show (1 : Int) ≤ 3; decide, by show (3 : Int) ≤ 13; decide, .inr rfl, .inl rfl, .inr ⟨rfl, rfl, rfl⟩, .inr ⟨rfl, rfl⟩, fun h => absurd (show (3 : Int) = 2 from h) (by decide), fun _ => h, fun h => absurd (show (3 : Int) = 4 ∨ (3 : Int) = 5 from h) (by decide), fun h => absurd (show (3 : Int) = 6 from h) (by decide), fun h => absurd (show (3 : Int) = 7 from h) (by decide), fun _ => rfl⟩
theorem np_row {k : Int} {l : List Rx} (hk : k = 4 ∨ k = 5) (hl : 2 ≤ l.length) : NodeP (wY k l) := ⟨by show (1 : Int) ≤ k; omega, by show k ≤ 13; omega, .inr rfl, .inr rfl, .inr ⟨rfl, rfl, rfl⟩, .inr ⟨rfl, rfl⟩, fun h => by have : k = 2 := h; omega, fun h => by have : k = 3 := h; omega, fun _ => hl, fun h => by have : k = 6 := h; omega, fun h => by have : k = 7 := h; omega, fun h => (h (by show k = 4 ∨ k = 5 ∨ k = 6 ∨ k = 7; omega)).elim⟩
theorem np_rep {lo hi : Int} {z : Bool} {x : Rx} (h0 : 0 ≤ lo) (h1 : lo ≤ 1000) (h2 : hi = -1 ∨ (lo ≤ hi ∧ hi ≤ 1000)) : NodeP (lE lo hi z x) := ⟨by show (1 : Int) ≤ 6; decide, by show (6 : Int) ≤ 13; decide, .inr rfl, .inr rfl, .inl rfl, .inr ⟨rfl, rfl⟩, fun h => absurd (show (6 : Int) = 2 from h) (by decide), fun h => absurd (show (6 : Int) = 3 from h) (by decide), fun h => absurd (show (6 : Int) = 4 ∨ (6 : Int) = 5 from h) (by decide), fun _ => ⟨h0, h1, h2, rfl⟩, fun h => absurd (show (6 : Int) = 7 from h) (by decide), fun h => (h (.inr (.inr (.inl rfl)))).elim⟩
theorem rok_one {a b : Int} (h0 : 0 ≤ a) (h1 : a < b) (h2 : b ≤ 1114111) : RangesOk [(a, b)] := by
  refine ⟨fun i hi => ?_, fun _ => by show a ≠ b; omega⟩
  have hi0 : i = 0 := by simpa using hi
  subst hi0
  exact ⟨h0, by show a ≤ b; omega, h2, fun j hj e => by omega⟩
theorem zS {x : Rx} {b : Int} {st : St} (hp : NodeP x) (hk : yK x.kind) (h7 : x.kind ≠ 7) (h1 : st.1 + 1 ≤ 8194) (hb : b ≤ 250) : x.fine b st = some (st.1 + 1, st.2) := by
  rw [iK ⟨h1, by rw [if_neg h7]; exact hb, hp, fun h => absurd h h7⟩, hp.leaf hk, fY, if_neg h7]
theorem aT_ok : aT.Ok := by
  have hl : ∀ b : Int, b ≤ 250 → ∀ st : St, st.1 + 1 ≤ 8194 → (mC 97).fine b st = some (st.1 + 1, st.2) := fun b hb st h => zS (np_lit (by decide) (by decide)) (by unfold yK; decide) (by decide) h hb
  have hc : ∀ b : Int, b ≤ 250 → ∀ st : St, st.1 + 1 ≤ 8194 → (kC [(99, 101)]).fine b st = some (st.1 + 1, st.2) := fun b hb st h => zS (np_cls (rok_one (by decide) (by decide) (by decide))) (by unfold yK; decide) (by decide) h hb
  refine ⟨(4, []), ?_⟩
  show (wY 5 [mC 97, lE 1 (-1) true (kC [(99, 101)])]).fine 0 (0, []) = _
  rw [iK ⟨by decide, by decide, np_row (.inr rfl) (by decide), fun h => absurd (show (5 : Int) = 7 from h) (by decide)⟩]
  show fY [mC 97, lE 1 (-1) true (kC [(99, 101)])] 5 0 (1, []) = _
  rw [fY, if_neg (show ¬ Brk (mC 97).kind 5 by decide), hl _ (by decide) _ (by decide)]
  simp only
  rw [fY, if_neg (show ¬ Brk (lE 1 (-1) true (kC [(99, 101)])).kind 5 by decide), iK ⟨by decide, by decide, np_rep (by decide) (by decide) (.inl rfl), fun h => absurd (show (6 : Int) = 7 from h) (by decide)⟩]
  show (match fY [kC [(99, 101)]] 6 0 (3, []) with | none => none | some st' => fY [] 5 0 st') = _
  rw [fY, if_neg (show ¬ Brk (kC [(99, 101)]).kind 6 by decide), hc _ (by decide) _ (by decide)]
  simp only
  rw [fY]
  simp only
  rw [fY]
theorem aT_txt : pE aT = aL := by
  have h1 : nL 99 = [99] := by rw [nL, if_pos (by decide), show (99 : Int) = ((99 : Nat) : Int) from rfl, kK (by decide)]; rfl
  have h2 : nL 101 = [101] := by rw [nL, if_pos (by decide), show (101 : Int) = ((101 : Nat) : Int) from rfl, kK (by decide)]; rfl
  have h3 : mO 97 = [97] := by rw [mO, if_neg (by decide), if_neg (by decide), show (97 : Int) = ((97 : Nat) : Int) from rfl, kK (by decide)]; rfl
  have h4 : tF [(99, 101)] = [91, 99, 45, 101, 93] := by rw [tF, if_neg (by simp)]; simp [oN, h1, h2]
  have h5 : (mC 97).w = [97] := by rw [Rx.w_eq]; show mO 97 ++ fU 2 true [] ++ [] = _; rw [h3, fU]; rfl
  have h6 : (kC [(99, 101)]).w = [91, 99, 45, 101, 93] := by rw [Rx.w_eq]; show tF [(99, 101)] ++ fU 3 true [] ++ [] = _; rw [h4, fU]; rfl
  have h7 : (lE 1 (-1) true (kC [(99, 101)])).w = [91, 99, 45, 101, 93, 43, 63] := by
    rw [Rx.w_eq]
    show [] ++ fU 6 true [kC [(99, 101)]] ++ ([43] ++ [63]) = _
    rw [fU, fU, h6]; rfl
  have h8 : aT.w = aL := by
    rw [Rx.w_eq]
    show [] ++ fU 5 true [mC 97, lE 1 (-1) true (kC [(99, 101)])] ++ [] = _
    rw [fU, fU, fU, h5, h7]; rfl
  have h9 : aT.ln = false := by
    rw [Rx.ln_eq]
    show (decide ((5 : Int) = 10 ∨ (5 : Int) = 11) || lns [mC 97, lE 1 (-1) true (kC [(99, 101)])]) = false
    rw [lns, lns, lns, Rx.ln_eq, Rx.ln_eq]
    show (_ || (decide ((2 : Int) = 10 ∨ (2 : Int) = 11) || lns [] || (decide ((6 : Int) = 10 ∨ (6 : Int) = 11) || lns [kC [(99, 101)]] || false))) = false
    rw [lns, lns, Rx.ln_eq]
    show (_ || (_ || false || (_ || (decide ((3 : Int) = 10 ∨ (3 : Int) = 11) || lns [] || lns []) || false))) = false
    rw [lns]; decide
  rw [pE, if_neg (by rw [h9]; simp), h8]; rfl
theorem zero_no {x : Rx} (h : x.kind = 0) : ¬ x.Ok := by
  rintro ⟨st, hs⟩
  rw [fC (fun h2 => by have := h2.2.2.1.kind1; omega)] at hs
  cases hs
theorem aT_show {s : List Nat} {e : Int} (h : ShowIs aT s e) : s = aL ∧ e = 0 := by
  have h2 : ShowIs aT aL 0 := .inr ⟨aT_ok, .inr ⟨by rw [aT_txt]; decide, aT_txt.symm, rfl⟩⟩
  exact h.uniq h2
theorem rrx_up : ∀ {n : Nat} {X : List Nat} {w : World} {vs : List Value} {x : Rx}, RRx n X w vs x → RRx (n + 1) X w vs x := by
  intro n
  induction n with
  | zero => intro X w vs x h; exact h.elim
  | succ n ih =>
    rintro X w vs x ⟨vr, vk, h1, h2, ⟨a, c, hv, hc, h3⟩, h4⟩
    exact ⟨vr, vk, h1, h2, ⟨a, c, hv, hc, fun k hk => by obtain ⟨b, o, us, ha, hb, hl, hcs, hr⟩ := h3 k hk; exact ⟨b, o, us, ha, hb, hl, hcs, ih hr⟩⟩, h4⟩
theorem LY {n m : Nat} {X : List Nat} {w : World} {vs : List Value} {x : Rx} (h : RRx n X w vs x) (hm : n ≤ m) : RRx m X w vs x := by
  induction hm with
  | refl => exact h
  | step _ ih => exact rrx_up ih
mutual
theorem OT.rrx : ∀ {x : Rx} {w : World} {vs : List Value} {bs X : List Nat}, OT x w vs bs → (∀ b, b ∈ bs → b ∉ X) → ∃ n, RRx n X w vs x
  | .mk k r rs mn mx lz cp nm ks, w, vs, bs, X, h, hX => by
    rw [OT] at h
    obtain ⟨ra, rc, rb, ka, kc, kb, cs, bk, h1, h2, h3, h4, rfl, h5, h6, h7⟩ := h
    obtain ⟨n, hn⟩ := OTs.rrx h4 (X := X) (fun b hb => hX b (List.mem_append_right _ (List.mem_append_right _ hb)))
    refine ⟨n + 1, _, _, h1, own_rrg h2 (fun g hg => hX g (by simp [hg])), ⟨ka, kc, rfl, h3.le, fun j hj => ?_⟩, by show rs.length ≤ _; omega, by show nm.size ≤ _; omega, by show ks.length ≤ _; omega⟩
    obtain ⟨us, hul, huc, hur⟩ := hn j hj
    have hj' : j < ks.length := hj
    obtain ⟨g, hg, ha, hc⟩ := h3.cells (by omega)
    refine ⟨g, 0, us, ha, hX g (by simp [hg]), hul, fun i v hi => ?_, hur⟩
    have := hc _ _ (huc i v hi)
    rw [← Nat.add_assoc] at this
    exact this
theorem OTs.rrx : ∀ {l : List Rx} {w : World} {cs : List Value} {bs X : List Nat}, OTs l w cs bs → (∀ b, b ∈ bs → b ∉ X) → ∃ n, ∀ k (hk : k < l.length), ∃ us, us.length = 9 ∧ (∀ j v, us[j]? = some v → cs[k * 9 + j]? = some v) ∧ RRx n X w us l[k]
  | [], w, cs, bs, X, h, hX => ⟨0, fun k hk => by cases hk⟩
  | x :: l, w, cs, bs, X, h, hX => by
    rw [OTs] at h
    obtain ⟨vs, cs', b1, b2, rfl, rfl, h3, h4⟩ := h
    obtain ⟨n1, hn1⟩ := OT.rrx h3 (X := X) (fun b hb => hX b (List.mem_append_left _ hb))
    obtain ⟨n2, hn2⟩ := OTs.rrx h4 (X := X) (fun b hb => hX b (List.mem_append_right _ hb))
    have hl9 : vs.length = 9 := by obtain ⟨ra, rc, ka, kc, rfl⟩ := h3.nine; rfl
    refine ⟨max n1 n2, fun k hk => ?_⟩
    cases k with
    | zero => exact ⟨vs, hl9, fun j v hj => by rw [Nat.zero_mul, Nat.zero_add, List.getElem?_append_left (List.getElem?_eq_some_iff.1 hj).1]; exact hj, LY hn1 (Nat.le_max_left _ _)⟩
    | succ k =>
      obtain ⟨us, hu1, hu2, hu3⟩ := hn2 k (by simpa using hk)
      refine ⟨us, hu1, fun j v hj => ?_, LY hu3 (Nat.le_max_right _ _)⟩
      rw [List.getElem?_append_right (by omega), show (k + 1) * 9 + j - vs.length = k * 9 + j by omega]
      exact hu2 j v hj
end
end Go.Proofs.YtljadkcojnlioaaGreatDoor
namespace Go.Proofs.YtljadkcojnlioaaGreatDoor
open Go.Proofs
open Go.W Go.RowKit
attribute [local irreducible] Decidable.decide
theorem wA : eM Tryz.prog 11 := ⟨_, Tryz.func11, by kernel_rfl, by kernel_rfl⟩
theorem FX : eM Tryz.prog 14 := ⟨_, Tryz.func14, by kernel_rfl, by kernel_rfl⟩
theorem vZ : eM Tryz.prog 19 := ⟨_, Tryz.func19, by kernel_rfl, by kernel_rfl⟩
theorem MR {w : World} {s : ByteArray} {x : Rx} (hG : Glb w) (h : kN s = .ok x) : Calls Tryz.prog 11 #[.string s] w (Ret fun v w' => ∃ vs bs, v = .tuple #[.agg vs.toArray, iv 0] ∧ OT x w' vs bs ∧ Fr w bs ∧ Evo [] w w') := by
  refine (DF s hG).mono ?_
  rintro e w' ⟨v, rfl, hv, h1 | ⟨x2, vs, bs, h2, rfl, h4, h5⟩⟩
  · obtain ⟨e, h1, -⟩ := h1
    rw [h] at h1; cases h1
  · rw [h] at h2; cases h2
    exact ⟨_, rfl, vs, bs, rfl, h4, h5, hv⟩
theorem KE {w : World} {s : ByteArray} {e : Int} (hG : Glb w) (h : kN s = .error e) : Calls Tryz.prog 11 #[.string s] w (Ret fun v w' => v = .tuple #[zRx, iv e] ∧ Evo [] w w') := by
  refine (DF s hG).mono ?_
  rintro e9 w' ⟨v, rfl, hv, h1 | ⟨x2, vs, bs, h2, rfl, h4, h5⟩⟩
  · obtain ⟨e2, h1, h3⟩ := h1
    rw [h] at h1; cases h1
    exact ⟨_, rfl, h3, hv⟩
  · rw [h] at h2; cases h2
def zX : Rx := .mk 0 0 [] 0 0 false 0 emp []
theorem zX_rx (X : List Nat) (w : World) : RRx 1 X w [iv 0, .int .i32 0, .slice none 0 0, iv 0, iv 0, .bool false, iv 0, .string ByteArray.empty, .slice none 0 0] zX := ⟨_, _, rfl, rnil0, rnil0, Nat.zero_le _, Nat.zero_le _, Nat.zero_le _⟩
theorem NA {w : World} {e : TypeId} {a : Option Addr} {n c : Nat} {l : List ByteArray} {ob : Option Nat} (h : OwnS w e 1 a n c (l.map sv) ob) {k : Nat} (hk : k < l.length) : ∃ g, a = some ⟨g, 0, none⟩ ∧ w.cell? ⟨g, 0 + k * 1, none⟩ = some (.string l[k]) := by
  have hl : l.length = n * 1 := by have := h.length; simpa using this
  obtain ⟨g, hg, ha, hc⟩ := h.cells (by omega)
  refine ⟨g, ha, ?_⟩
  rw [Nat.mul_one]
  exact hc k _ (by simp [hk])
theorem AI {w : World} {e1 e2 : TypeId} {a a' : Option Addr} {c c' : Nat} {l m : List ByteArray} {o o' : Option Nat} (h1 : OwnS w e1 1 a l.length c (l.map sv) o) (h2 : OwnS w e2 1 a' m.length c' (m.map sv) o') (hl : l.length ≤ 1000000) (hm : m.length ≤ 1000000) :
    Calls Tryz.prog 25 #[.slice a l.length c, .slice a' m.length c'] w (Ret fun v w' => v = .bool (decide (l = m)) ∧ Evo [] w w') := by
  refine bL (N := 26) Tryz.func25 rfl rfl rfl ?_; refine aF (aC (aM (aD (aA (aF (aF (aC (aH (aB rfl (bO rfl Tryz.underlying22 rfl) ?_))))))))); refine aH (aB rfl (bO rfl Tryz.underlying22 rfl) ?_); refine aB rfl (gJ rfl rfl) ?_; refine aD (aA (bJ rfl (fun hc10 => ?_) (fun hc10 => ?_)))
  ·skip
   refine aF (aC (aM (aD (aA (aQ (aO (aK rfl rfl ?_)))))))
   exact ⟨congrArg Value.bool (decide_eq_false (fun h => by rw [h] at hc10; exact hc10 rfl)).symm, (Evo.refl [] w)⟩
  refine bA (aA (aF (aF (aC (aM (aD (aA (bX ?_)))))))); refine eT (α := Nat) (0) (fun k => [(5, .int .i64 (k : Nat))]) [(0, _), (1, _)] (fun k wr => Evo [] w wr ∧ (k ≤ l.length ∧ ∀ j (h : j < l.length) (h2 : j < m.length), j < k → l[j] = m[j])) (fun k => l.length - k) ⟨rfl, trivial⟩ ⟨rfl, rfl, trivial⟩ ⟨Evo.refl _ _, ⟨Nat.zero_le _, fun j h h2 h3 => by cases h3⟩⟩ ?_; rintro k wr1 ⟨hV2, ⟨hk0, hsm⟩⟩; show CW _ _ _ _ [(5, _), (0, _), (1, _)] _; have hE3 := (Evo.refl [] w).then hV2; refine aF (aF (aC (aH (aH (aB rfl (bO rfl Tryz.underlying22 rfl) ?_))))); refine aB rfl (dF rfl rfl) ?_; refine aD (aA (bJ rfl (fun hc14 => ?_) (fun hc14 => ?_)))
  ·skip
   have hk1 : k < l.length := by omega
   have hk2 : k < m.length := by omega
   obtain ⟨g1, ha1, hc1⟩ := NA h1 hk1; obtain ⟨g2, ha2, hc2⟩ := NA h2 hk2; refine bA (aA (aF (bX (aF ?_)))); refine hD (fun w0 w' => Evo [] w0 w') (by kernel_rfl) (fun w4 hw5 => ?_); have hE6 := hE3.then hw5; have hE7 := hV2.then hw5; refine bB 0 rfl (by kernel_rfl) (by kernel_rfl) (by kernel_rfl) rfl (fun _ hS => bM rfl) (Evo.refl [] w4) ?_; refine bB 1 rfl (by kernel_rfl) (by kernel_rfl) (by kernel_rfl) rfl (fun _ hS => bM rfl) (Evo.refl [] w4) ?_; refine bB 2 rfl (by kernel_rfl) (by kernel_rfl) (by kernel_rfl) rfl (fun _ hS => gH (n := k) rfl (by rfl) ha1 mK hk1) (Evo.refl [] w4) ?_; refine bB 3 rfl (by kernel_rfl) (by kernel_rfl) (by kernel_rfl) rfl (fun _ hS => aI rfl cR (((hE6.then hS)).cell hc1 (by simp))) (Evo.refl [] w4) ?_; refine bB 4 rfl (by kernel_rfl) (by kernel_rfl) (by kernel_rfl) rfl (fun _ hS => bM rfl) (Evo.refl [] w4) ?_; refine bB 5 rfl (by kernel_rfl) (by kernel_rfl) (by kernel_rfl) rfl (fun _ hS => bM rfl) (Evo.refl [] w4) ?_; refine bB 6 rfl (by kernel_rfl) (by kernel_rfl) (by kernel_rfl) rfl (fun _ hS => gH (n := k) rfl (by rfl) ha2 mK hk2) (Evo.refl [] w4) ?_; refine bB 7 rfl (by kernel_rfl) (by kernel_rfl) (by kernel_rfl) rfl (fun _ hS => aI rfl cR (((hE6.then hS)).cell hc2 (by simp))) (Evo.refl [] w4) ?_; refine bB 8 rfl (by kernel_rfl) (by kernel_rfl) (by kernel_rfl) rfl (fun _ hS => rJ rfl rfl) (Evo.refl [] w4) ?_; refine eH (by kernel_rfl) (aA ?_); refine bJ rfl (fun hc25 => ?_) (fun hc25 => ?_)
   ·skip
    refine aF (aC (aM (aD (aA (aQ (aZ (aO (aO (aZ (aO (aK rfl rfl ?_)))))))))))
    exact ⟨congrArg Value.bool (decide_eq_false (fun h => hc25 (by subst h; rfl))).symm, hE6⟩
   refine bA (aY (aA (aC (aH ?_)))); refine aB rfl (bF rfl rfl (by omega) (by omega)) ?_; refine aM (aD (bI ?_)); refine ⟨k + 1, ?_, ⟨rfl, trivial⟩, ⟨rfl, rfl, trivial⟩, hE7, ?_⟩
   · omega
   refine ⟨by omega, fun j h3 h4 h5 => ?_⟩
   by_cases e : j < k
   · exact hsm j h3 h4 e
   · obtain rfl : j = k := by omega
     exact Classical.not_not.1 hc25
  refine dT (cK (cK (dS (aA ?_)))); refine aF (aC (aM (aD (aA (aQ (aK rfl rfl ?_)))))); exact ⟨congrArg Value.bool (decide_eq_true (List.ext_getElem (by omega) fun j h3 h4 => hsm j h3 h4 (by omega))).symm, hE3⟩
set_option maxHeartbeats 4000000 in
theorem PF {w : World} (hG : Gw w) : Calls Tryz.prog 10 #[] w (Ret fun v w' => v = .bool true ∧ Evo [] w w') := by
  refine bL (N := 113) Tryz.func10 rfl rfl rfl ?_; refine aF (aC (aM (aD (aA (aF (aC (aN (vs := [_]) wA rfl (MR (s := aS) (hG.evo0 (Evo.refl [] w)).glb PG) rfl ?_))))))); rintro _ w1 ⟨vs, bs, rfl, hOT, hFr, hw2⟩; have hE3 := (Evo.refl [] w).then hw2; obtain ⟨n1, hx1⟩ := hOT.rrx (X := []) (fun b _ h => by cases h); have hx1' := hx1; obtain ⟨m1, ra1, rc1, ka1, kc1, hm1, rfl, hrg1, hk1, -⟩ := hx1.get; obtain ⟨_, _, hke, -, e1⟩ := hk1; cases hke; obtain ⟨b1, o1, vs1, ha1, -, -, hc1, hr1⟩ := e1 0 (by decide); obtain ⟨m2, ra2, rc2, ka2, kc2, -, rfl, -⟩ := hr1.get; obtain ⟨b2, o2, vs2, ha2, -, -, hc2, hr2⟩ := e1 1 (by decide); obtain ⟨m3, ra3, rc3, ka3, kc3, -, rfl, -, hk3, -⟩ := hr2.get; obtain ⟨_, _, hke3, -, e3⟩ := hk3; cases hke3; obtain ⟨b4, o4, vs4, ha4, -, -, hc4, hr4⟩ := e3 0 (by decide); obtain ⟨m5, ra5, rc5, ka5, kc5, -, rfl, hrg5, -⟩ := hr4.get; obtain ⟨_, _, hke5, -, e5⟩ := hrg5; cases hke5; obtain ⟨b6, o6, vs6, ha6, -, -, hc6, hr6⟩ := e5 0 (by decide); obtain rfl := hr6; refine aH (aB rfl (dC rfl rfl) ?_); refine aB rfl (dC rfl rfl) ?_; refine dN rfl fE fun bx w4 hB5 hs6 hw7 => ?_; have hsz_bx := hs6; have hG8 := Ge.new hE3 hs6; have hG9 := Ge.new (Evo.refl [] w1) hs6; have hE10 := hE3.then hw7; have hE11 := (Evo.refl [] w1).then hw7; refine bQ rfl rfl bG hB5 rfl rfl ⟨rfl, rfl, rfl, rfl, rfl, rfl, rfl, rfl, rfl, trivial⟩ fun w12 hB13 hw14 => ?_; have hE15 := hE10.step hw14 hG8.mem1; have hE16 := hE11.step hw14 hG9.mem1
  try simp only [dB, Nat.reduceAdd] at hB13
  refine aM (aD (aA (aF (aF (aC (aH ?_)))))); refine aB rfl (gL (r := .bool false) rfl rfl (fun w => by kernel_rfl)) ?_; refine aH (aP (aB rfl (aE rfl dG) (aP (aB rfl (aI rfl aU (aJ hB13 rfl)) (aP ?_))))); refine aB rfl (gL (r := .bool false) rfl rfl (fun w => by kernel_rfl)) ?_; refine aV (aH (aP (aB rfl (aE rfl cM) (aP (aB rfl (aI rfl cZ (aJ hB13 rfl)) (aP (aB rfl (bO rfl Tryz.underlying25 rfl) ?_))))))); refine aP ?_; refine aB rfl (gL (r := .bool false) rfl rfl (fun w => by kernel_rfl)) ?_; refine aV (aH (aP (aB rfl (aE rfl cM) (aP (aB rfl (aI rfl cZ (aJ hB13 rfl)) (aP ?_))))))
  refine aB rfl (fV (n := 0) (by rw [ha1]; rfl) rfl rfl dV (by decide)) ?_
  refine aP (aB rfl (aE rfl eL) (aP ?_)); refine aB rfl (aI rfl cD ((hE16).cell (hc1 1 _ rfl) (by simp))) ?_; refine aP ?_; refine aB rfl (gL (r := .bool false) rfl rfl (fun w => by kernel_rfl)) ?_; refine aV (aD (aA (cQ rfl ?_))); refine bA (aA (aF (aC (aB rfl (aE rfl cM) (aB rfl (aI rfl cZ (aJ hB13 rfl)) ?_)))))
  refine aB rfl (dP (n := 1) (by rw [ha2]; rfl) rfl dV (by decide)) ?_
  refine aB rfl (eQ rfl bS bG (vs := [_, _, _, _, _, _, _, _, _]) rfl (hc2.evo hE16 (by simp))) ?_; refine dN rfl fE fun by9 w17 hB18 hs19 hw20 => ?_; have hsz_by9 := hs19; have hA21 := Apart.new (Lt.blk hB13) hs19; have hG22 := Ge.new hE15 hs19; have hG23 := Ge.new hE16 hs19; have hE24 := hE15.then hw20; have hE25 := hE16.then hw20; have hB26 := hw20.blk0 hB13; refine bQ rfl rfl bG hB18 rfl rfl ⟨rfl, rfl, rfl, rfl, rfl, rfl, rfl, rfl, rfl, trivial⟩ fun w27 hB28 hw29 => ?_; have hE30 := hE24.step hw29 hG22.mem1; have hE31 := hE25.step hw29 hG23.mem1; have hB32 := hw29.blk hB26 hA21.nmem1
  try simp only [dB, Nat.reduceAdd] at hB28
  refine aD (aA (aF (aF (aC (aB rfl (aE rfl dG) (aB rfl (aI rfl aU (aJ hB28 rfl)) ?_)))))); refine aB rfl (gL (r := .bool false) rfl rfl (fun w => by kernel_rfl)) ?_; refine aH (aP (aB rfl (aE rfl bT) (aP (aB rfl (aI rfl aU (aJ hB28 rfl)) (aP ?_))))); refine aB rfl (gL (r := .bool false) rfl rfl (fun w => by kernel_rfl)) ?_; refine aV (aH (aP (aB rfl (aE rfl bY) (aP (aB rfl (aI rfl aU (aJ hB28 rfl)) (aP ?_)))))); refine aB rfl (gL (r := .bool false) rfl rfl (fun w => by kernel_rfl)) ?_; refine aV (aH (aP (aB rfl (aE rfl eK) (aP (aB rfl (aI rfl eF (aJ hB28 rfl)) (aP (aB rfl (eO rfl) ?_))))))); refine aV (aH (aP (aB rfl (aE rfl cM) (aP (aB rfl (aI rfl cZ (aJ hB28 rfl)) (aP (aB rfl (bO rfl Tryz.underlying25 rfl) ?_))))))); refine aP ?_; refine aB rfl (gL (r := .bool false) rfl rfl (fun w => by kernel_rfl)) ?_; refine aV (aH (aP (aB rfl (aE rfl cM) (aP (aB rfl (aI rfl cZ (aJ hB28 rfl)) (aP ?_))))))
  refine aB rfl (fV (n := 0) (by rw [ha4]; rfl) rfl rfl dV (by decide)) ?_
  refine aP (aB rfl (aE rfl eP) (aP ?_)); refine aB rfl (aI rfl fX ((hE31).cell (hc4 2 _ rfl) (by simp))) ?_; refine aP (aB rfl (bO rfl Tryz.underlying24 rfl) ?_); refine aP ?_; refine aB rfl (gL (r := .bool false) rfl rfl (fun w => by kernel_rfl)) ?_; refine aV (aH (aP (aB rfl (aE rfl cM) (aP (aB rfl (aI rfl cZ (aJ hB28 rfl)) (aP ?_))))))
  refine aB rfl (fV (n := 0) (by rw [ha4]; rfl) rfl rfl dV (by decide)) ?_
  refine aP (aB rfl (aE rfl eP) (aP ?_)); refine aB rfl (aI rfl fX ((hE31).cell (hc4 2 _ rfl) (by simp))) ?_; refine aP ?_
  refine aB rfl (fV (n := 0) (by rw [ha6]; rfl) rfl rfl dW (by decide)) ?_
  refine aP (aB rfl (aE rfl eA) (aP ?_)); refine aB rfl (aI rfl cD ((hE31).cell (hc6 1 _ rfl) (by simp))) ?_; refine aP ?_; refine aB rfl (gL (r := .bool false) rfl rfl (fun w => by kernel_rfl)) ?_; refine aV (aD (aA (cQ rfl ?_))); refine bA (aA (aF (aC (aB rfl (cA rfl bS bG hB32 rfl) ?_)))); refine aN (vs := [_]) vZ rfl (JP (hG.evo0 hE30) (RRx.pers _ _ _ _ _ _ hE31 hx1') (by decide +kernel)) rfl ?_; rintro _ w33 ⟨s, e, hsh, rfl, hw34⟩; have hE35 := hE30.then hw34; have hE36 := hE31.then hw34; have hB37 := hw34.blk0 hB32; obtain ⟨rfl, rfl⟩ := aT_show hsh; refine aH (aB rfl (dC rfl rfl) ?_); refine aB rfl (dC rfl rfl) ?_; refine aM (aM (aD (aA (aF (aC (aN (vs := [_]) wA rfl (KE (s := oS) (hG.evo0 hE35).glb NG) rfl ?_)))))); rintro _ w39 ⟨rfl, hw40⟩; have hE41 := hE35.then hw40; have hE42 := hE36.then hw40; have hB43 := hw40.blk0 hB37; refine aH (aB rfl (dC rfl rfl) ?_); refine aB rfl (dC rfl rfl) ?_; refine dN rfl fE fun b45 w46 hB47 hs48 hw49 => ?_; have hA50 := Apart.new (Lt.blk hB43) hs48; have hG52 := Ge.new hE41 hs48; have hG53 := Ge.new hE42 hs48; have hE54 := hE41.then hw49; have hE55 := hE42.then hw49; have hB56 := hw49.blk0 hB43; refine bQ rfl rfl bG hB47 rfl rfl ⟨rfl, rfl, rfl, rfl, rfl, rfl, rfl, rfl, rfl, trivial⟩ fun w58 hB59 hw60 => ?_; have hE61 := hE54.step hw60 hG52.mem1; have hE62 := hE55.step hw60 hG53.mem1; have hB63 := hw60.blk hB56 hA50.nmem1
  refine aM (aD (aA (aF (aC (aH ?_))))); refine aB rfl (gL (r := .bool true) rfl rfl (fun w => by kernel_rfl)) ?_; refine aH (aP (aH (aP ?_))); refine aB rfl (gL (r := .bool true) rfl rfl (fun w => by kernel_rfl)) ?_; refine bD (aH (aP (aH (aP ?_)))); refine aB rfl (gL (r := .bool true) rfl rfl (fun w => by kernel_rfl)) ?_; refine bD (aH (aP ?_)); refine aN (vs := [_]) FX rfl (PJ _ (by decide +kernel)) rfl ?_; rintro _ w65 ⟨rfl, hw66⟩; have hE67 := hE61.then hw66; have hE68 := hE62.then hw66; have hB69 := hw66.blk0 hB63; refine aP ?_; refine aB rfl (gL (r := .bool true) rfl rfl (fun w => by kernel_rfl)) ?_; refine bD (aH (aP (aB rfl (cA rfl bS bG hB69 rfl) (aP (aN (vs := [_]) oC rfl (sQ (RRx.pers _ _ _ _ _ _ hE68 hx1')) rfl ?_))))); rintro _ w71 ⟨r, rfl, hr, hw72⟩; have hE73 := hE67.then hw72; obtain rfl : r = true := hr.2 aT_ok; refine bD (aH (aP (aB rfl (eU (vs := []) eC rfl (cells := [_, _, _, _, _, _, _, _, _]) rfl) ?_))); refine aP (aN (vs := [_]) oC rfl (sQ (zX_rx [] _)) rfl ?_); rintro _ w77 ⟨r2, rfl, hr2, hw78⟩; have hE79 := hE73.then hw78
  obtain rfl : r2 = false := by cases r2 with | false => rfl | true => exact (zero_no rfl (hr2.1 rfl)).elim
  refine aP (aB rfl (eO rfl) ?_); refine bD (aM (aD (aA (aQ (aK rfl rfl ?_))))); exact ⟨rfl, hE79⟩
end Go.Proofs.YtljadkcojnlioaaGreatDoor
namespace Go.Proofs.YtljadkcojnlioaaGreatDoor
open Go.Proofs
open Go.W Go.RowKit
attribute [local irreducible] Decidable.decide
theorem FY : eM Tryz.prog 10 := ⟨_, Tryz.func10, by kernel_rfl, by kernel_rfl⟩
theorem FW : eM Tryz.prog 18 := ⟨_, Tryz.func18, by kernel_rfl, by kernel_rfl⟩
theorem FV : eM Tryz.prog 22 := ⟨_, Tryz.func22, by kernel_rfl, by kernel_rfl⟩
theorem FU : eM Tryz.prog 23 := ⟨_, Tryz.func23, by kernel_rfl, by kernel_rfl⟩
theorem FT : eM Tryz.prog 25 := ⟨_, Tryz.func25, by kernel_rfl, by kernel_rfl⟩
theorem FS : eM Tryz.prog 26 := ⟨_, Tryz.func26, by kernel_rfl, by kernel_rfl⟩
theorem JX {n : Nat} {w : World} {vs : List Value} {t : Rx} (hG : Gw w) (hx : RRx n [] w vs t) (hms : t.ms ≤ 60000000) :
    Calls Tryz.prog 7 #[.agg vs.toArray] w (Ret fun v w' => v = .bool true ∧ Evo [] w w') := by
  have hx0 := hx; obtain ⟨m, ra, rc, ka, kc, hm, rfl, hrg, hk, bl1, bl2, bl3⟩ := hx.get; refine bL (N := 47) Tryz.func7 rfl rfl rfl ?_; refine aF (aC (gT rfl rfl fun b1x w1 hB2 hs3 hw4 => ?_)); have hsz_b1x := hs3; have hE6 := (Evo.refl [] w).then hw4; refine aM (aD (aA (aF (aF (aC (aN (vs := []) FY rfl (PF (hG.evo0 hE6)) rfl ?_)))))); rintro _ w7 ⟨rfl, hw8⟩; have hE9 := hE6.then hw8; have hB10 := hw8.blk0 hB2; refine aB rfl (eO rfl) ?_; refine aD (aA (cQ rfl ?_)); refine bA (aA (aF (aF (aC (aB rfl (cA rfl bS bG hB10 rfl) (aN (vs := [_]) FW rfl (wide_ok (RRx.pers _ _ _ _ _ _ hE9 hx0)) rfl ?_)))))); rintro _ w11 ⟨wb, rfl, hw12⟩; have hE13 := hE9.then hw12; have hB14 := hw12.blk0 hB10; refine aD (aA (fB rfl (fun hc12 => ?_) (fun hc12 => ?_)))
  ·skip
   refine aF (aC (aM (aD (aA (aQ (aO (aK rfl rfl ?_))))))); exact ⟨rfl, hE13⟩
  refine bA (aA (aF (aC (aB rfl (cA rfl bS bG hB14 rfl) (aN (vs := [_]) FV rfl (ME (hG.evo0 hE13) (RRx.pers _ _ _ _ _ _ hE13 hx0) hms) rfl ?_))))); rintro _ w15 ⟨s1, e1, hs1, rfl, hw16⟩; have hE17 := hE13.then hw16; have hB18 := hw16.blk0 hB14; refine aH (aB rfl (dC rfl rfl) ?_); refine aB rfl (dC rfl rfl) ?_; refine aM (aM (aD (aA (aF (aC (aB rfl (cA rfl bS bG hB18 rfl) (aN (vs := [_]) FU rfl (GM (RRx.pers _ _ _ _ _ _ hE17 hx0)) rfl ?_))))))); rintro _ w19 ⟨a2, c2, o2, rfl, hGA, hga, hgl, hw20⟩; have hE21 := hE17.then hw20; have hB22 := hw20.blk0 hB18; refine aM (aD (aA (aF (aC (aB rfl (cA rfl bS bG hB22 rfl) (aN (vs := [_]) vY rfl (vG (RRx.pers _ _ _ _ _ _ hE21 hx0)) rfl ?_)))))); rintro _ w23 ⟨r1, rfl, hr1, hw24⟩; have hE25 := hE21.then hw24; have hB26 := hw24.blk0 hB22; have hO27 := hGA.evo0 hw24; refine aM (aD (aA (aF (aC (aB rfl (cA rfl bS bG hB26 rfl) (aN (vs := [_]) vZ rfl (JP (hG.evo0 hE25) (RRx.pers _ _ _ _ _ _ hE25 hx0) hms) rfl ?_)))))); rintro _ w28 ⟨s2, e2, hs2, rfl, hw29⟩; have hE30 := hE25.then hw29; have hB31 := hw29.blk0 hB26; have hO32 := hO27.evo0 hw29; obtain ⟨rfl, rfl⟩ := hs1.uniq hs2; refine aH (aB rfl (dC rfl rfl) ?_); refine aB rfl (dC rfl rfl) ?_; refine aM (aM (aD (aA ?_)))
  refine aF (aC (aH (aH (aB rfl (bC rfl rfl) ?_)))); rw [show decide (e1 = e1) = true from decide_eq_true rfl]; refine aH (aP (aH (aP (aH (aP (aB rfl (gD rfl rfl) ?_)))))); rw [show decide (bstr s1 = bstr s1) = true from decide_eq_true rfl]; refine bD (aH (aP (aB rfl (cA rfl bS bG hB31 rfl) (aP (aN (vs := [_]) oC rfl (sQ (RRx.pers _ _ _ _ _ _ hE30 hx0)) rfl ?_))))); rintro _ w33 ⟨r2, rfl, hr2, hw34⟩; have hE35 := hE30.then hw34; have hB36 := hw34.blk0 hB31; have hO37 := hO32.evo0 hw34; have hr12 : r2 = r1 := Bool.eq_iff_iff.2 (hr2.trans hr1.symm); subst hr12; refine aP (aH (aP (aB rfl (ex_eqB rfl rfl Tryz.underlying4) ?_))); rw [show (r2 == r2) = true from by simp]; refine bD (aH (aP (aB rfl (cA rfl bS bG hB36 rfl) (aP (aN (vs := [_]) FS rfl (LF (RRx.pers _ _ _ _ _ _ hE35 hx0)) rfl ?_))))); rintro _ w38 ⟨a3, c3, o3, rfl, hGB, hgb, -, hw39⟩; have hE40 := hE35.then hw39; have hO42 := hO37.evo0 hw39; refine aP (aH (aP ?_)); refine aN (vs := [_, _]) FT rfl (AI hGB hO42 (by omega) (by omega)) rfl ?_; rintro _ w43 ⟨rfl, hw44⟩; have hE45 := hE40.then hw44; rw [show decide (qD t = qD t) = true from decide_eq_true rfl]; refine bD (aM (aD (aA (aQ (aK rfl rfl ?_))))); exact ⟨rfl, hE45⟩
end Go.Proofs.YtljadkcojnlioaaGreatDoor
namespace Go.Proofs.YtljadkcojnlioaaGreatDoor
open Go.Proofs
open Go.W Go.ChangeShapes Go.WideShapes Go.ChangeAt Go.RowKit
set_option maxRecDepth 100000 in
theorem OP (H : Type) (enc : TypeId × Value → H) (W : World) (base : Nat) (args : Array Value) (ds gs : List (DataW H)) (before : List MemPlace)
    (hval : ∀ (j : Nat) t v, Tryz.f7.params[j]? = some t → args[j]? = some v → Value.okWide Tryz.prog W .any base t v)
    (hW : DataW.Whole enc Tryz.prog Tryz.f7.params.toList Rows.rxtreeShowsSpec.vars false W args.toList ds gs before) (hk : Rows.uptoSmall H (ds ++ gs) = true)
    (hsz : (DataW.weightsEach Tryz.prog (Tryz.f7.params.toList ++ Rows.rxtreeShowsSpec.plain.varTypes Tryz.prog) (ds ++ gs)).all (· ≤ reachBytes) = true) (hG : Gw W) :
    Calls Tryz.prog 7 args W fun e W' => ∃ v, e = .returned v ∧ Rows.rxtreeShowsSpec.post enc Tryz.prog Tryz.f7 false true false false W args v W' := by
  have hW' := hW
  obtain ⟨p, q, hA0, hV, rfl, hfz, hnd⟩ := hW
  have hA : DataW.TrodAll enc Tryz.prog W 0 (fun _ => true) true Tryz.f7.params.toList args.toList ds p := hA0
  rw [Tryz.params7] at hA hval hsz
  obtain ⟨v0, vs0, d0, ds0, p0, q0, hargs0, rfl, rfl, h0, r0⟩ := trodAll_cons hA
  obtain ⟨hn1, rfl, rfl⟩ := trodAll_nil r0
  subst hn1
  obtain rfl : args = #[v0] := by cases args; simp_all
  obtain ⟨rfl, rfl⟩ := trodVars_none hV
  have hbk := of_decide_eq_true hk
  simp only [List.append_nil, List.cons_append, List.nil_append, Rows.uptoBulkAll] at hbk
  have k0 := h0
  have lt0 : ∀ x ∈ p0, x.block < W.heap.size := by obtain ⟨m, hm⟩ := k0; exact DataW.trod_lt m _ _ _ hm
  obtain ⟨f0, hf0⟩ := h0
  obtain ⟨t0, hx0, hm0⟩ := IG f0 H enc W f0 _ _ (Nat.le_refl _) hf0 (fun n hn => by have := List.all_eq_true.1 hsz n (DataW.weights_mem_each (j := 0) rfl rfl n hn); simpa using this) (by simp only; omega)
  try dsimp only at hm0
  have hv0 : v0 = .agg v0.cells.toList.toArray := by
    obtain ⟨m, ra, rc, ka, kc, -, hcs, -⟩ := hx0.get
    cases v0 <;> simp [Value.cells] at hcs ⊢
  rw [hv0]
  refine (JX hG hx0 (by omega)).mono fun e W' ⟨v, he, hv, bel⟩ => ?_
  subst he hv
  rw [← hv0]
  exact ⟨_, rfl, _, _, _, [], _, [], hW', trodAll_mk1 (shut_bool Tryz.underlying4 _), (trodAll_cons_mk (Below.trod laidOut (by kernel_rfl) (of_decide_eq_true (by kernel_rfl)) k0 bel.below lt0) trodAll_mk0), rfl, bel.below.frame _, fun h => by cases h⟩
theorem NQ (os : Os) : laidMet Tryz.prog laidL ((uL os).forCall (fun _ _ => 0) ⟨#[], #[.agg #[.int .i64 0, .int .i32 0, .slice none 0 0, .int .i64 0, .int .i64 0, .bool false, .int .i64 0, .string ByteArray.empty, .slice none 0 0]], []⟩).memory :=
  laidMet_of_run' 8 (by kernel_rfl) (by kernel_rfl)
theorem reads (os : Os) {H : Type} (enc : TypeId × Value → H) : ∃ places, DataW.whole enc Tryz.prog ((uL os).forCall (fun _ _ => 0) ⟨#[], #[.agg #[.int .i64 0, .int .i32 0, .slice none 0 0, .int .i64 0, .int .i64 0, .bool false, .int .i64 0, .string ByteArray.empty, .slice none 0 0]], []⟩).memory Tryz.f7.params.toList Rows.rxtreeShowsSpec.vars false (#[.agg #[.int .i64 0, .int .i32 0, .slice none 0 0, .int .i64 0, .int .i64 0, .bool false, .int .i64 0, .string ByteArray.empty, .slice none 0 0]] : Array Value).toList 8 = some ([.agg [.lit (.int .i64 0), .lit (.int .i32 0), .nil, .lit (.int .i64 0), .lit (.int .i64 0), .lit (.bool false), .lit (.int .i64 0), .lit (.string []), .nil]], [], places) :=
  ⟨[], by kernel_rfl⟩
set_option maxRecDepth 100000 in
theorem lifted (os : Os) (started : os.Started) (H : Type) (enc : TypeId × Value → H) (F : Stop.Interp) :
    ReturnsInHanded {} Tryz.checked os 7 .any ((Rows.OpenSpec.upto Rows.rxtreeShowsSpec).preRow enc Tryz.prog Tryz.f7 Rows.rxtreeShowsUptoRow.domain false Rows.rxtreeShowsUptoRow.laid) (((Rows.OpenSpec.upto Rows.rxtreeShowsSpec).at F).post enc Tryz.prog Tryz.f7 false true false false) := by
  obtain ⟨places, hx⟩ := reads os enc
  refine returnsInHanded_of_row (C := Tryz.checked) (s := (Rows.OpenSpec.upto Rows.rxtreeShowsSpec)) own started (by kernel_rfl) Tryz.func7
    (witness_row_at (enc := enc) (C := Tryz.checked) false (uL os) #[.agg #[.int .i64 0, .int .i32 0, .slice none 0 0, .int .i64 0, .int .i64 0, .bool false, .int .i64 0, .string ByteArray.empty, .slice none 0 0]] rfl (by kernel_rfl) (by kernel_rfl) (by kernel_rfl)
      (OpenSpec.preRow_of_cond 8 hx (by kernel_rfl) (fun k hk => by cases hk; kernel_rfl) (by kernel_rfl) (NQ os))) ?_
  intro W base args ds gs before hval hW _ hk hsz hL hsh _
  exact OP H enc W base args ds gs before hval hW (hk _ rfl) hsz (gw_of hL hsh)
theorem said : Rows.RxtreeShowsUptoSaid :=
  OpenClaim.holds_of_cond 7 Tryz.f7 rfl rfl rfl rfl rfl rfl rfl ⟨rfl, rfl, rfl, rfl, rfl⟩ rfl rfl rfl rfl rfl (by kernel_rfl) Tryz.func7 (by kernel_rfl)
    (of_decide_eq_true (by kernel_rfl)) (by unfold Func.isWrapper; first | (rw [if_pos (by decide +kernel)]; kernel_rfl) | (rw [if_neg (by decide +kernel)]; exact ⟨rfl, rfl⟩))
    (fun os started H enc _ F => by rw [OpenClaim.pre_eq_preRow]; exact lifted os started H enc F)
theorem plain (f : FuncId) (fn : Func) (hf : Tryz.pinned.checked.prog.funcNamed "weir/weirlaw08.RxtreeShows" = some f) (hfn : Tryz.pinned.checked.prog.funcs[f]? = some fn) :
    true = Tryz.pinned.checked.prog.looks [] ∧ ∀ (j : Nat) t, fn.params[j]? = some t → Tryz.pinned.checked.prog.wantsStandIn t = false := by
  obtain rfl : f = 7 := Option.some.inj ((show Tryz.prog.funcNamed "weir/weirlaw08.RxtreeShows" = some 7 by kernel_rfl).symm.trans hf) |>.symm
  obtain rfl : fn = Tryz.f7 := (Option.some.inj (Tryz.func7.symm.trans hfn)).symm
  refine ⟨NO, fun j t ht => ?_⟩
  rw [Tryz.params7] at ht
  rcases j with _ | j
  · obtain rfl : t = 27 := by simpa using ht.symm
    exact (show Tryz.prog.wantsStandIn 27 = false by kernel_rfl)
  · simp at ht
theorem rxtreeShows_card : Rows.RxtreeShowsUptoCardSaid :=
  Claim7.holds_tied_plain_at .later [] _ _ _ _ said (fun _ h => by cases h) (by kernel_rfl) (fun _ h => by cases h) rxtreeShowsUpto_row_tie rfl ⟨rfl, rfl⟩ (by kernel_rfl) rfl plain (by kernel_rfl)
#print axioms rxtreeShows_card
end Go.Proofs.YtljadkcojnlioaaGreatDoor
