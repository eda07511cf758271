/- RxtreeQuotes: every Quote is the document's, and a quoted text is read as its runes, one behind the other. Conditions: what came in is of bulk at most 1048576 (the form Upto); the library's tables hold what the text of the program lays. -/
import Derived.Test.YtljadkcojnlioaaGreatDoorQkE
set_option linter.unusedSectionVars false
set_option linter.unusedSimpArgs false
set_option linter.unusedVariables false
namespace Go.Proofs.YtljadkcojnlioaaGreatDoor
open Go.Proofs
open Go.W Go.RowKit
attribute [local irreducible] Decidable.decide
theorem uJ : eT Tryz.prog 48 := ⟨_, Tryz.func48, by kernel_rfl, by kernel_rfl⟩
theorem kR : eT Tryz.prog 50 := ⟨_, Tryz.func50, by kernel_rfl, by kernel_rfl⟩
theorem EB : eT Tryz.prog 72 := ⟨_, Tryz.func72, by kernel_rfl, by kernel_rfl⟩
theorem EA : eT Tryz.prog 73 := ⟨_, Tryz.func73, by kernel_rfl, by kernel_rfl⟩
theorem nP : eT Tryz.prog 74 := ⟨_, Tryz.func74, by kernel_rfl, by kernel_rfl⟩
theorem DZ : eT Tryz.prog 75 := ⟨_, Tryz.func75, by kernel_rfl, by kernel_rfl⟩
structure WcG where
  k : Nat
  o : Option Nat
structure WcI (w0 w wr : World) (b : Nat) (L : List Nat) (ob o : Option Nat) : Prop where
  bd : BdN wr b L o
  e0 : Evo [] w0 wr
  nb : o = ob ∨ ∃ g, o = some g ∧ w.heap.size ≤ g
  hu : Ge w0 o
theorem xE {w0 w : World} {b : Nat} {l : List Nat} {ob : Option Nat} {v : Value} {rs : List (Int × Int)} (hG : Gw w0) (hE0 : Evo [] w0 w) (hub : w0.heap.size ≤ b) (huo : Ge w0 ob) (h : BdN w b l ob) (hr : RSl 2 RRg [] w0 v rs) (hrg : RgB rs) (hl : l.length + 26 * rs.length ≤ 80000000) :
    Calls Tryz.prog 73 #[.pointer (some ⟨b, 0, none⟩), v] w (Ret fun v w' => Wr w b (l ++ xJ rs) ob w') := by
  obtain ⟨ka, kc, rfl, hkc, e1⟩ := hr; refine bO (N := 37) Tryz.func73 rfl rfl rfl ?_; refine aE (aE (aB (aG (aC rfl (bQ rfl Tryz.underlying24 rfl) ?_)))); refine aC rfl (bF rfl rfl) ?_; refine aD (aA (bI rfl (fun hc8 => ?_) (fun hc8 => ?_)))
  ·skip
   refine aE (aB (aG ?_))
   refine aN (vs := [_, _]) cA rfl (cY h (m := NU) (by decide +kernel) (cE (by decide +kernel)) (by first | omega | simp only [List.length_append, List.length_cons, List.length_nil]; omega) (by decide)) rfl ?_
   rintro _ w1 ⟨obw1, hBDw1, hw2, hnb1⟩; have hV9 := (Evo.refl (b :: ob.toList) w); have hV90 := hE0; have hN1 := dC (Or.inl rfl) hnb1 hV9.size; have hU1 := dT huo hV90.size hnb1; have hE3 := (Evo.refl (b :: ob.toList) w).step hw2 (dD (Or.inl rfl)); refine aD (aA (aO (aP (tP rfl ?_)))); exact eK hBDw1 (by rw [xJ, if_pos (List.length_eq_zero_iff.1 (by omega))]) hE3 hN1
  refine aW (aA (aE (aB (aG ?_))))
  refine aN (vs := [_, _]) cA rfl (cY h (m := [91]) (by decide +kernel) (cE (by decide +kernel)) (by first | omega | simp only [List.length_append, List.length_cons, List.length_nil]; omega) (by decide)) rfl ?_
  rintro _ w5 ⟨obw1, hBDw1, hw6, hnb1⟩; have hV9 := (Evo.refl (b :: ob.toList) w); have hV90 := hE0; have hN1 := dC (Or.inl rfl) hnb1 hV9.size; have hU1 := dT huo hV90.size hnb1; have hE7 := (Evo.refl (b :: ob.toList) w).step hw6 (dD (Or.inl rfl)); have hE8 := hE0.step hw6 (gX hub huo); refine aD (aA (aE (aE (aB (aG (aC rfl (bQ rfl Tryz.underlying24 rfl) ?_)))))); refine aG (aD (aA (bT ?_))); refine eR (α := WcG) (⟨0, obw1⟩) (fun x => [(15, .int .i64 (x.k : Nat))]) [(0, _), (13, _), (14, _)] (fun x wr => Evo (b :: ob.toList) w wr ∧ (x.k ≤ rs.length ∧ WcI w0 w wr b (l ++ ([91] ++ (rs.take x.k).flatMap tB)) ob x.o)) (fun x => rs.length - x.k) ⟨rfl, trivial⟩ ⟨rfl, rfl, rfl, trivial⟩ ⟨hE7, ⟨Nat.zero_le _, by simpa using hBDw1, hE8, hN1, hU1⟩⟩ ?_; rintro ⟨k, o1⟩ wr9 ⟨hV10, ⟨hk, hBDl, hE0l, hNl, hUl⟩⟩; show CW _ _ _ _ [(15, .int .i64 (k : Nat)), (0, _), (13, _), (14, _)] _
  try dsimp only at hk
  try dsimp only at hBDl
  try dsimp only at hE0l
  try dsimp only at hNl
  try dsimp only at hUl
  refine aE (aB (aC rfl (dH rfl rfl) ?_)); refine aD (aA (aE (bI rfl (fun hc16 => ?_) (fun hc16 => ?_))))
  ·skip
   have hk' : k < rs.length := by omega
   obtain ⟨b1, o1', vs1, ha1, hb1, hvl1, hc1, hrk⟩ := e1 k hk'; obtain rfl := hrk; obtain ⟨hr0, hr1, hr2⟩ := hrg _ (List.getElem_mem hk'); have hfl := uV (l := rs.take k) (fun g hg => hrg g (List.mem_of_mem_take hg)); rw [List.length_take] at hfl; have hb26 := (zV hr0 (show rs[k].1 ≤ 1114111 by omega)).1; refine aW (aA (aE (bT (aE (aB ?_)))))
   refine aC rfl (gP (n := k) (by rw [ha1]; rfl) rfl fE (by omega)) ?_
   refine aC rfl (eL rfl jN fX (vs := [_, _]) rfl (hc1.evo hE0l (by simp))) ?_; refine dG rfl lV fun b5 w11 hB12 hs13 hw14 => ?_; have hsz_b5 := hs13; have hG15 := Ge.new hV10 hs13; have hG16 := Ge.new hE0l hs13; have hE17 := hV10.then hw14; have hE18 := hE0l.then hw14; have hF19 := hBDl.evo0 hw14
   have hAJ_b5 : Apart (some b5) (some b) := (Apart.new (fun g hg => by cases hg; exact hBDl.lt) hsz_b5).symm
   have hAO_b5 : Apart (some b5) o1 := (Apart.new hBDl.ltO hsz_b5).symm; refine bN rfl rfl fX hB12 rfl rfl ⟨rfl, rfl, trivial⟩ fun w20 hB21 hw22 => ?_; have hE23 := hE17.step hw22 hG15.mem1; have hE24 := hE18.step hw22 hG16.mem1; have hF25 := hF19.evo hw22 (hAJ_b5).symm.nmem1 (hAO_b5).symm.own1; refine aD (aA (aE (aB (aG (aC rfl (aF rfl gG) (aC rfl (aI rfl cJ (aK hB21 rfl)) ?_))))))
   refine aN (vs := [_, _]) sW rfl (tV hG hE24 hub hUl hF25 (by simp only [List.length_append, List.length_cons, List.length_nil]; omega) hr0 (by omega)) rfl ?_
   rintro _ w26 ⟨obw2, hBDw2, hw27, hnb2⟩; have hV9 := hE23; have hV90 := hE24; have hN2 := dC hNl hnb2 hV9.size; have hU2 := dT hUl hV90.size hnb2; have hAO2_b5 := fK hAO_b5 (Lt.blk hB21) hnb2; have hE28 := hE23.step hw27 (dD hNl); have hE29 := hE24.step hw27 (gX hub hUl); have hB30 := hw27.blk hB21 (mB hAJ_b5 hAO_b5); refine aD (aA (aE (aB (aC rfl (aF rfl fF) (aC rfl (aI rfl cJ (aK hB30 rfl)) (aC rfl (aF rfl gG) (aC rfl (aI rfl cJ (aK hB30 rfl)) (aC rfl (fV rfl rfl) ?_)))))))); refine aD (aA (bI rfl (fun hc27 => ?_) (fun hc27 => ?_)))
   ·skip
    refine aE (aB (aG ?_))
    refine aN (vs := [_, _]) cA rfl (cY hBDw2 (m := [45]) (by decide +kernel) (cE (by decide +kernel)) (by first | omega | simp only [List.length_append, List.length_cons, List.length_nil]; omega) (by decide)) rfl ?_
    rintro _ w31 ⟨obw3, hBDw3, hw32, hnb3⟩; have hV9 := hE28; have hV90 := hE29; have hN3 := dC hN2 hnb3 hV9.size; have hU3 := dT hU2 hV90.size hnb3; have hE33 := hE28.step hw32 (dD hN2); have hE34 := hE29.step hw32 (gX hub hU2); have hB35 := hw32.blk hB30 (mB hAJ_b5 hAO2_b5); refine aD (aA (aB (aG (aC rfl (aF rfl fF) (aC rfl (aI rfl cJ (aK hB35 rfl)) ?_)))))
    refine aN (vs := [_, _]) sW rfl (tV hG hE34 hub hU3 hBDw3 (by simp only [List.length_append, List.length_cons, List.length_nil]; omega) (by omega) hr2) rfl ?_
    rintro _ w36 ⟨obw4, hBDw4, hw37, hnb4⟩; have hV9 := hE33; have hV90 := hE34; have hN4 := dC hN3 hnb4 hV9.size; have hU4 := dT hU3 hV90.size hnb4; have hE38 := hE33.step hw37 (dD hN3); have hE39 := hE34.step hw37 (gX hub hU3); refine aD (aZ (aA (aB ?_))); refine aC rfl (bC rfl rfl (by omega) (by omega)) ?_; refine aG (aD (bY ?_)); refine ⟨⟨k + 1, obw4⟩, ?_, ⟨rfl, trivial⟩, ⟨rfl, rfl, rfl, trivial⟩, hE38, ?_⟩
    · (try dsimp only); omega
    try dsimp only
    refine ⟨by omega, ?_, hE39, hN4, hU4⟩; have hfin := hBDw4
    rw [BW hk', tB, if_pos hc27]; simpa [List.append_assoc] using hfin
   refine aW (aZ (aA (aB ?_))); refine aC rfl (bC rfl rfl (by omega) (by omega)) ?_; refine aG (aD (bY ?_)); refine ⟨⟨k + 1, obw2⟩, ?_, ⟨rfl, trivial⟩, ⟨rfl, rfl, rfl, trivial⟩, hE28, ?_⟩
   · (try dsimp only); omega
   try dsimp only
   refine ⟨by omega, ?_, hE29, hN2, hU2⟩; have hfin := hBDw2
   rw [BW hk', tB, if_neg hc27]; simpa [List.append_assoc] using hfin
  have hfl := uV (l := rs.take k) (fun g hg => hrg g (List.mem_of_mem_take hg)); rw [List.length_take] at hfl; refine dV (cB (cB (dU (aA ?_)))); refine aB (aG ?_)
  refine aN (vs := [_, _]) cA rfl (cY hBDl (m := [93]) (by decide +kernel) (cE (by decide +kernel)) (by first | omega | simp only [List.length_append, List.length_cons, List.length_nil]; omega) (by decide)) rfl ?_
  rintro _ w41 ⟨obw2, hBDw2, hw42, hnb2⟩; have hV9 := hV10; have hV90 := hE0l; have hN2 := dC hNl hnb2 hV9.size; have hU2 := dT hUl hV90.size hnb2; have hE43 := hV10.step hw42 (dD hNl); refine aD (cG rfl ?_)
  exact eK hBDw2 (by rw [xJ, if_neg (fun h9 => hc8 (by rw [h9]; rfl))]; obtain rfl : k = rs.length := (by omega); rw [List.take_length]; simp) hE43 hN2
theorem brW_len (p : Prop) [Decidable p] (l : List Nat) : (brW p l).length ≤ l.length + 4 := by unfold brW; split <;> simp
theorem OE (k : Int) (f : Bool) : (wV k f).length ≤ 1 := by unfold wV; split <;> simp
theorem BR {lo hi : Int} (h0 : 0 ≤ lo) (h1 : lo ≤ 1000) (h2 : hi = -1 ∨ (lo ≤ hi ∧ hi ≤ 1000)) : (jO lo hi).length ≤ 12 := by
  have h3 := vD lo.toNat (by omega)
  unfold jO
  split
  · simp
  · split
    · simp
    · split
      · simp
      · split
        · simp; omega
        · have h4 := vD hi.toNat (by omega)
          split
          · simp; omega
          · simp; omega
mutual
theorem GI : ∀ (x : Rx), Good x → x.w.length + 5 ≤ x.ms
  | .mk k r rs mn mx lz cp nm ks, hg => by
    have hn := (bJ _).1 hg.node
    have h1 := lQ ks k true (fun y hy => hg.kid y hy)
    rw [Rx.w, Rx.ms, List.length_append, List.length_append]
    have h2 : (zA k r rs nm).length ≤ 20 + nm.size + 26 * rs.length := by
      unfold zA
      split
      · have := (HE (hn.lit1 (by assumption)) (hn.lit2 (by assumption))).1
        simp only [Rx.r] at this; omega
      · split
        · have := uV (RangesOk.b (hn.cls (by assumption)))
          simp only [Rx.ranges] at this
          unfold xJ
          split
          · show 19 ≤ _; omega
          · rw [List.length_append, List.length_append]; simp only [List.length_cons, List.length_nil]; omega
        · split
          · split
            · simp; omega
            · simp [HB]; omega
          · split
            · simp; omega
            · split
              · simp; omega
              · split
                · simp; omega
                · split
                  · simp; omega
                  · split
                    · simp; omega
                    · split
                      · simp; omega
                      · simp
    have h3 : (yU k mn mx lz).length ≤ 13 := by
      unfold yU
      split
      · have := BR (hn.rep1 (by assumption)) (hn.rep2 (by assumption)) (hn.rep3 (by assumption))
        simp only [Rx.min, Rx.max] at this
        rw [List.length_append]
        split <;> simp <;> omega
      · split <;> simp
    omega
theorem lQ : ∀ (l : List Rx) (k : Int) (f : Bool), (∀ x, x ∈ l → Good x) → (gJ k f l).length ≤ kms l
  | [], k, f, _ => by rw [gJ, kms]; simp
  | x :: xs, k, f, h => by
    rw [gJ, kms, List.length_append, List.length_append]
    have h1 := GI x (h x (List.mem_cons_self ..))
    have h2 := lQ xs k false (fun y hy => h y (List.mem_cons_of_mem _ hy))
    have h3 := brW_len (Brk x.kind k) x.w
    have h4 := OE k f
    omega
end
theorem oK {t : Rx} (hg : Good t) (h : ¬ (t.kind = 4 ∨ t.kind = 5 ∨ t.kind = 6 ∨ t.kind = 7)) : t.w = zA t.kind t.r t.ranges t.name := by
  rw [Rx.w_eq, hg.node.leaf h, gJ, yU, if_neg (by omega), if_neg (by omega)]; simp
theorem KD {t : Rx} (h : t.kind = 4 ∨ t.kind = 5) : t.w = gJ t.kind true t.kids := by
  rw [Rx.w_eq, yU, if_neg (by omega), if_neg (by omega)]
  rcases h with h | h <;> rw [h] <;> simp [zA]
theorem w_rep {t : Rx} (h : t.kind = 6) : t.w = gJ t.kind true t.kids ++ jO t.min t.max ++ (if t.lazy = true then [63] else []) := by
  rw [Rx.w_eq, yU, if_pos h, h]; simp [zA]
theorem w_grp {t : Rx} (h : t.kind = 7) : t.w = [40] ++ (if t.name = ByteArray.mk #[] then [] else [63, 80, 60] ++ nmL t.name ++ [62]) ++ gJ t.kind true t.kids ++ [41] := by
  rw [Rx.w_eq, h, yU, if_neg (by decide), if_pos rfl]; rfl
def WOK (n : Nat) : Prop := ∀ {w0 w : World} {b : Nat} {l : List Nat} {ob : Option Nat} {vs : List Value} {t : Rx} (hG : Gw w0) (hE0 : Evo [] w0 w) (hub : w0.heap.size ≤ b) (huo : Ge w0 ob) (h : BdN w b l ob) (hx : RRx n [] w0 vs t) (hg : Good t) (hl : l.length + t.ms ≤ 70000000),
    Calls Tryz.prog 50 #[.pointer (some ⟨b, 0, none⟩), .agg vs.toArray] w (Ret fun v w' => Wr w b (l ++ t.w) ob w')
theorem lM {n : Nat} (ih : WOK n) {w0 w : World} {b : Nat} {l : List Nat} {ob : Option Nat} {vs : List Value} {t : Rx} {k : Int} (hG : Gw w0) (hE0 : Evo [] w0 w) (hub : w0.heap.size ≤ b) (huo : Ge w0 ob) (h : BdN w b l ob) (hx : RRx n [] w0 vs t) (hg : Good t) (hl : l.length + t.ms + 3 ≤ 70000000) :
    Calls Tryz.prog 74 #[.pointer (some ⟨b, 0, none⟩), .agg vs.toArray, .int .i64 k] w (Ret fun v w' => Wr w b (l ++ brW (Brk t.kind k) t.w) ob w') := by
  have hx0 := hx; obtain ⟨m, ra, rc, ka, kc, hm, rfl, hrg, hk, bl1, bl2, bl3⟩ := hx.get; have hwl := GI t hg; refine bO (N := 21) Tryz.func74 rfl rfl rfl ?_; refine aE (aB (kT rfl rfl fun b4 w1 hB2 hs3 hw4 => ?_)); have hsz_b4 := hs3; have hE7 := (Evo.refl (b :: ob.toList) w).then hw4; have hE8 := hE0.then hw4; have hF9 := h.evo0 hw4
  have hAJ_b4 : Apart (some b4) (some b) := (Apart.new (fun g hg => by cases hg; exact h.lt) hsz_b4).symm
  have hAO_b4 : Apart (some b4) ob := (Apart.new h.ltO hsz_b4).symm; refine aD (aA (aE (aE (aB (aC rfl (aF rfl eH) (aC rfl (aI rfl bD (aK hB2 rfl)) (aG (aN (vs := [_, _]) uF rfl (sG t.kind k) rfl ?_)))))))); rintro _ w10 ⟨rfl, hw11⟩; have hE12 := hE7.then hw11; have hE13 := hE8.then hw11; have hF14 := hF9.evo0 hw11; have hB15 := hw11.blk0 hB2; refine aC rfl (eU rfl) ?_; refine aD (aA (gC rfl (fun hc10 => ?_) (fun hc10 => ?_)))
  ·skip
   refine aE (aB (aG (aC rfl (cF rfl bV bE hB15 rfl) ?_))); refine aN (vs := [_, _]) kR rfl (ih hG hE13 hub huo hF14 hx0 hg (by omega)) rfl ?_; rintro _ w16 ⟨obw1, hBDw1, hw17, hnb1⟩; have hV9 := hE12; have hV90 := hE13; have hN1 := dC (Or.inl rfl) hnb1 hV9.size; have hU1 := dT huo hV90.size hnb1; have hAO1_b4 := fK hAO_b4 (Lt.blk hB15) hnb1; have hE18 := hE12.step hw17 (dD (Or.inl rfl)); refine aD (aA (aO (aP (tP rfl ?_)))); exact eK hBDw1 (by rw [brW, if_neg (by simpa using hc10)]) hE18 hN1
  refine aW (aA (aE (aB (aG ?_))))
  refine aN (vs := [_, _]) cA rfl (cY hF14 (m := [40, 63, 58]) (by decide +kernel) (cE (by decide +kernel)) (by first | omega | simp only [List.length_append, List.length_cons, List.length_nil]; omega) (by decide)) rfl ?_
  rintro _ w21 ⟨obw1, hBDw1, hw22, hnb1⟩; have hV9 := hE12; have hV90 := hE13; have hN1 := dC (Or.inl rfl) hnb1 hV9.size; have hU1 := dT huo hV90.size hnb1; have hAO1_b4 := fK hAO_b4 (Lt.blk hB15) hnb1; have hE23 := hE12.step hw22 (dD (Or.inl rfl)); have hE24 := hE13.step hw22 (gX hub huo); have hB25 := hw22.blk hB15 (mB hAJ_b4 hAO_b4); refine aD (aA (aE (aB (aG (aC rfl (cF rfl bV bE hB25 rfl) ?_)))))
  refine aN (vs := [_, _]) kR rfl (ih hG hE24 hub hU1 hBDw1 hx0 hg (by simp only [List.length_append, List.length_cons, List.length_nil]; omega)) rfl ?_
  rintro _ w26 ⟨obw2, hBDw2, hw27, hnb2⟩; have hV9 := hE23; have hV90 := hE24; have hN2 := dC hN1 hnb2 hV9.size; have hE28 := hE23.step hw27 (dD hN1); have hE29 := hE24.step hw27 (gX hub hU1); refine aD (aA (aB (aG ?_)))
  refine aN (vs := [_, _]) cA rfl (cY hBDw2 (m := [41]) (by decide +kernel) (cE (by decide +kernel)) (by first | omega | simp only [List.length_append, List.length_cons, List.length_nil]; omega) (by decide)) rfl ?_
  rintro _ w31 ⟨obw3, hBDw3, hw32, hnb3⟩; have hV9 := hE28; have hV90 := hE29; have hN3 := dC hN2 hnb3 hV9.size; have hE33 := hE28.step hw32 (dD hN2); refine aD (cG rfl ?_)
  exact eK hBDw3 (by rw [brW, if_pos (by simpa using hc10)]; simp) hE33 hN3
structure WkI (w0 w wr : World) (b b3 : Nat) (C : Array Value) (L : List Nat) (ob o : Option Nat) : Prop where
  bd : BdN wr b L o
  e0 : Evo [] w0 wr
  nb : o = ob ∨ ∃ g, o = some g ∧ w.heap.size ≤ g
  hu : Ge w0 o
  h3 : wr.heap[b3]? = some (.cells C 27 (0, 0))
  ao : Apart (some b3) o
set_option maxHeartbeats 8000000 in
theorem EP {n : Nat} (ih : WOK n) {w0 w : World} {b : Nat} {l : List Nat} {ob : Option Nat} {vs : List Value} {t : Rx} (hG : Gw w0) (hE0 : Evo [] w0 w) (hub : w0.heap.size ≤ b) (huo : Ge w0 ob) (h : BdN w b l ob) (hx : RRx (n + 1) [] w0 vs t) (hg : Good t) (hl : l.length + t.ms ≤ 70000000) :
    Calls Tryz.prog 50 #[.pointer (some ⟨b, 0, none⟩), .agg vs.toArray] w (Ret fun v w' => Wr w b (l ++ t.w) ob w') := by
  have hx0 := hx; obtain ⟨m, ra, rc, ka, kc, hm, rfl, hrg, hk, bl1, bl2, bl3⟩ := hx.get
  obtain rfl : m = n := by omega
  have hwl := GI t hg; have hn := (bJ t).1 hg.node; have hms := Rx.ms_eq t; have hk' := hk; obtain ⟨_, _, hke, hkc, e1⟩ := hk'; cases hke; refine bO (N := 122) Tryz.func50 rfl rfl rfl ?_; refine aE (aB (kT rfl rfl fun b3 w1 hB2 hs3 hw4 => ?_)); have hsz_b3 := hs3; have hE7 := (Evo.refl (b :: ob.toList) w).then hw4; have hE8 := hE0.then hw4; have hF9 := h.evo0 hw4
  have hAJ_b3 : Apart (some b3) (some b) := (Apart.new (fun g hg => by cases hg; exact h.lt) hsz_b3).symm
  have hAO_b3 : Apart (some b3) ob := (Apart.new h.ltO hsz_b3).symm; refine aD (aA (aE (aB (aC rfl (aF rfl eH) (aC rfl (aI rfl bD (aK hB2 rfl)) (aD (aA (bT (aE (aB (aC rfl (bF rfl rfl) ?_))))))))))); refine aM (aD (aA (bI rfl (fun hc10 => ?_) (fun hc10 => ?_))))
  ·skip
   refine aB (aG ?_)
   refine aN (vs := [_, _]) cA rfl (cY hF9 (m := [92, 65]) (by decide +kernel) (cE (by decide +kernel)) (by first | omega | simp only [List.length_append, List.length_cons, List.length_nil]; omega) (by decide)) rfl ?_
   rintro _ w10 ⟨obw1, hBDw1, hw11, hnb1⟩; have hV9 := hE7; have hV90 := hE8; have hN1 := dC (Or.inl rfl) hnb1 hV9.size; have hU1 := dT huo hV90.size hnb1; have hAO1_b3 := fK hAO_b3 (Lt.blk hB2) hnb1; have hE12 := hE7.step hw11 (dD (Or.inl rfl)); refine aD (aZ (cG rfl ?_))
   exact eK hBDw1 (by rw [oK hg (by omega), show t.kind = 8 by omega]; rfl) hE12 hN1
  refine aE (aB (aC rfl (bF rfl rfl) ?_)); refine aM (aD (aA (bI rfl (fun hc14 => ?_) (fun hc14 => ?_))))
  ·skip
   refine aB (aG ?_)
   refine aN (vs := [_, _]) cA rfl (cY hF9 (m := [92, 122]) (by decide +kernel) (cE (by decide +kernel)) (by first | omega | simp only [List.length_append, List.length_cons, List.length_nil]; omega) (by decide)) rfl ?_
   rintro _ w15 ⟨obw1, hBDw1, hw16, hnb1⟩; have hV9 := hE7; have hV90 := hE8; have hN1 := dC (Or.inl rfl) hnb1 hV9.size; have hU1 := dT huo hV90.size hnb1; have hAO1_b3 := fK hAO_b3 (Lt.blk hB2) hnb1; have hE17 := hE7.step hw16 (dD (Or.inl rfl)); refine aD (aZ (cG rfl ?_))
   exact eK hBDw1 (by rw [oK hg (by omega), show t.kind = 9 by omega]; rfl) hE17 hN1
  refine aE (aB (aC rfl (bF rfl rfl) ?_)); refine aM (aD (aA (bI rfl (fun hc18 => ?_) (fun hc18 => ?_))))
  ·skip
   refine aB (aG ?_)
   refine aN (vs := [_, _]) cA rfl (cY hF9 (m := [94]) (by decide +kernel) (cE (by decide +kernel)) (by first | omega | simp only [List.length_append, List.length_cons, List.length_nil]; omega) (by decide)) rfl ?_
   rintro _ w20 ⟨obw1, hBDw1, hw21, hnb1⟩; have hV9 := hE7; have hV90 := hE8; have hN1 := dC (Or.inl rfl) hnb1 hV9.size; have hU1 := dT huo hV90.size hnb1; have hAO1_b3 := fK hAO_b3 (Lt.blk hB2) hnb1; have hE22 := hE7.step hw21 (dD (Or.inl rfl)); refine aD (aZ (cG rfl ?_))
   exact eK hBDw1 (by rw [oK hg (by omega), show t.kind = 10 by omega]; rfl) hE22 hN1
  refine aE (aB (aC rfl (bF rfl rfl) ?_)); refine aM (aD (aA (bI rfl (fun hc22 => ?_) (fun hc22 => ?_))))
  ·skip
   refine aB (aG ?_)
   refine aN (vs := [_, _]) cA rfl (cY hF9 (m := [36]) (by decide +kernel) (cE (by decide +kernel)) (by first | omega | simp only [List.length_append, List.length_cons, List.length_nil]; omega) (by decide)) rfl ?_
   rintro _ w25 ⟨obw1, hBDw1, hw26, hnb1⟩; have hV9 := hE7; have hV90 := hE8; have hN1 := dC (Or.inl rfl) hnb1 hV9.size; have hU1 := dT huo hV90.size hnb1; have hAO1_b3 := fK hAO_b3 (Lt.blk hB2) hnb1; have hE27 := hE7.step hw26 (dD (Or.inl rfl)); refine aD (aZ (cG rfl ?_))
   exact eK hBDw1 (by rw [oK hg (by omega), show t.kind = 11 by omega]; rfl) hE27 hN1
  refine aE (aB (aC rfl (bF rfl rfl) ?_)); refine aM (aD (aA (bI rfl (fun hc26 => ?_) (fun hc26 => ?_))))
  ·skip
   refine aB (aG ?_)
   refine aN (vs := [_, _]) cA rfl (cY hF9 (m := [92, 98]) (by decide +kernel) (cE (by decide +kernel)) (by first | omega | simp only [List.length_append, List.length_cons, List.length_nil]; omega) (by decide)) rfl ?_
   rintro _ w30 ⟨obw1, hBDw1, hw31, hnb1⟩; have hV9 := hE7; have hV90 := hE8; have hN1 := dC (Or.inl rfl) hnb1 hV9.size; have hU1 := dT huo hV90.size hnb1; have hAO1_b3 := fK hAO_b3 (Lt.blk hB2) hnb1; have hE32 := hE7.step hw31 (dD (Or.inl rfl)); refine aD (aZ (cG rfl ?_))
   exact eK hBDw1 (by rw [oK hg (by omega), show t.kind = 12 by omega]; rfl) hE32 hN1
  refine aE (aB (aC rfl (bF rfl rfl) ?_)); refine aM (aD (aA (bI rfl (fun hc30 => ?_) (fun hc30 => ?_))))
  ·skip
   refine aB (aG ?_)
   refine aN (vs := [_, _]) cA rfl (cY hF9 (m := [92, 66]) (by decide +kernel) (cE (by decide +kernel)) (by first | omega | simp only [List.length_append, List.length_cons, List.length_nil]; omega) (by decide)) rfl ?_
   rintro _ w35 ⟨obw1, hBDw1, hw36, hnb1⟩; have hV9 := hE7; have hV90 := hE8; have hN1 := dC (Or.inl rfl) hnb1 hV9.size; have hU1 := dT huo hV90.size hnb1; have hAO1_b3 := fK hAO_b3 (Lt.blk hB2) hnb1; have hE37 := hE7.step hw36 (dD (Or.inl rfl)); refine aD (aZ (cG rfl ?_))
   exact eK hBDw1 (by rw [oK hg (by omega), show t.kind = 13 by omega]; rfl) hE37 hN1
  refine aE (aB (aC rfl (bF rfl rfl) ?_)); refine aM (aD (aA (bI rfl (fun hc34 => ?_) (fun hc34 => ?_))))
  ·skip
   refine aB (aG (aC rfl (aF rfl eP) (aC rfl (aI rfl cJ (aK hB2 rfl)) ?_))); refine aN (vs := [_, _]) EB rfl (BN hG hE8 hub huo hF9 (by omega) (hn.lit1 (by omega)) (hn.lit2 (by omega))) rfl ?_; rintro _ w40 ⟨obw1, hBDw1, hw41, hnb1⟩; have hV9 := hE7; have hV90 := hE8; have hN1 := dC (Or.inl rfl) hnb1 hV9.size; have hU1 := dT huo hV90.size hnb1; have hAO1_b3 := fK hAO_b3 (Lt.blk hB2) hnb1; have hE42 := hE7.step hw41 (dD (Or.inl rfl)); refine aD (aZ (cG rfl ?_))
   exact eK hBDw1 (by rw [oK hg (by omega), show t.kind = 2 by omega]; rfl) hE42 hN1
  refine aE (aB (aC rfl (bF rfl rfl) ?_)); refine aM (aD (aA (bI rfl (fun hc40 => ?_) (fun hc40 => ?_))))
  ·skip
   refine aB (aG (aC rfl (aF rfl dZ) (aC rfl (aI rfl fA (aK hB2 rfl)) ?_))); refine aN (vs := [_, _]) EA rfl (xE hG hE8 hub huo hF9 hrg (RangesOk.b (hn.cls (by omega))) (by omega)) rfl ?_; rintro _ w45 ⟨obw1, hBDw1, hw46, hnb1⟩; have hV9 := hE7; have hV90 := hE8; have hN1 := dC (Or.inl rfl) hnb1 hV9.size; have hU1 := dT huo hV90.size hnb1; have hAO1_b3 := fK hAO_b3 (Lt.blk hB2) hnb1; have hE47 := hE7.step hw46 (dD (Or.inl rfl)); refine aD (aZ (cG rfl ?_))
   exact eK hBDw1 (by rw [oK hg (by omega), show t.kind = 3 by omega]; rfl) hE47 hN1
  refine aE (aB (aC rfl (bF rfl rfl) ?_)); refine aM (aD (aA (bI rfl (fun hc46 => ?_) (fun hc46 => ?_))))
  ·skip
   refine aE (aB (aC rfl (aF rfl cP) (aC rfl (aI rfl dF (aK hB2 rfl)) (aC rfl (bQ rfl Tryz.underlying25 rfl) ?_)))); refine aG (aD (aA (bT ?_))); refine eR (α := WcG) (⟨0, ob⟩) (fun x => [(51, .int .i64 (x.k : Nat))]) [(0, _), (3, _), (49, _), (50, _)] (fun x wr => Evo (b :: ob.toList) w wr ∧ (x.k ≤ t.kids.length ∧ WkI w0 w wr b b3 _ (l ++ gJ t.kind true (t.kids.take x.k)) ob x.o)) (fun x => t.kids.length - x.k) ⟨rfl, trivial⟩ ⟨rfl, rfl, rfl, rfl, trivial⟩ ⟨hE7, ⟨Nat.zero_le _, by simpa [gJ] using hF9, hE8, Or.inl rfl, huo, hB2, hAO_b3⟩⟩ ?_; rintro ⟨k, o1⟩ wr50 ⟨hV51, ⟨hkj, hBDl, hE0l, hNl, hUl, hB3l, hA3l⟩⟩; show CW _ _ _ _ [(51, .int .i64 (k : Nat)), (0, _), (3, _), (49, _), (50, _)] _
   try dsimp only at hkj
   try dsimp only at hBDl
   try dsimp only at hE0l
   try dsimp only at hNl
   try dsimp only at hUl
   try dsimp only at hB3l
   try dsimp only at hA3l
   refine aE (aB (aC rfl (dH rfl rfl) ?_)); refine aD (aA (aE (bI rfl (fun hc52 => ?_) (fun hc52 => ?_))))
   ·skip
    have hj' : k < t.kids.length := by omega
    obtain ⟨b1, o1', vs1, ha1, hb1, hvl1, hc1, hrk⟩ := e1 k hj'; obtain ⟨m1, ra1, rc1, ka1, kc1, rfl, rfl, -⟩ := id hrk.get; have hkt := rX hj'; have hkl := MP (l := t.kids) (k + 1); have hwl := lQ (t.kids.take k) t.kind true (fun k hk => hg.kid k (List.mem_of_mem_take hk)); refine aW (aA (aE (bT (aE (aB (aG ?_))))))
    refine aC rfl (gP (n := k) (by rw [ha1]; rfl) rfl eB (by omega)) ?_
    refine aC rfl (eL rfl bV bE (vs := [_, _, _, _, _, _, _, _, _]) rfl (hc1.evo hE0l (by simp))) ?_; refine dG rfl eI fun b5 w52 hB53 hs54 hw55 => ?_; have hsz_b5 := hs54; have hA56 := Apart.new (Lt.blk hB3l) hs54; have hG57 := Ge.new hV51 hs54; have hG58 := Ge.new hE0l hs54; have hE59 := hV51.then hw55; have hE60 := hE0l.then hw55; have hF61 := hBDl.evo0 hw55; have hB62 := hw55.blk0 hB3l
    have hAJ_b5 : Apart (some b5) (some b) := (Apart.new (fun g hg => by cases hg; exact hBDl.lt) hsz_b5).symm
    have hAO_b5 : Apart (some b5) o1 := (Apart.new hBDl.ltO hsz_b5).symm; refine aM (bN rfl rfl bE hB53 rfl rfl ⟨rfl, rfl, rfl, rfl, rfl, rfl, rfl, rfl, rfl, trivial⟩ fun w63 hB64 hw65 => ?_); have hE66 := hE59.step hw65 hG57.mem1; have hE67 := hE60.step hw65 hG58.mem1; have hF68 := hF61.evo hw65 (hAJ_b5).symm.nmem1 (hAO_b5).symm.own1; have hB69 := hw65.blk hB62 hA56.nmem1
    try simp only [cU, Nat.reduceAdd] at hB64
    refine aD (aA (aE (aE (aB (aG (aC rfl (fV rfl rfl) ?_)))))); refine aD (aA (bI rfl (fun hc57 => ?_) (fun hc57 => ?_)))
    ·skip
     refine aB (aG ?_)
     refine aN (vs := [_, _]) cA rfl (cY hF68 (m := [124]) (by decide +kernel) (cE (by decide +kernel)) (by first | omega | simp only [List.length_append, List.length_cons, List.length_nil]; omega) (by decide)) rfl ?_
     rintro _ w70 ⟨obw1, hBDw1, hw71, hnb1⟩; have hV9 := hE66; have hV90 := hE67; have hN1 := dC hNl hnb1 hV9.size; have hU1 := dT hUl hV90.size hnb1; have hAO1_b3 := fK hA3l (Lt.blk hB69) hnb1; have hAO1_b5 := fK hAO_b5 (Lt.blk hB64) hnb1; have hE72 := hE66.step hw71 (dD hNl); have hE73 := hE67.step hw71 (gX hub hUl); have hB74 := hw71.blk hB69 (mB hAJ_b3 hA3l); have hB75 := hw71.blk hB64 (mB hAJ_b5 hAO_b5); refine aD (aA (aB (aG (aC rfl (cF rfl bV bE hB75 rfl) (aC rfl (aF rfl eH) (aC rfl (aI rfl bD (aK hB74 rfl)) ?_))))))
     refine aN (vs := [_, _, _]) nP rfl (lM (k := t.kind) ih hG hE73 hub hU1 hBDw1 hrk (hg.kid _ (List.getElem_mem hj')) (by simp only [List.length_append, List.length_cons, List.length_nil]; omega)) rfl ?_
     rintro _ w76 ⟨obw2, hBDw2, hw77, hnb2⟩; have hV9 := hE72; have hV90 := hE73; have hN2 := dC hN1 hnb2 hV9.size; have hU2 := dT hU1 hV90.size hnb2; have hAO2_b3 := fK hAO1_b3 (Lt.blk hB74) hnb2; have hE78 := hE72.step hw77 (dD hN1); have hE79 := hE73.step hw77 (gX hub hU1); have hB80 := hw77.blk hB74 (mB hAJ_b3 hAO1_b3); refine aD (aZ (aA (aB ?_))); refine aC rfl (bC rfl rfl (by omega) (by omega)) ?_; refine aG (aD (bY ?_)); refine ⟨⟨k + 1, obw2⟩, ?_, ⟨rfl, trivial⟩, ⟨rfl, rfl, rfl, rfl, trivial⟩, hE78, ?_⟩
     · (try dsimp only); omega
     try dsimp only
     refine ⟨by omega, ?_, hE79, hN2, hU2, hB80, hAO2_b3⟩; have hfin := hBDw2
     rw [mY hj', wV, if_pos ⟨by omega, decide_eq_false (by omega)⟩]; simpa [List.append_assoc] using hfin
    refine aW (aA (aB (aG (aC rfl (cF rfl bV bE hB64 rfl) (aC rfl (aF rfl eH) (aC rfl (aI rfl bD (aK hB69 rfl)) ?_))))))
    refine aN (vs := [_, _, _]) nP rfl (lM (k := t.kind) ih hG hE67 hub hUl hF68 hrk (hg.kid _ (List.getElem_mem hj')) (by simp only [List.length_append, List.length_cons, List.length_nil]; omega)) rfl ?_
    rintro _ w82 ⟨obw1, hBDw1, hw83, hnb1⟩; have hV9 := hE66; have hV90 := hE67; have hN1 := dC hNl hnb1 hV9.size; have hU1 := dT hUl hV90.size hnb1; have hAO1_b3 := fK hA3l (Lt.blk hB69) hnb1; have hAO1_b5 := fK hAO_b5 (Lt.blk hB64) hnb1; have hE84 := hE66.step hw83 (dD hNl); have hE85 := hE67.step hw83 (gX hub hUl); have hB86 := hw83.blk hB69 (mB hAJ_b3 hA3l); refine aD (aZ (aA (aB ?_))); refine aC rfl (bC rfl rfl (by omega) (by omega)) ?_; refine aG (aD (bY ?_)); refine ⟨⟨k + 1, obw1⟩, ?_, ⟨rfl, trivial⟩, ⟨rfl, rfl, rfl, rfl, trivial⟩, hE84, ?_⟩
    · (try dsimp only); omega
    try dsimp only
    refine ⟨by omega, ?_, hE85, hN1, hU1, hB86, hAO1_b3⟩; have hfin := hBDw1
    rw [mY hj', wV, if_neg (fun h9 => by have h8 := of_decide_eq_false h9.2; omega)]; simpa [List.append_assoc] using hfin
   refine dV (cB (cB (dU (aZ (cG rfl ?_))))); exact eK hBDl (by rw [KD (t := t) (by omega), List.take_of_length_le (by omega)]) hV51 hNl
  refine aE (aB (aC rfl (bF rfl rfl) ?_)); refine aM (aD (aA (bI rfl (fun hc66 => ?_) (fun hc66 => ?_))))
  ·skip
   refine aE (aB (aC rfl (aF rfl cP) (aC rfl (aI rfl dF (aK hB2 rfl)) (aC rfl (bQ rfl Tryz.underlying25 rfl) ?_)))); refine aG (aD (aA (bT ?_))); refine eR (α := WcG) (⟨0, ob⟩) (fun x => [(71, .int .i64 (x.k : Nat))]) [(0, _), (3, _), (69, _), (70, _)] (fun x wr => Evo (b :: ob.toList) w wr ∧ (x.k ≤ t.kids.length ∧ WkI w0 w wr b b3 _ (l ++ gJ t.kind true (t.kids.take x.k)) ob x.o)) (fun x => t.kids.length - x.k) ⟨rfl, trivial⟩ ⟨rfl, rfl, rfl, rfl, trivial⟩ ⟨hE7, ⟨Nat.zero_le _, by simpa [gJ] using hF9, hE8, Or.inl rfl, huo, hB2, hAO_b3⟩⟩ ?_; rintro ⟨k, o1⟩ wr88 ⟨hV89, ⟨hkj, hBDl, hE0l, hNl, hUl, hB3l, hA3l⟩⟩; show CW _ _ _ _ [(71, .int .i64 (k : Nat)), (0, _), (3, _), (69, _), (70, _)] _
   try dsimp only at hkj
   try dsimp only at hBDl
   try dsimp only at hE0l
   try dsimp only at hNl
   try dsimp only at hUl
   try dsimp only at hB3l
   try dsimp only at hA3l
   refine aE (aB (aC rfl (dH rfl rfl) ?_)); refine aD (aA (aE (bI rfl (fun hc72 => ?_) (fun hc72 => ?_))))
   ·skip
    have hj' : k < t.kids.length := by omega
    obtain ⟨b1, o1', vs1, ha1, hb1, hvl1, hc1, hrk⟩ := e1 k hj'; obtain ⟨m1, ra1, rc1, ka1, kc1, rfl, rfl, -⟩ := id hrk.get; have hkt := rX hj'; have hkl := MP (l := t.kids) (k + 1); have hwl := lQ (t.kids.take k) t.kind true (fun k hk => hg.kid k (List.mem_of_mem_take hk)); refine aW (aA (aE (bT (aE (aB ?_)))))
    refine aC rfl (gP (n := k) (by rw [ha1]; rfl) rfl eB (by omega)) ?_
    refine aC rfl (eL rfl bV bE (vs := [_, _, _, _, _, _, _, _, _]) rfl (hc1.evo hE0l (by simp))) ?_; refine dG rfl eI fun b7 w90 hB91 hs92 hw93 => ?_; have hsz_b7 := hs92; have hA94 := Apart.new (Lt.blk hB3l) hs92; have hG95 := Ge.new hV89 hs92; have hG96 := Ge.new hE0l hs92; have hE97 := hV89.then hw93; have hE98 := hE0l.then hw93; have hF99 := hBDl.evo0 hw93; have hB100 := hw93.blk0 hB3l
    have hAJ_b7 : Apart (some b7) (some b) := (Apart.new (fun g hg => by cases hg; exact hBDl.lt) hsz_b7).symm
    have hAO_b7 : Apart (some b7) o1 := (Apart.new hBDl.ltO hsz_b7).symm; refine bN rfl rfl bE hB91 rfl rfl ⟨rfl, rfl, rfl, rfl, rfl, rfl, rfl, rfl, rfl, trivial⟩ fun w101 hB102 hw103 => ?_; have hE104 := hE97.step hw103 hG95.mem1; have hE105 := hE98.step hw103 hG96.mem1; have hF106 := hF99.evo hw103 (hAJ_b7).symm.nmem1 (hAO_b7).symm.own1; have hB107 := hw103.blk hB100 hA94.nmem1
    try simp only [cU, Nat.reduceAdd] at hB102
    refine aD (aA (aB (aG (aC rfl (cF rfl bV bE hB102 rfl) (aC rfl (aF rfl eH) (aC rfl (aI rfl bD (aK hB107 rfl)) ?_))))))
    refine aN (vs := [_, _, _]) nP rfl (lM (k := t.kind) ih hG hE105 hub hUl hF106 hrk (hg.kid _ (List.getElem_mem hj')) (by simp only [List.length_append, List.length_cons, List.length_nil]; omega)) rfl ?_
    rintro _ w108 ⟨obw1, hBDw1, hw109, hnb1⟩; have hV9 := hE104; have hV90 := hE105; have hN1 := dC hNl hnb1 hV9.size; have hU1 := dT hUl hV90.size hnb1; have hAO1_b3 := fK hA3l (Lt.blk hB107) hnb1; have hE110 := hE104.step hw109 (dD hNl); have hE111 := hE105.step hw109 (gX hub hUl); have hB112 := hw109.blk hB107 (mB hAJ_b3 hA3l); refine aD (aZ (aA (aB ?_))); refine aC rfl (bC rfl rfl (by omega) (by omega)) ?_; refine aG (aD (bY ?_)); refine ⟨⟨k + 1, obw1⟩, ?_, ⟨rfl, trivial⟩, ⟨rfl, rfl, rfl, rfl, trivial⟩, hE110, ?_⟩
    · (try dsimp only); omega
    try dsimp only
    refine ⟨by omega, ?_, hE111, hN1, hU1, hB112, hAO1_b3⟩; have hfin := hBDw1
    rw [mY hj', wV, if_neg (fun h9 => by omega)]; simpa [List.append_assoc] using hfin
   refine dV (cB (cB (dU (aZ (cG rfl ?_))))); exact eK hBDl (by rw [KD (t := t) (by omega), List.take_of_length_le (by omega)]) hV89 hNl
  refine aE (aB (aC rfl (bF rfl rfl) ?_)); refine aM (aD (aA (bI rfl (fun hc81 => ?_) (fun hc81 => ?_))))
  ·skip
   have hl1 : t.kids.length = 1 := by have h1 := hn.rep4; have h2 := hn.grp; omega
   have hj' : 0 < t.kids.length := by omega
   obtain ⟨b1, o1', vs1, ha1, hb1, hvl1, hc1, hrk⟩ := e1 0 hj'; obtain ⟨m1, ra1, rc1, ka1, kc1, rfl, rfl, -⟩ := id hrk.get
   have hkw : gJ t.kind true t.kids = brW (Brk t.kids[0].kind t.kind) t.kids[0].w := by have h1 := mY (k := t.kind) (l := t.kids) hj'; rw [List.take_of_length_le (by omega), List.take_zero, gJ, List.nil_append] at h1; rw [h1]; simp [wV]
   have hms1 : kms t.kids = t.kids[0].ms := by have h1 := rX hj'; rw [List.take_of_length_le (by omega), List.take_zero, kms, Nat.zero_add] at h1; exact h1
   refine aE ?_; refine jB (fun w0 w' => Evo (b :: ob.toList) w0 w') (by kernel_rfl) (fun w114 hw115 => ?_); have hE116 := hE7.then hw115; have hE117 := hE8.then hw115; have hF118 := hF9.evo0 hw115; have hB119 := hw115.blk0 hB2; refine bG 0 rfl (by kernel_rfl) (by kernel_rfl) (by kernel_rfl) rfl (fun _ hS => bS rfl) (Evo.refl (b :: ob.toList) w114) ?_; refine bG 1 rfl (by kernel_rfl) (by kernel_rfl) (by kernel_rfl) rfl (fun _ hS => aF rfl cP) (Evo.refl (b :: ob.toList) w114) ?_; refine bG 2 rfl (by kernel_rfl) (by kernel_rfl) (by kernel_rfl) rfl (fun _ hS => aI rfl dF (aK (hS.blk hB119 (mB hAJ_b3 hAO_b3)) rfl)) (Evo.refl (b :: ob.toList) w114) ?_
   refine bG 3 rfl (by kernel_rfl) (by kernel_rfl) (by kernel_rfl) rfl (fun _ hS => gB (n := 0) (by rw [ha1]; rfl) rfl rfl eB (by omega)) (Evo.refl (b :: ob.toList) w114) ?_
   refine bG 4 rfl (by kernel_rfl) (by kernel_rfl) (by kernel_rfl) rfl (fun _ hS => eL rfl bV bE (vs := [_, _, _, _, _, _, _, _, _]) rfl (hc1.evo (hE117.step hS (gX hub huo)) (by simp))) (Evo.refl (b :: ob.toList) w114) ?_; refine bG 5 rfl (by kernel_rfl) (by kernel_rfl) (by kernel_rfl) rfl (fun _ hS => aF rfl eH) (Evo.refl (b :: ob.toList) w114) ?_; refine bG 6 rfl (by kernel_rfl) (by kernel_rfl) (by kernel_rfl) rfl (fun _ hS => aI rfl bD (aK (hS.blk hB119 (mB hAJ_b3 hAO_b3)) rfl)) (Evo.refl (b :: ob.toList) w114) ?_; refine cT [7] (by kernel_rfl) rfl ⟨?_, trivial⟩; refine cZ rfl ?_; refine aN (vs := [_, _, _]) nP rfl (lM (k := t.kind) ih hG hE117 hub huo hF118 hrk (hg.kid _ (List.getElem_mem hj')) (by omega)) rfl ?_; rintro _ w120 ⟨obw1, hBDw1, hw121, hnb1⟩; have hV9 := hE116; have hV90 := hE117; have hN1 := dC (Or.inl rfl) hnb1 hV9.size; have hU1 := dT huo hV90.size hnb1; have hAO1_b3 := fK hAO_b3 (Lt.blk hB119) hnb1; have hE122 := hE116.step hw121 (dD (Or.inl rfl)); have hE123 := hE117.step hw121 (gX hub huo); have hE124 := (Evo.refl (b :: ob.toList) w114).step hw121 (fun y hy => .inl hy); have hB125 := hw121.blk hB119 (mB hAJ_b3 hAO_b3); refine aD (cL (.inl hE124) ?_); refine fL (by kernel_rfl) (aA ?_); refine aE (aB (aG (aC rfl (aF rfl dN) (aC rfl (aI rfl bD (aK hB125 rfl)) (aC rfl (aF rfl dM) (aC rfl (aI rfl bD (aK hB125 rfl)) ?_))))))
   refine aN (vs := [_, _, _]) DZ rfl (xD hG hE123 hub hU1 hBDw1 (by rw [← hkw]; have h8 := lQ t.kids t.kind true (fun k hk => hg.kid k hk); simp only [List.length_append]; omega) (hn.rep1 (by omega)) (hn.rep2 (by omega)) (hn.rep3 (by omega))) rfl ?_
   rintro _ w126 ⟨obw2, hBDw2, hw127, hnb2⟩; have hV9 := hE122; have hV90 := hE123; have hN2 := dC hN1 hnb2 hV9.size; have hU2 := dT hU1 hV90.size hnb2; have hAO2_b3 := fK hAO1_b3 (Lt.blk hB125) hnb2; have hE128 := hE122.step hw127 (dD hN1); have hE129 := hE123.step hw127 (gX hub hU1); have hB130 := hw127.blk hB125 (mB hAJ_b3 hAO1_b3); refine aD (aA (aE (aB (aC rfl (aF rfl eG) (aC rfl (aI rfl eC (aK hB130 rfl)) (aD (aA (gC rfl (fun hc98 => ?_) (fun hc98 => ?_)))))))))
   ·skip
    refine aB (aG ?_)
    refine aN (vs := [_, _]) cA rfl (cY hBDw2 (m := [63]) (by decide +kernel) (cE (by decide +kernel)) (by rw [← hkw]; have h8 := lQ t.kids t.kind true (fun k hk => hg.kid k hk); have h7 := BR (hn.rep1 (by omega)) (hn.rep2 (by omega)) (hn.rep3 (by omega)); simp only [List.length_append]; omega) (by decide)) rfl ?_
    rintro _ w131 ⟨obw3, hBDw3, hw132, hnb3⟩; have hV9 := hE128; have hV90 := hE129; have hN3 := dC hN2 hnb3 hV9.size; have hU3 := dT hU2 hV90.size hnb3; have hAO3_b3 := fK hAO2_b3 (Lt.blk hB130) hnb3; have hE133 := hE128.step hw132 (dD hN2); refine aD (aZ (cG rfl ?_))
    exact eK hBDw3 (by rw [w_rep (t := t) (by omega), hkw, if_pos hc98]; simp) hE133 hN3
   refine aW (aZ (cG rfl ?_))
   exact eK hBDw2 (by rw [w_rep (t := t) (by omega), hkw, if_neg (by rw [hc98]; simp)]; simp) hE128 hN2
  refine aE (aB (aC rfl (bF rfl rfl) ?_)); refine aM (aD (aA (bI rfl (fun hc101 => ?_) (fun hc101 => ?_))))
  ·skip
   have hl1 : t.kids.length = 1 := by have h1 := hn.rep4; have h2 := hn.grp; omega
   have hj' : 0 < t.kids.length := by omega
   obtain ⟨b1, o1', vs1, ha1, hb1, hvl1, hc1, hrk⟩ := e1 0 hj'; obtain ⟨m1, ra1, rc1, ka1, kc1, rfl, rfl, -⟩ := id hrk.get
   have hkw : gJ t.kind true t.kids = brW (Brk t.kids[0].kind t.kind) t.kids[0].w := by have h1 := mY (k := t.kind) (l := t.kids) hj'; rw [List.take_of_length_le (by omega), List.take_zero, gJ, List.nil_append] at h1; rw [h1]; simp [wV]
   have hms1 : kms t.kids = t.kids[0].ms := by have h1 := rX hj'; rw [List.take_of_length_le (by omega), List.take_zero, kms, Nat.zero_add] at h1; exact h1
   have hkw7 := hkw
   rw [brW, if_neg (show ¬ Brk t.kids[0].kind t.kind by unfold Brk; omega)] at hkw7
   have hnl := HB t.name; refine aE (aB (aG ?_))
   refine aN (vs := [_, _]) cA rfl (cY hF9 (m := [40]) (by decide +kernel) (cE (by decide +kernel)) (by first | omega | simp only [List.length_append, List.length_cons, List.length_nil]; omega) (by decide)) rfl ?_
   rintro _ w136 ⟨obw1, hBDw1, hw137, hnb1⟩; have hV9 := hE7; have hV90 := hE8; have hN1 := dC (Or.inl rfl) hnb1 hV9.size; have hU1 := dT huo hV90.size hnb1; have hAO1_b3 := fK hAO_b3 (Lt.blk hB2) hnb1; have hE138 := hE7.step hw137 (dD (Or.inl rfl)); have hE139 := hE8.step hw137 (gX hub huo); have hB140 := hw137.blk hB2 (mB hAJ_b3 hAO_b3); refine aD (aA (aE (aE (aB (aC rfl (aF rfl eF) (aC rfl (aI rfl cO (aK hB140 rfl)) (aC rfl (sC rfl rfl) ?_))))))); refine aD (aA (bI rfl (fun hc107 => ?_) (fun hc107 => ?_)))
   ·skip
    refine aB (aG (aC rfl (aF rfl eF) (aC rfl (aI rfl cO (aK hB140 rfl)) ?_)))
    refine aC rfl (cS rfl rfl (by show 3 + _ ≤ _; omega)) ?_
    refine aC rfl (cS rfl rfl (by rw [ByteArray.size_append]; show 3 + _ + 1 ≤ _; omega)) ?_
    refine aN (vs := [_, _]) cA rfl (cY hBDw1 (m := [63, 80, 60] ++ nmL t.name ++ [62]) (by rw [← bap, ← bap, MF]; rfl) (((cE (by decide +kernel)).app (KH _)).app (cE (by decide +kernel))) (by simp only [List.length_append, List.length_cons, List.length_nil]; omega) (by simp only [List.length_append, List.length_cons, List.length_nil]; omega)) rfl ?_
    rintro _ w141 ⟨obw2, hBDw2, hw142, hnb2⟩; have hV9 := hE138; have hV90 := hE139; have hN2 := dC hN1 hnb2 hV9.size; have hU2 := dT hU1 hV90.size hnb2; have hAO2_b3 := fK hAO1_b3 (Lt.blk hB140) hnb2; have hE143 := hE138.step hw142 (dD hN1); have hE144 := hE139.step hw142 (gX hub hU1); have hB145 := hw142.blk hB140 (mB hAJ_b3 hAO1_b3); refine aD (aA (aE (aB (aG (aC rfl (aF rfl cP) (aC rfl (aI rfl dF (aK hB145 rfl)) ?_))))))
    refine aC rfl (gB (n := 0) (by rw [ha1]; rfl) rfl rfl eB (by omega)) ?_
    refine aC rfl (eL rfl bV bE (vs := [_, _, _, _, _, _, _, _, _]) rfl (hc1.evo hE144 (by simp))) ?_
    refine aN (vs := [_, _]) kR rfl (ih hG hE144 hub hU2 hBDw2 hrk (hg.kid _ (List.getElem_mem hj')) (by simp only [List.length_append, List.length_cons, List.length_nil]; omega)) rfl ?_
    rintro _ w146 ⟨obw3, hBDw3, hw147, hnb3⟩; have hV9 := hE143; have hV90 := hE144; have hN3 := dC hN2 hnb3 hV9.size; have hU3 := dT hU2 hV90.size hnb3; have hAO3_b3 := fK hAO2_b3 (Lt.blk hB145) hnb3; have hE148 := hE143.step hw147 (dD hN2); have hE149 := hE144.step hw147 (gX hub hU2); refine aD (aA (aB (aG ?_)))
    refine aN (vs := [_, _]) cA rfl (cY hBDw3 (m := [41]) (by decide +kernel) (cE (by decide +kernel)) (by have h8 := lQ t.kids t.kind true (fun k hk => hg.kid k hk); rw [hkw7] at h8; simp only [List.length_append, List.length_cons, List.length_nil]; omega) (by decide)) rfl ?_
    rintro _ w151 ⟨obw4, hBDw4, hw152, hnb4⟩; have hV9 := hE148; have hV90 := hE149; have hN4 := dC hN3 hnb4 hV9.size; have hE153 := hE148.step hw152 (dD hN3); refine aD (aZ (cG rfl ?_))
    exact eK hBDw4 (by rw [w_grp (t := t) (by omega), hkw7, if_neg (fun h9 => hc107 h9)]; simp) hE153 hN4
   refine aW (aA (aE (aB (aG (aC rfl (aF rfl cP) (aC rfl (aI rfl dF (aK hB140 rfl)) ?_))))))
   refine aC rfl (gB (n := 0) (by rw [ha1]; rfl) rfl rfl eB (by omega)) ?_
   refine aC rfl (eL rfl bV bE (vs := [_, _, _, _, _, _, _, _, _]) rfl (hc1.evo hE139 (by simp))) ?_
   refine aN (vs := [_, _]) kR rfl (ih hG hE139 hub hU1 hBDw1 hrk (hg.kid _ (List.getElem_mem hj')) (by simp only [List.length_append, List.length_cons, List.length_nil]; omega)) rfl ?_
   rintro _ w156 ⟨obw2, hBDw2, hw157, hnb2⟩; have hV9 := hE138; have hV90 := hE139; have hN2 := dC hN1 hnb2 hV9.size; have hU2 := dT hU1 hV90.size hnb2; have hAO2_b3 := fK hAO1_b3 (Lt.blk hB140) hnb2; have hE158 := hE138.step hw157 (dD hN1); have hE159 := hE139.step hw157 (gX hub hU1); have hB160 := hw157.blk hB140 (mB hAJ_b3 hAO1_b3); refine aD (aA (aB (aG ?_)))
   refine aN (vs := [_, _]) cA rfl (cY hBDw2 (m := [41]) (by decide +kernel) (cE (by decide +kernel)) (by have h8 := lQ t.kids t.kind true (fun k hk => hg.kid k hk); rw [hkw7] at h8; simp only [List.length_append, List.length_cons, List.length_nil]; omega) (by decide)) rfl ?_
   rintro _ w161 ⟨obw3, hBDw3, hw162, hnb3⟩; have hV9 := hE158; have hV90 := hE159; have hN3 := dC hN2 hnb3 hV9.size; have hU3 := dT hU2 hV90.size hnb3; have hAO3_b3 := fK hAO2_b3 (Lt.blk hB160) hnb3; have hE163 := hE158.step hw162 (dD hN2); refine aD (aZ (cG rfl ?_))
   exact eK hBDw3 (by rw [w_grp (t := t) (by omega), hkw7, if_pos (Classical.not_not.1 hc107)]; simp) hE163 hN3
  refine aW (aZ (cG rfl ?_))
  exact eK hF9 (by rw [oK hg (by omega), show t.kind = 1 by have := hn.kind1; have := hn.kind2; omega]; simp [zA]) hE7 (Or.inl rfl)
theorem xR (n : Nat) : WOK n := by
  induction n with
  | zero => unfold WOK; intro w0 w b l ob vs t _ _ _ _ _ hx; exact hx.elim
  | succ n ih => unfold WOK; intro w0 w b l ob vs t hG hE0 hub huo h hx hg hl; exact EP ih hG hE0 hub huo h hx hg hl
end Go.Proofs.YtljadkcojnlioaaGreatDoor
namespace Go.Proofs.YtljadkcojnlioaaGreatDoor
open Go.Proofs Go.W Go.RowKit
mutual
def Rx.ln : Rx → Bool
  | .mk k r rs mn mx lz cp nm ks => decide (k = 10 ∨ k = 11) || lns ks
def lns : List Rx → Bool
  | [] => false
  | x :: xs => x.ln || lns xs
end
theorem Rx.ln_eq (x : Rx) : x.ln = (decide (x.kind = 10 ∨ x.kind = 11) || lns x.kids) := by cases x; rw [Rx.ln]; rfl
theorem MN {l : List Rx} {j : Nat} (hj : j < l.length) : lns (l.take (j + 1)) = (lns (l.take j) || l[j].ln) := by
  induction l generalizing j with
  | nil => cases hj
  | cons x l ih => cases j with
    | zero => simp [lns]
    | succ j => simp only [List.take_succ_cons, lns, List.getElem_cons_succ, ih (by simpa using hj), Bool.or_assoc]
theorem lns_yes {l : List Rx} {j : Nat} (hj : j < l.length) (h : l[j].ln = true) : lns l = true := by
  induction l generalizing j with
  | nil => cases hj
  | cons x l ih => cases j with
    | zero => rw [lns]; simp at h; simp [h]
    | succ j => rw [lns, ih (by simpa using hj) (by simpa using h)]; simp
def sY (t : Rx) : List Nat := (if t.ln = true then [40, 63, 109, 41] else []) ++ t.w
def ShowIs (t : Rx) (s : List Nat) (e : Int) : Prop := (¬ t.Ok ∧ s = [] ∧ e = 2) ∨ (t.Ok ∧ ((4096 < (sY t).length ∧ s = [] ∧ e = 1) ∨ ((sY t).length ≤ 4096 ∧ s = sY t ∧ e = 0)))
theorem ShowIs.uniq {t : Rx} {s s' : List Nat} {e e' : Int} (h : ShowIs t s e) (k : ShowIs t s' e') : s = s' ∧ e = e' := by
  rcases h with ⟨h1, rfl, rfl⟩ | ⟨h1, ⟨h2, rfl, rfl⟩ | ⟨h2, rfl, rfl⟩⟩ <;> rcases k with ⟨k1, rfl, rfl⟩ | ⟨k1, ⟨k2, rfl, rfl⟩ | ⟨k2, rfl, rfl⟩⟩ <;> first | exact ⟨rfl, rfl⟩ | exact absurd k1 h1 | exact absurd h1 k1 | omega
theorem yD : ∀ {l : List Rx}, (∀ x, x ∈ l → Lo x.w) → ∀ (k : Int) (f : Bool), Lo (gJ k f l)
  | [], _, k, f => by rw [gJ]; intro b hb; cases hb
  | x :: xs, h, k, f => by
    rw [gJ]
    refine (Lo.app ?_ ?_).app (yD (fun y hy => h y (List.mem_cons_of_mem _ hy)) k false)
    · unfold wV; split
      · exact cE (by decide +kernel)
      · intro b hb; cases hb
    · unfold brW; split
      · exact ((cE (by decide +kernel)).app (h x (List.mem_cons_self ..))).app (cE (by decide +kernel))
      · exact h x (List.mem_cons_self ..)
theorem timW_lo (lo hi : Int) : Lo (jO lo hi) := by
  have h1 := vE lo.toNat
  have h2 := vE hi.toNat
  unfold jO
  split
  · exact cE (by decide +kernel)
  · split
    · exact cE (by decide +kernel)
    · split
      · exact cE (by decide +kernel)
      · split
        · exact ((cE (by decide +kernel)).app h1).app (cE (by decide +kernel))
        · split
          · exact ((cE (by decide +kernel)).app h1).app (cE (by decide +kernel))
          · exact ((((cE (by decide +kernel)).app h1).app (cE (by decide +kernel))).app h2).app (cE (by decide +kernel))
theorem KY : ∀ {l : List (Int × Int)}, RgB l → Lo (l.flatMap tB)
  | [], _ => by intro b hb; cases hb
  | g :: l, h => by
    obtain ⟨h1, h2, h3⟩ := h g (List.mem_cons_self ..)
    rw [List.flatMap_cons]
    exact (GP h1 h2 h3).2.app (KY fun g hg => h g (List.mem_cons_of_mem _ hg))
theorem clsW_lo {l : List (Int × Int)} (h : RgB l) : Lo (xJ l) := by
  unfold xJ
  split
  · exact cE (by decide +kernel)
  · exact ((cE (by decide +kernel)).app (KY h)).app (cE (by decide +kernel))
theorem JL {x : Rx} (hg : Good x) : Lo x.w := by
  induction hg with
  | @mk x h1 h2 h3 ih =>
    have hn := (bJ _).1 h1
    rw [Rx.w_eq]
    refine (Lo.app ?_ (yD ih _ _)).app ?_
    · unfold zA
      split
      · exact (HE (hn.lit1 (by assumption)) (hn.lit2 (by assumption))).2
      · split
        · exact clsW_lo (RangesOk.b (hn.cls (by assumption)))
        · split
          · refine Lo.app (cE (by decide +kernel)) ?_
            split
            · intro b hb; cases hb
            · exact ((cE (by decide +kernel)).app (KH _)).app (cE (by decide +kernel))
          · split
            · exact cE (by decide +kernel)
            · split
              · exact cE (by decide +kernel)
              · split
                · exact cE (by decide +kernel)
                · split
                  · exact cE (by decide +kernel)
                  · split
                    · exact cE (by decide +kernel)
                    · split
                      · exact cE (by decide +kernel)
                      · intro b hb; cases hb
    · unfold yU
      split
      · refine (timW_lo _ _).app ?_
        split
        · exact cE (by decide +kernel)
        · intro b hb; cases hb
      · split
        · exact cE (by decide +kernel)
        · intro b hb; cases hb
theorem GM {t : Rx} (hg : Good t) : Lo (sY t) := by
  unfold sY
  refine Lo.app ?_ (JL hg)
  split
  · exact cE (by decide +kernel)
  · intro b hb; cases hb
end Go.Proofs.YtljadkcojnlioaaGreatDoor
namespace Go.Proofs.YtljadkcojnlioaaGreatDoor
open Go.Proofs
open Go.W Go.RowKit
attribute [local irreducible] Decidable.decide
theorem qE : eT Tryz.prog 24 := ⟨_, Tryz.func24, by kernel_rfl, by kernel_rfl⟩
theorem qC : eT Tryz.prog 43 := ⟨_, Tryz.func43, by kernel_rfl, by kernel_rfl⟩
theorem uI : eT Tryz.prog 51 := ⟨_, Tryz.func51, by kernel_rfl, by kernel_rfl⟩
theorem uD : nF Tryz.prog 80 = some #[.pointer none, .slice none 0 0] := by kernel_rfl
theorem FM {n : Nat} (ih : ∀ {w : World} {vs : List Value} {t : Rx} (hx : RRx n [] w vs t), Calls Tryz.prog 48 #[.agg vs.toArray] w (Ret fun v w' => v = .bool t.ln ∧ Evo [] w w')) {w : World} {vs : List Value} {t : Rx} (hx : RRx (n + 1) [] w vs t) :
    Calls Tryz.prog 48 #[.agg vs.toArray] w (Ret fun v w' => v = .bool t.ln ∧ Evo [] w w') := by
  have hx0 := hx; obtain ⟨m, ra, rc, ka, kc, hm, rfl, hrg, hk, bl1, bl2, bl3⟩ := hx.get
  obtain rfl : m = n := by omega
  obtain ⟨_, _, hke, hkc, e1⟩ := hk; cases hke; refine bO (N := 23) Tryz.func48 rfl rfl rfl ?_; refine aE (aB (kT rfl rfl fun b1x w1 hB2 hs3 hw4 => ?_)); have hsz_b1x := hs3; have hE6 := (Evo.refl [] w).then hw4; refine aM (aD (aA (aE (aE (aB (aC rfl (aF rfl eH) (aC rfl (aI rfl bD (aK hB2 rfl)) (aC rfl (bF rfl rfl) ?_)))))))); refine aG (aX (t := 8) rfl (fun hs8 => ?_) (fun hs8 => ?_))
  ·skip
   refine aH (aH (aH (bL (aD (aA (dA rfl ?_)))))); refine aE (aB (aM (aD (aA (aO (aP (aJ rfl rfl ?_)))))))
   exact ⟨by rw [Rx.ln_eq, decide_eq_true (by omega)]; rfl, hE6⟩
  refine aR (aC rfl (aF rfl eH) (aR (aC rfl (aI rfl bD (aK hB2 rfl)) (aR (aC rfl (bF rfl rfl) ?_))))); refine aU (aD (aA (bI rfl (fun hc12 => ?_) (fun hc12 => ?_))))
  ·skip
   refine aE (aB (aM (aD (aA (aO (aP (aJ rfl rfl ?_)))))))
   exact ⟨by rw [Rx.ln_eq, decide_eq_true (by omega)]; rfl, hE6⟩
  refine aW (aA (aE (aE (aB (aC rfl (aF rfl cP) (aC rfl (aI rfl dF (aK hB2 rfl)) (aC rfl (bQ rfl Tryz.underlying25 rfl) ?_))))))); refine aG (aD (aA (bT (eR (α := Nat) (0) (fun k => [(16, .int .i64 (k : Nat))]) [(14, _), (15, _)] (fun k wr => Evo [] w1 wr ∧ (k ≤ t.kids.length ∧ lns (t.kids.take k) = false)) (fun k => t.kids.length - k) ⟨rfl, trivial⟩ ⟨rfl, rfl, trivial⟩ ⟨Evo.refl _ _, ⟨Nat.zero_le _, rfl⟩⟩ ?_)))); rintro k wr7 ⟨hV8, ⟨hk0, hln⟩⟩; show CW _ _ _ _ [(16, _), (14, _), (15, _)] _; have hE9 := hE6.then hV8; refine aE (aB (aC rfl (dH rfl rfl) ?_)); refine aD (aA (aE (bI rfl (fun hc17 => ?_) (fun hc17 => ?_))))
  ·skip
   have hj' : k < t.kids.length := by omega
   obtain ⟨b1, o1', vs1, ha1, hb1, hvl1, hc1, hrk⟩ := e1 k hj'; obtain ⟨m1, ra1, rc1, ka1, kc1, rfl, rfl, -⟩ := id hrk.get; refine aW (aA (aE (bT (aE (aB ?_)))))
   refine aC rfl (gP (n := k) (by rw [ha1]; rfl) rfl eB (by omega)) ?_
   refine aC rfl (eL rfl bV bE (vs := [_, _, _, _, _, _, _, _, _]) rfl (hc1.evo hE9 hb1)) ?_; refine dG rfl eI fun b4 w11 hB12 hs13 hw14 => ?_; have hsz_b4 := hs13; have hG16 := Ge.new hE9 hs13; have hG17 := Ge.new hV8 hs13; have hE18 := hE9.then hw14; have hE19 := hV8.then hw14; refine bN rfl rfl bE hB12 rfl rfl ⟨rfl, rfl, rfl, rfl, rfl, rfl, rfl, rfl, rfl, trivial⟩ fun w21 hB22 hw23 => ?_; have hE24 := hE18.step hw23 hG16.mem1; have hE25 := hE19.step hw23 hG17.mem1
   try simp only [cU, Nat.reduceAdd] at hB22
   refine aD (aA (aE (aB (aC rfl (cF rfl bV bE hB22 rfl) (aN (vs := [_]) uJ rfl (ih (RRx.pers _ _ _ _ _ _ hE24 hrk)) rfl ?_))))); rintro _ w27 ⟨rfl, hw28⟩; have hE29 := hE24.then hw28; have hE30 := hE25.then hw28; refine aD (aA (gC rfl (fun hc21 => ?_) (fun hc21 => ?_)))
   ·skip
    refine aE (aB (aM (aD (aA (aO (aY (aP (aP (aY (aP (aJ rfl rfl ?_))))))))))); exact ⟨by rw [Rx.ln_eq, lns_yes hj' hc21, Bool.or_true], hE29⟩
   refine aW (aZ (aA (aB ?_))); refine aC rfl (bC rfl rfl (by omega) (by omega)) ?_; refine aG (aD (bY ?_)); refine ⟨k + 1, ?_, ⟨rfl, trivial⟩, ⟨rfl, rfl, trivial⟩, hE30, ?_⟩
   · omega
   exact ⟨by omega, by rw [MN hj', hln, hc21]; rfl⟩
  refine dV (cB (cB (dU (aA ?_)))); refine aE (aB (aM (aD (aA (aO (aJ rfl rfl ?_)))))); rw [List.take_of_length_le (by omega)] at hln
  exact ⟨by rw [Rx.ln_eq, hln, decide_eq_false (by omega)]; rfl, hE9⟩
theorem CL : ∀ {n : Nat} {w : World} {vs : List Value} {t : Rx} (hx : RRx n [] w vs t), Calls Tryz.prog 48 #[.agg vs.toArray] w (Ret fun v w' => v = .bool t.ln ∧ Evo [] w w')
  | 0, w, vs, t, hx => hx.elim
  | n + 1, w, vs, t, hx => FM (n := n) (fun hx => CL hx) hx
theorem Show_ok {n : Nat} {w : World} {vs : List Value} {t : Rx} (hG : Gw w) (hx : RRx n [] w vs t) (hms : t.ms ≤ 60000000) :
    Calls Tryz.prog 19 #[.agg vs.toArray] w (Ret fun v w' => ∃ s e, ShowIs t s e ∧ v = .tuple #[.string (bstr s), iv e] ∧ Evo [] w w') := by
  have hx0 := hx; obtain ⟨m, ra, rc, ka, kc, hm, rfl, hrg, hk, bl1, bl2, bl3⟩ := hx.get; refine bO (N := 16) Tryz.func19 rfl rfl rfl ?_; refine aE (aB (kT rfl rfl fun b1x w1 hB2 hs3 hw4 => ?_)); have hsz_b1x := hs3; have hE6 := (Evo.refl [] w).then hw4; refine aM (aM (aD (aA (aE (aE (aB (aC rfl (cF rfl bV bE hB2 rfl) (aN (vs := [_]) qE rfl (vH (RRx.pers _ _ _ _ _ _ hE6 hx0)) rfl ?_)))))))); rintro _ w7 ⟨r, rfl, hvr, hw8⟩; have hE9 := hE6.then hw8; have hB10 := hw8.blk0 hB2; refine aC rfl (eU rfl) ?_; refine aD (aA (gC rfl (fun hc7 => ?_) (fun hc7 => ?_)))
  ·skip
   refine aE (aB (aM (aM (aD (aA (aO (aP (cW rfl rfl rfl ?_)))))))); exact ⟨[], 2, .inl ⟨fun h => (by simp [hvr.2 h] at hc7), rfl, rfl⟩, rfl, hE9⟩
  refine aW (aA (aE (aB ?_))); have hVs := hE9; have hok : t.Ok := hvr.1 (by simpa using hc7); have hgd := hok.good; have hwl := GI t hgd; have hxa := RRx.pers _ _ _ _ _ _ hVs hx0; have hGa := hG.evo0 hVs; refine dG rfl uD fun bb w11 hB12 hs13 hw14 => ?_; have hsz_bb := hs13; have hA15 := Apart.new (Lt.blk hB10) hs13; have hE18 := hE9.then hw14; have hE19 := (Evo.refl [] w7).then hw14; have hB20 := hw14.blk0 hB10; have hub := Nat.le_of_eq hsz_bb; refine aD (aA (aE (aE (aB (aC rfl (cF rfl bV bE hB20 rfl) (aN (vs := [_]) uJ rfl (CL (RRx.pers _ _ _ _ _ _ hE18 hx0)) rfl ?_)))))); rintro _ w21 ⟨rfl, hw22⟩; have hE23 := hE18.then hw22; have hE24 := hE19.then hw22; have hB25 := hw22.blk0 hB20; have hF26 := (BdN.new hB12).evo0 hw22; refine aD (aA (gC rfl (fun hc9 => ?_) (fun hc9 => ?_)))
  ·skip
   refine aB ?_; refine aN (vs := [_, _]) cA rfl (cY hF26 (m := [40, 63, 109, 41]) (by decide +kernel) (cE (by decide +kernel)) (Nat.zero_le _) (by decide)) rfl ?_; rintro _ w27 ⟨obw1, hBDw1, hw28, hnb1⟩; have hV90 := hE24; have hV91 := hE23; have hU1 := dT (Ge.nil _) hV90.size hnb1; have hAO1 := fK (Apart.nil _) (Lt.blk hB25) hnb1; have hE29 := hE23.step hw28 (fun y hy => (gX hub (Ge.nil _) y hy).imp id (fun h9 => Nat.le_trans hVs.size h9)); have hE30 := hE24.step hw28 (gX hub (Ge.nil _)); have hB31 := hw28.blk hB25 (mB hA15 (Apart.nil _)); refine aD (aA (aE ?_))
   have hln9 : ([] ++ [40, 63, 109, 41] ++ t.w : List Nat) = sY t := by rw [sY, if_pos hc9]; rfl
   refine aB (aC rfl (cF rfl bV bE hB31 rfl) ?_)
   refine aN (vs := [_, _]) kR rfl (xR _ hGa hE30 hub hU1 hBDw1 hxa hgd (by first | (show 0 + t.ms ≤ _; omega) | (show ([40, 63, 109, 41] : List Nat).length + t.ms ≤ _; simp; omega))) rfl ?_
   rintro _ w32 ⟨obw2, hBDw2, hw33, hnb2⟩; have hV90 := hE30; have hV91 := hE29; have hU2 := dT hU1 hV90.size hnb2; have hE34 := hE29.step hw33 (fun y hy => (gX hub hU1 y hy).imp id (fun h9 => Nat.le_trans hVs.size h9)); have hE35 := hE30.step hw33 (gX hub hU1); refine aD (aA (aE (aE (aB (aN (vs := [_]) uI rfl (IE hBDw2) rfl ?_))))); rintro _ w37 ⟨rfl, hw38⟩; have hE39 := hE34.then hw38; have hE40 := hE35.then hw38; have hF42 := hBDw2.evo0 hw38; refine aC rfl (fV rfl rfl) ?_; refine aD (aA (bI rfl (fun hc14 => ?_) (fun hc14 => ?_)))
   ·skip
    refine aE (aB (aM (aM (aD (aA (aO (aP (cW rfl rfl rfl ?_)))))))); refine ⟨[], 1, .inr ⟨hok, .inl ⟨?_, rfl, rfl⟩⟩, rfl, hE39⟩
    rw [hln9] at hc14; omega
   refine aW (aA (aE (aB ?_)))
   refine aN (vs := [_]) qC rfl (rM hF42 (by rw [hln9]; exact GM hgd) (fun g hg => by have h9 := hU2 g hg; omega)) rfl ?_
   rintro _ w43 ⟨rfl, hw44⟩; have hle9 := hE40.size; have hE45 := hE39.step hw44 (fun y hy => .inr (Nat.le_trans hVs.size (Nat.le_trans hub (zG.1 hy).2))); refine aM (aM (aD (aA (aO (cW rfl rfl rfl ?_))))); refine ⟨sY t, 0, .inr ⟨hok, .inr ⟨?_, rfl, rfl⟩⟩, (by rw [hln9]), hE45⟩
   rw [hln9] at hc14; omega
  refine aW (aA (aE ?_))
  have hln9 : ([] ++ t.w : List Nat) = sY t := by rw [sY, if_neg (by rw [hc9]; simp)]
  refine aB (aC rfl (cF rfl bV bE hB25 rfl) ?_)
  refine aN (vs := [_, _]) kR rfl (xR _ hGa hE24 hub (Ge.nil _) hF26 hxa hgd (by first | (show 0 + t.ms ≤ _; omega) | (show ([40, 63, 109, 41] : List Nat).length + t.ms ≤ _; simp; omega))) rfl ?_
  rintro _ w46 ⟨obw1, hBDw1, hw47, hnb1⟩; have hV90 := hE24; have hV91 := hE23; have hU1 := dT (Ge.nil _) hV90.size hnb1; have hAO1 := fK (Apart.nil _) (Lt.blk hB25) hnb1; have hE48 := hE23.step hw47 (fun y hy => (gX hub (Ge.nil _) y hy).imp id (fun h9 => Nat.le_trans hVs.size h9)); have hE49 := hE24.step hw47 (gX hub (Ge.nil _)); refine aD (aA (aE (aE (aB (aN (vs := [_]) uI rfl (IE hBDw1) rfl ?_))))); rintro _ w51 ⟨rfl, hw52⟩; have hE53 := hE48.then hw52; have hE54 := hE49.then hw52; have hF56 := hBDw1.evo0 hw52; refine aC rfl (fV rfl rfl) ?_; refine aD (aA (bI rfl (fun hc14 => ?_) (fun hc14 => ?_)))
  ·skip
   refine aE (aB (aM (aM (aD (aA (aO (aP (cW rfl rfl rfl ?_)))))))); refine ⟨[], 1, .inr ⟨hok, .inl ⟨?_, rfl, rfl⟩⟩, rfl, hE53⟩
   rw [hln9] at hc14; omega
  refine aW (aA (aE (aB ?_)))
  refine aN (vs := [_]) qC rfl (rM hF56 (by rw [hln9]; exact GM hgd) (fun g hg => by have h9 := hU1 g hg; omega)) rfl ?_
  rintro _ w57 ⟨rfl, hw58⟩; have hle9 := hE54.size; have hE59 := hE53.step hw58 (fun y hy => .inr (Nat.le_trans hVs.size (Nat.le_trans hub (zG.1 hy).2))); refine aM (aM (aD (aA (aO (cW rfl rfl rfl ?_))))); refine ⟨sY t, 0, .inr ⟨hok, .inr ⟨?_, rfl, rfl⟩⟩, (by rw [hln9]), hE59⟩
  rw [hln9] at hc14; omega
end Go.Proofs.YtljadkcojnlioaaGreatDoor
namespace Go.Proofs.YtljadkcojnlioaaGreatDoor
open Go.Proofs
open Go.W Go.RowKit
attribute [local irreducible] Decidable.decide
structure CAt (w : World) (jb : Nat) (nodes caps : Nat) (ns : List ByteArray) (a : Option Addr) (c : Nat) (ob : Option Nat) : Prop where
  blk : w.heap[jb]? = some (.cells #[iv (nodes : Nat), iv (caps : Nat), .slice a ns.length c] 97 (0, 0))
  own : OwnS w 9 1 a ns.length c (ns.map sv) ob
  ne : ∀ g, ob = some g → g ≠ jb
end Go.Proofs.YtljadkcojnlioaaGreatDoor
namespace Go.Proofs.YtljadkcojnlioaaGreatDoor
open Go.Proofs
open Go.W Go.RowKit
attribute [local irreducible] Decidable.decide
theorem Brk.int (a k b : Int) : ∃ z, z = b + (if Brk a k then 1 else 0) := ⟨_, rfl⟩
theorem CAt.new {w : World} {jb : Nat} (h : w.heap[jb]? = some (.cells #[iv 0, iv 0, .slice none 0 0] 97 (0, 0))) : CAt w jb 0 0 [] none 0 none := ⟨h, OwnS.nil _ _ _, fun g hg => by cases hg⟩
end Go.Proofs.YtljadkcojnlioaaGreatDoor
namespace Go.Proofs.YtljadkcojnlioaaGreatDoor
open Go.Proofs
open Go.W Go.RowKit
attribute [local irreducible] Decidable.decide
theorem EF : eT Tryz.prog 44 := ⟨_, Tryz.func44, by kernel_rfl, by kernel_rfl⟩
theorem BS : spec.length = 14 := rfl
theorem spec_sb : ∀ k, k < 14 → sb (ByteArray.mk #[92, 46, 43, 42, 63, 40, 41, 124, 91, 93, 123, 125, 94, 36]) k = spec.getD k 0 := by decide +kernel
theorem KK {k : Nat} (h : k < 14) : spec.getD k 0 ∈ spec := by
  rw [List.getD_eq_getElem?_getD, List.getElem?_eq_getElem (by rw [BS]; exact h)]
  exact List.getElem_mem _
theorem KO {n : Nat} (h : ∀ k, k < 14 → spec.getD k 0 ≠ n) : n ∉ spec := fun hm => by
  obtain ⟨k, hk, e⟩ := List.getElem_of_mem hm
  refine h k (by rw [BS] at hk; exact hk) ?_
  rw [List.getD_eq_getElem?_getD, List.getElem?_eq_getElem hk, e]
  rfl
theorem ES {w : World} (n : Nat) (hn : n ≤ 1114111) : Calls Tryz.prog 44 #[.int .i32 (n : Nat)] w (Ret fun v w' => v = .bool (decide (n ∈ spec)) ∧ Evo [] w w') := by
  refine bO (N := 17) Tryz.func44 rfl rfl rfl ?_; refine aE (aB (aM (aD (aA (aE (aB (aM (aD (aA (aE (aE (aB (aM (aD (aA (bT ?_)))))))))))))))); refine eR (α := Nat) (0) (fun k => [(4, .int .i64 (k : Nat))]) [(0, _), (3, _)] (fun k wr => Evo [] w wr ∧ (k ≤ 14 ∧ ∀ j, j < k → spec.getD j 0 ≠ n)) (fun k => 14 - k) ⟨rfl, trivial⟩ ⟨rfl, rfl, trivial⟩ ⟨Evo.refl _ _, ⟨Nat.zero_le _, fun j h => by cases h⟩⟩ ?_; rintro k wr1 ⟨hV2, ⟨hk0, hno⟩⟩; show CW _ _ _ _ [(4, _), (0, _), (3, _)] _; have hE3 := (Evo.refl [] w).then hV2; refine aE (aE (aB (aG (aG (aC rfl (cI rfl Tryz.underlying9 rfl) ?_))))); refine aC rfl (dH rfl rfl) ?_; refine aD (aA (bI rfl (fun hc8 => ?_) (fun hc8 => ?_)))
  ·skip
   have hk' : k < 14 := by have h9 : ((k : Nat) : Int) < ((14 : Nat) : Int) := hc8; omega
   have hsb := spec_sb k hk'; refine aW (aA (aE (bT (aE (aB (aG (aG ?_)))))))
   refine aC rfl (fC (n := k) rfl rfl Tryz.underlying9 rfl (by show k < 14; exact hk')) ?_
   refine aC rfl (fP (sb (ByteArray.mk #[92, 46, 43, 42, 63, 40, 41, 124, 91, 93, 123, 125, 94, 36]) k) rfl Tryz.underlying5 Tryz.underlying21 rfl (by have := gO (ByteArray.mk #[92, 46, 43, 42, 63, 40, 41, 124, 91, 93, 123, 125, 94, 36]) k; show _ ≤ (2147483647 : Int); omega)) ?_
   refine aG (aC rfl (bF rfl rfl) ?_); refine aD (aA (bI rfl (fun hc16 => ?_) (fun hc16 => ?_)))
   ·skip
    refine aE (aB (aM (aD (aA (aO (aY (aP (aP (aY (aP (aJ rfl rfl ?_)))))))))))
    have e9 : spec.getD k 0 = n := by rw [← hsb]; omega
    exact ⟨congrArg Value.bool (decide_eq_true (e9 ▸ KK hk')).symm, hE3⟩
   refine aW (aZ (aA (aB (aG ?_)))); refine aC rfl (bC rfl rfl (by omega) (by omega)) ?_; refine aM (aD (bY ?_)); refine ⟨k + 1, ?_, ⟨rfl, trivial⟩, ⟨rfl, rfl, trivial⟩, hV2, ?_⟩
   · omega
   refine ⟨by omega, fun j hj => ?_⟩
   by_cases e : j < k
   · exact hno j e
   · obtain rfl : j = k := by omega
     rw [← hsb]; omega
  have hk' : 14 ≤ k := by have h9 : ¬ ((k : Nat) : Int) < ((14 : Nat) : Int) := hc8; omega
  refine dV (cB (cB (dU (aA ?_)))); refine aE (aB (aM (aD (aA (aO (aJ rfl rfl ?_)))))); exact ⟨congrArg Value.bool (decide_eq_false (KO fun j hj => hno j (by omega))).symm, hE3⟩
end Go.Proofs.YtljadkcojnlioaaGreatDoor
namespace Go.Proofs.YtljadkcojnlioaaGreatDoor
open Go.Proofs
open Go.W Go.RowKit
attribute [local irreducible] Decidable.decide
end Go.Proofs.YtljadkcojnlioaaGreatDoor
namespace Go.Proofs.YtljadkcojnlioaaGreatDoor
open Go.Proofs
open Go.W Go.RowKit
attribute [local irreducible] Decidable.decide
theorem qD : eT Tryz.prog 42 := ⟨_, Tryz.func42, by kernel_rfl, by kernel_rfl⟩
def qc (c : Nat) : List Nat := if c ∈ spec then [92, c] else [c]
def qK (s : ByteArray) : Nat → List Nat
  | 0 => []
  | k + 1 => qK s k ++ qc (sb s k)
theorem vN (s : ByteArray) : ∀ k, (qK s k).length ≤ 2 * k
  | 0 => by simp [qK]
  | k + 1 => by have := vN s k; rw [qK, List.length_append]; unfold qc; split <;> simp <;> omega
theorem qK_lo (s : ByteArray) : ∀ k, Lo (qK s k)
  | 0 => fun b hb => by cases hb
  | k + 1 => by
    have h1 := gO s k
    rw [qK]
    refine (qK_lo s k).app ?_
    unfold qc
    split
    · intro b hb; simp at hb; omega
    · intro b hb; simp at hb; omega
theorem IQ : ∀ m, m < 256 → (0 ≤ Lib.indexByte (ByteArray.mk #[92, 46, 43, 42, 63, 40, 41, 124, 91, 93, 123, 125, 94, 36]).data.toList (UInt8.ofNat m) ↔ m ∈ spec) := by decide +kernel
theorem IR {w : World} (m : Nat) (hm : m < 256) : Calls Tryz.prog 41 #[.string (ByteArray.mk #[92, 46, 43, 42, 63, 40, 41, 124, 91, 93, 123, 125, 94, 36]), .int .u8 (m : Nat)] w (Ret fun v w' => ∃ z, v = .int .i64 z ∧ (0 ≤ z ↔ m ∈ spec) ∧ Evo [] w w') := by
  refine (jM _ _ w).mono ?_
  rintro e w' ⟨rfl, rfl⟩
  refine ⟨_, rfl, _, rfl, ?_, Evo.refl _ _⟩
  rw [← IQ m hm]
  simp
structure QgG where
  k : Nat
  o : Option Nat
theorem EO {w : World} (s : ByteArray) (hs : s.size ≤ 30000000) :
    Calls Tryz.prog 14 #[.string s] w (Ret fun v w' => v = .string (bstr (qK s s.size)) ∧ Evo [] w w') := by
  refine bO (N := 22) Tryz.func14 rfl rfl rfl ?_; refine aE (aB (aM (aD (aA (aE (aB (dG rfl uD fun bb w1 hB2 hs3 hw4 => ?_))))))); have hsz_bb := hs3; have hE6 := (Evo.refl [] w).then hw4; have hub := Nat.le_of_eq hsz_bb; refine aD (aA (aE (aE (aB (aG (aC rfl (cI rfl Tryz.underlying9 rfl) ?_)))))); refine aG (aD (aA (bT (eR (α := QgG) (⟨0, none⟩) (fun x => [(7, .int .i64 (x.k : Nat))]) [(0, _), (2, _), (3, _), (6, _)] (fun x wr => Evo [] w wr ∧ (x.k ≤ s.size ∧ BdN wr bb (qK s x.k) x.o ∧ Ge w x.o)) (fun x => s.size - x.k) ⟨rfl, trivial⟩ ⟨rfl, rfl, rfl, rfl, trivial⟩ ⟨hE6, ⟨Nat.zero_le _, (BdN.new hB2), Ge.nil _⟩⟩ ?_)))); rintro ⟨k, o⟩ wr7 ⟨hV8, ⟨hk, hBDl, hul⟩⟩; show CW _ _ _ _ [(7, .int .i64 (k : Nat)), (0, _), (2, _), (3, _), (6, _)] _
  try dsimp only at hk
  try dsimp only at hBDl
  try dsimp only at hul
  refine aE (aB (aC rfl (dH rfl rfl) ?_)); refine aD (aA (aE (bI rfl (fun hc8 => ?_) (fun hc8 => ?_))))
  ·skip
   have hk' : k < s.size := by omega
   refine aW (aA (aE (bT (aE (aB (aG (aM (aD (aA (aE (aE (aB (aG (aG (aC rfl (fC (n := k) rfl rfl Tryz.underlying9 rfl hk') ?_))))))))))))))); refine aN (vs := [_, _]) nR rfl (IR (sb s k) (gO s k)) rfl ?_; rintro _ w9 ⟨z, rfl, hz, hw10⟩; have hE11 := hV8.then hw10; have hF12 := hBDl.evo0 hw10; refine aC rfl (fU rfl rfl) ?_; refine aD (aA (bI rfl (fun hc14 => ?_) (fun hc14 => ?_)))
   ·skip
    refine aB ?_
    refine aN (vs := [_, _]) qD rfl (oJ 92 hF12 (by have h9 := vN s k; omega)) rfl ?_
    rintro _ w13 ⟨obw1, hBDw1, hw14, hnb1⟩; have hV91 := hE11; have hU1 := dT hul hV91.size hnb1; have hE15 := hE11.step hw14 (gX hub hul); refine aD (aA (aB (aG (aG (aC rfl (fC (n := k) rfl rfl Tryz.underlying9 rfl hk') ?_)))))
    refine aN (vs := [_, _]) qD rfl (oJ (sb s k) hBDw1 (by have h9 := vN s k; first | omega | (rw [List.length_append]; simp; omega))) rfl ?_
    rintro _ w16 ⟨obw2, hBDw2, hw17, hnb2⟩; have hV91 := hE15; have hU2 := dT hU1 hV91.size hnb2; have hE18 := hE15.step hw17 (gX hub hU1); refine aD (aZ (aA (aB ?_))); refine aC rfl (bC rfl rfl (by omega) (by omega)) ?_; refine aG (aD (bY ?_)); refine ⟨⟨k + 1, obw2⟩, ?_, ⟨rfl, trivial⟩, ⟨rfl, rfl, rfl, rfl, trivial⟩, hE18, ?_⟩
    · (try dsimp only); omega
    try dsimp only
    have hfin := hBDw2; refine ⟨by omega, ?_, hU2⟩
    rw [qK, qc, if_pos (hz.1 (by omega))]; simpa [List.append_assoc] using hfin
   refine aW (aA (aB (aG (aG (aC rfl (fC (n := k) rfl rfl Tryz.underlying9 rfl hk') ?_)))))
   refine aN (vs := [_, _]) qD rfl (oJ (sb s k) hF12 (by have h9 := vN s k; first | omega | (rw [List.length_append]; simp; omega))) rfl ?_
   rintro _ w19 ⟨obw1, hBDw1, hw20, hnb1⟩; have hV91 := hE11; have hU1 := dT hul hV91.size hnb1; have hE21 := hE11.step hw20 (gX hub hul); refine aD (aZ (aA (aB ?_))); refine aC rfl (bC rfl rfl (by omega) (by omega)) ?_; refine aG (aD (bY ?_)); refine ⟨⟨k + 1, obw1⟩, ?_, ⟨rfl, trivial⟩, ⟨rfl, rfl, rfl, rfl, trivial⟩, hE21, ?_⟩
   · (try dsimp only); omega
   try dsimp only
   have hfin := hBDw1; refine ⟨by omega, ?_, hU1⟩
   rw [qK, qc, if_neg (fun h9 => by have := hz.2 h9; omega)]; simpa [List.append_assoc] using hfin
  obtain rfl : k = s.size := by omega
  refine dV (cB (cB (dU (aA ?_)))); refine aE (aB ?_)
  refine aN (vs := [_]) qC rfl (rM hBDl (qK_lo s _) (fun g hg => by have h9 := hul g hg; omega)) rfl ?_
  rintro _ w22 ⟨rfl, hw23⟩; have hE24 := hV8.step hw23 (fun y hy => .inr (Nat.le_trans hub (zG.1 hy).2)); refine aM (aD (aA (aO (aJ rfl rfl ?_)))); exact ⟨rfl, hE24⟩
end Go.Proofs.YtljadkcojnlioaaGreatDoor
namespace Go.Proofs.YtljadkcojnlioaaGreatDoor
open Go.Proofs Go.W Go.RowKit
abbrev flz : Fl := ⟨false, false, false, false⟩
theorem rI {f : Fl} {c : Int} (hf : f.fold = false) (h0 : 0 ≤ c) (h1 : c ≤ 1114111) : mA f c = iU c := by
  rw [mA, if_neg (by rw [hf]; simp)]
  exact CH (m := [(c, c)]) (JT h0 h1) rfl rfl
theorem ME {a b : Int} (h0 : 0 ≤ a) (h1 : a < b) (h2 : b ≤ 1114111) {S : Int → Prop} (hS : ∀ c, S c ↔ a ≤ c ∧ c ≤ b) : lD S = jT [(a, b)] :=
  vV (sF (wP h0 (by omega) h2) fun c => by rw [kI, hS]) fun _ => by show ¬ a = b; omega
abbrev aL : List Nat := [97, 124, 91, 99, 45, 101, 93, 43, 63]
def aS : ByteArray := ByteArray.mk #[97, 124, 91, 99, 45, 101, 93, 43, 63]
def aT : Rx := tX 5 [iU 97, kV 1 (-1) true (jT [(99, 101)])]
theorem aS_size : aS.size = 9 := rfl
theorem OM : ∀ k, k < aS.size → sb aS k < 128 := by rw [aS_size]; decide +kernel
theorem nxA {k : Nat} (hk : k < 9) : cH aS k = (((sb aS k : Nat) : Int), 1) := zF hk (OM k hk)
theorem OL : lG aS flz 3 = .ok (jT [(99, 101)], 7) := by
  have h1 : lZ aS 3 = .ok (99, 4) := by rw [rU (by decide +kernel), nxA (by decide)]; exact congrArg Except.ok (Prod.ext (show ((sb aS 3 : Nat) : Int) = 99 by decide +kernel) rfl)
  have h2 : lZ aS 5 = .ok (101, 6) := by rw [rU (by decide +kernel), nxA (by decide)]; exact congrArg Except.ok (Prod.ext (show ((sb aS 5 : Nat) : Int) = 101 by decide +kernel) rfl)
  have h3 : jX aS 3 = .ok (rgS 99 101, 6) := by
    unfold jX
    rw [h1]
    simp only
    rw [if_pos (by decide +kernel), h2]
    simp only
    rw [if_neg (by decide)]
  have h4 : kN aS 3 = .ok (rgS 99 101, 6) := by
    unfold kN
    rw [if_neg (by decide +kernel)]
    unfold nT
    rw [if_neg (by decide +kernel), h3]
  have h5 : iI aS (aS.size + 1) true (fun _ => False) 3 = .ok (unS (fun _ => False) (rgS 99 101), 7) := by
    show iI aS 10 true (fun _ => False) 3 = _
    rw [iI, if_neg (by decide +kernel), if_neg (by decide), h4]
    simp only
    rw [iI, if_neg (by decide +kernel), if_pos (by decide +kernel)]
  unfold lG
  rw [if_neg (show ¬ isB aS 3 94 by decide +kernel), h5]
  simp only
  rw [if_neg (show ¬ isB aS 3 94 by decide +kernel), if_neg (by decide)]
  exact congrArg Except.ok (Prod.ext (ME (by decide) (by decide) (by decide) fun c => by unfold unS rgS; simp) rfl)
theorem OK : jG aS = .ok aT := by
  have e1 : jE aS (nU aS 249) (aS.size + 1) [] false st0 = .ok (iU 97, ⟨1, flz, 0, []⟩) := by
    show jE aS (nU aS 249) 10 [] false st0 = _
    rw [OI (c := 97) (by decide +kernel) (by decide), oV (st := gU st0 1) (.inr (.inl (by decide +kernel)))]
    show Except.ok (mA flz 97, _) = _
    rw [rI rfl (by decide) (by decide)]
    rfl
  have e2 : jE aS (nU aS 249) (aS.size + 1) [] false (adv ⟨1, flz, 0, []⟩ 1) = .ok (kV 1 (-1) true (jT [(99, 101)]), ⟨9, flz, 0, []⟩) := by
    show jE aS (nU aS 249) 10 [] false ⟨2, flz, 0, []⟩ = _
    rw [qQ (c := 91) (st := ⟨2, flz, 0, []⟩) (by decide +kernel) (by decide) (pc_cl (by decide +kernel) OL)]
    have hr : mD (aS.extract 7 aS.size) = (1, -1, 1) := by decide +kernel
    rw [AF (lo := 1) (hi := -1) (nn := 1) (st := gU ⟨2, flz, 0, []⟩ 7) (by decide +kernel) hr (by decide) (by decide) (by decide +kernel), oV (.inl (by decide +kernel))]
    rfl
  have e3 : nU aS 250 st0 = .ok (aT, ⟨9, flz, 0, []⟩) := by
    show nI aS (nU aS 249) st0 = _
    rw [FS (show qX aS (nU aS 249) st0 = _ from e1), IG (st := ⟨1, flz, 0, []⟩) (by decide +kernel) e2, wX (by decide +kernel)]
    rfl
  exact LH (by decide +kernel) ⟨_, GK OM⟩ e3 (by decide +kernel)
def oS : ByteArray := ByteArray.mk #[40]
theorem MY {s : ByteArray} {ex : PS → PX Rx} {st st2 : PS} {x : Rx} (h : isB s st.pos 40) (hq : ¬ isB s (st.pos + 1) 63) (ho : st.opn ≠ 250) (hl : ¬ JY emp st.names) (hx : ex ⟨st.pos + 1, st.now, st.opn + 1, st.names ++ [emp]⟩ = .ok (x, st2)) (hc : ¬ isB s st2.pos 41) : gH s ex st = .error 80 := by
  rw [br_open h, oF (vT (fun h2 => hq h2.2)) (by simp) ho (by simp) (fun h3 => hl h3.2)]
  show (match ex ⟨st.pos + 1, st.now, st.opn + 1, if true = true then st.names ++ [emp] else st.names⟩ with | .error e => _ | .ok (x, st2) => _) = _
  rw [if_pos rfl, hx]
  simp only
  rw [if_neg hc]
theorem MC : jG oS = .error 80 := by
  obtain ⟨ex, he⟩ := GX oS 249
  have e0 : nU oS 249 ⟨1, flz, 1, [emp]⟩ = .ok (rxK 1, ⟨1, flz, 1, [emp]⟩) := by
    rw [he]; exact DA (oV (.inl (by decide +kernel))) (by decide +kernel)
  have e1 : gH oS (nU oS 249) st0 = .error 80 := MY (st := st0) (st2 := ⟨1, flz, 1, [emp]⟩) (by decide +kernel) (by decide +kernel) (by decide) (fun h => h.elim (by decide) (fun h3 => h3.1 rfl)) e0 (by decide +kernel)
  have e2 : nU oS 250 st0 = .error 80 := by
    show nI oS (nU oS 249) st0 = _
    exact NJ (GC (c := 40) (by decide +kernel) (by decide) e1)
  exact LI (by decide +kernel) ⟨_, GK (by decide +kernel)⟩ e2
theorem np_lit {c : Int} (h0 : 0 ≤ c) (h1 : c ≤ 1114111) : NodeP (iU c) := ⟨by show (1 : Int) ≤ 2; decide, by show (2 : Int) ≤ 13; decide, .inl rfl, .inr rfl, .inr ⟨rfl, rfl, rfl⟩, .inr ⟨rfl, rfl⟩, fun _ => ⟨h0, h1⟩, fun h => absurd (show (2 : Int) = 3 from h) (by decide), fun h => absurd (show (2 : Int) = 4 ∨ (2 : Int) = 5 from h) (by decide), fun h => absurd (show (2 : Int) = 6 from h) (by decide), fun h => absurd (show (2 : Int) = 7 from h) (by decide), fun _ => rfl⟩
theorem np_cls {l : List (Int × Int)} (h : RangesOk l) : NodeP (jT l) := ⟨by show (1 : Int) ≤ 3; decide, by show (3 : Int) ≤ 13; decide, .inr rfl, .inl rfl, .inr ⟨rfl, rfl, rfl⟩, .inr ⟨rfl, rfl⟩, fun h => absurd (show (3 : Int) = 2 from h) (by decide), fun _ => h, fun h => absurd (show (3 : Int) = 4 ∨ (3 : Int) = 5 from h) (by decide), fun h => absurd (show (3 : Int) = 6 from h) (by decide), fun h => absurd (show (3 : Int) = 7 from h) (by decide), fun _ => rfl⟩
theorem np_row {k : Int} {l : List Rx} (hk : k = 4 ∨ k = 5) (hl : 2 ≤ l.length) : NodeP (tX k l) := ⟨by show (1 : Int) ≤ k; omega, by show k ≤ 13; omega, .inr rfl, .inr rfl, .inr ⟨rfl, rfl, rfl⟩, .inr ⟨rfl, rfl⟩, fun h => by have : k = 2 := h; omega, fun h => by have : k = 3 := h; omega, fun _ => hl, fun h => by have : k = 6 := h; omega, fun h => by have : k = 7 := h; omega, fun h => (h (by show k = 4 ∨ k = 5 ∨ k = 6 ∨ k = 7; omega)).elim⟩
theorem np_rep {lo hi : Int} {z : Bool} {x : Rx} (h0 : 0 ≤ lo) (h1 : lo ≤ 1000) (h2 : hi = -1 ∨ (lo ≤ hi ∧ hi ≤ 1000)) : NodeP (kV lo hi z x) := ⟨by show (1 : Int) ≤ 6; decide, by show (6 : Int) ≤ 13; decide, .inr rfl, .inr rfl, .inl rfl, .inr ⟨rfl, rfl⟩, fun h => absurd (show (6 : Int) = 2 from h) (by decide), fun h => absurd (show (6 : Int) = 3 from h) (by decide), fun h => absurd (show (6 : Int) = 4 ∨ (6 : Int) = 5 from h) (by decide), fun _ => ⟨h0, h1, h2, rfl⟩, fun h => absurd (show (6 : Int) = 7 from h) (by decide), fun h => (h (.inr (.inr (.inl rfl)))).elim⟩
theorem rok_one {a b : Int} (h0 : 0 ≤ a) (h1 : a < b) (h2 : b ≤ 1114111) : RangesOk [(a, b)] := by
  refine ⟨fun i hi => ?_, fun _ => by show a ≠ b; omega⟩
  have hi0 : i = 0 := by simpa using hi
  subst hi0
  exact ⟨h0, by show a ≤ b; omega, h2, fun j hj e => by omega⟩
theorem yM {x : Rx} {b : Int} {st : St} (hp : NodeP x) (hk : xC x.kind) (h7 : x.kind ≠ 7) (h1 : st.1 + 1 ≤ 8194) (hb : b ≤ 250) : x.fine b st = some (st.1 + 1, st.2) := by
  rw [pT ⟨h1, by rw [if_neg h7]; exact hb, hp, fun h => absurd h h7⟩, hp.leaf hk, fY, if_neg h7]
theorem aT_ok : aT.Ok := by
  have hl : ∀ b : Int, b ≤ 250 → ∀ st : St, st.1 + 1 ≤ 8194 → (iU 97).fine b st = some (st.1 + 1, st.2) := fun b hb st h => yM (np_lit (by decide) (by decide)) (by unfold xC; decide) (by decide) h hb
  have hc : ∀ b : Int, b ≤ 250 → ∀ st : St, st.1 + 1 ≤ 8194 → (jT [(99, 101)]).fine b st = some (st.1 + 1, st.2) := fun b hb st h => yM (np_cls (rok_one (by decide) (by decide) (by decide))) (by unfold xC; decide) (by decide) h hb
  refine ⟨(4, []), ?_⟩
  show (tX 5 [iU 97, kV 1 (-1) true (jT [(99, 101)])]).fine 0 (0, []) = _
  rw [pT ⟨by decide, by decide, np_row (.inr rfl) (by decide), fun h => absurd (show (5 : Int) = 7 from h) (by decide)⟩]
  show fY [iU 97, kV 1 (-1) true (jT [(99, 101)])] 5 0 (1, []) = _
  rw [fY, if_neg (show ¬ Brk (iU 97).kind 5 by decide), hl _ (by decide) _ (by decide)]
  simp only
  rw [fY, if_neg (show ¬ Brk (kV 1 (-1) true (jT [(99, 101)])).kind 5 by decide), pT ⟨by decide, by decide, np_rep (by decide) (by decide) (.inl rfl), fun h => absurd (show (6 : Int) = 7 from h) (by decide)⟩]
  show (match fY [jT [(99, 101)]] 6 0 (3, []) with | none => none | some st' => fY [] 5 0 st') = _
  rw [fY, if_neg (show ¬ Brk (jT [(99, 101)]).kind 6 by decide), hc _ (by decide) _ (by decide)]
  simp only
  rw [fY]
  simp only
  rw [fY]
theorem aT_txt : sY aT = aL := by
  have h1 : sD 99 = [99] := by rw [sD, if_pos (by decide), show (99 : Int) = ((99 : Nat) : Int) from rfl, kJ (by decide)]; rfl
  have h2 : sD 101 = [101] := by rw [sD, if_pos (by decide), show (101 : Int) = ((101 : Nat) : Int) from rfl, kJ (by decide)]; rfl
  have h3 : pQ 97 = [97] := by rw [pQ, if_neg (by decide), if_neg (by decide), show (97 : Int) = ((97 : Nat) : Int) from rfl, kJ (by decide)]; rfl
  have h4 : xJ [(99, 101)] = [91, 99, 45, 101, 93] := by rw [xJ, if_neg (by simp)]; simp [tB, h1, h2]
  have h5 : (iU 97).w = [97] := by rw [Rx.w_eq]; show pQ 97 ++ gJ 2 true [] ++ [] = _; rw [h3, gJ]; rfl
  have h6 : (jT [(99, 101)]).w = [91, 99, 45, 101, 93] := by rw [Rx.w_eq]; show xJ [(99, 101)] ++ gJ 3 true [] ++ [] = _; rw [h4, gJ]; rfl
  have h7 : (kV 1 (-1) true (jT [(99, 101)])).w = [91, 99, 45, 101, 93, 43, 63] := by
    rw [Rx.w_eq]
    show [] ++ gJ 6 true [jT [(99, 101)]] ++ ([43] ++ [63]) = _
    rw [gJ, gJ, h6]; rfl
  have h8 : aT.w = aL := by
    rw [Rx.w_eq]
    show [] ++ gJ 5 true [iU 97, kV 1 (-1) true (jT [(99, 101)])] ++ [] = _
    rw [gJ, gJ, gJ, h5, h7]; rfl
  have h9 : aT.ln = false := by
    rw [Rx.ln_eq]
    show (decide ((5 : Int) = 10 ∨ (5 : Int) = 11) || lns [iU 97, kV 1 (-1) true (jT [(99, 101)])]) = false
    rw [lns, lns, lns, Rx.ln_eq, Rx.ln_eq]
    show (_ || (decide ((2 : Int) = 10 ∨ (2 : Int) = 11) || lns [] || (decide ((6 : Int) = 10 ∨ (6 : Int) = 11) || lns [jT [(99, 101)]] || false))) = false
    rw [lns, lns, Rx.ln_eq]
    show (_ || (_ || false || (_ || (decide ((3 : Int) = 10 ∨ (3 : Int) = 11) || lns [] || lns []) || false))) = false
    rw [lns]; decide
  rw [sY, if_neg (by rw [h9]; simp), h8]; rfl
theorem zero_no {x : Rx} (h : x.kind = 0) : ¬ x.Ok := by
  rintro ⟨st, hs⟩
  rw [sA (fun h2 => by have := h2.2.2.1.kind1; omega)] at hs
  cases hs
theorem aT_show {s : List Nat} {e : Int} (h : ShowIs aT s e) : s = aL ∧ e = 0 := by
  have h2 : ShowIs aT aL 0 := .inr ⟨aT_ok, .inr ⟨by rw [aT_txt]; decide, aT_txt.symm, rfl⟩⟩
  exact h.uniq h2
theorem rrx_up : ∀ {n : Nat} {X : List Nat} {w : World} {vs : List Value} {x : Rx}, RRx n X w vs x → RRx (n + 1) X w vs x := by
  intro n
  induction n with
  | zero => intro X w vs x h; exact h.elim
  | succ n ih =>
    rintro X w vs x ⟨vr, vk, h1, h2, ⟨a, c, hv, hc, h3⟩, h4⟩
    exact ⟨vr, vk, h1, h2, ⟨a, c, hv, hc, fun k hk => by obtain ⟨b, o, us, ha, hb, hl, hcs, hr⟩ := h3 k hk; exact ⟨b, o, us, ha, hb, hl, hcs, ih hr⟩⟩, h4⟩
theorem KW {n m : Nat} {X : List Nat} {w : World} {vs : List Value} {x : Rx} (h : RRx n X w vs x) (hm : n ≤ m) : RRx m X w vs x := by
  induction hm with
  | refl => exact h
  | step _ ih => exact rrx_up ih
mutual
theorem OT.rrx : ∀ {x : Rx} {w : World} {vs : List Value} {bs X : List Nat}, OT x w vs bs → (∀ b, b ∈ bs → b ∉ X) → ∃ n, RRx n X w vs x
  | .mk k r rs mn mx lz cp nm ks, w, vs, bs, X, h, hX => by
    rw [OT] at h
    obtain ⟨ra, rc, rb, ka, kc, kb, cs, bk, h1, h2, h3, h4, rfl, h5, h6, h7⟩ := h
    obtain ⟨n, hn⟩ := OTs.rrx h4 (X := X) (fun b hb => hX b (List.mem_append_right _ (List.mem_append_right _ hb)))
    refine ⟨n + 1, _, _, h1, own_rrg h2 (fun g hg => hX g (by simp [hg])), ⟨ka, kc, rfl, h3.le, fun j hj => ?_⟩, by show rs.length ≤ _; omega, by show nm.size ≤ _; omega, by show ks.length ≤ _; omega⟩
    obtain ⟨us, hul, huc, hur⟩ := hn j hj
    have hj' : j < ks.length := hj
    obtain ⟨g, hg, ha, hc⟩ := h3.cells (by omega)
    refine ⟨g, 0, us, ha, hX g (by simp [hg]), hul, fun i v hi => ?_, hur⟩
    have := hc _ _ (huc i v hi)
    rw [← Nat.add_assoc] at this
    exact this
theorem OTs.rrx : ∀ {l : List Rx} {w : World} {cs : List Value} {bs X : List Nat}, OTs l w cs bs → (∀ b, b ∈ bs → b ∉ X) → ∃ n, ∀ k (hk : k < l.length), ∃ us, us.length = 9 ∧ (∀ j v, us[j]? = some v → cs[k * 9 + j]? = some v) ∧ RRx n X w us l[k]
  | [], w, cs, bs, X, h, hX => ⟨0, fun k hk => by cases hk⟩
  | x :: l, w, cs, bs, X, h, hX => by
    rw [OTs] at h
    obtain ⟨vs, cs', b1, b2, rfl, rfl, h3, h4⟩ := h
    obtain ⟨n1, hn1⟩ := OT.rrx h3 (X := X) (fun b hb => hX b (List.mem_append_left _ hb))
    obtain ⟨n2, hn2⟩ := OTs.rrx h4 (X := X) (fun b hb => hX b (List.mem_append_right _ hb))
    have hl9 : vs.length = 9 := by obtain ⟨ra, rc, ka, kc, rfl⟩ := h3.nine; rfl
    refine ⟨max n1 n2, fun k hk => ?_⟩
    cases k with
    | zero => exact ⟨vs, hl9, fun j v hj => by rw [Nat.zero_mul, Nat.zero_add, List.getElem?_append_left (List.getElem?_eq_some_iff.1 hj).1]; exact hj, KW hn1 (Nat.le_max_left _ _)⟩
    | succ k =>
      obtain ⟨us, hu1, hu2, hu3⟩ := hn2 k (by simpa using hk)
      refine ⟨us, hu1, fun j v hj => ?_, KW hu3 (Nat.le_max_right _ _)⟩
      rw [List.getElem?_append_right (by omega), show (k + 1) * 9 + j - vs.length = k * 9 + j by omega]
      exact hu2 j v hj
end
end Go.Proofs.YtljadkcojnlioaaGreatDoor
namespace Go.Proofs.YtljadkcojnlioaaGreatDoor
open Go.Proofs
open Go.W Go.RowKit
attribute [local irreducible] Decidable.decide
theorem qF : eT Tryz.prog 11 := ⟨_, Tryz.func11, by kernel_rfl, by kernel_rfl⟩
theorem uL : eT Tryz.prog 14 := ⟨_, Tryz.func14, by kernel_rfl, by kernel_rfl⟩
theorem EH : eT Tryz.prog 19 := ⟨_, Tryz.func19, by kernel_rfl, by kernel_rfl⟩
theorem CA {w : World} {s : ByteArray} {x : Rx} (hG : Glb w) (h : jG s = .ok x) : Calls Tryz.prog 11 #[.string s] w (Ret fun v w' => ∃ vs bs, v = .tuple #[.agg vs.toArray, iv 0] ∧ OT x w' vs bs ∧ Fr w bs ∧ Evo [] w w') := by
  refine (BZ s hG).mono ?_
  rintro e w' ⟨v, rfl, hv, h1 | ⟨x2, vs, bs, h2, rfl, h4, h5⟩⟩
  · obtain ⟨e, h1, -⟩ := h1
    rw [h] at h1; cases h1
  · rw [h] at h2; cases h2
    exact ⟨_, rfl, vs, bs, rfl, h4, h5, hv⟩
theorem JC {w : World} {s : ByteArray} {e : Int} (hG : Glb w) (h : jG s = .error e) : Calls Tryz.prog 11 #[.string s] w (Ret fun v w' => v = .tuple #[zRx, iv e] ∧ Evo [] w w') := by
  refine (BZ s hG).mono ?_
  rintro e9 w' ⟨v, rfl, hv, h1 | ⟨x2, vs, bs, h2, rfl, h4, h5⟩⟩
  · obtain ⟨e2, h1, h3⟩ := h1
    rw [h] at h1; cases h1
    exact ⟨_, rfl, h3, hv⟩
  · rw [h] at h2; cases h2
def zX : Rx := .mk 0 0 [] 0 0 false 0 emp []
theorem zX_rx (X : List Nat) (w : World) : RRx 1 X w [iv 0, .int .i32 0, .slice none 0 0, iv 0, iv 0, .bool false, iv 0, .string ByteArray.empty, .slice none 0 0] zX := ⟨_, _, rfl, xV, xV, Nat.zero_le _, Nat.zero_le _, Nat.zero_le _⟩
set_option maxHeartbeats 4000000 in
theorem OJ {w : World} (hG : Gw w) : Calls Tryz.prog 10 #[] w (Ret fun v w' => v = .bool true ∧ Evo [] w w') := by
  refine bO (N := 113) Tryz.func10 rfl rfl rfl ?_; refine aE (aB (aM (aD (aA (aE (aB (aN (vs := [_]) qF rfl (CA (s := aS) (hG.evo0 (Evo.refl [] w)).glb OK) rfl ?_))))))); rintro _ w1 ⟨vs, bs, rfl, hOT, hFr, hw2⟩; have hE3 := (Evo.refl [] w).then hw2; obtain ⟨n1, hx1⟩ := hOT.rrx (X := []) (fun b _ h => by cases h); have hx1' := hx1; obtain ⟨m1, ra1, rc1, ka1, kc1, hm1, rfl, hrg1, hk1, -⟩ := hx1.get; obtain ⟨_, _, hke, -, e1⟩ := hk1; cases hke; obtain ⟨b1, o1, vs1, ha1, -, -, hc1, hr1⟩ := e1 0 (by decide); obtain ⟨m2, ra2, rc2, ka2, kc2, -, rfl, -⟩ := hr1.get; obtain ⟨b2, o2, vs2, ha2, -, -, hc2, hr2⟩ := e1 1 (by decide); obtain ⟨m3, ra3, rc3, ka3, kc3, -, rfl, -, hk3, -⟩ := hr2.get; obtain ⟨_, _, hke3, -, e3⟩ := hk3; cases hke3; obtain ⟨b4, o4, vs4, ha4, -, -, hc4, hr4⟩ := e3 0 (by decide); obtain ⟨m5, ra5, rc5, ka5, kc5, -, rfl, hrg5, -⟩ := hr4.get; obtain ⟨_, _, hke5, -, e5⟩ := hrg5; cases hke5; obtain ⟨b6, o6, vs6, ha6, -, -, hc6, hr6⟩ := e5 0 (by decide); obtain rfl := hr6; refine aG (aC rfl (cR rfl rfl) ?_); refine aC rfl (cR rfl rfl) ?_; refine dG rfl eI fun bx w4 hB5 hs6 hw7 => ?_; have hsz_bx := hs6; have hG8 := Ge.new hE3 hs6; have hG9 := Ge.new (Evo.refl [] w1) hs6; have hE10 := hE3.then hw7; have hE11 := (Evo.refl [] w1).then hw7; refine bN rfl rfl bE hB5 rfl rfl ⟨rfl, rfl, rfl, rfl, rfl, rfl, rfl, rfl, rfl, trivial⟩ fun w12 hB13 hw14 => ?_; have hE15 := hE10.step hw14 hG8.mem1; have hE16 := hE11.step hw14 hG9.mem1
  try simp only [cU, Nat.reduceAdd] at hB13
  refine aM (aD (aA (aE (aE (aB (aG ?_)))))); refine aC rfl (fW (r := .bool false) rfl rfl (fun w => by kernel_rfl)) ?_; refine aG (aR (aC rfl (aF rfl eH) (aR (aC rfl (aI rfl bD (aK hB13 rfl)) (aR ?_))))); refine aC rfl (fW (r := .bool false) rfl rfl (fun w => by kernel_rfl)) ?_; refine aU (aG (aR (aC rfl (aF rfl cP) (aR (aC rfl (aI rfl dF (aK hB13 rfl)) (aR (aC rfl (bQ rfl Tryz.underlying25 rfl) ?_))))))); refine aR ?_; refine aC rfl (fW (r := .bool false) rfl rfl (fun w => by kernel_rfl)) ?_; refine aU (aG (aR (aC rfl (aF rfl cP) (aR (aC rfl (aI rfl dF (aK hB13 rfl)) (aR ?_))))))
  refine aC rfl (gB (n := 0) (by rw [ha1]; rfl) rfl rfl eB (by decide)) ?_
  refine aR (aC rfl (aF rfl eP) (aR ?_)); refine aC rfl (aI rfl cJ ((hE16).cell (hc1 1 _ rfl) (by simp))) ?_; refine aR ?_; refine aC rfl (fW (r := .bool false) rfl rfl (fun w => by kernel_rfl)) ?_; refine aU (aD (aA (cK rfl ?_))); refine aW (aA (aE (aB (aC rfl (aF rfl cP) (aC rfl (aI rfl dF (aK hB13 rfl)) ?_)))))
  refine aC rfl (gP (n := 1) (by rw [ha2]; rfl) rfl eB (by decide)) ?_
  refine aC rfl (eL rfl bV bE (vs := [_, _, _, _, _, _, _, _, _]) rfl (hc2.evo hE16 (by simp))) ?_; refine dG rfl eI fun by9 w17 hB18 hs19 hw20 => ?_; have hsz_by9 := hs19; have hA21 := Apart.new (Lt.blk hB13) hs19; have hG22 := Ge.new hE15 hs19; have hG23 := Ge.new hE16 hs19; have hE24 := hE15.then hw20; have hE25 := hE16.then hw20; have hB26 := hw20.blk0 hB13; refine bN rfl rfl bE hB18 rfl rfl ⟨rfl, rfl, rfl, rfl, rfl, rfl, rfl, rfl, rfl, trivial⟩ fun w27 hB28 hw29 => ?_; have hE30 := hE24.step hw29 hG22.mem1; have hE31 := hE25.step hw29 hG23.mem1; have hB32 := hw29.blk hB26 hA21.nmem1
  try simp only [cU, Nat.reduceAdd] at hB28
  refine aD (aA (aE (aE (aB (aC rfl (aF rfl eH) (aC rfl (aI rfl bD (aK hB28 rfl)) ?_)))))); refine aC rfl (fW (r := .bool false) rfl rfl (fun w => by kernel_rfl)) ?_; refine aG (aR (aC rfl (aF rfl dN) (aR (aC rfl (aI rfl bD (aK hB28 rfl)) (aR ?_))))); refine aC rfl (fW (r := .bool false) rfl rfl (fun w => by kernel_rfl)) ?_; refine aU (aG (aR (aC rfl (aF rfl dM) (aR (aC rfl (aI rfl bD (aK hB28 rfl)) (aR ?_)))))); refine aC rfl (fW (r := .bool false) rfl rfl (fun w => by kernel_rfl)) ?_; refine aU (aG (aR (aC rfl (aF rfl eG) (aR (aC rfl (aI rfl eC (aK hB28 rfl)) (aR (aC rfl (eU rfl) ?_))))))); refine aU (aG (aR (aC rfl (aF rfl cP) (aR (aC rfl (aI rfl dF (aK hB28 rfl)) (aR (aC rfl (bQ rfl Tryz.underlying25 rfl) ?_))))))); refine aR ?_; refine aC rfl (fW (r := .bool false) rfl rfl (fun w => by kernel_rfl)) ?_; refine aU (aG (aR (aC rfl (aF rfl cP) (aR (aC rfl (aI rfl dF (aK hB28 rfl)) (aR ?_))))))
  refine aC rfl (gB (n := 0) (by rw [ha4]; rfl) rfl rfl eB (by decide)) ?_
  refine aR (aC rfl (aF rfl dZ) (aR ?_)); refine aC rfl (aI rfl fA ((hE31).cell (hc4 2 _ rfl) (by simp))) ?_; refine aR (aC rfl (bQ rfl Tryz.underlying24 rfl) ?_); refine aR ?_; refine aC rfl (fW (r := .bool false) rfl rfl (fun w => by kernel_rfl)) ?_; refine aU (aG (aR (aC rfl (aF rfl cP) (aR (aC rfl (aI rfl dF (aK hB28 rfl)) (aR ?_))))))
  refine aC rfl (gB (n := 0) (by rw [ha4]; rfl) rfl rfl eB (by decide)) ?_
  refine aR (aC rfl (aF rfl dZ) (aR ?_)); refine aC rfl (aI rfl fA ((hE31).cell (hc4 2 _ rfl) (by simp))) ?_; refine aR ?_
  refine aC rfl (gB (n := 0) (by rw [ha6]; rfl) rfl rfl fE (by decide)) ?_
  refine aR (aC rfl (aF rfl fF) (aR ?_)); refine aC rfl (aI rfl cJ ((hE31).cell (hc6 1 _ rfl) (by simp))) ?_; refine aR ?_; refine aC rfl (fW (r := .bool false) rfl rfl (fun w => by kernel_rfl)) ?_; refine aU (aD (aA (cK rfl ?_))); refine aW (aA (aE (aB (aC rfl (cF rfl bV bE hB32 rfl) ?_)))); refine aN (vs := [_]) EH rfl (Show_ok (hG.evo0 hE30) (RRx.pers _ _ _ _ _ _ hE31 hx1') (by decide +kernel)) rfl ?_; rintro _ w33 ⟨s, e, hsh, rfl, hw34⟩; have hE35 := hE30.then hw34; have hE36 := hE31.then hw34; have hB37 := hw34.blk0 hB32; obtain ⟨rfl, rfl⟩ := aT_show hsh; refine aG (aC rfl (cR rfl rfl) ?_); refine aC rfl (cR rfl rfl) ?_; refine aM (aM (aD (aA (aE (aB (aN (vs := [_]) qF rfl (JC (s := oS) (hG.evo0 hE35).glb MC) rfl ?_)))))); rintro _ w39 ⟨rfl, hw40⟩; have hE41 := hE35.then hw40; have hE42 := hE36.then hw40; have hB43 := hw40.blk0 hB37; refine aG (aC rfl (cR rfl rfl) ?_); refine aC rfl (cR rfl rfl) ?_; refine dG rfl eI fun b45 w46 hB47 hs48 hw49 => ?_; have hA50 := Apart.new (Lt.blk hB43) hs48; have hG52 := Ge.new hE41 hs48; have hG53 := Ge.new hE42 hs48; have hE54 := hE41.then hw49; have hE55 := hE42.then hw49; have hB56 := hw49.blk0 hB43; refine bN rfl rfl bE hB47 rfl rfl ⟨rfl, rfl, rfl, rfl, rfl, rfl, rfl, rfl, rfl, trivial⟩ fun w58 hB59 hw60 => ?_; have hE61 := hE54.step hw60 hG52.mem1; have hE62 := hE55.step hw60 hG53.mem1; have hB63 := hw60.blk hB56 hA50.nmem1
  refine aM (aD (aA (aE (aB (aG ?_))))); refine aC rfl (fW (r := .bool true) rfl rfl (fun w => by kernel_rfl)) ?_; refine aG (aR (aG (aR ?_))); refine aC rfl (fW (r := .bool true) rfl rfl (fun w => by kernel_rfl)) ?_; refine bL (aG (aR (aG (aR ?_)))); refine aC rfl (fW (r := .bool true) rfl rfl (fun w => by kernel_rfl)) ?_; refine bL (aG (aR ?_)); refine aN (vs := [_]) uL rfl (EO _ (by decide +kernel)) rfl ?_; rintro _ w65 ⟨rfl, hw66⟩; have hE67 := hE61.then hw66; have hE68 := hE62.then hw66; have hB69 := hw66.blk0 hB63; refine aR ?_; refine aC rfl (fW (r := .bool true) rfl rfl (fun w => by kernel_rfl)) ?_; refine bL (aG (aR (aC rfl (cF rfl bV bE hB69 rfl) (aR (aN (vs := [_]) qE rfl (vH (RRx.pers _ _ _ _ _ _ hE68 hx1')) rfl ?_))))); rintro _ w71 ⟨r, rfl, hr, hw72⟩; have hE73 := hE67.then hw72; obtain rfl : r = true := hr.2 aT_ok; refine bL (aG (aR (aC rfl (eE (vs := []) dO rfl (cells := [_, _, _, _, _, _, _, _, _]) rfl) ?_))); refine aR (aN (vs := [_]) qE rfl (vH (zX_rx [] _)) rfl ?_); rintro _ w77 ⟨r2, rfl, hr2, hw78⟩; have hE79 := hE73.then hw78
  obtain rfl : r2 = false := by cases r2 with | false => rfl | true => exact (zero_no rfl (hr2.1 rfl)).elim
  refine aR (aC rfl (eU rfl) ?_); refine bL (aM (aD (aA (aO (aJ rfl rfl ?_))))); exact ⟨rfl, hE79⟩
end Go.Proofs.YtljadkcojnlioaaGreatDoor
namespace Go.Proofs.YtljadkcojnlioaaGreatDoor
open Go.Proofs
open Go.W Go.RowKit
attribute [local irreducible] Decidable.decide
theorem lX : eT Tryz.prog 13 := ⟨_, Tryz.func13, by kernel_rfl, by kernel_rfl⟩
theorem GE : Tryz.prog.eqGuardType Tryz.prog.depth 56 = false := by kernel_rfl
theorem xN : Tryz.prog.underlying 56 = some (.struct (Tryz.prog.fieldsOf 56)) := by kernel_rfl
theorem JW (a b c d : Int) (w : World) : (Op.equal 56 (.agg #[.int .i32 a, .int .i32 b]) (.agg #[.int .i32 c, .int .i32 d])).run Tryz.prog w = .ok (decide (a = c ∧ b = d)) w := by
  unfold Op.equal Op.maxDepth
  rw [run_equalIn_struct w 9999 56 _ _ xN (by kernel_rfl)]
  by_cases h1 : a = c <;> by_cases h2 : b = d <;> simp [Op.eqFields, Program.fieldsOf, Tryz.underlying56, tA w cJ, run_equalIn_int w _ 21 _ _ _ _ Tryz.underlying21, h1, h2]
theorem rx_ext : ∀ {a b : Rx}, a.kind = b.kind → a.r = b.r → a.ranges = b.ranges → a.min = b.min → a.max = b.max → a.lazy = b.lazy → a.cap = b.cap → a.name = b.name → a.kids = b.kids → a = b
  | .mk k r rs mn mx lz cp nm ks, .mk k' r' rs' mn' mx' lz' cp' nm' ks', h1, h2, h3, h4, h5, h6, h7, h8, h9 => by
    obtain rfl : k = k' := h1
    obtain rfl : r = r' := h2
    obtain rfl : rs = rs' := h3
    obtain rfl : mn = mn' := h4
    obtain rfl : mx = mx' := h5
    obtain rfl : lz = lz' := h6
    obtain rfl : cp = cp' := h7
    obtain rfl : nm = nm' := h8
    obtain rfl : ks = ks' := h9
    rfl
set_option maxHeartbeats 4000000 in
theorem GD {n : Nat} (ih : ∀ {m : Nat} {w : World} {va vb : List Value} {a b : Rx} (ha : RRx n [] w va a) (hb : RRx m [] w vb b), Calls Tryz.prog 13 #[.agg va.toArray, .agg vb.toArray] w (Ret fun v w' => ∃ r, v = .bool r ∧ (r = true ↔ a = b) ∧ Evo [] w w')) {m : Nat} {w : World} {va vb : List Value} {a b : Rx} (ha : RRx (n + 1) [] w va a) (hb : RRx m [] w vb b) : Calls Tryz.prog 13 #[.agg va.toArray, .agg vb.toArray] w (Ret fun v w' => ∃ r, v = .bool r ∧ (r = true ↔ a = b) ∧ Evo [] w w') := by
  obtain ⟨n0, ra, rc, ka, kc, hn0, rfl, hrg, hk, bl1, bl2, bl3⟩ := ha.get; obtain ⟨m0, ra', rc', ka', kc', hm0, rfl, hrg', hk', bl1', bl2', bl3'⟩ := hb.get
  obtain rfl : n0 = n := by omega
  obtain ⟨_, _, hre, -, er⟩ := hrg; cases hre; obtain ⟨_, _, hre', -, er'⟩ := hrg'; cases hre'; obtain ⟨_, _, hke, -, ek⟩ := hk; cases hke; obtain ⟨_, _, hke', -, ek'⟩ := hk'; cases hke'; refine bO (N := 107) Tryz.func13 rfl rfl rfl ?_; refine aE (aB (kT rfl rfl fun bA w1 hB2 hs3 hw4 => ?_)); have hsz_bA := hs3; have hE6 := (Evo.refl [] w).then hw4; refine kT rfl rfl fun bB w7 hB8 hs9 hw10 => ?_; have hsz_bB := hs9; have hE13 := hE6.then hw10; have hB14 := hw10.blk0 hB2; refine aM (aD (aA (aE (aE (aB (aC rfl (aF rfl eH) (aC rfl (aI rfl bD (aK hB14 rfl)) (aC rfl (aF rfl eH) (aC rfl (aI rfl bD (aK hB8 rfl)) (aC rfl (gA rfl rfl) ?_)))))))))); refine aG (aX (t := 12) rfl (fun hs12 => ?_) (fun hs12 => ?_))
  ·skip
   refine aH (aH (aH (aH (aH (bL (aG (aH (aH (aH (aH (aH (bL (aG (aH ?_)))))))))))))); refine aH (aH (aH (aH (bL (aG (aH (aH (aH (aH (aH (bL (aG (aH (aH ?_)))))))))))))); refine aH (aH (aH (bL (aG (aH (aH (aH (aH (aH (bL (aD (aA (dA rfl ?_))))))))))))); refine aE (aB (aM (aD (aA (aO (aP (aJ rfl rfl ?_)))))))
   exact ⟨false, rfl, (by simp only [Bool.false_eq_true, false_iff]; rintro rfl; exact hs12 rfl), hE13⟩
  refine aR (aC rfl (aF rfl eP) (aR (aC rfl (aI rfl cJ (aK hB14 rfl)) (aR (aC rfl (aF rfl eP) (aR (aC rfl (aI rfl cJ (aK hB8 rfl)) (aR (aC rfl (gA rfl rfl) ?_))))))))); refine aU (aG (aX (t := 19) rfl (fun hs19 => ?_) (fun hs19 => ?_)))
  ·skip
   refine aH (aH (aH (aH (aH (bL (aG (aH (aH (aH (aH (aH (bL (aG (aH ?_)))))))))))))); refine aH (aH (aH (aH (bL (aG (aH (aH (aH (aH (aH (bL (aG (aH (aH ?_)))))))))))))); refine aH (aH (aH (bL (aD (aA (dA rfl ?_)))))); refine aE (aB (aM (aD (aA (aO (aP (aJ rfl rfl ?_)))))))
   exact ⟨false, rfl, (by simp only [Bool.false_eq_true, false_iff]; rintro rfl; exact hs19 rfl), hE13⟩
  refine aR (aC rfl (aF rfl dN) (aR (aC rfl (aI rfl bD (aK hB14 rfl)) (aR (aC rfl (aF rfl dN) (aR (aC rfl (aI rfl bD (aK hB8 rfl)) (aR (aC rfl (gA rfl rfl) ?_))))))))); refine aU (aG (aX (t := 26) rfl (fun hs26 => ?_) (fun hs26 => ?_)))
  ·skip
   refine aH (aH (aH (aH (aH (bL (aG (aH (aH (aH (aH (aH (bL (aG (aH ?_)))))))))))))); refine aH (aH (aH (aH (bL (aG (aH (aH (aH (aH (aH (bL (aD (aA (dA rfl ?_)))))))))))))); refine aE (aB (aM (aD (aA (aO (aP (aJ rfl rfl ?_)))))))
   exact ⟨false, rfl, (by simp only [Bool.false_eq_true, false_iff]; rintro rfl; exact hs26 rfl), hE13⟩
  refine aR (aC rfl (aF rfl dM) (aR (aC rfl (aI rfl bD (aK hB14 rfl)) (aR (aC rfl (aF rfl dM) (aR (aC rfl (aI rfl bD (aK hB8 rfl)) (aR (aC rfl (gA rfl rfl) ?_))))))))); refine aU (aG (aX (t := 33) rfl (fun hs33 => ?_) (fun hs33 => ?_)))
  ·skip
   refine aH (aH (aH (aH (aH (bL (aG (aH (aH (aH (aH (aH (bL (aG (aH ?_)))))))))))))); refine aH (aH (aH (aH (bL (aD (aA (dA rfl ?_))))))); refine aE (aB (aM (aD (aA (aO (aP (aJ rfl rfl ?_)))))))
   exact ⟨false, rfl, (by simp only [Bool.false_eq_true, false_iff]; rintro rfl; exact hs33 rfl), hE13⟩
  refine aR (aC rfl (aF rfl eG) (aR (aC rfl (aI rfl eC (aK hB14 rfl)) (aR (aC rfl (aF rfl eG) (aR (aC rfl (aI rfl eC (aK hB8 rfl)) (aR (aC rfl (ex_neqB rfl rfl Tryz.underlying4) ?_))))))))); refine aU (aG (hD (t := 40) rfl (fun hs40 => ?_) (fun hs40 => ?_)))
  ·skip
   refine aH (aH (aH (aH (aH (bL (aG (aH (aH (aH (aH (aH (bL (aD (aA (dA rfl ?_))))))))))))))); refine aE (aB (aM (aD (aA (aO (aP (aJ rfl rfl ?_)))))))
   exact ⟨false, rfl, (by simp only [Bool.false_eq_true, false_iff]; rintro rfl; simp at hs40), hE13⟩
  refine aR (aC rfl (aF rfl eS) (aR (aC rfl (aI rfl bD (aK hB14 rfl)) (aR (aC rfl (aF rfl eS) (aR (aC rfl (aI rfl bD (aK hB8 rfl)) (aR (aC rfl (gA rfl rfl) ?_))))))))); refine aU (aG (aX (t := 47) rfl (fun hs47 => ?_) (fun hs47 => ?_)))
  ·skip
   refine aH (aH (aH (aH (aH (bL (aD (aA (dA rfl ?_)))))))); refine aE (aB (aM (aD (aA (aO (aP (aJ rfl rfl ?_)))))))
   exact ⟨false, rfl, (by simp only [Bool.false_eq_true, false_iff]; rintro rfl; exact hs47 rfl), hE13⟩
  refine aR (aC rfl (aF rfl eF) (aR (aC rfl (aI rfl cO (aK hB14 rfl)) (aR (aC rfl (aF rfl eF) (aR (aC rfl (aI rfl cO (aK hB8 rfl)) (aR (aC rfl (sC rfl rfl) ?_))))))))); refine aU (aD (aA (bI rfl (fun hc53 => ?_) (fun hc53 => ?_))))
  ·skip
   refine aE (aB (aM (aD (aA (aO (aP (aJ rfl rfl ?_)))))))
   exact ⟨false, rfl, (by simp only [Bool.false_eq_true, false_iff]; rintro rfl; exact hc53 rfl), hE13⟩
  refine aW (aA (aE (aE (aB (aC rfl (aF rfl dZ) (aC rfl (aI rfl fA (aK hB14 rfl)) (aC rfl (bQ rfl Tryz.underlying24 rfl) ?_))))))); refine aC rfl (aF rfl dZ) (aC rfl (aI rfl fA (aK hB8 rfl)) (aC rfl (bQ rfl Tryz.underlying24 rfl) ?_)); refine aC rfl (gA rfl rfl) ?_; refine aG (aX (t := 61) rfl (fun hs61 => ?_) (fun hs61 => ?_))
  ·skip
   refine aH (aH (aH (aH (aH (aH (aH (bL (aD (aA (dA rfl ?_)))))))))); refine aE (aB (aM (aD (aA (aO (aP (aJ rfl rfl ?_)))))))
   exact ⟨false, rfl, (by simp only [Bool.false_eq_true, false_iff]; rintro rfl; exact hs61 rfl), hE13⟩
  refine aR (aC rfl (aF rfl cP) (aR (aC rfl (aI rfl dF (aK hB14 rfl)) (aR (aC rfl (bQ rfl Tryz.underlying25 rfl) ?_))))); refine aR (aC rfl (aF rfl cP) (aR (aC rfl (aI rfl dF (aK hB8 rfl)) (aR (aC rfl (bQ rfl Tryz.underlying25 rfl) ?_))))); refine aR (aC rfl (gA rfl rfl) ?_); refine aU (aD (aA (bI rfl (fun hc69 => ?_) (fun hc69 => ?_))))
  ·skip
   refine aE (aB (aM (aD (aA (aO (aP (aJ rfl rfl ?_)))))))
   exact ⟨false, rfl, (by simp only [Bool.false_eq_true, false_iff]; rintro rfl; exact hc69 rfl), hE13⟩
  refine aW (aA (aE (aE (aB (aM (aD (aA (bT ?_)))))))); refine eR (α := Nat) (0) (fun k => [(5, .int .i64 (k : Nat))]) [(2, _), (3, _)] (fun k wr => Evo [] w7 wr ∧ (k ≤ a.ranges.length ∧ ∀ j (h : j < a.ranges.length) (h2 : j < b.ranges.length), j < k → a.ranges[j] = b.ranges[j])) (fun k => a.ranges.length - k) ⟨rfl, trivial⟩ ⟨rfl, rfl, trivial⟩ ⟨Evo.refl _ _, ⟨Nat.zero_le _, fun j h h2 h3 => by cases h3⟩⟩ ?_; rintro k wr15 ⟨hV16, ⟨hk0, hsm⟩⟩; show CW _ _ _ _ [(5, _), (2, _), (3, _)] _; have hE17 := hE13.then hV16; have hB18 := hV16.blk0 hB14; have hB19 := hV16.blk0 hB8; refine aE (aE (aB (aG (aC rfl (aF rfl dZ) (aC rfl (aI rfl fA (aK hB18 rfl)) (aC rfl (bQ rfl Tryz.underlying24 rfl) ?_)))))); refine aC rfl (dH rfl rfl) ?_; refine aD (aA (bI rfl (fun hc74 => ?_) (fun hc74 => ?_)))
  ·skip
   have hk1 : k < a.ranges.length := by omega
   have hk2 : k < b.ranges.length := by omega
   obtain ⟨g1, o1, vs1, hg1, -, -, hc1, hr1⟩ := er k hk1; obtain ⟨g2, o2, vs2, hg2, -, -, hc2, hr2⟩ := er' k hk2; obtain rfl := hr1; obtain rfl := hr2; refine aW (aA (aE (bT (aE ?_)))); refine jB (fun w0 w' => Evo [] w0 w') (by kernel_rfl) (fun w20 hw21 => ?_); have hE22 := hE17.then hw21; have hE23 := hV16.then hw21; have hB24 := hw21.blk0 hB18; have hB25 := hw21.blk0 hB19; refine bG 0 rfl (by kernel_rfl) (by kernel_rfl) (by kernel_rfl) rfl (fun _ hS => aF rfl dZ) (Evo.refl [] w20) ?_; refine bG 1 rfl (by kernel_rfl) (by kernel_rfl) (by kernel_rfl) rfl (fun _ hS => aI rfl fA (aK (hS.blk0 hB24) rfl)) (Evo.refl [] w20) ?_; refine bG 2 rfl (by kernel_rfl) (by kernel_rfl) (by kernel_rfl) rfl (fun _ hS => bS rfl) (Evo.refl [] w20) ?_; refine bG 3 rfl (by kernel_rfl) (by kernel_rfl) (by kernel_rfl) rfl (fun _ hS => fD (n := k) rfl rfl hg1 fE hk1) (Evo.refl [] w20) ?_; refine bG 4 rfl (by kernel_rfl) (by kernel_rfl) (by kernel_rfl) rfl (fun _ hS => eL rfl jN fX (vs := [_, _]) rfl (hc1.evo (hE22.then hS) (by simp))) (Evo.refl [] w20) ?_; refine bG 5 rfl (by kernel_rfl) (by kernel_rfl) (by kernel_rfl) rfl (fun _ hS => aF rfl dZ) (Evo.refl [] w20) ?_; refine bG 6 rfl (by kernel_rfl) (by kernel_rfl) (by kernel_rfl) rfl (fun _ hS => aI rfl fA (aK (hS.blk0 hB25) rfl)) (Evo.refl [] w20) ?_; refine bG 7 rfl (by kernel_rfl) (by kernel_rfl) (by kernel_rfl) rfl (fun _ hS => bS rfl) (Evo.refl [] w20) ?_; refine bG 8 rfl (by kernel_rfl) (by kernel_rfl) (by kernel_rfl) rfl (fun _ hS => fD (n := k) rfl rfl hg2 fE hk2) (Evo.refl [] w20) ?_
   refine bG 9 rfl (by kernel_rfl) (by kernel_rfl) (by kernel_rfl) rfl (fun _ hS => eL rfl jN fX (vs := [_, _]) rfl (hc2.evo (hE22.then hS) (by simp))) (Evo.refl [] w20) ?_; refine bG 10 rfl (by kernel_rfl) (by kernel_rfl) (by kernel_rfl) rfl (fun _ hS => ex_neqA rfl rfl GE (JW _ _ _ _)) (Evo.refl [] w20) ?_; refine fL (by kernel_rfl) (aA ?_); refine bI rfl (fun hc87 => ?_) (fun hc87 => ?_)
   ·skip
    refine aE (aB (aM (aD (aA (aO (aY (aP (aP (aY (aP (aJ rfl rfl ?_)))))))))))
    exact ⟨false, rfl, (by simp only [Bool.false_eq_true, false_iff]; rintro rfl; exact hc87 ⟨rfl, rfl⟩), hE22⟩
   refine aW (aZ (aA (aB (aG ?_)))); refine aC rfl (bC rfl rfl (by omega) (by omega)) ?_; refine aM (aD (bY ?_)); refine ⟨k + 1, ?_, ⟨rfl, trivial⟩, ⟨rfl, rfl, trivial⟩, hE23, ?_⟩
   · omega
   refine ⟨by omega, fun j h3 h4 h5 => ?_⟩
   by_cases e : j < k
   · exact hsm j h3 h4 e
   · obtain rfl : j = k := by omega
     have h9 := Classical.not_not.1 hc87; exact Prod.ext h9.1 h9.2
  refine dV (cB (cB (dU (aA ?_)))); refine aE (aE (aB (aM (aD (aA (bT ?_)))))); refine eR (α := Nat) (0) (fun j => [(6, .int .i64 (j : Nat))]) [(2, _), (3, _)] (fun j wr => Evo [] wr15 wr ∧ (j ≤ a.kids.length ∧ ∀ i (h : i < a.kids.length) (h2 : i < b.kids.length), i < j → a.kids[i] = b.kids[i])) (fun j => a.kids.length - j) ⟨rfl, trivial⟩ ⟨rfl, rfl, trivial⟩ ⟨Evo.refl _ _, ⟨Nat.zero_le _, fun j h h2 h3 => by cases h3⟩⟩ ?_; rintro j wr26 ⟨hV27, ⟨hj0, hsk⟩⟩; show CW _ _ _ _ [(6, _), (2, _), (3, _)] _; have hE28 := hE17.then hV27; have hB30 := hV27.blk0 hB18; have hB31 := hV27.blk0 hB19; refine aE (aE (aB (aG (aC rfl (aF rfl cP) (aC rfl (aI rfl dF (aK hB30 rfl)) (aC rfl (bQ rfl Tryz.underlying25 rfl) ?_)))))); refine aC rfl (dH rfl rfl) ?_; refine aD (aA (bI rfl (fun hc92 => ?_) (fun hc92 => ?_)))
  ·skip
   have hj1 : j < a.kids.length := by omega
   have hj2 : j < b.kids.length := by omega
   obtain ⟨g1, o1, vs1, hg1, -, -, hc1, hr1⟩ := ek j hj1; obtain ⟨g2, o2, vs2, hg2, -, -, hc2, hr2⟩ := ek' j hj2; obtain ⟨m1, ra1, rc1, ka1, kc1, rfl, rfl, -⟩ := id hr1.get; obtain ⟨m2, ra2, rc2, ka2, kc2, -, rfl, -⟩ := id hr2.get; refine aW (aA (aE (bT (aE ?_)))); refine jB (fun w0 w' => Evo [] w0 w') (by kernel_rfl) (fun w32 hw33 => ?_); have hE34 := hE28.then hw33; have hE36 := hV27.then hw33; have hB37 := hw33.blk0 hB30; have hB38 := hw33.blk0 hB31; refine bG 0 rfl (by kernel_rfl) (by kernel_rfl) (by kernel_rfl) rfl (fun _ hS => aF rfl cP) (Evo.refl [] w32) ?_; refine bG 1 rfl (by kernel_rfl) (by kernel_rfl) (by kernel_rfl) rfl (fun _ hS => aI rfl dF (aK (hS.blk0 hB37) rfl)) (Evo.refl [] w32) ?_; refine bG 2 rfl (by kernel_rfl) (by kernel_rfl) (by kernel_rfl) rfl (fun _ hS => bS rfl) (Evo.refl [] w32) ?_; refine bG 3 rfl (by kernel_rfl) (by kernel_rfl) (by kernel_rfl) rfl (fun _ hS => fD (n := j) rfl rfl hg1 eB hj1) (Evo.refl [] w32) ?_; refine bG 4 rfl (by kernel_rfl) (by kernel_rfl) (by kernel_rfl) rfl (fun _ hS => eL rfl bV bE (vs := [_, _, _, _, _, _, _, _, _]) rfl (hc1.evo (hE34.then hS) (by simp))) (Evo.refl [] w32) ?_; refine bG 5 rfl (by kernel_rfl) (by kernel_rfl) (by kernel_rfl) rfl (fun _ hS => aF rfl cP) (Evo.refl [] w32) ?_; refine bG 6 rfl (by kernel_rfl) (by kernel_rfl) (by kernel_rfl) rfl (fun _ hS => aI rfl dF (aK (hS.blk0 hB38) rfl)) (Evo.refl [] w32) ?_; refine bG 7 rfl (by kernel_rfl) (by kernel_rfl) (by kernel_rfl) rfl (fun _ hS => bS rfl) (Evo.refl [] w32) ?_
   refine bG 8 rfl (by kernel_rfl) (by kernel_rfl) (by kernel_rfl) rfl (fun _ hS => fD (n := j) rfl rfl hg2 eB hj2) (Evo.refl [] w32) ?_; refine bG 9 rfl (by kernel_rfl) (by kernel_rfl) (by kernel_rfl) rfl (fun _ hS => eL rfl bV bE (vs := [_, _, _, _, _, _, _, _, _]) rfl (hc2.evo (hE34.then hS) (by simp))) (Evo.refl [] w32) ?_; refine cT [10] (by kernel_rfl) rfl ⟨?_, trivial⟩; refine cZ rfl ?_; refine aN (vs := [_, _]) lX rfl (ih (RRx.pers _ _ _ _ _ _ hE34 hr1) (RRx.pers _ _ _ _ _ _ hE34 hr2)) rfl ?_; rintro _ w39 ⟨r, rfl, hr, hw40⟩; have hE41 := hE34.then hw40; have hE43 := hE36.then hw40; have hE44 := (Evo.refl [] w32).then hw40; refine aD (cL (.inl hE44) ?_); refine bG 11 rfl (by kernel_rfl) (by kernel_rfl) (by kernel_rfl) rfl (fun _ hS => eU rfl) hE44 ?_; refine fL (by kernel_rfl) (aA ?_); refine gC rfl (fun hc106 => ?_) (fun hc106 => ?_)
   ·skip
    refine aE (aB (aM (aD (aA (aO (aY (aP (aP (aY (aP (aJ rfl rfl ?_)))))))))))
    exact ⟨false, rfl, (by simp only [Bool.false_eq_true, false_iff]; rintro rfl; rw [hr.2 rfl] at hc106; cases hc106), hE41⟩
   refine aW (aZ (aA (aB (aG ?_)))); refine aC rfl (bC rfl rfl (by omega) (by omega)) ?_; refine aM (aD (bY ?_)); refine ⟨(j + 1), ?_, ⟨rfl, trivial⟩, ⟨rfl, rfl, trivial⟩, hE43, ?_⟩
   · omega
   refine ⟨by omega, fun i h3 h4 h5 => ?_⟩
   by_cases e : i < j
   · exact hsk i h3 h4 e
   · obtain rfl : i = j := by omega
     exact hr.1 (by simpa using hc106)
  refine dV (cB (cB (dU (aA ?_)))); refine aE (aB (aM (aD (aA (aO (aJ rfl rfl ?_))))))
  refine ⟨true, rfl, by simp only [true_iff]; exact rx_ext (by omega) (by omega) (List.ext_getElem (by omega) fun i h3 h4 => hsm i h3 h4 (by omega)) (by omega) (by omega) (by simpa using hs40) (by omega) (Classical.not_not.1 hc53) (List.ext_getElem (by omega) fun i h3 h4 => hsk i h3 h4 (by omega)), hE28⟩
theorem pY : ∀ {n : Nat} {m : Nat} {w : World} {va vb : List Value} {a b : Rx} (ha : RRx n [] w va a) (hb : RRx m [] w vb b), Calls Tryz.prog 13 #[.agg va.toArray, .agg vb.toArray] w (Ret fun v w' => ∃ r, v = .bool r ∧ (r = true ↔ a = b) ∧ Evo [] w w')
  | 0, m, w, va, vb, a, b, ha, hb => ha.elim
  | n + 1, m, w, va, vb, a, b, ha, hb => GD (n := n) (fun ha hb => pY ha hb) ha hb
end Go.Proofs.YtljadkcojnlioaaGreatDoor
namespace Go.Proofs.YtljadkcojnlioaaGreatDoor
open Go.Proofs
open Go.W Go.RowKit
attribute [local irreducible] Decidable.decide
structure RqI (s : ByteArray) (w wr : World) (k : Nat) (n : Nat) (a : Option Addr) (c : Nat) (ob : Option Nat) : Prop where
  hn : n = (qK s k).length
  own : OwnS wr 5 1 a n c (fT (qK s k)) ob
  ge : Ge w ob
structure RqG where
  k : Nat
  n : Nat
  a : Option Addr
  c : Nat
  ob : Option Nat
theorem IW {w : World} (s : ByteArray) (hs : s.size ≤ 30000000) :
    Calls Tryz.prog 15 #[.string s] w (Ret fun v w' => v = .string (bstr (qK s s.size)) ∧ Evo [] w w') := by
  refine bO (N := 31) Tryz.func15 rfl rfl rfl ?_; refine aE (aB (aM (aD (aA (aE (aB (aG (aC rfl (cI rfl Tryz.underlying9 rfl) ?_)))))))); refine aC rfl (nA rfl rfl (by omega) (by omega)) ?_; refine wl_make (len := 0) (c := 2 * s.size) rfl rfl rfl DV (by rfl) (by omega) (by omega) (by decide) (by omega) (by omega) fun b0 w2 hO0 hs4 hw5 => ?_; have hG6 := Ge.new (Evo.refl [] w) hs4; have hE7 := (Evo.refl [] w).then hw5; refine aM (aD (aA (aE (aE (aB (aM (aD (aA (bT ?_))))))))); refine eR (α := RqG) (⟨0, 0, some ⟨b0, 0, none⟩, 2 * s.size, some b0⟩) (fun x => [(3, .slice x.a x.n x.c), (4, .int .i64 (x.k : Nat))]) [(0, _), (2, _)] (fun x wr => Evo [] w wr ∧ (x.k ≤ s.size ∧ RqI s w wr x.k x.n x.a x.c x.ob)) (fun x => s.size - x.k) ⟨rfl, rfl, trivial⟩ ⟨rfl, rfl, trivial⟩ ⟨hE7, ⟨Nat.zero_le _, rfl, by simpa [qK, fT, rO] using hO0, hG6⟩⟩ ?_; rintro ⟨k, n, a, c, ob⟩ wr8 ⟨hV9, ⟨hk, hn, hown, hge⟩⟩; show CW _ _ _ _ [(3, .slice a n c), (4, .int .i64 (k : Nat)), (0, _), (2, _)] _
  try dsimp only at hk
  try dsimp only at hn
  try dsimp only at hown
  try dsimp only at hge
  refine aE (aE (aB (aG (aG (aC rfl (cI rfl Tryz.underlying9 rfl) ?_))))); refine aC rfl (dH rfl rfl) ?_; refine aD (aA (bI rfl (fun hc12 => ?_) (fun hc12 => ?_)))
  ·skip
   have hk' : k < s.size := by omega
   have hql := vN s k; refine aW (aA (aE (bT (aE (aE (aB (aG (aG (aC rfl (fC (n := k) rfl rfl Tryz.underlying9 rfl hk') ?_)))))))))
   refine aC rfl (fP (sb s k) rfl Tryz.underlying5 Tryz.underlying21 rfl (by have := gO s k; show ((sb s k : Nat) : Int) ≤ 2147483647; omega)) ?_
   refine aN (vs := [_]) EF rfl (ES (sb s k) (by have := gO s k; omega)) rfl ?_
   rintro _ w10 ⟨rfl, hw11⟩; have hE12 := hV9.then hw11; have hO13 := hown.evo0 hw11; refine aD (aA (bI rfl (fun hc19 => ?_) (fun hc19 => ?_)))
   ·skip
    refine aB (aG (bM (vs := [_]) rfl dY rfl rfl rfl rfl fun b14 w15 hO16 hs17 hw18 => ?_)); have hE21 := hE12.then hw18; have hO22 := hO13.evo0 hw18; refine dR rfl rfl rfl rfl eJ hO22 (Src.ofOwn hO16 ⟨rfl, trivial⟩) (by omega) fun a1 c1 w25 ob1 hO1 hw28 hob29 => ?_; have hG31 := hge.app hE21 hob29; have hE32 := hE21.step hw28 hge.mem; refine aM (aD (aA (aB (aG (aG (aG (aC rfl (fC (n := k) rfl rfl Tryz.underlying9 rfl hk') ?_))))))); refine bM (vs := [_]) rfl dY rfl rfl rfl rfl fun b34 w35 hO36 hs37 hw38 => ?_; have hE41 := hE32.then hw38; have hO42 := hO1.evo0 hw38; refine dR rfl rfl rfl rfl eJ hO42 (Src.ofOwn hO36 ⟨rfl, trivial⟩) (by omega) fun a2 c2 w45 ob2 hO2 hw48 hob49 => ?_; have hG51 := hG31.app hE41 hob49; have hE52 := hE41.step hw48 hG31.mem; refine aM (aD (aZ (aA (aB (aG ?_))))); refine aC rfl (bC rfl rfl (by omega) (by omega)) ?_; refine aM (aD (bY ?_)); refine ⟨⟨k + 1, n + 1 + 1, a2, c2, ob2⟩, ?_, ⟨rfl, rfl, trivial⟩, ⟨rfl, rfl, trivial⟩, hE52, ?_⟩
    · (try dsimp only); omega
    try dsimp only
    have hqc : qc (sb s k) = [92, sb s k] := by rw [qc, if_pos hc19]
    refine ⟨by omega, by rw [hn, qK, List.length_append, hqc]; rfl, ?_, hG51⟩
    rw [qK, iK, hqc]; have h9 := hO2; first | exact h9 | (rw [List.append_assoc] at h9; exact h9)
   refine aW (aA (aB (aG (aG (aG (aC rfl (fC (n := k) rfl rfl Tryz.underlying9 rfl hk') ?_)))))); refine bM (vs := [_]) rfl dY rfl rfl rfl rfl fun b54 w55 hO56 hs57 hw58 => ?_; have hE61 := hE12.then hw58; have hO62 := hO13.evo0 hw58; refine dR rfl rfl rfl rfl eJ hO62 (Src.ofOwn hO56 ⟨rfl, trivial⟩) (by omega) fun a2 c2 w65 ob2 hO2 hw68 hob69 => ?_; have hG71 := hge.app hE61 hob69; have hE72 := hE61.step hw68 hge.mem; refine aM (aD (aZ (aA (aB (aG ?_))))); refine aC rfl (bC rfl rfl (by omega) (by omega)) ?_; refine aM (aD (bY ?_)); refine ⟨⟨k + 1, n + 1, a2, c2, ob2⟩, ?_, ⟨rfl, rfl, trivial⟩, ⟨rfl, rfl, trivial⟩, hE72, ?_⟩
   · (try dsimp only); omega
   try dsimp only
   have hqc : qc (sb s k) = [sb s k] := by rw [qc, if_neg hc19]
   refine ⟨by omega, by rw [hn, qK, List.length_append, hqc]; rfl, ?_, hG71⟩
   rw [qK, iK, hqc]; have h9 := hO2; first | exact h9 | (rw [List.append_assoc] at h9; exact h9)
  have hke : k = s.size := by omega
  refine dV (cB (cB (dU (aA ?_)))); refine aE (aB (aG (aC rfl (DC (l := qK s k) (ob := ob) rfl Tryz.underlying78 Tryz.underlying5 Tryz.underlying9 ⟨_, hown⟩) ?_))); refine aM (aD (aA (aO (aJ rfl rfl ?_)))); exact ⟨by rw [hke], hV9⟩
end Go.Proofs.YtljadkcojnlioaaGreatDoor
namespace Go.Proofs.YtljadkcojnlioaaGreatDoor
open Go.Proofs Go.W Go.RowKit
def qR (r : Int) : List Int := if r.toNat ∈ spec then [92, r] else [r]
theorem rS : ∀ c, c ∈ spec → c < 128 ∧ c ≠ 65 ∧ c ≠ 122 ∧ c ≠ 98 ∧ c ≠ 66 ∧ c ≠ 81 ∧ c ≠ 120 ∧ ¬ iT c ∧ tK c = none := by decide
theorem KL {c : Nat} (h : c ∈ spec) : wA c = none := by
  simp only [spec, List.mem_cons, List.not_mem_nil, or_false] at h
  rcases h with h | h | h | h | h | h | h | h | h | h | h | h | h | h <;> subst h <;> rfl
theorem oG {r : Int} (h0 : 0 ≤ r) (h : r < 128) : dK r = [r.toNat] := by
  rw [dK, if_pos ⟨h0, by omega, by omega⟩, gT, if_pos (by omega)]
theorem HN {r : Int} (h : 128 ≤ r) : ∀ b, b ∈ dK r → 128 ≤ b := by
  intro b hb
  unfold dK at hb
  split at hb
  · unfold gT at hb
    rw [if_neg (by omega)] at hb
    split at hb
    · simp at hb; omega
    · split at hb
      · simp at hb; omega
      · simp at hb; omega
  · cases hb
theorem qR_vr {r : Int} (h : IsR r) : VR (qR r) := by
  intro x hx
  unfold qR at hx
  split at hx
  · simp at hx
    rcases hx with rfl | rfl
    · decide
    · exact h
  · simp at hx; subst hx; exact h
theorem qRs_vr {l : List Int} (h : VR l) : VR (l.flatMap qR) := by
  intro x hx
  obtain ⟨r, hr, hx⟩ := List.mem_flatMap.1 hx
  exact qR_vr (h r hr) x hx
theorem KN {r : Int} (h : 128 ≤ r) : ¬ r.toNat ∈ spec := fun hs => by have := (rS _ hs).1; omega
theorem yL {α : Type} {g : α → List α} : ∀ {l : List α}, (∀ b, b ∈ l → g b = [b]) → l.flatMap g = l
  | [], _ => rfl
  | x :: l, h => by rw [List.flatMap_cons, h x (by simp), yL (fun b hb => h b (by simp [hb]))]; rfl
theorem frm_qR {r : Int} (h : IsR r) : frm (qR r) = (dK r).flatMap qc := by
  rcases Int.lt_or_le r 128 with h1 | h1
  · rw [oG h.1 h1]
    show _ = qc r.toNat ++ []
    unfold qR qc
    split
    · show dK 92 ++ (dK r ++ []) = _
      rw [oG h.1 h1]; rfl
    · show dK r ++ [] = _
      rw [oG h.1 h1]
  · rw [qR, if_neg (KN h1)]
    show dK r ++ [] = _
    rw [List.append_nil, yL]
    intro b hb
    have h2 := HN h1 b hb
    rw [qc, if_neg (fun hs => by have := (rS _ hs).1; omega)]
theorem frm_qRs {l : List Int} (h : VR l) : frm (l.flatMap qR) = (frm l).flatMap qc := by
  induction l with
  | nil => rfl
  | cons r l ih =>
    have h1 := ih (fun x hx => h x (by simp [hx]))
    rw [List.flatMap_cons, nL, h1, frm_qR (h r (by simp))]
    show _ = (dK r ++ frm l).flatMap qc
    rw [List.flatMap_append]
theorem GS {l : List Nat} (hl : ∀ b, b ∈ l → b < 256) : ∀ k, k ≤ l.length → qK (bstr l) k = (l.take k).flatMap qc
  | 0, _ => rfl
  | k + 1, hk => by
    rw [qK, GS hl k (by omega), yV (by omega) hl, List.take_add_one, List.getElem?_eq_getElem (by omega), List.flatMap_append]
    simp
theorem qK_txt {s : ByteArray} {N : Nat} (hU : Utf s N) : bstr (qK s s.size) = txt ((gY s N).flatMap qR) := by
  have h1 := IN hU
  have h2 := GS (FQ (gY s N)) _ (Nat.le_refl _)
  have hsz : s.size = (frm (gY s N)).length := by rw [← mT, h1]
  rw [List.take_length, ← hsz, show bstr (frm (gY s N)) = s from h1] at h2
  rw [h2]
  show _ = bstr (frm _)
  rw [frm_qRs (BU hU)]
section
variable {s : ByteArray} {ex : PS → PX Rx} {st : PS}
theorem IZ {c : Nat} (h : At s st.pos [92, c]) (hc : c ∈ spec) : gH s ex st = .ok ([mA st.now c], gU st (st.pos + 2)) := by
  obtain ⟨h1, ⟨h2, h3⟩, -⟩ := h
  obtain ⟨c1, c2, c3, c4, c5, c6, c7, c8, c9⟩ := rS c hc
  have he : nD s st.pos = .ok (c, st.pos + 2) := by
    unfold nD
    rw [if_neg (by omega), h3, c9]
    simp only
    rw [if_neg c7, if_neg (fun h => h.elim (by omega) (fun h9 => c8 h9.1))]
  rw [LM h1.2, HY (by omega) (by omega) (by omega) (by omega) (by omega) (by omega), h3, KL hc, he]
  rfl
theorem FF {r : Int} {n : Nat} (hn : cH s st.pos = (r, n)) (h1 : ¬ sb s st.pos = 40) (h2 : ¬ sb s st.pos = 91) (h3 : ¬ sb s st.pos = 92) (h4 : r ≠ 46) (h5 : r ≠ 94) (h6 : r ≠ 36) : gH s ex st = .ok ([mA st.now r], gU st (st.pos + n)) := by
  rw [LL h1 h2 h3, FE (by rw [hn]; exact h4) (by rw [hn]; exact h5) (by rw [hn]; exact h6), hn]
end
theorem HL {p q : List Int} {r : Int} (hr : IsR r) : (frm p).length < (txt (p ++ r :: q)).size ∧ sb (txt (p ++ r :: q)) (frm p).length ∈ dK r := by
  have e : frm (p ++ r :: q) = frm p ++ (dK r ++ frm q) := by rw [nL]; rfl
  have hp := qL hr
  have hlt : (frm p).length < (frm (p ++ r :: q)).length := by rw [e]; simp only [List.length_append]; omega
  refine ⟨by rw [mT]; exact hlt, ?_⟩
  rw [yV hlt (FQ _)]
  simp only [e]
  rw [List.getElem_append_right (by omega), List.getElem_append_left (by omega)]
  exact List.getElem_mem _
theorem NC {p q : List Int} {r : Int} (h0 : 0 ≤ r) (h : r < 128) : isB (txt (p ++ r :: q)) (frm p).length r.toNat := by
  obtain ⟨h1, h2⟩ := HL (p := p) (q := q) (r := r) ⟨h0, by omega, by omega⟩
  rw [oG h0 h, List.mem_singleton] at h2
  exact ⟨h1, h2⟩
theorem KS {ex : PS → PX Rx} : ∀ (l p : List Int) (f : Nat) (acc : List Rx) (ah : Bool), VR p → VR l → l.length + 1 ≤ f →
    jE (txt (p ++ l.flatMap qR)) ex f acc ah ⟨(frm p).length, flz, 0, []⟩ = .ok (pI 4 (acc ++ l.map iU), ⟨(txt (p ++ l.flatMap qR)).size, flz, 0, []⟩)
  | [], p, f, acc, ah, hp, hl, hf => by
    have e : (txt (p ++ ([] : List Int).flatMap qR)).size = (frm p).length := by rw [List.flatMap_nil, List.append_nil, mT]
    rw [e, oV (.inl (by rw [e]; exact Nat.le_refl _)), List.map_nil, List.append_nil]
  | r :: l, p, 0, acc, ah, hp, hl, hf => by simp at hf
  | r :: l, p, f + 1, acc, ah, hp, hl, hf => by
    have hr := hl r (by simp)
    have hl' : VR l := fun x hx => hl x (by simp [hx])
    have hb : r ≤ 1114111 := hr.2.1
    have h0 : 0 ≤ r := hr.1
    simp only [List.length_cons] at hf
    by_cases hs : r.toNat ∈ spec
    · have h1 := (rS _ hs).1
      have e : p ++ (r :: l).flatMap qR = p ++ 92 :: r :: l.flatMap qR := by rw [List.flatMap_cons, qR, if_pos hs]; rfl
      have e2 : p ++ 92 :: r :: l.flatMap qR = (p ++ [92, r]) ++ l.flatMap qR := by simp
      have e3 : (frm (p ++ [92])).length = (frm p).length + 1 := by rw [nL, List.length_append]; rfl
      have e4 : (frm (p ++ [92, r])).length = (frm p).length + 2 := by rw [nL, List.length_append]; show _ + (dK 92 ++ (dK r ++ [])).length = _; rw [oG h0 (by omega)]; rfl
      have hat : At (txt (p ++ 92 :: r :: l.flatMap qR)) (frm p).length [92, r.toNat] := by
        refine ⟨NC (r := 92) (by decide) (by decide), ?_, trivial⟩
        have h9 := NC (p := p ++ [92]) (q := l.flatMap qR) (r := r) h0 (by omega)
        rw [e3, List.append_assoc] at h9
        exact h9
      have hp2 : VR (p ++ [92, r]) := fun x hx => by
        rcases List.mem_append.1 hx with h | h
        · exact hp x h
        · simp at h
          rcases h with rfl | rfl
          · decide
          · exact hr
      rw [e, qQ (st := ⟨(frm p).length, flz, 0, []⟩) hat.1 (by decide) (IZ (st := ⟨(frm p).length, flz, 0, []⟩) hat hs)]
      have hrr : ((r.toNat : Nat) : Int) = r := by omega
      show jE _ ex f (acc ++ [mA flz (r.toNat : Nat)]) _ ⟨(frm p).length + 2, flz, 0, []⟩ = _
      rw [hrr, rI rfl h0 hb, e2, ← e4, KS l (p ++ [92, r]) f _ _ hp2 hl' (by omega)]
      simp
    · have e : p ++ (r :: l).flatMap qR = p ++ r :: l.flatMap qR := by rw [List.flatMap_cons, qR, if_neg hs]; rfl
      have e2 : p ++ r :: l.flatMap qR = (p ++ [r]) ++ l.flatMap qR := by simp
      have e4 : (frm (p ++ [r])).length = (frm p).length + (dK r).length := by rw [nL, List.length_append]; show _ + (dK r ++ []).length = _; rw [List.append_nil]
      have hp2 : VR (p ++ [r]) := fun x hx => by
        rcases List.mem_append.1 hx with h | h
        · exact hp x h
        · simp at h; subst h; exact hr
      have hn := vW (p := p) (q := l.flatMap qR) hr
      obtain ⟨hlt, hm⟩ := HL (p := p) (q := l.flatMap qR) hr
      have hns : ∀ c, c ∈ spec → sb (txt (p ++ r :: l.flatMap qR)) (frm p).length ≠ c := fun c hc h9 => by
        rcases Int.lt_or_le r 128 with h1 | h1
        · rw [oG h0 h1, List.mem_singleton] at hm
          exact hs (by rw [← hm, h9]; exact hc)
        · have := HN h1 _ hm
          have := (rS c hc).1
          omega
      have hri : ∀ c : Nat, c ∈ spec → r ≠ (c : Int) := fun c hc h9 => hs (by rw [h9]; exact hc)
      rw [e, qQ (c := sb (txt (p ++ r :: l.flatMap qR)) (frm p).length) (st := ⟨(frm p).length, flz, 0, []⟩) ⟨hlt, rfl⟩ ⟨hns 41 (by decide), hns 42 (by decide), hns 43 (by decide), hns 63 (by decide), hns 123 (by decide), hns 124 (by decide)⟩
        (FF (st := ⟨(frm p).length, flz, 0, []⟩) hn (hns 40 (by decide)) (hns 91 (by decide)) (hns 92 (by decide)) (hri 46 (by decide)) (hri 94 (by decide)) (hri 36 (by decide)))]
      show jE _ ex f (acc ++ [mA flz r]) _ ⟨(frm p).length + (dK r).length, flz, 0, []⟩ = _
      rw [rI rfl h0 hb, e2, ← e4, KS l (p ++ [r]) f _ _ hp2 hl' (by omega)]
      simp
theorem GR : ∀ {l : List Int}, VR l → l.length ≤ (frm (l.flatMap qR)).length
  | [], _ => Nat.le_refl _
  | r :: l, h => by
    have h1 := GR (fun x hx => h x (by simp [hx]) : VR l)
    have h2 := qL (h r (by simp))
    have h3 : (dK r).length ≤ (frm (qR r)).length := by
      unfold qR; split
      · show _ ≤ (dK 92 ++ (dK r ++ [])).length
        simp
      · show _ ≤ (dK r ++ []).length
        simp
    rw [List.flatMap_cons, nL, List.length_append, List.length_cons]
    omega
theorem JB {l : List Int} (h : VR l) (hz : (frm (l.flatMap qR)).length ≤ 4096) : jG (txt (l.flatMap qR)) = .ok (pI 4 (l.map iU)) := by
  obtain ⟨ex, he⟩ := GX (txt (l.flatMap qR)) 250
  have hsz : (txt (l.flatMap qR)).size = (frm (l.flatMap qR)).length := mT _
  have h1 := KS (ex := ex) l [] ((txt (l.flatMap qR)).size + 1) [] false (fun x hx => by cases hx) h (by have := GR h; omega)
  rw [List.nil_append, List.nil_append] at h1
  have h2 : nU (txt (l.flatMap qR)) 250 st0 = .ok (pI 4 (l.map iU), ⟨(txt (l.flatMap qR)).size, flz, 0, []⟩) := by
    rw [he]; exact DA h1 (fun h9 => by have := h9.1; simp at this)
  exact LH (by rw [hsz]; omega) ⟨_, (utf_txt (qRs_vr h)).1⟩ h2 (Nat.lt_irrefl _)
theorem BY {s : ByteArray} {N : Nat} (hU : Utf s N) (h : (qK s s.size).length ≤ 4096) : jG (bstr (qK s s.size)) = .ok (pI 4 ((gY s N).map iU)) := by
  have e := qK_txt hU
  have hz : (bstr (qK s s.size)).size = (frm ((gY s N).flatMap qR)).length := by rw [e, mT]
  rw [bsz] at hz
  rw [e]
  exact JB (BU hU) (by omega)
end Go.Proofs.YtljadkcojnlioaaGreatDoor
namespace Go.Proofs.YtljadkcojnlioaaGreatDoor
open Go.Proofs
open Go.W Go.RowKit
attribute [local irreducible] Decidable.decide
theorem EK : eT Tryz.prog 10 := ⟨_, Tryz.func10, by kernel_rfl, by kernel_rfl⟩
theorem EJ : eT Tryz.prog 15 := ⟨_, Tryz.func15, by kernel_rfl, by kernel_rfl⟩
theorem qK_ge (s : ByteArray) : ∀ k, k ≤ (qK s k).length
  | 0 => Nat.zero_le _
  | k + 1 => by have := qK_ge s k; rw [qK, List.length_append]; unfold qc; split <;> simp <;> omega
theorem MB {s : ByteArray} {N : Nat} (h : ∀ k, k < N → 0 < (cH s (dJ s k)).2) : ∀ k, k ≤ N → k ≤ dJ s k
  | 0, _ => Nat.zero_le _
  | k + 1, hk => by
    have h1 := MB h k (by omega)
    have h2 := h k (by omega)
    show k + 1 ≤ dJ s k + (cH s (dJ s k)).2
    omega
theorem zH (X : List Nat) (w : World) (r : Int) : RRx 1 X w [iv 2, .int .i32 r, .slice none 0 0, iv 0, iv 0, .bool false, iv 0, .string ByteArray.empty, .slice none 0 0] (iU r) := ⟨_, _, rfl, xV, xV, Nat.zero_le _, Nat.zero_le _, Nat.zero_le _⟩
theorem onev_rx (X : List Nat) (w : World) : RRx 1 X w [iv 1, .int .i32 0, .slice none 0 0, iv 0, iv 0, .bool false, iv 0, .string ByteArray.empty, .slice none 0 0] (rxK 1) := ⟨_, _, rfl, xV, xV, Nat.zero_le _, Nat.zero_le _, Nat.zero_le _⟩
theorem IT {s : ByteArray} {N : Nat} {T : Rx} (h : T = pI 4 ((gY s N).map iU)) : (N = 0 → T = rxK 1) ∧ (N = 1 → T = iU (xU s 0)) ∧ (2 ≤ N → T.kind = 4 ∧ T.kids.length = N) ∧ (N < 2 → T.kind ≠ 4) ∧ (∀ k (hk : k < T.kids.length), 2 ≤ N → T.kids[k] = iU (xU s k)) := by
  have hl := EV s N
  rcases N with _ | _ | N
  · have e : gY s 0 = [] := List.eq_nil_of_length_eq_zero hl
    have e2 : T = rxK 1 := by rw [h, e]; rfl
    refine ⟨fun _ => e2, fun h9 => by omega, fun h9 => by omega, fun _ => by rw [e2]; decide, fun k hk h9 => by omega⟩
  · have e : gY s 1 = [xU s 0] := rfl
    have e2 : T = iU (xU s 0) := by rw [h, e]; rfl
    refine ⟨fun h9 => by omega, fun _ => e2, fun h9 => by omega, fun _ => by rw [e2]; show ¬ (2 : Int) = 4; decide, fun k hk h9 => by omega⟩
  · have e2 : T = tX 4 ((gY s (N + 1 + 1)).map iU) := by
      rw [h]
      generalize gY s (N + 1 + 1) = l at hl
      match l, hl with
      | a :: b :: l, _ => rfl
    have e3 : T.kids = (gY s (N + 1 + 1)).map iU := by rw [e2]; rfl
    refine ⟨fun h9 => by omega, fun h9 => by omega, fun _ => ⟨by rw [e2]; rfl, by rw [e3, List.length_map, hl]⟩, fun h9 => by omega, fun k hk _ => ?_⟩
    rw [List.getElem_of_eq e3, List.getElem_map]
    congr 1
    have hk2 : k < N + 1 + 1 := by rw [e3, List.length_map, hl] at hk; exact hk
    exact Option.some.inj ((List.getElem?_eq_getElem (by rw [hl]; exact hk2)).symm.trans (EW hk2))
set_option maxHeartbeats 2000000 in
theorem FB {w : World} (s : ByteArray) (hG : Gw w) (hs : s.size ≤ 30000000) :
    Calls Tryz.prog 4 #[.string s] w (Ret fun v w' => v = .bool true ∧ Evo [] w w') := by
  have hqz : (bstr (qK s s.size)).size = (qK s s.size).length := bsz _; have hqg := qK_ge s s.size; refine bO (N := 91) Tryz.func4 rfl rfl rfl ?_; refine aE (aB (aM (aD (aA (aE (aE (aB (aN (vs := []) EK rfl (OJ (hG.evo0 (Evo.refl [] w))) rfl ?_)))))))); rintro _ w1 ⟨rfl, hw2⟩; have hE3 := (Evo.refl [] w).then hw2; refine aC rfl (eU rfl) ?_; refine aD (aA (cK rfl ?_)); refine aW (aA (aE (aB (aG (aN (vs := [_]) uL rfl (EO s hs) rfl ?_))))); rintro _ w4 ⟨rfl, hw5⟩; have hE6 := hE3.then hw5; refine aM (aD (aA (aE (aE (aB (aG (aG (aN (vs := [_]) EJ rfl (IW s hs) rfl ?_)))))))); rintro _ w7 ⟨rfl, hw8⟩; have hE9 := hE6.then hw8; refine aC rfl (sC rfl rfl) ?_; rw [show decide (¬ bstr (qK s s.size) = bstr (qK s s.size)) = false from by simp]; refine aD (aA (cK rfl ?_)); refine aW (aA (aE (aE (aB (aG (aC rfl (cI rfl Tryz.underlying9 rfl) ?_)))))); refine aC rfl (fV rfl rfl) ?_; refine aG (aX (t := 22) rfl (fun hs22 => ?_) (fun hs22 => ?_))
  ·skip
   refine aH (aH (aH (bL (aD (aA (dA rfl ?_)))))); refine aE (aB (aM (aD (aA (aO (aP (aJ rfl rfl ?_))))))); exact ⟨rfl, hE9⟩
  refine aR (aG (aR ?_)); refine aN (vs := [_]) EI rfl (IV s (by omega)) rfl ?_; rintro _ w10 ⟨r0, rfl, hr0, hw11⟩; have hE12 := hE9.then hw11; refine aR (aC rfl (eU rfl) ?_); refine aU (aD (aA (gC rfl (fun hc26 => ?_) (fun hc26 => ?_))))
  ·skip
   refine aE (aB (aM (aD (aA (aO (aP (aJ rfl rfl ?_))))))); exact ⟨rfl, hE12⟩
  obtain ⟨N, hU⟩ := hr0.1 (by simpa using hc26); have hpq9 := BY hU (by omega); obtain ⟨t, ht⟩ : ∃ t, t = pI 4 ((gY s N).map iU) := ⟨_, rfl⟩
  have hpq : jG (bstr (qK s s.size)) = .ok t := by rw [ht]; exact hpq9
  obtain ⟨hT0, hT1, hT2, hT3, hT5⟩ := IT ht; refine aW (aA (aE (aB (aG (aN (vs := [_]) qF rfl (CA (s := bstr (qK s s.size)) (hG.evo0 hE12).glb hpq) rfl ?_))))); rintro _ w13 ⟨vs, bs, rfl, hOT, hFr, hw14⟩; have hE15 := hE12.then hw14; obtain ⟨n1, hx1⟩ := hOT.rrx (X := []) (fun b _ h => by cases h); have hx1' := hx1; obtain ⟨m1, ra1, rc1, ka1, kc1, hm1, rfl, hrg1, hk1, -⟩ := hx1.get; obtain ⟨_, _, hke, -, e1⟩ := hk1; cases hke; refine aG (aC rfl (cR rfl rfl) ?_); refine aC rfl (cR rfl rfl) ?_; refine dG rfl eI fun bx w16 hB17 hs18 hw19 => ?_; have hsz_bx := hs18; have hG20 := Ge.new hE15 hs18; have hG21 := Ge.new (Evo.refl [] w13) hs18; have hE22 := hE15.then hw19; have hE23 := (Evo.refl [] w13).then hw19; refine bN rfl rfl bE hB17 rfl rfl ⟨rfl, rfl, rfl, rfl, rfl, rfl, rfl, rfl, rfl, trivial⟩ fun w24 hB25 hw26 => ?_; have hE27 := hE22.step hw26 hG20.mem1; have hE28 := hE23.step hw26 hG21.mem1
  try simp only [cU, Nat.reduceAdd] at hB25
  refine aM (aD (aA (aE (aE (aB (aG (aC rfl (gA rfl rfl) ?_))))))); rw [show decide ((0 : Int) ≠ 0) = false from by simp]; refine aD (aA (cK rfl ?_)); refine aW (aA (aE (aB (aM (aD (aA (aE (aE (aB (aM (aD (aA (bT (eR (α := Nat) (0) (fun k => [(6, .int .i64 (k : Nat)), (7, .int .i64 (dJ s k : Nat))]) [(0, _), (4, _)] (fun k wr => Evo [] w24 wr ∧ (k ≤ N)) (fun k => N - k) ⟨rfl, rfl, trivial⟩ ⟨rfl, rfl, trivial⟩ ⟨Evo.refl _ _, Nat.zero_le _⟩ ?_)))))))))))))); rintro k wr29 ⟨hV30, hkl⟩; show CW _ _ _ _ [(6, _), (7, _), (0, _), (4, _)] _; have hE31 := hE27.then hV30; have hE32 := hE28.then hV30; have hB33 := hV30.blk0 hB25; refine aE (aE (aB (aG (aG (aC rfl (cI rfl Tryz.underlying9 rfl) ?_))))); refine aC rfl (dH rfl rfl) ?_; refine aD (aA (bI rfl (fun hc37 => ?_) (fun hc37 => ?_)))
  ·skip
   have hkN : k < N := by rcases Nat.lt_or_ge k N with h9 | h9; exact h9; obtain rfl : k = N := (by omega); have := hU.1; omega
   have hob : dJ s k + (cH s (dJ s k)).2 ≤ s.size := mE s (k + 1); have hoc := MB hU.2 k hkl; refine aW (aA (aE (bT (aE (aB (aG (aG ?_))))))); refine aN (vs := [_, _]) uK rfl (vL s (dJ s k) (mE s k) (by omega)) rfl ?_; rintro _ w34 ⟨rfl, hw35⟩; have hE37 := hE32.then hw35; have hE38 := hV30.then hw35; have hB39 := hw35.blk0 hB33; refine aG (aC rfl (cR rfl rfl) ?_); refine aC rfl (cR rfl rfl) ?_; refine aM (aM (aD (aA (aE (aB (aC rfl (cF rfl bV bE hB39 rfl) (dG rfl eI fun by9 w40 hB41 hs42 hw43 => ?_))))))); have hsz_by9 := hs42; have hA44 := Apart.new (Lt.blk hB39) hs42; have hG46 := Ge.new hE37 hs42; have hG47 := Ge.new hE38 hs42; have hE49 := hE37.then hw43; have hE50 := hE38.then hw43; have hB51 := hw43.blk0 hB39; refine bN rfl rfl bE hB41 rfl rfl ⟨rfl, rfl, rfl, rfl, rfl, rfl, rfl, rfl, rfl, trivial⟩ fun w52 hB53 hw54 => ?_; have hE56 := hE49.step hw54 hG46.mem1; have hE57 := hE50.step hw54 hG47.mem1; have hB58 := hw54.blk hB51 hA44.nmem1
   try simp only [cU, Nat.reduceAdd] at hB53
   refine aD (aA (aE (aE (aB (aC rfl (aF rfl eH) (aC rfl (aI rfl bD (aK hB58 rfl)) (aC rfl (bF rfl rfl) ?_))))))); refine aG (aX (t := 50) rfl (fun hs50 => ?_) (fun hs50 => ?_))
   ·skip
    refine aR (aG (aR (aC rfl (aF rfl cP) (aR (aC rfl (aI rfl dF (aK hB58 rfl)) (aR (aC rfl (bQ rfl Tryz.underlying25 rfl) ?_))))))); refine aR (aC rfl (dH rfl rfl) ?_); refine bL (aD (aA (bI rfl (fun hc56 => ?_) (fun hc56 => ?_))))
    ·skip
     have h2N : 2 ≤ N := by rcases Nat.lt_or_ge N 2 with h9 | h9; exact absurd hs50 (hT3 h9); exact h9
     have hk9 : k < t.kids.length := by omega
     obtain ⟨b1, o1, vs1, ha1, -, -, hc1, hr1⟩ := e1 k hk9; obtain ⟨m2, ra2, rc2, ka2, kc2, hm2, rfl, -⟩ := id hr1.get; refine aB (aC rfl (aF rfl cP) (aC rfl (aI rfl dF (aK hB58 rfl)) (aG ?_)))
     refine aC rfl (gP (n := k) (by rw [ha1]; rfl) rfl eB hk9) ?_
     refine aC rfl (eL rfl bV bE (vs := [_, _, _, _, _, _, _, _, _]) rfl (hc1.evo hE56 (by simp))) ?_; refine bN rfl rfl bE hB53 rfl rfl ⟨rfl, rfl, rfl, rfl, rfl, rfl, rfl, rfl, rfl, trivial⟩ fun w59 hB60 hw61 => ?_; have hE63 := hE56.step hw61 hG46.mem1; have hE64 := hE57.step hw61 hG47.mem1
     try simp only [cU, Nat.reduceAdd] at hB60
     refine aD (aA (aE (aE (aB (aC rfl (cF rfl bV bE hB60 rfl) (aG (aC rfl (eE (vs := [(0, _), (1, _)]) dO rfl (cells := [_, _, _, _, _, _, _, _, _]) rfl) ?_))))))); refine aN (vs := [_, _]) lX rfl (pY (RRx.pers _ _ _ _ _ _ hE63 hr1) (zH [] _ _)) rfl ?_; rintro _ w66 ⟨r, rfl, hr, hw67⟩; have hE70 := hE64.then hw67; obtain rfl : r = true := hr.2 (hT5 k hk9 (by omega)); refine aC rfl (eU rfl) ?_; refine aD (aA (cK rfl ?_)); refine aW (aA (aB (aG (aG ?_)))); refine aC rfl (bC rfl rfl (by omega) (by omega)) ?_; refine aM (aD (aZ (aA (aB (aG ?_))))); refine aC rfl (bC rfl rfl (by omega) (by omega)) ?_; refine aM (aD (bY ?_)); refine ⟨(k + 1), ?_, ⟨rfl, rfl, trivial⟩, ⟨rfl, rfl, trivial⟩, hE70, ?_⟩
     · omega
     exact (by omega)
    refine aE (aB (aG (aC rfl (fV rfl rfl) ?_))); refine aD (aA (bI rfl (fun hc63 => ?_) (fun hc63 => ?_)))
    ·skip
     exfalso
     have h9 := hT2 (by omega); omega
    refine aW (aA (aE (aE (aB (aC rfl (cF rfl bV bE hB53 rfl) (aG (aC rfl (eE (vs := [(0, _), (1, _)]) dO rfl (cells := [_, _, _, _, _, _, _, _, _]) rfl) ?_))))))); refine aN (vs := [_, _]) lX rfl (pY (RRx.pers _ _ _ _ _ _ hE56 hx1') (zH [] _ _)) rfl ?_; rintro _ w73 ⟨r, rfl, hr, hw74⟩; have hE77 := hE57.then hw74
    obtain rfl : r = true := hr.2 (by obtain rfl : k = 0 := (by omega); exact hT1 (by omega))
    refine aC rfl (eU rfl) ?_; refine aD (aA (cK rfl ?_)); refine aW (aA (aB (aG (aG ?_)))); refine aC rfl (bC rfl rfl (by omega) (by omega)) ?_; refine aM (aD (aZ (aA (aB (aG ?_))))); refine aC rfl (bC rfl rfl (by omega) (by omega)) ?_; refine aM (aD (bY ?_)); refine ⟨(k + 1), ?_, ⟨rfl, rfl, trivial⟩, ⟨rfl, rfl, trivial⟩, hE77, ?_⟩
    · omega
    exact (by omega)
   refine aH (aH (aH (aH (aH (aU (aD (aA (cK rfl ?_)))))))); refine aE (aB (aG (aC rfl (fV rfl rfl) ?_))); refine aD (aA (bI rfl (fun hc63 => ?_) (fun hc63 => ?_)))
   ·skip
    exfalso
    have h9 := hT2 (by omega); omega
   refine aW (aA (aE (aE (aB (aC rfl (cF rfl bV bE hB53 rfl) (aG (aC rfl (eE (vs := [(0, _), (1, _)]) dO rfl (cells := [_, _, _, _, _, _, _, _, _]) rfl) ?_))))))); refine aN (vs := [_, _]) lX rfl (pY (RRx.pers _ _ _ _ _ _ hE56 hx1') (zH [] _ _)) rfl ?_; rintro _ w80 ⟨r, rfl, hr, hw81⟩; have hE84 := hE57.then hw81
   obtain rfl : r = true := hr.2 (by obtain rfl : k = 0 := (by omega); exact hT1 (by omega))
   refine aC rfl (eU rfl) ?_; refine aD (aA (cK rfl ?_)); refine aW (aA (aB (aG (aG ?_)))); refine aC rfl (bC rfl rfl (by omega) (by omega)) ?_; refine aM (aD (aZ (aA (aB (aG ?_))))); refine aC rfl (bC rfl rfl (by omega) (by omega)) ?_; refine aM (aD (bY ?_)); refine ⟨(k + 1), ?_, ⟨rfl, rfl, trivial⟩, ⟨rfl, rfl, trivial⟩, hE84, ?_⟩
   · omega
   exact (by omega)
  have hkN : k = N := by rcases Nat.lt_or_ge k N with h9 | h9; (have := GZ hU.2 h9 (Nat.le_refl _); have := hU.1; omega); omega
  refine dV (cB (cB (dU (aA ?_)))); refine aE (aE (aB (aG (aC rfl (bF rfl rfl) ?_)))); refine aD (aA (bI rfl (fun hc73 => ?_) (fun hc73 => ?_)))
  ·skip
   refine aE (aB (aC rfl (cF rfl bV bE hB33 rfl) (aC rfl (eE (vs := [(0, _)]) dO rfl (cells := [_, _, _, _, _, _, _, _, _]) rfl) ?_))); refine aN (vs := [_, _]) lX rfl (pY (RRx.pers _ _ _ _ _ _ hE32 hx1') (onev_rx [] _)) rfl ?_; rintro _ w87 ⟨r, rfl, hr, hw88⟩; have hE89 := hE31.then hw88; obtain rfl : r = true := hr.2 (hT0 (by omega)); refine aM (aD (aA (aO (aP (aJ rfl rfl ?_))))); exact ⟨rfl, hE89⟩
  refine aW (aA (aE (aB (aG (aC rfl (bF rfl rfl) ?_))))); refine aG (aX (t := 79) rfl (fun hs79 => ?_) (fun hs79 => ?_))
  ·skip
   refine aR (aC rfl (aF rfl eH) (aR (aC rfl (aI rfl bD (aK hB33 rfl)) (aR (aC rfl (bF rfl rfl) ?_))))); refine bL (aG (aX (t := 84) rfl (fun hs84 => ?_) (fun hs84 => ?_)))
   ·skip
    refine aH (aH (aH (aH (aH (bL (aM (aD (aA (aO (aJ rfl rfl ?_)))))))))); exact ⟨rfl, hE31⟩
   refine aR (aC rfl (aF rfl cP) (aR (aC rfl (aI rfl dF (aK hB33 rfl)) (aR (aC rfl (bQ rfl Tryz.underlying25 rfl) ?_))))); refine aR (aG (aR (aC rfl (bF rfl rfl) ?_))); refine aU (aM (aD (aA (aO (aJ rfl rfl ?_)))))
   exact (hs84 (by rw [hT1 (by omega)]; rfl)).elim
  refine aH (aH (aH (aU (aG (aR (aC rfl (aF rfl cP) (aR (aC rfl (aI rfl dF (aK hB33 rfl)) (aR (aC rfl (bQ rfl Tryz.underlying25 rfl) ?_)))))))))); refine aR (aG (aR (aC rfl (bF rfl rfl) ?_))); refine aU (aM (aD (aA (aO (aJ rfl rfl ?_)))))
  exact ⟨congrArg Value.bool (decide_eq_true (by have h9 := hT2 (by omega); omega)), hE31⟩
end Go.Proofs.YtljadkcojnlioaaGreatDoor
namespace Go.Proofs.YtljadkcojnlioaaGreatDoor
open Go.Proofs
open Go.W Go.ChangeShapes Go.WideShapes Go.ChangeAt Go.RowKit
set_option maxRecDepth 100000 in
theorem NT (H : Type) (enc : TypeId × Value → H) (W : World) (base : Nat) (args : Array Value) (ds gs : List (DataW H)) (before : List MemPlace)
    (hval : ∀ (j : Nat) t v, Tryz.f4.params[j]? = some t → args[j]? = some v → Value.okWide Tryz.prog W .any base t v)
    (hW : DataW.Whole enc Tryz.prog Tryz.f4.params.toList Rows.rxtreeQuotesSpec.vars false W args.toList ds gs before) (hk : Rows.uptoSmall H (ds ++ gs) = true)
    (hsz : (DataW.weightsEach Tryz.prog (Tryz.f4.params.toList ++ Rows.rxtreeQuotesSpec.plain.varTypes Tryz.prog) (ds ++ gs)).all (· ≤ reachBytes) = true) (hG : Gw W) :
    Calls Tryz.prog 4 args W fun e W' => ∃ v, e = .returned v ∧ Rows.rxtreeQuotesSpec.post enc Tryz.prog Tryz.f4 false true false false W args v W' := by
  have hW' := hW
  obtain ⟨p, q, hA0, hV, rfl, hfz, hnd⟩ := hW
  have hA : DataW.TrodAll enc Tryz.prog W 0 (fun _ => true) true Tryz.f4.params.toList args.toList ds p := hA0
  rw [Tryz.params4] at hA hval hsz
  obtain ⟨v0, vs0, d0, ds0, p0, q0, hargs0, rfl, rfl, h0, r0⟩ := trodAll_cons hA
  obtain ⟨hn1, rfl, rfl⟩ := trodAll_nil r0
  subst hn1
  obtain rfl : args = #[v0] := by cases args; simp_all
  obtain ⟨rfl, rfl⟩ := trodVars_none hV
  have hbk := of_decide_eq_true hk
  simp only [List.append_nil, List.cons_append, List.nil_append, Rows.uptoBulkAll] at hbk
  have k0 := h0
  have lt0 : ∀ x ∈ p0, x.block < W.heap.size := by obtain ⟨m, hm⟩ := k0; exact DataW.trod_lt m _ _ _ hm
  obtain ⟨f0, hf0⟩ := h0
  obtain ⟨s0, ⟨hc0, hs0⟩, -⟩ := FJ f0 Tryz.underlying9 H enc W f0 _ _ (Nat.le_refl _) hf0 (fun n hn => by have := List.all_eq_true.1 hsz n (DataW.weights_mem_each (j := 0) rfl rfl n hn); simpa using this) (by simp only; omega)
  obtain ⟨z0, rfl⟩ := okWide_string Tryz.underlying9 (hval 0 9 _ rfl rfl)
  simp [Value.cells] at hc0
  subst hc0
  refine (FB z0 hG (by omega)).mono fun e W' ⟨v, he, hv, bel⟩ => ?_
  subst he hv
  exact ⟨_, rfl, _, _, _, [], _, [], hW', trodAll_mk1 (shut_bool Tryz.underlying4 _), (trodAll_cons_mk (Below.trod laidOut (by kernel_rfl) (of_decide_eq_true (by kernel_rfl)) k0 bel.below lt0) trodAll_mk0), rfl, bel.below.frame _, fun h => by cases h⟩
theorem MO (os : Os) : laidMet Tryz.prog laidL ((tI os).forCall (fun _ _ => 0) ⟨#[], #[.string ByteArray.empty], []⟩).memory :=
  laidMet_of_run' 8 (by kernel_rfl) (by kernel_rfl)
theorem reads (os : Os) {H : Type} (enc : TypeId × Value → H) : ∃ places, DataW.whole enc Tryz.prog ((tI os).forCall (fun _ _ => 0) ⟨#[], #[.string ByteArray.empty], []⟩).memory Tryz.f4.params.toList Rows.rxtreeQuotesSpec.vars false (#[.string ByteArray.empty] : Array Value).toList 8 = some ([.lit (.string [])], [], places) :=
  ⟨[], by kernel_rfl⟩
set_option maxRecDepth 100000 in
theorem lifted (os : Os) (started : os.Started) (H : Type) (enc : TypeId × Value → H) (F : Stop.Interp) :
    ReturnsInHanded {} Tryz.checked os 4 .any ((Rows.OpenSpec.upto Rows.rxtreeQuotesSpec).preRow enc Tryz.prog Tryz.f4 Rows.rxtreeQuotesUptoRow.domain false Rows.rxtreeQuotesUptoRow.laid) (((Rows.OpenSpec.upto Rows.rxtreeQuotesSpec).at F).post enc Tryz.prog Tryz.f4 false true false false) := by
  obtain ⟨places, hx⟩ := reads os enc
  refine returnsInHanded_of_row (C := Tryz.checked) (s := (Rows.OpenSpec.upto Rows.rxtreeQuotesSpec)) own started (by kernel_rfl) Tryz.func4
    (witness_row_at (enc := enc) (C := Tryz.checked) false (tI os) #[.string ByteArray.empty] rfl (by kernel_rfl) (by kernel_rfl) (by kernel_rfl)
      (OpenSpec.preRow_of_cond 8 hx (by kernel_rfl) (fun k hk => by cases hk; kernel_rfl) (by kernel_rfl) (MO os))) ?_
  intro W base args ds gs before hval hW _ hk hsz hL hsh _
  exact NT H enc W base args ds gs before hval hW (hk _ rfl) hsz (gw_of hL hsh)
theorem said : Rows.RxtreeQuotesUptoSaid :=
  OpenClaim.holds_of_cond 4 Tryz.f4 rfl rfl rfl rfl rfl rfl rfl ⟨rfl, rfl, rfl, rfl, rfl⟩ rfl rfl rfl rfl rfl (by kernel_rfl) Tryz.func4 (by kernel_rfl)
    (of_decide_eq_true (by kernel_rfl)) (by unfold Func.isWrapper; first | (rw [if_pos (by decide +kernel)]; kernel_rfl) | (rw [if_neg (by decide +kernel)]; exact ⟨rfl, rfl⟩))
    (fun os started H enc _ F => by rw [OpenClaim.pre_eq_preRow]; exact lifted os started H enc F)
theorem plain (f : FuncId) (fn : Func) (hf : Tryz.pinned.checked.prog.funcNamed "weir/weirlaw08.RxtreeQuotes" = some f) (hfn : Tryz.pinned.checked.prog.funcs[f]? = some fn) :
    true = Tryz.pinned.checked.prog.looks [] ∧ ∀ (j : Nat) t, fn.params[j]? = some t → Tryz.pinned.checked.prog.wantsStandIn t = false := by
  obtain rfl : f = 4 := Option.some.inj ((show Tryz.prog.funcNamed "weir/weirlaw08.RxtreeQuotes" = some 4 by kernel_rfl).symm.trans hf) |>.symm
  obtain rfl : fn = Tryz.f4 := (Option.some.inj (Tryz.func4.symm.trans hfn)).symm
  refine ⟨MM, fun j t ht => ?_⟩
  rw [Tryz.params4] at ht
  rcases j with _ | j
  · obtain rfl : t = 9 := by simpa using ht.symm
    exact (show Tryz.prog.wantsStandIn 9 = false by kernel_rfl)
  · simp at ht
theorem rxtreeQuotes_card : Rows.RxtreeQuotesUptoCardSaid :=
  Claim7.holds_tied_plain_at .later [] _ _ _ _ said (fun _ h => by cases h) (by kernel_rfl) (fun _ h => by cases h) rxtreeQuotesUpto_row_tie rfl ⟨rfl, rfl⟩ (by kernel_rfl) rfl plain (by kernel_rfl)
#print axioms rxtreeQuotes_card
end Go.Proofs.YtljadkcojnlioaaGreatDoor
