/- Shows: part 5 of 7 of what the law rests on. -/
import Derived.Test.YtljadkcojnlioaaGreatDoorPkD
set_option linter.unusedSectionVars false
set_option linter.unusedSimpArgs false
set_option linter.unusedVariables false
namespace Go.Proofs.YtljadkcojnlioaaGreatDoor
open Go.Proofs
open Go.W Go.RowKit
attribute [local irreducible] Decidable.decide
theorem yV : Build Tryz.prog 159 #[(0, 1), (1, 1), (2, 4), (6, 1), (7, 1), (8, 1)] #[.int .i64 0, .string ByteArray.empty, .bool false, .bool false, .bool false, .bool false, .bool false, .bool false, .int .i64 0] := ⟨_, .agg #[.int .i64 0, .string ByteArray.empty, .bool false, .bool false, .bool false, .bool false, .bool false, .bool false, .int .i64 0], Tryz.underlying159, by kernel_rfl, rfl, fun w => by kernel_rfl⟩
theorem iQ : gB Tryz.prog 159 1 = some 1 := by kernel_rfl
theorem gM : gB Tryz.prog 159 3 = some 6 := by kernel_rfl
theorem CF : eM Tryz.prog 143 := ⟨_, Tryz.func143, by kernel_rfl, by kernel_rfl⟩
def hd (k : Nat) : ByteArray := if k = 0 then ByteArray.mk #[40, 63, 80, 60] else ByteArray.mk #[40, 63, 60]
theorem hd_sz (k : Nat) : (k = 0 ∧ (hd k).size = 4) ∨ (k ≠ 0 ∧ (hd k).size = 3) := by
  unfold hd
  by_cases h : k = 0
  · rw [if_pos h]; exact .inl ⟨h, rfl⟩
  · rw [if_neg h]; exact .inr ⟨h, rfl⟩
theorem part_hd {k : Nat} (hk : k < 2) (w : World) : (part 9 #[.string (ByteArray.mk #[40, 63, 80, 60]), .string (ByteArray.mk #[40, 63, 60])] (k * 1)).run Tryz.prog w = .ok (.string (hd k)) w := by
  match k, hk with
  | 0, _ => exact zB w cR rfl
  | 1, _ => exact zB w cR rfl
theorem xP {s : ByteArray} {i k : Nat} (hi : i ≤ s.size) (h0 : isB s i 40 ∧ isB s (i + 1) 63) : Pre (s.extract i s.size) (hd k) ↔ (k = 0 ∧ isB s (i + 2) 80 ∧ isB s (i + 3) 60) ∨ (k ≠ 0 ∧ isB s (i + 2) 60) := by
  unfold hd
  by_cases h : k = 0
  · rw [if_pos h, pre4 hi]
    exact ⟨fun h1 => .inl ⟨h, h1.2.2⟩, fun h1 => by rcases h1 with h1 | h1; exact ⟨h0.1, h0.2, h1.2⟩; exact absurd h h1.1⟩
  · rw [if_neg h, pre3 hi]
    exact ⟨fun h1 => .inr ⟨h, h1.2.2⟩, fun h1 => by rcases h1 with h1 | h1; exact absurd h1.1 h; exact ⟨h0.1, h0.2, h1.2⟩⟩
theorem xG {s : ByteArray} {i : Nat} {fl : Fl} (h : ¬ (isB s i 40 ∧ isB s (i + 1) 63)) : iS s i fl = ⟨1, emp, fl, true, false, 0⟩ := by unfold iS; rw [if_pos h]
theorem KH {s : ByteArray} {i k : Nat} {fl : Fl} (hi : i ≤ s.size) (h0 : isB s i 40 ∧ isB s (i + 1) 63) (hk : k < 2) (h1 : Pre (s.extract i s.size) (hd k)) (h2 : ∀ j, j < k → ¬ Pre (s.extract i s.size) (hd j)) : iS s i fl = oQ s i (hd k).size fl := by
  rcases (show k = 0 ∨ k = 1 by omega) with rfl | rfl
  · unfold iS
    rw [if_neg (fun h => h h0), show (hd 0).size = 4 from rfl]
    rcases (xP hi h0).1 h1 with h3 | h3
    · exact if_pos h3.2
    · exact absurd rfl h3.1
  · unfold iS
    rw [if_neg (fun h => h h0), show (hd 1).size = 3 from rfl, if_neg (fun h => h2 0 (by omega) ((xP hi h0).2 (.inl ⟨rfl, h⟩)))]
    rcases (xP hi h0).1 h1 with h3 | h3
    · exact absurd h3.1 (by omega)
    · exact if_pos h3.2
theorem open_no {s : ByteArray} {i : Nat} {fl : Fl} (hi : i ≤ s.size) (h0 : isB s i 40 ∧ isB s (i + 1) 63) (h2 : ∀ j, j < 2 → ¬ Pre (s.extract i s.size) (hd j)) : iS s i fl = if isB s (i + 2) 58 then ⟨3, emp, fl, false, false, 0⟩ else jJ s i s.size (i + 2) true 0 false fl := by
  unfold iS
  rw [if_neg (fun h => h h0), if_neg (fun h => h2 0 (by omega) ((xP hi h0).2 (.inl ⟨rfl, h⟩))), if_neg (fun h => h2 1 (by omega) ((xP hi h0).2 (.inr ⟨by omega, h⟩)))]
theorem xR {w : World} {b : Nat} {s : ByteArray} {st : PS} {a : Option Addr} {c : Nat} {T : TypeId} {z : Nat × Nat} (h : w.heap[b]? = some (.cells (rdc s st a c) T z)) : ∀ j v, ([.bool st.now.fold, .bool st.now.lines, .bool st.now.dots, .bool st.now.lazy] : List Value)[j]? = some v → w.cell? ⟨b, 2 + j, none⟩ = some v
  | 0, v, e => by cases e; exact iL h rfl
  | 1, v, e => by cases e; exact iL h rfl
  | 2, v, e => by cases e; exact iL h rfl
  | 3, v, e => by cases e; exact iL h rfl
  | j + 4, v, e => by cases e
theorem MT {s : ByteArray} {f j : Nat} (h : j < s.size) (h2 : gK (sb s j)) : kM s (f + 1) j = kM s f (j + 1) := by rw [kM, if_pos ⟨h, h2⟩]
theorem jX {s : ByteArray} {f j : Nat} (h : ¬ (j < s.size ∧ gK (sb s j))) : kM s f j = j := by
  cases f with
  | zero => rfl
  | succ f => rw [kM, if_neg h]
theorem kV {s : ByteArray} {i h : Nat} {fl : Fl} {j : Nat} (e : kM s s.size (i + h) = j) (hc : j = i + h ∨ ¬ isB s j 62) : oQ s i h fl = ⟨0, emp, fl, false, false, 85⟩ := by unfold oQ; rw [e, if_pos hc]
theorem oP {s : ByteArray} {i h : Nat} {fl : Fl} {j : Nat} (e : kM s s.size (i + h) = j) (hc : ¬ (j = i + h ∨ ¬ isB s j 62)) : oQ s i h fl = ⟨j + 1 - i, s.extract (i + h) j, fl, true, false, 0⟩ := by unfold oQ; rw [e, if_neg hc]
structure HdI (w wr : World) (b2 b4 : Nat) (s : ByteArray) (i : Nat) (fl : Fl) (k : Nat) : Prop where
  hk : k ≤ 2
  no : ∀ j, j < k → ¬ Pre (s.extract i s.size) (hd j)
structure WdG where
  f : Nat
  m : Nat
structure WdI (s : ByteArray) (i h : Nat) (x : WdG) : Prop where
  hm : i + x.m ≤ s.size
  hh : h ≤ x.m
  hf : s.size ≤ x.f + (i + x.m)
  eq : kM s s.size (i + h) = kM s x.f (i + x.m)
theorem nJ {w : World} {b : Nat} {s : ByteArray} {st : PS} {a : Option Addr} {c : Nat} {ob : Option Nat} (hR : RdAt w b s st a c ob) (hs : s.size ≤ 1000000) (hlt : st.pos < s.size) :
    Calls Tryz.prog 127 #[.pointer (some ⟨b, 0, none⟩)] w (Ret fun v w' => v = .agg (opV (iS s st.pos st.now)) ∧ Evo [] w w') := by
  have hap := hR.ap
  have hle : st.pos ≤ s.size := by omega
  have hrs := gI (s := s) (a := st.pos) (Nat.le_refl s.size); refine bL (N := 87) Tryz.func127 rfl rfl rfl ?_; refine aF (aC (dN rfl jG fun b2 w1 hB2 hs3 hw4 => ?_)); have hsz_b2 := hs3; have hG7 := Ge.new (Evo.refl [] w) hs3; have hE8 := (Evo.refl [] w).then hw4; have hB9 := hw4.blk0 hR.blk; refine aD (aA (aF ?_)); refine fN (by kernel_rfl) (by kernel_rfl) ?_; refine aW rfl (fun _ hq12 => bM rfl) ?_; refine aW rfl (fun _ hq12 => aR rfl) ?_; refine aW rfl (fun _ hq12 => aE rfl dO) ?_; refine aW rfl (fun _ hq12 => aI rfl cR (aJ (hq12.blk0 hB9) rfl)) ?_; refine aW rfl (fun _ hq12 => bM rfl) ?_; refine aW rfl (fun _ hq12 => aR rfl) ?_; refine aW rfl (fun _ hq12 => aE rfl bK) ?_; refine aW rfl (fun _ hq12 => aI rfl aU (aJ (hq12.blk0 hB9) rfl)) ?_; refine aW rfl (fun _ hq12 => gX (l := st.pos) rfl rfl Tryz.underlying9 rfl hle) ?_; refine aW rfl (fun _ hq12 => eE rfl) ?_; refine fR (fun wq11 hq12 => aA ?_); have hE13 := hE8.then hq12; have hB14 := hq12.blk0 hB9; have hB16 := hq12.blk0 hB2; refine aF (aC (aH (aB rfl (aR rfl) (aB rfl (aE rfl eX) (aB rfl (eQ (o := 2) rfl iY dU (vs := [.bool st.now.fold, .bool st.now.lines, .bool st.now.dots, .bool st.now.lazy]) rfl (xR hB14)) ?_))))); refine aB rfl (eU (vs := [(2, _)]) yV rfl (cells := [_, _, _, _, _, _, _, _, _]) rfl) ?_; refine dN rfl jG fun b4 w17 hB18 hs19 hw20 => ?_; have hsz_b4 := hs19
  have hA23 := Apart.new (Lt.blk hB16) hs19; have hG24 := Ge.new hE13 hs19; have hE25 := hE13.then hw20; have hB28 := hw20.blk0 hB16; refine bQ rfl rfl bR hB18 rfl rfl ⟨rfl, rfl, rfl, rfl, rfl, rfl, rfl, rfl, rfl, trivial⟩ fun w29 hB30 hw31 => ?_; have hE32 := hE25.step hw31 hG24.mem1; have hB35 := hw31.blk hB28 hA23.nmem1
  try simp only [dB, Nat.reduceAdd] at hB30
  refine aD (aA (aF (aF (aC (aH ?_))))); refine aN (vs := [_, _]) mX rfl (wO (s.extract st.pos s.size) (ByteArray.mk #[40, 63]) (by omega) (show 2 ≤ 140737488355328 by omega)) rfl ?_; rintro _ w36 ⟨rfl, hw37⟩; have hE38 := hE32.then hw37; have hB41 := hw37.blk0 hB35; have hB42 := hw37.blk0 hB30; refine aB rfl (lH rfl) ?_; refine aD (aA (bJ rfl (fun hc24 => ?_) (fun hc24 => ?_)))
  ·skip
   refine aF (aC (aB rfl (aE rfl fW) (bN rfl rfl (rfl) cB hB42 rfl fun w43 hB44 hw45 => ?_))); have hE46 := hE38.step hw45 hG24.mem1; have hB49 := hw45.blk hB41 hA23.nmem1
   try simp only [dB, Nat.reduceAdd] at hB44
   refine aB rfl (aE rfl gM) (bN rfl rfl (rfl) gF hB44 rfl fun w50 hB51 hw52 => ?_); have hE53 := hE46.step hw52 hG24.mem1; have hB56 := hw52.blk hB49 hA23.nmem1
   try simp only [dB, Nat.reduceAdd] at hB51
   refine aD (aA (aF (aC (aB rfl (cA rfl cY bR hB51 rfl) (bQ rfl rfl bR hB56 rfl rfl ⟨rfl, rfl, rfl, rfl, rfl, rfl, rfl, rfl, rfl, trivial⟩ fun w57 hB58 hw59 => ?_))))); have hE60 := hE53.step hw59 hG7.mem1
   try simp only [dB, Nat.reduceAdd] at hB58
   refine aD (aA (aQ (aO (dM rfl (ResOk.cellA rfl cY bR hB58 rfl) ?_)))); rw [xG (fun h => hc24 ((mM hle).2 h))]; exact ⟨rfl, hE60⟩
  have h40 := (mM hle).1 (Classical.not_not.1 hc24); refine bA (aA (aF (aF (aC ?_)))); refine aB rfl (rK (vs := [(0, _), (1, _)]) Tryz.underlying164 BS kI rfl (cells := #[.string (ByteArray.mk #[40, 63, 80, 60]), .string (ByteArray.mk #[40, 63, 60])]) (by kernel_rfl)) ?_; refine aH (aD (aA (bX ?_))); refine eT (α := Nat) (0) (fun k => [(29, .int .i64 (k : Nat))]) [(2, _), (3, _), (4, _), (28, _)] (fun k wr => Evo [] w36 wr ∧ (HdI w wr b2 b4 s st.pos st.now k)) (fun k => 2 - k) ⟨rfl, trivial⟩ ⟨rfl, rfl, rfl, rfl, trivial⟩ ⟨Evo.refl _ _, ⟨Nat.zero_le _, fun j h => by cases h⟩⟩ ?_; rintro k wr64 ⟨hV65, ⟨hk2, hno⟩⟩; show CW _ _ _ _ [(29, _), (2, _), (3, _), (4, _), (28, _)] _; have hE66 := hE38.then hV65; have hB69 := hV65.blk0 hB41; have hB70 := hV65.blk0 hB42; refine aF (aC (aB rfl (dF rfl rfl) ?_)); refine aD (aA (aF (bJ rfl (fun hc30 => ?_) (fun hc30 => ?_))))
  ·skip
   refine bA (aA (aF (bX (aF (aC ?_))))); refine aB rfl (JC (n := k) rfl rfl Tryz.underlying164 rfl (by omega) kI (part_hd (by omega))) ?_; refine aM (aD (aA (aF (aF (aC (aH (aH ?_)))))))
   refine aN (vs := [_, _]) mX rfl (wO (s.extract st.pos s.size) (hd k) (by omega) (by have := hd_sz k; omega)) rfl ?_
   rintro _ w71 ⟨rfl, hw72⟩; have hE73 := hE66.then hw72; have hE74 := hV65.then hw72; have hB77 := hw72.blk0 hB69; have hB78 := hw72.blk0 hB70; refine aB rfl (lH rfl) ?_; refine aD (aA (bJ rfl (fun hc35 => ?_) (fun hc35 => ?_)))
   ·skip
    refine dT (cK (dS (aA ?_))); refine aC ?_; refine aB rfl (bF rfl rfl (by omega) (by omega)) ?_; refine aH (aD (bI ?_)); refine ⟨k + 1, ?_, ⟨rfl, trivial⟩, ⟨rfl, rfl, rfl, rfl, trivial⟩, hE74, ?_⟩
    · omega
    refine ⟨by omega, fun j hj => ?_⟩
    by_cases e : j = k
    · subst e; exact hc35
    · exact hno j (by omega)
   have hpk := Classical.not_not.1 hc35; have hsz := hd_sz k; have hsl : (hd k).size ≤ (s.extract st.pos s.size).size := hpk.1; have hop := KH (fl := st.now) hle h40 (by omega) hpk hno; refine bA (aA (aF (aC (aH (aB rfl (cX rfl Tryz.underlying9 rfl) ?_))))); refine aM (aD (aA (aF (bX ?_))))
   refine eT (α := WdG) (⟨s.size, (hd k).size⟩) (fun x => [(7, .int .i64 (x.m : Nat))]) [(2, _), (3, _), (4, _), (6, _), (28, _), (29, _)] (fun x wr => Evo [] w71 wr ∧ (WdI s st.pos (hd k).size x)) (fun x => x.f) ⟨rfl, trivial⟩ ⟨rfl, rfl, rfl, rfl, rfl, rfl, trivial⟩ ⟨Evo.refl _ _, ⟨by show st.pos + (hd k).size ≤ s.size; omega, Nat.le_refl _, Nat.le_add_right _ _, rfl⟩⟩ ?_
   rintro ⟨f, m⟩ wr79 ⟨hV80, ⟨hm, hhm, hf, heq⟩⟩; show CW _ _ _ _ [(7, .int .i64 (m : Nat)), (2, _), (3, _), (4, _), (6, _), (28, _), (29, _)] _
   try dsimp only at hm
   try dsimp only at hhm
   try dsimp only at hf
   try dsimp only at heq
   have hE81 := hE73.then hV80; have hB85 := hV80.blk0 hB77; have hB86 := hV80.blk0 hB78; refine aF (aF (aC (aH (aH (aB rfl (cX rfl Tryz.underlying9 rfl) ?_))))); refine aB rfl (dF rfl rfl) ?_; refine aH (aX (t := 42) rfl (fun hs42 => ?_) (fun hs42 => ?_))
   ·skip
    have e0 : sb (s.extract st.pos s.size) m = sb s (st.pos + m) := hI (by omega); refine aP (aH (aP (aH (aP ?_)))); refine aB rfl (fZ (n := m) rfl rfl Tryz.underlying9 rfl (by omega) e0) ?_; refine aP (aN (vs := [_]) mY rfl (wH (sb s (st.pos + m))) rfl ?_); rintro _ w87 ⟨rfl, hw88⟩; have hE89 := hE81.then hw88; have hE91 := hV80.then hw88; have hB94 := hw88.blk0 hB85; have hB95 := hw88.blk0 hB86; refine bD (aD (aA (bJ rfl (fun hc47 => ?_) (fun hc47 => ?_))))
    ·skip
     refine bA (aA (bX (aC (aH ?_)))); refine aB rfl (bF rfl rfl (by omega) (by omega)) ?_; refine aM (aD (aY (bI ?_))); refine ⟨⟨f - 1, m + 1⟩, ?_, ⟨rfl, trivial⟩, ⟨rfl, rfl, rfl, rfl, rfl, rfl, trivial⟩, hE91, ?_⟩
     · (try dsimp only); show f - 1 < f; omega
     try dsimp only
     have hf2 : f = f - 1 + 1 := by omega
     exact ⟨(by show st.pos + (m + 1) ≤ s.size; omega), Nat.le_succ_of_le hhm, (by show s.size ≤ f - 1 + (st.pos + (m + 1)); omega), heq.trans (by rw [hf2]; exact MT (by omega) hc47)⟩
    refine dT (cK (cK (dS (aA ?_)))); refine aF (aF (aC (aH (aH (aB rfl (cX rfl Tryz.underlying9 rfl) ?_))))); refine aB rfl (bC rfl rfl) ?_; refine aH (aX (t := 54) rfl (fun hs54 => ?_) (fun hs54 => ?_))
    ·skip
     refine aG (aG (aG (aG (bD (aH (aG (aG (aG (aG (bD (aD (aA (cW rfl ?_))))))))))))); refine aF (aC (aB rfl (aE rfl fA) (bN rfl rfl (rfl) gG hB95 rfl fun w96 hB97 hw98 => ?_))); have hE99 := hE89.step hw98 hG24.mem1; have hB104 := hw98.blk hB94 hA23.nmem1
     try simp only [dB, Nat.reduceAdd] at hB97
     refine aD (aA (aF (aC (aB rfl (cA rfl cY bR hB97 rfl) (bQ rfl rfl bR hB104 rfl rfl ⟨rfl, rfl, rfl, rfl, rfl, rfl, rfl, rfl, rfl, trivial⟩ fun w105 hB106 hw107 => ?_))))); have hE108 := hE99.step hw107 hG7.mem1
     try simp only [dB, Nat.reduceAdd] at hB106
     refine aD (aA (aQ (aO (aZ (aO (aO (aZ (aO (dM rfl (ResOk.cellA rfl cY bR hB106 rfl) ?_)))))))))
     have hend := heq.trans (jX (by rintro ⟨h1, h2⟩; first | omega | exact hc47 h2))
     rw [hop, kV hend (.inl (by omega))]; exact ⟨rfl, hE108⟩
    refine aP (aH (aP (aH (aP (aB rfl (cX rfl Tryz.underlying9 rfl) ?_))))); refine aP (aB rfl (bC rfl rfl) ?_); refine aV (aH (aX (t := 60) rfl (fun hs60 => ?_) (fun hs60 => ?_)))
    ·skip
     refine aG (aG (aG (aG (bD (aD (aA (cW rfl ?_))))))); refine aF (aC (aB rfl (aE rfl fA) (bN rfl rfl (rfl) gG hB95 rfl fun w112 hB113 hw114 => ?_))); have hE115 := hE89.step hw114 hG24.mem1; have hB120 := hw114.blk hB94 hA23.nmem1
     try simp only [dB, Nat.reduceAdd] at hB113
     refine aD (aA (aF (aC (aB rfl (cA rfl cY bR hB113 rfl) (bQ rfl rfl bR hB120 rfl rfl ⟨rfl, rfl, rfl, rfl, rfl, rfl, rfl, rfl, rfl, trivial⟩ fun w121 hB122 hw123 => ?_))))); have hE124 := hE115.step hw123 hG7.mem1
     try simp only [dB, Nat.reduceAdd] at hB122
     refine aD (aA (aQ (aO (aZ (aO (aO (aZ (aO (dM rfl (ResOk.cellA rfl cY bR hB122 rfl) ?_)))))))))
     have hend := heq.trans (jX (by rintro ⟨h1, h2⟩; first | omega | exact hc47 h2))
     rw [hop, kV hend (.inr (fun h => by have := h.1; omega))]
     exact ⟨rfl, hE124⟩
    have e0 : sb (s.extract st.pos s.size) m = sb s (st.pos + m) := hI (by omega); refine aP (aH (aP (aH (aP ?_)))); refine aB rfl (fZ (n := m) rfl rfl Tryz.underlying9 rfl (by omega) e0) ?_; refine aP (aB rfl (gJ rfl rfl) ?_); refine aV (aD (aA (bJ rfl (fun hc65 => ?_) (fun hc65 => ?_))))
    ·skip
     refine aF (aC (aB rfl (aE rfl fA) (bN rfl rfl (rfl) gG hB95 rfl fun w128 hB129 hw130 => ?_))); have hE131 := hE89.step hw130 hG24.mem1; have hB136 := hw130.blk hB94 hA23.nmem1
     try simp only [dB, Nat.reduceAdd] at hB129
     refine aD (aA (aF (aC (aB rfl (cA rfl cY bR hB129 rfl) (bQ rfl rfl bR hB136 rfl rfl ⟨rfl, rfl, rfl, rfl, rfl, rfl, rfl, rfl, rfl, trivial⟩ fun w137 hB138 hw139 => ?_))))); have hE140 := hE131.step hw139 hG7.mem1
     try simp only [dB, Nat.reduceAdd] at hB138
     refine aD (aA (aQ (aO (aZ (aO (aO (aZ (aO (dM rfl (ResOk.cellA rfl cY bR hB138 rfl) ?_)))))))))
     have hend := heq.trans (jX (by rintro ⟨h1, h2⟩; first | omega | exact hc47 h2))
     rw [hop, kV hend (.inr (fun h => by have := h.2; omega))]
     exact ⟨rfl, hE140⟩
    have e74 : (s.extract st.pos s.size).extract (hd k).size m = s.extract (st.pos + (hd k).size) (st.pos + m) := xS (by omega) hhm; refine bA (aA (aF ?_)); refine hD (fun w0 w' => Evo [b4] w0 w') (by kernel_rfl) (fun w144 hw145 => ?_); have hE146 := hE89.then hw145; have hB151 := hw145.blk0 hB94; have hB152 := hw145.blk0 hB95; refine bB 0 rfl (by kernel_rfl) (by kernel_rfl) (by kernel_rfl) rfl (fun _ hS => bM rfl) (Evo.refl [b4] w144) ?_; refine bB 1 rfl (by kernel_rfl) (by kernel_rfl) (by kernel_rfl) rfl (fun _ hS => bF rfl rfl (by omega) (by omega)) (Evo.refl [b4] w144) ?_; refine bB 2 rfl (by kernel_rfl) (by kernel_rfl) (by kernel_rfl) rfl (fun _ hS => bM rfl) (Evo.refl [b4] w144) ?_; refine bB 3 rfl (by kernel_rfl) (by kernel_rfl) (by kernel_rfl) rfl (fun _ hS => bM rfl) (Evo.refl [b4] w144) ?_; refine bB 4 rfl (by kernel_rfl) (by kernel_rfl) (by kernel_rfl) rfl (fun _ hS => cX rfl Tryz.underlying9 rfl) (Evo.refl [b4] w144) ?_; refine bB 5 rfl (by kernel_rfl) (by kernel_rfl) (by kernel_rfl) rfl (fun _ hS => bM rfl) (Evo.refl [b4] w144) ?_; refine bB 7 rfl (by kernel_rfl) (by kernel_rfl) (by kernel_rfl) rfl (fun _ hS => aE rfl fW) (Evo.refl [b4] w144) ?_; refine cL [6, 8] (by kernel_rfl) rfl ⟨?_, ?_, trivial⟩
    ·skip
     refine cV rfl ?_; refine aB rfl (qR (l := (hd k).size) (h := m) rfl rfl rfl Tryz.underlying9 rfl rfl hhm (by omega) e74) ?_; refine aD (cG (.inl (Evo.refl [b4] w144)) ?_); refine cL [8] (by kernel_rfl) rfl ⟨?_, trivial⟩; refine cV rfl ?_; refine bN rfl rfl (rfl) cB hB152 rfl fun w153 hB154 hw155 => ?_; have hE156 := hE146.step hw155 hG24.mem1; have hE159 := (Evo.refl [b4] w144).step hw155 (fun y hy => .inl hy); have hB162 := hw155.blk hB151 hA23.nmem1
     try simp only [dB, Nat.reduceAdd] at hB154
     refine aD (cG (.inl hE159) ?_); refine bB 9 rfl (by kernel_rfl) (by kernel_rfl) (by kernel_rfl) rfl (fun _ hS => aE rfl iQ) hE159 ?_; refine cL [10] (by kernel_rfl) rfl ⟨?_, trivial⟩; refine cV rfl ?_; refine bN rfl rfl (rfl) kI hB154 rfl fun w163 hB164 hw165 => ?_; have hE166 := hE156.step hw165 hG24.mem1; have hE167 := hE159.step hw165 (fun y hy => .inl hy); have hB170 := hw165.blk hB162 hA23.nmem1
     try simp only [dB, Nat.reduceAdd] at hB164
     refine aD (cG (.inl hE167) ?_); refine bB 11 rfl (by kernel_rfl) (by kernel_rfl) (by kernel_rfl) rfl (fun _ hS => aE rfl gM) hE167 ?_; refine cL [12] (by kernel_rfl) rfl ⟨?_, trivial⟩; refine cV rfl ?_; refine bN rfl rfl (rfl) gF hB164 rfl fun w171 hB172 hw173 => ?_; have hE174 := hE166.step hw173 hG24.mem1; have hE175 := hE167.step hw173 (fun y hy => .inl hy); have hB178 := hw173.blk hB170 hA23.nmem1
     try simp only [dB, Nat.reduceAdd] at hB172
     refine aD (cG (.inl hE175) ?_); refine eH (by kernel_rfl) (aA ?_); refine aF (aC (aB rfl (cA rfl cY bR hB172 rfl) (bQ rfl rfl bR hB178 rfl rfl ⟨rfl, rfl, rfl, rfl, rfl, rfl, rfl, rfl, rfl, trivial⟩ fun w179 hB180 hw181 => ?_))); have hE182 := hE174.step hw181 hG7.mem1
     try simp only [dB, Nat.reduceAdd] at hB180
     refine aD (aA (aQ (aZ (aO (aO (aZ (aO (dM rfl (ResOk.cellA rfl cY bR hB180 rfl) ?_))))))))
     have hend := heq.trans (jX (by rintro ⟨h1, h2⟩; first | omega | exact hc47 h2))
     rw [hop, oP hend (by rintro (h | h); omega; exact h ⟨by omega, by omega⟩)]
     refine ⟨?_, hE182⟩; simp only [opV]; rw [show ((st.pos + m + 1 - st.pos : Nat) : Int) = (m : Int) + 1 by omega]
    refine cV rfl ?_; refine bN rfl rfl (rfl) cB hB152 rfl fun w186 hB187 hw188 => ?_; have hE189 := hE146.step hw188 hG24.mem1; have hE192 := (Evo.refl [b4] w144).step hw188 (fun y hy => .inl hy); have hB195 := hw188.blk hB151 hA23.nmem1
    try simp only [dB, Nat.reduceAdd] at hB187
    refine aD (cG (.inl hE192) ?_); refine cL [6] (by kernel_rfl) rfl ⟨?_, trivial⟩; refine cV rfl ?_; refine aB rfl (qR (l := (hd k).size) (h := m) rfl rfl rfl Tryz.underlying9 rfl rfl hhm (by omega) e74) ?_; refine aD (cG (.inl hE192) ?_); refine bB 9 rfl (by kernel_rfl) (by kernel_rfl) (by kernel_rfl) rfl (fun _ hS => aE rfl iQ) hE192 ?_; refine cL [10] (by kernel_rfl) rfl ⟨?_, trivial⟩; refine cV rfl ?_; refine bN rfl rfl (rfl) kI hB187 rfl fun w196 hB197 hw198 => ?_; have hE199 := hE189.step hw198 hG24.mem1; have hE200 := hE192.step hw198 (fun y hy => .inl hy); have hB203 := hw198.blk hB195 hA23.nmem1
    try simp only [dB, Nat.reduceAdd] at hB197
    refine aD (cG (.inl hE200) ?_); refine bB 11 rfl (by kernel_rfl) (by kernel_rfl) (by kernel_rfl) rfl (fun _ hS => aE rfl gM) hE200 ?_; refine cL [12] (by kernel_rfl) rfl ⟨?_, trivial⟩; refine cV rfl ?_; refine bN rfl rfl (rfl) gF hB197 rfl fun w204 hB205 hw206 => ?_; have hE207 := hE199.step hw206 hG24.mem1; have hE208 := hE200.step hw206 (fun y hy => .inl hy); have hB211 := hw206.blk hB203 hA23.nmem1
    try simp only [dB, Nat.reduceAdd] at hB205
    refine aD (cG (.inl hE208) ?_); refine eH (by kernel_rfl) (aA ?_); refine aF (aC (aB rfl (cA rfl cY bR hB205 rfl) (bQ rfl rfl bR hB211 rfl rfl ⟨rfl, rfl, rfl, rfl, rfl, rfl, rfl, rfl, rfl, trivial⟩ fun w212 hB213 hw214 => ?_))); have hE215 := hE207.step hw214 hG7.mem1
    try simp only [dB, Nat.reduceAdd] at hB213
    refine aD (aA (aQ (aZ (aO (aO (aZ (aO (dM rfl (ResOk.cellA rfl cY bR hB213 rfl) ?_))))))))
    have hend := heq.trans (jX (by rintro ⟨h1, h2⟩; first | omega | exact hc47 h2))
    rw [hop, oP hend (by rintro (h | h); omega; exact h ⟨by omega, by omega⟩)]
    refine ⟨?_, hE215⟩; simp only [opV]; rw [show ((st.pos + m + 1 - st.pos : Nat) : Int) = (m : Int) + 1 by omega]
   refine aG (aG (aG (aG (aV (aD (aA (cQ rfl ?_))))))); refine dT (cK (cK (dS (aA ?_)))); refine aF (aF (aC (aH (aH (aB rfl (cX rfl Tryz.underlying9 rfl) ?_))))); refine aB rfl (bC rfl rfl) ?_; refine aH (aX (t := 54) rfl (fun hs54 => ?_) (fun hs54 => ?_))
   ·skip
    refine aG (aG (aG (aG (bD (aH (aG (aG (aG (aG (bD (aD (aA (cW rfl ?_))))))))))))); refine aF (aC (aB rfl (aE rfl fA) (bN rfl rfl (rfl) gG hB86 rfl fun w219 hB220 hw221 => ?_))); have hE222 := hE81.step hw221 hG24.mem1; have hB227 := hw221.blk hB85 hA23.nmem1
    try simp only [dB, Nat.reduceAdd] at hB220
    refine aD (aA (aF (aC (aB rfl (cA rfl cY bR hB220 rfl) (bQ rfl rfl bR hB227 rfl rfl ⟨rfl, rfl, rfl, rfl, rfl, rfl, rfl, rfl, rfl, trivial⟩ fun w228 hB229 hw230 => ?_))))); have hE231 := hE222.step hw230 hG7.mem1
    try simp only [dB, Nat.reduceAdd] at hB229
    refine aD (aA (aQ (aO (aZ (aO (aO (aZ (aO (dM rfl (ResOk.cellA rfl cY bR hB229 rfl) ?_)))))))))
    have hend := heq.trans (jX (by rintro ⟨h1, h2⟩; first | omega | exact hc47 h2))
    rw [hop, kV hend (.inl (by omega))]; exact ⟨rfl, hE231⟩
   refine aP (aH (aP (aH (aP (aB rfl (cX rfl Tryz.underlying9 rfl) ?_))))); refine aP (aB rfl (bC rfl rfl) ?_); refine aV (aH (aX (t := 60) rfl (fun hs60 => ?_) (fun hs60 => ?_)))
   ·skip
    refine aG (aG (aG (aG (bD (aD (aA (cW rfl ?_))))))); refine aF (aC (aB rfl (aE rfl fA) (bN rfl rfl (rfl) gG hB86 rfl fun w235 hB236 hw237 => ?_))); have hE238 := hE81.step hw237 hG24.mem1; have hB243 := hw237.blk hB85 hA23.nmem1
    try simp only [dB, Nat.reduceAdd] at hB236
    refine aD (aA (aF (aC (aB rfl (cA rfl cY bR hB236 rfl) (bQ rfl rfl bR hB243 rfl rfl ⟨rfl, rfl, rfl, rfl, rfl, rfl, rfl, rfl, rfl, trivial⟩ fun w244 hB245 hw246 => ?_))))); have hE247 := hE238.step hw246 hG7.mem1
    try simp only [dB, Nat.reduceAdd] at hB245
    refine aD (aA (aQ (aO (aZ (aO (aO (aZ (aO (dM rfl (ResOk.cellA rfl cY bR hB245 rfl) ?_)))))))))
    have hend := heq.trans (jX (by rintro ⟨h1, h2⟩; first | omega | exact hc47 h2))
    rw [hop, kV hend (.inr (fun h => by have := h.1; omega))]
    exact ⟨rfl, hE247⟩
   have e0 : sb (s.extract st.pos s.size) m = sb s (st.pos + m) := hI (by omega); refine aP (aH (aP (aH (aP ?_)))); refine aB rfl (fZ (n := m) rfl rfl Tryz.underlying9 rfl (by omega) e0) ?_; refine aP (aB rfl (gJ rfl rfl) ?_); refine aV (aD (aA (bJ rfl (fun hc65 => ?_) (fun hc65 => ?_))))
   ·skip
    refine aF (aC (aB rfl (aE rfl fA) (bN rfl rfl (rfl) gG hB86 rfl fun w251 hB252 hw253 => ?_))); have hE254 := hE81.step hw253 hG24.mem1; have hB259 := hw253.blk hB85 hA23.nmem1
    try simp only [dB, Nat.reduceAdd] at hB252
    refine aD (aA (aF (aC (aB rfl (cA rfl cY bR hB252 rfl) (bQ rfl rfl bR hB259 rfl rfl ⟨rfl, rfl, rfl, rfl, rfl, rfl, rfl, rfl, rfl, trivial⟩ fun w260 hB261 hw262 => ?_))))); have hE263 := hE254.step hw262 hG7.mem1
    try simp only [dB, Nat.reduceAdd] at hB261
    refine aD (aA (aQ (aO (aZ (aO (aO (aZ (aO (dM rfl (ResOk.cellA rfl cY bR hB261 rfl) ?_)))))))))
    have hend := heq.trans (jX (by rintro ⟨h1, h2⟩; first | omega | exact hc47 h2))
    rw [hop, kV hend (.inr (fun h => by have := h.2; omega))]
    exact ⟨rfl, hE263⟩
   have e74 : (s.extract st.pos s.size).extract (hd k).size m = s.extract (st.pos + (hd k).size) (st.pos + m) := xS (by omega) hhm; refine bA (aA (aF ?_)); refine hD (fun w0 w' => Evo [b4] w0 w') (by kernel_rfl) (fun w267 hw268 => ?_); have hE269 := hE81.then hw268; have hB274 := hw268.blk0 hB85; have hB275 := hw268.blk0 hB86; refine bB 0 rfl (by kernel_rfl) (by kernel_rfl) (by kernel_rfl) rfl (fun _ hS => bM rfl) (Evo.refl [b4] w267) ?_; refine bB 1 rfl (by kernel_rfl) (by kernel_rfl) (by kernel_rfl) rfl (fun _ hS => bF rfl rfl (by omega) (by omega)) (Evo.refl [b4] w267) ?_; refine bB 2 rfl (by kernel_rfl) (by kernel_rfl) (by kernel_rfl) rfl (fun _ hS => bM rfl) (Evo.refl [b4] w267) ?_; refine bB 3 rfl (by kernel_rfl) (by kernel_rfl) (by kernel_rfl) rfl (fun _ hS => bM rfl) (Evo.refl [b4] w267) ?_; refine bB 4 rfl (by kernel_rfl) (by kernel_rfl) (by kernel_rfl) rfl (fun _ hS => cX rfl Tryz.underlying9 rfl) (Evo.refl [b4] w267) ?_; refine bB 5 rfl (by kernel_rfl) (by kernel_rfl) (by kernel_rfl) rfl (fun _ hS => bM rfl) (Evo.refl [b4] w267) ?_; refine bB 7 rfl (by kernel_rfl) (by kernel_rfl) (by kernel_rfl) rfl (fun _ hS => aE rfl fW) (Evo.refl [b4] w267) ?_; refine cL [6, 8] (by kernel_rfl) rfl ⟨?_, ?_, trivial⟩
   ·skip
    refine cV rfl ?_; refine aB rfl (qR (l := (hd k).size) (h := m) rfl rfl rfl Tryz.underlying9 rfl rfl hhm (by omega) e74) ?_; refine aD (cG (.inl (Evo.refl [b4] w267)) ?_); refine cL [8] (by kernel_rfl) rfl ⟨?_, trivial⟩; refine cV rfl ?_; refine bN rfl rfl (rfl) cB hB275 rfl fun w276 hB277 hw278 => ?_; have hE279 := hE269.step hw278 hG24.mem1; have hE282 := (Evo.refl [b4] w267).step hw278 (fun y hy => .inl hy); have hB285 := hw278.blk hB274 hA23.nmem1
    try simp only [dB, Nat.reduceAdd] at hB277
    refine aD (cG (.inl hE282) ?_); refine bB 9 rfl (by kernel_rfl) (by kernel_rfl) (by kernel_rfl) rfl (fun _ hS => aE rfl iQ) hE282 ?_; refine cL [10] (by kernel_rfl) rfl ⟨?_, trivial⟩; refine cV rfl ?_; refine bN rfl rfl (rfl) kI hB277 rfl fun w286 hB287 hw288 => ?_; have hE289 := hE279.step hw288 hG24.mem1; have hE290 := hE282.step hw288 (fun y hy => .inl hy); have hB293 := hw288.blk hB285 hA23.nmem1
    try simp only [dB, Nat.reduceAdd] at hB287
    refine aD (cG (.inl hE290) ?_); refine bB 11 rfl (by kernel_rfl) (by kernel_rfl) (by kernel_rfl) rfl (fun _ hS => aE rfl gM) hE290 ?_; refine cL [12] (by kernel_rfl) rfl ⟨?_, trivial⟩; refine cV rfl ?_; refine bN rfl rfl (rfl) gF hB287 rfl fun w294 hB295 hw296 => ?_; have hE297 := hE289.step hw296 hG24.mem1; have hE298 := hE290.step hw296 (fun y hy => .inl hy); have hB301 := hw296.blk hB293 hA23.nmem1
    try simp only [dB, Nat.reduceAdd] at hB295
    refine aD (cG (.inl hE298) ?_); refine eH (by kernel_rfl) (aA ?_); refine aF (aC (aB rfl (cA rfl cY bR hB295 rfl) (bQ rfl rfl bR hB301 rfl rfl ⟨rfl, rfl, rfl, rfl, rfl, rfl, rfl, rfl, rfl, trivial⟩ fun w302 hB303 hw304 => ?_))); have hE305 := hE297.step hw304 hG7.mem1
    try simp only [dB, Nat.reduceAdd] at hB303
    refine aD (aA (aQ (aZ (aO (aO (aZ (aO (dM rfl (ResOk.cellA rfl cY bR hB303 rfl) ?_))))))))
    have hend := heq.trans (jX (by rintro ⟨h1, h2⟩; first | omega | exact hc47 h2))
    rw [hop, oP hend (by rintro (h | h); omega; exact h ⟨by omega, by omega⟩)]
    refine ⟨?_, hE305⟩; simp only [opV]; rw [show ((st.pos + m + 1 - st.pos : Nat) : Int) = (m : Int) + 1 by omega]
   refine cV rfl ?_; refine bN rfl rfl (rfl) cB hB275 rfl fun w309 hB310 hw311 => ?_; have hE312 := hE269.step hw311 hG24.mem1; have hE315 := (Evo.refl [b4] w267).step hw311 (fun y hy => .inl hy); have hB318 := hw311.blk hB274 hA23.nmem1
   try simp only [dB, Nat.reduceAdd] at hB310
   refine aD (cG (.inl hE315) ?_); refine cL [6] (by kernel_rfl) rfl ⟨?_, trivial⟩; refine cV rfl ?_; refine aB rfl (qR (l := (hd k).size) (h := m) rfl rfl rfl Tryz.underlying9 rfl rfl hhm (by omega) e74) ?_; refine aD (cG (.inl hE315) ?_); refine bB 9 rfl (by kernel_rfl) (by kernel_rfl) (by kernel_rfl) rfl (fun _ hS => aE rfl iQ) hE315 ?_; refine cL [10] (by kernel_rfl) rfl ⟨?_, trivial⟩; refine cV rfl ?_; refine bN rfl rfl (rfl) kI hB310 rfl fun w319 hB320 hw321 => ?_; have hE322 := hE312.step hw321 hG24.mem1; have hE323 := hE315.step hw321 (fun y hy => .inl hy); have hB326 := hw321.blk hB318 hA23.nmem1
   try simp only [dB, Nat.reduceAdd] at hB320
   refine aD (cG (.inl hE323) ?_); refine bB 11 rfl (by kernel_rfl) (by kernel_rfl) (by kernel_rfl) rfl (fun _ hS => aE rfl gM) hE323 ?_; refine cL [12] (by kernel_rfl) rfl ⟨?_, trivial⟩; refine cV rfl ?_; refine bN rfl rfl (rfl) gF hB320 rfl fun w327 hB328 hw329 => ?_; have hE330 := hE322.step hw329 hG24.mem1; have hE331 := hE323.step hw329 (fun y hy => .inl hy); have hB334 := hw329.blk hB326 hA23.nmem1
   try simp only [dB, Nat.reduceAdd] at hB328
   refine aD (cG (.inl hE331) ?_); refine eH (by kernel_rfl) (aA ?_); refine aF (aC (aB rfl (cA rfl cY bR hB328 rfl) (bQ rfl rfl bR hB334 rfl rfl ⟨rfl, rfl, rfl, rfl, rfl, rfl, rfl, rfl, rfl, trivial⟩ fun w335 hB336 hw337 => ?_))); have hE338 := hE330.step hw337 hG7.mem1
   try simp only [dB, Nat.reduceAdd] at hB336
   refine aD (aA (aQ (aZ (aO (aO (aZ (aO (dM rfl (ResOk.cellA rfl cY bR hB336 rfl) ?_))))))))
   have hend := heq.trans (jX (by rintro ⟨h1, h2⟩; first | omega | exact hc47 h2))
   rw [hop, oP hend (by rintro (h | h); omega; exact h ⟨by omega, by omega⟩)]
   refine ⟨?_, hE338⟩; simp only [opV]; rw [show ((st.pos + m + 1 - st.pos : Nat) : Int) = (m : Int) + 1 by omega]
  have hnn : ∀ j, j < 2 → ¬ Pre (s.extract st.pos s.size) (hd j) := fun j hj => hno j (by omega); have hop := open_no (fl := st.now) hle h40 hnn; refine dT (cK (cK (dS (aA ?_)))); refine aF (aF (aC (aH ?_))); refine aN (vs := [_, _]) mX rfl (wO (s.extract st.pos s.size) (ByteArray.mk #[40, 63, 58]) (by omega) (show 3 ≤ 140737488355328 by omega)) rfl ?_; rintro _ w342 ⟨rfl, hw343⟩; have hE344 := hE66.then hw343; have hB348 := hw343.blk0 hB69; have hB349 := hw343.blk0 hB70; refine aD (aA (bJ rfl (fun hc81 => ?_) (fun hc81 => ?_)))
  ·skip
   refine aF (aC (aB rfl (aE rfl fW) (bN rfl rfl (rfl) cB hB349 rfl fun w350 hB351 hw352 => ?_))); have hE353 := hE344.step hw352 hG24.mem1; have hB357 := hw352.blk hB348 hA23.nmem1
   try simp only [dB, Nat.reduceAdd] at hB351
   refine aD (aA (aF (aC (aB rfl (cA rfl cY bR hB351 rfl) (bQ rfl rfl bR hB357 rfl rfl ⟨rfl, rfl, rfl, rfl, rfl, rfl, rfl, rfl, rfl, trivial⟩ fun w358 hB359 hw360 => ?_))))); have hE361 := hE353.step hw360 hG7.mem1
   try simp only [dB, Nat.reduceAdd] at hB359
   refine aD (aA (aQ (aO (dM rfl (ResOk.cellA rfl cY bR hB359 rfl) ?_)))); have h58 : isB s (st.pos + 2) 58 := ((pre3 hle).1 hc81).2.2; rw [hop, if_pos h58]; exact ⟨rfl, hE361⟩
  refine bA (aA (aF (aC (aH (aB rfl (cA rfl cY bR hB349 rfl) ?_)))))
  refine aN (vs := [_, _]) CF rfl (GH s st.pos st.now (by have := h40.2.1; omega) hs) rfl ?_
  rintro _ w365 ⟨rfl, hw366⟩; have hE367 := hE344.then hw366; have hB371 := hw366.blk0 hB348; refine bQ rfl rfl bR hB371 rfl rfl ⟨rfl, rfl, rfl, rfl, rfl, rfl, rfl, rfl, rfl, trivial⟩ fun w373 hB374 hw375 => ?_; have hE376 := hE367.step hw375 hG7.mem1
  try simp only [dB, Nat.reduceAdd] at hB374
  refine aD (aA (aQ (dM rfl (ResOk.cellA rfl cY bR hB374 rfl) ?_))); have h58 : ¬ isB s (st.pos + 2) 58 := fun h => hc81 ((pre3 hle).2 ⟨h40.1, h40.2, h⟩); rw [hop, if_neg h58]; exact ⟨rfl, hE376⟩
end Go.Proofs.YtljadkcojnlioaaGreatDoor
namespace Go.Proofs.YtljadkcojnlioaaGreatDoor
open Go.Proofs
open Go.W Go.RowKit
attribute [local irreducible] Decidable.decide
theorem mB : EX Tryz.prog 25 25 = some (27, 9, 112) := by kernel_rfl
theorem mZ : eM Tryz.prog 116 := ⟨_, Tryz.func116, by kernel_rfl, by kernel_rfl⟩
theorem OTs.evo0 {l : List Rx} {w w' : World} {cs : List Value} {bs : List Nat} (h : OTs l w cs bs) (he : Evo [] w w') : OTs l w' cs bs := h.evo he (fun b hb h => by cases h)
theorem OT.evo0 {x : Rx} {w w' : World} {vs : List Value} {bs : List Nat} (h : OT x w vs bs) (he : Evo [] w w') : OT x w' vs bs := h.evo he (fun b hb h => by cases h)
theorem pZ {w : World} {o : Option Nat} {bs : List Nat} (h : Fr w (o.toList ++ bs)) : ∀ q, q ∈ bs → q ∉ o.toList := fun q hq ho => (List.nodup_append.1 h.nd).2.2 q ho q hq rfl
theorem nU {w : World} {o : Option Nat} {bs : List Nat} (h : Fr w (o.toList ++ bs)) : Ge w o := fun g hg => h.ge g (by simp [hg])
theorem Fr.grow {w w1 w2 : World} {o o2 : Option Nat} {bs bx : List Nat} (h : Fr w (o.toList ++ bs)) (hl : ∀ b, b ∈ o.toList ++ bs → b < w1.heap.size) (hx : Fr w1 bx) (hx2 : ∀ b, b ∈ bx → b < w2.heap.size) (hw : w.heap.size ≤ w1.heap.size) (h12 : w1.heap.size ≤ w2.heap.size)
    (hob : o2 = o ∨ ∃ g, o2 = some g ∧ w2.heap.size ≤ g) : Fr w (o2.toList ++ (bs ++ bx)) := by
  rcases hob with rfl | ⟨g, rfl, hg⟩
  · rw [← List.append_assoc]
    exact h.app hx hw hl
  · have hb : Fr w (bs ++ bx) := Fr.app ⟨(List.nodup_append.1 h.nd).2.1, fun b hb => h.ge b (List.mem_append_right _ hb)⟩ hx hw (fun b hb => hl b (List.mem_append_right _ hb))
    refine ⟨List.nodup_cons.2 ⟨fun hm => ?_, hb.nd⟩, fun b hb2 => ?_⟩
    · have hm' : g ∈ bs ++ bx := by simpa using hm
      rcases List.mem_append.1 hm' with hm' | hm'
      · have := hl g (List.mem_append_right _ hm'); omega
      · have := hx2 g hm'; omega
    · rcases List.mem_cons.1 hb2 with rfl | hb2
      · omega
      · exact hb.ge b hb2
theorem oG {w : World} {a : Option Addr} {n c : Nat} {cs : List Value} {o : Option Nat} {l : List Rx} {bs : List Nat} (hO : OwnS w 27 9 a n c cs o) (hT : OTs l w cs bs) : ∀ b, b ∈ o.toList ++ bs → b < w.heap.size := fun b hb => (List.mem_append.1 hb).elim (AQ hO b) (hT.lt b)
theorem II {w : World} {o : Option Nat} {bs : List Nat} {b : Nat} (h : Fr w (o.toList ++ bs)) (hb : Lt w (some b)) : ∀ q, q ∈ bs → q ∉ [b] := fun q hq hm => by
  have h1 := h.ge q (List.mem_append_right _ hq)
  have h2 := hb b rfl
  rw [List.mem_singleton.1 hm] at h1; omega
theorem IX {s : ByteArray} {a b j k : Nat} (h : kP s a b s.size j = some k) : sb s k = a ∧ sb s (k + 1) = b := ((rI s a b s.size j (by omega)).1 k h).2.1.2
structure QuG where
  f : Nat
  i : Nat
  n : Nat
  l : List Rx
  qa : Option Addr
  qc : Nat
  qo : Option Nat
  bs : List Nat
structure QuI (w wr : World) (b : Nat) (s : ByteArray) (st : PS) (a : Option Addr) (c : Nat) (ob : Option Nat) (e i0 : Nat) (x : QuG) : Prop where
  hr : RdAt wr b s (iG st x.i) a c ob
  bd : Bd s x.i
  eq : rO s st.now e s.size [] i0 = rO s st.now e x.f x.l x.i
  hf : s.size ≤ x.f + x.i
  kt : ∃ cs, OwnS wr 27 9 x.qa x.n x.qc cs x.qo ∧ OTs x.l wr cs x.bs
  fr : Fr w (x.qo.toList ++ x.bs)
  len : x.l.length + i0 ≤ x.i
  ie : x.i ≤ e
theorem MF {s : ByteArray} {fl : Fl} {e f i : Nat} {l : List Rx} (h : i < e) : rO s fl e (f + 1) l i = rO s fl e f (l ++ [oI fl (dA s i).1]) (i + (dA s i).2) := by rw [rO, if_pos h]
theorem HZ {s : ByteArray} {fl : Fl} {e f i : Nat} {l : List Rx} (h : ¬ i < e) : rO s fl e f l i = (l, i) := by
  cases f with
  | zero => rfl
  | succ f => rw [rO, if_neg h]
theorem qJ {w : World} {a : Option Addr} {n c : Nat} {cs : List Value} {o : Option Nat} {l : List Rx} {bs : List Nat} (hO : OwnS w 27 9 a n c cs o) (hT : OTs l w cs bs) : n = l.length := by have h1 := hO.length; have h2 := hT.len; omega
theorem pq_some {s : ByteArray} {st : PS} {k : Nat} (h : kP s 92 69 s.size (st.pos + 2) = some k) : sE s st = .ok ((rO s st.now k s.size [] (st.pos + 2)).1, { st with pos := (rO s st.now k s.size [] (st.pos + 2)).2 + 2 }) := by unfold sE; rw [h]
theorem pq_none {s : ByteArray} {st : PS} (h : kP s 92 69 s.size (st.pos + 2) = none) : sE s st = .ok ((rO s st.now s.size s.size [] (st.pos + 2)).1, { st with pos := (rO s st.now s.size s.size [] (st.pos + 2)).2 }) := by unfold sE; rw [h]
theorem JK {s : ByteArray} {i e : Nat} (h : Bd s i) (hi : i < e) (he : Bd s e) : i + (dA s i).2 ≤ e := by
  obtain ⟨N, k, hU, hk, rfl⟩ := h
  obtain ⟨M, m, hV, hm, rfl⟩ := he
  have hkm : k < m := by
    rcases Nat.lt_or_ge k m with h | h
    · exact h
    · have := lU s h; omega
  exact lU s (show k + 1 ≤ m from hkm)
theorem Bd.size {s : ByteArray} {i : Nat} (h : Bd s i) : Bd s s.size := by obtain ⟨N, k, hU, hk, _⟩ := h; exact ⟨N, N, hU, Nat.le_refl _, hU.1⟩
theorem AM {w : World} {b : Nat} {s : ByteArray} {st : PS} {a : Option Addr} {c : Nat} {ob : Option Nat} (hR : RdAt w b s st a c ob) (hs : s.size ≤ 10000) (hb : Bd s (st.pos + 2)) (hG : Glb w) :
    Calls Tryz.prog 132 #[.pointer (some ⟨b, 0, none⟩)] w (Ret fun v w' => ∃ l st', sE s st = .ok (l, st') ∧ KOut w w' v l ∧ Evo [b] w w' ∧ RdAt w' b s st' a c ob ∧ st'.opn = st.opn ∧ st'.names = st.names ∧ st.pos + 2 ≤ st'.pos ∧ Bd s st'.pos ∧ l.length + st.pos ≤ st'.pos) := by
  have hap := hR.ap; have hgb : nO ∉ [b] := fun h => hR.glb hG (List.mem_singleton.1 h).symm; have hle := hb.le; have hbw : Lt w (some b) := Lt.blk hR.blk; have how : Lt w ob := Lt.own hR.own; refine bL (N := 59) Tryz.func132 rfl rfl rfl ?_; refine aF (aC (aM (aD (aA (aF (aC (aH (aB rfl (aR rfl) (aB rfl (aE rfl bK) (aB rfl (aI rfl aU (aJ hR.blk rfl)) ?_)))))))))); refine aB rfl (bF rfl rfl (by omega) (by omega)) ?_; refine aB rfl (aR rfl) (aB rfl (aE rfl bK) (bN rfl rfl (rfl) cB hR.blk rfl fun w1 hB2 hw3 => ?_)); have hE4 := (Evo.refl [b] w).step hw3 (fun y hy => .inl hy); have hO5 := hR.own.evo hw3 hap.symm.own1
  try simp only [dB, Nat.reduceAdd] at hB2
  refine aD (aA (aF (aC (aH (aB rfl (aR rfl) (aB rfl (aE rfl dO) (aB rfl (aI rfl cR (aJ hB2 rfl)) (aB rfl (cX rfl Tryz.underlying9 rfl) ?_)))))))); refine aM (aM (aD (aA (aF (aF ?_))))); refine hD (fun w0 w' => Evo [] w0 w') (by kernel_rfl) (fun w6 hw7 => ?_); have hE8 := hE4.then hw7; have hB9 := hw7.blk0 hB2; have hO10 := hO5.evo0 hw7; refine bB 0 rfl (by kernel_rfl) (by kernel_rfl) (by kernel_rfl) rfl (fun _ hS => bM rfl) (Evo.refl [] w6) ?_; refine bB 1 rfl (by kernel_rfl) (by kernel_rfl) (by kernel_rfl) rfl (fun _ hS => aR rfl) (Evo.refl [] w6) ?_; refine bB 2 rfl (by kernel_rfl) (by kernel_rfl) (by kernel_rfl) rfl (fun _ hS => aE rfl dO) (Evo.refl [] w6) ?_; refine bB 3 rfl (by kernel_rfl) (by kernel_rfl) (by kernel_rfl) rfl (fun _ hS => aI rfl cR (aJ (hS.blk0 hB9) rfl)) (Evo.refl [] w6) ?_; refine bB 4 rfl (by kernel_rfl) (by kernel_rfl) (by kernel_rfl) rfl (fun _ hS => bM rfl) (Evo.refl [] w6) ?_; refine bB 5 rfl (by kernel_rfl) (by kernel_rfl) (by kernel_rfl) rfl (fun _ hS => aR rfl) (Evo.refl [] w6) ?_; refine bB 6 rfl (by kernel_rfl) (by kernel_rfl) (by kernel_rfl) rfl (fun _ hS => aE rfl bK) (Evo.refl [] w6) ?_; refine bB 7 rfl (by kernel_rfl) (by kernel_rfl) (by kernel_rfl) rfl (fun _ hS => aI rfl aU (aJ (hS.blk0 hB9) rfl)) (Evo.refl [] w6) ?_; refine cL [8] (by kernel_rfl) rfl ⟨?_, trivial⟩; refine cV rfl ?_
  refine aB rfl (gX (l := st.pos + 2) rfl rfl Tryz.underlying9 rfl hle) ?_; refine aD (cG (.inl (Evo.refl [] w6)) ?_); refine cL [9] (by kernel_rfl) rfl ⟨?_, trivial⟩; refine cV rfl ?_; refine aN (vs := [_, _]) tP rfl (IR s 92 69 (st.pos + 2) hle (by omega) (hG.evo hE8 hgb)) rfl ?_; rintro _ w11 ⟨rfl, hw12⟩; have hE13 := hE8.then hw12; have hE14 := (Evo.refl [] w6).then hw12; have hB15 := hw12.blk0 hB9; have hO16 := hO10.evo0 hw12; refine aD (cG (.inl hE14) ?_); refine bB 10 rfl (by kernel_rfl) (by kernel_rfl) (by kernel_rfl) rfl (fun _ hS => eE rfl) hE14 ?_; refine eH (by kernel_rfl) (aA ?_); refine aF (aC (aH (aB rfl (fD rfl rfl) ?_))); refine aD (aA (bJ rfl (fun hc30 => ?_) (fun hc30 => ?_)))
  ·skip
   obtain ⟨k, hk, hfk, hk2, hk3⟩ := IW hc30; rw [hfk]
   have hbk : Bd s k := nF hb (by omega) (by omega) (by have h9 : sb s k = 92 := (IX hk).1; omega)
   refine aC (aH (aB rfl (aR rfl) (aB rfl (aE rfl bK) (aB rfl (aI rfl aU (aJ hB15 rfl)) (aH ?_))))); refine aB rfl (JD (r := ((k : Nat) : Int)) rfl rfl (by omega) (by omega) (by omega)) ?_; refine aM (aM (aD (aA (aF (aC (aM (aD (aA (aF (bX ?_))))))))))
   refine eT (α := QuG) (⟨s.size, st.pos + 2, 0, [], none, 0, none, []⟩) (fun x => [(6, .slice x.qa x.n x.qc)]) [(0, _), (2, _), (3, _), (4, _)] (fun x wr => Evo [b] w wr ∧ (QuI w wr b s st a c ob k (st.pos + 2) x)) (fun x => x.f) ⟨rfl, trivial⟩ ⟨rfl, rfl, rfl, rfl, trivial⟩ ⟨hE13, ⟨⟨hB15, hO16, hR.ne⟩, hb, rfl, Nat.le_add_right _ _, ⟨[], OwnS.nil _ _ _, OTs.nil _⟩, Fr.nil _, (by show 0 + (st.pos + 2) ≤ st.pos + 2; omega), (by show st.pos + 2 ≤ _; omega)⟩⟩ ?_
   rintro ⟨f, i, n, l, qa, qc, qo, bs⟩ wr17 ⟨hV18, ⟨hR9, hbi, heq, hfi, ⟨cs, hown, hts⟩, hfr, hlen, hie⟩⟩; show CW _ _ _ _ [(6, .slice qa n qc), (0, _), (2, _), (3, _), (4, _)] _
   try dsimp only at hR9
   try dsimp only at hbi
   try dsimp only at heq
   try dsimp only at hfi
   try dsimp only at cs
   try dsimp only at hown
   try dsimp only at hts
   try dsimp only at hfr
   try dsimp only at hlen
   try dsimp only at hie
   have hpi : (iG st i).pos = i := rfl; have hil := hbi.le; have hA2 : Apart ob qo := kO how (nU hfr); have hA1 : Apart (some b) qo := kO hbw (nU hfr); refine aF (aF (aC (aH (aB rfl (aR rfl) (aB rfl (aE rfl bK) (aB rfl (aI rfl aU (aJ hR9.blk rfl)) (aH (aB rfl (dF rfl rfl) ?_)))))))); refine aD (aA (bJ rfl (fun hc42 => ?_) (fun hc42 => ?_)))
   ·skip
    have hii : i < k := by omega
    have hsz2 := (hbk).le; obtain ⟨hn0, hn1, hn2, hr0, hr1⟩ := hbi.next (by omega); have hn3 := JK hbi hii (hbk); obtain ⟨f', rfl⟩ : ∃ f', f = f' + 1 := ⟨f - 1, by omega⟩; have hql := oG hown hts; refine bA (aA (bX (aC (aH (aH (aH ?_)))))); refine aN (vs := [_]) nA rfl (wJ ⟨hR9.blk, hR9.own, hR9.ne⟩ (by omega) hbi) rfl ?_; rintro _ w19 ⟨rfl, hw20, hR2⟩; have hE21 := hV18.step hw20 (fun y hy => .inl hy); have hB22 := hown.evo hw20 ((by first | exact hA1.symm.own1 | exact hA1.symm.nmem1)); have hB23 := hts.evo hw20 (II hfr hbw); refine aN (vs := [_, _]) mZ rfl (AU hR2 (dA s i).1 hr0 hr1) rfl ?_; rintro rv w24 ⟨hT, hw25⟩; have hcall9 := hw25; have hV9 := hE21; have hl1 := oG hB22 hB23; have hql2 : ∀ q, q ∈ qo.toList → q < _ := fun q hq => hl1 q (List.mem_append_left _ hq); have hE26 := hE21.then hw25; have hO27 := hB22.evo0 hw25; have hF28 := hB23.evo0 hw25; have hB29 := hw25.blk0 hR2.blk; have hO30 := hR2.own.evo0 hw25; obtain ⟨vs, bx, rfl, hOT, hFx⟩ := hT; obtain ⟨ra, rc, ka, kc, rfl⟩ := id hOT.nine; refine bP (vs := [_]) rfl dQ rfl rfl rfl rfl fun b31 w32 hO33 hs34 hw35 => ?_; have hE41 := hE26.then hw35; have hE42 := (Evo.refl [] w24).then hw35; have hO43 := hO27.evo0 hw35; have hF44 := hF28.evo0 hw35; have hB45 := hw35.blk0 hB29; have hO46 := hO30.evo0 hw35; have hF47 := hOT.evo0 hw35; have hLT9 := hF47; have hVV := hE42
    refine dX rfl rfl rfl rfl mB hO43 (Src.ofOwn hO33 ⟨rfl, rfl, rfl, rfl, rfl, rfl, rfl, rfl, rfl, trivial⟩) (by have := qJ hown hts; omega) fun a2 c2 w50 ob2 hO2 hw53 hob54 => ?_
    have hE59 := hE41.step hw53 (nU hfr).mem; have hF61 := hF44.evo hw53 (pZ hfr); have hB62 := hw53.blk hB45 hA1.nmem; have hO63 := hO46.evo hw53 hA2.own
    have hF64 := hF47.evo hw53 (fun q hq h => by have h8 := hFx.ge q hq; have h9 := hql2 q h; omega)
    have hob2 := hob54; have hFr9 := Fr.grow hfr hl1 hFx (OT.lt hLT9) hV9.size (Nat.le_trans hcall9.size hVV.size) hob2; refine aM (aD (aY (bI ?_))); refine ⟨⟨f', i + (dA s i).2, n + 1, l ++ [oI st.now (dA s i).1], a2, c2, ob2, bs ++ bx⟩, ?_, ⟨rfl, trivial⟩, ⟨rfl, rfl, rfl, rfl, trivial⟩, hE59, ?_⟩
    · (try dsimp only); omega
    try dsimp only
    have hTs := OTs.app hF61 (OTs.single hF64)
    refine ⟨⟨hB62, hO63, hR2.ne⟩, hn2, ?_, (by show s.size ≤ f' + (i + (dA s i).2); omega), ⟨_, hO2, hTs⟩, hFr9, ?_, hn3⟩
    · rw [heq]; exact MF hii
    · show (l ++ [oI st.now (dA s i).1]).length + (st.pos + 2) ≤ i + (dA s i).2; rw [List.length_append]; simp; omega
   refine dT (cK (cK (dS (aA ?_)))); refine aF (aC (aH (aB rfl (aR rfl) (aB rfl (aE rfl bK) (aB rfl (aI rfl aU (aJ hR9.blk rfl)) (aH ?_)))))); refine aB rfl (bF rfl rfl (by omega) (by omega)) ?_; refine aB rfl (aR rfl) (aB rfl (aE rfl bK) (bN rfl rfl (rfl) cB hR9.blk rfl fun w66 hB67 hw68 => ?_)); have hE69 := hV18.step hw68 (fun y hy => .inl hy); have hO70 := hR9.own.evo hw68 hR9.ap.symm.own1; have hO71 := hown.evo hw68 hA1.symm.own1; have hF72 := hts.evo hw68 (II hfr hbw)
   try simp only [dB, Nat.reduceAdd] at hB67
   refine aD (aA (aF (aC (aH (aM (aD (aA (aQ (aK rfl rfl ?_))))))))); have hend := heq.trans (HZ (by omega)); obtain rfl := qJ hown hts; have h69 : sb s k = 92 ∧ sb s (k + 1) = 69 := IX hk
   obtain rfl : i = k := by omega
   have hb2 : Bd s (i + 1) := isB.asc (b := 92) ⟨by omega, h69.1⟩ (by decide) hbi; have hb3 : Bd s (i + 2) := isB.asc (b := 69) ⟨by omega, h69.2⟩ (by decide) hb2
   exact ⟨l, iG st (i + 2), (pq_some hk).trans (by rw [hend]; rfl), ⟨_, _, _, _, _, rfl, hO71, hF72, hfr⟩, hE69, ⟨hB67, hO70, hR9.ne⟩, rfl, rfl, (by show st.pos + 2 ≤ i + 2; omega), hb3, (by show l.length + st.pos ≤ i + 2; omega)⟩
  refine bA (aA (aF (aC (aM (aD (aA (aF (bX ?_))))))))
  refine eT (α := QuG) (⟨s.size, st.pos + 2, 0, [], none, 0, none, []⟩) (fun x => [(6, .slice x.qa x.n x.qc)]) [(0, _), (2, _), (3, _), (4, _)] (fun x wr => Evo [b] w wr ∧ (QuI w wr b s st a c ob s.size (st.pos + 2) x)) (fun x => x.f) ⟨rfl, trivial⟩ ⟨rfl, rfl, rfl, rfl, trivial⟩ ⟨hE13, ⟨⟨hB15, hO16, hR.ne⟩, hb, rfl, Nat.le_add_right _ _, ⟨[], OwnS.nil _ _ _, OTs.nil _⟩, Fr.nil _, (by show 0 + (st.pos + 2) ≤ st.pos + 2; omega), (by show st.pos + 2 ≤ _; omega)⟩⟩ ?_
  rintro ⟨f, i, n, l, qa, qc, qo, bs⟩ wr73 ⟨hV74, ⟨hR9, hbi, heq, hfi, ⟨cs, hown, hts⟩, hfr, hlen, hie⟩⟩; show CW _ _ _ _ [(6, .slice qa n qc), (0, _), (2, _), (3, _), (4, _)] _
  try dsimp only at hR9
  try dsimp only at hbi
  try dsimp only at heq
  try dsimp only at hfi
  try dsimp only at cs
  try dsimp only at hown
  try dsimp only at hts
  try dsimp only at hfr
  try dsimp only at hlen
  try dsimp only at hie
  have hpi : (iG st i).pos = i := rfl; have hil := hbi.le; have hA2 : Apart ob qo := kO how (nU hfr); have hA1 : Apart (some b) qo := kO hbw (nU hfr); refine aF (aF (aC (aH (aB rfl (aR rfl) (aB rfl (aE rfl bK) (aB rfl (aI rfl aU (aJ hR9.blk rfl)) (aH (aB rfl (dF rfl rfl) ?_)))))))); refine aD (aA (bJ rfl (fun hc42 => ?_) (fun hc42 => ?_)))
  ·skip
   have hii : i < s.size := by omega
   have hsz2 := (hb.size).le; obtain ⟨hn0, hn1, hn2, hr0, hr1⟩ := hbi.next (by omega); have hn3 := JK hbi hii (hb.size); obtain ⟨f', rfl⟩ : ∃ f', f = f' + 1 := ⟨f - 1, by omega⟩; have hql := oG hown hts; refine bA (aA (bX (aC (aH (aH (aH ?_)))))); refine aN (vs := [_]) nA rfl (wJ ⟨hR9.blk, hR9.own, hR9.ne⟩ (by omega) hbi) rfl ?_; rintro _ w75 ⟨rfl, hw76, hR2⟩; have hE77 := hV74.step hw76 (fun y hy => .inl hy); have hB78 := hown.evo hw76 ((by first | exact hA1.symm.own1 | exact hA1.symm.nmem1)); have hB79 := hts.evo hw76 (II hfr hbw); refine aN (vs := [_, _]) mZ rfl (AU hR2 (dA s i).1 hr0 hr1) rfl ?_; rintro rv w80 ⟨hT, hw81⟩; have hcall9 := hw81; have hV9 := hE77; have hl1 := oG hB78 hB79; have hql2 : ∀ q, q ∈ qo.toList → q < _ := fun q hq => hl1 q (List.mem_append_left _ hq); have hE82 := hE77.then hw81; have hO83 := hB78.evo0 hw81; have hF84 := hB79.evo0 hw81; have hB85 := hw81.blk0 hR2.blk; have hO86 := hR2.own.evo0 hw81; obtain ⟨vs, bx, rfl, hOT, hFx⟩ := hT; obtain ⟨ra, rc, ka, kc, rfl⟩ := id hOT.nine; refine bP (vs := [_]) rfl dQ rfl rfl rfl rfl fun b87 w88 hO89 hs90 hw91 => ?_; have hE97 := hE82.then hw91; have hE98 := (Evo.refl [] w80).then hw91; have hO99 := hO83.evo0 hw91; have hF100 := hF84.evo0 hw91; have hB101 := hw91.blk0 hB85; have hO102 := hO86.evo0 hw91; have hF103 := hOT.evo0 hw91; have hLT9 := hF103; have hVV := hE98
   refine dX rfl rfl rfl rfl mB hO99 (Src.ofOwn hO89 ⟨rfl, rfl, rfl, rfl, rfl, rfl, rfl, rfl, rfl, trivial⟩) (by have := qJ hown hts; omega) fun a2 c2 w106 ob2 hO2 hw109 hob110 => ?_
   have hE115 := hE97.step hw109 (nU hfr).mem; have hF117 := hF100.evo hw109 (pZ hfr); have hB118 := hw109.blk hB101 hA1.nmem; have hO119 := hO102.evo hw109 hA2.own
   have hF120 := hF103.evo hw109 (fun q hq h => by have h8 := hFx.ge q hq; have h9 := hql2 q h; omega)
   have hob2 := hob110; have hFr9 := Fr.grow hfr hl1 hFx (OT.lt hLT9) hV9.size (Nat.le_trans hcall9.size hVV.size) hob2; refine aM (aD (aY (bI ?_))); refine ⟨⟨f', i + (dA s i).2, n + 1, l ++ [oI st.now (dA s i).1], a2, c2, ob2, bs ++ bx⟩, ?_, ⟨rfl, trivial⟩, ⟨rfl, rfl, rfl, rfl, trivial⟩, hE115, ?_⟩
   · (try dsimp only); omega
   try dsimp only
   have hTs := OTs.app hF117 (OTs.single hF120)
   refine ⟨⟨hB118, hO119, hR2.ne⟩, hn2, ?_, (by show s.size ≤ f' + (i + (dA s i).2); omega), ⟨_, hO2, hTs⟩, hFr9, ?_, hn3⟩
   · rw [heq]; exact MF hii
   · show (l ++ [oI st.now (dA s i).1]).length + (st.pos + 2) ≤ i + (dA s i).2; rw [List.length_append]; simp; omega
  refine dT (cK (cK (dS (aA ?_)))); refine aF (aC (aH (aB rfl (aR rfl) (aB rfl (aE rfl bK) (aB rfl (aI rfl aU (aJ hR9.blk rfl)) (aH ?_)))))); refine aB rfl (bF rfl rfl (by omega) (by omega)) ?_; refine aB rfl (aR rfl) (aB rfl (aE rfl bK) (bN rfl rfl (rfl) cB hR9.blk rfl fun w122 hB123 hw124 => ?_)); have hE125 := hV74.step hw124 (fun y hy => .inl hy); have hO126 := hR9.own.evo hw124 hR9.ap.symm.own1; have hO127 := hown.evo hw124 hA1.symm.own1; have hF128 := hts.evo hw124 (II hfr hbw)
  try simp only [dB, Nat.reduceAdd] at hB123
  refine aD (aA (aF (aC (aH (aM (aD (aA (aQ (aK rfl rfl ?_))))))))); have hend := heq.trans (HZ (by omega)); obtain rfl := qJ hown hts
  exact ⟨l, iG st (i), (pq_none (iV hc30)).trans (by rw [hend]; rfl), ⟨_, _, _, _, _, rfl, hO127, hF128, hfr⟩, hE125, ⟨hB123, hO126, hR9.ne⟩, rfl, rfl, (by show st.pos + 2 ≤ i; omega), hbi, (by show l.length + st.pos ≤ i; omega)⟩
end Go.Proofs.YtljadkcojnlioaaGreatDoor
namespace Go.Proofs.YtljadkcojnlioaaGreatDoor
open Go.Proofs
open Go.W Go.RowKit
attribute [local irreducible] Decidable.decide
theorem CJ : eM Tryz.prog 132 := ⟨_, Tryz.func132, by kernel_rfl, by kernel_rfl⟩
section
variable {s : ByteArray} {st : PS} {S : Int → Prop} {v j : Nat} {e : Int}
theorem es_end (h : s.size ≤ st.pos + 1) : jA s st = .error 83 := by unfold jA; rw [if_pos h]
theorem es_A (h : ¬ s.size ≤ st.pos + 1) (c : sb s (st.pos + 1) = 65) : jA s st = .ok ([rxK 8], iG st (st.pos + 2)) := by unfold jA; rw [if_neg h, if_pos c]; rfl
theorem es_z (h : ¬ s.size ≤ st.pos + 1) (c : sb s (st.pos + 1) = 122) : jA s st = .ok ([rxK 9], iG st (st.pos + 2)) := by unfold jA; rw [if_neg h, if_neg (by omega), if_pos c]; rfl
theorem es_b (h : ¬ s.size ≤ st.pos + 1) (c : sb s (st.pos + 1) = 98) : jA s st = .ok ([rxK 12], iG st (st.pos + 2)) := by unfold jA; rw [if_neg h, if_neg (by omega), if_neg (by omega), if_pos c]; rfl
theorem es_B (h : ¬ s.size ≤ st.pos + 1) (c : sb s (st.pos + 1) = 66) : jA s st = .ok ([rxK 13], iG st (st.pos + 2)) := by unfold jA; rw [if_neg h, if_neg (by omega), if_neg (by omega), if_neg (by omega), if_pos c]; rfl
theorem es_Q (h : ¬ s.size ≤ st.pos + 1) (c : sb s (st.pos + 1) = 81) : jA s st = sE s st := by unfold jA; rw [if_neg h, if_neg (by omega), if_neg (by omega), if_neg (by omega), if_neg (by omega), if_pos c]
theorem es_rest (h : ¬ s.size ≤ st.pos + 1) (c1 : ¬ sb s (st.pos + 1) = 65) (c2 : ¬ sb s (st.pos + 1) = 122) (c3 : ¬ sb s (st.pos + 1) = 98) (c4 : ¬ sb s (st.pos + 1) = 66) (c5 : ¬ sb s (st.pos + 1) = 81) : jA s st = (match yO (sb s (st.pos + 1)) with
    | some S => .ok ([lP S], { st with pos := st.pos + 2 })
    | none => match oT s st.pos with
      | .error e => .error e
      | .ok (v, j) => .ok ([oI st.now v], { st with pos := j })) := by unfold jA; rw [if_neg h, if_neg c1, if_neg c2, if_neg c3, if_neg c4, if_neg c5]; rfl
end
theorem KOut.older {w w1 w' : World} {v : Value} {l : List Rx} (h : KOut w1 w' v l) (hw : w.heap.size ≤ w1.heap.size) : KOut w w' v l := by
  obtain ⟨a, c, o, cs, bs, h1, h2, h3, h4⟩ := h
  exact ⟨a, c, o, cs, bs, h1, h2, h3, h4.older hw⟩
theorem letS_lo {c : Nat} {S : Int → Prop} (h : yO c = some S) : c < 128 := by
  rcases Nat.lt_or_ge c 128 with h1 | h1
  · exact h1
  · rw [uK (by omega)] at h; cases h
theorem KX {w : World} {b : Nat} {s : ByteArray} {st : PS} {a : Option Addr} {c : Nat} {ob : Option Nat} (hR : RdAt w b s st a c ob) (hs : s.size ≤ 10000) (hlt : st.pos < s.size) (h92 : sb s st.pos = 92) (hb : Bd s st.pos) (hG : Glb w) :
    Calls Tryz.prog 111 #[.pointer (some ⟨b, 0, none⟩)] w (RetP (fun v w' => ∃ l st', jA s st = .ok (l, st') ∧ KOut w w' v l ∧ Evo [b] w w' ∧ RdAt w' b s st' a c ob ∧ st'.opn = st.opn ∧ st'.names = st.names ∧ st.pos < st'.pos ∧ Bd s st'.pos ∧ l.length + st.pos ≤ st'.pos) (fun v w' => ∃ e, jA s st = .error e ∧ v = flt e ∧ Evo [b] w w')) := by
  have hap := hR.ap; have hgb : nO ∉ [b] := fun h => hR.glb hG (List.mem_singleton.1 h).symm; have hb1 := (hb.asc hlt (by omega)).1; have hb9 := jB s (st.pos + 1); refine bL (N := 98) Tryz.func111 rfl rfl rfl ?_; refine aF (aC (aM (aD (aA (aF (aF ?_)))))); refine fN (by kernel_rfl) (by kernel_rfl) ?_; refine aW rfl (fun _ hq2 => bM rfl) ?_; refine aW rfl (fun _ hq2 => aR rfl) ?_; refine aW rfl (fun _ hq2 => aE rfl bK) ?_; refine aW rfl (fun _ hq2 => aI rfl aU (aJ (hq2.blk0 hR.blk) rfl)) ?_; refine aW rfl (fun _ hq2 => bF rfl rfl (by omega) (by omega)) ?_; refine aW rfl (fun _ hq2 => bM rfl) ?_; refine aW rfl (fun _ hq2 => aR rfl) ?_; refine aW rfl (fun _ hq2 => aE rfl dO) ?_; refine aW rfl (fun _ hq2 => aI rfl cR (aJ (hq2.blk0 hR.blk) rfl)) ?_; refine aW rfl (fun _ hq2 => cX rfl Tryz.underlying9 rfl) ?_; refine aW rfl (fun _ hq2 => bC rfl rfl) ?_; refine fR (fun wq1 hq2 => aA ?_); have hE3 := (Evo.refl [b] w).then hq2; have hB4 := hq2.blk0 hR.blk; have hO5 := hR.own.evo0 hq2; refine bJ rfl (fun hc16 => ?_) (fun hc16 => ?_)
  ·skip
   refine aC (cH (vs := [_]) dD rfl (eV 83) rfl ?_ ?_)
   ·skip
    intro pv wp hpp; obtain ⟨rfl, hpw⟩ := hpp; exact And.intro rfl ⟨_, rfl, _, es_end (by omega), rfl, (hE3).then hpw⟩
   intro _ _ hF; exact hF.elim
  have hle2 : ¬ s.size ≤ st.pos + 1 := by omega
  refine bA (aA (aF (aF ?_))); refine fN (by kernel_rfl) (by kernel_rfl) ?_; refine aW rfl (fun _ hq9 => bM rfl) ?_; refine aW rfl (fun _ hq9 => aR rfl) ?_; refine aW rfl (fun _ hq9 => aE rfl dO) ?_; refine aW rfl (fun _ hq9 => aI rfl cR (aJ (hq9.blk0 hB4) rfl)) ?_; refine aW rfl (fun _ hq9 => bM rfl) ?_; refine aW rfl (fun _ hq9 => aR rfl) ?_; refine aW rfl (fun _ hq9 => aE rfl bK) ?_; refine aW rfl (fun _ hq9 => aI rfl aU (aJ (hq9.blk0 hB4) rfl)) ?_; refine aW rfl (fun _ hq9 => bF rfl rfl (by omega) (by omega)) ?_; refine aW rfl (fun _ hq9 => gA (n := st.pos + 1) rfl rfl Tryz.underlying9 rfl (by omega)) ?_; refine aW rfl (fun _ hq9 => eE rfl) ?_; refine fR (fun wq8 hq9 => aA ?_); have hE10 := hE3.then hq9; have hB11 := hq9.blk0 hB4; have hO12 := hO5.evo0 hq9; refine aF (aC (aH (aD (aA (bX (aF (aC (aB rfl (bC rfl rfl) ?_)))))))); refine aM (aD (aA (bJ rfl (fun hc45 => ?_) (fun hc45 => ?_))))
  ·skip
   refine aF (aC (aH (aB rfl (aR rfl) (aB rfl (aE rfl bK) (aB rfl (aI rfl aU (aJ hB11 rfl)) ?_))))); refine aB rfl (bF rfl rfl (by omega) (by omega)) ?_; refine aB rfl (aR rfl) (aB rfl (aE rfl bK) (bN rfl rfl (rfl) cB hB11 rfl fun w13 hB14 hw15 => ?_)); have hE16 := hE10.step hw15 (fun y hy => .inl hy); have hO17 := hO12.evo hw15 hap.symm.own1
   try simp only [dB, Nat.reduceAdd] at hB14
   refine aD (aA (aF (aC (aB rfl (eU (vs := [(0, _)]) eC rfl (cells := [_, _, _, _, _, _, _, _, _]) rfl) ?_)))); refine bP (vs := [_]) rfl dQ rfl rfl rfl rfl fun b55 w18 hO19 hs20 hw21 => ?_; have hG24 := Ge.new hE16 hs20; have hE25 := hE16.then hw21; have hB26 := hw21.blk0 hB14; have hO27 := hO17.evo0 hw21; refine aM (aD (aA (aQ (aZ (aO (cE (aK rfl rfl ?_)))))))
   exact ⟨_, _, es_A hle2 (by omega), iJ hO19 (pK 8 _) (Fr.nil _) (hG24 _ rfl) hE25 (fun b hb => by cases hb) (Nat.le_refl _), hE25, ⟨hB26, hO27, hR.ne⟩, rfl, rfl, (by show st.pos < st.pos + 2; omega), (hb1.asc (by omega) (by omega)).1, (by show 1 + st.pos ≤ st.pos + 2; omega)⟩
  refine aF (aC (aB rfl (bC rfl rfl) ?_)); refine aM (aD (aA (bJ rfl (fun hc56 => ?_) (fun hc56 => ?_))))
  ·skip
   refine aF (aC (aH (aB rfl (aR rfl) (aB rfl (aE rfl bK) (aB rfl (aI rfl aU (aJ hB11 rfl)) ?_))))); refine aB rfl (bF rfl rfl (by omega) (by omega)) ?_; refine aB rfl (aR rfl) (aB rfl (aE rfl bK) (bN rfl rfl (rfl) cB hB11 rfl fun w28 hB29 hw30 => ?_)); have hE31 := hE10.step hw30 (fun y hy => .inl hy); have hO32 := hO12.evo hw30 hap.symm.own1
   try simp only [dB, Nat.reduceAdd] at hB29
   refine aD (aA (aF (aC (aB rfl (eU (vs := [(0, _)]) eC rfl (cells := [_, _, _, _, _, _, _, _, _]) rfl) ?_)))); refine bP (vs := [_]) rfl dQ rfl rfl rfl rfl fun b66 w33 hO34 hs35 hw36 => ?_; have hG39 := Ge.new hE31 hs35; have hE40 := hE31.then hw36; have hB41 := hw36.blk0 hB29; have hO42 := hO32.evo0 hw36; refine aM (aD (aA (aQ (aZ (aO (cE (aK rfl rfl ?_)))))))
   exact ⟨_, _, es_z hle2 (by omega), iJ hO34 (pK 9 _) (Fr.nil _) (hG39 _ rfl) hE40 (fun b hb => by cases hb) (Nat.le_refl _), hE40, ⟨hB41, hO42, hR.ne⟩, rfl, rfl, (by show st.pos < st.pos + 2; omega), (hb1.asc (by omega) (by omega)).1, (by show 1 + st.pos ≤ st.pos + 2; omega)⟩
  refine aF (aC (aB rfl (bC rfl rfl) ?_)); refine aM (aD (aA (bJ rfl (fun hc67 => ?_) (fun hc67 => ?_))))
  ·skip
   refine aF (aC (aH (aB rfl (aR rfl) (aB rfl (aE rfl bK) (aB rfl (aI rfl aU (aJ hB11 rfl)) ?_))))); refine aB rfl (bF rfl rfl (by omega) (by omega)) ?_; refine aB rfl (aR rfl) (aB rfl (aE rfl bK) (bN rfl rfl (rfl) cB hB11 rfl fun w43 hB44 hw45 => ?_)); have hE46 := hE10.step hw45 (fun y hy => .inl hy); have hO47 := hO12.evo hw45 hap.symm.own1
   try simp only [dB, Nat.reduceAdd] at hB44
   refine aD (aA (aF (aC (aB rfl (eU (vs := [(0, _)]) eC rfl (cells := [_, _, _, _, _, _, _, _, _]) rfl) ?_)))); refine bP (vs := [_]) rfl dQ rfl rfl rfl rfl fun b77 w48 hO49 hs50 hw51 => ?_; have hG54 := Ge.new hE46 hs50; have hE55 := hE46.then hw51; have hB56 := hw51.blk0 hB44; have hO57 := hO47.evo0 hw51; refine aM (aD (aA (aQ (aZ (aO (cE (aK rfl rfl ?_)))))))
   exact ⟨_, _, es_b hle2 (by omega), iJ hO49 (pK 12 _) (Fr.nil _) (hG54 _ rfl) hE55 (fun b hb => by cases hb) (Nat.le_refl _), hE55, ⟨hB56, hO57, hR.ne⟩, rfl, rfl, (by show st.pos < st.pos + 2; omega), (hb1.asc (by omega) (by omega)).1, (by show 1 + st.pos ≤ st.pos + 2; omega)⟩
  refine aF (aC (aB rfl (bC rfl rfl) ?_)); refine aM (aD (aA (bJ rfl (fun hc78 => ?_) (fun hc78 => ?_))))
  ·skip
   refine aF (aC (aH (aB rfl (aR rfl) (aB rfl (aE rfl bK) (aB rfl (aI rfl aU (aJ hB11 rfl)) ?_))))); refine aB rfl (bF rfl rfl (by omega) (by omega)) ?_; refine aB rfl (aR rfl) (aB rfl (aE rfl bK) (bN rfl rfl (rfl) cB hB11 rfl fun w58 hB59 hw60 => ?_)); have hE61 := hE10.step hw60 (fun y hy => .inl hy); have hO62 := hO12.evo hw60 hap.symm.own1
   try simp only [dB, Nat.reduceAdd] at hB59
   refine aD (aA (aF (aC (aB rfl (eU (vs := [(0, _)]) eC rfl (cells := [_, _, _, _, _, _, _, _, _]) rfl) ?_)))); refine bP (vs := [_]) rfl dQ rfl rfl rfl rfl fun b88 w63 hO64 hs65 hw66 => ?_; have hG69 := Ge.new hE61 hs65; have hE70 := hE61.then hw66; have hB71 := hw66.blk0 hB59; have hO72 := hO62.evo0 hw66; refine aM (aD (aA (aQ (aZ (aO (cE (aK rfl rfl ?_)))))))
   exact ⟨_, _, es_B hle2 (by omega), iJ hO64 (pK 13 _) (Fr.nil _) (hG69 _ rfl) hE70 (fun b hb => by cases hb) (Nat.le_refl _), hE70, ⟨hB71, hO72, hR.ne⟩, rfl, rfl, (by show st.pos < st.pos + 2; omega), (hb1.asc (by omega) (by omega)).1, (by show 1 + st.pos ≤ st.pos + 2; omega)⟩
  refine aF (aC (aB rfl (bC rfl rfl) ?_)); refine aM (aD (aA (bJ rfl (fun hc89 => ?_) (fun hc89 => ?_))))
  ·skip
   refine aF (aC (aH ?_))
   refine aN (vs := [_]) CJ rfl (AM ⟨hB11, hO12, hR.ne⟩ hs (by have := hb1.asc (by omega) (by omega); exact this.1) (hG.evo hE10 hgb)) rfl ?_
   rintro rv w73 ⟨l, st', hq, hK, hw74, hR2, ho, hnm, hp, hbd, hll⟩; have hV9 := hE10; have hE75 := hE10.step hw74 (fun y hy => .inl hy); refine aM (aD (aA (aQ (aZ (aO (cE (aK rfl rfl ?_))))))); exact ⟨_, _, (es_Q hle2 (by omega)).trans hq, hK.older hV9.size, hE75, hR2, ho, hnm, by omega, hbd, hll⟩
  have hrest := es_rest hle2 (by omega) (by omega) (by omega) (by omega) (by omega); refine aF (aC (aH (aN (vs := [_]) pS rfl (pL (sb s (st.pos + 1)) hb9) rfl ?_))); rintro rv w76 ⟨hL, hw77⟩; obtain ⟨a1, c1, ob1, l1, rfl, hO1, hg1, hv1, hl1, hS1⟩ := hL.uni; have hA78 := Apart.fresh (Lt.blk hB11) hg1; have hE81 := hE10.then hw77; have hB82 := hw77.blk0 hB11; have hO83 := hO12.evo0 hw77; refine aH (aB rfl (dC rfl rfl) ?_); refine aB rfl (dC rfl rfl) ?_; refine aM (aM (aD (aA (aF (aC (aH (aD (aA (fB rfl (fun hc34 => ?_) (fun hc34 => ?_))))))))))
  ·skip
   obtain ⟨S1, hS1'⟩ := wI hc34; refine aF (aC (aH (aB rfl (aR rfl) (aB rfl (aE rfl bK) (aB rfl (aI rfl aU (aJ hB82 rfl)) ?_))))); refine aB rfl (bF rfl rfl (by omega) (by omega)) ?_; refine aB rfl (aR rfl) (aB rfl (aE rfl bK) (bN rfl rfl (rfl) cB hB82 rfl fun w84 hB85 hw86 => ?_)); have hE87 := hE81.step hw86 (fun y hy => .inl hy); have hO88 := hO83.evo hw86 hap.symm.own1; have hO89 := hO1.evo hw86 hA78.symm.own1
   try simp only [dB, Nat.reduceAdd] at hB85
   refine aD (aA (aF (aC (aH ?_)))); refine aN (vs := [_]) iM rfl (mS hO89 hv1 (by omega) (hS1 S1 hS1')) rfl ?_; rintro rv w90 ⟨hT, hw91⟩; have hcall9 := hw91; have hV9 := hE87; have hE92 := hE87.then hw91; have hB93 := hw91.blk0 hB85; have hO94 := hO88.evo0 hw91; obtain ⟨vs, bx, rfl, hOT, hFx⟩ := hT; obtain ⟨ra, rc, ka, kc, rfl⟩ := id hOT.nine; refine bP (vs := [_]) rfl dQ rfl rfl rfl rfl fun b44 w96 hO97 hs98 hw99 => ?_; have hG104 := Ge.new (Evo.refl ([]) w90) hs98; have hE105 := hE92.then hw99; have hE106 := (Evo.refl ([]) w90).then hw99; have hB107 := hw99.blk0 hB93; have hO108 := hO94.evo0 hw99; refine aM (aD (aA (aQ (aZ (aO (cE (aK rfl rfl ?_)))))))
   exact ⟨[lP S1], iG st (st.pos + 2), hrest.trans (by rw [hS1']; rfl), iJ hO97 hOT (hFx.older hV9.size) (hG104 _ rfl) hE106 (fun b hb h => by cases h) (Nat.le_trans hV9.size hcall9.size), hE105, ⟨hB107, hO108, hR.ne⟩, rfl, rfl, (by show st.pos < st.pos + 2; omega), (hb1.asc (by omega) (letS_lo hS1')).1, (by show 1 + st.pos ≤ st.pos + 2; omega)⟩
  refine bA (aY (aA (aF (aC (aH (aH ?_)))))); refine cH (vs := [_]) tQ rfl (xV ⟨hB82, hO83, hR.ne⟩ (by omega) hlt) rfl ?_ ?_
  ·skip
   intro pv wp hpp; obtain ⟨hpe, rfl, hpw⟩ := hpp; exact And.intro rfl ⟨_, rfl, _, hrest.trans (by rw [iI hc34, hpe]), rfl, (hE81).step hpw (fun y hy => .inl hy)⟩
  rintro _ w110 ⟨n, j, hx, rfl, hw111, hR3⟩; have hE112 := hE81.step hw111 (fun y hy => .inl hy); obtain ⟨hbj, hij, hn1⟩ := MY hx hb h92; have hjl := hbj.le; refine aN (vs := [_, _]) mZ rfl (AU (st := iG st j) ⟨hR3.blk, hR3.own, hR3.ne⟩ ((n : Nat) : Int) (by omega) (by omega)) rfl ?_; rintro rv w114 ⟨hT, hw115⟩; have hcall9 := hw115; have hV9 := hE112; have hE116 := hE112.then hw115; have hB118 := hw115.blk0 hR3.blk; have hO119 := hR3.own.evo0 hw115; obtain ⟨vs, bx, rfl, hOT, hFx⟩ := hT; obtain ⟨ra, rc, ka, kc, rfl⟩ := id hOT.nine; refine bP (vs := [_]) rfl dQ rfl rfl rfl rfl fun b97 w120 hO121 hs122 hw123 => ?_; have hG128 := Ge.new (Evo.refl ([]) w114) hs122; have hE129 := hE116.then hw123; have hE130 := (Evo.refl ([]) w114).then hw123; have hB132 := hw123.blk0 hB118; have hO133 := hO119.evo0 hw123; refine aM (aD (aA (aQ (cE (aK rfl rfl ?_)))))
  exact ⟨[oI st.now ((n : Nat) : Int)], iG st j, hrest.trans (by rw [iI hc34, hx]; rfl), iJ hO121 hOT (hFx.older hV9.size) (hG128 _ rfl) hE130 (fun b hb h => by cases h) (Nat.le_trans hV9.size hcall9.size), hE129, ⟨hB132, hO133, hR3.ne⟩, rfl, rfl, hij, hbj, (by show 1 + st.pos ≤ j; omega)⟩
end Go.Proofs.YtljadkcojnlioaaGreatDoor
namespace Go.Proofs.YtljadkcojnlioaaGreatDoor
open Go.Proofs Go.W Go.RowKit
theorem DG {s : ByteArray} : ∀ {f j : Nat}, j ≤ kM s f j
  | 0, j => Nat.le_refl _
  | f + 1, j => by
    rw [kM]
    split
    · exact Nat.le_trans (Nat.le_succ j) DG
    · exact Nat.le_refl _
theorem MU {s : ByteArray} {i : Nat} : ∀ {f j : Nat} {b m : Bool} {n : Int} {fl : Fl}, (jJ s i f j b n m fl).err = 0 → ∃ k, j ≤ k ∧ k < s.size ∧ (sb s k = 58 ∨ sb s k = 41) ∧ (jJ s i f j b n m fl).size = k + 1 - i ∧ (jJ s i f j b n m fl).name = emp
  | 0, j, b, m, n, fl, h => absurd h (show ¬ (84 : Int) = 0 by omega)
  | f + 1, j, b, m, n, fl, h => by
    have step : ∀ {b' m' : Bool} {n' : Int} {fl' : Fl}, jJ s i (f + 1) j b n m fl = jJ s i f (j + 1) b' n' m' fl' → ∃ k, j ≤ k ∧ k < s.size ∧ (sb s k = 58 ∨ sb s k = 41) ∧ (jJ s i (f + 1) j b n m fl).size = k + 1 - i ∧ (jJ s i (f + 1) j b n m fl).name = emp := by
      intro b' m' n' fl' e
      rw [e] at h ⊢
      obtain ⟨k, h1, h2⟩ := MU h
      exact ⟨k, by omega, h2⟩
    have no : ∀ {fl' : Fl}, jJ s i (f + 1) j b n m fl = ⟨0, emp, fl', false, false, 84⟩ → False := fun e => by rw [e] at h; exact absurd h (show ¬ (84 : Int) = 0 by omega)
    by_cases h0 : s.size ≤ j
    · exact (no (GO h0)).elim
    · by_cases h1 : sb s j = 105
      · exact step (ps_i (by omega) h1)
      · by_cases h2 : sb s j = 109
        · exact step (ps_m (by omega) h2)
        · by_cases h3 : sb s j = 115
          · exact step (ps_s (by omega) h3)
          · by_cases h4 : sb s j = 85
            · exact step (ps_u (by omega) h4)
            · by_cases h5 : sb s j = 45
              · cases m with
                | true => exact (no (MH (by omega) h5)).elim
                | false => exact step (MI (by omega) h5)
              · by_cases h6 : sb s j = 58 ∨ sb s j = 41
                · have e := KC (i := i) (f := f) (b := b) (n := n) (m := m) (fl := fl) (show j < s.size by omega) h6
                  rw [e]
                  exact ⟨j, Nat.le_refl _, by omega, h6, rfl, rfl⟩
                · exact (no (MG (by omega) h1 h2 h3 h4 h5 h6)).elim
theorem IC {s : ByteArray} {i h : Nat} {fl : Fl} (he : (oQ s i h fl).err = 0) : ∃ k, i + h ≤ k ∧ isB s k 62 ∧ (oQ s i h fl).size = k + 1 - i ∧ (oQ s i h fl).name.size ≤ s.size := by
  have hge : i + h ≤ kM s s.size (i + h) := DG
  generalize e : kM s s.size (i + h) = j at hge
  by_cases hc : j = i + h ∨ ¬ isB s j 62
  · rw [kV e hc] at he
    exact absurd he (show ¬ (85 : Int) = 0 by omega)
  · rw [oP e hc]
    have hj : isB s j 62 := Classical.not_not.1 (fun h => hc (.inr h))
    refine ⟨j, hge, hj, rfl, ?_⟩
    show (s.extract (i + h) j).size ≤ _
    rw [gI (by have := hj.1; omega)]
    have := hj.1; omega
theorem pOpen_b {s : ByteArray} {i : Nat} {fl : Fl} (hb : Bd s i) (h40 : isB s i 40) (he : (iS s i fl).err = 0) : 1 ≤ (iS s i fl).size ∧ Bd s (i + (iS s i fl).size) ∧ (iS s i fl).name.size ≤ s.size := by
  have h1 := h40.asc (by decide) hb
  by_cases h : isB s i 40 ∧ isB s (i + 1) 63
  · by_cases ha : isB s (i + 2) 80 ∧ isB s (i + 3) 60
    · have e : iS s i fl = oQ s i 4 fl := by unfold iS; rw [if_neg (fun h9 => h9 h), if_pos ha]
      rw [e] at he ⊢
      obtain ⟨k, h2, h3, h4, h5⟩ := IC he
      have h6 : Bd s (k + 1) := h3.asc (by decide) (nF hb (by omega) h3.1 (by rw [h3.2]; decide))
      exact ⟨by omega, by rw [h4, show i + (k + 1 - i) = k + 1 by omega]; exact h6, h5⟩
    · by_cases hc : isB s (i + 2) 60
      · have e : iS s i fl = oQ s i 3 fl := by unfold iS; rw [if_neg (fun h9 => h9 h), if_neg ha, if_pos hc]
        rw [e] at he ⊢
        obtain ⟨k, h2, h3, h4, h5⟩ := IC he
        have h6 : Bd s (k + 1) := h3.asc (by decide) (nF hb (by omega) h3.1 (by rw [h3.2]; decide))
        exact ⟨by omega, by rw [h4, show i + (k + 1 - i) = k + 1 by omega]; exact h6, h5⟩
      · by_cases hd : isB s (i + 2) 58
        · have e : iS s i fl = ⟨3, emp, fl, false, false, 0⟩ := by unfold iS; rw [if_neg (fun h9 => h9 h), if_neg ha, if_neg hc, if_pos hd]
          rw [e]
          exact ⟨by show 1 ≤ 3; omega, hd.asc (by decide) (h.2.asc (by decide) h1), Nat.zero_le _⟩
        · have e : iS s i fl = jJ s i s.size (i + 2) true 0 false fl := by unfold iS; rw [if_neg (fun h9 => h9 h), if_neg ha, if_neg hc, if_neg hd]
          rw [e] at he ⊢
          obtain ⟨k, h2, h3, h4, h5, h6⟩ := MU he
          have h7 : Bd s (k + 1) := ((nF hb (by omega) h3 (by omega)).asc h3 (by omega)).1
          exact ⟨by omega, by rw [h5, show i + (k + 1 - i) = k + 1 by omega]; exact h7, by rw [h6]; exact Nat.zero_le _⟩
  · have e : iS s i fl = ⟨1, emp, fl, true, false, 0⟩ := xG h
    rw [e]
    exact ⟨Nat.le_refl _, h1, Nat.zero_le _⟩
theorem pOpen_e {s : ByteArray} {i : Nat} {fl : Fl} : (iS s i fl).size ≤ s.size + 3 := by
  have hn : ∀ h, (oQ s i h fl).size ≤ s.size + 3 := fun h => by
    by_cases hc : kM s s.size (i + h) = i + h ∨ ¬ isB s (kM s s.size (i + h)) 62
    · rw [kV rfl hc]; exact Nat.zero_le _
    · rw [oP rfl hc]
      have hj : isB s (kM s s.size (i + h)) 62 := Classical.not_not.1 (fun h => hc (.inr h))
      have := hj.1
      show kM s s.size (i + h) + 1 - i ≤ _
      omega
  have hs : ∀ {f j : Nat} {b m : Bool} {n : Int} {fl : Fl}, (jJ s i f j b n m fl).size ≤ s.size + 3 := by
    intro f
    induction f with
    | zero => intro j b m n fl; exact Nat.zero_le _
    | succ f ih =>
      intro j b m n fl
      by_cases h0 : s.size ≤ j
      · rw [GO h0]; exact Nat.zero_le _
      · by_cases h1 : sb s j = 105
        · rw [ps_i (by omega) h1]; exact ih
        · by_cases h2 : sb s j = 109
          · rw [ps_m (by omega) h2]; exact ih
          · by_cases h3 : sb s j = 115
            · rw [ps_s (by omega) h3]; exact ih
            · by_cases h4 : sb s j = 85
              · rw [ps_u (by omega) h4]; exact ih
              · by_cases h5 : sb s j = 45
                · cases m with
                  | true => rw [MH (by omega) h5]; exact Nat.zero_le _
                  | false => rw [MI (by omega) h5]; exact ih
                · by_cases h6 : sb s j = 58 ∨ sb s j = 41
                  · rw [KC (by omega) h6]; show j + 1 - i ≤ _; omega
                  · rw [MG (by omega) h1 h2 h3 h4 h5 h6]; exact Nat.zero_le _
  unfold iS
  split
  · show 1 ≤ _; omega
  · split
    · exact hn 4
    · split
      · exact hn 3
      · split
        · show 3 ≤ _; omega
        · exact hs
def NB (w : World) (o o' : Option Nat) : Prop := o' = o ∨ ∃ g, o' = some g ∧ w.heap.size ≤ g
structure Mv (s : ByteArray) (st st' : PS) : Prop where
  opn : st'.opn = st.opn
  le : st.pos ≤ st'.pos
  bd : Bd s st'.pos
  nm : st'.names.length ≤ 100
def HO (b : Nat) (s : ByteArray) (ex : PS → PX Rx) (st : PS) (ob : Option Nat) (w : World) (v : Value) (w' : World) : Prop :=
  ∃ x st', ex st = .ok (x, st') ∧ Evo (b :: ob.toList) w w' ∧ Mv s st st' ∧ ∃ a' c' ob' vs bs, v = .agg vs.toArray ∧ OT x w' vs bs ∧ Fr w bs ∧ RdAt w' b s st' a' c' ob' ∧ NB w ob ob'
def ExPan (b : Nat) {α : Type} (ex : PS → PX α) (st : PS) (ob : Option Nat) (w : World) (v : Value) (w' : World) : Prop := ∃ e, ex st = .error e ∧ v = flt e ∧ Evo (b :: ob.toList) w w'
def PcPost (b : Nat) (s : ByteArray) (pp : PS → PL) (st : PS) (ob : Option Nat) (w : World) (v : Value) (w' : World) : Prop :=
  ∃ l st', pp st = .ok (l, st') ∧ Evo (b :: ob.toList) w w' ∧ Mv s st st' ∧ st.pos < st'.pos ∧ l.length + st.pos ≤ st'.pos ∧
    ∃ a' c' ob' ka kc ko cs bs, v = .slice ka l.length kc ∧ OwnS w' 27 9 ka l.length kc cs ko ∧ OTs l w' cs bs ∧ Fr w (ko.toList ++ bs) ∧ RdAt w' b s st' a' c' ob' ∧ NB w ob ob'
def rY (b : Nat) (s : ByteArray) (ex : PS → PX Rx) (m : Nat) : Prop := ∀ {w : World} {st : PS} {a : Option Addr} {c : Nat} {ob : Option Nat}, RdAt w b s st a c ob → st.opn = m → Bd s st.pos → st.names.length ≤ 100 → Glb w → Apart (some nO) ob →
  Calls Tryz.prog 36 #[.pointer (some ⟨b, 0, none⟩)] w (RetP (HO b s ex st ob w) (ExPan b ex st ob w))
theorem lG {w : World} {b : Nat} {o o1 : Option Nat} (h : NB w o o1) : ∀ y, y ∈ b :: o1.toList → y ∈ b :: o.toList ∨ w.heap.size ≤ y := fun y hy => by
  rcases List.mem_cons.1 hy with rfl | hy
  · exact .inl (List.mem_cons_self ..)
  · rcases h with rfl | ⟨g, rfl, hg⟩
    · exact .inl (List.mem_cons_of_mem _ hy)
    · rw [List.mem_singleton.1 hy]; exact .inr hg
theorem NB.older {w w1 : World} {o o1 o2 : Option Nat} (h : NB w o o1) (h2 : NB w1 o1 o2) (hw : w.heap.size ≤ w1.heap.size) : NB w o o2 := by
  rcases h2 with rfl | ⟨g, rfl, hg⟩
  · exact h
  · exact .inr ⟨g, rfl, Nat.le_trans hw hg⟩
theorem xC {b : Nat} {s : ByteArray} {pp : PS → PL} {st st' : PS} {a : Option Addr} {c : Nat} {ob : Option Nat} {w w' : World} {v : Value} {l : List Rx} (hR : RdAt w b s st a c ob) (h1 : pp st = .ok (l, st')) (hK : KOut w w' v l) (he : Evo [b] w w') (hR' : RdAt w' b s st' a c ob)
    (ho : st'.opn = st.opn) (hn : st'.names = st.names) (hn2 : st.names.length ≤ 100) (hp : st.pos < st'.pos) (hb : Bd s st'.pos) (hl : l.length + st.pos ≤ st'.pos) : PcPost b s pp st ob w v w' := by
  obtain ⟨ka, kc, ko, cs, bs, rfl, h2, h3, h4⟩ := hK
  exact ⟨l, st', h1, he.mono (fun q hq => by rw [List.mem_singleton.1 hq]; simp), ⟨ho, by omega, hb, by rw [hn]; exact hn2⟩, hp, hl, a, c, ob, ka, kc, ko, cs, bs, rfl, h2, h3, h4, hR', .inl rfl⟩
theorem MS {b : Nat} {α : Type} {pp : PS → PX α} {st : PS} {ob : Option Nat} {w w' : World} {e : Int} (h : pp st = .error e) (he : Evo [b] w w') : ExPan b pp st ob w (flt e) w' := ⟨e, h, rfl, he.mono (fun q hq => by rw [List.mem_singleton.1 hq]; simp)⟩
end Go.Proofs.YtljadkcojnlioaaGreatDoor
namespace Go.Proofs.YtljadkcojnlioaaGreatDoor
open Go.Proofs
open Go.W Go.RowKit
attribute [local irreducible] Decidable.decide
theorem eW : gB Tryz.prog 64 3 = some 6 := by kernel_rfl
theorem lI : eM Tryz.prog 127 := ⟨_, Tryz.func127, by kernel_rfl, by kernel_rfl⟩
theorem tT : eM Tryz.prog 128 := ⟨_, Tryz.func128, by kernel_rfl, by kernel_rfl⟩
theorem mJ : eM Tryz.prog 36 := ⟨_, Tryz.func36, by kernel_rfl, by kernel_rfl⟩
theorem mH : nG Tryz.prog 62 = some #[.bool false, .bool false, .bool false, .bool false] := by kernel_rfl
structure BrG where
  b3 : Nat
  b4 : Nat
structure BrI (w wr : World) (b : Nat) (s : ByteArray) (st : PS) (a : Option Addr) (c : Nat) (ob : Option Nat) (x : BrG) : Prop where
  hr : RdAt wr b s st a c ob
  h3 : wr.heap[x.b3]? = some (.cells (opV (iS s st.pos st.now)) 159 (0, 0))
  h4 : wr.heap[x.b4]? = some (.cells #[.bool st.now.fold, .bool st.now.lines, .bool st.now.dots, .bool st.now.lazy] 62 (0, 0))
  g3 : Ge w (some x.b3)
  g4 : Ge w (some x.b4)
  a34 : Apart (some x.b3) (some x.b4)
theorem oV {w : World} {b : Nat} {o : Opn} {T : TypeId} {z : Nat × Nat} (h : w.heap[b]? = some (.cells (opV o) T z)) : ∀ j v, ([.bool o.thn.fold, .bool o.thn.lines, .bool o.thn.dots, .bool o.thn.lazy] : List Value)[j]? = some v → w.cell? ⟨b, 2 + j, none⟩ = some v
  | 0, v, e => by cases e; exact iL h rfl
  | 1, v, e => by cases e; exact iL h rfl
  | 2, v, e => by cases e; exact iL h rfl
  | 3, v, e => by cases e; exact iL h rfl
  | j + 4, v, e => by cases e
section
variable {s : ByteArray} {ex : PS → PX Rx} {st : PS} {o : Opn} {e : Int} {x : Rx} {st2 : PS}
theorem br_set (ho : iS s st.pos st.now = o) (h : o.err = 0) (h2 : o.sett = true) : sF s ex st = .ok ([], { st with pos := st.pos + o.size, now := o.thn }) := by unfold sF; rw [ho]; exact if_pos ⟨h, h2⟩
theorem JI (ho : iS s st.pos st.now = o) (h : ¬ (o.err = 0 ∧ o.sett = true)) (h2 : st.opn = 250) : sF s ex st = .error 3 := by unfold sF; rw [ho]; exact (if_neg h).trans (if_pos h2)
theorem OV (ho : iS s st.pos st.now = o) (h : ¬ (o.err = 0 ∧ o.sett = true)) (h2 : ¬ st.opn = 250) (h3 : o.err ≠ 0) : sF s ex st = .error o.err := by unfold sF; rw [ho]; exact (if_neg h).trans ((if_neg h2).trans (if_pos h3))
theorem JH (ho : iS s st.pos st.now = o) (h : ¬ (o.err = 0 ∧ o.sett = true)) (h2 : ¬ st.opn = 250) (h3 : ¬ o.err ≠ 0) (h4 : o.capt = true) (h5 : LG o.name st.names) : sF s ex st = .error 85 := by unfold sF; rw [ho]; exact (if_neg h).trans ((if_neg h2).trans ((if_neg h3).trans (if_pos ⟨h4, h5⟩)))
theorem oY (ho : iS s st.pos st.now = o) (h : ¬ (o.err = 0 ∧ o.sett = true)) (h2 : ¬ st.opn = 250) (h3 : ¬ o.err ≠ 0) (h4 : ¬ (o.capt = true ∧ LG o.name st.names)) : sF s ex st = match ex ⟨st.pos + o.size, o.thn, st.opn + 1, if o.capt = true then st.names ++ [o.name] else st.names⟩ with
    | .error e => .error e
    | .ok (x, st2) => if isB s st2.pos 41 then
        .ok ([if o.capt = true then zA ((st.names.length : Int) + 1) o.name x else x], { st2 with pos := st2.pos + 1, opn := st2.opn - 1, now := st.now })
      else .error 80 := by unfold sF; rw [ho]; exact (if_neg h).trans ((if_neg h2).trans ((if_neg h3).trans (if_neg h4)))
end
theorem ND {X : List Nat} {w w1 w2 : World} {x : Rx} {vs : List Value} {bs : List Nat} {g : Nat} {n : Int} {nm : ByteArray} (hO : OwnS w2 27 9 (some ⟨g, 0, none⟩) 1 1 vs (some g)) (hT : OT x w1 vs bs) (hF : Fr w bs) (hg : w1.heap.size ≤ g) (he : Evo X w1 w2) (hx : ∀ b, b ∈ bs → b ∉ X) (hw : w.heap.size ≤ w1.heap.size) (hn : nm.size ≤ 1000000) :
    OT (zA n nm x) w2 [iv 7, .int .i32 0, .slice none 0 0, iv 0, iv 0, .bool false, iv n, .string nm, .slice (some ⟨g, 0, none⟩) 1 1] (g :: bs) ∧ Fr w (g :: bs) := by
  refine ⟨?_, ⟨List.nodup_cons.2 ⟨fun h => ?_, hF.nd⟩, fun b hb => ?_⟩⟩
  · unfold zA
    rw [OT]
    exact ⟨none, 0, none, _, 1, some g, vs, bs, rfl, OwnS.nil _ _ _, hO, OTs.single (hT.evo he hx), rfl, by simp, hn, by simp⟩
  · have := hT.lt g h; omega
  · rcases List.mem_cons.1 hb with rfl | hb
    · omega
    · exact hF.ge b hb
theorem rP {q b : Nat} {o : Option Nat} (h1 : Apart (some q) (some b)) (h2 : Apart (some q) o) : q ∉ b :: o.toList := fun h => by
  rcases List.mem_cons.1 h with rfl | h
  · exact h1 q rfl rfl
  · exact h2 q rfl (Option.mem_toList.1 h)
theorem AZ {w : World} (h : Glb w) : Lt w (some nO) := fun g e => by
  cases e
  obtain ⟨m, hm⟩ := h
  rcases Nat.lt_or_ge nO w.heap.size with h1 | h1
  · exact h1
  · have h2 : w.heap[nO]? = none := Array.getElem?_eq_none h1
    simp [World.cell?, h2] at hm
theorem NZ {b : Nat} {o : Option Nat} (h1 : nO ∉ [b]) (h2 : Apart (some nO) o) : nO ∉ b :: o.toList := fun h => by
  rcases List.mem_cons.1 h with e | h
  · exact h1 (by rw [e]; simp)
  · exact h2 _ rfl (Option.mem_toList.1 h)
theorem wE {w w1 : World} {b : Nat} {bs : List Nat} (h : Fr w1 bs) (hb : Lt w (some b)) (hw : w.heap.size ≤ w1.heap.size) : ∀ q, q ∈ bs → q ∉ [b] := fun q hq hm => by
  have h1 := h.ge q hq
  have h2 := hb b rfl
  rw [List.mem_singleton.1 hm] at h1; omega
theorem HK {ex : PS → PX Rx} {w : World} {b : Nat} {s : ByteArray} {st : PS} {a : Option Addr} {c : Nat} {ob : Option Nat} (hex : st.opn < 250 → rY b s ex (st.opn + 1)) (hR : RdAt w b s st a c ob) (hs : s.size ≤ 4096) (h40 : isB s st.pos 40) (hop : st.opn ≤ 250) (hb : Bd s st.pos) (hnl : st.names.length ≤ 100) (hG : Glb w) (hGo : Apart (some nO) ob) :
    Calls Tryz.prog 109 #[.pointer (some ⟨b, 0, none⟩)] w (RetP (PcPost b s (sF s ex) st ob w) (ExPan b (sF s ex) st ob w)) := by
  have hap := hR.ap; have hgb : nO ∉ [b] := fun h => hR.glb hG (List.mem_singleton.1 h).symm; have hgw := NZ hgb hGo; have hbw : Lt w (some b) := Lt.blk hR.blk; have how : Lt w ob := Lt.own hR.own; refine bL (N := 100) Tryz.func109 rfl rfl rfl ?_; refine aF (aC (aM (aD (aA (aF (oK (α := BrG) (fun x => [(3, .pointer (some ⟨x.b3, 0, none⟩)), (4, .pointer (some ⟨x.b4, 0, none⟩))]) [(0, _), (2, _)] (fun x wr => Evo (b :: ob.toList) w wr ∧ (BrI w wr b s st a c ob x)) ⟨rfl, rfl, trivial⟩ ?_ ?_))))))
  ·skip
   refine hD (fun w0 w' => Evo [] w0 w') (by kernel_rfl) (fun w1 hw2 => ?_); have hE3 := (Evo.refl (b :: ob.toList) w).then hw2; have hB4 := hw2.blk0 hR.blk; have hO5 := hR.own.evo0 hw2; refine bB 0 rfl (by kernel_rfl) (by kernel_rfl) (by kernel_rfl) rfl (fun _ hS => bM rfl) (Evo.refl [] w1) ?_; refine bB 2 rfl (by kernel_rfl) (by kernel_rfl) (by kernel_rfl) rfl (fun _ hS => bM rfl) (Evo.refl [] w1) ?_; refine bB 3 rfl (by kernel_rfl) (by kernel_rfl) (by kernel_rfl) rfl (fun _ hS => aR rfl) (Evo.refl [] w1) ?_; refine bB 4 rfl (by kernel_rfl) (by kernel_rfl) (by kernel_rfl) rfl (fun _ hS => aE rfl eX) (Evo.refl [] w1) ?_; refine bB 5 rfl (by kernel_rfl) (by kernel_rfl) (by kernel_rfl) rfl (fun _ hS => eQ (o := 2) rfl iY dU (vs := [.bool st.now.fold, .bool st.now.lines, .bool st.now.dots, .bool st.now.lazy]) rfl (xR (hS.blk0 hB4))) (Evo.refl [] w1) ?_; refine cL [1, 6, 7] (by kernel_rfl) rfl ⟨?_, ?_, ?_, trivial⟩
   ·skip
    refine cV rfl ?_; refine aN (vs := [_]) lI rfl (nJ ⟨hB4, hO5, hR.ne⟩ (by omega) h40.1) rfl ?_; rintro _ w6 ⟨rfl, hw7⟩; have hE8 := hE3.then hw7; have hE9 := (Evo.refl [] w1).then hw7; have hB10 := hw7.blk0 hB4; have hO11 := hO5.evo0 hw7; refine aD (cG (.inl hE9) ?_); refine cL [6, 7] (by kernel_rfl) rfl ⟨?_, ?_, trivial⟩
    ·skip
     refine cV rfl ?_; refine dN rfl jG fun b3 w12 hB13 hs14 hw15 => ?_; have hsz_b3 := hs14; have hA16 := Apart.new (Lt.blk hB10) hs14; have hA17 := Apart.new (Lt.own hO11) hs14; have hG18 := Ge.new hE8 hs14; have hG19 := Ge.new hE9 hs14; have hE20 := hE8.then hw15; have hE21 := hE9.then hw15; have hB22 := hw15.blk0 hB10; have hO23 := hO11.evo0 hw15; refine aD (cG (.inl hE21) ?_); refine cL [7] (by kernel_rfl) rfl ⟨?_, trivial⟩; refine cV rfl ?_; refine dN rfl mH fun b4 w24 hB25 hs26 hw27 => ?_; have hsz_b4 := hs26; have hA28 := Apart.new (Lt.blk hB22) hs26; have hA29 := Apart.new (Lt.own hO23) hs26; have hA30 := Apart.new (Lt.blk hB13) hs26; have hG31 := Ge.new hE20 hs26; have hG32 := Ge.new hE21 hs26; have hE33 := hE20.then hw27; have hE34 := hE21.then hw27; have hB35 := hw27.blk0 hB22; have hO36 := hO23.evo0 hw27; have hB37 := hw27.blk0 hB13; refine aD (cG (.inl hE34) ?_); refine cL [8] (by kernel_rfl) rfl ⟨?_, trivial⟩; refine cV rfl ?_; refine bQ rfl rfl bR hB37 rfl rfl ⟨rfl, rfl, rfl, rfl, rfl, rfl, rfl, rfl, rfl, trivial⟩ fun w38 hB39 hw40 => ?_; have hE41 := hE33.step hw40 hG18.mem1; have hE42 := hE34.step hw40 hG19.mem1; have hB43 := hw40.blk hB35 hA16.nmem1; have hO44 := hO36.evo hw40 hA17.own1; have hB45 := hw40.blk hB25 hA30.symm.nmem1
     try simp only [dB, Nat.reduceAdd] at hB39
     refine aD (cG (.inl hE42) ?_); refine cL [9] (by kernel_rfl) rfl ⟨?_, trivial⟩; refine cV rfl ?_; refine bQ rfl rfl dU hB45 rfl rfl ⟨rfl, rfl, rfl, rfl, trivial⟩ fun w46 hB47 hw48 => ?_; have hE49 := hE41.step hw48 hG31.mem1; have hE50 := hE42.step hw48 hG32.mem1; have hB51 := hw48.blk hB43 hA28.nmem1; have hO52 := hO44.evo hw48 hA29.own1; have hB53 := hw48.blk hB39 hA30.nmem1
     try simp only [dB, Nat.reduceAdd] at hB47
     refine aD (cG (.inl hE50) ?_); refine eH (by kernel_rfl) (bI ?_); refine ⟨⟨b3, b4⟩, ⟨rfl, rfl, trivial⟩, ⟨rfl, rfl, trivial⟩, hE49, ?_⟩; exact ⟨⟨hB51, hO52, hR.ne⟩, hB53, hB47, hG18, hG31, hA30⟩
    refine cV rfl ?_; refine dN rfl mH fun b4 w54 hB55 hs56 hw57 => ?_; have hsz_b4 := hs56; have hA58 := Apart.new (Lt.blk hB10) hs56; have hA59 := Apart.new (Lt.own hO11) hs56; have hG60 := Ge.new hE8 hs56; have hG61 := Ge.new hE9 hs56; have hE62 := hE8.then hw57; have hE63 := hE9.then hw57; have hB64 := hw57.blk0 hB10; have hO65 := hO11.evo0 hw57; refine aD (cG (.inl hE63) ?_); refine cL [6] (by kernel_rfl) rfl ⟨?_, trivial⟩; refine cV rfl ?_; refine dN rfl jG fun b3 w66 hB67 hs68 hw69 => ?_; have hsz_b3 := hs68; have hA70 := Apart.new (Lt.blk hB64) hs68; have hA71 := Apart.new (Lt.own hO65) hs68; have hA72 := Apart.new (Lt.blk hB55) hs68; have hG73 := Ge.new hE62 hs68; have hG74 := Ge.new hE63 hs68; have hE75 := hE62.then hw69; have hE76 := hE63.then hw69; have hB77 := hw69.blk0 hB64; have hO78 := hO65.evo0 hw69; have hB79 := hw69.blk0 hB55; refine aD (cG (.inl hE76) ?_); refine cL [8] (by kernel_rfl) rfl ⟨?_, trivial⟩; refine cV rfl ?_; refine bQ rfl rfl bR hB67 rfl rfl ⟨rfl, rfl, rfl, rfl, rfl, rfl, rfl, rfl, rfl, trivial⟩ fun w80 hB81 hw82 => ?_; have hE83 := hE75.step hw82 hG73.mem1; have hE84 := hE76.step hw82 hG74.mem1; have hB85 := hw82.blk hB77 hA70.nmem1; have hO86 := hO78.evo hw82 hA71.own1; have hB87 := hw82.blk hB79 hA72.nmem1
    try simp only [dB, Nat.reduceAdd] at hB81
    refine aD (cG (.inl hE84) ?_); refine cL [9] (by kernel_rfl) rfl ⟨?_, trivial⟩; refine cV rfl ?_; refine bQ rfl rfl dU hB87 rfl rfl ⟨rfl, rfl, rfl, rfl, trivial⟩ fun w88 hB89 hw90 => ?_; have hE91 := hE83.step hw90 hG60.mem1; have hE92 := hE84.step hw90 hG61.mem1; have hB93 := hw90.blk hB85 hA58.nmem1; have hO94 := hO86.evo hw90 hA59.own1; have hB95 := hw90.blk hB81 hA72.symm.nmem1
    try simp only [dB, Nat.reduceAdd] at hB89
    refine aD (cG (.inl hE92) ?_); refine eH (by kernel_rfl) (bI ?_); refine ⟨⟨b3, b4⟩, ⟨rfl, rfl, trivial⟩, ⟨rfl, rfl, trivial⟩, hE91, ?_⟩; exact ⟨⟨hB93, hO94, hR.ne⟩, hB95, hB89, hG73, hG60, hA72.symm⟩
   ·skip
    refine cV rfl ?_; refine dN rfl jG fun b3 w96 hB97 hs98 hw99 => ?_; have hsz_b3 := hs98; have hA100 := Apart.new (Lt.blk hB4) hs98; have hA101 := Apart.new (Lt.own hO5) hs98; have hG102 := Ge.new hE3 hs98; have hG103 := Ge.new (Evo.refl [] w1) hs98; have hE104 := hE3.then hw99; have hE105 := (Evo.refl [] w1).then hw99; have hB106 := hw99.blk0 hB4; have hO107 := hO5.evo0 hw99; refine aD (cG (.inl hE105) ?_); refine cL [1, 7] (by kernel_rfl) rfl ⟨?_, ?_, trivial⟩
    ·skip
     refine cV rfl ?_; refine aN (vs := [_]) lI rfl (nJ ⟨hB106, hO107, hR.ne⟩ (by omega) h40.1) rfl ?_; rintro _ w108 ⟨rfl, hw109⟩; have hE110 := hE104.then hw109; have hE111 := hE105.then hw109; have hB112 := hw109.blk0 hB106; have hO113 := hO107.evo0 hw109; have hB114 := hw109.blk0 hB97; refine aD (cG (.inl hE111) ?_); refine cL [7] (by kernel_rfl) rfl ⟨?_, trivial⟩; refine cV rfl ?_; refine dN rfl mH fun b4 w115 hB116 hs117 hw118 => ?_; have hsz_b4 := hs117; have hA119 := Apart.new (Lt.blk hB112) hs117; have hA120 := Apart.new (Lt.own hO113) hs117; have hA121 := Apart.new (Lt.blk hB114) hs117; have hG122 := Ge.new hE110 hs117; have hG123 := Ge.new hE111 hs117; have hE124 := hE110.then hw118; have hE125 := hE111.then hw118; have hB126 := hw118.blk0 hB112; have hO127 := hO113.evo0 hw118; have hB128 := hw118.blk0 hB114; refine aD (cG (.inl hE125) ?_); refine cL [8] (by kernel_rfl) rfl ⟨?_, trivial⟩; refine cV rfl ?_; refine bQ rfl rfl bR hB128 rfl rfl ⟨rfl, rfl, rfl, rfl, rfl, rfl, rfl, rfl, rfl, trivial⟩ fun w129 hB130 hw131 => ?_; have hE132 := hE124.step hw131 hG102.mem1; have hE133 := hE125.step hw131 hG103.mem1; have hB134 := hw131.blk hB126 hA100.nmem1; have hO135 := hO127.evo hw131 hA101.own1; have hB136 := hw131.blk hB116 hA121.symm.nmem1
     try simp only [dB, Nat.reduceAdd] at hB130
     refine aD (cG (.inl hE133) ?_); refine cL [9] (by kernel_rfl) rfl ⟨?_, trivial⟩; refine cV rfl ?_; refine bQ rfl rfl dU hB136 rfl rfl ⟨rfl, rfl, rfl, rfl, trivial⟩ fun w137 hB138 hw139 => ?_; have hE140 := hE132.step hw139 hG122.mem1; have hE141 := hE133.step hw139 hG123.mem1; have hB142 := hw139.blk hB134 hA119.nmem1; have hO143 := hO135.evo hw139 hA120.own1; have hB144 := hw139.blk hB130 hA121.nmem1
     try simp only [dB, Nat.reduceAdd] at hB138
     refine aD (cG (.inl hE141) ?_); refine eH (by kernel_rfl) (bI ?_); refine ⟨⟨b3, b4⟩, ⟨rfl, rfl, trivial⟩, ⟨rfl, rfl, trivial⟩, hE140, ?_⟩; exact ⟨⟨hB142, hO143, hR.ne⟩, hB144, hB138, hG102, hG122, hA121⟩
    refine cV rfl ?_; refine dN rfl mH fun b4 w145 hB146 hs147 hw148 => ?_; have hsz_b4 := hs147; have hA149 := Apart.new (Lt.blk hB106) hs147; have hA150 := Apart.new (Lt.own hO107) hs147; have hA151 := Apart.new (Lt.blk hB97) hs147; have hG152 := Ge.new hE104 hs147; have hG153 := Ge.new hE105 hs147; have hE154 := hE104.then hw148; have hE155 := hE105.then hw148; have hB156 := hw148.blk0 hB106; have hO157 := hO107.evo0 hw148; have hB158 := hw148.blk0 hB97; refine aD (cG (.inl hE155) ?_); refine cL [1] (by kernel_rfl) rfl ⟨?_, trivial⟩; refine cV rfl ?_; refine aN (vs := [_]) lI rfl (nJ ⟨hB156, hO157, hR.ne⟩ (by omega) h40.1) rfl ?_; rintro _ w159 ⟨rfl, hw160⟩; have hE161 := hE154.then hw160; have hE162 := hE155.then hw160; have hB163 := hw160.blk0 hB156; have hO164 := hO157.evo0 hw160; have hB165 := hw160.blk0 hB158; have hB166 := hw160.blk0 hB146; refine aD (cG (.inl hE162) ?_); refine cL [8] (by kernel_rfl) rfl ⟨?_, trivial⟩; refine cV rfl ?_; refine bQ rfl rfl bR hB165 rfl rfl ⟨rfl, rfl, rfl, rfl, rfl, rfl, rfl, rfl, rfl, trivial⟩ fun w167 hB168 hw169 => ?_; have hE170 := hE161.step hw169 hG102.mem1; have hE171 := hE162.step hw169 hG103.mem1; have hB172 := hw169.blk hB163 hA100.nmem1; have hO173 := hO164.evo hw169 hA101.own1; have hB174 := hw169.blk hB166 hA151.symm.nmem1
    try simp only [dB, Nat.reduceAdd] at hB168
    refine aD (cG (.inl hE171) ?_); refine cL [9] (by kernel_rfl) rfl ⟨?_, trivial⟩; refine cV rfl ?_; refine bQ rfl rfl dU hB174 rfl rfl ⟨rfl, rfl, rfl, rfl, trivial⟩ fun w175 hB176 hw177 => ?_; have hE178 := hE170.step hw177 hG152.mem1; have hE179 := hE171.step hw177 hG153.mem1; have hB180 := hw177.blk hB172 hA149.nmem1; have hO181 := hO173.evo hw177 hA150.own1; have hB182 := hw177.blk hB168 hA151.nmem1
    try simp only [dB, Nat.reduceAdd] at hB176
    refine aD (cG (.inl hE179) ?_); refine eH (by kernel_rfl) (bI ?_); refine ⟨⟨b3, b4⟩, ⟨rfl, rfl, trivial⟩, ⟨rfl, rfl, trivial⟩, hE178, ?_⟩; exact ⟨⟨hB180, hO181, hR.ne⟩, hB182, hB176, hG102, hG152, hA151⟩
   refine cV rfl ?_; refine dN rfl mH fun b4 w183 hB184 hs185 hw186 => ?_; have hsz_b4 := hs185; have hA187 := Apart.new (Lt.blk hB4) hs185; have hA188 := Apart.new (Lt.own hO5) hs185; have hG189 := Ge.new hE3 hs185; have hG190 := Ge.new (Evo.refl [] w1) hs185; have hE191 := hE3.then hw186; have hE192 := (Evo.refl [] w1).then hw186; have hB193 := hw186.blk0 hB4; have hO194 := hO5.evo0 hw186; refine aD (cG (.inl hE192) ?_); refine cL [1, 6] (by kernel_rfl) rfl ⟨?_, ?_, trivial⟩
   ·skip
    refine cV rfl ?_; refine aN (vs := [_]) lI rfl (nJ ⟨hB193, hO194, hR.ne⟩ (by omega) h40.1) rfl ?_; rintro _ w195 ⟨rfl, hw196⟩; have hE197 := hE191.then hw196; have hE198 := hE192.then hw196; have hB199 := hw196.blk0 hB193; have hO200 := hO194.evo0 hw196; have hB201 := hw196.blk0 hB184; refine aD (cG (.inl hE198) ?_); refine cL [6] (by kernel_rfl) rfl ⟨?_, trivial⟩; refine cV rfl ?_; refine dN rfl jG fun b3 w202 hB203 hs204 hw205 => ?_; have hsz_b3 := hs204; have hA206 := Apart.new (Lt.blk hB199) hs204; have hA207 := Apart.new (Lt.own hO200) hs204; have hA208 := Apart.new (Lt.blk hB201) hs204; have hG209 := Ge.new hE197 hs204; have hG210 := Ge.new hE198 hs204; have hE211 := hE197.then hw205; have hE212 := hE198.then hw205; have hB213 := hw205.blk0 hB199; have hO214 := hO200.evo0 hw205; have hB215 := hw205.blk0 hB201; refine aD (cG (.inl hE212) ?_); refine cL [8] (by kernel_rfl) rfl ⟨?_, trivial⟩; refine cV rfl ?_; refine bQ rfl rfl bR hB203 rfl rfl ⟨rfl, rfl, rfl, rfl, rfl, rfl, rfl, rfl, rfl, trivial⟩ fun w216 hB217 hw218 => ?_; have hE219 := hE211.step hw218 hG209.mem1; have hE220 := hE212.step hw218 hG210.mem1; have hB221 := hw218.blk hB213 hA206.nmem1; have hO222 := hO214.evo hw218 hA207.own1; have hB223 := hw218.blk hB215 hA208.nmem1
    try simp only [dB, Nat.reduceAdd] at hB217
    refine aD (cG (.inl hE220) ?_); refine cL [9] (by kernel_rfl) rfl ⟨?_, trivial⟩; refine cV rfl ?_; refine bQ rfl rfl dU hB223 rfl rfl ⟨rfl, rfl, rfl, rfl, trivial⟩ fun w224 hB225 hw226 => ?_; have hE227 := hE219.step hw226 hG189.mem1; have hE228 := hE220.step hw226 hG190.mem1; have hB229 := hw226.blk hB221 hA187.nmem1; have hO230 := hO222.evo hw226 hA188.own1; have hB231 := hw226.blk hB217 hA208.symm.nmem1
    try simp only [dB, Nat.reduceAdd] at hB225
    refine aD (cG (.inl hE228) ?_); refine eH (by kernel_rfl) (bI ?_); refine ⟨⟨b3, b4⟩, ⟨rfl, rfl, trivial⟩, ⟨rfl, rfl, trivial⟩, hE227, ?_⟩; exact ⟨⟨hB229, hO230, hR.ne⟩, hB231, hB225, hG209, hG189, hA208.symm⟩
   refine cV rfl ?_; refine dN rfl jG fun b3 w232 hB233 hs234 hw235 => ?_; have hsz_b3 := hs234; have hA236 := Apart.new (Lt.blk hB193) hs234; have hA237 := Apart.new (Lt.own hO194) hs234; have hA238 := Apart.new (Lt.blk hB184) hs234; have hG239 := Ge.new hE191 hs234; have hG240 := Ge.new hE192 hs234; have hE241 := hE191.then hw235; have hE242 := hE192.then hw235; have hB243 := hw235.blk0 hB193; have hO244 := hO194.evo0 hw235; have hB245 := hw235.blk0 hB184; refine aD (cG (.inl hE242) ?_); refine cL [1] (by kernel_rfl) rfl ⟨?_, trivial⟩; refine cV rfl ?_; refine aN (vs := [_]) lI rfl (nJ ⟨hB243, hO244, hR.ne⟩ (by omega) h40.1) rfl ?_; rintro _ w246 ⟨rfl, hw247⟩; have hE248 := hE241.then hw247; have hE249 := hE242.then hw247; have hB250 := hw247.blk0 hB243; have hO251 := hO244.evo0 hw247; have hB252 := hw247.blk0 hB245; have hB253 := hw247.blk0 hB233; refine aD (cG (.inl hE249) ?_); refine cL [8] (by kernel_rfl) rfl ⟨?_, trivial⟩; refine cV rfl ?_; refine bQ rfl rfl bR hB253 rfl rfl ⟨rfl, rfl, rfl, rfl, rfl, rfl, rfl, rfl, rfl, trivial⟩ fun w254 hB255 hw256 => ?_; have hE257 := hE248.step hw256 hG239.mem1; have hE258 := hE249.step hw256 hG240.mem1; have hB259 := hw256.blk hB250 hA236.nmem1; have hO260 := hO251.evo hw256 hA237.own1; have hB261 := hw256.blk hB252 hA238.nmem1
   try simp only [dB, Nat.reduceAdd] at hB255
   refine aD (cG (.inl hE258) ?_); refine cL [9] (by kernel_rfl) rfl ⟨?_, trivial⟩; refine cV rfl ?_; refine bQ rfl rfl dU hB261 rfl rfl ⟨rfl, rfl, rfl, rfl, trivial⟩ fun w262 hB263 hw264 => ?_; have hE265 := hE257.step hw264 hG189.mem1; have hE266 := hE258.step hw264 hG190.mem1; have hB267 := hw264.blk hB259 hA187.nmem1; have hO268 := hO260.evo hw264 hA188.own1; have hB269 := hw264.blk hB255 hA238.symm.nmem1
   try simp only [dB, Nat.reduceAdd] at hB263
   refine aD (cG (.inl hE266) ?_); refine eH (by kernel_rfl) (bI ?_); refine ⟨⟨b3, b4⟩, ⟨rfl, rfl, trivial⟩, ⟨rfl, rfl, trivial⟩, hE265, ?_⟩; exact ⟨⟨hB267, hO268, hR.ne⟩, hB269, hB263, hG239, hG189, hA238.symm⟩
  rintro ⟨b3, b4⟩ w270 ⟨hV271, ⟨hR1, hb3, hb4, hg3, hg4, ha34⟩⟩; refine aA ?_; show CW _ _ _ _ [(3, .pointer (some ⟨b3, 0, none⟩)), (4, .pointer (some ⟨b4, 0, none⟩)), (0, _), (2, _)] _
  try dsimp only at hR1
  try dsimp only at hb3
  try dsimp only at hb4
  try dsimp only at hg3
  try dsimp only at hg4
  try dsimp only at ha34
  have hA1 : Apart (some b) (some b3) := kO hbw hg3; have hA2 : Apart (some b) (some b4) := kO hbw hg4; have hA3 : Apart ob (some b3) := kO how hg3; have hA4 : Apart ob (some b4) := kO how hg4; have hob0 := pOpen_b (fl := st.now) hb h40; have hoe := pOpen_e (s := s) (i := st.pos) (fl := st.now)
  generalize ho : iS s st.pos st.now = o at *
  have hbdl := hb.le; refine aF (aF (aC (aB rfl (aE rfl fA) (aB rfl (aI rfl iZ (aJ hb3 rfl)) (aB rfl (bC rfl rfl) ?_))))); refine aH (aX (t := 16) rfl (fun hs16 => ?_) (fun hs16 => ?_))
  ·skip
   refine aP (aB rfl (aE rfl kQ) (aP (aB rfl (aI rfl eF (aJ hb3 rfl)) (bD (aD (aA (fB rfl (fun hc19 => ?_) (fun hc19 => ?_))))))))
   ·skip
    obtain ⟨hz1, hz2, hz3⟩ := hob0 hs16; refine aF ?_; refine hD (fun w0 w' => Evo [b] w0 w') (by kernel_rfl) (fun w272 hw273 => ?_); have hE274 := hV271.then hw273; have hB275 := hw273.blk0 hR1.blk; have hO276 := hR1.own.evo0 hw273; have hB277 := hw273.blk0 hb3; refine bB 0 rfl (by kernel_rfl) (by kernel_rfl) (by kernel_rfl) rfl (fun _ hS => bM rfl) (Evo.refl [b] w272) ?_; refine bB 1 rfl (by kernel_rfl) (by kernel_rfl) (by kernel_rfl) rfl (fun _ hS => aR rfl) (Evo.refl [b] w272) ?_; refine bB 2 rfl (by kernel_rfl) (by kernel_rfl) (by kernel_rfl) rfl (fun _ hS => aE rfl bK) (Evo.refl [b] w272) ?_; refine bB 4 rfl (by kernel_rfl) (by kernel_rfl) (by kernel_rfl) rfl (fun _ hS => aE rfl fW) (Evo.refl [b] w272) ?_; refine bB 5 rfl (by kernel_rfl) (by kernel_rfl) (by kernel_rfl) rfl (fun _ hS => aI rfl aU (aJ (hS.blk hB277 (hA1.symm.nmem1)) rfl)) (Evo.refl [b] w272) ?_; refine cL [3] (by kernel_rfl) rfl ⟨?_, trivial⟩; refine cV rfl ?_; refine aB rfl (aI rfl aU (aJ hB275 rfl)) (aD (cG (.inl (Evo.refl [b] w272)) ?_)); refine bB 6 rfl (by kernel_rfl) (by kernel_rfl) (by kernel_rfl) rfl (fun _ hS => bF rfl rfl (by omega) (by omega)) (Evo.refl [b] w272) ?_; refine bB 7 rfl (by kernel_rfl) (by kernel_rfl) (by kernel_rfl) rfl (fun _ hS => aR rfl) (Evo.refl [b] w272) ?_; refine bB 8 rfl (by kernel_rfl) (by kernel_rfl) (by kernel_rfl) rfl (fun _ hS => aE rfl bK) (Evo.refl [b] w272) ?_; refine cL [9] (by kernel_rfl) rfl ⟨?_, trivial⟩; refine cV rfl ?_; refine bN rfl rfl (rfl) cB hB275 rfl fun w279 hB280 hw281 => ?_
    have hE282 := hE274.step hw281 (fun y hy => .inl (by rw [List.mem_singleton.1 hy]; simp))
    have hE283 := (Evo.refl [b] w272).step hw281 (fun y hy => .inl hy); have hO284 := hO276.evo hw281 hR1.ap.symm.own1; have hB285 := hw281.blk hB277 hA1.symm.nmem1
    try simp only [dB, Nat.reduceAdd] at hB280
    refine aD (cG (.inl hE283) ?_); refine eH (by kernel_rfl) (aA ?_); refine aF (aC (aH (aB rfl (aE rfl iC) (aB rfl (eQ (o := 2) rfl iY dU (vs := [.bool o.thn.fold, .bool o.thn.lines, .bool o.thn.dots, .bool o.thn.lazy]) rfl (oV hB285)) ?_)))); refine aB rfl (aR rfl) (aB rfl (aE rfl eX) (kJ (f1 := .bool o.thn.fold) (f2 := .bool o.thn.lines) (f3 := .bool o.thn.dots) (f4 := .bool o.thn.lazy) rfl rfl dU ⟨rfl, rfl, rfl, rfl, trivial⟩ hB280 fun w287 hB288 hw289 => ?_))
    have hE290 := hE282.step hw289 (fun y hy => .inl (by rw [List.mem_singleton.1 hy]; simp))
    have hO291 := hO284.evo hw289 hR1.ap.symm.own1; refine aD (aA (aF (aC (aM (aD (aA (aQ (aO (cE (aK rfl rfl ?_))))))))))
    exact ⟨[], { st with pos := st.pos + o.size, now := o.thn }, br_set ho hs16 hc19, hE290, ⟨rfl, Nat.le_add_right _ _, hz2, hnl⟩, (by show st.pos < st.pos + o.size; omega), (by show 0 + st.pos ≤ st.pos + o.size; omega), a, c, ob, none, 0, none, [], [], rfl, OwnS.nil _ _ _, OTs.nil _, Fr.nil _, ⟨hB288, hO291, hR.ne⟩, .inl rfl⟩
   refine bA (aA (aF (aF ?_)))
   have hno : ¬ (o.err = 0 ∧ o.sett = true) := fun h => by rw [h.2] at hc19; cases hc19
   refine aC (aH (aB rfl (aR rfl) (aB rfl (aE rfl eW) (aB rfl (aI rfl aU (aJ hR1.blk rfl)) (aB rfl (bC rfl rfl) ?_))))); refine aD (aA (bJ rfl (fun hc38 => ?_) (fun hc38 => ?_)))
   ·skip
    refine aC (cH (vs := [_]) dD rfl (eV 3) rfl ?_ ?_)
    ·skip
     intro pv wp hpp; obtain ⟨rfl, hpw⟩ := hpp; exact And.intro rfl ⟨_, rfl, _, JI ho hno (by omega), rfl, (hV271).then hpw⟩
    intro _ _ hF; exact hF.elim
   refine bA (aA (aF (aF ?_)))
   have hne250 : ¬ st.opn = 250 := by omega
   refine aC (aB rfl (aE rfl fA) (aB rfl (aI rfl iZ (aJ hb3 rfl)) (aB rfl (gJ rfl rfl) ?_))); refine aD (aA (bJ rfl (fun hc42 => ?_) (fun hc42 => ?_)))
   ·skip
    refine aC (aB rfl (aE rfl fA) (aB rfl (aI rfl iZ (aJ hb3 rfl)) (cH (vs := [_]) dD rfl (eV o.err) rfl ?_ ?_)))
    ·skip
     intro pv wp hpp; obtain ⟨rfl, hpw⟩ := hpp; exact And.intro rfl ⟨_, rfl, _, OV ho hno hne250 hc42, rfl, (hV271).then hpw⟩
    intro _ _ hF; exact hF.elim
   refine bA (aA (aF ?_)); have herr : o.err = 0 := Classical.not_not.1 hc42; obtain ⟨hz1, hz2, hz3⟩ := hob0 herr; refine aC (aM (aD (aA (aF (aF (aC (aB rfl (aE rfl gM) (aB rfl (aI rfl eF (aJ hb3 rfl)) (aD (aA (fB rfl (fun hc47 => ?_) (fun hc47 => ?_))))))))))))
   ·skip
    have hVW9 := hV271; refine aC (aH (aB rfl (aE rfl iQ) (aB rfl (aI rfl cR (aJ hb3 rfl)) (cH (vs := [_, _]) tT rfl (vJ ⟨hR1.blk, hR1.own, hR1.ne⟩ o.name hnl) rfl ?_ ?_))))
    ·skip
     intro pv wp hpp; obtain ⟨hfl, rfl, hpw⟩ := hpp; exact And.intro rfl ⟨_, rfl, _, JH ho hno hne250 hc42 hc47 hfl, rfl, (hV271).then hpw⟩
    rintro _ w298 ⟨hnf, rfl, hw299, a2, c2, ob2, hR2, hnb⟩; have hA53 := eG hA3.symm (Lt.blk hb3) hnb; have hA54 := eG hA4.symm (Lt.blk hb4) hnb; have hGo2 := eG hGo (AZ (hG.evo hV271 hgw)) hnb; have hnb2 : NB w ob ob2 := (show NB w ob ob from .inl rfl).older hnb hVW9.size; have hE300 := hV271.step hw299 (fun y hy => .inl hy); have hB301 := hw299.blk hb3 (rP hA1.symm hA3.symm); have hB302 := hw299.blk hb4 (rP hA2.symm hA4.symm); have hpp2 : ({ st with names := st.names ++ [o.name] } : PS).pos = st.pos := rfl; have hpo2 : ({ st with names := st.names ++ [o.name] } : PS).opn = st.opn := rfl
    have hnl2 : (st.names ++ [o.name]).length ≤ 100 := by rw [List.length_append]; have : st.names.length ≠ 100 := fun h => hnf (.inl h); simp; omega
    refine aM (aD (aA (aF ?_))); refine hD (fun w0 w' => Evo [b] w0 w') (by kernel_rfl) (fun w303 hw304 => ?_); have hE305 := hE300.then hw304; have hB306 := hw304.blk0 hB301; have hB307 := hw304.blk0 hB302; have hB308 := hw304.blk0 hR2.blk; have hO309 := hR2.own.evo0 hw304; refine bB 0 rfl (by kernel_rfl) (by kernel_rfl) (by kernel_rfl) rfl (fun _ hS => bM rfl) (Evo.refl [b] w303) ?_; refine bB 1 rfl (by kernel_rfl) (by kernel_rfl) (by kernel_rfl) rfl (fun _ hS => aR rfl) (Evo.refl [b] w303) ?_; refine bB 2 rfl (by kernel_rfl) (by kernel_rfl) (by kernel_rfl) rfl (fun _ hS => aE rfl bK) (Evo.refl [b] w303) ?_; refine bB 4 rfl (by kernel_rfl) (by kernel_rfl) (by kernel_rfl) rfl (fun _ hS => aE rfl fW) (Evo.refl [b] w303) ?_; refine bB 5 rfl (by kernel_rfl) (by kernel_rfl) (by kernel_rfl) rfl (fun _ hS => aI rfl aU (aJ (hS.blk hB306 (hA1.symm.nmem1)) rfl)) (Evo.refl [b] w303) ?_; refine cL [3] (by kernel_rfl) rfl ⟨?_, trivial⟩; refine cV rfl ?_; refine aB rfl (aI rfl aU (aJ hB308 rfl)) (aD (cG (.inl (Evo.refl [b] w303)) ?_)); refine bB 6 rfl (by kernel_rfl) (by kernel_rfl) (by kernel_rfl) rfl (fun _ hS => bF rfl rfl (by omega) (by omega)) (Evo.refl [b] w303) ?_; refine bB 7 rfl (by kernel_rfl) (by kernel_rfl) (by kernel_rfl) rfl (fun _ hS => aR rfl) (Evo.refl [b] w303) ?_; refine bB 8 rfl (by kernel_rfl) (by kernel_rfl) (by kernel_rfl) rfl (fun _ hS => aE rfl bK) (Evo.refl [b] w303) ?_; refine cL [9] (by kernel_rfl) rfl ⟨?_, trivial⟩; refine cV rfl ?_; refine bN rfl rfl (rfl) cB hB308 rfl fun w310 hB311 hw312 => ?_
    have hE313 := hE305.step hw312 (fun y hy => .inl (by rw [List.mem_singleton.1 hy]; simp))
    have hE314 := (Evo.refl [b] w303).step hw312 (fun y hy => .inl hy); have hB315 := hw312.blk hB306 hA1.symm.nmem1; have hB316 := hw312.blk hB307 hA2.symm.nmem1; have hO317 := hO309.evo hw312 hR2.ap.symm.own1
    try simp only [dB, Nat.reduceAdd] at hB311
    refine aD (cG (.inl hE314) ?_); refine eH (by kernel_rfl) (aA ?_); refine aF (aC (aH (aB rfl (aR rfl) (aB rfl (aE rfl eW) (aB rfl (aI rfl aU (aJ hB311 rfl)) ?_))))); refine aB rfl (bF rfl rfl (by omega) (by omega)) ?_; refine aB rfl (aR rfl) (aB rfl (aE rfl eW) (bN rfl rfl (rfl) cB hB311 rfl fun w318 hB319 hw320 => ?_))
    have hE321 := hE313.step hw320 (fun y hy => .inl (by rw [List.mem_singleton.1 hy]; simp))
    have hB322 := hw320.blk hB315 hA1.symm.nmem1; have hB323 := hw320.blk hB316 hA2.symm.nmem1; have hO324 := hO317.evo hw320 hR2.ap.symm.own1
    try simp only [dB, Nat.reduceAdd] at hB319
    refine aD (aA (aF (aC (aH (aB rfl (aE rfl iC) (aB rfl (eQ (o := 2) rfl iY dU (vs := [.bool o.thn.fold, .bool o.thn.lines, .bool o.thn.dots, .bool o.thn.lazy]) rfl (oV hB322)) ?_)))))); refine aB rfl (aR rfl) (aB rfl (aE rfl eX) (kJ (f1 := .bool o.thn.fold) (f2 := .bool o.thn.lines) (f3 := .bool o.thn.dots) (f4 := .bool o.thn.lazy) rfl rfl dU ⟨rfl, rfl, rfl, rfl, trivial⟩ hB319 fun w325 hB326 hw327 => ?_))
    have hE328 := hE321.step hw327 (fun y hy => .inl (by rw [List.mem_singleton.1 hy]; simp))
    have hB329 := hw327.blk hB322 hA1.symm.nmem1; have hB330 := hw327.blk hB323 hA2.symm.nmem1; have hO331 := hO324.evo hw327 hR2.ap.symm.own1; refine aD (aA (aF (aC (aH ?_)))); refine cH (vs := [_]) mJ rfl (hex (by omega) (st := ⟨st.pos + o.size, o.thn, st.opn + 1, st.names ++ [o.name]⟩) ⟨hB326, hO331, hR2.ne⟩ rfl hz2 hnl2 (hG.evo hE328 hgw) hGo2) rfl ?_ ?_
    ·skip
     intro pv wp hpp; obtain ⟨e9, hpe, rfl, hpw⟩ := hpp; exact And.intro rfl ⟨_, rfl, _, (oY ho hno hne250 hc42 (fun h => hnf h.2)).trans (by rw [if_pos hc47, hpe]), rfl, (hE328).step hpw (lG hnb2)⟩
    rintro rv w332 ⟨x, st2, hx, hw333, hmv, a3, c3, ob3, vs, bs, rfl, hOT, hFr, hR3, hnb3⟩; have hV9 := hE328; have hA63 := eG hA53 (Lt.blk hB329) hnb3; have hA64 := eG hA54 (Lt.blk hB330) hnb3; have hnb4 := hnb2.older hnb3 hV9.size; have hFr9 : Fr w bs := hFr.older hV9.size; have hE334 := hE328.step hw333 (lG hnb2); have hB335 := hw333.blk hB329 (rP hA1.symm hA53); have hB336 := hw333.blk hB330 (rP hA2.symm hA54); obtain ⟨ra, rc, ka, kc, rfl⟩ := id hOT.nine; have hltx := hOT.lt; refine dN rfl fE fun b6 w337 hB338 hs339 hw340 => ?_; have hsz_b6 := hs339; have hA341 := Apart.new (Lt.blk hB335) hs339; have hA342 := Apart.new (Lt.blk hB336) hs339; have hA343 := Apart.new (Lt.blk hR3.blk) hs339; have hA344 := Apart.new (Lt.own hR3.own) hs339; have hG345 := Ge.new hE334 hs339; have hE346 := hE334.then hw340; have hB347 := hw340.blk0 hB335; have hB348 := hw340.blk0 hB336; have hB349 := hw340.blk0 hR3.blk; have hO350 := hR3.own.evo0 hw340; have hF351 := hOT.evo0 hw340; refine bQ rfl rfl bG hB338 rfl rfl ⟨rfl, rfl, rfl, rfl, rfl, rfl, rfl, rfl, rfl, trivial⟩ fun w352 hB353 hw354 => ?_; have hE355 := hE346.step hw354 hG345.mem1; have hB356 := hw354.blk hB347 hA341.nmem1; have hB357 := hw354.blk hB348 hA342.nmem1; have hB358 := hw354.blk hB349 hA343.nmem1; have hO359 := hO350.evo hw354 hA344.own1
    have hF360 := hF351.evo hw354 (fun q hq h => by have h8 := hltx q hq; have h9 := List.mem_singleton.1 h; omega)
    try simp only [dB, Nat.reduceAdd] at hB353
    refine aD (aA (aF (aF (aC (aH ?_))))); refine aN (vs := [_, _]) iF rfl (lD ⟨hB358, hO359, hR3.ne⟩ (by omega) 41 (by decide)) rfl ?_; rintro _ w361 ⟨rfl, hw362, hR4⟩
    have hE363 := hE355.step hw362 (fun y hy => .inl (by rw [List.mem_singleton.1 hy]; simp))
    have hB364 := hw362.blk hB356 ((by first | exact hA1.symm.own1 | exact hA1.symm.nmem1)); have hB365 := hw362.blk hB357 ((by first | exact hA2.symm.own1 | exact hA2.symm.nmem1)); have hB366 := hF360.evo hw362 (wE hFr9 hbw (Nat.le_refl _)); have hB367 := hw362.blk hB353 ((by first | exact hA343.symm.own1 | exact hA343.symm.nmem1)); refine aB rfl (lH rfl) ?_; refine aD (aA (bJ rfl (fun hc77 => ?_) (fun hc77 => ?_)))
    ·skip
     refine aC (cH (vs := [_]) dD rfl (eV 80) rfl ?_ ?_)
     ·skip
      intro pv wp hpp; obtain ⟨rfl, hpw⟩ := hpp
      exact And.intro rfl ⟨_, rfl, _, (oY ho hno hne250 hc42 (fun h => hnf h.2)).trans (by rw [if_pos hc47, hx]; exact if_neg hc77), rfl, (hE363).then hpw⟩
     intro _ _ hF; exact hF.elim
    have h41 : isB s st2.pos 41 := Classical.not_not.1 hc77; rw [if_pos h41] at hR4; have ho2 : st2.opn = st.opn + 1 := hmv.opn; have hle2 : st.pos + o.size ≤ st2.pos := hmv.le
    have ho3 : ((adv st2 1).opn : Int) - 1 = ((st2.opn - 1 : Nat) : Int) := by show ((st2.opn : Nat) : Int) - 1 = _; omega
    refine bA (aA (aF (aC (aH (aB rfl (aR rfl) (aB rfl (aE rfl eW) (aB rfl (aI rfl aU (aJ hR4.blk rfl)) ?_))))))); refine aB rfl (gQ rfl rfl (by omega) (by omega)) ?_; rw [ho3]; refine aB rfl (aR rfl) (aB rfl (aE rfl eW) (bN rfl rfl (rfl) cB hR4.blk rfl fun w370 hB371 hw372 => ?_))
    have hE373 := hE363.step hw372 (fun y hy => .inl (by rw [List.mem_singleton.1 hy]; simp))
    have hB374 := hw372.blk hB364 hA1.symm.nmem1; have hB375 := hw372.blk hB365 hA2.symm.nmem1; have hF376 := hB366.evo hw372 (wE hFr9 hbw (Nat.le_refl _)); have hB377 := hw372.blk hB367 hA343.symm.nmem1; have hO378 := hR4.own.evo hw372 hR4.ap.symm.own1
    try simp only [dB, Nat.reduceAdd] at hB371
    refine aD (aA (aF (aC (aH (aB rfl (cA rfl iY dU hB375 rfl) (aB rfl (aR rfl) (aB rfl (aE rfl eX) (kJ (f1 := .bool st.now.fold) (f2 := .bool st.now.lines) (f3 := .bool st.now.dots) (f4 := .bool st.now.lazy) rfl rfl dU ⟨rfl, rfl, rfl, rfl, trivial⟩ hB371 fun w379 hB380 hw381 => ?_))))))))
    have hE382 := hE373.step hw381 (fun y hy => .inl (by rw [List.mem_singleton.1 hy]; simp))
    have hB383 := hw381.blk hB374 hA1.symm.nmem1; have hF385 := hF376.evo hw381 (wE hFr9 hbw (Nat.le_refl _)); have hB386 := hw381.blk hB377 hA343.symm.nmem1; have hO387 := hO378.evo hw381 hR4.ap.symm.own1; refine aD (aA (aF (aF (aC (aB rfl (aE rfl gM) (aB rfl (aI rfl eF (aJ hB383 rfl)) (aD (aA (fB rfl (fun hc91 => ?_) (fun hc91 => ?_))))))))))
    ·skip
     have hOT9 := hF385; have hV22 := hE382; refine aC (aH (aB rfl (aE rfl iQ) (aB rfl (aI rfl cR (aJ hB383 rfl)) (aB rfl (cA rfl bS bG hB386 rfl) (bP (vs := [_]) rfl dQ rfl rfl rfl rfl fun b96 w388 hO389 hs390 hw391 => ?_))))); have hA394 := Apart.new (Lt.blk hB386) hs390; have hG398 := Ge.new (Evo.refl ([b6]) w379) hs390; have hE399 := hE382.then hw391; have hE400 := (Evo.refl ([b6]) w379).then hw391; have hF403 := hF385.evo0 hw391; have hB404 := hw391.blk0 hB386; have hB405 := hw391.blk0 hB380; have hO406 := hO387.evo0 hw391; refine aB rfl (eU (vs := [(0, _), (6, _), (7, _), (8, _)]) eC rfl (cells := [_, _, _, _, _, _, _, _, _]) rfl) ?_; refine bQ rfl rfl bG hB404 rfl rfl ⟨rfl, rfl, rfl, rfl, rfl, rfl, rfl, rfl, rfl, trivial⟩ fun w407 hB408 hw409 => ?_; have hE410 := hE399.step hw409 hG345.mem1; have hE411 := hE400.step hw409 (fun y hy => .inl hy)
     have hF414 := hF403.evo hw409 (fun q hq h => by have h8 := hltx q hq; have h9 := List.mem_singleton.1 h; omega)
     have hB415 := hw409.blk hB405 hA343.nmem1; have hO416 := hO406.evo hw409 hA344.own1; have hO417 := hO389.evo hw409 hA394.symm.own1
     try simp only [dB, Nat.reduceAdd] at hB408
     refine aD (aA (aF ?_))
     have hgr := ND (n := (st.names.length : Int) + 1) (nm := o.name) hO417 hOT9 hFr9 (hG398 _ rfl) hE411 (fun q hq h => by have h8 := hltx q hq; have h9 := List.mem_singleton.1 h; omega) hV22.size (by omega)
     obtain ⟨hgT, hgF⟩ := hgr; have hV23 := hE410; refine aC (aB rfl (cA rfl bS bG hB408 rfl) (bP (vs := [_]) rfl dQ rfl rfl rfl rfl fun b99 w418 hO419 hs420 hw421 => ?_)); have hG430 := Ge.new (Evo.refl ([]) w407) hs420; have hE431 := hE410.then hw421; have hE433 := (Evo.refl ([]) w407).then hw421; have hB438 := hw421.blk0 hB415; have hO439 := hO416.evo0 hw421; refine aM (aD (aA (aQ (cE (aK rfl rfl ?_))))); have hK := iJ hO419 hgT hgF (hG430 _ rfl) hE433 (fun _ _ h => by cases h) hV23.size; obtain ⟨ka9, kc9, ko9, cs9, bs9, hv9, hk1, hk2, hk3⟩ := hK
     refine ⟨[zA ((st.names.length : Int) + 1) o.name x], { st2 with pos := st2.pos + 1, opn := st2.opn - 1, now := st.now }, (oY ho hno hne250 hc42 (fun h => hnf h.2)).trans (by rw [if_pos hc47, hx]; exact (if_pos h41).trans (by rw [if_pos hc47])), hE431, ⟨(by show st2.opn - 1 = st.opn; omega), (by show st.pos ≤ st2.pos + 1; omega), h41.asc (by decide) hmv.bd, hmv.nm⟩, (by show st.pos < st2.pos + 1; omega), (by show 1 + st.pos ≤ st2.pos + 1; omega), a3, c3, ob3, ka9, kc9, ko9, cs9, bs9, hv9, hk1, hk2, hk3, ⟨hB438, hO439, hR3.ne⟩, hnb4⟩
    rw [hc47] at hc91; cases hc91
   have hnc : ¬ o.capt = true := by rw [hc47]; simp
   refine bA (aA (aF ?_)); refine hD (fun w0 w' => Evo [b] w0 w') (by kernel_rfl) (fun w441 hw442 => ?_); have hE443 := hV271.then hw442; have hB444 := hw442.blk0 hR1.blk; have hO445 := hR1.own.evo0 hw442; have hB446 := hw442.blk0 hb3; have hB447 := hw442.blk0 hb4; refine bB 0 rfl (by kernel_rfl) (by kernel_rfl) (by kernel_rfl) rfl (fun _ hS => bM rfl) (Evo.refl [b] w441) ?_; refine bB 1 rfl (by kernel_rfl) (by kernel_rfl) (by kernel_rfl) rfl (fun _ hS => aR rfl) (Evo.refl [b] w441) ?_; refine bB 2 rfl (by kernel_rfl) (by kernel_rfl) (by kernel_rfl) rfl (fun _ hS => aE rfl bK) (Evo.refl [b] w441) ?_; refine bB 4 rfl (by kernel_rfl) (by kernel_rfl) (by kernel_rfl) rfl (fun _ hS => aE rfl fW) (Evo.refl [b] w441) ?_; refine bB 5 rfl (by kernel_rfl) (by kernel_rfl) (by kernel_rfl) rfl (fun _ hS => aI rfl aU (aJ (hS.blk hB446 (hA1.symm.nmem1)) rfl)) (Evo.refl [b] w441) ?_; refine cL [3] (by kernel_rfl) rfl ⟨?_, trivial⟩; refine cV rfl ?_; refine aB rfl (aI rfl aU (aJ hB444 rfl)) (aD (cG (.inl (Evo.refl [b] w441)) ?_)); refine bB 6 rfl (by kernel_rfl) (by kernel_rfl) (by kernel_rfl) rfl (fun _ hS => bF rfl rfl (by omega) (by omega)) (Evo.refl [b] w441) ?_; refine bB 7 rfl (by kernel_rfl) (by kernel_rfl) (by kernel_rfl) rfl (fun _ hS => aR rfl) (Evo.refl [b] w441) ?_; refine bB 8 rfl (by kernel_rfl) (by kernel_rfl) (by kernel_rfl) rfl (fun _ hS => aE rfl bK) (Evo.refl [b] w441) ?_; refine cL [9] (by kernel_rfl) rfl ⟨?_, trivial⟩; refine cV rfl ?_; refine bN rfl rfl (rfl) cB hB444 rfl fun w448 hB449 hw450 => ?_
   have hE451 := hE443.step hw450 (fun y hy => .inl (by rw [List.mem_singleton.1 hy]; simp))
   have hE452 := (Evo.refl [b] w441).step hw450 (fun y hy => .inl hy); have hO453 := hO445.evo hw450 hR1.ap.symm.own1; have hB454 := hw450.blk hB446 hA1.symm.nmem1; have hB455 := hw450.blk hB447 hA2.symm.nmem1
   try simp only [dB, Nat.reduceAdd] at hB449
   refine aD (cG (.inl hE452) ?_); refine eH (by kernel_rfl) (aA ?_); refine aF (aC (aH (aB rfl (aR rfl) (aB rfl (aE rfl eW) (aB rfl (aI rfl aU (aJ hB449 rfl)) ?_))))); refine aB rfl (bF rfl rfl (by omega) (by omega)) ?_; refine aB rfl (aR rfl) (aB rfl (aE rfl eW) (bN rfl rfl (rfl) cB hB449 rfl fun w456 hB457 hw458 => ?_))
   have hE459 := hE451.step hw458 (fun y hy => .inl (by rw [List.mem_singleton.1 hy]; simp))
   have hO460 := hO453.evo hw458 hR1.ap.symm.own1; have hB461 := hw458.blk hB454 hA1.symm.nmem1; have hB462 := hw458.blk hB455 hA2.symm.nmem1
   try simp only [dB, Nat.reduceAdd] at hB457
   refine aD (aA (aF (aC (aH (aB rfl (aE rfl iC) (aB rfl (eQ (o := 2) rfl iY dU (vs := [.bool o.thn.fold, .bool o.thn.lines, .bool o.thn.dots, .bool o.thn.lazy]) rfl (oV hB461)) ?_)))))); refine aB rfl (aR rfl) (aB rfl (aE rfl eX) (kJ (f1 := .bool o.thn.fold) (f2 := .bool o.thn.lines) (f3 := .bool o.thn.dots) (f4 := .bool o.thn.lazy) rfl rfl dU ⟨rfl, rfl, rfl, rfl, trivial⟩ hB457 fun w463 hB464 hw465 => ?_))
   have hE466 := hE459.step hw465 (fun y hy => .inl (by rw [List.mem_singleton.1 hy]; simp))
   have hO467 := hO460.evo hw465 hR1.ap.symm.own1; have hB468 := hw465.blk hB461 hA1.symm.nmem1; have hB469 := hw465.blk hB462 hA2.symm.nmem1; refine aD (aA (aF (aC (aH ?_)))); refine cH (vs := [_]) mJ rfl (hex (by omega) (st := ⟨st.pos + o.size, o.thn, st.opn + 1, st.names⟩) ⟨hB464, hO467, hR1.ne⟩ rfl hz2 hnl (hG.evo hE466 hgw) hGo) rfl ?_ ?_
   ·skip
    intro pv wp hpp; obtain ⟨e9, hpe, rfl, hpw⟩ := hpp; exact And.intro rfl ⟨_, rfl, _, (oY ho hno hne250 hc42 (fun h => hnc h.1)).trans (by rw [if_neg hnc, hpe]), rfl, (hE466).step hpw (lG (show NB w ob ob from .inl rfl))⟩
   rintro rv w470 ⟨x, st2, hx, hw471, hmv, a3, c3, ob3, vs, bs, rfl, hOT, hFr, hR3, hnb3⟩; have hV9 := hE466; have hA63 := eG hA3.symm (Lt.blk hB468) hnb3; have hA64 := eG hA4.symm (Lt.blk hB469) hnb3; have hnb4 := (show NB w ob ob from .inl rfl).older hnb3 hV9.size; have hFr9 : Fr w bs := hFr.older hV9.size; have hE472 := hE466.step hw471 (lG (show NB w ob ob from .inl rfl)); have hB473 := hw471.blk hB468 (rP hA1.symm hA3.symm); have hB474 := hw471.blk hB469 (rP hA2.symm hA4.symm); obtain ⟨ra, rc, ka, kc, rfl⟩ := id hOT.nine; have hltx := hOT.lt; refine dN rfl fE fun b6 w475 hB476 hs477 hw478 => ?_; have hsz_b6 := hs477; have hA479 := Apart.new (Lt.blk hB473) hs477; have hA480 := Apart.new (Lt.blk hB474) hs477; have hA481 := Apart.new (Lt.blk hR3.blk) hs477; have hA482 := Apart.new (Lt.own hR3.own) hs477; have hG483 := Ge.new hE472 hs477; have hE484 := hE472.then hw478; have hB485 := hw478.blk0 hB473; have hB486 := hw478.blk0 hB474; have hB487 := hw478.blk0 hR3.blk; have hO488 := hR3.own.evo0 hw478; have hF489 := hOT.evo0 hw478; refine bQ rfl rfl bG hB476 rfl rfl ⟨rfl, rfl, rfl, rfl, rfl, rfl, rfl, rfl, rfl, trivial⟩ fun w490 hB491 hw492 => ?_; have hE493 := hE484.step hw492 hG483.mem1; have hB494 := hw492.blk hB485 hA479.nmem1; have hB495 := hw492.blk hB486 hA480.nmem1; have hB496 := hw492.blk hB487 hA481.nmem1; have hO497 := hO488.evo hw492 hA482.own1
   have hF498 := hF489.evo hw492 (fun q hq h => by have h8 := hltx q hq; have h9 := List.mem_singleton.1 h; omega)
   try simp only [dB, Nat.reduceAdd] at hB491
   refine aD (aA (aF (aF (aC (aH ?_))))); refine aN (vs := [_, _]) iF rfl (lD ⟨hB496, hO497, hR3.ne⟩ (by omega) 41 (by decide)) rfl ?_; rintro _ w499 ⟨rfl, hw500, hR4⟩
   have hE501 := hE493.step hw500 (fun y hy => .inl (by rw [List.mem_singleton.1 hy]; simp))
   have hB502 := hw500.blk hB494 ((by first | exact hA1.symm.own1 | exact hA1.symm.nmem1)); have hB503 := hw500.blk hB495 ((by first | exact hA2.symm.own1 | exact hA2.symm.nmem1)); have hB504 := hF498.evo hw500 (wE hFr9 hbw (Nat.le_refl _)); have hB505 := hw500.blk hB491 ((by first | exact hA481.symm.own1 | exact hA481.symm.nmem1)); refine aB rfl (lH rfl) ?_; refine aD (aA (bJ rfl (fun hc77 => ?_) (fun hc77 => ?_)))
   ·skip
    refine aC (cH (vs := [_]) dD rfl (eV 80) rfl ?_ ?_)
    ·skip
     intro pv wp hpp; obtain ⟨rfl, hpw⟩ := hpp
     exact And.intro rfl ⟨_, rfl, _, (oY ho hno hne250 hc42 (fun h => hnc h.1)).trans (by rw [if_neg hnc, hx]; exact if_neg hc77), rfl, (hE501).then hpw⟩
    intro _ _ hF; exact hF.elim
   have h41 : isB s st2.pos 41 := Classical.not_not.1 hc77; rw [if_pos h41] at hR4; have ho2 : st2.opn = st.opn + 1 := hmv.opn; have hle2 : st.pos + o.size ≤ st2.pos := hmv.le
   have ho3 : ((adv st2 1).opn : Int) - 1 = ((st2.opn - 1 : Nat) : Int) := by show ((st2.opn : Nat) : Int) - 1 = _; omega
   refine bA (aA (aF (aC (aH (aB rfl (aR rfl) (aB rfl (aE rfl eW) (aB rfl (aI rfl aU (aJ hR4.blk rfl)) ?_))))))); refine aB rfl (gQ rfl rfl (by omega) (by omega)) ?_; rw [ho3]; refine aB rfl (aR rfl) (aB rfl (aE rfl eW) (bN rfl rfl (rfl) cB hR4.blk rfl fun w508 hB509 hw510 => ?_))
   have hE511 := hE501.step hw510 (fun y hy => .inl (by rw [List.mem_singleton.1 hy]; simp))
   have hB512 := hw510.blk hB502 hA1.symm.nmem1; have hB513 := hw510.blk hB503 hA2.symm.nmem1; have hF514 := hB504.evo hw510 (wE hFr9 hbw (Nat.le_refl _)); have hB515 := hw510.blk hB505 hA481.symm.nmem1; have hO516 := hR4.own.evo hw510 hR4.ap.symm.own1
   try simp only [dB, Nat.reduceAdd] at hB509
   refine aD (aA (aF (aC (aH (aB rfl (cA rfl iY dU hB513 rfl) (aB rfl (aR rfl) (aB rfl (aE rfl eX) (kJ (f1 := .bool st.now.fold) (f2 := .bool st.now.lines) (f3 := .bool st.now.dots) (f4 := .bool st.now.lazy) rfl rfl dU ⟨rfl, rfl, rfl, rfl, trivial⟩ hB509 fun w517 hB518 hw519 => ?_))))))))
   have hE520 := hE511.step hw519 (fun y hy => .inl (by rw [List.mem_singleton.1 hy]; simp))
   have hB521 := hw519.blk hB512 hA1.symm.nmem1; have hF523 := hF514.evo hw519 (wE hFr9 hbw (Nat.le_refl _)); have hB524 := hw519.blk hB515 hA481.symm.nmem1; have hO525 := hO516.evo hw519 hR4.ap.symm.own1; refine aD (aA (aF (aF (aC (aB rfl (aE rfl gM) (aB rfl (aI rfl eF (aJ hB521 rfl)) (aD (aA (fB rfl (fun hc91 => ?_) (fun hc91 => ?_))))))))))
   ·skip
    rw [hc47] at hc91; cases hc91
   refine bA (aA (aF ?_)); have hgr : OT x _ _ bs ∧ Fr w bs := ⟨hF523, hFr9⟩; obtain ⟨hgT, hgF⟩ := hgr; have hV23 := hE520; refine aC (aB rfl (cA rfl bS bG hB524 rfl) (bP (vs := [_]) rfl dQ rfl rfl rfl rfl fun b99 w526 hO527 hs528 hw529 => ?_)); have hG536 := Ge.new (Evo.refl ([]) w517) hs528; have hE537 := hE520.then hw529; have hE538 := (Evo.refl ([]) w517).then hw529; have hB543 := hw529.blk0 hB518; have hO544 := hO525.evo0 hw529; refine aM (aD (aA (aQ (cE (aK rfl rfl ?_))))); have hK := iJ hO527 hgT hgF (hG536 _ rfl) hE538 (fun _ _ h => by cases h) hV23.size; obtain ⟨ka9, kc9, ko9, cs9, bs9, hv9, hk1, hk2, hk3⟩ := hK
   refine ⟨[x], { st2 with pos := st2.pos + 1, opn := st2.opn - 1, now := st.now }, (oY ho hno hne250 hc42 (fun h => hnc h.1)).trans (by rw [if_neg hnc, hx]; exact (if_pos h41).trans (by rw [if_neg hnc])), hE537, ⟨(by show st2.opn - 1 = st.opn; omega), (by show st.pos ≤ st2.pos + 1; omega), h41.asc (by decide) hmv.bd, hmv.nm⟩, (by show st.pos < st2.pos + 1; omega), (by show 1 + st.pos ≤ st2.pos + 1; omega), a3, c3, ob3, ka9, kc9, ko9, cs9, bs9, hv9, hk1, hk2, hk3, ⟨hB543, hO544, hR3.ne⟩, hnb4⟩
  refine aG (aG (aV (aD (aA (cQ rfl ?_))))); refine bA (aA (aF (aF ?_))); have hno : ¬ (o.err = 0 ∧ o.sett = true) := fun h => hs16 h.1; refine aC (aH (aB rfl (aR rfl) (aB rfl (aE rfl eW) (aB rfl (aI rfl aU (aJ hR1.blk rfl)) (aB rfl (bC rfl rfl) ?_))))); refine aD (aA (bJ rfl (fun hc38 => ?_) (fun hc38 => ?_)))
  ·skip
   refine aC (cH (vs := [_]) dD rfl (eV 3) rfl ?_ ?_)
   ·skip
    intro pv wp hpp; obtain ⟨rfl, hpw⟩ := hpp; exact And.intro rfl ⟨_, rfl, _, JI ho hno (by omega), rfl, (hV271).then hpw⟩
   intro _ _ hF; exact hF.elim
  refine bA (aA (aF (aF ?_)))
  have hne250 : ¬ st.opn = 250 := by omega
  refine aC (aB rfl (aE rfl fA) (aB rfl (aI rfl iZ (aJ hb3 rfl)) (aB rfl (gJ rfl rfl) ?_))); refine aD (aA (bJ rfl (fun hc42 => ?_) (fun hc42 => ?_)))
  ·skip
   refine aC (aB rfl (aE rfl fA) (aB rfl (aI rfl iZ (aJ hb3 rfl)) (cH (vs := [_]) dD rfl (eV o.err) rfl ?_ ?_)))
   ·skip
    intro pv wp hpp; obtain ⟨rfl, hpw⟩ := hpp; exact And.intro rfl ⟨_, rfl, _, OV ho hno hne250 hc42, rfl, (hV271).then hpw⟩
   intro _ _ hF; exact hF.elim
  refine bA (aA (aF ?_)); have herr : o.err = 0 := Classical.not_not.1 hc42; obtain ⟨hz1, hz2, hz3⟩ := hob0 herr; refine aC (aM (aD (aA (aF (aF (aC (aB rfl (aE rfl gM) (aB rfl (aI rfl eF (aJ hb3 rfl)) (aD (aA (fB rfl (fun hc47 => ?_) (fun hc47 => ?_))))))))))))
  ·skip
   have hVW9 := hV271; refine aC (aH (aB rfl (aE rfl iQ) (aB rfl (aI rfl cR (aJ hb3 rfl)) (cH (vs := [_, _]) tT rfl (vJ ⟨hR1.blk, hR1.own, hR1.ne⟩ o.name hnl) rfl ?_ ?_))))
   ·skip
    intro pv wp hpp; obtain ⟨hfl, rfl, hpw⟩ := hpp; exact And.intro rfl ⟨_, rfl, _, JH ho hno hne250 hc42 hc47 hfl, rfl, (hV271).then hpw⟩
   rintro _ w549 ⟨hnf, rfl, hw550, a2, c2, ob2, hR2, hnb⟩; have hA53 := eG hA3.symm (Lt.blk hb3) hnb; have hA54 := eG hA4.symm (Lt.blk hb4) hnb; have hGo2 := eG hGo (AZ (hG.evo hV271 hgw)) hnb; have hnb2 : NB w ob ob2 := (show NB w ob ob from .inl rfl).older hnb hVW9.size; have hE551 := hV271.step hw550 (fun y hy => .inl hy); have hB552 := hw550.blk hb3 (rP hA1.symm hA3.symm); have hB553 := hw550.blk hb4 (rP hA2.symm hA4.symm); have hpp2 : ({ st with names := st.names ++ [o.name] } : PS).pos = st.pos := rfl; have hpo2 : ({ st with names := st.names ++ [o.name] } : PS).opn = st.opn := rfl
   have hnl2 : (st.names ++ [o.name]).length ≤ 100 := by rw [List.length_append]; have : st.names.length ≠ 100 := fun h => hnf (.inl h); simp; omega
   refine aM (aD (aA (aF ?_))); refine hD (fun w0 w' => Evo [b] w0 w') (by kernel_rfl) (fun w554 hw555 => ?_); have hE556 := hE551.then hw555; have hB557 := hw555.blk0 hB552; have hB558 := hw555.blk0 hB553; have hB559 := hw555.blk0 hR2.blk; have hO560 := hR2.own.evo0 hw555; refine bB 0 rfl (by kernel_rfl) (by kernel_rfl) (by kernel_rfl) rfl (fun _ hS => bM rfl) (Evo.refl [b] w554) ?_; refine bB 1 rfl (by kernel_rfl) (by kernel_rfl) (by kernel_rfl) rfl (fun _ hS => aR rfl) (Evo.refl [b] w554) ?_; refine bB 2 rfl (by kernel_rfl) (by kernel_rfl) (by kernel_rfl) rfl (fun _ hS => aE rfl bK) (Evo.refl [b] w554) ?_; refine bB 4 rfl (by kernel_rfl) (by kernel_rfl) (by kernel_rfl) rfl (fun _ hS => aE rfl fW) (Evo.refl [b] w554) ?_; refine bB 5 rfl (by kernel_rfl) (by kernel_rfl) (by kernel_rfl) rfl (fun _ hS => aI rfl aU (aJ (hS.blk hB557 (hA1.symm.nmem1)) rfl)) (Evo.refl [b] w554) ?_; refine cL [3] (by kernel_rfl) rfl ⟨?_, trivial⟩; refine cV rfl ?_; refine aB rfl (aI rfl aU (aJ hB559 rfl)) (aD (cG (.inl (Evo.refl [b] w554)) ?_)); refine bB 6 rfl (by kernel_rfl) (by kernel_rfl) (by kernel_rfl) rfl (fun _ hS => bF rfl rfl (by omega) (by omega)) (Evo.refl [b] w554) ?_; refine bB 7 rfl (by kernel_rfl) (by kernel_rfl) (by kernel_rfl) rfl (fun _ hS => aR rfl) (Evo.refl [b] w554) ?_; refine bB 8 rfl (by kernel_rfl) (by kernel_rfl) (by kernel_rfl) rfl (fun _ hS => aE rfl bK) (Evo.refl [b] w554) ?_; refine cL [9] (by kernel_rfl) rfl ⟨?_, trivial⟩; refine cV rfl ?_; refine bN rfl rfl (rfl) cB hB559 rfl fun w561 hB562 hw563 => ?_
   have hE564 := hE556.step hw563 (fun y hy => .inl (by rw [List.mem_singleton.1 hy]; simp))
   have hE565 := (Evo.refl [b] w554).step hw563 (fun y hy => .inl hy); have hB566 := hw563.blk hB557 hA1.symm.nmem1; have hB567 := hw563.blk hB558 hA2.symm.nmem1; have hO568 := hO560.evo hw563 hR2.ap.symm.own1
   try simp only [dB, Nat.reduceAdd] at hB562
   refine aD (cG (.inl hE565) ?_); refine eH (by kernel_rfl) (aA ?_); refine aF (aC (aH (aB rfl (aR rfl) (aB rfl (aE rfl eW) (aB rfl (aI rfl aU (aJ hB562 rfl)) ?_))))); refine aB rfl (bF rfl rfl (by omega) (by omega)) ?_; refine aB rfl (aR rfl) (aB rfl (aE rfl eW) (bN rfl rfl (rfl) cB hB562 rfl fun w569 hB570 hw571 => ?_))
   have hE572 := hE564.step hw571 (fun y hy => .inl (by rw [List.mem_singleton.1 hy]; simp))
   have hB573 := hw571.blk hB566 hA1.symm.nmem1; have hB574 := hw571.blk hB567 hA2.symm.nmem1; have hO575 := hO568.evo hw571 hR2.ap.symm.own1
   try simp only [dB, Nat.reduceAdd] at hB570
   refine aD (aA (aF (aC (aH (aB rfl (aE rfl iC) (aB rfl (eQ (o := 2) rfl iY dU (vs := [.bool o.thn.fold, .bool o.thn.lines, .bool o.thn.dots, .bool o.thn.lazy]) rfl (oV hB573)) ?_)))))); refine aB rfl (aR rfl) (aB rfl (aE rfl eX) (kJ (f1 := .bool o.thn.fold) (f2 := .bool o.thn.lines) (f3 := .bool o.thn.dots) (f4 := .bool o.thn.lazy) rfl rfl dU ⟨rfl, rfl, rfl, rfl, trivial⟩ hB570 fun w576 hB577 hw578 => ?_))
   have hE579 := hE572.step hw578 (fun y hy => .inl (by rw [List.mem_singleton.1 hy]; simp))
   have hB580 := hw578.blk hB573 hA1.symm.nmem1; have hB581 := hw578.blk hB574 hA2.symm.nmem1; have hO582 := hO575.evo hw578 hR2.ap.symm.own1; refine aD (aA (aF (aC (aH ?_)))); refine cH (vs := [_]) mJ rfl (hex (by omega) (st := ⟨st.pos + o.size, o.thn, st.opn + 1, st.names ++ [o.name]⟩) ⟨hB577, hO582, hR2.ne⟩ rfl hz2 hnl2 (hG.evo hE579 hgw) hGo2) rfl ?_ ?_
   ·skip
    intro pv wp hpp; obtain ⟨e9, hpe, rfl, hpw⟩ := hpp; exact And.intro rfl ⟨_, rfl, _, (oY ho hno hne250 hc42 (fun h => hnf h.2)).trans (by rw [if_pos hc47, hpe]), rfl, (hE579).step hpw (lG hnb2)⟩
   rintro rv w583 ⟨x, st2, hx, hw584, hmv, a3, c3, ob3, vs, bs, rfl, hOT, hFr, hR3, hnb3⟩; have hV9 := hE579; have hA63 := eG hA53 (Lt.blk hB580) hnb3; have hA64 := eG hA54 (Lt.blk hB581) hnb3; have hnb4 := hnb2.older hnb3 hV9.size; have hFr9 : Fr w bs := hFr.older hV9.size; have hE585 := hE579.step hw584 (lG hnb2); have hB586 := hw584.blk hB580 (rP hA1.symm hA53); have hB587 := hw584.blk hB581 (rP hA2.symm hA54); obtain ⟨ra, rc, ka, kc, rfl⟩ := id hOT.nine; have hltx := hOT.lt; refine dN rfl fE fun b6 w588 hB589 hs590 hw591 => ?_; have hsz_b6 := hs590; have hA592 := Apart.new (Lt.blk hB586) hs590; have hA593 := Apart.new (Lt.blk hB587) hs590; have hA594 := Apart.new (Lt.blk hR3.blk) hs590; have hA595 := Apart.new (Lt.own hR3.own) hs590; have hG596 := Ge.new hE585 hs590; have hE597 := hE585.then hw591; have hB598 := hw591.blk0 hB586; have hB599 := hw591.blk0 hB587; have hB600 := hw591.blk0 hR3.blk; have hO601 := hR3.own.evo0 hw591; have hF602 := hOT.evo0 hw591; refine bQ rfl rfl bG hB589 rfl rfl ⟨rfl, rfl, rfl, rfl, rfl, rfl, rfl, rfl, rfl, trivial⟩ fun w603 hB604 hw605 => ?_; have hE606 := hE597.step hw605 hG596.mem1; have hB607 := hw605.blk hB598 hA592.nmem1; have hB608 := hw605.blk hB599 hA593.nmem1; have hB609 := hw605.blk hB600 hA594.nmem1; have hO610 := hO601.evo hw605 hA595.own1
   have hF611 := hF602.evo hw605 (fun q hq h => by have h8 := hltx q hq; have h9 := List.mem_singleton.1 h; omega)
   try simp only [dB, Nat.reduceAdd] at hB604
   refine aD (aA (aF (aF (aC (aH ?_))))); refine aN (vs := [_, _]) iF rfl (lD ⟨hB609, hO610, hR3.ne⟩ (by omega) 41 (by decide)) rfl ?_; rintro _ w612 ⟨rfl, hw613, hR4⟩
   have hE614 := hE606.step hw613 (fun y hy => .inl (by rw [List.mem_singleton.1 hy]; simp))
   have hB615 := hw613.blk hB607 ((by first | exact hA1.symm.own1 | exact hA1.symm.nmem1)); have hB616 := hw613.blk hB608 ((by first | exact hA2.symm.own1 | exact hA2.symm.nmem1)); have hB617 := hF611.evo hw613 (wE hFr9 hbw (Nat.le_refl _)); have hB618 := hw613.blk hB604 ((by first | exact hA594.symm.own1 | exact hA594.symm.nmem1)); refine aB rfl (lH rfl) ?_; refine aD (aA (bJ rfl (fun hc77 => ?_) (fun hc77 => ?_)))
   ·skip
    refine aC (cH (vs := [_]) dD rfl (eV 80) rfl ?_ ?_)
    ·skip
     intro pv wp hpp; obtain ⟨rfl, hpw⟩ := hpp
     exact And.intro rfl ⟨_, rfl, _, (oY ho hno hne250 hc42 (fun h => hnf h.2)).trans (by rw [if_pos hc47, hx]; exact if_neg hc77), rfl, (hE614).then hpw⟩
    intro _ _ hF; exact hF.elim
   have h41 : isB s st2.pos 41 := Classical.not_not.1 hc77; rw [if_pos h41] at hR4; have ho2 : st2.opn = st.opn + 1 := hmv.opn; have hle2 : st.pos + o.size ≤ st2.pos := hmv.le
   have ho3 : ((adv st2 1).opn : Int) - 1 = ((st2.opn - 1 : Nat) : Int) := by show ((st2.opn : Nat) : Int) - 1 = _; omega
   refine bA (aA (aF (aC (aH (aB rfl (aR rfl) (aB rfl (aE rfl eW) (aB rfl (aI rfl aU (aJ hR4.blk rfl)) ?_))))))); refine aB rfl (gQ rfl rfl (by omega) (by omega)) ?_; rw [ho3]; refine aB rfl (aR rfl) (aB rfl (aE rfl eW) (bN rfl rfl (rfl) cB hR4.blk rfl fun w621 hB622 hw623 => ?_))
   have hE624 := hE614.step hw623 (fun y hy => .inl (by rw [List.mem_singleton.1 hy]; simp))
   have hB625 := hw623.blk hB615 hA1.symm.nmem1; have hB626 := hw623.blk hB616 hA2.symm.nmem1; have hF627 := hB617.evo hw623 (wE hFr9 hbw (Nat.le_refl _)); have hB628 := hw623.blk hB618 hA594.symm.nmem1; have hO629 := hR4.own.evo hw623 hR4.ap.symm.own1
   try simp only [dB, Nat.reduceAdd] at hB622
   refine aD (aA (aF (aC (aH (aB rfl (cA rfl iY dU hB626 rfl) (aB rfl (aR rfl) (aB rfl (aE rfl eX) (kJ (f1 := .bool st.now.fold) (f2 := .bool st.now.lines) (f3 := .bool st.now.dots) (f4 := .bool st.now.lazy) rfl rfl dU ⟨rfl, rfl, rfl, rfl, trivial⟩ hB622 fun w630 hB631 hw632 => ?_))))))))
   have hE633 := hE624.step hw632 (fun y hy => .inl (by rw [List.mem_singleton.1 hy]; simp))
   have hB634 := hw632.blk hB625 hA1.symm.nmem1; have hF636 := hF627.evo hw632 (wE hFr9 hbw (Nat.le_refl _)); have hB637 := hw632.blk hB628 hA594.symm.nmem1; have hO638 := hO629.evo hw632 hR4.ap.symm.own1; refine aD (aA (aF (aF (aC (aB rfl (aE rfl gM) (aB rfl (aI rfl eF (aJ hB634 rfl)) (aD (aA (fB rfl (fun hc91 => ?_) (fun hc91 => ?_))))))))))
   ·skip
    have hOT9 := hF636; have hV22 := hE633; refine aC (aH (aB rfl (aE rfl iQ) (aB rfl (aI rfl cR (aJ hB634 rfl)) (aB rfl (cA rfl bS bG hB637 rfl) (bP (vs := [_]) rfl dQ rfl rfl rfl rfl fun b96 w639 hO640 hs641 hw642 => ?_))))); have hA645 := Apart.new (Lt.blk hB637) hs641; have hG649 := Ge.new (Evo.refl ([b6]) w630) hs641; have hE650 := hE633.then hw642; have hE651 := (Evo.refl ([b6]) w630).then hw642; have hF654 := hF636.evo0 hw642; have hB655 := hw642.blk0 hB637; have hB656 := hw642.blk0 hB631; have hO657 := hO638.evo0 hw642; refine aB rfl (eU (vs := [(0, _), (6, _), (7, _), (8, _)]) eC rfl (cells := [_, _, _, _, _, _, _, _, _]) rfl) ?_; refine bQ rfl rfl bG hB655 rfl rfl ⟨rfl, rfl, rfl, rfl, rfl, rfl, rfl, rfl, rfl, trivial⟩ fun w658 hB659 hw660 => ?_; have hE661 := hE650.step hw660 hG596.mem1; have hE662 := hE651.step hw660 (fun y hy => .inl hy)
    have hF665 := hF654.evo hw660 (fun q hq h => by have h8 := hltx q hq; have h9 := List.mem_singleton.1 h; omega)
    have hB666 := hw660.blk hB656 hA594.nmem1; have hO667 := hO657.evo hw660 hA595.own1; have hO668 := hO640.evo hw660 hA645.symm.own1
    try simp only [dB, Nat.reduceAdd] at hB659
    refine aD (aA (aF ?_))
    have hgr := ND (n := (st.names.length : Int) + 1) (nm := o.name) hO668 hOT9 hFr9 (hG649 _ rfl) hE662 (fun q hq h => by have h8 := hltx q hq; have h9 := List.mem_singleton.1 h; omega) hV22.size (by omega)
    obtain ⟨hgT, hgF⟩ := hgr; have hV23 := hE661; refine aC (aB rfl (cA rfl bS bG hB659 rfl) (bP (vs := [_]) rfl dQ rfl rfl rfl rfl fun b99 w669 hO670 hs671 hw672 => ?_)); have hG681 := Ge.new (Evo.refl ([]) w658) hs671; have hE682 := hE661.then hw672; have hE684 := (Evo.refl ([]) w658).then hw672; have hB689 := hw672.blk0 hB666; have hO690 := hO667.evo0 hw672; refine aM (aD (aA (aQ (cE (aK rfl rfl ?_))))); have hK := iJ hO670 hgT hgF (hG681 _ rfl) hE684 (fun _ _ h => by cases h) hV23.size; obtain ⟨ka9, kc9, ko9, cs9, bs9, hv9, hk1, hk2, hk3⟩ := hK
    refine ⟨[zA ((st.names.length : Int) + 1) o.name x], { st2 with pos := st2.pos + 1, opn := st2.opn - 1, now := st.now }, (oY ho hno hne250 hc42 (fun h => hnf h.2)).trans (by rw [if_pos hc47, hx]; exact (if_pos h41).trans (by rw [if_pos hc47])), hE682, ⟨(by show st2.opn - 1 = st.opn; omega), (by show st.pos ≤ st2.pos + 1; omega), h41.asc (by decide) hmv.bd, hmv.nm⟩, (by show st.pos < st2.pos + 1; omega), (by show 1 + st.pos ≤ st2.pos + 1; omega), a3, c3, ob3, ka9, kc9, ko9, cs9, bs9, hv9, hk1, hk2, hk3, ⟨hB689, hO690, hR3.ne⟩, hnb4⟩
   rw [hc47] at hc91; cases hc91
  have hnc : ¬ o.capt = true := by rw [hc47]; simp
  refine bA (aA (aF ?_)); refine hD (fun w0 w' => Evo [b] w0 w') (by kernel_rfl) (fun w692 hw693 => ?_); have hE694 := hV271.then hw693; have hB695 := hw693.blk0 hR1.blk; have hO696 := hR1.own.evo0 hw693; have hB697 := hw693.blk0 hb3; have hB698 := hw693.blk0 hb4; refine bB 0 rfl (by kernel_rfl) (by kernel_rfl) (by kernel_rfl) rfl (fun _ hS => bM rfl) (Evo.refl [b] w692) ?_; refine bB 1 rfl (by kernel_rfl) (by kernel_rfl) (by kernel_rfl) rfl (fun _ hS => aR rfl) (Evo.refl [b] w692) ?_; refine bB 2 rfl (by kernel_rfl) (by kernel_rfl) (by kernel_rfl) rfl (fun _ hS => aE rfl bK) (Evo.refl [b] w692) ?_; refine bB 4 rfl (by kernel_rfl) (by kernel_rfl) (by kernel_rfl) rfl (fun _ hS => aE rfl fW) (Evo.refl [b] w692) ?_; refine bB 5 rfl (by kernel_rfl) (by kernel_rfl) (by kernel_rfl) rfl (fun _ hS => aI rfl aU (aJ (hS.blk hB697 (hA1.symm.nmem1)) rfl)) (Evo.refl [b] w692) ?_; refine cL [3] (by kernel_rfl) rfl ⟨?_, trivial⟩; refine cV rfl ?_; refine aB rfl (aI rfl aU (aJ hB695 rfl)) (aD (cG (.inl (Evo.refl [b] w692)) ?_)); refine bB 6 rfl (by kernel_rfl) (by kernel_rfl) (by kernel_rfl) rfl (fun _ hS => bF rfl rfl (by omega) (by omega)) (Evo.refl [b] w692) ?_; refine bB 7 rfl (by kernel_rfl) (by kernel_rfl) (by kernel_rfl) rfl (fun _ hS => aR rfl) (Evo.refl [b] w692) ?_; refine bB 8 rfl (by kernel_rfl) (by kernel_rfl) (by kernel_rfl) rfl (fun _ hS => aE rfl bK) (Evo.refl [b] w692) ?_; refine cL [9] (by kernel_rfl) rfl ⟨?_, trivial⟩; refine cV rfl ?_; refine bN rfl rfl (rfl) cB hB695 rfl fun w699 hB700 hw701 => ?_
  have hE702 := hE694.step hw701 (fun y hy => .inl (by rw [List.mem_singleton.1 hy]; simp))
  have hE703 := (Evo.refl [b] w692).step hw701 (fun y hy => .inl hy); have hO704 := hO696.evo hw701 hR1.ap.symm.own1; have hB705 := hw701.blk hB697 hA1.symm.nmem1; have hB706 := hw701.blk hB698 hA2.symm.nmem1
  try simp only [dB, Nat.reduceAdd] at hB700
  refine aD (cG (.inl hE703) ?_); refine eH (by kernel_rfl) (aA ?_); refine aF (aC (aH (aB rfl (aR rfl) (aB rfl (aE rfl eW) (aB rfl (aI rfl aU (aJ hB700 rfl)) ?_))))); refine aB rfl (bF rfl rfl (by omega) (by omega)) ?_; refine aB rfl (aR rfl) (aB rfl (aE rfl eW) (bN rfl rfl (rfl) cB hB700 rfl fun w707 hB708 hw709 => ?_))
  have hE710 := hE702.step hw709 (fun y hy => .inl (by rw [List.mem_singleton.1 hy]; simp))
  have hO711 := hO704.evo hw709 hR1.ap.symm.own1; have hB712 := hw709.blk hB705 hA1.symm.nmem1; have hB713 := hw709.blk hB706 hA2.symm.nmem1
  try simp only [dB, Nat.reduceAdd] at hB708
  refine aD (aA (aF (aC (aH (aB rfl (aE rfl iC) (aB rfl (eQ (o := 2) rfl iY dU (vs := [.bool o.thn.fold, .bool o.thn.lines, .bool o.thn.dots, .bool o.thn.lazy]) rfl (oV hB712)) ?_)))))); refine aB rfl (aR rfl) (aB rfl (aE rfl eX) (kJ (f1 := .bool o.thn.fold) (f2 := .bool o.thn.lines) (f3 := .bool o.thn.dots) (f4 := .bool o.thn.lazy) rfl rfl dU ⟨rfl, rfl, rfl, rfl, trivial⟩ hB708 fun w714 hB715 hw716 => ?_))
  have hE717 := hE710.step hw716 (fun y hy => .inl (by rw [List.mem_singleton.1 hy]; simp))
  have hO718 := hO711.evo hw716 hR1.ap.symm.own1; have hB719 := hw716.blk hB712 hA1.symm.nmem1; have hB720 := hw716.blk hB713 hA2.symm.nmem1; refine aD (aA (aF (aC (aH ?_)))); refine cH (vs := [_]) mJ rfl (hex (by omega) (st := ⟨st.pos + o.size, o.thn, st.opn + 1, st.names⟩) ⟨hB715, hO718, hR1.ne⟩ rfl hz2 hnl (hG.evo hE717 hgw) hGo) rfl ?_ ?_
  ·skip
   intro pv wp hpp; obtain ⟨e9, hpe, rfl, hpw⟩ := hpp; exact And.intro rfl ⟨_, rfl, _, (oY ho hno hne250 hc42 (fun h => hnc h.1)).trans (by rw [if_neg hnc, hpe]), rfl, (hE717).step hpw (lG (show NB w ob ob from .inl rfl))⟩
  rintro rv w721 ⟨x, st2, hx, hw722, hmv, a3, c3, ob3, vs, bs, rfl, hOT, hFr, hR3, hnb3⟩; have hV9 := hE717; have hA63 := eG hA3.symm (Lt.blk hB719) hnb3; have hA64 := eG hA4.symm (Lt.blk hB720) hnb3; have hnb4 := (show NB w ob ob from .inl rfl).older hnb3 hV9.size; have hFr9 : Fr w bs := hFr.older hV9.size; have hE723 := hE717.step hw722 (lG (show NB w ob ob from .inl rfl)); have hB724 := hw722.blk hB719 (rP hA1.symm hA3.symm); have hB725 := hw722.blk hB720 (rP hA2.symm hA4.symm); obtain ⟨ra, rc, ka, kc, rfl⟩ := id hOT.nine; have hltx := hOT.lt; refine dN rfl fE fun b6 w726 hB727 hs728 hw729 => ?_; have hsz_b6 := hs728; have hA730 := Apart.new (Lt.blk hB724) hs728; have hA731 := Apart.new (Lt.blk hB725) hs728; have hA732 := Apart.new (Lt.blk hR3.blk) hs728; have hA733 := Apart.new (Lt.own hR3.own) hs728; have hG734 := Ge.new hE723 hs728; have hE735 := hE723.then hw729; have hB736 := hw729.blk0 hB724; have hB737 := hw729.blk0 hB725; have hB738 := hw729.blk0 hR3.blk; have hO739 := hR3.own.evo0 hw729; have hF740 := hOT.evo0 hw729; refine bQ rfl rfl bG hB727 rfl rfl ⟨rfl, rfl, rfl, rfl, rfl, rfl, rfl, rfl, rfl, trivial⟩ fun w741 hB742 hw743 => ?_; have hE744 := hE735.step hw743 hG734.mem1; have hB745 := hw743.blk hB736 hA730.nmem1; have hB746 := hw743.blk hB737 hA731.nmem1; have hB747 := hw743.blk hB738 hA732.nmem1; have hO748 := hO739.evo hw743 hA733.own1
  have hF749 := hF740.evo hw743 (fun q hq h => by have h8 := hltx q hq; have h9 := List.mem_singleton.1 h; omega)
  try simp only [dB, Nat.reduceAdd] at hB742
  refine aD (aA (aF (aF (aC (aH ?_))))); refine aN (vs := [_, _]) iF rfl (lD ⟨hB747, hO748, hR3.ne⟩ (by omega) 41 (by decide)) rfl ?_; rintro _ w750 ⟨rfl, hw751, hR4⟩
  have hE752 := hE744.step hw751 (fun y hy => .inl (by rw [List.mem_singleton.1 hy]; simp))
  have hB753 := hw751.blk hB745 ((by first | exact hA1.symm.own1 | exact hA1.symm.nmem1)); have hB754 := hw751.blk hB746 ((by first | exact hA2.symm.own1 | exact hA2.symm.nmem1)); have hB755 := hF749.evo hw751 (wE hFr9 hbw (Nat.le_refl _)); have hB756 := hw751.blk hB742 ((by first | exact hA732.symm.own1 | exact hA732.symm.nmem1)); refine aB rfl (lH rfl) ?_; refine aD (aA (bJ rfl (fun hc77 => ?_) (fun hc77 => ?_)))
  ·skip
   refine aC (cH (vs := [_]) dD rfl (eV 80) rfl ?_ ?_)
   ·skip
    intro pv wp hpp; obtain ⟨rfl, hpw⟩ := hpp
    exact And.intro rfl ⟨_, rfl, _, (oY ho hno hne250 hc42 (fun h => hnc h.1)).trans (by rw [if_neg hnc, hx]; exact if_neg hc77), rfl, (hE752).then hpw⟩
   intro _ _ hF; exact hF.elim
  have h41 : isB s st2.pos 41 := Classical.not_not.1 hc77; rw [if_pos h41] at hR4; have ho2 : st2.opn = st.opn + 1 := hmv.opn; have hle2 : st.pos + o.size ≤ st2.pos := hmv.le
  have ho3 : ((adv st2 1).opn : Int) - 1 = ((st2.opn - 1 : Nat) : Int) := by show ((st2.opn : Nat) : Int) - 1 = _; omega
  refine bA (aA (aF (aC (aH (aB rfl (aR rfl) (aB rfl (aE rfl eW) (aB rfl (aI rfl aU (aJ hR4.blk rfl)) ?_))))))); refine aB rfl (gQ rfl rfl (by omega) (by omega)) ?_; rw [ho3]; refine aB rfl (aR rfl) (aB rfl (aE rfl eW) (bN rfl rfl (rfl) cB hR4.blk rfl fun w759 hB760 hw761 => ?_))
  have hE762 := hE752.step hw761 (fun y hy => .inl (by rw [List.mem_singleton.1 hy]; simp))
  have hB763 := hw761.blk hB753 hA1.symm.nmem1; have hB764 := hw761.blk hB754 hA2.symm.nmem1; have hF765 := hB755.evo hw761 (wE hFr9 hbw (Nat.le_refl _)); have hB766 := hw761.blk hB756 hA732.symm.nmem1; have hO767 := hR4.own.evo hw761 hR4.ap.symm.own1
  try simp only [dB, Nat.reduceAdd] at hB760
  refine aD (aA (aF (aC (aH (aB rfl (cA rfl iY dU hB764 rfl) (aB rfl (aR rfl) (aB rfl (aE rfl eX) (kJ (f1 := .bool st.now.fold) (f2 := .bool st.now.lines) (f3 := .bool st.now.dots) (f4 := .bool st.now.lazy) rfl rfl dU ⟨rfl, rfl, rfl, rfl, trivial⟩ hB760 fun w768 hB769 hw770 => ?_))))))))
  have hE771 := hE762.step hw770 (fun y hy => .inl (by rw [List.mem_singleton.1 hy]; simp))
  have hB772 := hw770.blk hB763 hA1.symm.nmem1; have hF774 := hF765.evo hw770 (wE hFr9 hbw (Nat.le_refl _)); have hB775 := hw770.blk hB766 hA732.symm.nmem1; have hO776 := hO767.evo hw770 hR4.ap.symm.own1; refine aD (aA (aF (aF (aC (aB rfl (aE rfl gM) (aB rfl (aI rfl eF (aJ hB772 rfl)) (aD (aA (fB rfl (fun hc91 => ?_) (fun hc91 => ?_))))))))))
  ·skip
   rw [hc47] at hc91; cases hc91
  refine bA (aA (aF ?_)); have hgr : OT x _ _ bs ∧ Fr w bs := ⟨hF774, hFr9⟩; obtain ⟨hgT, hgF⟩ := hgr; have hV23 := hE771; refine aC (aB rfl (cA rfl bS bG hB775 rfl) (bP (vs := [_]) rfl dQ rfl rfl rfl rfl fun b99 w777 hO778 hs779 hw780 => ?_)); have hG787 := Ge.new (Evo.refl ([]) w768) hs779; have hE788 := hE771.then hw780; have hE789 := (Evo.refl ([]) w768).then hw780; have hB794 := hw780.blk0 hB769; have hO795 := hO776.evo0 hw780; refine aM (aD (aA (aQ (cE (aK rfl rfl ?_))))); have hK := iJ hO778 hgT hgF (hG787 _ rfl) hE789 (fun _ _ h => by cases h) hV23.size; obtain ⟨ka9, kc9, ko9, cs9, bs9, hv9, hk1, hk2, hk3⟩ := hK
  refine ⟨[x], { st2 with pos := st2.pos + 1, opn := st2.opn - 1, now := st.now }, (oY ho hno hne250 hc42 (fun h => hnc h.1)).trans (by rw [if_neg hnc, hx]; exact (if_pos h41).trans (by rw [if_neg hnc])), hE788, ⟨(by show st2.opn - 1 = st.opn; omega), (by show st.pos ≤ st2.pos + 1; omega), h41.asc (by decide) hmv.bd, hmv.nm⟩, (by show st.pos < st2.pos + 1; omega), (by show 1 + st.pos ≤ st2.pos + 1; omega), a3, c3, ob3, ka9, kc9, ko9, cs9, bs9, hv9, hk1, hk2, hk3, ⟨hB794, hO795, hR3.ne⟩, hnb4⟩
end Go.Proofs.YtljadkcojnlioaaGreatDoor
namespace Go.Proofs.YtljadkcojnlioaaGreatDoor
open Go.Proofs
open Go.W Go.RowKit
attribute [local irreducible] Decidable.decide
theorem CN : eM Tryz.prog 109 := ⟨_, Tryz.func109, by kernel_rfl, by kernel_rfl⟩
theorem CM : eM Tryz.prog 110 := ⟨_, Tryz.func110, by kernel_rfl, by kernel_rfl⟩
theorem CL : eM Tryz.prog 111 := ⟨_, Tryz.func111, by kernel_rfl, by kernel_rfl⟩
theorem tV : eM Tryz.prog 115 := ⟨_, Tryz.func115, by kernel_rfl, by kernel_rfl⟩
theorem xF {s : ByteArray} : ∀ {f i j : Nat} {fst : Bool} {S T : Int → Prop}, iT s f fst S i = .ok (T, j) → Bd s i → Bd s j ∧ i < j
  | 0, i, j, fst, S, T, h, _ => by cases h
  | f + 1, i, j, fst, S, T, h, hb => by
    rw [iT] at h
    split at h
    · cases h
    · rename_i h0
      split at h
      · rename_i h1
        cases h
        exact ⟨(hb.asc (by omega) (by omega)).1, by omega⟩
      · cases h2 : kW s i with
        | error e => rw [h2] at h; cases h
        | ok x =>
          obtain ⟨U, k⟩ := x
          rw [h2] at h
          obtain ⟨h3, h4⟩ := AO h2 hb (by omega)
          obtain ⟨h5, h6⟩ := xF h h3
          exact ⟨h5, by omega⟩
theorem MZ {s : ByteArray} {fl : Fl} {i j : Nat} {x : Rx} (h : lS s fl i = .ok (x, j)) (hb : Bd s i) : Bd s j ∧ i < j := by
  unfold lS at h
  cases h1 : iT s (s.size + 1) true (fun _ => False) (if isB s i 94 then i + 1 else i) with
  | error e => rw [h1] at h; cases h
  | ok y =>
    obtain ⟨S, k⟩ := y
    rw [h1] at h
    cases h
    by_cases h2 : isB s i 94
    · rw [if_pos h2] at h1
      obtain ⟨h3, h4⟩ := xF h1 (h2.asc (by decide) hb)
      exact ⟨h3, by omega⟩
    · rw [if_neg h2] at h1
      exact xF h1 hb
section
variable {s : ByteArray} {ex : PS → PX Rx} {st : PS} {x : Rx} {j : Nat} {e : Int}
theorem MQ (h : sb s st.pos = 40) : gU s ex st = sF s ex st := by unfold gU; rw [if_pos h]
theorem pc_cl (h : sb s st.pos = 91) (h2 : lS s st.now (st.pos + 1) = .ok (x, j)) : gU s ex st = .ok ([x], iG st j) := by unfold gU; rw [if_neg (by omega), if_pos h, h2]; rfl
theorem pc_clE (h : sb s st.pos = 91) (h2 : lS s st.now (st.pos + 1) = .error e) : gU s ex st = .error e := by unfold gU; rw [if_neg (by omega), if_pos h, h2]
theorem pc_es (h : sb s st.pos = 92) : gU s ex st = jA s st := by unfold gU; rw [if_neg (by omega), if_neg (by omega), if_pos h]
theorem pc_pl (h1 : ¬ sb s st.pos = 40) (h2 : ¬ sb s st.pos = 91) (h3 : ¬ sb s st.pos = 92) : gU s ex st = lR s st := by unfold gU; rw [if_neg h1, if_neg h2, if_neg h3]
theorem pl_all (h : (dA s st.pos).1 = 46) (h2 : st.now.dots = true) : lR s st = .ok ([lP (rs [(0, 1114111)])], iG st (st.pos + (dA s st.pos).2)) := by unfold lR; rw [if_pos h, if_pos h2]; rfl
theorem pl_dot (h : (dA s st.pos).1 = 46) (h2 : ¬ st.now.dots = true) : lR s st = .ok ([lP (rs [(0, 9), (11, 1114111)])], iG st (st.pos + (dA s st.pos).2)) := by unfold lR; rw [if_pos h, if_neg h2]; rfl
theorem pl_hat (h : (dA s st.pos).1 = 94) : lR s st = .ok ([rxK (if st.now.lines = true then 10 else 8)], iG st (st.pos + (dA s st.pos).2)) := by unfold lR; rw [if_neg (by omega), if_pos h]; rfl
theorem pl_dol (h : (dA s st.pos).1 = 36) : lR s st = .ok ([rxK (if st.now.lines = true then 11 else 9)], iG st (st.pos + (dA s st.pos).2)) := by unfold lR; rw [if_neg (by omega), if_neg (by omega), if_pos h]; rfl
theorem MO (h : ¬ (dA s st.pos).1 = 46) (h1 : ¬ (dA s st.pos).1 = 94) (h2 : ¬ (dA s st.pos).1 = 36) : lR s st = .ok ([oI st.now (dA s st.pos).1], iG st (st.pos + (dA s st.pos).2)) := by unfold lR; rw [if_neg h, if_neg h1, if_neg h2]; rfl
end
theorem PcPost.congr {b : Nat} {s : ByteArray} {pp qq : PS → PL} {st : PS} {ob : Option Nat} {w w' : World} {v : Value} (h : PcPost b s pp st ob w v w') (e : qq st = pp st) : PcPost b s qq st ob w v w' := by
  obtain ⟨l, st', h1, h2⟩ := h
  exact ⟨l, st', e.trans h1, h2⟩
theorem ExPan.congr {b : Nat} {α : Type} {pp qq : PS → PX α} {st : PS} {ob : Option Nat} {w w' : World} {v : Value} (h : ExPan b pp st ob w v w') (e : qq st = pp st) : ExPan b qq st ob w v w' := by
  obtain ⟨x, h1, h2⟩ := h
  exact ⟨x, e.trans h1, h2⟩
theorem PcPost.older {b : Nat} {s : ByteArray} {pp : PS → PL} {st : PS} {ob : Option Nat} {w w1 w' : World} {v : Value} (h : PcPost b s pp st ob w1 v w') (he : Evo [] w w1) : PcPost b s pp st ob w v w' := by
  obtain ⟨l, st', h1, h2, h3, h4, h5, a, c, o, ka, kc, ko, cs, bs, h6, h7, h8, h9, h10, h11⟩ := h
  exact ⟨l, st', h1, (he.any _).step h2 (fun y hy => .inl hy), h3, h4, h5, a, c, o, ka, kc, ko, cs, bs, h6, h7, h8, h9.older he.size, h10, (show NB w ob ob from .inl rfl).older h11 he.size⟩
theorem ExPan.older {b : Nat} {α : Type} {pp : PS → PX α} {st : PS} {ob : Option Nat} {w w1 w' : World} {v : Value} (h : ExPan b pp st ob w1 v w') (he : Evo [] w w1) : ExPan b pp st ob w v w' := by
  obtain ⟨e, h1, h2, h3⟩ := h
  exact ⟨e, h1, h2, (he.any _).step h3 (fun y hy => .inl hy)⟩
theorem PcPost.evo {b : Nat} {s : ByteArray} {pp : PS → PL} {st : PS} {ob : Option Nat} {w w' : World} {v : Value} (h : PcPost b s pp st ob w v w') : Evo (b :: ob.toList) w w' := by obtain ⟨l, st', h1, h2, _⟩ := h; exact h2
theorem MP {ex : PS → PX Rx} {w : World} {b : Nat} {s : ByteArray} {st : PS} {a : Option Addr} {c : Nat} {ob : Option Nat} (hex : st.opn < 250 → rY b s ex (st.opn + 1)) (hR : RdAt w b s st a c ob) (hs : s.size ≤ 4096) (hlt : st.pos < s.size) (hop : st.opn ≤ 250) (hb : Bd s st.pos) (hnl : st.names.length ≤ 100) (hG : Glb w) (hGo : Apart (some nO) ob) :
    Calls Tryz.prog 87 #[.pointer (some ⟨b, 0, none⟩)] w (RetP (PcPost b s (gU s ex) st ob w) (ExPan b (gU s ex) st ob w)) := by
  have hap := hR.ap; have hgb : nO ∉ [b] := fun h => hR.glb hG (List.mem_singleton.1 h).symm; obtain ⟨hn1, hn2, hn3, hr0, hr1⟩ := hb.next hlt; refine bL (N := 71) Tryz.func87 rfl rfl rfl ?_; refine aF (aC (aM (aD (aA (aF (aF ?_)))))); refine fN (by kernel_rfl) (by kernel_rfl) ?_; refine aW rfl (fun _ hq2 => bM rfl) ?_; refine aW rfl (fun _ hq2 => aR rfl) ?_; refine aW rfl (fun _ hq2 => aE rfl dO) ?_; refine aW rfl (fun _ hq2 => aI rfl cR (aJ (hq2.blk0 hR.blk) rfl)) ?_; refine aW rfl (fun _ hq2 => bM rfl) ?_; refine aW rfl (fun _ hq2 => aR rfl) ?_; refine aW rfl (fun _ hq2 => aE rfl bK) ?_; refine aW rfl (fun _ hq2 => aI rfl aU (aJ (hq2.blk0 hR.blk) rfl)) ?_; refine aW rfl (fun _ hq2 => gA (n := st.pos) rfl rfl Tryz.underlying9 rfl hlt) ?_; refine fR (fun wq1 hq2 => aA ?_); have hE3 := (Evo.refl [b] w).then hq2; have hE4 := (Evo.refl [] w).then hq2; have hB5 := hq2.blk0 hR.blk; have hO6 := hR.own.evo0 hq2; refine bX (aF (aC (aB rfl (bC rfl rfl) ?_))); refine aM (aD (aA (bJ rfl (fun hc13 => ?_) (fun hc13 => ?_))))
  ·skip
   refine aF (aC (aH ?_)); refine cH (vs := [_]) CN rfl (HK hex ⟨hB5, hO6, hR.ne⟩ hs ⟨hlt, by omega⟩ hop hb hnl (hG.evo hE3 hgb) hGo) rfl ?_ ?_
   ·skip
    intro pv wp hpp; exact And.intro rfl ⟨_, rfl, (ExPan.older hpp hE4).congr (MQ (by omega))⟩
   rintro rv w7 hpc; have hw8 := hpc.evo; have hV9 := hE3; have hV0 := hE4; refine aM (aD (aA (aQ (aZ (aO (cE (aK rfl rfl ?_))))))); exact (PcPost.older hpc hV0).congr (MQ (by omega))
  refine aF (aC (aB rfl (bC rfl rfl) ?_)); refine aM (aD (aA (bJ rfl (fun hc17 => ?_) (fun hc17 => ?_))))
  ·skip
   refine aF (aC (aH (aB rfl (aR rfl) (aB rfl (aE rfl bK) (aB rfl (aI rfl aU (aJ hB5 rfl)) ?_))))); refine aB rfl (bF rfl rfl (by omega) (by omega)) ?_; refine aB rfl (aR rfl) (aB rfl (aE rfl bK) (bN rfl rfl (rfl) cB hB5 rfl fun w9 hB10 hw11 => ?_)); have hE12 := hE3.step hw11 (fun y hy => .inl hy); have hO14 := hO6.evo hw11 hap.symm.own1
   try simp only [dB, Nat.reduceAdd] at hB10
   refine aD (aA (aF (aC (aH ?_)))); refine cH (vs := [_]) CM rfl (OQ (st := iG st (st.pos + 1)) ⟨hB10, hO14, hR.ne⟩ (by omega) (hb.asc hlt (by omega)).1 (hG.evo hE12 hgb)) rfl ?_ ?_
   ·skip
    intro pv wp hpp; obtain ⟨e9, hpe, rfl, hpw⟩ := hpp; exact And.intro rfl ⟨_, rfl, MS (pc_clE (by omega) hpe) ((hE12).step hpw (fun y hy => .inl hy))⟩
   rintro rv w15 ⟨x, j, hx, hT, hw16, hR4⟩; have hcall9 := hw16; have hV9 := hE12; have hE17 := hE12.step hw16 (fun y hy => .inl hy); obtain ⟨hbj, hij⟩ := MZ hx (hb.asc hlt (by omega)).1; have hij2 : st.pos + 1 < j := hij; obtain ⟨vs, bx, rfl, hOT, hFx⟩ := hT; obtain ⟨ra, rc, ka, kc, rfl⟩ := id hOT.nine; refine bP (vs := [_]) rfl dQ rfl rfl rfl rfl fun b28 w18 hO19 hs20 hw21 => ?_; have hG25 := Ge.new (Evo.refl [] w15) hs20; have hE26 := hE17.then hw21; have hE27 := (Evo.refl [] w15).then hw21; have hB28 := hw21.blk0 hR4.blk; have hO29 := hR4.own.evo0 hw21; refine aM (aD (aA (aQ (aZ (aO (cE (aK rfl rfl ?_)))))))
   exact xC (pp := gU s ex) hR (pc_cl (by omega) hx) (iJ hO19 hOT (hFx.older hV9.size) (hG25 _ rfl) hE27 (fun b hb h => by cases h) (Nat.le_trans hV9.size hcall9.size)) hE26 ⟨hB28, hO29, hR4.ne⟩ rfl rfl hnl (by show st.pos < j; omega) hbj (by show 1 + st.pos ≤ j; omega)
  refine aF (aC (aB rfl (bC rfl rfl) ?_)); refine aM (aD (aA (bJ rfl (fun hc29 => ?_) (fun hc29 => ?_))))
  ·skip
   refine aF (aC (aH ?_)); refine cH (vs := [_]) CL rfl (KX ⟨hB5, hO6, hR.ne⟩ (by omega) hlt (by omega) hb (hG.evo hE3 hgb)) rfl ?_ ?_
   ·skip
    intro pv wp hpp; obtain ⟨e9, hpe, rfl, hpw⟩ := hpp; exact And.intro rfl ⟨_, rfl, MS ((pc_es (by omega)).trans hpe) ((hE3).step hpw (fun y hy => .inl hy))⟩
   rintro rv w30 ⟨l, st', hx, hK, hw31, hR5, ho, hnm, hp, hbd, hll⟩; have hV9 := hE3; have hE32 := hE3.step hw31 (fun y hy => .inl hy); refine aM (aD (aA (aQ (aZ (aO (cE (aK rfl rfl ?_))))))); exact xC (pp := gU s ex) hR ((pc_es (by omega)).trans hx) (hK.older hV9.size) hE32 ⟨hR5.blk, hR5.own, hR5.ne⟩ ho hnm hnl hp hbd hll
  refine bA (aY (aA (aF ?_))); have hpl : gU s ex st = lR s st := pc_pl (by omega) (by omega) (by omega); refine aC (aH ?_); refine aN (vs := [_]) nA rfl (wJ ⟨hB5, hO6, hR.ne⟩ (by omega) hb) rfl ?_; rintro _ w33 ⟨rfl, hw34, hR2⟩; have hE35 := hE3.step hw34 (fun y hy => .inl hy); refine aM (aD (aA (aF (aC (aH (aD (aA (bX (aF (aC (aB rfl (bC rfl rfl) ?_))))))))))); refine aM (aD (aA (bJ rfl (fun hc40 => ?_) (fun hc40 => ?_))))
  ·skip
   refine aF (aF (aC (aH (aB rfl (aR rfl) (aB rfl (aE rfl eX) (aB rfl (aE rfl uB) (aB rfl (aI rfl eF (aJ hR2.blk rfl)) (aD (aA (fB rfl (fun hc46 => ?_) (fun hc46 => ?_)))))))))))
   ·skip
    replace hc46 : st.now.dots = true := hc46; refine aF (aC (bP (vs := [_, _]) rfl cN rfl rfl rfl rfl fun b36 w37 hO38 hs39 hw40 => ?_)); have hE44 := hE35.then hw40; have hB45 := hw40.blk0 hR2.blk; have hO46 := hR2.own.evo0 hw40; refine aN (vs := [_]) cO rfl (dY (es := [0, 1114111]) hO38 (by decide)) rfl ?_; rintro _ w47 ⟨a1, c1, ob1, rfl, hO1, hg1, hw48⟩; have hE53 := hE44.then hw48; have hB54 := hw48.blk0 hB45; have hO55 := hO46.evo0 hw48; refine aN (vs := [_]) iM rfl (mS (l := [(0, 1114111)]) (S := rs [(0, 1114111)]) hO1 (jC (by kernel_rfl)) (by decide) (fun c => Iff.rfl)) rfl ?_; rintro rv w57 ⟨hT, hw58⟩; have hcall9 := hw58; have hV9 := hE53; have hE59 := hE53.then hw58; have hB60 := hw58.blk0 hB54; have hO61 := hO55.evo0 hw58; obtain ⟨vs, bx, rfl, hOT, hFx⟩ := hT; obtain ⟨ra, rc, ka, kc, rfl⟩ := id hOT.nine; refine bP (vs := [_]) rfl dQ rfl rfl rfl rfl fun b50 w64 hO65 hs66 hw67 => ?_; have hG73 := Ge.new (Evo.refl ([]) w57) hs66; have hE74 := hE59.then hw67; have hE75 := (Evo.refl ([]) w57).then hw67; have hB76 := hw67.blk0 hB60; have hO77 := hO61.evo0 hw67; refine aM (aD (aA (aQ (aO (aZ (cE (aK rfl rfl ?_)))))))
    exact xC (pp := gU s ex) hR (hpl.trans (pl_all (by omega) hc46)) (iJ hO65 hOT (hFx.older hV9.size) (hG73 _ rfl) hE75 (fun b hb h => by cases h) (Nat.le_trans hV9.size hcall9.size)) hE74 ⟨hB76, hO77, hR2.ne⟩ rfl rfl hnl (by show st.pos < st.pos + _; omega) hn3 (by show 1 + st.pos ≤ st.pos + _; omega)
   replace hc46 : st.now.dots = false := hc46; refine bA (aA (aF (aC (bP (vs := [_, _, _, _]) rfl cN rfl rfl rfl rfl fun b80 w81 hO82 hs83 hw84 => ?_)))); have hE88 := hE35.then hw84; have hB89 := hw84.blk0 hR2.blk; have hO90 := hR2.own.evo0 hw84; refine aN (vs := [_]) cO rfl (dY (es := [0, 9, 11, 1114111]) hO82 (by decide)) rfl ?_; rintro _ w91 ⟨a1, c1, ob1, rfl, hO1, hg1, hw92⟩; have hE97 := hE88.then hw92; have hB98 := hw92.blk0 hB89; have hO99 := hO90.evo0 hw92; refine aN (vs := [_]) iM rfl (mS (l := [(0, 9), (11, 1114111)]) (S := rs [(0, 9), (11, 1114111)]) hO1 (jC (by kernel_rfl)) (by decide) (fun c => Iff.rfl)) rfl ?_; rintro rv w101 ⟨hT, hw102⟩; have hcall9 := hw102; have hV9 := hE97; have hE103 := hE97.then hw102; have hB104 := hw102.blk0 hB98; have hO105 := hO99.evo0 hw102; obtain ⟨vs, bx, rfl, hOT, hFx⟩ := hT; obtain ⟨ra, rc, ka, kc, rfl⟩ := id hOT.nine; refine bP (vs := [_]) rfl dQ rfl rfl rfl rfl fun b54 w108 hO109 hs110 hw111 => ?_; have hG117 := Ge.new (Evo.refl ([]) w101) hs110; have hE118 := hE103.then hw111; have hE119 := (Evo.refl ([]) w101).then hw111; have hB120 := hw111.blk0 hB104; have hO121 := hO105.evo0 hw111; refine aM (aD (aA (aQ (aZ (cE (aK rfl rfl ?_))))))
   exact xC (pp := gU s ex) hR (hpl.trans (pl_dot (by omega) (by simp [hc46]))) (iJ hO109 hOT (hFx.older hV9.size) (hG117 _ rfl) hE119 (fun b hb h => by cases h) (Nat.le_trans hV9.size hcall9.size)) hE118 ⟨hB120, hO121, hR2.ne⟩ rfl rfl hnl (by show st.pos < st.pos + _; omega) hn3 (by show 1 + st.pos ≤ st.pos + _; omega)
  refine aF (aC (aB rfl (bC rfl rfl) ?_)); refine aM (aD (aA (bJ rfl (fun hc55 => ?_) (fun hc55 => ?_))))
  ·skip
   refine aF (aC (aH (aB rfl (aR rfl) (aB rfl (aE rfl eX) (aB rfl (aE rfl pV) (aB rfl (aI rfl eF (aJ hR2.blk rfl)) (aN (vs := [_, _, _]) tV rfl (NF 8 10 st.now.lines) rfl ?_))))))); rintro rv w124 ⟨hK, hw125⟩; have hV9 := hE35; have hE126 := hE35.then hw125; have hB127 := hw125.blk0 hR2.blk; have hO128 := hR2.own.evo0 hw125; refine aM (aD (aA (aQ (aZ (cE (aK rfl rfl ?_))))))
   exact xC (pp := gU s ex) hR (hpl.trans (pl_hat (by omega))) (hK.older hV9.size) hE126 ⟨hB127, hO128, hR2.ne⟩ rfl rfl hnl (by show st.pos < st.pos + _; omega) hn3 (by show 1 + st.pos ≤ st.pos + _; omega)
  refine aF (aC (aB rfl (bC rfl rfl) ?_)); refine aM (aD (aA (bJ rfl (fun hc63 => ?_) (fun hc63 => ?_))))
  ·skip
   refine aF (aC (aH (aB rfl (aR rfl) (aB rfl (aE rfl eX) (aB rfl (aE rfl pV) (aB rfl (aI rfl eF (aJ hR2.blk rfl)) (aN (vs := [_, _, _]) tV rfl (NF 9 11 st.now.lines) rfl ?_))))))); rintro rv w129 ⟨hK, hw130⟩; have hV9 := hE35; have hE131 := hE35.then hw130; have hB132 := hw130.blk0 hR2.blk; have hO133 := hR2.own.evo0 hw130; refine aM (aD (aA (aQ (aZ (cE (aK rfl rfl ?_))))))
   exact xC (pp := gU s ex) hR (hpl.trans (pl_dol (by omega))) (hK.older hV9.size) hE131 ⟨hB132, hO133, hR2.ne⟩ rfl rfl hnl (by show st.pos < st.pos + _; omega) hn3 (by show 1 + st.pos ≤ st.pos + _; omega)
  refine aF (aC (aH (aH (aN (vs := [_, _]) mZ rfl (AU ⟨hR2.blk, hR2.own, hR2.ne⟩ (dA s st.pos).1 hr0 hr1) rfl ?_)))); rintro rv w134 ⟨hT, hw135⟩; have hcall9 := hw135; have hV9 := hE35; have hE136 := hE35.then hw135; have hB137 := hw135.blk0 hR2.blk; have hO138 := hR2.own.evo0 hw135; obtain ⟨vs, bx, rfl, hOT, hFx⟩ := hT; obtain ⟨ra, rc, ka, kc, rfl⟩ := id hOT.nine; refine bP (vs := [_]) rfl dQ rfl rfl rfl rfl fun b39 w139 hO140 hs141 hw142 => ?_; have hG146 := Ge.new (Evo.refl ([]) w134) hs141; have hE147 := hE136.then hw142; have hE148 := (Evo.refl ([]) w134).then hw142; have hB149 := hw142.blk0 hB137; have hO150 := hO138.evo0 hw142; refine aM (aD (aA (aQ (aZ (cE (aK rfl rfl ?_))))))
  exact xC (pp := gU s ex) hR (hpl.trans (MO (by omega) (by omega) (by omega))) (iJ hO140 hOT (hFx.older hV9.size) (hG146 _ rfl) hE148 (fun b hb h => by cases h) (Nat.le_trans hV9.size hcall9.size)) hE147 ⟨hB149, hO150, hR2.ne⟩ rfl rfl hnl (by show st.pos < st.pos + _; omega) hn3 (by show 1 + st.pos ≤ st.pos + _; omega)
end Go.Proofs.YtljadkcojnlioaaGreatDoor
namespace Go.Proofs.YtljadkcojnlioaaGreatDoor
open Go.Proofs Go.W Go.RowKit
theorem pRep_b {s : ByteArray} {i nn : Nat} {lo hi : Int} (hb : Bd s i) (hi0 : i < s.size) (h : mR (s.extract i s.size) = (lo, hi, nn)) : 0 ≤ lo ∧ lo ≤ 1001 ∧ -1 ≤ hi ∧ hi ≤ 1001 ∧ (nn ≠ 0 → i + nn ≤ s.size ∧ Bd s (i + nn)) := by
  have hrs := gI (s := s) (a := i) (Nat.le_refl s.size)
  have e0 : sb (s.extract i s.size) 0 = sb s i := hI (by omega)
  have one : sb s i < 128 → i + 1 ≤ s.size ∧ Bd s (i + 1) := fun h => ⟨hi0, (hb.asc hi0 h).1⟩
  by_cases h1 : sb (s.extract i s.size) 0 = 42
  · rw [IA h1] at h; cases h
    exact ⟨by omega, by omega, by omega, by omega, fun _ => one (by omega)⟩
  · by_cases h2 : sb (s.extract i s.size) 0 = 43
    · rw [IB h2] at h; cases h
      exact ⟨by omega, by omega, by omega, by omega, fun _ => one (by omega)⟩
    · by_cases h3 : sb (s.extract i s.size) 0 = 63
      · rw [pr_qu h3] at h; cases h
        exact ⟨by omega, by omega, by omega, by omega, fun _ => one (by omega)⟩
      · by_cases h4 : sb (s.extract i s.size) 0 = 123
        · have close : ∀ {k : Nat}, isB (s.extract i s.size) k 125 → i + (k + 1) ≤ s.size ∧ Bd s (i + (k + 1)) := fun {k} hk => by
            have hk1 := hk.1
            have h6 : sb s (i + k) = 125 := by rw [← hI (by omega)]; exact hk.2
            exact ⟨by omega, by rw [← Nat.add_assoc]; exact isB.asc (b := 125) ⟨by omega, h6⟩ (by decide) (nF hb (by omega) (by omega) (by omega))⟩
          obtain ⟨lo1, j, hp1⟩ : ∃ lo1 j, jQ (s.extract i s.size) (s.extract i s.size).size 1 0 = (lo1, j) := ⟨_, _, rfl⟩
          have hb1 := xE (r := s.extract i s.size) (f := (s.extract i s.size).size) (i := 1) (n := 0) (by omega) (by omega) (by omega)
          have hbr := pr_br h4 hp1
          rw [hp1] at hb1
          rw [h] at hbr
          replace hb1 : 0 ≤ lo1 ∧ lo1 ≤ 1001 ∧ 1 ≤ j ∧ j ≤ (s.extract i s.size).size := hb1
          split at hbr
          · rename_i hc
            have hb2 := xE (r := s.extract i s.size) (f := (s.extract i s.size).size) (i := j + 1) (n := 0) (by omega) (by omega) (by have := hc.2.1; omega)
            split at hbr
            · rename_i hd
              obtain ⟨rfl, hx⟩ := Prod.mk.inj hbr
              obtain ⟨rfl, rfl⟩ := Prod.mk.inj hx
              refine ⟨hb1.1, hb1.2.1, ?_, ?_, fun _ => close hd⟩
              · split <;> omega
              · split <;> omega
            · cases hbr; exact ⟨by omega, by omega, by omega, by omega, fun h => absurd rfl h⟩
          · split at hbr
            · cases hbr; exact ⟨by omega, by omega, by omega, by omega, fun h => absurd rfl h⟩
            · rename_i hc
              obtain ⟨rfl, hx⟩ := Prod.mk.inj hbr
              obtain ⟨rfl, rfl⟩ := Prod.mk.inj hx
              have hd : isB (s.extract i s.size) j 125 := Classical.not_not.1 (fun h => hc (.inr h))
              exact ⟨hb1.1, hb1.2.1, by omega, by omega, fun _ => close hd⟩
        · rw [ML h1 h2 h3 h4] at h; cases h
          exact ⟨by omega, by omega, by omega, by omega, fun h => absurd rfl h⟩
section
variable {s : ByteArray} {ex : PS → PX Rx} {f : Nat} {l g : List Rx} {ah : Bool} {st st2 : PS} {e lo hi : Int} {nn : Nat}
theorem rN (h : s.size ≤ st.pos ∨ sb s st.pos = 124 ∨ sb s st.pos = 41) : jZ s ex f l ah st = .ok (wC 4 l, st) := by
  cases f with
  | zero => rfl
  | succ f => rw [jZ, if_pos h]
theorem JN (h : ¬ (s.size ≤ st.pos ∨ sb s st.pos = 124 ∨ sb s st.pos = 41)) (hr : mR (s.extract st.pos s.size) = (lo, hi, 0)) (hp : gU s ex st = .error e) : jZ s ex (f + 1) l ah st = .error e := by
  rw [jZ, if_neg h, hr]; simp only; rw [if_pos trivial, hp]
theorem PD (h : ¬ (s.size ≤ st.pos ∨ sb s st.pos = 124 ∨ sb s st.pos = 41)) (hr : mR (s.extract st.pos s.size) = (lo, hi, 0)) (hp : gU s ex st = .ok (g, st2)) : jZ s ex (f + 1) l ah st = jZ s ex f (l ++ g) (decide (0 < g.length)) st2 := by
  rw [jZ, if_neg h, hr]; simp only; rw [if_pos trivial, hp]
theorem wV (h : ¬ (s.size ≤ st.pos ∨ sb s st.pos = 124 ∨ sb s st.pos = 41)) (hr : mR (s.extract st.pos s.size) = (lo, hi, nn)) (hn : nn ≠ 0) (hc : ah = false ∨ 1000 < lo ∨ 1000 < hi ∨ (0 ≤ hi ∧ hi < lo)) : jZ s ex (f + 1) l ah st = .error 82 := by
  rw [jZ, if_neg h, hr]; simp only; rw [if_neg hn, if_pos hc]
theorem BP (h : ¬ (s.size ≤ st.pos ∨ sb s st.pos = 124 ∨ sb s st.pos = 41)) (hr : mR (s.extract st.pos s.size) = (lo, hi, nn)) (hn : nn ≠ 0) (hc : ¬ (ah = false ∨ 1000 < lo ∨ 1000 < hi ∨ (0 ≤ hi ∧ hi < lo))) (hq : isB s (st.pos + nn) 63) :
    jZ s ex (f + 1) l ah st = jZ s ex f (l.dropLast ++ [lE lo hi (!st.now.lazy) (l.getLastD (rxK 1))]) false { st with pos := st.pos + nn + 1 } := by
  rw [jZ, if_neg h, hr]; simp only; rw [if_neg hn, if_neg hc, if_pos hq]
theorem JM (h : ¬ (s.size ≤ st.pos ∨ sb s st.pos = 124 ∨ sb s st.pos = 41)) (hr : mR (s.extract st.pos s.size) = (lo, hi, nn)) (hn : nn ≠ 0) (hc : ¬ (ah = false ∨ 1000 < lo ∨ 1000 < hi ∨ (0 ≤ hi ∧ hi < lo))) (hq : ¬ isB s (st.pos + nn) 63) :
    jZ s ex (f + 1) l ah st = jZ s ex f (l.dropLast ++ [lE lo hi st.now.lazy (l.getLastD (rxK 1))]) false { st with pos := st.pos + nn } := by
  rw [jZ, if_neg h, hr]; simp only; rw [if_neg hn, if_neg hc, if_neg hq]
theorem yF (h : ¬ isB s st.pos 124) : qI s ex f l st = .ok (wC 5 l, st) := by
  cases f with
  | zero => rfl
  | succ f => rw [qI, if_neg h]
theorem PC (h : isB s st.pos 124) (hp : jZ s ex (s.size + 1) [] false (adv st 1) = .error e) : qI s ex (f + 1) l st = .error e := by
  rw [qI, if_pos h]; show (match jZ s ex (s.size + 1) [] false (adv st 1) with | .error e => _ | .ok (x, st2) => _) = _; rw [hp]
theorem JL {x : Rx} (h : isB s st.pos 124) (hp : jZ s ex (s.size + 1) [] false (adv st 1) = .ok (x, st2)) : qI s ex (f + 1) l st = qI s ex f (l ++ [x]) st2 := by
  rw [qI, if_pos h]; show (match jZ s ex (s.size + 1) [] false (adv st 1) with | .error e => _ | .ok (x, st2) => _) = _; rw [hp]
end
theorem Fr.right {w : World} {b1 b2 : List Nat} (h : Fr w (b1 ++ b2)) : Fr w b2 := ⟨(List.nodup_append.1 h.nd).2.1, fun b hb => h.ge b (List.mem_append_right _ hb)⟩
theorem Fr.sub {w : World} {b1 b2 : List Nat} (h : Fr w b2) (hs : b1.Sublist b2) : Fr w b1 := ⟨h.nd.sublist hs, fun b hb => h.ge b (hs.subset hb)⟩
theorem Fr.insert {w w1 : World} {b0 b1 b2 : List Nat} {g : Nat} (h : Fr w (b0 ++ (b1 ++ b2))) (hl : ∀ b, b ∈ b0 ++ (b1 ++ b2) → b < w1.heap.size) (hg : w1.heap.size ≤ g) (hw : w.heap.size ≤ w1.heap.size) : Fr w (b0 ++ (b1 ++ (g :: b2))) := by
  have hp : (b0 ++ (b1 ++ (g :: b2))).Perm (g :: (b0 ++ (b1 ++ b2))) := by
    rw [← List.append_assoc, ← List.append_assoc]
    exact List.perm_middle
  refine ⟨hp.nodup_iff.2 (List.nodup_cons.2 ⟨fun hm => ?_, h.nd⟩), fun b hb => ?_⟩
  · have := hl g hm; omega
  · rcases List.mem_cons.1 (hp.mem_iff.1 hb) with rfl | hb
    · omega
    · exact h.ge b hb
theorem uI {w : World} {e e2 : TypeId} {sz sz2 : Nat} {a a2 : Option Addr} {n n2 c c2 : Nat} {xs xs2 : List Value} {o o2 : Option Nat} (h : OwnS w e sz a n c xs o) (h2 : OwnS w e2 sz2 a2 n2 c2 xs2 o2) (hne : e ≠ e2) : Apart o o2 := fun g h3 h4 => by
  rcases h.2 with ⟨_, _, h5⟩ | ⟨g', _, cur, hg, _, hb, _⟩
  · rw [h5] at h3; cases h3
  · rcases h2.2 with ⟨_, _, h5⟩ | ⟨g2, _, cur2, hg2, _, hb2, _⟩
    · rw [h5] at h4; cases h4
    · rw [h3] at hg; cases hg
      rw [h4] at hg2; cases hg2
      rw [hb] at hb2
      injection hb2 with hb2
      injection hb2 with _ hb2
      exact hne hb2
theorem AC {w : World} {e e2 : TypeId} {sz2 : Nat} {a2 : Option Addr} {n2 c2 : Nat} {xs2 : List Value} {o2 : Option Nat} {b : Nat} {cs : Array Value} (h : w.heap[b]? = some (.cells cs e (0, 0))) (h2 : OwnS w e2 sz2 a2 n2 c2 xs2 o2) (hne : e ≠ e2) : Apart (some b) o2 := fun g h3 h4 => by
  cases h3
  rcases h2.2 with ⟨_, _, h5⟩ | ⟨g2, _, cur2, hg2, _, hb2, _⟩
  · rw [h5] at h4; cases h4
  · rw [h4] at hg2; cases hg2
    rw [h] at hb2
    injection hb2 with hb2
    injection hb2 with _ hb2
    exact hne hb2
theorem put_end {c1 c2 vs : List Value} (h : vs.length = c2.length) : sU (c1 ++ c2) c1.length vs = c1 ++ vs := by
  unfold sU
  rw [List.take_left, List.drop_append, h]
  simp
theorem pM {w : World} {g : Nat} {c1 c2 : List Value} (h : CellsAt w g 0 (c1 ++ c2)) : CellsAt w g (0 + c1.length) c2 := fun j v hj => by
  have h1 := h (c1.length + j) v (by rw [List.getElem?_append_right (by omega)]; simpa using hj)
  rw [← Nat.add_assoc] at h1
  exact h1
theorem HW {l : List Rx} (h : l ≠ []) : ∃ l' x, l = l' ++ [x] ∧ l.dropLast = l' ∧ (∀ d, l.getLastD d = x) := by
  rcases List.eq_nil_or_concat l with rfl | ⟨l', x, rfl⟩
  · exact (h rfl).elim
  · exact ⟨l', x, by simp, by simp, fun d => by simp⟩
theorem AR {X : List Nat} {w1 w2 : World} {x : Rx} {vs : List Value} {bs : List Nat} {g : Nat} {lo hi : Int} {z : Bool} (hO : OwnS w2 27 9 (some ⟨g, 0, none⟩) 1 1 vs (some g)) (hT : OT x w1 vs bs) (he : Evo X w1 w2) (hx : ∀ b, b ∈ bs → b ∉ X) :
    OT (lE lo hi z x) w2 [iv 6, .int .i32 0, .slice none 0 0, iv lo, iv hi, .bool z, iv 0, .string ByteArray.empty, .slice (some ⟨g, 0, none⟩) 1 1] (g :: bs) := by
  unfold lE
  rw [OT]
  exact ⟨none, 0, none, _, 1, some g, vs, bs, rfl, OwnS.nil _ _ _, hO, OTs.single (hT.evo he hx), rfl, by simp, by show (0 : Nat) ≤ 1000000; omega, by simp⟩
end Go.Proofs.YtljadkcojnlioaaGreatDoor
namespace Go.Proofs.YtljadkcojnlioaaGreatDoor
open Go.Proofs
open Go.W Go.RowKit
attribute [local irreducible] Decidable.decide
theorem nY : eM Tryz.prog 61 := ⟨_, Tryz.func61, by kernel_rfl, by kernel_rfl⟩
theorem FF : eM Tryz.prog 86 := ⟨_, Tryz.func86, by kernel_rfl, by kernel_rfl⟩
theorem FE : eM Tryz.prog 87 := ⟨_, Tryz.func87, by kernel_rfl, by kernel_rfl⟩
noncomputable def rV (s : ByteArray) (ex : PS → PX Rx) (st : PS) : PX Rx := jZ s ex (s.size + 1) [] false st
structure AtG where
  f : Nat
  sx : PS
  l : List Rx
  ah : Bool
  n : Nat
  qa : Option Addr
  qc : Nat
  qo : Option Nat
  bs : List Nat
  na : Option Addr
  nc : Nat
  no : Option Nat
structure AtI (w wr : World) (b : Nat) (s : ByteArray) (ex : PS → PX Rx) (st : PS) (ob : Option Nat) (b2 : Nat) (x : AtG) : Prop where
  hr : RdAt wr b s x.sx x.na x.nc x.no
  mv : Mv s st x.sx
  eq : rV s ex st = jZ s ex x.f x.l x.ah x.sx
  hf : s.size + 1 ≤ x.f + x.sx.pos
  kt : ∃ cs, OwnS wr 27 9 x.qa x.n x.qc cs x.qo ∧ OTs x.l wr cs x.bs
  fr : Fr w (x.qo.toList ++ x.bs)
  len : x.l.length + st.pos ≤ x.sx.pos
  ahl : x.ah = true → x.l ≠ []
  nb : NB w ob x.no
  hb2 : wr.heap[b2]? = some (.cells #[iv 0, .int .i32 0, .slice none 0 0, iv 0, iv 0, .bool false, iv 0, .string ByteArray.empty, .slice none 0 0] 27 (0, 0))
  g2 : Ge w (some b2)
  a2 : b2 ∉ x.qo.toList ++ x.bs
theorem AP {w : World} {e : TypeId} {sz : Nat} {a : Option Addr} {n c : Nat} {xs : List Value} {o : Option Nat} (h : OwnS w e sz a n c xs o) : ∀ g, g ∈ o.toList → ∃ cs, w.heap[g]? = some (.cells cs e (0, 0)) := fun g hg => by
  rcases h.2 with ⟨_, _, h5⟩ | ⟨g', _, cur, hg2, _, hb, _⟩
  · rw [h5] at hg; cases hg
  · rw [hg2] at hg
    rw [List.mem_singleton.1 hg]; exact ⟨_, hb⟩
mutual
theorem OT.types : ∀ {x : Rx} {w : World} {vs : List Value} {bs : List Nat}, OT x w vs bs → ∀ g, g ∈ bs → ∃ cs T, w.heap[g]? = some (.cells cs T (0, 0)) ∧ (T = 27 ∨ T = 56)
  | .mk k r rs mn mx lz cp nm ks, w, vs, bs, h => by
    rw [OT] at h
    obtain ⟨ra, rc, rb, ka, kc, kb, cs, bk, h1, h2, h3, h4, rfl, h5⟩ := h
    intro g hg
    rcases List.mem_append.1 hg with hg | hg
    · obtain ⟨c, hc⟩ := AP h2 g hg; exact ⟨c, _, hc, .inr rfl⟩
    · rcases List.mem_append.1 hg with hg | hg
      · obtain ⟨c, hc⟩ := AP h3 g hg; exact ⟨c, _, hc, .inl rfl⟩
      · exact OTs.types h4 g hg
theorem OTs.types : ∀ {l : List Rx} {w : World} {cs : List Value} {bs : List Nat}, OTs l w cs bs → ∀ g, g ∈ bs → ∃ cs T, w.heap[g]? = some (.cells cs T (0, 0)) ∧ (T = 27 ∨ T = 56)
  | [], w, cs, bs, h => by rw [OTs] at h; rw [h.2]; exact fun g hg => by cases hg
  | x :: l, w, cs, bs, h => by
    rw [OTs] at h
    obtain ⟨vs, cs', b1, b2, h1, rfl, h3, h4⟩ := h
    intro g hg
    rcases List.mem_append.1 hg with hg | hg
    · exact OT.types h3 g hg
    · exact OTs.types h4 g hg
end
theorem nm_rd {w : World} {b : Nat} {s : ByteArray} {st : PS} {a : Option Addr} {c : Nat} {ob : Option Nat} {qa : Option Addr} {n qc : Nat} {cs : List Value} {qo : Option Nat} {l : List Rx} {bs : List Nat} (hR : RdAt w b s st a c ob) (hO : OwnS w 27 9 qa n qc cs qo) (hT : OTs l w cs bs) : ∀ q, q ∈ qo.toList ++ bs → q ∉ b :: ob.toList := fun q hq hm => by
  have h1 : ∃ cs T, w.heap[q]? = some (.cells cs T (0, 0)) ∧ (T = 27 ∨ T = 56) := by
    rcases List.mem_append.1 hq with hq | hq
    · obtain ⟨c, hc⟩ := AP hO q hq; exact ⟨c, _, hc, .inl rfl⟩
    · exact hT.types q hq
  obtain ⟨c1, T, h1, hTT⟩ := h1
  rcases List.mem_cons.1 hm with rfl | hm
  · rw [hR.blk] at h1
    injection h1 with h1
    injection h1 with _ h1
    rw [← h1] at hTT
    exact absurd hTT (by decide +kernel)
  · obtain ⟨c2, h2⟩ := AP hR.own q hm
    rw [h2] at h1
    injection h1 with h1
    injection h1 with _ h1
    rw [← h1] at hTT
    exact absurd hTT (by decide +kernel)
theorem DP {w2 : World} {q : Nat} {o o2 : Option Nat} {bs bx : List Nat} (h : q ∉ o.toList ++ bs) (hq : q < w2.heap.size) (hx : ∀ b, b ∈ bx → q ≠ b) (hob : o2 = o ∨ ∃ g, o2 = some g ∧ w2.heap.size ≤ g) : q ∉ o2.toList ++ (bs ++ bx) := fun hm => by
  rcases List.mem_append.1 hm with hm | hm
  · rcases hob with rfl | ⟨g, rfl, hg⟩
    · exact h (List.mem_append_left _ hm)
    · rw [List.mem_singleton.1 hm] at hq; omega
  · rcases List.mem_append.1 hm with hm | hm
    · exact h (List.mem_append_right _ hm)
    · exact hx q hm rfl
theorem nS {w w' : World} {e : TypeId} {sz : Nat} {a : Option Addr} {n c k g : Nat} {c1 c2 vs : List Value} {ob : Option Nat} {cur : Array Value} {U : TypeId} (h : OwnS w e sz a n c (c1 ++ c2) ob) (hg : ob = some g) (hb : w.heap[g]? = some (.cells cur U (0, 0))) (hc1 : c1.length = k * sz) (hk : k < n) (hc2 : c2.length = sz) (hv : vs.length = sz)
    (hb' : w'.heap[g]? = some (.cells (cur.toList.take (0 + k * sz) ++ vs ++ cur.toList.drop (0 + k * sz + sz)).toArray U (0, 0))) : OwnS w' e sz a n c (c1 ++ vs) ob := by
  have h1 := OwnS.put h hg hb (o := 0 + k * sz) (by omega) hk hv hb'
  rw [Nat.zero_add, ← hc1, put_end (by omega)] at h1
  exact h1
theorem GJ {w : World} {b : Nat} {s : ByteArray} {st : PS} {a : Option Addr} {c : Nat} {ob : Option Nat} {lo hi : Int} {nn : Nat} (hR : RdAt w b s st a c ob) (hs : s.size ≤ 1000000) (hlt : st.pos < s.size) (hrp : mR (s.extract st.pos s.size) = (lo, hi, nn)) :
    Calls Tryz.prog 86 #[.pointer (some ⟨b, 0, none⟩)] w (Ret fun v w' => v = .tuple #[iv lo, iv hi, iv (nn : Nat)] ∧ Evo [] w w') := by
  have h := GK hR hs hlt
  rw [hrp] at h
  exact h
theorem ap_nm {q : Nat} {o : Option Nat} {l : List Nat} (h : q ∉ o.toList ++ l) : Apart (some q) o := fun g h1 h2 => by cases h1; exact h (List.mem_append_left _ (by simp [h2]))
theorem EK {b : Nat} {o : Option Nat} : ∀ y, y ∈ [b] → y ∈ b :: o.toList := fun y hy => by rw [List.mem_singleton.1 hy]; simp
theorem qV {ex : PS → PX Rx} {w : World} {b : Nat} {s : ByteArray} {st : PS} {a : Option Addr} {c : Nat} {ob : Option Nat} (hex : st.opn < 250 → rY b s ex (st.opn + 1)) (hR : RdAt w b s st a c ob) (hs : s.size ≤ 4096) (hop : st.opn ≤ 250) (hb : Bd s st.pos) (hnl : st.names.length ≤ 100) (hG : Glb w) (hGo : Apart (some nO) ob) :
    Calls Tryz.prog 59 #[.pointer (some ⟨b, 0, none⟩)] w (RetP (HO b s (rV s ex) st ob w) (ExPan b (rV s ex) st ob w)) := by
  have hap := hR.ap; have hgb : nO ∉ [b] := fun h => hR.glb hG (List.mem_singleton.1 h).symm; have hgw := NZ hgb hGo; have hbw : Lt w (some b) := Lt.blk hR.blk; have how : Lt w ob := Lt.own hR.own; refine bL (N := 115) Tryz.func59 rfl rfl rfl ?_; refine aF (aC (dN rfl fE fun b2 w1 hB2 hs3 hw4 => ?_)); have hsz_b2 := hs3; have hA5 := Apart.new (Lt.blk hR.blk) hs3; have hG7 := Ge.new (Evo.refl (b :: ob.toList) w) hs3; have hE8 := (Evo.refl (b :: ob.toList) w).then hw4; have hB9 := hw4.blk0 hR.blk; have hO10 := hR.own.evo0 hw4; refine aD (aA (aF (aC (aM (aD (aA (aF (aC (aM (aD (aA (aF (bX ?_)))))))))))))
  refine eT (α := AtG) (⟨s.size + 1, st, [], false, 0, none, 0, none, [], a, c, ob⟩) (fun x => [(3, .slice x.qa x.n x.qc), (4, .bool x.ah)]) [(0, _), (2, _)] (fun x wr => Evo (b :: ob.toList) w wr ∧ (AtI w wr b s ex st ob b2 x)) (fun x => x.f) ⟨rfl, rfl, trivial⟩ ⟨rfl, rfl, trivial⟩ ⟨hE8, ⟨⟨hB9, hO10, hR.ne⟩, ⟨rfl, Nat.le_refl _, hb, hnl⟩, rfl, Nat.le_add_right _ _, ⟨[], OwnS.nil _ _ _, OTs.nil _⟩, Fr.nil _, (by show 0 + st.pos ≤ st.pos; omega), (fun h => by cases h), .inl rfl, hB2, hG7, List.not_mem_nil⟩⟩ ?_
  rintro ⟨f, sx, l, ah, n, qa, qc, qo, bs, na, nc, no⟩ wr11 ⟨hV12, ⟨hR1, hmv, heq, hfi, ⟨cs, hown, hts⟩, hfr, hlen, hahl, hnb, hb2, hg2, ha2⟩⟩; show CW _ _ _ _ [(3, .slice qa n qc), (4, .bool ah), (0, _), (2, _)] _
  try dsimp only at hR1
  try dsimp only at hmv
  try dsimp only at heq
  try dsimp only at hfi
  try dsimp only at cs
  try dsimp only at hown
  try dsimp only at hts
  try dsimp only at hfr
  try dsimp only at hlen
  try dsimp only at hahl
  try dsimp only at hnb
  try dsimp only at hb2
  try dsimp only at hg2
  try dsimp only at ha2
  have hA1 : Apart (some b) qo := kO hbw (nU hfr); have hA2 := uI hown hR1.own (by decide +kernel); have hA3 : Apart (some b) (some b2) := kO hbw hg2; have hA4 := AC hb2 hR1.own (by decide +kernel); have hA5 := ap_nm ha2; have hGo1 := eG hGo (AZ hG) hnb; have hpl := hmv.bd.le; have hmle := hmv.le; have nmq := nm_rd hR1 hown hts; refine aF (aF ?_); refine fN (by kernel_rfl) (by kernel_rfl) ?_; refine aW rfl (fun _ hq14 => bM rfl) ?_; refine aW rfl (fun _ hq14 => aR rfl) ?_; refine aW rfl (fun _ hq14 => aE rfl bK) ?_; refine aW rfl (fun _ hq14 => aI rfl aU (aJ (hq14.blk0 hR1.blk) rfl)) ?_; refine aW rfl (fun _ hq14 => bM rfl) ?_; refine aW rfl (fun _ hq14 => aR rfl) ?_; refine aW rfl (fun _ hq14 => aE rfl dO) ?_; refine aW rfl (fun _ hq14 => aI rfl cR (aJ (hq14.blk0 hR1.blk) rfl)) ?_; refine aW rfl (fun _ hq14 => cX rfl Tryz.underlying9 rfl) ?_; refine aW rfl (fun _ hq14 => dF rfl rfl) ?_; refine aW rfl (fun _ hq14 => bM rfl) ?_; refine jN (t := 21) rfl (fun hs21 => ?_) (fun hs21 => ?_)
  ·skip
   refine dH rfl rfl rfl rfl ?_; refine aW rfl (fun _ hq14 => bM rfl) ?_; refine dH rfl rfl rfl rfl ?_; refine aW rfl (fun _ hq14 => aR rfl) ?_; refine dH rfl rfl rfl rfl ?_; refine aW rfl (fun _ hq14 => aE rfl dO) ?_; refine dH rfl rfl rfl rfl ?_; refine aW rfl (fun _ hq14 => aI rfl cR (aJ (hq14.blk0 hR1.blk) rfl)) ?_; refine dH rfl rfl rfl rfl ?_; refine aW rfl (fun _ hq14 => bM rfl) ?_; refine dH rfl rfl rfl rfl ?_; refine aW rfl (fun _ hq14 => aR rfl) ?_; refine dH rfl rfl rfl rfl ?_; refine aW rfl (fun _ hq14 => aE rfl bK) ?_; refine dH rfl rfl rfl rfl ?_; refine aW rfl (fun _ hq14 => aI rfl aU (aJ (hq14.blk0 hR1.blk) rfl)) ?_; refine dH rfl rfl rfl rfl ?_; refine aW rfl (fun _ hq14 => gA (n := sx.pos) rfl rfl Tryz.underlying9 rfl (by omega)) ?_; refine dH rfl rfl rfl rfl ?_; refine aW rfl (fun _ hq14 => gJ rfl rfl) ?_; refine aW rfl (fun _ hq14 => eD rfl rfl) ?_; refine aW rfl (fun _ hq14 => bM rfl) ?_; refine jN (t := 33) rfl (fun hs33 => ?_) (fun hs33 => ?_)
   ·skip
    refine dH rfl rfl rfl rfl ?_; refine aW rfl (fun _ hq14 => bM rfl) ?_; refine dH rfl rfl rfl rfl ?_; refine aW rfl (fun _ hq14 => aR rfl) ?_; refine dH rfl rfl rfl rfl ?_; refine aW rfl (fun _ hq14 => aE rfl dO) ?_; refine dH rfl rfl rfl rfl ?_; refine aW rfl (fun _ hq14 => aI rfl cR (aJ (hq14.blk0 hR1.blk) rfl)) ?_; refine dH rfl rfl rfl rfl ?_; refine aW rfl (fun _ hq14 => bM rfl) ?_; refine dH rfl rfl rfl rfl ?_; refine aW rfl (fun _ hq14 => aR rfl) ?_; refine dH rfl rfl rfl rfl ?_; refine aW rfl (fun _ hq14 => aE rfl bK) ?_; refine dH rfl rfl rfl rfl ?_; refine aW rfl (fun _ hq14 => aI rfl aU (aJ (hq14.blk0 hR1.blk) rfl)) ?_; refine dH rfl rfl rfl rfl ?_; refine aW rfl (fun _ hq14 => gA (n := sx.pos) rfl rfl Tryz.underlying9 rfl (by omega)) ?_; refine dH rfl rfl rfl rfl ?_; refine aW rfl (fun _ hq14 => gJ rfl rfl) ?_; refine aW rfl (fun _ hq14 => eD rfl rfl) ?_; refine fR (fun wq13 hq14 => aA ?_); have hE15 := hV12.then hq14; have hB16 := hq14.blk0 hR1.blk; have hO17 := hR1.own.evo0 hq14; have hO18 := hown.evo0 hq14; have hF19 := hts.evo0 hq14; have hB20 := hq14.blk0 hb2; refine bJ rfl (fun hc44 => ?_) (fun hc44 => ?_)
    ·skip
     have hng : ¬ (s.size ≤ sx.pos ∨ sb s sx.pos = 124 ∨ sb s sx.pos = 41) := by omega
     obtain ⟨f', rfl⟩ : ∃ f', f = f' + 1 := ⟨f - 1, by omega⟩; obtain ⟨lo, hi, nn, hrp⟩ : ∃ lo hi nn, mR (s.extract sx.pos s.size) = (lo, hi, nn) := ⟨_, _, _, rfl⟩; obtain ⟨hlo0, hlo1, hhi0, hhi1, hnn⟩ := pRep_b hmv.bd (by omega) hrp; have hopx : sx.opn = st.opn := hmv.opn
     have hex' : sx.opn < 250 → rY b s ex (sx.opn + 1) := by rw [hopx]; exact hex
     refine bA (aA (bX (aF (aC (aH ?_))))); refine aN (vs := [_]) FF rfl (GJ ⟨hB16, hO17, hR1.ne⟩ (by omega) (by omega) hrp) rfl ?_; rintro _ w21 ⟨rfl, hw22⟩; have hE23 := hE15.then hw22; have hB24 := hw22.blk0 hB16; have hO25 := hO17.evo0 hw22; have hO26 := hO18.evo0 hw22; have hF27 := hF19.evo0 hw22; have hB28 := hw22.blk0 hB20; refine aH (aB rfl (dC rfl rfl) ?_); refine aB rfl (dC rfl rfl) ?_; refine aB rfl (dC rfl rfl) ?_; refine aM (aM (aM (aD (aA (aF (aF (aC (aH (aB rfl (bC rfl rfl) ?_))))))))); refine aD (aA (bJ rfl (fun hc52 => ?_) (fun hc52 => ?_)))
     ·skip
      obtain rfl : nn = 0 := by omega
      refine aF (aC (aH ?_)); refine cH (vs := [_]) FE rfl (MP hex' ⟨hB24, hO25, hR1.ne⟩ hs (by omega) (by omega) hmv.bd hmv.nm (hG.evo hE23 hgw) hGo1) rfl ?_ ?_
      ·skip
       intro pv wp hpp; obtain ⟨e9, hpe, rfl, hpw⟩ := hpp; exact And.intro rfl ⟨_, rfl, _, heq.trans (JN hng hrp hpe), rfl, (hE23).step hpw (lG hnb)⟩
      rintro rv w29 ⟨g, st2, hx, hw30, hmv2, hp2, hl2, na3, nc3, no3, ka, kc, ko, cs2, bs2, rfl, hk1, hk2, hk3, hR3, hnb3⟩; have hcall9 := hw30; have hV9 := hE23; have hl1 := oG hO26 hF27; have hnb4 := hnb.older hnb3 hV9.size; have hkg : ∀ q, q ∈ ko.toList ++ bs2 → _ ≤ q := hk3.ge; have hb2l := fT hB28
      have hA73 : Apart ko qo := fun q h1 h2 => by have h3 := hkg q (List.mem_append_left _ (by simp [h1])); have h4 := hl1 q (List.mem_append_left _ (by simp [h2])); omega
      have hA76 : Apart ko (some b2) := fun q h1 h2 => by cases h2; have h3 := hkg b2 (List.mem_append_left _ (by simp [h1])); omega
      have hE31 := hE23.step hw30 (lG hnb); have hB32 := hO26.evo hw30 (fun q hq => nmq q (List.mem_append_left _ (by simp [hq]))); have hB33 := hF27.evo hw30 (fun q hq => nmq q (List.mem_append_right _ hq)); have hB34 := hw30.blk hB28 (rP hA3.symm hA4); have hA71 := uI hB32 hR3.own (by decide +kernel); refine aM (aD (aA (aF (aC (aH (aH ?_)))))); have hPT9 := hk2; have hVV := (Evo.refl [] w29); have hb29 := fT hB34
      refine dX rfl rfl rfl rfl mB hB32 (Src.ofOwn hk1 hk2.one) (by have h8 := qJ hown hts; have h9 := hmv2.bd.le; omega) fun qa2 qc2 w37 qo2 hO2 hw40 hob41 => ?_
      have hE47 := hE31.step hw40 (nU hfr).mem; have hF49 := hB33.evo hw40 (pZ hfr); have hB50 := hw40.blk hB34 hA5.nmem; have hB51 := hw40.blk hR3.blk hA1.nmem; have hO52 := hR3.own.evo hw40 hA71.symm.own
      have hF54 := hk2.evo hw40 (fun q hq h => by have h8 := hkg q (List.mem_append_right _ hq); have h9 := hl1 q (List.mem_append_left _ h); omega)
      have hob2 := hob41; have hFr9 := Fr.grow hfr hl1 hk3.right (OTs.lt hPT9) hV9.size (Nat.le_trans hcall9.size hVV.size) hob2
      have hnin := DP ha2 hb29 (fun q hq e => by have h8 := hkg q (List.mem_append_right _ hq); omega) hob2
      refine aM (aD (aA (aF (aC (aH (aB rfl (bO rfl Tryz.underlying25 rfl) ?_)))))); refine aB rfl (eZ rfl rfl) ?_; refine aM (aD (aA (dT (cK (dS (bI ?_)))))); refine ⟨⟨f', st2, l ++ g, decide (0 < (g.length : Int)), n + g.length, qa2, qc2, qo2, bs ++ bs2, na3, nc3, no3⟩, ?_, ⟨rfl, rfl, trivial⟩, ⟨rfl, rfl, trivial⟩, hE47, ?_⟩
      · (try dsimp only); show f' < f' + 1; omega
      try dsimp only
      refine ⟨⟨hB51, hO52, hR3.ne⟩, ⟨hmv2.opn.trans hmv.opn, Nat.le_trans hmv.le hmv2.le, hmv2.bd, hmv2.nm⟩, heq.trans ((PD hng hrp hx).trans ?_), (by show s.size + 1 ≤ f' + st2.pos; omega), ⟨_, hO2, OTs.app hF49 hF54⟩, hFr9, (by show (l ++ g).length + st.pos ≤ st2.pos; rw [List.length_append]; omega), ?_, hnb4, hB50, hg2, hnin⟩
      · rw [show decide (0 < (g.length : Int)) = decide (0 < g.length) from decide_eq_decide.2 (by omega)]
      · intro h h9; have h8 : 0 < (g.length : Int) := of_decide_eq_true h; have h7 := (List.append_eq_nil_iff.1 h9).2; rw [h7] at h8; exact absurd h8 (by decide +kernel)
     have hnn0 : nn ≠ 0 := by omega
     refine bA (aA (aF (aF (aC (aH (aB rfl (eO rfl) ?_)))))); refine aH (gW (t := 63) rfl (fun hs63 => ?_) (fun hs63 => ?_))
     ·skip
      replace hs63 := congrArg Bool.not hs63; simp only [Bool.not_not, Bool.not_true, Bool.not_false] at hs63; subst hs63
      refine aG (aG (bD (aH (aG (aG (bD (aH (aG (aG (aG (cI ?_))))))))))); refine cI ?_; refine cI ?_; refine aG (bD (aD (aA (cW rfl ?_)))); refine aC (cH (vs := [_]) dD rfl (eV 82) rfl ?_ ?_)
      ·skip
       intro pv wp hpp; obtain ⟨rfl, hpw⟩ := hpp; exact And.intro rfl ⟨_, rfl, _, heq.trans (wV hng hrp hnn0 (.inl rfl)), rfl, (hE23).then hpw⟩
      intro _ _ hF; exact hF.elim
     replace hs63 := congrArg Bool.not hs63; simp only [Bool.not_not, Bool.not_true, Bool.not_false] at hs63; subst hs63
     refine aP (aH (aP (aB rfl (eZ rfl rfl) ?_))); refine aV (aH (aX (t := 67) rfl (fun hs67 => ?_) (fun hs67 => ?_)))
     ·skip
      refine aG (aG (bD (aH (aG (aG (aG (cI ?_))))))); refine cI ?_; refine cI ?_; refine aG (bD (aD (aA (cW rfl ?_)))); refine aC (cH (vs := [_]) dD rfl (eV 82) rfl ?_ ?_)
      ·skip
       intro pv wp hpp; obtain ⟨rfl, hpw⟩ := hpp; exact And.intro rfl ⟨_, rfl, _, heq.trans (wV hng hrp hnn0 (.inr (by omega))), rfl, (hE23).then hpw⟩
      intro _ _ hF; exact hF.elim
     refine aP (aH (aP (aB rfl (eZ rfl rfl) ?_))); refine aV (aH (aX (t := 71) rfl (fun hs71 => ?_) (fun hs71 => ?_)))
     ·skip
      refine aG (aG (aG (cI ?_))); refine cI ?_; refine cI ?_; refine aG (bD (aD (aA (cW rfl ?_)))); refine aC (cH (vs := [_]) dD rfl (eV 82) rfl ?_ ?_)
      ·skip
       intro pv wp hpp; obtain ⟨rfl, hpw⟩ := hpp; exact And.intro rfl ⟨_, rfl, _, heq.trans (wV hng hrp hnn0 (.inr (by omega))), rfl, (hE23).then hpw⟩
      intro _ _ hF; exact hF.elim
     refine aP (aH (aP (aB rfl (fD rfl rfl) ?_))); refine aP (aH (aX (t := 74) rfl (fun hs74 => ?_) (fun hs74 => ?_)))
     ·skip
      refine aP (aH (aP (aH (aP (aB rfl (dF rfl rfl) ?_))))); refine aP (bD (aV (aD (aA (bJ rfl (fun hc79 => ?_) (fun hc79 => ?_))))))
      ·skip
       refine aC (cH (vs := [_]) dD rfl (eV 82) rfl ?_ ?_)
       ·skip
        intro pv wp hpp; obtain ⟨rfl, hpw⟩ := hpp; exact And.intro rfl ⟨_, rfl, _, heq.trans (wV hng hrp hnn0 (.inr (by omega))), rfl, (hE23).then hpw⟩
       intro _ _ hF; exact hF.elim
      refine bA (aA (aF ?_)); obtain ⟨hnb1, hnb2⟩ := hnn hnn0
      have hcc : ¬ (true = false ∨ 1000 < lo ∨ 1000 < hi ∨ (0 ≤ hi ∧ hi < lo)) := by rintro (h | h | h | ⟨h, h'⟩); cases h; omega; omega; omega
      obtain ⟨l', x, hlx, hdl, hgl⟩ := HW (hahl rfl); have hne := qJ hown hts
      have hn1 : n = l'.length + 1 := by rw [hne, hlx]; simp
      refine aC (aH (aB rfl (aR rfl) (aB rfl (aE rfl bK) (aB rfl (aI rfl aU (aJ hB24 rfl)) (aH ?_))))); refine aB rfl (bF rfl rfl (by omega) (by omega)) ?_; refine aB rfl (aR rfl) (aB rfl (aE rfl bK) (bN rfl rfl (rfl) cB hB24 rfl fun w63 hB64 hw65 => ?_))
      have hE66 := hE23.step hw65 (fun y hy => .inl (by rw [List.mem_singleton.1 hy]; simp))
      have hO67 := hO25.evo hw65 hR1.ap.symm.own1; have hO68 := hO26.evo hw65 hA1.symm.own1; have hF69 := hF27.evo hw65 (fun q hq h => nmq q (List.mem_append_right _ hq) (EK q h)); have hB70 := hw65.blk hB28 hA3.symm.nmem1
      try simp only [dB, Nat.reduceAdd] at hB64
      refine aD (aA (aF (aC (aH (aB rfl (aR rfl) (aB rfl (aE rfl eX) (aB rfl (aE rfl pU) (aB rfl (aI rfl eF (aJ hB64 rfl)) (aM (aD (aA (aF (aF (aC (aH ?_))))))))))))))); refine aN (vs := [_, _]) iF rfl (lD (st := iG sx (sx.pos + nn)) ⟨hB64, hO67, hR1.ne⟩ (by omega) 63 (by decide)) rfl ?_; rintro _ w71 ⟨rfl, hw72, hR7⟩
      have hE73 := hE66.step hw72 (fun y hy => .inl (by rw [List.mem_singleton.1 hy]; simp))
      have hB74 := hO68.evo hw72 ((by first | exact hA1.symm.own1 | exact hA1.symm.nmem1)); have hB75 := hF69.evo hw72 (fun q hq h => nmq q (List.mem_append_right _ hq) (EK q h)); have hB76 := hw72.blk hB70 ((by first | exact hA3.symm.own1 | exact hA3.symm.nmem1)); refine aD (aA (bJ rfl (fun hc95 => ?_) (fun hc95 => ?_)))
      ·skip
       rw [if_pos hc95] at hR7; refine aC (aH (aB rfl (eO rfl) ?_)); refine aM (aD (aA (aF (aC (aH (aB rfl (bO rfl Tryz.underlying25 rfl) ?_)))))); refine aB rfl (gQ rfl rfl (by omega) (by omega)) ?_; refine aM (aD (aA (aF ?_))); have hts16 := hB75; rw [hlx] at hts16; obtain ⟨c1, c2, b1, bx, hcs, hbs, ht1, ht2⟩ := OTs.parts hts16; have hl16 := oG hB74 hB75; have hV16 := hE73; have hb216 := fT hB76; subst hcs; subst hbs; have hX := ht2.one'; obtain ⟨ra, rc, ka, kc, rfl⟩ := id hX.nine; obtain ⟨gq, hgq, haq, hcq⟩ := (hB74).cells (by omega); have hcl := pM hcq; have hc1l := ht1.len; rw [hc1l] at hcl; refine aC (aH (aH (aH (aH (aH (aH (aH ?_))))))); refine aB rfl (gC (n := l'.length) rfl rfl haq (by omega) dV (by omega)) ?_; refine aB rfl (eQ rfl bS bG (vs := [_, _, _, _, _, _, _, _, _]) rfl (hcl.evo (Evo.refl [] w71) (by simp))) ?_; refine bP (vs := [_]) rfl dQ rfl rfl rfl rfl fun b110 w77 hO78 hs79 hw80 => ?_; have hA81 := Apart.new (Lt.own hB74) hs79; have hG86 := Ge.new (Evo.refl [] w71) hs79; have hE88 := hE73.then hw80; have hE90 := (Evo.refl qo.toList w71).then hw80; have hO91 := hB74.evo0 hw80; have hB93 := hw80.blk0 hB76; have hB94 := hw80.blk0 hR7.blk; have hO95 := hR7.own.evo0 hw80; refine aB rfl (eU (vs := [(0, _), (3, _), (4, _), (5, _), (8, _)]) eC rfl (cells := [_, _, _, _, _, _, _, _, _]) rfl) ?_; have hG110 := hG86
       refine aB rfl (gC (n := l'.length) rfl rfl haq (by omega) dV (by omega)) ?_
       obtain ⟨g9, cur9, hg9, hx9, hcu9, hcs9, -⟩ := hO91.at (by omega)
       rw [haq] at hx9; cases hx9
       refine lQ rfl rfl bG rfl (fun u hu => AllOne.mem (l := [_, _, _, _, _, _, _, _, _]) ⟨rfl, rfl, rfl, rfl, rfl, rfl, rfl, rfl, rfl, trivial⟩ u hu) hcu9 (by have h8 := (hO91).le; rw [hcs9]; omega) fun w96 hB97 hw98 => ?_
       replace hw98 := sK hg9 hw98; have hO99 := nS hO91 hg9 hcu9 hc1l (by omega) rfl rfl hB97; have hE100 := hE88.step hw98 (nU hfr).mem; have hE102 := hE90.step hw98 (fun y hy => .inl hy); have hB104 := hw98.blk hB93 hA5.nmem; have hB105 := hw98.blk hB94 hA1.nmem; have hO106 := hO95.evo hw98 hA2.symm.own; have hO107 := hO78.evo hw98 hA81.symm.own; refine aD (aA (aC (aM (aD (aY (bI ?_)))))); refine ⟨⟨f', iG sx (sx.pos + nn + 1), l' ++ [lE lo hi (!sx.now.lazy) x], false, n, qa, qc, qo, b1 ++ (b110 :: bx), na, nc, no⟩, ?_, ⟨rfl, rfl, trivial⟩, ⟨rfl, rfl, trivial⟩, hE100, ?_⟩
       · (try dsimp only); show f' < f' + 1; omega
       try dsimp only
       have hRp := AR (lo := lo) (hi := hi) (z := !sx.now.lazy) hO107 hX hE102 (fun q hq => pZ hfr q (List.mem_append_right _ hq)); have hge110 := hG110 _ rfl
       refine ⟨⟨hB105, hO106, hR7.ne⟩, ⟨hmv.opn, (by show st.pos ≤ sx.pos + nn + 1; omega), hc95.asc (by decide) hnb2, hmv.nm⟩, heq.trans ((BP hng hrp hnn0 hcc hc95).trans (by rw [hdl, hgl]; rfl)), (by show s.size + 1 ≤ f' + (sx.pos + nn + 1); omega), ⟨_, hO99, OTs.app (ht1.evo hE102 (fun q hq => pZ hfr q (List.mem_append_left _ hq))) (OTs.single hRp)⟩, Fr.insert hfr hl16 hge110 hV16.size, ?_, (fun h => by cases h), hnb, hB104, hg2, ?_⟩
       · show (l' ++ [_]).length + st.pos ≤ sx.pos + nn + 1; rw [hlx] at hlen; rw [List.length_append] at hlen ⊢; simp at hlen ⊢; omega
       · intro hm; rcases List.mem_append.1 hm with hm | hm
         · exact ha2 (List.mem_append_left _ hm)
         · rcases List.mem_append.1 hm with hm | hm
           · exact ha2 (List.mem_append_right _ (List.mem_append_left _ hm))
           · rcases List.mem_cons.1 hm with hm | hm
             · omega
             · exact ha2 (List.mem_append_right _ (List.mem_append_right _ hm))
      rw [if_neg hc95] at hR7; refine bA (aA (aF (aC (aH (aB rfl (bO rfl Tryz.underlying25 rfl) ?_))))); refine aB rfl (gQ rfl rfl (by omega) (by omega)) ?_; refine aM (aD (aA (aF ?_))); have hts16 := hB75; rw [hlx] at hts16; obtain ⟨c1, c2, b1, bx, hcs, hbs, ht1, ht2⟩ := OTs.parts hts16; have hl16 := oG hB74 hB75; have hV16 := hE73; have hb216 := fT hB76; subst hcs; subst hbs; have hX := ht2.one'; obtain ⟨ra, rc, ka, kc, rfl⟩ := id hX.nine; obtain ⟨gq, hgq, haq, hcq⟩ := (hB74).cells (by omega); have hcl := pM hcq; have hc1l := ht1.len; rw [hc1l] at hcl; refine aC (aH (aH (aH (aH (aH (aH (aH ?_))))))); refine aB rfl (gC (n := l'.length) rfl rfl haq (by omega) dV (by omega)) ?_; refine aB rfl (eQ rfl bS bG (vs := [_, _, _, _, _, _, _, _, _]) rfl (hcl.evo (Evo.refl [] w71) (by simp))) ?_; refine bP (vs := [_]) rfl dQ rfl rfl rfl rfl fun b110 w108 hO109 hs110 hw111 => ?_; have hA112 := Apart.new (Lt.own hB74) hs110; have hG117 := Ge.new (Evo.refl [] w71) hs110; have hE119 := hE73.then hw111; have hE121 := (Evo.refl qo.toList w71).then hw111; have hO122 := hB74.evo0 hw111; have hB124 := hw111.blk0 hB76; have hB125 := hw111.blk0 hR7.blk; have hO126 := hR7.own.evo0 hw111; refine aB rfl (eU (vs := [(0, _), (3, _), (4, _), (5, _), (8, _)]) eC rfl (cells := [_, _, _, _, _, _, _, _, _]) rfl) ?_; have hG110 := hG117; refine aB rfl (gC (n := l'.length) rfl rfl haq (by omega) dV (by omega)) ?_
      obtain ⟨g9, cur9, hg9, hx9, hcu9, hcs9, -⟩ := hO122.at (by omega)
      rw [haq] at hx9; cases hx9
      refine lQ rfl rfl bG rfl (fun u hu => AllOne.mem (l := [_, _, _, _, _, _, _, _, _]) ⟨rfl, rfl, rfl, rfl, rfl, rfl, rfl, rfl, rfl, trivial⟩ u hu) hcu9 (by have h8 := (hO122).le; rw [hcs9]; omega) fun w127 hB128 hw129 => ?_
      replace hw129 := sK hg9 hw129; have hO130 := nS hO122 hg9 hcu9 hc1l (by omega) rfl rfl hB128; have hE131 := hE119.step hw129 (nU hfr).mem; have hE133 := hE121.step hw129 (fun y hy => .inl hy); have hB135 := hw129.blk hB124 hA5.nmem; have hB136 := hw129.blk hB125 hA1.nmem; have hO137 := hO126.evo hw129 hA2.symm.own; have hO138 := hO109.evo hw129 hA112.symm.own; refine aD (aA (aC (aM (aD (aY (bI ?_)))))); refine ⟨⟨f', iG sx (sx.pos + nn), l' ++ [lE lo hi (sx.now.lazy) x], false, n, qa, qc, qo, b1 ++ (b110 :: bx), na, nc, no⟩, ?_, ⟨rfl, rfl, trivial⟩, ⟨rfl, rfl, trivial⟩, hE131, ?_⟩
      · (try dsimp only); show f' < f' + 1; omega
      try dsimp only
      have hRp := AR (lo := lo) (hi := hi) (z := sx.now.lazy) hO138 hX hE133 (fun q hq => pZ hfr q (List.mem_append_right _ hq)); have hge110 := hG110 _ rfl
      refine ⟨⟨hB136, hO137, hR7.ne⟩, ⟨hmv.opn, (by show st.pos ≤ sx.pos + nn; omega), hnb2, hmv.nm⟩, heq.trans ((JM hng hrp hnn0 hcc hc95).trans (by rw [hdl, hgl]; rfl)), (by show s.size + 1 ≤ f' + (sx.pos + nn); omega), ⟨_, hO130, OTs.app (ht1.evo hE133 (fun q hq => pZ hfr q (List.mem_append_left _ hq))) (OTs.single hRp)⟩, Fr.insert hfr hl16 hge110 hV16.size, ?_, (fun h => by cases h), hnb, hB135, hg2, ?_⟩
      · show (l' ++ [_]).length + st.pos ≤ sx.pos + nn; rw [hlx] at hlen; rw [List.length_append] at hlen ⊢; simp at hlen ⊢; omega
      · intro hm; rcases List.mem_append.1 hm with hm | hm
        · exact ha2 (List.mem_append_left _ hm)
        · rcases List.mem_append.1 hm with hm | hm
          · exact ha2 (List.mem_append_right _ (List.mem_append_left _ hm))
          · rcases List.mem_cons.1 hm with hm | hm
            · omega
            · exact ha2 (List.mem_append_right _ (List.mem_append_right _ hm))
     refine aG (aG (aG (aP (aV (aV (aD (aA (cQ rfl ?_)))))))); refine bA (aA (aF ?_)); obtain ⟨hnb1, hnb2⟩ := hnn hnn0
     have hcc : ¬ (true = false ∨ 1000 < lo ∨ 1000 < hi ∨ (0 ≤ hi ∧ hi < lo)) := by rintro (h | h | h | ⟨h, h'⟩); cases h; omega; omega; omega
     obtain ⟨l', x, hlx, hdl, hgl⟩ := HW (hahl rfl); have hne := qJ hown hts
     have hn1 : n = l'.length + 1 := by rw [hne, hlx]; simp
     refine aC (aH (aB rfl (aR rfl) (aB rfl (aE rfl bK) (aB rfl (aI rfl aU (aJ hB24 rfl)) (aH ?_))))); refine aB rfl (bF rfl rfl (by omega) (by omega)) ?_; refine aB rfl (aR rfl) (aB rfl (aE rfl bK) (bN rfl rfl (rfl) cB hB24 rfl fun w139 hB140 hw141 => ?_))
     have hE142 := hE23.step hw141 (fun y hy => .inl (by rw [List.mem_singleton.1 hy]; simp))
     have hO143 := hO25.evo hw141 hR1.ap.symm.own1; have hO144 := hO26.evo hw141 hA1.symm.own1; have hF145 := hF27.evo hw141 (fun q hq h => nmq q (List.mem_append_right _ hq) (EK q h)); have hB146 := hw141.blk hB28 hA3.symm.nmem1
     try simp only [dB, Nat.reduceAdd] at hB140
     refine aD (aA (aF (aC (aH (aB rfl (aR rfl) (aB rfl (aE rfl eX) (aB rfl (aE rfl pU) (aB rfl (aI rfl eF (aJ hB140 rfl)) (aM (aD (aA (aF (aF (aC (aH ?_))))))))))))))); refine aN (vs := [_, _]) iF rfl (lD (st := iG sx (sx.pos + nn)) ⟨hB140, hO143, hR1.ne⟩ (by omega) 63 (by decide)) rfl ?_; rintro _ w147 ⟨rfl, hw148, hR7⟩
     have hE149 := hE142.step hw148 (fun y hy => .inl (by rw [List.mem_singleton.1 hy]; simp))
     have hB150 := hO144.evo hw148 ((by first | exact hA1.symm.own1 | exact hA1.symm.nmem1)); have hB151 := hF145.evo hw148 (fun q hq h => nmq q (List.mem_append_right _ hq) (EK q h)); have hB152 := hw148.blk hB146 ((by first | exact hA3.symm.own1 | exact hA3.symm.nmem1)); refine aD (aA (bJ rfl (fun hc95 => ?_) (fun hc95 => ?_)))
     ·skip
      rw [if_pos hc95] at hR7; refine aC (aH (aB rfl (eO rfl) ?_)); refine aM (aD (aA (aF (aC (aH (aB rfl (bO rfl Tryz.underlying25 rfl) ?_)))))); refine aB rfl (gQ rfl rfl (by omega) (by omega)) ?_; refine aM (aD (aA (aF ?_))); have hts16 := hB151; rw [hlx] at hts16; obtain ⟨c1, c2, b1, bx, hcs, hbs, ht1, ht2⟩ := OTs.parts hts16; have hl16 := oG hB150 hB151; have hV16 := hE149; have hb216 := fT hB152; subst hcs; subst hbs; have hX := ht2.one'; obtain ⟨ra, rc, ka, kc, rfl⟩ := id hX.nine; obtain ⟨gq, hgq, haq, hcq⟩ := (hB150).cells (by omega); have hcl := pM hcq; have hc1l := ht1.len; rw [hc1l] at hcl; refine aC (aH (aH (aH (aH (aH (aH (aH ?_))))))); refine aB rfl (gC (n := l'.length) rfl rfl haq (by omega) dV (by omega)) ?_; refine aB rfl (eQ rfl bS bG (vs := [_, _, _, _, _, _, _, _, _]) rfl (hcl.evo (Evo.refl [] w147) (by simp))) ?_; refine bP (vs := [_]) rfl dQ rfl rfl rfl rfl fun b110 w153 hO154 hs155 hw156 => ?_; have hA157 := Apart.new (Lt.own hB150) hs155; have hG162 := Ge.new (Evo.refl [] w147) hs155; have hE164 := hE149.then hw156; have hE166 := (Evo.refl qo.toList w147).then hw156; have hO167 := hB150.evo0 hw156; have hB169 := hw156.blk0 hB152; have hB170 := hw156.blk0 hR7.blk; have hO171 := hR7.own.evo0 hw156; refine aB rfl (eU (vs := [(0, _), (3, _), (4, _), (5, _), (8, _)]) eC rfl (cells := [_, _, _, _, _, _, _, _, _]) rfl) ?_; have hG110 := hG162
      refine aB rfl (gC (n := l'.length) rfl rfl haq (by omega) dV (by omega)) ?_
      obtain ⟨g9, cur9, hg9, hx9, hcu9, hcs9, -⟩ := hO167.at (by omega)
      rw [haq] at hx9; cases hx9
      refine lQ rfl rfl bG rfl (fun u hu => AllOne.mem (l := [_, _, _, _, _, _, _, _, _]) ⟨rfl, rfl, rfl, rfl, rfl, rfl, rfl, rfl, rfl, trivial⟩ u hu) hcu9 (by have h8 := (hO167).le; rw [hcs9]; omega) fun w172 hB173 hw174 => ?_
      replace hw174 := sK hg9 hw174; have hO175 := nS hO167 hg9 hcu9 hc1l (by omega) rfl rfl hB173; have hE176 := hE164.step hw174 (nU hfr).mem; have hE178 := hE166.step hw174 (fun y hy => .inl hy); have hB180 := hw174.blk hB169 hA5.nmem; have hB181 := hw174.blk hB170 hA1.nmem; have hO182 := hO171.evo hw174 hA2.symm.own; have hO183 := hO154.evo hw174 hA157.symm.own; refine aD (aA (aC (aM (aD (aY (bI ?_)))))); refine ⟨⟨f', iG sx (sx.pos + nn + 1), l' ++ [lE lo hi (!sx.now.lazy) x], false, n, qa, qc, qo, b1 ++ (b110 :: bx), na, nc, no⟩, ?_, ⟨rfl, rfl, trivial⟩, ⟨rfl, rfl, trivial⟩, hE176, ?_⟩
      · (try dsimp only); show f' < f' + 1; omega
      try dsimp only
      have hRp := AR (lo := lo) (hi := hi) (z := !sx.now.lazy) hO183 hX hE178 (fun q hq => pZ hfr q (List.mem_append_right _ hq)); have hge110 := hG110 _ rfl
      refine ⟨⟨hB181, hO182, hR7.ne⟩, ⟨hmv.opn, (by show st.pos ≤ sx.pos + nn + 1; omega), hc95.asc (by decide) hnb2, hmv.nm⟩, heq.trans ((BP hng hrp hnn0 hcc hc95).trans (by rw [hdl, hgl]; rfl)), (by show s.size + 1 ≤ f' + (sx.pos + nn + 1); omega), ⟨_, hO175, OTs.app (ht1.evo hE178 (fun q hq => pZ hfr q (List.mem_append_left _ hq))) (OTs.single hRp)⟩, Fr.insert hfr hl16 hge110 hV16.size, ?_, (fun h => by cases h), hnb, hB180, hg2, ?_⟩
      · show (l' ++ [_]).length + st.pos ≤ sx.pos + nn + 1; rw [hlx] at hlen; rw [List.length_append] at hlen ⊢; simp at hlen ⊢; omega
      · intro hm; rcases List.mem_append.1 hm with hm | hm
        · exact ha2 (List.mem_append_left _ hm)
        · rcases List.mem_append.1 hm with hm | hm
          · exact ha2 (List.mem_append_right _ (List.mem_append_left _ hm))
          · rcases List.mem_cons.1 hm with hm | hm
            · omega
            · exact ha2 (List.mem_append_right _ (List.mem_append_right _ hm))
     rw [if_neg hc95] at hR7; refine bA (aA (aF (aC (aH (aB rfl (bO rfl Tryz.underlying25 rfl) ?_))))); refine aB rfl (gQ rfl rfl (by omega) (by omega)) ?_; refine aM (aD (aA (aF ?_))); have hts16 := hB151; rw [hlx] at hts16; obtain ⟨c1, c2, b1, bx, hcs, hbs, ht1, ht2⟩ := OTs.parts hts16; have hl16 := oG hB150 hB151; have hV16 := hE149; have hb216 := fT hB152; subst hcs; subst hbs; have hX := ht2.one'; obtain ⟨ra, rc, ka, kc, rfl⟩ := id hX.nine; obtain ⟨gq, hgq, haq, hcq⟩ := (hB150).cells (by omega); have hcl := pM hcq; have hc1l := ht1.len; rw [hc1l] at hcl; refine aC (aH (aH (aH (aH (aH (aH (aH ?_))))))); refine aB rfl (gC (n := l'.length) rfl rfl haq (by omega) dV (by omega)) ?_; refine aB rfl (eQ rfl bS bG (vs := [_, _, _, _, _, _, _, _, _]) rfl (hcl.evo (Evo.refl [] w147) (by simp))) ?_; refine bP (vs := [_]) rfl dQ rfl rfl rfl rfl fun b110 w184 hO185 hs186 hw187 => ?_; have hA188 := Apart.new (Lt.own hB150) hs186; have hG193 := Ge.new (Evo.refl [] w147) hs186; have hE195 := hE149.then hw187; have hE197 := (Evo.refl qo.toList w147).then hw187; have hO198 := hB150.evo0 hw187; have hB200 := hw187.blk0 hB152; have hB201 := hw187.blk0 hR7.blk; have hO202 := hR7.own.evo0 hw187; refine aB rfl (eU (vs := [(0, _), (3, _), (4, _), (5, _), (8, _)]) eC rfl (cells := [_, _, _, _, _, _, _, _, _]) rfl) ?_; have hG110 := hG193; refine aB rfl (gC (n := l'.length) rfl rfl haq (by omega) dV (by omega)) ?_
     obtain ⟨g9, cur9, hg9, hx9, hcu9, hcs9, -⟩ := hO198.at (by omega)
     rw [haq] at hx9; cases hx9
     refine lQ rfl rfl bG rfl (fun u hu => AllOne.mem (l := [_, _, _, _, _, _, _, _, _]) ⟨rfl, rfl, rfl, rfl, rfl, rfl, rfl, rfl, rfl, trivial⟩ u hu) hcu9 (by have h8 := (hO198).le; rw [hcs9]; omega) fun w203 hB204 hw205 => ?_
     replace hw205 := sK hg9 hw205; have hO206 := nS hO198 hg9 hcu9 hc1l (by omega) rfl rfl hB204; have hE207 := hE195.step hw205 (nU hfr).mem; have hE209 := hE197.step hw205 (fun y hy => .inl hy); have hB211 := hw205.blk hB200 hA5.nmem; have hB212 := hw205.blk hB201 hA1.nmem; have hO213 := hO202.evo hw205 hA2.symm.own; have hO214 := hO185.evo hw205 hA188.symm.own; refine aD (aA (aC (aM (aD (aY (bI ?_)))))); refine ⟨⟨f', iG sx (sx.pos + nn), l' ++ [lE lo hi (sx.now.lazy) x], false, n, qa, qc, qo, b1 ++ (b110 :: bx), na, nc, no⟩, ?_, ⟨rfl, rfl, trivial⟩, ⟨rfl, rfl, trivial⟩, hE207, ?_⟩
     · (try dsimp only); show f' < f' + 1; omega
     try dsimp only
     have hRp := AR (lo := lo) (hi := hi) (z := sx.now.lazy) hO214 hX hE209 (fun q hq => pZ hfr q (List.mem_append_right _ hq)); have hge110 := hG110 _ rfl
     refine ⟨⟨hB212, hO213, hR7.ne⟩, ⟨hmv.opn, (by show st.pos ≤ sx.pos + nn; omega), hnb2, hmv.nm⟩, heq.trans ((JM hng hrp hnn0 hcc hc95).trans (by rw [hdl, hgl]; rfl)), (by show s.size + 1 ≤ f' + (sx.pos + nn); omega), ⟨_, hO206, OTs.app (ht1.evo hE209 (fun q hq => pZ hfr q (List.mem_append_left _ hq))) (OTs.single hRp)⟩, Fr.insert hfr hl16 hge110 hV16.size, ?_, (fun h => by cases h), hnb, hB211, hg2, ?_⟩
     · show (l' ++ [_]).length + st.pos ≤ sx.pos + nn; rw [hlx] at hlen; rw [List.length_append] at hlen ⊢; simp at hlen ⊢; omega
     · intro hm; rcases List.mem_append.1 hm with hm | hm
       · exact ha2 (List.mem_append_left _ hm)
       · rcases List.mem_append.1 hm with hm | hm
         · exact ha2 (List.mem_append_right _ (List.mem_append_left _ hm))
         · rcases List.mem_cons.1 hm with hm | hm
           · omega
           · exact ha2 (List.mem_append_right _ (List.mem_append_right _ hm))
    refine dT (cK (cK (dS (aA ?_)))); refine aF (aC (aH ?_)); refine aN (vs := [_, _]) nY rfl (AJ 4 hO18 hF19 (by omega)) rfl ?_; rintro rv w215 ⟨⟨vs, bs', rfl, hOT, hsub⟩, hw216⟩; have hV9 := hE15; have hE217 := hE15.then hw216; have hB218 := hw216.blk0 hB16; have hO219 := hO17.evo0 hw216; have hF221 := hF19.evo0 hw216; have hB222 := hw216.blk0 hB20; obtain ⟨ra, rc, ka, kc, rfl⟩ := id hOT.nine; refine bQ rfl rfl bG hB222 rfl rfl ⟨rfl, rfl, rfl, rfl, rfl, rfl, rfl, rfl, rfl, trivial⟩ fun w223 hB224 hw225 => ?_; have hE226 := hE217.step hw225 hg2.mem1; have hE227 := (Evo.refl ([b2]) w215).step hw225 (fun y hy => .inl hy); have hB228 := hw225.blk hB218 hA3.nmem1; have hO229 := hO219.evo hw225 hA4.symm.own1
    have hF231 := hF221.evo hw225 (fun q hq h => ha2 (List.mem_append_right _ (by rw [← List.mem_singleton.1 h]; exact hq)))
    try simp only [dB, Nat.reduceAdd] at hB224
    refine aD (aA (aQ (cE (dM rfl (ResOk.cellA rfl bS bG hB224 rfl) ?_))))
    exact ⟨wC 4 l, sx, heq.trans (rN (by omega)), hE226, hmv, na, nc, no, _, bs', rfl, hOT.evo hE227 (fun q hq h => ha2 (by rw [← List.mem_singleton.1 h]; exact hsub.subset hq)), hfr.sub hsub, ⟨hB228, hO229, hR1.ne⟩, hnb⟩
   refine cU rfl rfl rfl rfl rfl rfl ?_; refine cU rfl rfl rfl rfl rfl rfl ?_; refine cU rfl rfl rfl rfl rfl rfl ?_; refine cU rfl rfl rfl rfl rfl rfl ?_; refine cU rfl rfl rfl rfl rfl rfl ?_; refine cU rfl rfl rfl rfl rfl rfl ?_; refine cU rfl rfl rfl rfl rfl rfl ?_; refine cU rfl rfl rfl rfl rfl rfl ?_; refine cU rfl rfl rfl rfl rfl rfl ?_; refine cU rfl rfl rfl rfl rfl rfl ?_; refine aW rfl (fun _ hq14 => fS rfl rfl) ?_; refine fR (fun wq13 hq14 => aA ?_); have hE232 := hV12.then hq14; have hB233 := hq14.blk0 hR1.blk; have hO234 := hR1.own.evo0 hq14; have hO235 := hown.evo0 hq14; have hF236 := hts.evo0 hq14; have hB237 := hq14.blk0 hb2; refine cQ rfl ?_; refine dT (cK (cK (dS (aA ?_)))); refine aF (aC (aH ?_)); refine aN (vs := [_, _]) nY rfl (AJ 4 hO235 hF236 (by omega)) rfl ?_; rintro rv w238 ⟨⟨vs, bs', rfl, hOT, hsub⟩, hw239⟩; have hV9 := hE232; have hE240 := hE232.then hw239; have hB241 := hw239.blk0 hB233; have hO242 := hO234.evo0 hw239; have hF244 := hF236.evo0 hw239; have hB245 := hw239.blk0 hB237; obtain ⟨ra, rc, ka, kc, rfl⟩ := id hOT.nine; refine bQ rfl rfl bG hB245 rfl rfl ⟨rfl, rfl, rfl, rfl, rfl, rfl, rfl, rfl, rfl, trivial⟩ fun w246 hB247 hw248 => ?_; have hE249 := hE240.step hw248 hg2.mem1; have hE250 := (Evo.refl ([b2]) w238).step hw248 (fun y hy => .inl hy); have hB251 := hw248.blk hB241 hA3.nmem1; have hO252 := hO242.evo hw248 hA4.symm.own1
   have hF254 := hF244.evo hw248 (fun q hq h => ha2 (List.mem_append_right _ (by rw [← List.mem_singleton.1 h]; exact hq)))
   try simp only [dB, Nat.reduceAdd] at hB247
   refine aD (aA (aQ (cE (dM rfl (ResOk.cellA rfl bS bG hB247 rfl) ?_))))
   exact ⟨wC 4 l, sx, heq.trans (rN (by omega)), hE249, hmv, na, nc, no, _, bs', rfl, hOT.evo hE250 (fun q hq h => ha2 (by rw [← List.mem_singleton.1 h]; exact hsub.subset hq)), hfr.sub hsub, ⟨hB251, hO252, hR1.ne⟩, hnb⟩
  refine cU rfl rfl rfl rfl rfl rfl ?_; refine cU rfl rfl rfl rfl rfl rfl ?_; refine cU rfl rfl rfl rfl rfl rfl ?_; refine cU rfl rfl rfl rfl rfl rfl ?_; refine cU rfl rfl rfl rfl rfl rfl ?_; refine cU rfl rfl rfl rfl rfl rfl ?_; refine cU rfl rfl rfl rfl rfl rfl ?_; refine cU rfl rfl rfl rfl rfl rfl ?_; refine cU rfl rfl rfl rfl rfl rfl ?_; refine cU rfl rfl rfl rfl rfl rfl ?_; refine aW rfl (fun _ hq14 => fS rfl rfl) ?_; refine aW rfl (fun _ hq14 => bM rfl) ?_; refine cU rfl rfl rfl rfl rfl rfl ?_; refine cU rfl rfl rfl rfl rfl rfl ?_; refine cU rfl rfl rfl rfl rfl rfl ?_; refine cU rfl rfl rfl rfl rfl rfl ?_; refine cU rfl rfl rfl rfl rfl rfl ?_; refine cU rfl rfl rfl rfl rfl rfl ?_; refine cU rfl rfl rfl rfl rfl rfl ?_; refine cU rfl rfl rfl rfl rfl rfl ?_; refine cU rfl rfl rfl rfl rfl rfl ?_; refine cU rfl rfl rfl rfl rfl rfl ?_; refine aW rfl (fun _ hq14 => fS rfl rfl) ?_; refine fR (fun wq13 hq14 => aA ?_); have hE255 := hV12.then hq14; have hB256 := hq14.blk0 hR1.blk; have hO257 := hR1.own.evo0 hq14; have hO258 := hown.evo0 hq14; have hF259 := hts.evo0 hq14; have hB260 := hq14.blk0 hb2; refine cQ rfl ?_; refine dT (cK (cK (dS (aA ?_)))); refine aF (aC (aH ?_)); refine aN (vs := [_, _]) nY rfl (AJ 4 hO258 hF259 (by omega)) rfl ?_; rintro rv w261 ⟨⟨vs, bs', rfl, hOT, hsub⟩, hw262⟩; have hV9 := hE255; have hE263 := hE255.then hw262; have hB264 := hw262.blk0 hB256; have hO265 := hO257.evo0 hw262; have hF267 := hF259.evo0 hw262; have hB268 := hw262.blk0 hB260; obtain ⟨ra, rc, ka, kc, rfl⟩ := id hOT.nine
  refine bQ rfl rfl bG hB268 rfl rfl ⟨rfl, rfl, rfl, rfl, rfl, rfl, rfl, rfl, rfl, trivial⟩ fun w269 hB270 hw271 => ?_; have hE272 := hE263.step hw271 hg2.mem1; have hE273 := (Evo.refl ([b2]) w261).step hw271 (fun y hy => .inl hy); have hB274 := hw271.blk hB264 hA3.nmem1; have hO275 := hO265.evo hw271 hA4.symm.own1
  have hF277 := hF267.evo hw271 (fun q hq h => ha2 (List.mem_append_right _ (by rw [← List.mem_singleton.1 h]; exact hq)))
  try simp only [dB, Nat.reduceAdd] at hB270
  refine aD (aA (aQ (cE (dM rfl (ResOk.cellA rfl bS bG hB270 rfl) ?_))))
  exact ⟨wC 4 l, sx, heq.trans (rN (by omega)), hE272, hmv, na, nc, no, _, bs', rfl, hOT.evo hE273 (fun q hq h => ha2 (by rw [← List.mem_singleton.1 h]; exact hsub.subset hq)), hfr.sub hsub, ⟨hB274, hO275, hR1.ne⟩, hnb⟩
end Go.Proofs.YtljadkcojnlioaaGreatDoor
namespace Go.Proofs.YtljadkcojnlioaaGreatDoor
open Go.Proofs
open Go.W Go.RowKit
attribute [local irreducible] Decidable.decide
theorem vR : eM Tryz.prog 59 := ⟨_, Tryz.func59, by kernel_rfl, by kernel_rfl⟩
structure EtG where
  f : Nat
  sx : PS
  l : List Rx
  n : Nat
  qa : Option Addr
  qc : Nat
  qo : Option Nat
  bs : List Nat
  na : Option Addr
  nc : Nat
  no : Option Nat
structure EtI (w wr : World) (b : Nat) (s : ByteArray) (ex : PS → PX Rx) (st : PS) (ob : Option Nat) (b2 : Nat) (x : EtG) : Prop where
  hr : RdAt wr b s x.sx x.na x.nc x.no
  mv : Mv s st x.sx
  eq : nR s ex st = qI s ex x.f x.l x.sx
  hf : s.size + 1 ≤ x.f + x.sx.pos
  kt : ∃ cs, OwnS wr 27 9 x.qa x.n x.qc cs x.qo ∧ OTs x.l wr cs x.bs
  fr : Fr w (x.qo.toList ++ x.bs)
  len : x.l.length + st.pos ≤ x.sx.pos + 1
  nb : NB w ob x.no
  hb2 : wr.heap[b2]? = some (.cells #[iv 0, .int .i32 0, .slice none 0 0, iv 0, iv 0, .bool false, iv 0, .string ByteArray.empty, .slice none 0 0] 27 (0, 0))
  g2 : Ge w (some b2)
  a2 : b2 ∉ x.qo.toList ++ x.bs
theorem IZ {s : ByteArray} {ex : PS → PX Rx} {st : PS} {e : Int} (h : rV s ex st = .error e) : nR s ex st = .error e := by
  unfold nR; unfold rV at h; rw [h]
theorem HB {s : ByteArray} {ex : PS → PX Rx} {st st2 : PS} {x : Rx} (h : rV s ex st = .ok (x, st2)) : nR s ex st = qI s ex (s.size + 1) [x] st2 := by
  unfold nR; unfold rV at h; rw [h]
theorem qC {ex : PS → PX Rx} {w : World} {b : Nat} {s : ByteArray} {st : PS} {a : Option Addr} {c : Nat} {ob : Option Nat} (hex : st.opn < 250 → rY b s ex (st.opn + 1)) (hR : RdAt w b s st a c ob) (hs : s.size ≤ 4096) (hop : st.opn ≤ 250) (hb : Bd s st.pos) (hnl : st.names.length ≤ 100) (hG : Glb w) (hGo : Apart (some nO) ob) :
    Calls Tryz.prog 36 #[.pointer (some ⟨b, 0, none⟩)] w (RetP (HO b s (nR s ex) st ob w) (ExPan b (nR s ex) st ob w)) := by
  have hap := hR.ap; have hgb : nO ∉ [b] := fun h => hR.glb hG (List.mem_singleton.1 h).symm; have hgw := NZ hgb hGo; have hbw : Lt w (some b) := Lt.blk hR.blk; have how : Lt w ob := Lt.own hR.own; refine bL (N := 16) Tryz.func36 rfl rfl rfl ?_; refine aF (aC (dN rfl fE fun b2 w1 hB2 hs3 hw4 => ?_)); have hsz_b2 := hs3; have hA5 := Apart.new (Lt.blk hR.blk) hs3; have hA6 := Apart.new (Lt.own hR.own) hs3; have hG7 := Ge.new (Evo.refl (b :: ob.toList) w) hs3; have hE8 := (Evo.refl (b :: ob.toList) w).then hw4; have hB9 := hw4.blk0 hR.blk; have hO10 := hR.own.evo0 hw4; refine aD (aA (aF (aC (aH (cH (vs := [_]) vR rfl (qV hex ⟨hB9, hO10, hR.ne⟩ hs hop hb hnl (hG.evo hE8 hgw) hGo) rfl ?_ ?_)))))
  ·skip
   intro pv wp hpp; obtain ⟨e9, hpe, rfl, hpw⟩ := hpp; exact And.intro rfl ⟨_, rfl, _, IZ hpe, rfl, (hE8).step hpw (lG (show NB w ob ob from .inl rfl))⟩
  rintro rv w11 ⟨x, st1, hx, hw12, hmv1, na1, nc1, no1, vs, bx, rfl, hOT, hFx, hR1, hnb1⟩; have hcall9 := hw12; have hV9 := hE8; have hnb9 := (show NB w ob ob from .inl rfl).older hnb1 hV9.size; have hb2l := fT hB2; have hxg : ∀ q, q ∈ bx → _ ≤ q := hFx.ge; have hE13 := hE8.step hw12 (lG (show NB w ob ob from .inl rfl)); have hB14 := hw12.blk hB2 (rP hA5.symm hA6.symm); obtain ⟨ra, rc, ka, kc, rfl⟩ := id hOT.nine; refine bP (vs := [_]) rfl dQ rfl rfl rfl rfl fun b6 w15 hO16 hs17 hw18 => ?_; have hG22 := Ge.new hE13 hs17; have hG23 := Ge.new (Evo.refl [] w11) hs17; have hE24 := hE13.then hw18; have hB26 := hw18.blk0 hB14; have hB27 := hw18.blk0 hR1.blk; have hO28 := hR1.own.evo0 hw18; have hF29 := hOT.evo0 hw18; refine aM (aD (aA (aF (bX ?_))))
  refine eT (α := EtG) (⟨s.size + 1, st1, [x], 1, some ⟨b6, 0, none⟩, 1, some b6, bx, na1, nc1, no1⟩) (fun x => [(3, .slice x.qa x.n x.qc)]) [(0, _), (2, _)] (fun x wr => Evo (b :: ob.toList) w wr ∧ (EtI w wr b s ex st ob b2 x)) (fun x => x.f) ⟨rfl, trivial⟩ ⟨rfl, rfl, trivial⟩ ⟨hE24, ⟨⟨hB27, hO28, hR1.ne⟩, hmv1, HB hx, Nat.le_add_right _ _, ⟨_, hO16, OTs.single hF29⟩, ⟨List.nodup_cons.2 ⟨fun h => (by have h8 := hOT.lt b6 h; have h9 := hG23 _ rfl; omega), hFx.nd⟩, fun q hq => by rcases List.mem_cons.1 hq with rfl | hq; (exact hG22 _ rfl); (have h8 := hxg q hq; have h7 := hV9.size; omega)⟩, (by show 1 + st.pos ≤ st1.pos + 1; have := hmv1.le; omega), hnb9, hB26, hG7, (fun h => by rcases List.mem_cons.1 h with h | h; (have h9 := hG23 _ rfl; have h7 := hcall9.size; omega); (have h8 := hxg b2 h; omega))⟩⟩ ?_
  rintro ⟨f, sx, l, n, qa, qc, qo, bs, na, nc, no⟩ wr30 ⟨hV31, ⟨hR2, hmv, heq, hfi, ⟨cs, hown, hts⟩, hfr, hlen, hnb, hb2, hg2, ha2⟩⟩; show CW _ _ _ _ [(3, .slice qa n qc), (0, _), (2, _)] _
  try dsimp only at hR2
  try dsimp only at hmv
  try dsimp only at heq
  try dsimp only at hfi
  try dsimp only at cs
  try dsimp only at hown
  try dsimp only at hts
  try dsimp only at hfr
  try dsimp only at hlen
  try dsimp only at hnb
  try dsimp only at hb2
  try dsimp only at hg2
  try dsimp only at ha2
  have hA1 : Apart (some b) qo := kO hbw (nU hfr); have hA3 : Apart (some b) (some b2) := kO hbw hg2; have hA4 := AC hb2 hR2.own (by decide +kernel); have hA5 := ap_nm ha2; have hGo1 := eG hGo (AZ hG) hnb; have hpl := hmv.bd.le; have hmle := hmv.le; have nmq := nm_rd hR2 hown hts; refine aF (aF (aC (aH ?_))); refine aN (vs := [_, _]) iF rfl (lD ⟨hR2.blk, hR2.own, hR2.ne⟩ (by omega) 124 (by decide)) rfl ?_; rintro _ w32 ⟨rfl, hw33, hR5⟩
  have hE34 := hV31.step hw33 (fun y hy => .inl (by rw [List.mem_singleton.1 hy]; simp))
  have hB35 := hown.evo hw33 ((by first | exact hA1.symm.own1 | exact hA1.symm.nmem1)); have hB36 := hts.evo hw33 (fun q hq h => nmq q (List.mem_append_right _ hq) (EK q h)); have hB37 := hw33.blk hb2 ((by first | exact hA3.symm.own1 | exact hA3.symm.nmem1)); refine aD (aA (bJ rfl (fun hc8 => ?_) (fun hc8 => ?_)))
  ·skip
   rw [if_pos hc8] at hR5
   obtain ⟨f', rfl⟩ : ∃ f', f = f' + 1 := ⟨f - 1, by have := hc8.1; omega⟩
   have hopx : sx.opn = st.opn := hmv.opn
   have hex' : (adv sx 1).opn < 250 → rY b s ex ((adv sx 1).opn + 1) := by show sx.opn < 250 → rY b s ex (sx.opn + 1); rw [hopx]; exact hex
   have hbd1 : Bd s (adv sx 1).pos := hc8.asc (by decide) hmv.bd; refine bA (aA (bX (aC (aH (aH ?_)))))
   refine cH (vs := [_]) vR rfl (qV hex' ⟨hR5.blk, hR5.own, hR5.ne⟩ hs (by show sx.opn ≤ 250; omega) hbd1 hmv.nm (hG.evo hE34 hgw) hGo1) rfl ?_ ?_
   ·skip
    intro pv wp hpp; obtain ⟨e9, hpe, rfl, hpw⟩ := hpp; exact And.intro rfl ⟨_, rfl, _, heq.trans (PC hc8 hpe), rfl, (hE34).step hpw (lG hnb)⟩
   rintro rv w38 ⟨x, st3, hx, hw39, hmv3, na3, nc3, no3, vs, bx, rfl, hOT, hFx, hR3, hnb3⟩; have hcall9 := hw39; have hV9 := hE34; have hnb9 := hnb.older hnb3 hV9.size; have hb2l := fT hB37; have hxg : ∀ q, q ∈ bx → _ ≤ q := hFx.ge; have hl1 := oG hB35 hB36; have hE40 := hE34.step hw39 (lG hnb); have hB41 := hB35.evo hw39 (fun q hq => nmq q (List.mem_append_left _ (by simp [hq]))); have hB42 := hB36.evo hw39 (fun q hq => nmq q (List.mem_append_right _ hq)); have hB43 := hw39.blk hB37 (rP hA3.symm hA4); obtain ⟨ra, rc, ka, kc, rfl⟩ := id hOT.nine; have hA31 := uI hB41 hR3.own (by decide +kernel); refine bP (vs := [_]) rfl dQ rfl rfl rfl rfl fun b44 w45 hO46 hs47 hw48 => ?_; have hE55 := hE40.then hw48; have hE56 := (Evo.refl [] w38).then hw48; have hO57 := hB41.evo0 hw48; have hF58 := hB42.evo0 hw48; have hB59 := hw48.blk0 hB43; have hB60 := hw48.blk0 hR3.blk; have hO61 := hR3.own.evo0 hw48; have hF62 := hOT.evo0 hw48; have hLT9 := hF62; have hVV := hE56; have hb29 := fT hB59
   refine dX rfl rfl rfl rfl mB hO57 (Src.ofOwn hO46 ⟨rfl, rfl, rfl, rfl, rfl, rfl, rfl, rfl, rfl, trivial⟩) (by have h8 := qJ hown hts; omega) fun qa2 qc2 w65 qo2 hO2 hw68 hob69 => ?_
   have hE75 := hE55.step hw68 (nU hfr).mem; have hF77 := hF58.evo hw68 (pZ hfr); have hB78 := hw68.blk hB59 hA5.nmem; have hB79 := hw68.blk hB60 hA1.nmem; have hO80 := hO61.evo hw68 hA31.symm.own
   have hF81 := hF62.evo hw68 (fun q hq h => by have h8 := hxg q hq; have h9 := hl1 q (List.mem_append_left _ h); omega)
   have hob2 := hob69; have hFr9 := Fr.grow hfr hl1 hFx (OT.lt hLT9) hV9.size (Nat.le_trans hcall9.size hVV.size) hob2
   have hnin := DP ha2 hb29 (fun q hq e => by have h8 := hxg q hq; omega) hob2
   refine aM (aD (aY (bI ?_))); refine ⟨⟨f', st3, l ++ [x], n + 1, qa2, qc2, qo2, bs ++ bx, na3, nc3, no3⟩, ?_, ⟨rfl, trivial⟩, ⟨rfl, rfl, trivial⟩, hE75, ?_⟩
   · (try dsimp only); show f' < f' + 1; omega
   try dsimp only
   have hle3 : sx.pos + 1 ≤ st3.pos := hmv3.le
   refine ⟨⟨hB79, hO80, hR3.ne⟩, ⟨hmv3.opn.trans hmv.opn, (by show st.pos ≤ st3.pos; omega), hmv3.bd, hmv3.nm⟩, heq.trans (JL hc8 hx), (by show s.size + 1 ≤ f' + st3.pos; omega), ⟨_, hO2, OTs.app hF77 (OTs.single hF81)⟩, hFr9, ?_, hnb9, hB78, hg2, hnin⟩
   show (l ++ [x]).length + st.pos ≤ st3.pos + 1; rw [List.length_append]; simp; omega
  rw [if_neg hc8] at hR5; refine dT (cK (cK (dS (aA ?_)))); refine aF (aC (aH ?_)); refine aN (vs := [_, _]) nY rfl (AJ 5 hB35 hB36 (by omega)) rfl ?_; rintro rv w83 ⟨⟨vs, bs', rfl, hOT, hsub⟩, hw84⟩; have hV9 := hE34; have hE85 := hE34.then hw84; have hF87 := hB36.evo0 hw84; have hB88 := hw84.blk0 hB37; have hB89 := hw84.blk0 hR5.blk; have hO90 := hR5.own.evo0 hw84; obtain ⟨ra, rc, ka, kc, rfl⟩ := id hOT.nine; refine bQ rfl rfl bG hB88 rfl rfl ⟨rfl, rfl, rfl, rfl, rfl, rfl, rfl, rfl, rfl, trivial⟩ fun w91 hB92 hw93 => ?_; have hE94 := hE85.step hw93 hg2.mem1; have hE95 := (Evo.refl ([b2]) w83).step hw93 (fun y hy => .inl hy)
  have hF97 := hF87.evo hw93 (fun q hq h => ha2 (List.mem_append_right _ (by rw [← List.mem_singleton.1 h]; exact hq)))
  have hB98 := hw93.blk hB89 hA3.nmem1; have hO99 := hO90.evo hw93 hA4.symm.own1
  try simp only [dB, Nat.reduceAdd] at hB92
  refine aD (aA (aQ (cE (dM rfl (ResOk.cellA rfl bS bG hB92 rfl) ?_))))
  exact ⟨wC 5 l, sx, heq.trans (yF hc8), hE94, hmv, na, nc, no, _, bs', rfl, hOT.evo hE95 (fun q hq h => ha2 (by rw [← List.mem_singleton.1 h]; exact hsub.subset hq)), hfr.sub hsub, ⟨hB98, hO99, hR5.ne⟩, hnb⟩
theorem yQ {b : Nat} {s : ByteArray} (hs : s.size ≤ 4096) : ∀ (n m : Nat), m + n = 250 → rY b s (oR s n) m := by
  intro n
  induction n with
  | zero =>
    intro m hm
    unfold rY
    intro w st a c ob hR ho hb hnl hG hGo
    exact qC (ex := fun _ => .error 3) (fun h => by omega) hR hs (by omega) hb hnl hG hGo
  | succ n ih =>
    intro m hm
    unfold rY
    intro w st a c ob hR ho hb hnl hG hGo
    exact qC (ex := oR s n) (fun h => by rw [ho]; exact ih (m + 1) (by omega)) hR hs (by omega) hb hnl hG hGo
end Go.Proofs.YtljadkcojnlioaaGreatDoor
namespace Go.W
open Go.RowKit
section
variable {P : Program} {σ : Env} {w : World}
def RecAs (u : FrameMode) (v : Value) (u' : FrameMode) : Prop :=
  ∀ (c₀ : Frame) (cs : List Frame), c₀.mode = u → (recoverD (c₀ :: cs) = some (v, { c₀ with mode := u' } :: cs)) ∨ (recoverD (c₀ :: cs) = none ∧ v = .nilIface ∧ u' = u)
theorem RecAs.ret : RecAs .returning .nilIface .returning := fun c cs h => .inr ⟨by simp [recoverD, h], rfl, rfl⟩
theorem RecAs.pan (v : Value) : RecAs (.panicking (pan v)) v (.panicking [{ v := v, recovered := true }]) := fun c cs h => .inl (by simp [recoverD, h])
theorem wpS_rec {Q : Exit → Act → List Frame → World → Prop} {id d d2 : Nat} {T T2 : TypeId} {p p2 : String} {e e2 : Array Edge} {a : Act} {c₀ : Frame} {cs : List Frame} {v : Value} {u u' : FrameMode}
    (hu : c₀.mode = u) (hr : RecAs u v u') (hd : d < a.tmps.size) (h : Q .normal ((a.put (some d) v).put (some d2) v) ({ c₀ with mode := u' } :: cs) w) :
    (Code.region id #[⟨some d, .call ⟨.builtin .recover, #[], #[]⟩, T, p, e, none⟩, ⟨some d2, .assign (.tmp d), T2, p2, e2, none⟩] false).wpS P Q a (c₀ :: cs) w := by
  refine wpS_region ?_
  have hget : ∀ v : Value, (a.put (some d) v).eval (.tmp d) = v := fun v => by
    simp [Act.put, Act.eval, hd]
  have hrun : (execOp a.eval ⟨some d, .call ⟨.builtin .recover, #[], #[]⟩, T, p, e, none⟩).run P w = .ok .recover w := by
    simp [execOp, resolve, builtin, invoke]
  have hrun2 : ∀ v : Value, (execOp (a.put (some d) v).eval ⟨some d2, .assign (.tmp d), T2, p2, e2, none⟩).run P w = .ok (.value v) w := fun v => by
    simp [execOp, hget]
  show wpOpsS P _ Q [0, 1] a (c₀ :: cs) w
  have hstep : ∀ (v : Value) (cs' : List Frame), Q .normal ((a.put (some d) v).put (some d2) v) cs' w → wpOpsS P #[⟨some d, .call ⟨.builtin .recover, #[], #[]⟩, T, p, e, none⟩, ⟨some d2, .assign (.tmp d), T2, p2, e2, none⟩] Q [1] (a.put (some d) v) cs' w := fun v cs' h => by
    simp only [wpOpsS]
    simp [Region.wanted, hrun2, Oper.upon, wpOpsS, h]
  rw [wpOpsS]
  simp only [Region.wanted, List.getElem?_toArray, List.getElem?_cons_zero, hrun, if_true]
  rcases hr c₀ cs hu with h1 | ⟨h1, rfl, rfl⟩
  · rw [h1]; exact hstep _ _ h
  · rw [h1]; subst hu; exact hstep _ _ h
theorem xZ {f : FuncId} {fn : Func} {y : Code} {cap : List Value} {Φ : Value → World → Prop} {N id d d2 : Nat} {T T2 : TypeId} {p p2 : String} {e e2 : Array Edge} {v : Value} {u u' : FrameMode} (hr : RecAs u v u')
    (hf : P.funcs[f]? = some fn) (hb : fn.body = some (.seq (.region id #[⟨some d, .call ⟨.builtin .recover, #[], #[]⟩, T, p, e, none⟩, ⟨some d2, .assign (.tmp d), T2, p2, e2, none⟩] false) y)) (hN : fn.ntmps = N)
    (hle' : Nat.ble cap.length N = true) (hd : Nat.blt d N = true) (hd2 : Nat.blt d2 N = true)
    (h : CW P (N, []) y (nV P fn (Ret Φ)) ((d2, v) :: (d, v) :: nH 0 cap) w) :
    CallsD P f cap.toArray u w (fun e u2 w' => (∃ vv, e = .returned vv ∧ Φ vv w') ∧ u2 = u') := by
  have hle : cap.length ≤ N := Nat.le_of_ble_eq_true hle'
  have hdN : d < N := of_decide_eq_true (by simpa using hd)
  have hdN2 : d2 < N := of_decide_eq_true (by simpa using hd2)
  have hfit : Fits (N, []) (nH 0 cap) { tmps := cap.toArray ++ Array.replicate (fn.ntmps - cap.toArray.size) undef, defers := [] } := by
    refine ⟨?_, rfl, ?_⟩
    · simp [hN]; omega
    · intro t v hv
      obtain ⟨_, h2⟩ := pI cap 0 t v hv
      simp only [Nat.sub_zero] at h2
      have hlt : t < cap.length := (List.getElem?_eq_some_iff.1 h2).1
      have h3 : cap[t] = v := by rw [List.getElem?_eq_getElem hlt] at h2; exact Option.some.inj h2
      simp [Array.getElem?_append, hlt, h3]
  refine callsD_of_wpS hf hb fun c₀ cs hu => wpS_seq (wpS_rec hu hr (by rw [hfit.1]; exact hdN) ?_)
  refine wpS_of_wp (wp_mono (h _ ((hfit.put hdN v).put hdN2 v)) ?_)
  intro ex a' w' hq
  cases ex with
  | normal => obtain ⟨N', σ', hf', hn, hk⟩ := hq; obtain ⟨v', h1, h2⟩ := hk a' (by rw [hf'.1, hf'.2.1]; exact hf'); exact ⟨hf'.2.1.trans hn, u', rfl, v', h1, h2, rfl⟩
  | ret => obtain ⟨N', σ', hf', hn, hk⟩ := hq; obtain ⟨v', h1, h2⟩ := hk a' (by rw [hf'.1, hf'.2.1]; exact hf'); exact ⟨hf'.2.1.trans hn, u', rfl, v', h1, h2, rfl⟩
  | panic ch => obtain ⟨N', σ', hf', hn, v', h1, h2⟩ := hq; cases h1
  | outgrown => obtain ⟨_, v', h1, h2⟩ := hq; cases h1
  | exit i => obtain ⟨_, _, _, hk⟩ := hq; exact hk
  | goto l => obtain ⟨_, _, _, hk⟩ := hq; exact hk
theorem sH {n : Nat} {fn : Func} {r r' : ResultVar} {Φ : Value → World → Prop} {f : FuncId} {g : Func} {cap : Array Value} {u : FrameMode} (hr : fn.results = #[r, r']) (hg : P.funcs[f]? = some g) (hn : (g.name == "runtime.NumGoroutine") = false) (hb : g.body.isNone = false) (hu : u ≠ .run)
    (h : CallsD P f cap u w fun e u' w' => (∃ vv, e = .returned vv) ∧ settle u' = .returning ∧ ∃ v v', ResOk P σ w' r v ∧ ResOk P σ w' r' v' ∧ Φ (.tuple #[v, v']) w') :
    ∀ a, Fits (n, [dfr f cap]) σ a → Leaves P fn a.tmps (Ret Φ) [dfr f cap] u w := fun a ha => by
  refine GY hg hn hb hu (h.mono ?_)
  rintro e u' w' ⟨⟨vv, rfl⟩, hs, v, v', h1, h2, h3⟩
  show Leaves P fn a.tmps (Ret Φ) [] (settle u') w'
  rw [hs]
  refine ⟨.tuple #[v, v'], ?_, _, rfl, h3⟩
  have ha' : Fits (a.tmps.size, a.defers) σ a := ⟨rfl, rfl, ha.2.2⟩
  rw [pG, hr]
  simp [h1 a ha', h2 a ha']
theorem yB {n : Nat} {fn : Func} {Φ : Value → World → Prop} (h : nV P fn (Ret Φ) .ret (n, []) σ w) : OX P fn (Ret Φ) .ret (n, []) σ w := fun a ha => h.2 a (by rw [ha.1, ha.2.1]; exact ha)
end
end Go.W
namespace Go.Proofs.YtljadkcojnlioaaGreatDoor
open Go.Proofs
open Go.W Go.RowKit
attribute [local irreducible] Decidable.decide
theorem rC {s : ByteArray} {a : Nat} (ha : a < s.size) (h : (Utf8.decode s a).1 = 65533 → a + 3 ≤ s.size ∧ s.extract a (a + 3) = bstr [239, 191, 189]) :
    (dA s a).1 = ((Utf8.decode s a).1 : Nat) ∧ (dA s a).2 = (Utf8.decode s a).2 := by
  have h1 : ¬ ((Utf8.decode s a).1 = 65533 ∧ (Utf8.decode s a).2 = 1) := fun ⟨h1, h2⟩ => by
    have := (qT s a h1 ha).2 (h h1)
    omega
  unfold dA
  rw [if_pos ⟨ha, h1⟩]
  exact ⟨rfl, rfl⟩
theorem nP {s : ByteArray} {a : Nat} (ha : a < s.size) : 0 < (Utf8.decode s a).2 := by
  rcases gV s a ha with ⟨w, h1, h2, h3, hh, hd, h4, h5, -⟩ | ⟨h1, hd⟩ <;> rw [hd] <;> simp <;> omega
theorem JR {s : ByteArray} {k : Nat} (hw : ∀ j, j < k → 0 < (dA s (eI s j)).2) (h : ¬ eI s k < s.size) : Utf s k := ⟨Nat.le_antisymm (wM s k) (by omega), hw⟩
theorem LM {s : ByteArray} {k : Nat} (hw : ∀ j, j < k → 0 < (dA s (eI s j)).2) (h1 : eI s k < s.size) (h2 : (dA s (eI s k)).2 = 0) : ¬ ∃ N, Utf s N := by
  rintro ⟨N, hN⟩
  rcases Nat.lt_or_ge k N with h | h
  · have := hN.2 k h; omega
  · have h3 : eI s N ≤ eI s k := by
      rcases Nat.lt_or_ge N k with h' | h'
      · exact Nat.le_of_lt (offs_lt hw h' (Nat.le_refl _))
      · rw [Nat.le_antisymm h h']; exact Nat.le_refl _
    rw [hN.1] at h3; omega
structure VaI (w wr : World) (s : ByteArray) (it k : Nat) : Prop where
  hw : ∀ j, j < k → 0 < (dA s (eI s j)).2
  hit : wr.heap[it]? = some (.stringIter s (eI s k))
  hge : Ge w (some it)
theorem JS {w : World} (s : ByteArray) (hs : s.size ≤ 140737488355320) : Calls Tryz.prog 34 #[.string s] w (Ret fun v w' => ∃ b, v = .bool b ∧ (b = true ↔ ∃ N, Utf s N) ∧ Evo [] w w') := by
  refine bL (N := 19) Tryz.func34 rfl rfl rfl ?_; refine aF (aC (aM (aD (aA (aF (aF (aC (aH (yY rfl rfl Tryz.underlying9 fun it w1 hB2 hs3 hw4 => ?_))))))))); have hG5 := Ge.new (Evo.refl [] w) hs3; have hE6 := (Evo.refl [] w).then hw4; refine aD (aA (bX ?_)); refine eT (α := Nat) (0) (fun k => []) [(0, _), (6, _)] (fun k wr => Evo [] w wr ∧ (VaI w wr s it k)) (fun k => s.size - eI s k) trivial ⟨rfl, rfl, trivial⟩ ⟨hE6, ⟨fun j h => (by cases h), hB2, hG5⟩⟩ ?_; rintro k wr7 ⟨hV8, ⟨hw, hIt, hIg⟩⟩; show CW _ _ _ _ [(0, _), (6, _)] _; refine aF (aC ?_)
  by_cases hn9 : eI s k < s.size
  ·skip
   refine CY rfl rfl hIt hn9 fun w10 hB11 hw12 => ?_; have hE13 := hV8.step hw12 hIg.mem1
   have hlt : eI s k < s.size := by omega
   refine aB rfl (dC rfl rfl) ?_; refine aD (aA (aF (cW rfl ?_))); refine bA (aA (bX (aF (aC (aB rfl (dC rfl rfl) ?_))))); refine aB rfl (dC rfl rfl) ?_; refine aM (aM (aD (aA (aF (aC (aH (aB rfl (bC rfl rfl) ?_))))))); refine aH (aX (t := 13) rfl (fun hs13 => ?_) (fun hs13 => ?_))
   ·skip
    refine aP (aH (aP (aH (aP ?_)))); refine aN (vs := [_, _]) vS rfl (vF s (eI s k) (wM s k) (by omega)) rfl ?_; rintro _ w14 ⟨rfl, hw15⟩; have hE16 := hE13.then hw15; have hB17 := hw15.blk0 hB11; refine aP (aB rfl (lH rfl) ?_); refine bD (aD (aA (bJ rfl (fun hc18 => ?_) (fun hc18 => ?_))))
    ·skip
     refine aF (aC (aM (aD (aA (aQ (aZ (aO (aZ (aO (aK rfl rfl ?_))))))))))
     exact ⟨false, rfl, by simp only [Bool.false_eq_true, false_iff]; exact LM hw hlt (by rw [zH hlt (by omega) (by simpa using hc18)]), hE16⟩
    refine bA (aY (bI ?_)); refine ⟨(k + 1), ?_, trivial, ⟨rfl, rfl, trivial⟩, hE16, ?_⟩
    · (have hnd : (dA s (eI s k)).1 = ((Utf8.decode s (eI s k)).1 : Nat) ∧ (dA s (eI s k)).2 = (Utf8.decode s (eI s k)).2 := rC hlt (fun h => by first | (exfalso; omega) | simpa using hc18); have hdw := nP hlt; have e0 : eI s (k + 1) = eI s k + (dA s (eI s k)).2 := rfl; rw [e0, hnd.2]; omega)
    have hnd : (dA s (eI s k)).1 = ((Utf8.decode s (eI s k)).1 : Nat) ∧ (dA s (eI s k)).2 = (Utf8.decode s (eI s k)).2 := rC hlt (fun h => by first | (exfalso; omega) | simpa using hc18)
    have hdw := nP hlt; have e0 : eI s (k + 1) = eI s k + (dA s (eI s k)).2 := rfl; refine ⟨fun j hj => ?_, ?_, hIg⟩
    · by_cases e : j < k; exact hw j e; (obtain rfl : j = k := by omega); rw [hnd.2]; exact hdw
    · rw [e0, hnd.2]; exact hB17
   refine aG (aG (aG (aG (aV (aD (aA (cQ rfl ?_))))))); refine bA (aY (bI ?_)); refine ⟨(k + 1), ?_, trivial, ⟨rfl, rfl, trivial⟩, hE13, ?_⟩
   · (have hnd : (dA s (eI s k)).1 = ((Utf8.decode s (eI s k)).1 : Nat) ∧ (dA s (eI s k)).2 = (Utf8.decode s (eI s k)).2 := rC hlt (fun h => by first | (exfalso; omega) | simpa using hc18); have hdw := nP hlt; have e0 : eI s (k + 1) = eI s k + (dA s (eI s k)).2 := rfl; rw [e0, hnd.2]; omega)
   have hnd : (dA s (eI s k)).1 = ((Utf8.decode s (eI s k)).1 : Nat) ∧ (dA s (eI s k)).2 = (Utf8.decode s (eI s k)).2 := rC hlt (fun h => by first | (exfalso; omega) | simpa using hc18)
   have hdw := nP hlt; have e0 : eI s (k + 1) = eI s k + (dA s (eI s k)).2 := rfl; refine ⟨fun j hj => ?_, ?_, hIg⟩
   · by_cases e : j < k; exact hw j e; (obtain rfl : j = k := by omega); rw [hnd.2]; exact hdw
   · rw [e0, hnd.2]; exact hB11
  refine LI rfl rfl hIt hn9 ?_; refine aB rfl (dC rfl rfl) ?_; refine aD (aA (aF (cQ rfl ?_))); refine dT (cK (cK (dS (aA ?_)))); refine aF (aC (aM (aD (aA (aQ (aK rfl rfl ?_))))))
  exact ⟨true, rfl, by simp only [true_iff]; exact ⟨k, JR hw (by omega)⟩, hV8⟩
end Go.Proofs.YtljadkcojnlioaaGreatDoor
namespace Go.Proofs.YtljadkcojnlioaaGreatDoor
open Go.Proofs
open Go.W Go.RowKit
attribute [local irreducible] Decidable.decide
theorem CP : gB Tryz.prog 58 0 = some 0 := by kernel_rfl
theorem FB : iR Tryz.prog 58 = some 1 := by kernel_rfl
theorem EZ : nG Tryz.prog 58 = some #[.int .i64 0] := by kernel_rfl
theorem JB {P : Program} {σ : Env} {w : World} {T : TypeId} {pos : String} {after : Array Edge} {dst : Option Nat} {g : Option (Nat × Bool)} {op : BinOp} {xt yt : TypeId} {x y : Operand} {a b r : Value} (hx : σ.ev x = some a) (hy : σ.ev y = some b) (h : ∀ w, (do eqGuard op xt x y a b; binOp op xt a b : Sem Value).run P w = .ok r w) : Ex P σ ⟨dst, .binOp op xt x y yt, T, pos, after, g⟩ w r w := fun ρ ha => by
  have h1 := h w
  simp only [Sem.run_bind] at h1
  simp only [execOp, ha _ _ hx, ha _ _ hy, Sem.run_bind, h1, Result.andThen_ok, Sem.run_pure]
theorem HC {P : Program} {σ : Env} {w : World} {T : TypeId} {pos : String} {after : Array Edge} {dst : Option Nat} {g : Option (Nat × Bool)} {xt ast : TypeId} {ok : Bool} {x : Operand} {a r : Value} (hx : σ.ev x = some a) (h : ∀ w, (Instr.typeAssert a xt ast ok).run P w = .ok r w) : Ex P σ ⟨dst, .typeAssert x xt ast ok, T, pos, after, g⟩ w r w := fun ρ ha => by
  simp [execOp, ha _ _ hx, h]
theorem recov_none {w : World} {x e : Value} : CallsD Tryz.prog 35 #[x, e] .returning w (fun e u2 w' => (∃ vv, e = .returned vv ∧ Evo [] w w') ∧ u2 = .returning) := by
  refine xZ (N := 19) (RecAs.ret) Tryz.func35 rfl rfl rfl rfl rfl ?_
  refine aF ?_
  refine aC ?_
  refine aH ?_
  refine aB rfl (JB (r := .bool false) rfl rfl (fun w => by kernel_rfl)) ?_
  refine aD (aA ?_)
  refine cQ rfl ?_
  refine bA (cP rfl ?_)
  exact (Evo.refl [] w)
theorem xA {w : World} {bx be : Nat} {c0 c1 c2 c3 c4 c5 c6 c7 c8 v0 : Value} {k : Int} (hx : w.heap[bx]? = some (.cells #[c0, c1, c2, c3, c4, c5, c6, c7, c8] 27 (0, 0))) (he : w.heap[be]? = some (.cells #[v0] 28 (0, 0))) (hne : Apart (some bx) (some be)) :
    CallsD Tryz.prog 35 #[.pointer (some ⟨bx, 0, none⟩), .pointer (some ⟨be, 0, none⟩)] (.panicking (pan (flt k))) w (fun e u2 w' => (∃ vv, e = .returned vv ∧ Evo [bx, be] w w' ∧ w'.heap[bx]? = some (.cells #[iv 0, .int .i32 0, .slice none 0 0, iv 0, iv 0, .bool false, iv 0, .string ByteArray.empty, .slice none 0 0] 27 (0, 0)) ∧ w'.heap[be]? = some (.cells #[iv k] 28 (0, 0))) ∧ u2 = .panicking [{ v := flt k, recovered := true }]) := by
  refine xZ (N := 19) (RecAs.pan _) Tryz.func35 rfl rfl rfl rfl rfl ?_
  refine aF ?_
  refine aC ?_
  refine aH ?_
  refine aB rfl (JB (r := .bool true) rfl rfl (fun w => by kernel_rfl)) ?_
  refine aD (aA ?_)
  refine cW rfl ?_
  refine aF ?_
  refine aC ?_
  refine aH ?_
  refine aB rfl (HC (r := .tuple #[.agg #[iv k], .bool true]) rfl (fun w => by kernel_rfl)) ?_
  refine aH ?_
  refine aB rfl (dC rfl rfl) ?_
  refine aB rfl (dC rfl rfl) ?_
  refine dN rfl EZ fun bf w1 hB2 hs3 hw4 => ?_
  have hsz_bf := hs3
  have hA5 := Apart.new (Lt.blk hx) hs3
  have hA6 := Apart.new (Lt.blk he) hs3
  have hG7 := Ge.new (Evo.refl [bx, be] w) hs3
  have hE8 := (Evo.refl [bx, be] w).then hw4
  have hB9 := hw4.blk0 hx
  have hB10 := hw4.blk0 he
  refine bQ rfl rfl FB hB2 rfl rfl ⟨by first | rfl | assumption, trivial⟩ fun w11 hB12 hw13 => ?_
  have hE14 := hE8.step hw13 hG7.mem1
  have hB15 := hw13.blk hB9 hA5.nmem1
  have hB16 := hw13.blk hB10 hA6.nmem1
  refine aM ?_
  refine aD (aA ?_)
  refine aF ?_
  refine aF ?_
  refine aC ?_
  refine aH ?_
  refine aB rfl (eO rfl) ?_
  refine aD (aA ?_)
  refine cQ rfl ?_
  refine bA (aA ?_)
  refine hD (fun w0 w' => Evo [bx, be] w0 w') (by kernel_rfl) (fun w17 hw18 => ?_)
  have hE19 := hE14.then hw18
  have hB20 := hw18.blk0 hB15
  have hB21 := hw18.blk0 hB16
  have hB22 := hw18.blk0 hB12
  refine bB 0 rfl (by kernel_rfl) (by kernel_rfl) (by kernel_rfl) rfl (fun _ hS => eU (vs := []) eC rfl (cells := [_, _, _, _, _, _, _, _, _]) rfl) (Evo.refl [bx, be] w17) ?_
  refine bB 1 rfl (by kernel_rfl) (by kernel_rfl) (by kernel_rfl) rfl (fun _ hS => aE rfl CP) (Evo.refl [bx, be] w17) ?_
  refine bB 2 rfl (by kernel_rfl) (by kernel_rfl) (by kernel_rfl) rfl (fun _ hS => aI rfl iZ (aJ (hS.blk hB22 ((rP hA5.symm hA6.symm))) rfl)) (Evo.refl [bx, be] w17) ?_
  refine cL [3] (by kernel_rfl) rfl ⟨?_, trivial⟩
  refine cV rfl ?_
  refine bQ rfl rfl bG hB20 rfl rfl ⟨by first | rfl | assumption, by first | rfl | assumption, by first | rfl | assumption, by first | rfl | assumption, by first | rfl | assumption, by first | rfl | assumption, by first | rfl | assumption, by first | rfl | assumption, by first | rfl | assumption, trivial⟩ fun w23 hB24 hw25 => ?_
  have hE26 := hE19.step hw25 (fun y hy => .inl (by rw [List.mem_singleton.1 hy]; simp))
  have hE27 := (Evo.refl [bx, be] w17).step hw25 (fun y hy => .inl (by rw [List.mem_singleton.1 hy]; simp))
  have hB28 := hw25.blk hB21 hne.symm.nmem1
  have hB29 := hw25.blk hB22 hA5.symm.nmem1
  refine aD (cG (.inl hE27) ?_)
  refine cL [4] (by kernel_rfl) rfl ⟨?_, trivial⟩
  refine cV rfl ?_
  refine bN rfl rfl (by first | rfl | assumption) gG hB28 rfl fun w30 hB31 hw32 => ?_
  have hE33 := hE26.step hw32 (fun y hy => .inl (by rw [List.mem_singleton.1 hy]; simp))
  have hE34 := hE27.step hw32 (fun y hy => .inl (by rw [List.mem_singleton.1 hy]; simp))
  have hB35 := hw32.blk hB24 hne.nmem1
  have hB36 := hw32.blk hB29 hA6.symm.nmem1
  refine aD (cG (.inl hE34) ?_)
  refine eH (by kernel_rfl) (cP rfl ?_)
  exact ⟨hE33, hB35, hB31⟩
end Go.Proofs.YtljadkcojnlioaaGreatDoor
