/- Shows: part 6 of 7 of what the law rests on. -/
import Derived.Test.YtljadkcojnlioaaGreatDoorPkE
set_option linter.unusedSectionVars false
set_option linter.unusedSimpArgs false
set_option linter.unusedVariables false
namespace Go.Proofs.YtljadkcojnlioaaGreatDoor
open Go.Proofs
open Go.W Go.RowKit
attribute [local irreducible] Decidable.decide
theorem CQ : Build Tryz.prog 64 #[(0, 1), (1, 1), (2, 4), (6, 1), (7, 1)] #[.string ByteArray.empty, .int .i64 0, .bool false, .bool false, .bool false, .bool false, .int .i64 0, .slice none 0 0] := ⟨_, .agg #[.string ByteArray.empty, .int .i64 0, .bool false, .bool false, .bool false, .bool false, .int .i64 0, .slice none 0 0], Tryz.underlying64, by kernel_rfl, rfl, fun w => by kernel_rfl⟩
theorem FR : eM Tryz.prog 34 := ⟨_, Tryz.func34, by kernel_rfl, by kernel_rfl⟩
theorem FA : nG Tryz.prog 28 = some #[.int .i64 0] := by kernel_rfl
abbrev st0 : PS := ⟨0, ⟨false, false, false, false⟩, 0, []⟩
abbrev zRx : Value := .agg #[iv 0, .int .i32 0, .slice none 0 0, iv 0, iv 0, .bool false, iv 0, .string ByteArray.empty, .slice none 0 0]
section
variable {s : ByteArray} {e : Int} {x : Rx} {st : PS}
theorem pp_long (h : 4096 < s.size) : kN s = .error 1 := by unfold kN; rw [if_pos h]
theorem pp_utf (h : ¬ 4096 < s.size) (hU : ¬ ∃ N, Utf s N) : kN s = .error 4 := by unfold kN; rw [if_neg h, if_pos hU]
theorem MM (h : ¬ 4096 < s.size) (hU : ∃ N, Utf s N) (he : oR s 250 st0 = .error e) : kN s = .error e := by unfold kN; rw [if_neg h, if_neg (not_not_intro hU), he]
theorem pp_open (h : ¬ 4096 < s.size) (hU : ∃ N, Utf s N) (he : oR s 250 st0 = .ok (x, st)) (hp : st.pos < s.size) : kN s = .error 80 := by unfold kN; rw [if_neg h, if_neg (not_not_intro hU), he]; simp only [if_pos hp]
theorem pp_ok (h : ¬ 4096 < s.size) (hU : ∃ N, Utf s N) (he : oR s 250 st0 = .ok (x, st)) (hp : ¬ st.pos < s.size) : kN s = .ok x := by unfold kN; rw [if_neg h, if_neg (not_not_intro hU), he]; simp only [if_neg hp]
end
def PK (s : ByteArray) (w : World) (v : Value) (w' : World) : Prop :=
  Evo [] w w' ∧ ((∃ e, kN s = .error e ∧ v = .tuple #[zRx, iv e]) ∨ ∃ x vs bs, kN s = .ok x ∧ v = .tuple #[.agg vs.toArray, iv 0] ∧ OT x w' vs bs ∧ Fr w bs)
theorem DF {w : World} (s : ByteArray) (hG : Glb w) : Calls Tryz.prog 11 #[.string s] w (Ret (PK s w)) := by
  refine BN (N := 31) Tryz.func11 rfl rfl rfl ?_; refine aF (aC (dN rfl fE fun bx w1 hB2 hs3 hw4 => ?_)); have hsz_bx := hs3; have hG5 := Ge.new (Evo.refl [] w) hs3; have hE6 := (Evo.refl [] w).then hw4; refine dN rfl FA fun be w7 hB8 hs9 hw10 => ?_; have hsz_be := hs9; have hA11 := Apart.new (Lt.blk hB2) hs9; have hG12 := Ge.new hE6 hs9; have hE13 := hE6.then hw10; have hB14 := hw10.blk0 hB2; refine aD (aA (aF (aF (aC (aH (aB rfl (cX rfl Tryz.underlying9 rfl) ?_)))))); refine aB rfl (eZ rfl rfl) ?_; refine aD (aA (bJ rfl (fun hc7 => ?_) (fun hc7 => ?_)))
  ·skip
   refine aF (aC (aB rfl (eU (vs := []) eC rfl (cells := [_, _, _, _, _, _, _, _, _]) rfl) ?_)); refine bQ rfl rfl bG hB14 rfl rfl ⟨rfl, rfl, rfl, rfl, rfl, rfl, rfl, rfl, rfl, trivial⟩ fun w15 hB16 hw17 => ?_; have hE18 := hE13.step hw17 hG5.mem1; have hB19 := hw17.blk hB8 hA11.symm.nmem1; refine bN rfl rfl (rfl) gG hB19 rfl fun w20 hB21 hw22 => ?_; have hE23 := hE18.step hw22 hG12.mem1; have hB24 := hw22.blk hB16 hA11.nmem1; refine aD (aA (aQ (aO (yB (yC rfl (ResOk.cellA rfl bS bG hB24 rfl) (ResOk.cell1 rfl iZ hB21 rfl) ?_))))); exact ⟨hE23, .inl ⟨1, pp_long (by omega), rfl⟩⟩
  have hlen : ¬ 4096 < s.size := by omega
  refine bA (aA (aF (aF (aC (aH ?_))))); refine aN (vs := [_]) FR rfl (JS s (by omega)) rfl ?_; rintro _ w25 ⟨bU, rfl, hbU, hw26⟩; have hE27 := hE13.then hw26; have hB28 := hw26.blk0 hB14; have hB29 := hw26.blk0 hB8; refine aB rfl (eO rfl) ?_; refine aD (aA (fB rfl (fun hc11 => ?_) (fun hc11 => ?_)))
  ·skip
   refine aF (aC (aB rfl (eU (vs := []) eC rfl (cells := [_, _, _, _, _, _, _, _, _]) rfl) ?_)); refine bQ rfl rfl bG hB28 rfl rfl ⟨rfl, rfl, rfl, rfl, rfl, rfl, rfl, rfl, rfl, trivial⟩ fun w30 hB31 hw32 => ?_; have hE33 := hE27.step hw32 hG5.mem1; have hB34 := hw32.blk hB29 hA11.symm.nmem1; refine bN rfl rfl (rfl) gG hB34 rfl fun w35 hB36 hw37 => ?_; have hE38 := hE33.step hw37 hG12.mem1; have hB39 := hw37.blk hB31 hA11.nmem1; refine aD (aA (aQ (aO (yB (yC rfl (ResOk.cellA rfl bS bG hB39 rfl) (ResOk.cell1 rfl iZ hB36 rfl) ?_)))))
   exact ⟨hE38, .inl ⟨4, pp_utf hlen (fun h => by have := hbU.2 h; simp_all), rfl⟩⟩
  have hU : ∃ N, Utf s N := hbU.1 (by simpa using hc11); refine bA (aA (aF (aC (aB rfl (EJ (vs := [_, _]) rfl) ?_)))); refine LJ rfl ?_; refine aD (aA (aF (aC (aH (aB rfl (eU (vs := [(0, _)]) CQ rfl (cells := [_, _, _, _, _, _, _, _]) rfl) ?_))))); refine gT rfl rfl fun br w40 hB41 hs42 hw43 => ?_; have hsz_br := hs42; have hA44 := Apart.new (Lt.blk hB28) hs42; have hA45 := Apart.new (Lt.blk hB29) hs42; have hG46 := Ge.new hE27 hs42; have hE47 := hE27.then hw43; have hB48 := hw43.blk0 hB28; have hB49 := hw43.blk0 hB29; refine aM (aD (aA (aF (aC (aH ?_)))))
  refine cH (vs := [_]) mJ rfl (yQ (by omega) 250 0 rfl (a := none) (c := 0) (ob := none) (st := st0) ⟨hB41, OwnS.nil _ _ _, fun g h => by cases h⟩ rfl (by obtain ⟨N, hN⟩ := hU; exact Bd.zero hN) (by show 0 ≤ 100; omega) (hG.evo hE47 (by simp)) (Apart.nil _)) rfl ?_ ?_
  ·skip
   intro pv wp hpp; obtain ⟨e9, hpe, rfl, hpw⟩ := hpp; refine sH rfl Tryz.func35 (by kernel_rfl) rfl (by simp) ((xA (hpw.blk hB48 (by simpa using hA44.nmem1)) (hpw.blk hB49 (by simpa using hA45.nmem1)) hA11).mono ?_); rintro e9 u9 w9 ⟨⟨vv, rfl, hv9, hb9, hc9⟩, rfl⟩
   exact ⟨⟨vv, rfl⟩, rfl, _, _, ResOk.cellA rfl bS bG hb9 rfl, ResOk.cell1 rfl iZ hc9 rfl, ((hE47).step hpw (fun y hy => hG46.mem1 y (by simpa using hy))).step hv9 (fun y hy => by rcases List.mem_cons.1 hy with rfl | hy; exact hG5.mem1 _ (by simp); exact hG12.mem1 _ hy), .inl ⟨_, MM hlen hU hpe, rfl⟩⟩
  rintro _ w50 ⟨x, st1, hx, h0w, hmv, na, nc, no, vs, bs, rfl, hOT, hFx, hR, hnb⟩; have hV9 := hE47; have hw51 : Evo [br] _ _ := h0w; obtain ⟨ra, rc, ka, kc, rfl⟩ := id hOT.nine; have hbxl := fT hB48; have hbel := fT hB49; have hE52 := hE47.step hw51 hG46.mem1; have hB53 := hw51.blk hB48 hA44.nmem1; have hB54 := hw51.blk hB49 hA45.nmem1; refine bQ rfl rfl bG hB53 rfl rfl ⟨rfl, rfl, rfl, rfl, rfl, rfl, rfl, rfl, rfl, trivial⟩ fun w55 hB56 hw57 => ?_; have hE58 := hE52.step hw57 hG5.mem1; have hB59 := hw57.blk hB54 hA11.symm.nmem1; have hB60 := hw57.blk hR.blk hA44.symm.nmem1
  have hF61 := hOT.evo hw57 (fun q hq h => by rw [List.mem_singleton.1 h] at hq; have h8 := hFx.ge _ hq; omega)
  refine aD (aA (aF (aF ?_))); refine fN (by kernel_rfl) (by kernel_rfl) ?_; refine aW rfl (fun _ hq63 => bM rfl) ?_; refine aW rfl (fun _ hq63 => aR rfl) ?_; refine aW rfl (fun _ hq63 => aE rfl bK) ?_; refine aW rfl (fun _ hq63 => aI rfl aU (aJ (hq63.blk0 hB60) rfl)) ?_; refine aW rfl (fun _ hq63 => bM rfl) ?_; refine aW rfl (fun _ hq63 => aR rfl) ?_; refine aW rfl (fun _ hq63 => aE rfl dO) ?_; refine aW rfl (fun _ hq63 => aI rfl cR (aJ (hq63.blk0 hB60) rfl)) ?_; refine aW rfl (fun _ hq63 => cX rfl Tryz.underlying9 rfl) ?_; refine aW rfl (fun _ hq63 => dF rfl rfl) ?_; refine fR (fun wq62 hq63 => aA ?_); have hE64 := hE58.then hq63; have hB65 := hq63.blk0 hB56; have hB66 := hq63.blk0 hB59; have hF68 := hF61.evo0 hq63; refine bJ rfl (fun hc28 => ?_) (fun hc28 => ?_)
  ·skip
   refine aC (cH (vs := [_]) dD rfl (eV 80) rfl ?_ ?_)
   ·skip
    intro pv wp hpp; obtain ⟨rfl, hpw⟩ := hpp; refine sH rfl Tryz.func35 (by kernel_rfl) rfl (by simp) ((xA (hpw.blk hB65 (by simp)) (hpw.blk hB66 (by simp)) hA11).mono ?_); rintro e9 u9 w9 ⟨⟨vv, rfl, hv9, hb9, hc9⟩, rfl⟩
    exact ⟨⟨vv, rfl⟩, rfl, _, _, ResOk.cellA rfl bS bG hb9 rfl, ResOk.cell1 rfl iZ hc9 rfl, ((hE64).then hpw).step hv9 (fun y hy => by rcases List.mem_cons.1 hy with rfl | hy; exact hG5.mem1 _ (by simp); exact hG12.mem1 _ hy), .inl ⟨_, pp_open hlen hU hx (by omega), rfl⟩⟩
   intro _ _ hF; exact hF.elim
  refine bA (aA (aF (aC (aB rfl (cA rfl bS bG hB65 rfl) (bQ rfl rfl bG hB65 rfl rfl ⟨rfl, rfl, rfl, rfl, rfl, rfl, rfl, rfl, rfl, trivial⟩ fun w71 hB72 hw73 => ?_))))); have hE74 := hE64.step hw73 hG5.mem1; have hB75 := hw73.blk hB66 hA11.symm.nmem1
  have hF77 := hF68.evo hw73 (fun q hq h => by rw [List.mem_singleton.1 h] at hq; have h8 := hFx.ge _ hq; omega)
  refine bN rfl rfl (rfl) gG hB75 rfl fun w78 hB79 hw80 => ?_; have hE81 := hE74.step hw80 hG12.mem1; have hB82 := hw80.blk hB72 hA11.nmem1
  have hF84 := hF77.evo hw80 (fun q hq h => by rw [List.mem_singleton.1 h] at hq; have h8 := hFx.ge _ hq; omega)
  refine aD (aA (aQ (?_))); refine sH rfl Tryz.func35 (by kernel_rfl) rfl (by simp) (recov_none.mono ?_); rintro e9 u9 w9 ⟨⟨vv, rfl, hv9⟩, rfl⟩; exact ⟨⟨vv, rfl⟩, rfl, _, _, ResOk.cellA rfl bS bG (hv9.blk0 hB82) rfl, ResOk.cell1 rfl iZ (hv9.blk0 hB79) rfl, (hE81).then hv9, .inr ⟨x, _, bs, pp_ok hlen hU hx (by omega), rfl, hF84.evo0 hv9, hFx.older hV9.size⟩⟩
end Go.Proofs.YtljadkcojnlioaaGreatDoor
namespace Go.Proofs.YtljadkcojnlioaaGreatDoor
open Go.Proofs
open Go.W Go.RowKit
attribute [local irreducible] Decidable.decide
end Go.Proofs.YtljadkcojnlioaaGreatDoor
namespace Go.Proofs.YtljadkcojnlioaaGreatDoor
open Go.W Go.RowKit
instance (c : Int) : Decidable (CX c) := by unfold CX; infer_instance
end Go.Proofs.YtljadkcojnlioaaGreatDoor
namespace Go.Proofs.YtljadkcojnlioaaGreatDoor
open Go.Proofs
open Go.W Go.RowKit
attribute [local irreducible] Decidable.decide
theorem HN : nG Tryz.prog 3 = some #[.int .i64 0] := by kernel_rfl
end Go.Proofs.YtljadkcojnlioaaGreatDoor
namespace Go.Proofs.YtljadkcojnlioaaGreatDoor
open Go.Proofs
open Go.W Go.RowKit
attribute [local irreducible] Decidable.decide
section
variable {P : Program} {σ : Env} {w : World} {dst : Option Nat} {T : TypeId} {pos : String} {after : Array Edge} {g : Option (Nat × Bool)}
end
end Go.Proofs.YtljadkcojnlioaaGreatDoor
namespace Go.Proofs.YtljadkcojnlioaaGreatDoor
open Go.Proofs
open Go.W Go.RowKit
attribute [local irreducible] Decidable.decide
theorem ext_app {s : ByteArray} {a b c : Nat} (h1 : a ≤ b) (h2 : b ≤ c) : s.extract a c = s.extract a b ++ s.extract b c := by
  rw [ByteArray.extract_append_extract]
  congr 1 <;> omega
def CmI (a b : ByteArray) (be : Nat) (w1 : World) (pre : List Nat) (W : World) : Prop :=
  ∃ e : Nat, W.heap[be]? = some (.cells #[.int .i64 (e : Nat)] 3 (0, 0)) ∧ Evo [be] w1 W ∧ ((∃ k, pre = List.range k) → e = eI a pre.length ∧ e ≤ b.size ∧ a.extract 0 e = b.extract 0 e)
theorem CmI.own (a b : ByteArray) (be : Nat) (w1 : World) : OwnFrom w1.heap.size (CmI a b be w1) := fun _ _ _ _ ⟨e, h1, h2, h3⟩ hg hr =>
  ⟨e, OY h1 hg (fun r e => (hr r e).2), OJ h2 hg (fun r e => (hr r e).1), h3⟩
def CmX (a b : ByteArray) (be : Nat) (w1 : World) (c : Code) (pre : List Nat) (W : World) : Prop := c = .exit 0 ∧ ∃ p x, pre = p ++ [x] ∧ (dA b (eI a x)).1 ≠ (dA a (eI a x)).1 ∧ CmI a b be w1 p W
theorem CmX.own (a b : ByteArray) (be : Nat) (w1 : World) (c : Code) : OwnFrom w1.heap.size (CmX a b be w1 c) := fun _ _ _ _ ⟨h1, p, x, h2, h4, h3⟩ hg hr => ⟨h1, p, x, h2, h4, CmI.own a b be w1 _ _ _ _ h3 hg hr⟩
end Go.Proofs.YtljadkcojnlioaaGreatDoor
namespace Go.Proofs.YtljadkcojnlioaaGreatDoor
open Go.Proofs Go.W Go.RowKit
theorem toList_inj {a b : ByteArray} (h : a.toList = b.toList) : a = b := by
  rw [Go.ByteArray.toList_eq, Go.ByteArray.toList_eq] at h
  cases a; cases b
  simpa [Array.toList_inj] using h
theorem DL {w : World} {e : TypeId} {a : Option Addr} {n c : Nat} {xs : List Value} {g : Nat} (h : OwnS w e 1 a n c xs (some g)) : a = some ⟨g, 0, none⟩ := by
  rcases h.2 with ⟨_, _, h3⟩ | ⟨g', _, _, hg, hv, _⟩
  · cases h3
  · cases hg; cases hv; rfl
section
variable {α : Type} [Inhabited α] (enc : α → Value)
end
end Go.Proofs.YtljadkcojnlioaaGreatDoor
namespace Go.Proofs.YtljadkcojnlioaaGreatDoor
open Go.W Go.RowKit
theorem hit_of {s : ByteArray} {a : Nat} (h : 0 < (dA s a).2) : 1 ≤ (dA s a).2 ∧ (dA s a).2 ≤ 4 ∧ a + (dA s a).2 ≤ s.size ∧ Hit s a (dA s a).2 := by
  by_cases ha : a < s.size
  · rcases gV s a ha with ⟨w, h1, h2, h3, hh, hd, h4, h5, -⟩ | ⟨h1, hd⟩
    · have hn := (mD h1 h2 h3 hh).1
      rw [hn]
      exact ⟨h1, h2, h3, hh⟩
    · unfold dA at h
      rw [if_neg (fun e => e.2 (by rw [hd]; exact ⟨rfl, rfl⟩))] at h
      cases h
  · rw [qL (by omega)] at h; cases h
theorem wX {s : ByteArray} {a b : Nat} (h : b ≤ s.size) : (s.extract a b).size = b - a := by
  rw [ByteArray.size_extract]; omega
theorem zN {s : ByteArray} {a b p w : Nat} (hb : b ≤ s.size) (hw : 1 ≤ w) (hw4 : w ≤ 4) (hp : a + p + w ≤ b) : fG (s.extract a b) p w = fG s (a + p) w := by
  have e : ∀ k, k < w → sb (s.extract a b) (p + k) = sb s (a + p + k) := fun k hk => by
    rw [fK hb (by omega), Nat.add_assoc]
  have e0 := e 0 (by omega)
  simp only [Nat.add_zero] at e0
  unfold fG
  by_cases h1 : w = 1
  · simp only [h1, if_true]; rw [e0]
  have e1 := e 1 (by omega)
  by_cases h2 : w = 2
  · simp only [h2, if_true]; rw [e0, e1]
  have e2 := e 2 (by omega)
  by_cases h3 : w = 3
  · simp only [h3, if_true]; rw [e0, e1, e2]
  have h4 : w = 4 := by omega
  have e3 := e 3 (by omega)
  simp only [h4]; rw [e0, e1, e2, e3]
theorem hit_sub {s : ByteArray} {a b p w : Nat} (hb : b ≤ s.size) (hw : 1 ≤ w) (hw4 : w ≤ 4) (hp : a + p + w ≤ b) (h : Hit s (a + p) w) : Hit (s.extract a b) p w := by
  have hbb : iB (s.extract a b) p w = iB s (a + p) w := by
    unfold iB
    apply List.map_congr_left
    intro k hk
    have hk2 : k < w := by simpa using hk
    rw [fK hb (by omega), Nat.add_assoc]
  unfold Hit
  rw [zN hb hw hw4 hp, hbb]
  exact h
theorem DQ {s : ByteArray} {a b p : Nat} (hb : b ≤ s.size) (h : 0 < (dA s (a + p)).2) (hp : a + p + (dA s (a + p)).2 ≤ b) : dA (s.extract a b) p = dA s (a + p) := by
  obtain ⟨h1, h2, h3, h4⟩ := hit_of h
  have h7 := (mD h1 h2 h3 h4).1
  have h5 := hit_sub hb h1 h2 hp h4
  have h6 := (mD h1 h2 (by rw [wX hb]; omega) h5).1
  rw [zN hb h1 h2 hp] at h6
  exact h6.trans h7.symm
theorem utf_sub {s : ByteArray} {N i j : Nat} (hU : Utf s N) (hij : i ≤ j) (hj : j ≤ N) : Utf (s.extract (eI s i) (eI s j)) (j - i) := by
  have hb := wM s j
  have ho : ∀ k, k ≤ j - i → eI s i + eI (s.extract (eI s i) (eI s j)) k = eI s (i + k) := by
    intro k
    induction k with
    | zero => intro _; rfl
    | succ k ih =>
      intro hk
      have h1 := ih (by omega)
      have h2 := hU.2 (i + k) (by omega)
      have h3 := lU s (show i + k + 1 ≤ j by omega)
      rw [eI] at h3
      have h4 := DQ (s := s) (a := eI s i) (p := eI (s.extract (eI s i) (eI s j)) k) hb (by rw [h1]; exact h2) (by rw [h1]; exact h3)
      rw [eI, h4, h1]
      rw [show i + (k + 1) = i + k + 1 from rfl, eI]
      omega
  refine ⟨?_, fun k hk => ?_⟩
  · have h1 := ho (j - i) (Nat.le_refl _)
    rw [show i + (j - i) = j by omega] at h1
    rw [wX hb]; omega
  · have h1 := ho k (by omega)
    have h2 := hU.2 (i + k) (by omega)
    have h3 := lU s (show i + k + 1 ≤ j by omega)
    rw [eI] at h3
    rw [DQ (s := s) hb (by rw [h1]; exact h2) (by rw [h1]; exact h3), h1]
    exact h2
def Fwd (N : Nat) (R : Nat → Nat → Prop) : Prop := ∀ i j, R i j → i ≤ N → i ≤ j ∧ j ≤ N
theorem xN {N : Nat} {R : Nat → Nat → Prop} (h : Fwd N R) : ∀ c, Fwd N (It R c)
  | 0, i, j, e, hi => by cases e; exact ⟨Nat.le_refl _, hi⟩
  | c + 1, i, j, ⟨k, h1, h2⟩, hi => by
    have h3 := h i k h1 hi
    have h4 := xN h c k j h2 h3.2
    omega
abbrev nob : ByteArray := ByteArray.mk #[]
def Hd (s : ByteArray) (N : Nat) (R : Nat → Nat → Prop) (t : ByteArray) (ex : Bool) : Prop :=
  ∀ i j, i ≤ N → R i j → eI s i + t.size ≤ eI s j ∧ s.extract (eI s i) (eI s i + t.size) = t ∧ (ex = true → eI s i + t.size = eI s j)
variable {s : ByteArray} {N : Nat} {R S : Nat → Nat → Prop} {t u : ByteArray} {ex fx : Bool}
theorem IY (s : ByteArray) (a : Nat) : s.extract a (a + nob.size) = nob := by
  have h : (s.extract a (a + nob.size)).size = 0 := by rw [ByteArray.size_extract]; show min (a + 0) _ - a = 0; omega
  exact ByteArray.size_eq_zero_iff.1 h
theorem Hd.eps (h : ∀ i j, R i j → i = j) : Hd s N R nob true := fun i j hi hr => by
  obtain rfl := h i j hr
  exact ⟨Nat.le_refl _, IY _ _, fun _ => rfl⟩
theorem Hd.none (h : Fwd N R) : Hd s N R nob false := fun i j hi hr => by
  have h1 := lU s (h i j hr hi).1
  exact ⟨by show eI s i + 0 ≤ _; omega, IY _ _, fun h => by cases h⟩
theorem Hd.congr (h : Hd s N R t ex) (e : ∀ i j, i ≤ N → S i j → R i j) : Hd s N S t ex := fun i j hi hr => h i j hi (e i j hi hr)
theorem Hd.seq (hf : Fwd N R) (h1 : Hd s N R t true) (h2 : Hd s N S u ex) : Hd s N (fun i j => ∃ k, R i k ∧ S k j) (t ++ u) ex := fun i j hi ⟨k, hr, hs⟩ => by
  have hk := hf i k hr hi
  have a := h1 i k hi hr
  have b := h2 k j hk.2 hs
  have hz : (t ++ u).size = t.size + u.size := ByteArray.size_append ..
  have e := a.2.2 rfl
  refine ⟨by omega, ?_, fun hx => by have := b.2.2 hx; omega⟩
  rw [ext_app (b := eI s i + t.size) (by omega) (by omega), a.2.1, hz, ← Nat.add_assoc, e, b.2.1]
theorem Hd.cut (hf : Fwd N R) (hg : Fwd N S) (h1 : Hd s N R t ex) : Hd s N (fun i j => ∃ k, R i k ∧ S k j) t false := fun i j hi ⟨k, hr, hs⟩ => by
  have hk := hf i k hr hi
  have a := h1 i k hi hr
  have b := lU s (hg k j hs hk.2).1
  exact ⟨by omega, a.2.1, fun h => by cases h⟩
theorem Hd.alt (hU : Utf s N) (hf : Fwd N R) (hg : Fwd N S) (h1 : Hd s N R t ex) (h2 : Hd s N S u fx) {e : Nat} (e1 : e ≤ t.size) (e2 : e ≤ u.size) (e3 : t.extract 0 e = u.extract 0 e) (e4 : t = u → (∃ M, Utf t M) → e = t.size) :
    Hd s N (fun i j => R i j ∨ S i j) (t.extract 0 e) (ex && fx && decide (t = u)) := by
  have hz : (t.extract 0 e).size = e := by rw [wX e1]; omega
  have key : ∀ {R : Nat → Nat → Prop} {t : ByteArray} {ex : Bool}, Fwd N R → Hd s N R t ex → e ≤ t.size → ∀ i j, i ≤ N → R i j → eI s i + e ≤ eI s j ∧ s.extract (eI s i) (eI s i + e) = t.extract 0 e ∧ (ex = true → (∃ M, Utf t M) ∧ eI s i + t.size = eI s j) := by
    intro R t ex hf h1 e1 i j hi hr
    have a := h1 i j hi hr
    refine ⟨by omega, ?_, fun hx => ⟨?_, a.2.2 hx⟩⟩
    · have h3 := congrArg (fun z : ByteArray => z.extract 0 e) a.2.1
      simp only [ByteArray.extract_extract] at h3
      rw [← h3]
      congr 1
      omega
    · have h3 := hf i j hr hi
      refine ⟨j - i, ?_⟩
      have h4 := utf_sub hU h3.1 h3.2
      rw [← a.2.2 hx, a.2.1] at h4
      exact h4
  intro i j hi hr
  rw [hz]
  rcases hr with hr | hr
  · obtain ⟨a, b, c⟩ := key hf h1 e1 i j hi hr
    refine ⟨a, b, fun hx => ?_⟩
    simp only [Bool.and_eq_true, decide_eq_true_eq] at hx
    have h3 := c hx.1.1
    rw [e4 hx.2 h3.1]; exact h3.2
  · obtain ⟨a, b, c⟩ := key hg h2 e2 i j hi hr
    refine ⟨a, by rw [b, e3], fun hx => ?_⟩
    simp only [Bool.and_eq_true, decide_eq_true_eq] at hx
    have h3 := c hx.1.2
    obtain ⟨⟨_, _⟩, rfl⟩ := hx
    rw [e4 rfl h3.1]; exact h3.2
def EV (t : ByteArray) (c : Nat) : ByteArray := ⟨(Lib.repeatL t.data.toList c).toArray⟩
theorem AA (t : ByteArray) : EV t 0 = nob := rfl
theorem AB (t : ByteArray) (c : Nat) : EV t (c + 1) = t ++ EV t c := by
  apply ByteArray.ext
  simp [EV, Lib.repeatL]
theorem LC (t : ByteArray) (c : Nat) : (EV t c).size = c * t.size := by
  induction c with
  | zero => rw [AA, Nat.zero_mul]; rfl
  | succ c ih => rw [AB, ByteArray.size_append, ih, Nat.succ_mul, Nat.add_comm]
theorem OU (c : Nat) : EV nob c = nob := by
  have h := LC nob c
  rw [show nob.size = 0 from rfl, Nat.mul_zero] at h
  exact ByteArray.size_eq_zero_iff.1 h
theorem Hd.it (hf : Fwd N R) (h : Hd s N R t true) : ∀ c, Hd s N (It R c) (EV t c) true
  | 0 => by rw [AA]; exact Hd.eps fun i j e => e
  | c + 1 => by
    rw [AB]
    exact (Hd.seq hf h (Hd.it hf h c)).congr fun i j _ h => h
def AL (mn mx : Int) (t : ByteArray) (ex : Bool) : ByteArray × Bool :=
  if mx = 0 then (nob, true) else if mn = 0 then (nob, ex && decide (t = nob)) else if ¬ ex = true ∨ t = nob then (t, ex) else (EV t mn.toNat, decide (mx = mn))
theorem Hd.rep (hf : Fwd N R) (h : Hd s N R t ex) {mn mx : Int} (h0 : 0 ≤ mn) (h1 : mx = -1 ∨ mn ≤ mx) :
    Hd s N (fun i j => ∃ c, mn.toNat ≤ c ∧ (mx = -1 ∨ c ≤ mx.toNat) ∧ It R c i j) (AL mn mx t ex).1 (AL mn mx t ex).2 := by
  have hall : Fwd N (fun i j => ∃ c, mn.toNat ≤ c ∧ (mx = -1 ∨ c ≤ mx.toNat) ∧ It R c i j) := fun i j ⟨c, _, _, hc⟩ hi => xN hf c i j hc hi
  have hnob : t = nob → ex = true → Hd s N (fun i j => ∃ c, mn.toNat ≤ c ∧ (mx = -1 ∨ c ≤ mx.toNat) ∧ It R c i j) nob true := fun e1 e2 i j hi ⟨c, _, _, hc⟩ => by
    subst e1 e2
    have := Hd.it hf h c i j hi hc
    rwa [OU] at this
  unfold AL
  by_cases c1 : mx = 0
  · rw [if_pos c1]
    refine Hd.eps fun i j ⟨c, _, h2, h3⟩ => ?_
    obtain rfl : c = 0 := by omega
    exact h3
  rw [if_neg c1]
  by_cases c2 : mn = 0
  · rw [if_pos c2]
    by_cases c3 : ex = true ∧ t = nob
    · rw [show (ex && decide (t = nob)) = true by simp [c3]]
      exact hnob c3.2 c3.1
    · rw [show (ex && decide (t = nob)) = false by simpa using c3]
      exact Hd.none hall
  rw [if_neg c2]
  by_cases c3 : ¬ ex = true ∨ t = nob
  · rw [if_pos c3]
    by_cases c4 : ex = true
    · have e := c3.resolve_left (fun h => h c4)
      show Hd s N _ t ex
      rw [c4, e]; exact hnob e c4
    · have e : ex = false := by simpa using c4
      show Hd s N _ t ex
      rw [e]
      intro i j hi ⟨c, h2, _, h3⟩
      obtain ⟨c, rfl⟩ : ∃ c', c = c' + 1 := ⟨c - 1, by omega⟩
      exact Hd.cut hf (xN hf c) h i j hi h3
  · rw [if_neg c3]
    have e : ex = true := by by_cases h : ex = true; exact h; exact (c3 (.inl h)).elim
    subst e
    intro i j hi ⟨c, h2, h3, h4⟩
    have hm := Hd.it hf h mn.toNat
    by_cases c5 : c = mn.toNat
    · subst c5
      have := hm i j hi h4
      exact ⟨this.1, this.2.1, fun _ => this.2.2 rfl⟩
    · obtain ⟨d, rfl⟩ : ∃ d, c = mn.toNat + d := ⟨c - mn.toNat, by omega⟩
      have h5 := Hd.cut (xN hf _) (xN hf d) hm i j hi (It.add.1 h4)
      exact ⟨h5.1, h5.2.1, fun hx => by simp only [decide_eq_true_eq] at hx; omega⟩
end Go.Proofs.YtljadkcojnlioaaGreatDoor
namespace Go.Proofs.YtljadkcojnlioaaGreatDoor
open Go.W Go.RowKit
theorem KQ {r : Int} (h : IsR r) : 1 ≤ (eY r).length := by
  rw [eY, if_pos h]; unfold iE; repeat' split
  all_goals simp
theorem KJ {s : ByteArray} {a : Nat} {r : Int} (hr : IsR r) (hs : a + (eY r).length ≤ s.size) (h : ∀ k (hk : k < (eY r).length), sb s (a + k) = (eY r)[k]) : dA s a = (r, (eY r).length) := by
  have hb : iB s a (eY r).length = eY r := by
    apply List.ext_getElem
    · simp [iB]
    · intro k h1 h2
      simp only [iB, List.getElem_map, List.getElem_range]
      exact h k h2
  have hg : fG s a (eY r).length = r := by
    obtain ⟨m, rfl⟩ := Int.eq_ofNat_of_zero_le hr.1
    have e : eY (m : Int) = iE m := by rw [eY, if_pos hr]; rfl
    rw [e] at h ⊢
    have hm : (m : Int) ≤ 1114111 := hr.2.1
    unfold iE at h ⊢
    by_cases c1 : m < 128
    · simp only [if_pos c1] at h ⊢
      have h0 := h 0 (by simp)
      simp at h0
      simp [fG, h0]
    by_cases c2 : m < 2048
    · simp only [if_neg c1, if_pos c2] at h ⊢
      have h0 := h 0 (by simp); have h1 := h 1 (by simp)
      simp at h0 h1
      simp [fG, h0, h1]; omega
    by_cases c3 : m < 65536
    · simp only [if_neg c1, if_neg c2, if_pos c3] at h ⊢
      have h0 := h 0 (by simp); have h1 := h 1 (by simp); have h2 := h 2 (by simp)
      simp at h0 h1 h2
      simp [fG, h0, h1, h2]; omega
    · simp only [if_neg c1, if_neg c2, if_neg c3] at h ⊢
      have h0 := h 0 (by simp); have h1 := h 1 (by simp); have h2 := h 2 (by simp); have h3 := h 3 (by simp)
      simp at h0 h1 h2 h3
      simp [fG, h0, h1, h2, h3]; omega
  have hh : Hit s a (eY r).length := by unfold Hit; rw [hg, hb]
  have := (mD (KQ hr) (rH r) hs hh).1
  rw [this, hg]
end Go.Proofs.YtljadkcojnlioaaGreatDoor
namespace Go.Proofs.YtljadkcojnlioaaGreatDoor
open Go.Proofs Go.W Go.RowKit
def At (s : ByteArray) : Nat → List Nat → Prop
  | _, [] => True
  | i, b :: l => isB s i b ∧ At s (i + 1) l
theorem At.app {s : ByteArray} : ∀ {a b : List Nat} {i : Nat}, At s i (a ++ b) ↔ At s i a ∧ At s (i + a.length) b
  | [], b, i => by simp [At]
  | x :: a, b, i => by
    show (isB s i x ∧ At s (i + 1) (a ++ b)) ↔ (isB s i x ∧ At s (i + 1) a) ∧ At s (i + (x :: a).length) b
    rw [At.app (a := a), List.length_cons, show i + (a.length + 1) = i + 1 + a.length by omega, and_assoc]
theorem At.get {s : ByteArray} : ∀ {l : List Nat} {i : Nat}, At s i l → ∀ {k : Nat} (hk : k < l.length), isB s (i + k) l[k]
  | x :: l, i, h, 0, hk => h.1
  | x :: l, i, h, k + 1, hk => by
    have := At.get h.2 (k := k) (by simpa using hk)
    rw [show i + (k + 1) = i + 1 + k by omega]
    exact this
theorem At.of {s : ByteArray} : ∀ {l : List Nat} {i : Nat}, (∀ k (hk : k < l.length), isB s (i + k) l[k]) → At s i l
  | [], i, h => trivial
  | x :: l, i, h => ⟨h 0 (by simp), At.of fun k hk => by
    have := h (k + 1) (by simpa using hk)
    rw [show i + (k + 1) = i + 1 + k by omega] at this
    exact this⟩
theorem At.le {s : ByteArray} {l : List Nat} {i : Nat} (h : At s i l) (hl : l ≠ []) : i + l.length ≤ s.size := by
  have h1 : 0 < l.length := List.length_pos_iff.2 hl
  have := (h.get (k := l.length - 1) (by omega)).1
  omega
theorem isB.ne {s : ByteArray} {i a b : Nat} (h : isB s i a) (hab : a ≠ b) : ¬ isB s i b := fun h2 => hab (h.2.symm.trans h2.2)
theorem AS {s : ByteArray} {i : Nat} (hi : i < s.size) (h : sb s i < 128) : dA s i = (((sb s i : Nat) : Int), 1) := by
  have hr : IsR (sb s i : Nat) := ⟨by omega, by omega, by omega⟩
  have hf : eY (sb s i : Nat) = [sb s i] := by
    unfold eY
    rw [if_pos hr]
    unfold iE
    rw [if_pos (by omega)]
    simp
  have := KJ (s := s) (a := i) hr (by rw [hf]; simp; omega) (fun k hk => by
    have hk0 : k = 0 := by rw [hf] at hk; simp at hk; exact hk
    subst hk0
    simp [hf])
  rw [this, hf]
  rfl
theorem xH {s : ByteArray} (h : ∀ k, k < s.size → sb s k < 128) : ∀ {k : Nat}, k ≤ s.size → eI s k = k
  | 0, _ => rfl
  | k + 1, hk => by
    have h1 := xH h (k := k) (by omega)
    show eI s k + (dA s (eI s k)).2 = k + 1
    rw [h1, AS (by omega) (h k (by omega))]
theorem HR {s : ByteArray} (h : ∀ k, k < s.size → sb s k < 128) : Utf s s.size := by
  refine ⟨xH h (Nat.le_refl _), fun k hk => ?_⟩
  rw [xH h (by omega), AS hk (h k hk)]
  exact Nat.one_pos
theorem LV {s : ByteArray} {i : Nat} (h : i < s.size) : sb (s.extract i s.size) 0 = sb s i := by
  have := hI (s := s) (i := i) (k := 0) (by omega)
  simpa using this
theorem MD {s : ByteArray} {i : Nat} (h : i < s.size) (h1 : sb s i ≠ 42) (h2 : sb s i ≠ 43) (h3 : sb s i ≠ 63) (h4 : sb s i ≠ 123) : mR (s.extract i s.size) = (0, 0, 0) := by
  have e := LV h
  exact ML (by rw [e]; exact h1) (by rw [e]; exact h2) (by rw [e]; exact h3) (by rw [e]; exact h4)
def JQ (c : Nat) : Prop := c < 128 ∧ c ≠ 36 ∧ c ≠ 40 ∧ c ≠ 41 ∧ c ≠ 42 ∧ c ≠ 43 ∧ c ≠ 46 ∧ c ≠ 63 ∧ c ≠ 91 ∧ c ≠ 92 ∧ c ≠ 94 ∧ c ≠ 123 ∧ c ≠ 124
instance (c : Nat) : Decidable (JQ c) := by unfold JQ; infer_instance
section
variable {s : ByteArray} {ex : PS → PX Rx} {f : Nat} {l g : List Rx} {ah : Bool} {st st2 : PS} {e : Int} {c : Nat}
theorem GP (h : isB s st.pos c) (hc : JQ c) : gU s ex st = .ok ([oI st.now c], iG st (st.pos + 1)) := by
  obtain ⟨h1, h2⟩ := h
  obtain ⟨c1, c2, c3, c4, c5, c6, c7, c8, c9, c10, c11, c12, c13⟩ := hc
  have hn := AS h1 (by omega)
  rw [h2] at hn
  rw [pc_pl (by omega) (by omega) (by omega), MO (by rw [hn]; show ¬ ((c : Nat) : Int) = 46; omega) (by rw [hn]; show ¬ ((c : Nat) : Int) = 94; omega) (by rw [hn]; show ¬ ((c : Nat) : Int) = 36; omega), hn]
theorem AF (h : isB s st.pos c) (hc : c ≠ 41 ∧ c ≠ 42 ∧ c ≠ 43 ∧ c ≠ 63 ∧ c ≠ 123 ∧ c ≠ 124) (hp : gU s ex st = .ok (g, st2)) : jZ s ex (f + 1) l ah st = jZ s ex f (l ++ g) (decide (0 < g.length)) st2 := by
  obtain ⟨h1, h2⟩ := h
  exact PD (lo := 0) (hi := 0) (by omega) (MD h1 (by omega) (by omega) (by omega) (by omega)) hp
theorem HM (h : isB s st.pos c) (hc : c ≠ 41 ∧ c ≠ 42 ∧ c ≠ 43 ∧ c ≠ 63 ∧ c ≠ 123 ∧ c ≠ 124) (hp : gU s ex st = .error e) : jZ s ex (f + 1) l ah st = .error e := by
  obtain ⟨h1, h2⟩ := h
  exact JN (lo := 0) (hi := 0) (by omega) (MD h1 (by omega) (by omega) (by omega) (by omega)) hp
theorem PE (h : isB s st.pos c) (hc : JQ c) : jZ s ex (f + 1) l ah st = jZ s ex f (l ++ [oI st.now c]) true (iG st (st.pos + 1)) := by
  have hc' := hc
  obtain ⟨c1, c2, c3, c4, c5, c6, c7, c8, c9, c10, c11, c12, c13⟩ := hc
  rw [AF h ⟨by omega, by omega, by omega, by omega, by omega, by omega⟩ (GP h hc')]
  rfl
theorem br_open (h : isB s st.pos 40) : gU s ex st = sF s ex st := MQ h.2
theorem pExp_ex (s : ByteArray) : ∀ n, ∃ ex, ∀ st, oR s n st = nR s ex st
  | 0 => ⟨_, fun st => rfl⟩
  | n + 1 => ⟨oR s n, fun st => rfl⟩
theorem OF {x : Rx} (h : jZ s ex (s.size + 1) [] false st = .ok (x, st2)) (h2 : ¬ isB s st2.pos 124) : nR s ex st = .ok (x, st2) := by
  rw [HB (show rV s ex st = _ from h), yF h2]
  rfl
theorem OG (h : jZ s ex (s.size + 1) [] false st = .error e) : nR s ex st = .error e := IZ (show rV s ex st = _ from h)
end
end Go.Proofs.YtljadkcojnlioaaGreatDoor
namespace Go.Proofs.YtljadkcojnlioaaGreatDoor
open Go.Proofs
open Go.W Go.RowKit
attribute [local irreducible] Decidable.decide
theorem vV : eM Tryz.prog 48 := ⟨_, Tryz.func48, by kernel_rfl, by kernel_rfl⟩
theorem lB : eM Tryz.prog 50 := ⟨_, Tryz.func50, by kernel_rfl, by kernel_rfl⟩
theorem FO : eM Tryz.prog 72 := ⟨_, Tryz.func72, by kernel_rfl, by kernel_rfl⟩
theorem FN : eM Tryz.prog 73 := ⟨_, Tryz.func73, by kernel_rfl, by kernel_rfl⟩
theorem nX : eM Tryz.prog 74 := ⟨_, Tryz.func74, by kernel_rfl, by kernel_rfl⟩
theorem FM : eM Tryz.prog 75 := ⟨_, Tryz.func75, by kernel_rfl, by kernel_rfl⟩
structure WcG where
  k : Nat
  o : Option Nat
structure WcI (w0 w wr : World) (b : Nat) (L : List Nat) (ob o : Option Nat) : Prop where
  bd : BdN wr b L o
  e0 : Evo [] w0 wr
  nb : o = ob ∨ ∃ g, o = some g ∧ w.heap.size ≤ g
  hu : Ge w0 o
theorem yM {w0 w : World} {b : Nat} {l : List Nat} {ob : Option Nat} {v : Value} {rs : List (Int × Int)} (hG : Gw w0) (hE0 : Evo [] w0 w) (hub : w0.heap.size ≤ b) (huo : Ge w0 ob) (h : BdN w b l ob) (hr : RSl 2 RRg [] w0 v rs) (hrg : RgB rs) (hl : l.length + 26 * rs.length ≤ 80000000) :
    Calls Tryz.prog 73 #[.pointer (some ⟨b, 0, none⟩), v] w (Ret fun v w' => Wr w b (l ++ tF rs) ob w') := by
  obtain ⟨ka, kc, rfl, hkc, e1⟩ := hr; refine bL (N := 37) Tryz.func73 rfl rfl rfl ?_; refine aF (aF (aC (aH (aB rfl (bO rfl Tryz.underlying24 rfl) ?_)))); refine aB rfl (bC rfl rfl) ?_; refine aD (aA (bJ rfl (fun hc8 => ?_) (fun hc8 => ?_)))
  ·skip
   refine aF (aC (aH ?_))
   refine aN (vs := [_, _]) cJ rfl (dI h (m := HI) (by decide +kernel) (cC (by decide +kernel)) (by first | omega | simp only [List.length_append, List.length_cons, List.length_nil]; omega) (by decide)) rfl ?_
   rintro _ w1 ⟨obw1, hBDw1, hw2, hnb1⟩; have hV9 := (Evo.refl (b :: ob.toList) w); have hV90 := hE0; have hN1 := cT (Or.inl rfl) hnb1 hV9.size; have hU1 := dK huo hV90.size hnb1; have hE3 := (Evo.refl (b :: ob.toList) w).step hw2 (dL (Or.inl rfl)); refine aD (aA (aQ (aO (uS rfl ?_)))); exact eS hBDw1 (by rw [tF, if_pos (List.length_eq_zero_iff.1 (by omega))]) hE3 hN1
  refine bA (aA (aF (aC (aH ?_))))
  refine aN (vs := [_, _]) cJ rfl (dI h (m := [91]) (by decide +kernel) (cC (by decide +kernel)) (by first | omega | simp only [List.length_append, List.length_cons, List.length_nil]; omega) (by decide)) rfl ?_
  rintro _ w5 ⟨obw1, hBDw1, hw6, hnb1⟩; have hV9 := (Evo.refl (b :: ob.toList) w); have hV90 := hE0; have hN1 := cT (Or.inl rfl) hnb1 hV9.size; have hU1 := dK huo hV90.size hnb1; have hE7 := (Evo.refl (b :: ob.toList) w).step hw6 (dL (Or.inl rfl)); have hE8 := hE0.step hw6 (iD hub huo); refine aD (aA (aF (aF (aC (aH (aB rfl (bO rfl Tryz.underlying24 rfl) ?_)))))); refine aH (aD (aA (bX ?_))); refine eT (α := WcG) (⟨0, obw1⟩) (fun x => [(15, .int .i64 (x.k : Nat))]) [(0, _), (13, _), (14, _)] (fun x wr => Evo (b :: ob.toList) w wr ∧ (x.k ≤ rs.length ∧ WcI w0 w wr b (l ++ ([91] ++ (rs.take x.k).flatMap oN)) ob x.o)) (fun x => rs.length - x.k) ⟨rfl, trivial⟩ ⟨rfl, rfl, rfl, trivial⟩ ⟨hE7, ⟨Nat.zero_le _, by simpa using hBDw1, hE8, hN1, hU1⟩⟩ ?_; rintro ⟨k, o1⟩ wr9 ⟨hV10, ⟨hk, hBDl, hE0l, hNl, hUl⟩⟩; show CW _ _ _ _ [(15, .int .i64 (k : Nat)), (0, _), (13, _), (14, _)] _
  try dsimp only at hk
  try dsimp only at hBDl
  try dsimp only at hE0l
  try dsimp only at hNl
  try dsimp only at hUl
  refine aF (aC (aB rfl (dF rfl rfl) ?_)); refine aD (aA (aF (bJ rfl (fun hc16 => ?_) (fun hc16 => ?_))))
  ·skip
   have hk' : k < rs.length := by omega
   obtain ⟨b1, o1', vs1, ha1, hb1, hvl1, hc1, hrk⟩ := e1 k hk'; obtain rfl := hrk; obtain ⟨hr0, hr1, hr2⟩ := hrg _ (List.getElem_mem hk'); have hfl := pF (l := rs.take k) (fun g hg => hrg g (List.mem_of_mem_take hg)); rw [List.length_take] at hfl; have hb26 := (tD hr0 (show rs[k].1 ≤ 1114111 by omega)).1; refine bA (aA (aF (bX (aF (aC ?_)))))
   refine aB rfl (dP (n := k) (by rw [ha1]; rfl) rfl dW (by omega)) ?_
   refine aB rfl (eQ rfl kT gY (vs := [_, _]) rfl (hc1.evo hE0l (by simp))) ?_; refine dN rfl mI fun b5 w11 hB12 hs13 hw14 => ?_; have hsz_b5 := hs13; have hG15 := Ge.new hV10 hs13; have hG16 := Ge.new hE0l hs13; have hE17 := hV10.then hw14; have hE18 := hE0l.then hw14; have hF19 := hBDl.evo0 hw14
   have hAJ_b5 : Apart (some b5) (some b) := (Apart.new (fun g hg => by cases hg; exact hBDl.lt) hsz_b5).symm
   have hAO_b5 : Apart (some b5) o1 := (Apart.new hBDl.ltO hsz_b5).symm; refine bQ rfl rfl gY hB12 rfl rfl ⟨rfl, rfl, trivial⟩ fun w20 hB21 hw22 => ?_; have hE23 := hE17.step hw22 hG15.mem1; have hE24 := hE18.step hw22 hG16.mem1; have hF25 := hF19.evo hw22 (hAJ_b5).symm.nmem1 (hAO_b5).symm.own1; refine aD (aA (aF (aC (aH (aB rfl (aE rfl fF) (aB rfl (aI rfl cD (aJ hB21 rfl)) ?_))))))
   refine aN (vs := [_, _]) uA rfl (uY hG hE24 hub hUl hF25 (by simp only [List.length_append, List.length_cons, List.length_nil]; omega) hr0 (by omega)) rfl ?_
   rintro _ w26 ⟨obw2, hBDw2, hw27, hnb2⟩; have hV9 := hE23; have hV90 := hE24; have hN2 := cT hNl hnb2 hV9.size; have hU2 := dK hUl hV90.size hnb2; have hAO2_b5 := eG hAO_b5 (Lt.blk hB21) hnb2; have hE28 := hE23.step hw27 (dL hNl); have hE29 := hE24.step hw27 (iD hub hUl); have hB30 := hw27.blk hB21 (mP hAJ_b5 hAO_b5); refine aD (aA (aF (aC (aB rfl (aE rfl eA) (aB rfl (aI rfl cD (aJ hB30 rfl)) (aB rfl (aE rfl fF) (aB rfl (aI rfl cD (aJ hB30 rfl)) (aB rfl (eZ rfl rfl) ?_)))))))); refine aD (aA (bJ rfl (fun hc27 => ?_) (fun hc27 => ?_)))
   ·skip
    refine aF (aC (aH ?_))
    refine aN (vs := [_, _]) cJ rfl (dI hBDw2 (m := [45]) (by decide +kernel) (cC (by decide +kernel)) (by first | omega | simp only [List.length_append, List.length_cons, List.length_nil]; omega) (by decide)) rfl ?_
    rintro _ w31 ⟨obw3, hBDw3, hw32, hnb3⟩; have hV9 := hE28; have hV90 := hE29; have hN3 := cT hN2 hnb3 hV9.size; have hU3 := dK hU2 hV90.size hnb3; have hE33 := hE28.step hw32 (dL hN2); have hE34 := hE29.step hw32 (iD hub hU2); have hB35 := hw32.blk hB30 (mP hAJ_b5 hAO2_b5); refine aD (aA (aC (aH (aB rfl (aE rfl eA) (aB rfl (aI rfl cD (aJ hB35 rfl)) ?_)))))
    refine aN (vs := [_, _]) uA rfl (uY hG hE34 hub hU3 hBDw3 (by simp only [List.length_append, List.length_cons, List.length_nil]; omega) (by omega) hr2) rfl ?_
    rintro _ w36 ⟨obw4, hBDw4, hw37, hnb4⟩; have hV9 := hE33; have hV90 := hE34; have hN4 := cT hN3 hnb4 hV9.size; have hU4 := dK hU3 hV90.size hnb4; have hE38 := hE33.step hw37 (dL hN3); have hE39 := hE34.step hw37 (iD hub hU3); refine aD (aY (aA (aC ?_))); refine aB rfl (bF rfl rfl (by omega) (by omega)) ?_; refine aH (aD (bI ?_)); refine ⟨⟨k + 1, obw4⟩, ?_, ⟨rfl, trivial⟩, ⟨rfl, rfl, rfl, trivial⟩, hE38, ?_⟩
    · (try dsimp only); omega
    try dsimp only
    refine ⟨by omega, ?_, hE39, hN4, hU4⟩; have hfin := hBDw4
    rw [sT hk', oN, if_pos hc27]; simpa [List.append_assoc] using hfin
   refine bA (aY (aA (aC ?_))); refine aB rfl (bF rfl rfl (by omega) (by omega)) ?_; refine aH (aD (bI ?_)); refine ⟨⟨k + 1, obw2⟩, ?_, ⟨rfl, trivial⟩, ⟨rfl, rfl, rfl, trivial⟩, hE28, ?_⟩
   · (try dsimp only); omega
   try dsimp only
   refine ⟨by omega, ?_, hE29, hN2, hU2⟩; have hfin := hBDw2
   rw [sT hk', oN, if_neg hc27]; simpa [List.append_assoc] using hfin
  have hfl := pF (l := rs.take k) (fun g hg => hrg g (List.mem_of_mem_take hg)); rw [List.length_take] at hfl; refine dT (cK (cK (dS (aA ?_)))); refine aC (aH ?_)
  refine aN (vs := [_, _]) cJ rfl (dI hBDl (m := [93]) (by decide +kernel) (cC (by decide +kernel)) (by first | omega | simp only [List.length_append, List.length_cons, List.length_nil]; omega) (by decide)) rfl ?_
  rintro _ w41 ⟨obw2, hBDw2, hw42, hnb2⟩; have hV9 := hV10; have hV90 := hE0l; have hN2 := cT hNl hnb2 hV9.size; have hU2 := dK hUl hV90.size hnb2; have hE43 := hV10.step hw42 (dL hNl); refine aD (cP rfl ?_)
  exact eS hBDw2 (by rw [tF, if_neg (fun h9 => hc8 (by rw [h9]; rfl))]; obtain rfl : k = rs.length := (by omega); rw [List.take_length]; simp) hE43 hN2
theorem brW_len (p : Prop) [Decidable p] (l : List Nat) : (brW p l).length ≤ l.length + 4 := by unfold brW; split <;> simp
theorem PA (k : Int) (f : Bool) : (tI k f).length ≤ 1 := by unfold tI; split <;> simp
theorem sR {lo hi : Int} (h0 : 0 ≤ lo) (h1 : lo ≤ 1000) (h2 : hi = -1 ∨ (lo ≤ hi ∧ hi ≤ 1000)) : (gZ lo hi).length ≤ 12 := by
  have h3 := rM lo.toNat (by omega)
  unfold gZ
  split
  · simp
  · split
    · simp
    · split
      · simp
      · split
        · simp; omega
        · have h4 := rM hi.toNat (by omega)
          split
          · simp; omega
          · simp; omega
mutual
theorem DA : ∀ (x : Rx), Good x → x.w.length + 5 ≤ x.ms
  | .mk k r rs mn mx lz cp nm ks, hg => by
    have hn := (bE _).1 hg.node
    have h1 := jF ks k true (fun y hy => hg.kid y hy)
    rw [Rx.w, Rx.ms, List.length_append, List.length_append]
    have h2 : (mL k r rs nm).length ≤ 20 + nm.size + 26 * rs.length := by
      unfold mL
      split
      · have := (wN (hn.lit1 (by assumption)) (hn.lit2 (by assumption))).1
        simp only [Rx.r] at this; omega
      · split
        · have := pF (RangesOk.b (hn.cls (by assumption)))
          simp only [Rx.ranges] at this
          unfold tF
          split
          · show 19 ≤ _; omega
          · rw [List.length_append, List.length_append]; simp only [List.length_cons, List.length_nil]; omega
        · split
          · split
            · simp; omega
            · simp [sY]; omega
          · split
            · simp; omega
            · split
              · simp; omega
              · split
                · simp; omega
                · split
                  · simp; omega
                  · split
                    · simp; omega
                    · split
                      · simp; omega
                      · simp
    have h3 : (yN k mn mx lz).length ≤ 13 := by
      unfold yN
      split
      · have := sR (hn.rep1 (by assumption)) (hn.rep2 (by assumption)) (hn.rep3 (by assumption))
        simp only [Rx.min, Rx.max] at this
        rw [List.length_append]
        split <;> simp <;> omega
      · split <;> simp
    omega
theorem jF : ∀ (l : List Rx) (k : Int) (f : Bool), (∀ x, x ∈ l → Good x) → (fU k f l).length ≤ kms l
  | [], k, f, _ => by rw [fU, kms]; simp
  | x :: xs, k, f, h => by
    rw [fU, kms, List.length_append, List.length_append]
    have h1 := DA x (h x (List.mem_cons_self ..))
    have h2 := jF xs k false (fun y hy => h y (List.mem_cons_of_mem _ hy))
    have h3 := brW_len (Brk x.kind k) x.w
    have h4 := PA k f
    omega
end
theorem pD {t : Rx} (hg : Good t) (h : ¬ (t.kind = 4 ∨ t.kind = 5 ∨ t.kind = 6 ∨ t.kind = 7)) : t.w = mL t.kind t.r t.ranges t.name := by
  rw [Rx.w_eq, hg.node.leaf h, fU, yN, if_neg (by omega), if_neg (by omega)]; simp
theorem LL {t : Rx} (h : t.kind = 4 ∨ t.kind = 5) : t.w = fU t.kind true t.kids := by
  rw [Rx.w_eq, yN, if_neg (by omega), if_neg (by omega)]
  rcases h with h | h <;> rw [h] <;> simp [mL]
theorem w_rep {t : Rx} (h : t.kind = 6) : t.w = fU t.kind true t.kids ++ gZ t.min t.max ++ (if t.lazy = true then [63] else []) := by
  rw [Rx.w_eq, yN, if_pos h, h]; simp [mL]
theorem w_grp {t : Rx} (h : t.kind = 7) : t.w = [40] ++ (if t.name = ByteArray.mk #[] then [] else [63, 80, 60] ++ nmL t.name ++ [62]) ++ fU t.kind true t.kids ++ [41] := by
  rw [Rx.w_eq, h, yN, if_neg (by decide), if_pos rfl]; rfl
def WOK (n : Nat) : Prop := ∀ {w0 w : World} {b : Nat} {l : List Nat} {ob : Option Nat} {vs : List Value} {t : Rx} (hG : Gw w0) (hE0 : Evo [] w0 w) (hub : w0.heap.size ≤ b) (huo : Ge w0 ob) (h : BdN w b l ob) (hx : RRx n [] w0 vs t) (hg : Good t) (hl : l.length + t.ms ≤ 70000000),
    Calls Tryz.prog 50 #[.pointer (some ⟨b, 0, none⟩), .agg vs.toArray] w (Ret fun v w' => Wr w b (l ++ t.w) ob w')
theorem lZ {n : Nat} (ih : WOK n) {w0 w : World} {b : Nat} {l : List Nat} {ob : Option Nat} {vs : List Value} {t : Rx} {k : Int} (hG : Gw w0) (hE0 : Evo [] w0 w) (hub : w0.heap.size ≤ b) (huo : Ge w0 ob) (h : BdN w b l ob) (hx : RRx n [] w0 vs t) (hg : Good t) (hl : l.length + t.ms + 3 ≤ 70000000) :
    Calls Tryz.prog 74 #[.pointer (some ⟨b, 0, none⟩), .agg vs.toArray, .int .i64 k] w (Ret fun v w' => Wr w b (l ++ brW (Brk t.kind k) t.w) ob w') := by
  have hx0 := hx; obtain ⟨m, ra, rc, ka, kc, hm, rfl, hrg, hk, bl1, bl2, bl3⟩ := hx.get; have hwl := DA t hg; refine bL (N := 21) Tryz.func74 rfl rfl rfl ?_; refine aF (aC (gT rfl rfl fun b4 w1 hB2 hs3 hw4 => ?_)); have hsz_b4 := hs3; have hE7 := (Evo.refl (b :: ob.toList) w).then hw4; have hE8 := hE0.then hw4; have hF9 := h.evo0 hw4
  have hAJ_b4 : Apart (some b4) (some b) := (Apart.new (fun g hg => by cases hg; exact h.lt) hsz_b4).symm
  have hAO_b4 : Apart (some b4) ob := (Apart.new h.ltO hsz_b4).symm; refine aD (aA (aF (aF (aC (aB rfl (aE rfl dG) (aB rfl (aI rfl aU (aJ hB2 rfl)) (aH (aN (vs := [_, _]) vO rfl (tH t.kind k) rfl ?_)))))))); rintro _ w10 ⟨rfl, hw11⟩; have hE12 := hE7.then hw11; have hE13 := hE8.then hw11; have hF14 := hF9.evo0 hw11; have hB15 := hw11.blk0 hB2; refine aB rfl (eO rfl) ?_; refine aD (aA (fB rfl (fun hc10 => ?_) (fun hc10 => ?_)))
  ·skip
   refine aF (aC (aH (aB rfl (cA rfl bS bG hB15 rfl) ?_))); refine aN (vs := [_, _]) lB rfl (ih hG hE13 hub huo hF14 hx0 hg (by omega)) rfl ?_; rintro _ w16 ⟨obw1, hBDw1, hw17, hnb1⟩; have hV9 := hE12; have hV90 := hE13; have hN1 := cT (Or.inl rfl) hnb1 hV9.size; have hU1 := dK huo hV90.size hnb1; have hAO1_b4 := eG hAO_b4 (Lt.blk hB15) hnb1; have hE18 := hE12.step hw17 (dL (Or.inl rfl)); refine aD (aA (aQ (aO (uS rfl ?_)))); exact eS hBDw1 (by rw [brW, if_neg (by simpa using hc10)]) hE18 hN1
  refine bA (aA (aF (aC (aH ?_))))
  refine aN (vs := [_, _]) cJ rfl (dI hF14 (m := [40, 63, 58]) (by decide +kernel) (cC (by decide +kernel)) (by first | omega | simp only [List.length_append, List.length_cons, List.length_nil]; omega) (by decide)) rfl ?_
  rintro _ w21 ⟨obw1, hBDw1, hw22, hnb1⟩; have hV9 := hE12; have hV90 := hE13; have hN1 := cT (Or.inl rfl) hnb1 hV9.size; have hU1 := dK huo hV90.size hnb1; have hAO1_b4 := eG hAO_b4 (Lt.blk hB15) hnb1; have hE23 := hE12.step hw22 (dL (Or.inl rfl)); have hE24 := hE13.step hw22 (iD hub huo); have hB25 := hw22.blk hB15 (mP hAJ_b4 hAO_b4); refine aD (aA (aF (aC (aH (aB rfl (cA rfl bS bG hB25 rfl) ?_)))))
  refine aN (vs := [_, _]) lB rfl (ih hG hE24 hub hU1 hBDw1 hx0 hg (by simp only [List.length_append, List.length_cons, List.length_nil]; omega)) rfl ?_
  rintro _ w26 ⟨obw2, hBDw2, hw27, hnb2⟩; have hV9 := hE23; have hV90 := hE24; have hN2 := cT hN1 hnb2 hV9.size; have hE28 := hE23.step hw27 (dL hN1); have hE29 := hE24.step hw27 (iD hub hU1); refine aD (aA (aC (aH ?_)))
  refine aN (vs := [_, _]) cJ rfl (dI hBDw2 (m := [41]) (by decide +kernel) (cC (by decide +kernel)) (by first | omega | simp only [List.length_append, List.length_cons, List.length_nil]; omega) (by decide)) rfl ?_
  rintro _ w31 ⟨obw3, hBDw3, hw32, hnb3⟩; have hV9 := hE28; have hV90 := hE29; have hN3 := cT hN2 hnb3 hV9.size; have hE33 := hE28.step hw32 (dL hN2); refine aD (cP rfl ?_)
  exact eS hBDw3 (by rw [brW, if_pos (by simpa using hc10)]; simp) hE33 hN3
structure WkI (w0 w wr : World) (b b3 : Nat) (C : Array Value) (L : List Nat) (ob o : Option Nat) : Prop where
  bd : BdN wr b L o
  e0 : Evo [] w0 wr
  nb : o = ob ∨ ∃ g, o = some g ∧ w.heap.size ≤ g
  hu : Ge w0 o
  h3 : wr.heap[b3]? = some (.cells C 27 (0, 0))
  ao : Apart (some b3) o
set_option maxHeartbeats 8000000 in
theorem GB {n : Nat} (ih : WOK n) {w0 w : World} {b : Nat} {l : List Nat} {ob : Option Nat} {vs : List Value} {t : Rx} (hG : Gw w0) (hE0 : Evo [] w0 w) (hub : w0.heap.size ≤ b) (huo : Ge w0 ob) (h : BdN w b l ob) (hx : RRx (n + 1) [] w0 vs t) (hg : Good t) (hl : l.length + t.ms ≤ 70000000) :
    Calls Tryz.prog 50 #[.pointer (some ⟨b, 0, none⟩), .agg vs.toArray] w (Ret fun v w' => Wr w b (l ++ t.w) ob w') := by
  have hx0 := hx; obtain ⟨m, ra, rc, ka, kc, hm, rfl, hrg, hk, bl1, bl2, bl3⟩ := hx.get
  obtain rfl : m = n := by omega
  have hwl := DA t hg; have hn := (bE t).1 hg.node; have hms := Rx.ms_eq t; have hk' := hk; obtain ⟨_, _, hke, hkc, e1⟩ := hk'; cases hke; refine bL (N := 122) Tryz.func50 rfl rfl rfl ?_; refine aF (aC (gT rfl rfl fun b3 w1 hB2 hs3 hw4 => ?_)); have hsz_b3 := hs3; have hE7 := (Evo.refl (b :: ob.toList) w).then hw4; have hE8 := hE0.then hw4; have hF9 := h.evo0 hw4
  have hAJ_b3 : Apart (some b3) (some b) := (Apart.new (fun g hg => by cases hg; exact h.lt) hsz_b3).symm
  have hAO_b3 : Apart (some b3) ob := (Apart.new h.ltO hsz_b3).symm; refine aD (aA (aF (aC (aB rfl (aE rfl dG) (aB rfl (aI rfl aU (aJ hB2 rfl)) (aD (aA (bX (aF (aC (aB rfl (bC rfl rfl) ?_))))))))))); refine aM (aD (aA (bJ rfl (fun hc10 => ?_) (fun hc10 => ?_))))
  ·skip
   refine aC (aH ?_)
   refine aN (vs := [_, _]) cJ rfl (dI hF9 (m := [92, 65]) (by decide +kernel) (cC (by decide +kernel)) (by first | omega | simp only [List.length_append, List.length_cons, List.length_nil]; omega) (by decide)) rfl ?_
   rintro _ w10 ⟨obw1, hBDw1, hw11, hnb1⟩; have hV9 := hE7; have hV90 := hE8; have hN1 := cT (Or.inl rfl) hnb1 hV9.size; have hU1 := dK huo hV90.size hnb1; have hAO1_b3 := eG hAO_b3 (Lt.blk hB2) hnb1; have hE12 := hE7.step hw11 (dL (Or.inl rfl)); refine aD (aY (cP rfl ?_))
   exact eS hBDw1 (by rw [pD hg (by omega), show t.kind = 8 by omega]; rfl) hE12 hN1
  refine aF (aC (aB rfl (bC rfl rfl) ?_)); refine aM (aD (aA (bJ rfl (fun hc14 => ?_) (fun hc14 => ?_))))
  ·skip
   refine aC (aH ?_)
   refine aN (vs := [_, _]) cJ rfl (dI hF9 (m := [92, 122]) (by decide +kernel) (cC (by decide +kernel)) (by first | omega | simp only [List.length_append, List.length_cons, List.length_nil]; omega) (by decide)) rfl ?_
   rintro _ w15 ⟨obw1, hBDw1, hw16, hnb1⟩; have hV9 := hE7; have hV90 := hE8; have hN1 := cT (Or.inl rfl) hnb1 hV9.size; have hU1 := dK huo hV90.size hnb1; have hAO1_b3 := eG hAO_b3 (Lt.blk hB2) hnb1; have hE17 := hE7.step hw16 (dL (Or.inl rfl)); refine aD (aY (cP rfl ?_))
   exact eS hBDw1 (by rw [pD hg (by omega), show t.kind = 9 by omega]; rfl) hE17 hN1
  refine aF (aC (aB rfl (bC rfl rfl) ?_)); refine aM (aD (aA (bJ rfl (fun hc18 => ?_) (fun hc18 => ?_))))
  ·skip
   refine aC (aH ?_)
   refine aN (vs := [_, _]) cJ rfl (dI hF9 (m := [94]) (by decide +kernel) (cC (by decide +kernel)) (by first | omega | simp only [List.length_append, List.length_cons, List.length_nil]; omega) (by decide)) rfl ?_
   rintro _ w20 ⟨obw1, hBDw1, hw21, hnb1⟩; have hV9 := hE7; have hV90 := hE8; have hN1 := cT (Or.inl rfl) hnb1 hV9.size; have hU1 := dK huo hV90.size hnb1; have hAO1_b3 := eG hAO_b3 (Lt.blk hB2) hnb1; have hE22 := hE7.step hw21 (dL (Or.inl rfl)); refine aD (aY (cP rfl ?_))
   exact eS hBDw1 (by rw [pD hg (by omega), show t.kind = 10 by omega]; rfl) hE22 hN1
  refine aF (aC (aB rfl (bC rfl rfl) ?_)); refine aM (aD (aA (bJ rfl (fun hc22 => ?_) (fun hc22 => ?_))))
  ·skip
   refine aC (aH ?_)
   refine aN (vs := [_, _]) cJ rfl (dI hF9 (m := [36]) (by decide +kernel) (cC (by decide +kernel)) (by first | omega | simp only [List.length_append, List.length_cons, List.length_nil]; omega) (by decide)) rfl ?_
   rintro _ w25 ⟨obw1, hBDw1, hw26, hnb1⟩; have hV9 := hE7; have hV90 := hE8; have hN1 := cT (Or.inl rfl) hnb1 hV9.size; have hU1 := dK huo hV90.size hnb1; have hAO1_b3 := eG hAO_b3 (Lt.blk hB2) hnb1; have hE27 := hE7.step hw26 (dL (Or.inl rfl)); refine aD (aY (cP rfl ?_))
   exact eS hBDw1 (by rw [pD hg (by omega), show t.kind = 11 by omega]; rfl) hE27 hN1
  refine aF (aC (aB rfl (bC rfl rfl) ?_)); refine aM (aD (aA (bJ rfl (fun hc26 => ?_) (fun hc26 => ?_))))
  ·skip
   refine aC (aH ?_)
   refine aN (vs := [_, _]) cJ rfl (dI hF9 (m := [92, 98]) (by decide +kernel) (cC (by decide +kernel)) (by first | omega | simp only [List.length_append, List.length_cons, List.length_nil]; omega) (by decide)) rfl ?_
   rintro _ w30 ⟨obw1, hBDw1, hw31, hnb1⟩; have hV9 := hE7; have hV90 := hE8; have hN1 := cT (Or.inl rfl) hnb1 hV9.size; have hU1 := dK huo hV90.size hnb1; have hAO1_b3 := eG hAO_b3 (Lt.blk hB2) hnb1; have hE32 := hE7.step hw31 (dL (Or.inl rfl)); refine aD (aY (cP rfl ?_))
   exact eS hBDw1 (by rw [pD hg (by omega), show t.kind = 12 by omega]; rfl) hE32 hN1
  refine aF (aC (aB rfl (bC rfl rfl) ?_)); refine aM (aD (aA (bJ rfl (fun hc30 => ?_) (fun hc30 => ?_))))
  ·skip
   refine aC (aH ?_)
   refine aN (vs := [_, _]) cJ rfl (dI hF9 (m := [92, 66]) (by decide +kernel) (cC (by decide +kernel)) (by first | omega | simp only [List.length_append, List.length_cons, List.length_nil]; omega) (by decide)) rfl ?_
   rintro _ w35 ⟨obw1, hBDw1, hw36, hnb1⟩; have hV9 := hE7; have hV90 := hE8; have hN1 := cT (Or.inl rfl) hnb1 hV9.size; have hU1 := dK huo hV90.size hnb1; have hAO1_b3 := eG hAO_b3 (Lt.blk hB2) hnb1; have hE37 := hE7.step hw36 (dL (Or.inl rfl)); refine aD (aY (cP rfl ?_))
   exact eS hBDw1 (by rw [pD hg (by omega), show t.kind = 13 by omega]; rfl) hE37 hN1
  refine aF (aC (aB rfl (bC rfl rfl) ?_)); refine aM (aD (aA (bJ rfl (fun hc34 => ?_) (fun hc34 => ?_))))
  ·skip
   refine aC (aH (aB rfl (aE rfl eL) (aB rfl (aI rfl cD (aJ hB2 rfl)) ?_))); refine aN (vs := [_, _]) FO rfl (CU hG hE8 hub huo hF9 (by omega) (hn.lit1 (by omega)) (hn.lit2 (by omega))) rfl ?_; rintro _ w40 ⟨obw1, hBDw1, hw41, hnb1⟩; have hV9 := hE7; have hV90 := hE8; have hN1 := cT (Or.inl rfl) hnb1 hV9.size; have hU1 := dK huo hV90.size hnb1; have hAO1_b3 := eG hAO_b3 (Lt.blk hB2) hnb1; have hE42 := hE7.step hw41 (dL (Or.inl rfl)); refine aD (aY (cP rfl ?_))
   exact eS hBDw1 (by rw [pD hg (by omega), show t.kind = 2 by omega]; rfl) hE42 hN1
  refine aF (aC (aB rfl (bC rfl rfl) ?_)); refine aM (aD (aA (bJ rfl (fun hc40 => ?_) (fun hc40 => ?_))))
  ·skip
   refine aC (aH (aB rfl (aE rfl eP) (aB rfl (aI rfl fX (aJ hB2 rfl)) ?_))); refine aN (vs := [_, _]) FN rfl (yM hG hE8 hub huo hF9 hrg (RangesOk.b (hn.cls (by omega))) (by omega)) rfl ?_; rintro _ w45 ⟨obw1, hBDw1, hw46, hnb1⟩; have hV9 := hE7; have hV90 := hE8; have hN1 := cT (Or.inl rfl) hnb1 hV9.size; have hU1 := dK huo hV90.size hnb1; have hAO1_b3 := eG hAO_b3 (Lt.blk hB2) hnb1; have hE47 := hE7.step hw46 (dL (Or.inl rfl)); refine aD (aY (cP rfl ?_))
   exact eS hBDw1 (by rw [pD hg (by omega), show t.kind = 3 by omega]; rfl) hE47 hN1
  refine aF (aC (aB rfl (bC rfl rfl) ?_)); refine aM (aD (aA (bJ rfl (fun hc46 => ?_) (fun hc46 => ?_))))
  ·skip
   refine aF (aC (aB rfl (aE rfl cM) (aB rfl (aI rfl cZ (aJ hB2 rfl)) (aB rfl (bO rfl Tryz.underlying25 rfl) ?_)))); refine aH (aD (aA (bX ?_))); refine eT (α := WcG) (⟨0, ob⟩) (fun x => [(51, .int .i64 (x.k : Nat))]) [(0, _), (3, _), (49, _), (50, _)] (fun x wr => Evo (b :: ob.toList) w wr ∧ (x.k ≤ t.kids.length ∧ WkI w0 w wr b b3 _ (l ++ fU t.kind true (t.kids.take x.k)) ob x.o)) (fun x => t.kids.length - x.k) ⟨rfl, trivial⟩ ⟨rfl, rfl, rfl, rfl, trivial⟩ ⟨hE7, ⟨Nat.zero_le _, by simpa [fU] using hF9, hE8, Or.inl rfl, huo, hB2, hAO_b3⟩⟩ ?_; rintro ⟨k, o1⟩ wr50 ⟨hV51, ⟨hkj, hBDl, hE0l, hNl, hUl, hB3l, hA3l⟩⟩; show CW _ _ _ _ [(51, .int .i64 (k : Nat)), (0, _), (3, _), (49, _), (50, _)] _
   try dsimp only at hkj
   try dsimp only at hBDl
   try dsimp only at hE0l
   try dsimp only at hNl
   try dsimp only at hUl
   try dsimp only at hB3l
   try dsimp only at hA3l
   refine aF (aC (aB rfl (dF rfl rfl) ?_)); refine aD (aA (aF (bJ rfl (fun hc52 => ?_) (fun hc52 => ?_))))
   ·skip
    have hj' : k < t.kids.length := by omega
    obtain ⟨b1, o1', vs1, ha1, hb1, hvl1, hc1, hrk⟩ := e1 k hj'; obtain ⟨m1, ra1, rc1, ka1, kc1, rfl, rfl, -⟩ := id hrk.get; have hkt := qM hj'; have hkl := qN (l := t.kids) (k + 1); have hwl := jF (t.kids.take k) t.kind true (fun k hk => hg.kid k (List.mem_of_mem_take hk)); refine bA (aA (aF (bX (aF (aC (aH ?_))))))
    refine aB rfl (dP (n := k) (by rw [ha1]; rfl) rfl dV (by omega)) ?_
    refine aB rfl (eQ rfl bS bG (vs := [_, _, _, _, _, _, _, _, _]) rfl (hc1.evo hE0l (by simp))) ?_; refine dN rfl fE fun b5 w52 hB53 hs54 hw55 => ?_; have hsz_b5 := hs54; have hA56 := Apart.new (Lt.blk hB3l) hs54; have hG57 := Ge.new hV51 hs54; have hG58 := Ge.new hE0l hs54; have hE59 := hV51.then hw55; have hE60 := hE0l.then hw55; have hF61 := hBDl.evo0 hw55; have hB62 := hw55.blk0 hB3l
    have hAJ_b5 : Apart (some b5) (some b) := (Apart.new (fun g hg => by cases hg; exact hBDl.lt) hsz_b5).symm
    have hAO_b5 : Apart (some b5) o1 := (Apart.new hBDl.ltO hsz_b5).symm; refine aM (bQ rfl rfl bG hB53 rfl rfl ⟨rfl, rfl, rfl, rfl, rfl, rfl, rfl, rfl, rfl, trivial⟩ fun w63 hB64 hw65 => ?_); have hE66 := hE59.step hw65 hG57.mem1; have hE67 := hE60.step hw65 hG58.mem1; have hF68 := hF61.evo hw65 (hAJ_b5).symm.nmem1 (hAO_b5).symm.own1; have hB69 := hw65.blk hB62 hA56.nmem1
    try simp only [dB, Nat.reduceAdd] at hB64
    refine aD (aA (aF (aF (aC (aH (aB rfl (eZ rfl rfl) ?_)))))); refine aD (aA (bJ rfl (fun hc57 => ?_) (fun hc57 => ?_)))
    ·skip
     refine aC (aH ?_)
     refine aN (vs := [_, _]) cJ rfl (dI hF68 (m := [124]) (by decide +kernel) (cC (by decide +kernel)) (by first | omega | simp only [List.length_append, List.length_cons, List.length_nil]; omega) (by decide)) rfl ?_
     rintro _ w70 ⟨obw1, hBDw1, hw71, hnb1⟩; have hV9 := hE66; have hV90 := hE67; have hN1 := cT hNl hnb1 hV9.size; have hU1 := dK hUl hV90.size hnb1; have hAO1_b3 := eG hA3l (Lt.blk hB69) hnb1; have hAO1_b5 := eG hAO_b5 (Lt.blk hB64) hnb1; have hE72 := hE66.step hw71 (dL hNl); have hE73 := hE67.step hw71 (iD hub hUl); have hB74 := hw71.blk hB69 (mP hAJ_b3 hA3l); have hB75 := hw71.blk hB64 (mP hAJ_b5 hAO_b5); refine aD (aA (aC (aH (aB rfl (cA rfl bS bG hB75 rfl) (aB rfl (aE rfl dG) (aB rfl (aI rfl aU (aJ hB74 rfl)) ?_))))))
     refine aN (vs := [_, _, _]) nX rfl (lZ (k := t.kind) ih hG hE73 hub hU1 hBDw1 hrk (hg.kid _ (List.getElem_mem hj')) (by simp only [List.length_append, List.length_cons, List.length_nil]; omega)) rfl ?_
     rintro _ w76 ⟨obw2, hBDw2, hw77, hnb2⟩; have hV9 := hE72; have hV90 := hE73; have hN2 := cT hN1 hnb2 hV9.size; have hU2 := dK hU1 hV90.size hnb2; have hAO2_b3 := eG hAO1_b3 (Lt.blk hB74) hnb2; have hE78 := hE72.step hw77 (dL hN1); have hE79 := hE73.step hw77 (iD hub hU1); have hB80 := hw77.blk hB74 (mP hAJ_b3 hAO1_b3); refine aD (aY (aA (aC ?_))); refine aB rfl (bF rfl rfl (by omega) (by omega)) ?_; refine aH (aD (bI ?_)); refine ⟨⟨k + 1, obw2⟩, ?_, ⟨rfl, trivial⟩, ⟨rfl, rfl, rfl, rfl, trivial⟩, hE78, ?_⟩
     · (try dsimp only); omega
     try dsimp only
     refine ⟨by omega, ?_, hE79, hN2, hU2, hB80, hAO2_b3⟩; have hfin := hBDw2
     rw [kH hj', tI, if_pos ⟨by omega, decide_eq_false (by omega)⟩]; simpa [List.append_assoc] using hfin
    refine bA (aA (aC (aH (aB rfl (cA rfl bS bG hB64 rfl) (aB rfl (aE rfl dG) (aB rfl (aI rfl aU (aJ hB69 rfl)) ?_))))))
    refine aN (vs := [_, _, _]) nX rfl (lZ (k := t.kind) ih hG hE67 hub hUl hF68 hrk (hg.kid _ (List.getElem_mem hj')) (by simp only [List.length_append, List.length_cons, List.length_nil]; omega)) rfl ?_
    rintro _ w82 ⟨obw1, hBDw1, hw83, hnb1⟩; have hV9 := hE66; have hV90 := hE67; have hN1 := cT hNl hnb1 hV9.size; have hU1 := dK hUl hV90.size hnb1; have hAO1_b3 := eG hA3l (Lt.blk hB69) hnb1; have hAO1_b5 := eG hAO_b5 (Lt.blk hB64) hnb1; have hE84 := hE66.step hw83 (dL hNl); have hE85 := hE67.step hw83 (iD hub hUl); have hB86 := hw83.blk hB69 (mP hAJ_b3 hA3l); refine aD (aY (aA (aC ?_))); refine aB rfl (bF rfl rfl (by omega) (by omega)) ?_; refine aH (aD (bI ?_)); refine ⟨⟨k + 1, obw1⟩, ?_, ⟨rfl, trivial⟩, ⟨rfl, rfl, rfl, rfl, trivial⟩, hE84, ?_⟩
    · (try dsimp only); omega
    try dsimp only
    refine ⟨by omega, ?_, hE85, hN1, hU1, hB86, hAO1_b3⟩; have hfin := hBDw1
    rw [kH hj', tI, if_neg (fun h9 => by have h8 := of_decide_eq_false h9.2; omega)]; simpa [List.append_assoc] using hfin
   refine dT (cK (cK (dS (aY (cP rfl ?_))))); exact eS hBDl (by rw [LL (t := t) (by omega), List.take_of_length_le (by omega)]) hV51 hNl
  refine aF (aC (aB rfl (bC rfl rfl) ?_)); refine aM (aD (aA (bJ rfl (fun hc66 => ?_) (fun hc66 => ?_))))
  ·skip
   refine aF (aC (aB rfl (aE rfl cM) (aB rfl (aI rfl cZ (aJ hB2 rfl)) (aB rfl (bO rfl Tryz.underlying25 rfl) ?_)))); refine aH (aD (aA (bX ?_))); refine eT (α := WcG) (⟨0, ob⟩) (fun x => [(71, .int .i64 (x.k : Nat))]) [(0, _), (3, _), (69, _), (70, _)] (fun x wr => Evo (b :: ob.toList) w wr ∧ (x.k ≤ t.kids.length ∧ WkI w0 w wr b b3 _ (l ++ fU t.kind true (t.kids.take x.k)) ob x.o)) (fun x => t.kids.length - x.k) ⟨rfl, trivial⟩ ⟨rfl, rfl, rfl, rfl, trivial⟩ ⟨hE7, ⟨Nat.zero_le _, by simpa [fU] using hF9, hE8, Or.inl rfl, huo, hB2, hAO_b3⟩⟩ ?_; rintro ⟨k, o1⟩ wr88 ⟨hV89, ⟨hkj, hBDl, hE0l, hNl, hUl, hB3l, hA3l⟩⟩; show CW _ _ _ _ [(71, .int .i64 (k : Nat)), (0, _), (3, _), (69, _), (70, _)] _
   try dsimp only at hkj
   try dsimp only at hBDl
   try dsimp only at hE0l
   try dsimp only at hNl
   try dsimp only at hUl
   try dsimp only at hB3l
   try dsimp only at hA3l
   refine aF (aC (aB rfl (dF rfl rfl) ?_)); refine aD (aA (aF (bJ rfl (fun hc72 => ?_) (fun hc72 => ?_))))
   ·skip
    have hj' : k < t.kids.length := by omega
    obtain ⟨b1, o1', vs1, ha1, hb1, hvl1, hc1, hrk⟩ := e1 k hj'; obtain ⟨m1, ra1, rc1, ka1, kc1, rfl, rfl, -⟩ := id hrk.get; have hkt := qM hj'; have hkl := qN (l := t.kids) (k + 1); have hwl := jF (t.kids.take k) t.kind true (fun k hk => hg.kid k (List.mem_of_mem_take hk)); refine bA (aA (aF (bX (aF (aC ?_)))))
    refine aB rfl (dP (n := k) (by rw [ha1]; rfl) rfl dV (by omega)) ?_
    refine aB rfl (eQ rfl bS bG (vs := [_, _, _, _, _, _, _, _, _]) rfl (hc1.evo hE0l (by simp))) ?_; refine dN rfl fE fun b7 w90 hB91 hs92 hw93 => ?_; have hsz_b7 := hs92; have hA94 := Apart.new (Lt.blk hB3l) hs92; have hG95 := Ge.new hV89 hs92; have hG96 := Ge.new hE0l hs92; have hE97 := hV89.then hw93; have hE98 := hE0l.then hw93; have hF99 := hBDl.evo0 hw93; have hB100 := hw93.blk0 hB3l
    have hAJ_b7 : Apart (some b7) (some b) := (Apart.new (fun g hg => by cases hg; exact hBDl.lt) hsz_b7).symm
    have hAO_b7 : Apart (some b7) o1 := (Apart.new hBDl.ltO hsz_b7).symm; refine bQ rfl rfl bG hB91 rfl rfl ⟨rfl, rfl, rfl, rfl, rfl, rfl, rfl, rfl, rfl, trivial⟩ fun w101 hB102 hw103 => ?_; have hE104 := hE97.step hw103 hG95.mem1; have hE105 := hE98.step hw103 hG96.mem1; have hF106 := hF99.evo hw103 (hAJ_b7).symm.nmem1 (hAO_b7).symm.own1; have hB107 := hw103.blk hB100 hA94.nmem1
    try simp only [dB, Nat.reduceAdd] at hB102
    refine aD (aA (aC (aH (aB rfl (cA rfl bS bG hB102 rfl) (aB rfl (aE rfl dG) (aB rfl (aI rfl aU (aJ hB107 rfl)) ?_))))))
    refine aN (vs := [_, _, _]) nX rfl (lZ (k := t.kind) ih hG hE105 hub hUl hF106 hrk (hg.kid _ (List.getElem_mem hj')) (by simp only [List.length_append, List.length_cons, List.length_nil]; omega)) rfl ?_
    rintro _ w108 ⟨obw1, hBDw1, hw109, hnb1⟩; have hV9 := hE104; have hV90 := hE105; have hN1 := cT hNl hnb1 hV9.size; have hU1 := dK hUl hV90.size hnb1; have hAO1_b3 := eG hA3l (Lt.blk hB107) hnb1; have hE110 := hE104.step hw109 (dL hNl); have hE111 := hE105.step hw109 (iD hub hUl); have hB112 := hw109.blk hB107 (mP hAJ_b3 hA3l); refine aD (aY (aA (aC ?_))); refine aB rfl (bF rfl rfl (by omega) (by omega)) ?_; refine aH (aD (bI ?_)); refine ⟨⟨k + 1, obw1⟩, ?_, ⟨rfl, trivial⟩, ⟨rfl, rfl, rfl, rfl, trivial⟩, hE110, ?_⟩
    · (try dsimp only); omega
    try dsimp only
    refine ⟨by omega, ?_, hE111, hN1, hU1, hB112, hAO1_b3⟩; have hfin := hBDw1
    rw [kH hj', tI, if_neg (fun h9 => by omega)]; simpa [List.append_assoc] using hfin
   refine dT (cK (cK (dS (aY (cP rfl ?_))))); exact eS hBDl (by rw [LL (t := t) (by omega), List.take_of_length_le (by omega)]) hV89 hNl
  refine aF (aC (aB rfl (bC rfl rfl) ?_)); refine aM (aD (aA (bJ rfl (fun hc81 => ?_) (fun hc81 => ?_))))
  ·skip
   have hl1 : t.kids.length = 1 := by have h1 := hn.rep4; have h2 := hn.grp; omega
   have hj' : 0 < t.kids.length := by omega
   obtain ⟨b1, o1', vs1, ha1, hb1, hvl1, hc1, hrk⟩ := e1 0 hj'; obtain ⟨m1, ra1, rc1, ka1, kc1, rfl, rfl, -⟩ := id hrk.get
   have hkw : fU t.kind true t.kids = brW (Brk t.kids[0].kind t.kind) t.kids[0].w := by have h1 := kH (k := t.kind) (l := t.kids) hj'; rw [List.take_of_length_le (by omega), List.take_zero, fU, List.nil_append] at h1; rw [h1]; simp [tI]
   have hms1 : kms t.kids = t.kids[0].ms := by have h1 := qM hj'; rw [List.take_of_length_le (by omega), List.take_zero, kms, Nat.zero_add] at h1; exact h1
   refine aF ?_; refine hD (fun w0 w' => Evo (b :: ob.toList) w0 w') (by kernel_rfl) (fun w114 hw115 => ?_); have hE116 := hE7.then hw115; have hE117 := hE8.then hw115; have hF118 := hF9.evo0 hw115; have hB119 := hw115.blk0 hB2; refine bB 0 rfl (by kernel_rfl) (by kernel_rfl) (by kernel_rfl) rfl (fun _ hS => bM rfl) (Evo.refl (b :: ob.toList) w114) ?_; refine bB 1 rfl (by kernel_rfl) (by kernel_rfl) (by kernel_rfl) rfl (fun _ hS => aE rfl cM) (Evo.refl (b :: ob.toList) w114) ?_; refine bB 2 rfl (by kernel_rfl) (by kernel_rfl) (by kernel_rfl) rfl (fun _ hS => aI rfl cZ (aJ (hS.blk hB119 (mP hAJ_b3 hAO_b3)) rfl)) (Evo.refl (b :: ob.toList) w114) ?_
   refine bB 3 rfl (by kernel_rfl) (by kernel_rfl) (by kernel_rfl) rfl (fun _ hS => fV (n := 0) (by rw [ha1]; rfl) rfl rfl dV (by omega)) (Evo.refl (b :: ob.toList) w114) ?_
   refine bB 4 rfl (by kernel_rfl) (by kernel_rfl) (by kernel_rfl) rfl (fun _ hS => eQ rfl bS bG (vs := [_, _, _, _, _, _, _, _, _]) rfl (hc1.evo (hE117.step hS (iD hub huo)) (by simp))) (Evo.refl (b :: ob.toList) w114) ?_; refine bB 5 rfl (by kernel_rfl) (by kernel_rfl) (by kernel_rfl) rfl (fun _ hS => aE rfl dG) (Evo.refl (b :: ob.toList) w114) ?_; refine bB 6 rfl (by kernel_rfl) (by kernel_rfl) (by kernel_rfl) rfl (fun _ hS => aI rfl aU (aJ (hS.blk hB119 (mP hAJ_b3 hAO_b3)) rfl)) (Evo.refl (b :: ob.toList) w114) ?_; refine cL [7] (by kernel_rfl) rfl ⟨?_, trivial⟩; refine cV rfl ?_; refine aN (vs := [_, _, _]) nX rfl (lZ (k := t.kind) ih hG hE117 hub huo hF118 hrk (hg.kid _ (List.getElem_mem hj')) (by omega)) rfl ?_; rintro _ w120 ⟨obw1, hBDw1, hw121, hnb1⟩; have hV9 := hE116; have hV90 := hE117; have hN1 := cT (Or.inl rfl) hnb1 hV9.size; have hU1 := dK huo hV90.size hnb1; have hAO1_b3 := eG hAO_b3 (Lt.blk hB119) hnb1; have hE122 := hE116.step hw121 (dL (Or.inl rfl)); have hE123 := hE117.step hw121 (iD hub huo); have hE124 := (Evo.refl (b :: ob.toList) w114).step hw121 (fun y hy => .inl hy); have hB125 := hw121.blk hB119 (mP hAJ_b3 hAO_b3); refine aD (cG (.inl hE124) ?_); refine eH (by kernel_rfl) (aA ?_); refine aF (aC (aH (aB rfl (aE rfl bT) (aB rfl (aI rfl aU (aJ hB125 rfl)) (aB rfl (aE rfl bY) (aB rfl (aI rfl aU (aJ hB125 rfl)) ?_))))))
   refine aN (vs := [_, _, _]) FM rfl (yL hG hE123 hub hU1 hBDw1 (by rw [← hkw]; have h8 := jF t.kids t.kind true (fun k hk => hg.kid k hk); simp only [List.length_append]; omega) (hn.rep1 (by omega)) (hn.rep2 (by omega)) (hn.rep3 (by omega))) rfl ?_
   rintro _ w126 ⟨obw2, hBDw2, hw127, hnb2⟩; have hV9 := hE122; have hV90 := hE123; have hN2 := cT hN1 hnb2 hV9.size; have hU2 := dK hU1 hV90.size hnb2; have hAO2_b3 := eG hAO1_b3 (Lt.blk hB125) hnb2; have hE128 := hE122.step hw127 (dL hN1); have hE129 := hE123.step hw127 (iD hub hU1); have hB130 := hw127.blk hB125 (mP hAJ_b3 hAO1_b3); refine aD (aA (aF (aC (aB rfl (aE rfl eK) (aB rfl (aI rfl eF (aJ hB130 rfl)) (aD (aA (fB rfl (fun hc98 => ?_) (fun hc98 => ?_)))))))))
   ·skip
    refine aC (aH ?_)
    refine aN (vs := [_, _]) cJ rfl (dI hBDw2 (m := [63]) (by decide +kernel) (cC (by decide +kernel)) (by rw [← hkw]; have h8 := jF t.kids t.kind true (fun k hk => hg.kid k hk); have h7 := sR (hn.rep1 (by omega)) (hn.rep2 (by omega)) (hn.rep3 (by omega)); simp only [List.length_append]; omega) (by decide)) rfl ?_
    rintro _ w131 ⟨obw3, hBDw3, hw132, hnb3⟩; have hV9 := hE128; have hV90 := hE129; have hN3 := cT hN2 hnb3 hV9.size; have hU3 := dK hU2 hV90.size hnb3; have hAO3_b3 := eG hAO2_b3 (Lt.blk hB130) hnb3; have hE133 := hE128.step hw132 (dL hN2); refine aD (aY (cP rfl ?_))
    exact eS hBDw3 (by rw [w_rep (t := t) (by omega), hkw, if_pos hc98]; simp) hE133 hN3
   refine bA (aY (cP rfl ?_))
   exact eS hBDw2 (by rw [w_rep (t := t) (by omega), hkw, if_neg (by rw [hc98]; simp)]; simp) hE128 hN2
  refine aF (aC (aB rfl (bC rfl rfl) ?_)); refine aM (aD (aA (bJ rfl (fun hc101 => ?_) (fun hc101 => ?_))))
  ·skip
   have hl1 : t.kids.length = 1 := by have h1 := hn.rep4; have h2 := hn.grp; omega
   have hj' : 0 < t.kids.length := by omega
   obtain ⟨b1, o1', vs1, ha1, hb1, hvl1, hc1, hrk⟩ := e1 0 hj'; obtain ⟨m1, ra1, rc1, ka1, kc1, rfl, rfl, -⟩ := id hrk.get
   have hkw : fU t.kind true t.kids = brW (Brk t.kids[0].kind t.kind) t.kids[0].w := by have h1 := kH (k := t.kind) (l := t.kids) hj'; rw [List.take_of_length_le (by omega), List.take_zero, fU, List.nil_append] at h1; rw [h1]; simp [tI]
   have hms1 : kms t.kids = t.kids[0].ms := by have h1 := qM hj'; rw [List.take_of_length_le (by omega), List.take_zero, kms, Nat.zero_add] at h1; exact h1
   have hkw7 := hkw
   rw [brW, if_neg (show ¬ Brk t.kids[0].kind t.kind by unfold Brk; omega)] at hkw7
   have hnl := sY t.name; refine aF (aC (aH ?_))
   refine aN (vs := [_, _]) cJ rfl (dI hF9 (m := [40]) (by decide +kernel) (cC (by decide +kernel)) (by first | omega | simp only [List.length_append, List.length_cons, List.length_nil]; omega) (by decide)) rfl ?_
   rintro _ w136 ⟨obw1, hBDw1, hw137, hnb1⟩; have hV9 := hE7; have hV90 := hE8; have hN1 := cT (Or.inl rfl) hnb1 hV9.size; have hU1 := dK huo hV90.size hnb1; have hAO1_b3 := eG hAO_b3 (Lt.blk hB2) hnb1; have hE138 := hE7.step hw137 (dL (Or.inl rfl)); have hE139 := hE8.step hw137 (iD hub huo); have hB140 := hw137.blk hB2 (mP hAJ_b3 hAO_b3); refine aD (aA (aF (aF (aC (aB rfl (aE rfl dR) (aB rfl (aI rfl cR (aJ hB140 rfl)) (aB rfl (rJ rfl rfl) ?_))))))); refine aD (aA (bJ rfl (fun hc107 => ?_) (fun hc107 => ?_)))
   ·skip
    refine aC (aH (aB rfl (aE rfl dR) (aB rfl (aI rfl cR (aJ hB140 rfl)) ?_)))
    refine aB rfl (bZ rfl rfl (by show 3 + _ ≤ _; omega)) ?_
    refine aB rfl (bZ rfl rfl (by rw [ByteArray.size_append]; show 3 + _ + 1 ≤ _; omega)) ?_
    refine aN (vs := [_, _]) cJ rfl (dI hBDw1 (m := [63, 80, 60] ++ nmL t.name ++ [62]) (by rw [← bap, ← bap, DO]; rfl) (((cC (by decide +kernel)).app (HS _)).app (cC (by decide +kernel))) (by simp only [List.length_append, List.length_cons, List.length_nil]; omega) (by simp only [List.length_append, List.length_cons, List.length_nil]; omega)) rfl ?_
    rintro _ w141 ⟨obw2, hBDw2, hw142, hnb2⟩; have hV9 := hE138; have hV90 := hE139; have hN2 := cT hN1 hnb2 hV9.size; have hU2 := dK hU1 hV90.size hnb2; have hAO2_b3 := eG hAO1_b3 (Lt.blk hB140) hnb2; have hE143 := hE138.step hw142 (dL hN1); have hE144 := hE139.step hw142 (iD hub hU1); have hB145 := hw142.blk hB140 (mP hAJ_b3 hAO1_b3); refine aD (aA (aF (aC (aH (aB rfl (aE rfl cM) (aB rfl (aI rfl cZ (aJ hB145 rfl)) ?_))))))
    refine aB rfl (fV (n := 0) (by rw [ha1]; rfl) rfl rfl dV (by omega)) ?_
    refine aB rfl (eQ rfl bS bG (vs := [_, _, _, _, _, _, _, _, _]) rfl (hc1.evo hE144 (by simp))) ?_
    refine aN (vs := [_, _]) lB rfl (ih hG hE144 hub hU2 hBDw2 hrk (hg.kid _ (List.getElem_mem hj')) (by simp only [List.length_append, List.length_cons, List.length_nil]; omega)) rfl ?_
    rintro _ w146 ⟨obw3, hBDw3, hw147, hnb3⟩; have hV9 := hE143; have hV90 := hE144; have hN3 := cT hN2 hnb3 hV9.size; have hU3 := dK hU2 hV90.size hnb3; have hAO3_b3 := eG hAO2_b3 (Lt.blk hB145) hnb3; have hE148 := hE143.step hw147 (dL hN2); have hE149 := hE144.step hw147 (iD hub hU2); refine aD (aA (aC (aH ?_)))
    refine aN (vs := [_, _]) cJ rfl (dI hBDw3 (m := [41]) (by decide +kernel) (cC (by decide +kernel)) (by have h8 := jF t.kids t.kind true (fun k hk => hg.kid k hk); rw [hkw7] at h8; simp only [List.length_append, List.length_cons, List.length_nil]; omega) (by decide)) rfl ?_
    rintro _ w151 ⟨obw4, hBDw4, hw152, hnb4⟩; have hV9 := hE148; have hV90 := hE149; have hN4 := cT hN3 hnb4 hV9.size; have hE153 := hE148.step hw152 (dL hN3); refine aD (aY (cP rfl ?_))
    exact eS hBDw4 (by rw [w_grp (t := t) (by omega), hkw7, if_neg (fun h9 => hc107 h9)]; simp) hE153 hN4
   refine bA (aA (aF (aC (aH (aB rfl (aE rfl cM) (aB rfl (aI rfl cZ (aJ hB140 rfl)) ?_))))))
   refine aB rfl (fV (n := 0) (by rw [ha1]; rfl) rfl rfl dV (by omega)) ?_
   refine aB rfl (eQ rfl bS bG (vs := [_, _, _, _, _, _, _, _, _]) rfl (hc1.evo hE139 (by simp))) ?_
   refine aN (vs := [_, _]) lB rfl (ih hG hE139 hub hU1 hBDw1 hrk (hg.kid _ (List.getElem_mem hj')) (by simp only [List.length_append, List.length_cons, List.length_nil]; omega)) rfl ?_
   rintro _ w156 ⟨obw2, hBDw2, hw157, hnb2⟩; have hV9 := hE138; have hV90 := hE139; have hN2 := cT hN1 hnb2 hV9.size; have hU2 := dK hU1 hV90.size hnb2; have hAO2_b3 := eG hAO1_b3 (Lt.blk hB140) hnb2; have hE158 := hE138.step hw157 (dL hN1); have hE159 := hE139.step hw157 (iD hub hU1); have hB160 := hw157.blk hB140 (mP hAJ_b3 hAO1_b3); refine aD (aA (aC (aH ?_)))
   refine aN (vs := [_, _]) cJ rfl (dI hBDw2 (m := [41]) (by decide +kernel) (cC (by decide +kernel)) (by have h8 := jF t.kids t.kind true (fun k hk => hg.kid k hk); rw [hkw7] at h8; simp only [List.length_append, List.length_cons, List.length_nil]; omega) (by decide)) rfl ?_
   rintro _ w161 ⟨obw3, hBDw3, hw162, hnb3⟩; have hV9 := hE158; have hV90 := hE159; have hN3 := cT hN2 hnb3 hV9.size; have hU3 := dK hU2 hV90.size hnb3; have hAO3_b3 := eG hAO2_b3 (Lt.blk hB160) hnb3; have hE163 := hE158.step hw162 (dL hN2); refine aD (aY (cP rfl ?_))
   exact eS hBDw3 (by rw [w_grp (t := t) (by omega), hkw7, if_pos (Classical.not_not.1 hc107)]; simp) hE163 hN3
  refine bA (aY (cP rfl ?_))
  exact eS hF9 (by rw [pD hg (by omega), show t.kind = 1 by have := hn.kind1; have := hn.kind2; omega]; simp [mL]) hE7 (Or.inl rfl)
theorem yX (n : Nat) : WOK n := by
  induction n with
  | zero => unfold WOK; intro w0 w b l ob vs t _ _ _ _ _ hx; exact hx.elim
  | succ n ih => unfold WOK; intro w0 w b l ob vs t hG hE0 hub huo h hx hg hl; exact GB ih hG hE0 hub huo h hx hg hl
end Go.Proofs.YtljadkcojnlioaaGreatDoor
namespace Go.Proofs.YtljadkcojnlioaaGreatDoor
open Go.Proofs Go.W Go.RowKit
mutual
def Rx.ln : Rx → Bool
  | .mk k r rs mn mx lz cp nm ks => decide (k = 10 ∨ k = 11) || lns ks
def lns : List Rx → Bool
  | [] => false
  | x :: xs => x.ln || lns xs
end
theorem Rx.ln_eq (x : Rx) : x.ln = (decide (x.kind = 10 ∨ x.kind = 11) || lns x.kids) := by cases x; rw [Rx.ln]; rfl
theorem DS {l : List Rx} {j : Nat} (hj : j < l.length) : lns (l.take (j + 1)) = (lns (l.take j) || l[j].ln) := by
  induction l generalizing j with
  | nil => cases hj
  | cons x l ih => cases j with
    | zero => simp [lns]
    | succ j => simp only [List.take_succ_cons, lns, List.getElem_cons_succ, ih (by simpa using hj), Bool.or_assoc]
theorem IL {l : List Rx} {j : Nat} (hj : j < l.length) (h : l[j].ln = true) : lns l = true := by
  induction l generalizing j with
  | nil => cases hj
  | cons x l ih => cases j with
    | zero => rw [lns]; simp at h; simp [h]
    | succ j => rw [lns, ih (by simpa using hj) (by simpa using h)]; simp
def pE (t : Rx) : List Nat := (if t.ln = true then [40, 63, 109, 41] else []) ++ t.w
def ShowIs (t : Rx) (s : List Nat) (e : Int) : Prop := (¬ t.Ok ∧ s = [] ∧ e = 2) ∨ (t.Ok ∧ ((4096 < (pE t).length ∧ s = [] ∧ e = 1) ∨ ((pE t).length ≤ 4096 ∧ s = pE t ∧ e = 0)))
theorem ShowIs.uniq {t : Rx} {s s' : List Nat} {e e' : Int} (h : ShowIs t s e) (k : ShowIs t s' e') : s = s' ∧ e = e' := by
  rcases h with ⟨h1, rfl, rfl⟩ | ⟨h1, ⟨h2, rfl, rfl⟩ | ⟨h2, rfl, rfl⟩⟩ <;> rcases k with ⟨k1, rfl, rfl⟩ | ⟨k1, ⟨k2, rfl, rfl⟩ | ⟨k2, rfl, rfl⟩⟩ <;> first | exact ⟨rfl, rfl⟩ | exact absurd k1 h1 | exact absurd h1 k1 | omega
noncomputable def qD (t : Rx) : List ByteArray := match t.fine 0 (0, []) with
  | some st => st.2
  | none => []
theorem zJ : ∀ {l : List Rx}, (∀ x, x ∈ l → Lo x.w) → ∀ (k : Int) (f : Bool), Lo (fU k f l)
  | [], _, k, f => by rw [fU]; intro b hb; cases hb
  | x :: xs, h, k, f => by
    rw [fU]
    refine (Lo.app ?_ ?_).app (zJ (fun y hy => h y (List.mem_cons_of_mem _ hy)) k false)
    · unfold tI; split
      · exact cC (by decide +kernel)
      · intro b hb; cases hb
    · unfold brW; split
      · exact ((cC (by decide +kernel)).app (h x (List.mem_cons_self ..))).app (cC (by decide +kernel))
      · exact h x (List.mem_cons_self ..)
theorem HV (lo hi : Int) : Lo (gZ lo hi) := by
  have h1 := wT lo.toNat
  have h2 := wT hi.toNat
  unfold gZ
  split
  · exact cC (by decide +kernel)
  · split
    · exact cC (by decide +kernel)
    · split
      · exact cC (by decide +kernel)
      · split
        · exact ((cC (by decide +kernel)).app h1).app (cC (by decide +kernel))
        · split
          · exact ((cC (by decide +kernel)).app h1).app (cC (by decide +kernel))
          · exact ((((cC (by decide +kernel)).app h1).app (cC (by decide +kernel))).app h2).app (cC (by decide +kernel))
theorem MB : ∀ {l : List (Int × Int)}, RgB l → Lo (l.flatMap oN)
  | [], _ => by intro b hb; cases hb
  | g :: l, h => by
    obtain ⟨h1, h2, h3⟩ := h g (List.mem_cons_self ..)
    rw [List.flatMap_cons]
    exact (HY h1 h2 h3).2.app (MB fun g hg => h g (List.mem_cons_of_mem _ hg))
theorem clsW_lo {l : List (Int × Int)} (h : RgB l) : Lo (tF l) := by
  unfold tF
  split
  · exact cC (by decide +kernel)
  · exact ((cC (by decide +kernel)).app (MB h)).app (cC (by decide +kernel))
theorem KO {x : Rx} (hg : Good x) : Lo x.w := by
  induction hg with
  | @mk x h1 h2 h3 ih =>
    have hn := (bE _).1 h1
    rw [Rx.w_eq]
    refine (Lo.app ?_ (zJ ih _ _)).app ?_
    · unfold mL
      split
      · exact (wN (hn.lit1 (by assumption)) (hn.lit2 (by assumption))).2
      · split
        · exact clsW_lo (RangesOk.b (hn.cls (by assumption)))
        · split
          · refine Lo.app (cC (by decide +kernel)) ?_
            split
            · intro b hb; cases hb
            · exact ((cC (by decide +kernel)).app (HS _)).app (cC (by decide +kernel))
          · split
            · exact cC (by decide +kernel)
            · split
              · exact cC (by decide +kernel)
              · split
                · exact cC (by decide +kernel)
                · split
                  · exact cC (by decide +kernel)
                  · split
                    · exact cC (by decide +kernel)
                    · split
                      · exact cC (by decide +kernel)
                      · intro b hb; cases hb
    · unfold yN
      split
      · refine (HV _ _).app ?_
        split
        · exact cC (by decide +kernel)
        · intro b hb; cases hb
      · split
        · exact cC (by decide +kernel)
        · intro b hb; cases hb
theorem HT {t : Rx} (hg : Good t) : Lo (pE t) := by
  unfold pE
  refine Lo.app ?_ (KO hg)
  split
  · exact cC (by decide +kernel)
  · intro b hb; cases hb
end Go.Proofs.YtljadkcojnlioaaGreatDoor
namespace Go.Proofs.YtljadkcojnlioaaGreatDoor
open Go.Proofs
open Go.W Go.RowKit
attribute [local irreducible] Decidable.decide
theorem oC : eM Tryz.prog 24 := ⟨_, Tryz.func24, by kernel_rfl, by kernel_rfl⟩
theorem rA : eM Tryz.prog 43 := ⟨_, Tryz.func43, by kernel_rfl, by kernel_rfl⟩
theorem vU : eM Tryz.prog 51 := ⟨_, Tryz.func51, by kernel_rfl, by kernel_rfl⟩
theorem vT : eM Tryz.prog 54 := ⟨_, Tryz.func54, by kernel_rfl, by kernel_rfl⟩
theorem vN : nG Tryz.prog 80 = some #[.pointer none, .slice none 0 0] := by kernel_rfl
theorem GX {n : Nat} (ih : ∀ {w : World} {vs : List Value} {t : Rx} (hx : RRx n [] w vs t), Calls Tryz.prog 48 #[.agg vs.toArray] w (Ret fun v w' => v = .bool t.ln ∧ Evo [] w w')) {w : World} {vs : List Value} {t : Rx} (hx : RRx (n + 1) [] w vs t) :
    Calls Tryz.prog 48 #[.agg vs.toArray] w (Ret fun v w' => v = .bool t.ln ∧ Evo [] w w') := by
  have hx0 := hx; obtain ⟨m, ra, rc, ka, kc, hm, rfl, hrg, hk, bl1, bl2, bl3⟩ := hx.get
  obtain rfl : m = n := by omega
  obtain ⟨_, _, hke, hkc, e1⟩ := hk; cases hke; refine bL (N := 23) Tryz.func48 rfl rfl rfl ?_; refine aF (aC (gT rfl rfl fun b1x w1 hB2 hs3 hw4 => ?_)); have hsz_b1x := hs3; have hE6 := (Evo.refl [] w).then hw4; refine aM (aD (aA (aF (aF (aC (aB rfl (aE rfl dG) (aB rfl (aI rfl aU (aJ hB2 rfl)) (aB rfl (bC rfl rfl) ?_)))))))); refine aH (aX (t := 8) rfl (fun hs8 => ?_) (fun hs8 => ?_))
  ·skip
   refine aG (aG (aG (bD (aD (aA (cW rfl ?_)))))); refine aF (aC (aM (aD (aA (aQ (aO (aK rfl rfl ?_)))))))
   exact ⟨by rw [Rx.ln_eq, decide_eq_true (by omega)]; rfl, hE6⟩
  refine aP (aB rfl (aE rfl dG) (aP (aB rfl (aI rfl aU (aJ hB2 rfl)) (aP (aB rfl (bC rfl rfl) ?_))))); refine aV (aD (aA (bJ rfl (fun hc12 => ?_) (fun hc12 => ?_))))
  ·skip
   refine aF (aC (aM (aD (aA (aQ (aO (aK rfl rfl ?_)))))))
   exact ⟨by rw [Rx.ln_eq, decide_eq_true (by omega)]; rfl, hE6⟩
  refine bA (aA (aF (aF (aC (aB rfl (aE rfl cM) (aB rfl (aI rfl cZ (aJ hB2 rfl)) (aB rfl (bO rfl Tryz.underlying25 rfl) ?_))))))); refine aH (aD (aA (bX (eT (α := Nat) (0) (fun k => [(16, .int .i64 (k : Nat))]) [(14, _), (15, _)] (fun k wr => Evo [] w1 wr ∧ (k ≤ t.kids.length ∧ lns (t.kids.take k) = false)) (fun k => t.kids.length - k) ⟨rfl, trivial⟩ ⟨rfl, rfl, trivial⟩ ⟨Evo.refl _ _, ⟨Nat.zero_le _, rfl⟩⟩ ?_)))); rintro k wr7 ⟨hV8, ⟨hk0, hln⟩⟩; show CW _ _ _ _ [(16, _), (14, _), (15, _)] _; have hE9 := hE6.then hV8; refine aF (aC (aB rfl (dF rfl rfl) ?_)); refine aD (aA (aF (bJ rfl (fun hc17 => ?_) (fun hc17 => ?_))))
  ·skip
   have hj' : k < t.kids.length := by omega
   obtain ⟨b1, o1', vs1, ha1, hb1, hvl1, hc1, hrk⟩ := e1 k hj'; obtain ⟨m1, ra1, rc1, ka1, kc1, rfl, rfl, -⟩ := id hrk.get; refine bA (aA (aF (bX (aF (aC ?_)))))
   refine aB rfl (dP (n := k) (by rw [ha1]; rfl) rfl dV (by omega)) ?_
   refine aB rfl (eQ rfl bS bG (vs := [_, _, _, _, _, _, _, _, _]) rfl (hc1.evo hE9 hb1)) ?_; refine dN rfl fE fun b4 w11 hB12 hs13 hw14 => ?_; have hsz_b4 := hs13; have hG16 := Ge.new hE9 hs13; have hG17 := Ge.new hV8 hs13; have hE18 := hE9.then hw14; have hE19 := hV8.then hw14; refine bQ rfl rfl bG hB12 rfl rfl ⟨rfl, rfl, rfl, rfl, rfl, rfl, rfl, rfl, rfl, trivial⟩ fun w21 hB22 hw23 => ?_; have hE24 := hE18.step hw23 hG16.mem1; have hE25 := hE19.step hw23 hG17.mem1
   try simp only [dB, Nat.reduceAdd] at hB22
   refine aD (aA (aF (aC (aB rfl (cA rfl bS bG hB22 rfl) (aN (vs := [_]) vV rfl (ih (RRx.pers _ _ _ _ _ _ hE24 hrk)) rfl ?_))))); rintro _ w27 ⟨rfl, hw28⟩; have hE29 := hE24.then hw28; have hE30 := hE25.then hw28; refine aD (aA (fB rfl (fun hc21 => ?_) (fun hc21 => ?_)))
   ·skip
    refine aF (aC (aM (aD (aA (aQ (aZ (aO (aO (aZ (aO (aK rfl rfl ?_))))))))))); exact ⟨by rw [Rx.ln_eq, IL hj' hc21, Bool.or_true], hE29⟩
   refine bA (aY (aA (aC ?_))); refine aB rfl (bF rfl rfl (by omega) (by omega)) ?_; refine aH (aD (bI ?_)); refine ⟨k + 1, ?_, ⟨rfl, trivial⟩, ⟨rfl, rfl, trivial⟩, hE30, ?_⟩
   · omega
   exact ⟨by omega, by rw [DS hj', hln, hc21]; rfl⟩
  refine dT (cK (cK (dS (aA ?_)))); refine aF (aC (aM (aD (aA (aQ (aK rfl rfl ?_)))))); rw [List.take_of_length_le (by omega)] at hln
  exact ⟨by rw [Rx.ln_eq, hln, decide_eq_false (by omega)]; rfl, hE9⟩
theorem DT : ∀ {n : Nat} {w : World} {vs : List Value} {t : Rx} (hx : RRx n [] w vs t), Calls Tryz.prog 48 #[.agg vs.toArray] w (Ret fun v w' => v = .bool t.ln ∧ Evo [] w w')
  | 0, w, vs, t, hx => hx.elim
  | n + 1, w, vs, t, hx => GX (n := n) (fun hx => DT hx) hx
theorem DD {n : Nat} (ih : ∀ {w : World} {vs : List Value} {t : Rx} (hx : RRx n [] w vs t), Calls Tryz.prog 54 #[.agg vs.toArray] w (Ret fun v w' => v = .bool t.ln ∧ Evo [] w w')) {w : World} {vs : List Value} {t : Rx} (hx : RRx (n + 1) [] w vs t) :
    Calls Tryz.prog 54 #[.agg vs.toArray] w (Ret fun v w' => v = .bool t.ln ∧ Evo [] w w') := by
  have hx0 := hx; obtain ⟨m, ra, rc, ka, kc, hm, rfl, hrg, hk, bl1, bl2, bl3⟩ := hx.get
  obtain rfl : m = n := by omega
  obtain ⟨_, _, hke, hkc, e1⟩ := hk; cases hke; refine bL (N := 25) Tryz.func54 rfl rfl rfl ?_; refine aF (aC (gT rfl rfl fun b1x w1 hB2 hs3 hw4 => ?_)); have hsz_b1x := hs3; have hE6 := (Evo.refl [] w).then hw4; refine aM (aD (aA (aF (aF (aC (aB rfl (aE rfl dG) (aB rfl (aI rfl aU (aJ hB2 rfl)) (aB rfl (bC rfl rfl) ?_)))))))); refine aH (aX (t := 7) rfl (fun hs7 => ?_) (fun hs7 => ?_))
  ·skip
   refine aG (aG (aG (bD (aD (aA (cW rfl ?_)))))); refine aF (aC (aM (aD (aA (aQ (aO (aK rfl rfl ?_)))))))
   exact ⟨by rw [Rx.ln_eq, decide_eq_true (by omega)]; rfl, hE6⟩
  refine aP (aB rfl (aE rfl dG) (aP (aB rfl (aI rfl aU (aJ hB2 rfl)) (aP (aB rfl (bC rfl rfl) ?_))))); refine aV (aD (aA (bJ rfl (fun hc11 => ?_) (fun hc11 => ?_))))
  ·skip
   refine aF (aC (aM (aD (aA (aQ (aO (aK rfl rfl ?_)))))))
   exact ⟨by rw [Rx.ln_eq, decide_eq_true (by omega)]; rfl, hE6⟩
  refine bA (aA (aF (aF (aC (aM (aD (aA (bX (eT (α := Nat) (0) (fun k => [(3, .int .i64 (k : Nat))]) [(1, _)] (fun k wr => Evo [] w1 wr ∧ (k ≤ t.kids.length ∧ lns (t.kids.take k) = false)) (fun k => t.kids.length - k) ⟨rfl, trivial⟩ ⟨rfl, trivial⟩ ⟨Evo.refl _ _, ⟨Nat.zero_le _, rfl⟩⟩ ?_))))))))); rintro k wr7 ⟨hV8, ⟨hk0, hln⟩⟩; show CW _ _ _ _ [(3, _), (1, _)] _; have hE9 := hE6.then hV8; have hB10 := hV8.blk0 hB2; refine aF (aF (aC (aH (aB rfl (aE rfl cM) (aB rfl (aI rfl cZ (aJ hB10 rfl)) (aB rfl (bO rfl Tryz.underlying25 rfl) ?_)))))); refine aB rfl (dF rfl rfl) ?_; refine aD (aA (bJ rfl (fun hc16 => ?_) (fun hc16 => ?_)))
  ·skip
   have hj' : k < t.kids.length := by omega
   obtain ⟨b1, o1', vs1, ha1, hb1, hvl1, hc1, hrk⟩ := e1 k hj'; obtain ⟨m1, ra1, rc1, ka1, kc1, rfl, rfl, -⟩ := id hrk.get; refine bA (aA (aF (bX (aF (aC (aB rfl (aE rfl cM) (aB rfl (aI rfl cZ (aJ hB10 rfl)) (aH ?_))))))))
   refine aB rfl (dP (n := k) (by rw [ha1]; rfl) rfl dV (by omega)) ?_
   refine aB rfl (eQ rfl bS bG (vs := [_, _, _, _, _, _, _, _, _]) rfl (hc1.evo hE9 hb1)) ?_; refine aN (vs := [_]) vT rfl (ih (RRx.pers _ _ _ _ _ _ hE9 hrk)) rfl ?_; rintro _ w11 ⟨rfl, hw12⟩; have hE13 := hE9.then hw12; have hE14 := hV8.then hw12; refine aD (aA (fB rfl (fun hc24 => ?_) (fun hc24 => ?_)))
   ·skip
    refine aF (aC (aM (aD (aA (aQ (aZ (aO (aO (aZ (aO (aK rfl rfl ?_))))))))))); exact ⟨by rw [Rx.ln_eq, IL hj' hc24, Bool.or_true], hE13⟩
   refine bA (aY (aA (aC (aH ?_)))); refine aB rfl (bF rfl rfl (by omega) (by omega)) ?_; refine aM (aD (bI ?_)); refine ⟨k + 1, ?_, ⟨rfl, trivial⟩, ⟨rfl, trivial⟩, hE14, ?_⟩
   · omega
   exact ⟨by omega, by rw [DS hj', hln, hc24]; rfl⟩
  refine dT (cK (cK (dS (aA ?_)))); refine aF (aC (aM (aD (aA (aQ (aK rfl rfl ?_)))))); rw [List.take_of_length_le (by omega)] at hln
  exact ⟨by rw [Rx.ln_eq, hln, decide_eq_false (by omega)]; rfl, hE9⟩
theorem zC : ∀ {n : Nat} {w : World} {vs : List Value} {t : Rx} (hx : RRx n [] w vs t), Calls Tryz.prog 54 #[.agg vs.toArray] w (Ret fun v w' => v = .bool t.ln ∧ Evo [] w w')
  | 0, w, vs, t, hx => hx.elim
  | n + 1, w, vs, t, hx => DD (n := n) (fun hx => zC hx) hx
theorem JP {n : Nat} {w : World} {vs : List Value} {t : Rx} (hG : Gw w) (hx : RRx n [] w vs t) (hms : t.ms ≤ 60000000) :
    Calls Tryz.prog 19 #[.agg vs.toArray] w (Ret fun v w' => ∃ s e, ShowIs t s e ∧ v = .tuple #[.string (bstr s), iv e] ∧ Evo [] w w') := by
  have hx0 := hx; obtain ⟨m, ra, rc, ka, kc, hm, rfl, hrg, hk, bl1, bl2, bl3⟩ := hx.get; refine bL (N := 16) Tryz.func19 rfl rfl rfl ?_; refine aF (aC (gT rfl rfl fun b1x w1 hB2 hs3 hw4 => ?_)); have hsz_b1x := hs3; have hE6 := (Evo.refl [] w).then hw4; refine aM (aM (aD (aA (aF (aF (aC (aB rfl (cA rfl bS bG hB2 rfl) (aN (vs := [_]) oC rfl (sQ (RRx.pers _ _ _ _ _ _ hE6 hx0)) rfl ?_)))))))); rintro _ w7 ⟨r, rfl, hvr, hw8⟩; have hE9 := hE6.then hw8; have hB10 := hw8.blk0 hB2; refine aB rfl (eO rfl) ?_; refine aD (aA (fB rfl (fun hc7 => ?_) (fun hc7 => ?_)))
  ·skip
   refine aF (aC (aM (aM (aD (aA (aQ (aO (dE rfl rfl rfl ?_)))))))); exact ⟨[], 2, .inl ⟨fun h => (by simp [hvr.2 h] at hc7), rfl, rfl⟩, rfl, hE9⟩
  refine bA (aA (aF (aC ?_))); have hVs := hE9; have hok : t.Ok := hvr.1 (by simpa using hc7); have hgd := hok.good; have hwl := DA t hgd; have hxa := RRx.pers _ _ _ _ _ _ hVs hx0; have hGa := hG.evo0 hVs; refine dN rfl vN fun bb w11 hB12 hs13 hw14 => ?_; have hsz_bb := hs13; have hA15 := Apart.new (Lt.blk hB10) hs13; have hE18 := hE9.then hw14; have hE19 := (Evo.refl [] w7).then hw14; have hB20 := hw14.blk0 hB10; have hub := Nat.le_of_eq hsz_bb; refine aD (aA (aF (aF (aC (aB rfl (cA rfl bS bG hB20 rfl) (aN (vs := [_]) vV rfl (DT (RRx.pers _ _ _ _ _ _ hE18 hx0)) rfl ?_)))))); rintro _ w21 ⟨rfl, hw22⟩; have hE23 := hE18.then hw22; have hE24 := hE19.then hw22; have hB25 := hw22.blk0 hB20; have hF26 := (BdN.new hB12).evo0 hw22; refine aD (aA (fB rfl (fun hc9 => ?_) (fun hc9 => ?_)))
  ·skip
   refine aC ?_; refine aN (vs := [_, _]) cJ rfl (dI hF26 (m := [40, 63, 109, 41]) (by decide +kernel) (cC (by decide +kernel)) (Nat.zero_le _) (by decide)) rfl ?_; rintro _ w27 ⟨obw1, hBDw1, hw28, hnb1⟩; have hV90 := hE24; have hV91 := hE23; have hU1 := dK (Ge.nil _) hV90.size hnb1; have hAO1 := eG (Apart.nil _) (Lt.blk hB25) hnb1; have hE29 := hE23.step hw28 (fun y hy => (iD hub (Ge.nil _) y hy).imp id (fun h9 => Nat.le_trans hVs.size h9)); have hE30 := hE24.step hw28 (iD hub (Ge.nil _)); have hB31 := hw28.blk hB25 (mP hA15 (Apart.nil _)); refine aD (aA (aF ?_))
   have hln9 : ([] ++ [40, 63, 109, 41] ++ t.w : List Nat) = pE t := by rw [pE, if_pos hc9]; rfl
   refine aC (aB rfl (cA rfl bS bG hB31 rfl) ?_)
   refine aN (vs := [_, _]) lB rfl (yX _ hGa hE30 hub hU1 hBDw1 hxa hgd (by first | (show 0 + t.ms ≤ _; omega) | (show ([40, 63, 109, 41] : List Nat).length + t.ms ≤ _; simp; omega))) rfl ?_
   rintro _ w32 ⟨obw2, hBDw2, hw33, hnb2⟩; have hV90 := hE30; have hV91 := hE29; have hU2 := dK hU1 hV90.size hnb2; have hE34 := hE29.step hw33 (fun y hy => (iD hub hU1 y hy).imp id (fun h9 => Nat.le_trans hVs.size h9)); have hE35 := hE30.step hw33 (iD hub hU1); refine aD (aA (aF (aF (aC (aN (vs := [_]) vU rfl (JJ hBDw2) rfl ?_))))); rintro _ w37 ⟨rfl, hw38⟩; have hE39 := hE34.then hw38; have hE40 := hE35.then hw38; have hF42 := hBDw2.evo0 hw38; refine aB rfl (eZ rfl rfl) ?_; refine aD (aA (bJ rfl (fun hc14 => ?_) (fun hc14 => ?_)))
   ·skip
    refine aF (aC (aM (aM (aD (aA (aQ (aO (dE rfl rfl rfl ?_)))))))); refine ⟨[], 1, .inr ⟨hok, .inl ⟨?_, rfl, rfl⟩⟩, rfl, hE39⟩
    rw [hln9] at hc14; omega
   refine bA (aA (aF (aC ?_)))
   refine aN (vs := [_]) rA rfl (sL hF42 (by rw [hln9]; exact HT hgd) (fun g hg => by have h9 := hU2 g hg; omega)) rfl ?_
   rintro _ w43 ⟨rfl, hw44⟩; have hle9 := hE40.size; have hE45 := hE39.step hw44 (fun y hy => .inr (Nat.le_trans hVs.size (Nat.le_trans hub (AT.1 hy).2))); refine aM (aM (aD (aA (aQ (dE rfl rfl rfl ?_))))); refine ⟨pE t, 0, .inr ⟨hok, .inr ⟨?_, rfl, rfl⟩⟩, (by rw [hln9]), hE45⟩
   rw [hln9] at hc14; omega
  refine bA (aA (aF ?_))
  have hln9 : ([] ++ t.w : List Nat) = pE t := by rw [pE, if_neg (by rw [hc9]; simp)]
  refine aC (aB rfl (cA rfl bS bG hB25 rfl) ?_)
  refine aN (vs := [_, _]) lB rfl (yX _ hGa hE24 hub (Ge.nil _) hF26 hxa hgd (by first | (show 0 + t.ms ≤ _; omega) | (show ([40, 63, 109, 41] : List Nat).length + t.ms ≤ _; simp; omega))) rfl ?_
  rintro _ w46 ⟨obw1, hBDw1, hw47, hnb1⟩; have hV90 := hE24; have hV91 := hE23; have hU1 := dK (Ge.nil _) hV90.size hnb1; have hAO1 := eG (Apart.nil _) (Lt.blk hB25) hnb1; have hE48 := hE23.step hw47 (fun y hy => (iD hub (Ge.nil _) y hy).imp id (fun h9 => Nat.le_trans hVs.size h9)); have hE49 := hE24.step hw47 (iD hub (Ge.nil _)); refine aD (aA (aF (aF (aC (aN (vs := [_]) vU rfl (JJ hBDw1) rfl ?_))))); rintro _ w51 ⟨rfl, hw52⟩; have hE53 := hE48.then hw52; have hE54 := hE49.then hw52; have hF56 := hBDw1.evo0 hw52; refine aB rfl (eZ rfl rfl) ?_; refine aD (aA (bJ rfl (fun hc14 => ?_) (fun hc14 => ?_)))
  ·skip
   refine aF (aC (aM (aM (aD (aA (aQ (aO (dE rfl rfl rfl ?_)))))))); refine ⟨[], 1, .inr ⟨hok, .inl ⟨?_, rfl, rfl⟩⟩, rfl, hE53⟩
   rw [hln9] at hc14; omega
  refine bA (aA (aF (aC ?_)))
  refine aN (vs := [_]) rA rfl (sL hF56 (by rw [hln9]; exact HT hgd) (fun g hg => by have h9 := hU1 g hg; omega)) rfl ?_
  rintro _ w57 ⟨rfl, hw58⟩; have hle9 := hE54.size; have hE59 := hE53.step hw58 (fun y hy => .inr (Nat.le_trans hVs.size (Nat.le_trans hub (AT.1 hy).2))); refine aM (aM (aD (aA (aQ (dE rfl rfl rfl ?_))))); refine ⟨pE t, 0, .inr ⟨hok, .inr ⟨?_, rfl, rfl⟩⟩, (by rw [hln9]), hE59⟩
  rw [hln9] at hc14; omega
theorem LF {n : Nat} {w : World} {vs : List Value} {t : Rx} (hx : RRx n [] w vs t) :
    Calls Tryz.prog 26 #[.agg vs.toArray] w (Ret fun v w' => ∃ a c ob, v = .slice a (qD t).length c ∧ OwnS w' 9 1 a (qD t).length c ((qD t).map sv) ob ∧ Ge w ob ∧ (qD t).length ≤ 100000 ∧ Evo [] w w') := by
  have hx0 := hx; obtain ⟨m, ra, rc, ka, kc, hm, rfl, hrg, hk, bl1, bl2, bl3⟩ := hx.get; refine bL (N := 13) Tryz.func26 rfl rfl rfl ?_; refine aF (aC (gT rfl rfl fun b1x w1 hB2 hs3 hw4 => ?_)); have hsz_b1x := hs3; have hE6 := (Evo.refl [] w).then hw4; refine aM (aD (aA (aF (aC (dN rfl tJ fun jb w7 hB8 hs9 hw10 => ?_))))); have hsz_jb := hs9; have hG12 := Ge.new hE6 hs9; have hE13 := hE6.then hw10; have hB14 := hw10.blk0 hB2; refine aM (aD (aA (aF (aF (aC (aH (aB rfl (cA rfl bS bG hB14 rfl) ?_))))))); refine aN (vs := [_, _, _]) nZ rfl (BB (st := (0, [])) (JAt.new hB8) (RRx.step hx0 hE13 hG12.mem1 (fun b hb => by cases hb)) ⟨Nat.le_refl _, by decide⟩ (by decide) (by decide)) rfl ?_; rintro _ w15 ⟨r, rfl, hr, hw16, hst⟩; have hE9 := hE13; have hsz9 := hE9.size; have hE17 := hE13.step hw16 (hG12.mem1); refine aB rfl (eO rfl) ?_; refine aD (aA (fB rfl (fun hc8 => ?_) (fun hc8 => ?_)))
  ·skip
   refine aF (aC (aM (aD (aA (aQ (aO (aK rfl rfl ?_)))))))
   have hno : t.fine 0 (0, []) = none := by cases h9 : t.fine 0 (0, []) with | none => rfl | some z => rw [h9] at hr; rw [hr] at hc8; cases hc8
   have hgr : qD t = [] := by rw [qD, hno]
   rw [hgr]; exact ⟨none, 0, none, rfl, OwnS.nil _ _ _, Ge.nil _, Nat.zero_le _, hE17⟩
  obtain ⟨st', hst'⟩ := Option.isSome_iff_exists.1 (show (t.fine 0 (0, [])).isSome = true by rw [← hr]; simpa using hc8)
  obtain ⟨hs9, a2, c2, o2, hJ2, ho2⟩ := hst st' hst'
  have hgr : qD t = st'.2 := by rw [qD, hst']
  refine bA (aA (aF (aC (aH (aB rfl (aR rfl) (aB rfl (aE rfl kR) (aB rfl (aI rfl iH (aJ hJ2.blk rfl)) (aM (aD (aA (aQ (aK rfl rfl ?_)))))))))))); rw [hgr]
  refine ⟨a2, c2, o2, rfl, hJ2.own, fun g hg => ?_, by have := hs9.1; have := hs9.2; omega, hE17⟩
  rcases ho2 g hg with h9 | h9
  · cases h9
  · omega
end Go.Proofs.YtljadkcojnlioaaGreatDoor
namespace Go.Proofs.YtljadkcojnlioaaGreatDoor
open Go.Proofs
open Go.W Go.RowKit
attribute [local irreducible] Decidable.decide
theorem lL : gB Tryz.prog 97 2 = some 2 := by kernel_rfl
theorem tZ : eM Tryz.prog 103 := ⟨_, Tryz.func103, by kernel_rfl, by kernel_rfl⟩
theorem vM {w : World} (k a : Int) : Calls Tryz.prog 76 #[.int .i64 k, .int .i64 a] w (Ret fun v w' => v = .bool (decide (Brk a k)) ∧ Evo [] w w') := by
  refine bL (N := 38) Tryz.func76 rfl rfl rfl ?_; refine aF (aC (aM (aD (aA (aF (aF (aC (aH (aD (aA (bX (aF (aC (aB rfl (bC rfl rfl) ?_)))))))))))))); refine aM (aD (aA (bJ rfl (fun hc6 => ?_) (fun hc6 => ?_))))
  ·skip
   refine aF (aC (aH (aB rfl (bC rfl rfl) ?_))); refine aM (aD (aA (aQ (aZ (aO (aK rfl rfl ?_)))))); refine ⟨congrArg Value.bool (Bool.eq_iff_iff.2 ?_), (Evo.refl [] w)⟩
   simp only [decide_eq_true_eq, Bool.false_eq_true, Bool.true_eq_false, true_iff, false_iff, eq_self, iff_true]; unfold Brk; omega
  refine aF (aC (aB rfl (bC rfl rfl) ?_)); refine aM (aD (aA (bJ rfl (fun hc10 => ?_) (fun hc10 => ?_))))
  ·skip
   refine aF (aC (aH (aB rfl (bC rfl rfl) ?_))); refine aH (aX (t := 14) rfl (fun hs14 => ?_) (fun hs14 => ?_))
   ·skip
    refine aG (aG (bD (aH (aG (aG (bD (aM (aD (aA (aQ (aZ (aO (aK rfl rfl ?_))))))))))))); refine ⟨congrArg Value.bool (Bool.eq_iff_iff.2 ?_), (Evo.refl [] w)⟩
    simp only [decide_eq_true_eq, Bool.false_eq_true, Bool.true_eq_false, true_iff, false_iff, eq_self, iff_true]; unfold Brk; omega
   refine aP (aH (aP (aB rfl (bC rfl rfl) ?_))); refine aV (aH (aX (t := 18) rfl (fun hs18 => ?_) (fun hs18 => ?_)))
   ·skip
    refine aG (aG (bD (aM (aD (aA (aQ (aZ (aO (aK rfl rfl ?_))))))))); refine ⟨congrArg Value.bool (Bool.eq_iff_iff.2 ?_), (Evo.refl [] w)⟩
    simp only [decide_eq_true_eq, Bool.false_eq_true, Bool.true_eq_false, true_iff, false_iff, eq_self, iff_true]; unfold Brk; omega
   refine aP (aH (aP (aB rfl (bC rfl rfl) ?_))); refine aV (aM (aD (aA (aQ (aZ (aO (aK rfl rfl ?_))))))); refine ⟨congrArg Value.bool (Bool.eq_iff_iff.2 ?_), (Evo.refl [] w)⟩
   simp only [decide_eq_true_eq, Bool.false_eq_true, Bool.true_eq_false, true_iff, false_iff, eq_self, iff_true]; unfold Brk; omega
  refine aF (aC (aB rfl (bC rfl rfl) ?_)); refine aM (aD (aA (bJ rfl (fun hc22 => ?_) (fun hc22 => ?_))))
  ·skip
   refine aF (aC (aH (aB rfl (bC rfl rfl) ?_))); refine aH (aX (t := 26) rfl (fun hs26 => ?_) (fun hs26 => ?_))
   ·skip
    refine aG (aG (bD (aH (aG (aG (bD (aH (aG (aG (bD (aM (aD (aA (aQ (aZ (aO (aK rfl rfl ?_))))))))))))))))); refine ⟨congrArg Value.bool (Bool.eq_iff_iff.2 ?_), (Evo.refl [] w)⟩
    simp only [decide_eq_true_eq, Bool.false_eq_true, Bool.true_eq_false, true_iff, false_iff, eq_self, iff_true]; unfold Brk; omega
   refine aP (aH (aP (aB rfl (bC rfl rfl) ?_))); refine aV (aH (aX (t := 30) rfl (fun hs30 => ?_) (fun hs30 => ?_)))
   ·skip
    refine aG (aG (bD (aH (aG (aG (bD (aM (aD (aA (aQ (aZ (aO (aK rfl rfl ?_))))))))))))); refine ⟨congrArg Value.bool (Bool.eq_iff_iff.2 ?_), (Evo.refl [] w)⟩
    simp only [decide_eq_true_eq, Bool.false_eq_true, Bool.true_eq_false, true_iff, false_iff, eq_self, iff_true]; unfold Brk; omega
   refine aP (aH (aP (aB rfl (bC rfl rfl) ?_))); refine aV (aH (aX (t := 34) rfl (fun hs34 => ?_) (fun hs34 => ?_)))
   ·skip
    refine aG (aG (bD (aM (aD (aA (aQ (aZ (aO (aK rfl rfl ?_))))))))); refine ⟨congrArg Value.bool (Bool.eq_iff_iff.2 ?_), (Evo.refl [] w)⟩
    simp only [decide_eq_true_eq, Bool.false_eq_true, Bool.true_eq_false, true_iff, false_iff, eq_self, iff_true]; unfold Brk; omega
   refine aP (aH (aP (aB rfl (bC rfl rfl) ?_))); refine aV (aM (aD (aA (aQ (aZ (aO (aK rfl rfl ?_))))))); refine ⟨congrArg Value.bool (Bool.eq_iff_iff.2 ?_), (Evo.refl [] w)⟩
   simp only [decide_eq_true_eq, Bool.false_eq_true, Bool.true_eq_false, true_iff, false_iff, eq_self, iff_true]; unfold Brk; omega
  refine bA (aY (aA (aF (aC (aM (aD (aA (aQ (aK rfl rfl ?_))))))))); refine ⟨congrArg Value.bool (Bool.eq_iff_iff.2 ?_), (Evo.refl [] w)⟩
  simp only [decide_eq_true_eq, Bool.false_eq_true, Bool.true_eq_false, true_iff, false_iff, eq_self, iff_true]; unfold Brk; omega
structure BareP (x : Rx) : Prop where
  zg : x.kind = 3 ∨ (x.ranges.length : Int) = 0
  zk : x.kind = 4 ∨ x.kind = 5 ∨ x.kind = 6 ∨ x.kind = 7 ∨ (x.kids.length : Int) = 0
  zr : x.kind = 2 ∨ x.r = 0
  zm1 : x.kind = 6 ∨ x.min = 0
  zm2 : x.kind = 6 ∨ x.max = 0
  zl : x.kind = 6 ∨ x.lazy = false
  zc : x.kind = 7 ∨ x.cap = 0
  zn : x.kind = 7 ∨ x.name = ByteArray.mk #[]
theorem AD (x : Rx) : BareP x ↔ (x.kind = 3 ∨ (x.ranges.length : Int) = 0) ∧ (x.kind = 4 ∨ x.kind = 5 ∨ x.kind = 6 ∨ x.kind = 7 ∨ (x.kids.length : Int) = 0) ∧ (x.kind = 2 ∨ x.r = 0) ∧ (x.kind = 6 ∨ x.min = 0) ∧ (x.kind = 6 ∨ x.max = 0) ∧ (x.kind = 6 ∨ x.lazy = false) ∧ (x.kind = 7 ∨ x.cap = 0) ∧ (x.kind = 7 ∨ x.name = ByteArray.mk #[]) :=
  ⟨fun h => ⟨h.zg, h.zk, h.zr, h.zm1, h.zm2, h.zl, h.zc, h.zn⟩, fun ⟨a, b, c, d, e, f, g, h⟩ => ⟨a, b, c, d, e, f, g, h⟩⟩
theorem bare_ok {n : Nat} {X : List Nat} {w : World} {vs : List Value} {t : Rx} (hx : RRx n X w vs t) : Calls Tryz.prog 77 #[.agg vs.toArray] w (Ret fun v w' => ∃ b, v = .bool b ∧ (b = true ↔ BareP t) ∧ Evo [] w w') := by
  obtain ⟨m, ra, rc, ka, kc, hm, rfl, hrg, hk, bl1, bl2, bl3⟩ := hx.get; refine bL (N := 82) Tryz.func77 rfl rfl rfl ?_; refine aF (aC (gT rfl rfl fun b1 w2 hB3 hs4 hw5 => ?_)); have hE7 := (Evo.refl [] w).then hw5; refine aM (aD (aA (aF (aC (aB rfl (aE rfl dG) (aB rfl (aI rfl aU (aJ hB3 rfl)) (aM (aD (aA (aF (oK (α := Bool) (fun z => [(4, .bool z)]) [(1, _), (2, _), (3, _)] (fun z wr => Evo [] w2 wr ∧ (z = true ↔ (t.kind = 3 ∨ (t.ranges.length : Int) = 0) ∧ (t.kind = 4 ∨ t.kind = 5 ∨ t.kind = 6 ∨ t.kind = 7 ∨ (t.kids.length : Int) = 0))) ⟨rfl, rfl, rfl, trivial⟩ ?_ ?_)))))))))))
  ·skip
   refine aC (aH (aB rfl (bC rfl rfl) ?_)); refine aH (aX (t := 10) rfl (fun hs10 => ?_) (fun hs10 => ?_))
   ·skip
    refine aG (aG (aG (aG (bD (aH (aP (aH (aP (aB rfl (bC rfl rfl) ?_))))))))); refine aP (aH (aX (t := 19) rfl (fun hs19 => ?_) (fun hs19 => ?_)))
    ·skip
     refine aG (aG (aP (bD (aP (aH (aG (aG (aP (bD (aP (aH (aG (aG (aP ?_)))))))))))))); refine bD (aP (aH (aG (aG (aG (aG (aP (bD (bD (aM (aD (bI ?_)))))))))))); refine ⟨true, ⟨rfl, trivial⟩, ⟨rfl, rfl, rfl, trivial⟩, (Evo.refl [] w2), ?_⟩; simp only [decide_eq_true_eq, Bool.false_eq_true, true_iff, false_iff, Bool.not_eq_true'] at *
     grind
    refine aP (aH (aP (aB rfl (bC rfl rfl) ?_))); refine aP (aV (aP (aH (aX (t := 23) rfl (fun hs23 => ?_) (fun hs23 => ?_)))))
    ·skip
     refine aG (aG (aP (bD (aP (aH (aG (aG (aP (bD (aP (aH (aG (aG (aG ?_)))))))))))))); refine aG (aP (bD (bD (aM (aD (bI ?_)))))); refine ⟨true, ⟨rfl, trivial⟩, ⟨rfl, rfl, rfl, trivial⟩, (Evo.refl [] w2), ?_⟩; simp only [decide_eq_true_eq, Bool.false_eq_true, true_iff, false_iff, Bool.not_eq_true'] at *
     grind
    refine aP (aH (aP (aB rfl (bC rfl rfl) ?_))); refine aP (aV (aP (aH (aX (t := 27) rfl (fun hs27 => ?_) (fun hs27 => ?_)))))
    ·skip
     refine aG (aG (aP (bD (aP (aH (aG (aG (aG (aG (aP (bD (bD (aM (aD (bI ?_))))))))))))))); refine ⟨true, ⟨rfl, trivial⟩, ⟨rfl, rfl, rfl, trivial⟩, (Evo.refl [] w2), ?_⟩; simp only [decide_eq_true_eq, Bool.false_eq_true, true_iff, false_iff, Bool.not_eq_true'] at *
     grind
    refine aP (aH (aP (aB rfl (bC rfl rfl) ?_))); refine aP (aV (aP (aH (aX (t := 31) rfl (fun hs31 => ?_) (fun hs31 => ?_)))))
    ·skip
     refine aG (aG (aG (aG (aP (bD (bD (aM (aD (bI ?_))))))))); refine ⟨true, ⟨rfl, trivial⟩, ⟨rfl, rfl, rfl, trivial⟩, (Evo.refl [] w2), ?_⟩; simp only [decide_eq_true_eq, Bool.false_eq_true, true_iff, false_iff, Bool.not_eq_true'] at *
     grind
    refine aP (aB rfl (aE rfl cM) (aP (aB rfl (aI rfl cZ (aJ hB3 rfl)) (aP (aB rfl (bO rfl Tryz.underlying25 rfl) ?_))))); refine aP (aB rfl (bC rfl rfl) ?_); refine aP (aV (bD (aM (aD (bI ?_))))); refine ⟨(decide ((t.kids.length : Int) = 0)), ⟨rfl, trivial⟩, ⟨rfl, rfl, rfl, trivial⟩, (Evo.refl [] w2), ?_⟩; simp only [decide_eq_true_eq, Bool.false_eq_true, true_iff, false_iff, Bool.not_eq_true'] at *
    grind
   refine aP (aB rfl (aE rfl eP) (aP (aB rfl (aI rfl fX (aJ hB3 rfl)) (aP (aB rfl (bO rfl Tryz.underlying24 rfl) ?_))))); refine aP (aB rfl (bC rfl rfl) ?_); refine aV (aH (aX (t := 16) rfl (fun hs16 => ?_) (fun hs16 => ?_)))
   ·skip
    refine aP (aH (aP (aB rfl (bC rfl rfl) ?_))); refine aP (aH (aX (t := 19) rfl (fun hs19 => ?_) (fun hs19 => ?_)))
    ·skip
     refine aG (aG (aP (bD (aP (aH (aG (aG (aP (bD (aP (aH (aG (aG (aP ?_)))))))))))))); refine bD (aP (aH (aG (aG (aG (aG (aP (bD (bD (aM (aD (bI ?_)))))))))))); refine ⟨true, ⟨rfl, trivial⟩, ⟨rfl, rfl, rfl, trivial⟩, (Evo.refl [] w2), ?_⟩; simp only [decide_eq_true_eq, Bool.false_eq_true, true_iff, false_iff, Bool.not_eq_true'] at *
     grind
    refine aP (aH (aP (aB rfl (bC rfl rfl) ?_))); refine aP (aV (aP (aH (aX (t := 23) rfl (fun hs23 => ?_) (fun hs23 => ?_)))))
    ·skip
     refine aG (aG (aP (bD (aP (aH (aG (aG (aP (bD (aP (aH (aG (aG (aG ?_)))))))))))))); refine aG (aP (bD (bD (aM (aD (bI ?_)))))); refine ⟨true, ⟨rfl, trivial⟩, ⟨rfl, rfl, rfl, trivial⟩, (Evo.refl [] w2), ?_⟩; simp only [decide_eq_true_eq, Bool.false_eq_true, true_iff, false_iff, Bool.not_eq_true'] at *
     grind
    refine aP (aH (aP (aB rfl (bC rfl rfl) ?_))); refine aP (aV (aP (aH (aX (t := 27) rfl (fun hs27 => ?_) (fun hs27 => ?_)))))
    ·skip
     refine aG (aG (aP (bD (aP (aH (aG (aG (aG (aG (aP (bD (bD (aM (aD (bI ?_))))))))))))))); refine ⟨true, ⟨rfl, trivial⟩, ⟨rfl, rfl, rfl, trivial⟩, (Evo.refl [] w2), ?_⟩; simp only [decide_eq_true_eq, Bool.false_eq_true, true_iff, false_iff, Bool.not_eq_true'] at *
     grind
    refine aP (aH (aP (aB rfl (bC rfl rfl) ?_))); refine aP (aV (aP (aH (aX (t := 31) rfl (fun hs31 => ?_) (fun hs31 => ?_)))))
    ·skip
     refine aG (aG (aG (aG (aP (bD (bD (aM (aD (bI ?_))))))))); refine ⟨true, ⟨rfl, trivial⟩, ⟨rfl, rfl, rfl, trivial⟩, (Evo.refl [] w2), ?_⟩; simp only [decide_eq_true_eq, Bool.false_eq_true, true_iff, false_iff, Bool.not_eq_true'] at *
     grind
    refine aP (aB rfl (aE rfl cM) (aP (aB rfl (aI rfl cZ (aJ hB3 rfl)) (aP (aB rfl (bO rfl Tryz.underlying25 rfl) ?_))))); refine aP (aB rfl (bC rfl rfl) ?_); refine aP (aV (bD (aM (aD (bI ?_))))); refine ⟨(decide ((t.kids.length : Int) = 0)), ⟨rfl, trivial⟩, ⟨rfl, rfl, rfl, trivial⟩, (Evo.refl [] w2), ?_⟩; simp only [decide_eq_true_eq, Bool.false_eq_true, true_iff, false_iff, Bool.not_eq_true'] at *
    grind
   refine aG (aG (aG (cI ?_))); refine cI ?_; refine aG (aG (cI ?_)); refine cI ?_; refine aG (aG (cI ?_)); refine cI ?_; refine aG (aG (cI ?_)); refine cI ?_; refine cI ?_; refine cI ?_; refine aG (aV (aM (aD (bI ?_)))); refine ⟨false, ⟨rfl, trivial⟩, ⟨rfl, rfl, rfl, trivial⟩, (Evo.refl [] w2), ?_⟩; simp only [decide_eq_true_eq, Bool.false_eq_true, true_iff, false_iff, Bool.not_eq_true'] at *
   grind
  rintro z w8 ⟨hV9, hz⟩; refine aA ?_; show CW _ _ _ _ [(4, _), (1, _), (2, _), (3, _)] _; have hE10 := hE7.then hV9; have hB11 := hV9.blk0 hB3; refine aF (oK (α := Bool) (fun y => [(5, .bool y)]) [(2, _), (4, _)] (fun y wr => Evo [] w8 wr ∧ (y = true ↔ (t.kind = 2 ∨ t.r = 0) ∧ (t.kind = 6 ∨ t.min = 0) ∧ (t.kind = 6 ∨ t.max = 0) ∧ (t.kind = 6 ∨ t.lazy = false) ∧ (t.kind = 7 ∨ t.cap = 0) ∧ (t.kind = 7 ∨ t.name = ByteArray.mk #[]))) ⟨rfl, rfl, trivial⟩ ?_ ?_)
  ·skip
   refine aC (aH (aB rfl (bC rfl rfl) ?_)); refine aH (aX (t := 40) rfl (fun hs40 => ?_) (fun hs40 => ?_))
   ·skip
    refine aG (aG (aG (bD (aH (aP (aH (aP (aB rfl (bC rfl rfl) ?_)))))))); refine aP (aH (aX (t := 48) rfl (fun hs48 => ?_) (fun hs48 => ?_)))
    ·skip
     refine aG (aG (aG (aG (cI ?_)))); refine cI ?_; refine cI ?_; refine aG (aG (cI ?_)); refine cI ?_; refine cI ?_; refine aG (aP (bD (bD (aH (aP (aH (aP (aB rfl (bC rfl rfl) ?_)))))))); refine aP (aH (aX (t := 67) rfl (fun hs67 => ?_) (fun hs67 => ?_)))
     ·skip
      refine aG (aG (aG (aG (cI ?_)))); refine cI ?_; refine cI ?_; refine aG (aP (bD (bD (aM (aD (bI ?_)))))); refine ⟨true, ⟨rfl, trivial⟩, ⟨rfl, rfl, trivial⟩, (Evo.refl [] w8), ?_⟩; simp only [decide_eq_true_eq, Bool.false_eq_true, true_iff, false_iff, Bool.not_eq_true'] at *
      grind
     refine aP (aB rfl (aE rfl eB) (aP (aB rfl (aI rfl aU (aJ hB11 rfl)) (aP (aB rfl (bC rfl rfl) ?_))))); refine aP (aH (aX (t := 71) rfl (fun hs71 => ?_) (fun hs71 => ?_)))
     ·skip
      refine aP (aB rfl (aE rfl dR) (aP (aB rfl (aI rfl cR (aJ hB11 rfl)) (aP (aB rfl (gD rfl rfl) ?_))))); refine aP (bD (aP (aV (bD (aM (aD (bI ?_))))))); refine ⟨(decide (t.name = ByteArray.mk #[])), ⟨rfl, trivial⟩, ⟨rfl, rfl, trivial⟩, (Evo.refl [] w8), ?_⟩; simp only [decide_eq_true_eq, Bool.false_eq_true, true_iff, false_iff, Bool.not_eq_true'] at *
      grind
     refine aG (aG (aG (aP (aV (aP (aV (bD (aM (aD (bI ?_)))))))))); refine ⟨false, ⟨rfl, trivial⟩, ⟨rfl, rfl, trivial⟩, (Evo.refl [] w8), ?_⟩; simp only [decide_eq_true_eq, Bool.false_eq_true, true_iff, false_iff, Bool.not_eq_true'] at *
     grind
    refine aP (aB rfl (aE rfl bT) (aP (aB rfl (aI rfl aU (aJ hB11 rfl)) (aP (aB rfl (bC rfl rfl) ?_))))); refine aP (aH (aX (t := 52) rfl (fun hs52 => ?_) (fun hs52 => ?_)))
    ·skip
     refine aP (aB rfl (aE rfl bY) (aP (aB rfl (aI rfl aU (aJ hB11 rfl)) (aP (aB rfl (bC rfl rfl) ?_))))); refine aP (bD (aP (aH (aX (t := 57) rfl (fun hs57 => ?_) (fun hs57 => ?_)))))
     ·skip
      refine aP (aB rfl (aE rfl eK) (aP (aB rfl (aI rfl eF (aJ hB11 rfl)) (aP (aB rfl (eO rfl) ?_))))); refine aP (bD (aP (aV (bD (aH (gW (t := 64) rfl (fun hs64 => ?_) (fun hs64 => ?_)))))))
      ·skip
       refine aP (aH (aP (aB rfl (bC rfl rfl) ?_))); refine aP (aH (aX (t := 67) rfl (fun hs67 => ?_) (fun hs67 => ?_)))
       ·skip
        refine aG (aG (aG (aG (cI ?_)))); refine cI ?_; refine cI ?_; refine aG (aP (bD (bD (aM (aD (bI ?_)))))); refine ⟨true, ⟨rfl, trivial⟩, ⟨rfl, rfl, trivial⟩, (Evo.refl [] w8), ?_⟩; simp only [decide_eq_true_eq, Bool.false_eq_true, true_iff, false_iff, Bool.not_eq_true'] at *
        grind
       refine aP (aB rfl (aE rfl eB) (aP (aB rfl (aI rfl aU (aJ hB11 rfl)) (aP (aB rfl (bC rfl rfl) ?_))))); refine aP (aH (aX (t := 71) rfl (fun hs71 => ?_) (fun hs71 => ?_)))
       ·skip
        refine aP (aB rfl (aE rfl dR) (aP (aB rfl (aI rfl cR (aJ hB11 rfl)) (aP (aB rfl (gD rfl rfl) ?_))))); refine aP (bD (aP (aV (bD (aM (aD (bI ?_))))))); refine ⟨(decide (t.name = ByteArray.mk #[])), ⟨rfl, trivial⟩, ⟨rfl, rfl, trivial⟩, (Evo.refl [] w8), ?_⟩; simp only [decide_eq_true_eq, Bool.false_eq_true, true_iff, false_iff, Bool.not_eq_true'] at *
        grind
       refine aG (aG (aG (aP (aV (aP (aV (bD (aM (aD (bI ?_)))))))))); refine ⟨false, ⟨rfl, trivial⟩, ⟨rfl, rfl, trivial⟩, (Evo.refl [] w8), ?_⟩; simp only [decide_eq_true_eq, Bool.false_eq_true, true_iff, false_iff, Bool.not_eq_true'] at *
       grind
      refine aG (aG (aG (cI ?_))); refine cI ?_; refine cI ?_; refine cI ?_; refine cI ?_; refine cI ?_; refine cI ?_; refine cI ?_; refine aG (aV (aM (aD (bI ?_)))); refine ⟨false, ⟨rfl, trivial⟩, ⟨rfl, rfl, trivial⟩, (Evo.refl [] w8), ?_⟩; simp only [decide_eq_true_eq, Bool.false_eq_true, true_iff, false_iff, Bool.not_eq_true'] at *
      grind
     refine aG (aG (aG (aP (aV (aP (aV (bD (aH (aG (aG (aG (cI ?_)))))))))))); refine cI ?_; refine cI ?_; refine cI ?_; refine cI ?_; refine cI ?_; refine cI ?_; refine cI ?_; refine aG (aV (aM (aD (bI ?_)))); refine ⟨false, ⟨rfl, trivial⟩, ⟨rfl, rfl, trivial⟩, (Evo.refl [] w8), ?_⟩; simp only [decide_eq_true_eq, Bool.false_eq_true, true_iff, false_iff, Bool.not_eq_true'] at *
     grind
    refine aG (aG (aG (aP (aV (aP (aH (aG (aG (aG (aP (aV (aP (aV (bD ?_)))))))))))))); refine aH (aG (aG (aG (cI ?_)))); refine cI ?_; refine cI ?_; refine cI ?_; refine cI ?_; refine cI ?_; refine cI ?_; refine cI ?_; refine aG (aV (aM (aD (bI ?_)))); refine ⟨false, ⟨rfl, trivial⟩, ⟨rfl, rfl, trivial⟩, (Evo.refl [] w8), ?_⟩; simp only [decide_eq_true_eq, Bool.false_eq_true, true_iff, false_iff, Bool.not_eq_true'] at *
    grind
   refine aP (aB rfl (aE rfl eL) (aP (aB rfl (aI rfl cD (aJ hB11 rfl)) (aP (aB rfl (bC rfl rfl) ?_))))); refine aV (aH (aX (t := 45) rfl (fun hs45 => ?_) (fun hs45 => ?_)))
   ·skip
    refine aP (aH (aP (aB rfl (bC rfl rfl) ?_))); refine aP (aH (aX (t := 48) rfl (fun hs48 => ?_) (fun hs48 => ?_)))
    ·skip
     refine aG (aG (aG (aG (cI ?_)))); refine cI ?_; refine cI ?_; refine aG (aG (cI ?_)); refine cI ?_; refine cI ?_; refine aG (aP (bD (bD (aH (aP (aH (aP (aB rfl (bC rfl rfl) ?_)))))))); refine aP (aH (aX (t := 67) rfl (fun hs67 => ?_) (fun hs67 => ?_)))
     ·skip
      refine aG (aG (aG (aG (cI ?_)))); refine cI ?_; refine cI ?_; refine aG (aP (bD (bD (aM (aD (bI ?_)))))); refine ⟨true, ⟨rfl, trivial⟩, ⟨rfl, rfl, trivial⟩, (Evo.refl [] w8), ?_⟩; simp only [decide_eq_true_eq, Bool.false_eq_true, true_iff, false_iff, Bool.not_eq_true'] at *
      grind
     refine aP (aB rfl (aE rfl eB) (aP (aB rfl (aI rfl aU (aJ hB11 rfl)) (aP (aB rfl (bC rfl rfl) ?_))))); refine aP (aH (aX (t := 71) rfl (fun hs71 => ?_) (fun hs71 => ?_)))
     ·skip
      refine aP (aB rfl (aE rfl dR) (aP (aB rfl (aI rfl cR (aJ hB11 rfl)) (aP (aB rfl (gD rfl rfl) ?_))))); refine aP (bD (aP (aV (bD (aM (aD (bI ?_))))))); refine ⟨(decide (t.name = ByteArray.mk #[])), ⟨rfl, trivial⟩, ⟨rfl, rfl, trivial⟩, (Evo.refl [] w8), ?_⟩; simp only [decide_eq_true_eq, Bool.false_eq_true, true_iff, false_iff, Bool.not_eq_true'] at *
      grind
     refine aG (aG (aG (aP (aV (aP (aV (bD (aM (aD (bI ?_)))))))))); refine ⟨false, ⟨rfl, trivial⟩, ⟨rfl, rfl, trivial⟩, (Evo.refl [] w8), ?_⟩; simp only [decide_eq_true_eq, Bool.false_eq_true, true_iff, false_iff, Bool.not_eq_true'] at *
     grind
    refine aP (aB rfl (aE rfl bT) (aP (aB rfl (aI rfl aU (aJ hB11 rfl)) (aP (aB rfl (bC rfl rfl) ?_))))); refine aP (aH (aX (t := 52) rfl (fun hs52 => ?_) (fun hs52 => ?_)))
    ·skip
     refine aP (aB rfl (aE rfl bY) (aP (aB rfl (aI rfl aU (aJ hB11 rfl)) (aP (aB rfl (bC rfl rfl) ?_))))); refine aP (bD (aP (aH (aX (t := 57) rfl (fun hs57 => ?_) (fun hs57 => ?_)))))
     ·skip
      refine aP (aB rfl (aE rfl eK) (aP (aB rfl (aI rfl eF (aJ hB11 rfl)) (aP (aB rfl (eO rfl) ?_))))); refine aP (bD (aP (aV (bD (aH (gW (t := 64) rfl (fun hs64 => ?_) (fun hs64 => ?_)))))))
      ·skip
       refine aP (aH (aP (aB rfl (bC rfl rfl) ?_))); refine aP (aH (aX (t := 67) rfl (fun hs67 => ?_) (fun hs67 => ?_)))
       ·skip
        refine aG (aG (aG (aG (cI ?_)))); refine cI ?_; refine cI ?_; refine aG (aP (bD (bD (aM (aD (bI ?_)))))); refine ⟨true, ⟨rfl, trivial⟩, ⟨rfl, rfl, trivial⟩, (Evo.refl [] w8), ?_⟩; simp only [decide_eq_true_eq, Bool.false_eq_true, true_iff, false_iff, Bool.not_eq_true'] at *
        grind
       refine aP (aB rfl (aE rfl eB) (aP (aB rfl (aI rfl aU (aJ hB11 rfl)) (aP (aB rfl (bC rfl rfl) ?_))))); refine aP (aH (aX (t := 71) rfl (fun hs71 => ?_) (fun hs71 => ?_)))
       ·skip
        refine aP (aB rfl (aE rfl dR) (aP (aB rfl (aI rfl cR (aJ hB11 rfl)) (aP (aB rfl (gD rfl rfl) ?_))))); refine aP (bD (aP (aV (bD (aM (aD (bI ?_))))))); refine ⟨(decide (t.name = ByteArray.mk #[])), ⟨rfl, trivial⟩, ⟨rfl, rfl, trivial⟩, (Evo.refl [] w8), ?_⟩; simp only [decide_eq_true_eq, Bool.false_eq_true, true_iff, false_iff, Bool.not_eq_true'] at *
        grind
       refine aG (aG (aG (aP (aV (aP (aV (bD (aM (aD (bI ?_)))))))))); refine ⟨false, ⟨rfl, trivial⟩, ⟨rfl, rfl, trivial⟩, (Evo.refl [] w8), ?_⟩; simp only [decide_eq_true_eq, Bool.false_eq_true, true_iff, false_iff, Bool.not_eq_true'] at *
       grind
      refine aG (aG (aG (cI ?_))); refine cI ?_; refine cI ?_; refine cI ?_; refine cI ?_; refine cI ?_; refine cI ?_; refine cI ?_; refine aG (aV (aM (aD (bI ?_)))); refine ⟨false, ⟨rfl, trivial⟩, ⟨rfl, rfl, trivial⟩, (Evo.refl [] w8), ?_⟩; simp only [decide_eq_true_eq, Bool.false_eq_true, true_iff, false_iff, Bool.not_eq_true'] at *
      grind
     refine aG (aG (aG (aP (aV (aP (aV (bD (aH (aG (aG (aG (cI ?_)))))))))))); refine cI ?_; refine cI ?_; refine cI ?_; refine cI ?_; refine cI ?_; refine cI ?_; refine cI ?_; refine aG (aV (aM (aD (bI ?_)))); refine ⟨false, ⟨rfl, trivial⟩, ⟨rfl, rfl, trivial⟩, (Evo.refl [] w8), ?_⟩; simp only [decide_eq_true_eq, Bool.false_eq_true, true_iff, false_iff, Bool.not_eq_true'] at *
     grind
    refine aG (aG (aG (aP (aV (aP (aH (aG (aG (aG (aP (aV (aP (aV (bD ?_)))))))))))))); refine aH (aG (aG (aG (cI ?_)))); refine cI ?_; refine cI ?_; refine cI ?_; refine cI ?_; refine cI ?_; refine cI ?_; refine cI ?_; refine aG (aV (aM (aD (bI ?_)))); refine ⟨false, ⟨rfl, trivial⟩, ⟨rfl, rfl, trivial⟩, (Evo.refl [] w8), ?_⟩; simp only [decide_eq_true_eq, Bool.false_eq_true, true_iff, false_iff, Bool.not_eq_true'] at *
    grind
   refine aG (aG (aG (cI ?_))); refine cI ?_; refine cI ?_; refine cI ?_; refine cI ?_; refine cI ?_; refine cI ?_; refine cI ?_; refine cI ?_; refine cI ?_; refine cI ?_; refine cI ?_; refine cI ?_; refine aG (aV (aH (aG (aG (aG (cI ?_)))))); refine cI ?_; refine cI ?_; refine cI ?_; refine cI ?_; refine cI ?_; refine cI ?_; refine cI ?_; refine aG (aV (aM (aD (bI ?_)))); refine ⟨false, ⟨rfl, trivial⟩, ⟨rfl, rfl, trivial⟩, (Evo.refl [] w8), ?_⟩; simp only [decide_eq_true_eq, Bool.false_eq_true, true_iff, false_iff, Bool.not_eq_true'] at *
   grind
  rintro y w12 ⟨hV13, hy⟩; refine aA ?_; show CW _ _ _ _ [(5, _), (2, _), (4, _)] _; have hE14 := hE10.then hV13; refine aF (aC (aH (aH (gW (t := 79) rfl (fun hs79 => ?_) (fun hs79 => ?_)))))
  ·skip
   subst hs79; refine aP (aH (bD (aM (aD (aA (aQ (aK rfl rfl ?_))))))); refine ⟨_, rfl, ?_, hE14⟩; rw [AD, hy]; have := hz.1 rfl
   grind
  subst hs79; refine aG (aV (aM (aD (aA (aQ (aK rfl rfl ?_)))))); refine ⟨false, rfl, ?_, hE14⟩; rw [AD]
  simp only [Bool.false_eq_true, false_iff]; intro hh
  have := hz.2 ⟨hh.1, hh.2.1⟩; cases this
theorem MA {l : List (Int × Int)} {k j : Nat} (hk : k < l.length) (h : j < l.length) (e : k + 1 = j + 1) : l[k].2 + 2 = l[j].2 + 2 := by
  obtain rfl : k = j := by omega
  rfl
theorem KA {X : List Nat} {w : World} {v : Value} {l : List (Int × Int)} (hs : RSl 2 RRg X w v l) (hl : l.length ≤ 140737488351232) : Calls Tryz.prog 78 #[v] w (Ret fun v w' => ∃ b, v = .bool b ∧ (b = true ↔ RangesOk l) ∧ Evo [] w w') := by
  obtain ⟨sa, sc, rfl, hlc, e1⟩ := hs; refine bL (N := 59) Tryz.func78 rfl rfl rfl ?_; refine aF (aC (aM (aD (aA (aF (aC (aM (aD (aA (aF (aF (aC (aM (aD (aA (bX ?_)))))))))))))))); refine eT (α := Nat × Int) ((0, 0)) (fun x => [(3, .int .i32 x.2), (4, .int .i64 (x.1 : Nat))]) [(0, _)] (fun x wr => Evo [] w wr ∧ (x.1 ≤ l.length ∧ RangesTo l x.1 ∧ (x.1 = 0 → x.2 = 0) ∧ (∀ j (h : j < l.length), x.1 = j + 1 → x.2 = l[j].2 + 2))) (fun x => l.length - x.1) ⟨rfl, rfl, trivial⟩ ⟨rfl, trivial⟩ ⟨Evo.refl _ _, ⟨Nat.zero_le _, fun i _ h => by omega, fun _ => rfl, fun j _ h => by omega⟩⟩ ?_; rintro ⟨k, nx⟩ wr1 ⟨hV2, ⟨hk, hok, hn0, hn1⟩⟩; show CW _ _ _ _ [(3, .int .i32 nx), (4, .int .i64 (k : Nat)), (0, _)] _
  try dsimp only at hk
  try dsimp only at hok
  try dsimp only at hn0
  try dsimp only at hn1
  have hE3 := (Evo.refl [] w).then hV2; refine aF (aF (aC (aH (aH (aB rfl (bO rfl Tryz.underlying24 rfl) ?_))))); refine aB rfl (dF rfl rfl) ?_; refine aD (aA (bJ rfl (fun hc8 => ?_) (fun hc8 => ?_)))
  ·skip
   have hnx : 0 ≤ nx := by
      by_cases hk0 : k = 0
      · have := hn0 hk0; omega
      · have h1 := hn1 (k - 1) (by omega) (by omega); have h2 := (hok (k - 1) (by omega) (by omega)); omega
   have hk' : k < l.length := by omega
   obtain ⟨b1, o1, vs1, ha1, hb1, -, hc1, rfl⟩ := e1 k hk'; refine bA (aA (aF (bX (aF (aF ?_))))); refine fN (by kernel_rfl) (by kernel_rfl) ?_; refine aW rfl (fun _ hq5 => bM rfl) ?_; refine aW rfl (fun _ hq5 => bM rfl) ?_
   refine aW rfl (fun _ hq5 => dP (n := k) (by rw [ha1]; rfl) rfl dW (by omega)) ?_
   refine aW rfl (fun _ hq5 => aE rfl fF) ?_; refine aW rfl (fun _ hq5 => aI rfl cD ((hc1.evo (hE3.then hq5) (by simp)) 0 _ rfl)) ?_; refine aW rfl (fun _ hq5 => bM rfl) ?_; refine aW rfl (fun _ hq5 => dF rfl rfl) ?_; refine aW rfl (fun _ hq5 => bM rfl) ?_; refine jN (t := 18) rfl (fun hs18 => ?_) (fun hs18 => ?_)
   ·skip
    refine cU rfl rfl rfl rfl rfl rfl ?_; refine cU rfl rfl rfl rfl rfl rfl ?_; refine cU rfl rfl rfl rfl rfl rfl ?_; refine cU rfl rfl rfl rfl rfl rfl ?_; refine cU rfl rfl rfl rfl rfl rfl ?_; refine cU rfl rfl rfl rfl rfl rfl ?_; refine cU rfl rfl rfl rfl rfl rfl ?_; refine cU rfl rfl rfl rfl rfl rfl ?_; refine cU rfl rfl rfl rfl rfl rfl ?_; refine cU rfl rfl rfl rfl rfl rfl ?_; refine cU rfl rfl rfl rfl rfl rfl ?_; refine aW rfl (fun _ hq5 => eD rfl rfl) ?_; refine aW rfl (fun _ hq5 => bM rfl) ?_; refine cU rfl rfl rfl rfl rfl rfl ?_; refine cU rfl rfl rfl rfl rfl rfl ?_; refine cU rfl rfl rfl rfl rfl rfl ?_; refine cU rfl rfl rfl rfl rfl rfl ?_; refine cU rfl rfl rfl rfl rfl rfl ?_; refine cU rfl rfl rfl rfl rfl rfl ?_; refine aW rfl (fun _ hq5 => eD rfl rfl) ?_; refine fR (fun wq4 hq5 => aA ?_); have hE6 := hE3.then hq5; refine cW rfl ?_; refine aF (aC (aM (aD (aA (aQ (aO (aZ (aO (aO (aZ (aO (aK rfl rfl ?_))))))))))))
    exact ⟨false, rfl, by simp only [Bool.false_eq_true, false_iff]; exact fun h => by have h2 := h.1 k hk'; by_cases hk0 : k = 0; have := hn0 hk0; omega; have h1 := hn1 (k - 1) (by omega) (by omega); have := h2.2.2.2 (k - 1) (by omega) (by omega); omega, hE6⟩
   refine dH rfl rfl rfl rfl ?_; refine aW rfl (fun _ hq5 => bM rfl) ?_; refine dH rfl rfl rfl rfl ?_; refine aW rfl (fun _ hq5 => bM rfl) ?_; refine dH rfl rfl rfl rfl ?_
   refine aW rfl (fun _ hq5 => dP (n := k) (by rw [ha1]; rfl) rfl dW (by omega)) ?_
   refine dH rfl rfl rfl rfl ?_; refine aW rfl (fun _ hq5 => aE rfl eA) ?_; refine dH rfl rfl rfl rfl ?_; refine aW rfl (fun _ hq5 => aI rfl cD ((hc1.evo (hE3.then hq5) (by simp)) 1 _ rfl)) ?_; refine dH rfl rfl rfl rfl ?_; refine aW rfl (fun _ hq5 => bM rfl) ?_; refine dH rfl rfl rfl rfl ?_; refine aW rfl (fun _ hq5 => bM rfl) ?_; refine dH rfl rfl rfl rfl ?_
   refine aW rfl (fun _ hq5 => dP (n := k) (by rw [ha1]; rfl) rfl dW (by omega)) ?_
   refine dH rfl rfl rfl rfl ?_; refine aW rfl (fun _ hq5 => aE rfl fF) ?_; refine dH rfl rfl rfl rfl ?_; refine aW rfl (fun _ hq5 => aI rfl cD ((hc1.evo (hE3.then hq5) (by simp)) 0 _ rfl)) ?_; refine dH rfl rfl rfl rfl ?_; refine aW rfl (fun _ hq5 => dF rfl rfl) ?_; refine aW rfl (fun _ hq5 => fS rfl rfl) ?_; refine aW rfl (fun _ hq5 => bM rfl) ?_; refine jN (t := 31) rfl (fun hs31 => ?_) (fun hs31 => ?_)
   ·skip
    refine cU rfl rfl rfl rfl rfl rfl ?_; refine cU rfl rfl rfl rfl rfl rfl ?_; refine cU rfl rfl rfl rfl rfl rfl ?_; refine cU rfl rfl rfl rfl rfl rfl ?_; refine cU rfl rfl rfl rfl rfl rfl ?_; refine cU rfl rfl rfl rfl rfl rfl ?_; refine aW rfl (fun _ hq5 => eD rfl rfl) ?_; refine fR (fun wq4 hq5 => aA ?_); have hE8 := hE3.then hq5; refine cW rfl ?_; refine aF (aC (aM (aD (aA (aQ (aO (aZ (aO (aO (aZ (aO (aK rfl rfl ?_))))))))))))
    exact ⟨false, rfl, by simp only [Bool.false_eq_true, false_iff]; exact fun h => by have h2 := h.1 k hk'; omega, hE8⟩
   refine dH rfl rfl rfl rfl ?_; refine aW rfl (fun _ hq5 => bM rfl) ?_; refine dH rfl rfl rfl rfl ?_; refine aW rfl (fun _ hq5 => bM rfl) ?_; refine dH rfl rfl rfl rfl ?_
   refine aW rfl (fun _ hq5 => dP (n := k) (by rw [ha1]; rfl) rfl dW (by omega)) ?_
   refine dH rfl rfl rfl rfl ?_; refine aW rfl (fun _ hq5 => aE rfl eA) ?_; refine dH rfl rfl rfl rfl ?_; refine aW rfl (fun _ hq5 => aI rfl cD ((hc1.evo (hE3.then hq5) (by simp)) 1 _ rfl)) ?_; refine dH rfl rfl rfl rfl ?_; refine aW rfl (fun _ hq5 => eZ rfl rfl) ?_; refine aW rfl (fun _ hq5 => fS rfl rfl) ?_; refine fR (fun wq4 hq5 => aA ?_); have hE10 := hE3.then hq5; have hE11 := hV2.then hq5; refine bJ rfl (fun hc38 => ?_) (fun hc38 => ?_)
   ·skip
    refine aF (aC (aM (aD (aA (aQ (aO (aZ (aO (aO (aZ (aO (aK rfl rfl ?_))))))))))))
    exact ⟨false, rfl, by simp only [Bool.false_eq_true, false_iff]; exact fun h => by have h2 := h.1 k hk'; omega, hE10⟩
   refine bA (aA (aC (aH (aH ?_))))
   refine aB rfl (dP (n := k) (by rw [ha1]; rfl) rfl dW (by omega)) ?_
   refine aB rfl (aE rfl eA) ?_; refine aB rfl (aI rfl cD ((hc1.evo hE10 (by simp)) 1 _ rfl)) ?_; refine aB rfl (jM rfl rfl (by omega) (by omega)) ?_; refine aM (aD (aY (aA (aC (aH ?_))))); refine aB rfl (bF rfl rfl (by omega) (by omega)) ?_; refine aM (aD (bI ?_)); refine ⟨(k + 1, l[k].2 + 2), ?_, ⟨rfl, rfl, trivial⟩, ⟨rfl, trivial⟩, hE11, ?_⟩
   · (try dsimp only); omega
   try dsimp only
   refine ⟨by omega, hok.succ hk' ?_ (by omega) (by omega) ?_, fun h => by omega, fun j h e => MA hk' h e⟩
   · by_cases hk0 : k = 0
     · have := hn0 hk0; omega
     · have h1 := hn1 (k - 1) (by omega) (by omega); have h2 := (hok (k - 1) (by omega) (by omega)); omega
   · intro j hj e; have h1 := hn1 j hj e; omega
  refine dT (cK (cK (dS (aA ?_)))); refine aF ?_; refine fN (by kernel_rfl) (by kernel_rfl) ?_; refine aW rfl (fun _ hq13 => bM rfl) ?_; refine aW rfl (fun _ hq13 => bO rfl Tryz.underlying24 rfl) ?_; refine aW rfl (fun _ hq13 => gJ rfl rfl) ?_; refine aW rfl (fun _ hq13 => bM rfl) ?_; refine jN (t := 48) rfl (fun hs48 => ?_) (fun hs48 => ?_)
  ·skip
   refine cU rfl rfl rfl rfl rfl rfl ?_; refine cU rfl rfl rfl rfl rfl rfl ?_; refine cU rfl rfl rfl rfl rfl rfl ?_; refine cU rfl rfl rfl rfl rfl rfl ?_; refine cU rfl rfl rfl rfl rfl rfl ?_; refine cU rfl rfl rfl rfl rfl rfl ?_; refine cU rfl rfl rfl rfl rfl rfl ?_; refine cU rfl rfl rfl rfl rfl rfl ?_; refine cU rfl rfl rfl rfl rfl rfl ?_; refine aW rfl (fun _ hq13 => eD rfl rfl) ?_; refine aW rfl (fun _ hq13 => eE rfl) ?_; refine fR (fun wq12 hq13 => aA ?_); have hE14 := hE3.then hq13; refine aQ (aK rfl rfl ?_)
   exact ⟨true, rfl, by simp only [true_iff]; exact hok.ok (by omega) (fun h => by omega), hE14⟩
  obtain ⟨b1, o1, vs1, ha1, hb1, -, hc1, rfl⟩ := e1 0 (by omega); refine dH rfl rfl rfl rfl ?_; refine aW rfl (fun _ hq13 => bM rfl) ?_; refine dH rfl rfl rfl rfl ?_
  refine aW rfl (fun _ hq13 => fV (n := 0) (by rw [ha1]; rfl) rfl rfl dW (by omega)) ?_
  refine dH rfl rfl rfl rfl ?_; refine aW rfl (fun _ hq13 => aE rfl fF) ?_; refine dH rfl rfl rfl rfl ?_; refine aW rfl (fun _ hq13 => aI rfl cD ((hc1.evo (hE3.then hq13) (by simp)) 0 _ rfl)) ?_; refine dH rfl rfl rfl rfl ?_; refine aW rfl (fun _ hq13 => bM rfl) ?_; refine dH rfl rfl rfl rfl ?_
  refine aW rfl (fun _ hq13 => fV (n := 0) (by rw [ha1]; rfl) rfl rfl dW (by omega)) ?_
  refine dH rfl rfl rfl rfl ?_; refine aW rfl (fun _ hq13 => aE rfl eA) ?_; refine dH rfl rfl rfl rfl ?_; refine aW rfl (fun _ hq13 => aI rfl cD ((hc1.evo (hE3.then hq13) (by simp)) 1 _ rfl)) ?_; refine dH rfl rfl rfl rfl ?_; refine aW rfl (fun _ hq13 => gJ rfl rfl) ?_; refine aW rfl (fun _ hq13 => fS rfl rfl) ?_; refine aW rfl (fun _ hq13 => eE rfl) ?_; refine fR (fun wq12 hq13 => aA ?_); have hE16 := hE3.then hq13; refine aQ (aK rfl rfl ?_)
  exact ⟨_, rfl, by simp only [decide_eq_true_eq]; exact ⟨fun h => hok.ok (by omega) (fun _ => h), fun h => h.2 (by omega)⟩, hE16⟩
theorem uZ {w : World} (c : Nat) : Calls Tryz.prog 103 #[.int .i32 (c : Nat)] w (Ret fun v w' => v = .bool (decide (gK c)) ∧ Evo [] w w') := by
  refine bL (N := 29) Tryz.func103 rfl rfl rfl ?_; refine aF (aC (aM (aD (aA (aF (aC (aH (aB rfl (bC rfl rfl) ?_)))))))); refine aH (aX (t := 5) rfl (fun hs5 => ?_) (fun hs5 => ?_))
  ·skip
   refine aG (aG (aG (cI ?_))); refine cI ?_; refine aG (bD (aH (aG (aG (aG (cI ?_)))))); refine cI ?_; refine aG (bD (aH (aG (aG (aG (cI ?_)))))); refine cI ?_; refine aG (bD (aM (aD (aA (aQ (aK rfl rfl ?_)))))); refine ⟨congrArg Value.bool (Bool.eq_iff_iff.2 ?_), (Evo.refl [] w)⟩
   simp only [decide_eq_true_eq, Bool.false_eq_true, Bool.true_eq_false, true_iff, false_iff, eq_self, iff_true]; unfold gK; omega
  refine aP (aH (aP (aB rfl (fD rfl rfl) ?_))); refine aP (aH (aX (t := 8) rfl (fun hs8 => ?_) (fun hs8 => ?_)))
  ·skip
   refine aP (aH (aP (aB rfl (fM rfl rfl) ?_))); refine aP (bD (aV (aH (aX (t := 13) rfl (fun hs13 => ?_) (fun hs13 => ?_)))))
   ·skip
    refine aG (aG (aG (cI ?_))); refine cI ?_; refine aG (bD (aH (aG (aG (aG (cI ?_)))))); refine cI ?_; refine aG (bD (aM (aD (aA (aQ (aK rfl rfl ?_)))))); refine ⟨congrArg Value.bool (Bool.eq_iff_iff.2 ?_), (Evo.refl [] w)⟩
    simp only [decide_eq_true_eq, Bool.false_eq_true, Bool.true_eq_false, true_iff, false_iff, eq_self, iff_true]; unfold gK; omega
   refine aP (aH (aP (aB rfl (fD rfl rfl) ?_))); refine aP (aH (aX (t := 16) rfl (fun hs16 => ?_) (fun hs16 => ?_)))
   ·skip
    refine aP (aH (aP (aB rfl (fM rfl rfl) ?_))); refine aP (bD (aV (aH (aX (t := 21) rfl (fun hs21 => ?_) (fun hs21 => ?_)))))
    ·skip
     refine aG (aG (aG (cI ?_))); refine cI ?_; refine aG (bD (aM (aD (aA (aQ (aK rfl rfl ?_)))))); refine ⟨congrArg Value.bool (Bool.eq_iff_iff.2 ?_), (Evo.refl [] w)⟩
     simp only [decide_eq_true_eq, Bool.false_eq_true, Bool.true_eq_false, true_iff, false_iff, eq_self, iff_true]; unfold gK; omega
    refine aP (aH (aP (aB rfl (fD rfl rfl) ?_))); refine aP (aH (aX (t := 24) rfl (fun hs24 => ?_) (fun hs24 => ?_)))
    ·skip
     refine aP (aH (aP (aB rfl (fM rfl rfl) ?_))); refine aP (bD (aV (aM (aD (aA (aQ (aK rfl rfl ?_))))))); refine ⟨congrArg Value.bool (Bool.eq_iff_iff.2 ?_), (Evo.refl [] w)⟩
     simp only [decide_eq_true_eq, Bool.false_eq_true, Bool.true_eq_false, true_iff, false_iff, eq_self, iff_true]; unfold gK; omega
    refine aG (aG (aP (aV (aV (aM (aD (aA (aQ (aK rfl rfl ?_))))))))); refine ⟨congrArg Value.bool (Bool.eq_iff_iff.2 ?_), (Evo.refl [] w)⟩
    simp only [decide_eq_true_eq, Bool.false_eq_true, Bool.true_eq_false, true_iff, false_iff, eq_self, iff_true]; unfold gK; omega
   refine aG (aG (aP (aV (aV (aH (aP (aH (aP (aB rfl (fD rfl rfl) ?_))))))))); refine aP (aH (aX (t := 24) rfl (fun hs24 => ?_) (fun hs24 => ?_)))
   ·skip
    refine aP (aH (aP (aB rfl (fM rfl rfl) ?_))); refine aP (bD (aV (aM (aD (aA (aQ (aK rfl rfl ?_))))))); refine ⟨congrArg Value.bool (Bool.eq_iff_iff.2 ?_), (Evo.refl [] w)⟩
    simp only [decide_eq_true_eq, Bool.false_eq_true, Bool.true_eq_false, true_iff, false_iff, eq_self, iff_true]; unfold gK; omega
   refine aG (aG (aP (aV (aV (aM (aD (aA (aQ (aK rfl rfl ?_))))))))); refine ⟨congrArg Value.bool (Bool.eq_iff_iff.2 ?_), (Evo.refl [] w)⟩
   simp only [decide_eq_true_eq, Bool.false_eq_true, Bool.true_eq_false, true_iff, false_iff, eq_self, iff_true]; unfold gK; omega
  refine aG (aG (aP (aV (aV (aH (aP (aH (aP (aB rfl (fD rfl rfl) ?_))))))))); refine aP (aH (aX (t := 16) rfl (fun hs16 => ?_) (fun hs16 => ?_)))
  ·skip
   refine aP (aH (aP (aB rfl (fM rfl rfl) ?_))); refine aP (bD (aV (aH (aX (t := 21) rfl (fun hs21 => ?_) (fun hs21 => ?_)))))
   ·skip
    refine aG (aG (aG (cI ?_))); refine cI ?_; refine aG (bD (aM (aD (aA (aQ (aK rfl rfl ?_)))))); refine ⟨congrArg Value.bool (Bool.eq_iff_iff.2 ?_), (Evo.refl [] w)⟩
    simp only [decide_eq_true_eq, Bool.false_eq_true, Bool.true_eq_false, true_iff, false_iff, eq_self, iff_true]; unfold gK; omega
   refine aP (aH (aP (aB rfl (fD rfl rfl) ?_))); refine aP (aH (aX (t := 24) rfl (fun hs24 => ?_) (fun hs24 => ?_)))
   ·skip
    refine aP (aH (aP (aB rfl (fM rfl rfl) ?_))); refine aP (bD (aV (aM (aD (aA (aQ (aK rfl rfl ?_))))))); refine ⟨congrArg Value.bool (Bool.eq_iff_iff.2 ?_), (Evo.refl [] w)⟩
    simp only [decide_eq_true_eq, Bool.false_eq_true, Bool.true_eq_false, true_iff, false_iff, eq_self, iff_true]; unfold gK; omega
   refine aG (aG (aP (aV (aV (aM (aD (aA (aQ (aK rfl rfl ?_))))))))); refine ⟨congrArg Value.bool (Bool.eq_iff_iff.2 ?_), (Evo.refl [] w)⟩
   simp only [decide_eq_true_eq, Bool.false_eq_true, Bool.true_eq_false, true_iff, false_iff, eq_self, iff_true]; unfold gK; omega
  refine aG (aG (aP (aV (aV (aH (aP (aH (aP (aB rfl (fD rfl rfl) ?_))))))))); refine aP (aH (aX (t := 24) rfl (fun hs24 => ?_) (fun hs24 => ?_)))
  ·skip
   refine aP (aH (aP (aB rfl (fM rfl rfl) ?_))); refine aP (bD (aV (aM (aD (aA (aQ (aK rfl rfl ?_))))))); refine ⟨congrArg Value.bool (Bool.eq_iff_iff.2 ?_), (Evo.refl [] w)⟩
   simp only [decide_eq_true_eq, Bool.false_eq_true, Bool.true_eq_false, true_iff, false_iff, eq_self, iff_true]; unfold gK; omega
  refine aG (aG (aP (aV (aV (aM (aD (aA (aQ (aK rfl rfl ?_))))))))); refine ⟨congrArg Value.bool (Bool.eq_iff_iff.2 ?_), (Evo.refl [] w)⟩
  simp only [decide_eq_true_eq, Bool.false_eq_true, Bool.true_eq_false, true_iff, false_iff, eq_self, iff_true]; unfold gK; omega
structure CAt (w : World) (jb : Nat) (nodes caps : Nat) (ns : List ByteArray) (a : Option Addr) (c : Nat) (ob : Option Nat) : Prop where
  blk : w.heap[jb]? = some (.cells #[iv (nodes : Nat), iv (caps : Nat), .slice a ns.length c] 97 (0, 0))
  own : OwnS w 9 1 a ns.length c (ns.map sv) ob
  ne : ∀ g, ob = some g → g ≠ jb
def NameNew (nm : ByteArray) (ns : List ByteArray) : Prop := PM nm ∧ (nm = ByteArray.mk #[] ∨ nm ∉ ns)
theorem IJ {w : World} {jb nodes caps : Nat} {ns : List ByteArray} {a : Option Addr} {c : Nat} {ob : Option Nat} {nm : ByteArray} (hJ : CAt w jb nodes caps ns a c ob) (hl : ns.length ≤ 100000) (hn : nm.size ≤ 140737488351232) :
    Calls Tryz.prog 79 #[.pointer (some ⟨jb, 0, none⟩), .string nm] w (Ret fun v w' => ∃ b, v = .bool b ∧ (b = true ↔ NameNew nm ns) ∧ Evo (jb :: ob.toList) w w' ∧
      (b = true → ∃ a' c' ob', CAt w' jb nodes caps (ns ++ [nm]) a' c' ob' ∧ (ob' = ob ∨ ∃ g, ob' = some g ∧ w.heap.size ≤ g))) := by
  obtain ⟨hB, hO, hne⟩ := hJ
  have hAJN : Apart (some jb) ob := fun g h1 h2 => by cases h1; exact hne jb h2 rfl
  have hlt := fT hB; refine bL (N := 51) Tryz.func79 rfl rfl rfl ?_; refine aF (aC (aM (aD (aA (aF (aF (aC (aM (aD (aA (bX ?_))))))))))); refine eT (α := Nat) (0) (fun k => [(5, .int .i64 (k : Nat))]) [(0, _), (1, _)] (fun k wr => Evo [] w wr ∧ (k ≤ nm.size ∧ ∀ j, j < k → gK (sb nm j))) (fun k => nm.size - k) ⟨rfl, trivial⟩ ⟨rfl, rfl, trivial⟩ ⟨Evo.refl _ _, ⟨Nat.zero_le _, fun j h => by omega⟩⟩ ?_; rintro k wr1 ⟨hV2, ⟨hk, hok⟩⟩; show CW _ _ _ _ [(5, _), (0, _), (1, _)] _; have hE3 := (Evo.refl (jb :: ob.toList) w).then hV2; have hB4 := hV2.blk0 hB; have hO5 := hO.evo0 hV2; refine aF (aF (aC (aH (aH (aB rfl (cX rfl Tryz.underlying9 rfl) ?_))))); refine aB rfl (dF rfl rfl) ?_; refine aD (aA (bJ rfl (fun hc10 => ?_) (fun hc10 => ?_)))
  ·skip
   have hk' : k < nm.size := by omega
   refine bA (aA (aF (bX (aF (aC (aH (aH ?_))))))); refine aB rfl (gA (n := k) rfl rfl Tryz.underlying9 rfl (by omega)) ?_
   refine aB rfl (iX rfl Tryz.underlying5 Tryz.underlying21 (by have := jB nm k; simp [IntKind.min, IntKind.max, IntKind.signed, IntKind.bits] <;> omega) (by have := jB nm k; simp [IntKind.min, IntKind.max, IntKind.signed, IntKind.bits] <;> omega)) ?_
   refine aN (vs := [_]) tZ rfl (uZ (sb nm k)) rfl ?_; rintro _ w6 ⟨rfl, hw7⟩; have hE8 := hE3.then hw7; have hE9 := hV2.then hw7; refine aB rfl (lH rfl) ?_; refine aD (aA (bJ rfl (fun hc18 => ?_) (fun hc18 => ?_)))
   ·skip
    refine aF (aC (aM (aD (aA (aQ (aZ (aO (aO (aZ (aO (aK rfl rfl ?_)))))))))))
    exact ⟨false, rfl, by simp only [Bool.false_eq_true, false_iff]; exact fun h => hc18 (h.1 k hk'), hE8, fun h => by cases h⟩
   refine bA (aY (aA (aC (aH ?_)))); refine aB rfl (bF rfl rfl (by omega) (by omega)) ?_; refine aM (aD (bI ?_)); refine ⟨k + 1, ?_, ⟨rfl, trivial⟩, ⟨rfl, rfl, trivial⟩, hE9, ?_⟩
   · omega
   refine ⟨by omega, fun j hj => ?_⟩
   by_cases e : j < k
   · exact hok j e
   · obtain rfl : j = k := by omega
     exact Classical.not_not.1 hc18
  refine dT (cK (cK (dS (aA ?_)))); refine aF (aF (aC (aM (aD (aA (bX ?_)))))); refine eT (α := Nat) (0) (fun l => [(6, .int .i64 (l : Nat))]) [(0, _), (1, _)] (fun l wr => Evo [] wr1 wr ∧ (l ≤ ns.length ∧ ∀ j (hj : j < ns.length), j < l → nm = ByteArray.mk #[] ∨ ¬ ns[j] = nm)) (fun l => ns.length - l) ⟨rfl, trivial⟩ ⟨rfl, rfl, trivial⟩ ⟨Evo.refl _ _, ⟨Nat.zero_le _, fun j _ h => by omega⟩⟩ ?_; rintro l wr12 ⟨hV13, ⟨hl2, hno⟩⟩; show CW _ _ _ _ [(6, _), (0, _), (1, _)] _; have hE14 := hE3.then hV13; have hB16 := hV13.blk0 hB4; have hO17 := hO5.evo0 hV13; refine aF (aF (aC (aH (aH (aB rfl (aR rfl) (aB rfl (aE rfl lL) (aB rfl (aI rfl iH (aJ hB16 rfl)) (aB rfl (bO rfl Tryz.underlying22 rfl) ?_)))))))); refine aB rfl (dF rfl rfl) ?_; refine aD (aA (bJ rfl (fun hc25 => ?_) (fun hc25 => ?_)))
  ·skip
   have hl' : l < ns.length := by omega
   obtain ⟨gN, haN, hcN⟩ := DJ hO17 (by omega); refine bA (aA (aF (bX (aF (aC (aH (aB rfl (rJ rfl rfl) ?_))))))); refine aH (aX (t := 30) rfl (fun hs30 => ?_) (fun hs30 => ?_))
   ·skip
    refine aP (aH (aP (aB rfl (aR rfl) (aP (aB rfl (aE rfl lL) (aP (aB rfl (aI rfl iH (aJ hB16 rfl)) (aP (aH (aP ?_))))))))))
    refine aB rfl (dP (n := l) (by rw [haN]; rfl) rfl mK (by omega)) ?_
    refine aP ?_; refine aB rfl (aI rfl cR (hcN l (by omega))) ?_; refine aP (aH (aP (aB rfl (gD rfl rfl) ?_))); refine bD (aD (aA (bJ rfl (fun hc40 => ?_) (fun hc40 => ?_))))
    ·skip
     refine aF (aC (aM (aD (aA (aQ (aZ (aO (aO (aZ (aO (aK rfl rfl ?_)))))))))))
     exact ⟨false, rfl, by simp only [Bool.false_eq_true, false_iff]; exact fun h => by rcases h.2 with h1 | h1; exact hs30 h1; exact h1 (hc40 ▸ List.getElem_mem hl'), hE14, fun h => by cases h⟩
    refine bA (aY (aA (aC (aH ?_)))); refine aB rfl (bF rfl rfl (by omega) (by omega)) ?_; refine aM (aD (bI ?_)); refine ⟨l + 1, ?_, ⟨rfl, trivial⟩, ⟨rfl, rfl, trivial⟩, hV13, ?_⟩
    · omega
    refine ⟨by omega, fun j hj hjl => ?_⟩
    by_cases e : j < l
    · exact hno j hj e
    · obtain rfl : j = l := by omega
      first | exact .inl (Classical.not_not.1 hs30) | exact .inr hc40
   refine aG (aG (aG (aG (aG (aG (aG (aG (aG (aV (aD (aA (cQ rfl ?_)))))))))))); refine bA (aY (aA (aC (aH ?_)))); refine aB rfl (bF rfl rfl (by omega) (by omega)) ?_; refine aM (aD (bI ?_)); refine ⟨l + 1, ?_, ⟨rfl, trivial⟩, ⟨rfl, rfl, trivial⟩, hV13, ?_⟩
   · omega
   refine ⟨by omega, fun j hj hjl => ?_⟩
   by_cases e : j < l
   · exact hno j hj e
   · exact .inl (Classical.not_not.1 hs30)
  refine dT (cK (cK (dS (aA ?_)))); refine aF (aC (aH (aH (aB rfl (aR rfl) (aB rfl (aE rfl lL) (aB rfl (aI rfl iH (aJ hB16 rfl)) (aH (bP (vs := [_]) rfl pQ rfl rfl rfl rfl fun b18 w19 hO20 hs21 hw22 => ?_)))))))); have hE28 := hE14.then hw22; have hB31 := hw22.blk0 hB16; have hO32 := hO17.evo0 hw22; have hszg := (hE28).size; refine dX rfl rfl rfl rfl oM hO32 (Src.ofOwn hO20 ⟨rfl, trivial⟩) (by omega) fun a2 c2 w35 ob2 hO2 hw38 hob39 => ?_; have hA40 := hAJN.app (Lt.blk hB31) hob39; have hE42 := hE28.step hw38 (fun y hy => .inl (List.mem_cons_of_mem _ hy)); have hB45 := hw38.blk hB31 hAJN.nmem; have hob2 : ob2 = ob ∨ ∃ g, ob2 = some g ∧ w.heap.size ≤ g := hob39.imp id (fun ⟨g, h1, h2⟩ => ⟨g, h1, Nat.le_trans hszg h2⟩); refine aB rfl (aR rfl) (aB rfl (aE rfl lL) (bN rfl rfl (rfl) qX hB45 rfl fun w47 hB48 hw49 => ?_))
  have hE50 := hE42.step hw49 (fun y hy => .inl (by rw [List.mem_singleton.1 hy]; exact List.mem_cons_self ..))
  have hO52 := hO2.evo hw49 hA40.symm.own1
  try simp only [dB, Nat.reduceAdd] at hB48
  refine aD (aA (aF (aC (aM (aD (aA (aQ (aK rfl rfl ?_)))))))); refine ⟨true, rfl, ?_, hE50, fun _ => ⟨a2, c2, ob2, ⟨?_, ?_, IF hne hlt hob2⟩, hob2⟩⟩
  · simp only [true_iff]; exact ⟨fun j hj => hok j (by omega), DR (fun j hj => hno j hj (by omega))⟩
  · simp only [List.length_append, List.length_cons, List.length_nil]; exact hB48
  · rw [List.map_append, List.length_append]; exact hO52
end Go.Proofs.YtljadkcojnlioaaGreatDoor
namespace Go.Proofs.YtljadkcojnlioaaGreatDoor
open Go.Proofs
open Go.W Go.RowKit
attribute [local irreducible] Decidable.decide
theorem uC : Build Tryz.prog 97 #[(0, 1), (1, 1), (2, 1)] #[.int .i64 0, .int .i64 0, .slice none 0 0] := ⟨_, .agg #[.int .i64 0, .int .i64 0, .slice none 0 0], Tryz.underlying97, by kernel_rfl, rfl, fun w => by kernel_rfl⟩
theorem pT : gB Tryz.prog 97 0 = some 0 := by kernel_rfl
theorem jI : gB Tryz.prog 97 1 = some 1 := by kernel_rfl
theorem qZ : eM Tryz.prog 52 := ⟨_, Tryz.func52, by kernel_rfl, by kernel_rfl⟩
theorem vQ : eM Tryz.prog 76 := ⟨_, Tryz.func76, by kernel_rfl, by kernel_rfl⟩
theorem FL : eM Tryz.prog 77 := ⟨_, Tryz.func77, by kernel_rfl, by kernel_rfl⟩
theorem FK : eM Tryz.prog 78 := ⟨_, Tryz.func78, by kernel_rfl, by kernel_rfl⟩
theorem vP : eM Tryz.prog 79 := ⟨_, Tryz.func79, by kernel_rfl, by kernel_rfl⟩
theorem Brk.int (a k b : Int) : ∃ z, z = b + (if Brk a k then 1 else 0) := ⟨_, rfl⟩
theorem NodeF.bare {t : Rx} (h : NodeF t) : BareP t := ⟨h.zg, h.leaf, h.zr, h.zm1, h.zm2, h.zl, h.zc, h.zn⟩
theorem NP {t : Rx} {b : Int} {st : St} (hk : t.kind = 2 ∨ t.kind = 3) (h1 : st.1 + 1 ≤ 8194) (hb : b ≤ 250) (hba : BareP t) :
    ((t.fine b st).isSome = true ↔ (t.kind = 2 → 0 ≤ t.r ∧ t.r ≤ 1114111) ∧ (t.kind = 3 → RangesOk t.ranges)) ∧ ∀ st', t.fine b st = some st' → st' = (st.1 + 1, st.2) := by
  have hks : t.kids = [] := List.length_eq_zero_iff.1 (by have := hba.zk; omega)
  have h7 : ¬ t.kind = 7 := by omega
  by_cases hp : (t.kind = 2 → 0 ≤ t.r ∧ t.r ≤ 1114111) ∧ (t.kind = 3 → RangesOk t.ranges)
  · have hf : NodeP t := (bE t).2 ⟨by omega, by omega, hba.zr, hba.zg, hba.zm1, hba.zm2, hba.zl, hba.zc, hba.zn, fun k => (hp.1 k).1, fun k => (hp.1 k).2, hp.2, fun k => by omega, fun k => by omega, fun k => by omega, fun k => by omega, fun k => by omega, fun k => by omega, hba.zk⟩
    have e := iK (x := t) (b := b) (st := st) ⟨h1, by rw [if_neg h7]; exact hb, hf, fun k => (h7 k).elim⟩
    rw [hks, if_neg h7, if_neg h7, fY] at e
    rw [e]
    exact ⟨⟨fun _ => hp, fun _ => rfl⟩, fun st' h => by cases h; rfl⟩
  · have e := fC (x := t) (b := b) (st := st) (fun h => hp (by have hf := (bE t).1 h.2.2.1; exact ⟨fun k => ⟨hf.lit1 k, hf.lit2 k⟩, hf.cls⟩))
    rw [e]
    exact ⟨⟨fun h => (by cases h), fun h => (hp h).elim⟩, fun st' h => by cases h⟩
set_option maxHeartbeats 8000000 in
theorem ES {n : Nat} (ih : ∀ {w : World} {jb : Nat} {st : St} {a : Option Addr} {c : Nat} {ob : Option Nat} {vs : List Value} {t : Rx} {k b0 : Int} (hJ : CAt w jb st.1 st.2.length st.2 a c ob) (hx : RRx n (jb :: ob.toList) w vs t) (hst : rR st) (hb0 : 0 ≤ b0) (hb1 : b0 ≤ 251), Calls Tryz.prog 52 #[.pointer (some ⟨jb, 0, none⟩), .agg vs.toArray, .int .i64 k, .int .i64 b0] w (Ret fun v w' => ∃ r, v = .bool r ∧ r = (t.fine (b0 + (if Brk t.kind k then 1 else 0)) st).isSome ∧ Evo (jb :: ob.toList) w w' ∧ ∀ st', t.fine (b0 + (if Brk t.kind k then 1 else 0)) st = some st' → rR st' ∧ ∃ a' c' ob', CAt w' jb st'.1 st'.2.length st'.2 a' c' ob' ∧ ∀ g, ob' = some g → g ∈ ob.toList ∨ w.heap.size ≤ g)) {w : World} {jb : Nat} {st : St} {a : Option Addr} {c : Nat} {ob : Option Nat} {vs : List Value} {t : Rx} {k b0 : Int} (hJ : CAt w jb st.1 st.2.length st.2 a c ob) (hx : RRx (n + 1) (jb :: ob.toList) w vs t) (hst : rR st) (hb0 : 0 ≤ b0) (hb1 : b0 ≤ 251) : Calls Tryz.prog 52 #[.pointer (some ⟨jb, 0, none⟩), .agg vs.toArray, .int .i64 k, .int .i64 b0] w (Ret fun v w' => ∃ r, v = .bool r ∧ r = (t.fine (b0 + (if Brk t.kind k then 1 else 0)) st).isSome ∧ Evo (jb :: ob.toList) w w' ∧ ∀ st', t.fine (b0 + (if Brk t.kind k then 1 else 0)) st = some st' → rR st' ∧ ∃ a' c' ob', CAt w' jb st'.1 st'.2.length st'.2 a' c' ob' ∧ ∀ g, ob' = some g → g ∈ ob.toList ∨ w.heap.size ≤ g) := by
  obtain ⟨b, hb⟩ := Brk.int t.kind k b0; rw [← hb]; obtain ⟨hB, hO, hne⟩ := hJ
  have hAJN : Apart (some jb) ob := fun g h1 h2 => by cases h1; exact hne jb h2 rfl
  have hlt := fT hB; have hst1 := hst.1; have hst2 := hst.2
  have hXlt : ∀ y, y ∈ jb :: ob.toList → y < w.heap.size := fun y hy => by
    rcases List.mem_cons.1 hy with h | h
    · rw [h]; exact hlt
    · have : ob = some y := by simpa using h
      subst this; exact hO.lt
  have hx0 := hx; obtain ⟨m, ra, rc, ka, kc, hm, rfl, hrg, hk, bl1, bl2, bl3⟩ := hx.get
  obtain rfl : m = n := by omega
  have hrg0 := hrg; obtain ⟨_, _, hke, hkc, e1⟩ := hk; cases hke; refine bL (N := 169) Tryz.func52 rfl rfl rfl ?_; refine aF (aC (gT rfl rfl fun b5 w1 hB2 hs3 hw4 => ?_)); have hsz_b5 := hs3; have hA5 := Apart.new (Lt.blk hB) hs3; have hA6 := Apart.new (Lt.own hO) hs3; have hE8 := (Evo.refl (jb :: ob.toList) w).then hw4; have hB9 := hw4.blk0 hB; have hO10 := hO.evo0 hw4; refine aM (aD (aA (aF (aC (aH (aB rfl (aR rfl) (aB rfl (aE rfl pT) (aB rfl (aI rfl aU (aJ hB9 rfl)) ?_)))))))); refine aB rfl (bF rfl rfl (by omega) (by omega)) ?_; refine aB rfl (aR rfl) (aB rfl (aE rfl pT) (bN rfl rfl (rfl) cB hB9 rfl fun w11 hB12 hw13 => ?_))
  have hE14 := hE8.step hw13 (fun y hy => .inl (by rw [List.mem_singleton.1 hy]; exact List.mem_cons_self ..))
  have hO15 := hO10.evo hw13 hAJN.symm.own1; have hB16 := hw13.blk hB2 hA5.symm.nmem1
  try simp only [dB, Nat.reduceAdd] at hB12
  refine aD (aA (aF (oK (α := Int) (fun z => [(3, .int .i64 z)]) [(0, _), (5, _), (8, _)] (fun z wr => Evo [] w11 wr ∧ (z = b)) ⟨rfl, rfl, rfl, trivial⟩ ?_ ?_)))
  ·skip
   refine aF (aC (aH (aB rfl (aE rfl dG) (aB rfl (aI rfl aU (aJ hB16 rfl)) (aN (vs := [_, _]) vQ rfl (vM k t.kind) rfl ?_))))); rintro _ w17 ⟨rfl, hw18⟩; have hE20 := (Evo.refl [] w11).then hw18; refine aD (aA (bJ rfl (fun hc21 => ?_) (fun hc21 => ?_)))
   ·skip
    refine aC (aH ?_); refine aB rfl (bF rfl rfl (by omega) (by omega)) ?_; refine aM (aD (bI ?_)); refine ⟨(b0 + 1), ⟨rfl, trivial⟩, ⟨rfl, rfl, rfl, trivial⟩, hE20, ?_⟩; rw [hb, if_pos hc21]
   refine bA (bI ?_); refine ⟨b0, ⟨rfl, trivial⟩, ⟨rfl, rfl, rfl, trivial⟩, hE20, ?_⟩
   rw [hb, if_neg hc21]; omega
  rintro z w24 ⟨hV25, hz⟩; refine aA ?_; show CW _ _ _ _ [(3, _), (0, _), (5, _), (8, _)] _; have hE26 := hE14.then hV25; have hB27 := hV25.blk0 hB12; have hO28 := hO15.evo0 hV25; have hB29 := hV25.blk0 hB16; refine aF (aF (aC (aH (aB rfl (aR rfl) (aB rfl (aE rfl pT) (aB rfl (aI rfl aU (aJ hB27 rfl)) (aB rfl (eZ rfl rfl) ?_))))))); refine aH (aX (t := 29) rfl (fun hs29 => ?_) (fun hs29 => ?_))
  ·skip
   refine aG (aG (bD (aH (aG (aG (aG (bD (aH (aG (aG (aG (bD (aH (aG ?_)))))))))))))); refine aG (aG (bD (aD (aA (cW rfl ?_))))); refine aF (aC (aM (aD (aA (aQ (aO (aK rfl rfl ?_)))))))
   have hno := fC (x := t) (b := b) (st := st) (fun h => by obtain ⟨h1, h2, h3, h4⟩ := h; have hf := (bE t).1 h3; (omega))
   exact ⟨false, rfl, by rw [hno]; rfl, hE26, fun st' h => by rw [hno] at h; cases h⟩
  refine aP (aH (aP (aB rfl (eZ rfl rfl) ?_))); refine aV (aH (aX (t := 33) rfl (fun hs33 => ?_) (fun hs33 => ?_)))
  ·skip
   refine aG (aG (aG (bD (aH (aG (aG (aG (bD (aH (aG (aG (aG (bD (aD (aA ?_))))))))))))))); refine cW rfl ?_; refine aF (aC (aM (aD (aA (aQ (aO (aK rfl rfl ?_)))))))
   have hno := fC (x := t) (b := b) (st := st) (fun h => by obtain ⟨h1, h2, h3, h4⟩ := h; have hf := (bE t).1 h3; (split at h2 <;> omega))
   exact ⟨false, rfl, by rw [hno]; rfl, hE26, fun st' h => by rw [hno] at h; cases h⟩
  refine aP (aB rfl (aE rfl dG) (aP (aB rfl (aI rfl aU (aJ hB29 rfl)) (aP (aB rfl (dF rfl rfl) ?_))))); refine aV (aH (aX (t := 38) rfl (fun hs38 => ?_) (fun hs38 => ?_)))
  ·skip
   refine aG (aG (aG (bD (aH (aG (aG (aG (bD (aD (aA (cW rfl ?_))))))))))); refine aF (aC (aM (aD (aA (aQ (aO (aK rfl rfl ?_)))))))
   have hno := fC (x := t) (b := b) (st := st) (fun h => by obtain ⟨h1, h2, h3, h4⟩ := h; have hf := (bE t).1 h3; (have := hf.kind1; omega))
   exact ⟨false, rfl, by rw [hno]; rfl, hE26, fun st' h => by rw [hno] at h; cases h⟩
  refine aP (aB rfl (aE rfl dG) (aP (aB rfl (aI rfl aU (aJ hB29 rfl)) (aP (aB rfl (eZ rfl rfl) ?_))))); refine aV (aH (aX (t := 43) rfl (fun hs43 => ?_) (fun hs43 => ?_)))
  ·skip
   refine aG (aG (aG (bD (aD (aA (cW rfl ?_)))))); refine aF (aC (aM (aD (aA (aQ (aO (aK rfl rfl ?_)))))))
   have hno := fC (x := t) (b := b) (st := st) (fun h => by obtain ⟨h1, h2, h3, h4⟩ := h; have hf := (bE t).1 h3; (have := hf.kind2; omega))
   exact ⟨false, rfl, by rw [hno]; rfl, hE26, fun st' h => by rw [hno] at h; cases h⟩
  refine aP (aB rfl (cA rfl bS bG hB29 rfl) (aP (aN (vs := [_]) FL rfl (bare_ok (RRx.pers _ _ _ _ _ _ hE26 hx0)) rfl ?_))); rintro _ w30 ⟨bb, rfl, hbb, hw31⟩; have hE32 := hE26.then hw31; have hB33 := hw31.blk0 hB27; have hO34 := hO28.evo0 hw31; have hB35 := hw31.blk0 hB29; refine aP (aB rfl (eO rfl) ?_); refine aV (aD (aA (fB rfl (fun hc47 => ?_) (fun hc47 => ?_))))
  ·skip
   refine aF (aC (aM (aD (aA (aQ (aO (aK rfl rfl ?_)))))))
   have hno := fC (x := t) (b := b) (st := st) (fun h => by obtain ⟨h1, h2, h3, h4⟩ := h; have hf := (bE t).1 h3; (have := hbb.2 hf.bare; rw [this] at hc47; cases hc47))
   exact ⟨false, rfl, by rw [hno]; rfl, hE32, fun st' h => by rw [hno] at h; cases h⟩
  refine bA (aA (aF (oK (α := Int × St × Option Addr × Nat × Option Nat) (fun x => [(3, .int .i64 x.1)]) [(0, _), (5, _)] (fun x wr => Evo (jb :: ob.toList) w wr ∧ ((0 ≤ x.1 ∧ x.1 ≤ 250) ∧ x.2.1 = (st.1 + 1, if t.kind = 7 then st.2 ++ [t.name] else st.2) ∧ t.fine b st = fY t.kids t.kind x.1 x.2.1 ∧ CAt wr jb x.2.1.1 x.2.1.2.length x.2.1.2 x.2.2.1 x.2.2.2.1 x.2.2.2.2 ∧ (∀ g, x.2.2.2.2 = some g → g ∈ ob.toList ∨ w.heap.size ≤ g) ∧ wr.heap[b5]? = some (.cells #[iv t.kind, .int .i32 t.r, .slice ra t.ranges.length rc, iv t.min, iv t.max, .bool t.lazy, iv t.cap, .string t.name, .slice ka t.kids.length kc] 27 (0, 0)) ∧ b5 ∉ jb :: x.2.2.2.2.toList)) ⟨rfl, rfl, trivial⟩ ?_ ?_)))
  ·skip
   refine aF ?_; have hba := hbb.1 (by simpa using hc47); refine aC (aB rfl (aE rfl dG) (aB rfl (aI rfl aU (aJ hB35 rfl)) (aD (aA (bX (aF (aC (aB rfl (bC rfl rfl) ?_)))))))); refine aM (aD (aA (bJ rfl (fun hc50 => ?_) (fun hc50 => ?_))))
   ·skip
    refine aF (aC (aB rfl (aE rfl eL) (aB rfl (aI rfl cD (aJ hB35 rfl)) (aB rfl (fD rfl rfl) ?_)))); refine aH (aX (t := 55) rfl (fun hs55 => ?_) (fun hs55 => ?_))
    ·skip
     refine aP (aB rfl (aE rfl eL) (aP (aB rfl (aI rfl cD (aJ hB35 rfl)) (aP (aB rfl (fM rfl rfl) ?_))))); refine bD (aM (aD (aA (aQ (aZ (aO (aO (aK rfl rfl ?_)))))))); have hlf := NP (t := t) (b := b) (st := st) (by omega) (by omega) (by omega) hba
     refine ⟨_, rfl, Bool.eq_iff_iff.2 (by rw [hlf.1]; simp only [decide_eq_true_eq]; exact ⟨fun h => ⟨fun _ => ⟨by omega, h⟩, fun h => by omega⟩, fun h => (h.1 (by omega)).2⟩), hE32, fun st' h => ?_⟩
     rw [hlf.2 st' h]
     exact ⟨⟨by show st.2.length ≤ st.1 + 1; omega, by show st.1 + 1 ≤ 8194; omega⟩, a, c, ob, ⟨hB33, hO34, hne⟩, fun g hg => .inl (by simp [hg])⟩
    refine aG (aG (aG (aV (aM (aD (aA (aQ (aZ (aO (aO (aK rfl rfl ?_))))))))))); have hlf := NP (t := t) (b := b) (st := st) (by omega) (by omega) (by omega) hba
    refine ⟨_, rfl, Bool.eq_iff_iff.2 (by rw [hlf.1]; simp only [Bool.false_eq_true, false_iff]; intro h; have := h.1 (by omega); omega), hE32, fun st' h => ?_⟩
    rw [hlf.2 st' h]
    exact ⟨⟨by show st.2.length ≤ st.1 + 1; omega, by show st.1 + 1 ≤ 8194; omega⟩, a, c, ob, ⟨hB33, hO34, hne⟩, fun g hg => .inl (by simp [hg])⟩
   refine aF (aC (aB rfl (bC rfl rfl) ?_)); refine aM (aD (aA (bJ rfl (fun hc60 => ?_) (fun hc60 => ?_))))
   ·skip
    refine aF (aC (aB rfl (aE rfl eP) (aB rfl (aI rfl fX (aJ hB35 rfl)) (aN (vs := [_]) FK rfl (KA (RSl.evo RRg.pers hE32 hrg0) bl1) rfl ?_)))); rintro _ w36 ⟨rb, rfl, hrb, hw37⟩; have hE38 := hE32.then hw37; have hB39 := hw37.blk0 hB33; have hO40 := hO34.evo0 hw37; refine aM (aD (aA (aQ (aZ (aO (aO (aK rfl rfl ?_))))))); have hlf := NP (t := t) (b := b) (st := st) (by omega) (by omega) (by omega) hba
    refine ⟨_, rfl, Bool.eq_iff_iff.2 (by rw [hlf.1]; rw [hrb]; exact ⟨fun h => ⟨fun h => by omega, fun _ => h⟩, fun h => h.2 (by omega)⟩), hE38, fun st' h => ?_⟩
    rw [hlf.2 st' h]
    exact ⟨⟨by show st.2.length ≤ st.1 + 1; omega, by show st.1 + 1 ≤ 8194; omega⟩, a, c, ob, ⟨hB39, hO40, hne⟩, fun g hg => .inl (by simp [hg])⟩
   refine aF (aF (aC (aB rfl (bC rfl rfl) ?_))); refine aM (aD (aA (bJ rfl (fun hc65 => ?_) (fun hc65 => ?_))))
   ·skip
    refine bA (aA (bJ rfl (fun hc65 => ?_) (fun hc65 => ?_)))
    ·skip
     refine aF (aC (aB rfl (aE rfl cM) (aB rfl (aI rfl cZ (aJ hB35 rfl)) (aB rfl (bO rfl Tryz.underlying25 rfl) ?_)))); refine aB rfl (dF rfl rfl) ?_; refine aD (aA (bJ rfl (fun hc71 => ?_) (fun hc71 => ?_)))
     ·skip
      refine aF (aC (aM (aD (aA (aQ (aZ (aO (aO (aK rfl rfl ?_)))))))))
      have hno := fC (x := t) (b := b) (st := st) (fun h => by obtain ⟨h1, h2, h3, h4⟩ := h; have hf := (bE t).1 h3; (have := hf.two; omega))
      exact ⟨false, rfl, by rw [hno]; rfl, hE32, fun st' h => by rw [hno] at h; cases h⟩
     refine bA (aY (bI ?_)); refine ⟨(z, (st.1 + 1, st.2), a, c, ob), ⟨rfl, trivial⟩, ⟨rfl, rfl, trivial⟩, hE32, ?_⟩
     have hfin0 := iK (x := t) (b := b) (st := st) ⟨by omega, (by rw [if_neg (by omega)]; omega), (bE t).2 ⟨by omega, by omega, hba.zr, hba.zg, hba.zm1, hba.zm2, hba.zl, hba.zc, hba.zn, fun k => by omega, fun k => by omega, fun k => by omega, fun k => by omega, fun k => by omega, fun k => by omega, fun k => by omega, fun k => by omega, fun k => by omega, hba.zk⟩, fun h => by omega⟩
     refine ⟨by simp only; omega, by simp only; rw [if_neg (by omega)], ?_, ?_, fun g hg => .inl (by have h9 : ob = some g := hg; simp [h9]), hB35, jO hA5.symm hA6.symm⟩
     · rw [hfin0, if_neg (by omega), if_neg (by omega), hz]
     · exact ⟨by simpa [List.length_append] using hB33, hO34, hne⟩
    refine aF (aC (aB rfl (bC rfl rfl) ?_)); refine aM (aD (aA (bJ rfl (fun hc72 => ?_) (fun hc72 => ?_))))
    ·skip
     refine aF (aC (aB rfl (aE rfl cM) (aB rfl (aI rfl cZ (aJ hB35 rfl)) (aB rfl (bO rfl Tryz.underlying25 rfl) ?_)))); refine aB rfl (gJ rfl rfl) ?_; refine aH (aX (t := 78) rfl (fun hs78 => ?_) (fun hs78 => ?_))
     ·skip
      refine aG (aG (aG (bD (aH (aG (aG (aG (bD (aH (aG (aG (aG (bD (aH ?_)))))))))))))); refine aG (aG (aG (bD (aH (aG (aG (aG (aG (cI ?_))))))))); refine cI ?_; refine cI ?_; refine cI ?_; refine cI ?_; refine aG (bD (aD (aA (cW rfl ?_)))); refine aF (aC (aM (aD (aA (aQ (aZ (aO (aO (aK rfl rfl ?_)))))))))
      have hno := fC (x := t) (b := b) (st := st) (fun h => by obtain ⟨h1, h2, h3, h4⟩ := h; have hf := (bE t).1 h3; (have f1 := hf.rep1; have f2 := hf.rep2; have f3 := hf.rep3; have f4 := hf.rep4; omega))
      exact ⟨false, rfl, by rw [hno]; rfl, hE32, fun st' h => by rw [hno] at h; cases h⟩
     refine aP (aB rfl (aE rfl bT) (aP (aB rfl (aI rfl aU (aJ hB35 rfl)) (aP (aB rfl (dF rfl rfl) ?_))))); refine aV (aH (aX (t := 83) rfl (fun hs83 => ?_) (fun hs83 => ?_)))
     ·skip
      refine aG (aG (aG (bD (aH (aG (aG (aG (bD (aH (aG (aG (aG (bD (aH ?_)))))))))))))); refine aG (aG (aG (aG (cI ?_)))); refine cI ?_; refine cI ?_; refine cI ?_; refine cI ?_; refine aG (bD (aD (aA (cW rfl ?_)))); refine aF (aC (aM (aD (aA (aQ (aZ (aO (aO (aK rfl rfl ?_)))))))))
      have hno := fC (x := t) (b := b) (st := st) (fun h => by obtain ⟨h1, h2, h3, h4⟩ := h; have hf := (bE t).1 h3; (have f1 := hf.rep1; have f2 := hf.rep2; have f3 := hf.rep3; have f4 := hf.rep4; omega))
      exact ⟨false, rfl, by rw [hno]; rfl, hE32, fun st' h => by rw [hno] at h; cases h⟩
     refine aP (aB rfl (aE rfl bT) (aP (aB rfl (aI rfl aU (aJ hB35 rfl)) (aP (aB rfl (eZ rfl rfl) ?_))))); refine aV (aH (aX (t := 88) rfl (fun hs88 => ?_) (fun hs88 => ?_)))
     ·skip
      refine aG (aG (aG (bD (aH (aG (aG (aG (bD (aH (aG (aG (aG (aG (cI ?_)))))))))))))); refine cI ?_; refine cI ?_; refine cI ?_; refine cI ?_; refine aG (bD (aD (aA (cW rfl ?_)))); refine aF (aC (aM (aD (aA (aQ (aZ (aO (aO (aK rfl rfl ?_)))))))))
      have hno := fC (x := t) (b := b) (st := st) (fun h => by obtain ⟨h1, h2, h3, h4⟩ := h; have hf := (bE t).1 h3; (have f1 := hf.rep1; have f2 := hf.rep2; have f3 := hf.rep3; have f4 := hf.rep4; omega))
      exact ⟨false, rfl, by rw [hno]; rfl, hE32, fun st' h => by rw [hno] at h; cases h⟩
     refine aP (aB rfl (aE rfl bY) (aP (aB rfl (aI rfl aU (aJ hB35 rfl)) (aP (aB rfl (dF rfl rfl) ?_))))); refine aV (aH (aX (t := 93) rfl (fun hs93 => ?_) (fun hs93 => ?_)))
     ·skip
      refine aG (aG (aG (bD (aH (aG (aG (aG (aG (cI ?_))))))))); refine cI ?_; refine cI ?_; refine cI ?_; refine cI ?_; refine aG (bD (aD (aA (cW rfl ?_)))); refine aF (aC (aM (aD (aA (aQ (aZ (aO (aO (aK rfl rfl ?_)))))))))
      have hno := fC (x := t) (b := b) (st := st) (fun h => by obtain ⟨h1, h2, h3, h4⟩ := h; have hf := (bE t).1 h3; (have f1 := hf.rep1; have f2 := hf.rep2; have f3 := hf.rep3; have f4 := hf.rep4; omega))
      exact ⟨false, rfl, by rw [hno]; rfl, hE32, fun st' h => by rw [hno] at h; cases h⟩
     refine aP (aB rfl (aE rfl bY) (aP (aB rfl (aI rfl aU (aJ hB35 rfl)) (aP (aB rfl (eZ rfl rfl) ?_))))); refine aV (aH (aX (t := 98) rfl (fun hs98 => ?_) (fun hs98 => ?_)))
     ·skip
      refine aG (aG (aG (aG (cI ?_)))); refine cI ?_; refine cI ?_; refine cI ?_; refine cI ?_; refine aG (bD (aD (aA (cW rfl ?_)))); refine aF (aC (aM (aD (aA (aQ (aZ (aO (aO (aK rfl rfl ?_)))))))))
      have hno := fC (x := t) (b := b) (st := st) (fun h => by obtain ⟨h1, h2, h3, h4⟩ := h; have hf := (bE t).1 h3; (have f1 := hf.rep1; have f2 := hf.rep2; have f3 := hf.rep3; have f4 := hf.rep4; omega))
      exact ⟨false, rfl, by rw [hno]; rfl, hE32, fun st' h => by rw [hno] at h; cases h⟩
     refine aP (aB rfl (aE rfl bY) (aP (aB rfl (aI rfl aU (aJ hB35 rfl)) (aP (aB rfl (fD rfl rfl) ?_))))); refine aP (aH (aX (t := 102) rfl (fun hs102 => ?_) (fun hs102 => ?_)))
     ·skip
      refine aP (aB rfl (aE rfl bY) (aP (aB rfl (aI rfl aU (aJ hB35 rfl)) (aP (aB rfl (aE rfl bT) (aP (aB rfl (aI rfl aU (aJ hB35 rfl)) (aP (aB rfl (dF rfl rfl) ?_))))))))); refine aP (bD (aV (aD (aA (bJ rfl (fun hc109 => ?_) (fun hc109 => ?_))))))
      ·skip
       refine aF (aC (aM (aD (aA (aQ (aZ (aO (aO (aK rfl rfl ?_)))))))))
       have hno := fC (x := t) (b := b) (st := st) (fun h => by obtain ⟨h1, h2, h3, h4⟩ := h; have hf := (bE t).1 h3; (have f1 := hf.rep1; have f2 := hf.rep2; have f3 := hf.rep3; have f4 := hf.rep4; omega))
       exact ⟨false, rfl, by rw [hno]; rfl, hE32, fun st' h => by rw [hno] at h; cases h⟩
      refine bA (aY (bI ?_)); refine ⟨(z, (st.1 + 1, st.2), a, c, ob), ⟨rfl, trivial⟩, ⟨rfl, rfl, trivial⟩, hE32, ?_⟩
      have hfin0 := iK (x := t) (b := b) (st := st) ⟨by omega, (by rw [if_neg (by omega)]; omega), (bE t).2 ⟨by omega, by omega, hba.zr, hba.zg, hba.zm1, hba.zm2, hba.zl, hba.zc, hba.zn, fun k => by omega, fun k => by omega, fun k => by omega, fun k => by omega, fun k => by omega, fun k => by omega, fun k => by omega, fun k => by omega, fun k => by omega, hba.zk⟩, fun h => by omega⟩
      refine ⟨by simp only; omega, by simp only; rw [if_neg (by omega)], ?_, ?_, fun g hg => .inl (by have h9 : ob = some g := hg; simp [h9]), hB35, jO hA5.symm hA6.symm⟩
      · rw [hfin0, if_neg (by omega), if_neg (by omega), hz]
      · exact ⟨by simpa [List.length_append] using hB33, hO34, hne⟩
     refine aG (aG (aG (aG (aG (aP (aV (aV (aD (aA (cQ rfl ?_)))))))))); refine bA (aY (bI ?_)); refine ⟨(z, (st.1 + 1, st.2), a, c, ob), ⟨rfl, trivial⟩, ⟨rfl, rfl, trivial⟩, hE32, ?_⟩
     have hfin0 := iK (x := t) (b := b) (st := st) ⟨by omega, (by rw [if_neg (by omega)]; omega), (bE t).2 ⟨by omega, by omega, hba.zr, hba.zg, hba.zm1, hba.zm2, hba.zl, hba.zc, hba.zn, fun k => by omega, fun k => by omega, fun k => by omega, fun k => by omega, fun k => by omega, fun k => by omega, fun k => by omega, fun k => by omega, fun k => by omega, hba.zk⟩, fun h => by omega⟩
     refine ⟨by simp only; omega, by simp only; rw [if_neg (by omega)], ?_, ?_, fun g hg => .inl (by have h9 : ob = some g := hg; simp [h9]), hB35, jO hA5.symm hA6.symm⟩
     · rw [hfin0, if_neg (by omega), if_neg (by omega), hz]
     · exact ⟨by simpa [List.length_append] using hB33, hO34, hne⟩
    refine aF (aC (aB rfl (bC rfl rfl) ?_)); refine aM (aD (aA (bJ rfl (fun hc110 => ?_) (fun hc110 => ?_))))
    ·skip
     refine aF (aC (aH (aB rfl (aR rfl) (aB rfl (aE rfl jI) (aB rfl (aI rfl aU (aJ hB33 rfl)) ?_))))); refine aB rfl (bF rfl rfl (by omega) (by omega)) ?_; refine aB rfl (aR rfl) (aB rfl (aE rfl jI) (bN rfl rfl (rfl) cB hB33 rfl fun w42 hB43 hw44 => ?_))
     have hE45 := hE32.step hw44 (fun y hy => .inl (by rw [List.mem_singleton.1 hy]; exact List.mem_cons_self ..))
     have hO46 := hO34.evo hw44 hAJN.symm.own1; have hB47 := hw44.blk hB35 hA5.symm.nmem1
     try simp only [dB, Nat.reduceAdd] at hB43
     refine aD (aA (aF (aF ?_))); refine hD (fun w0 w' => Evo (jb :: ob.toList) w0 w') (by kernel_rfl) (fun w48 hw49 => ?_); have hE50 := hE45.then hw49; have hB51 := hw49.blk0 hB43; have hO52 := hO46.evo0 hw49; have hB53 := hw49.blk0 hB47; refine bB 0 rfl (by kernel_rfl) (by kernel_rfl) (by kernel_rfl) rfl (fun _ hS => aE rfl cM) (Evo.refl (jb :: ob.toList) w48) ?_; refine bB 1 rfl (by kernel_rfl) (by kernel_rfl) (by kernel_rfl) rfl (fun _ hS => aI rfl cZ (aJ (hS.blk hB53 (jO hA5.symm hA6.symm)) rfl)) (Evo.refl (jb :: ob.toList) w48) ?_; refine bB 2 rfl (by kernel_rfl) (by kernel_rfl) (by kernel_rfl) rfl (fun _ hS => bO rfl Tryz.underlying25 rfl) (Evo.refl (jb :: ob.toList) w48) ?_; refine bB 3 rfl (by kernel_rfl) (by kernel_rfl) (by kernel_rfl) rfl (fun _ hS => gJ rfl rfl) (Evo.refl (jb :: ob.toList) w48) ?_; refine bB 4 rfl (by kernel_rfl) (by kernel_rfl) (by kernel_rfl) rfl (fun _ hS => bM rfl) (Evo.refl (jb :: ob.toList) w48) ?_; refine oZ (t := 123) rfl (fun hs123 => ?_) (fun hs123 => ?_)
     ·skip
      refine dJ 5 rfl rfl rfl rfl rfl rfl (by kernel_rfl) (by kernel_rfl) (by kernel_rfl) rfl (Evo.refl (jb :: ob.toList) w48) ?_; refine dJ 6 rfl rfl rfl rfl rfl rfl (by kernel_rfl) (by kernel_rfl) (by kernel_rfl) rfl (Evo.refl (jb :: ob.toList) w48) ?_; refine dJ 7 rfl rfl rfl rfl rfl rfl (by kernel_rfl) (by kernel_rfl) (by kernel_rfl) rfl (Evo.refl (jb :: ob.toList) w48) ?_; refine dJ 8 rfl rfl rfl rfl rfl rfl (by kernel_rfl) (by kernel_rfl) (by kernel_rfl) rfl (Evo.refl (jb :: ob.toList) w48) ?_; refine dJ 9 rfl rfl rfl rfl rfl rfl (by kernel_rfl) (by kernel_rfl) (by kernel_rfl) rfl (Evo.refl (jb :: ob.toList) w48) ?_; refine cL [10] (by kernel_rfl) rfl ⟨?_, trivial⟩; refine cV rfl ?_; refine aG (aD (cG (.inl (Evo.refl (jb :: ob.toList) w48)) ?_)); refine dJ 11 rfl rfl rfl rfl rfl rfl (by kernel_rfl) (by kernel_rfl) (by kernel_rfl) rfl (Evo.refl (jb :: ob.toList) w48) ?_; refine bB 12 rfl (by kernel_rfl) (by kernel_rfl) (by kernel_rfl) rfl (fun _ hS => eD rfl rfl) (Evo.refl (jb :: ob.toList) w48) ?_; refine bB 13 rfl (by kernel_rfl) (by kernel_rfl) (by kernel_rfl) rfl (fun _ hS => bM rfl) (Evo.refl (jb :: ob.toList) w48) ?_; refine dJ 14 rfl rfl rfl rfl rfl rfl (by kernel_rfl) (by kernel_rfl) (by kernel_rfl) rfl (Evo.refl (jb :: ob.toList) w48) ?_; refine dJ 15 rfl rfl rfl rfl rfl rfl (by kernel_rfl) (by kernel_rfl) (by kernel_rfl) rfl (Evo.refl (jb :: ob.toList) w48) ?_; refine dJ 16 rfl rfl rfl rfl rfl rfl (by kernel_rfl) (by kernel_rfl) (by kernel_rfl) rfl (Evo.refl (jb :: ob.toList) w48) ?_; refine cL [17] (by kernel_rfl) rfl ⟨?_, trivial⟩; refine cV rfl ?_; refine aG (aD (cG (.inl (Evo.refl (jb :: ob.toList) w48)) ?_))
      refine dJ 18 rfl rfl rfl rfl rfl rfl (by kernel_rfl) (by kernel_rfl) (by kernel_rfl) rfl (Evo.refl (jb :: ob.toList) w48) ?_; refine bB 19 rfl (by kernel_rfl) (by kernel_rfl) (by kernel_rfl) rfl (fun _ hS => eD rfl rfl) (Evo.refl (jb :: ob.toList) w48) ?_; refine bB 20 rfl (by kernel_rfl) (by kernel_rfl) (by kernel_rfl) rfl (fun _ hS => bM rfl) (Evo.refl (jb :: ob.toList) w48) ?_; refine dJ 21 rfl rfl rfl rfl rfl rfl (by kernel_rfl) (by kernel_rfl) (by kernel_rfl) rfl (Evo.refl (jb :: ob.toList) w48) ?_; refine dJ 22 rfl rfl rfl rfl rfl rfl (by kernel_rfl) (by kernel_rfl) (by kernel_rfl) rfl (Evo.refl (jb :: ob.toList) w48) ?_; refine dJ 23 rfl rfl rfl rfl rfl rfl (by kernel_rfl) (by kernel_rfl) (by kernel_rfl) rfl (Evo.refl (jb :: ob.toList) w48) ?_; refine cL [24] (by kernel_rfl) rfl ⟨?_, trivial⟩; refine cV rfl ?_; refine aG (aD (cG (.inl (Evo.refl (jb :: ob.toList) w48)) ?_)); refine dJ 25 rfl rfl rfl rfl rfl rfl (by kernel_rfl) (by kernel_rfl) (by kernel_rfl) rfl (Evo.refl (jb :: ob.toList) w48) ?_; refine bB 26 rfl (by kernel_rfl) (by kernel_rfl) (by kernel_rfl) rfl (fun _ hS => eD rfl rfl) (Evo.refl (jb :: ob.toList) w48) ?_; refine eH (by kernel_rfl) (aA ?_); refine cW rfl ?_; refine aF (aC (aM (aD (aA (aQ (aO (aZ (aO (aO (aK rfl rfl ?_))))))))))
      have hno := fC (x := t) (b := b) (st := st) (fun h => by obtain ⟨h1, h2, h3, h4⟩ := h; have hf := (bE t).1 h3; (have := hf.grp; omega))
      exact ⟨false, rfl, by rw [hno]; rfl, hE50, fun st' h => by rw [hno] at h; cases h⟩
     refine fI 5 rfl rfl rfl rfl rfl (by kernel_rfl) (by kernel_rfl) (by kernel_rfl) rfl (fun _ hS => aE rfl eB) (Evo.refl (jb :: ob.toList) w48) ?_; refine fI 6 rfl rfl rfl rfl rfl (by kernel_rfl) (by kernel_rfl) (by kernel_rfl) rfl (fun _ hS => aI rfl aU (aJ (hS.blk hB53 (jO hA5.symm hA6.symm)) rfl)) (Evo.refl (jb :: ob.toList) w48) ?_; refine fI 7 rfl rfl rfl rfl rfl (by kernel_rfl) (by kernel_rfl) (by kernel_rfl) rfl (fun _ hS => bM rfl) (Evo.refl (jb :: ob.toList) w48) ?_; refine fI 8 rfl rfl rfl rfl rfl (by kernel_rfl) (by kernel_rfl) (by kernel_rfl) rfl (fun _ hS => aR rfl) (Evo.refl (jb :: ob.toList) w48) ?_; refine fI 9 rfl rfl rfl rfl rfl (by kernel_rfl) (by kernel_rfl) (by kernel_rfl) rfl (fun _ hS => aE rfl jI) (Evo.refl (jb :: ob.toList) w48) ?_; refine cL [10] (by kernel_rfl) rfl ⟨?_, trivial⟩; refine cV rfl ?_; refine aP (aB rfl (aI rfl aU (aJ hB51 rfl)) (aD (cG (.inl (Evo.refl (jb :: ob.toList) w48)) ?_))); refine fI 11 rfl rfl rfl rfl rfl (by kernel_rfl) (by kernel_rfl) (by kernel_rfl) rfl (fun _ hS => gJ rfl rfl) (Evo.refl (jb :: ob.toList) w48) ?_; refine bB 12 rfl (by kernel_rfl) (by kernel_rfl) (by kernel_rfl) rfl (fun _ hS => fS rfl rfl) (Evo.refl (jb :: ob.toList) w48) ?_; refine bB 13 rfl (by kernel_rfl) (by kernel_rfl) (by kernel_rfl) rfl (fun _ hS => bM rfl) (Evo.refl (jb :: ob.toList) w48) ?_; refine oZ (t := 132) rfl (fun hs132 => ?_) (fun hs132 => ?_)
     ·skip
      refine dJ 14 rfl rfl rfl rfl rfl rfl (by kernel_rfl) (by kernel_rfl) (by kernel_rfl) rfl (Evo.refl (jb :: ob.toList) w48) ?_; refine dJ 15 rfl rfl rfl rfl rfl rfl (by kernel_rfl) (by kernel_rfl) (by kernel_rfl) rfl (Evo.refl (jb :: ob.toList) w48) ?_; refine dJ 16 rfl rfl rfl rfl rfl rfl (by kernel_rfl) (by kernel_rfl) (by kernel_rfl) rfl (Evo.refl (jb :: ob.toList) w48) ?_; refine cL [17] (by kernel_rfl) rfl ⟨?_, trivial⟩; refine cV rfl ?_; refine aG (aD (cG (.inl (Evo.refl (jb :: ob.toList) w48)) ?_)); refine dJ 18 rfl rfl rfl rfl rfl rfl (by kernel_rfl) (by kernel_rfl) (by kernel_rfl) rfl (Evo.refl (jb :: ob.toList) w48) ?_; refine bB 19 rfl (by kernel_rfl) (by kernel_rfl) (by kernel_rfl) rfl (fun _ hS => eD rfl rfl) (Evo.refl (jb :: ob.toList) w48) ?_; refine bB 20 rfl (by kernel_rfl) (by kernel_rfl) (by kernel_rfl) rfl (fun _ hS => bM rfl) (Evo.refl (jb :: ob.toList) w48) ?_; refine dJ 21 rfl rfl rfl rfl rfl rfl (by kernel_rfl) (by kernel_rfl) (by kernel_rfl) rfl (Evo.refl (jb :: ob.toList) w48) ?_; refine dJ 22 rfl rfl rfl rfl rfl rfl (by kernel_rfl) (by kernel_rfl) (by kernel_rfl) rfl (Evo.refl (jb :: ob.toList) w48) ?_; refine dJ 23 rfl rfl rfl rfl rfl rfl (by kernel_rfl) (by kernel_rfl) (by kernel_rfl) rfl (Evo.refl (jb :: ob.toList) w48) ?_; refine cL [24] (by kernel_rfl) rfl ⟨?_, trivial⟩; refine cV rfl ?_; refine aG (aD (cG (.inl (Evo.refl (jb :: ob.toList) w48)) ?_)); refine dJ 25 rfl rfl rfl rfl rfl rfl (by kernel_rfl) (by kernel_rfl) (by kernel_rfl) rfl (Evo.refl (jb :: ob.toList) w48) ?_
      refine bB 26 rfl (by kernel_rfl) (by kernel_rfl) (by kernel_rfl) rfl (fun _ hS => eD rfl rfl) (Evo.refl (jb :: ob.toList) w48) ?_; refine eH (by kernel_rfl) (aA ?_); refine cW rfl ?_; refine aF (aC (aM (aD (aA (aQ (aO (aZ (aO (aO (aK rfl rfl ?_))))))))))
      have hno := fC (x := t) (b := b) (st := st) (fun h => by obtain ⟨h1, h2, h3, h4⟩ := h; have hf := (bE t).1 h3; (have := (h4 (by omega)).1; omega))
      exact ⟨false, rfl, by rw [hno]; rfl, hE50, fun st' h => by rw [hno] at h; cases h⟩
     refine fI 14 rfl rfl rfl rfl rfl (by kernel_rfl) (by kernel_rfl) (by kernel_rfl) rfl (fun _ hS => bM rfl) (Evo.refl (jb :: ob.toList) w48) ?_; refine fI 15 rfl rfl rfl rfl rfl (by kernel_rfl) (by kernel_rfl) (by kernel_rfl) rfl (fun _ hS => aR rfl) (Evo.refl (jb :: ob.toList) w48) ?_; refine fI 16 rfl rfl rfl rfl rfl (by kernel_rfl) (by kernel_rfl) (by kernel_rfl) rfl (fun _ hS => aE rfl jI) (Evo.refl (jb :: ob.toList) w48) ?_; refine cL [17] (by kernel_rfl) rfl ⟨?_, trivial⟩; refine cV rfl ?_; refine aP (aB rfl (aI rfl aU (aJ hB51 rfl)) (aD (cG (.inl (Evo.refl (jb :: ob.toList) w48)) ?_))); refine fI 18 rfl rfl rfl rfl rfl (by kernel_rfl) (by kernel_rfl) (by kernel_rfl) rfl (fun _ hS => eZ rfl rfl) (Evo.refl (jb :: ob.toList) w48) ?_; refine bB 19 rfl (by kernel_rfl) (by kernel_rfl) (by kernel_rfl) rfl (fun _ hS => fS rfl rfl) (Evo.refl (jb :: ob.toList) w48) ?_; refine bB 20 rfl (by kernel_rfl) (by kernel_rfl) (by kernel_rfl) rfl (fun _ hS => bM rfl) (Evo.refl (jb :: ob.toList) w48) ?_; refine oZ (t := 139) rfl (fun hs139 => ?_) (fun hs139 => ?_)
     ·skip
      refine dJ 21 rfl rfl rfl rfl rfl rfl (by kernel_rfl) (by kernel_rfl) (by kernel_rfl) rfl (Evo.refl (jb :: ob.toList) w48) ?_; refine dJ 22 rfl rfl rfl rfl rfl rfl (by kernel_rfl) (by kernel_rfl) (by kernel_rfl) rfl (Evo.refl (jb :: ob.toList) w48) ?_; refine dJ 23 rfl rfl rfl rfl rfl rfl (by kernel_rfl) (by kernel_rfl) (by kernel_rfl) rfl (Evo.refl (jb :: ob.toList) w48) ?_; refine cL [24] (by kernel_rfl) rfl ⟨?_, trivial⟩; refine cV rfl ?_; refine aG (aD (cG (.inl (Evo.refl (jb :: ob.toList) w48)) ?_)); refine dJ 25 rfl rfl rfl rfl rfl rfl (by kernel_rfl) (by kernel_rfl) (by kernel_rfl) rfl (Evo.refl (jb :: ob.toList) w48) ?_; refine bB 26 rfl (by kernel_rfl) (by kernel_rfl) (by kernel_rfl) rfl (fun _ hS => eD rfl rfl) (Evo.refl (jb :: ob.toList) w48) ?_; refine eH (by kernel_rfl) (aA ?_); refine cW rfl ?_; refine aF (aC (aM (aD (aA (aQ (aO (aZ (aO (aO (aK rfl rfl ?_))))))))))
      have hno := fC (x := t) (b := b) (st := st) (fun h => by obtain ⟨h1, h2, h3, h4⟩ := h; have hf := (bE t).1 h3; (have := (h4 (by omega)).1; have := (h4 (by omega)).2.1; omega))
      exact ⟨false, rfl, by rw [hno]; rfl, hE50, fun st' h => by rw [hno] at h; cases h⟩
     refine fI 21 rfl rfl rfl rfl rfl (by kernel_rfl) (by kernel_rfl) (by kernel_rfl) rfl (fun _ hS => bM rfl) (Evo.refl (jb :: ob.toList) w48) ?_; have hszc := (hE50).size; have hlt5 := Lt.blk hB53; refine fI 22 rfl rfl rfl rfl rfl (by kernel_rfl) (by kernel_rfl) (by kernel_rfl) rfl (fun _ hS => aE rfl dR) (Evo.refl (jb :: ob.toList) w48) ?_; refine fI 23 rfl rfl rfl rfl rfl (by kernel_rfl) (by kernel_rfl) (by kernel_rfl) rfl (fun _ hS => aI rfl cR (aJ (hS.blk hB53 (jO hA5.symm hA6.symm)) rfl)) (Evo.refl (jb :: ob.toList) w48) ?_; refine cL [24] (by kernel_rfl) rfl ⟨?_, trivial⟩; refine cV rfl ?_; refine aP ?_; refine aN (vs := [_, _]) vP rfl (IJ ⟨hB51, hO52, hne⟩ (by omega) bl2) rfl ?_; rintro _ w54 ⟨gb, rfl, hgb, hw55, hgs⟩; have hE56 := hE50.step hw55 (fun y hy => .inl hy); have hE57 := (Evo.refl (jb :: ob.toList) w48).step hw55 (fun y hy => .inl hy); have hB58 := hw55.blk hB53 (jO hA5.symm hA6.symm); refine aD (cG (.inl hE57) ?_); refine fI 25 rfl rfl rfl rfl rfl (by kernel_rfl) (by kernel_rfl) (by kernel_rfl) rfl (fun _ hS => eO rfl) hE57 ?_; refine bB 26 rfl (by kernel_rfl) (by kernel_rfl) (by kernel_rfl) rfl (fun _ hS => fS rfl rfl) hE57 ?_; refine eH (by kernel_rfl) (aA ?_); refine fB rfl (fun hc145 => ?_) (fun hc145 => ?_)
     ·skip
      refine aF (aC (aM (aD (aA (aQ (aO (aZ (aO (aO (aK rfl rfl ?_))))))))))
      have hno := fC (x := t) (b := b) (st := st) (fun h => by obtain ⟨h1, h2, h3, h4⟩ := h; have hf := (bE t).1 h3; (have := hgb.2 (h4 (by omega)).2.2; rw [this] at hc145; cases hc145))
      exact ⟨false, rfl, by rw [hno]; rfl, hE56, fun st' h => by rw [hno] at h; cases h⟩
     obtain ⟨a2, c2, ob2, hJ2, hob2⟩ := hgs (by simpa using hc145); have hgb2 := hgb.1 (by simpa using hc145); have hAq5 := eG hA6.symm hlt5 hob2
     have hg9 : ∀ g, ob2 = some g → g ∈ ob.toList ∨ w.heap.size ≤ g := fun g hg => by rcases hob2 with h | ⟨g', h1, h2⟩; left; rw [← h, hg]; simp; right; rw [hg] at h1; cases h1; exact Nat.le_trans hszc h2
     refine bA (aA (aF (aC (aH ?_)))); refine aB rfl (bF rfl rfl (by omega) (by omega)) ?_; refine aM (aD (aA (aF (aC (aH (aB rfl (eZ rfl rfl) ?_)))))); refine aD (aA (bJ rfl (fun hc149 => ?_) (fun hc149 => ?_)))
     ·skip
      refine aF (aC (aM (aD (aA (aQ (aZ (aO (aO (aK rfl rfl ?_)))))))))
      have hno := fC (x := t) (b := b) (st := st) (fun h => by obtain ⟨h1, h2, h3, h4⟩ := h; have hf := (bE t).1 h3; (rw [if_pos (by omega)] at h2; omega))
      exact ⟨false, rfl, by rw [hno]; rfl, hE56, fun st' h => by rw [hno] at h; cases h⟩
     refine bA (aY (bI ?_)); refine ⟨(z + 1, (st.1 + 1, st.2 ++ [t.name]), a2, c2, ob2), ⟨rfl, trivial⟩, ⟨rfl, rfl, trivial⟩, hE56, ?_⟩
     have hfin0 := iK (x := t) (b := b) (st := st) ⟨by omega, (by rw [if_pos (by omega)]; omega), (bE t).2 ⟨by omega, by omega, hba.zr, hba.zg, hba.zm1, hba.zm2, hba.zl, hba.zc, hba.zn, fun k => by omega, fun k => by omega, fun k => by omega, fun k => by omega, fun k => by omega, fun k => by omega, fun k => by omega, fun k => by omega, fun k => by omega, hba.zk⟩, fun _ => ⟨by omega, by omega, hgb2⟩⟩
     refine ⟨by simp only; omega, by simp only; rw [if_pos (by omega)], ?_, ?_, hg9, hB58, jO hA5.symm hAq5⟩
     · rw [hfin0, if_pos (by omega), if_pos (by omega), hz]
     · exact ⟨by simpa [List.length_append] using hJ2.blk, hJ2.own, hJ2.ne⟩
    refine bA (aY (bI ?_)); refine ⟨(z, (st.1 + 1, st.2), a, c, ob), ⟨rfl, trivial⟩, ⟨rfl, rfl, trivial⟩, hE32, ?_⟩
    have hfin0 := iK (x := t) (b := b) (st := st) ⟨by omega, (by rw [if_neg (by omega)]; omega), (bE t).2 ⟨by omega, by omega, hba.zr, hba.zg, hba.zm1, hba.zm2, hba.zl, hba.zc, hba.zn, fun k => by omega, fun k => by omega, fun k => by omega, fun k => by omega, fun k => by omega, fun k => by omega, fun k => by omega, fun k => by omega, fun k => by omega, hba.zk⟩, fun h => by omega⟩
    refine ⟨by simp only; omega, by simp only; rw [if_neg (by omega)], ?_, ?_, fun g hg => .inl (by have h9 : ob = some g := hg; simp [h9]), hB35, jO hA5.symm hA6.symm⟩
    · rw [hfin0, if_neg (by omega), if_neg (by omega), hz]
    · exact ⟨by simpa [List.length_append] using hB33, hO34, hne⟩
   refine aC (aB rfl (bC rfl rfl) ?_); refine aM (aD (aA (bJ rfl (fun hc65 => ?_) (fun hc65 => ?_))))
   ·skip
    refine aF (aC (aB rfl (aE rfl cM) (aB rfl (aI rfl cZ (aJ hB35 rfl)) (aB rfl (bO rfl Tryz.underlying25 rfl) ?_)))); refine aB rfl (dF rfl rfl) ?_; refine aD (aA (bJ rfl (fun hc71 => ?_) (fun hc71 => ?_)))
    ·skip
     refine aF (aC (aM (aD (aA (aQ (aZ (aO (aO (aK rfl rfl ?_)))))))))
     have hno := fC (x := t) (b := b) (st := st) (fun h => by obtain ⟨h1, h2, h3, h4⟩ := h; have hf := (bE t).1 h3; (have := hf.two; omega))
     exact ⟨false, rfl, by rw [hno]; rfl, hE32, fun st' h => by rw [hno] at h; cases h⟩
    refine bA (aY (bI ?_)); refine ⟨(z, (st.1 + 1, st.2), a, c, ob), ⟨rfl, trivial⟩, ⟨rfl, rfl, trivial⟩, hE32, ?_⟩
    have hfin0 := iK (x := t) (b := b) (st := st) ⟨by omega, (by rw [if_neg (by omega)]; omega), (bE t).2 ⟨by omega, by omega, hba.zr, hba.zg, hba.zm1, hba.zm2, hba.zl, hba.zc, hba.zn, fun k => by omega, fun k => by omega, fun k => by omega, fun k => by omega, fun k => by omega, fun k => by omega, fun k => by omega, fun k => by omega, fun k => by omega, hba.zk⟩, fun h => by omega⟩
    refine ⟨by simp only; omega, by simp only; rw [if_neg (by omega)], ?_, ?_, fun g hg => .inl (by have h9 : ob = some g := hg; simp [h9]), hB35, jO hA5.symm hA6.symm⟩
    · rw [hfin0, if_neg (by omega), if_neg (by omega), hz]
    · exact ⟨by simpa [List.length_append] using hB33, hO34, hne⟩
   refine aF (aC (aB rfl (bC rfl rfl) ?_)); refine aM (aD (aA (bJ rfl (fun hc72 => ?_) (fun hc72 => ?_))))
   ·skip
    refine aF (aC (aB rfl (aE rfl cM) (aB rfl (aI rfl cZ (aJ hB35 rfl)) (aB rfl (bO rfl Tryz.underlying25 rfl) ?_)))); refine aB rfl (gJ rfl rfl) ?_; refine aH (aX (t := 78) rfl (fun hs78 => ?_) (fun hs78 => ?_))
    ·skip
     refine aG (aG (aG (bD (aH (aG (aG (aG (bD (aH (aG (aG (aG (bD (aH ?_)))))))))))))); refine aG (aG (aG (bD (aH (aG (aG (aG (aG (cI ?_))))))))); refine cI ?_; refine cI ?_; refine cI ?_; refine cI ?_; refine aG (bD (aD (aA (cW rfl ?_)))); refine aF (aC (aM (aD (aA (aQ (aZ (aO (aO (aK rfl rfl ?_)))))))))
     have hno := fC (x := t) (b := b) (st := st) (fun h => by obtain ⟨h1, h2, h3, h4⟩ := h; have hf := (bE t).1 h3; (have f1 := hf.rep1; have f2 := hf.rep2; have f3 := hf.rep3; have f4 := hf.rep4; omega))
     exact ⟨false, rfl, by rw [hno]; rfl, hE32, fun st' h => by rw [hno] at h; cases h⟩
    refine aP (aB rfl (aE rfl bT) (aP (aB rfl (aI rfl aU (aJ hB35 rfl)) (aP (aB rfl (dF rfl rfl) ?_))))); refine aV (aH (aX (t := 83) rfl (fun hs83 => ?_) (fun hs83 => ?_)))
    ·skip
     refine aG (aG (aG (bD (aH (aG (aG (aG (bD (aH (aG (aG (aG (bD (aH ?_)))))))))))))); refine aG (aG (aG (aG (cI ?_)))); refine cI ?_; refine cI ?_; refine cI ?_; refine cI ?_; refine aG (bD (aD (aA (cW rfl ?_)))); refine aF (aC (aM (aD (aA (aQ (aZ (aO (aO (aK rfl rfl ?_)))))))))
     have hno := fC (x := t) (b := b) (st := st) (fun h => by obtain ⟨h1, h2, h3, h4⟩ := h; have hf := (bE t).1 h3; (have f1 := hf.rep1; have f2 := hf.rep2; have f3 := hf.rep3; have f4 := hf.rep4; omega))
     exact ⟨false, rfl, by rw [hno]; rfl, hE32, fun st' h => by rw [hno] at h; cases h⟩
    refine aP (aB rfl (aE rfl bT) (aP (aB rfl (aI rfl aU (aJ hB35 rfl)) (aP (aB rfl (eZ rfl rfl) ?_))))); refine aV (aH (aX (t := 88) rfl (fun hs88 => ?_) (fun hs88 => ?_)))
    ·skip
     refine aG (aG (aG (bD (aH (aG (aG (aG (bD (aH (aG (aG (aG (aG (cI ?_)))))))))))))); refine cI ?_; refine cI ?_; refine cI ?_; refine cI ?_; refine aG (bD (aD (aA (cW rfl ?_)))); refine aF (aC (aM (aD (aA (aQ (aZ (aO (aO (aK rfl rfl ?_)))))))))
     have hno := fC (x := t) (b := b) (st := st) (fun h => by obtain ⟨h1, h2, h3, h4⟩ := h; have hf := (bE t).1 h3; (have f1 := hf.rep1; have f2 := hf.rep2; have f3 := hf.rep3; have f4 := hf.rep4; omega))
     exact ⟨false, rfl, by rw [hno]; rfl, hE32, fun st' h => by rw [hno] at h; cases h⟩
    refine aP (aB rfl (aE rfl bY) (aP (aB rfl (aI rfl aU (aJ hB35 rfl)) (aP (aB rfl (dF rfl rfl) ?_))))); refine aV (aH (aX (t := 93) rfl (fun hs93 => ?_) (fun hs93 => ?_)))
    ·skip
     refine aG (aG (aG (bD (aH (aG (aG (aG (aG (cI ?_))))))))); refine cI ?_; refine cI ?_; refine cI ?_; refine cI ?_; refine aG (bD (aD (aA (cW rfl ?_)))); refine aF (aC (aM (aD (aA (aQ (aZ (aO (aO (aK rfl rfl ?_)))))))))
     have hno := fC (x := t) (b := b) (st := st) (fun h => by obtain ⟨h1, h2, h3, h4⟩ := h; have hf := (bE t).1 h3; (have f1 := hf.rep1; have f2 := hf.rep2; have f3 := hf.rep3; have f4 := hf.rep4; omega))
     exact ⟨false, rfl, by rw [hno]; rfl, hE32, fun st' h => by rw [hno] at h; cases h⟩
    refine aP (aB rfl (aE rfl bY) (aP (aB rfl (aI rfl aU (aJ hB35 rfl)) (aP (aB rfl (eZ rfl rfl) ?_))))); refine aV (aH (aX (t := 98) rfl (fun hs98 => ?_) (fun hs98 => ?_)))
    ·skip
     refine aG (aG (aG (aG (cI ?_)))); refine cI ?_; refine cI ?_; refine cI ?_; refine cI ?_; refine aG (bD (aD (aA (cW rfl ?_)))); refine aF (aC (aM (aD (aA (aQ (aZ (aO (aO (aK rfl rfl ?_)))))))))
     have hno := fC (x := t) (b := b) (st := st) (fun h => by obtain ⟨h1, h2, h3, h4⟩ := h; have hf := (bE t).1 h3; (have f1 := hf.rep1; have f2 := hf.rep2; have f3 := hf.rep3; have f4 := hf.rep4; omega))
     exact ⟨false, rfl, by rw [hno]; rfl, hE32, fun st' h => by rw [hno] at h; cases h⟩
    refine aP (aB rfl (aE rfl bY) (aP (aB rfl (aI rfl aU (aJ hB35 rfl)) (aP (aB rfl (fD rfl rfl) ?_))))); refine aP (aH (aX (t := 102) rfl (fun hs102 => ?_) (fun hs102 => ?_)))
    ·skip
     refine aP (aB rfl (aE rfl bY) (aP (aB rfl (aI rfl aU (aJ hB35 rfl)) (aP (aB rfl (aE rfl bT) (aP (aB rfl (aI rfl aU (aJ hB35 rfl)) (aP (aB rfl (dF rfl rfl) ?_))))))))); refine aP (bD (aV (aD (aA (bJ rfl (fun hc109 => ?_) (fun hc109 => ?_))))))
     ·skip
      refine aF (aC (aM (aD (aA (aQ (aZ (aO (aO (aK rfl rfl ?_)))))))))
      have hno := fC (x := t) (b := b) (st := st) (fun h => by obtain ⟨h1, h2, h3, h4⟩ := h; have hf := (bE t).1 h3; (have f1 := hf.rep1; have f2 := hf.rep2; have f3 := hf.rep3; have f4 := hf.rep4; omega))
      exact ⟨false, rfl, by rw [hno]; rfl, hE32, fun st' h => by rw [hno] at h; cases h⟩
     refine bA (aY (bI ?_)); refine ⟨(z, (st.1 + 1, st.2), a, c, ob), ⟨rfl, trivial⟩, ⟨rfl, rfl, trivial⟩, hE32, ?_⟩
     have hfin0 := iK (x := t) (b := b) (st := st) ⟨by omega, (by rw [if_neg (by omega)]; omega), (bE t).2 ⟨by omega, by omega, hba.zr, hba.zg, hba.zm1, hba.zm2, hba.zl, hba.zc, hba.zn, fun k => by omega, fun k => by omega, fun k => by omega, fun k => by omega, fun k => by omega, fun k => by omega, fun k => by omega, fun k => by omega, fun k => by omega, hba.zk⟩, fun h => by omega⟩
     refine ⟨by simp only; omega, by simp only; rw [if_neg (by omega)], ?_, ?_, fun g hg => .inl (by have h9 : ob = some g := hg; simp [h9]), hB35, jO hA5.symm hA6.symm⟩
     · rw [hfin0, if_neg (by omega), if_neg (by omega), hz]
     · exact ⟨by simpa [List.length_append] using hB33, hO34, hne⟩
    refine aG (aG (aG (aG (aG (aP (aV (aV (aD (aA (cQ rfl ?_)))))))))); refine bA (aY (bI ?_)); refine ⟨(z, (st.1 + 1, st.2), a, c, ob), ⟨rfl, trivial⟩, ⟨rfl, rfl, trivial⟩, hE32, ?_⟩
    have hfin0 := iK (x := t) (b := b) (st := st) ⟨by omega, (by rw [if_neg (by omega)]; omega), (bE t).2 ⟨by omega, by omega, hba.zr, hba.zg, hba.zm1, hba.zm2, hba.zl, hba.zc, hba.zn, fun k => by omega, fun k => by omega, fun k => by omega, fun k => by omega, fun k => by omega, fun k => by omega, fun k => by omega, fun k => by omega, fun k => by omega, hba.zk⟩, fun h => by omega⟩
    refine ⟨by simp only; omega, by simp only; rw [if_neg (by omega)], ?_, ?_, fun g hg => .inl (by have h9 : ob = some g := hg; simp [h9]), hB35, jO hA5.symm hA6.symm⟩
    · rw [hfin0, if_neg (by omega), if_neg (by omega), hz]
    · exact ⟨by simpa [List.length_append] using hB33, hO34, hne⟩
   refine aF (aC (aB rfl (bC rfl rfl) ?_)); refine aM (aD (aA (bJ rfl (fun hc110 => ?_) (fun hc110 => ?_))))
   ·skip
    refine aF (aC (aH (aB rfl (aR rfl) (aB rfl (aE rfl jI) (aB rfl (aI rfl aU (aJ hB33 rfl)) ?_))))); refine aB rfl (bF rfl rfl (by omega) (by omega)) ?_; refine aB rfl (aR rfl) (aB rfl (aE rfl jI) (bN rfl rfl (rfl) cB hB33 rfl fun w59 hB60 hw61 => ?_))
    have hE62 := hE32.step hw61 (fun y hy => .inl (by rw [List.mem_singleton.1 hy]; exact List.mem_cons_self ..))
    have hO63 := hO34.evo hw61 hAJN.symm.own1; have hB64 := hw61.blk hB35 hA5.symm.nmem1
    try simp only [dB, Nat.reduceAdd] at hB60
    refine aD (aA (aF (aF ?_))); refine hD (fun w0 w' => Evo (jb :: ob.toList) w0 w') (by kernel_rfl) (fun w65 hw66 => ?_); have hE67 := hE62.then hw66; have hB68 := hw66.blk0 hB60; have hO69 := hO63.evo0 hw66; have hB70 := hw66.blk0 hB64; refine bB 0 rfl (by kernel_rfl) (by kernel_rfl) (by kernel_rfl) rfl (fun _ hS => aE rfl cM) (Evo.refl (jb :: ob.toList) w65) ?_; refine bB 1 rfl (by kernel_rfl) (by kernel_rfl) (by kernel_rfl) rfl (fun _ hS => aI rfl cZ (aJ (hS.blk hB70 (jO hA5.symm hA6.symm)) rfl)) (Evo.refl (jb :: ob.toList) w65) ?_; refine bB 2 rfl (by kernel_rfl) (by kernel_rfl) (by kernel_rfl) rfl (fun _ hS => bO rfl Tryz.underlying25 rfl) (Evo.refl (jb :: ob.toList) w65) ?_; refine bB 3 rfl (by kernel_rfl) (by kernel_rfl) (by kernel_rfl) rfl (fun _ hS => gJ rfl rfl) (Evo.refl (jb :: ob.toList) w65) ?_; refine bB 4 rfl (by kernel_rfl) (by kernel_rfl) (by kernel_rfl) rfl (fun _ hS => bM rfl) (Evo.refl (jb :: ob.toList) w65) ?_; refine oZ (t := 123) rfl (fun hs123 => ?_) (fun hs123 => ?_)
    ·skip
     refine dJ 5 rfl rfl rfl rfl rfl rfl (by kernel_rfl) (by kernel_rfl) (by kernel_rfl) rfl (Evo.refl (jb :: ob.toList) w65) ?_; refine dJ 6 rfl rfl rfl rfl rfl rfl (by kernel_rfl) (by kernel_rfl) (by kernel_rfl) rfl (Evo.refl (jb :: ob.toList) w65) ?_; refine dJ 7 rfl rfl rfl rfl rfl rfl (by kernel_rfl) (by kernel_rfl) (by kernel_rfl) rfl (Evo.refl (jb :: ob.toList) w65) ?_; refine dJ 8 rfl rfl rfl rfl rfl rfl (by kernel_rfl) (by kernel_rfl) (by kernel_rfl) rfl (Evo.refl (jb :: ob.toList) w65) ?_; refine dJ 9 rfl rfl rfl rfl rfl rfl (by kernel_rfl) (by kernel_rfl) (by kernel_rfl) rfl (Evo.refl (jb :: ob.toList) w65) ?_; refine cL [10] (by kernel_rfl) rfl ⟨?_, trivial⟩; refine cV rfl ?_; refine aG (aD (cG (.inl (Evo.refl (jb :: ob.toList) w65)) ?_)); refine dJ 11 rfl rfl rfl rfl rfl rfl (by kernel_rfl) (by kernel_rfl) (by kernel_rfl) rfl (Evo.refl (jb :: ob.toList) w65) ?_; refine bB 12 rfl (by kernel_rfl) (by kernel_rfl) (by kernel_rfl) rfl (fun _ hS => eD rfl rfl) (Evo.refl (jb :: ob.toList) w65) ?_; refine bB 13 rfl (by kernel_rfl) (by kernel_rfl) (by kernel_rfl) rfl (fun _ hS => bM rfl) (Evo.refl (jb :: ob.toList) w65) ?_; refine dJ 14 rfl rfl rfl rfl rfl rfl (by kernel_rfl) (by kernel_rfl) (by kernel_rfl) rfl (Evo.refl (jb :: ob.toList) w65) ?_; refine dJ 15 rfl rfl rfl rfl rfl rfl (by kernel_rfl) (by kernel_rfl) (by kernel_rfl) rfl (Evo.refl (jb :: ob.toList) w65) ?_; refine dJ 16 rfl rfl rfl rfl rfl rfl (by kernel_rfl) (by kernel_rfl) (by kernel_rfl) rfl (Evo.refl (jb :: ob.toList) w65) ?_; refine cL [17] (by kernel_rfl) rfl ⟨?_, trivial⟩; refine cV rfl ?_; refine aG (aD (cG (.inl (Evo.refl (jb :: ob.toList) w65)) ?_))
     refine dJ 18 rfl rfl rfl rfl rfl rfl (by kernel_rfl) (by kernel_rfl) (by kernel_rfl) rfl (Evo.refl (jb :: ob.toList) w65) ?_; refine bB 19 rfl (by kernel_rfl) (by kernel_rfl) (by kernel_rfl) rfl (fun _ hS => eD rfl rfl) (Evo.refl (jb :: ob.toList) w65) ?_; refine bB 20 rfl (by kernel_rfl) (by kernel_rfl) (by kernel_rfl) rfl (fun _ hS => bM rfl) (Evo.refl (jb :: ob.toList) w65) ?_; refine dJ 21 rfl rfl rfl rfl rfl rfl (by kernel_rfl) (by kernel_rfl) (by kernel_rfl) rfl (Evo.refl (jb :: ob.toList) w65) ?_; refine dJ 22 rfl rfl rfl rfl rfl rfl (by kernel_rfl) (by kernel_rfl) (by kernel_rfl) rfl (Evo.refl (jb :: ob.toList) w65) ?_; refine dJ 23 rfl rfl rfl rfl rfl rfl (by kernel_rfl) (by kernel_rfl) (by kernel_rfl) rfl (Evo.refl (jb :: ob.toList) w65) ?_; refine cL [24] (by kernel_rfl) rfl ⟨?_, trivial⟩; refine cV rfl ?_; refine aG (aD (cG (.inl (Evo.refl (jb :: ob.toList) w65)) ?_)); refine dJ 25 rfl rfl rfl rfl rfl rfl (by kernel_rfl) (by kernel_rfl) (by kernel_rfl) rfl (Evo.refl (jb :: ob.toList) w65) ?_; refine bB 26 rfl (by kernel_rfl) (by kernel_rfl) (by kernel_rfl) rfl (fun _ hS => eD rfl rfl) (Evo.refl (jb :: ob.toList) w65) ?_; refine eH (by kernel_rfl) (aA ?_); refine cW rfl ?_; refine aF (aC (aM (aD (aA (aQ (aO (aZ (aO (aO (aK rfl rfl ?_))))))))))
     have hno := fC (x := t) (b := b) (st := st) (fun h => by obtain ⟨h1, h2, h3, h4⟩ := h; have hf := (bE t).1 h3; (have := hf.grp; omega))
     exact ⟨false, rfl, by rw [hno]; rfl, hE67, fun st' h => by rw [hno] at h; cases h⟩
    refine fI 5 rfl rfl rfl rfl rfl (by kernel_rfl) (by kernel_rfl) (by kernel_rfl) rfl (fun _ hS => aE rfl eB) (Evo.refl (jb :: ob.toList) w65) ?_; refine fI 6 rfl rfl rfl rfl rfl (by kernel_rfl) (by kernel_rfl) (by kernel_rfl) rfl (fun _ hS => aI rfl aU (aJ (hS.blk hB70 (jO hA5.symm hA6.symm)) rfl)) (Evo.refl (jb :: ob.toList) w65) ?_; refine fI 7 rfl rfl rfl rfl rfl (by kernel_rfl) (by kernel_rfl) (by kernel_rfl) rfl (fun _ hS => bM rfl) (Evo.refl (jb :: ob.toList) w65) ?_; refine fI 8 rfl rfl rfl rfl rfl (by kernel_rfl) (by kernel_rfl) (by kernel_rfl) rfl (fun _ hS => aR rfl) (Evo.refl (jb :: ob.toList) w65) ?_; refine fI 9 rfl rfl rfl rfl rfl (by kernel_rfl) (by kernel_rfl) (by kernel_rfl) rfl (fun _ hS => aE rfl jI) (Evo.refl (jb :: ob.toList) w65) ?_; refine cL [10] (by kernel_rfl) rfl ⟨?_, trivial⟩; refine cV rfl ?_; refine aP (aB rfl (aI rfl aU (aJ hB68 rfl)) (aD (cG (.inl (Evo.refl (jb :: ob.toList) w65)) ?_))); refine fI 11 rfl rfl rfl rfl rfl (by kernel_rfl) (by kernel_rfl) (by kernel_rfl) rfl (fun _ hS => gJ rfl rfl) (Evo.refl (jb :: ob.toList) w65) ?_; refine bB 12 rfl (by kernel_rfl) (by kernel_rfl) (by kernel_rfl) rfl (fun _ hS => fS rfl rfl) (Evo.refl (jb :: ob.toList) w65) ?_; refine bB 13 rfl (by kernel_rfl) (by kernel_rfl) (by kernel_rfl) rfl (fun _ hS => bM rfl) (Evo.refl (jb :: ob.toList) w65) ?_; refine oZ (t := 132) rfl (fun hs132 => ?_) (fun hs132 => ?_)
    ·skip
     refine dJ 14 rfl rfl rfl rfl rfl rfl (by kernel_rfl) (by kernel_rfl) (by kernel_rfl) rfl (Evo.refl (jb :: ob.toList) w65) ?_; refine dJ 15 rfl rfl rfl rfl rfl rfl (by kernel_rfl) (by kernel_rfl) (by kernel_rfl) rfl (Evo.refl (jb :: ob.toList) w65) ?_; refine dJ 16 rfl rfl rfl rfl rfl rfl (by kernel_rfl) (by kernel_rfl) (by kernel_rfl) rfl (Evo.refl (jb :: ob.toList) w65) ?_; refine cL [17] (by kernel_rfl) rfl ⟨?_, trivial⟩; refine cV rfl ?_; refine aG (aD (cG (.inl (Evo.refl (jb :: ob.toList) w65)) ?_)); refine dJ 18 rfl rfl rfl rfl rfl rfl (by kernel_rfl) (by kernel_rfl) (by kernel_rfl) rfl (Evo.refl (jb :: ob.toList) w65) ?_; refine bB 19 rfl (by kernel_rfl) (by kernel_rfl) (by kernel_rfl) rfl (fun _ hS => eD rfl rfl) (Evo.refl (jb :: ob.toList) w65) ?_; refine bB 20 rfl (by kernel_rfl) (by kernel_rfl) (by kernel_rfl) rfl (fun _ hS => bM rfl) (Evo.refl (jb :: ob.toList) w65) ?_; refine dJ 21 rfl rfl rfl rfl rfl rfl (by kernel_rfl) (by kernel_rfl) (by kernel_rfl) rfl (Evo.refl (jb :: ob.toList) w65) ?_; refine dJ 22 rfl rfl rfl rfl rfl rfl (by kernel_rfl) (by kernel_rfl) (by kernel_rfl) rfl (Evo.refl (jb :: ob.toList) w65) ?_; refine dJ 23 rfl rfl rfl rfl rfl rfl (by kernel_rfl) (by kernel_rfl) (by kernel_rfl) rfl (Evo.refl (jb :: ob.toList) w65) ?_; refine cL [24] (by kernel_rfl) rfl ⟨?_, trivial⟩; refine cV rfl ?_; refine aG (aD (cG (.inl (Evo.refl (jb :: ob.toList) w65)) ?_)); refine dJ 25 rfl rfl rfl rfl rfl rfl (by kernel_rfl) (by kernel_rfl) (by kernel_rfl) rfl (Evo.refl (jb :: ob.toList) w65) ?_
     refine bB 26 rfl (by kernel_rfl) (by kernel_rfl) (by kernel_rfl) rfl (fun _ hS => eD rfl rfl) (Evo.refl (jb :: ob.toList) w65) ?_; refine eH (by kernel_rfl) (aA ?_); refine cW rfl ?_; refine aF (aC (aM (aD (aA (aQ (aO (aZ (aO (aO (aK rfl rfl ?_))))))))))
     have hno := fC (x := t) (b := b) (st := st) (fun h => by obtain ⟨h1, h2, h3, h4⟩ := h; have hf := (bE t).1 h3; (have := (h4 (by omega)).1; omega))
     exact ⟨false, rfl, by rw [hno]; rfl, hE67, fun st' h => by rw [hno] at h; cases h⟩
    refine fI 14 rfl rfl rfl rfl rfl (by kernel_rfl) (by kernel_rfl) (by kernel_rfl) rfl (fun _ hS => bM rfl) (Evo.refl (jb :: ob.toList) w65) ?_; refine fI 15 rfl rfl rfl rfl rfl (by kernel_rfl) (by kernel_rfl) (by kernel_rfl) rfl (fun _ hS => aR rfl) (Evo.refl (jb :: ob.toList) w65) ?_; refine fI 16 rfl rfl rfl rfl rfl (by kernel_rfl) (by kernel_rfl) (by kernel_rfl) rfl (fun _ hS => aE rfl jI) (Evo.refl (jb :: ob.toList) w65) ?_; refine cL [17] (by kernel_rfl) rfl ⟨?_, trivial⟩; refine cV rfl ?_; refine aP (aB rfl (aI rfl aU (aJ hB68 rfl)) (aD (cG (.inl (Evo.refl (jb :: ob.toList) w65)) ?_))); refine fI 18 rfl rfl rfl rfl rfl (by kernel_rfl) (by kernel_rfl) (by kernel_rfl) rfl (fun _ hS => eZ rfl rfl) (Evo.refl (jb :: ob.toList) w65) ?_; refine bB 19 rfl (by kernel_rfl) (by kernel_rfl) (by kernel_rfl) rfl (fun _ hS => fS rfl rfl) (Evo.refl (jb :: ob.toList) w65) ?_; refine bB 20 rfl (by kernel_rfl) (by kernel_rfl) (by kernel_rfl) rfl (fun _ hS => bM rfl) (Evo.refl (jb :: ob.toList) w65) ?_; refine oZ (t := 139) rfl (fun hs139 => ?_) (fun hs139 => ?_)
    ·skip
     refine dJ 21 rfl rfl rfl rfl rfl rfl (by kernel_rfl) (by kernel_rfl) (by kernel_rfl) rfl (Evo.refl (jb :: ob.toList) w65) ?_; refine dJ 22 rfl rfl rfl rfl rfl rfl (by kernel_rfl) (by kernel_rfl) (by kernel_rfl) rfl (Evo.refl (jb :: ob.toList) w65) ?_; refine dJ 23 rfl rfl rfl rfl rfl rfl (by kernel_rfl) (by kernel_rfl) (by kernel_rfl) rfl (Evo.refl (jb :: ob.toList) w65) ?_; refine cL [24] (by kernel_rfl) rfl ⟨?_, trivial⟩; refine cV rfl ?_; refine aG (aD (cG (.inl (Evo.refl (jb :: ob.toList) w65)) ?_)); refine dJ 25 rfl rfl rfl rfl rfl rfl (by kernel_rfl) (by kernel_rfl) (by kernel_rfl) rfl (Evo.refl (jb :: ob.toList) w65) ?_; refine bB 26 rfl (by kernel_rfl) (by kernel_rfl) (by kernel_rfl) rfl (fun _ hS => eD rfl rfl) (Evo.refl (jb :: ob.toList) w65) ?_; refine eH (by kernel_rfl) (aA ?_); refine cW rfl ?_; refine aF (aC (aM (aD (aA (aQ (aO (aZ (aO (aO (aK rfl rfl ?_))))))))))
     have hno := fC (x := t) (b := b) (st := st) (fun h => by obtain ⟨h1, h2, h3, h4⟩ := h; have hf := (bE t).1 h3; (have := (h4 (by omega)).1; have := (h4 (by omega)).2.1; omega))
     exact ⟨false, rfl, by rw [hno]; rfl, hE67, fun st' h => by rw [hno] at h; cases h⟩
    refine fI 21 rfl rfl rfl rfl rfl (by kernel_rfl) (by kernel_rfl) (by kernel_rfl) rfl (fun _ hS => bM rfl) (Evo.refl (jb :: ob.toList) w65) ?_; have hszc := (hE67).size; have hlt5 := Lt.blk hB70; refine fI 22 rfl rfl rfl rfl rfl (by kernel_rfl) (by kernel_rfl) (by kernel_rfl) rfl (fun _ hS => aE rfl dR) (Evo.refl (jb :: ob.toList) w65) ?_; refine fI 23 rfl rfl rfl rfl rfl (by kernel_rfl) (by kernel_rfl) (by kernel_rfl) rfl (fun _ hS => aI rfl cR (aJ (hS.blk hB70 (jO hA5.symm hA6.symm)) rfl)) (Evo.refl (jb :: ob.toList) w65) ?_; refine cL [24] (by kernel_rfl) rfl ⟨?_, trivial⟩; refine cV rfl ?_; refine aP ?_; refine aN (vs := [_, _]) vP rfl (IJ ⟨hB68, hO69, hne⟩ (by omega) bl2) rfl ?_; rintro _ w71 ⟨gb, rfl, hgb, hw72, hgs⟩; have hE73 := hE67.step hw72 (fun y hy => .inl hy); have hE74 := (Evo.refl (jb :: ob.toList) w65).step hw72 (fun y hy => .inl hy); have hB75 := hw72.blk hB70 (jO hA5.symm hA6.symm); refine aD (cG (.inl hE74) ?_); refine fI 25 rfl rfl rfl rfl rfl (by kernel_rfl) (by kernel_rfl) (by kernel_rfl) rfl (fun _ hS => eO rfl) hE74 ?_; refine bB 26 rfl (by kernel_rfl) (by kernel_rfl) (by kernel_rfl) rfl (fun _ hS => fS rfl rfl) hE74 ?_; refine eH (by kernel_rfl) (aA ?_); refine fB rfl (fun hc145 => ?_) (fun hc145 => ?_)
    ·skip
     refine aF (aC (aM (aD (aA (aQ (aO (aZ (aO (aO (aK rfl rfl ?_))))))))))
     have hno := fC (x := t) (b := b) (st := st) (fun h => by obtain ⟨h1, h2, h3, h4⟩ := h; have hf := (bE t).1 h3; (have := hgb.2 (h4 (by omega)).2.2; rw [this] at hc145; cases hc145))
     exact ⟨false, rfl, by rw [hno]; rfl, hE73, fun st' h => by rw [hno] at h; cases h⟩
    obtain ⟨a2, c2, ob2, hJ2, hob2⟩ := hgs (by simpa using hc145); have hgb2 := hgb.1 (by simpa using hc145); have hAq5 := eG hA6.symm hlt5 hob2
    have hg9 : ∀ g, ob2 = some g → g ∈ ob.toList ∨ w.heap.size ≤ g := fun g hg => by rcases hob2 with h | ⟨g', h1, h2⟩; left; rw [← h, hg]; simp; right; rw [hg] at h1; cases h1; exact Nat.le_trans hszc h2
    refine bA (aA (aF (aC (aH ?_)))); refine aB rfl (bF rfl rfl (by omega) (by omega)) ?_; refine aM (aD (aA (aF (aC (aH (aB rfl (eZ rfl rfl) ?_)))))); refine aD (aA (bJ rfl (fun hc149 => ?_) (fun hc149 => ?_)))
    ·skip
     refine aF (aC (aM (aD (aA (aQ (aZ (aO (aO (aK rfl rfl ?_)))))))))
     have hno := fC (x := t) (b := b) (st := st) (fun h => by obtain ⟨h1, h2, h3, h4⟩ := h; have hf := (bE t).1 h3; (rw [if_pos (by omega)] at h2; omega))
     exact ⟨false, rfl, by rw [hno]; rfl, hE73, fun st' h => by rw [hno] at h; cases h⟩
    refine bA (aY (bI ?_)); refine ⟨(z + 1, (st.1 + 1, st.2 ++ [t.name]), a2, c2, ob2), ⟨rfl, trivial⟩, ⟨rfl, rfl, trivial⟩, hE73, ?_⟩
    have hfin0 := iK (x := t) (b := b) (st := st) ⟨by omega, (by rw [if_pos (by omega)]; omega), (bE t).2 ⟨by omega, by omega, hba.zr, hba.zg, hba.zm1, hba.zm2, hba.zl, hba.zc, hba.zn, fun k => by omega, fun k => by omega, fun k => by omega, fun k => by omega, fun k => by omega, fun k => by omega, fun k => by omega, fun k => by omega, fun k => by omega, hba.zk⟩, fun _ => ⟨by omega, by omega, hgb2⟩⟩
    refine ⟨by simp only; omega, by simp only; rw [if_pos (by omega)], ?_, ?_, hg9, hB75, jO hA5.symm hAq5⟩
    · rw [hfin0, if_pos (by omega), if_pos (by omega), hz]
    · exact ⟨by simpa [List.length_append] using hJ2.blk, hJ2.own, hJ2.ne⟩
   refine bA (aY (bI ?_)); refine ⟨(z, (st.1 + 1, st.2), a, c, ob), ⟨rfl, trivial⟩, ⟨rfl, rfl, trivial⟩, hE32, ?_⟩
   have hfin0 := iK (x := t) (b := b) (st := st) ⟨by omega, (by rw [if_neg (by omega)]; omega), (bE t).2 ⟨by omega, by omega, hba.zr, hba.zg, hba.zm1, hba.zm2, hba.zl, hba.zc, hba.zn, fun k => by omega, fun k => by omega, fun k => by omega, fun k => by omega, fun k => by omega, fun k => by omega, fun k => by omega, fun k => by omega, fun k => by omega, hba.zk⟩, fun h => by omega⟩
   refine ⟨by simp only; omega, by simp only; rw [if_neg (by omega)], ?_, ?_, fun g hg => .inl (by have h9 : ob = some g := hg; simp [h9]), hB35, jO hA5.symm hA6.symm⟩
   · rw [hfin0, if_neg (by omega), if_neg (by omega), hz]
   · exact ⟨by simpa [List.length_append] using hB33, hO34, hne⟩
  rintro ⟨z2, s0, a', c', o'⟩ w76 ⟨hV77, ⟨hz2, hs0, hfin0, ⟨hB', hO', hne'⟩, hgo, hB5, hb5o⟩⟩; refine aA ?_; show CW _ _ _ _ [(3, .int .i64 z2), (0, _), (5, _)] _
  try dsimp only at hz2
  try dsimp only at hs0
  try dsimp only at hfin0
  try dsimp only at hB'
  try dsimp only at hO'
  try dsimp only at hne'
  try dsimp only at hgo
  try dsimp only at hB5
  try dsimp only at hb5o
  have hAJN' : Apart (some jb) o' := fun g h1 h2 => by cases h1; exact hne' jb h2 rfl
  have hA5J : Apart (some b5) (some jb) := fun g h1 h2 => by cases h1; cases h2; exact hb5o (by simp)
  have hA5N : Apart (some b5) o' := fun g h1 h2 => by cases h1; exact hb5o (by simp [h2])
  have hyo : ∀ y, y ∈ jb :: o'.toList → y ∈ jb :: ob.toList ∨ w.heap.size ≤ y := fun y hy => by rcases List.mem_cons.1 hy with h | h; left; rw [h]; simp; rcases hgo y (by simpa using h) with h1 | h1; left; exact List.mem_cons_of_mem _ h1; exact .inr h1
  have hsok0 : rR s0 := by rw [hs0]; exact ⟨by show (if t.kind = 7 then st.2 ++ [t.name] else st.2).length ≤ st.1 + 1; split; (rw [List.length_append]; simp; omega); omega, by show st.1 + 1 ≤ 8194; omega⟩
  refine aF (aF (aC (aM (aD (aA (bX (eT (α := Nat × St × Option Addr × Nat × Option Nat) ((0, s0, a', c', o')) (fun x => [(9, .int .i64 (x.1 : Nat))]) [(0, _), (3, _), (5, _)] (fun x wr => Evo (jb :: ob.toList) w wr ∧ (x.1 ≤ t.kids.length ∧ rR x.2.1 ∧ t.fine b st = fY (t.kids.drop x.1) t.kind z2 x.2.1 ∧ CAt wr jb x.2.1.1 x.2.1.2.length x.2.1.2 x.2.2.1 x.2.2.2.1 x.2.2.2.2 ∧ (∀ g, x.2.2.2.2 = some g → g ∈ ob.toList ∨ w.heap.size ≤ g) ∧ wr.heap[b5]? = some (.cells #[iv t.kind, .int .i32 t.r, .slice ra t.ranges.length rc, iv t.min, iv t.max, .bool t.lazy, iv t.cap, .string t.name, .slice ka t.kids.length kc] 27 (0, 0)) ∧ b5 ∉ jb :: x.2.2.2.2.toList)) (fun x => t.kids.length - x.1) ⟨rfl, trivial⟩ ⟨rfl, rfl, rfl, trivial⟩ ⟨hV77, ⟨Nat.zero_le _, hsok0, hfin0, ⟨hB', hO', hne'⟩, hgo, hB5, hb5o⟩⟩ ?_))))))); rintro ⟨j, s, a', c', o'⟩ wr78 ⟨hV79, ⟨hj, hsok, hfin, ⟨hB', hO', hne'⟩, hgo, hB5, hb5o⟩⟩; show CW _ _ _ _ [(9, .int .i64 (j : Nat)), (0, _), (3, _), (5, _)] _
  try dsimp only at hj
  try dsimp only at hsok
  try dsimp only at hfin
  try dsimp only at hB'
  try dsimp only at hO'
  try dsimp only at hne'
  try dsimp only at hgo
  try dsimp only at hB5
  try dsimp only at hb5o
  have hAJN' : Apart (some jb) o' := fun g h1 h2 => by cases h1; exact hne' jb h2 rfl
  have hA5J : Apart (some b5) (some jb) := fun g h1 h2 => by cases h1; cases h2; exact hb5o (by simp)
  have hA5N : Apart (some b5) o' := fun g h1 h2 => by cases h1; exact hb5o (by simp [h2])
  have hyo : ∀ y, y ∈ jb :: o'.toList → y ∈ jb :: ob.toList ∨ w.heap.size ≤ y := fun y hy => by rcases List.mem_cons.1 hy with h | h; left; rw [h]; simp; rcases hgo y (by simpa using h) with h1 | h1; left; exact List.mem_cons_of_mem _ h1; exact .inr h1
  refine aF (aF (aC (aH (aB rfl (aE rfl cM) (aB rfl (aI rfl cZ (aJ hB5 rfl)) (aB rfl (bO rfl Tryz.underlying25 rfl) ?_)))))); refine aB rfl (dF rfl rfl) ?_; refine aD (aA (bJ rfl (fun hc154 => ?_) (fun hc154 => ?_)))
  ·skip
   have hj' : j < t.kids.length := by omega
   obtain ⟨b1, o1, vs1, ha1, hb1, hvl1, hc1, hrk⟩ := e1 j hj'; obtain ⟨m1, ra1, rc1, ka1, kc1, rfl, rfl, -⟩ := id hrk.get; refine bA (aA (aF (bX (aF ?_)))); refine hD (fun w0 w' => Evo (jb :: o'.toList) w0 w') (by kernel_rfl) (fun w80 hw81 => ?_); have hE82 := hV79.then hw81; have hB83 := hw81.blk0 hB'; have hO84 := hO'.evo0 hw81; have hB85 := hw81.blk0 hB5; refine bB 0 rfl (by kernel_rfl) (by kernel_rfl) (by kernel_rfl) rfl (fun _ hS => bM rfl) (Evo.refl (jb :: o'.toList) w80) ?_; refine bB 1 rfl (by kernel_rfl) (by kernel_rfl) (by kernel_rfl) rfl (fun _ hS => aE rfl cM) (Evo.refl (jb :: o'.toList) w80) ?_; refine bB 2 rfl (by kernel_rfl) (by kernel_rfl) (by kernel_rfl) rfl (fun _ hS => aI rfl cZ (aJ (hS.blk hB85 (jO hA5J hA5N)) rfl)) (Evo.refl (jb :: o'.toList) w80) ?_; refine bB 3 rfl (by kernel_rfl) (by kernel_rfl) (by kernel_rfl) rfl (fun _ hS => bM rfl) (Evo.refl (jb :: o'.toList) w80) ?_
   refine bB 4 rfl (by kernel_rfl) (by kernel_rfl) (by kernel_rfl) rfl (fun _ hS => dP (n := j) (by rw [ha1]; rfl) rfl dV (by omega)) (Evo.refl (jb :: o'.toList) w80) ?_
   refine bB 5 rfl (by kernel_rfl) (by kernel_rfl) (by kernel_rfl) rfl (fun _ hS => eQ rfl bS bG (vs := [_, _, _, _, _, _, _, _, _]) rfl (hc1.evo (hE82.step hS (hyo)) hb1)) (Evo.refl (jb :: o'.toList) w80) ?_; refine bB 6 rfl (by kernel_rfl) (by kernel_rfl) (by kernel_rfl) rfl (fun _ hS => aE rfl dG) (Evo.refl (jb :: o'.toList) w80) ?_; refine bB 7 rfl (by kernel_rfl) (by kernel_rfl) (by kernel_rfl) rfl (fun _ hS => aI rfl aU (aJ (hS.blk hB85 (jO hA5J hA5N)) rfl)) (Evo.refl (jb :: o'.toList) w80) ?_; refine bB 8 rfl (by kernel_rfl) (by kernel_rfl) (by kernel_rfl) rfl (fun _ hS => bM rfl) (Evo.refl (jb :: o'.toList) w80) ?_; refine cL [9] (by kernel_rfl) rfl ⟨?_, trivial⟩; refine cV rfl ?_; have hsz54 := (hE82).size; have hlb5 := fT hB85; refine aN (vs := [_, _, _, _]) qZ rfl (ih ⟨hB83, hO84, hne'⟩ (RRx.step hrk hE82 hyo hXlt) hsok (by omega) (by omega)) rfl ?_; rintro _ w86 ⟨r, rfl, hr, hw87, hs2⟩; have hE88 := hE82.step hw87 (hyo); have hE89 := (Evo.refl (jb :: o'.toList) w80).step hw87 (fun y hy => .inl hy); have hB90 := hw87.blk hB85 (jO hA5J hA5N); refine aD (cG (.inl hE89) ?_); refine bB 10 rfl (by kernel_rfl) (by kernel_rfl) (by kernel_rfl) rfl (fun _ hS => eE rfl) hE89 ?_; refine eH (by kernel_rfl) (aA ?_); refine aF (aC (aH (aB rfl (eO rfl) ?_))); refine aD (aA (fB rfl (fun hc168 => ?_) (fun hc168 => ?_)))
   ·skip
    refine aF (aC (aM (aD (aA (aQ (aZ (aO (aO (aZ (aO (aK rfl rfl ?_)))))))))))
    have hn : t.kids[j].fine (z2 + if Brk t.kids[j].kind t.kind then 1 else 0) s = none := by
      cases h : t.kids[j].fine (z2 + if Brk t.kids[j].kind t.kind then 1 else 0) s with
      | none => rfl
      | some s3 => rw [h] at hr; simp at hr; rw [hr] at hc168; cases hc168
    have hno : t.fine b st = none := by rw [hfin, kY hj', hn]
    exact ⟨false, rfl, by rw [hno]; rfl, hE88, fun st' h => by rw [hno] at h; cases h⟩
   obtain ⟨s3, hs3⟩ := Option.isSome_iff_exists.1 (show (t.kids[j].fine _ s).isSome = true by rw [← hr]; simpa using hc168)
   obtain ⟨hsok3, a3, c3, o3, hJ3, ho3⟩ := hs2 s3 hs3
   have hg3 : ∀ g, o3 = some g → g ∈ ob.toList ∨ w.heap.size ≤ g := fun g hg => by rcases ho3 g hg with h | h; exact hgo g (by simpa using h); exact .inr (Nat.le_trans hsz54 h)
   have hb53 : b5 ∉ jb :: o3.toList := fun hm => by rcases List.mem_cons.1 hm with h | h; exact hb5o (by rw [h]; simp); rcases ho3 b5 (by simpa using h) with h1 | h1; exact hb5o (List.mem_cons_of_mem _ h1); omega
   refine bA (aY (aA (aC (aH ?_)))); refine aB rfl (bF rfl rfl (by omega) (by omega)) ?_; refine aM (aD (bI ?_)); refine ⟨(j + 1, s3, a3, c3, o3), ?_, ⟨rfl, trivial⟩, ⟨rfl, rfl, rfl, trivial⟩, hE88, ?_⟩
   · (try dsimp only); omega
   try dsimp only
   refine ⟨by omega, hsok3, ?_, ⟨hJ3.blk, hJ3.own, hJ3.ne⟩, hg3, hB90, hb53⟩; rw [hfin, kY hj', hs3]
  refine dT (cK (cK (dS (aA ?_)))); refine aF (aC (aM (aD (aA (aQ (aK rfl rfl ?_))))))
  have hn : t.fine b st = some s := by rw [hfin, tB (by omega)]
  exact ⟨true, rfl, by rw [hn]; rfl, hV79, fun st' h => by rw [hn] at h; cases h; exact ⟨hsok, a', c', o', ⟨hB', hO', hne'⟩, hgo⟩⟩
theorem uO : ∀ {n : Nat} {w : World} {jb : Nat} {st : St} {a : Option Addr} {c : Nat} {ob : Option Nat} {vs : List Value} {t : Rx} {k b0 : Int} (hJ : CAt w jb st.1 st.2.length st.2 a c ob) (hx : RRx n (jb :: ob.toList) w vs t) (hst : rR st) (hb0 : 0 ≤ b0) (hb1 : b0 ≤ 251), Calls Tryz.prog 52 #[.pointer (some ⟨jb, 0, none⟩), .agg vs.toArray, .int .i64 k, .int .i64 b0] w (Ret fun v w' => ∃ r, v = .bool r ∧ r = (t.fine (b0 + (if Brk t.kind k then 1 else 0)) st).isSome ∧ Evo (jb :: ob.toList) w w' ∧ ∀ st', t.fine (b0 + (if Brk t.kind k then 1 else 0)) st = some st' → rR st' ∧ ∃ a' c' ob', CAt w' jb st'.1 st'.2.length st'.2 a' c' ob' ∧ ∀ g, ob' = some g → g ∈ ob.toList ∨ w.heap.size ≤ g)
  | 0, w, jb, st, a, c, ob, vs, t, k, b0, hJ, hx, hs, h0, h1 => hx.elim
  | n + 1, w, jb, st, a, c, ob, vs, t, k, b0, hJ, hx, hs, h0, h1 => ES (n := n) (fun hJ hx hs h0 h1 => uO hJ hx hs h0 h1) hJ hx hs h0 h1
theorem CAt.new {w : World} {jb : Nat} (h : w.heap[jb]? = some (.cells #[iv 0, iv 0, .slice none 0 0] 97 (0, 0))) : CAt w jb 0 0 [] none 0 none := ⟨h, OwnS.nil _ _ _, fun g hg => by cases hg⟩
theorem vG {n : Nat} {w : World} {vs : List Value} {t : Rx} (hx : RRx n [] w vs t) :
    Calls Tryz.prog 20 #[.agg vs.toArray] w (Ret fun v w' => ∃ r, v = .bool r ∧ (r = true ↔ t.Ok) ∧ Evo [] w w') := by
  have hx0 := hx; obtain ⟨m, ra, rc, ka, kc, hm, rfl, hrg, hk, bl1, bl2, bl3⟩ := hx.get; refine bL (N := 9) Tryz.func20 rfl rfl rfl ?_; refine aF (aC (gT rfl rfl fun b1 w2 hB3 hs4 hw5 => ?_)); have hE7 := (Evo.refl [] w).then hw5; refine aM (aD (aA (aF (aC (aB rfl (eU (vs := []) uC rfl (cells := [_, _, _]) rfl) ?_))))); refine gT rfl rfl fun jb w8 hB9 hs10 hw11 => ?_; have hsz_jb := hs10; have hG13 := Ge.new hE7 hs10; have hE14 := hE7.then hw11; have hB15 := hw11.blk0 hB3; refine aM (aD (aA (aF (aC (aH (aB rfl (cA rfl bS bG hB15 rfl) ?_)))))); refine aN (vs := [_, _, _, _]) qZ rfl (uO (st := (0, [])) (k := 0) (b0 := 0) (CAt.new hB9) (RRx.step hx0 hE14 hG13.mem1 (fun b hb => by cases hb)) ⟨Nat.le_refl _, by decide⟩ (by decide) (by decide)) rfl ?_; rintro _ w16 ⟨r, rfl, hr, hw17, -⟩; have hE18 := hE14.step hw17 (hG13.mem1); refine aM (aD (aA (aQ (aK rfl rfl ?_))))
  exact ⟨r, rfl, by rw [hr, Option.isSome_iff_exists, show (0 + (if Brk t.kind 0 then 1 else 0) : Int) = 0 from by rw [if_neg (by unfold Brk; omega)]; rfl]; rfl, hE18⟩
end Go.Proofs.YtljadkcojnlioaaGreatDoor
namespace Go.Proofs.YtljadkcojnlioaaGreatDoor
open Go.Proofs
open Go.W Go.RowKit
attribute [local irreducible] Decidable.decide
theorem lJ : eM Tryz.prog 104 := ⟨_, Tryz.func104, by kernel_rfl, by kernel_rfl⟩
theorem tY : eM Tryz.prog 105 := ⟨_, Tryz.func105, by kernel_rfl, by kernel_rfl⟩
theorem FQ : eM Tryz.prog 44 := ⟨_, Tryz.func44, by kernel_rfl, by kernel_rfl⟩
theorem eR : eM Tryz.prog 80 := ⟨_, Tryz.func80, by kernel_rfl, by kernel_rfl⟩
theorem gO {w : World} {o o1 : Option Nat} (h : o1 = o ∨ ∃ g, o1 = some g ∧ w.heap.size ≤ g) : ∀ y, y ∈ o1.toList → y ∈ o.toList ∨ w.heap.size ≤ y := fun y hy => by
  rcases h with rfl | ⟨g, rfl, hg⟩
  · exact .inl hy
  · rw [List.mem_singleton.1 hy]; exact .inr hg
def Pt (w : World) (l : List Nat) (ob : Option Nat) (v : Value) (w' : World) : Prop := ∃ a c o, v = .slice a l.length c ∧ OwnS w' 5 1 a l.length c (fL l) o ∧ Evo ob.toList w w' ∧ (o = ob ∨ ∃ g, o = some g ∧ w.heap.size ≤ g)
theorem vI {w w1 : World} {L l : List Nat} {ob o : Option Nat} {a : Option Addr} {c : Nat} (h : OwnS w1 5 1 a L.length c (fL L) o) (e : L = l) (hE : Evo ob.toList w w1) (hN : o = ob ∨ ∃ g, o = some g ∧ w.heap.size ≤ g) : Pt w l ob (.slice a L.length c) w1 := by
  subst e; exact ⟨a, c, o, rfl, h, hE, hN⟩
theorem DB : spec.length = 14 := rfl
theorem spec_sb : ∀ k, k < 14 → sb (ByteArray.mk #[92, 46, 43, 42, 63, 40, 41, 124, 91, 93, 123, 125, 94, 36]) k = spec.getD k 0 := by decide +kernel
theorem LQ {k : Nat} (h : k < 14) : spec.getD k 0 ∈ spec := by
  rw [List.getD_eq_getElem?_getD, List.getElem?_eq_getElem (by rw [DB]; exact h)]
  exact List.getElem_mem _
theorem LS {n : Nat} (h : ∀ k, k < 14 → spec.getD k 0 ≠ n) : n ∉ spec := fun hm => by
  obtain ⟨k, hk, e⟩ := List.getElem_of_mem hm
  refine h k (by rw [DB] at hk; exact hk) ?_
  rw [List.getD_eq_getElem?_getD, List.getElem?_eq_getElem hk, e]
  rfl
def zM (n : Int) : List Nat := (Lib.itoa n).map UInt8.toNat
theorem hY {w : World} (hG : Gw w) (n : Int) (h0 : -1 ≤ n) (h1 : n ≤ 1000) : Calls Tryz.prog 102 #[.int .i64 n] w (Ret fun v w' => v = .string (bstr (zM n)) ∧ (zM n).length ≤ 5 ∧ (0 ≤ n → zM n = fO n.toNat) ∧ Evo [] w w') := by
  refine (nW n (by omega) (by omega) w hG.t10).mono ?_
  rintro e w' ⟨rfl, k, os, rfl⟩
  refine ⟨_, rfl, by rw [zM, AG], ?_, fun h => by rw [zM, Lib.itoa, if_neg (by omega)]; rfl, EL w k os⟩
  unfold zM Lib.itoa
  split
  · have h2 := rM n.natAbs (by omega)
    unfold fO at h2
    simp at h2 ⊢; omega
  · have h2 := rM n.toNat (by omega)
    unfold fO at h2
    omega
theorem GF {w : World} (n : Nat) (hn : n ≤ 1114111) : Calls Tryz.prog 44 #[.int .i32 (n : Nat)] w (Ret fun v w' => v = .bool (decide (n ∈ spec)) ∧ Evo [] w w') := by
  refine bL (N := 17) Tryz.func44 rfl rfl rfl ?_; refine aF (aC (aM (aD (aA (aF (aC (aM (aD (aA (aF (aF (aC (aM (aD (aA (bX ?_)))))))))))))))); refine eT (α := Nat) (0) (fun k => [(4, .int .i64 (k : Nat))]) [(0, _), (3, _)] (fun k wr => Evo [] w wr ∧ (k ≤ 14 ∧ ∀ j, j < k → spec.getD j 0 ≠ n)) (fun k => 14 - k) ⟨rfl, trivial⟩ ⟨rfl, rfl, trivial⟩ ⟨Evo.refl _ _, ⟨Nat.zero_le _, fun j h => by cases h⟩⟩ ?_; rintro k wr1 ⟨hV2, ⟨hk0, hno⟩⟩; show CW _ _ _ _ [(4, _), (0, _), (3, _)] _; have hE3 := (Evo.refl [] w).then hV2; refine aF (aF (aC (aH (aH (aB rfl (cX rfl Tryz.underlying9 rfl) ?_))))); refine aB rfl (dF rfl rfl) ?_; refine aD (aA (bJ rfl (fun hc8 => ?_) (fun hc8 => ?_)))
  ·skip
   have hk' : k < 14 := by have h9 : ((k : Nat) : Int) < ((14 : Nat) : Int) := hc8; omega
   have hsb := spec_sb k hk'; refine bA (aA (aF (bX (aF (aC (aH (aH ?_)))))))
   refine aB rfl (gA (n := k) rfl rfl Tryz.underlying9 rfl (by show k < 14; exact hk')) ?_
   refine aB rfl (gE (sb (ByteArray.mk #[92, 46, 43, 42, 63, 40, 41, 124, 91, 93, 123, 125, 94, 36]) k) rfl Tryz.underlying5 Tryz.underlying21 rfl (by have := jB (ByteArray.mk #[92, 46, 43, 42, 63, 40, 41, 124, 91, 93, 123, 125, 94, 36]) k; show _ ≤ (2147483647 : Int); omega)) ?_
   refine aH (aB rfl (bC rfl rfl) ?_); refine aD (aA (bJ rfl (fun hc16 => ?_) (fun hc16 => ?_)))
   ·skip
    refine aF (aC (aM (aD (aA (aQ (aZ (aO (aO (aZ (aO (aK rfl rfl ?_)))))))))))
    have e9 : spec.getD k 0 = n := by rw [← hsb]; omega
    exact ⟨congrArg Value.bool (decide_eq_true (e9 ▸ LQ hk')).symm, hE3⟩
   refine bA (aY (aA (aC (aH ?_)))); refine aB rfl (bF rfl rfl (by omega) (by omega)) ?_; refine aM (aD (bI ?_)); refine ⟨k + 1, ?_, ⟨rfl, trivial⟩, ⟨rfl, rfl, trivial⟩, hV2, ?_⟩
   · omega
   refine ⟨by omega, fun j hj => ?_⟩
   by_cases e : j < k
   · exact hno j e
   · obtain rfl : j = k := by omega
     rw [← hsb]; omega
  have hk' : 14 ≤ k := by have h9 : ¬ ((k : Nat) : Int) < ((14 : Nat) : Int) := hc8; omega
  refine dT (cK (cK (dS (aA ?_)))); refine aF (aC (aM (aD (aA (aQ (aK rfl rfl ?_)))))); exact ⟨congrArg Value.bool (decide_eq_false (LS fun j hj => hno j (by omega))).symm, hE3⟩
theorem qO {w : World} {c : Int} (hG : Gw w) (h0 : 0 ≤ c) (h1 : c ≤ 1114111) : Calls Tryz.prog 104 #[.int .i32 c] w (Ret fun v w' => v = .string (bstr (DX c)) ∧ Evo [] w w') := by
  obtain ⟨n, rfl⟩ : ∃ n : Nat, c = (n : Int) := ⟨c.toNat, by omega⟩
  have hlen := (wQ 7 n (by show n < 4294967296; omega)).1
  refine bL (N := 8) Tryz.func104 rfl rfl rfl ?_; refine aF (aC (aM (aD (aA (aF (aC (aH ?_)))))))
  refine aB rfl (gE n rfl Tryz.underlying21 Tryz.underlying2 rfl (by show ((n : Nat) : Int) ≤ 9223372036854775807; omega)) ?_
  refine aN (vs := [_, _]) tU rfl (EF (hG.evo0 (Evo.refl [] w)).t64 n (by show n < 4294967296; omega)) rfl ?_
  rintro _ w1 ⟨rfl, hw2⟩; have hE3 := (Evo.refl [] w).then hw2
  refine aB rfl (bZ rfl rfl (by rw [bsz]; show 3 + _ ≤ _; omega)) ?_
  rw [show ByteArray.mk #[92, 120, 123] = bstr [92, 120, 123] from by decide +kernel, bap]
  refine aB rfl (bZ rfl rfl (by rw [bsz]; show _ + 1 ≤ _; simp; omega)) ?_
  rw [bV, bap]; refine aM (aD (aA (aQ (aK rfl rfl ?_)))); exact ⟨rfl, hE3⟩
theorem LP : ∀ n, n ∈ spec → 32 ≤ n ∧ n ≤ 126 := by decide
theorem lit_ok8 {w : World} {c : Int} (hG : Gw w) (h0 : 0 ≤ c) (h1 : c ≤ 1114111) : Calls Tryz.prog 81 #[.int .i32 c] w (Ret fun v w' => v = .string (bstr (mO c)) ∧ Evo [] w w') := by
  obtain ⟨n, rfl⟩ : ∃ n : Nat, c = (n : Int) := ⟨c.toNat, by omega⟩; refine bL (N := 31) Tryz.func81 rfl rfl rfl ?_; refine aF (aC (aM (aD (aA (aF (bX (aF (aC (aH ?_))))))))); refine aN (vs := [_]) FQ rfl (GF n (by omega)) rfl ?_; rintro _ w1 ⟨rfl, hw2⟩; have hE3 := (Evo.refl [] w).then hw2; refine aM (aD (aA (fB rfl (fun hc3 => ?_) (fun hc3 => ?_))))
  ·skip
   have hsp : n ∈ spec := of_decide_eq_true hc3; have hsp2 := LP n hsp; refine aF (aC (aH (aB rfl (iW n rfl Tryz.underlying21 Tryz.underlying5 rfl) ?_))); refine bP (vs := [_]) rfl eJ rfl rfl rfl rfl fun b4 w5 hO6 hs7 hw8 => ?_; have hE10 := hE3.then hw8
   refine aB rfl (qS (l := [n]) rfl Tryz.underlying78 Tryz.underlying5 Tryz.underlying9 ⟨_, by have hO9 := hO6; rw [Nat.mod_eq_of_lt (by omega)] at hO9; exact hO9⟩) ?_
   refine aB rfl (bZ rfl rfl (by rw [bsz]; show 1 + 1 ≤ _; omega)) ?_
   rw [show ByteArray.mk #[92] = bstr [92] from by decide +kernel, bap]; refine aM (aD (aA (aQ (aZ (aO (aK rfl rfl ?_))))))
   exact ⟨by rw [mO, if_neg (by unfold Odd; omega), if_pos ⟨by omega, by rw [Int.toNat_natCast]; exact hsp⟩]; rfl, hE10⟩
  have hsp : ¬ n ∈ spec := of_decide_eq_false hc3; refine aF (aC (aH (aB rfl (dF rfl rfl) ?_))); refine aH (aX (t := 14) rfl (fun hs14 => ?_) (fun hs14 => ?_))
  ·skip
   refine aG (aG (bD (aH (aG (aG (aG (cI ?_))))))); refine cI ?_; refine aG (bD (aM (aD (aA (cW rfl ?_))))); refine aF (aC (aH (aN (vs := [_]) lJ rfl (qO (hG.evo0 hE3) h0 h1) rfl ?_))); rintro _ w11 ⟨rfl, hw12⟩; have hE13 := hE3.then hw12; refine aM (aD (aA (aQ (aZ (aO (aK rfl rfl ?_))))))
   exact ⟨by rw [mO, if_pos (by unfold Odd; omega)], hE13⟩
  refine aP (aH (aP (aB rfl (bC rfl rfl) ?_))); refine aV (aH (aX (t := 18) rfl (fun hs18 => ?_) (fun hs18 => ?_)))
  ·skip
   refine aG (aG (aG (cI ?_))); refine cI ?_; refine aG (bD (aM (aD (aA (cW rfl ?_))))); refine aF (aC (aH (aN (vs := [_]) lJ rfl (qO (hG.evo0 hE3) h0 h1) rfl ?_))); rintro _ w14 ⟨rfl, hw15⟩; have hE16 := hE3.then hw15; refine aM (aD (aA (aQ (aZ (aO (aK rfl rfl ?_))))))
   exact ⟨by rw [mO, if_pos (by unfold Odd; omega)], hE16⟩
  refine aP (aH (aP (aB rfl (fD rfl rfl) ?_))); refine aP (aH (aX (t := 21) rfl (fun hs21 => ?_) (fun hs21 => ?_)))
  ·skip
   refine aP (aH (aP (aB rfl (fM rfl rfl) ?_))); refine aP (bD (aV (aM (aD (aA (bJ rfl (fun hc11 => ?_) (fun hc11 => ?_)))))))
   ·skip
    refine aF (aC (aH (aN (vs := [_]) lJ rfl (qO (hG.evo0 hE3) h0 h1) rfl ?_))); rintro _ w17 ⟨rfl, hw18⟩; have hE19 := hE3.then hw18; refine aM (aD (aA (aQ (aZ (aO (aK rfl rfl ?_))))))
    exact ⟨by rw [mO, if_pos (by unfold Odd; omega)], hE19⟩
   refine bA (aY (aA (aF (aC (aH ?_)))))
   refine aB rfl (gE n rfl Tryz.underlying21 Tryz.underlying3 rfl (by show ((n : Nat) : Int) ≤ 9223372036854775807; omega)) ?_
   refine aN (vs := [_]) vX rfl (IU ((n : Nat) : Int) (by omega) (by omega)) rfl ?_; rintro _ w20 ⟨rfl, hw21⟩; have hE22 := hE3.then hw21; refine aM (aD (aA (aQ (aK rfl rfl ?_))))
   exact ⟨by rw [mO, if_neg (by unfold Odd; omega), if_neg (fun h9 => hsp (by have h8 := h9.2; rw [Int.toNat_natCast] at h8; exact h8))], hE22⟩
  refine aG (aG (aP (aV (aV (aM (aD (aA (cQ rfl ?_)))))))); refine bA (aY (aA (aF (aC (aH ?_)))))
  refine aB rfl (gE n rfl Tryz.underlying21 Tryz.underlying3 rfl (by show ((n : Nat) : Int) ≤ 9223372036854775807; omega)) ?_
  refine aN (vs := [_]) vX rfl (IU ((n : Nat) : Int) (by omega) (by omega)) rfl ?_; rintro _ w23 ⟨rfl, hw24⟩; have hE25 := hE3.then hw24; refine aM (aD (aA (aQ (aK rfl rfl ?_))))
  exact ⟨by rw [mO, if_neg (by unfold Odd; omega), if_neg (fun h9 => hsp (by have h8 := h9.2; rw [Int.toNat_natCast] at h8; exact h8))], hE25⟩
theorem ON {w : World} {c : Int} (hG : Gw w) (h0 : 0 ≤ c) (h1 : c ≤ 1114111) : Calls Tryz.prog 105 #[.int .i32 c] w (Ret fun v w' => v = .string (bstr (nL c)) ∧ Evo [] w w') := by
  obtain ⟨n, rfl⟩ : ∃ n : Nat, c = (n : Int) := ⟨c.toNat, by omega⟩; refine bL (N := 15) Tryz.func105 rfl rfl rfl ?_; refine aF (aC (aM (aD (aA (aF (aF (aC (aH (aN (vs := [_]) tZ rfl (uZ n) rfl ?_))))))))); rintro _ w1 ⟨rfl, hw2⟩; have hE3 := (Evo.refl [] w).then hw2; refine aH (aX (t := 5) rfl (fun hs5 => ?_) (fun hs5 => ?_))
  ·skip
   refine aP (aH (aP (aB rfl (gJ rfl rfl) ?_))); refine bD (aD (aA (bJ rfl (fun hc8 => ?_) (fun hc8 => ?_))))
   ·skip
    refine aF (aC (aH (aB rfl (iW n rfl Tryz.underlying21 Tryz.underlying5 rfl) ?_))); refine bP (vs := [_]) rfl eJ rfl rfl rfl rfl fun b4 w5 hO6 hs7 hw8 => ?_; have hE10 := hE3.then hw8
    refine aB rfl (qS (l := [n]) rfl Tryz.underlying78 Tryz.underlying5 Tryz.underlying9 ⟨_, by have hO9 := hO6; rw [Nat.mod_eq_of_lt (by unfold gK at hs5; omega)] at hO9; exact hO9⟩) ?_
    refine aM (aD (aA (aQ (aO (aK rfl rfl ?_)))))
    exact ⟨by unfold gK at hs5; rw [nL, if_pos (show yW (n : Int) from ⟨by omega, by rw [Int.toNat_natCast]; exact hs5, by omega⟩), kK (by unfold IsR; omega), iE, if_pos (by omega)], hE10⟩
   refine bA (aA (aF (aC (aH (aN (vs := [_]) lJ rfl (qO (hG.evo0 hE3) h0 h1) rfl ?_))))); rintro _ w11 ⟨rfl, hw12⟩; have hE13 := hE3.then hw12; refine aM (aD (aA (aQ (aK rfl rfl ?_))))
   exact ⟨by rw [nL, if_neg (fun hq : yW (n : Int) => by obtain ⟨q1, q2, q3⟩ := hq; rw [Int.toNat_natCast] at q2; first | omega | exact hs5 q2)], hE13⟩
  refine aG (aG (aV (aD (aA (cQ rfl ?_))))); refine bA (aA (aF (aC (aH (aN (vs := [_]) lJ rfl (qO (hG.evo0 hE3) h0 h1) rfl ?_))))); rintro _ w14 ⟨rfl, hw15⟩; have hE16 := hE3.then hw15; refine aM (aD (aA (aQ (aK rfl rfl ?_))))
  exact ⟨by rw [nL, if_neg (fun hq : yW (n : Int) => by obtain ⟨q1, q2, q3⟩ := hq; rw [Int.toNat_natCast] at q2; first | omega | exact hs5 q2)], hE16⟩
theorem iA {w : World} {a : Option Addr} {c : Nat} {l m : List Nat} {ob : Option Nat} {s : ByteArray} (hO : OwnS w 5 1 a l.length c (fL l) ob) (hs : s = bstr m) (hm : Lo m) (hl : l.length ≤ 100000000) (hl2 : m.length ≤ 100000000) :
    Calls Tryz.prog 80 #[.slice a l.length c, .string s] w (Ret fun v w' => Pt w (l ++ m) ob v w') := by
  refine bL (N := 8) Tryz.func80 rfl rfl rfl ?_; refine aF (aC (aM (aD (aA (aF (aC (aH (aH ?_))))))))
  refine dX rfl rfl rfl rfl uD hO (by rw [hs]; exact Src.bstr hm) (by omega) fun a2 c2 w3 ob2 hO2 hw6 hob7 => ?_
  have hE8 := (Evo.refl ob.toList w).step hw6 (fun y hy => .inl hy); have hob2 := hob7; refine aM (aD (aA (aQ (aK rfl rfl ?_)))); have hO3 := hO2; rw [← jK, ← List.length_append] at hO3; refine ⟨a2, c2, ob2, by rw [List.length_append], hO3, hE8, hob2⟩
end Go.Proofs.YtljadkcojnlioaaGreatDoor
