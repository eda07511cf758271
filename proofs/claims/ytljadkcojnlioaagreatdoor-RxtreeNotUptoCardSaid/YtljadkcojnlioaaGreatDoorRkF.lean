/- RxtreeNot: a class and the same class negated share no rune and leave none out; with (?i) a class holds a letter just if the plain one holds it in either case. Conditions: what came in is of bulk at most 1048576 (the form Upto); the library's tables hold what the text of the program lays. -/
import Derived.Test.YtljadkcojnlioaaGreatDoorRkE
set_option linter.unusedSectionVars false
set_option linter.unusedSimpArgs false
set_option linter.unusedVariables false
namespace Go.Proofs.YtljadkcojnlioaaGreatDoor
open Go.Proofs
open Go.W Go.RowKit
attribute [local irreducible] Decidable.decide
theorem qJ : eV Tryz.prog 24 := ⟨_, Tryz.func24, by kernel_rfl, by kernel_rfl⟩
theorem qH : eV Tryz.prog 43 := ⟨_, Tryz.func43, by kernel_rfl, by kernel_rfl⟩
theorem uI : eV Tryz.prog 51 := ⟨_, Tryz.func51, by kernel_rfl, by kernel_rfl⟩
theorem uD : nS Tryz.prog 80 = some #[.pointer none, .slice none 0 0] := by kernel_rfl
theorem FL {n : Nat} (ih : ∀ {w : World} {vs : List Value} {t : Rx} (hx : RRx n [] w vs t), Calls Tryz.prog 48 #[.agg vs.toArray] w (Ret fun v w' => v = .bool t.ln ∧ Evo [] w w')) {w : World} {vs : List Value} {t : Rx} (hx : RRx (n + 1) [] w vs t) :
    Calls Tryz.prog 48 #[.agg vs.toArray] w (Ret fun v w' => v = .bool t.ln ∧ Evo [] w w') := by
  have hx0 := hx; obtain ⟨m, ra, rc, ka, kc, hm, rfl, hrg, hk, bl1, bl2, bl3⟩ := hx.get
  obtain rfl : m = n := by omega
  obtain ⟨_, _, hke, hkc, e1⟩ := hk; cases hke; refine bP (N := 23) Tryz.func48 rfl rfl rfl ?_; refine aE (aB (lY rfl rfl fun b1x w1 hB2 hs3 hw4 => ?_)); have hsz_b1x := hs3; have hE6 := (Evo.refl [] w).then hw4; refine aN (aD (aA (aE (aE (aB (aC rfl (aF rfl eI) (aC rfl (aI rfl bD (aK hB2 rfl)) (aC rfl (bE rfl rfl) ?_)))))))); refine aG (aX (t := 8) rfl (fun hs8 => ?_) (fun hs8 => ?_))
  ·skip
   refine aH (aH (aH (bL (aD (aA (dC rfl ?_)))))); refine aE (aB (aN (aD (aA (aP (aQ (aJ rfl rfl ?_)))))))
   exact ⟨by rw [Rx.ln_eq, decide_eq_true (by omega)]; rfl, hE6⟩
  refine aR (aC rfl (aF rfl eI) (aR (aC rfl (aI rfl bD (aK hB2 rfl)) (aR (aC rfl (bE rfl rfl) ?_))))); refine aU (aD (aA (bI rfl (fun hc12 => ?_) (fun hc12 => ?_))))
  ·skip
   refine aE (aB (aN (aD (aA (aP (aQ (aJ rfl rfl ?_)))))))
   exact ⟨by rw [Rx.ln_eq, decide_eq_true (by omega)]; rfl, hE6⟩
  refine aW (aA (aE (aE (aB (aC rfl (aF rfl dF) (aC rfl (aI rfl dU (aK hB2 rfl)) (aC rfl (bR rfl Tryz.underlying25 rfl) ?_))))))); refine aG (aD (aA (cA (fH (α := Nat) (0) (fun k => [(16, .int .i64 (k : Nat))]) [(14, _), (15, _)] (fun k wr => Evo [] w1 wr ∧ (k ≤ t.kids.length ∧ lns (t.kids.take k) = false)) (fun k => t.kids.length - k) ⟨rfl, trivial⟩ ⟨rfl, rfl, trivial⟩ ⟨Evo.refl _ _, ⟨Nat.zero_le _, rfl⟩⟩ ?_)))); rintro k wr7 ⟨hV8, ⟨hk0, hln⟩⟩; show CW _ _ _ _ [(16, _), (14, _), (15, _)] _; have hE9 := hE6.then hV8; refine aE (aB (aC rfl (dN rfl rfl) ?_)); refine aD (aA (aE (bI rfl (fun hc17 => ?_) (fun hc17 => ?_))))
  ·skip
   have hj' : k < t.kids.length := by omega
   obtain ⟨b1, o1', vs1, ha1, hb1, hvl1, hc1, hrk⟩ := e1 k hj'; obtain ⟨m1, ra1, rc1, ka1, kc1, rfl, rfl, -⟩ := id hrk.get; refine aW (aA (aE (cA (aE (aB ?_)))))
   refine aC rfl (gD (n := k) (by rw [ha1]; rfl) rfl eJ (by omega)) ?_
   refine aC rfl (eW rfl bS aY (vs := [_, _, _, _, _, _, _, _, _]) rfl (hc1.evo hE9 hb1)) ?_; refine dB rfl dR fun b4 w11 hB12 hs13 hw14 => ?_; have hsz_b4 := hs13; have hG16 := Ge.new hE9 hs13; have hG17 := Ge.new hV8 hs13; have hE18 := hE9.then hw14; have hE19 := hV8.then hw14; refine bK rfl rfl aY hB12 rfl rfl ⟨rfl, rfl, rfl, rfl, rfl, rfl, rfl, rfl, rfl, trivial⟩ fun w21 hB22 hw23 => ?_; have hE24 := hE18.step hw23 hG16.mem1; have hE25 := hE19.step hw23 hG17.mem1
   try simp only [cT, Nat.reduceAdd] at hB22
   refine aD (aA (aE (aB (aC rfl (bX rfl bS aY hB22 rfl) (aM (vs := [_]) uJ rfl (ih (RRx.pers _ _ _ _ _ _ hE24 hrk)) rfl ?_))))); rintro _ w27 ⟨rfl, hw28⟩; have hE29 := hE24.then hw28; have hE30 := hE25.then hw28; refine aD (aA (gB rfl (fun hc21 => ?_) (fun hc21 => ?_)))
   ·skip
    refine aE (aB (aN (aD (aA (aP (aZ (aQ (aQ (aZ (aQ (aJ rfl rfl ?_))))))))))); exact ⟨by rw [Rx.ln_eq, lns_yes hj' hc21, Bool.or_true], hE29⟩
   refine aW (bB (aA (aB ?_))); refine aC rfl (bF rfl rfl (by omega) (by omega)) ?_; refine aG (aD (bV ?_)); refine ⟨k + 1, ?_, ⟨rfl, trivial⟩, ⟨rfl, rfl, trivial⟩, hE30, ?_⟩
   · omega
   exact ⟨by omega, by rw [LZ hj', hln, hc21]; rfl⟩
  refine eD (cO (cO (eC (aA ?_)))); refine aE (aB (aN (aD (aA (aP (aJ rfl rfl ?_)))))); rw [List.take_of_length_le (by omega)] at hln
  exact ⟨by rw [Rx.ln_eq, hln, decide_eq_false (by omega)]; rfl, hE9⟩
theorem CR : ∀ {n : Nat} {w : World} {vs : List Value} {t : Rx} (hx : RRx n [] w vs t), Calls Tryz.prog 48 #[.agg vs.toArray] w (Ret fun v w' => v = .bool t.ln ∧ Evo [] w w')
  | 0, w, vs, t, hx => hx.elim
  | n + 1, w, vs, t, hx => FL (n := n) (fun hx => CR hx) hx
theorem Show_ok {n : Nat} {w : World} {vs : List Value} {t : Rx} (hG : Gw w) (hx : RRx n [] w vs t) (hms : t.ms ≤ 60000000) :
    Calls Tryz.prog 19 #[.agg vs.toArray] w (Ret fun v w' => ∃ s e, ShowIs t s e ∧ v = .tuple #[.string (bstr s), iv e] ∧ Evo [] w w') := by
  have hx0 := hx; obtain ⟨m, ra, rc, ka, kc, hm, rfl, hrg, hk, bl1, bl2, bl3⟩ := hx.get; refine bP (N := 16) Tryz.func19 rfl rfl rfl ?_; refine aE (aB (lY rfl rfl fun b1x w1 hB2 hs3 hw4 => ?_)); have hsz_b1x := hs3; have hE6 := (Evo.refl [] w).then hw4; refine aN (aN (aD (aA (aE (aE (aB (aC rfl (bX rfl bS aY hB2 rfl) (aM (vs := [_]) qJ rfl (vI (RRx.pers _ _ _ _ _ _ hE6 hx0)) rfl ?_)))))))); rintro _ w7 ⟨r, rfl, hvr, hw8⟩; have hE9 := hE6.then hw8; have hB10 := hw8.blk0 hB2; refine aC rfl (fG rfl) ?_; refine aD (aA (gB rfl (fun hc7 => ?_) (fun hc7 => ?_)))
  ·skip
   refine aE (aB (aN (aN (aD (aA (aP (aQ (dA rfl rfl rfl ?_)))))))); exact ⟨[], 2, .inl ⟨fun h => (by simp [hvr.2 h] at hc7), rfl, rfl⟩, rfl, hE9⟩
  refine aW (aA (aE (aB ?_))); have hVs := hE9; have hok : t.Ok := hvr.1 (by simpa using hc7); have hgd := hok.good; have hwl := GB t hgd; have hxa := RRx.pers _ _ _ _ _ _ hVs hx0; have hGa := hG.evo0 hVs; refine dB rfl uD fun bb w11 hB12 hs13 hw14 => ?_; have hsz_bb := hs13; have hA15 := Apart.new (Lt.blk hB10) hs13; have hE18 := hE9.then hw14; have hE19 := (Evo.refl [] w7).then hw14; have hB20 := hw14.blk0 hB10; have hub := Nat.le_of_eq hsz_bb; refine aD (aA (aE (aE (aB (aC rfl (bX rfl bS aY hB20 rfl) (aM (vs := [_]) uJ rfl (CR (RRx.pers _ _ _ _ _ _ hE18 hx0)) rfl ?_)))))); rintro _ w21 ⟨rfl, hw22⟩; have hE23 := hE18.then hw22; have hE24 := hE19.then hw22; have hB25 := hw22.blk0 hB20; have hF26 := (BdN.new hB12).evo0 hw22; refine aD (aA (gB rfl (fun hc9 => ?_) (fun hc9 => ?_)))
  ·skip
   refine aB ?_; refine aM (vs := [_, _]) bZ rfl (cW hF26 (m := [40, 63, 109, 41]) (by decide +kernel) (cD (by decide +kernel)) (Nat.zero_le _) (by decide)) rfl ?_; rintro _ w27 ⟨obw1, hBDw1, hw28, hnb1⟩; have hV90 := hE24; have hV91 := hE23; have hU1 := dM (Ge.nil _) hV90.size hnb1; have hAO1 := fI (Apart.nil _) (Lt.blk hB25) hnb1; have hE29 := hE23.step hw28 (fun y hy => (gX hub (Ge.nil _) y hy).imp id (fun h9 => Nat.le_trans hVs.size h9)); have hE30 := hE24.step hw28 (gX hub (Ge.nil _)); have hB31 := hw28.blk hB25 (mM hA15 (Apart.nil _)); refine aD (aA (aE ?_))
   have hln9 : ([] ++ [40, 63, 109, 41] ++ t.w : List Nat) = sY t := by rw [sY, if_pos hc9]; rfl
   refine aB (aC rfl (bX rfl bS aY hB31 rfl) ?_)
   refine aM (vs := [_, _]) kY rfl (xO _ hGa hE30 hub hU1 hBDw1 hxa hgd (by first | (show 0 + t.ms ≤ _; omega) | (show ([40, 63, 109, 41] : List Nat).length + t.ms ≤ _; simp; omega))) rfl ?_
   rintro _ w32 ⟨obw2, hBDw2, hw33, hnb2⟩; have hV90 := hE30; have hV91 := hE29; have hU2 := dM hU1 hV90.size hnb2; have hE34 := hE29.step hw33 (fun y hy => (gX hub hU1 y hy).imp id (fun h9 => Nat.le_trans hVs.size h9)); have hE35 := hE30.step hw33 (gX hub hU1); refine aD (aA (aE (aE (aB (aM (vs := [_]) uI rfl (HW hBDw2) rfl ?_))))); rintro _ w37 ⟨rfl, hw38⟩; have hE39 := hE34.then hw38; have hE40 := hE35.then hw38; have hF42 := hBDw2.evo0 hw38; refine aC rfl (gA rfl rfl) ?_; refine aD (aA (bI rfl (fun hc14 => ?_) (fun hc14 => ?_)))
   ·skip
    refine aE (aB (aN (aN (aD (aA (aP (aQ (dA rfl rfl rfl ?_)))))))); refine ⟨[], 1, .inr ⟨hok, .inl ⟨?_, rfl, rfl⟩⟩, rfl, hE39⟩
    rw [hln9] at hc14; omega
   refine aW (aA (aE (aB ?_)))
   refine aM (vs := [_]) qH rfl (rQ hF42 (by rw [hln9]; exact GG hgd) (fun g hg => by have h9 := hU2 g hg; omega)) rfl ?_
   rintro _ w43 ⟨rfl, hw44⟩; have hle9 := hE40.size; have hE45 := hE39.step hw44 (fun y hy => .inr (Nat.le_trans hVs.size (Nat.le_trans hub (zI.1 hy).2))); refine aN (aN (aD (aA (aP (dA rfl rfl rfl ?_))))); refine ⟨sY t, 0, .inr ⟨hok, .inr ⟨?_, rfl, rfl⟩⟩, (by rw [hln9]), hE45⟩
   rw [hln9] at hc14; omega
  refine aW (aA (aE ?_))
  have hln9 : ([] ++ t.w : List Nat) = sY t := by rw [sY, if_neg (by rw [hc9]; simp)]
  refine aB (aC rfl (bX rfl bS aY hB25 rfl) ?_)
  refine aM (vs := [_, _]) kY rfl (xO _ hGa hE24 hub (Ge.nil _) hF26 hxa hgd (by first | (show 0 + t.ms ≤ _; omega) | (show ([40, 63, 109, 41] : List Nat).length + t.ms ≤ _; simp; omega))) rfl ?_
  rintro _ w46 ⟨obw1, hBDw1, hw47, hnb1⟩; have hV90 := hE24; have hV91 := hE23; have hU1 := dM (Ge.nil _) hV90.size hnb1; have hAO1 := fI (Apart.nil _) (Lt.blk hB25) hnb1; have hE48 := hE23.step hw47 (fun y hy => (gX hub (Ge.nil _) y hy).imp id (fun h9 => Nat.le_trans hVs.size h9)); have hE49 := hE24.step hw47 (gX hub (Ge.nil _)); refine aD (aA (aE (aE (aB (aM (vs := [_]) uI rfl (HW hBDw1) rfl ?_))))); rintro _ w51 ⟨rfl, hw52⟩; have hE53 := hE48.then hw52; have hE54 := hE49.then hw52; have hF56 := hBDw1.evo0 hw52; refine aC rfl (gA rfl rfl) ?_; refine aD (aA (bI rfl (fun hc14 => ?_) (fun hc14 => ?_)))
  ·skip
   refine aE (aB (aN (aN (aD (aA (aP (aQ (dA rfl rfl rfl ?_)))))))); refine ⟨[], 1, .inr ⟨hok, .inl ⟨?_, rfl, rfl⟩⟩, rfl, hE53⟩
   rw [hln9] at hc14; omega
  refine aW (aA (aE (aB ?_)))
  refine aM (vs := [_]) qH rfl (rQ hF56 (by rw [hln9]; exact GG hgd) (fun g hg => by have h9 := hU1 g hg; omega)) rfl ?_
  rintro _ w57 ⟨rfl, hw58⟩; have hle9 := hE54.size; have hE59 := hE53.step hw58 (fun y hy => .inr (Nat.le_trans hVs.size (Nat.le_trans hub (zI.1 hy).2))); refine aN (aN (aD (aA (aP (dA rfl rfl rfl ?_))))); refine ⟨sY t, 0, .inr ⟨hok, .inr ⟨?_, rfl, rfl⟩⟩, (by rw [hln9]), hE59⟩
  rw [hln9] at hc14; omega
end Go.Proofs.YtljadkcojnlioaaGreatDoor
namespace Go.Proofs.YtljadkcojnlioaaGreatDoor
open Go.Proofs
open Go.W Go.RowKit
attribute [local irreducible] Decidable.decide
structure CAt (w : World) (jb : Nat) (nodes caps : Nat) (ns : List ByteArray) (a : Option Addr) (c : Nat) (ob : Option Nat) : Prop where
  blk : w.heap[jb]? = some (.cells #[iv (nodes : Nat), iv (caps : Nat), .slice a ns.length c] 97 (0, 0))
  own : OwnS w 9 1 a ns.length c (ns.map sv) ob
  ne : ∀ g, ob = some g → g ≠ jb
end Go.Proofs.YtljadkcojnlioaaGreatDoor
namespace Go.Proofs.YtljadkcojnlioaaGreatDoor
open Go.Proofs
open Go.W Go.RowKit
attribute [local irreducible] Decidable.decide
theorem Brk.int (a k b : Int) : ∃ z, z = b + (if Brk a k then 1 else 0) := ⟨_, rfl⟩
theorem CAt.new {w : World} {jb : Nat} (h : w.heap[jb]? = some (.cells #[iv 0, iv 0, .slice none 0 0] 97 (0, 0))) : CAt w jb 0 0 [] none 0 none := ⟨h, OwnS.nil _ _ _, fun g hg => by cases hg⟩
end Go.Proofs.YtljadkcojnlioaaGreatDoor
namespace Go.Proofs.YtljadkcojnlioaaGreatDoor
open Go.Proofs
open Go.W Go.RowKit
attribute [local irreducible] Decidable.decide
end Go.Proofs.YtljadkcojnlioaaGreatDoor
namespace Go.Proofs.YtljadkcojnlioaaGreatDoor
open Go.Proofs
open Go.W Go.RowKit
attribute [local irreducible] Decidable.decide
end Go.Proofs.YtljadkcojnlioaaGreatDoor
namespace Go.Proofs.YtljadkcojnlioaaGreatDoor
open Go.Proofs
open Go.W Go.RowKit
attribute [local irreducible] Decidable.decide
theorem qI : eV Tryz.prog 42 := ⟨_, Tryz.func42, by kernel_rfl, by kernel_rfl⟩
def qc (c : Nat) : List Nat := if c ∈ IJ then [92, c] else [c]
def qK (s : ByteArray) : Nat → List Nat
  | 0 => []
  | k + 1 => qK s k ++ qc (sb s k)
theorem zC (s : ByteArray) : ∀ k, (qK s k).length ≤ 2 * k
  | 0 => by simp [qK]
  | k + 1 => by have := zC s k; rw [qK, List.length_append]; unfold qc; split <;> simp <;> omega
theorem qK_lo (s : ByteArray) : ∀ k, Lo (qK s k)
  | 0 => fun b hb => by cases hb
  | k + 1 => by
    have h1 := jE s k
    rw [qK]
    refine (qK_lo s k).app ?_
    unfold qc
    split
    · intro b hb; simp at hb; omega
    · intro b hb; simp at hb; omega
theorem IH : ∀ m, m < 256 → (0 ≤ Lib.indexByte (ByteArray.mk #[92, 46, 43, 42, 63, 40, 41, 124, 91, 93, 123, 125, 94, 36]).data.toList (UInt8.ofNat m) ↔ m ∈ IJ) := by decide +kernel
theorem II {w : World} (m : Nat) (hm : m < 256) : Calls Tryz.prog 41 #[.string (ByteArray.mk #[92, 46, 43, 42, 63, 40, 41, 124, 91, 93, 123, 125, 94, 36]), .int .u8 (m : Nat)] w (Ret fun v w' => ∃ z, v = .int .i64 z ∧ (0 ≤ z ↔ m ∈ IJ) ∧ Evo [] w w') := by
  refine (jO _ _ w).mono ?_
  rintro e w' ⟨rfl, rfl⟩
  refine ⟨_, rfl, _, rfl, ?_, Evo.refl _ _⟩
  rw [← IH m hm]
  simp
structure QgG where
  k : Nat
  o : Option Nat
theorem OC {w : World} (s : ByteArray) (hs : s.size ≤ 30000000) :
    Calls Tryz.prog 14 #[.string s] w (Ret fun v w' => v = .string (bstr (qK s s.size)) ∧ Evo [] w w') := by
  refine bP (N := 22) Tryz.func14 rfl rfl rfl ?_; refine aE (aB (aN (aD (aA (aE (aB (dB rfl uD fun bb w1 hB2 hs3 hw4 => ?_))))))); have hsz_bb := hs3; have hE6 := (Evo.refl [] w).then hw4; have hub := Nat.le_of_eq hsz_bb; refine aD (aA (aE (aE (aB (aG (aC rfl (cQ rfl Tryz.underlying9 rfl) ?_)))))); refine aG (aD (aA (cA (fH (α := QgG) (⟨0, none⟩) (fun x => [(7, .int .i64 (x.k : Nat))]) [(0, _), (2, _), (3, _), (6, _)] (fun x wr => Evo [] w wr ∧ (x.k ≤ s.size ∧ BdN wr bb (qK s x.k) x.o ∧ Ge w x.o)) (fun x => s.size - x.k) ⟨rfl, trivial⟩ ⟨rfl, rfl, rfl, rfl, trivial⟩ ⟨hE6, ⟨Nat.zero_le _, (BdN.new hB2), Ge.nil _⟩⟩ ?_)))); rintro ⟨k, o⟩ wr7 ⟨hV8, ⟨hk, hBDl, hul⟩⟩; show CW _ _ _ _ [(7, .int .i64 (k : Nat)), (0, _), (2, _), (3, _), (6, _)] _
  try dsimp only at hk
  try dsimp only at hBDl
  try dsimp only at hul
  refine aE (aB (aC rfl (dN rfl rfl) ?_)); refine aD (aA (aE (bI rfl (fun hc8 => ?_) (fun hc8 => ?_))))
  ·skip
   have hk' : k < s.size := by omega
   refine aW (aA (aE (cA (aE (aB (aG (aN (aD (aA (aE (aE (aB (aG (aG (aC rfl (fN (n := k) rfl rfl Tryz.underlying9 rfl hk') ?_))))))))))))))); refine aM (vs := [_, _]) oC rfl (II (sb s k) (jE s k)) rfl ?_; rintro _ w9 ⟨z, rfl, hz, hw10⟩; have hE11 := hV8.then hw10; have hF12 := hBDl.evo0 hw10; refine aC rfl (eZ rfl rfl) ?_; refine aD (aA (bI rfl (fun hc14 => ?_) (fun hc14 => ?_)))
   ·skip
    refine aB ?_
    refine aM (vs := [_, _]) qI rfl (oT 92 hF12 (by have h9 := zC s k; omega)) rfl ?_
    rintro _ w13 ⟨obw1, hBDw1, hw14, hnb1⟩; have hV91 := hE11; have hU1 := dM hul hV91.size hnb1; have hE15 := hE11.step hw14 (gX hub hul); refine aD (aA (aB (aG (aG (aC rfl (fN (n := k) rfl rfl Tryz.underlying9 rfl hk') ?_)))))
    refine aM (vs := [_, _]) qI rfl (oT (sb s k) hBDw1 (by have h9 := zC s k; first | omega | (rw [List.length_append]; simp; omega))) rfl ?_
    rintro _ w16 ⟨obw2, hBDw2, hw17, hnb2⟩; have hV91 := hE15; have hU2 := dM hU1 hV91.size hnb2; have hE18 := hE15.step hw17 (gX hub hU1); refine aD (bB (aA (aB ?_))); refine aC rfl (bF rfl rfl (by omega) (by omega)) ?_; refine aG (aD (bV ?_)); refine ⟨⟨k + 1, obw2⟩, ?_, ⟨rfl, trivial⟩, ⟨rfl, rfl, rfl, rfl, trivial⟩, hE18, ?_⟩
    · (try dsimp only); omega
    try dsimp only
    have hfin := hBDw2; refine ⟨by omega, ?_, hU2⟩
    rw [qK, qc, if_pos (hz.1 (by omega))]; simpa [List.append_assoc] using hfin
   refine aW (aA (aB (aG (aG (aC rfl (fN (n := k) rfl rfl Tryz.underlying9 rfl hk') ?_)))))
   refine aM (vs := [_, _]) qI rfl (oT (sb s k) hF12 (by have h9 := zC s k; first | omega | (rw [List.length_append]; simp; omega))) rfl ?_
   rintro _ w19 ⟨obw1, hBDw1, hw20, hnb1⟩; have hV91 := hE11; have hU1 := dM hul hV91.size hnb1; have hE21 := hE11.step hw20 (gX hub hul); refine aD (bB (aA (aB ?_))); refine aC rfl (bF rfl rfl (by omega) (by omega)) ?_; refine aG (aD (bV ?_)); refine ⟨⟨k + 1, obw1⟩, ?_, ⟨rfl, trivial⟩, ⟨rfl, rfl, rfl, rfl, trivial⟩, hE21, ?_⟩
   · (try dsimp only); omega
   try dsimp only
   have hfin := hBDw1; refine ⟨by omega, ?_, hU1⟩
   rw [qK, qc, if_neg (fun h9 => by have := hz.2 h9; omega)]; simpa [List.append_assoc] using hfin
  obtain rfl : k = s.size := by omega
  refine eD (cO (cO (eC (aA ?_)))); refine aE (aB ?_)
  refine aM (vs := [_]) qH rfl (rQ hBDl (qK_lo s _) (fun g hg => by have h9 := hul g hg; omega)) rfl ?_
  rintro _ w22 ⟨rfl, hw23⟩; have hE24 := hV8.step hw23 (fun y hy => .inr (Nat.le_trans hub (zI.1 hy).2)); refine aN (aD (aA (aP (aJ rfl rfl ?_)))); exact ⟨rfl, hE24⟩
end Go.Proofs.YtljadkcojnlioaaGreatDoor
namespace Go.Proofs.YtljadkcojnlioaaGreatDoor
open Go.Proofs Go.W Go.RowKit
abbrev flz : Fl := ⟨false, false, false, false⟩
theorem FK {f : Fl} {c : Int} (hf : f.fold = false) (h0 : 0 ≤ c) (h1 : c ≤ 1114111) : nQ f c = lO c := by
  rw [nQ, if_neg (by rw [hf]; simp)]
  exact vY (m := [(c, c)]) (JK h0 h1) rfl rfl
theorem LR {a b : Int} (h0 : 0 ≤ a) (h1 : a < b) (h2 : b ≤ 1114111) {S : Int → Prop} (hS : ∀ c, S c ↔ a ≤ c ∧ c ≤ b) : iL S = jQ [(a, b)] :=
  oL (qB (wQ h0 (by omega) h2) fun c => by rw [jY, hS]) fun _ => by show ¬ a = b; omega
abbrev aL : List Nat := [97, 124, 91, 99, 45, 101, 93, 43, 63]
def aS : ByteArray := ByteArray.mk #[97, 124, 91, 99, 45, 101, 93, 43, 63]
def aT : Rx := vL 5 [lO 97, lD 1 (-1) true (jQ [(99, 101)])]
theorem aS_size : aS.size = 9 := rfl
theorem OB : ∀ k, k < aS.size → sb aS k < 128 := by rw [aS_size]; decide +kernel
theorem nxA {k : Nat} (hk : k < 9) : cG aS k = (((sb aS k : Nat) : Int), 1) := vX hk (OB k hk)
theorem OA : kJ aS flz 3 = .ok (jQ [(99, 101)], 7) := by
  have h1 : kZ aS 3 = .ok (99, 4) := by rw [rX (by decide +kernel), nxA (by decide)]; exact congrArg Except.ok (Prod.ext (show ((sb aS 3 : Nat) : Int) = 99 by decide +kernel) rfl)
  have h2 : kZ aS 5 = .ok (101, 6) := by rw [rX (by decide +kernel), nxA (by decide)]; exact congrArg Except.ok (Prod.ext (show ((sb aS 5 : Nat) : Int) = 101 by decide +kernel) rfl)
  have h3 : iS aS 3 = .ok (rgS 99 101, 6) := by
    unfold iS
    rw [h1]
    simp only
    rw [if_pos (by decide +kernel), h2]
    simp only
    rw [if_neg (by decide)]
  have h4 : jR aS 3 = .ok (rgS 99 101, 6) := by
    unfold jR
    rw [if_neg (by decide +kernel)]
    unfold kP
    rw [if_neg (by decide +kernel), h3]
  have h5 : fK aS (aS.size + 1) true (fun _ => False) 3 = .ok (unS (fun _ => False) (rgS 99 101), 7) := by
    show fK aS 10 true (fun _ => False) 3 = _
    rw [fK, if_neg (by decide +kernel), if_neg (by decide), h4]
    simp only
    rw [fK, if_neg (by decide +kernel), if_pos (by decide +kernel)]
  unfold kJ
  rw [if_neg (show ¬ isB aS 3 94 by decide +kernel), h5]
  simp only
  rw [if_neg (show ¬ isB aS 3 94 by decide +kernel), if_neg (by decide)]
  exact congrArg Except.ok (Prod.ext (LR (by decide) (by decide) (by decide) fun c => by unfold unS rgS; simp) rfl)
theorem NZ : iB aS = .ok aT := by
  have e1 : jD aS (lN aS 249) (aS.size + 1) [] false st0 = .ok (lO 97, ⟨1, flz, 0, []⟩) := by
    show jD aS (lN aS 249) 10 [] false st0 = _
    rw [NX (c := 97) (by decide +kernel) (by decide), mA (st := gS st0 1) (.inr (.inl (by decide +kernel)))]
    show Except.ok (nQ flz 97, _) = _
    rw [FK rfl (by decide) (by decide)]
    rfl
  have e2 : jD aS (lN aS 249) (aS.size + 1) [] false (adv ⟨1, flz, 0, []⟩ 1) = .ok (lD 1 (-1) true (jQ [(99, 101)]), ⟨9, flz, 0, []⟩) := by
    show jD aS (lN aS 249) 10 [] false ⟨2, flz, 0, []⟩ = _
    rw [nD (c := 91) (st := ⟨2, flz, 0, []⟩) (by decide +kernel) (by decide) (CB (by decide +kernel) OA)]
    have hr : lS (aS.extract 7 aS.size) = (1, -1, 1) := by decide +kernel
    rw [AJ (lo := 1) (hi := -1) (nn := 1) (st := gS ⟨2, flz, 0, []⟩ 7) (by decide +kernel) hr (by decide) (by decide) (by decide +kernel), mA (.inl (by decide +kernel))]
    rfl
  have e3 : lN aS 250 st0 = .ok (aT, ⟨9, flz, 0, []⟩) := by
    show lQ aS (lN aS 249) st0 = _
    rw [FQ (show qY aS (lN aS 249) st0 = _ from e1), HY (st := ⟨1, flz, 0, []⟩) (by decide +kernel) e2, wX (by decide +kernel)]
    rfl
  exact GO (by decide +kernel) ⟨_, GE OB⟩ e3 (by decide +kernel)
def oS : ByteArray := ByteArray.mk #[40]
theorem MK {s : ByteArray} {ex : PS → PX Rx} {st st2 : PS} {x : Rx} (h : isB s st.pos 40) (hq : ¬ isB s (st.pos + 1) 63) (ho : st.opn ≠ 250) (hl : ¬ JP emp st.names) (hx : ex ⟨st.pos + 1, st.now, st.opn + 1, st.names ++ [emp]⟩ = .ok (x, st2)) (hc : ¬ isB s st2.pos 41) : fW s ex st = .error 80 := by
  rw [HT h, oP (vV (fun h2 => hq h2.2)) (by simp) ho (by simp) (fun h3 => hl h3.2)]
  show (match ex ⟨st.pos + 1, st.now, st.opn + 1, if true = true then st.names ++ [emp] else st.names⟩ with | .error e => _ | .ok (x, st2) => _) = _
  rw [if_pos rfl, hx]
  simp only
  rw [if_neg hc]
theorem LN : iB oS = .error 80 := by
  obtain ⟨ex, he⟩ := pExp_ex oS 249
  have e0 : lN oS 249 ⟨1, flz, 1, [emp]⟩ = .ok (rxK 1, ⟨1, flz, 1, [emp]⟩) := by
    rw [he]; exact wL (mA (.inl (by decide +kernel))) (by decide +kernel)
  have e1 : fW oS (lN oS 249) st0 = .error 80 := MK (st := st0) (st2 := ⟨1, flz, 1, [emp]⟩) (by decide +kernel) (by decide +kernel) (by decide) (fun h => h.elim (by decide) (fun h3 => h3.1 rfl)) e0 (by decide +kernel)
  have e2 : lN oS 250 st0 = .error 80 := by
    show lQ oS (lN oS 249) st0 = _
    exact MU (wY (c := 40) (by decide +kernel) (by decide) e1)
  exact KU (by decide +kernel) ⟨_, GE (by decide +kernel)⟩ e2
theorem np_lit {c : Int} (h0 : 0 ≤ c) (h1 : c ≤ 1114111) : NodeP (lO c) := ⟨by show (1 : Int) ≤ 2; decide, by show (2 : Int) ≤ 13; decide, .inl rfl, .inr rfl, .inr ⟨rfl, rfl, rfl⟩, .inr ⟨rfl, rfl⟩, fun _ => ⟨h0, h1⟩, fun h => absurd (show (2 : Int) = 3 from h) (by decide), fun h => absurd (show (2 : Int) = 4 ∨ (2 : Int) = 5 from h) (by decide), fun h => absurd (show (2 : Int) = 6 from h) (by decide), fun h => absurd (show (2 : Int) = 7 from h) (by decide), fun _ => rfl⟩
theorem np_cls {l : List (Int × Int)} (h : RangesOk l) : NodeP (jQ l) := ⟨by show (1 : Int) ≤ 3; decide, by show (3 : Int) ≤ 13; decide, .inr rfl, .inl rfl, .inr ⟨rfl, rfl, rfl⟩, .inr ⟨rfl, rfl⟩, fun h => absurd (show (3 : Int) = 2 from h) (by decide), fun _ => h, fun h => absurd (show (3 : Int) = 4 ∨ (3 : Int) = 5 from h) (by decide), fun h => absurd (show (3 : Int) = 6 from h) (by decide), fun h => absurd (show (3 : Int) = 7 from h) (by decide), fun _ => rfl⟩
theorem np_row {k : Int} {l : List Rx} (hk : k = 4 ∨ k = 5) (hl : 2 ≤ l.length) : NodeP (vL k l) := ⟨by show (1 : Int) ≤ k; omega, by show k ≤ 13; omega, .inr rfl, .inr rfl, .inr ⟨rfl, rfl, rfl⟩, .inr ⟨rfl, rfl⟩, fun h => by have : k = 2 := h; omega, fun h => by have : k = 3 := h; omega, fun _ => hl, fun h => by have : k = 6 := h; omega, fun h => by have : k = 7 := h; omega, fun h => (h (by show k = 4 ∨ k = 5 ∨ k = 6 ∨ k = 7; omega)).elim⟩
theorem np_rep {lo hi : Int} {z : Bool} {x : Rx} (h0 : 0 ≤ lo) (h1 : lo ≤ 1000) (h2 : hi = -1 ∨ (lo ≤ hi ∧ hi ≤ 1000)) : NodeP (lD lo hi z x) := ⟨by show (1 : Int) ≤ 6; decide, by show (6 : Int) ≤ 13; decide, .inr rfl, .inr rfl, .inl rfl, .inr ⟨rfl, rfl⟩, fun h => absurd (show (6 : Int) = 2 from h) (by decide), fun h => absurd (show (6 : Int) = 3 from h) (by decide), fun h => absurd (show (6 : Int) = 4 ∨ (6 : Int) = 5 from h) (by decide), fun _ => ⟨h0, h1, h2, rfl⟩, fun h => absurd (show (6 : Int) = 7 from h) (by decide), fun h => (h (.inr (.inr (.inl rfl)))).elim⟩
theorem rok_one {a b : Int} (h0 : 0 ≤ a) (h1 : a < b) (h2 : b ≤ 1114111) : RangesOk [(a, b)] := by
  refine ⟨fun i hi => ?_, fun _ => by show a ≠ b; omega⟩
  have hi0 : i = 0 := by simpa using hi
  subst hi0
  exact ⟨h0, by show a ≤ b; omega, h2, fun j hj e => by omega⟩
theorem yK {x : Rx} {b : Int} {st : St} (hp : NodeP x) (hk : xD x.kind) (h7 : x.kind ≠ 7) (h1 : st.1 + 1 ≤ 8194) (hb : b ≤ 250) : x.fine b st = some (st.1 + 1, st.2) := by
  rw [pY ⟨h1, by rw [if_neg h7]; exact hb, hp, fun h => absurd h h7⟩, hp.leaf hk, fX, if_neg h7]
theorem aT_ok : aT.Ok := by
  have hl : ∀ b : Int, b ≤ 250 → ∀ st : St, st.1 + 1 ≤ 8194 → (lO 97).fine b st = some (st.1 + 1, st.2) := fun b hb st h => yK (np_lit (by decide) (by decide)) (by unfold xD; decide) (by decide) h hb
  have hc : ∀ b : Int, b ≤ 250 → ∀ st : St, st.1 + 1 ≤ 8194 → (jQ [(99, 101)]).fine b st = some (st.1 + 1, st.2) := fun b hb st h => yK (np_cls (rok_one (by decide) (by decide) (by decide))) (by unfold xD; decide) (by decide) h hb
  refine ⟨(4, []), ?_⟩
  show (vL 5 [lO 97, lD 1 (-1) true (jQ [(99, 101)])]).fine 0 (0, []) = _
  rw [pY ⟨by decide, by decide, np_row (.inr rfl) (by decide), fun h => absurd (show (5 : Int) = 7 from h) (by decide)⟩]
  show fX [lO 97, lD 1 (-1) true (jQ [(99, 101)])] 5 0 (1, []) = _
  rw [fX, if_neg (show ¬ Brk (lO 97).kind 5 by decide), hl _ (by decide) _ (by decide)]
  simp only
  rw [fX, if_neg (show ¬ Brk (lD 1 (-1) true (jQ [(99, 101)])).kind 5 by decide), pY ⟨by decide, by decide, np_rep (by decide) (by decide) (.inl rfl), fun h => absurd (show (6 : Int) = 7 from h) (by decide)⟩]
  show (match fX [jQ [(99, 101)]] 6 0 (3, []) with | none => none | some st' => fX [] 5 0 st') = _
  rw [fX, if_neg (show ¬ Brk (jQ [(99, 101)]).kind 6 by decide), hc _ (by decide) _ (by decide)]
  simp only
  rw [fX]
  simp only
  rw [fX]
theorem aT_txt : sY aT = aL := by
  have h1 : sC 99 = [99] := by rw [sC, if_pos (by decide), show (99 : Int) = ((99 : Nat) : Int) from rfl, kO (by decide)]; rfl
  have h2 : sC 101 = [101] := by rw [sC, if_pos (by decide), show (101 : Int) = ((101 : Nat) : Int) from rfl, kO (by decide)]; rfl
  have h3 : pV 97 = [97] := by rw [pV, if_neg (by decide), if_neg (by decide), show (97 : Int) = ((97 : Nat) : Int) from rfl, kO (by decide)]; rfl
  have h4 : xJ [(99, 101)] = [91, 99, 45, 101, 93] := by rw [xJ, if_neg (by simp)]; simp [tB, h1, h2]
  have h5 : (lO 97).w = [97] := by rw [Rx.w_eq]; show pV 97 ++ gI 2 true [] ++ [] = _; rw [h3, gI]; rfl
  have h6 : (jQ [(99, 101)]).w = [91, 99, 45, 101, 93] := by rw [Rx.w_eq]; show xJ [(99, 101)] ++ gI 3 true [] ++ [] = _; rw [h4, gI]; rfl
  have h7 : (lD 1 (-1) true (jQ [(99, 101)])).w = [91, 99, 45, 101, 93, 43, 63] := by
    rw [Rx.w_eq]
    show [] ++ gI 6 true [jQ [(99, 101)]] ++ ([43] ++ [63]) = _
    rw [gI, gI, h6]; rfl
  have h8 : aT.w = aL := by
    rw [Rx.w_eq]
    show [] ++ gI 5 true [lO 97, lD 1 (-1) true (jQ [(99, 101)])] ++ [] = _
    rw [gI, gI, gI, h5, h7]; rfl
  have h9 : aT.ln = false := by
    rw [Rx.ln_eq]
    show (decide ((5 : Int) = 10 ∨ (5 : Int) = 11) || lns [lO 97, lD 1 (-1) true (jQ [(99, 101)])]) = false
    rw [lns, lns, lns, Rx.ln_eq, Rx.ln_eq]
    show (_ || (decide ((2 : Int) = 10 ∨ (2 : Int) = 11) || lns [] || (decide ((6 : Int) = 10 ∨ (6 : Int) = 11) || lns [jQ [(99, 101)]] || false))) = false
    rw [lns, lns, Rx.ln_eq]
    show (_ || (_ || false || (_ || (decide ((3 : Int) = 10 ∨ (3 : Int) = 11) || lns [] || lns []) || false))) = false
    rw [lns]; decide
  rw [sY, if_neg (by rw [h9]; simp), h8]; rfl
theorem zero_no {x : Rx} (h : x.kind = 0) : ¬ x.Ok := by
  rintro ⟨st, hs⟩
  rw [sB (fun h2 => by have := h2.2.2.1.kind1; omega)] at hs
  cases hs
theorem aT_show {s : List Nat} {e : Int} (h : ShowIs aT s e) : s = aL ∧ e = 0 := by
  have h2 : ShowIs aT aL 0 := .inr ⟨aT_ok, .inr ⟨by rw [aT_txt]; decide, aT_txt.symm, rfl⟩⟩
  exact h.uniq h2
theorem rrx_up : ∀ {n : Nat} {X : List Nat} {w : World} {vs : List Value} {x : Rx}, RRx n X w vs x → RRx (n + 1) X w vs x := by
  intro n
  induction n with
  | zero => intro X w vs x h; exact h.elim
  | succ n ih =>
    rintro X w vs x ⟨vr, vk, h1, h2, ⟨a, c, hv, hc, h3⟩, h4⟩
    exact ⟨vr, vk, h1, h2, ⟨a, c, hv, hc, fun k hk => by obtain ⟨b, o, us, ha, hb, hl, hcs, hr⟩ := h3 k hk; exact ⟨b, o, us, ha, hb, hl, hcs, ih hr⟩⟩, h4⟩
theorem KH {n m : Nat} {X : List Nat} {w : World} {vs : List Value} {x : Rx} (h : RRx n X w vs x) (hm : n ≤ m) : RRx m X w vs x := by
  induction hm with
  | refl => exact h
  | step _ ih => exact rrx_up ih
mutual
theorem OT.rrx : ∀ {x : Rx} {w : World} {vs : List Value} {bs X : List Nat}, OT x w vs bs → (∀ b, b ∈ bs → b ∉ X) → ∃ n, RRx n X w vs x
  | .mk k r rs mn mx lz cp nm ks, w, vs, bs, X, h, hX => by
    rw [OT] at h
    obtain ⟨ra, rc, rb, ka, kc, kb, cs, bk, h1, h2, h3, h4, rfl, h5, h6, h7⟩ := h
    obtain ⟨n, hn⟩ := OTs.rrx h4 (X := X) (fun b hb => hX b (List.mem_append_right _ (List.mem_append_right _ hb)))
    refine ⟨n + 1, _, _, h1, own_rrg h2 (fun g hg => hX g (by simp [hg])), ⟨ka, kc, rfl, h3.le, fun j hj => ?_⟩, by show rs.length ≤ _; omega, by show nm.size ≤ _; omega, by show ks.length ≤ _; omega⟩
    obtain ⟨us, hul, huc, hur⟩ := hn j hj
    have hj' : j < ks.length := hj
    obtain ⟨g, hg, ha, hc⟩ := h3.cells (by omega)
    refine ⟨g, 0, us, ha, hX g (by simp [hg]), hul, fun i v hi => ?_, hur⟩
    have := hc _ _ (huc i v hi)
    rw [← Nat.add_assoc] at this
    exact this
theorem OTs.rrx : ∀ {l : List Rx} {w : World} {cs : List Value} {bs X : List Nat}, OTs l w cs bs → (∀ b, b ∈ bs → b ∉ X) → ∃ n, ∀ k (hk : k < l.length), ∃ us, us.length = 9 ∧ (∀ j v, us[j]? = some v → cs[k * 9 + j]? = some v) ∧ RRx n X w us l[k]
  | [], w, cs, bs, X, h, hX => ⟨0, fun k hk => by cases hk⟩
  | x :: l, w, cs, bs, X, h, hX => by
    rw [OTs] at h
    obtain ⟨vs, cs', b1, b2, rfl, rfl, h3, h4⟩ := h
    obtain ⟨n1, hn1⟩ := OT.rrx h3 (X := X) (fun b hb => hX b (List.mem_append_left _ hb))
    obtain ⟨n2, hn2⟩ := OTs.rrx h4 (X := X) (fun b hb => hX b (List.mem_append_right _ hb))
    have hl9 : vs.length = 9 := by obtain ⟨ra, rc, ka, kc, rfl⟩ := h3.nine; rfl
    refine ⟨max n1 n2, fun k hk => ?_⟩
    cases k with
    | zero => exact ⟨vs, hl9, fun j v hj => by rw [Nat.zero_mul, Nat.zero_add, List.getElem?_append_left (List.getElem?_eq_some_iff.1 hj).1]; exact hj, KH hn1 (Nat.le_max_left _ _)⟩
    | succ k =>
      obtain ⟨us, hu1, hu2, hu3⟩ := hn2 k (by simpa using hk)
      refine ⟨us, hu1, fun j v hj => ?_, KH hu3 (Nat.le_max_right _ _)⟩
      rw [List.getElem?_append_right (by omega), show (k + 1) * 9 + j - vs.length = k * 9 + j by omega]
      exact hu2 j v hj
end
end Go.Proofs.YtljadkcojnlioaaGreatDoor
namespace Go.Proofs.YtljadkcojnlioaaGreatDoor
open Go.Proofs
open Go.W Go.RowKit
attribute [local irreducible] Decidable.decide
theorem kE : eV Tryz.prog 11 := ⟨_, Tryz.func11, by kernel_rfl, by kernel_rfl⟩
theorem EI : eV Tryz.prog 14 := ⟨_, Tryz.func14, by kernel_rfl, by kernel_rfl⟩
theorem EH : eV Tryz.prog 19 := ⟨_, Tryz.func19, by kernel_rfl, by kernel_rfl⟩
theorem pS {w : World} {s : ByteArray} {x : Rx} (hG : Glb w) (h : iB s = .ok x) : Calls Tryz.prog 11 #[.string s] w (Ret fun v w' => ∃ vs bs, v = .tuple #[.agg vs.toArray, iv 0] ∧ OT x w' vs bs ∧ Fr w bs ∧ Evo [] w w') := by
  refine (vR s hG).mono ?_
  rintro e w' ⟨v, rfl, hv, h1 | ⟨x2, vs, bs, h2, rfl, h4, h5⟩⟩
  · obtain ⟨e, h1, -⟩ := h1
    rw [h] at h1; cases h1
  · rw [h] at h2; cases h2
    exact ⟨_, rfl, vs, bs, rfl, h4, h5, hv⟩
theorem IQ {w : World} {s : ByteArray} {e : Int} (hG : Glb w) (h : iB s = .error e) : Calls Tryz.prog 11 #[.string s] w (Ret fun v w' => v = .tuple #[zRx, iv e] ∧ Evo [] w w') := by
  refine (vR s hG).mono ?_
  rintro e9 w' ⟨v, rfl, hv, h1 | ⟨x2, vs, bs, h2, rfl, h4, h5⟩⟩
  · obtain ⟨e2, h1, h3⟩ := h1
    rw [h] at h1; cases h1
    exact ⟨_, rfl, h3, hv⟩
  · rw [h] at h2; cases h2
def zX : Rx := .mk 0 0 [] 0 0 false 0 emp []
theorem zX_rx (X : List Nat) (w : World) : RRx 1 X w [iv 0, .int .i32 0, .slice none 0 0, iv 0, iv 0, .bool false, iv 0, .string ByteArray.empty, .slice none 0 0] zX := ⟨_, _, rfl, rnil0, rnil0, Nat.zero_le _, Nat.zero_le _, Nat.zero_le _⟩
set_option maxHeartbeats 4000000 in
theorem NY {w : World} (hG : Gw w) : Calls Tryz.prog 10 #[] w (Ret fun v w' => v = .bool true ∧ Evo [] w w') := by
  refine bP (N := 113) Tryz.func10 rfl rfl rfl ?_; refine aE (aB (aN (aD (aA (aE (aB (aM (vs := [_]) kE rfl (pS (s := aS) (hG.evo0 (Evo.refl [] w)).glb NZ) rfl ?_))))))); rintro _ w1 ⟨vs, bs, rfl, hOT, hFr, hw2⟩; have hE3 := (Evo.refl [] w).then hw2; obtain ⟨n1, hx1⟩ := hOT.rrx (X := []) (fun b _ h => by cases h); have hx1' := hx1; obtain ⟨m1, ra1, rc1, ka1, kc1, hm1, rfl, hrg1, hk1, -⟩ := hx1.get; obtain ⟨_, _, hke, -, e1⟩ := hk1; cases hke; obtain ⟨b1, o1, vs1, ha1, -, -, hc1, hr1⟩ := e1 0 (by decide); obtain ⟨m2, ra2, rc2, ka2, kc2, -, rfl, -⟩ := hr1.get; obtain ⟨b2, o2, vs2, ha2, -, -, hc2, hr2⟩ := e1 1 (by decide); obtain ⟨m3, ra3, rc3, ka3, kc3, -, rfl, -, hk3, -⟩ := hr2.get; obtain ⟨_, _, hke3, -, e3⟩ := hk3; cases hke3; obtain ⟨b4, o4, vs4, ha4, -, -, hc4, hr4⟩ := e3 0 (by decide); obtain ⟨m5, ra5, rc5, ka5, kc5, -, rfl, hrg5, -⟩ := hr4.get; obtain ⟨_, _, hke5, -, e5⟩ := hrg5; cases hke5; obtain ⟨b6, o6, vs6, ha6, -, -, hc6, hr6⟩ := e5 0 (by decide); obtain rfl := hr6; refine aG (aC rfl (cL rfl rfl) ?_); refine aC rfl (cL rfl rfl) ?_; refine dB rfl dR fun bx w4 hB5 hs6 hw7 => ?_; have hsz_bx := hs6; have hG8 := Ge.new hE3 hs6; have hG9 := Ge.new (Evo.refl [] w1) hs6; have hE10 := hE3.then hw7; have hE11 := (Evo.refl [] w1).then hw7; refine bK rfl rfl aY hB5 rfl rfl ⟨rfl, rfl, rfl, rfl, rfl, rfl, rfl, rfl, rfl, trivial⟩ fun w12 hB13 hw14 => ?_; have hE15 := hE10.step hw14 hG8.mem1; have hE16 := hE11.step hw14 hG9.mem1
  try simp only [cT, Nat.reduceAdd] at hB13
  refine aN (aD (aA (aE (aE (aB (aG ?_)))))); refine aC rfl (fB (r := .bool false) rfl rfl (fun w => by kernel_rfl)) ?_; refine aG (aR (aC rfl (aF rfl eI) (aR (aC rfl (aI rfl bD (aK hB13 rfl)) (aR ?_))))); refine aC rfl (fB (r := .bool false) rfl rfl (fun w => by kernel_rfl)) ?_; refine aU (aG (aR (aC rfl (aF rfl dF) (aR (aC rfl (aI rfl dU (aK hB13 rfl)) (aR (aC rfl (bR rfl Tryz.underlying25 rfl) ?_))))))); refine aR ?_; refine aC rfl (fB (r := .bool false) rfl rfl (fun w => by kernel_rfl)) ?_; refine aU (aG (aR (aC rfl (aF rfl dF) (aR (aC rfl (aI rfl dU (aK hB13 rfl)) (aR ?_))))))
  refine aC rfl (fZ (n := 0) (by rw [ha1]; rfl) rfl rfl eJ (by decide)) ?_
  refine aR (aC rfl (aF rfl eO) (aR ?_)); refine aC rfl (aI rfl cH ((hE16).cell (hc1 1 _ rfl) (by simp))) ?_; refine aR ?_; refine aC rfl (fB (r := .bool false) rfl rfl (fun w => by kernel_rfl)) ?_; refine aU (aD (aA (cK rfl ?_))); refine aW (aA (aE (aB (aC rfl (aF rfl dF) (aC rfl (aI rfl dU (aK hB13 rfl)) ?_)))))
  refine aC rfl (gD (n := 1) (by rw [ha2]; rfl) rfl eJ (by decide)) ?_
  refine aC rfl (eW rfl bS aY (vs := [_, _, _, _, _, _, _, _, _]) rfl (hc2.evo hE16 (by simp))) ?_; refine dB rfl dR fun by9 w17 hB18 hs19 hw20 => ?_; have hsz_by9 := hs19; have hA21 := Apart.new (Lt.blk hB13) hs19; have hG22 := Ge.new hE15 hs19; have hG23 := Ge.new hE16 hs19; have hE24 := hE15.then hw20; have hE25 := hE16.then hw20; have hB26 := hw20.blk0 hB13; refine bK rfl rfl aY hB18 rfl rfl ⟨rfl, rfl, rfl, rfl, rfl, rfl, rfl, rfl, rfl, trivial⟩ fun w27 hB28 hw29 => ?_; have hE30 := hE24.step hw29 hG22.mem1; have hE31 := hE25.step hw29 hG23.mem1; have hB32 := hw29.blk hB26 hA21.nmem1
  try simp only [cT, Nat.reduceAdd] at hB28
  refine aD (aA (aE (aE (aB (aC rfl (aF rfl eI) (aC rfl (aI rfl bD (aK hB28 rfl)) ?_)))))); refine aC rfl (fB (r := .bool false) rfl rfl (fun w => by kernel_rfl)) ?_; refine aG (aR (aC rfl (aF rfl dL) (aR (aC rfl (aI rfl bD (aK hB28 rfl)) (aR ?_))))); refine aC rfl (fB (r := .bool false) rfl rfl (fun w => by kernel_rfl)) ?_; refine aU (aG (aR (aC rfl (aF rfl dK) (aR (aC rfl (aI rfl bD (aK hB28 rfl)) (aR ?_)))))); refine aC rfl (fB (r := .bool false) rfl rfl (fun w => by kernel_rfl)) ?_; refine aU (aG (aR (aC rfl (aF rfl eN) (aR (aC rfl (aI rfl eA (aK hB28 rfl)) (aR (aC rfl (fG rfl) ?_))))))); refine aU (aG (aR (aC rfl (aF rfl dF) (aR (aC rfl (aI rfl dU (aK hB28 rfl)) (aR (aC rfl (bR rfl Tryz.underlying25 rfl) ?_))))))); refine aR ?_; refine aC rfl (fB (r := .bool false) rfl rfl (fun w => by kernel_rfl)) ?_; refine aU (aG (aR (aC rfl (aF rfl dF) (aR (aC rfl (aI rfl dU (aK hB28 rfl)) (aR ?_))))))
  refine aC rfl (fZ (n := 0) (by rw [ha4]; rfl) rfl rfl eJ (by decide)) ?_
  refine aR (aC rfl (aF rfl dX) (aR ?_)); refine aC rfl (aI rfl fE ((hE31).cell (hc4 2 _ rfl) (by simp))) ?_; refine aR (aC rfl (bR rfl Tryz.underlying24 rfl) ?_); refine aR ?_; refine aC rfl (fB (r := .bool false) rfl rfl (fun w => by kernel_rfl)) ?_; refine aU (aG (aR (aC rfl (aF rfl dF) (aR (aC rfl (aI rfl dU (aK hB28 rfl)) (aR ?_))))))
  refine aC rfl (fZ (n := 0) (by rw [ha4]; rfl) rfl rfl eJ (by decide)) ?_
  refine aR (aC rfl (aF rfl dX) (aR ?_)); refine aC rfl (aI rfl fE ((hE31).cell (hc4 2 _ rfl) (by simp))) ?_; refine aR ?_
  refine aC rfl (fZ (n := 0) (by rw [ha6]; rfl) rfl rfl eX (by decide)) ?_
  refine aR (aC rfl (aF rfl eS) (aR ?_)); refine aC rfl (aI rfl cH ((hE31).cell (hc6 1 _ rfl) (by simp))) ?_; refine aR ?_; refine aC rfl (fB (r := .bool false) rfl rfl (fun w => by kernel_rfl)) ?_; refine aU (aD (aA (cK rfl ?_))); refine aW (aA (aE (aB (aC rfl (bX rfl bS aY hB32 rfl) ?_)))); refine aM (vs := [_]) EH rfl (Show_ok (hG.evo0 hE30) (RRx.pers _ _ _ _ _ _ hE31 hx1') (by decide +kernel)) rfl ?_; rintro _ w33 ⟨s, e, hsh, rfl, hw34⟩; have hE35 := hE30.then hw34; have hE36 := hE31.then hw34; have hB37 := hw34.blk0 hB32; obtain ⟨rfl, rfl⟩ := aT_show hsh; refine aG (aC rfl (cL rfl rfl) ?_); refine aC rfl (cL rfl rfl) ?_; refine aN (aN (aD (aA (aE (aB (aM (vs := [_]) kE rfl (IQ (s := oS) (hG.evo0 hE35).glb LN) rfl ?_)))))); rintro _ w39 ⟨rfl, hw40⟩; have hE41 := hE35.then hw40; have hE42 := hE36.then hw40; have hB43 := hw40.blk0 hB37; refine aG (aC rfl (cL rfl rfl) ?_); refine aC rfl (cL rfl rfl) ?_; refine dB rfl dR fun b45 w46 hB47 hs48 hw49 => ?_; have hA50 := Apart.new (Lt.blk hB43) hs48; have hG52 := Ge.new hE41 hs48; have hG53 := Ge.new hE42 hs48; have hE54 := hE41.then hw49; have hE55 := hE42.then hw49; have hB56 := hw49.blk0 hB43; refine bK rfl rfl aY hB47 rfl rfl ⟨rfl, rfl, rfl, rfl, rfl, rfl, rfl, rfl, rfl, trivial⟩ fun w58 hB59 hw60 => ?_; have hE61 := hE54.step hw60 hG52.mem1; have hE62 := hE55.step hw60 hG53.mem1; have hB63 := hw60.blk hB56 hA50.nmem1
  refine aN (aD (aA (aE (aB (aG ?_))))); refine aC rfl (fB (r := .bool true) rfl rfl (fun w => by kernel_rfl)) ?_; refine aG (aR (aG (aR ?_))); refine aC rfl (fB (r := .bool true) rfl rfl (fun w => by kernel_rfl)) ?_; refine bL (aG (aR (aG (aR ?_)))); refine aC rfl (fB (r := .bool true) rfl rfl (fun w => by kernel_rfl)) ?_; refine bL (aG (aR ?_)); refine aM (vs := [_]) EI rfl (OC _ (by decide +kernel)) rfl ?_; rintro _ w65 ⟨rfl, hw66⟩; have hE67 := hE61.then hw66; have hE68 := hE62.then hw66; have hB69 := hw66.blk0 hB63; refine aR ?_; refine aC rfl (fB (r := .bool true) rfl rfl (fun w => by kernel_rfl)) ?_; refine bL (aG (aR (aC rfl (bX rfl bS aY hB69 rfl) (aR (aM (vs := [_]) qJ rfl (vI (RRx.pers _ _ _ _ _ _ hE68 hx1')) rfl ?_))))); rintro _ w71 ⟨r, rfl, hr, hw72⟩; have hE73 := hE67.then hw72; obtain rfl : r = true := hr.2 aT_ok; refine bL (aG (aR (aC rfl (eL (vs := []) dT rfl (cells := [_, _, _, _, _, _, _, _, _]) rfl) ?_))); refine aR (aM (vs := [_]) qJ rfl (vI (zX_rx [] _)) rfl ?_); rintro _ w77 ⟨r2, rfl, hr2, hw78⟩; have hE79 := hE73.then hw78
  obtain rfl : r2 = false := by cases r2 with | false => rfl | true => exact (zero_no rfl (hr2.1 rfl)).elim
  refine aR (aC rfl (fG rfl) ?_); refine bL (aN (aD (aA (aP (aJ rfl rfl ?_))))); exact ⟨rfl, hE79⟩
end Go.Proofs.YtljadkcojnlioaaGreatDoor
namespace Go.Proofs.YtljadkcojnlioaaGreatDoor
open Go.Proofs
open Go.W Go.RowKit
attribute [local irreducible] Decidable.decide
end Go.Proofs.YtljadkcojnlioaaGreatDoor
namespace Go.Proofs.YtljadkcojnlioaaGreatDoor
open Go.Proofs Go.W Go.RowKit
def Bdd (S : Int → Prop) : Prop := ∀ c, S c → 0 ≤ c ∧ c ≤ 1114111
theorem NI (S : Int → Prop) (M : Int) (hM : M = 1114112) : ∀ n : Nat, ∃ l, jT (M - n) l ∧ ∀ c, InR c l ↔ (M - n ≤ c ∧ c ≤ 1114111 ∧ S c)
  | 0 => ⟨[], trivial, fun c => ⟨fun h => (kM c h).elim, fun h => by omega⟩⟩
  | n + 1 => by
    obtain ⟨l, h1, h2⟩ := NI S M hM n
    have e : M - (n + 1 : Nat) = M - n - 1 := by omega
    by_cases hs : S (M - (n + 1 : Nat))
    · cases l with
      | nil =>
        refine ⟨[(M - (n + 1 : Nat), M - (n + 1 : Nat))], ⟨Int.le_refl _, Int.le_refl _, by omega, trivial⟩, fun c => ?_⟩
        rw [jY]
        constructor
        · intro h; obtain rfl : c = M - (n + 1 : Nat) := by simp only at h; omega
          exact ⟨by omega, by omega, hs⟩
        · rintro ⟨h3, h4, h5⟩
          by_cases hc : c = M - (n + 1 : Nat)
          · simp only; omega
          · exact (kM c ((h2 c).2 ⟨by omega, h4, h5⟩)).elim
      | cons g l =>
        obtain ⟨g1, g2, g3, g4⟩ := h1
        by_cases hg : g.1 = M - n
        · refine ⟨(M - (n + 1 : Nat), g.2) :: l, ⟨Int.le_refl _, by simp only; omega, g3, g4⟩, fun c => ?_⟩
          have h2c := h2 c
          rw [gJ] at h2c ⊢
          simp only
          constructor
          · intro h
            by_cases hc : c = M - (n + 1 : Nat)
            · exact ⟨by omega, by omega, by rw [hc]; exact hs⟩
            · have := h2c.1 (h.imp (fun h => ⟨by omega, h.2⟩) id)
              exact ⟨by omega, this.2⟩
          · rintro ⟨h3, h4, h5⟩
            by_cases hc : c = M - (n + 1 : Nat)
            · left; omega
            · rcases h2c.2 ⟨by omega, h4, h5⟩ with h | h
              · left; omega
              · exact .inr h
        · refine ⟨(M - (n + 1 : Nat), M - (n + 1 : Nat)) :: g :: l, ⟨Int.le_refl _, Int.le_refl _, by simp only; omega, by simp only; omega, g2, g3, g4⟩, fun c => ?_⟩
          have h2c := h2 c
          rw [gJ]
          simp only
          constructor
          · rintro (h | h)
            · obtain rfl : c = M - (n + 1 : Nat) := by omega
              exact ⟨by omega, by omega, hs⟩
            · have := h2c.1 h
              exact ⟨by omega, this.2⟩
          · rintro ⟨h3, h4, h5⟩
            by_cases hc : c = M - (n + 1 : Nat)
            · left; omega
            · exact .inr (h2c.2 ⟨by omega, h4, h5⟩)
    · refine ⟨l, AF h1 (by omega), fun c => ?_⟩
      rw [h2 c]
      constructor
      · rintro ⟨h3, h4⟩; exact ⟨by omega, h4⟩
      · rintro ⟨h3, h4, h5⟩
        have : c ≠ M - (n + 1 : Nat) := fun h => hs (by rw [← h]; exact h5)
        exact ⟨by omega, h4, h5⟩
theorem JL {S : Int → Prop} (hS : Bdd S) : rT (kC S) ∧ ∀ c, InR c (kC S) ↔ S c := by
  obtain ⟨l, h1, h2⟩ := NI S 1114112 rfl 1114112
  have h1' : rT l := by rw [show ((1114112 : Int) - (1114112 : Nat)) = 0 by omega] at h1; exact h1
  have h2' : ∀ c, InR c l ↔ S c := fun c => (h2 c).trans ⟨fun h => h.2.2, fun h => ⟨by have := (hS c h).1; omega, (hS c h).2, h⟩⟩
  rw [qB h1' h2']
  exact ⟨h1', h2'⟩
def uP (x : Rx) (r : Int) : Prop := if x.kind = 2 then x.r = r else InR r x.ranges
theorem CN (S : Int → Prop) : (∃ a, kC S = [(a, a)] ∧ iL S = lO a) ∨ (iL S = jQ (kC S)) := by
  generalize h : kC S = l
  match l, h with
  | [], h => exact .inr (oL h (fun h1 => by simp at h1))
  | [(a, b)], h =>
    by_cases e : a = b
    · subst e; exact .inl ⟨a, rfl, vY h rfl rfl⟩
    · exact .inr (oL h (fun _ => e))
  | g :: g2 :: l, h => exact .inr (oL h (fun h1 => by simp at h1))
theorem oK {S : Int → Prop} (hS : Bdd S) (r : Int) : uP (iL S) r ↔ S r := by
  have h2 := (JL hS).2 r
  rcases CN S with ⟨a, h, e⟩ | e
  · rw [e, ← h2, h, jY]
    show (if (2 : Int) = 2 then a = r else _) ↔ _
    rw [if_pos rfl]
    constructor
    · rintro rfl; exact ⟨Int.le_refl _, Int.le_refl _⟩
    · intro h; simp only at h; omega
  · rw [e, ← h2]
    show (if (3 : Int) = 2 then _ else InR r (kC S)) ↔ _
    rw [if_neg (by decide)]
theorem nE {l : List (Int × Int)} (h : l.all (fun g => decide (0 ≤ g.1) && decide (g.2 ≤ 1114111)) = true) : Bdd (rs l) := by
  rintro c ⟨g, hg, h1⟩
  have := List.all_eq_true.1 h g hg
  simp at this
  omega
theorem zH (S : Int → Prop) : Bdd (rG S) := fun c h => ⟨h.1, h.2.1⟩
theorem CY {S : Int → Prop} (h : Bdd S) : Bdd (kB S) := by
  rintro c (h1 | h1 | h1)
  · exact h c h1
  · omega
  · omega
theorem unS_bd {S T : Int → Prop} (h1 : Bdd S) (h2 : Bdd T) : Bdd (unS S T) := fun c h => h.elim (h1 c) (h2 c)
theorem letS_bd {c : Nat} {S : Int → Prop} (h : uM c = some S) : Bdd S := by
  unfold uM at h
  repeat' split at h
  all_goals first | (cases h; done) | (cases h; exact zH _) | (cases h; exact nE (by decide))
theorem lI {p : Prop} [Decidable p] {A S : Int → Prop} {o : Option (Int → Prop)} (h : (if p then some A else o) = some S) (hA : Bdd A) (ho : o = some S → Bdd S) : Bdd S := by
  by_cases hp : p
  · rw [if_pos hp] at h; cases h; exact hA
  · rw [if_neg hp] at h; exact ho h
theorem namS_bd {n : ByteArray} {S : Int → Prop} (h : jI n = some S) : Bdd S :=
  (fun h => lI h (nE (by decide)) (fun h => lI h (nE (by decide)) (fun h => lI h (nE (by decide)) (fun h => lI h (nE (by decide)) (fun h => lI h (nE (by decide)) (fun h => lI h (nE (by decide)) (fun h => lI h (nE (by decide)) (fun h => lI h (nE (by decide)) (fun h => lI h (nE (by decide)) (fun h => lI h (nE (by decide)) (fun h => lI h (nE (by decide)) (fun h => lI h (nE (by decide)) (fun h => lI h (nE (by decide)) (fun h => lI h (nE (by decide)) (fun h => by cases h))))))))))))))) h
theorem KK {a b : Int} (h0 : 0 ≤ a) (h1 : b ≤ 1114111) : Bdd (rgS a b) := fun c h => by unfold rgS at h; omega
theorem xU {s : ByteArray} {i j : Nat} {S : Int → Prop} (h : iS s i = .ok (S, j)) (hb : Bd s i) (hi : i < s.size) : Bdd S := by
  unfold iS at h
  cases h1 : kZ s i with
  | error e => rw [h1] at h; cases h
  | ok p =>
    obtain ⟨lo, m⟩ := p
    obtain ⟨b1, b2, b3, b4⟩ := kI h1 hb hi
    rw [h1] at h
    simp only at h
    split at h
    · rename_i hd
      cases h3 : kZ s (m + 1) with
      | error e => rw [h3] at h; cases h
      | ok q =>
        obtain ⟨hi9, m2⟩ := q
        rw [h3] at h
        simp only at h
        split at h
        · cases h
        · have b5 := (b1.asc hd.1.1 (by rw [hd.1.2]; decide)).1
          have b6 := kI h3 b5 hd.2.1
          cases h
          exact KK b3 b6.2.2.2
    · cases h; exact KK b3 b4
theorem xW {s : ByteArray} {i j : Nat} {S : Int → Prop} (h : kP s i = .ok (S, j)) (hb : Bd s i) (hi : i < s.size) : Bdd S := by
  unfold kP at h
  split at h
  · split at h
    · cases h; exact letS_bd (by assumption)
    · exact xU h hb hi
  · exact xU h hb hi
theorem LF {s : ByteArray} {i j : Nat} {S : Int → Prop} (h : jR s i = .ok (S, j)) (hb : Bd s i) (hi : i < s.size) : Bdd S := by
  unfold jR at h
  split at h
  · split at h
    · exact xW h hb hi
    · split at h
      · split at h
        · cases h
        · cases h; exact zH _
      · split at h
        · cases h
        · cases h; exact namS_bd (by assumption)
  · exact xW h hb hi
theorem xV {s : ByteArray} : ∀ {f i j : Nat} {fst : Bool} {S T : Int → Prop}, fK s f fst S i = .ok (T, j) → Bd s i → Bdd S → Bdd T
  | 0, i, j, fst, S, T, h, hb, hS => by rw [fK] at h; cases h
  | f + 1, i, j, fst, S, T, h, hb, hS => by
    rw [fK] at h
    split at h
    · cases h
    · split at h
      · cases h; exact hS
      · split at h
        · cases h
        · rename_i h1
          exact xV h (uX h1 hb (by omega)).1 (unS_bd hS (LF h1 hb (by omega)))
end Go.Proofs.YtljadkcojnlioaaGreatDoor
namespace Go.Proofs.YtljadkcojnlioaaGreatDoor
open Go.Proofs Go.W Go.RowKit
structure Sh (s t : ByteArray) (i i' : Nat) : Prop where
  le : i ≤ s.size
  sz : s.size + i' = t.size + i
  eq : ∀ k, sb s (i + k) = sb t (i' + k)
section
variable {s t : ByteArray} {i i' : Nat}
theorem Sh.add (h : Sh s t i i') (n : Nat) (hn : i + n ≤ s.size) : Sh s t (i + n) (i' + n) := ⟨hn, by have := h.sz; omega, fun k => by rw [Nat.add_assoc, Nat.add_assoc]; exact h.eq (n + k)⟩
theorem Sh.at0 (h : Sh s t i i') : sb s i = sb t i' := h.eq 0
theorem Sh.lt (h : Sh s t i i') (k : Nat) : i + k < s.size ↔ i' + k < t.size := by have := h.sz; omega
theorem Sh.lt0 (h : Sh s t i i') : i < s.size ↔ i' < t.size := h.lt 0
theorem Sh.isB (h : Sh s t i i') (k b : Nat) : isB s (i + k) b ↔ isB t (i' + k) b := by
  unfold Go.Proofs.YtljadkcojnlioaaGreatDoor.isB
  rw [h.lt k, h.eq k]
theorem Sh.isB0 (h : Sh s t i i') (b : Nat) : Go.Proofs.YtljadkcojnlioaaGreatDoor.isB s i b ↔ Go.Proofs.YtljadkcojnlioaaGreatDoor.isB t i' b := h.isB 0 b
theorem Sh.bytes (h : Sh s t i i') (n : Nat) : fU s i n = fU t i' n := by
  unfold fU
  exact List.map_congr_left fun k _ => h.eq k
theorem Sh.guess (h : Sh s t i i') (n : Nat) : dY s i n = dY t i' n := by
  unfold dY
  rw [h.at0, h.eq 1, h.eq 2, h.eq 3]
theorem Sh.hit (h : Sh s t i i') (n : Nat) : Hit s i n ↔ Hit t i' n := by unfold Hit; rw [h.guess, h.bytes]
theorem Sh.next (h : Sh s t i i') : cG s i = cG t i' := by
  have hz := h.sz
  by_cases hw : ∃ n, 1 ≤ n ∧ n ≤ 4 ∧ i + n ≤ s.size ∧ Hit s i n
  · obtain ⟨n, h1, h2, h3, h4⟩ := hw
    rw [(kA h1 h2 h3 h4).1, (kA h1 h2 (by omega) ((h.hit n).1 h4)).1, h.guess]
  · rw [mZ fun n h1 h2 h3 h4 => hw ⟨n, h1, h2, h3, h4⟩, mZ fun n h1 h2 h3 h4 => hw ⟨n, h1, h2, by omega, (h.hit n).2 h4⟩]
theorem Sh.step (h : Sh s t i i') : Sh s t (i + (cG s i).2) (i' + (cG s i).2) := h.add _ (by
  rcases nK s i with e | e
  · rw [e]; exact h.le
  · exact e.2.2.2.2)
theorem Sh.hexD {d j : Nat} (h : Sh s t i i') (h1 : hD s i = .ok (d, j)) : hD t i' = .ok (d, i' + 1) ∧ j = i + 1 ∧ Sh s t (i + 1) (i' + 1) := by
  unfold hD at h1 ⊢
  split at h1
  · rename_i hi
    rw [if_pos (h.lt0.1 hi), ← h.at0]
    split at h1
    · cases h1
      rename_i e
      try rw [e]
      exact ⟨rfl, rfl, h.add 1 hi⟩
    · cases h1
  · cases h1
theorem Sh.hexL : ∀ {f n m i i' j : Nat}, Sh s t i i' → lG s f n i = .ok (m, j) → ∃ j', lG t f n i' = .ok (m, j') ∧ Sh s t j j'
  | 0, n, m, i, i', j, h, h1 => by rw [lG] at h1; cases h1
  | f + 1, n, m, i, i', j, h, h1 => by
    rw [lG] at h1 ⊢
    split at h1
    · rename_i hb
      cases h1
      rw [if_pos ((h.isB0 125).1 hb)]
      exact ⟨_, rfl, h.add 1 hb.1⟩
    · rename_i hb
      rw [if_neg (fun h9 => hb ((h.isB0 125).2 h9))]
      split at h1
      · cases h1
      · rename_i d j0 e
        obtain ⟨e1, rfl, e3⟩ := h.hexD e
        rw [e1]
        simp only
        split at h1
        · cases h1
        · rename_i hc
          rw [if_neg hc]
          exact Sh.hexL e3 h1
theorem Sh.hex {n j : Nat} (h : Sh s t i i') (h1 : oH s i = .ok (n, j)) : ∃ j', oH t i' = .ok (n, j') ∧ Sh s t j j' := by
  unfold oH at h1 ⊢
  split at h1
  · rename_i hb
    rw [if_pos ((h.isB0 123).1 hb)]
    have h2 := h.add 1 hb.1
    split at h1
    · cases h1
    · rename_i d j0 e
      obtain ⟨e1, rfl, e3⟩ := h2.hexD e
      rw [e1]
      simp only
      rw [show t.size + 1 - (i' + 1 + 1) = s.size + 1 - (i + 1 + 1) by have := h.sz; have := h.le; have := e3.le; omega]
      exact Sh.hexL e3 h1
  · rename_i hb
    rw [if_neg (fun h9 => hb ((h.isB0 123).2 h9))]
    split at h1
    · cases h1
    · rename_i d j0 e
      obtain ⟨e1, rfl, e3⟩ := h.hexD e
      rw [e1]
      simp only
      split at h1
      · cases h1
      · rename_i d2 j2 e2
        obtain ⟨e4, rfl, e5⟩ := e3.hexD e2
        rw [e4]
        cases h1
        exact ⟨_, rfl, e5⟩
theorem Sh.esc {n j : Nat} (h : Sh s t i i') (h1 : nH s i = .ok (n, j)) : ∃ j', nH t i' = .ok (n, j') ∧ Sh s t j j' := by
  have hz := h.sz
  unfold nH at h1 ⊢
  split at h1
  · cases h1
  · rename_i hc
    rw [if_neg (by omega), ← h.eq 1]
    have h2 := h.add 2 (by omega)
    split at h1
    · rename_i e
      try rw [e]
      cases h1
      exact ⟨_, rfl, h2⟩
    · rename_i e
      try rw [e]
      try simp only
      split at h1
      · rename_i e2
        rw [if_pos e2]
        exact h2.hex h1
      · rename_i e2
        rw [if_neg e2]
        split at h1
        · cases h1
        · rename_i e3
          rw [if_neg e3]; cases h1
          exact ⟨_, rfl, h2⟩
theorem Sh.one {r : Int} {j : Nat} (h : Sh s t i i') (h1 : kZ s i = .ok (r, j)) : ∃ j', kZ t i' = .ok (r, j') ∧ Sh s t j j' := by
  unfold kZ at h1 ⊢
  rw [← h.at0]
  split at h1
  · rename_i e
    rw [if_pos e]
    split at h1
    · rename_i e1
      obtain ⟨j', e2, e3⟩ := h.esc e1
      cases h1
      rw [e2]
      exact ⟨_, rfl, e3⟩
    · cases h1
  · rename_i e
    rw [if_neg e, ← h.next]
    cases h1
    exact ⟨_, rfl, h.step⟩
theorem Sh.range {S : Int → Prop} {j : Nat} (h : Sh s t i i') (h1 : iS s i = .ok (S, j)) : ∃ j', iS t i' = .ok (S, j') ∧ Sh s t j j' := by
  unfold iS at h1 ⊢
  split at h1
  · cases h1
  · rename_i lo j0 e
    obtain ⟨j1, e1, e2⟩ := h.one e
    rw [e1]
    simp only
    have hcon : (Go.Proofs.YtljadkcojnlioaaGreatDoor.isB s j0 45 ∧ j0 + 1 < s.size ∧ sb s (j0 + 1) ≠ 93) ↔ (Go.Proofs.YtljadkcojnlioaaGreatDoor.isB t j1 45 ∧ j1 + 1 < t.size ∧ sb t (j1 + 1) ≠ 93) := by
      rw [e2.isB0 45, e2.lt 1, e2.eq 1]
    split at h1
    · rename_i hd
      rw [if_pos (hcon.1 hd)]
      split at h1
      · cases h1
      · rename_i hi j2 e3
        obtain ⟨j3, e4, e5⟩ := (e2.add 1 hd.1.1).one e3
        rw [e4]
        simp only
        split at h1
        · cases h1
        · rename_i hc
          rw [if_neg hc]; cases h1
          exact ⟨_, rfl, e5⟩
    · rename_i hd
      rw [if_neg (fun h9 => hd (hcon.2 h9))]; cases h1
      exact ⟨_, rfl, e2⟩
theorem Sh.itemR {S : Int → Prop} {j : Nat} (h : Sh s t i i') (h1 : kP s i = .ok (S, j)) : ∃ j', kP t i' = .ok (S, j') ∧ Sh s t j j' := by
  have hcon : (i + 1 < s.size ∧ sb s i = 92) ↔ (i' + 1 < t.size ∧ sb t i' = 92) := by rw [h.lt 1, h.at0]
  unfold kP at h1 ⊢
  split at h1
  · rename_i hd
    rw [if_pos (hcon.1 hd), ← h.eq 1]
    split at h1
    · rename_i e
      try rw [e]
      cases h1
      exact ⟨_, rfl, h.add 2 hd.1⟩
    · rename_i e
      try rw [e]
      exact h.range h1
  · rename_i hd
    rw [if_neg (fun h9 => hd (hcon.2 h9))]
    exact h.range h1
theorem Sh.occ (h : Sh s t i i') (a b k : Nat) : Occ s a b (i + k) ↔ Occ t a b (i' + k) := by
  unfold Occ
  rw [Nat.add_assoc, Nat.add_assoc, h.lt (k + 1), h.eq k, h.eq (k + 1)]
theorem Sh.find (h : Sh s t i i') (a b : Nat) : (∀ k, jF s a b s.size i = some k → ∃ n, k = i + n ∧ jF t a b t.size i' = some (i' + n) ∧ k + 1 < s.size) ∧ (jF s a b s.size i = none → jF t a b t.size i' = none) := by
  obtain ⟨p1, p2⟩ := mQ s a b s.size i (by omega)
  obtain ⟨q1, q2⟩ := mQ t a b t.size i' (by omega)
  refine ⟨fun k hk => ?_, fun hn => ?_⟩
  · obtain ⟨k1, k2, k3⟩ := p1 k hk
    obtain ⟨n, rfl⟩ := Nat.exists_eq_add_of_le k1
    refine ⟨n, rfl, ?_, k2.1⟩
    cases hq : jF t a b t.size i' with
    | none => exact (q2 hq (i' + n) (by omega) ((h.occ a b n).1 k2)).elim
    | some k' =>
      obtain ⟨m1, m2, m3⟩ := q1 k' hq
      obtain ⟨m, rfl⟩ := Nat.exists_eq_add_of_le m1
      rcases Nat.lt_trichotomy m n with hl | rfl | hl
      · exact (k3 (i + m) (by omega) (by omega) ((h.occ a b m).2 m2)).elim
      · rfl
      · exact (m3 (i' + n) (by omega) (by omega) ((h.occ a b n).1 k2)).elim
  · cases hq : jF t a b t.size i' with
    | none => rfl
    | some k' =>
      obtain ⟨m1, m2, m3⟩ := q1 k' hq
      obtain ⟨m, rfl⟩ := Nat.exists_eq_add_of_le m1
      exact (p2 hn (i + m) (by omega) ((h.occ a b m).2 m2)).elim
theorem Sh.sub (h : Sh s t i i') {a b : Nat} (hb : i + b ≤ s.size) : s.extract (i + a) (i + b) = t.extract (i' + a) (i' + b) := by
  have hz := h.sz
  have e1 : (s.extract (i + a) (i + b)).size = b - a := by rw [ByteArray.size_extract]; omega
  have e2 : (t.extract (i' + a) (i' + b)).size = b - a := by rw [ByteArray.size_extract]; omega
  refine tS (by rw [e1, e2]) fun k hk => ?_
  rw [e1] at hk
  rw [eE hb (by omega), eE (by omega) (by omega), Nat.add_assoc, Nat.add_assoc]
  exact h.eq (a + k)
theorem Sh.item {S : Int → Prop} {j : Nat} (h : Sh s t i i') (h1 : jR s i = .ok (S, j)) : ∃ j', jR t i' = .ok (S, j') ∧ Sh s t j j' := by
  have hcon : (Go.Proofs.YtljadkcojnlioaaGreatDoor.isB s i 91 ∧ Go.Proofs.YtljadkcojnlioaaGreatDoor.isB s (i + 1) 58) ↔ (Go.Proofs.YtljadkcojnlioaaGreatDoor.isB t i' 91 ∧ Go.Proofs.YtljadkcojnlioaaGreatDoor.isB t (i' + 1) 58) := by rw [h.isB0, h.isB 1]
  unfold jR at h1 ⊢
  split at h1
  · rename_i hd
    rw [if_pos (hcon.1 hd)]
    obtain ⟨f1, f2⟩ := (h.add 2 (by have := hd.2.1; omega)).find 58 93
    split at h1
    · rename_i e
      rw [f2 e]
      exact h.itemR h1
    · rename_i k e
      obtain ⟨n, rfl, e1, e2⟩ := f1 k e
      rw [e1]
      simp only
      have hc2 : (i + 2 < i + 2 + n ∧ sb s (i + 2) = 94) ↔ (i' + 2 < i' + 2 + n ∧ sb t (i' + 2) = 94) := by rw [h.eq 2]; omega
      have h9 := h.add (2 + n + 2) (by omega)
      split at h1
      · rename_i hq
        rw [if_pos (hc2.1 hq), Nat.add_assoc i' 2 n, ← h.sub (a := 3) (b := 2 + n) (by omega)]
        rw [Nat.add_assoc i 2 n] at h1
        split at h1
        · cases h1
        · rename_i e3
          try rw [e3]
          cases h1
          exact ⟨_, rfl, h9⟩
      · rename_i hq
        rw [if_neg (fun h8 => hq (hc2.2 h8)), Nat.add_assoc i' 2 n, ← h.sub (a := 2) (b := 2 + n) (by omega)]
        rw [Nat.add_assoc i 2 n] at h1
        split at h1
        · cases h1
        · rename_i e3
          try rw [e3]
          cases h1
          exact ⟨_, rfl, h9⟩
  · rename_i hd
    rw [if_neg (fun h9 => hd (hcon.2 h9))]
    exact h.itemR h1
theorem Sh.items : ∀ {f i i' j : Nat} {fst : Bool} {S T : Int → Prop}, Sh s t i i' → fK s f fst S i = .ok (T, j) → ∃ j', fK t f fst S i' = .ok (T, j') ∧ Sh s t j j'
  | 0, i, i', j, fst, S, T, h, h1 => by rw [fK] at h1; cases h1
  | f + 1, i, i', j, fst, S, T, h, h1 => by
    have hz := h.sz
    rw [fK] at h1 ⊢
    split at h1
    · cases h1
    · rename_i hc
      rw [if_neg (by omega), ← h.at0]
      split at h1
      · rename_i hd
        rw [if_pos hd]; cases h1
        exact ⟨_, rfl, h.add 1 (by omega)⟩
      · rename_i hd
        rw [if_neg hd]
        split at h1
        · cases h1
        · rename_i e
          obtain ⟨j2, e2, e3⟩ := h.item e
          rw [e2]
          exact Sh.items e3 h1
end
theorem rK {s : ByteArray} : ∀ {f g i j : Nat} {fst : Bool} {S T : Int → Prop}, f ≤ g → fK s f fst S i = .ok (T, j) → fK s g fst S i = .ok (T, j)
  | 0, g, i, j, fst, S, T, h, h1 => by rw [fK] at h1; cases h1
  | f + 1, 0, i, j, fst, S, T, h, h1 => by omega
  | f + 1, g + 1, i, j, fst, S, T, h, h1 => by
    rw [fK] at h1 ⊢
    split at h1
    · cases h1
    · rename_i hc
      rw [if_neg hc]
      split at h1
      · rename_i hd
        rw [if_pos hd]; exact h1
      · rename_i hd
        rw [if_neg hd]
        split at h1
        · cases h1
        · rename_i e
          try rw [e]
          exact rK (by omega) h1
end Go.Proofs.YtljadkcojnlioaaGreatDoor
namespace Go.Proofs.YtljadkcojnlioaaGreatDoor
open Go.Proofs
open Go.W Go.RowKit
attribute [local irreducible] Decidable.decide
end Go.Proofs.YtljadkcojnlioaaGreatDoor
namespace Go.Proofs.YtljadkcojnlioaaGreatDoor
open Go.Proofs Go.W Go.RowKit
theorem NT {r : Int} (h0 : 0 ≤ r) (h : r < 128) : dW r = [r.toNat] := by
  rw [dW, if_pos ⟨h0, by omega, by omega⟩, jC, if_pos (by omega)]
theorem form_hi {r : Int} (h : 128 ≤ r) : ∀ b, b ∈ dW r → 128 ≤ b := by
  intro b hb
  unfold dW at hb
  split at hb
  · unfold jC at hb
    rw [if_neg (by omega)] at hb
    split at hb
    · simp at hb; omega
    · split at hb
      · simp at hb; omega
      · simp at hb; omega
  · cases hb
section
variable {s : ByteArray} {ex : PS → PX Rx} {st : PS}
end
end Go.Proofs.YtljadkcojnlioaaGreatDoor
namespace Go.Proofs.YtljadkcojnlioaaGreatDoor
open Go.Proofs Go.W Go.RowKit
section
variable {s : ByteArray} {ex : PS → PX Rx}
theorem IY {i k : Nat} (hk : 1 ≤ k) (h : k < (cG s i).2) : 128 ≤ sb s (i + k) := by
  obtain ⟨h1, h2, h3⟩ := vZ (s := s) (a := i) (by omega)
  have hle : i + (cG s i).2 ≤ s.size := by
    rcases nK s i with e | e
    · rw [e] at h; exact absurd h (Nat.not_lt_zero _)
    · exact e.2.2.2.2
  have hb : sb s (i + k) = (dW (cG s i).1)[k]'(by omega) := by
    rw [← eE (s := s) (a := i) (b := i + (cG s i).2) (k := k) hle (by omega), h1, lC (by omega) (sA _)]
  have hm := List.getElem_mem (l := dW (cG s i).1) (n := k) (by omega)
  rw [← hb] at hm
  rcases Int.lt_or_le (cG s i).1 128 with h5 | h5
  · have h7 := congrArg List.length (NT h3.1 h5); simp at h7; omega
  · exact form_hi h5 _ hm
theorem GP {fl : Fl} {e : Nat} (he : sb s e < 128) : ∀ {f i : Nat} {l : List Rx}, i ≤ e → (nP s fl e f l i).2 ≤ e
  | 0, i, l, h => h
  | f + 1, i, l, h => by
    rw [nP]
    split
    · rename_i hi
      refine GP he ?_
      rcases Nat.lt_or_ge e (i + (cG s i).2) with h9 | h9
      · have := IY (s := s) (i := i) (k := e - i) (by omega) (by omega)
        rw [show i + (e - i) = e by omega] at this
        omega
      · exact h9
    · exact h
theorem CD {fl : Fl} {e : Nat} : ∀ {f i : Nat} {l : List Rx}, l.length ≤ (nP s fl e f l i).1.length
  | 0, i, l => Nat.le_refl _
  | f + 1, i, l => by
    rw [nP]
    split
    · refine Nat.le_trans ?_ CD
      simp
    · exact Nat.le_refl _
theorem KN {r : ByteArray} {lo hi : Int} {n : Nat} (h : lS r = (lo, hi, n)) (hn : n ≠ 0) : ∃ c, isB r (n - 1) c ∧ (c = 42 ∨ c = 43 ∨ c = 63 ∨ c = 125) := by
  have h0 : ∀ c, sb r 0 = c → c ≠ 0 → isB r 0 c := fun c h1 h2 => by
    rcases Nat.lt_or_ge 0 r.size with h3 | h3
    · exact ⟨h3, h1⟩
    · rw [ES h3] at h1; exact (h2 h1.symm).elim
  unfold lS at h
  split at h
  · cases h; exact ⟨42, h0 42 (by assumption) (by decide), .inl rfl⟩
  · split at h
    · cases h; exact ⟨43, h0 43 (by assumption) (by decide), .inr (.inl rfl)⟩
    · split at h
      · cases h; exact ⟨63, h0 63 (by assumption) (by decide), .inr (.inr (.inl rfl))⟩
      · split at h
        · cases h; exact (hn rfl).elim
        · split at h
          · split at h
            · cases h; rename_i hb; exact ⟨125, hb, .inr (.inr (.inr rfl))⟩
            · cases h; exact (hn rfl).elim
          · split at h
            · cases h; exact (hn rfl).elim
            · rename_i hb
              cases h
              exact ⟨125, Classical.not_not.1 (fun h9 => hb (.inr h9)), .inr (.inr (.inr rfl))⟩
theorem sb_ex {i k n : Nat} (h : isB (s.extract i s.size) k n) : isB s (i + k) n := by
  obtain ⟨h1, h2⟩ := h
  rw [ByteArray.size_extract] at h1
  refine ⟨by omega, ?_⟩
  rw [← h2, gO (by omega)]
theorem FC {g : List Rx} {st st2 : PS} (hl : isB s (s.size - 1) 93) (h : fW s ex st = .ok (g, st2)) (hp : st.pos < s.size) : g ≠ [] ∨ st2.pos < s.size := by
  have hsz := hl.1
  have hat : ∀ k c, sb s k = c → c ≠ 93 → k < s.size → k + 1 < s.size := fun k c h1 h2 h3 => by
    rcases Nat.lt_or_ge (k + 1) s.size with h4 | h4
    · exact h4
    · have : k = s.size - 1 := by omega
      subst this
      exact (h2 (h1.symm.trans hl.2)).elim
  unfold fW at h
  split at h
  · unfold qS at h
    simp only at h
    split at h
    · rename_i ho
      cases h
      right
      have hs : (gY s st.pos st.now) = iK s st.pos s.size (st.pos + 2) true 0 false st.now := by
        have h2 := ho.2
        unfold gY at h2 ⊢
        split
        · rename_i h3; rw [if_pos h3] at h2; cases h2
        · rename_i h3; rw [if_neg h3] at h2
          split
          · rename_i h4; rw [if_pos h4] at h2; unfold nG at h2; split at h2 <;> cases h2
          · rename_i h4; rw [if_neg h4] at h2
            split
            · rename_i h5; rw [if_pos h5] at h2; unfold nG at h2; split at h2 <;> cases h2
            · rename_i h5; rw [if_neg h5] at h2
              split
              · rename_i h6; rw [if_pos h6] at h2; cases h2
              · rfl
      have h1 := ho.1
      rw [hs] at h1 ⊢
      obtain ⟨k, k1, k2, k3, k4, -⟩ := FE h1
      have := hat k _ rfl (by omega) k2
      show st.pos + (iK s st.pos s.size (st.pos + 2) true 0 false st.now).size < s.size
      rw [k4]; omega
    · split at h
      · cases h
      · split at h
        · cases h
        · split at h
          · cases h
          · split at h
            · cases h
            · split at h
              · cases h; left; simp
              · cases h
  · split at h
    · split at h
      · cases h
      · cases h; left; simp
    · split at h
      · unfold iC at h
        split at h
        · cases h
        · split at h
          · cases h; left; simp
          · split at h
            · cases h; left; simp
            · split at h
              · cases h; left; simp
              · split at h
                · cases h; left; simp
                · split at h
                  · rename_i hq
                    unfold pT at h
                    split at h
                    · rename_i e he
                      cases h
                      right
                      obtain ⟨f1, f2, f3⟩ := (mQ s 92 69 s.size (st.pos + 2) (by omega)).1 e he
                      have h9 := GP (s := s) (fl := st.now) (e := e) (by rw [f2.2.1]; decide) (f := s.size) (i := st.pos + 2) (l := []) f1
                      have := hat (e + 1) 69 f2.2.2 (by decide) f2.1
                      show (nP s st.now e s.size [] (st.pos + 2)).2 + 2 < s.size
                      omega
                    · cases h
                      left
                      have h9 := hat (st.pos + 1) 81 hq (by decide) (by omega)
                      obtain ⟨f, hf⟩ : ∃ f, s.size = f + 1 := ⟨s.size - 1, by omega⟩
                      intro h8
                      have h7 := congrArg List.length h8
                      have h6 : 1 ≤ (nP s st.now s.size s.size [] (st.pos + 2)).1.length := by
                        generalize s.size = z at hf h9
                        subst hf
                        rw [EZ (by omega)]
                        exact CD (l := [] ++ [nQ st.now (cG s (st.pos + 2)).1])
                      rw [h7] at h6
                      simp at h6
                  · split at h
                    · cases h; left; simp
                    · split at h
                      · cases h
                      · cases h; left; simp
      · unfold lF at h
        cases h; left; simp
theorem sF (hl : isB s (s.size - 1) 93) : ∀ (f : Nat) (l : List Rx) (ah : Bool) (st st' : PS) (x : Rx), 1 ≤ l.length → st.pos < s.size → jD s ex f l ah st = .ok (x, st') → s.size ≤ st'.pos → ∃ m : List Rx, 2 ≤ m.length ∧ x = tA 4 m
  | 0, l, ah, st, st', x, h1, h2, h3, h4 => by rw [jD] at h3; cases h3; omega
  | f + 1, l, ah, st, st', x, h1, h2, h3, h4 => by
    rw [jD] at h3
    split at h3
    · cases h3; omega
    · generalize hr : lS (s.extract st.pos s.size) = rr at h3
      obtain ⟨lo, hi, nn⟩ := rr
      simp only at h3
      split at h3
      · split at h3
        · cases h3
        · rename_i g st2 hp
          rcases Nat.lt_or_ge st2.pos s.size with h5 | h5
          · exact sF hl f _ _ _ _ _ (by rw [List.length_append]; omega) h5 h3 h4
          · rcases FC hl hp h2 with h6 | h6
            · rw [mA (.inl h5)] at h3
              cases h3
              exact ⟨_, by rw [List.length_append]; have := List.length_pos_iff.2 h6; omega, rfl⟩
            · omega
      · rename_i hn
        obtain ⟨c, hc, hcc⟩ := KN hr hn
        have hb := sb_ex hc
        have hpos : st.pos + nn < s.size := by
          rcases Nat.lt_or_ge (st.pos + nn) s.size with h9 | h9
          · exact h9
          · have h8 : st.pos + (nn - 1) = s.size - 1 := by have := hb.1; omega
            rw [h8] at hb
            have := hb.2.symm.trans hl.2
            omega
        split at h3
        · cases h3
        · split at h3
          · rename_i hq
            have h7 : st.pos + nn + 1 < s.size := by
              rcases Nat.lt_or_ge (st.pos + nn + 1) s.size with h9 | h9
              · exact h9
              · have h8 : st.pos + nn = s.size - 1 := by have := hq.1; omega
                rw [h8] at hq
                have := hq.2.symm.trans hl.2
                omega
            exact sF hl f _ _ _ _ _ (by simp) h7 h3 h4
          · exact sF hl f _ _ _ _ _ (by simp) hpos h3 h4
theorem yU : ∀ {f : Nat} {l : List Rx} {st st' : PS} {x : Rx}, 2 ≤ l.length → nI s ex f l st = .ok (x, st') → x.kind = 5
  | 0, l, st, st', x, h, h1 => by
    rw [nI] at h1
    match l, h with
    | a :: b :: l, _ => cases h1; rfl
  | f + 1, l, st, st', x, h, h1 => by
    rw [nI] at h1
    split at h1
    · split at h1
      · cases h1
      · exact yU (by rw [List.length_append]; omega) h1
    · match l, h with
      | a :: b :: l, _ => cases h1; rfl
end
theorem IW {s : ByteArray} {x : Rx} (h : iB s = .ok x) (h0 : isB s 0 91) (hl : isB s (s.size - 1) 93) (h94 : ¬ isB s 1 94) (hk : x.kind = 2 ∨ x.kind = 3) (h2 : 2 ≤ s.size) :
    ∃ C, Bdd C ∧ x = iL C ∧ fK s (s.size + 1) true (fun _ => False) 1 = .ok (C, s.size) := by
  unfold iB at h
  split at h
  · cases h
  · split at h
    · cases h
    · rename_i hz hU
      obtain ⟨N, hU⟩ := Classical.not_not.1 hU
      split at h
      · cases h
      · rename_i x0 st hx
        split at h
        · cases h
        · rename_i hend
          cases h
          have hx' : lQ s (lN s 249) st0 = .ok (x, st) := hx
          unfold lQ at hx'
          split at hx'
          · cases hx'
          · rename_i x1 st1 h3
            have h4 : x1 = x ∧ st1 = st := by
              rw [nI] at hx'
              split at hx'
              · split at hx'
                · cases hx'
                · have := yU (by simp) hx'
                  omega
              · cases hx'; exact ⟨rfl, rfl⟩
            obtain ⟨rfl, rfl⟩ := h4
            have hb1 : Bd s 1 := ((Bd.zero hU).asc h0.1 (by rw [h0.2]; decide)).1
            cases hc : kJ s flz 1 with
            | error e => rw [wY (c := 91) (st := st0) h0 (by decide) (KZ h0.2 hc)] at h3; cases h3
            | ok p =>
              obtain ⟨c, j⟩ := p
              have hcb := CG hc hb1
              have hcj := hcb.1.le
              rw [nD (c := 91) (st := st0) h0 (by decide) (CB h0.2 hc)] at h3
              have h5 : s.size ≤ st1.pos := by omega
              rcases Nat.lt_or_ge j s.size with h6 | h6
              · obtain ⟨m, hm1, hm2⟩ := sF hl _ _ _ _ _ _ (by simp) (show (gS st0 j).pos < s.size from h6) h3 h5
                have : x1.kind = 4 := by
                  rw [hm2]
                  match m, hm1 with
                  | a :: b :: m, _ => rfl
                omega
              · rw [mA (.inl (show s.size ≤ (gS st0 j).pos from h6))] at h3
                cases h3
                obtain rfl : j = s.size := by omega
                cases hi : fK s (s.size + 1) true (fun _ => False) (if isB s 1 94 then 1 + 1 else 1) with
                | error e => rw [vF hi] at hc; cases hc
                | ok q =>
                  obtain ⟨C, j2⟩ := q
                  rw [rO hi, if_neg h94, if_neg (by decide)] at hc
                  cases hc
                  rw [if_neg h94] at hi
                  exact ⟨C, xV hi hb1 (fun c hc => hc.elim), rfl, hi⟩
end Go.Proofs.YtljadkcojnlioaaGreatDoor
namespace Go.Proofs.YtljadkcojnlioaaGreatDoor
open Go.Proofs Go.W Go.RowKit
theorem GI {p q r : List Nat} (hp : ∀ b, b ∈ p → b < 256) (hq : ∀ b, b ∈ q → b < 256) (hr : ∀ b, b ∈ r → b < 256) : Sh (bstr (p ++ r)) (bstr (q ++ r)) p.length q.length := by
  have h1 : ∀ b, b ∈ p ++ r → b < 256 := fun b hb => (List.mem_append.1 hb).elim (hp b) (hr b)
  have h2 : ∀ b, b ∈ q ++ r → b < 256 := fun b hb => (List.mem_append.1 hb).elim (hq b) (hr b)
  refine ⟨by rw [bsz, List.length_append]; omega, by rw [bsz, bsz, List.length_append, List.length_append]; omega, fun k => ?_⟩
  rcases Nat.lt_or_ge k r.length with h | h
  · rw [lC (by rw [List.length_append]; omega) h1, lC (by rw [List.length_append]; omega) h2, List.getElem_append_right (by omega), List.getElem_append_right (by omega)]
    congr 1
    omega
  · rw [ES (by rw [bsz, List.length_append]; omega), ES (by rw [bsz, List.length_append]; omega)]
theorem AI {l r : List Nat} (hl : ∀ b, b ∈ l → b < 256) (hr : ∀ b, b ∈ r → b < 256) : At (bstr (l ++ r)) 0 l := by
  have h2 : ∀ b, b ∈ l ++ r → b < 256 := fun b hb => (List.mem_append.1 hb).elim (hl b) (hr b)
  refine At.of fun k hk => ?_
  rw [Nat.zero_add]
  refine ⟨by rw [bsz, List.length_append]; omega, ?_⟩
  rw [lC (by rw [List.length_append]; omega) h2, List.getElem_append_left hk]
theorem DP {s : ByteArray} {c : Rx} (hz : s.size ≤ 4096) (hU : ∃ N, Utf s N) (h0 : isB s 0 91) (hc : kJ s flz 1 = .ok (c, s.size)) : iB s = .ok c := by
  obtain ⟨f, hf⟩ : ∃ f, s.size = f + 1 := ⟨s.size - 1, by have := h0.1; omega⟩
  have h1 : jD s (lN s 249) (s.size + 1) [] false st0 = .ok (c, ⟨s.size, flz, 0, []⟩) := by
    rw [nD (c := 91) (st := st0) h0 (by decide) (CB h0.2 hc), mA (.inl (show s.size ≤ (gS st0 s.size).pos from Nat.le_refl _))]
    rfl
  have h2 : lN s 250 st0 = .ok (c, ⟨s.size, flz, 0, []⟩) := show lQ s (lN s 249) st0 = _ from wL h1 (fun h => by have := h.1; simp at this)
  exact GO (by omega) hU h2 (Nat.lt_irrefl _)
def fli : Fl := ⟨true, false, false, false⟩
theorem IV {s : ByteArray} (h : At s 0 [40, 63, 105, 41]) : gY s 0 flz = ⟨4, emp, fli, false, true, 0⟩ := by
  obtain ⟨h0, h1, h2, h3, -⟩ := h
  simp only [Nat.zero_add, Nat.reduceAdd] at h0 h1 h2 h3
  unfold gY
  simp only [Nat.zero_add]
  rw [if_neg (fun h => h ⟨h0, h1⟩), if_neg (fun h => isB.ne h2 (by decide) h.1), if_neg (isB.ne h2 (by decide)), if_neg (isB.ne h2 (by decide))]
  obtain ⟨f, hf⟩ : ∃ f, s.size = f + 1 + 1 := ⟨s.size - 2, by have := h3.1; omega⟩
  generalize hz : s.size = z at hf
  subst hf
  rw [iK, if_neg (by have := h2.1; omega), if_pos h2.2, iK, if_neg (by have := h3.1; omega), if_neg (by rw [h3.2]; decide), if_neg (by rw [h3.2]; decide), if_neg (by rw [h3.2]; decide), if_neg (by rw [h3.2]; decide), if_neg (by rw [h3.2]; decide), if_pos (.inr h3.2)]
  rw [h3.2]
  rfl
theorem AC {s : ByteArray} {c : Rx} (hz : s.size ≤ 4096) (hU : ∃ N, Utf s N) (h0 : At s 0 [40, 63, 105, 41, 91]) (hc : kJ s fli 5 = .ok (c, s.size)) : iB s = .ok c := by
  have h4 : At s 0 [40, 63, 105, 41] := ⟨h0.1, h0.2.1, h0.2.2.1, h0.2.2.2.1, trivial⟩
  have h91 : isB s 4 91 := h0.2.2.2.2.1
  obtain ⟨f, hf⟩ : ∃ f, s.size = f + 1 := ⟨s.size - 1, by have := h91.1; omega⟩
  have hp : fW s (lN s 249) st0 = .ok ([], ⟨4, fli, 0, []⟩) := by
    rw [HT (st := st0) h0.1, NL (IV h4) rfl rfl]
    rfl
  have h1 : jD s (lN s 249) (s.size + 1) [] false st0 = .ok (c, ⟨s.size, fli, 0, []⟩) := by
    rw [nD (c := 40) (st := st0) h0.1 (by decide) hp]
    generalize hz2 : s.size = z at hf
    subst hf
    rw [nD (c := 91) (st := ⟨4, fli, 0, []⟩) h91 (by decide) (CB h91.2 hc), ← hz2, mA (.inl (show s.size ≤ (gS ⟨4, fli, 0, []⟩ s.size).pos from Nat.le_refl _))]
    rfl
  have h2 : lN s 250 st0 = .ok (c, ⟨s.size, fli, 0, []⟩) := show lQ s (lN s 249) st0 = _ from wL h1 (fun h => by have := h.1; simp at this)
  exact GO (by omega) hU h2 (Nat.lt_irrefl _)
theorem LP {r : List Nat} (hr : ∀ b, b ∈ r → b < 256) (hz : r.length ≤ 4001) {x : Rx} (h : iB (bstr ([91] ++ r)) = .ok x) (hk : x.kind = 2 ∨ x.kind = 3) (h94 : ¬ isB (bstr ([91] ++ r)) 1 94) (hlast : isB (bstr ([91] ++ r)) r.length 93) (h2 : 1 ≤ r.length) :
    ∃ C, Bdd C ∧ x = iL C ∧ iB (bstr ([91, 94] ++ r)) = .ok (iL (rG C)) ∧ iB (bstr ([40, 63, 105, 41, 91] ++ r)) = .ok (iL (kB C)) := by
  have e0 : (bstr ([91] ++ r)).size = r.length + 1 := by rw [bsz, List.length_append]; simp; omega
  have e1 : (bstr ([91, 94] ++ r)).size = r.length + 2 := by rw [bsz, List.length_append]; simp; omega
  have e2 : (bstr ([40, 63, 105, 41, 91] ++ r)).size = r.length + 5 := by rw [bsz, List.length_append]; simp; omega
  have a0 := AI (l := [91]) (r := r) (by decide) hr
  have a1 := AI (l := [91, 94]) (r := r) (by decide) hr
  have a2 := AI (l := [40, 63, 105, 41, 91]) (r := r) (by decide) hr
  obtain ⟨C, hC, hx, hi⟩ := IW h a0.1 (by rw [e0]; exact hlast) h94 hk (by rw [e0]; omega)
  have hU : ∃ N, Utf (bstr ([91] ++ r)) N := by
    refine Classical.byContradiction fun hU => ?_
    rw [KT (by rw [e0]; omega) hU] at h
    cases h
  obtain ⟨N, hU⟩ := hU
  obtain ⟨m, hm, hmr⟩ : ∃ m, VR m ∧ r = frm m := by
    have t1 := IF hU
    have hv := KD hU
    have hn0 : N ≠ 0 := fun h9 => by subst h9; have := hU.1; rw [e0] at this; exact absurd this (by simp [dO])
    obtain ⟨M, rfl⟩ : ∃ M, N = M + 1 := ⟨N - 1, by omega⟩
    have h3 : iX (bstr ([91] ++ r)) (M + 1) = 91 :: (iX (bstr ([91] ++ r)) (M + 1)).tail := by
      have hl : (iX (bstr ([91] ++ r)) (M + 1)).length = M + 1 := ET _ _
      have hg := EU (s := bstr ([91] ++ r)) (N := M + 1) (k := 0) (by omega)
      have hf : KE (bstr ([91] ++ r)) 0 = 91 := by
        show (cG _ 0).1 = 91
        rw [vX a0.1.1 (by rw [a0.1.2]; decide), a0.1.2]; rfl
      rw [hf] at hg
      cases hq : iX (bstr ([91] ++ r)) (M + 1) with
      | nil => rw [hq] at hl; cases hl
      | cons b l => rw [hq] at hg; simp at hg; rw [hg]; rfl
    refine ⟨(iX (bstr ([91] ++ r)) (M + 1)).tail, fun b hb => hv b (List.mem_of_mem_tail hb), ?_⟩
    rw [h3] at t1
    have t2 : bstr (frm (91 :: (iX (bstr ([91] ++ r)) (M + 1)).tail)) = bstr ([91] ++ r) := t1
    have t3 := (wS (MN _) (fun b hb => (List.mem_append.1 hb).elim (fun h9 => by simp at h9; omega) (hr b))).1 t2
    have t4 : frm (91 :: (iX (bstr ([91] ++ r)) (M + 1)).tail) = [91] ++ frm (iX (bstr ([91] ++ r)) (M + 1)).tail := rfl
    rw [t4] at t3
    exact (List.append_cancel_left t3).symm
  have u1 : ∃ K, Utf (bstr ([91, 94] ++ r)) K := by
    have : bstr ([91, 94] ++ r) = txt (91 :: 94 :: m) := by rw [hmr]; rfl
    rw [this]
    exact ⟨_, (GD (fun b hb => by
      simp at hb
      rcases hb with rfl | rfl | hb
      · decide
      · decide
      · exact hm b hb)).1⟩
  have u2 : ∃ K, Utf (bstr ([40, 63, 105, 41, 91] ++ r)) K := by
    have : bstr ([40, 63, 105, 41, 91] ++ r) = txt (40 :: 63 :: 105 :: 41 :: 91 :: m) := by rw [hmr]; rfl
    rw [this]
    exact ⟨_, (GD (fun b hb => by
      simp at hb
      rcases hb with rfl | rfl | rfl | rfl | rfl | hb
      · decide
      · decide
      · decide
      · decide
      · decide
      · exact hm b hb)).1⟩
  have s1 := GI (p := [91]) (q := [91, 94]) (r := r) (by decide) (by decide) hr
  have s2 := GI (p := [91]) (q := [40, 63, 105, 41, 91]) (r := r) (by decide) (by decide) hr
  refine ⟨C, hC, hx, ?_, ?_⟩
  · obtain ⟨j, h5, h6⟩ := s1.items hi
    obtain rfl : j = (bstr ([91, 94] ++ r)).size := by have := h6.sz; omega
    have h7 : isB (bstr ([91, 94] ++ r)) 1 94 := a1.2.1
    refine DP (by rw [e1]; omega) u1 a1.1 ?_
    have h8 := rO (fl := flz) (i := 1) (s := bstr ([91, 94] ++ r)) (S := C) (j := (bstr ([91, 94] ++ r)).size) (by rw [if_pos h7]; exact rK (by rw [e0, e1]; omega) h5)
    rw [if_pos h7, if_neg (by decide)] at h8
    exact h8
  · obtain ⟨j, h5, h6⟩ := s2.items hi
    obtain rfl : j = (bstr ([40, 63, 105, 41, 91] ++ r)).size := by have := h6.sz; omega
    have h7 : ¬ isB (bstr ([40, 63, 105, 41, 91] ++ r)) 5 94 := fun h9 => h94 ((s2.isB0 94).2 h9)
    refine AC (by rw [e2]; omega) u2 a2 ?_
    have h8 := rO (fl := fli) (i := 5) (s := bstr ([40, 63, 105, 41, 91] ++ r)) (S := C) (j := (bstr ([40, 63, 105, 41, 91] ++ r)).size) (by rw [if_neg h7]; exact rK (by rw [e0, e2]; omega) h5)
    rw [if_neg h7, if_pos (by decide)] at h8
    exact h8
end Go.Proofs.YtljadkcojnlioaaGreatDoor
namespace Go.Proofs.YtljadkcojnlioaaGreatDoor
open Go.Proofs
open Go.W Go.RowKit
attribute [local irreducible] Decidable.decide
theorem qZ {n : Nat} {w : World} {va : List Value} {a : Rx} {r : Int} (ha : RRx n [] w va a) : Calls Tryz.prog 21 #[.agg va.toArray, .int .i32 r] w (Ret fun v w' => ∃ b, v = .bool b ∧ (b = true ↔ uP a r) ∧ Evo [] w w') := by
  obtain ⟨n0, ra, rc, ka, kc, hn0, rfl, hrg, hk, bl1, bl2, bl3⟩ := ha.get; obtain ⟨_, _, hre, -, er⟩ := hrg; cases hre; refine bP (N := 38) Tryz.func21 rfl rfl rfl ?_; refine aE (aB (lY rfl rfl fun bA w1 hB2 hs3 hw4 => ?_)); have hsz_bA := hs3; have hE6 := (Evo.refl [] w).then hw4; refine aN (aD (aA (aE (aE (aB (aC rfl (aF rfl eI) (aC rfl (aI rfl bD (aK hB2 rfl)) (aC rfl (bE rfl rfl) ?_)))))))); refine aD (aA (bI rfl (fun hc8 => ?_) (fun hc8 => ?_)))
  ·skip
   refine aE (aB (aC rfl (aF rfl eO) (aC rfl (aI rfl cH (aK hB2 rfl)) (aG (aC rfl (bE rfl rfl) ?_))))); refine aN (aD (aA (aP (aQ (aJ rfl rfl ?_)))))
   exact ⟨_, rfl, by rw [uP, if_pos hc8]; exact decide_eq_true_iff, hE6⟩
  refine aW (aA (aE (aE (aB (aN (aD (aA (cA ?_)))))))); refine fH (α := Nat) (0) (fun k => [(5, .int .i64 (k : Nat))]) [(1, _), (2, _)] (fun k wr => Evo [] w1 wr ∧ (k ≤ a.ranges.length ∧ ∀ j (h : j < a.ranges.length), j < k → ¬ (a.ranges[j].1 ≤ r ∧ r ≤ a.ranges[j].2))) (fun k => a.ranges.length - k) ⟨rfl, trivial⟩ ⟨rfl, rfl, trivial⟩ ⟨Evo.refl _ _, ⟨Nat.zero_le _, fun j h h3 => by cases h3⟩⟩ ?_; rintro k wr7 ⟨hV8, ⟨hk0, hsm⟩⟩; show CW _ _ _ _ [(5, _), (1, _), (2, _)] _; have hE9 := hE6.then hV8; have hB10 := hV8.blk0 hB2; refine aE (aE (aB (aG (aC rfl (aF rfl dX) (aC rfl (aI rfl fE (aK hB10 rfl)) (aC rfl (bR rfl Tryz.underlying24 rfl) ?_)))))); refine aC rfl (dN rfl rfl) ?_; refine aD (aA (bI rfl (fun hc17 => ?_) (fun hc17 => ?_)))
  ·skip
   have hk1 : k < a.ranges.length := by omega
   obtain ⟨g1, o1, vs1, hg1, -, -, hc1, hr1⟩ := er k hk1; obtain rfl := hr1; refine aW (aA (aE (cA (aE (aB (aC rfl (aF rfl dX) (aC rfl (aI rfl fE (aK hB10 rfl)) (aG ?_))))))))
   refine aC rfl (gD (n := k) (by rw [hg1]; rfl) rfl eX hk1) ?_
   refine aC rfl (aF rfl fV) ?_; refine aC rfl (aI rfl cH ((hE9).cell (hc1 0 _ rfl) (by simp))) ?_; refine aG (aC rfl (fL rfl rfl) ?_); refine aG (aX (t := 28) rfl (fun hs28 => ?_) (fun hs28 => ?_))
   ·skip
    refine aR (aG (aR (aC rfl (aF rfl dX) (aR (aC rfl (aI rfl fE (aK hB10 rfl)) (aR (aG (aR ?_))))))))
    refine aC rfl (gD (n := k) (by rw [hg1]; rfl) rfl eX hk1) ?_
    refine aR (aC rfl (aF rfl eS) (aR ?_)); refine aC rfl (aI rfl cH ((hE9).cell (hc1 1 _ rfl) (by simp))) ?_; refine aR (aC rfl (fL rfl rfl) ?_); refine bL (aD (aA (bI rfl (fun hc37 => ?_) (fun hc37 => ?_))))
    ·skip
     refine aE (aB (aN (aD (aA (aP (aZ (aQ (aQ (aZ (aQ (aJ rfl rfl ?_)))))))))))
     exact ⟨true, rfl, by rw [uP, if_neg hc8]; exact ⟨fun _ => ⟨_, List.getElem_mem hk1, by omega⟩, fun _ => rfl⟩, hE9⟩
    refine aW (bB (aA (aB (aG ?_)))); refine aC rfl (bF rfl rfl (by omega) (by omega)) ?_; refine aN (aD (bV ?_)); refine ⟨k + 1, ?_, ⟨rfl, trivial⟩, ⟨rfl, rfl, trivial⟩, hV8, ?_⟩
    · omega
    refine ⟨by omega, fun j h3 h5 h6 => ?_⟩
    by_cases e : j < k
    · exact hsm j h3 e h6
    · obtain rfl : j = k := by omega
      omega
   refine aH (aH (aH (aH (aH (aH (aH (aH (aU (aD (aA (cK rfl ?_))))))))))); refine aW (bB (aA (aB (aG ?_)))); refine aC rfl (bF rfl rfl (by omega) (by omega)) ?_; refine aN (aD (bV ?_)); refine ⟨k + 1, ?_, ⟨rfl, trivial⟩, ⟨rfl, rfl, trivial⟩, hV8, ?_⟩
   · omega
   refine ⟨by omega, fun j h3 h5 h6 => ?_⟩
   by_cases e : j < k
   · exact hsm j h3 e h6
   · obtain rfl : j = k := by omega
     omega
  refine eD (cO (cO (eC (aA ?_)))); refine aE (aB (aN (aD (aA (aP (aJ rfl rfl ?_))))))
  exact ⟨false, rfl, (by rw [uP, if_neg hc8]; simp only [Bool.false_eq_true, false_iff]; rintro ⟨g, hg, h1⟩; obtain ⟨j, hj, rfl⟩ := List.mem_iff_getElem.1 hg; exact hsm j hj (by omega) h1), hE9⟩
end Go.Proofs.YtljadkcojnlioaaGreatDoor
namespace Go.Proofs.YtljadkcojnlioaaGreatDoor
open Go.Proofs
open Go.W Go.RowKit
attribute [local irreducible] Decidable.decide
theorem EJ : eV Tryz.prog 10 := ⟨_, Tryz.func10, by kernel_rfl, by kernel_rfl⟩
theorem iG : eV Tryz.prog 21 := ⟨_, Tryz.func21, by kernel_rfl, by kernel_rfl⟩
theorem yM {P : Program} {σ : Env} {w : World} {dst : Option Nat} {T : TypeId} {pos : String} {after : Array Edge} {g : Option (Nat × Bool)} {x y : Operand} {t t' : TypeId} {z : Int} (hx : σ.ev x = some (.int .i32 z)) (hy : σ.ev y = some (.int .i32 255)) :
    Ex P σ ⟨dst, .binOp .and t x y t', T, pos, after, g⟩ w (.int .i32 (((BitVec.ofInt 32 z).toNat &&& 255 : Nat) : Int)) w := fun ρ h => by
  have hm : (BitVec.ofInt 32 z).toNat &&& 255 ≤ 255 := Nat.and_le_right
  simp only [execOp, h x _ hx, h y _ hy]
  have hb : IntKind.i32.bits = 32 := rfl
  have hr : IntKind.i32.wrap (((BitVec.ofInt IntKind.i32.bits z).toNat &&& (BitVec.ofInt IntKind.i32.bits 255).toNat : Nat) : Int) = (((BitVec.ofInt 32 z).toNat &&& 255 : Nat) : Int) := by
    show IntKind.i32.wrap (((BitVec.ofInt 32 z).toNat &&& 255 : Nat) : Int) = _
    generalize (BitVec.ofInt 32 z).toNat &&& 255 = m at hm
    simp only [IntKind.wrap, IntKind.signed, IntKind.bits]
    simp
    omega
  simp only [eqGuard, Go.binOp, Op.intBits, Sem.run_bind, Sem.run_pure, Result.andThen_ok, BitVec.toNat_and, hr]
  simp
theorem IR {w : World} {s : ByteArray} (hG : Glb w) : Calls Tryz.prog 11 #[.string s] w (Ret fun v w' => ∃ vs n x e, v = .tuple #[.agg vs.toArray, iv e] ∧ RRx n [] w' vs x ∧ (x.kind ≠ 0 → iB s = .ok x ∧ e = 0) ∧ Evo [] w w') := by
  refine (vR s hG).mono ?_
  rintro e w' ⟨v, rfl, hv, h1 | ⟨x2, vs, bs, h2, rfl, h4, h5⟩⟩
  · obtain ⟨e, h1, rfl⟩ := h1
    exact ⟨_, rfl, _, 1, zX, e, rfl, zX_rx [] w', fun h => absurd rfl h, hv⟩
  · obtain ⟨n, hn⟩ := h4.rrx (X := []) (fun b _ h => by cases h)
    exact ⟨_, rfl, vs, n, x2, 0, rfl, hn, fun _ => ⟨h2, rfl⟩, hv⟩
theorem wD : ByteArray.mk #[91] = bstr [91] := by decide +kernel
theorem rH : ByteArray.mk #[93] = bstr [93] := by decide +kernel
theorem mK : ByteArray.mk #[91, 94] = bstr [91, 94] := by decide +kernel
theorem mJ : ByteArray.mk #[40, 63, 105, 41, 91] = bstr [40, 63, 105, 41, 91] := by decide +kernel
theorem CM {C : Int → Prop} {x : Rx} {q : Int} {b1 b2 : Bool} (hC : Bdd C) (h0 : 0 ≤ q) (h1 : q ≤ 1114111) (hx : x = iL C) (hb1 : b1 = true ↔ uP x q) (hb2 : b2 = true ↔ uP (iL (rG C)) q) (h : (b1 == b2) = true) : False := by
  rw [hx, oK hC] at hb1
  rw [oK (zH C)] at hb2
  have e : b1 = b2 := by simpa using h
  subst e
  by_cases hc : C q
  · exact (hb2.1 (hb1.2 hc)).2.2 hc
  · exact hc (hb1.1 (hb2.2 ⟨h0, h1, hc⟩))
theorem CL {C : Int → Prop} {x : Rx} {q o : Int} {b3 b4 : Bool} (hC : Bdd C) (hx : x = iL C) (ho : kB C q ↔ (C q ∨ C o)) (hb3 : b3 = true ↔ uP (iL (kB C)) q) (hb4 : b4 = true ↔ uP x q) (h4 : b4 = true) : (b3 == b4) = true := by
  rw [hx, oK hC] at hb4
  rw [oK (CY hC)] at hb3
  rw [hb3.2 (ho.2 (.inl (hb4.1 h4))), h4]; simp
theorem CK {C : Int → Prop} {x : Rx} {q o : Int} {b3 b4 b5 : Bool} (hC : Bdd C) (hx : x = iL C) (ho : kB C q ↔ (C q ∨ C o)) (hb3 : b3 = true ↔ uP (iL (kB C)) q) (hb4 : b4 = true ↔ uP x q) (hb5 : b5 = true ↔ uP x o) (h4 : b4 = false) : (b3 == b5) = true := by
  rw [hx, oK hC] at hb4 hb5
  rw [oK (CY hC)] at hb3
  have e : b3 = b5 := Bool.eq_iff_iff.2 (by
    rw [hb3, ho, hb5]
    exact ⟨fun h => h.elim (fun h9 => by rw [hb4.2 h9] at h4; cases h4) id, .inr⟩)
  rw [e]; simp
theorem fo_a {C : Int → Prop} {q : Int} (h : 97 ≤ q ∧ q ≤ 122) : kB C q ↔ (C q ∨ C (q - 32)) := ⟨fun h1 => h1.elim .inl (fun h2 => h2.elim (fun h3 => .inr h3.2.2) (fun h3 => by omega)), fun h1 => h1.elim .inl (fun h2 => .inr (.inl ⟨h.1, h.2, h2⟩))⟩
theorem fo_b {C : Int → Prop} {q : Int} (h : 65 ≤ q ∧ q ≤ 90) : kB C q ↔ (C q ∨ C (q + 32)) := ⟨fun h1 => h1.elim .inl (fun h2 => h2.elim (fun h3 => by omega) (fun h3 => .inr h3.2.2)), fun h1 => h1.elim .inl (fun h2 => .inr (.inr ⟨h.1, h.2, h2⟩))⟩
theorem DC {C : Int → Prop} {q : Int} (h : ¬ (97 ≤ q ∧ q ≤ 122)) (h2 : ¬ (65 ≤ q ∧ q ≤ 90)) : kB C q ↔ (C q ∨ C q) := ⟨fun h1 => h1.elim .inl (fun h2 => h2.elim (fun h3 => by omega) (fun h3 => by omega)), fun h1 => h1.elim .inl .inl⟩
set_option maxHeartbeats 4000000 in
theorem not_law {w : World} (l : List Nat) (hl : ∀ b, b ∈ l → b < 256) (z : Int) (hG : Gw w) (hs : l.length ≤ 30000000) :
    Calls Tryz.prog 6 #[.string (bstr l), .int .i32 z] w (Ret fun v w' => v = .bool true ∧ Evo [] w w') := by
  have hbl : (bstr l).size = l.length := bsz _; refine bP (N := 113) Tryz.func6 rfl rfl rfl ?_; refine aE (aB (aN (aD (aA (aE (aE (aB (aM (vs := []) EJ rfl (NY (hG.evo0 (Evo.refl [] w))) rfl ?_)))))))); rintro _ w1 ⟨rfl, hw2⟩; have hE3 := (Evo.refl [] w).then hw2; refine aC rfl (fG rfl) ?_; refine aD (aA (cK rfl ?_)); refine aW (aA (aE (tM (α := Int) (fun q => [(1, .int .i32 q)]) [(0, _), (4, _)] (fun q wr => Evo [] w1 wr ∧ (0 ≤ q ∧ q ≤ 1114111)) ⟨rfl, rfl, trivial⟩ ?_ ?_)))
  ·skip
   refine aE (aB (aG (aC rfl (dN rfl rfl) ?_))); refine aG (aX (t := 16) rfl (fun hs16 => ?_) (fun hs16 => ?_))
   ·skip
    refine aH (aH (bL (aD (aA (dC rfl ?_))))); refine aB (aG (aC rfl (yM rfl rfl) ?_)); refine aN (aD (bV ?_)); refine ⟨_, ⟨rfl, trivial⟩, ⟨rfl, rfl, trivial⟩, (Evo.refl [] w1), ?_⟩
    first | omega | exact ⟨Int.natCast_nonneg _, by have h9 : (BitVec.ofInt 32 z).toNat &&& 255 ≤ 255 := Nat.and_le_right; omega⟩
   refine aR (aG (aR (aC rfl (gA rfl rfl) ?_))); refine aU (aD (aA (bI rfl (fun hc19 => ?_) (fun hc19 => ?_))))
   ·skip
    refine aB (aG (aC rfl (yM rfl rfl) ?_)); refine aN (aD (bV ?_)); refine ⟨_, ⟨rfl, trivial⟩, ⟨rfl, rfl, trivial⟩, (Evo.refl [] w1), ?_⟩
    first | omega | exact ⟨Int.natCast_nonneg _, by have h9 : (BitVec.ofInt 32 z).toNat &&& 255 ≤ 255 := Nat.and_le_right; omega⟩
   refine aW (bV ?_); refine ⟨_, ⟨rfl, trivial⟩, ⟨rfl, rfl, trivial⟩, (Evo.refl [] w1), ?_⟩
   first | omega | exact ⟨Int.natCast_nonneg _, by have h9 : (BitVec.ofInt 32 z).toNat &&& 255 ≤ 255 := Nat.and_le_right; omega⟩
  rintro q w4 ⟨hV5, ⟨hq0, hq1⟩⟩; refine aA ?_; show CW _ _ _ _ [(1, _), (0, _), (4, _)] _; have hE6 := hE3.then hV5; refine aE (aB (aG ?_))
  refine aC rfl (cI rfl rfl (by simp only [wD, rH, mK, mJ, bap, bsz, List.length_append, List.length_cons, List.length_nil]; omega)) ?_
  try rw [wD]
  rw [bap]
  refine aC rfl (cI rfl rfl (by simp only [wD, rH, mK, mJ, bap, bsz, List.length_append, List.length_cons, List.length_nil]; omega)) ?_
  try rw [rH]
  rw [bap, List.append_assoc]; refine aM (vs := [_]) kE rfl (IR (s := bstr ([91] ++ (l ++ [93]))) (hG.evo0 hE6).glb) rfl ?_; rintro _ w7 ⟨vx, n1, x, e, rfl, hx1, hxp, hw8⟩; have hE9 := hE6.then hw8; have hx1' := hx1; obtain ⟨m1, ra1, rc1, ka1, kc1, hm1, rfl, -⟩ := hx1.get; refine aG (aC rfl (cL rfl rfl) ?_); refine aC rfl (cL rfl rfl) ?_; refine dB rfl dR fun bx w10 hB11 hs12 hw13 => ?_; have hsz_bx := hs12; have hG14 := Ge.new hE9 hs12; have hG15 := Ge.new (Evo.refl [] w7) hs12; have hE16 := hE9.then hw13; have hE17 := (Evo.refl [] w7).then hw13; refine bK rfl rfl aY hB11 rfl rfl ⟨rfl, rfl, rfl, rfl, rfl, rfl, rfl, rfl, rfl, trivial⟩ fun w18 hB19 hw20 => ?_; have hE21 := hE16.step hw20 hG14.mem1; have hE22 := hE17.step hw20 hG15.mem1
  try simp only [cT, Nat.reduceAdd] at hB19
  refine aN (aD (aA (aE (aE (aB (aG (aC rfl (gU rfl rfl) ?_))))))); refine aG (aX (t := 31) rfl (fun hs31 => ?_) (fun hs31 => ?_))
  ·skip
   refine aH (aH (aH (aH (fC ?_)))); refine fC ?_; refine fC ?_; refine aH (bL (aG (aH (aH (bL (aG (aH (aH (aH (bL (aG (aH (aH (aH ?_)))))))))))))); refine bL (aD (aA (dC rfl ?_))); refine aE (aB (aN (aD (aA (aP (aQ (aJ rfl rfl ?_))))))); exact ⟨rfl, hE21⟩
  refine aR (aC rfl (aF rfl eI) (aR (aC rfl (aI rfl bD (aK hB19 rfl)) (aR (aC rfl (gU rfl rfl) ?_))))); refine aR (aG (aX (t := 35) rfl (fun hs35 => ?_) (fun hs35 => ?_)))
  ·skip
   refine aR (aC rfl (aF rfl eI) (aR (aC rfl (aI rfl bD (aK hB19 rfl)) (aR (aC rfl (gU rfl rfl) ?_))))); refine aR (bL (aU (aG (aX (t := 41) rfl (fun hs41 => ?_) (fun hs41 => ?_)))))
   ·skip
    refine aH (aH (bL (aG (aH (aH (aH (bL (aG (aH (aH (aH (bL (aD (aA (dC rfl ?_))))))))))))))); refine aE (aB (aN (aD (aA (aP (aQ (aJ rfl rfl ?_))))))); exact ⟨rfl, hE21⟩
   refine aR (aG (aR (aC rfl (gH rfl rfl) ?_))); refine aU (aG (aX (t := 45) rfl (fun hs45 => ?_) (fun hs45 => ?_)))
   ·skip
    refine aH (aH (aH (bL (aG (aH (aH (aH (bL (aD (aA (dC rfl ?_))))))))))); refine aE (aB (aN (aD (aA (aP (aQ (aJ rfl rfl ?_))))))); exact ⟨rfl, hE21⟩
   refine aR (aG (aR ?_))
   have hl0 : l ≠ [] := fun h9 => hs45 (by rw [h9]; rfl)
   refine aC rfl (fN (n := 0) rfl rfl Tryz.underlying9 rfl (by rw [hbl]; exact List.length_pos_iff.2 hl0)) ?_
   refine aR (aC rfl (bE rfl rfl) ?_); refine aU (aG (aX (t := 50) rfl (fun hs50 => ?_) (fun hs50 => ?_)))
   ·skip
    refine aH (aH (aH (bL (aD (aA (dC rfl ?_)))))); refine aE (aB (aN (aD (aA (aP (aQ (aJ rfl rfl ?_))))))); exact ⟨rfl, hE21⟩
   refine aR (aG (aR (aC rfl (cQ rfl Tryz.underlying9 rfl) ?_))); refine aR (aC rfl (gA rfl rfl) ?_); refine aU (aD (aA (bI rfl (fun hc54 => ?_) (fun hc54 => ?_))))
   ·skip
    refine aE (aB (aN (aD (aA (aP (aQ (aJ rfl rfl ?_))))))); exact ⟨rfl, hE21⟩
   have hk23 : x.kind = 2 ∨ x.kind = 3 := by omega
   obtain ⟨hp1, -⟩ := hxp (by omega); have hln : 1 ≤ l.length := List.length_pos_iff.2 hl0
   have hR : ∀ b, b ∈ l ++ [93] → b < 256 := fun b hb => (List.mem_append.1 hb).elim (hl b) (fun h9 => by simp at h9; omega)
   have hls : (bstr ([91] ++ (l ++ [93]))).size = l.length + 2 := by rw [bsz]; simp
   have hRb : ∀ b, b ∈ [91] ++ (l ++ [93]) → b < 256 := fun b hb => (List.mem_append.1 hb).elim (fun h9 => by simp at h9; omega) (hR b)
   have h94 : ¬ isB (bstr ([91] ++ (l ++ [93]))) 1 94 := fun h9 => by have h8 := h9.2; rw [lC (by simp) hRb] at h8; have h7 : sb (bstr l) 0 = l[0] := lC hln hl; simp only [List.cons_append, List.nil_append, List.getElem_cons_succ] at h8; rw [List.getElem_append_left hln] at h8; omega
   have hla : isB (bstr ([91] ++ (l ++ [93]))) (l ++ [93]).length 93 := ⟨by rw [hls]; simp, by rw [lC (by simp) hRb]; simp⟩
   obtain ⟨C, hC, hxC, hyC, hzC⟩ := LP hR (by simp; omega) hp1 hk23 h94 hla (by simp)
   refine aW (aA (aE (aB (aG ?_))))
   refine aC rfl (cI rfl rfl (by simp only [wD, rH, mK, mJ, bap, bsz, List.length_append, List.length_cons, List.length_nil]; omega)) ?_
   try rw [mK]
   rw [bap]
   refine aC rfl (cI rfl rfl (by simp only [wD, rH, mK, mJ, bap, bsz, List.length_append, List.length_cons, List.length_nil]; omega)) ?_
   try rw [rH]
   rw [bap, List.append_assoc]; refine aM (vs := [_]) kE rfl (pS (hG.evo0 hE21).glb hyC) rfl ?_; rintro _ w23 ⟨vy, bsy, rfl, hOTy, hFry, hw24⟩; have hE25 := hE21.then hw24; have hE26 := hE22.then hw24; have hB27 := hw24.blk0 hB19; obtain ⟨n2, hy1⟩ := hOTy.rrx (X := []) (fun b _ h => by cases h); have hy1' := hy1; obtain ⟨m2, ra2, rc2, ka2, kc2, hm2, rfl, -⟩ := hy1.get; refine aG (aC rfl (cL rfl rfl) ?_); refine aC rfl (cL rfl rfl) ?_; refine dB rfl dR fun by9 w28 hB29 hs30 hw31 => ?_; have hsz_by9 := hs30; have hA32 := Apart.new (Lt.blk hB27) hs30; have hG33 := Ge.new hE25 hs30; have hG34 := Ge.new hE26 hs30; have hG35 := Ge.new (Evo.refl [] w23) hs30; have hE36 := hE25.then hw31; have hE37 := hE26.then hw31; have hE38 := (Evo.refl [] w23).then hw31; have hB39 := hw31.blk0 hB27; refine bK rfl rfl aY hB29 rfl rfl ⟨rfl, rfl, rfl, rfl, rfl, rfl, rfl, rfl, rfl, trivial⟩ fun w40 hB41 hw42 => ?_; have hE43 := hE36.step hw42 hG33.mem1; have hE44 := hE37.step hw42 hG34.mem1; have hE45 := hE38.step hw42 hG35.mem1; have hB46 := hw42.blk hB39 hA32.nmem1
   try simp only [cT, Nat.reduceAdd] at hB41
   refine aN (aD (aA (aE (aB (aG ?_)))))
   refine aC rfl (cI rfl rfl (by simp only [wD, rH, mK, mJ, bap, bsz, List.length_append, List.length_cons, List.length_nil]; omega)) ?_
   try rw [mJ]
   rw [bap]
   refine aC rfl (cI rfl rfl (by simp only [wD, rH, mK, mJ, bap, bsz, List.length_append, List.length_cons, List.length_nil]; omega)) ?_
   try rw [rH]
   rw [bap, List.append_assoc]; refine aM (vs := [_]) kE rfl (pS (hG.evo0 hE43).glb hzC) rfl ?_; rintro _ w47 ⟨vz, bsz9, rfl, hOTz, hFrz, hw48⟩; have hE49 := hE43.then hw48; have hE50 := hE44.then hw48; have hE51 := hE45.then hw48; have hB52 := hw48.blk0 hB46; have hB53 := hw48.blk0 hB41; obtain ⟨n3, hz1⟩ := hOTz.rrx (X := []) (fun b _ h => by cases h); have hz1' := hz1; obtain ⟨m3, ra3, rc3, ka3, kc3, hm3, rfl, -⟩ := hz1.get; refine aG (aC rfl (cL rfl rfl) ?_); refine aC rfl (cL rfl rfl) ?_; refine dB rfl dR fun bz w54 hB55 hs56 hw57 => ?_; have hsz_bz := hs56; have hA58 := Apart.new (Lt.blk hB52) hs56; have hA59 := Apart.new (Lt.blk hB53) hs56; have hG60 := Ge.new hE49 hs56; have hG61 := Ge.new hE50 hs56; have hG62 := Ge.new hE51 hs56; have hG63 := Ge.new (Evo.refl [] w47) hs56; have hE64 := hE49.then hw57; have hE65 := hE50.then hw57; have hE66 := hE51.then hw57; have hE67 := (Evo.refl [] w47).then hw57; have hB68 := hw57.blk0 hB52; have hB69 := hw57.blk0 hB53; refine bK rfl rfl aY hB55 rfl rfl ⟨rfl, rfl, rfl, rfl, rfl, rfl, rfl, rfl, rfl, trivial⟩ fun w70 hB71 hw72 => ?_; have hE73 := hE64.step hw72 hG60.mem1; have hE74 := hE65.step hw72 hG61.mem1; have hE75 := hE66.step hw72 hG62.mem1; have hE76 := hE67.step hw72 hG63.mem1; have hB77 := hw72.blk hB68 hA58.nmem1; have hB78 := hw72.blk hB69 hA59.nmem1
   try simp only [cT, Nat.reduceAdd] at hB71
   refine aN (aD (aA (aE (aE ?_)))); refine iN (fun w0 w' => Evo [] w0 w') (by kernel_rfl) (fun w79 hw80 => ?_); have hE81 := hE73.then hw80; have hE82 := hE74.then hw80; have hE83 := hE75.then hw80; have hE84 := hE76.then hw80; have hB85 := hw80.blk0 hB77; have hB86 := hw80.blk0 hB78; have hB87 := hw80.blk0 hB71; refine bC 0 rfl (by kernel_rfl) (by kernel_rfl) (by kernel_rfl) rfl (fun _ hS => bM rfl) (Evo.refl [] w79) ?_; refine bC 1 rfl (by kernel_rfl) (by kernel_rfl) (by kernel_rfl) rfl (fun _ hS => fB (r := .bool false) rfl rfl (fun w => by kernel_rfl)) (Evo.refl [] w79) ?_; refine bC 2 rfl (by kernel_rfl) (by kernel_rfl) (by kernel_rfl) rfl (fun _ hS => bM rfl) (Evo.refl [] w79) ?_; refine gT 3 rfl rfl rfl rfl rfl (by kernel_rfl) (by kernel_rfl) (by kernel_rfl) rfl (fun _ hS => bM rfl) (Evo.refl [] w79) ?_; refine gT 4 rfl rfl rfl rfl rfl (by kernel_rfl) (by kernel_rfl) (by kernel_rfl) rfl (fun _ hS => fB (r := .bool false) rfl rfl (fun w => by kernel_rfl)) (Evo.refl [] w79) ?_; refine bC 5 rfl (by kernel_rfl) (by kernel_rfl) (by kernel_rfl) rfl (fun _ hS => fT rfl rfl) (Evo.refl [] w79) ?_; refine bC 6 rfl (by kernel_rfl) (by kernel_rfl) (by kernel_rfl) rfl (fun _ hS => bM rfl) (Evo.refl [] w79) ?_; refine gT 7 rfl rfl rfl rfl rfl (by kernel_rfl) (by kernel_rfl) (by kernel_rfl) rfl (fun _ hS => bX rfl bS aY (hS.blk0 hB85) rfl) (Evo.refl [] w79) ?_; refine gT 8 rfl rfl rfl rfl rfl (by kernel_rfl) (by kernel_rfl) (by kernel_rfl) rfl (fun _ hS => bM rfl) (Evo.refl [] w79) ?_
   refine gT 10 rfl rfl rfl rfl rfl (by kernel_rfl) (by kernel_rfl) (by kernel_rfl) rfl (fun _ hS => bX rfl bS aY (hS.blk0 hB86) rfl) (Evo.refl [] w79) ?_; refine gT 11 rfl rfl rfl rfl rfl (by kernel_rfl) (by kernel_rfl) (by kernel_rfl) rfl (fun _ hS => bM rfl) (Evo.refl [] w79) ?_; refine cJ [9] (by kernel_rfl) rfl ⟨?_, trivial⟩; refine cS rfl ?_; refine aR (aM (vs := [_, _]) iG rfl (qZ (RRx.pers _ _ _ _ _ _ hE82 hx1')) rfl ?_); rintro _ w88 ⟨b1, rfl, hb1, hw89⟩; have hE90 := hE81.then hw89; have hE91 := hE82.then hw89; have hE92 := hE83.then hw89; have hE93 := hE84.then hw89; have hE94 := (Evo.refl [] w79).then hw89; have hB95 := hw89.blk0 hB85; have hB97 := hw89.blk0 hB87; refine aD (cF (.inl hE94) ?_); refine cJ [12] (by kernel_rfl) rfl ⟨?_, trivial⟩; refine cS rfl ?_; refine aR (aM (vs := [_, _]) iG rfl (qZ (RRx.pers _ _ _ _ _ _ hE92 hy1')) rfl ?_); rintro _ w98 ⟨b2, rfl, hb2, hw99⟩; have hE100 := hE90.then hw99; have hE101 := hE91.then hw99; have hE103 := hE93.then hw99; have hE104 := hE94.then hw99; have hB105 := hw99.blk0 hB95; have hB107 := hw99.blk0 hB97; refine aD (cF (.inl hE104) ?_); refine gT 13 rfl rfl rfl rfl rfl (by kernel_rfl) (by kernel_rfl) (by kernel_rfl) rfl (fun _ hS => tK rfl rfl Tryz.underlying4) hE104 ?_; refine bC 14 rfl (by kernel_rfl) (by kernel_rfl) (by kernel_rfl) rfl (fun _ hS => fT rfl rfl) hE104 ?_; refine eR (by kernel_rfl) (aA ?_); refine gB rfl (fun hc83 => ?_) (fun hc83 => ?_)
   ·skip
    refine aE (aB (aN (aD (aA (aP (aQ (aJ rfl rfl ?_))))))); exact (CM hC hq0 hq1 hxC hb1 hb2 hc83).elim
   refine aW (aA (aE (aB (aG (aN (aD (aA (aE (tM (α := Int) (fun o => [(11, .int .i32 o)]) [(1, _), (4, _), (5, _), (9, _)] (fun o wr => Evo [] w98 wr ∧ (kB C q ↔ (C q ∨ C o))) ⟨rfl, rfl, rfl, rfl, trivial⟩ ?_ ?_)))))))))
   ·skip
    refine aE (aB (aG (aC rfl (eZ rfl rfl) ?_))); refine aG (aX (t := 87) rfl (fun hs87 => ?_) (fun hs87 => ?_))
    ·skip
     refine aR (aG (aR (aC rfl (fL rfl rfl) ?_))); refine bL (aD (aA (bI rfl (fun hc90 => ?_) (fun hc90 => ?_))))
     ·skip
      refine aB (aG ?_); refine aC rfl (rL rfl rfl (by omega) (by omega)) ?_; refine aN (aD (bV ?_)); refine ⟨(q - 32), ⟨rfl, trivial⟩, ⟨rfl, rfl, rfl, rfl, trivial⟩, (Evo.refl [] w98), ?_⟩; exact fo_a (by omega)
     refine aE (aB (aG (aC rfl (eZ rfl rfl) ?_))); refine aG (aX (t := 95) rfl (fun hs95 => ?_) (fun hs95 => ?_))
     ·skip
      refine aR (aG (aR (aC rfl (fL rfl rfl) ?_))); refine bL (aD (aA (bI rfl (fun hc98 => ?_) (fun hc98 => ?_))))
      ·skip
       refine aB (aG ?_); refine aC rfl (gV rfl rfl (by omega) (by omega)) ?_; refine aN (aD (bV ?_)); refine ⟨(q + 32), ⟨rfl, trivial⟩, ⟨rfl, rfl, rfl, rfl, trivial⟩, (Evo.refl [] w98), ?_⟩; exact fo_b (by omega)
      refine aW (bV ?_); refine ⟨q, ⟨rfl, trivial⟩, ⟨rfl, rfl, rfl, rfl, trivial⟩, (Evo.refl [] w98), ?_⟩; exact DC (by omega) (by omega)
     refine aH (aH (aU (aD (aA (cK rfl ?_))))); refine aW (bV ?_); refine ⟨q, ⟨rfl, trivial⟩, ⟨rfl, rfl, rfl, rfl, trivial⟩, (Evo.refl [] w98), ?_⟩; exact DC (by omega) (by omega)
    refine aH (aH (aU (aD (aA (cK rfl ?_))))); refine aE (aB (aG (aC rfl (eZ rfl rfl) ?_))); refine aG (aX (t := 95) rfl (fun hs95 => ?_) (fun hs95 => ?_))
    ·skip
     refine aR (aG (aR (aC rfl (fL rfl rfl) ?_))); refine bL (aD (aA (bI rfl (fun hc98 => ?_) (fun hc98 => ?_))))
     ·skip
      refine aB (aG ?_); refine aC rfl (gV rfl rfl (by omega) (by omega)) ?_; refine aN (aD (bV ?_)); refine ⟨(q + 32), ⟨rfl, trivial⟩, ⟨rfl, rfl, rfl, rfl, trivial⟩, (Evo.refl [] w98), ?_⟩; exact fo_b (by omega)
     refine aW (bV ?_); refine ⟨q, ⟨rfl, trivial⟩, ⟨rfl, rfl, rfl, rfl, trivial⟩, (Evo.refl [] w98), ?_⟩; exact DC (by omega) (by omega)
    refine aH (aH (aU (aD (aA (cK rfl ?_))))); refine aW (bV ?_); refine ⟨q, ⟨rfl, trivial⟩, ⟨rfl, rfl, rfl, rfl, trivial⟩, (Evo.refl [] w98), ?_⟩; exact DC (by omega) (by omega)
   rintro o w108 ⟨hV109, ho⟩; refine aA ?_; show CW _ _ _ _ [(11, _), (1, _), (4, _), (5, _), (9, _)] _; have hE110 := hE100.then hV109; have hE111 := hE101.then hV109; have hE113 := hE103.then hV109; have hB114 := hV109.blk0 hB105; have hB116 := hV109.blk0 hB107; refine aE ?_; refine iN (fun w0 w' => Evo [] w0 w') (by kernel_rfl) (fun w117 hw118 => ?_); have hE119 := hE110.then hw118; have hE120 := hE111.then hw118; have hE122 := hE113.then hw118; have hB123 := hw118.blk0 hB114; have hB125 := hw118.blk0 hB116; refine bC 0 rfl (by kernel_rfl) (by kernel_rfl) (by kernel_rfl) rfl (fun _ hS => bX rfl bS aY (hS.blk0 hB125) rfl) (Evo.refl [] w117) ?_; refine bC 1 rfl (by kernel_rfl) (by kernel_rfl) (by kernel_rfl) rfl (fun _ hS => bM rfl) (Evo.refl [] w117) ?_; refine bC 3 rfl (by kernel_rfl) (by kernel_rfl) (by kernel_rfl) rfl (fun _ hS => bX rfl bS aY (hS.blk0 hB123) rfl) (Evo.refl [] w117) ?_; refine bC 4 rfl (by kernel_rfl) (by kernel_rfl) (by kernel_rfl) rfl (fun _ hS => bM rfl) (Evo.refl [] w117) ?_; refine cJ [2] (by kernel_rfl) rfl ⟨?_, trivial⟩; refine cS rfl ?_; refine aM (vs := [_, _]) iG rfl (qZ (RRx.pers _ _ _ _ _ _ hE122 hz1')) rfl ?_; rintro _ w126 ⟨b3, rfl, hb3, hw127⟩; have hE128 := hE119.then hw127; have hE129 := hE120.then hw127; have hE132 := (Evo.refl [] w117).then hw127; refine aD (cF (.inl hE132) ?_); refine cJ [5] (by kernel_rfl) rfl ⟨?_, trivial⟩; refine cS rfl ?_; refine aM (vs := [_, _]) iG rfl (qZ (RRx.pers _ _ _ _ _ _ hE129 hx1')) rfl ?_; rintro _ w136 ⟨b4, rfl, hb4, hw137⟩; have hE138 := hE128.then hw137; have hE139 := hE129.then hw137; have hE142 := hE132.then hw137
   refine aD (cF (.inl hE142) ?_); refine bC 6 rfl (by kernel_rfl) (by kernel_rfl) (by kernel_rfl) rfl (fun _ hS => bM rfl) hE142 ?_; refine yV (t := 107) rfl (fun hs107 => ?_) (fun hs107 => ?_)
   ·skip
    refine sG 7 rfl rfl rfl rfl rfl rfl (by kernel_rfl) (by kernel_rfl) (by kernel_rfl) rfl hE142 ?_; refine sG 8 rfl rfl rfl rfl rfl rfl (by kernel_rfl) (by kernel_rfl) (by kernel_rfl) rfl hE142 ?_; refine cJ [9] (by kernel_rfl) rfl ⟨?_, trivial⟩; refine cS rfl ?_; refine aH (aD (cF (.inl hE142) ?_)); refine bC 10 rfl (by kernel_rfl) (by kernel_rfl) (by kernel_rfl) rfl (fun _ hS => gP rfl rfl) hE142 ?_; refine bC 11 rfl (by kernel_rfl) (by kernel_rfl) (by kernel_rfl) rfl (fun _ hS => tK rfl rfl Tryz.underlying4) hE142 ?_; refine bC 12 rfl (by kernel_rfl) (by kernel_rfl) (by kernel_rfl) rfl (fun _ hS => dZ rfl) hE142 ?_; refine eR (by kernel_rfl) (aA ?_); refine aP (aJ rfl rfl ?_)
    exact ⟨congrArg Value.bool (by have h9 := CL hC hxC ho hb3 hb4 hs107; rw [hs107] at h9; exact h9), hE138⟩
   refine gT 7 rfl rfl rfl rfl rfl (by kernel_rfl) (by kernel_rfl) (by kernel_rfl) rfl (fun _ hS => bX rfl bS aY (hS.blk0 hB123) rfl) hE142 ?_; refine gT 8 rfl rfl rfl rfl rfl (by kernel_rfl) (by kernel_rfl) (by kernel_rfl) rfl (fun _ hS => bM rfl) hE142 ?_; refine cJ [9] (by kernel_rfl) rfl ⟨?_, trivial⟩; refine cS rfl ?_; refine aR (aM (vs := [_, _]) iG rfl (qZ (RRx.pers _ _ _ _ _ _ hE139 hx1')) rfl ?_); rintro _ w146 ⟨b5, rfl, hb5, hw147⟩; have hE148 := hE138.then hw147; have hE152 := hE142.then hw147; refine aD (cF (.inl hE152) ?_); refine bC 10 rfl (by kernel_rfl) (by kernel_rfl) (by kernel_rfl) rfl (fun _ hS => fT rfl rfl) hE152 ?_; refine bC 11 rfl (by kernel_rfl) (by kernel_rfl) (by kernel_rfl) rfl (fun _ hS => tK rfl rfl Tryz.underlying4) hE152 ?_; refine bC 12 rfl (by kernel_rfl) (by kernel_rfl) (by kernel_rfl) rfl (fun _ hS => dZ rfl) hE152 ?_; refine eR (by kernel_rfl) (aA ?_); refine aP (aJ rfl rfl ?_); exact ⟨congrArg Value.bool (CK hC hxC ho hb3 hb4 hb5 hs107), hE148⟩
  refine aH (aH (aH (aR (aU (aU (aG (aR (aG (aR (aC rfl (gH rfl rfl) ?_)))))))))); refine aU (aG (aX (t := 45) rfl (fun hs45 => ?_) (fun hs45 => ?_)))
  ·skip
   refine aH (aH (aH (bL (aG (aH (aH (aH (bL (aD (aA (dC rfl ?_))))))))))); refine aE (aB (aN (aD (aA (aP (aQ (aJ rfl rfl ?_))))))); exact ⟨rfl, hE21⟩
  refine aR (aG (aR ?_))
  have hl0 : l ≠ [] := fun h9 => hs45 (by rw [h9]; rfl)
  refine aC rfl (fN (n := 0) rfl rfl Tryz.underlying9 rfl (by rw [hbl]; exact List.length_pos_iff.2 hl0)) ?_
  refine aR (aC rfl (bE rfl rfl) ?_); refine aU (aG (aX (t := 50) rfl (fun hs50 => ?_) (fun hs50 => ?_)))
  ·skip
   refine aH (aH (aH (bL (aD (aA (dC rfl ?_)))))); refine aE (aB (aN (aD (aA (aP (aQ (aJ rfl rfl ?_))))))); exact ⟨rfl, hE21⟩
  refine aR (aG (aR (aC rfl (cQ rfl Tryz.underlying9 rfl) ?_))); refine aR (aC rfl (gA rfl rfl) ?_); refine aU (aD (aA (bI rfl (fun hc54 => ?_) (fun hc54 => ?_))))
  ·skip
   refine aE (aB (aN (aD (aA (aP (aQ (aJ rfl rfl ?_))))))); exact ⟨rfl, hE21⟩
  have hk23 : x.kind = 2 ∨ x.kind = 3 := by omega
  obtain ⟨hp1, -⟩ := hxp (by omega); have hln : 1 ≤ l.length := List.length_pos_iff.2 hl0
  have hR : ∀ b, b ∈ l ++ [93] → b < 256 := fun b hb => (List.mem_append.1 hb).elim (hl b) (fun h9 => by simp at h9; omega)
  have hls : (bstr ([91] ++ (l ++ [93]))).size = l.length + 2 := by rw [bsz]; simp
  have hRb : ∀ b, b ∈ [91] ++ (l ++ [93]) → b < 256 := fun b hb => (List.mem_append.1 hb).elim (fun h9 => by simp at h9; omega) (hR b)
  have h94 : ¬ isB (bstr ([91] ++ (l ++ [93]))) 1 94 := fun h9 => by have h8 := h9.2; rw [lC (by simp) hRb] at h8; have h7 : sb (bstr l) 0 = l[0] := lC hln hl; simp only [List.cons_append, List.nil_append, List.getElem_cons_succ] at h8; rw [List.getElem_append_left hln] at h8; omega
  have hla : isB (bstr ([91] ++ (l ++ [93]))) (l ++ [93]).length 93 := ⟨by rw [hls]; simp, by rw [lC (by simp) hRb]; simp⟩
  obtain ⟨C, hC, hxC, hyC, hzC⟩ := LP hR (by simp; omega) hp1 hk23 h94 hla (by simp)
  refine aW (aA (aE (aB (aG ?_))))
  refine aC rfl (cI rfl rfl (by simp only [wD, rH, mK, mJ, bap, bsz, List.length_append, List.length_cons, List.length_nil]; omega)) ?_
  try rw [mK]
  rw [bap]
  refine aC rfl (cI rfl rfl (by simp only [wD, rH, mK, mJ, bap, bsz, List.length_append, List.length_cons, List.length_nil]; omega)) ?_
  try rw [rH]
  rw [bap, List.append_assoc]; refine aM (vs := [_]) kE rfl (pS (hG.evo0 hE21).glb hyC) rfl ?_; rintro _ w156 ⟨vy, bsy, rfl, hOTy, hFry, hw157⟩; have hE158 := hE21.then hw157; have hE159 := hE22.then hw157; have hB160 := hw157.blk0 hB19; obtain ⟨n2, hy1⟩ := hOTy.rrx (X := []) (fun b _ h => by cases h); have hy1' := hy1; obtain ⟨m2, ra2, rc2, ka2, kc2, hm2, rfl, -⟩ := hy1.get; refine aG (aC rfl (cL rfl rfl) ?_); refine aC rfl (cL rfl rfl) ?_; refine dB rfl dR fun by9 w161 hB162 hs163 hw164 => ?_; have hsz_by9 := hs163; have hA165 := Apart.new (Lt.blk hB160) hs163; have hG166 := Ge.new hE158 hs163; have hG167 := Ge.new hE159 hs163; have hG168 := Ge.new (Evo.refl [] w156) hs163; have hE169 := hE158.then hw164; have hE170 := hE159.then hw164; have hE171 := (Evo.refl [] w156).then hw164; have hB172 := hw164.blk0 hB160; refine bK rfl rfl aY hB162 rfl rfl ⟨rfl, rfl, rfl, rfl, rfl, rfl, rfl, rfl, rfl, trivial⟩ fun w173 hB174 hw175 => ?_; have hE176 := hE169.step hw175 hG166.mem1; have hE177 := hE170.step hw175 hG167.mem1; have hE178 := hE171.step hw175 hG168.mem1; have hB179 := hw175.blk hB172 hA165.nmem1
  try simp only [cT, Nat.reduceAdd] at hB174
  refine aN (aD (aA (aE (aB (aG ?_)))))
  refine aC rfl (cI rfl rfl (by simp only [wD, rH, mK, mJ, bap, bsz, List.length_append, List.length_cons, List.length_nil]; omega)) ?_
  try rw [mJ]
  rw [bap]
  refine aC rfl (cI rfl rfl (by simp only [wD, rH, mK, mJ, bap, bsz, List.length_append, List.length_cons, List.length_nil]; omega)) ?_
  try rw [rH]
  rw [bap, List.append_assoc]; refine aM (vs := [_]) kE rfl (pS (hG.evo0 hE176).glb hzC) rfl ?_; rintro _ w180 ⟨vz, bsz9, rfl, hOTz, hFrz, hw181⟩; have hE182 := hE176.then hw181; have hE183 := hE177.then hw181; have hE184 := hE178.then hw181; have hB185 := hw181.blk0 hB179; have hB186 := hw181.blk0 hB174; obtain ⟨n3, hz1⟩ := hOTz.rrx (X := []) (fun b _ h => by cases h); have hz1' := hz1; obtain ⟨m3, ra3, rc3, ka3, kc3, hm3, rfl, -⟩ := hz1.get; refine aG (aC rfl (cL rfl rfl) ?_); refine aC rfl (cL rfl rfl) ?_; refine dB rfl dR fun bz w187 hB188 hs189 hw190 => ?_; have hsz_bz := hs189; have hA191 := Apart.new (Lt.blk hB185) hs189; have hA192 := Apart.new (Lt.blk hB186) hs189; have hG193 := Ge.new hE182 hs189; have hG194 := Ge.new hE183 hs189; have hG195 := Ge.new hE184 hs189; have hG196 := Ge.new (Evo.refl [] w180) hs189; have hE197 := hE182.then hw190; have hE198 := hE183.then hw190; have hE199 := hE184.then hw190; have hE200 := (Evo.refl [] w180).then hw190; have hB201 := hw190.blk0 hB185; have hB202 := hw190.blk0 hB186; refine bK rfl rfl aY hB188 rfl rfl ⟨rfl, rfl, rfl, rfl, rfl, rfl, rfl, rfl, rfl, trivial⟩ fun w203 hB204 hw205 => ?_; have hE206 := hE197.step hw205 hG193.mem1; have hE207 := hE198.step hw205 hG194.mem1; have hE208 := hE199.step hw205 hG195.mem1; have hE209 := hE200.step hw205 hG196.mem1; have hB210 := hw205.blk hB201 hA191.nmem1; have hB211 := hw205.blk hB202 hA192.nmem1
  try simp only [cT, Nat.reduceAdd] at hB204
  refine aN (aD (aA (aE (aE ?_)))); refine iN (fun w0 w' => Evo [] w0 w') (by kernel_rfl) (fun w212 hw213 => ?_); have hE214 := hE206.then hw213; have hE215 := hE207.then hw213; have hE216 := hE208.then hw213; have hE217 := hE209.then hw213; have hB218 := hw213.blk0 hB210; have hB219 := hw213.blk0 hB211; have hB220 := hw213.blk0 hB204; refine bC 0 rfl (by kernel_rfl) (by kernel_rfl) (by kernel_rfl) rfl (fun _ hS => bM rfl) (Evo.refl [] w212) ?_; refine bC 1 rfl (by kernel_rfl) (by kernel_rfl) (by kernel_rfl) rfl (fun _ hS => fB (r := .bool false) rfl rfl (fun w => by kernel_rfl)) (Evo.refl [] w212) ?_; refine bC 2 rfl (by kernel_rfl) (by kernel_rfl) (by kernel_rfl) rfl (fun _ hS => bM rfl) (Evo.refl [] w212) ?_; refine gT 3 rfl rfl rfl rfl rfl (by kernel_rfl) (by kernel_rfl) (by kernel_rfl) rfl (fun _ hS => bM rfl) (Evo.refl [] w212) ?_; refine gT 4 rfl rfl rfl rfl rfl (by kernel_rfl) (by kernel_rfl) (by kernel_rfl) rfl (fun _ hS => fB (r := .bool false) rfl rfl (fun w => by kernel_rfl)) (Evo.refl [] w212) ?_; refine bC 5 rfl (by kernel_rfl) (by kernel_rfl) (by kernel_rfl) rfl (fun _ hS => fT rfl rfl) (Evo.refl [] w212) ?_; refine bC 6 rfl (by kernel_rfl) (by kernel_rfl) (by kernel_rfl) rfl (fun _ hS => bM rfl) (Evo.refl [] w212) ?_; refine gT 7 rfl rfl rfl rfl rfl (by kernel_rfl) (by kernel_rfl) (by kernel_rfl) rfl (fun _ hS => bX rfl bS aY (hS.blk0 hB218) rfl) (Evo.refl [] w212) ?_; refine gT 8 rfl rfl rfl rfl rfl (by kernel_rfl) (by kernel_rfl) (by kernel_rfl) rfl (fun _ hS => bM rfl) (Evo.refl [] w212) ?_
  refine gT 10 rfl rfl rfl rfl rfl (by kernel_rfl) (by kernel_rfl) (by kernel_rfl) rfl (fun _ hS => bX rfl bS aY (hS.blk0 hB219) rfl) (Evo.refl [] w212) ?_; refine gT 11 rfl rfl rfl rfl rfl (by kernel_rfl) (by kernel_rfl) (by kernel_rfl) rfl (fun _ hS => bM rfl) (Evo.refl [] w212) ?_; refine cJ [9] (by kernel_rfl) rfl ⟨?_, trivial⟩; refine cS rfl ?_; refine aR (aM (vs := [_, _]) iG rfl (qZ (RRx.pers _ _ _ _ _ _ hE215 hx1')) rfl ?_); rintro _ w221 ⟨b1, rfl, hb1, hw222⟩; have hE223 := hE214.then hw222; have hE224 := hE215.then hw222; have hE225 := hE216.then hw222; have hE226 := hE217.then hw222; have hE227 := (Evo.refl [] w212).then hw222; have hB228 := hw222.blk0 hB218; have hB230 := hw222.blk0 hB220; refine aD (cF (.inl hE227) ?_); refine cJ [12] (by kernel_rfl) rfl ⟨?_, trivial⟩; refine cS rfl ?_; refine aR (aM (vs := [_, _]) iG rfl (qZ (RRx.pers _ _ _ _ _ _ hE225 hy1')) rfl ?_); rintro _ w231 ⟨b2, rfl, hb2, hw232⟩; have hE233 := hE223.then hw232; have hE234 := hE224.then hw232; have hE236 := hE226.then hw232; have hE237 := hE227.then hw232; have hB238 := hw232.blk0 hB228; have hB240 := hw232.blk0 hB230; refine aD (cF (.inl hE237) ?_); refine gT 13 rfl rfl rfl rfl rfl (by kernel_rfl) (by kernel_rfl) (by kernel_rfl) rfl (fun _ hS => tK rfl rfl Tryz.underlying4) hE237 ?_; refine bC 14 rfl (by kernel_rfl) (by kernel_rfl) (by kernel_rfl) rfl (fun _ hS => fT rfl rfl) hE237 ?_; refine eR (by kernel_rfl) (aA ?_); refine gB rfl (fun hc83 => ?_) (fun hc83 => ?_)
  ·skip
   refine aE (aB (aN (aD (aA (aP (aQ (aJ rfl rfl ?_))))))); exact (CM hC hq0 hq1 hxC hb1 hb2 hc83).elim
  refine aW (aA (aE (aB (aG (aN (aD (aA (aE (tM (α := Int) (fun o => [(11, .int .i32 o)]) [(1, _), (4, _), (5, _), (9, _)] (fun o wr => Evo [] w231 wr ∧ (kB C q ↔ (C q ∨ C o))) ⟨rfl, rfl, rfl, rfl, trivial⟩ ?_ ?_)))))))))
  ·skip
   refine aE (aB (aG (aC rfl (eZ rfl rfl) ?_))); refine aG (aX (t := 87) rfl (fun hs87 => ?_) (fun hs87 => ?_))
   ·skip
    refine aR (aG (aR (aC rfl (fL rfl rfl) ?_))); refine bL (aD (aA (bI rfl (fun hc90 => ?_) (fun hc90 => ?_))))
    ·skip
     refine aB (aG ?_); refine aC rfl (rL rfl rfl (by omega) (by omega)) ?_; refine aN (aD (bV ?_)); refine ⟨(q - 32), ⟨rfl, trivial⟩, ⟨rfl, rfl, rfl, rfl, trivial⟩, (Evo.refl [] w231), ?_⟩; exact fo_a (by omega)
    refine aE (aB (aG (aC rfl (eZ rfl rfl) ?_))); refine aG (aX (t := 95) rfl (fun hs95 => ?_) (fun hs95 => ?_))
    ·skip
     refine aR (aG (aR (aC rfl (fL rfl rfl) ?_))); refine bL (aD (aA (bI rfl (fun hc98 => ?_) (fun hc98 => ?_))))
     ·skip
      refine aB (aG ?_); refine aC rfl (gV rfl rfl (by omega) (by omega)) ?_; refine aN (aD (bV ?_)); refine ⟨(q + 32), ⟨rfl, trivial⟩, ⟨rfl, rfl, rfl, rfl, trivial⟩, (Evo.refl [] w231), ?_⟩; exact fo_b (by omega)
     refine aW (bV ?_); refine ⟨q, ⟨rfl, trivial⟩, ⟨rfl, rfl, rfl, rfl, trivial⟩, (Evo.refl [] w231), ?_⟩; exact DC (by omega) (by omega)
    refine aH (aH (aU (aD (aA (cK rfl ?_))))); refine aW (bV ?_); refine ⟨q, ⟨rfl, trivial⟩, ⟨rfl, rfl, rfl, rfl, trivial⟩, (Evo.refl [] w231), ?_⟩; exact DC (by omega) (by omega)
   refine aH (aH (aU (aD (aA (cK rfl ?_))))); refine aE (aB (aG (aC rfl (eZ rfl rfl) ?_))); refine aG (aX (t := 95) rfl (fun hs95 => ?_) (fun hs95 => ?_))
   ·skip
    refine aR (aG (aR (aC rfl (fL rfl rfl) ?_))); refine bL (aD (aA (bI rfl (fun hc98 => ?_) (fun hc98 => ?_))))
    ·skip
     refine aB (aG ?_); refine aC rfl (gV rfl rfl (by omega) (by omega)) ?_; refine aN (aD (bV ?_)); refine ⟨(q + 32), ⟨rfl, trivial⟩, ⟨rfl, rfl, rfl, rfl, trivial⟩, (Evo.refl [] w231), ?_⟩; exact fo_b (by omega)
    refine aW (bV ?_); refine ⟨q, ⟨rfl, trivial⟩, ⟨rfl, rfl, rfl, rfl, trivial⟩, (Evo.refl [] w231), ?_⟩; exact DC (by omega) (by omega)
   refine aH (aH (aU (aD (aA (cK rfl ?_))))); refine aW (bV ?_); refine ⟨q, ⟨rfl, trivial⟩, ⟨rfl, rfl, rfl, rfl, trivial⟩, (Evo.refl [] w231), ?_⟩; exact DC (by omega) (by omega)
  rintro o w241 ⟨hV242, ho⟩; refine aA ?_; show CW _ _ _ _ [(11, _), (1, _), (4, _), (5, _), (9, _)] _; have hE243 := hE233.then hV242; have hE244 := hE234.then hV242; have hE246 := hE236.then hV242; have hB247 := hV242.blk0 hB238; have hB249 := hV242.blk0 hB240; refine aE ?_; refine iN (fun w0 w' => Evo [] w0 w') (by kernel_rfl) (fun w250 hw251 => ?_); have hE252 := hE243.then hw251; have hE253 := hE244.then hw251; have hE255 := hE246.then hw251; have hB256 := hw251.blk0 hB247; have hB258 := hw251.blk0 hB249; refine bC 0 rfl (by kernel_rfl) (by kernel_rfl) (by kernel_rfl) rfl (fun _ hS => bX rfl bS aY (hS.blk0 hB258) rfl) (Evo.refl [] w250) ?_; refine bC 1 rfl (by kernel_rfl) (by kernel_rfl) (by kernel_rfl) rfl (fun _ hS => bM rfl) (Evo.refl [] w250) ?_; refine bC 3 rfl (by kernel_rfl) (by kernel_rfl) (by kernel_rfl) rfl (fun _ hS => bX rfl bS aY (hS.blk0 hB256) rfl) (Evo.refl [] w250) ?_; refine bC 4 rfl (by kernel_rfl) (by kernel_rfl) (by kernel_rfl) rfl (fun _ hS => bM rfl) (Evo.refl [] w250) ?_; refine cJ [2] (by kernel_rfl) rfl ⟨?_, trivial⟩; refine cS rfl ?_; refine aM (vs := [_, _]) iG rfl (qZ (RRx.pers _ _ _ _ _ _ hE255 hz1')) rfl ?_; rintro _ w259 ⟨b3, rfl, hb3, hw260⟩; have hE261 := hE252.then hw260; have hE262 := hE253.then hw260; have hE265 := (Evo.refl [] w250).then hw260; refine aD (cF (.inl hE265) ?_); refine cJ [5] (by kernel_rfl) rfl ⟨?_, trivial⟩; refine cS rfl ?_; refine aM (vs := [_, _]) iG rfl (qZ (RRx.pers _ _ _ _ _ _ hE262 hx1')) rfl ?_; rintro _ w269 ⟨b4, rfl, hb4, hw270⟩; have hE271 := hE261.then hw270; have hE272 := hE262.then hw270; have hE275 := hE265.then hw270
  refine aD (cF (.inl hE275) ?_); refine bC 6 rfl (by kernel_rfl) (by kernel_rfl) (by kernel_rfl) rfl (fun _ hS => bM rfl) hE275 ?_; refine yV (t := 107) rfl (fun hs107 => ?_) (fun hs107 => ?_)
  ·skip
   refine sG 7 rfl rfl rfl rfl rfl rfl (by kernel_rfl) (by kernel_rfl) (by kernel_rfl) rfl hE275 ?_; refine sG 8 rfl rfl rfl rfl rfl rfl (by kernel_rfl) (by kernel_rfl) (by kernel_rfl) rfl hE275 ?_; refine cJ [9] (by kernel_rfl) rfl ⟨?_, trivial⟩; refine cS rfl ?_; refine aH (aD (cF (.inl hE275) ?_)); refine bC 10 rfl (by kernel_rfl) (by kernel_rfl) (by kernel_rfl) rfl (fun _ hS => gP rfl rfl) hE275 ?_; refine bC 11 rfl (by kernel_rfl) (by kernel_rfl) (by kernel_rfl) rfl (fun _ hS => tK rfl rfl Tryz.underlying4) hE275 ?_; refine bC 12 rfl (by kernel_rfl) (by kernel_rfl) (by kernel_rfl) rfl (fun _ hS => dZ rfl) hE275 ?_; refine eR (by kernel_rfl) (aA ?_); refine aP (aJ rfl rfl ?_)
   exact ⟨congrArg Value.bool (by have h9 := CL hC hxC ho hb3 hb4 hs107; rw [hs107] at h9; exact h9), hE271⟩
  refine gT 7 rfl rfl rfl rfl rfl (by kernel_rfl) (by kernel_rfl) (by kernel_rfl) rfl (fun _ hS => bX rfl bS aY (hS.blk0 hB256) rfl) hE275 ?_; refine gT 8 rfl rfl rfl rfl rfl (by kernel_rfl) (by kernel_rfl) (by kernel_rfl) rfl (fun _ hS => bM rfl) hE275 ?_; refine cJ [9] (by kernel_rfl) rfl ⟨?_, trivial⟩; refine cS rfl ?_; refine aR (aM (vs := [_, _]) iG rfl (qZ (RRx.pers _ _ _ _ _ _ hE272 hx1')) rfl ?_); rintro _ w279 ⟨b5, rfl, hb5, hw280⟩; have hE281 := hE271.then hw280; have hE285 := hE275.then hw280; refine aD (cF (.inl hE285) ?_); refine bC 10 rfl (by kernel_rfl) (by kernel_rfl) (by kernel_rfl) rfl (fun _ hS => fT rfl rfl) hE285 ?_; refine bC 11 rfl (by kernel_rfl) (by kernel_rfl) (by kernel_rfl) rfl (fun _ hS => tK rfl rfl Tryz.underlying4) hE285 ?_; refine bC 12 rfl (by kernel_rfl) (by kernel_rfl) (by kernel_rfl) rfl (fun _ hS => dZ rfl) hE285 ?_; refine eR (by kernel_rfl) (aA ?_); refine aP (aJ rfl rfl ?_); exact ⟨congrArg Value.bool (CK hC hxC ho hb3 hb4 hb5 hs107), hE281⟩
end Go.Proofs.YtljadkcojnlioaaGreatDoor
namespace Go.Proofs.YtljadkcojnlioaaGreatDoor
open Go.Proofs
open Go.W Go.ChangeShapes Go.WideShapes Go.ChangeAt Go.RowKit
theorem LQ {w : World} (s : ByteArray) (z : Int) (hG : Gw w) (hs : s.size ≤ 30000000) :
    Calls Tryz.prog 6 #[.string s, .int .i32 z] w (Ret fun v w' => v = .bool true ∧ Evo [] w w') := by
  have h1 : s = bstr (fU s 0 s.size) := by
    have h2 := oE s 0 s.size (by omega)
    rw [Nat.zero_add] at h2
    rw [← h2]; simp
  have h3 := not_law (fU s 0 s.size) (rP s 0 s.size) z hG (by simp [fU]; exact hs)
  rw [← h1] at h3
  exact h3
set_option maxRecDepth 100000 in
theorem NE (H : Type) (enc : TypeId × Value → H) (W : World) (base : Nat) (args : Array Value) (ds gs : List (DataW H)) (before : List MemPlace)
    (hval : ∀ (j : Nat) t v, Tryz.f6.params[j]? = some t → args[j]? = some v → Value.okWide Tryz.prog W .any base t v)
    (hW : DataW.Whole enc Tryz.prog Tryz.f6.params.toList Rows.rxtreeNotSpec.vars false W args.toList ds gs before) (hk : Rows.uptoSmall H (ds ++ gs) = true)
    (hsz : (DataW.weightsEach Tryz.prog (Tryz.f6.params.toList ++ Rows.rxtreeNotSpec.plain.varTypes Tryz.prog) (ds ++ gs)).all (· ≤ reachBytes) = true) (hG : Gw W) :
    Calls Tryz.prog 6 args W fun e W' => ∃ v, e = .returned v ∧ Rows.rxtreeNotSpec.post enc Tryz.prog Tryz.f6 false true false false W args v W' := by
  have hW' := hW
  obtain ⟨p, q, hA0, hV, rfl, hfz, hnd⟩ := hW
  have hA : DataW.TrodAll enc Tryz.prog W 0 (fun _ => true) true Tryz.f6.params.toList args.toList ds p := hA0
  rw [Tryz.params6] at hA hval hsz
  obtain ⟨v0, vs0, d0, ds0, p0, q0, hargs0, rfl, rfl, h0, r0⟩ := trodAll_cons hA
  obtain ⟨v1, vs1, d1, ds1, p1, q1, hargs1, rfl, rfl, h1, r1⟩ := trodAll_cons r0
  obtain ⟨hn1, rfl, rfl⟩ := trodAll_nil r1
  subst hn1
  subst hargs1
  obtain rfl : args = #[v0, v1] := by cases args; simp_all
  obtain ⟨rfl, rfl⟩ := trodVars_none hV
  have hbk := of_decide_eq_true hk
  simp only [List.append_nil, List.cons_append, List.nil_append, Rows.uptoBulkAll] at hbk
  have k0 := h0
  have lt0 : ∀ x ∈ p0, x.block < W.heap.size := by obtain ⟨m, hm⟩ := k0; exact DataW.trod_lt m _ _ _ hm
  obtain ⟨f0, hf0⟩ := h0
  obtain ⟨s0, ⟨hc0, hs0⟩, -⟩ := FH f0 Tryz.underlying9 H enc W f0 _ _ (Nat.le_refl _) hf0 (fun n hn => by have := List.all_eq_true.1 hsz n (DataW.weights_mem_each (j := 0) rfl rfl n hn); simpa using this) (by simp only; omega)
  obtain ⟨z0, rfl⟩ := okWide_string Tryz.underlying9 (hval 0 9 _ rfl rfl)
  simp [Value.cells] at hc0
  subst hc0
  have k1 := h1
  have lt1 : ∀ x ∈ p1, x.block < W.heap.size := by obtain ⟨m, hm⟩ := k1; exact DataW.trod_lt m _ _ _ hm
  obtain ⟨f1, hf1⟩ := h1
  obtain ⟨n1, rfl, -, -, hr1⟩ := open_int Tryz.underlying21 (hval 1 21 _ rfl rfl) k1
  refine (LQ z0 n1 hG (by omega)).mono fun e W' ⟨v, he, hv, bel⟩ => ?_
  subst he hv
  exact ⟨_, rfl, _, _, _, [], _, [], hW', trodAll_mk1 (shut_bool Tryz.underlying4 _), (trodAll_cons_mk (Below.trod GZ (by kernel_rfl) (of_decide_eq_true (by kernel_rfl)) k0 bel.below lt0) (trodAll_cons_mk (Below.trod GZ (by kernel_rfl) (of_decide_eq_true (by kernel_rfl)) k1 bel.below lt1) trodAll_mk0)), rfl, bel.below.frame _, fun h => by cases h⟩
theorem MA (os : Os) : laidMet Tryz.prog laidL ((tI os).forCall (fun _ _ => 0) ⟨#[], #[.string ByteArray.empty, .int .i32 0], []⟩).memory :=
  laidMet_of_run' 8 (by kernel_rfl) (by kernel_rfl)
theorem reads (os : Os) {H : Type} (enc : TypeId × Value → H) : ∃ places, DataW.whole enc Tryz.prog ((tI os).forCall (fun _ _ => 0) ⟨#[], #[.string ByteArray.empty, .int .i32 0], []⟩).memory Tryz.f6.params.toList Rows.rxtreeNotSpec.vars false (#[.string ByteArray.empty, .int .i32 0] : Array Value).toList 8 = some ([.lit (.string []), .lit (.int .i32 0)], [], places) :=
  ⟨[], by kernel_rfl⟩
set_option maxRecDepth 100000 in
theorem lifted (os : Os) (started : os.Started) (H : Type) (enc : TypeId × Value → H) (F : Stop.Interp) :
    ReturnsInHanded {} Tryz.checked os 6 .any ((Rows.OpenSpec.upto Rows.rxtreeNotSpec).preRow enc Tryz.prog Tryz.f6 Rows.rxtreeNotUptoRow.domain false Rows.rxtreeNotUptoRow.laid) (((Rows.OpenSpec.upto Rows.rxtreeNotSpec).at F).post enc Tryz.prog Tryz.f6 false true false false) := by
  obtain ⟨places, hx⟩ := reads os enc
  refine returnsInHanded_of_row (C := Tryz.checked) (s := (Rows.OpenSpec.upto Rows.rxtreeNotSpec)) own started (by kernel_rfl) Tryz.func6
    (witness_row_at (enc := enc) (C := Tryz.checked) false (tI os) #[.string ByteArray.empty, .int .i32 0] rfl (by kernel_rfl) (by kernel_rfl) (by kernel_rfl)
      (OpenSpec.preRow_of_cond 8 hx (by kernel_rfl) (fun k hk => by cases hk; kernel_rfl) (by kernel_rfl) (MA os))) ?_
  intro W base args ds gs before hval hW _ hk hsz hL hsh _
  exact NE H enc W base args ds gs before hval hW (hk _ rfl) hsz (gw_of hL hsh)
theorem said : Rows.RxtreeNotUptoSaid :=
  OpenClaim.holds_of_cond 6 Tryz.f6 rfl rfl rfl rfl rfl rfl rfl ⟨rfl, rfl, rfl, rfl, rfl⟩ rfl rfl rfl rfl rfl (by kernel_rfl) Tryz.func6 (by kernel_rfl)
    (of_decide_eq_true (by kernel_rfl)) (by unfold Func.isWrapper; first | (rw [if_pos (by decide +kernel)]; kernel_rfl) | (rw [if_neg (by decide +kernel)]; exact ⟨rfl, rfl⟩))
    (fun os started H enc _ F => by rw [OpenClaim.pre_eq_preRow]; exact lifted os started H enc F)
theorem plain (f : FuncId) (fn : Func) (hf : Tryz.pinned.checked.prog.funcNamed "weir/weirlaw08.RxtreeNot" = some f) (hfn : Tryz.pinned.checked.prog.funcs[f]? = some fn) :
    true = Tryz.pinned.checked.prog.looks [] ∧ ∀ (j : Nat) t, fn.params[j]? = some t → Tryz.pinned.checked.prog.wantsStandIn t = false := by
  obtain rfl : f = 6 := Option.some.inj ((show Tryz.prog.funcNamed "weir/weirlaw08.RxtreeNot" = some 6 by kernel_rfl).symm.trans hf) |>.symm
  obtain rfl : fn = Tryz.f6 := (Option.some.inj (Tryz.func6.symm.trans hfn)).symm
  refine ⟨LY, fun j t ht => ?_⟩
  rw [Tryz.params6] at ht
  rcases j with _ | _ | j
  · obtain rfl : t = 9 := by simpa using ht.symm
    exact (show Tryz.prog.wantsStandIn 9 = false by kernel_rfl)
  · obtain rfl : t = 21 := by simpa using ht.symm
    exact (show Tryz.prog.wantsStandIn 21 = false by kernel_rfl)
  · simp at ht
theorem rxtreeNot_card : Rows.RxtreeNotUptoCardSaid :=
  Claim7.holds_tied_plain_at .later [] _ _ _ _ said (fun _ h => by cases h) (by kernel_rfl) (fun _ h => by cases h) rxtreeNotUpto_row_tie rfl ⟨rfl, rfl⟩ (by kernel_rfl) rfl plain (by kernel_rfl)
#print axioms rxtreeNot_card
end Go.Proofs.YtljadkcojnlioaaGreatDoor
