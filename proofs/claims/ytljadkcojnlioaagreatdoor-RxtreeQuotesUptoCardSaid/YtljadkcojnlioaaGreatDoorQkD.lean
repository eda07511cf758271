/- Quotes: part 4 of 6 of what the law rests on. -/
import Derived.Test.YtljadkcojnlioaaGreatDoorQkC
set_option linter.unusedSectionVars false
set_option linter.unusedSimpArgs false
set_option linter.unusedVariables false
namespace Go.Proofs.YtljadkcojnlioaaGreatDoor
open Go.Proofs
open Go.W Go.RowKit
attribute [local irreducible] Decidable.decide
theorem kZ : eT Tryz.prog 100 := ⟨_, Tryz.func100, by kernel_rfl, by kernel_rfl⟩
theorem sW : eT Tryz.prog 101 := ⟨_, Tryz.func101, by kernel_rfl, by kernel_rfl⟩
theorem cX : eT Tryz.prog 102 := ⟨_, Tryz.func102, by kernel_rfl, by kernel_rfl⟩
theorem BC : eT Tryz.prog 123 := ⟨_, Tryz.func123, by kernel_rfl, by kernel_rfl⟩
theorem cA : eT Tryz.prog 49 := ⟨_, Tryz.func49, by kernel_rfl, by kernel_rfl⟩
theorem kQ : eT Tryz.prog 99 := ⟨_, Tryz.func99, by kernel_rfl, by kernel_rfl⟩
structure Gw (w : World) : Prop where
  glb : Glb w
  t64 : Tab64 w
  t10 : Lib.TabIs Tryz.prog w "internal/strconv.uint64pow10" .u64 Lib.pow10Tab
theorem IP {w w' : World} {nm : String} {k : IntKind} {zs : List Int} (h : Lib.TabIs Tryz.prog w nm k zs) (he : Evo [] w w') : Lib.TabIs Tryz.prog w' nm k zs := by
  unfold Lib.TabIs World.var? at h ⊢
  cases hg : Tryz.prog.globalNamed nm with
  | none => rw [hg] at h; exact absurd h (by simp)
  | some g =>
    rw [hg] at h
    simp only [Option.bind_eq_bind, Option.bind_some] at h ⊢
    cases hb : w.heap[g]? with
    | none => rw [hb] at h; exact absurd h (by simp)
    | some o => rw [he.block g (fM hb) (by simp), ]; exact h
theorem Gw.evo0 {w w' : World} (h : Gw w) (he : Evo [] w w') : Gw w' := ⟨h.glb.evo he (by simp), h.t64.evo he (by simp), IP h.t10 he⟩
theorem NP (w : World) (k : Nat) (os : Array Obj) : Evo [] w (Sort.grow (w.drewN k) os) := by
  refine ⟨rfl, rfl, rfl, ?_, fun b hb hx => ?_⟩
  · simp [Sort.grow]
  · simp only [Sort.grow]
    rw [Array.getElem?_append_left (by simpa using hb)]
    rfl
theorem fB {w : World} (hG : Gw w) (n : Int) (h0 : 0 ≤ n) (h1 : n ≤ 1000000) : Calls Tryz.prog 102 #[.int .i64 n] w (Ret fun v w' => v = .string (bstr (jA n.toNat)) ∧ Evo [] w w') := by
  refine (sH n (by omega) (by omega) w hG.t10).mono ?_
  rintro e w' ⟨rfl, k, os, rfl⟩
  refine ⟨_, rfl, ?_, NP w k os⟩
  rw [jA, GL, Lib.itoa, if_neg (by omega)]
theorem dC {w w1 : World} {o o1 o2 : Option Nat} (h : o1 = o ∨ ∃ g, o1 = some g ∧ w.heap.size ≤ g) (h2 : o2 = o1 ∨ ∃ g, o2 = some g ∧ w1.heap.size ≤ g) (hw : w.heap.size ≤ w1.heap.size) : o2 = o ∨ ∃ g, o2 = some g ∧ w.heap.size ≤ g := by
  rcases h2 with rfl | ⟨g, rfl, hg⟩
  · exact h
  · exact .inr ⟨g, rfl, Nat.le_trans hw hg⟩
theorem dD {w : World} {b : Nat} {o o1 : Option Nat} (h : o1 = o ∨ ∃ g, o1 = some g ∧ w.heap.size ≤ g) : ∀ y, y ∈ b :: o1.toList → y ∈ b :: o.toList ∨ w.heap.size ≤ y := fun y hy => by
  rcases h with rfl | ⟨g, rfl, hg⟩
  · exact .inl hy
  · rcases List.mem_cons.1 hy with rfl | hy
    · exact .inl (List.mem_cons_self ..)
    · rw [List.mem_singleton.1 hy]; exact .inr hg
theorem gX {w0 : World} {b : Nat} {o : Option Nat} (hub : w0.heap.size ≤ b) (h : Ge w0 o) : ∀ y, y ∈ b :: o.toList → y ∈ ([] : List Nat) ∨ w0.heap.size ≤ y := fun y hy => by
  rcases List.mem_cons.1 hy with rfl | hy
  · exact .inr hub
  · cases o with
    | none => cases hy
    | some g => rw [List.mem_singleton.1 hy]; exact .inr (h g rfl)
theorem mB {q b : Nat} {o : Option Nat} (h1 : Apart (some q) (some b)) (h2 : Apart (some q) o) : q ∉ b :: o.toList := fun h => by
  rcases List.mem_cons.1 h with rfl | h
  · exact h1 q rfl rfl
  · exact h2.nmem h
theorem eK {w w1 : World} {b : Nat} {L l X : List Nat} {ob ob1 : Option Nat} (h : BdN w1 b L ob1) (e : L = l ++ X) (hE : Evo (b :: ob.toList) w w1) (hN : ob1 = ob ∨ ∃ g, ob1 = some g ∧ w.heap.size ≤ g) : Wr w b (l ++ X) ob w1 := ⟨ob1, e ▸ h, hE, hN⟩
theorem bap (a b : List Nat) : bstr a ++ bstr b = bstr (a ++ b) := by
  apply ByteArray.ext; simp [bstr]
theorem bsz (l : List Nat) : (bstr l).size = l.length := by simp [bstr, ByteArray.size]
theorem cE {l : List Nat} (h : l.all (fun b => decide (b < 256)) = true) : Lo l := fun b hb => by have := List.all_eq_true.1 h b hb; exact of_decide_eq_true this
theorem kL {w0 w : World} {b : Nat} {l : List Nat} {ob : Option Nat} {c : Int} (hG : Gw w0) (hE0 : Evo [] w0 w) (hub : w0.heap.size ≤ b) (huo : Ge w0 ob) (h : BdN w b l ob) (hl : l.length ≤ 90000000) (h0 : 0 ≤ c) (h1 : c ≤ 1114111) :
    Calls Tryz.prog 99 #[.pointer (some ⟨b, 0, none⟩), .int .i32 c] w (Ret fun v w' => Wr w b (l ++ FP c) ob w') := by
  obtain ⟨n, rfl⟩ : ∃ n : Nat, c = (n : Int) := ⟨c.toNat, by omega⟩; obtain ⟨hxw1, hxw⟩ := zL h0 h1
  have hlen := (zN 7 n (by show n < 4294967296; omega)).1
  refine bO (N := 11) Tryz.func99 rfl rfl rfl ?_; refine aB (aG (aG ?_))
  refine aC rfl (fP n rfl Tryz.underlying21 Tryz.underlying2 rfl (by show ((n : Nat) : Int) ≤ 9223372036854775807; omega)) ?_
  refine aN (vs := [_, _]) BC rfl (NE (hG.evo0 hE0).t64 n (by show n < 4294967296; omega)) rfl ?_
  rintro _ w1 ⟨rfl, hw2⟩; have hE3 := (Evo.refl (b :: ob.toList) w).then hw2; have hF5 := h.evo0 hw2
  refine aC rfl (cS rfl rfl (by rw [bsz]; show 3 + _ ≤ _; omega)) ?_
  rw [show ByteArray.mk #[92, 120, 123] = bstr [92, 120, 123] from by decide +kernel, bap]
  refine aC rfl (cS rfl rfl (by rw [bsz]; show _ + 1 ≤ _; simp; omega)) ?_
  rw [show ByteArray.mk #[125] = bstr [125] from by decide +kernel, bap]; refine aN (vs := [_, _]) cA rfl (cY hF5 (m := FP (n : Int)) rfl hxw (by omega) (by omega)) rfl ?_; rintro _ w6 ⟨obw1, hBDw1, hw7, hnb1⟩; have hV9 := hE3; have hN1 := dC (Or.inl rfl) hnb1 hV9.size; have hE8 := hE3.step hw7 (dD (Or.inl rfl)); refine aD (cG rfl ?_); exact eK hBDw1 (rfl) hE8 hN1
theorem KM : ∀ m, m < 128 → (0 ≤ Lib.indexByte (ByteArray.mk #[92, 46, 43, 42, 63, 40, 41, 124, 91, 93, 123, 125, 94, 36]).data.toList (UInt8.ofNat m) ↔ m ∈ spec) := by decide +kernel
theorem BT {w : World} (m : Nat) (hm : m < 128) : Calls Tryz.prog 41 #[.string (ByteArray.mk #[92, 46, 43, 42, 63, 40, 41, 124, 91, 93, 123, 125, 94, 36]), .int .u8 (m : Nat)] w (Ret fun v w' => ∃ z, v = .int .i64 z ∧ (0 ≤ z ↔ m ∈ spec) ∧ Evo [] w w') := by
  refine (jM _ _ w).mono ?_
  rintro e w' ⟨rfl, rfl⟩
  refine ⟨_, rfl, _, rfl, ?_, Evo.refl _ _⟩
  rw [← KM m hm]
  simp
theorem tV {w0 w : World} {b : Nat} {l : List Nat} {ob : Option Nat} {c : Int} (hG : Gw w0) (hE0 : Evo [] w0 w) (hub : w0.heap.size ≤ b) (huo : Ge w0 ob) (h : BdN w b l ob) (hl : l.length ≤ 90000000) (h0 : 0 ≤ c) (h1 : c ≤ 1114111) :
    Calls Tryz.prog 101 #[.pointer (some ⟨b, 0, none⟩), .int .i32 c] w (Ret fun v w' => Wr w b (l ++ sD c) ob w') := by
  obtain ⟨n, rfl⟩ : ∃ n : Nat, c = (n : Int) := ⟨c.toNat, by omega⟩; refine bO (N := 21) Tryz.func101 rfl rfl rfl ?_; refine aE (aE (aB (aG (aC rfl (dH rfl rfl) ?_)))); refine aG (aX (t := 6) rfl (fun hs6 => ?_) (fun hs6 => ?_))
  ·skip
   refine aR (aG (aR ?_))
   refine aC rfl (fP n rfl Tryz.underlying21 Tryz.underlying5 rfl (by show ((n : Nat) : Int) ≤ 255; omega)) ?_
   refine aR (aN (vs := [_]) mK rfl (uS n) rfl ?_); rintro _ w1 ⟨rfl, hw2⟩; have hE3 := (Evo.refl (b :: ob.toList) w).then hw2; have hE4 := hE0.then hw2; have hF5 := h.evo0 hw2; refine bL (aG (aX (t := 11) rfl (fun hs11 => ?_) (fun hs11 => ?_)))
   ·skip
    refine aR (aG (aR (aC rfl (gA rfl rfl) ?_))); refine bL (aD (aA (bI rfl (fun hc14 => ?_) (fun hc14 => ?_))))
    ·skip
     refine aE (aB (aG (aG ?_)))
     refine aN (vs := [_, _]) kZ rfl (kS hF5 (by unfold IsR; omega) (by omega)) rfl ?_
     rintro _ w6 ⟨obw1, hBDw1, hw7, hnb1⟩; have hV9 := hE3; have hV90 := hE4; have hN1 := dC (Or.inl rfl) hnb1 hV9.size; have hU1 := dT huo hV90.size hnb1; have hE8 := hE3.step hw7 (dD (Or.inl rfl)); refine aD (aA (aO (aP (tP rfl ?_))))
     exact eK hBDw1 (by rw [sD, if_pos (show GG (n : Int) from ⟨by omega, by rw [Int.toNat_natCast]; exact hs11, by omega⟩)]) hE8 hN1
    refine aW (aA (aB (aG (aG (aN (vs := [_, _]) kQ rfl (kL hG hE4 hub huo hF5 hl h0 h1) rfl ?_))))); rintro _ w10 ⟨obw1, hBDw1, hw11, hnb1⟩; have hV9 := hE3; have hV90 := hE4; have hN1 := dC (Or.inl rfl) hnb1 hV9.size; have hU1 := dT huo hV90.size hnb1; have hE12 := hE3.step hw11 (dD (Or.inl rfl)); refine aD (cG rfl ?_)
    exact eK hBDw1 (by rw [sD, if_neg (fun hq : GG (n : Int) => by obtain ⟨q1, q2, q3⟩ := hq; rw [Int.toNat_natCast] at q2; first | omega | exact hs11 q2 | exact hs6 q2)]) hE12 hN1
   refine aH (aH (aU (aD (aA (cK rfl ?_))))); refine aW (aA (aB (aG (aG (aN (vs := [_, _]) kQ rfl (kL hG hE4 hub huo hF5 hl h0 h1) rfl ?_))))); rintro _ w14 ⟨obw1, hBDw1, hw15, hnb1⟩; have hV9 := hE3; have hV90 := hE4; have hN1 := dC (Or.inl rfl) hnb1 hV9.size; have hU1 := dT huo hV90.size hnb1; have hE16 := hE3.step hw15 (dD (Or.inl rfl)); refine aD (cG rfl ?_)
   exact eK hBDw1 (by rw [sD, if_neg (fun hq : GG (n : Int) => by obtain ⟨q1, q2, q3⟩ := hq; rw [Int.toNat_natCast] at q2; first | omega | exact hs11 q2 | exact hs6 q2)]) hE16 hN1
  refine aH (aH (aH (aU (aG (aH (aH (aU (aD (aA (cK rfl ?_)))))))))); refine aW (aA (aB (aG (aG (aN (vs := [_, _]) kQ rfl (kL hG hE0 hub huo h hl h0 h1) rfl ?_))))); rintro _ w18 ⟨obw1, hBDw1, hw19, hnb1⟩; have hV9 := (Evo.refl (b :: ob.toList) w); have hV90 := hE0; have hN1 := dC (Or.inl rfl) hnb1 hV9.size; have hU1 := dT huo hV90.size hnb1; have hE20 := (Evo.refl (b :: ob.toList) w).step hw19 (dD (Or.inl rfl)); refine aD (cG rfl ?_)
  exact eK hBDw1 (by rw [sD, if_neg (fun hq : GG (n : Int) => by obtain ⟨q1, q2, q3⟩ := hq; rw [Int.toNat_natCast] at q2; first | omega | exact hs11 q2 | exact hs6 q2)]) hE20 hN1
theorem BN {w0 w : World} {b : Nat} {l : List Nat} {ob : Option Nat} {c : Int} (hG : Gw w0) (hE0 : Evo [] w0 w) (hub : w0.heap.size ≤ b) (huo : Ge w0 ob) (h : BdN w b l ob) (hl : l.length ≤ 90000000) (h0 : 0 ≤ c) (h1 : c ≤ 1114111) :
    Calls Tryz.prog 72 #[.pointer (some ⟨b, 0, none⟩), .int .i32 c] w (Ret fun v w' => Wr w b (l ++ pQ c) ob w') := by
  obtain ⟨n, rfl⟩ : ∃ n : Nat, c = (n : Int) := ⟨c.toNat, by omega⟩; refine bO (N := 39) Tryz.func72 rfl rfl rfl ?_; refine bT (aE (aB (aG (aC rfl (dH rfl rfl) ?_)))); refine aG (aX (t := 10) rfl (fun hs10 => ?_) (fun hs10 => ?_))
  ·skip
   refine aH (aH (bL (aG (aH (aH (aH (fG ?_))))))); refine fG ?_; refine aH (bL (aM (aD (aA (dA rfl ?_))))); refine aB (aG (aG (aN (vs := [_, _]) kQ rfl (kL hG hE0 hub huo h hl h0 h1) rfl ?_))); rintro _ w1 ⟨obw1, hBDw1, hw2, hnb1⟩; have hV9 := (Evo.refl (b :: ob.toList) w); have hV90 := hE0; have hN1 := dC (Or.inl rfl) hnb1 hV9.size; have hU1 := dT huo hV90.size hnb1; have hE3 := (Evo.refl (b :: ob.toList) w).step hw2 (dD (Or.inl rfl)); refine aD (aZ (cG rfl ?_))
   exact eK hBDw1 (by rw [pQ, if_pos (show Odd (n : Int) from by unfold Odd; omega)]) hE3 hN1
  refine aR (aG (aR (aC rfl (bF rfl rfl) ?_))); refine aU (aG (aX (t := 14) rfl (fun hs14 => ?_) (fun hs14 => ?_)))
  ·skip
   refine aH (aH (aH (fG ?_))); refine fG ?_; refine aH (bL (aM (aD (aA (dA rfl ?_))))); refine aB (aG (aG (aN (vs := [_, _]) kQ rfl (kL hG hE0 hub huo h hl h0 h1) rfl ?_))); rintro _ w5 ⟨obw1, hBDw1, hw6, hnb1⟩; have hV9 := (Evo.refl (b :: ob.toList) w); have hV90 := hE0; have hN1 := dC (Or.inl rfl) hnb1 hV9.size; have hU1 := dT huo hV90.size hnb1; have hE7 := (Evo.refl (b :: ob.toList) w).step hw6 (dD (Or.inl rfl)); refine aD (aZ (cG rfl ?_))
   exact eK hBDw1 (by rw [pQ, if_pos (show Odd (n : Int) from by unfold Odd; omega)]) hE7 hN1
  refine aR (aG (aR (aC rfl (fU rfl rfl) ?_))); refine aR (aG (aX (t := 17) rfl (fun hs17 => ?_) (fun hs17 => ?_)))
  ·skip
   refine aR (aG (aR (aC rfl (gI rfl rfl) ?_))); refine aR (bL (aU (aM (aD (aA (bI rfl (fun hc7 => ?_) (fun hc7 => ?_)))))))
   ·skip
    refine aB (aG (aG (aN (vs := [_, _]) kQ rfl (kL hG hE0 hub huo h hl h0 h1) rfl ?_))); rintro _ w9 ⟨obw1, hBDw1, hw10, hnb1⟩; have hV9 := (Evo.refl (b :: ob.toList) w); have hV90 := hE0; have hN1 := dC (Or.inl rfl) hnb1 hV9.size; have hU1 := dT huo hV90.size hnb1; have hE11 := (Evo.refl (b :: ob.toList) w).step hw10 (dD (Or.inl rfl)); refine aD (aZ (cG rfl ?_))
    exact eK hBDw1 (by rw [pQ, if_pos (show Odd (n : Int) from by unfold Odd; omega)]) hE11 hN1
   refine aE ?_
   have hOdd : ¬ Odd (n : Int) := by unfold Odd; omega
   have hIR : IsR (n : Int) := by unfold IsR; omega
   refine aB (aG (aC rfl (dH rfl rfl) ?_)); refine aG (aX (t := 28) rfl (fun hs28 => ?_) (fun hs28 => ?_))
   ·skip
    refine aR (aG (aR ?_))
    refine aC rfl (fP n rfl Tryz.underlying21 Tryz.underlying5 rfl (by show ((n : Nat) : Int) ≤ 255; omega)) ?_
    refine aR ?_; refine aN (vs := [_, _]) nR rfl (BT n (by omega)) rfl ?_; rintro _ w13 ⟨z, rfl, hz, hw14⟩; have hE15 := (Evo.refl (b :: ob.toList) w).then hw14; have hE16 := hE0.then hw14; have hF17 := h.evo0 hw14; refine aR (aC rfl (fU rfl rfl) ?_); refine bL (aM (aD (aA (bI rfl (fun hc25 => ?_) (fun hc25 => ?_)))))
    ·skip
     refine aB (aG (aG (aC rfl (wK rfl Tryz.underlying21 Tryz.underlying9) ?_))); rw [DF hIR, kJ hIR, show gT n = [n] by rw [gT, if_pos (by omega)]]
     refine aC rfl (cS rfl rfl (by rw [bsz]; show 1 + 1 ≤ _; omega)) ?_
     rw [show ByteArray.mk #[92] = bstr [92] from by decide +kernel, bap]
     refine aN (vs := [_, _]) cA rfl (cY hF17 (m := [92, n]) rfl (fun x hx => by simp at hx; omega) (by first | omega | (simp only [List.length_append]; omega)) (by simp only [List.length_append, List.length_cons, List.length_nil]; omega)) rfl ?_
     rintro _ w18 ⟨obw1, hBDw1, hw19, hnb1⟩; have hV9 := hE15; have hV90 := hE16; have hN1 := dC (Or.inl rfl) hnb1 hV9.size; have hU1 := dT huo hV90.size hnb1; have hE20 := hE15.step hw19 (dD (Or.inl rfl)); refine aD (aZ (cG rfl ?_))
     exact eK hBDw1 (by rw [pQ, if_neg hOdd, if_pos ⟨by omega, by rw [Int.toNat_natCast]; exact hz.1 (by omega)⟩]; rfl) hE20 hN1
    refine aB (aG (aG ?_)); refine aN (vs := [_, _]) kZ rfl (kS hF17 hIR (by omega)) rfl ?_; rintro _ w22 ⟨obw1, hBDw1, hw23, hnb1⟩; have hV9 := hE15; have hV90 := hE16; have hN1 := dC (Or.inl rfl) hnb1 hV9.size; have hU1 := dT huo hV90.size hnb1; have hE24 := hE15.step hw23 (dD (Or.inl rfl)); refine aD (aZ (cG rfl ?_))
    exact eK hBDw1 (by rw [pQ, if_neg hOdd, if_neg (fun hq => by obtain ⟨q1, q2⟩ := hq; rw [Int.toNat_natCast] at q2; first | omega | (have h8 := hz.2 q2; omega))]) hE24 hN1
   refine aH (aH (aH (aH (aU (aM (aD (aA (cK rfl ?_)))))))); refine aB (aG (aG ?_)); refine aN (vs := [_, _]) kZ rfl (kS h hIR (by omega)) rfl ?_; rintro _ w26 ⟨obw1, hBDw1, hw27, hnb1⟩; have hV9 := (Evo.refl (b :: ob.toList) w); have hV90 := hE0; have hN1 := dC (Or.inl rfl) hnb1 hV9.size; have hU1 := dT huo hV90.size hnb1; have hE28 := (Evo.refl (b :: ob.toList) w).step hw27 (dD (Or.inl rfl)); refine aD (aZ (cG rfl ?_))
   exact eK hBDw1 (by rw [pQ, if_neg hOdd, if_neg (fun hq => by obtain ⟨q1, q2⟩ := hq; rw [Int.toNat_natCast] at q2; first | omega | (have h8 := hz.2 q2; omega))]) hE28 hN1
  refine aH (aH (aR (aU (aU (aM (aD (aA (cK rfl ?_)))))))); refine aE ?_
  have hOdd : ¬ Odd (n : Int) := by unfold Odd; omega
  have hIR : IsR (n : Int) := by unfold IsR; omega
  refine aB (aG (aC rfl (dH rfl rfl) ?_)); refine aG (aX (t := 28) rfl (fun hs28 => ?_) (fun hs28 => ?_))
  ·skip
   refine aR (aG (aR ?_))
   refine aC rfl (fP n rfl Tryz.underlying21 Tryz.underlying5 rfl (by show ((n : Nat) : Int) ≤ 255; omega)) ?_
   refine aR ?_; refine aN (vs := [_, _]) nR rfl (BT n (by omega)) rfl ?_; rintro _ w30 ⟨z, rfl, hz, hw31⟩; have hE32 := (Evo.refl (b :: ob.toList) w).then hw31; have hE33 := hE0.then hw31; have hF34 := h.evo0 hw31; refine aR (aC rfl (fU rfl rfl) ?_); refine bL (aM (aD (aA (bI rfl (fun hc25 => ?_) (fun hc25 => ?_)))))
   ·skip
    refine aB (aG (aG (aC rfl (wK rfl Tryz.underlying21 Tryz.underlying9) ?_))); rw [DF hIR, kJ hIR, show gT n = [n] by rw [gT, if_pos (by omega)]]
    refine aC rfl (cS rfl rfl (by rw [bsz]; show 1 + 1 ≤ _; omega)) ?_
    rw [show ByteArray.mk #[92] = bstr [92] from by decide +kernel, bap]
    refine aN (vs := [_, _]) cA rfl (cY hF34 (m := [92, n]) rfl (fun x hx => by simp at hx; omega) (by first | omega | (simp only [List.length_append]; omega)) (by simp only [List.length_append, List.length_cons, List.length_nil]; omega)) rfl ?_
    rintro _ w35 ⟨obw1, hBDw1, hw36, hnb1⟩; have hV9 := hE32; have hV90 := hE33; have hN1 := dC (Or.inl rfl) hnb1 hV9.size; have hU1 := dT huo hV90.size hnb1; have hE37 := hE32.step hw36 (dD (Or.inl rfl)); refine aD (aZ (cG rfl ?_))
    exact eK hBDw1 (by rw [pQ, if_neg hOdd, if_pos ⟨by omega, by rw [Int.toNat_natCast]; exact hz.1 (by omega)⟩]; rfl) hE37 hN1
   refine aB (aG (aG ?_)); refine aN (vs := [_, _]) kZ rfl (kS hF34 hIR (by omega)) rfl ?_; rintro _ w39 ⟨obw1, hBDw1, hw40, hnb1⟩; have hV9 := hE32; have hV90 := hE33; have hN1 := dC (Or.inl rfl) hnb1 hV9.size; have hU1 := dT huo hV90.size hnb1; have hE41 := hE32.step hw40 (dD (Or.inl rfl)); refine aD (aZ (cG rfl ?_))
   exact eK hBDw1 (by rw [pQ, if_neg hOdd, if_neg (fun hq => by obtain ⟨q1, q2⟩ := hq; rw [Int.toNat_natCast] at q2; first | omega | (have h8 := hz.2 q2; omega))]) hE41 hN1
  refine aH (aH (aH (aH (aU (aM (aD (aA (cK rfl ?_)))))))); refine aB (aG (aG ?_)); refine aN (vs := [_, _]) kZ rfl (kS h hIR (by omega)) rfl ?_; rintro _ w43 ⟨obw1, hBDw1, hw44, hnb1⟩; have hV9 := (Evo.refl (b :: ob.toList) w); have hV90 := hE0; have hN1 := dC (Or.inl rfl) hnb1 hV9.size; have hU1 := dT huo hV90.size hnb1; have hE45 := (Evo.refl (b :: ob.toList) w).step hw44 (dD (Or.inl rfl)); refine aD (aZ (cG rfl ?_))
  exact eK hBDw1 (by rw [pQ, if_neg hOdd, if_neg (fun hq => by obtain ⟨q1, q2⟩ := hq; rw [Int.toNat_natCast] at q2; first | omega | (have h8 := hz.2 q2; omega))]) hE45 hN1
theorem vD (n : Nat) (h : n ≤ 1000) : (jA n).length ≤ 4 := by
  have : ∀ n, n ≤ 1000 → (jA n).length ≤ 4 := by
    intro n h
    unfold jA
    rw [List.length_map]
    have hh : ∀ (f n : Nat), n < 10 ^ (f + 1) → (Lib.decDigits n).length ≤ f + 1 := by
      intro f
      induction f with
      | zero => intro n h; rw [Lib.decDigits, dif_pos (by simpa using h)]; simp
      | succ f ih =>
        intro n h
        rw [Lib.decDigits]
        split
        · simp
        · rw [List.length_append]
          have := ih (n / 10) (Nat.div_lt_of_lt_mul (by rw [Nat.mul_comm, ← Nat.pow_succ]; exact h))
          simp; omega
    exact hh 3 n (by show n < 10000; omega)
  exact this n h
theorem cN : ByteArray.mk #[123] = bstr [123] := by decide +kernel
theorem bR : ByteArray.mk #[44, 125] = bstr [44, 125] := by decide +kernel
theorem cM : ByteArray.mk #[125] = bstr [125] := by decide +kernel
theorem dP : ByteArray.mk #[44] = bstr [44] := by decide +kernel
theorem xD {w0 w : World} {b : Nat} {l : List Nat} {ob : Option Nat} {lo hi : Int} (hG : Gw w0) (hE0 : Evo [] w0 w) (hub : w0.heap.size ≤ b) (huo : Ge w0 ob) (h : BdN w b l ob) (hl : l.length ≤ 90000000) (h0 : 0 ≤ lo) (h1 : lo ≤ 1000) (h2 : hi = -1 ∨ (lo ≤ hi ∧ hi ≤ 1000)) :
    Calls Tryz.prog 75 #[.pointer (some ⟨b, 0, none⟩), .int .i64 lo, .int .i64 hi] w (Ret fun v w' => Wr w b (l ++ jO lo hi) ob w') := by
  have hd1 := vD lo.toNat (by omega); have hd2 : hi ≠ -1 → (jA hi.toNat).length ≤ 4 := fun h => vD hi.toNat (by omega); have hq1 := vE lo.toNat; have hq2 := vE hi.toNat; refine bO (N := 62) Tryz.func75 rfl rfl rfl ?_; refine bT (aE (aB (aG (aC rfl (bF rfl rfl) ?_)))); refine aG (aX (t := 19) rfl (fun hs19 => ?_) (fun hs19 => ?_))
  ·skip
   refine aR (aG (aR (aC rfl (bF rfl rfl) ?_))); refine bL (aM (aD (aA (bI rfl (fun hc16 => ?_) (fun hc16 => ?_)))))
   ·skip
    refine aB (aG ?_)
    refine aN (vs := [_, _]) cA rfl (cY h (m := [42]) (by decide +kernel) (cE (by decide +kernel)) (by first | omega | (simp only [List.length_append]; omega)) (by decide)) rfl ?_
    rintro _ w1 ⟨obw1, hBDw1, hw2, hnb1⟩; have hV9 := (Evo.refl (b :: ob.toList) w); have hV90 := hE0; have hN1 := dC (Or.inl rfl) hnb1 hV9.size; have hU1 := dT huo hV90.size hnb1; have hE3 := (Evo.refl (b :: ob.toList) w).step hw2 (dD (Or.inl rfl)); refine aD (aZ (cG rfl ?_))
    exact eK hBDw1 (by unfold jO; rw [if_pos (by omega)]) hE3 hN1
   refine aE (aB (aG (aC rfl (bF rfl rfl) ?_))); refine aG (aX (t := 28) rfl (fun hs28 => ?_) (fun hs28 => ?_))
   ·skip
    refine aR (aG (aR (aC rfl (bF rfl rfl) ?_))); refine bL (aM (aD (aA (bI rfl (fun hc25 => ?_) (fun hc25 => ?_)))))
    ·skip
     refine aB (aG ?_)
     refine aN (vs := [_, _]) cA rfl (cY h (m := [43]) (by decide +kernel) (cE (by decide +kernel)) (by first | omega | (simp only [List.length_append]; omega)) (by decide)) rfl ?_
     rintro _ w5 ⟨obw1, hBDw1, hw6, hnb1⟩; have hV9 := (Evo.refl (b :: ob.toList) w); have hV90 := hE0; have hN1 := dC (Or.inl rfl) hnb1 hV9.size; have hU1 := dT huo hV90.size hnb1; have hE7 := (Evo.refl (b :: ob.toList) w).step hw6 (dD (Or.inl rfl)); refine aD (aZ (cG rfl ?_))
     exact eK hBDw1 (by unfold jO; rw [if_neg (by omega), if_pos (by omega)]) hE7 hN1
    refine aE (aB (aG (aC rfl (bF rfl rfl) ?_))); refine aG (aX (t := 37) rfl (fun hs37 => ?_) (fun hs37 => ?_))
    ·skip
     refine aR (aG (aR (aC rfl (bF rfl rfl) ?_))); refine bL (aM (aD (aA (bI rfl (fun hc34 => ?_) (fun hc34 => ?_)))))
     ·skip
      refine aB (aG ?_)
      refine aN (vs := [_, _]) cA rfl (cY h (m := [63]) (by decide +kernel) (cE (by decide +kernel)) (by first | omega | (simp only [List.length_append]; omega)) (by decide)) rfl ?_
      rintro _ w9 ⟨obw1, hBDw1, hw10, hnb1⟩; have hV9 := (Evo.refl (b :: ob.toList) w); have hV90 := hE0; have hN1 := dC (Or.inl rfl) hnb1 hV9.size; have hU1 := dT huo hV90.size hnb1; have hE11 := (Evo.refl (b :: ob.toList) w).step hw10 (dD (Or.inl rfl)); refine aD (aZ (cG rfl ?_))
      exact eK hBDw1 (by unfold jO; rw [if_neg (by omega), if_neg (by omega), if_pos (by omega)]) hE11 hN1
     refine aE (aB (aG (aC rfl (bF rfl rfl) ?_))); refine aM (aD (aA (bI rfl (fun hc43 => ?_) (fun hc43 => ?_))))
     ·skip
      refine aB (aG (aG ?_)); refine aN (vs := [_]) cX rfl (fB (hG.evo0 hE0) lo (by omega) (by omega)) rfl ?_; rintro _ w13 ⟨rfl, hw14⟩; have hE15 := (Evo.refl (b :: ob.toList) w).then hw14; have hE16 := hE0.then hw14; have hF17 := h.evo0 hw14
      skip
      refine aC rfl (cS rfl rfl (by simp only [cN, bR, cM, dP, bap, bsz, List.length_append, List.length_cons, List.length_nil]; omega)) ?_
      simp only [cN, bR, cM, dP, bap]
      skip
      refine aC rfl (cS rfl rfl (by simp only [cN, bR, cM, dP, bap, bsz, List.length_append, List.length_cons, List.length_nil]; omega)) ?_
      simp only [cN, bR, cM, dP, bap]
      refine aN (vs := [_, _]) cA rfl (cY hF17 (m := [123] ++ jA lo.toNat ++ [44, 125]) rfl (((cE (by decide +kernel)).app hq1).app (cE (by decide +kernel))) (by first | omega | (simp only [List.length_append]; omega)) (by simp only [List.length_append, List.length_cons, List.length_nil]; omega)) rfl ?_
      rintro _ w18 ⟨obw1, hBDw1, hw19, hnb1⟩; have hV9 := hE15; have hV90 := hE16; have hN1 := dC (Or.inl rfl) hnb1 hV9.size; have hU1 := dT huo hV90.size hnb1; have hE20 := hE15.step hw19 (dD (Or.inl rfl)); refine aD (aZ (cG rfl ?_))
      exact eK hBDw1 (by unfold jO; rw [if_neg (by omega), if_neg (by omega), if_neg (by omega), if_pos (by omega)]) hE20 hN1
     refine aE (aB (aG (aG (aC rfl (bF rfl rfl) ?_)))); refine aM (aD (aA (bI rfl (fun hc52 => ?_) (fun hc52 => ?_))))
     ·skip
      refine aB (aG (aG ?_)); refine aN (vs := [_]) cX rfl (fB (hG.evo0 hE0) lo (by omega) (by omega)) rfl ?_; rintro _ w22 ⟨rfl, hw23⟩; have hE24 := (Evo.refl (b :: ob.toList) w).then hw23; have hE25 := hE0.then hw23; have hF26 := h.evo0 hw23
      skip
      refine aC rfl (cS rfl rfl (by simp only [cN, bR, cM, dP, bap, bsz, List.length_append, List.length_cons, List.length_nil]; omega)) ?_
      simp only [cN, bR, cM, dP, bap]
      skip
      refine aC rfl (cS rfl rfl (by simp only [cN, bR, cM, dP, bap, bsz, List.length_append, List.length_cons, List.length_nil]; omega)) ?_
      simp only [cN, bR, cM, dP, bap]
      refine aN (vs := [_, _]) cA rfl (cY hF26 (m := [123] ++ jA lo.toNat ++ [125]) rfl (((cE (by decide +kernel)).app hq1).app (cE (by decide +kernel))) (by first | omega | (simp only [List.length_append]; omega)) (by simp only [List.length_append, List.length_cons, List.length_nil]; omega)) rfl ?_
      rintro _ w27 ⟨obw1, hBDw1, hw28, hnb1⟩; have hV9 := hE24; have hV90 := hE25; have hN1 := dC (Or.inl rfl) hnb1 hV9.size; have hU1 := dT huo hV90.size hnb1; have hE29 := hE24.step hw28 (dD (Or.inl rfl)); refine aD (aZ (cG rfl ?_))
      exact eK hBDw1 (by unfold jO; rw [if_neg (by omega), if_neg (by omega), if_neg (by omega), if_neg (by omega), if_pos (by omega)]) hE29 hN1
     have hd3 := hd2 (by omega); refine aB (aG (aG ?_)); refine aN (vs := [_]) cX rfl (fB (hG.evo0 hE0) lo (by omega) (by omega)) rfl ?_; rintro _ w31 ⟨rfl, hw32⟩; have hE33 := (Evo.refl (b :: ob.toList) w).then hw32; have hE34 := hE0.then hw32; have hF35 := h.evo0 hw32
     skip
     refine aC rfl (cS rfl rfl (by simp only [cN, bR, cM, dP, bap, bsz, List.length_append, List.length_cons, List.length_nil]; omega)) ?_
     simp only [cN, bR, cM, dP, bap]
     skip
     refine aC rfl (cS rfl rfl (by simp only [cN, bR, cM, dP, bap, bsz, List.length_append, List.length_cons, List.length_nil]; omega)) ?_
     simp only [cN, bR, cM, dP, bap]; refine aG ?_; refine aN (vs := [_]) cX rfl (fB (hG.evo0 hE34) hi (by omega) (by omega)) rfl ?_; rintro _ w36 ⟨rfl, hw37⟩; have hE38 := hE33.then hw37; have hE39 := hE34.then hw37; have hF40 := hF35.evo0 hw37
     skip
     refine aC rfl (cS rfl rfl (by simp only [cN, bR, cM, dP, bap, bsz, List.length_append, List.length_cons, List.length_nil]; omega)) ?_
     simp only [cN, bR, cM, dP, bap]
     skip
     refine aC rfl (cS rfl rfl (by simp only [cN, bR, cM, dP, bap, bsz, List.length_append, List.length_cons, List.length_nil]; omega)) ?_
     simp only [cN, bR, cM, dP, bap]
     refine aN (vs := [_, _]) cA rfl (cY hF40 (m := [123] ++ jA lo.toNat ++ [44] ++ jA hi.toNat ++ [125]) rfl (((((cE (by decide +kernel)).app hq1).app (cE (by decide +kernel))).app hq2).app (cE (by decide +kernel))) (by first | omega | (simp only [List.length_append]; omega)) (by simp only [List.length_append, List.length_cons, List.length_nil]; omega)) rfl ?_
     rintro _ w41 ⟨obw1, hBDw1, hw42, hnb1⟩; have hV9 := hE38; have hV90 := hE39; have hN1 := dC (Or.inl rfl) hnb1 hV9.size; have hU1 := dT huo hV90.size hnb1; have hE43 := hE38.step hw42 (dD (Or.inl rfl)); refine aD (aZ (cG rfl ?_))
     exact eK hBDw1 (by unfold jO; rw [if_neg (by omega), if_neg (by omega), if_neg (by omega), if_neg (by omega), if_neg (by omega)]) hE43 hN1
    refine aH (aH (aU (aM (aD (aA (cK rfl ?_)))))); refine aE (aB (aG (aC rfl (bF rfl rfl) ?_))); refine aM (aD (aA (bI rfl (fun hc43 => ?_) (fun hc43 => ?_))))
    ·skip
     refine aB (aG (aG ?_)); refine aN (vs := [_]) cX rfl (fB (hG.evo0 hE0) lo (by omega) (by omega)) rfl ?_; rintro _ w45 ⟨rfl, hw46⟩; have hE47 := (Evo.refl (b :: ob.toList) w).then hw46; have hE48 := hE0.then hw46; have hF49 := h.evo0 hw46
     skip
     refine aC rfl (cS rfl rfl (by simp only [cN, bR, cM, dP, bap, bsz, List.length_append, List.length_cons, List.length_nil]; omega)) ?_
     simp only [cN, bR, cM, dP, bap]
     skip
     refine aC rfl (cS rfl rfl (by simp only [cN, bR, cM, dP, bap, bsz, List.length_append, List.length_cons, List.length_nil]; omega)) ?_
     simp only [cN, bR, cM, dP, bap]
     refine aN (vs := [_, _]) cA rfl (cY hF49 (m := [123] ++ jA lo.toNat ++ [44, 125]) rfl (((cE (by decide +kernel)).app hq1).app (cE (by decide +kernel))) (by first | omega | (simp only [List.length_append]; omega)) (by simp only [List.length_append, List.length_cons, List.length_nil]; omega)) rfl ?_
     rintro _ w50 ⟨obw1, hBDw1, hw51, hnb1⟩; have hV9 := hE47; have hV90 := hE48; have hN1 := dC (Or.inl rfl) hnb1 hV9.size; have hU1 := dT huo hV90.size hnb1; have hE52 := hE47.step hw51 (dD (Or.inl rfl)); refine aD (aZ (cG rfl ?_))
     exact eK hBDw1 (by unfold jO; rw [if_neg (by omega), if_neg (by omega), if_neg (by omega), if_pos (by omega)]) hE52 hN1
    refine aE (aB (aG (aG (aC rfl (bF rfl rfl) ?_)))); refine aM (aD (aA (bI rfl (fun hc52 => ?_) (fun hc52 => ?_))))
    ·skip
     refine aB (aG (aG ?_)); refine aN (vs := [_]) cX rfl (fB (hG.evo0 hE0) lo (by omega) (by omega)) rfl ?_; rintro _ w54 ⟨rfl, hw55⟩; have hE56 := (Evo.refl (b :: ob.toList) w).then hw55; have hE57 := hE0.then hw55; have hF58 := h.evo0 hw55
     skip
     refine aC rfl (cS rfl rfl (by simp only [cN, bR, cM, dP, bap, bsz, List.length_append, List.length_cons, List.length_nil]; omega)) ?_
     simp only [cN, bR, cM, dP, bap]
     skip
     refine aC rfl (cS rfl rfl (by simp only [cN, bR, cM, dP, bap, bsz, List.length_append, List.length_cons, List.length_nil]; omega)) ?_
     simp only [cN, bR, cM, dP, bap]
     refine aN (vs := [_, _]) cA rfl (cY hF58 (m := [123] ++ jA lo.toNat ++ [125]) rfl (((cE (by decide +kernel)).app hq1).app (cE (by decide +kernel))) (by first | omega | (simp only [List.length_append]; omega)) (by simp only [List.length_append, List.length_cons, List.length_nil]; omega)) rfl ?_
     rintro _ w59 ⟨obw1, hBDw1, hw60, hnb1⟩; have hV9 := hE56; have hV90 := hE57; have hN1 := dC (Or.inl rfl) hnb1 hV9.size; have hU1 := dT huo hV90.size hnb1; have hE61 := hE56.step hw60 (dD (Or.inl rfl)); refine aD (aZ (cG rfl ?_))
     exact eK hBDw1 (by unfold jO; rw [if_neg (by omega), if_neg (by omega), if_neg (by omega), if_neg (by omega), if_pos (by omega)]) hE61 hN1
    have hd3 := hd2 (by omega); refine aB (aG (aG ?_)); refine aN (vs := [_]) cX rfl (fB (hG.evo0 hE0) lo (by omega) (by omega)) rfl ?_; rintro _ w63 ⟨rfl, hw64⟩; have hE65 := (Evo.refl (b :: ob.toList) w).then hw64; have hE66 := hE0.then hw64; have hF67 := h.evo0 hw64
    skip
    refine aC rfl (cS rfl rfl (by simp only [cN, bR, cM, dP, bap, bsz, List.length_append, List.length_cons, List.length_nil]; omega)) ?_
    simp only [cN, bR, cM, dP, bap]
    skip
    refine aC rfl (cS rfl rfl (by simp only [cN, bR, cM, dP, bap, bsz, List.length_append, List.length_cons, List.length_nil]; omega)) ?_
    simp only [cN, bR, cM, dP, bap]; refine aG ?_; refine aN (vs := [_]) cX rfl (fB (hG.evo0 hE66) hi (by omega) (by omega)) rfl ?_; rintro _ w68 ⟨rfl, hw69⟩; have hE70 := hE65.then hw69; have hE71 := hE66.then hw69; have hF72 := hF67.evo0 hw69
    skip
    refine aC rfl (cS rfl rfl (by simp only [cN, bR, cM, dP, bap, bsz, List.length_append, List.length_cons, List.length_nil]; omega)) ?_
    simp only [cN, bR, cM, dP, bap]
    skip
    refine aC rfl (cS rfl rfl (by simp only [cN, bR, cM, dP, bap, bsz, List.length_append, List.length_cons, List.length_nil]; omega)) ?_
    simp only [cN, bR, cM, dP, bap]
    refine aN (vs := [_, _]) cA rfl (cY hF72 (m := [123] ++ jA lo.toNat ++ [44] ++ jA hi.toNat ++ [125]) rfl (((((cE (by decide +kernel)).app hq1).app (cE (by decide +kernel))).app hq2).app (cE (by decide +kernel))) (by first | omega | (simp only [List.length_append]; omega)) (by simp only [List.length_append, List.length_cons, List.length_nil]; omega)) rfl ?_
    rintro _ w73 ⟨obw1, hBDw1, hw74, hnb1⟩; have hV9 := hE70; have hV90 := hE71; have hN1 := dC (Or.inl rfl) hnb1 hV9.size; have hU1 := dT huo hV90.size hnb1; have hE75 := hE70.step hw74 (dD (Or.inl rfl)); refine aD (aZ (cG rfl ?_))
    exact eK hBDw1 (by unfold jO; rw [if_neg (by omega), if_neg (by omega), if_neg (by omega), if_neg (by omega), if_neg (by omega)]) hE75 hN1
   refine aH (aH (aU (aM (aD (aA (cK rfl ?_)))))); refine aE (aB (aG (aC rfl (bF rfl rfl) ?_))); refine aG (aX (t := 37) rfl (fun hs37 => ?_) (fun hs37 => ?_))
   ·skip
    refine aR (aG (aR (aC rfl (bF rfl rfl) ?_))); refine bL (aM (aD (aA (bI rfl (fun hc34 => ?_) (fun hc34 => ?_)))))
    ·skip
     refine aB (aG ?_)
     refine aN (vs := [_, _]) cA rfl (cY h (m := [63]) (by decide +kernel) (cE (by decide +kernel)) (by first | omega | (simp only [List.length_append]; omega)) (by decide)) rfl ?_
     rintro _ w77 ⟨obw1, hBDw1, hw78, hnb1⟩; have hV9 := (Evo.refl (b :: ob.toList) w); have hV90 := hE0; have hN1 := dC (Or.inl rfl) hnb1 hV9.size; have hU1 := dT huo hV90.size hnb1; have hE79 := (Evo.refl (b :: ob.toList) w).step hw78 (dD (Or.inl rfl)); refine aD (aZ (cG rfl ?_))
     exact eK hBDw1 (by unfold jO; rw [if_neg (by omega), if_neg (by omega), if_pos (by omega)]) hE79 hN1
    refine aE (aB (aG (aC rfl (bF rfl rfl) ?_))); refine aM (aD (aA (bI rfl (fun hc43 => ?_) (fun hc43 => ?_))))
    ·skip
     refine aB (aG (aG ?_)); refine aN (vs := [_]) cX rfl (fB (hG.evo0 hE0) lo (by omega) (by omega)) rfl ?_; rintro _ w81 ⟨rfl, hw82⟩; have hE83 := (Evo.refl (b :: ob.toList) w).then hw82; have hE84 := hE0.then hw82; have hF85 := h.evo0 hw82
     skip
     refine aC rfl (cS rfl rfl (by simp only [cN, bR, cM, dP, bap, bsz, List.length_append, List.length_cons, List.length_nil]; omega)) ?_
     simp only [cN, bR, cM, dP, bap]
     skip
     refine aC rfl (cS rfl rfl (by simp only [cN, bR, cM, dP, bap, bsz, List.length_append, List.length_cons, List.length_nil]; omega)) ?_
     simp only [cN, bR, cM, dP, bap]
     refine aN (vs := [_, _]) cA rfl (cY hF85 (m := [123] ++ jA lo.toNat ++ [44, 125]) rfl (((cE (by decide +kernel)).app hq1).app (cE (by decide +kernel))) (by first | omega | (simp only [List.length_append]; omega)) (by simp only [List.length_append, List.length_cons, List.length_nil]; omega)) rfl ?_
     rintro _ w86 ⟨obw1, hBDw1, hw87, hnb1⟩; have hV9 := hE83; have hV90 := hE84; have hN1 := dC (Or.inl rfl) hnb1 hV9.size; have hU1 := dT huo hV90.size hnb1; have hE88 := hE83.step hw87 (dD (Or.inl rfl)); refine aD (aZ (cG rfl ?_))
     exact eK hBDw1 (by unfold jO; rw [if_neg (by omega), if_neg (by omega), if_neg (by omega), if_pos (by omega)]) hE88 hN1
    refine aE (aB (aG (aG (aC rfl (bF rfl rfl) ?_)))); refine aM (aD (aA (bI rfl (fun hc52 => ?_) (fun hc52 => ?_))))
    ·skip
     refine aB (aG (aG ?_)); refine aN (vs := [_]) cX rfl (fB (hG.evo0 hE0) lo (by omega) (by omega)) rfl ?_; rintro _ w90 ⟨rfl, hw91⟩; have hE92 := (Evo.refl (b :: ob.toList) w).then hw91; have hE93 := hE0.then hw91; have hF94 := h.evo0 hw91
     skip
     refine aC rfl (cS rfl rfl (by simp only [cN, bR, cM, dP, bap, bsz, List.length_append, List.length_cons, List.length_nil]; omega)) ?_
     simp only [cN, bR, cM, dP, bap]
     skip
     refine aC rfl (cS rfl rfl (by simp only [cN, bR, cM, dP, bap, bsz, List.length_append, List.length_cons, List.length_nil]; omega)) ?_
     simp only [cN, bR, cM, dP, bap]
     refine aN (vs := [_, _]) cA rfl (cY hF94 (m := [123] ++ jA lo.toNat ++ [125]) rfl (((cE (by decide +kernel)).app hq1).app (cE (by decide +kernel))) (by first | omega | (simp only [List.length_append]; omega)) (by simp only [List.length_append, List.length_cons, List.length_nil]; omega)) rfl ?_
     rintro _ w95 ⟨obw1, hBDw1, hw96, hnb1⟩; have hV9 := hE92; have hV90 := hE93; have hN1 := dC (Or.inl rfl) hnb1 hV9.size; have hU1 := dT huo hV90.size hnb1; have hE97 := hE92.step hw96 (dD (Or.inl rfl)); refine aD (aZ (cG rfl ?_))
     exact eK hBDw1 (by unfold jO; rw [if_neg (by omega), if_neg (by omega), if_neg (by omega), if_neg (by omega), if_pos (by omega)]) hE97 hN1
    have hd3 := hd2 (by omega); refine aB (aG (aG ?_)); refine aN (vs := [_]) cX rfl (fB (hG.evo0 hE0) lo (by omega) (by omega)) rfl ?_; rintro _ w99 ⟨rfl, hw100⟩; have hE101 := (Evo.refl (b :: ob.toList) w).then hw100; have hE102 := hE0.then hw100; have hF103 := h.evo0 hw100
    skip
    refine aC rfl (cS rfl rfl (by simp only [cN, bR, cM, dP, bap, bsz, List.length_append, List.length_cons, List.length_nil]; omega)) ?_
    simp only [cN, bR, cM, dP, bap]
    skip
    refine aC rfl (cS rfl rfl (by simp only [cN, bR, cM, dP, bap, bsz, List.length_append, List.length_cons, List.length_nil]; omega)) ?_
    simp only [cN, bR, cM, dP, bap]; refine aG ?_; refine aN (vs := [_]) cX rfl (fB (hG.evo0 hE102) hi (by omega) (by omega)) rfl ?_; rintro _ w104 ⟨rfl, hw105⟩; have hE106 := hE101.then hw105; have hE107 := hE102.then hw105; have hF108 := hF103.evo0 hw105
    skip
    refine aC rfl (cS rfl rfl (by simp only [cN, bR, cM, dP, bap, bsz, List.length_append, List.length_cons, List.length_nil]; omega)) ?_
    simp only [cN, bR, cM, dP, bap]
    skip
    refine aC rfl (cS rfl rfl (by simp only [cN, bR, cM, dP, bap, bsz, List.length_append, List.length_cons, List.length_nil]; omega)) ?_
    simp only [cN, bR, cM, dP, bap]
    refine aN (vs := [_, _]) cA rfl (cY hF108 (m := [123] ++ jA lo.toNat ++ [44] ++ jA hi.toNat ++ [125]) rfl (((((cE (by decide +kernel)).app hq1).app (cE (by decide +kernel))).app hq2).app (cE (by decide +kernel))) (by first | omega | (simp only [List.length_append]; omega)) (by simp only [List.length_append, List.length_cons, List.length_nil]; omega)) rfl ?_
    rintro _ w109 ⟨obw1, hBDw1, hw110, hnb1⟩; have hV9 := hE106; have hV90 := hE107; have hN1 := dC (Or.inl rfl) hnb1 hV9.size; have hU1 := dT huo hV90.size hnb1; have hE111 := hE106.step hw110 (dD (Or.inl rfl)); refine aD (aZ (cG rfl ?_))
    exact eK hBDw1 (by unfold jO; rw [if_neg (by omega), if_neg (by omega), if_neg (by omega), if_neg (by omega), if_neg (by omega)]) hE111 hN1
   refine aH (aH (aU (aM (aD (aA (cK rfl ?_)))))); refine aE (aB (aG (aC rfl (bF rfl rfl) ?_))); refine aM (aD (aA (bI rfl (fun hc43 => ?_) (fun hc43 => ?_))))
   ·skip
    refine aB (aG (aG ?_)); refine aN (vs := [_]) cX rfl (fB (hG.evo0 hE0) lo (by omega) (by omega)) rfl ?_; rintro _ w113 ⟨rfl, hw114⟩; have hE115 := (Evo.refl (b :: ob.toList) w).then hw114; have hE116 := hE0.then hw114; have hF117 := h.evo0 hw114
    skip
    refine aC rfl (cS rfl rfl (by simp only [cN, bR, cM, dP, bap, bsz, List.length_append, List.length_cons, List.length_nil]; omega)) ?_
    simp only [cN, bR, cM, dP, bap]
    skip
    refine aC rfl (cS rfl rfl (by simp only [cN, bR, cM, dP, bap, bsz, List.length_append, List.length_cons, List.length_nil]; omega)) ?_
    simp only [cN, bR, cM, dP, bap]
    refine aN (vs := [_, _]) cA rfl (cY hF117 (m := [123] ++ jA lo.toNat ++ [44, 125]) rfl (((cE (by decide +kernel)).app hq1).app (cE (by decide +kernel))) (by first | omega | (simp only [List.length_append]; omega)) (by simp only [List.length_append, List.length_cons, List.length_nil]; omega)) rfl ?_
    rintro _ w118 ⟨obw1, hBDw1, hw119, hnb1⟩; have hV9 := hE115; have hV90 := hE116; have hN1 := dC (Or.inl rfl) hnb1 hV9.size; have hU1 := dT huo hV90.size hnb1; have hE120 := hE115.step hw119 (dD (Or.inl rfl)); refine aD (aZ (cG rfl ?_))
    exact eK hBDw1 (by unfold jO; rw [if_neg (by omega), if_neg (by omega), if_neg (by omega), if_pos (by omega)]) hE120 hN1
   refine aE (aB (aG (aG (aC rfl (bF rfl rfl) ?_)))); refine aM (aD (aA (bI rfl (fun hc52 => ?_) (fun hc52 => ?_))))
   ·skip
    refine aB (aG (aG ?_)); refine aN (vs := [_]) cX rfl (fB (hG.evo0 hE0) lo (by omega) (by omega)) rfl ?_; rintro _ w122 ⟨rfl, hw123⟩; have hE124 := (Evo.refl (b :: ob.toList) w).then hw123; have hE125 := hE0.then hw123; have hF126 := h.evo0 hw123
    skip
    refine aC rfl (cS rfl rfl (by simp only [cN, bR, cM, dP, bap, bsz, List.length_append, List.length_cons, List.length_nil]; omega)) ?_
    simp only [cN, bR, cM, dP, bap]
    skip
    refine aC rfl (cS rfl rfl (by simp only [cN, bR, cM, dP, bap, bsz, List.length_append, List.length_cons, List.length_nil]; omega)) ?_
    simp only [cN, bR, cM, dP, bap]
    refine aN (vs := [_, _]) cA rfl (cY hF126 (m := [123] ++ jA lo.toNat ++ [125]) rfl (((cE (by decide +kernel)).app hq1).app (cE (by decide +kernel))) (by first | omega | (simp only [List.length_append]; omega)) (by simp only [List.length_append, List.length_cons, List.length_nil]; omega)) rfl ?_
    rintro _ w127 ⟨obw1, hBDw1, hw128, hnb1⟩; have hV9 := hE124; have hV90 := hE125; have hN1 := dC (Or.inl rfl) hnb1 hV9.size; have hU1 := dT huo hV90.size hnb1; have hE129 := hE124.step hw128 (dD (Or.inl rfl)); refine aD (aZ (cG rfl ?_))
    exact eK hBDw1 (by unfold jO; rw [if_neg (by omega), if_neg (by omega), if_neg (by omega), if_neg (by omega), if_pos (by omega)]) hE129 hN1
   have hd3 := hd2 (by omega); refine aB (aG (aG ?_)); refine aN (vs := [_]) cX rfl (fB (hG.evo0 hE0) lo (by omega) (by omega)) rfl ?_; rintro _ w131 ⟨rfl, hw132⟩; have hE133 := (Evo.refl (b :: ob.toList) w).then hw132; have hE134 := hE0.then hw132; have hF135 := h.evo0 hw132
   skip
   refine aC rfl (cS rfl rfl (by simp only [cN, bR, cM, dP, bap, bsz, List.length_append, List.length_cons, List.length_nil]; omega)) ?_
   simp only [cN, bR, cM, dP, bap]
   skip
   refine aC rfl (cS rfl rfl (by simp only [cN, bR, cM, dP, bap, bsz, List.length_append, List.length_cons, List.length_nil]; omega)) ?_
   simp only [cN, bR, cM, dP, bap]; refine aG ?_; refine aN (vs := [_]) cX rfl (fB (hG.evo0 hE134) hi (by omega) (by omega)) rfl ?_; rintro _ w136 ⟨rfl, hw137⟩; have hE138 := hE133.then hw137; have hE139 := hE134.then hw137; have hF140 := hF135.evo0 hw137
   skip
   refine aC rfl (cS rfl rfl (by simp only [cN, bR, cM, dP, bap, bsz, List.length_append, List.length_cons, List.length_nil]; omega)) ?_
   simp only [cN, bR, cM, dP, bap]
   skip
   refine aC rfl (cS rfl rfl (by simp only [cN, bR, cM, dP, bap, bsz, List.length_append, List.length_cons, List.length_nil]; omega)) ?_
   simp only [cN, bR, cM, dP, bap]
   refine aN (vs := [_, _]) cA rfl (cY hF140 (m := [123] ++ jA lo.toNat ++ [44] ++ jA hi.toNat ++ [125]) rfl (((((cE (by decide +kernel)).app hq1).app (cE (by decide +kernel))).app hq2).app (cE (by decide +kernel))) (by first | omega | (simp only [List.length_append]; omega)) (by simp only [List.length_append, List.length_cons, List.length_nil]; omega)) rfl ?_
   rintro _ w141 ⟨obw1, hBDw1, hw142, hnb1⟩; have hV9 := hE138; have hV90 := hE139; have hN1 := dC (Or.inl rfl) hnb1 hV9.size; have hU1 := dT huo hV90.size hnb1; have hE143 := hE138.step hw142 (dD (Or.inl rfl)); refine aD (aZ (cG rfl ?_))
   exact eK hBDw1 (by unfold jO; rw [if_neg (by omega), if_neg (by omega), if_neg (by omega), if_neg (by omega), if_neg (by omega)]) hE143 hN1
  refine aH (aH (aU (aM (aD (aA (cK rfl ?_)))))); refine aE (aB (aG (aC rfl (bF rfl rfl) ?_))); refine aG (aX (t := 28) rfl (fun hs28 => ?_) (fun hs28 => ?_))
  ·skip
   refine aR (aG (aR (aC rfl (bF rfl rfl) ?_))); refine bL (aM (aD (aA (bI rfl (fun hc25 => ?_) (fun hc25 => ?_)))))
   ·skip
    refine aB (aG ?_)
    refine aN (vs := [_, _]) cA rfl (cY h (m := [43]) (by decide +kernel) (cE (by decide +kernel)) (by first | omega | (simp only [List.length_append]; omega)) (by decide)) rfl ?_
    rintro _ w145 ⟨obw1, hBDw1, hw146, hnb1⟩; have hV9 := (Evo.refl (b :: ob.toList) w); have hV90 := hE0; have hN1 := dC (Or.inl rfl) hnb1 hV9.size; have hU1 := dT huo hV90.size hnb1; have hE147 := (Evo.refl (b :: ob.toList) w).step hw146 (dD (Or.inl rfl)); refine aD (aZ (cG rfl ?_))
    exact eK hBDw1 (by unfold jO; rw [if_neg (by omega), if_pos (by omega)]) hE147 hN1
   refine aE (aB (aG (aC rfl (bF rfl rfl) ?_))); refine aG (aX (t := 37) rfl (fun hs37 => ?_) (fun hs37 => ?_))
   ·skip
    refine aR (aG (aR (aC rfl (bF rfl rfl) ?_))); refine bL (aM (aD (aA (bI rfl (fun hc34 => ?_) (fun hc34 => ?_)))))
    ·skip
     refine aB (aG ?_)
     refine aN (vs := [_, _]) cA rfl (cY h (m := [63]) (by decide +kernel) (cE (by decide +kernel)) (by first | omega | (simp only [List.length_append]; omega)) (by decide)) rfl ?_
     rintro _ w149 ⟨obw1, hBDw1, hw150, hnb1⟩; have hV9 := (Evo.refl (b :: ob.toList) w); have hV90 := hE0; have hN1 := dC (Or.inl rfl) hnb1 hV9.size; have hU1 := dT huo hV90.size hnb1; have hE151 := (Evo.refl (b :: ob.toList) w).step hw150 (dD (Or.inl rfl)); refine aD (aZ (cG rfl ?_))
     exact eK hBDw1 (by unfold jO; rw [if_neg (by omega), if_neg (by omega), if_pos (by omega)]) hE151 hN1
    refine aE (aB (aG (aC rfl (bF rfl rfl) ?_))); refine aM (aD (aA (bI rfl (fun hc43 => ?_) (fun hc43 => ?_))))
    ·skip
     refine aB (aG (aG ?_)); refine aN (vs := [_]) cX rfl (fB (hG.evo0 hE0) lo (by omega) (by omega)) rfl ?_; rintro _ w153 ⟨rfl, hw154⟩; have hE155 := (Evo.refl (b :: ob.toList) w).then hw154; have hE156 := hE0.then hw154; have hF157 := h.evo0 hw154
     skip
     refine aC rfl (cS rfl rfl (by simp only [cN, bR, cM, dP, bap, bsz, List.length_append, List.length_cons, List.length_nil]; omega)) ?_
     simp only [cN, bR, cM, dP, bap]
     skip
     refine aC rfl (cS rfl rfl (by simp only [cN, bR, cM, dP, bap, bsz, List.length_append, List.length_cons, List.length_nil]; omega)) ?_
     simp only [cN, bR, cM, dP, bap]
     refine aN (vs := [_, _]) cA rfl (cY hF157 (m := [123] ++ jA lo.toNat ++ [44, 125]) rfl (((cE (by decide +kernel)).app hq1).app (cE (by decide +kernel))) (by first | omega | (simp only [List.length_append]; omega)) (by simp only [List.length_append, List.length_cons, List.length_nil]; omega)) rfl ?_
     rintro _ w158 ⟨obw1, hBDw1, hw159, hnb1⟩; have hV9 := hE155; have hV90 := hE156; have hN1 := dC (Or.inl rfl) hnb1 hV9.size; have hU1 := dT huo hV90.size hnb1; have hE160 := hE155.step hw159 (dD (Or.inl rfl)); refine aD (aZ (cG rfl ?_))
     exact eK hBDw1 (by unfold jO; rw [if_neg (by omega), if_neg (by omega), if_neg (by omega), if_pos (by omega)]) hE160 hN1
    refine aE (aB (aG (aG (aC rfl (bF rfl rfl) ?_)))); refine aM (aD (aA (bI rfl (fun hc52 => ?_) (fun hc52 => ?_))))
    ·skip
     refine aB (aG (aG ?_)); refine aN (vs := [_]) cX rfl (fB (hG.evo0 hE0) lo (by omega) (by omega)) rfl ?_; rintro _ w162 ⟨rfl, hw163⟩; have hE164 := (Evo.refl (b :: ob.toList) w).then hw163; have hE165 := hE0.then hw163; have hF166 := h.evo0 hw163
     skip
     refine aC rfl (cS rfl rfl (by simp only [cN, bR, cM, dP, bap, bsz, List.length_append, List.length_cons, List.length_nil]; omega)) ?_
     simp only [cN, bR, cM, dP, bap]
     skip
     refine aC rfl (cS rfl rfl (by simp only [cN, bR, cM, dP, bap, bsz, List.length_append, List.length_cons, List.length_nil]; omega)) ?_
     simp only [cN, bR, cM, dP, bap]
     refine aN (vs := [_, _]) cA rfl (cY hF166 (m := [123] ++ jA lo.toNat ++ [125]) rfl (((cE (by decide +kernel)).app hq1).app (cE (by decide +kernel))) (by first | omega | (simp only [List.length_append]; omega)) (by simp only [List.length_append, List.length_cons, List.length_nil]; omega)) rfl ?_
     rintro _ w167 ⟨obw1, hBDw1, hw168, hnb1⟩; have hV9 := hE164; have hV90 := hE165; have hN1 := dC (Or.inl rfl) hnb1 hV9.size; have hU1 := dT huo hV90.size hnb1; have hE169 := hE164.step hw168 (dD (Or.inl rfl)); refine aD (aZ (cG rfl ?_))
     exact eK hBDw1 (by unfold jO; rw [if_neg (by omega), if_neg (by omega), if_neg (by omega), if_neg (by omega), if_pos (by omega)]) hE169 hN1
    have hd3 := hd2 (by omega); refine aB (aG (aG ?_)); refine aN (vs := [_]) cX rfl (fB (hG.evo0 hE0) lo (by omega) (by omega)) rfl ?_; rintro _ w171 ⟨rfl, hw172⟩; have hE173 := (Evo.refl (b :: ob.toList) w).then hw172; have hE174 := hE0.then hw172; have hF175 := h.evo0 hw172
    skip
    refine aC rfl (cS rfl rfl (by simp only [cN, bR, cM, dP, bap, bsz, List.length_append, List.length_cons, List.length_nil]; omega)) ?_
    simp only [cN, bR, cM, dP, bap]
    skip
    refine aC rfl (cS rfl rfl (by simp only [cN, bR, cM, dP, bap, bsz, List.length_append, List.length_cons, List.length_nil]; omega)) ?_
    simp only [cN, bR, cM, dP, bap]; refine aG ?_; refine aN (vs := [_]) cX rfl (fB (hG.evo0 hE174) hi (by omega) (by omega)) rfl ?_; rintro _ w176 ⟨rfl, hw177⟩; have hE178 := hE173.then hw177; have hE179 := hE174.then hw177; have hF180 := hF175.evo0 hw177
    skip
    refine aC rfl (cS rfl rfl (by simp only [cN, bR, cM, dP, bap, bsz, List.length_append, List.length_cons, List.length_nil]; omega)) ?_
    simp only [cN, bR, cM, dP, bap]
    skip
    refine aC rfl (cS rfl rfl (by simp only [cN, bR, cM, dP, bap, bsz, List.length_append, List.length_cons, List.length_nil]; omega)) ?_
    simp only [cN, bR, cM, dP, bap]
    refine aN (vs := [_, _]) cA rfl (cY hF180 (m := [123] ++ jA lo.toNat ++ [44] ++ jA hi.toNat ++ [125]) rfl (((((cE (by decide +kernel)).app hq1).app (cE (by decide +kernel))).app hq2).app (cE (by decide +kernel))) (by first | omega | (simp only [List.length_append]; omega)) (by simp only [List.length_append, List.length_cons, List.length_nil]; omega)) rfl ?_
    rintro _ w181 ⟨obw1, hBDw1, hw182, hnb1⟩; have hV9 := hE178; have hV90 := hE179; have hN1 := dC (Or.inl rfl) hnb1 hV9.size; have hU1 := dT huo hV90.size hnb1; have hE183 := hE178.step hw182 (dD (Or.inl rfl)); refine aD (aZ (cG rfl ?_))
    exact eK hBDw1 (by unfold jO; rw [if_neg (by omega), if_neg (by omega), if_neg (by omega), if_neg (by omega), if_neg (by omega)]) hE183 hN1
   refine aH (aH (aU (aM (aD (aA (cK rfl ?_)))))); refine aE (aB (aG (aC rfl (bF rfl rfl) ?_))); refine aM (aD (aA (bI rfl (fun hc43 => ?_) (fun hc43 => ?_))))
   ·skip
    refine aB (aG (aG ?_)); refine aN (vs := [_]) cX rfl (fB (hG.evo0 hE0) lo (by omega) (by omega)) rfl ?_; rintro _ w185 ⟨rfl, hw186⟩; have hE187 := (Evo.refl (b :: ob.toList) w).then hw186; have hE188 := hE0.then hw186; have hF189 := h.evo0 hw186
    skip
    refine aC rfl (cS rfl rfl (by simp only [cN, bR, cM, dP, bap, bsz, List.length_append, List.length_cons, List.length_nil]; omega)) ?_
    simp only [cN, bR, cM, dP, bap]
    skip
    refine aC rfl (cS rfl rfl (by simp only [cN, bR, cM, dP, bap, bsz, List.length_append, List.length_cons, List.length_nil]; omega)) ?_
    simp only [cN, bR, cM, dP, bap]
    refine aN (vs := [_, _]) cA rfl (cY hF189 (m := [123] ++ jA lo.toNat ++ [44, 125]) rfl (((cE (by decide +kernel)).app hq1).app (cE (by decide +kernel))) (by first | omega | (simp only [List.length_append]; omega)) (by simp only [List.length_append, List.length_cons, List.length_nil]; omega)) rfl ?_
    rintro _ w190 ⟨obw1, hBDw1, hw191, hnb1⟩; have hV9 := hE187; have hV90 := hE188; have hN1 := dC (Or.inl rfl) hnb1 hV9.size; have hU1 := dT huo hV90.size hnb1; have hE192 := hE187.step hw191 (dD (Or.inl rfl)); refine aD (aZ (cG rfl ?_))
    exact eK hBDw1 (by unfold jO; rw [if_neg (by omega), if_neg (by omega), if_neg (by omega), if_pos (by omega)]) hE192 hN1
   refine aE (aB (aG (aG (aC rfl (bF rfl rfl) ?_)))); refine aM (aD (aA (bI rfl (fun hc52 => ?_) (fun hc52 => ?_))))
   ·skip
    refine aB (aG (aG ?_)); refine aN (vs := [_]) cX rfl (fB (hG.evo0 hE0) lo (by omega) (by omega)) rfl ?_; rintro _ w194 ⟨rfl, hw195⟩; have hE196 := (Evo.refl (b :: ob.toList) w).then hw195; have hE197 := hE0.then hw195; have hF198 := h.evo0 hw195
    skip
    refine aC rfl (cS rfl rfl (by simp only [cN, bR, cM, dP, bap, bsz, List.length_append, List.length_cons, List.length_nil]; omega)) ?_
    simp only [cN, bR, cM, dP, bap]
    skip
    refine aC rfl (cS rfl rfl (by simp only [cN, bR, cM, dP, bap, bsz, List.length_append, List.length_cons, List.length_nil]; omega)) ?_
    simp only [cN, bR, cM, dP, bap]
    refine aN (vs := [_, _]) cA rfl (cY hF198 (m := [123] ++ jA lo.toNat ++ [125]) rfl (((cE (by decide +kernel)).app hq1).app (cE (by decide +kernel))) (by first | omega | (simp only [List.length_append]; omega)) (by simp only [List.length_append, List.length_cons, List.length_nil]; omega)) rfl ?_
    rintro _ w199 ⟨obw1, hBDw1, hw200, hnb1⟩; have hV9 := hE196; have hV90 := hE197; have hN1 := dC (Or.inl rfl) hnb1 hV9.size; have hU1 := dT huo hV90.size hnb1; have hE201 := hE196.step hw200 (dD (Or.inl rfl)); refine aD (aZ (cG rfl ?_))
    exact eK hBDw1 (by unfold jO; rw [if_neg (by omega), if_neg (by omega), if_neg (by omega), if_neg (by omega), if_pos (by omega)]) hE201 hN1
   have hd3 := hd2 (by omega); refine aB (aG (aG ?_)); refine aN (vs := [_]) cX rfl (fB (hG.evo0 hE0) lo (by omega) (by omega)) rfl ?_; rintro _ w203 ⟨rfl, hw204⟩; have hE205 := (Evo.refl (b :: ob.toList) w).then hw204; have hE206 := hE0.then hw204; have hF207 := h.evo0 hw204
   skip
   refine aC rfl (cS rfl rfl (by simp only [cN, bR, cM, dP, bap, bsz, List.length_append, List.length_cons, List.length_nil]; omega)) ?_
   simp only [cN, bR, cM, dP, bap]
   skip
   refine aC rfl (cS rfl rfl (by simp only [cN, bR, cM, dP, bap, bsz, List.length_append, List.length_cons, List.length_nil]; omega)) ?_
   simp only [cN, bR, cM, dP, bap]; refine aG ?_; refine aN (vs := [_]) cX rfl (fB (hG.evo0 hE206) hi (by omega) (by omega)) rfl ?_; rintro _ w208 ⟨rfl, hw209⟩; have hE210 := hE205.then hw209; have hE211 := hE206.then hw209; have hF212 := hF207.evo0 hw209
   skip
   refine aC rfl (cS rfl rfl (by simp only [cN, bR, cM, dP, bap, bsz, List.length_append, List.length_cons, List.length_nil]; omega)) ?_
   simp only [cN, bR, cM, dP, bap]
   skip
   refine aC rfl (cS rfl rfl (by simp only [cN, bR, cM, dP, bap, bsz, List.length_append, List.length_cons, List.length_nil]; omega)) ?_
   simp only [cN, bR, cM, dP, bap]
   refine aN (vs := [_, _]) cA rfl (cY hF212 (m := [123] ++ jA lo.toNat ++ [44] ++ jA hi.toNat ++ [125]) rfl (((((cE (by decide +kernel)).app hq1).app (cE (by decide +kernel))).app hq2).app (cE (by decide +kernel))) (by first | omega | (simp only [List.length_append]; omega)) (by simp only [List.length_append, List.length_cons, List.length_nil]; omega)) rfl ?_
   rintro _ w213 ⟨obw1, hBDw1, hw214, hnb1⟩; have hV9 := hE210; have hV90 := hE211; have hN1 := dC (Or.inl rfl) hnb1 hV9.size; have hU1 := dT huo hV90.size hnb1; have hE215 := hE210.step hw214 (dD (Or.inl rfl)); refine aD (aZ (cG rfl ?_))
   exact eK hBDw1 (by unfold jO; rw [if_neg (by omega), if_neg (by omega), if_neg (by omega), if_neg (by omega), if_neg (by omega)]) hE215 hN1
  refine aH (aH (aU (aM (aD (aA (cK rfl ?_)))))); refine aE (aB (aG (aC rfl (bF rfl rfl) ?_))); refine aG (aX (t := 37) rfl (fun hs37 => ?_) (fun hs37 => ?_))
  ·skip
   refine aR (aG (aR (aC rfl (bF rfl rfl) ?_))); refine bL (aM (aD (aA (bI rfl (fun hc34 => ?_) (fun hc34 => ?_)))))
   ·skip
    refine aB (aG ?_)
    refine aN (vs := [_, _]) cA rfl (cY h (m := [63]) (by decide +kernel) (cE (by decide +kernel)) (by first | omega | (simp only [List.length_append]; omega)) (by decide)) rfl ?_
    rintro _ w217 ⟨obw1, hBDw1, hw218, hnb1⟩; have hV9 := (Evo.refl (b :: ob.toList) w); have hV90 := hE0; have hN1 := dC (Or.inl rfl) hnb1 hV9.size; have hU1 := dT huo hV90.size hnb1; have hE219 := (Evo.refl (b :: ob.toList) w).step hw218 (dD (Or.inl rfl)); refine aD (aZ (cG rfl ?_))
    exact eK hBDw1 (by unfold jO; rw [if_neg (by omega), if_neg (by omega), if_pos (by omega)]) hE219 hN1
   refine aE (aB (aG (aC rfl (bF rfl rfl) ?_))); refine aM (aD (aA (bI rfl (fun hc43 => ?_) (fun hc43 => ?_))))
   ·skip
    refine aB (aG (aG ?_)); refine aN (vs := [_]) cX rfl (fB (hG.evo0 hE0) lo (by omega) (by omega)) rfl ?_; rintro _ w221 ⟨rfl, hw222⟩; have hE223 := (Evo.refl (b :: ob.toList) w).then hw222; have hE224 := hE0.then hw222; have hF225 := h.evo0 hw222
    skip
    refine aC rfl (cS rfl rfl (by simp only [cN, bR, cM, dP, bap, bsz, List.length_append, List.length_cons, List.length_nil]; omega)) ?_
    simp only [cN, bR, cM, dP, bap]
    skip
    refine aC rfl (cS rfl rfl (by simp only [cN, bR, cM, dP, bap, bsz, List.length_append, List.length_cons, List.length_nil]; omega)) ?_
    simp only [cN, bR, cM, dP, bap]
    refine aN (vs := [_, _]) cA rfl (cY hF225 (m := [123] ++ jA lo.toNat ++ [44, 125]) rfl (((cE (by decide +kernel)).app hq1).app (cE (by decide +kernel))) (by first | omega | (simp only [List.length_append]; omega)) (by simp only [List.length_append, List.length_cons, List.length_nil]; omega)) rfl ?_
    rintro _ w226 ⟨obw1, hBDw1, hw227, hnb1⟩; have hV9 := hE223; have hV90 := hE224; have hN1 := dC (Or.inl rfl) hnb1 hV9.size; have hU1 := dT huo hV90.size hnb1; have hE228 := hE223.step hw227 (dD (Or.inl rfl)); refine aD (aZ (cG rfl ?_))
    exact eK hBDw1 (by unfold jO; rw [if_neg (by omega), if_neg (by omega), if_neg (by omega), if_pos (by omega)]) hE228 hN1
   refine aE (aB (aG (aG (aC rfl (bF rfl rfl) ?_)))); refine aM (aD (aA (bI rfl (fun hc52 => ?_) (fun hc52 => ?_))))
   ·skip
    refine aB (aG (aG ?_)); refine aN (vs := [_]) cX rfl (fB (hG.evo0 hE0) lo (by omega) (by omega)) rfl ?_; rintro _ w230 ⟨rfl, hw231⟩; have hE232 := (Evo.refl (b :: ob.toList) w).then hw231; have hE233 := hE0.then hw231; have hF234 := h.evo0 hw231
    skip
    refine aC rfl (cS rfl rfl (by simp only [cN, bR, cM, dP, bap, bsz, List.length_append, List.length_cons, List.length_nil]; omega)) ?_
    simp only [cN, bR, cM, dP, bap]
    skip
    refine aC rfl (cS rfl rfl (by simp only [cN, bR, cM, dP, bap, bsz, List.length_append, List.length_cons, List.length_nil]; omega)) ?_
    simp only [cN, bR, cM, dP, bap]
    refine aN (vs := [_, _]) cA rfl (cY hF234 (m := [123] ++ jA lo.toNat ++ [125]) rfl (((cE (by decide +kernel)).app hq1).app (cE (by decide +kernel))) (by first | omega | (simp only [List.length_append]; omega)) (by simp only [List.length_append, List.length_cons, List.length_nil]; omega)) rfl ?_
    rintro _ w235 ⟨obw1, hBDw1, hw236, hnb1⟩; have hV9 := hE232; have hV90 := hE233; have hN1 := dC (Or.inl rfl) hnb1 hV9.size; have hU1 := dT huo hV90.size hnb1; have hE237 := hE232.step hw236 (dD (Or.inl rfl)); refine aD (aZ (cG rfl ?_))
    exact eK hBDw1 (by unfold jO; rw [if_neg (by omega), if_neg (by omega), if_neg (by omega), if_neg (by omega), if_pos (by omega)]) hE237 hN1
   have hd3 := hd2 (by omega); refine aB (aG (aG ?_)); refine aN (vs := [_]) cX rfl (fB (hG.evo0 hE0) lo (by omega) (by omega)) rfl ?_; rintro _ w239 ⟨rfl, hw240⟩; have hE241 := (Evo.refl (b :: ob.toList) w).then hw240; have hE242 := hE0.then hw240; have hF243 := h.evo0 hw240
   skip
   refine aC rfl (cS rfl rfl (by simp only [cN, bR, cM, dP, bap, bsz, List.length_append, List.length_cons, List.length_nil]; omega)) ?_
   simp only [cN, bR, cM, dP, bap]
   skip
   refine aC rfl (cS rfl rfl (by simp only [cN, bR, cM, dP, bap, bsz, List.length_append, List.length_cons, List.length_nil]; omega)) ?_
   simp only [cN, bR, cM, dP, bap]; refine aG ?_; refine aN (vs := [_]) cX rfl (fB (hG.evo0 hE242) hi (by omega) (by omega)) rfl ?_; rintro _ w244 ⟨rfl, hw245⟩; have hE246 := hE241.then hw245; have hE247 := hE242.then hw245; have hF248 := hF243.evo0 hw245
   skip
   refine aC rfl (cS rfl rfl (by simp only [cN, bR, cM, dP, bap, bsz, List.length_append, List.length_cons, List.length_nil]; omega)) ?_
   simp only [cN, bR, cM, dP, bap]
   skip
   refine aC rfl (cS rfl rfl (by simp only [cN, bR, cM, dP, bap, bsz, List.length_append, List.length_cons, List.length_nil]; omega)) ?_
   simp only [cN, bR, cM, dP, bap]
   refine aN (vs := [_, _]) cA rfl (cY hF248 (m := [123] ++ jA lo.toNat ++ [44] ++ jA hi.toNat ++ [125]) rfl (((((cE (by decide +kernel)).app hq1).app (cE (by decide +kernel))).app hq2).app (cE (by decide +kernel))) (by first | omega | (simp only [List.length_append]; omega)) (by simp only [List.length_append, List.length_cons, List.length_nil]; omega)) rfl ?_
   rintro _ w249 ⟨obw1, hBDw1, hw250, hnb1⟩; have hV9 := hE246; have hV90 := hE247; have hN1 := dC (Or.inl rfl) hnb1 hV9.size; have hU1 := dT huo hV90.size hnb1; have hE251 := hE246.step hw250 (dD (Or.inl rfl)); refine aD (aZ (cG rfl ?_))
   exact eK hBDw1 (by unfold jO; rw [if_neg (by omega), if_neg (by omega), if_neg (by omega), if_neg (by omega), if_neg (by omega)]) hE251 hN1
  refine aH (aH (aU (aM (aD (aA (cK rfl ?_)))))); refine aE (aB (aG (aC rfl (bF rfl rfl) ?_))); refine aM (aD (aA (bI rfl (fun hc43 => ?_) (fun hc43 => ?_))))
  ·skip
   refine aB (aG (aG ?_)); refine aN (vs := [_]) cX rfl (fB (hG.evo0 hE0) lo (by omega) (by omega)) rfl ?_; rintro _ w253 ⟨rfl, hw254⟩; have hE255 := (Evo.refl (b :: ob.toList) w).then hw254; have hE256 := hE0.then hw254; have hF257 := h.evo0 hw254
   skip
   refine aC rfl (cS rfl rfl (by simp only [cN, bR, cM, dP, bap, bsz, List.length_append, List.length_cons, List.length_nil]; omega)) ?_
   simp only [cN, bR, cM, dP, bap]
   skip
   refine aC rfl (cS rfl rfl (by simp only [cN, bR, cM, dP, bap, bsz, List.length_append, List.length_cons, List.length_nil]; omega)) ?_
   simp only [cN, bR, cM, dP, bap]
   refine aN (vs := [_, _]) cA rfl (cY hF257 (m := [123] ++ jA lo.toNat ++ [44, 125]) rfl (((cE (by decide +kernel)).app hq1).app (cE (by decide +kernel))) (by first | omega | (simp only [List.length_append]; omega)) (by simp only [List.length_append, List.length_cons, List.length_nil]; omega)) rfl ?_
   rintro _ w258 ⟨obw1, hBDw1, hw259, hnb1⟩; have hV9 := hE255; have hV90 := hE256; have hN1 := dC (Or.inl rfl) hnb1 hV9.size; have hU1 := dT huo hV90.size hnb1; have hE260 := hE255.step hw259 (dD (Or.inl rfl)); refine aD (aZ (cG rfl ?_))
   exact eK hBDw1 (by unfold jO; rw [if_neg (by omega), if_neg (by omega), if_neg (by omega), if_pos (by omega)]) hE260 hN1
  refine aE (aB (aG (aG (aC rfl (bF rfl rfl) ?_)))); refine aM (aD (aA (bI rfl (fun hc52 => ?_) (fun hc52 => ?_))))
  ·skip
   refine aB (aG (aG ?_)); refine aN (vs := [_]) cX rfl (fB (hG.evo0 hE0) lo (by omega) (by omega)) rfl ?_; rintro _ w262 ⟨rfl, hw263⟩; have hE264 := (Evo.refl (b :: ob.toList) w).then hw263; have hE265 := hE0.then hw263; have hF266 := h.evo0 hw263
   skip
   refine aC rfl (cS rfl rfl (by simp only [cN, bR, cM, dP, bap, bsz, List.length_append, List.length_cons, List.length_nil]; omega)) ?_
   simp only [cN, bR, cM, dP, bap]
   skip
   refine aC rfl (cS rfl rfl (by simp only [cN, bR, cM, dP, bap, bsz, List.length_append, List.length_cons, List.length_nil]; omega)) ?_
   simp only [cN, bR, cM, dP, bap]
   refine aN (vs := [_, _]) cA rfl (cY hF266 (m := [123] ++ jA lo.toNat ++ [125]) rfl (((cE (by decide +kernel)).app hq1).app (cE (by decide +kernel))) (by first | omega | (simp only [List.length_append]; omega)) (by simp only [List.length_append, List.length_cons, List.length_nil]; omega)) rfl ?_
   rintro _ w267 ⟨obw1, hBDw1, hw268, hnb1⟩; have hV9 := hE264; have hV90 := hE265; have hN1 := dC (Or.inl rfl) hnb1 hV9.size; have hU1 := dT huo hV90.size hnb1; have hE269 := hE264.step hw268 (dD (Or.inl rfl)); refine aD (aZ (cG rfl ?_))
   exact eK hBDw1 (by unfold jO; rw [if_neg (by omega), if_neg (by omega), if_neg (by omega), if_neg (by omega), if_pos (by omega)]) hE269 hN1
  have hd3 := hd2 (by omega); refine aB (aG (aG ?_)); refine aN (vs := [_]) cX rfl (fB (hG.evo0 hE0) lo (by omega) (by omega)) rfl ?_; rintro _ w271 ⟨rfl, hw272⟩; have hE273 := (Evo.refl (b :: ob.toList) w).then hw272; have hE274 := hE0.then hw272; have hF275 := h.evo0 hw272
  skip
  refine aC rfl (cS rfl rfl (by simp only [cN, bR, cM, dP, bap, bsz, List.length_append, List.length_cons, List.length_nil]; omega)) ?_
  simp only [cN, bR, cM, dP, bap]
  skip
  refine aC rfl (cS rfl rfl (by simp only [cN, bR, cM, dP, bap, bsz, List.length_append, List.length_cons, List.length_nil]; omega)) ?_
  simp only [cN, bR, cM, dP, bap]; refine aG ?_; refine aN (vs := [_]) cX rfl (fB (hG.evo0 hE274) hi (by omega) (by omega)) rfl ?_; rintro _ w276 ⟨rfl, hw277⟩; have hE278 := hE273.then hw277; have hE279 := hE274.then hw277; have hF280 := hF275.evo0 hw277
  skip
  refine aC rfl (cS rfl rfl (by simp only [cN, bR, cM, dP, bap, bsz, List.length_append, List.length_cons, List.length_nil]; omega)) ?_
  simp only [cN, bR, cM, dP, bap]
  skip
  refine aC rfl (cS rfl rfl (by simp only [cN, bR, cM, dP, bap, bsz, List.length_append, List.length_cons, List.length_nil]; omega)) ?_
  simp only [cN, bR, cM, dP, bap]
  refine aN (vs := [_, _]) cA rfl (cY hF280 (m := [123] ++ jA lo.toNat ++ [44] ++ jA hi.toNat ++ [125]) rfl (((((cE (by decide +kernel)).app hq1).app (cE (by decide +kernel))).app hq2).app (cE (by decide +kernel))) (by first | omega | (simp only [List.length_append]; omega)) (by simp only [List.length_append, List.length_cons, List.length_nil]; omega)) rfl ?_
  rintro _ w281 ⟨obw1, hBDw1, hw282, hnb1⟩; have hV9 := hE278; have hV90 := hE279; have hN1 := dC (Or.inl rfl) hnb1 hV9.size; have hU1 := dT huo hV90.size hnb1; have hE283 := hE278.step hw282 (dD (Or.inl rfl)); refine aD (aZ (cG rfl ?_))
  exact eK hBDw1 (by unfold jO; rw [if_neg (by omega), if_neg (by omega), if_neg (by omega), if_neg (by omega), if_neg (by omega)]) hE283 hN1
end Go.Proofs.YtljadkcojnlioaaGreatDoor
namespace Go.Proofs.YtljadkcojnlioaaGreatDoor
open Go.Proofs
open Go.W Go.ChangeShapes Go.WideShapes Go.ChangeAt Go.RowKit
def OpensFU {α : Type} (F : Nat) (t : TypeId) (R : Rel α) (μ : α → Nat) : Prop :=
  ∀ (H : Type) (enc : TypeId × Value → H) (w : World) (fuel : Nat) (cs : List Value) (x : DataW H × List MemPlace), fuel ≤ F → DataW.trod enc Tryz.prog w 0 (fun _ => true) true fuel t cs = some x →
    (∀ n, n ∈ x.1.weights Tryz.prog t → n ≤ reachBytes) → Rows.uptoBulk x.1 ≤ 1048576 → ∃ d, R [] w cs d ∧ μ d + 26 ≤ 26 * Rows.uptoBulk x.1
theorem FJ (F : Nat) {t : TypeId} (ht : Tryz.prog.underlying t = some .string) : OpensFU F t (fun _ _ vs s => vs = [.string s] ∧ s.size ≤ 1048576) (fun s => s.size) := by
  intro H enc w fuel cs x hfu h hw hbk
  obtain ⟨s, hcs, rfl, _⟩ := DataW.trod_string ht h
  have : s.data.toList.length = s.size := Array.length_toList
  simp only [Rows.uptoBulk] at hbk ⊢
  exact ⟨s, ⟨hcs, by omega⟩, by omega⟩
abbrev laidL : List (String × DataW Unit) := [("math/bits.deBruijn32tab", Rows.laid_math_bits_deBruijn32tab), ("math/bits.deBruijn64tab", Rows.laid_math_bits_deBruijn64tab), ("internal/strconv.uint64pow10", Rows.laid_internal_strconv_uint64pow10)]
theorem own : ownKnob Tryz.prog.godebug = none := by kernel_rfl
theorem laidOut : laidOutB Tryz.prog = true := by kernel_rfl
theorem MM : true = Tryz.pinned.checked.prog.looks [] := by kernel_rfl
theorem gw_of {W : World} (hL : laidMetH Tryz.prog laidL W) (hsh : W.ShapedOpen Tryz.prog) : Gw W := by
  refine ⟨Tryz.laysM143.s1_3 W hsh, ?_, ?_⟩
  · have h0 : laidMetH Tryz.prog [("math/bits.deBruijn64tab", Rows.laid_math_bits_deBruijn64tab)] W := by
      have := hL.filter (fun x => x.1 == "math/bits.deBruijn64tab")
      rw [show laidL.filter (fun x => x.1 == "math/bits.deBruijn64tab") = [("math/bits.deBruijn64tab", Rows.laid_math_bits_deBruijn64tab)] from by kernel_rfl] at this
      exact this
    have h1 : Lib.TabIs Tryz.prog W "math/bits.deBruijn64tab" .u8 (Lib.deBruijn64tab.map fun n : Nat => (n : Int)) := Lib.tabIs_of_head (rest := []) (g := gTz) (by kernel_rfl) (by kernel_rfl) Tryz.underlying205 Tryz.underlying5 (by kernel_rfl) (by kernel_rfl) h0
    intro k hk
    have h2 := h1.cell (show Tryz.prog.globalNamed "math/bits.deBruijn64tab" = some gTz by kernel_rfl) k (by simpa using (show k < Lib.deBruijn64tab.length from hk))
    rw [h2]
    have hl : k < Lib.deBruijn64tab.length := hk
    simp [List.getD_eq_getElem?_getD, hl]
  · have h0 : laidMetH Tryz.prog [("internal/strconv.uint64pow10", Rows.laid_internal_strconv_uint64pow10)] W := by
      have := hL.filter (fun x => x.1 == "internal/strconv.uint64pow10")
      rw [show laidL.filter (fun x => x.1 == "internal/strconv.uint64pow10") = [("internal/strconv.uint64pow10", Rows.laid_internal_strconv_uint64pow10)] from by kernel_rfl] at this
      exact this
    exact Lib.tabIs_of_head (rest := []) (g := 1) (by kernel_rfl) (by kernel_rfl) Tryz.underlying186 Tryz.underlying176 (by kernel_rfl) (by kernel_rfl) h0
def vI (l : List Value) : Obj → Obj
  | .cells _ t frozen => .cells l.toArray t frozen
  | o => o
noncomputable def tI (os : Os) : World :=
  { World.holding Tryz.prog os ⟨#[], #[], []⟩ with heap := (((World.holding Tryz.prog os ⟨#[], #[], []⟩).heap.modify 3 (vI (Lib.deBruijn64tab.map fun n : Nat => Value.int .u8 (n : Int)))).modify 1 (vI (Lib.pow10Tab.map fun n : Int => Value.int .u64 n))).modify 2 (vI (Lib.deBruijn32tab.map fun n : Nat => Value.int .u8 (n : Int))) }
end Go.Proofs.YtljadkcojnlioaaGreatDoor
namespace Go.Proofs.YtljadkcojnlioaaGreatDoor
open Go.Proofs
open Go.W Go.RowKit
attribute [local irreducible] Decidable.decide
theorem oY : eT Tryz.prog 133 := ⟨_, Tryz.func133, by kernel_rfl, by kernel_rfl⟩
theorem mJ : eT Tryz.prog 142 := ⟨_, Tryz.func142, by kernel_rfl, by kernel_rfl⟩
theorem sO : eT Tryz.prog 144 := ⟨_, Tryz.func144, by kernel_rfl, by kernel_rfl⟩
theorem AV : eT Tryz.prog 145 := ⟨_, Tryz.func145, by kernel_rfl, by kernel_rfl⟩
theorem AU : eT Tryz.prog 146 := ⟨_, Tryz.func146, by kernel_rfl, by kernel_rfl⟩
theorem gF : eT Tryz.prog 147 := ⟨_, Tryz.func147, by kernel_rfl, by kernel_rfl⟩
def LetU (w w' : World) (v : Value) (o : Option (Int → Prop)) : Prop := ∃ a c ob l, v = .tuple #[.slice a l.length c, .bool o.isSome] ∧ OwnS w' 56 2 a l.length c (eD l) ob ∧ Ge w ob ∧ Vr l ∧ l.length ≤ 8 ∧ ∀ S, o = some S → ∀ c, InR c l ↔ S c
theorem LetOut.uni {w w' : World} {v : Value} {o : Option (Int → Prop)} (h : LetOut w w' v o) : LetU w w' v o := by
  rcases h with ⟨rfl, rfl⟩ | ⟨S, v', rfl, rfl, a, c, ob, l, rfl, h2, h3, h4, h5, h6⟩
  · exact ⟨none, 0, none, [], rfl, OwnS.nil _ _ _, Ge.nil _, (fun g hg => by cases hg), Nat.zero_le _, fun S h => by cases h⟩
  · exact ⟨a, c, ob, l, rfl, h2, h3, h4, h6, fun S' e => by cases e; exact h5⟩
theorem uT {α : Type} {o : Option α} (h : o.isSome = true) : ∃ x, o = some x := Option.isSome_iff_exists.1 h
theorem none_of {α : Type} {o : Option α} (h : (!o.isSome) = true) : o = none := by cases o with | none => rfl | some x => cases h
theorem hY {α : Type} {o : Option α} (h : o.isSome = false) : o = none := by cases o with | none => rfl | some x => cases h
theorem HO {s : ByteArray} {a b j : Nat} (h : 0 ≤ CV s a b j) : ∃ k, kF s a b s.size j = some k ∧ CV s a b j = (k : Int) - (j : Nat) ∧ j ≤ k ∧ k + 1 < s.size := by
  unfold CV at *
  cases hf : kF s a b s.size j with
  | none => rw [hf] at h; exact absurd h (show ¬ (0 : Int) ≤ -1 by omega)
  | some k =>
    obtain ⟨h1, h2, h3⟩ := (qN s a b s.size j (by omega)).1 k hf
    exact ⟨k, rfl, rfl, h1, h2.1⟩
theorem iL {s : ByteArray} {a b j : Nat} (h : ¬ 0 ≤ CV s a b j) : kF s a b s.size j = none := by
  unfold CV at h
  cases hf : kF s a b s.size j with
  | none => rfl
  | some k =>
    rw [hf] at h
    obtain ⟨h1, h2, h3⟩ := (qN s a b s.size j (by omega)).1 k hf
    exact absurd (show (0 : Int) ≤ (k : Int) - j by omega) h
section
variable {s : ByteArray} {i k j m : Nat} {S : Int → Prop} {r q : Int} {e : Int}
theorem it_cut (h1 : isB s i 91 ∧ isB s (i + 1) 58) (h2 : kF s 58 93 s.size (i + 2) = some k) (h3 : i + 2 < k ∧ sb s (i + 2) = 94) (h4 : jH (s.extract (i + 3) k) = some S) : kN s i = .ok (uO S, k + 2) := by unfold kN; rw [if_pos h1, h2]; show (if _ then _ else _) = _; rw [if_pos h3, h4]
theorem it_cutN (h1 : isB s i 91 ∧ isB s (i + 1) 58) (h2 : kF s 58 93 s.size (i + 2) = some k) (h3 : i + 2 < k ∧ sb s (i + 2) = 94) (h4 : jH (s.extract (i + 3) k) = none) : kN s i = .error 81 := by unfold kN; rw [if_pos h1, h2]; show (if _ then _ else _) = _; rw [if_pos h3, h4]
theorem it_nam (h1 : isB s i 91 ∧ isB s (i + 1) 58) (h2 : kF s 58 93 s.size (i + 2) = some k) (h3 : ¬ (i + 2 < k ∧ sb s (i + 2) = 94)) (h4 : jH (s.extract (i + 2) k) = some S) : kN s i = .ok (S, k + 2) := by unfold kN; rw [if_pos h1, h2]; show (if _ then _ else _) = _; rw [if_neg h3, h4]
theorem it_namN (h1 : isB s i 91 ∧ isB s (i + 1) 58) (h2 : kF s 58 93 s.size (i + 2) = some k) (h3 : ¬ (i + 2 < k ∧ sb s (i + 2) = 94)) (h4 : jH (s.extract (i + 2) k) = none) : kN s i = .error 81 := by unfold kN; rw [if_pos h1, h2]; show (if _ then _ else _) = _; rw [if_neg h3, h4]
theorem dX (h : (isB s i 91 ∧ isB s (i + 1) 58) → kF s 58 93 s.size (i + 2) = none) : kN s i = nT s i := by
  unfold kN
  by_cases h1 : isB s i 91 ∧ isB s (i + 1) 58
  · rw [if_pos h1, h h1]
  · rw [if_neg h1]
theorem MS (h1 : i + 1 < s.size ∧ sb s i = 92) (h2 : wA (sb s (i + 1)) = some S) : nT s i = .ok (S, i + 2) := by unfold nT; rw [if_pos h1, h2]
theorem eW (h : (i + 1 < s.size ∧ sb s i = 92) → wA (sb s (i + 1)) = none) : nT s i = jX s i := by
  unfold nT
  by_cases h1 : i + 1 < s.size ∧ sb s i = 92
  · rw [if_pos h1, h h1]
  · rw [if_neg h1]
theorem tD (h : lZ s i = .error e) : jX s i = .error e := by unfold jX; rw [h]
theorem jQ (h : lZ s i = .ok (r, j)) (h2 : ¬ (isB s j 45 ∧ j + 1 < s.size ∧ sb s (j + 1) ≠ 93)) : jX s i = .ok (rgS r r, j) := by unfold jX; rw [h]; show (if _ then _ else _) = _; rw [if_neg h2]
theorem qI (h : lZ s i = .ok (r, j)) (h2 : isB s j 45 ∧ j + 1 < s.size ∧ sb s (j + 1) ≠ 93) (h3 : lZ s (j + 1) = .error e) : jX s i = .error e := by unfold jX; rw [h]; show (if _ then _ else _) = _; rw [if_pos h2, h3]
theorem tE (h : lZ s i = .ok (r, j)) (h2 : isB s j 45 ∧ j + 1 < s.size ∧ sb s (j + 1) ≠ 93) (h3 : lZ s (j + 1) = .ok (q, m)) (h4 : q < r) : jX s i = .error 81 := by unfold jX; rw [h]; show (if _ then _ else _) = _; rw [if_pos h2, h3]; show (if _ then _ else _) = _; rw [if_pos h4]
theorem tC (h : lZ s i = .ok (r, j)) (h2 : isB s j 45 ∧ j + 1 < s.size ∧ sb s (j + 1) ≠ 93) (h3 : lZ s (j + 1) = .ok (q, m)) (h4 : ¬ q < r) : jX s i = .ok (rgS r q, m) := by unfold jX; rw [h]; show (if _ then _ else _) = _; rw [if_pos h2, h3]; show (if _ then _ else _) = _; rw [if_neg h4]
end
theorem MG {s : ByteArray} {a : Nat} (h : 0 < (cH s a).2) {t : Nat} (h1 : 1 ≤ t) (h2 : t < (cH s a).2) : 128 ≤ sb s (a + t) := by
  have ha : a < s.size := by
    rcases Nat.lt_or_ge a s.size with h3 | h3
    · exact h3
    · rw [mX h3] at h; cases h
  rcases gE s a ha with ⟨w, hw1, hw4, hws, hit, -⟩ | ⟨hn, -⟩
  · obtain ⟨e, -⟩ := kG hw1 hw4 hws hit
    rw [e] at h2
    replace h2 : t < w := h2
    match w, hw1, hw4, hit, h2 with
    | 1, _, _, _, h2 => omega
    | 2, _, _, hit, h2 =>
      have := (hit2 s a).1 hit
      obtain rfl : t = 1 := by omega
      omega
    | 3, _, _, hit, h2 =>
      have := (hit3 s a).1 hit
      obtain rfl | rfl : t = 1 ∨ t = 2 := by omega
      · omega
      · omega
    | 4, _, _, hit, h2 =>
      have := (hit4 s a).1 hit
      obtain rfl | rfl | rfl : t = 1 ∨ t = 2 ∨ t = 3 := by omega
      · omega
      · omega
      · omega
  · rw [mP hn] at h; cases h
theorem mS {s : ByteArray} {i k : Nat} (hb : Bd s i) (hik : i ≤ k) (hk : k < s.size) (ha : sb s k < 128) : Bd s k := by
  obtain ⟨N, -, hU, -, -⟩ := hb
  have key : ∀ m, m ≤ N → k < dJ s m → ∃ n, n < N ∧ dJ s n ≤ k ∧ k < dJ s (n + 1) := by
    intro m
    induction m with
    | zero => intro _ h; exact absurd h (Nat.not_lt_zero _)
    | succ m ih =>
      intro hm h
      by_cases h1 : k < dJ s m
      · exact ih (by omega) h1
      · exact ⟨m, hm, by omega, h⟩
  obtain ⟨n, h1, h2, h3⟩ := key N (Nat.le_refl _) (by rw [hU.1]; exact hk)
  rcases Nat.eq_or_lt_of_le h2 with e | e
  · exact ⟨N, n, hU, by omega, e⟩
  · have h4 := MG (hU.2 n h1) (t := k - dJ s n) (by omega) (by rw [dJ] at h3; omega)
    rw [show dJ s n + (k - dJ s n) = k by omega] at h4
    omega
theorem jV (r q x : Int) : InR x [(r, q)] ↔ rgS r q x := by rw [kI]; exact Iff.rfl
theorem zB {s : ByteArray} {i j : Nat} {S : Int → Prop} (h : kN s i = .ok (S, j)) (hb : Bd s i) (hi : i < s.size) : Bd s j ∧ i < j := by
  have hrange : jX s i = .ok (S, j) → Bd s j ∧ i < j := fun h => by
    unfold jX at h
    cases h1 : lZ s i with
    | error e => rw [h1] at h; cases h
    | ok x =>
      obtain ⟨lo, k⟩ := x
      obtain ⟨h2, h3, -⟩ := kW h1 hb hi
      rw [h1] at h
      replace h : (if isB s k 45 ∧ k + 1 < s.size ∧ sb s (k + 1) ≠ 93 then (match lZ s (k + 1) with | .error e => .error e | .ok (hi, k) => if hi < lo then .error 81 else .ok (rgS lo hi, k)) else .ok (rgS lo lo, k) : PR) = .ok (S, j) := h
      split at h
      · rename_i h4
        have h5 := h4.1.asc (by decide) h2
        cases h6 : lZ s (k + 1) with
        | error e => rw [h6] at h; cases h
        | ok y =>
          obtain ⟨hi2, m⟩ := y
          obtain ⟨h7, h8, -⟩ := kW h6 h5 h4.2.1
          rw [h6] at h
          replace h : (if hi2 < lo then .error 81 else .ok (rgS lo hi2, m) : PR) = .ok (S, j) := h
          split at h
          · cases h
          · cases h; exact ⟨h7, by omega⟩
      · cases h; exact ⟨h2, h3⟩
  have hrest : nT s i = .ok (S, j) → Bd s j ∧ i < j := fun h => by
    unfold nT at h
    split at h
    · rename_i h1
      cases h2 : wA (sb s (i + 1)) with
      | none => rw [h2] at h; exact hrange h
      | some S' =>
        rw [h2] at h
        cases h
        have h3 := (hb.asc hi (by omega)).1
        refine ⟨(h3.asc h1.1 ?_).1, by omega⟩
        rcases Nat.lt_or_ge (sb s (i + 1)) 128 with h4 | h4
        · exact h4
        · rw [tH (by omega)] at h2; cases h2
    · exact hrange h
  unfold kN at h
  split at h
  · rename_i h1
    cases h2 : kF s 58 93 s.size (i + 2) with
    | none => rw [h2] at h; exact hrest h
    | some k =>
      rw [h2] at h
      obtain ⟨h3, h4, -⟩ := (qN s 58 93 s.size (i + 2) (by omega)).1 k h2
      have hk : ∃ S', (.ok (S', k + 2) : PR) = .ok (S, j) := by
        replace h : (if i + 2 < k ∧ sb s (i + 2) = 94 then (match jH (s.extract (i + 3) k) with | none => .error 81 | some S => .ok (uO S, k + 2)) else (match jH (s.extract (i + 2) k) with | none => .error 81 | some S => .ok (S, k + 2)) : PR) = .ok (S, j) := h
        split at h
        · split at h
          · cases h
          · exact ⟨_, h⟩
        · split at h
          · cases h
          · exact ⟨_, h⟩
      obtain ⟨S', h5⟩ := hk
      cases h5
      have h6 : Bd s k := mS hb (by omega) (by have := h4.1; omega) (by have := h4.2.1; omega)
      exact ⟨isB.asc (b := 93) ⟨h4.1, h4.2.2⟩ (by decide) (isB.asc (b := 58) ⟨by have := h4.1; omega, h4.2.1⟩ (by decide) h6), by omega⟩
  · exact hrest h
theorem cut_iff {s : ByteArray} {i k : Nat} (hk : k ≤ s.size) : (Pre (s.extract i k) (ByteArray.mk #[94]) ↔ i < k ∧ sb s i = 94) ∧ (i < k → (s.extract i k).extract (ByteArray.mk #[94]).size (s.extract i k).size = s.extract (i + 1) k) := by
  have hns := fS (s := s) (a := i) (b := k) hk
  constructor
  · rw [LF]
    constructor
    · rintro ⟨h1, h2⟩
      rw [hns] at h1
      rw [eX hk (by omega)] at h2
      exact ⟨by omega, h2⟩
    · rintro ⟨h1, h2⟩
      exact ⟨by rw [hns]; omega, by rw [eX hk (by omega)]; exact h2⟩
  · intro h1
    show (s.extract i k).extract 1 (s.extract i k).size = _
    apply wW
    · rw [fS (Nat.le_refl _), hns, fS hk]; omega
    · intro j hj
      rw [fS (Nat.le_refl _), hns] at hj
      rw [eX (Nat.le_refl _) (by rw [hns]; omega), eX hk (by omega), eX hk (by omega), Nat.add_assoc]
theorem HH {w : World} {b : Nat} {s : ByteArray} {st : PS} {a : Option Addr} {c : Nat} {ob : Option Nat} (hR : RdAt w b s st a c ob) (hs : s.size ≤ 1000000) (hlt : st.pos < s.size) (hb : Bd s st.pos) (hG : Glb w) :
    Calls Tryz.prog 129 #[.pointer (some ⟨b, 0, none⟩)] w (RetP (fun v w' => ∃ S j, kN s st.pos = .ok (S, j) ∧ xB w w' v S 16 ∧ Evo [b] w w' ∧ RdAt w' b s (gU st j) a c ob) (fun v w' => ∃ e, kN s st.pos = .error e ∧ v = flt e ∧ Evo [b] w w')) := by
  have hap := hR.ap; have hgb : nE ∉ [b] := fun h => hR.glb hG (List.mem_singleton.1 h).symm
  have hle : st.pos ≤ s.size := by omega
  have hrs := fS (s := s) (a := st.pos) (Nat.le_refl s.size); have e0 : sb (s.extract st.pos s.size) 0 = sb s st.pos := gR (by omega); refine bO (N := 126) Tryz.func129 rfl rfl rfl ?_; refine aE (aB (aM (aD (aA (aE ?_))))); refine fH (by kernel_rfl) (by kernel_rfl) ?_; refine aV rfl (fun _ hq2 => bS rfl) ?_; refine aV rfl (fun _ hq2 => aQ rfl) ?_; refine aV rfl (fun _ hq2 => aF rfl dI) ?_; refine aV rfl (fun _ hq2 => aI rfl cO (aK (hq2.blk0 hR.blk) rfl)) ?_; refine aV rfl (fun _ hq2 => bS rfl) ?_; refine aV rfl (fun _ hq2 => aQ rfl) ?_; refine aV rfl (fun _ hq2 => aF rfl bH) ?_; refine aV rfl (fun _ hq2 => aI rfl bD (aK (hq2.blk0 hR.blk) rfl)) ?_; refine aV rfl (fun _ hq2 => gQ (l := st.pos) rfl rfl Tryz.underlying9 rfl hle) ?_; refine aV rfl (fun _ hq2 => eZ rfl) ?_; refine fN (fun wq1 hq2 => aA ?_); have hE3 := (Evo.refl [b] w).then hq2; have hB4 := hq2.blk0 hR.blk; have hO5 := hR.own.evo0 hq2; refine aE (aE (aB (aG ?_))); refine aN (vs := [_, _]) mJ rfl (uY (s.extract st.pos s.size) (ByteArray.mk #[91, 58]) (by omega) (show 2 ≤ 140737488355328 by omega)) rfl ?_; rintro _ w6 ⟨rfl, hw7⟩; have hE8 := hE3.then hw7; have hB9 := hw7.blk0 hB4; have hO10 := hO5.evo0 hw7; refine aD (aA (bI rfl (fun hc23 => ?_) (fun hc23 => ?_)))
  ·skip
   have hh2 := (lY hle).1 hc23; refine aE (aB (aG ?_))
   refine aC rfl (zR (l := 2) rfl rfl Tryz.underlying9 rfl (by have := hh2.2.1; omega) (NI hle)) ?_
   refine aN (vs := [_, _]) sO rfl (HI s 58 93 (st.pos + 2) (by have := hh2.2.1; omega) hs (hG.evo hE8 hgb)) rfl ?_
   rintro _ w11 ⟨rfl, hw12⟩; have hE13 := hE8.then hw12; have hB14 := hw12.blk0 hB9; have hO15 := hO10.evo0 hw12; refine aM (aD (aA (aE (aB (aG (aC rfl (fU rfl rfl) ?_)))))); refine aD (aA (bI rfl (fun hc28 => ?_) (fun hc28 => ?_)))
   ·skip
    obtain ⟨k, hk, hfk, hk2, hk3⟩ := HO hc28; rw [hfk]
    have e33 : (s.extract st.pos s.size).extract 2 (k - st.pos) = s.extract (st.pos + 2) k := by rw [wJ (by omega) (by omega), show st.pos + (k - st.pos) = k by omega]
    have hns := fS (s := s) (a := st.pos + 2) (b := k) (by omega); have hcut := cut_iff (s := s) (i := st.pos + 2) (k := k) (by omega); refine aE (aB (aG (aG ?_))); refine aC rfl (bC rfl rfl (by omega) (by omega)) ?_; refine aC rfl (pU (l := 2) (h := k - st.pos) rfl rfl rfl Tryz.underlying9 rfl (by omega) (by omega) (by omega) e33) ?_; refine aN (vs := [_, _]) AV rfl (cut_ok (s.extract (st.pos + 2) k) (ByteArray.mk #[94]) (by omega) (show 1 ≤ 140737488355328 by omega)) rfl ?_; rintro _ w16 ⟨rfl, hw17⟩; have hE18 := hE13.then hw17; have hB19 := hw17.blk0 hB14; have hO20 := hO15.evo0 hw17
    generalize hnm : (if Pre (s.extract (st.pos + 2) k) (ByteArray.mk #[94]) then (s.extract (st.pos + 2) k).extract (ByteArray.mk #[94]).size (s.extract (st.pos + 2) k).size else s.extract (st.pos + 2) k) = nm
    refine aG (aC rfl (cR rfl rfl) ?_); refine aC rfl (cR rfl rfl) ?_; refine aM (aM (aD (aA (aE (aB (aG (aN (vs := [_]) AU rfl (MH nm) rfl ?_))))))); rintro rv w21 ⟨hL, hw22⟩; obtain ⟨a1, c1, ob1, l1, rfl, hO1, hg1, hv1, hl1, hS1⟩ := hL.uni; have hA23 := Apart.fresh (Lt.blk hB19) hg1; have hG25 := Ge.fresh hE18 hg1; have hE26 := hE18.then hw22; have hB27 := hw22.blk0 hB19; have hO28 := hO20.evo0 hw22; refine aG (aC rfl (cR rfl rfl) ?_); refine aC rfl (cR rfl rfl) ?_; refine aM (aM (aD (aA (aE (aE (aB (aG (aC rfl (eU rfl) ?_)))))))); refine aD (aA (gC rfl (fun hc43 => ?_) (fun hc43 => ?_)))
    ·skip
     refine aB (bX (vs := [_]) cV rfl (eM 81) rfl ?_ ?_)
     ·skip
      intro pv wp hpp; obtain ⟨rfl, hpw⟩ := hpp; have hno := none_of hc43; refine And.intro rfl ⟨_, rfl, _, ?_, rfl, (hE26).then hpw⟩
      by_cases hP : Pre (s.extract (st.pos + 2) k) (ByteArray.mk #[94])
      · have h9 := hcut.1.1 hP; rw [if_pos hP, hcut.2 h9.1] at hnm; subst hnm; exact it_cutN hh2 hk h9 hno
      · rw [if_neg hP] at hnm; subst hnm; exact it_namN hh2 hk (fun h => hP (hcut.1.2 h)) hno
     intro _ _ hF; exact hF.elim
    obtain ⟨S1, hS1'⟩ := uT (by simpa using hc43); refine aW (aA (aE (aB (aG (aC rfl (aQ rfl) (aC rfl (aF rfl bH) (aC rfl (aI rfl bD (aK hB27 rfl)) (aG ?_)))))))); refine aC rfl (bC rfl rfl (by omega) (by omega)) ?_; refine aC rfl (HX (r := ((k + 2 : Nat) : Int)) rfl rfl (by omega) (by omega) (by omega)) ?_; refine aC rfl (aQ rfl) (aC rfl (aF rfl bH) (bK rfl rfl (rfl) bZ hB27 rfl fun w31 hB32 hw33 => ?_)); have hE34 := hE26.step hw33 (fun y hy => .inl hy); have hO35 := hO28.evo hw33 hap.symm.own1; have hO36 := hO1.evo hw33 hA23.symm.own1
    try simp only [cU, Nat.reduceAdd] at hB32
    refine aD (aA (aE (aE (aB (aG (aD (aA (bI rfl (fun hc54 => ?_) (fun hc54 => ?_)))))))))
    ·skip
     refine aB (aG ?_); refine aN (vs := [_]) kB rfl (lH hO36 hv1 (by omega) (hS1 S1 hS1')) rfl ?_; rintro rv w37 hR1; have hV9 := hE34; have hw38 := hR1.evo; have hE39 := hE34.then hw38; have hB40 := hw38.blk0 hB32; have hO41 := hO35.evo0 hw38; refine aM (aD (aA (aE (aB (aG (aM (aD (aA (aO (aP (bW (aJ rfl rfl ?_)))))))))))); have h9 := hcut.1.1 hc54; rw [if_pos hc54, hcut.2 h9.1] at hnm; subst hnm; exact ⟨_, _, it_cut hh2 hk h9 hS1', qH (hR1.set hV9) (by omega), hE39, ⟨hB40, hO41, hR.ne⟩⟩
    refine aW (aA (aE (aB (aG (aM (aD (aA (aO (aP (bW (aJ rfl rfl ?_))))))))))); rw [if_neg hc54] at hnm; subst hnm; exact ⟨_, _, it_nam hh2 hk (fun h => hc54 (hcut.1.2 h)) hS1', ⟨_, _, _, _, rfl, hO36, hG25, hv1, hS1 S1 hS1', by omega⟩, hE34, ⟨hB32, hO35, hR.ne⟩⟩
   refine aW (aA (aE (aE (aB (aG (aC rfl (cI rfl Tryz.underlying9 rfl) ?_)))))); refine aC rfl (fV rfl rfl) ?_; refine aG (aX (t := 61) rfl (fun hs61 => ?_) (fun hs61 => ?_))
   ·skip
    have e1 : sb (s.extract st.pos s.size) 1 = sb s (st.pos + 1) := gR (by omega); refine aR (aG (aR ?_)); refine aC rfl (fJ (n := 0) rfl rfl Tryz.underlying9 rfl (by omega) e0) ?_; refine aR (aC rfl (bF rfl rfl) ?_); refine bL (aD (aA (bI rfl (fun hc65 => ?_) (fun hc65 => ?_))))
    ·skip
     refine aE (aB (aG ?_)); refine aC rfl (fJ (n := 1) rfl rfl Tryz.underlying9 rfl (by omega) e1) ?_; refine aN (vs := [_]) oY rfl (oQ (sb s (st.pos + 1)) (gO s _)) rfl ?_; rintro rv w43 ⟨hL, hw44⟩; obtain ⟨a1, c1, ob1, l1, rfl, hO1, hg1, hv1, hl1, hS1⟩ := hL.uni; have hA45 := Apart.fresh (Lt.blk hB14) hg1; have hG47 := Ge.fresh hE13 hg1; have hE48 := hE13.then hw44; have hB49 := hw44.blk0 hB14; have hO50 := hO15.evo0 hw44; refine aG (aC rfl (cR rfl rfl) ?_); refine aC rfl (cR rfl rfl) ?_; refine aM (aM (aD (aA (aE (aB (aG (aD (aA (gC rfl (fun hc72 => ?_) (fun hc72 => ?_))))))))))
     ·skip
      obtain ⟨S1, hS1'⟩ := uT hc72; refine aE (aB (aG (aC rfl (aQ rfl) (aC rfl (aF rfl bH) (aC rfl (aI rfl bD (aK hB49 rfl)) ?_))))); refine aC rfl (bC rfl rfl (by omega) (by omega)) ?_; refine aC rfl (aQ rfl) (aC rfl (aF rfl bH) (bK rfl rfl (rfl) bZ hB49 rfl fun w51 hB52 hw53 => ?_)); have hE54 := hE48.step hw53 (fun y hy => .inl hy); have hO55 := hO50.evo hw53 hap.symm.own1; have hO56 := hO1.evo hw53 hA45.symm.own1
      try simp only [cU, Nat.reduceAdd] at hB52
      refine aD (aA (aE (aB (aG (aM (aD (aA (aO (aP (bW (aJ rfl rfl ?_))))))))))); exact ⟨_, _, (dX (fun _ => iL hc28)).trans (MS ⟨by omega, by omega⟩ hS1'), ⟨_, _, _, _, rfl, hO56, hG47, hv1, hS1 S1 hS1', by omega⟩, hE54, ⟨hB52, hO55, hR.ne⟩⟩
     refine aW (aA (aE (aB (aG (bX (vs := [_]) gF rfl (iS ⟨hB49, hO50, hR.ne⟩ hs hlt hb) rfl ?_ ?_)))))
     ·skip
      intro pv wp hpp; obtain ⟨hpe, rfl, hpw⟩ := hpp; exact And.intro rfl ⟨_, rfl, _, (dX (fun _ => iL hc28)).trans ((eW (fun _ => hY hc72)).trans (tD hpe)), rfl, (hE48).step hpw (fun y hy => .inl hy)⟩
     rintro _ w57 ⟨lo, j, hx, rfl, hw58, hR3⟩; have hE59 := hE48.step hw58 (fun y hy => .inl hy); obtain ⟨hbj, hij, hlo0, hlo1⟩ := kW hx hb hlt; have hpj : (gU st j).pos = j := rfl; have hbjl := hbj.le; have hrs2 := fS (s := s) (a := j) (Nat.le_refl s.size); refine aM (aD (aA (aE ?_))); refine fH (by kernel_rfl) (by kernel_rfl) ?_; refine aV rfl (fun _ hq62 => bS rfl) ?_; refine aV rfl (fun _ hq62 => aQ rfl) ?_; refine aV rfl (fun _ hq62 => aF rfl dI) ?_; refine aV rfl (fun _ hq62 => aI rfl cO (aK (hq62.blk0 hR3.blk) rfl)) ?_; refine aV rfl (fun _ hq62 => bS rfl) ?_; refine aV rfl (fun _ hq62 => aQ rfl) ?_; refine aV rfl (fun _ hq62 => aF rfl bH) ?_; refine aV rfl (fun _ hq62 => aI rfl bD (aK (hq62.blk0 hR3.blk) rfl)) ?_; refine aV rfl (fun _ hq62 => gQ (l := j) rfl rfl Tryz.underlying9 rfl hbj.le) ?_; refine aV rfl (fun _ hq62 => eZ rfl) ?_; refine fN (fun wq61 hq62 => aA ?_); have hE63 := hE59.then hq62; have hB65 := hq62.blk0 hR3.blk; have hO66 := hR3.own.evo0 hq62; refine aE (aE (aB (aG (aC rfl (cI rfl Tryz.underlying9 rfl) ?_)))); refine aC rfl (dH rfl rfl) ?_; refine aG (aX (t := 95) rfl (fun hs95 => ?_) (fun hs95 => ?_))
     ·skip
      refine aH (aH (aH (bL (aG (aH (aH (aH (bL (aD (aA (dA rfl ?_))))))))))); refine aE (aB (aG (aG (bM (vs := [_, _]) rfl cC rfl rfl rfl rfl fun b67 w68 hO69 hs70 hw71 => ?_)))); have hE76 := hE63.then hw71; have hB78 := hw71.blk0 hB65; have hO79 := hO66.evo0 hw71; refine aN (vs := [_]) cD rfl (dW (es := [lo, lo]) hO69 (by simp)) rfl ?_; rintro _ w80 ⟨a1, c1, ob1, rfl, hO1, hg1, hw81⟩; have hG86 := Ge.fresh hE76 hg1; have hE87 := hE76.then hw81; have hB89 := hw81.blk0 hB78; have hO90 := hO79.evo0 hw81; refine aM (aD (aA (aO (aP (bW (aJ rfl rfl ?_))))))
      exact ⟨_, _, (dX (fun _ => iL hc28)).trans ((eW (fun _ => hY hc72)).trans (jQ hx (by rintro ⟨⟨h1, h2⟩, h3, h4⟩; omega))), ⟨_, _, _, [(lo, lo)], rfl, hO1, hG86, (fun g hg => by rw [List.mem_singleton.1 hg]; exact ⟨hlo0, Int.le_refl _, hlo1⟩), jV lo lo, by simp⟩, hE87, ⟨hB89, hO90, hR.ne⟩⟩
     have f0 : sb (s.extract j s.size) 0 = sb s j := gR (by omega); have f1 : sb (s.extract j s.size) 1 = sb s (j + 1) := gR (by omega); refine aR (aG (aR ?_)); refine aC rfl (fJ (n := 0) rfl rfl Tryz.underlying9 rfl (by omega) f0) ?_; refine aR (aC rfl (gA rfl rfl) ?_); refine aU (aG (aX (t := 100) rfl (fun hs100 => ?_) (fun hs100 => ?_)))
     ·skip
      refine aH (aH (aH (bL (aD (aA (dA rfl ?_)))))); refine aE (aB (aG (aG (bM (vs := [_, _]) rfl cC rfl rfl rfl rfl fun b92 w93 hO94 hs95 hw96 => ?_)))); have hE101 := hE63.then hw96; have hB103 := hw96.blk0 hB65; have hO104 := hO66.evo0 hw96; refine aN (vs := [_]) cD rfl (dW (es := [lo, lo]) hO94 (by simp)) rfl ?_; rintro _ w105 ⟨a1, c1, ob1, rfl, hO1, hg1, hw106⟩; have hG111 := Ge.fresh hE101 hg1; have hE112 := hE101.then hw106; have hB114 := hw106.blk0 hB103; have hO115 := hO104.evo0 hw106; refine aM (aD (aA (aO (aP (bW (aJ rfl rfl ?_))))))
      exact ⟨_, _, (dX (fun _ => iL hc28)).trans ((eW (fun _ => hY hc72)).trans (jQ hx (by rintro ⟨⟨h1, h2⟩, h3, h4⟩; omega))), ⟨_, _, _, [(lo, lo)], rfl, hO1, hG111, (fun g hg => by rw [List.mem_singleton.1 hg]; exact ⟨hlo0, Int.le_refl _, hlo1⟩), jV lo lo, by simp⟩, hE112, ⟨hB114, hO115, hR.ne⟩⟩
     refine aR (aG (aR ?_)); refine aC rfl (fJ (n := 1) rfl rfl Tryz.underlying9 rfl (by omega) f1) ?_; refine aR (aC rfl (bF rfl rfl) ?_); refine aU (aD (aA (bI rfl (fun hc104 => ?_) (fun hc104 => ?_))))
     ·skip
      refine aE (aB (aG (aG (bM (vs := [_, _]) rfl cC rfl rfl rfl rfl fun b117 w118 hO119 hs120 hw121 => ?_)))); have hE126 := hE63.then hw121; have hB128 := hw121.blk0 hB65; have hO129 := hO66.evo0 hw121; refine aN (vs := [_]) cD rfl (dW (es := [lo, lo]) hO119 (by simp)) rfl ?_; rintro _ w130 ⟨a1, c1, ob1, rfl, hO1, hg1, hw131⟩; have hG136 := Ge.fresh hE126 hg1; have hE137 := hE126.then hw131; have hB139 := hw131.blk0 hB128; have hO140 := hO129.evo0 hw131; refine aM (aD (aA (aO (aP (bW (aJ rfl rfl ?_))))))
      exact ⟨_, _, (dX (fun _ => iL hc28)).trans ((eW (fun _ => hY hc72)).trans (jQ hx (by rintro ⟨⟨h1, h2⟩, h3, h4⟩; omega))), ⟨_, _, _, [(lo, lo)], rfl, hO1, hG136, (fun g hg => by rw [List.mem_singleton.1 hg]; exact ⟨hlo0, Int.le_refl _, hlo1⟩), jV lo lo, by simp⟩, hE137, ⟨hB139, hO140, hR.ne⟩⟩
     have hdash : isB s j 45 ∧ j + 1 < s.size ∧ sb s (j + 1) ≠ 93 := ⟨⟨by omega, by omega⟩, by omega, by omega⟩; have hbj1 := hdash.1.asc (by decide) hbj; refine aW (aA (aE (aB (aG (aC rfl (aQ rfl) (aC rfl (aF rfl bH) (aC rfl (aI rfl bD (aK hB65 rfl)) ?_))))))); refine aC rfl (bC rfl rfl (by omega) (by omega)) ?_; refine aC rfl (aQ rfl) (aC rfl (aF rfl bH) (bK rfl rfl (rfl) bZ hB65 rfl fun w142 hB143 hw144 => ?_)); have hE145 := hE63.step hw144 (fun y hy => .inl hy); have hO147 := hO66.evo hw144 hR3.ap.symm.own1
     try simp only [cU, Nat.reduceAdd] at hB143
     refine aD (aA (aE (aB (aG (bX (vs := [_]) gF rfl (iS (st := gU st (j + 1)) ⟨hB143, hO147, hR.ne⟩ hs hdash.2.1 hbj1) rfl ?_ ?_)))))
     ·skip
      intro pv wp hpp; obtain ⟨hpe, rfl, hpw⟩ := hpp; exact And.intro rfl ⟨_, rfl, _, (dX (fun _ => iL hc28)).trans ((eW (fun _ => hY hc72)).trans (qI hx hdash hpe)), rfl, (hE145).step hpw (fun y hy => .inl hy)⟩
     rintro _ w148 ⟨hi, m, hx2, rfl, hw149, hR4⟩; have hE150 := hE145.step hw149 (fun y hy => .inl hy); obtain ⟨hbm, hjm, hhi0, hhi1⟩ := kW hx2 hbj1 hdash.2.1; refine aM (aD (aA (aE (aE (aB (aG (aG (aC rfl (dH rfl rfl) ?_)))))))); refine aD (aA (bI rfl (fun hc120 => ?_) (fun hc120 => ?_)))
     ·skip
      refine aB (bX (vs := [_]) cV rfl (eM 81) rfl ?_ ?_)
      ·skip
       intro pv wp hpp; obtain ⟨rfl, hpw⟩ := hpp; exact And.intro rfl ⟨_, rfl, _, (dX (fun _ => iL hc28)).trans ((eW (fun _ => hY hc72)).trans (tE hx hdash hx2 (by omega))), rfl, (hE150).then hpw⟩
      intro _ _ hF; exact hF.elim
     refine aW (aA (aE (aB (aG (aG (bM (vs := [_, _]) rfl cC rfl rfl rfl rfl fun b154 w155 hO156 hs157 hw158 => ?_)))))); have hE163 := hE150.then hw158; have hB165 := hw158.blk0 hR4.blk; have hO166 := hR4.own.evo0 hw158; refine aN (vs := [_]) cD rfl (dW (es := [lo, hi]) hO156 (by simp)) rfl ?_; rintro _ w167 ⟨a1, c1, ob1, rfl, hO1, hg1, hw168⟩; have hG173 := Ge.fresh hE163 hg1; have hE174 := hE163.then hw168; have hB176 := hw168.blk0 hB165; have hO177 := hO166.evo0 hw168; refine aM (aD (aA (aO (bW (aJ rfl rfl ?_)))))
     exact ⟨_, _, (dX (fun _ => iL hc28)).trans ((eW (fun _ => hY hc72)).trans (tC hx hdash hx2 (by omega))), ⟨_, _, _, [(lo, hi)], rfl, hO1, hG173, (fun g hg => by rw [List.mem_singleton.1 hg]; exact ⟨hlo0, by omega, hhi1⟩), jV lo hi, by simp⟩, hE174, ⟨hB176, hO177, hR.ne⟩⟩
    refine aW (aA (aE (aB (aG (bX (vs := [_]) gF rfl (iS ⟨hB14, hO15, hR.ne⟩ hs hlt hb) rfl ?_ ?_)))))
    ·skip
     intro pv wp hpp; obtain ⟨hpe, rfl, hpw⟩ := hpp; exact And.intro rfl ⟨_, rfl, _, (dX (fun _ => iL hc28)).trans ((eW (fun h => by omega)).trans (tD hpe)), rfl, (hE13).step hpw (fun y hy => .inl hy)⟩
    rintro _ w179 ⟨lo, j, hx, rfl, hw180, hR3⟩; have hE181 := hE13.step hw180 (fun y hy => .inl hy); obtain ⟨hbj, hij, hlo0, hlo1⟩ := kW hx hb hlt; have hpj : (gU st j).pos = j := rfl; have hbjl := hbj.le; have hrs2 := fS (s := s) (a := j) (Nat.le_refl s.size); refine aM (aD (aA (aE ?_))); refine fH (by kernel_rfl) (by kernel_rfl) ?_; refine aV rfl (fun _ hq183 => bS rfl) ?_; refine aV rfl (fun _ hq183 => aQ rfl) ?_; refine aV rfl (fun _ hq183 => aF rfl dI) ?_; refine aV rfl (fun _ hq183 => aI rfl cO (aK (hq183.blk0 hR3.blk) rfl)) ?_; refine aV rfl (fun _ hq183 => bS rfl) ?_; refine aV rfl (fun _ hq183 => aQ rfl) ?_; refine aV rfl (fun _ hq183 => aF rfl bH) ?_; refine aV rfl (fun _ hq183 => aI rfl bD (aK (hq183.blk0 hR3.blk) rfl)) ?_; refine aV rfl (fun _ hq183 => gQ (l := j) rfl rfl Tryz.underlying9 rfl hbj.le) ?_; refine aV rfl (fun _ hq183 => eZ rfl) ?_; refine fN (fun wq182 hq183 => aA ?_); have hE184 := hE181.then hq183; have hB185 := hq183.blk0 hR3.blk; have hO186 := hR3.own.evo0 hq183; refine aE (aE (aB (aG (aC rfl (cI rfl Tryz.underlying9 rfl) ?_)))); refine aC rfl (dH rfl rfl) ?_; refine aG (aX (t := 95) rfl (fun hs95 => ?_) (fun hs95 => ?_))
    ·skip
     refine aH (aH (aH (bL (aG (aH (aH (aH (bL (aD (aA (dA rfl ?_))))))))))); refine aE (aB (aG (aG (bM (vs := [_, _]) rfl cC rfl rfl rfl rfl fun b187 w188 hO189 hs190 hw191 => ?_)))); have hE195 := hE184.then hw191; have hB196 := hw191.blk0 hB185; have hO197 := hO186.evo0 hw191; refine aN (vs := [_]) cD rfl (dW (es := [lo, lo]) hO189 (by simp)) rfl ?_; rintro _ w198 ⟨a1, c1, ob1, rfl, hO1, hg1, hw199⟩; have hG203 := Ge.fresh hE195 hg1; have hE204 := hE195.then hw199; have hB205 := hw199.blk0 hB196; have hO206 := hO197.evo0 hw199; refine aM (aD (aA (aO (aP (bW (aJ rfl rfl ?_))))))
     exact ⟨_, _, (dX (fun _ => iL hc28)).trans ((eW (fun h => by omega)).trans (jQ hx (by rintro ⟨⟨h1, h2⟩, h3, h4⟩; omega))), ⟨_, _, _, [(lo, lo)], rfl, hO1, hG203, (fun g hg => by rw [List.mem_singleton.1 hg]; exact ⟨hlo0, Int.le_refl _, hlo1⟩), jV lo lo, by simp⟩, hE204, ⟨hB205, hO206, hR.ne⟩⟩
    have f0 : sb (s.extract j s.size) 0 = sb s j := gR (by omega); have f1 : sb (s.extract j s.size) 1 = sb s (j + 1) := gR (by omega); refine aR (aG (aR ?_)); refine aC rfl (fJ (n := 0) rfl rfl Tryz.underlying9 rfl (by omega) f0) ?_; refine aR (aC rfl (gA rfl rfl) ?_); refine aU (aG (aX (t := 100) rfl (fun hs100 => ?_) (fun hs100 => ?_)))
    ·skip
     refine aH (aH (aH (bL (aD (aA (dA rfl ?_)))))); refine aE (aB (aG (aG (bM (vs := [_, _]) rfl cC rfl rfl rfl rfl fun b208 w209 hO210 hs211 hw212 => ?_)))); have hE216 := hE184.then hw212; have hB217 := hw212.blk0 hB185; have hO218 := hO186.evo0 hw212; refine aN (vs := [_]) cD rfl (dW (es := [lo, lo]) hO210 (by simp)) rfl ?_; rintro _ w219 ⟨a1, c1, ob1, rfl, hO1, hg1, hw220⟩; have hG224 := Ge.fresh hE216 hg1; have hE225 := hE216.then hw220; have hB226 := hw220.blk0 hB217; have hO227 := hO218.evo0 hw220; refine aM (aD (aA (aO (aP (bW (aJ rfl rfl ?_))))))
     exact ⟨_, _, (dX (fun _ => iL hc28)).trans ((eW (fun h => by omega)).trans (jQ hx (by rintro ⟨⟨h1, h2⟩, h3, h4⟩; omega))), ⟨_, _, _, [(lo, lo)], rfl, hO1, hG224, (fun g hg => by rw [List.mem_singleton.1 hg]; exact ⟨hlo0, Int.le_refl _, hlo1⟩), jV lo lo, by simp⟩, hE225, ⟨hB226, hO227, hR.ne⟩⟩
    refine aR (aG (aR ?_)); refine aC rfl (fJ (n := 1) rfl rfl Tryz.underlying9 rfl (by omega) f1) ?_; refine aR (aC rfl (bF rfl rfl) ?_); refine aU (aD (aA (bI rfl (fun hc104 => ?_) (fun hc104 => ?_))))
    ·skip
     refine aE (aB (aG (aG (bM (vs := [_, _]) rfl cC rfl rfl rfl rfl fun b229 w230 hO231 hs232 hw233 => ?_)))); have hE237 := hE184.then hw233; have hB238 := hw233.blk0 hB185; have hO239 := hO186.evo0 hw233; refine aN (vs := [_]) cD rfl (dW (es := [lo, lo]) hO231 (by simp)) rfl ?_; rintro _ w240 ⟨a1, c1, ob1, rfl, hO1, hg1, hw241⟩; have hG245 := Ge.fresh hE237 hg1; have hE246 := hE237.then hw241; have hB247 := hw241.blk0 hB238; have hO248 := hO239.evo0 hw241; refine aM (aD (aA (aO (aP (bW (aJ rfl rfl ?_))))))
     exact ⟨_, _, (dX (fun _ => iL hc28)).trans ((eW (fun h => by omega)).trans (jQ hx (by rintro ⟨⟨h1, h2⟩, h3, h4⟩; omega))), ⟨_, _, _, [(lo, lo)], rfl, hO1, hG245, (fun g hg => by rw [List.mem_singleton.1 hg]; exact ⟨hlo0, Int.le_refl _, hlo1⟩), jV lo lo, by simp⟩, hE246, ⟨hB247, hO248, hR.ne⟩⟩
    have hdash : isB s j 45 ∧ j + 1 < s.size ∧ sb s (j + 1) ≠ 93 := ⟨⟨by omega, by omega⟩, by omega, by omega⟩; have hbj1 := hdash.1.asc (by decide) hbj; refine aW (aA (aE (aB (aG (aC rfl (aQ rfl) (aC rfl (aF rfl bH) (aC rfl (aI rfl bD (aK hB185 rfl)) ?_))))))); refine aC rfl (bC rfl rfl (by omega) (by omega)) ?_; refine aC rfl (aQ rfl) (aC rfl (aF rfl bH) (bK rfl rfl (rfl) bZ hB185 rfl fun w250 hB251 hw252 => ?_)); have hE253 := hE184.step hw252 (fun y hy => .inl hy); have hO254 := hO186.evo hw252 hR3.ap.symm.own1
    try simp only [cU, Nat.reduceAdd] at hB251
    refine aD (aA (aE (aB (aG (bX (vs := [_]) gF rfl (iS (st := gU st (j + 1)) ⟨hB251, hO254, hR.ne⟩ hs hdash.2.1 hbj1) rfl ?_ ?_)))))
    ·skip
     intro pv wp hpp; obtain ⟨hpe, rfl, hpw⟩ := hpp; exact And.intro rfl ⟨_, rfl, _, (dX (fun _ => iL hc28)).trans ((eW (fun h => by omega)).trans (qI hx hdash hpe)), rfl, (hE253).step hpw (fun y hy => .inl hy)⟩
    rintro _ w255 ⟨hi, m, hx2, rfl, hw256, hR4⟩; have hE257 := hE253.step hw256 (fun y hy => .inl hy); obtain ⟨hbm, hjm, hhi0, hhi1⟩ := kW hx2 hbj1 hdash.2.1; refine aM (aD (aA (aE (aE (aB (aG (aG (aC rfl (dH rfl rfl) ?_)))))))); refine aD (aA (bI rfl (fun hc120 => ?_) (fun hc120 => ?_)))
    ·skip
     refine aB (bX (vs := [_]) cV rfl (eM 81) rfl ?_ ?_)
     ·skip
      intro pv wp hpp; obtain ⟨rfl, hpw⟩ := hpp; exact And.intro rfl ⟨_, rfl, _, (dX (fun _ => iL hc28)).trans ((eW (fun h => by omega)).trans (tE hx hdash hx2 (by omega))), rfl, (hE257).then hpw⟩
     intro _ _ hF; exact hF.elim
    refine aW (aA (aE (aB (aG (aG (bM (vs := [_, _]) rfl cC rfl rfl rfl rfl fun b260 w261 hO262 hs263 hw264 => ?_)))))); have hE268 := hE257.then hw264; have hB269 := hw264.blk0 hR4.blk; have hO270 := hR4.own.evo0 hw264; refine aN (vs := [_]) cD rfl (dW (es := [lo, hi]) hO262 (by simp)) rfl ?_; rintro _ w271 ⟨a1, c1, ob1, rfl, hO1, hg1, hw272⟩; have hG276 := Ge.fresh hE268 hg1; have hE277 := hE268.then hw272; have hB278 := hw272.blk0 hB269; have hO279 := hO270.evo0 hw272; refine aM (aD (aA (aO (bW (aJ rfl rfl ?_)))))
    exact ⟨_, _, (dX (fun _ => iL hc28)).trans ((eW (fun h => by omega)).trans (tC hx hdash hx2 (by omega))), ⟨_, _, _, [(lo, hi)], rfl, hO1, hG276, (fun g hg => by rw [List.mem_singleton.1 hg]; exact ⟨hlo0, by omega, hhi1⟩), jV lo hi, by simp⟩, hE277, ⟨hB278, hO279, hR.ne⟩⟩
   refine aH (aH (aH (aU (aD (aA (cK rfl ?_)))))); refine aW (aA (aE (aB (aG (bX (vs := [_]) gF rfl (iS ⟨hB14, hO15, hR.ne⟩ hs hlt hb) rfl ?_ ?_)))))
   ·skip
    intro pv wp hpp; obtain ⟨hpe, rfl, hpw⟩ := hpp; exact And.intro rfl ⟨_, rfl, _, (dX (fun _ => iL hc28)).trans ((eW (fun h => by omega)).trans (tD hpe)), rfl, (hE13).step hpw (fun y hy => .inl hy)⟩
   rintro _ w281 ⟨lo, j, hx, rfl, hw282, hR3⟩; have hE283 := hE13.step hw282 (fun y hy => .inl hy); obtain ⟨hbj, hij, hlo0, hlo1⟩ := kW hx hb hlt; have hpj : (gU st j).pos = j := rfl; have hbjl := hbj.le; have hrs2 := fS (s := s) (a := j) (Nat.le_refl s.size); refine aM (aD (aA (aE ?_))); refine fH (by kernel_rfl) (by kernel_rfl) ?_; refine aV rfl (fun _ hq285 => bS rfl) ?_; refine aV rfl (fun _ hq285 => aQ rfl) ?_; refine aV rfl (fun _ hq285 => aF rfl dI) ?_; refine aV rfl (fun _ hq285 => aI rfl cO (aK (hq285.blk0 hR3.blk) rfl)) ?_; refine aV rfl (fun _ hq285 => bS rfl) ?_; refine aV rfl (fun _ hq285 => aQ rfl) ?_; refine aV rfl (fun _ hq285 => aF rfl bH) ?_; refine aV rfl (fun _ hq285 => aI rfl bD (aK (hq285.blk0 hR3.blk) rfl)) ?_; refine aV rfl (fun _ hq285 => gQ (l := j) rfl rfl Tryz.underlying9 rfl hbj.le) ?_; refine aV rfl (fun _ hq285 => eZ rfl) ?_; refine fN (fun wq284 hq285 => aA ?_); have hE286 := hE283.then hq285; have hB287 := hq285.blk0 hR3.blk; have hO288 := hR3.own.evo0 hq285; refine aE (aE (aB (aG (aC rfl (cI rfl Tryz.underlying9 rfl) ?_)))); refine aC rfl (dH rfl rfl) ?_; refine aG (aX (t := 95) rfl (fun hs95 => ?_) (fun hs95 => ?_))
   ·skip
    refine aH (aH (aH (bL (aG (aH (aH (aH (bL (aD (aA (dA rfl ?_))))))))))); refine aE (aB (aG (aG (bM (vs := [_, _]) rfl cC rfl rfl rfl rfl fun b289 w290 hO291 hs292 hw293 => ?_)))); have hE297 := hE286.then hw293; have hB298 := hw293.blk0 hB287; have hO299 := hO288.evo0 hw293; refine aN (vs := [_]) cD rfl (dW (es := [lo, lo]) hO291 (by simp)) rfl ?_; rintro _ w300 ⟨a1, c1, ob1, rfl, hO1, hg1, hw301⟩; have hG305 := Ge.fresh hE297 hg1; have hE306 := hE297.then hw301; have hB307 := hw301.blk0 hB298; have hO308 := hO299.evo0 hw301; refine aM (aD (aA (aO (aP (bW (aJ rfl rfl ?_))))))
    exact ⟨_, _, (dX (fun _ => iL hc28)).trans ((eW (fun h => by omega)).trans (jQ hx (by rintro ⟨⟨h1, h2⟩, h3, h4⟩; omega))), ⟨_, _, _, [(lo, lo)], rfl, hO1, hG305, (fun g hg => by rw [List.mem_singleton.1 hg]; exact ⟨hlo0, Int.le_refl _, hlo1⟩), jV lo lo, by simp⟩, hE306, ⟨hB307, hO308, hR.ne⟩⟩
   have f0 : sb (s.extract j s.size) 0 = sb s j := gR (by omega); have f1 : sb (s.extract j s.size) 1 = sb s (j + 1) := gR (by omega); refine aR (aG (aR ?_)); refine aC rfl (fJ (n := 0) rfl rfl Tryz.underlying9 rfl (by omega) f0) ?_; refine aR (aC rfl (gA rfl rfl) ?_); refine aU (aG (aX (t := 100) rfl (fun hs100 => ?_) (fun hs100 => ?_)))
   ·skip
    refine aH (aH (aH (bL (aD (aA (dA rfl ?_)))))); refine aE (aB (aG (aG (bM (vs := [_, _]) rfl cC rfl rfl rfl rfl fun b310 w311 hO312 hs313 hw314 => ?_)))); have hE318 := hE286.then hw314; have hB319 := hw314.blk0 hB287; have hO320 := hO288.evo0 hw314; refine aN (vs := [_]) cD rfl (dW (es := [lo, lo]) hO312 (by simp)) rfl ?_; rintro _ w321 ⟨a1, c1, ob1, rfl, hO1, hg1, hw322⟩; have hG326 := Ge.fresh hE318 hg1; have hE327 := hE318.then hw322; have hB328 := hw322.blk0 hB319; have hO329 := hO320.evo0 hw322; refine aM (aD (aA (aO (aP (bW (aJ rfl rfl ?_))))))
    exact ⟨_, _, (dX (fun _ => iL hc28)).trans ((eW (fun h => by omega)).trans (jQ hx (by rintro ⟨⟨h1, h2⟩, h3, h4⟩; omega))), ⟨_, _, _, [(lo, lo)], rfl, hO1, hG326, (fun g hg => by rw [List.mem_singleton.1 hg]; exact ⟨hlo0, Int.le_refl _, hlo1⟩), jV lo lo, by simp⟩, hE327, ⟨hB328, hO329, hR.ne⟩⟩
   refine aR (aG (aR ?_)); refine aC rfl (fJ (n := 1) rfl rfl Tryz.underlying9 rfl (by omega) f1) ?_; refine aR (aC rfl (bF rfl rfl) ?_); refine aU (aD (aA (bI rfl (fun hc104 => ?_) (fun hc104 => ?_))))
   ·skip
    refine aE (aB (aG (aG (bM (vs := [_, _]) rfl cC rfl rfl rfl rfl fun b331 w332 hO333 hs334 hw335 => ?_)))); have hE339 := hE286.then hw335; have hB340 := hw335.blk0 hB287; have hO341 := hO288.evo0 hw335; refine aN (vs := [_]) cD rfl (dW (es := [lo, lo]) hO333 (by simp)) rfl ?_; rintro _ w342 ⟨a1, c1, ob1, rfl, hO1, hg1, hw343⟩; have hG347 := Ge.fresh hE339 hg1; have hE348 := hE339.then hw343; have hB349 := hw343.blk0 hB340; have hO350 := hO341.evo0 hw343; refine aM (aD (aA (aO (aP (bW (aJ rfl rfl ?_))))))
    exact ⟨_, _, (dX (fun _ => iL hc28)).trans ((eW (fun h => by omega)).trans (jQ hx (by rintro ⟨⟨h1, h2⟩, h3, h4⟩; omega))), ⟨_, _, _, [(lo, lo)], rfl, hO1, hG347, (fun g hg => by rw [List.mem_singleton.1 hg]; exact ⟨hlo0, Int.le_refl _, hlo1⟩), jV lo lo, by simp⟩, hE348, ⟨hB349, hO350, hR.ne⟩⟩
   have hdash : isB s j 45 ∧ j + 1 < s.size ∧ sb s (j + 1) ≠ 93 := ⟨⟨by omega, by omega⟩, by omega, by omega⟩; have hbj1 := hdash.1.asc (by decide) hbj; refine aW (aA (aE (aB (aG (aC rfl (aQ rfl) (aC rfl (aF rfl bH) (aC rfl (aI rfl bD (aK hB287 rfl)) ?_))))))); refine aC rfl (bC rfl rfl (by omega) (by omega)) ?_; refine aC rfl (aQ rfl) (aC rfl (aF rfl bH) (bK rfl rfl (rfl) bZ hB287 rfl fun w352 hB353 hw354 => ?_)); have hE355 := hE286.step hw354 (fun y hy => .inl hy); have hO356 := hO288.evo hw354 hR3.ap.symm.own1
   try simp only [cU, Nat.reduceAdd] at hB353
   refine aD (aA (aE (aB (aG (bX (vs := [_]) gF rfl (iS (st := gU st (j + 1)) ⟨hB353, hO356, hR.ne⟩ hs hdash.2.1 hbj1) rfl ?_ ?_)))))
   ·skip
    intro pv wp hpp; obtain ⟨hpe, rfl, hpw⟩ := hpp; exact And.intro rfl ⟨_, rfl, _, (dX (fun _ => iL hc28)).trans ((eW (fun h => by omega)).trans (qI hx hdash hpe)), rfl, (hE355).step hpw (fun y hy => .inl hy)⟩
   rintro _ w357 ⟨hi, m, hx2, rfl, hw358, hR4⟩; have hE359 := hE355.step hw358 (fun y hy => .inl hy); obtain ⟨hbm, hjm, hhi0, hhi1⟩ := kW hx2 hbj1 hdash.2.1; refine aM (aD (aA (aE (aE (aB (aG (aG (aC rfl (dH rfl rfl) ?_)))))))); refine aD (aA (bI rfl (fun hc120 => ?_) (fun hc120 => ?_)))
   ·skip
    refine aB (bX (vs := [_]) cV rfl (eM 81) rfl ?_ ?_)
    ·skip
     intro pv wp hpp; obtain ⟨rfl, hpw⟩ := hpp; exact And.intro rfl ⟨_, rfl, _, (dX (fun _ => iL hc28)).trans ((eW (fun h => by omega)).trans (tE hx hdash hx2 (by omega))), rfl, (hE359).then hpw⟩
    intro _ _ hF; exact hF.elim
   refine aW (aA (aE (aB (aG (aG (bM (vs := [_, _]) rfl cC rfl rfl rfl rfl fun b362 w363 hO364 hs365 hw366 => ?_)))))); have hE370 := hE359.then hw366; have hB371 := hw366.blk0 hR4.blk; have hO372 := hR4.own.evo0 hw366; refine aN (vs := [_]) cD rfl (dW (es := [lo, hi]) hO364 (by simp)) rfl ?_; rintro _ w373 ⟨a1, c1, ob1, rfl, hO1, hg1, hw374⟩; have hG378 := Ge.fresh hE370 hg1; have hE379 := hE370.then hw374; have hB380 := hw374.blk0 hB371; have hO381 := hO372.evo0 hw374; refine aM (aD (aA (aO (bW (aJ rfl rfl ?_)))))
   exact ⟨_, _, (dX (fun _ => iL hc28)).trans ((eW (fun h => by omega)).trans (tC hx hdash hx2 (by omega))), ⟨_, _, _, [(lo, hi)], rfl, hO1, hG378, (fun g hg => by rw [List.mem_singleton.1 hg]; exact ⟨hlo0, by omega, hhi1⟩), jV lo hi, by simp⟩, hE379, ⟨hB380, hO381, hR.ne⟩⟩
  refine aW (aA (aE (aE (aB (aG (aC rfl (cI rfl Tryz.underlying9 rfl) ?_)))))); refine aC rfl (fV rfl rfl) ?_; refine aG (aX (t := 61) rfl (fun hs61 => ?_) (fun hs61 => ?_))
  ·skip
   have e1 : sb (s.extract st.pos s.size) 1 = sb s (st.pos + 1) := gR (by omega); refine aR (aG (aR ?_)); refine aC rfl (fJ (n := 0) rfl rfl Tryz.underlying9 rfl (by omega) e0) ?_; refine aR (aC rfl (bF rfl rfl) ?_); refine bL (aD (aA (bI rfl (fun hc65 => ?_) (fun hc65 => ?_))))
   ·skip
    refine aE (aB (aG ?_)); refine aC rfl (fJ (n := 1) rfl rfl Tryz.underlying9 rfl (by omega) e1) ?_; refine aN (vs := [_]) oY rfl (oQ (sb s (st.pos + 1)) (gO s _)) rfl ?_; rintro rv w383 ⟨hL, hw384⟩; obtain ⟨a1, c1, ob1, l1, rfl, hO1, hg1, hv1, hl1, hS1⟩ := hL.uni; have hA385 := Apart.fresh (Lt.blk hB9) hg1; have hG387 := Ge.fresh hE8 hg1; have hE388 := hE8.then hw384; have hB389 := hw384.blk0 hB9; have hO390 := hO10.evo0 hw384; refine aG (aC rfl (cR rfl rfl) ?_); refine aC rfl (cR rfl rfl) ?_; refine aM (aM (aD (aA (aE (aB (aG (aD (aA (gC rfl (fun hc72 => ?_) (fun hc72 => ?_))))))))))
    ·skip
     obtain ⟨S1, hS1'⟩ := uT hc72; refine aE (aB (aG (aC rfl (aQ rfl) (aC rfl (aF rfl bH) (aC rfl (aI rfl bD (aK hB389 rfl)) ?_))))); refine aC rfl (bC rfl rfl (by omega) (by omega)) ?_; refine aC rfl (aQ rfl) (aC rfl (aF rfl bH) (bK rfl rfl (rfl) bZ hB389 rfl fun w391 hB392 hw393 => ?_)); have hE394 := hE388.step hw393 (fun y hy => .inl hy); have hO395 := hO390.evo hw393 hap.symm.own1; have hO396 := hO1.evo hw393 hA385.symm.own1
     try simp only [cU, Nat.reduceAdd] at hB392
     refine aD (aA (aE (aB (aG (aM (aD (aA (aO (aP (bW (aJ rfl rfl ?_))))))))))); exact ⟨_, _, (dX (fun h => absurd ((lY hle).2 h) hc23)).trans (MS ⟨by omega, by omega⟩ hS1'), ⟨_, _, _, _, rfl, hO396, hG387, hv1, hS1 S1 hS1', by omega⟩, hE394, ⟨hB392, hO395, hR.ne⟩⟩
    refine aW (aA (aE (aB (aG (bX (vs := [_]) gF rfl (iS ⟨hB389, hO390, hR.ne⟩ hs hlt hb) rfl ?_ ?_)))))
    ·skip
     intro pv wp hpp; obtain ⟨hpe, rfl, hpw⟩ := hpp; exact And.intro rfl ⟨_, rfl, _, (dX (fun h => absurd ((lY hle).2 h) hc23)).trans ((eW (fun _ => hY hc72)).trans (tD hpe)), rfl, (hE388).step hpw (fun y hy => .inl hy)⟩
    rintro _ w397 ⟨lo, j, hx, rfl, hw398, hR3⟩; have hE399 := hE388.step hw398 (fun y hy => .inl hy); obtain ⟨hbj, hij, hlo0, hlo1⟩ := kW hx hb hlt; have hpj : (gU st j).pos = j := rfl; have hbjl := hbj.le; have hrs2 := fS (s := s) (a := j) (Nat.le_refl s.size); refine aM (aD (aA (aE ?_))); refine fH (by kernel_rfl) (by kernel_rfl) ?_; refine aV rfl (fun _ hq402 => bS rfl) ?_; refine aV rfl (fun _ hq402 => aQ rfl) ?_; refine aV rfl (fun _ hq402 => aF rfl dI) ?_; refine aV rfl (fun _ hq402 => aI rfl cO (aK (hq402.blk0 hR3.blk) rfl)) ?_; refine aV rfl (fun _ hq402 => bS rfl) ?_; refine aV rfl (fun _ hq402 => aQ rfl) ?_; refine aV rfl (fun _ hq402 => aF rfl bH) ?_; refine aV rfl (fun _ hq402 => aI rfl bD (aK (hq402.blk0 hR3.blk) rfl)) ?_; refine aV rfl (fun _ hq402 => gQ (l := j) rfl rfl Tryz.underlying9 rfl hbj.le) ?_; refine aV rfl (fun _ hq402 => eZ rfl) ?_; refine fN (fun wq401 hq402 => aA ?_); have hE403 := hE399.then hq402; have hB405 := hq402.blk0 hR3.blk; have hO406 := hR3.own.evo0 hq402; refine aE (aE (aB (aG (aC rfl (cI rfl Tryz.underlying9 rfl) ?_)))); refine aC rfl (dH rfl rfl) ?_; refine aG (aX (t := 95) rfl (fun hs95 => ?_) (fun hs95 => ?_))
    ·skip
     refine aH (aH (aH (bL (aG (aH (aH (aH (bL (aD (aA (dA rfl ?_))))))))))); refine aE (aB (aG (aG (bM (vs := [_, _]) rfl cC rfl rfl rfl rfl fun b407 w408 hO409 hs410 hw411 => ?_)))); have hE416 := hE403.then hw411; have hB418 := hw411.blk0 hB405; have hO419 := hO406.evo0 hw411; refine aN (vs := [_]) cD rfl (dW (es := [lo, lo]) hO409 (by simp)) rfl ?_; rintro _ w420 ⟨a1, c1, ob1, rfl, hO1, hg1, hw421⟩; have hG426 := Ge.fresh hE416 hg1; have hE427 := hE416.then hw421; have hB429 := hw421.blk0 hB418; have hO430 := hO419.evo0 hw421; refine aM (aD (aA (aO (aP (bW (aJ rfl rfl ?_))))))
     exact ⟨_, _, (dX (fun h => absurd ((lY hle).2 h) hc23)).trans ((eW (fun _ => hY hc72)).trans (jQ hx (by rintro ⟨⟨h1, h2⟩, h3, h4⟩; omega))), ⟨_, _, _, [(lo, lo)], rfl, hO1, hG426, (fun g hg => by rw [List.mem_singleton.1 hg]; exact ⟨hlo0, Int.le_refl _, hlo1⟩), jV lo lo, by simp⟩, hE427, ⟨hB429, hO430, hR.ne⟩⟩
    have f0 : sb (s.extract j s.size) 0 = sb s j := gR (by omega); have f1 : sb (s.extract j s.size) 1 = sb s (j + 1) := gR (by omega); refine aR (aG (aR ?_)); refine aC rfl (fJ (n := 0) rfl rfl Tryz.underlying9 rfl (by omega) f0) ?_; refine aR (aC rfl (gA rfl rfl) ?_); refine aU (aG (aX (t := 100) rfl (fun hs100 => ?_) (fun hs100 => ?_)))
    ·skip
     refine aH (aH (aH (bL (aD (aA (dA rfl ?_)))))); refine aE (aB (aG (aG (bM (vs := [_, _]) rfl cC rfl rfl rfl rfl fun b432 w433 hO434 hs435 hw436 => ?_)))); have hE441 := hE403.then hw436; have hB443 := hw436.blk0 hB405; have hO444 := hO406.evo0 hw436; refine aN (vs := [_]) cD rfl (dW (es := [lo, lo]) hO434 (by simp)) rfl ?_; rintro _ w445 ⟨a1, c1, ob1, rfl, hO1, hg1, hw446⟩; have hG451 := Ge.fresh hE441 hg1; have hE452 := hE441.then hw446; have hB454 := hw446.blk0 hB443; have hO455 := hO444.evo0 hw446; refine aM (aD (aA (aO (aP (bW (aJ rfl rfl ?_))))))
     exact ⟨_, _, (dX (fun h => absurd ((lY hle).2 h) hc23)).trans ((eW (fun _ => hY hc72)).trans (jQ hx (by rintro ⟨⟨h1, h2⟩, h3, h4⟩; omega))), ⟨_, _, _, [(lo, lo)], rfl, hO1, hG451, (fun g hg => by rw [List.mem_singleton.1 hg]; exact ⟨hlo0, Int.le_refl _, hlo1⟩), jV lo lo, by simp⟩, hE452, ⟨hB454, hO455, hR.ne⟩⟩
    refine aR (aG (aR ?_)); refine aC rfl (fJ (n := 1) rfl rfl Tryz.underlying9 rfl (by omega) f1) ?_; refine aR (aC rfl (bF rfl rfl) ?_); refine aU (aD (aA (bI rfl (fun hc104 => ?_) (fun hc104 => ?_))))
    ·skip
     refine aE (aB (aG (aG (bM (vs := [_, _]) rfl cC rfl rfl rfl rfl fun b457 w458 hO459 hs460 hw461 => ?_)))); have hE466 := hE403.then hw461; have hB468 := hw461.blk0 hB405; have hO469 := hO406.evo0 hw461; refine aN (vs := [_]) cD rfl (dW (es := [lo, lo]) hO459 (by simp)) rfl ?_; rintro _ w470 ⟨a1, c1, ob1, rfl, hO1, hg1, hw471⟩; have hG476 := Ge.fresh hE466 hg1; have hE477 := hE466.then hw471; have hB479 := hw471.blk0 hB468; have hO480 := hO469.evo0 hw471; refine aM (aD (aA (aO (aP (bW (aJ rfl rfl ?_))))))
     exact ⟨_, _, (dX (fun h => absurd ((lY hle).2 h) hc23)).trans ((eW (fun _ => hY hc72)).trans (jQ hx (by rintro ⟨⟨h1, h2⟩, h3, h4⟩; omega))), ⟨_, _, _, [(lo, lo)], rfl, hO1, hG476, (fun g hg => by rw [List.mem_singleton.1 hg]; exact ⟨hlo0, Int.le_refl _, hlo1⟩), jV lo lo, by simp⟩, hE477, ⟨hB479, hO480, hR.ne⟩⟩
    have hdash : isB s j 45 ∧ j + 1 < s.size ∧ sb s (j + 1) ≠ 93 := ⟨⟨by omega, by omega⟩, by omega, by omega⟩; have hbj1 := hdash.1.asc (by decide) hbj; refine aW (aA (aE (aB (aG (aC rfl (aQ rfl) (aC rfl (aF rfl bH) (aC rfl (aI rfl bD (aK hB405 rfl)) ?_))))))); refine aC rfl (bC rfl rfl (by omega) (by omega)) ?_; refine aC rfl (aQ rfl) (aC rfl (aF rfl bH) (bK rfl rfl (rfl) bZ hB405 rfl fun w482 hB483 hw484 => ?_)); have hE485 := hE403.step hw484 (fun y hy => .inl hy); have hO487 := hO406.evo hw484 hR3.ap.symm.own1
    try simp only [cU, Nat.reduceAdd] at hB483
    refine aD (aA (aE (aB (aG (bX (vs := [_]) gF rfl (iS (st := gU st (j + 1)) ⟨hB483, hO487, hR.ne⟩ hs hdash.2.1 hbj1) rfl ?_ ?_)))))
    ·skip
     intro pv wp hpp; obtain ⟨hpe, rfl, hpw⟩ := hpp; exact And.intro rfl ⟨_, rfl, _, (dX (fun h => absurd ((lY hle).2 h) hc23)).trans ((eW (fun _ => hY hc72)).trans (qI hx hdash hpe)), rfl, (hE485).step hpw (fun y hy => .inl hy)⟩
    rintro _ w488 ⟨hi, m, hx2, rfl, hw489, hR4⟩; have hE490 := hE485.step hw489 (fun y hy => .inl hy); obtain ⟨hbm, hjm, hhi0, hhi1⟩ := kW hx2 hbj1 hdash.2.1; refine aM (aD (aA (aE (aE (aB (aG (aG (aC rfl (dH rfl rfl) ?_)))))))); refine aD (aA (bI rfl (fun hc120 => ?_) (fun hc120 => ?_)))
    ·skip
     refine aB (bX (vs := [_]) cV rfl (eM 81) rfl ?_ ?_)
     ·skip
      intro pv wp hpp; obtain ⟨rfl, hpw⟩ := hpp; exact And.intro rfl ⟨_, rfl, _, (dX (fun h => absurd ((lY hle).2 h) hc23)).trans ((eW (fun _ => hY hc72)).trans (tE hx hdash hx2 (by omega))), rfl, (hE490).then hpw⟩
     intro _ _ hF; exact hF.elim
    refine aW (aA (aE (aB (aG (aG (bM (vs := [_, _]) rfl cC rfl rfl rfl rfl fun b494 w495 hO496 hs497 hw498 => ?_)))))); have hE503 := hE490.then hw498; have hB505 := hw498.blk0 hR4.blk; have hO506 := hR4.own.evo0 hw498; refine aN (vs := [_]) cD rfl (dW (es := [lo, hi]) hO496 (by simp)) rfl ?_; rintro _ w507 ⟨a1, c1, ob1, rfl, hO1, hg1, hw508⟩; have hG513 := Ge.fresh hE503 hg1; have hE514 := hE503.then hw508; have hB516 := hw508.blk0 hB505; have hO517 := hO506.evo0 hw508; refine aM (aD (aA (aO (bW (aJ rfl rfl ?_)))))
    exact ⟨_, _, (dX (fun h => absurd ((lY hle).2 h) hc23)).trans ((eW (fun _ => hY hc72)).trans (tC hx hdash hx2 (by omega))), ⟨_, _, _, [(lo, hi)], rfl, hO1, hG513, (fun g hg => by rw [List.mem_singleton.1 hg]; exact ⟨hlo0, by omega, hhi1⟩), jV lo hi, by simp⟩, hE514, ⟨hB516, hO517, hR.ne⟩⟩
   refine aW (aA (aE (aB (aG (bX (vs := [_]) gF rfl (iS ⟨hB9, hO10, hR.ne⟩ hs hlt hb) rfl ?_ ?_)))))
   ·skip
    intro pv wp hpp; obtain ⟨hpe, rfl, hpw⟩ := hpp; exact And.intro rfl ⟨_, rfl, _, (dX (fun h => absurd ((lY hle).2 h) hc23)).trans ((eW (fun h => by omega)).trans (tD hpe)), rfl, (hE8).step hpw (fun y hy => .inl hy)⟩
   rintro _ w519 ⟨lo, j, hx, rfl, hw520, hR3⟩; have hE521 := hE8.step hw520 (fun y hy => .inl hy); obtain ⟨hbj, hij, hlo0, hlo1⟩ := kW hx hb hlt; have hpj : (gU st j).pos = j := rfl; have hbjl := hbj.le; have hrs2 := fS (s := s) (a := j) (Nat.le_refl s.size); refine aM (aD (aA (aE ?_))); refine fH (by kernel_rfl) (by kernel_rfl) ?_; refine aV rfl (fun _ hq523 => bS rfl) ?_; refine aV rfl (fun _ hq523 => aQ rfl) ?_; refine aV rfl (fun _ hq523 => aF rfl dI) ?_; refine aV rfl (fun _ hq523 => aI rfl cO (aK (hq523.blk0 hR3.blk) rfl)) ?_; refine aV rfl (fun _ hq523 => bS rfl) ?_; refine aV rfl (fun _ hq523 => aQ rfl) ?_; refine aV rfl (fun _ hq523 => aF rfl bH) ?_; refine aV rfl (fun _ hq523 => aI rfl bD (aK (hq523.blk0 hR3.blk) rfl)) ?_; refine aV rfl (fun _ hq523 => gQ (l := j) rfl rfl Tryz.underlying9 rfl hbj.le) ?_; refine aV rfl (fun _ hq523 => eZ rfl) ?_; refine fN (fun wq522 hq523 => aA ?_); have hE524 := hE521.then hq523; have hB525 := hq523.blk0 hR3.blk; have hO526 := hR3.own.evo0 hq523; refine aE (aE (aB (aG (aC rfl (cI rfl Tryz.underlying9 rfl) ?_)))); refine aC rfl (dH rfl rfl) ?_; refine aG (aX (t := 95) rfl (fun hs95 => ?_) (fun hs95 => ?_))
   ·skip
    refine aH (aH (aH (bL (aG (aH (aH (aH (bL (aD (aA (dA rfl ?_))))))))))); refine aE (aB (aG (aG (bM (vs := [_, _]) rfl cC rfl rfl rfl rfl fun b527 w528 hO529 hs530 hw531 => ?_)))); have hE535 := hE524.then hw531; have hB536 := hw531.blk0 hB525; have hO537 := hO526.evo0 hw531; refine aN (vs := [_]) cD rfl (dW (es := [lo, lo]) hO529 (by simp)) rfl ?_; rintro _ w538 ⟨a1, c1, ob1, rfl, hO1, hg1, hw539⟩; have hG543 := Ge.fresh hE535 hg1; have hE544 := hE535.then hw539; have hB545 := hw539.blk0 hB536; have hO546 := hO537.evo0 hw539; refine aM (aD (aA (aO (aP (bW (aJ rfl rfl ?_))))))
    exact ⟨_, _, (dX (fun h => absurd ((lY hle).2 h) hc23)).trans ((eW (fun h => by omega)).trans (jQ hx (by rintro ⟨⟨h1, h2⟩, h3, h4⟩; omega))), ⟨_, _, _, [(lo, lo)], rfl, hO1, hG543, (fun g hg => by rw [List.mem_singleton.1 hg]; exact ⟨hlo0, Int.le_refl _, hlo1⟩), jV lo lo, by simp⟩, hE544, ⟨hB545, hO546, hR.ne⟩⟩
   have f0 : sb (s.extract j s.size) 0 = sb s j := gR (by omega); have f1 : sb (s.extract j s.size) 1 = sb s (j + 1) := gR (by omega); refine aR (aG (aR ?_)); refine aC rfl (fJ (n := 0) rfl rfl Tryz.underlying9 rfl (by omega) f0) ?_; refine aR (aC rfl (gA rfl rfl) ?_); refine aU (aG (aX (t := 100) rfl (fun hs100 => ?_) (fun hs100 => ?_)))
   ·skip
    refine aH (aH (aH (bL (aD (aA (dA rfl ?_)))))); refine aE (aB (aG (aG (bM (vs := [_, _]) rfl cC rfl rfl rfl rfl fun b548 w549 hO550 hs551 hw552 => ?_)))); have hE556 := hE524.then hw552; have hB557 := hw552.blk0 hB525; have hO558 := hO526.evo0 hw552; refine aN (vs := [_]) cD rfl (dW (es := [lo, lo]) hO550 (by simp)) rfl ?_; rintro _ w559 ⟨a1, c1, ob1, rfl, hO1, hg1, hw560⟩; have hG564 := Ge.fresh hE556 hg1; have hE565 := hE556.then hw560; have hB566 := hw560.blk0 hB557; have hO567 := hO558.evo0 hw560; refine aM (aD (aA (aO (aP (bW (aJ rfl rfl ?_))))))
    exact ⟨_, _, (dX (fun h => absurd ((lY hle).2 h) hc23)).trans ((eW (fun h => by omega)).trans (jQ hx (by rintro ⟨⟨h1, h2⟩, h3, h4⟩; omega))), ⟨_, _, _, [(lo, lo)], rfl, hO1, hG564, (fun g hg => by rw [List.mem_singleton.1 hg]; exact ⟨hlo0, Int.le_refl _, hlo1⟩), jV lo lo, by simp⟩, hE565, ⟨hB566, hO567, hR.ne⟩⟩
   refine aR (aG (aR ?_)); refine aC rfl (fJ (n := 1) rfl rfl Tryz.underlying9 rfl (by omega) f1) ?_; refine aR (aC rfl (bF rfl rfl) ?_); refine aU (aD (aA (bI rfl (fun hc104 => ?_) (fun hc104 => ?_))))
   ·skip
    refine aE (aB (aG (aG (bM (vs := [_, _]) rfl cC rfl rfl rfl rfl fun b569 w570 hO571 hs572 hw573 => ?_)))); have hE577 := hE524.then hw573; have hB578 := hw573.blk0 hB525; have hO579 := hO526.evo0 hw573; refine aN (vs := [_]) cD rfl (dW (es := [lo, lo]) hO571 (by simp)) rfl ?_; rintro _ w580 ⟨a1, c1, ob1, rfl, hO1, hg1, hw581⟩; have hG585 := Ge.fresh hE577 hg1; have hE586 := hE577.then hw581; have hB587 := hw581.blk0 hB578; have hO588 := hO579.evo0 hw581; refine aM (aD (aA (aO (aP (bW (aJ rfl rfl ?_))))))
    exact ⟨_, _, (dX (fun h => absurd ((lY hle).2 h) hc23)).trans ((eW (fun h => by omega)).trans (jQ hx (by rintro ⟨⟨h1, h2⟩, h3, h4⟩; omega))), ⟨_, _, _, [(lo, lo)], rfl, hO1, hG585, (fun g hg => by rw [List.mem_singleton.1 hg]; exact ⟨hlo0, Int.le_refl _, hlo1⟩), jV lo lo, by simp⟩, hE586, ⟨hB587, hO588, hR.ne⟩⟩
   have hdash : isB s j 45 ∧ j + 1 < s.size ∧ sb s (j + 1) ≠ 93 := ⟨⟨by omega, by omega⟩, by omega, by omega⟩; have hbj1 := hdash.1.asc (by decide) hbj; refine aW (aA (aE (aB (aG (aC rfl (aQ rfl) (aC rfl (aF rfl bH) (aC rfl (aI rfl bD (aK hB525 rfl)) ?_))))))); refine aC rfl (bC rfl rfl (by omega) (by omega)) ?_; refine aC rfl (aQ rfl) (aC rfl (aF rfl bH) (bK rfl rfl (rfl) bZ hB525 rfl fun w590 hB591 hw592 => ?_)); have hE593 := hE524.step hw592 (fun y hy => .inl hy); have hO594 := hO526.evo hw592 hR3.ap.symm.own1
   try simp only [cU, Nat.reduceAdd] at hB591
   refine aD (aA (aE (aB (aG (bX (vs := [_]) gF rfl (iS (st := gU st (j + 1)) ⟨hB591, hO594, hR.ne⟩ hs hdash.2.1 hbj1) rfl ?_ ?_)))))
   ·skip
    intro pv wp hpp; obtain ⟨hpe, rfl, hpw⟩ := hpp; exact And.intro rfl ⟨_, rfl, _, (dX (fun h => absurd ((lY hle).2 h) hc23)).trans ((eW (fun h => by omega)).trans (qI hx hdash hpe)), rfl, (hE593).step hpw (fun y hy => .inl hy)⟩
   rintro _ w595 ⟨hi, m, hx2, rfl, hw596, hR4⟩; have hE597 := hE593.step hw596 (fun y hy => .inl hy); obtain ⟨hbm, hjm, hhi0, hhi1⟩ := kW hx2 hbj1 hdash.2.1; refine aM (aD (aA (aE (aE (aB (aG (aG (aC rfl (dH rfl rfl) ?_)))))))); refine aD (aA (bI rfl (fun hc120 => ?_) (fun hc120 => ?_)))
   ·skip
    refine aB (bX (vs := [_]) cV rfl (eM 81) rfl ?_ ?_)
    ·skip
     intro pv wp hpp; obtain ⟨rfl, hpw⟩ := hpp; exact And.intro rfl ⟨_, rfl, _, (dX (fun h => absurd ((lY hle).2 h) hc23)).trans ((eW (fun h => by omega)).trans (tE hx hdash hx2 (by omega))), rfl, (hE597).then hpw⟩
    intro _ _ hF; exact hF.elim
   refine aW (aA (aE (aB (aG (aG (bM (vs := [_, _]) rfl cC rfl rfl rfl rfl fun b600 w601 hO602 hs603 hw604 => ?_)))))); have hE608 := hE597.then hw604; have hB609 := hw604.blk0 hR4.blk; have hO610 := hR4.own.evo0 hw604; refine aN (vs := [_]) cD rfl (dW (es := [lo, hi]) hO602 (by simp)) rfl ?_; rintro _ w611 ⟨a1, c1, ob1, rfl, hO1, hg1, hw612⟩; have hG616 := Ge.fresh hE608 hg1; have hE617 := hE608.then hw612; have hB618 := hw612.blk0 hB609; have hO619 := hO610.evo0 hw612; refine aM (aD (aA (aO (bW (aJ rfl rfl ?_)))))
   exact ⟨_, _, (dX (fun h => absurd ((lY hle).2 h) hc23)).trans ((eW (fun h => by omega)).trans (tC hx hdash hx2 (by omega))), ⟨_, _, _, [(lo, hi)], rfl, hO1, hG616, (fun g hg => by rw [List.mem_singleton.1 hg]; exact ⟨hlo0, by omega, hhi1⟩), jV lo hi, by simp⟩, hE617, ⟨hB618, hO619, hR.ne⟩⟩
  refine aH (aH (aH (aU (aD (aA (cK rfl ?_)))))); refine aW (aA (aE (aB (aG (bX (vs := [_]) gF rfl (iS ⟨hB9, hO10, hR.ne⟩ hs hlt hb) rfl ?_ ?_)))))
  ·skip
   intro pv wp hpp; obtain ⟨hpe, rfl, hpw⟩ := hpp; exact And.intro rfl ⟨_, rfl, _, (dX (fun h => absurd ((lY hle).2 h) hc23)).trans ((eW (fun h => by omega)).trans (tD hpe)), rfl, (hE8).step hpw (fun y hy => .inl hy)⟩
  rintro _ w621 ⟨lo, j, hx, rfl, hw622, hR3⟩; have hE623 := hE8.step hw622 (fun y hy => .inl hy); obtain ⟨hbj, hij, hlo0, hlo1⟩ := kW hx hb hlt; have hpj : (gU st j).pos = j := rfl; have hbjl := hbj.le; have hrs2 := fS (s := s) (a := j) (Nat.le_refl s.size); refine aM (aD (aA (aE ?_))); refine fH (by kernel_rfl) (by kernel_rfl) ?_; refine aV rfl (fun _ hq625 => bS rfl) ?_; refine aV rfl (fun _ hq625 => aQ rfl) ?_; refine aV rfl (fun _ hq625 => aF rfl dI) ?_; refine aV rfl (fun _ hq625 => aI rfl cO (aK (hq625.blk0 hR3.blk) rfl)) ?_; refine aV rfl (fun _ hq625 => bS rfl) ?_; refine aV rfl (fun _ hq625 => aQ rfl) ?_; refine aV rfl (fun _ hq625 => aF rfl bH) ?_; refine aV rfl (fun _ hq625 => aI rfl bD (aK (hq625.blk0 hR3.blk) rfl)) ?_; refine aV rfl (fun _ hq625 => gQ (l := j) rfl rfl Tryz.underlying9 rfl hbj.le) ?_; refine aV rfl (fun _ hq625 => eZ rfl) ?_; refine fN (fun wq624 hq625 => aA ?_); have hE626 := hE623.then hq625; have hB627 := hq625.blk0 hR3.blk; have hO628 := hR3.own.evo0 hq625; refine aE (aE (aB (aG (aC rfl (cI rfl Tryz.underlying9 rfl) ?_)))); refine aC rfl (dH rfl rfl) ?_; refine aG (aX (t := 95) rfl (fun hs95 => ?_) (fun hs95 => ?_))
  ·skip
   refine aH (aH (aH (bL (aG (aH (aH (aH (bL (aD (aA (dA rfl ?_))))))))))); refine aE (aB (aG (aG (bM (vs := [_, _]) rfl cC rfl rfl rfl rfl fun b629 w630 hO631 hs632 hw633 => ?_)))); have hE637 := hE626.then hw633; have hB638 := hw633.blk0 hB627; have hO639 := hO628.evo0 hw633; refine aN (vs := [_]) cD rfl (dW (es := [lo, lo]) hO631 (by simp)) rfl ?_; rintro _ w640 ⟨a1, c1, ob1, rfl, hO1, hg1, hw641⟩; have hG645 := Ge.fresh hE637 hg1; have hE646 := hE637.then hw641; have hB647 := hw641.blk0 hB638; have hO648 := hO639.evo0 hw641; refine aM (aD (aA (aO (aP (bW (aJ rfl rfl ?_))))))
   exact ⟨_, _, (dX (fun h => absurd ((lY hle).2 h) hc23)).trans ((eW (fun h => by omega)).trans (jQ hx (by rintro ⟨⟨h1, h2⟩, h3, h4⟩; omega))), ⟨_, _, _, [(lo, lo)], rfl, hO1, hG645, (fun g hg => by rw [List.mem_singleton.1 hg]; exact ⟨hlo0, Int.le_refl _, hlo1⟩), jV lo lo, by simp⟩, hE646, ⟨hB647, hO648, hR.ne⟩⟩
  have f0 : sb (s.extract j s.size) 0 = sb s j := gR (by omega); have f1 : sb (s.extract j s.size) 1 = sb s (j + 1) := gR (by omega); refine aR (aG (aR ?_)); refine aC rfl (fJ (n := 0) rfl rfl Tryz.underlying9 rfl (by omega) f0) ?_; refine aR (aC rfl (gA rfl rfl) ?_); refine aU (aG (aX (t := 100) rfl (fun hs100 => ?_) (fun hs100 => ?_)))
  ·skip
   refine aH (aH (aH (bL (aD (aA (dA rfl ?_)))))); refine aE (aB (aG (aG (bM (vs := [_, _]) rfl cC rfl rfl rfl rfl fun b650 w651 hO652 hs653 hw654 => ?_)))); have hE658 := hE626.then hw654; have hB659 := hw654.blk0 hB627; have hO660 := hO628.evo0 hw654; refine aN (vs := [_]) cD rfl (dW (es := [lo, lo]) hO652 (by simp)) rfl ?_; rintro _ w661 ⟨a1, c1, ob1, rfl, hO1, hg1, hw662⟩; have hG666 := Ge.fresh hE658 hg1; have hE667 := hE658.then hw662; have hB668 := hw662.blk0 hB659; have hO669 := hO660.evo0 hw662; refine aM (aD (aA (aO (aP (bW (aJ rfl rfl ?_))))))
   exact ⟨_, _, (dX (fun h => absurd ((lY hle).2 h) hc23)).trans ((eW (fun h => by omega)).trans (jQ hx (by rintro ⟨⟨h1, h2⟩, h3, h4⟩; omega))), ⟨_, _, _, [(lo, lo)], rfl, hO1, hG666, (fun g hg => by rw [List.mem_singleton.1 hg]; exact ⟨hlo0, Int.le_refl _, hlo1⟩), jV lo lo, by simp⟩, hE667, ⟨hB668, hO669, hR.ne⟩⟩
  refine aR (aG (aR ?_)); refine aC rfl (fJ (n := 1) rfl rfl Tryz.underlying9 rfl (by omega) f1) ?_; refine aR (aC rfl (bF rfl rfl) ?_); refine aU (aD (aA (bI rfl (fun hc104 => ?_) (fun hc104 => ?_))))
  ·skip
   refine aE (aB (aG (aG (bM (vs := [_, _]) rfl cC rfl rfl rfl rfl fun b671 w672 hO673 hs674 hw675 => ?_)))); have hE679 := hE626.then hw675; have hB680 := hw675.blk0 hB627; have hO681 := hO628.evo0 hw675; refine aN (vs := [_]) cD rfl (dW (es := [lo, lo]) hO673 (by simp)) rfl ?_; rintro _ w682 ⟨a1, c1, ob1, rfl, hO1, hg1, hw683⟩; have hG687 := Ge.fresh hE679 hg1; have hE688 := hE679.then hw683; have hB689 := hw683.blk0 hB680; have hO690 := hO681.evo0 hw683; refine aM (aD (aA (aO (aP (bW (aJ rfl rfl ?_))))))
   exact ⟨_, _, (dX (fun h => absurd ((lY hle).2 h) hc23)).trans ((eW (fun h => by omega)).trans (jQ hx (by rintro ⟨⟨h1, h2⟩, h3, h4⟩; omega))), ⟨_, _, _, [(lo, lo)], rfl, hO1, hG687, (fun g hg => by rw [List.mem_singleton.1 hg]; exact ⟨hlo0, Int.le_refl _, hlo1⟩), jV lo lo, by simp⟩, hE688, ⟨hB689, hO690, hR.ne⟩⟩
  have hdash : isB s j 45 ∧ j + 1 < s.size ∧ sb s (j + 1) ≠ 93 := ⟨⟨by omega, by omega⟩, by omega, by omega⟩; have hbj1 := hdash.1.asc (by decide) hbj; refine aW (aA (aE (aB (aG (aC rfl (aQ rfl) (aC rfl (aF rfl bH) (aC rfl (aI rfl bD (aK hB627 rfl)) ?_))))))); refine aC rfl (bC rfl rfl (by omega) (by omega)) ?_; refine aC rfl (aQ rfl) (aC rfl (aF rfl bH) (bK rfl rfl (rfl) bZ hB627 rfl fun w692 hB693 hw694 => ?_)); have hE695 := hE626.step hw694 (fun y hy => .inl hy); have hO696 := hO628.evo hw694 hR3.ap.symm.own1
  try simp only [cU, Nat.reduceAdd] at hB693
  refine aD (aA (aE (aB (aG (bX (vs := [_]) gF rfl (iS (st := gU st (j + 1)) ⟨hB693, hO696, hR.ne⟩ hs hdash.2.1 hbj1) rfl ?_ ?_)))))
  ·skip
   intro pv wp hpp; obtain ⟨hpe, rfl, hpw⟩ := hpp; exact And.intro rfl ⟨_, rfl, _, (dX (fun h => absurd ((lY hle).2 h) hc23)).trans ((eW (fun h => by omega)).trans (qI hx hdash hpe)), rfl, (hE695).step hpw (fun y hy => .inl hy)⟩
  rintro _ w697 ⟨hi, m, hx2, rfl, hw698, hR4⟩; have hE699 := hE695.step hw698 (fun y hy => .inl hy); obtain ⟨hbm, hjm, hhi0, hhi1⟩ := kW hx2 hbj1 hdash.2.1; refine aM (aD (aA (aE (aE (aB (aG (aG (aC rfl (dH rfl rfl) ?_)))))))); refine aD (aA (bI rfl (fun hc120 => ?_) (fun hc120 => ?_)))
  ·skip
   refine aB (bX (vs := [_]) cV rfl (eM 81) rfl ?_ ?_)
   ·skip
    intro pv wp hpp; obtain ⟨rfl, hpw⟩ := hpp; exact And.intro rfl ⟨_, rfl, _, (dX (fun h => absurd ((lY hle).2 h) hc23)).trans ((eW (fun h => by omega)).trans (tE hx hdash hx2 (by omega))), rfl, (hE699).then hpw⟩
   intro _ _ hF; exact hF.elim
  refine aW (aA (aE (aB (aG (aG (bM (vs := [_, _]) rfl cC rfl rfl rfl rfl fun b702 w703 hO704 hs705 hw706 => ?_)))))); have hE710 := hE699.then hw706; have hB711 := hw706.blk0 hR4.blk; have hO712 := hR4.own.evo0 hw706; refine aN (vs := [_]) cD rfl (dW (es := [lo, hi]) hO704 (by simp)) rfl ?_; rintro _ w713 ⟨a1, c1, ob1, rfl, hO1, hg1, hw714⟩; have hG718 := Ge.fresh hE710 hg1; have hE719 := hE710.then hw714; have hB720 := hw714.blk0 hB711; have hO721 := hO712.evo0 hw714; refine aM (aD (aA (aO (bW (aJ rfl rfl ?_)))))
  exact ⟨_, _, (dX (fun h => absurd ((lY hle).2 h) hc23)).trans ((eW (fun h => by omega)).trans (tC hx hdash hx2 (by omega))), ⟨_, _, _, [(lo, hi)], rfl, hO1, hG718, (fun g hg => by rw [List.mem_singleton.1 hg]; exact ⟨hlo0, by omega, hhi1⟩), jV lo hi, by simp⟩, hE719, ⟨hB720, hO721, hR.ne⟩⟩
end Go.Proofs.YtljadkcojnlioaaGreatDoor
namespace Go.Proofs.YtljadkcojnlioaaGreatDoor
open Go.Proofs
open Go.W Go.RowKit
attribute [local irreducible] Decidable.decide
theorem sR : eT Tryz.prog 129 := ⟨_, Tryz.func129, by kernel_rfl, by kernel_rfl⟩
theorem kD {w : World} {o p : Option Nat} (h : Lt w o) (hp : Ge w p) : Apart o p := fun g h1 h2 => by have := h g h1; have := hp g h2; omega
section
variable {s : ByteArray} {f i j : Nat} {fst : Bool} {S T : Int → Prop} {e : Int} {fl : Fl}
theorem its_end (h : s.size ≤ i) : iI s (f + 1) fst S i = .error 81 := by rw [iI, if_pos h]
theorem MQ (h : i < s.size) (h2 : sb s i = 93) : iI s (f + 1) false S i = .ok (S, i + 1) := by rw [iI, if_neg (by omega), if_pos ⟨rfl, h2⟩]
theorem HG (h : i < s.size) (h2 : ¬ (fst = false ∧ sb s i = 93)) (h3 : kN s i = .error e) : iI s (f + 1) fst S i = .error e := by rw [iI, if_neg (by omega), if_neg h2, h3]
theorem MR (h : i < s.size) (h2 : ¬ (fst = false ∧ sb s i = 93)) (h3 : kN s i = .ok (T, j)) : iI s (f + 1) fst S i = iI s f false (unS S T) j := by rw [iI, if_neg (by omega), if_neg h2, h3]
theorem AA (h : iI s (s.size + 1) true (fun _ => False) (if isB s i 94 then i + 1 else i) = .error e) : lG s fl i = .error e := by unfold lG; rw [h]
theorem zZ (h : iI s (s.size + 1) true (fun _ => False) (if isB s i 94 then i + 1 else i) = .ok (S, j)) :
    lG s fl i = .ok (lD (if isB s i 94 then uO (if fl.fold = true then pF S else S) else if fl.fold = true then pF S else S), j) := by unfold lG; rw [h]
end
structure ClG where
  f : Nat
  i : Nat
  n : Nat
  fst : Bool
  S : Int → Prop
  l : List (Int × Int)
  sa : Option Addr
  sc : Nat
  so : Option Nat
structure ClI (w wr : World) (b : Nat) (s : ByteArray) (st : PS) (a : Option Addr) (c : Nat) (ob : Option Nat) (b2 i0 : Nat) (x : ClG) : Prop where
  hr : RdAt wr b s (gU st x.i) a c ob
  bd : Bd s x.i
  eq : iI s (s.size + 1) true (fun _ => False) i0 = iI s x.f x.fst x.S x.i
  hf : s.size + 1 ≤ x.f + x.i
  own : OwnS wr 56 2 x.sa x.n x.sc (eD x.l) x.so
  ge : Ge w x.so
  vr : Vr x.l
  hS : ∀ c, InR c x.l ↔ x.S c
  len : x.n ≤ 16 * x.i
  hb2 : wr.heap[b2]? = some (.cells #[iv 0, .int .i32 0, .slice none 0 0, iv 0, iv 0, .bool false, iv 0, .string ByteArray.empty, .slice none 0 0] 27 (0, 0))
  g2 : Ge w (some b2)
  a2 : Apart (some b2) x.so
theorem un_in {l m : List (Int × Int)} {S T : Int → Prop} (h1 : ∀ c, InR c l ↔ S c) (h2 : ∀ c, InR c m ↔ T c) (c : Int) : InR c (l ++ m) ↔ unS S T c := by rw [mG, h1, h2]; exact Iff.rfl
theorem NV {w : World} {b : Nat} {s : ByteArray} {st : PS} {a : Option Addr} {c : Nat} {ob : Option Nat} (hR : RdAt w b s st a c ob) (hs : s.size ≤ 10000) (hb : Bd s st.pos) (hG : Glb w) :
    Calls Tryz.prog 110 #[.pointer (some ⟨b, 0, none⟩)] w (RetP (fun v w' => ∃ x j, lG s st.now st.pos = .ok (x, j) ∧ TOut w w' v x ∧ Evo [b] w w' ∧ RdAt w' b s (gU st j) a c ob) (fun v w' => ∃ e, lG s st.now st.pos = .error e ∧ v = flt e ∧ Evo [b] w w')) := by
  have hap := hR.ap; have hgb : nE ∉ [b] := fun h => hR.glb hG (List.mem_singleton.1 h).symm; have hbw : Lt w (some b) := Lt.blk hR.blk; have how : Lt w ob := Lt.own hR.own; refine bO (N := 41) Tryz.func110 rfl rfl rfl ?_; refine aE (aB (dG rfl eI fun b2 w1 hB2 hs3 hw4 => ?_)); have hsz_b2 := hs3; have hA5 := Apart.new (Lt.blk hR.blk) hs3; have hG7 := Ge.new (Evo.refl [b] w) hs3; have hE8 := (Evo.refl [b] w).then hw4; have hB9 := hw4.blk0 hR.blk; have hO10 := hR.own.evo0 hw4; refine aD (aA (aE (aB (aG ?_)))); refine aN (vs := [_, _]) gZ rfl (kU ⟨hB9, hO10, hR.ne⟩ (by omega) 94 (by decide)) rfl ?_; rintro _ w11 ⟨rfl, hw12, hR1⟩; have hE13 := hE8.step hw12 (fun y hy => .inl hy); have hB14 := hw12.blk hB2 ((by first | exact hA5.symm.own1 | exact hA5.symm.nmem1)); refine aM (aD (aA (aE ?_)))
  have hR1' : RdAt w11 b s (gU st (if isB s st.pos 94 then st.pos + 1 else st.pos)) a c ob := by by_cases h94 : isB s st.pos 94; { rw [if_pos h94] at hR1 ⊢; exact hR1 }; { rw [if_neg h94] at hR1 ⊢; exact hR1 }
  generalize hi0 : (if isB s st.pos 94 then st.pos + 1 else st.pos) = i0 at *
  have hbd0 : Bd s i0 := by rw [← hi0]; split; (rename_i h94; exact h94.asc (by decide) hb); exact hb
  refine aB (aM (aD (aA (aE (aE (aB (aM (aD (aA (bT ?_))))))))))
  refine eR (α := ClG) (⟨s.size + 1, i0, 0, true, fun _ => False, [], none, 0, none⟩) (fun x => [(4, .slice x.sa x.n x.sc), (5, .bool x.fst)]) [(0, _), (2, _), (3, _)] (fun x wr => Evo [b] w wr ∧ (ClI w wr b s st a c ob b2 i0 x)) (fun x => x.f) ⟨rfl, rfl, trivial⟩ ⟨rfl, rfl, rfl, trivial⟩ ⟨hE13, ⟨hR1', hbd0, rfl, by show s.size + 1 ≤ s.size + 1 + i0; omega, OwnS.nil _ _ _, Ge.nil _, fun g hg => (by cases hg), fun c => ⟨fun h => (lR c h).elim, False.elim⟩, Nat.zero_le _, hB14, hG7, Apart.nil _⟩⟩ ?_
  rintro ⟨f, i, n, fst, S, l, sa, sc, so⟩ wr15 ⟨hV16, ⟨hR9, hbi, heq, hfi, hown, hge, hvr, hSl, hlen, hb2, hg2, ha2⟩⟩; show CW _ _ _ _ [(4, .slice sa n sc), (5, .bool fst), (0, _), (2, _), (3, _)] _
  try dsimp only at hR9
  try dsimp only at hbi
  try dsimp only at heq
  try dsimp only at hfi
  try dsimp only at hown
  try dsimp only at hge
  try dsimp only at hvr
  try dsimp only at hSl
  try dsimp only at hlen
  try dsimp only at hb2
  try dsimp only at hg2
  try dsimp only at ha2
  have hil := hbi.le; have hA1 : Apart (some b) so := kD hbw hge; have hA2 : Apart ob so := kD how hge; have hA3 : Apart (some b) (some b2) := kD hbw hg2; have hA4 : Apart ob (some b2) := kD how hg2; have hpi : (gU st i).pos = i := rfl; obtain ⟨f', hff⟩ : ∃ f', f = f' + 1 := ⟨f - 1, by omega⟩; refine aE (bT (aE (aE ?_))); refine fH (by kernel_rfl) (by kernel_rfl) ?_; refine aV rfl (fun _ hq18 => bS rfl) ?_; refine aV rfl (fun _ hq18 => aQ rfl) ?_; refine aV rfl (fun _ hq18 => aF rfl bH) ?_; refine aV rfl (fun _ hq18 => aI rfl bD (aK (hq18.blk0 hR9.blk) rfl)) ?_; refine aV rfl (fun _ hq18 => bS rfl) ?_; refine aV rfl (fun _ hq18 => aQ rfl) ?_; refine aV rfl (fun _ hq18 => aF rfl dI) ?_; refine aV rfl (fun _ hq18 => aI rfl cO (aK (hq18.blk0 hR9.blk) rfl)) ?_; refine aV rfl (fun _ hq18 => cI rfl Tryz.underlying9 rfl) ?_; refine aV rfl (fun _ hq18 => bF rfl rfl) ?_; refine fN (fun wq17 hq18 => aA ?_); have hE19 := hV16.then hq18; have hB20 := hq18.blk0 hR9.blk; have hO21 := hR9.own.evo0 hq18; have hO22 := hown.evo0 hq18; have hB23 := hq18.blk0 hb2; refine bI rfl (fun hc17 => ?_) (fun hc17 => ?_)
  ·skip
   refine aB (bX (vs := [_]) cV rfl (eM 81) rfl ?_ ?_)
   ·skip
    intro pv wp hpp; obtain ⟨rfl, hpw⟩ := hpp
    exact And.intro rfl ⟨_, rfl, _, AA (by rw [hi0, heq, hff]; exact its_end (by omega)), rfl, (hE19).then hpw⟩
   intro _ _ hF; exact hF.elim
  have hii : i < s.size := by omega
  refine aW (aA (aE (aE (aB (aG (aC rfl (eU rfl) ?_)))))); refine aG (hD (t := 21) rfl (fun hs21 => ?_) (fun hs21 => ?_))
  ·skip
   replace hs21 := congrArg Bool.not hs21; simp only [Bool.not_not, Bool.not_true, Bool.not_false] at hs21; subst hs21
   refine aR (aG (aR ?_)); refine aN (vs := [_, _]) gZ rfl (kU ⟨hB20, hO21, hR9.ne⟩ (by omega) 93 (by decide)) rfl ?_; rintro _ w26 ⟨rfl, hw27, hR2⟩; have hE28 := hE19.step hw27 (fun y hy => .inl hy); have hB29 := hO22.evo hw27 ((by first | exact hA1.symm.own1 | exact hA1.symm.nmem1)); have hB30 := hw27.blk hB23 ((by first | exact hA3.symm.own1 | exact hA3.symm.nmem1)); refine bL (aD (aA (bI rfl (fun hc24 => ?_) (fun hc24 => ?_))))
   ·skip
    rw [if_pos hc24] at hR2; have hst := (heq.trans (congrArg (fun f => iI s f false S i) hff)).trans (MQ hii hc24.2); have hn9 := oO hown; subst hn9; refine dV (cB (zT rfl (cB (cB (dU (aA ?_)))))); refine aE (aE (aB (aG (aC rfl (aQ rfl) (aC rfl (aF rfl eO) (aC rfl (aF rfl pB) (aC rfl (aI rfl eC (aK hR2.blk rfl)) (aD (aA (gC rfl (fun hc33 => ?_) (fun hc33 => ?_)))))))))))
    ·skip
     replace hc33 : st.now.fold = true := hc33; refine aB (aG ?_); refine aN (vs := [_]) sQ rfl (yH hB29 hvr (by omega) hSl) rfl ?_; rintro rv w31 ⟨a4, c4, ob4, rfl, hO4, hg4, hl4, hcan4, heq4, hw32⟩; have hE38 := hE28.then hw32; have hB40 := hw32.blk0 hB30; have hB41 := hw32.blk0 hR2.blk; have hO42 := hR2.own.evo0 hw32; refine aM (aD (aA (aE (aE (aB (aG (aD (aA (bI rfl (fun hc36 => ?_) (fun hc36 => ?_))))))))))
     ·skip
      refine aB (aG ?_); refine aN (vs := [_]) kB rfl (lH hO4 (tM hcan4) (by omega) heq4) rfl ?_; rintro rv w43 ⟨a5, c5, ob5, rfl, hO5, hg5, hl5, hcan5, heq5, hw44⟩; have hE51 := hE38.then hw44; have hB53 := hw44.blk0 hB40; have hB54 := hw44.blk0 hB41; have hO55 := hO42.evo0 hw44; refine aM (aD (aA (aE (aB (aG ?_))))); refine aN (vs := [_]) iB rfl (mF hO5 (tM hcan5) (by omega) heq5) rfl ?_; rintro rv w57 ⟨hT9, hw58⟩; have hV9 := hE51; have hb29 := fM hB53; have hE59 := hE51.then hw58; have hB61 := hw58.blk0 hB53; have hB62 := hw58.blk0 hB54; have hO63 := hO55.evo0 hw58; obtain ⟨vs9, bs9, rfl, hOT, hFr⟩ := hT9; obtain ⟨ra, rc, ka, kc, rfl⟩ := id hOT.nine; refine bN rfl rfl bE hB61 rfl rfl ⟨rfl, rfl, rfl, rfl, rfl, rfl, rfl, rfl, rfl, trivial⟩ fun w65 hB66 hw67 => ?_; have hE68 := hE59.step hw67 hg2.mem1; have hE69 := (Evo.refl ([b2]) w57).step hw67 (fun y hy => .inl hy); have hB71 := hw67.blk hB62 hA3.nmem1; have hO72 := hO63.evo hw67 hA4.own1
      try simp only [cU, Nat.reduceAdd] at hB66
      refine aD (aA (aO (bW (dE rfl (ResOk.cellA rfl bV bE hB66 rfl) ?_))))
      have hcl := zZ (fl := st.now) (by rw [hi0]; exact hst)
      rw [if_pos hc36, if_pos hc33] at hcl; refine ⟨_, _, hcl, ⟨_, bs9, rfl, hOT.evo hE69 (fun q hq h => ?_), hFr.older hV9.size⟩, hE68, ⟨hB71, hO72, hR2.ne⟩⟩
      have := hFr.ge q hq; rw [List.mem_singleton.1 h] at this; omega
     refine aW (aA (aE (aB (aG ?_)))); refine aN (vs := [_]) iB rfl (mF hO4 (tM hcan4) (by omega) heq4) rfl ?_; rintro rv w74 ⟨hT9, hw75⟩; have hV9 := hE38; have hb29 := fM hB40; have hE76 := hE38.then hw75; have hB78 := hw75.blk0 hB40; have hB79 := hw75.blk0 hB41; have hO80 := hO42.evo0 hw75; obtain ⟨vs9, bs9, rfl, hOT, hFr⟩ := hT9; obtain ⟨ra, rc, ka, kc, rfl⟩ := id hOT.nine; refine bN rfl rfl bE hB78 rfl rfl ⟨rfl, rfl, rfl, rfl, rfl, rfl, rfl, rfl, rfl, trivial⟩ fun w82 hB83 hw84 => ?_; have hE85 := hE76.step hw84 hg2.mem1; have hE86 := (Evo.refl ([b2]) w74).step hw84 (fun y hy => .inl hy); have hB88 := hw84.blk hB79 hA3.nmem1; have hO89 := hO80.evo hw84 hA4.own1
     try simp only [cU, Nat.reduceAdd] at hB83
     refine aD (aA (aO (bW (dE rfl (ResOk.cellA rfl bV bE hB83 rfl) ?_))))
     have hcl := zZ (fl := st.now) (by rw [hi0]; exact hst)
     rw [if_neg hc36, if_pos hc33] at hcl; refine ⟨_, _, hcl, ⟨_, bs9, rfl, hOT.evo hE86 (fun q hq h => ?_), hFr.older hV9.size⟩, hE85, ⟨hB88, hO89, hR2.ne⟩⟩
     have := hFr.ge q hq; rw [List.mem_singleton.1 h] at this; omega
    replace hc33 : st.now.fold = false := hc33; refine aW (aA (aE (aE (aB (aG (aD (aA (bI rfl (fun hc36 => ?_) (fun hc36 => ?_)))))))))
    ·skip
     refine aB (aG ?_); refine aN (vs := [_]) kB rfl (lH hB29 hvr (by omega) hSl) rfl ?_; rintro rv w91 ⟨a5, c5, ob5, rfl, hO5, hg5, hl5, hcan5, heq5, hw92⟩; have hE98 := hE28.then hw92; have hB100 := hw92.blk0 hB30; have hB101 := hw92.blk0 hR2.blk; have hO102 := hR2.own.evo0 hw92; refine aM (aD (aA (aE (aB (aG ?_))))); refine aN (vs := [_]) iB rfl (mF hO5 (tM hcan5) (by omega) heq5) rfl ?_; rintro rv w103 ⟨hT9, hw104⟩; have hV9 := hE98; have hb29 := fM hB100; have hE105 := hE98.then hw104; have hB107 := hw104.blk0 hB100; have hB108 := hw104.blk0 hB101; have hO109 := hO102.evo0 hw104; obtain ⟨vs9, bs9, rfl, hOT, hFr⟩ := hT9; obtain ⟨ra, rc, ka, kc, rfl⟩ := id hOT.nine; refine bN rfl rfl bE hB107 rfl rfl ⟨rfl, rfl, rfl, rfl, rfl, rfl, rfl, rfl, rfl, trivial⟩ fun w111 hB112 hw113 => ?_; have hE114 := hE105.step hw113 hg2.mem1; have hE115 := (Evo.refl ([b2]) w103).step hw113 (fun y hy => .inl hy); have hB117 := hw113.blk hB108 hA3.nmem1; have hO118 := hO109.evo hw113 hA4.own1
     try simp only [cU, Nat.reduceAdd] at hB112
     refine aD (aA (aO (bW (dE rfl (ResOk.cellA rfl bV bE hB112 rfl) ?_))))
     have hcl := zZ (fl := st.now) (by rw [hi0]; exact hst)
     rw [if_pos hc36, if_neg (show ¬ st.now.fold = true by simp [hc33])] at hcl; refine ⟨_, _, hcl, ⟨_, bs9, rfl, hOT.evo hE115 (fun q hq h => ?_), hFr.older hV9.size⟩, hE114, ⟨hB117, hO118, hR2.ne⟩⟩
     have := hFr.ge q hq; rw [List.mem_singleton.1 h] at this; omega
    refine aW (aA (aE (aB (aG ?_)))); refine aN (vs := [_]) iB rfl (mF hB29 hvr (by omega) hSl) rfl ?_; rintro rv w120 ⟨hT9, hw121⟩; have hV9 := hE28; have hb29 := fM hB30; have hE122 := hE28.then hw121; have hB124 := hw121.blk0 hB30; have hB125 := hw121.blk0 hR2.blk; have hO126 := hR2.own.evo0 hw121; obtain ⟨vs9, bs9, rfl, hOT, hFr⟩ := hT9; obtain ⟨ra, rc, ka, kc, rfl⟩ := id hOT.nine; refine bN rfl rfl bE hB124 rfl rfl ⟨rfl, rfl, rfl, rfl, rfl, rfl, rfl, rfl, rfl, trivial⟩ fun w127 hB128 hw129 => ?_; have hE130 := hE122.step hw129 hg2.mem1; have hE131 := (Evo.refl ([b2]) w120).step hw129 (fun y hy => .inl hy); have hB133 := hw129.blk hB125 hA3.nmem1; have hO134 := hO126.evo hw129 hA4.own1
    try simp only [cU, Nat.reduceAdd] at hB128
    refine aD (aA (aO (bW (dE rfl (ResOk.cellA rfl bV bE hB128 rfl) ?_))))
    have hcl := zZ (fl := st.now) (by rw [hi0]; exact hst)
    rw [if_neg hc36, if_neg (show ¬ st.now.fold = true by simp [hc33])] at hcl; refine ⟨_, _, hcl, ⟨_, bs9, rfl, hOT.evo hE131 (fun q hq h => ?_), hFr.older hV9.size⟩, hE130, ⟨hB133, hO134, hR2.ne⟩⟩
    have := hFr.ge q hq; rw [List.mem_singleton.1 h] at this; omega
   rw [if_neg hc24] at hR2; refine aW (aA (aB (aG (aG ?_)))); refine bX (vs := [_]) sR rfl (HH ⟨hR2.blk, hR2.own, hR2.ne⟩ (by omega) hii hbi (hG.evo hE28 hgb)) rfl ?_ ?_
   ·skip
    intro pv wp hpp; obtain ⟨e9, hpe, rfl, hpw⟩ := hpp
    exact And.intro rfl ⟨_, rfl, _, AA (by rw [hi0, heq, hff]; exact HG hii (fun h => hc24 ⟨hii, h.2⟩) hpe), rfl, (hE28).step hpw (fun y hy => .inl hy)⟩
   rintro rv w135 ⟨T, j, hx, hT, hw136, hR3⟩; obtain ⟨a3, c3, ob3, li, rfl, hO3, hg3, hv3, hS3, hl3⟩ := hT; have hE142 := hE28.step hw136 (fun y hy => .inl hy); have hB143 := hB29.evo hw136 ((by first | exact hA1.symm.own1 | exact hA1.symm.nmem1)); have hB144 := hw136.blk hB30 ((by first | exact hA3.symm.own1 | exact hA3.symm.nmem1)); obtain ⟨hbj, hij⟩ := zB hx hbi hii; have hjl := hbj.le; refine dR rfl rfl rfl rfl gM hB143 (Src.ofOwn hO3 (oM li)) (by omega) fun a2 c2 w147 ob2 hO2 hw150 hob151 => ?_; have hA152 := ha2.app (Lt.blk hB144) hob151; have hG156 := hge.app hE142 hob151; have hE157 := hE142.step hw150 hge.mem; have hB158 := hw150.blk hB144 ha2.nmem; have hB160 := hw150.blk hR3.blk hA1.nmem; have hO161 := hR3.own.evo hw150 hA2.own; refine aM (aD (aZ (aA (aB (aM (aD (bY ?_))))))); refine ⟨⟨f', j, n + li.length, false, unS S T, l ++ li, a2, c2, ob2⟩, ?_, ⟨rfl, rfl, trivial⟩, ⟨rfl, rfl, rfl, trivial⟩, hE157, ?_⟩
   · (try dsimp only); omega
   try dsimp only
   refine ⟨⟨hB160, hO161, hR3.ne⟩, hbj, ?_, (by show s.size + 1 ≤ f' + j; omega), ?_, hG156, ER hvr hv3, un_in hSl hS3, (by show n + li.length ≤ 16 * j; omega), hB158, hg2, hA152⟩
   · rw [heq, hff]; exact MR hii (fun h => hc24 ⟨hii, h.2⟩) hx
   · rw [jW]; exact hO2
  replace hs21 := congrArg Bool.not hs21; simp only [Bool.not_not, Bool.not_true, Bool.not_false] at hs21; subst hs21
  refine aH (aH (aU (aD (aA (cK rfl ?_))))); refine aW (aA (aB (aG (aG ?_)))); refine bX (vs := [_]) sR rfl (HH ⟨hB20, hO21, hR9.ne⟩ (by omega) hii hbi (hG.evo hE19 hgb)) rfl ?_ ?_
  ·skip
   intro pv wp hpp; obtain ⟨e9, hpe, rfl, hpw⟩ := hpp
   exact And.intro rfl ⟨_, rfl, _, AA (by rw [hi0, heq, hff]; exact HG hii (fun h => (by cases h.1)) hpe), rfl, (hE19).step hpw (fun y hy => .inl hy)⟩
  rintro rv w162 ⟨T, j, hx, hT, hw163, hR3⟩; obtain ⟨a3, c3, ob3, li, rfl, hO3, hg3, hv3, hS3, hl3⟩ := hT; have hE169 := hE19.step hw163 (fun y hy => .inl hy); have hB170 := hO22.evo hw163 ((by first | exact hA1.symm.own1 | exact hA1.symm.nmem1)); have hB171 := hw163.blk hB23 ((by first | exact hA3.symm.own1 | exact hA3.symm.nmem1)); obtain ⟨hbj, hij⟩ := zB hx hbi hii; have hjl := hbj.le; refine dR rfl rfl rfl rfl gM hB170 (Src.ofOwn hO3 (oM li)) (by omega) fun a2 c2 w174 ob2 hO2 hw177 hob178 => ?_; have hA179 := ha2.app (Lt.blk hB171) hob178; have hG183 := hge.app hE169 hob178; have hE184 := hE169.step hw177 hge.mem; have hB185 := hw177.blk hB171 ha2.nmem; have hB187 := hw177.blk hR3.blk hA1.nmem; have hO188 := hR3.own.evo hw177 hA2.own; refine aM (aD (aZ (aA (aB (aM (aD (bY ?_))))))); refine ⟨⟨f', j, n + li.length, false, unS S T, l ++ li, a2, c2, ob2⟩, ?_, ⟨rfl, rfl, trivial⟩, ⟨rfl, rfl, rfl, trivial⟩, hE184, ?_⟩
  · (try dsimp only); omega
  try dsimp only
  refine ⟨⟨hB187, hO188, hR3.ne⟩, hbj, ?_, (by show s.size + 1 ≤ f' + j; omega), ?_, hG183, ER hvr hv3, un_in hSl hS3, (by show n + li.length ≤ 16 * j; omega), hB185, hg2, hA179⟩
  · rw [heq, hff]; exact MR hii (fun h => (by cases h.1)) hx
  · rw [jW]; exact hO2
end Go.Proofs.YtljadkcojnlioaaGreatDoor
namespace Go.Proofs.YtljadkcojnlioaaGreatDoor
open Go.Proofs
open Go.W Go.RowKit
attribute [local irreducible] Decidable.decide
theorem sU : eT Tryz.prog 108 := ⟨_, Tryz.func108, by kernel_rfl, by kernel_rfl⟩
theorem vR {r : ByteArray} : ∀ {f i : Nat} {n : Int}, 0 ≤ n → n ≤ 1001 → i ≤ r.size → 0 ≤ (jD r f i n).1 ∧ (jD r f i n).1 ≤ 1001 ∧ i ≤ (jD r f i n).2 ∧ (jD r f i n).2 ≤ r.size
  | 0, i, n, h0, h1, hi => ⟨h0, h1, Nat.le_refl _, hi⟩
  | f + 1, i, n, h0, h1, hi => by
    rw [jD]
    split
    · rename_i h
      have h2 : 48 ≤ sb r i ∧ sb r i ≤ 57 := h.2
      obtain ⟨i1, i2, i3, i4⟩ := vR (r := r) (f := f) (i := i + 1) (n := min (n * 10 + ((sb r i : Int) - 48)) 1001) (by omega) (by omega) (by omega)
      exact ⟨i1, i2, by omega, i4⟩
    · exact ⟨h0, h1, Nat.le_refl _, hi⟩
theorem pNum_go {r : ByteArray} {f i : Nat} {n : Int} (h : i < r.size) (h2 : 48 ≤ sb r i) (h3 : sb r i ≤ 57) : jD r (f + 1) i n = jD r f (i + 1) (min (n * 10 + ((sb r i : Int) - 48)) 1001) := by rw [jD, if_pos ⟨h, h2, h3⟩]
theorem vQ {r : ByteArray} {f i : Nat} {n : Int} (h : ¬ (i < r.size ∧ digN (sb r i))) : jD r f i n = (n, i) := by
  cases f with
  | zero => rfl
  | succ f => rw [jD, if_neg h]
structure NuG where
  f : Nat
  i : Nat
  n : Int
structure NuI (r : ByteArray) (i0 : Nat) (x : NuG) : Prop where
  hi : x.i ≤ r.size
  n0 : 0 ≤ x.n
  n1 : x.n ≤ 1001
  hf : r.size ≤ x.f + x.i
  eq : jD r r.size i0 0 = jD r x.f x.i x.n
theorem xY {w : World} (r : ByteArray) (i0 : Nat) (hi : i0 ≤ r.size) (hs : r.size ≤ 1000000) :
    Calls Tryz.prog 108 #[.string r, .int .i64 (i0 : Nat)] w (Ret fun v w' => v = .tuple #[iv (jD r r.size i0 0).1, iv ((jD r r.size i0 0).2 : Nat)] ∧ Evo [] w w') := by
  refine bO (N := 36) Tryz.func108 rfl rfl rfl ?_; refine aE (aB (aM (aM (aD (aA (aE (aB (aM (aD (aA (aE (bT ?_))))))))))))
  refine eR (α := NuG) (⟨r.size, i0, 0⟩) (fun x => [(6, .int .i64 x.n), (1, .int .i64 (x.i : Nat))]) [(0, _), (4, _), (5, _)] (fun x wr => Evo [] w wr ∧ (NuI r i0 x)) (fun x => x.f) ⟨rfl, rfl, trivial⟩ ⟨rfl, rfl, rfl, trivial⟩ ⟨(Evo.refl [] w), ⟨hi, Int.le_refl _, (by show (0 : Int) ≤ 1001; omega), Nat.le_add_right _ _, rfl⟩⟩ ?_
  rintro ⟨f, i, n⟩ wr1 ⟨hV2, ⟨hi1, hn0, hn1, hf, heq⟩⟩; show CW _ _ _ _ [(6, .int .i64 n), (1, .int .i64 (i : Nat)), (0, _), (4, _), (5, _)] _
  try dsimp only at hi1
  try dsimp only at hn0
  try dsimp only at hn1
  try dsimp only at hf
  try dsimp only at heq
  have hb := gO r i; refine aE (aE (aB (aG (aG (aC rfl (cI rfl Tryz.underlying9 rfl) ?_))))); refine aC rfl (dH rfl rfl) ?_; refine aG (aX (t := 11) rfl (fun hs11 => ?_) (fun hs11 => ?_))
  ·skip
   refine aR (aG (aR (aG (aR ?_)))); refine aC rfl (fC (n := i) rfl rfl Tryz.underlying9 rfl (by omega)) ?_; refine aR (aC rfl (fU rfl rfl) ?_); refine bL (aG (aX (t := 17) rfl (fun hs17 => ?_) (fun hs17 => ?_)))
   ·skip
    refine aR (aG (aR (aG (aR ?_)))); refine aC rfl (fC (n := i) rfl rfl Tryz.underlying9 rfl (by omega)) ?_; refine aR (aC rfl (gI rfl rfl) ?_); refine bL (aD (aA (bI rfl (fun hc22 => ?_) (fun hc22 => ?_))))
    ·skip
     refine aW (aA (bT (aE (aB (aG ?_))))); refine aC rfl (nA rfl rfl (by omega) (by omega)) ?_; refine aG (aG ?_); refine aC rfl (fC (n := i) rfl rfl Tryz.underlying9 rfl (by omega)) ?_; refine aC rfl (kP rfl rfl (by omega) (by omega)) ?_; refine aC rfl (iM rfl Tryz.underlying5 Tryz.underlying3 (qU (by omega) (by omega)).1 (qU (by omega) (by omega)).2) ?_; refine aC rfl (bC rfl rfl (by omega) (by omega)) ?_; refine aC rfl (zU rfl rfl) ?_; rw [vY]; refine aM (aD (aA (aB (aG ?_)))); refine aC rfl (bC rfl rfl (by omega) (by omega)) ?_; refine aM (aD (aZ (bY ?_))); refine ⟨⟨f - 1, i + 1, min (n * 10 + ((sb r i : Int) - 48)) 1001⟩, ?_, ⟨rfl, rfl, trivial⟩, ⟨rfl, rfl, rfl, trivial⟩, hV2, ?_⟩
     · (try dsimp only); show f - 1 < f; omega
     try dsimp only
     have hf2 : f = f - 1 + 1 := by omega
     exact ⟨(by show i + 1 ≤ r.size; omega), (by show 0 ≤ min _ _; omega), (by show min _ _ ≤ _; omega), (by show r.size ≤ f - 1 + (i + 1); omega), heq.trans (by rw [hf2]; exact pNum_go (by omega) (by omega) (by omega))⟩
    refine dV (cB (cB (dU (aA ?_)))); refine aE (aB (aG (aG (aM (aM (aD (aA (aO (cW rfl rfl rfl ?_)))))))))
    have hend := heq.trans (vQ (by rintro ⟨h1, h2, h3⟩; omega))
    rw [hend]; exact ⟨rfl, hV2⟩
   refine aH (aH (aH (aH (aU (aD (aA (cK rfl ?_))))))); refine dV (cB (cB (dU (aA ?_)))); refine aE (aB (aG (aG (aM (aM (aD (aA (aO (cW rfl rfl rfl ?_)))))))))
   have hend := heq.trans (vQ (by rintro ⟨h1, h2, h3⟩; omega))
   rw [hend]; exact ⟨rfl, hV2⟩
  refine aH (aH (aH (aH (aU (aG (aH (aH (aH (aH (aU (aD (aA (cK rfl ?_))))))))))))); refine dV (cB (cB (dU (aA ?_)))); refine aE (aB (aG (aG (aM (aM (aD (aA (aO (cW rfl rfl rfl ?_)))))))))
  have hend := heq.trans (vQ (by rintro ⟨h1, h2, h3⟩; omega))
  rw [hend]; exact ⟨rfl, hV2⟩
section
variable {r : ByteArray}
theorem GT (h : sb r 0 = 42) : mD r = (0, -1, 1) := by unfold mD; rw [if_pos h]
theorem GU (h : sb r 0 = 43) : mD r = (1, -1, 1) := by unfold mD; rw [if_neg (by omega), if_pos h]
theorem pr_qu (h : sb r 0 = 63) : mD r = (0, 1, 1) := by unfold mD; rw [if_neg (by omega), if_neg (by omega), if_pos h]
theorem LG (h : ¬ sb r 0 = 42) (h2 : ¬ sb r 0 = 43) (h3 : ¬ sb r 0 = 63) (h4 : ¬ sb r 0 = 123) : mD r = (0, 0, 0) := by unfold mD; rw [if_neg h, if_neg h2, if_neg h3, if_pos h4]
theorem pr_br (h : sb r 0 = 123) {lo : Int} {i : Nat} (h2 : jD r r.size 1 0 = (lo, i)) : mD r = if 1 < i ∧ isB r i 44 then (if isB r (jD r r.size (i + 1) 0).2 125 then (lo, (if (jD r r.size (i + 1) 0).2 = i + 1 then -1 else (jD r r.size (i + 1) 0).1), (jD r r.size (i + 1) 0).2 + 1) else (0, 0, 0))
    else if i = 1 ∨ ¬ isB r i 125 then (0, 0, 0) else (lo, lo, i + 1) := by
  unfold mD
  rw [if_neg (by omega), if_neg (by omega), if_neg (by omega), if_neg (by omega), h2]
end
theorem mC {p : Int × Int × Nat} {a b : Int} {c : Nat} (h : p = (a, b, c)) : (Value.tuple #[iv a, iv b, iv (c : Nat)]) = .tuple #[iv p.1, iv p.2.1, iv (p.2.2 : Nat)] := by rw [h]
theorem EZ {w : World} {b : Nat} {s : ByteArray} {st : PS} {a : Option Addr} {c : Nat} {ob : Option Nat} (hR : RdAt w b s st a c ob) (hs : s.size ≤ 1000000) (hlt : st.pos < s.size) :
    Calls Tryz.prog 86 #[.pointer (some ⟨b, 0, none⟩)] w (Ret fun v w' => v = .tuple #[iv (mD (s.extract st.pos s.size)).1, iv (mD (s.extract st.pos s.size)).2.1, iv ((mD (s.extract st.pos s.size)).2.2 : Nat)] ∧ Evo [] w w') := by
  have hap := hR.ap; have hrs := fS (s := s) (a := st.pos) (Nat.le_refl s.size); refine bO (N := 78) Tryz.func86 rfl rfl rfl ?_; refine aE (aB (aM (aM (aM (aD (aA (aE ?_))))))); refine fH (by kernel_rfl) (by kernel_rfl) ?_; refine aV rfl (fun _ hq2 => bS rfl) ?_; refine aV rfl (fun _ hq2 => aQ rfl) ?_; refine aV rfl (fun _ hq2 => aF rfl dI) ?_; refine aV rfl (fun _ hq2 => aI rfl cO (aK (hq2.blk0 hR.blk) rfl)) ?_; refine aV rfl (fun _ hq2 => bS rfl) ?_; refine aV rfl (fun _ hq2 => aQ rfl) ?_; refine aV rfl (fun _ hq2 => aF rfl bH) ?_; refine aV rfl (fun _ hq2 => aI rfl bD (aK (hq2.blk0 hR.blk) rfl)) ?_; refine aV rfl (fun _ hq2 => gQ (l := st.pos) rfl rfl Tryz.underlying9 rfl (by omega)) ?_; refine aV rfl (fun _ hq2 => eZ rfl) ?_; refine fN (fun wq1 hq2 => aA ?_); have hE3 := (Evo.refl [] w).then hq2; refine aE (aE ?_)
  generalize s.extract st.pos s.size = r at *
  refine aB (aG ?_); refine aC rfl (fC (n := 0) rfl rfl Tryz.underlying9 rfl (by omega)) ?_; refine aD (aA (bT (aE (aB (aC rfl (bF rfl rfl) ?_))))); refine aM (aD (aA (bI rfl (fun hc21 => ?_) (fun hc21 => ?_))))
  ·skip
   refine aE (aB (aM (aM (aM (aD (aA (aO (aY (aP (eV rfl rfl rfl rfl ?_)))))))))); exact ⟨mC (GT (by omega)), hE3⟩
  refine aE (aB (aC rfl (bF rfl rfl) ?_)); refine aM (aD (aA (bI rfl (fun hc23 => ?_) (fun hc23 => ?_))))
  ·skip
   refine aE (aB (aM (aM (aM (aD (aA (aO (aY (aP (eV rfl rfl rfl rfl ?_)))))))))); exact ⟨mC (GU (by omega)), hE3⟩
  refine aE (aB (aC rfl (bF rfl rfl) ?_)); refine aM (aD (aA (bI rfl (fun hc25 => ?_) (fun hc25 => ?_))))
  ·skip
   refine aE (aB (aM (aM (aM (aD (aA (aO (aY (aP (eV rfl rfl rfl rfl ?_)))))))))); exact ⟨mC (pr_qu (by omega)), hE3⟩
  refine aE (aB (aC rfl (bF rfl rfl) ?_)); refine aM (aD (aA (bI rfl (fun hc27 => ?_) (fun hc27 => ?_))))
  ·skip
   refine aW (aZ (aA (aE (aB (aG ?_))))); refine aN (vs := [_, _]) sU rfl (xY r 1 (by omega) (by omega)) rfl ?_; rintro _ w6 ⟨rfl, hw7⟩; obtain ⟨lo, i, hp1⟩ : ∃ lo i, jD r r.size 1 0 = (lo, i) := ⟨_, _, rfl⟩; have hb1 := vR (r := r) (f := r.size) (i := 1) (n := 0) (by omega) (by omega) (by omega); have hbr := pr_br (r := r) (by omega) hp1; rw [hp1] at hb1 ⊢; simp only at hb1; have hE8 := hE3.then hw7; refine aG (aC rfl (cR rfl rfl) ?_); refine aC rfl (cR rfl rfl) ?_; refine aM (aM (aD (aA (aE (aB (aG (aM (aD (aA (aE (aE (aB (aG (aC rfl (fV rfl rfl) ?_)))))))))))))); refine aG (aX (t := 37) rfl (fun hs37 => ?_) (fun hs37 => ?_))
   ·skip
    refine aR (aG (aR (aG (aR (aC rfl (cI rfl Tryz.underlying9 rfl) ?_))))); refine aR (aC rfl (dH rfl rfl) ?_); refine bL (aG (aX (t := 43) rfl (fun hs43 => ?_) (fun hs43 => ?_)))
    ·skip
     refine aR (aG (aR (aG (aR ?_)))); refine aC rfl (fC (n := i) rfl rfl Tryz.underlying9 rfl (by omega)) ?_; refine aR (aC rfl (bF rfl rfl) ?_); refine bL (aD (aA (bI rfl (fun hc48 => ?_) (fun hc48 => ?_))))
     ·skip
      have hcm : 1 < i ∧ isB r i 44 := ⟨by omega, by omega, by omega⟩; refine aE (aB (aG ?_)); refine aC rfl (bC rfl rfl (by omega) (by omega)) ?_; refine aM (aD (aA (aE (aB (aG (aG ?_)))))); refine aN (vs := [_, _]) sU rfl (xY r (i + 1) (by omega) (by omega)) rfl ?_; rintro _ w11 ⟨rfl, hw12⟩; obtain ⟨hi2, m, hp2⟩ : ∃ hi2 m, jD r r.size (i + 1) 0 = (hi2, m) := ⟨_, _, rfl⟩; have hb2 := vR (r := r) (f := r.size) (i := i + 1) (n := 0) (by omega) (by omega) (by omega); rw [if_pos hcm, hp2] at hbr; rw [hp2] at hb2 ⊢; simp only at hb2 hbr; have hE13 := hE8.then hw12; refine aG (aC rfl (cR rfl rfl) ?_); refine aC rfl (cR rfl rfl) ?_; refine aM (aM (aD (aA (aE (aB (aG (aG (aC rfl (bF rfl rfl) ?_)))))))); refine aD (aA (bI rfl (fun hc59 => ?_) (fun hc59 => ?_)))
      ·skip
       have hmi : m = i + 1 := by omega
       refine aB (aM (aD (aA (aE (aE (aB (aG (aC rfl (bF rfl rfl) ?_)))))))); refine aG (aX (t := 62) rfl (fun hs62 => ?_) (fun hs62 => ?_))
       ·skip
        refine aH (aH (aH (aH (bL (aG (aH (aH (aH (aH (bL (aD (aA (dA rfl ?_))))))))))))); refine aE (aB (aM (aM (aM (aD (aA (aO (aP (eV rfl rfl rfl rfl ?_)))))))))
        exact ⟨mC (hbr.trans (if_neg (fun h => by have h1 := h.1; have h2 := h.2; omega))), hE13⟩
       refine aR (aG (aR (aG (aR (aC rfl (cI rfl Tryz.underlying9 rfl) ?_))))); refine aR (aC rfl (fU rfl rfl) ?_); refine aU (aG (aX (t := 68) rfl (fun hs68 => ?_) (fun hs68 => ?_)))
       ·skip
        refine aH (aH (aH (aH (bL (aD (aA (dA rfl ?_))))))); refine aE (aB (aM (aM (aM (aD (aA (aO (aP (eV rfl rfl rfl rfl ?_)))))))))
        exact ⟨mC (hbr.trans (if_neg (fun h => by have h1 := h.1; have h2 := h.2; omega))), hE13⟩
       refine aR (aG (aR (aG (aR ?_)))); refine aC rfl (fC (n := m) rfl rfl Tryz.underlying9 rfl (by omega)) ?_; refine aR (aC rfl (gA rfl rfl) ?_); refine aU (aD (aA (bI rfl (fun hc73 => ?_) (fun hc73 => ?_))))
       ·skip
        refine aE (aB (aM (aM (aM (aD (aA (aO (aP (eV rfl rfl rfl rfl ?_)))))))))
        exact ⟨mC (hbr.trans (if_neg (fun h => by have h1 := h.1; have h2 := h.2; omega))), hE13⟩
       refine aW (aA (aE (aB (aG (aG (aG ?_)))))); refine aC rfl (bC rfl rfl (by omega) (by omega)) ?_; refine aM (aM (aM (aD (aA (aO (eV rfl rfl rfl rfl ?_)))))); exact ⟨mC (hbr.trans ((if_pos ⟨by omega, by omega⟩).trans (by rw [if_pos hmi]))), hE13⟩
      refine aW (aA (aE (aE (aB (aG (aC rfl (bF rfl rfl) ?_)))))); refine aG (aX (t := 62) rfl (fun hs62 => ?_) (fun hs62 => ?_))
      ·skip
       refine aH (aH (aH (aH (bL (aG (aH (aH (aH (aH (bL (aD (aA (dA rfl ?_))))))))))))); refine aE (aB (aM (aM (aM (aD (aA (aO (aP (eV rfl rfl rfl rfl ?_)))))))))
       exact ⟨mC (hbr.trans (if_neg (fun h => by have h1 := h.1; have h2 := h.2; omega))), hE13⟩
      refine aR (aG (aR (aG (aR (aC rfl (cI rfl Tryz.underlying9 rfl) ?_))))); refine aR (aC rfl (fU rfl rfl) ?_); refine aU (aG (aX (t := 68) rfl (fun hs68 => ?_) (fun hs68 => ?_)))
      ·skip
       refine aH (aH (aH (aH (bL (aD (aA (dA rfl ?_))))))); refine aE (aB (aM (aM (aM (aD (aA (aO (aP (eV rfl rfl rfl rfl ?_)))))))))
       exact ⟨mC (hbr.trans (if_neg (fun h => by have h1 := h.1; have h2 := h.2; omega))), hE13⟩
      refine aR (aG (aR (aG (aR ?_)))); refine aC rfl (fC (n := m) rfl rfl Tryz.underlying9 rfl (by omega)) ?_; refine aR (aC rfl (gA rfl rfl) ?_); refine aU (aD (aA (bI rfl (fun hc73 => ?_) (fun hc73 => ?_))))
      ·skip
       refine aE (aB (aM (aM (aM (aD (aA (aO (aP (eV rfl rfl rfl rfl ?_)))))))))
       exact ⟨mC (hbr.trans (if_neg (fun h => by have h1 := h.1; have h2 := h.2; omega))), hE13⟩
      refine aW (aA (aE (aB (aG (aG (aG ?_)))))); refine aC rfl (bC rfl rfl (by omega) (by omega)) ?_; refine aM (aM (aM (aD (aA (aO (eV rfl rfl rfl rfl ?_)))))); exact ⟨mC (hbr.trans ((if_pos ⟨by omega, by omega⟩).trans (by rw [if_neg (by omega)]))), hE13⟩
     refine aW (aA (aE (aE (aB (aG (aC rfl (bF rfl rfl) ?_)))))); refine aG (aX (t := 62) rfl (fun hs62 => ?_) (fun hs62 => ?_))
     ·skip
      refine aH (aH (aH (aH (bL (aG (aH (aH (aH (aH (bL (aD (aA (dA rfl ?_))))))))))))); refine aE (aB (aM (aM (aM (aD (aA (aO (aP (eV rfl rfl rfl rfl ?_)))))))))
      exact ⟨mC (hbr.trans ((if_neg (by rintro ⟨h1, h2, h3⟩; omega)).trans (if_pos (.inl (by omega))))), hE8⟩
     refine aR (aG (aR (aG (aR (aC rfl (cI rfl Tryz.underlying9 rfl) ?_))))); refine aR (aC rfl (fU rfl rfl) ?_); refine aU (aG (aX (t := 68) rfl (fun hs68 => ?_) (fun hs68 => ?_)))
     ·skip
      refine aH (aH (aH (aH (bL (aD (aA (dA rfl ?_))))))); refine aE (aB (aM (aM (aM (aD (aA (aO (aP (eV rfl rfl rfl rfl ?_)))))))))
      exact ⟨mC (hbr.trans ((if_neg (by rintro ⟨h1, h2, h3⟩; omega)).trans (if_pos (.inr (fun h => by have h1 := h.1; have h2 := h.2; omega))))), hE8⟩
     refine aR (aG (aR (aG (aR ?_)))); refine aC rfl (fC (n := i) rfl rfl Tryz.underlying9 rfl (by omega)) ?_; refine aR (aC rfl (gA rfl rfl) ?_); refine aU (aD (aA (bI rfl (fun hc73 => ?_) (fun hc73 => ?_))))
     ·skip
      refine aE (aB (aM (aM (aM (aD (aA (aO (aP (eV rfl rfl rfl rfl ?_)))))))))
      exact ⟨mC (hbr.trans ((if_neg (by rintro ⟨h1, h2, h3⟩; omega)).trans (if_pos (.inr (fun h => by have h1 := h.1; have h2 := h.2; omega))))), hE8⟩
     refine aW (aA (aE (aB (aG (aG (aG ?_)))))); refine aC rfl (bC rfl rfl (by omega) (by omega)) ?_; refine aM (aM (aM (aD (aA (aO (eV rfl rfl rfl rfl ?_))))))
     exact ⟨mC (hbr.trans ((if_neg (by rintro ⟨h1, h2, h3⟩; omega)).trans (if_neg (by rintro (h | h); omega; exact h ⟨by omega, by omega⟩)))), hE8⟩
    refine aH (aH (aH (aH (aU (aD (aA (cK rfl ?_))))))); refine aW (aA (aE (aE (aB (aG (aC rfl (bF rfl rfl) ?_)))))); refine aG (aX (t := 62) rfl (fun hs62 => ?_) (fun hs62 => ?_))
    ·skip
     refine aH (aH (aH (aH (bL (aG (aH (aH (aH (aH (bL (aD (aA (dA rfl ?_))))))))))))); refine aE (aB (aM (aM (aM (aD (aA (aO (aP (eV rfl rfl rfl rfl ?_)))))))))
     exact ⟨mC (hbr.trans ((if_neg (by rintro ⟨h1, h2, h3⟩; omega)).trans (if_pos (.inl (by omega))))), hE8⟩
    refine aR (aG (aR (aG (aR (aC rfl (cI rfl Tryz.underlying9 rfl) ?_))))); refine aR (aC rfl (fU rfl rfl) ?_); refine aU (aG (aX (t := 68) rfl (fun hs68 => ?_) (fun hs68 => ?_)))
    ·skip
     refine aH (aH (aH (aH (bL (aD (aA (dA rfl ?_))))))); refine aE (aB (aM (aM (aM (aD (aA (aO (aP (eV rfl rfl rfl rfl ?_)))))))))
     exact ⟨mC (hbr.trans ((if_neg (by rintro ⟨h1, h2, h3⟩; omega)).trans (if_pos (.inr (fun h => by have h1 := h.1; have h2 := h.2; omega))))), hE8⟩
    refine aR (aG (aR (aG (aR ?_)))); refine aC rfl (fC (n := i) rfl rfl Tryz.underlying9 rfl (by omega)) ?_; refine aR (aC rfl (gA rfl rfl) ?_); refine aU (aD (aA (bI rfl (fun hc73 => ?_) (fun hc73 => ?_))))
    ·skip
     refine aE (aB (aM (aM (aM (aD (aA (aO (aP (eV rfl rfl rfl rfl ?_)))))))))
     exact ⟨mC (hbr.trans ((if_neg (by rintro ⟨h1, h2, h3⟩; omega)).trans (if_pos (.inr (fun h => by have h1 := h.1; have h2 := h.2; omega))))), hE8⟩
    refine aW (aA (aE (aB (aG (aG (aG ?_)))))); refine aC rfl (bC rfl rfl (by omega) (by omega)) ?_; refine aM (aM (aM (aD (aA (aO (eV rfl rfl rfl rfl ?_))))))
    exact ⟨mC (hbr.trans ((if_neg (by rintro ⟨h1, h2, h3⟩; omega)).trans (if_neg (by rintro (h | h); omega; exact h ⟨by omega, by omega⟩)))), hE8⟩
   refine aH (aH (aH (aH (aU (aG (aH (aH (aH (aH (aU (aD (aA (cK rfl ?_))))))))))))); refine aW (aA (aE (aE (aB (aG (aC rfl (bF rfl rfl) ?_)))))); refine aG (aX (t := 62) rfl (fun hs62 => ?_) (fun hs62 => ?_))
   ·skip
    refine aH (aH (aH (aH (bL (aG (aH (aH (aH (aH (bL (aD (aA (dA rfl ?_))))))))))))); refine aE (aB (aM (aM (aM (aD (aA (aO (aP (eV rfl rfl rfl rfl ?_)))))))))
    exact ⟨mC (hbr.trans ((if_neg (by rintro ⟨h1, h2, h3⟩; omega)).trans (if_pos (.inl (by omega))))), hE8⟩
   refine aR (aG (aR (aG (aR (aC rfl (cI rfl Tryz.underlying9 rfl) ?_))))); refine aR (aC rfl (fU rfl rfl) ?_); refine aU (aG (aX (t := 68) rfl (fun hs68 => ?_) (fun hs68 => ?_)))
   ·skip
    refine aH (aH (aH (aH (bL (aD (aA (dA rfl ?_))))))); refine aE (aB (aM (aM (aM (aD (aA (aO (aP (eV rfl rfl rfl rfl ?_)))))))))
    exact ⟨mC (hbr.trans ((if_neg (by rintro ⟨h1, h2, h3⟩; omega)).trans (if_pos (.inr (fun h => by have h1 := h.1; have h2 := h.2; omega))))), hE8⟩
   refine aR (aG (aR (aG (aR ?_)))); refine aC rfl (fC (n := i) rfl rfl Tryz.underlying9 rfl (by omega)) ?_; refine aR (aC rfl (gA rfl rfl) ?_); refine aU (aD (aA (bI rfl (fun hc73 => ?_) (fun hc73 => ?_))))
   ·skip
    refine aE (aB (aM (aM (aM (aD (aA (aO (aP (eV rfl rfl rfl rfl ?_)))))))))
    exact ⟨mC (hbr.trans ((if_neg (by rintro ⟨h1, h2, h3⟩; omega)).trans (if_pos (.inr (fun h => by have h1 := h.1; have h2 := h.2; omega))))), hE8⟩
   refine aW (aA (aE (aB (aG (aG (aG ?_)))))); refine aC rfl (bC rfl rfl (by omega) (by omega)) ?_; refine aM (aM (aM (aD (aA (aO (eV rfl rfl rfl rfl ?_))))))
   exact ⟨mC (hbr.trans ((if_neg (by rintro ⟨h1, h2, h3⟩; omega)).trans (if_neg (by rintro (h | h); omega; exact h ⟨by omega, by omega⟩)))), hE8⟩
  refine aE (aB (aM (aM (aM (aD (aA (aO (aY (aP (eV rfl rfl rfl rfl ?_)))))))))); exact ⟨mC (LG (by omega) (by omega) (by omega) (by omega)), hE3⟩
end Go.Proofs.YtljadkcojnlioaaGreatDoor
namespace Go.Proofs.YtljadkcojnlioaaGreatDoor
open Go.Proofs
open Go.W Go.RowKit
attribute [local irreducible] Decidable.decide
theorem dL : rD Tryz.prog 25 = some (27, 9) := by kernel_rfl
def KOut (w w' : World) (v : Value) (l : List Rx) : Prop := ∃ a c ob cs bs, v = .slice a l.length c ∧ OwnS w' 27 9 a l.length c cs ob ∧ OTs l w' cs bs ∧ Fr w (ob.toList ++ bs)
theorem hZ {X : List Nat} {w w1 w2 : World} {x : Rx} {vs : List Value} {bs : List Nat} {g : Nat} (hO : OwnS w2 27 9 (some ⟨g, 0, none⟩) 1 1 vs (some g)) (hT : OT x w1 vs bs) (hF : Fr w bs) (hg : w1.heap.size ≤ g) (he : Evo X w1 w2) (hx : ∀ b, b ∈ bs → b ∉ X) (hw : w.heap.size ≤ w1.heap.size) : KOut w w2 (.slice (some ⟨g, 0, none⟩) 1 1) [x] := by
  refine ⟨_, _, some g, vs, bs, rfl, hO, OTs.single (hT.evo he hx), ⟨List.nodup_cons.2 ⟨fun h => ?_, hF.nd⟩, fun b hb => ?_⟩⟩
  · have := hT.lt g h; omega
  · rcases List.mem_cons.1 hb with rfl | hb
    · omega
    · exact hF.ge b hb
theorem ot_row (k : Int) {l : List Rx} {w : World} {a : Option Addr} {n c : Nat} {cs : List Value} {ob : Option Nat} {bs : List Nat} (hO : OwnS w 27 9 a n c cs ob) (hT : OTs l w cs bs) (hl : l.length ≤ 1000000) :
    OT (tX k l) w [iv k, .int .i32 0, .slice none 0 0, iv 0, iv 0, .bool false, iv 0, .string ByteArray.empty, .slice a n c] (ob.toList ++ bs) := by
  have h1 := hO.length
  have h2 := hT.len
  obtain rfl : n = l.length := by omega
  unfold tX
  rw [OT]
  exact ⟨none, 0, none, a, c, ob, cs, bs, rfl, OwnS.nil _ _ _, hO, hT, rfl, by simp, by show (0 : Nat) ≤ 1000000; omega, hl⟩
theorem IU {k : Int} {l : List Rx} (h : 2 ≤ l.length) : pI k l = tX k l := by
  match l, h with
  | x :: y :: l, _ => rfl
theorem yW {w : World} (k : Int) {l : List Rx} {a : Option Addr} {n c : Nat} {cs : List Value} {ob : Option Nat} {bs : List Nat} (hO : OwnS w 27 9 a n c cs ob) (hT : OTs l w cs bs) (hl : l.length ≤ 1000000) :
    Calls Tryz.prog 61 #[iv k, .slice a n c] w (Ret fun v w' => (∃ vs bs', v = .agg vs.toArray ∧ OT (pI k l) w' vs bs' ∧ bs'.Sublist (ob.toList ++ bs)) ∧ Evo [] w w') := by
  have h1 := hO.length; have h2 := hT.len
  obtain rfl : n = l.length := by omega
  refine bO (N := 18) Tryz.func61 rfl rfl rfl ?_; refine aE (aB (dG rfl eI fun b4 w1 hB2 hs3 hw4 => ?_)); have hsz_b4 := hs3; have hA5 := Apart.new (Lt.own hO) hs3; have hG6 := Ge.new (Evo.refl [] w) hs3; have hE7 := (Evo.refl [] w).then hw4; have hO8 := hO.evo0 hw4; refine aD (aA (aE (aE (aB (aG (aC rfl (bQ rfl Tryz.underlying25 rfl) ?_)))))); refine aD (aA (bT (aE (aB (aC rfl (bF rfl rfl) ?_))))); refine aM (aD (aA (bI rfl (fun hc7 => ?_) (fun hc7 => ?_))))
  ·skip
   refine aE (aB (aC rfl (eE (vs := [(0, _)]) dO rfl (cells := [_, _, _, _, _, _, _, _, _]) rfl) ?_)); refine bN rfl rfl bE hB2 rfl rfl ⟨rfl, rfl, rfl, rfl, rfl, rfl, rfl, rfl, rfl, trivial⟩ fun w9 hB10 hw11 => ?_; have hE12 := hE7.step hw11 hG6.mem1
   try simp only [cU, Nat.reduceAdd] at hB10
   refine aD (aA (aO (aY (aP (dE rfl (ResOk.cellA rfl bV bE hB10 rfl) ?_))))); obtain rfl := List.length_eq_zero_iff.1 (show l.length = 0 by omega); exact ⟨⟨_, [], rfl, oP 1 _, List.nil_sublist _⟩, hE12⟩
  refine aE (aB (aC rfl (bF rfl rfl) ?_)); refine aM (aD (aA (bI rfl (fun hc10 => ?_) (fun hc10 => ?_))))
  ·skip
   obtain ⟨x, rfl⟩ := List.length_eq_one_iff.1 (show l.length = 1 by omega); obtain ⟨g1, hg1', ha1, hc1⟩ := hO.cells (by simp); have hX := hT.one'; obtain ⟨ra, rc, ka, kc, rfl⟩ := id hX.nine; refine aE (aB (aG ?_)); refine aC rfl (fD (n := 0) rfl rfl ha1 eB (by omega)) ?_; refine aC rfl (eL rfl bV bE (vs := [_, _, _, _, _, _, _, _, _]) rfl (hc1.evo hE7 (by simp))) ?_; refine bN rfl rfl bE hB2 rfl rfl ⟨rfl, rfl, rfl, rfl, rfl, rfl, rfl, rfl, rfl, trivial⟩ fun w14 hB15 hw16 => ?_; have hE17 := hE7.step hw16 hG6.mem1
   try simp only [cU, Nat.reduceAdd] at hB15
   refine aD (aA (aO (aY (aP (dE rfl (ResOk.cellA rfl bV bE hB15 rfl) ?_))))); exact ⟨⟨_, bs, rfl, hX.evo hE17 (fun b hb h => by cases h), List.sublist_append_right _ _⟩, hE17⟩
  refine aW (aZ (aA (aE (aB (aG (aG (aC rfl (eE (vs := [(0, _), (8, _)]) dO rfl (cells := [_, _, _, _, _, _, _, _, _]) rfl) ?_))))))); refine bN rfl rfl bE hB2 rfl rfl ⟨rfl, rfl, rfl, rfl, rfl, rfl, rfl, rfl, rfl, trivial⟩ fun w19 hB20 hw21 => ?_; have hE22 := hE7.step hw21 hG6.mem1; have hO23 := hO8.evo hw21 hA5.own1
  try simp only [cU, Nat.reduceAdd] at hB20
  refine aD (aA (aO (dE rfl (ResOk.cellA rfl bV bE hB20 rfl) ?_))); rw [IU (by omega)]; exact ⟨⟨_, _, rfl, ot_row k hO23 (hT.evo hE22 (fun b hb h => by cases h)) hl, List.Sublist.refl _⟩, hE22⟩
theorem MA {w : World} (k k2 : Int) (t : Bool) : Calls Tryz.prog 115 #[iv k, iv k2, .bool t] w (Ret fun v w' => KOut w w' v [rxK (if t = true then k2 else k)] ∧ Evo [] w w') := by
  refine bO (N := 12) Tryz.func115 rfl rfl rfl ?_; refine aE (aB (aM (aD (aA (aE (aE (aB (aG (aD (aA (gC rfl (fun hc7 => ?_) (fun hc7 => ?_))))))))))))
  ·skip
   refine aB (aG (aM (aD (aA (aE (aB (aG (aC rfl (eE (vs := [(0, _)]) dO rfl (cells := [_, _, _, _, _, _, _, _, _]) rfl) ?_)))))))); refine bM (vs := [_]) rfl dL rfl rfl rfl rfl fun b11 w1 hO2 hs3 hw4 => ?_; have hG5 := Ge.new (Evo.refl [] w) hs3; have hE6 := (Evo.refl [] w).then hw4; refine aM (aD (aA (aO (aJ rfl rfl ?_)))); rw [if_pos hc7]; exact ⟨hZ hO2 (oP k2 _) (Fr.nil _) (hG5 _ rfl) hE6 (fun b hb => by cases hb) (Nat.le_refl _), hE6⟩
  refine aW (aA (aE (aB (aG (aC rfl (eE (vs := [(0, _)]) dO rfl (cells := [_, _, _, _, _, _, _, _, _]) rfl) ?_))))); refine bM (vs := [_]) rfl dL rfl rfl rfl rfl fun b11 w7 hO8 hs9 hw10 => ?_; have hG11 := Ge.new (Evo.refl [] w) hs9; have hE12 := (Evo.refl [] w).then hw10; refine aM (aD (aA (aO (aJ rfl rfl ?_)))); rw [if_neg (by simp [hc7])]; exact ⟨hZ hO8 (oP k _) (Fr.nil _) (hG11 _ rfl) hE12 (fun b hb => by cases hb) (Nat.le_refl _), hE12⟩
end Go.Proofs.YtljadkcojnlioaaGreatDoor
namespace Go.Proofs.YtljadkcojnlioaaGreatDoor
open Go.Proofs
open Go.W Go.RowKit
attribute [local irreducible] Decidable.decide
theorem cQ : nC Tryz.prog 159 = some true := by kernel_rfl
theorem iP : nC Tryz.prog 28 = some false := by kernel_rfl
theorem iN : nC Tryz.prog 62 = some true := by kernel_rfl
theorem lA : fZ Tryz.prog 64 4 = some 7 := by kernel_rfl
theorem bP : iG Tryz.prog 159 = some 9 := by kernel_rfl
theorem dS : iG Tryz.prog 62 = some 4 := by kernel_rfl
theorem AI : nF Tryz.prog 164 = some #[.string ByteArray.empty, .string ByteArray.empty] := by kernel_rfl
theorem RdAt.mk' {w : World} {b : Nat} {s : ByteArray} {st : PS} {a : Option Addr} {n c : Nat} {ob : Option Nat} (hn : n = st.names.length)
    (hb : w.heap[b]? = some (.cells #[.string s, iv (st.pos : Nat), .bool st.now.fold, .bool st.now.lines, .bool st.now.dots, .bool st.now.lazy, iv (st.opn : Nat), .slice a n c] 64 (0, 0)))
    (ho : OwnS w 9 1 a n c (st.names.map sv) ob) (hne : ∀ g, ob = some g → g ≠ b) : RdAt w b s st a c ob := by subst hn; exact ⟨hb, ho, hne⟩
theorem JD {w : World} {e : TypeId} {a : Option Addr} {n c : Nat} {l : List ByteArray} {ob : Option Nat} (h : OwnS w e 1 a n c (l.map sv) ob) {k : Nat} (hk : k < l.length) : ∃ g, ob = some g ∧ a = some ⟨g, 0, none⟩ ∧ w.cell? ⟨g, 0 + k * 1, none⟩ = some (sv l[k]) := by
  have hl : l.length = n * 1 := by have := h.length; simpa using this
  obtain ⟨g, hg, ha, hc⟩ := h.cells (by omega)
  refine ⟨g, hg, ha, ?_⟩
  rw [Nat.mul_one]
  exact hc k _ (by simp [hk])
def JY (nm : ByteArray) (ns : List ByteArray) : Prop := ns.length = 100 ∨ (nm ≠ emp ∧ nm ∈ ns)
structure NgP (nm : ByteArray) (ns : List ByteArray) (k : Nat) : Prop where
  hk : k ≤ ns.length
  all : ∀ i (h : i < ns.length), i < k → nm = emp ∨ ns[i] ≠ nm
theorem ng_end {nm : ByteArray} {ns : List ByteArray} {k : Nat} (h : NgP nm ns k) (hk : ns.length ≤ k) (h1 : ns.length ≠ 100) : ¬ JY nm ns := by
  rintro (h2 | ⟨h2, h3⟩)
  · exact h1 h2
  · obtain ⟨i, hi, he⟩ := List.getElem_of_mem h3
    rcases h.all i hi (by omega) with h4 | h4
    · exact h2 h4
    · exact h4 he
theorem uA {w : World} {b : Nat} {s : ByteArray} {st : PS} {a : Option Addr} {c : Nat} {ob : Option Nat} (hR : RdAt w b s st a c ob) (nm : ByteArray) (hnl : st.names.length ≤ 100) :
    Calls Tryz.prog 128 #[.pointer (some ⟨b, 0, none⟩), .string nm] w (RetP (fun v w' => ¬ JY nm st.names ∧ v = iv ((st.names.length : Int) + 1) ∧ Evo (b :: ob.toList) w w' ∧ ∃ a' c' ob', RdAt w' b s { st with names := st.names ++ [nm] } a' c' ob' ∧ (ob' = ob ∨ ∃ g, ob' = some g ∧ w.heap.size ≤ g)) (fun v w' => JY nm st.names ∧ v = flt 85 ∧ Evo [] w w')) := by
  have hap := hR.ap; refine bO (N := 47) Tryz.func128 rfl rfl rfl ?_; refine aE (aB (aM (aD (aA (aE (aE (aB (aG (aC rfl (aQ rfl) (aC rfl (aF rfl lA) (aC rfl (aI rfl kK (aK hR.blk rfl)) (aC rfl (bQ rfl Tryz.underlying22 rfl) ?_)))))))))))); refine aC rfl (bF rfl rfl) ?_; refine aD (aA (bI rfl (fun hc12 => ?_) (fun hc12 => ?_)))
  ·skip
   refine aB (bX (vs := [_]) cV rfl (eM 85) rfl ?_ ?_)
   ·skip
    intro pv wp hpp; obtain ⟨rfl, hpw⟩ := hpp; exact And.intro rfl ⟨_, rfl, .inl (by omega), rfl, ((Evo.refl [] w)).then hpw⟩
   intro _ _ hF; exact hF.elim
  refine aW (aA (aE (aE (aB (aG (aC rfl (aQ rfl) (aC rfl (aF rfl lA) (aC rfl (aI rfl kK (aK hR.blk rfl)) (aC rfl (bQ rfl Tryz.underlying22 rfl) ?_))))))))); refine aG (aD (aA (bT ?_))); refine eR (α := Nat) (0) (fun k => [(19, .int .i64 (k : Nat))]) [(0, _), (1, _), (4, _), (17, _), (18, _)] (fun k wr => Evo [] w wr ∧ (NgP nm st.names k)) (fun k => st.names.length - k) ⟨rfl, trivial⟩ ⟨rfl, rfl, rfl, rfl, rfl, trivial⟩ ⟨Evo.refl _ _, ⟨Nat.zero_le _, fun i h h2 => by omega⟩⟩ ?_; rintro k wr3 ⟨hV4, hng⟩; show CW _ _ _ _ [(19, _), (0, _), (1, _), (4, _), (17, _), (18, _)] _; have hE5 := (Evo.refl [] w).then hV4; have hE6 := (Evo.refl (b :: ob.toList) w).then hV4; have hB7 := hV4.blk0 hR.blk; have hO8 := hR.own.evo0 hV4; have hngk := hng.hk; refine aE (aB (aC rfl (dH rfl rfl) ?_)); refine aD (aA (aE (bI rfl (fun hc20 => ?_) (fun hc20 => ?_))))
  ·skip
   have hk' : k < st.names.length := by omega
   obtain ⟨g1, hg1, ha1, hc1⟩ := JD hR.own hk'; refine aW (aA (aE (bT (aE (aB ?_))))); refine aC rfl (fD (n := k) rfl rfl ha1 uN (by omega)) ?_; refine aC rfl (aI rfl cO ((hE5).cell hc1 (by simp))) ?_; refine aM (aD (aA (aE (aB (aG (aC rfl (sC rfl rfl) ?_)))))); refine aG (aX (t := 25) rfl (fun hs25 => ?_) (fun hs25 => ?_))
   ·skip
    refine aR (aG (aR (aG (aR (aC rfl (gL rfl rfl) ?_))))); refine bL (aD (aA (bI rfl (fun hc29 => ?_) (fun hc29 => ?_))))
    ·skip
     refine aB (bX (vs := [_]) cV rfl (eM 85) rfl ?_ ?_)
     ·skip
      intro pv wp hpp; obtain ⟨rfl, hpw⟩ := hpp; exact And.intro rfl ⟨_, rfl, .inr ⟨hs25, hc29 ▸ List.getElem_mem hk'⟩, rfl, (hE5).then hpw⟩
     intro _ _ hF; exact hF.elim
    refine aW (aZ (aA (aB ?_))); refine aC rfl (bC rfl rfl (by omega) (by omega)) ?_; refine aG (aD (bY ?_)); refine ⟨k + 1, ?_, ⟨rfl, trivial⟩, ⟨rfl, rfl, rfl, rfl, rfl, trivial⟩, hV4, ?_⟩
    · omega
    refine ⟨hk', fun i h h2 => ?_⟩
    by_cases e : i = k
    · subst e; exact .inr hc29
    · exact hng.all i h (by omega)
   refine aH (aH (aH (aU (aD (aA (cK rfl ?_)))))); refine aW (aZ (aA (aB ?_))); refine aC rfl (bC rfl rfl (by omega) (by omega)) ?_; refine aG (aD (bY ?_)); refine ⟨k + 1, ?_, ⟨rfl, trivial⟩, ⟨rfl, rfl, rfl, rfl, rfl, trivial⟩, hV4, ?_⟩
   · omega
   refine ⟨hk', fun i h h2 => ?_⟩
   by_cases e : i = k
   · subst e; exact .inl (Classical.not_not.1 hs25)
   · exact hng.all i h (by omega)
  refine dV (cB (cB (dU (aA ?_)))); refine aE (aB (aG (aG (aC rfl (aQ rfl) (aC rfl (aF rfl lA) (aC rfl (aI rfl kK (aK hB7 rfl)) (aG (bM (vs := [_]) rfl sI rfl rfl rfl rfl fun b11 w12 hO13 hs14 hw15 => ?_)))))))); have hE21 := hE5.then hw15; have hE22 := hE6.then hw15; have hB24 := hw15.blk0 hB7; have hO25 := hO8.evo0 hw15; have hx12 := hE21; refine dR rfl rfl rfl rfl rA hO25 (Src.ofOwn hO13 ⟨rfl, trivial⟩) (by omega) fun a2 c2 w28 ob2 hO2 hw31 hob32 => ?_; have hA33 := hap.app (Lt.blk hB24) hob32; have hE36 := hE22.step hw31 (fun y hy => .inl (List.mem_cons_of_mem _ hy)); have hB38 := hw31.blk hB24 hap.nmem; have hob2 := hob32; refine aC rfl (aQ rfl) (aC rfl (aF rfl lA) (bK rfl rfl (rfl) uE hB38 rfl fun w40 hB41 hw42 => ?_))
  have hE43 := hE36.step hw42 (fun y hy => .inl (by rw [List.mem_singleton.1 hy]; simp))
  have hO45 := hO2.evo hw42 hA33.symm.own1
  try simp only [cU, Nat.reduceAdd] at hB41
  refine aD (aA (aE (aB (aG (aC rfl (aQ rfl) (aC rfl (aF rfl lA) (aC rfl (aI rfl kK (aK hB41 rfl)) (aC rfl (bQ rfl Tryz.underlying22 rfl) ?_)))))))); refine aM (aD (aA (aO (bW (aJ rfl rfl ?_)))))
  refine ⟨ng_end hng (by omega) (by omega), by rfl, hE43, a2, c2, ob2, RdAt.mk' (by simp) hB41 (by rw [List.map_append]; exact hO45) (fun g hg e => (hA33) g (congrArg some e.symm) hg), ?_⟩
  rcases hob2 with h | ⟨g, h, h2⟩
  · exact .inl h
  · exact .inr ⟨g, h, Nat.le_trans hx12.size h2⟩
end Go.Proofs.YtljadkcojnlioaaGreatDoor
namespace Go.Proofs.YtljadkcojnlioaaGreatDoor
open Go.Proofs
open Go.W Go.RowKit
attribute [local irreducible] Decidable.decide
theorem fI : fZ Tryz.prog 159 0 = some 0 := by kernel_rfl
theorem gW : fZ Tryz.prog 159 2 = some 2 := by kernel_rfl
theorem kH : fZ Tryz.prog 159 4 = some 7 := by kernel_rfl
theorem eQ : fZ Tryz.prog 159 5 = some 8 := by kernel_rfl
theorem pA : fZ Tryz.prog 62 1 = some 1 := by kernel_rfl
theorem sX : fZ Tryz.prog 62 2 = some 2 := by kernel_rfl
theorem oZ : fZ Tryz.prog 62 3 = some 3 := by kernel_rfl
theorem fR : iG Tryz.prog 28 = some 1 := by kernel_rfl
theorem iV : nF Tryz.prog 159 = some #[.int .i64 0, .string ByteArray.empty, .bool false, .bool false, .bool false, .bool false, .bool false, .bool false, .int .i64 0] := by kernel_rfl
def opV (o : Opn) : Array Value := #[iv (o.size : Nat), .string o.name, .bool o.thn.fold, .bool o.thn.lines, .bool o.thn.dots, .bool o.thn.lazy, .bool o.capt, .bool o.sett, iv o.err]
section
variable {s : ByteArray} {i f j : Nat} {b m : Bool} {n : Int} {fl : Fl}
theorem FD (h : s.size ≤ j) : iX s i f j b n m fl = ⟨0, emp, fl, false, false, 84⟩ := by
  cases f with
  | zero => rfl
  | succ f => rw [iX, if_pos h]
theorem ps_i (h : j < s.size) (hc : sb s j = 105) : iX s i (f + 1) j b n m fl = iX s i f (j + 1) b (n + 1) m { fl with fold := b } := by rw [iX, if_neg (by omega), if_pos hc]
theorem ps_m (h : j < s.size) (hc : sb s j = 109) : iX s i (f + 1) j b n m fl = iX s i f (j + 1) b (n + 1) m { fl with lines := b } := by rw [iX, if_neg (by omega), if_neg (by omega), if_pos hc]
theorem ps_s (h : j < s.size) (hc : sb s j = 115) : iX s i (f + 1) j b n m fl = iX s i f (j + 1) b (n + 1) m { fl with dots := b } := by rw [iX, if_neg (by omega), if_neg (by omega), if_neg (by omega), if_pos hc]
theorem ps_u (h : j < s.size) (hc : sb s j = 85) : iX s i (f + 1) j b n m fl = iX s i f (j + 1) b (n + 1) m { fl with lazy := b } := by rw [iX, if_neg (by omega), if_neg (by omega), if_neg (by omega), if_neg (by omega), if_pos hc]
theorem LD (h : j < s.size) (hc : sb s j = 45) : iX s i (f + 1) j b n true fl = ⟨0, emp, fl, false, false, 84⟩ := by rw [iX, if_neg (by omega), if_neg (by omega), if_neg (by omega), if_neg (by omega), if_neg (by omega), if_pos hc, if_pos rfl]
theorem LE (h : j < s.size) (hc : sb s j = 45) : iX s i (f + 1) j b n false fl = iX s i f (j + 1) false 0 true fl := by rw [iX, if_neg (by omega), if_neg (by omega), if_neg (by omega), if_neg (by omega), if_neg (by omega), if_pos hc, if_neg (by simp)]
theorem IY (h : j < s.size) (hc : sb s j = 58 ∨ sb s j = 41) : iX s i (f + 1) j b n m fl = ⟨j + 1 - i, emp, fl, false, decide (sb s j = 41), if n = 0 then 84 else 0⟩ := by rw [iX, if_neg (by omega), if_neg (by omega), if_neg (by omega), if_neg (by omega), if_neg (by omega), if_neg (by omega), if_pos hc]
theorem LC (h : j < s.size) (h1 : ¬ sb s j = 105) (h2 : ¬ sb s j = 109) (h3 : ¬ sb s j = 115) (h4 : ¬ sb s j = 85) (h5 : ¬ sb s j = 45) (h6 : ¬ (sb s j = 58 ∨ sb s j = 41)) : iX s i (f + 1) j b n m fl = ⟨0, emp, fl, false, false, 84⟩ := by rw [iX, if_neg (by omega), if_neg h1, if_neg h2, if_neg h3, if_neg h4, if_neg h5, if_neg h6]
end
structure SeG where
  f : Nat
  k : Nat
  q : Bool
  n : Int
  m : Bool
  fl : Fl
structure SeI (w wr : World) (b3 b4 : Nat) (s : ByteArray) (i : Nat) (fl0 : Fl) (x : SeG) : Prop where
  hk : i + x.k ≤ s.size
  hf : s.size ≤ x.f + (i + x.k)
  n0 : 0 ≤ x.n
  n1 : x.n ≤ x.k
  eq : iX s i s.size (i + 2) true 0 false fl0 = iX s i x.f (i + x.k) x.q x.n x.m x.fl
  hb3 : wr.heap[b3]? = some (.cells #[iv 0, .string emp, .bool x.fl.fold, .bool x.fl.lines, .bool x.fl.dots, .bool x.fl.lazy, .bool false, .bool false, iv 0] 159 (0, 0))
  hb4 : wr.heap[b4]? = some (.cells #[iv 0, .string emp, .bool false, .bool false, .bool false, .bool false, .bool false, .bool false, iv 0] 159 (0, 0))
  g3 : Ge w (some b3)
  g4 : Ge w (some b4)
  a34 : Apart (some b3) (some b4)
theorem EU {w : World} (s : ByteArray) (i : Nat) (fl0 : Fl) (hi : i + 2 ≤ s.size) (hs : s.size ≤ 1000000) :
    Calls Tryz.prog 143 #[.string (s.extract i s.size), .agg (opV ⟨0, emp, fl0, false, false, 0⟩)] w (Ret fun v w' => v = .agg (opV (iX s i s.size (i + 2) true 0 false fl0)) ∧ Evo [] w w') := by
  have hrs := fS (s := s) (a := i) (Nat.le_refl s.size); show Calls Tryz.prog 143 #[.string (s.extract i s.size), .agg #[iv 0, .string emp, .bool fl0.fold, .bool fl0.lines, .bool fl0.dots, .bool fl0.lazy, .bool false, .bool false, iv 0]] w _; refine bO (N := 64) Tryz.func143 rfl rfl rfl ?_; refine aE (aB (kT rfl rfl fun b3 w1 hB2 hs3 hw4 => ?_)); have hsz_b3 := hs3; have hG5 := Ge.new (Evo.refl [] w) hs3; have hE6 := (Evo.refl [] w).then hw4; refine dG rfl iV fun b4 w7 hB8 hs9 hw10 => ?_; have hsz_b4 := hs9; have hA11 := Apart.new (Lt.blk hB2) hs9; have hG12 := Ge.new hE6 hs9; have hE13 := hE6.then hw10; have hB14 := hw10.blk0 hB2; refine aD (aA (aE (aB (aM (aM (aM (aD (aA (aE (aE (aB (aM (aD (aA (bT ?_)))))))))))))))
  refine eR (α := SeG) (⟨s.size, 2, true, 0, false, fl0⟩) (fun x => [(8, .int .i64 (x.k : Nat)), (5, .bool x.q), (6, .int .i64 x.n), (7, .bool x.m)]) [(0, _), (3, _), (4, _)] (fun x wr => Evo [] w wr ∧ (SeI w wr b3 b4 s i fl0 x)) (fun x => x.f) ⟨rfl, rfl, rfl, rfl, trivial⟩ ⟨rfl, rfl, rfl, trivial⟩ ⟨hE13, ⟨hi, (by show s.size ≤ s.size + (i + 2); omega), Int.le_refl _, (by show (0 : Int) ≤ ((2 : Nat) : Int); omega), rfl, hB14, hB8, hG5, hG12, hA11⟩⟩ ?_
  rintro ⟨f, k, q, n, m, fl⟩ wr15 ⟨hV16, ⟨hk, hf, hn0, hn1, heq, hb3, hb4, hg3, hg4, ha34⟩⟩; show CW _ _ _ _ [(8, .int .i64 (k : Nat)), (5, .bool q), (6, .int .i64 n), (7, .bool m), (0, _), (3, _), (4, _)] _
  try dsimp only at hk
  try dsimp only at hf
  try dsimp only at hn0
  try dsimp only at hn1
  try dsimp only at heq
  try dsimp only at hb3
  try dsimp only at hb4
  try dsimp only at hg3
  try dsimp only at hg4
  try dsimp only at ha34
  refine aE (aE (aB (aG (aG (aC rfl (cI rfl Tryz.underlying9 rfl) ?_))))); refine aC rfl (dH rfl rfl) ?_; refine aD (aA (bI rfl (fun hc12 => ?_) (fun hc12 => ?_)))
  ·skip
   have hik : i + k < s.size := by omega
   have e0 : sb (s.extract i s.size) k = sb s (i + k) := gR hik; obtain ⟨f', rfl⟩ : ∃ f', f = f' + 1 := ⟨f - 1, by omega⟩; have hb9 := gO s (i + k); refine aW (aA (aE (bT (aE (aE (aB (aG (aG ?_)))))))); refine aC rfl (fJ (n := k) rfl rfl Tryz.underlying9 rfl (by omega) e0) ?_; refine aD (aA (bT (aE (aB (aC rfl (bF rfl rfl) ?_))))); refine aM (aD (aA (bI rfl (fun hc20 => ?_) (fun hc20 => ?_))))
   ·skip
    refine aB (aG (aC rfl (aF rfl gW) (aC rfl (aF rfl pB) (bK rfl rfl (rfl) fQ hb3 rfl fun w17 hB18 hw19 => ?_)))); have hE20 := hV16.step hw19 hg3.mem1; have hB21 := hw19.blk hb4 ha34.symm.nmem1
    try simp only [cU, Nat.reduceAdd] at hB18
    refine aD (aZ (aA (aB (aG ?_)))); refine aC rfl (bC rfl rfl (by omega) (by omega)) ?_; refine aM (aD (aZ (aA (aB (aG ?_))))); refine aC rfl (bC rfl rfl (by omega) (by omega)) ?_; refine aM (aD (bY ?_)); refine ⟨⟨f', k + 1, q, n + 1, m, { fl with fold := q }⟩, ?_, ⟨rfl, rfl, rfl, rfl, trivial⟩, ⟨rfl, rfl, rfl, trivial⟩, hE20, ?_⟩
    · (try dsimp only); show f' < f' + 1; omega
    try dsimp only
    exact ⟨(by show i + (k + 1) ≤ s.size; omega), (by show s.size ≤ f' + (i + (k + 1)); omega), (by show 0 ≤ n + 1; omega), (by show n + 1 ≤ ((k + 1 : Nat) : Int); omega), heq.trans (ps_i (by omega) (by omega)), hB18, hB21, hg3, hg4, ha34⟩
   refine aE (aB (aC rfl (bF rfl rfl) ?_)); refine aM (aD (aA (bI rfl (fun hc25 => ?_) (fun hc25 => ?_))))
   ·skip
    refine aB (aG (aC rfl (aF rfl gW) (aC rfl (aF rfl pA) (bK rfl rfl (rfl) fQ hb3 rfl fun w22 hB23 hw24 => ?_)))); have hE25 := hV16.step hw24 hg3.mem1; have hB26 := hw24.blk hb4 ha34.symm.nmem1
    try simp only [cU, Nat.reduceAdd] at hB23
    refine aD (aZ (aA (aB (aG ?_)))); refine aC rfl (bC rfl rfl (by omega) (by omega)) ?_; refine aM (aD (aZ (aA (aB (aG ?_))))); refine aC rfl (bC rfl rfl (by omega) (by omega)) ?_; refine aM (aD (bY ?_)); refine ⟨⟨f', k + 1, q, n + 1, m, { fl with lines := q }⟩, ?_, ⟨rfl, rfl, rfl, rfl, trivial⟩, ⟨rfl, rfl, rfl, trivial⟩, hE25, ?_⟩
    · (try dsimp only); show f' < f' + 1; omega
    try dsimp only
    exact ⟨(by show i + (k + 1) ≤ s.size; omega), (by show s.size ≤ f' + (i + (k + 1)); omega), (by show 0 ≤ n + 1; omega), (by show n + 1 ≤ ((k + 1 : Nat) : Int); omega), heq.trans (ps_m (by omega) (by omega)), hB23, hB26, hg3, hg4, ha34⟩
   refine aE (aB (aC rfl (bF rfl rfl) ?_)); refine aM (aD (aA (bI rfl (fun hc30 => ?_) (fun hc30 => ?_))))
   ·skip
    refine aB (aG (aC rfl (aF rfl gW) (aC rfl (aF rfl sX) (bK rfl rfl (rfl) fQ hb3 rfl fun w27 hB28 hw29 => ?_)))); have hE30 := hV16.step hw29 hg3.mem1; have hB31 := hw29.blk hb4 ha34.symm.nmem1
    try simp only [cU, Nat.reduceAdd] at hB28
    refine aD (aZ (aA (aB (aG ?_)))); refine aC rfl (bC rfl rfl (by omega) (by omega)) ?_; refine aM (aD (aZ (aA (aB (aG ?_))))); refine aC rfl (bC rfl rfl (by omega) (by omega)) ?_; refine aM (aD (bY ?_)); refine ⟨⟨f', k + 1, q, n + 1, m, { fl with dots := q }⟩, ?_, ⟨rfl, rfl, rfl, rfl, trivial⟩, ⟨rfl, rfl, rfl, trivial⟩, hE30, ?_⟩
    · (try dsimp only); show f' < f' + 1; omega
    try dsimp only
    exact ⟨(by show i + (k + 1) ≤ s.size; omega), (by show s.size ≤ f' + (i + (k + 1)); omega), (by show 0 ≤ n + 1; omega), (by show n + 1 ≤ ((k + 1 : Nat) : Int); omega), heq.trans (ps_s (by omega) (by omega)), hB28, hB31, hg3, hg4, ha34⟩
   refine aE (aB (aC rfl (bF rfl rfl) ?_)); refine aM (aD (aA (bI rfl (fun hc35 => ?_) (fun hc35 => ?_))))
   ·skip
    refine aB (aG (aC rfl (aF rfl gW) (aC rfl (aF rfl oZ) (bK rfl rfl (rfl) fQ hb3 rfl fun w32 hB33 hw34 => ?_)))); have hE35 := hV16.step hw34 hg3.mem1; have hB36 := hw34.blk hb4 ha34.symm.nmem1
    try simp only [cU, Nat.reduceAdd] at hB33
    refine aD (aZ (aA (aB (aG ?_)))); refine aC rfl (bC rfl rfl (by omega) (by omega)) ?_; refine aM (aD (aZ (aA (aB (aG ?_))))); refine aC rfl (bC rfl rfl (by omega) (by omega)) ?_; refine aM (aD (bY ?_)); refine ⟨⟨f', k + 1, q, n + 1, m, { fl with lazy := q }⟩, ?_, ⟨rfl, rfl, rfl, rfl, trivial⟩, ⟨rfl, rfl, rfl, trivial⟩, hE35, ?_⟩
    · (try dsimp only); show f' < f' + 1; omega
    try dsimp only
    exact ⟨(by show i + (k + 1) ≤ s.size; omega), (by show s.size ≤ f' + (i + (k + 1)); omega), (by show 0 ≤ n + 1; omega), (by show n + 1 ≤ ((k + 1 : Nat) : Int); omega), heq.trans (ps_u (by omega) (by omega)), hB33, hB36, hg3, hg4, ha34⟩
   refine aE (aB (aC rfl (bF rfl rfl) ?_)); refine aM (aD (aA (bI rfl (fun hc40 => ?_) (fun hc40 => ?_))))
   ·skip
    refine aE (aE (aB (aG (aD (aA (gC rfl (fun hc42 => ?_) (fun hc42 => ?_)))))))
    ·skip
     subst hc42; refine aE (aB (aC rfl (aF rfl eQ) (bK rfl rfl (rfl) fR hb3 rfl fun w37 hB38 hw39 => ?_))); have hE40 := hV16.step hw39 hg3.mem1; have hB41 := hw39.blk hb4 ha34.symm.nmem1
     try simp only [cU, Nat.reduceAdd] at hB38
     refine aD (aA (aE (aB (aC rfl (cF rfl cQ bP hB38 rfl) (bN rfl rfl bP hB41 rfl rfl ⟨rfl, rfl, rfl, rfl, rfl, rfl, rfl, rfl, rfl, trivial⟩ fun w42 hB43 hw44 => ?_))))); have hE45 := hE40.step hw44 hg4.mem1
     try simp only [cU, Nat.reduceAdd] at hB43
     refine aD (aA (aO (aP (aY (aP (aY (aP (aP (aY (aP (dE rfl (ResOk.cellA rfl cQ bP hB43 rfl) ?_))))))))))); have hfin := heq.trans (LD (by omega) (by omega)); rw [hfin]; exact ⟨rfl, hE45⟩
    subst hc42; refine aW (aA (aB (aM (aM (aM (aD (aZ (aA (aB (aG ?_)))))))))); refine aC rfl (bC rfl rfl (by omega) (by omega)) ?_; refine aM (aD (aZ (aA (aB (aG ?_))))); refine aC rfl (bC rfl rfl (by omega) (by omega)) ?_; refine aM (aD (bY ?_)); refine ⟨⟨f', k + 1, false, 0, true, fl⟩, ?_, ⟨rfl, rfl, rfl, rfl, trivial⟩, ⟨rfl, rfl, rfl, trivial⟩, hV16, ?_⟩
    · (try dsimp only); show f' < f' + 1; omega
    try dsimp only
    exact ⟨(by show i + (k + 1) ≤ s.size; omega), (by show s.size ≤ f' + (i + (k + 1)); omega), Int.le_refl _, (by show (0 : Int) ≤ ((k + 1 : Nat) : Int); omega), heq.trans (LE (by omega) (by omega)), hb3, hb4, hg3, hg4, ha34⟩
   refine aE (aE (aB (aC rfl (bF rfl rfl) ?_))); refine aM (aD (aA (bI rfl (fun hc45 => ?_) (fun hc45 => ?_))))
   ·skip
    refine aW (aA (bI rfl (fun hc45 => ?_) (fun hc45 => ?_)))
    ·skip
     refine aE (aE (aB (aG (aC rfl (bF rfl rfl) ?_)))); refine aD (aA (bI rfl (fun hc49 => ?_) (fun hc49 => ?_)))
     ·skip
      refine aB (aC rfl (aF rfl eQ) (bK rfl rfl (rfl) fR hb3 rfl fun w47 hB48 hw49 => ?_)); have hE50 := hV16.step hw49 hg3.mem1; have hB51 := hw49.blk hb4 ha34.symm.nmem1
      try simp only [cU, Nat.reduceAdd] at hB48
      refine aD (aA (aE ?_)); refine jB (fun w0 w' => Evo [b3] w0 w') (by kernel_rfl) (fun w52 hw53 => ?_); have hE54 := hE50.then hw53; have hB55 := hw53.blk0 hB48; have hB56 := hw53.blk0 hB51; refine bG 0 rfl (by kernel_rfl) (by kernel_rfl) (by kernel_rfl) rfl (fun _ hS => bS rfl) (Evo.refl [b3] w52) ?_; refine bG 1 rfl (by kernel_rfl) (by kernel_rfl) (by kernel_rfl) rfl (fun _ hS => bC rfl rfl (by omega) (by omega)) (Evo.refl [b3] w52) ?_; refine bG 2 rfl (by kernel_rfl) (by kernel_rfl) (by kernel_rfl) rfl (fun _ hS => bS rfl) (Evo.refl [b3] w52) ?_; refine bG 3 rfl (by kernel_rfl) (by kernel_rfl) (by kernel_rfl) rfl (fun _ hS => bS rfl) (Evo.refl [b3] w52) ?_; refine bG 4 rfl (by kernel_rfl) (by kernel_rfl) (by kernel_rfl) rfl (fun _ hS => fJ (n := k) rfl rfl Tryz.underlying9 rfl (by omega) e0) (Evo.refl [b3] w52) ?_; refine bG 5 rfl (by kernel_rfl) (by kernel_rfl) (by kernel_rfl) rfl (fun _ hS => bF rfl rfl) (Evo.refl [b3] w52) ?_; refine bG 6 rfl (by kernel_rfl) (by kernel_rfl) (by kernel_rfl) rfl (fun _ hS => aF rfl fI) (Evo.refl [b3] w52) ?_; refine cT [7] (by kernel_rfl) rfl ⟨?_, trivial⟩; refine cZ rfl ?_; refine bK rfl rfl (rfl) bZ hB55 rfl fun w57 hB58 hw59 => ?_; have hE60 := hE54.step hw59 hg3.mem1; have hE61 := (Evo.refl [b3] w52).step hw59 (fun y hy => .inl hy); have hB62 := hw59.blk hB56 ha34.symm.nmem1
      try simp only [cU, Nat.reduceAdd] at hB58
      refine aD (cL (.inl hE61) ?_); refine bG 8 rfl (by kernel_rfl) (by kernel_rfl) (by kernel_rfl) rfl (fun _ hS => aF rfl kH) hE61 ?_; refine cT [9] (by kernel_rfl) rfl ⟨?_, trivial⟩; refine cZ rfl ?_; refine bK rfl rfl (rfl) fQ hB58 rfl fun w63 hB64 hw65 => ?_; have hE66 := hE60.step hw65 hg3.mem1; have hE67 := hE61.step hw65 (fun y hy => .inl hy); have hB68 := hw65.blk hB62 ha34.symm.nmem1
      try simp only [cU, Nat.reduceAdd] at hB64
      refine aD (cL (.inl hE67) ?_); refine fL (by kernel_rfl) (aA ?_); refine aE (aB (aC rfl (cF rfl cQ bP hB64 rfl) (bN rfl rfl bP hB68 rfl rfl ⟨rfl, rfl, rfl, rfl, rfl, rfl, rfl, rfl, rfl, trivial⟩ fun w69 hB70 hw71 => ?_))); have hE72 := hE66.step hw71 hg4.mem1
      try simp only [cU, Nat.reduceAdd] at hB70
      refine aD (aA (aO (aY (aP (aY (aP (aP (aY (aP (dE rfl (ResOk.cellA rfl cQ bP hB70 rfl) ?_)))))))))); have hfin := heq.trans (IY (by omega) (by omega)); rw [if_pos hc49] at hfin; rw [hfin]
      have e1 : (((i + k + 1 - i : Nat)) : Int) = (k : Int) + 1 := by omega
      have e2 : decide (((sb s (i + k) : Nat) : Int) = 41) = decide (sb s (i + k) = 41) := decide_eq_decide.2 (by omega); refine ⟨?_, hE72⟩; simp only [opV, e1, e2]
     refine aW (aA (aE ?_)); refine jB (fun w0 w' => Evo [b3] w0 w') (by kernel_rfl) (fun w74 hw75 => ?_); have hE76 := hV16.then hw75; have hB77 := hw75.blk0 hb3; have hB78 := hw75.blk0 hb4; refine bG 0 rfl (by kernel_rfl) (by kernel_rfl) (by kernel_rfl) rfl (fun _ hS => bS rfl) (Evo.refl [b3] w74) ?_; refine bG 1 rfl (by kernel_rfl) (by kernel_rfl) (by kernel_rfl) rfl (fun _ hS => bC rfl rfl (by omega) (by omega)) (Evo.refl [b3] w74) ?_; refine bG 2 rfl (by kernel_rfl) (by kernel_rfl) (by kernel_rfl) rfl (fun _ hS => bS rfl) (Evo.refl [b3] w74) ?_; refine bG 3 rfl (by kernel_rfl) (by kernel_rfl) (by kernel_rfl) rfl (fun _ hS => bS rfl) (Evo.refl [b3] w74) ?_; refine bG 4 rfl (by kernel_rfl) (by kernel_rfl) (by kernel_rfl) rfl (fun _ hS => fJ (n := k) rfl rfl Tryz.underlying9 rfl (by omega) e0) (Evo.refl [b3] w74) ?_; refine bG 5 rfl (by kernel_rfl) (by kernel_rfl) (by kernel_rfl) rfl (fun _ hS => bF rfl rfl) (Evo.refl [b3] w74) ?_; refine bG 6 rfl (by kernel_rfl) (by kernel_rfl) (by kernel_rfl) rfl (fun _ hS => aF rfl fI) (Evo.refl [b3] w74) ?_; refine cT [7] (by kernel_rfl) rfl ⟨?_, trivial⟩; refine cZ rfl ?_; refine bK rfl rfl (rfl) bZ hB77 rfl fun w79 hB80 hw81 => ?_; have hE82 := hE76.step hw81 hg3.mem1; have hE83 := (Evo.refl [b3] w74).step hw81 (fun y hy => .inl hy); have hB84 := hw81.blk hB78 ha34.symm.nmem1
     try simp only [cU, Nat.reduceAdd] at hB80
     refine aD (cL (.inl hE83) ?_); refine bG 8 rfl (by kernel_rfl) (by kernel_rfl) (by kernel_rfl) rfl (fun _ hS => aF rfl kH) hE83 ?_; refine cT [9] (by kernel_rfl) rfl ⟨?_, trivial⟩; refine cZ rfl ?_; refine bK rfl rfl (rfl) fQ hB80 rfl fun w85 hB86 hw87 => ?_; have hE88 := hE82.step hw87 hg3.mem1; have hE89 := hE83.step hw87 (fun y hy => .inl hy); have hB90 := hw87.blk hB84 ha34.symm.nmem1
     try simp only [cU, Nat.reduceAdd] at hB86
     refine aD (cL (.inl hE89) ?_); refine fL (by kernel_rfl) (aA ?_); refine aE (aB (aC rfl (cF rfl cQ bP hB86 rfl) (bN rfl rfl bP hB90 rfl rfl ⟨rfl, rfl, rfl, rfl, rfl, rfl, rfl, rfl, rfl, trivial⟩ fun w91 hB92 hw93 => ?_))); have hE94 := hE88.step hw93 hg4.mem1
     try simp only [cU, Nat.reduceAdd] at hB92
     refine aD (aA (aO (aY (aP (aY (aP (aP (aY (aP (dE rfl (ResOk.cellA rfl cQ bP hB92 rfl) ?_)))))))))); have hfin := heq.trans (IY (by omega) (by omega)); rw [if_neg hc49] at hfin; rw [hfin]
     have e1 : (((i + k + 1 - i : Nat)) : Int) = (k : Int) + 1 := by omega
     have e2 : decide (((sb s (i + k) : Nat) : Int) = 41) = decide (sb s (i + k) = 41) := decide_eq_decide.2 (by omega); refine ⟨?_, hE94⟩; simp only [opV, e1, e2]
    exfalso; omega
   refine aB (aC rfl (bF rfl rfl) ?_); refine aM (aD (aA (bI rfl (fun hc45 => ?_) (fun hc45 => ?_))))
   ·skip
    refine aE (aE (aB (aG (aC rfl (bF rfl rfl) ?_)))); refine aD (aA (bI rfl (fun hc49 => ?_) (fun hc49 => ?_)))
    ·skip
     refine aB (aC rfl (aF rfl eQ) (bK rfl rfl (rfl) fR hb3 rfl fun w96 hB97 hw98 => ?_)); have hE99 := hV16.step hw98 hg3.mem1; have hB100 := hw98.blk hb4 ha34.symm.nmem1
     try simp only [cU, Nat.reduceAdd] at hB97
     refine aD (aA (aE ?_)); refine jB (fun w0 w' => Evo [b3] w0 w') (by kernel_rfl) (fun w101 hw102 => ?_); have hE103 := hE99.then hw102; have hB104 := hw102.blk0 hB97; have hB105 := hw102.blk0 hB100; refine bG 0 rfl (by kernel_rfl) (by kernel_rfl) (by kernel_rfl) rfl (fun _ hS => bS rfl) (Evo.refl [b3] w101) ?_; refine bG 1 rfl (by kernel_rfl) (by kernel_rfl) (by kernel_rfl) rfl (fun _ hS => bC rfl rfl (by omega) (by omega)) (Evo.refl [b3] w101) ?_; refine bG 2 rfl (by kernel_rfl) (by kernel_rfl) (by kernel_rfl) rfl (fun _ hS => bS rfl) (Evo.refl [b3] w101) ?_; refine bG 3 rfl (by kernel_rfl) (by kernel_rfl) (by kernel_rfl) rfl (fun _ hS => bS rfl) (Evo.refl [b3] w101) ?_; refine bG 4 rfl (by kernel_rfl) (by kernel_rfl) (by kernel_rfl) rfl (fun _ hS => fJ (n := k) rfl rfl Tryz.underlying9 rfl (by omega) e0) (Evo.refl [b3] w101) ?_; refine bG 5 rfl (by kernel_rfl) (by kernel_rfl) (by kernel_rfl) rfl (fun _ hS => bF rfl rfl) (Evo.refl [b3] w101) ?_; refine bG 6 rfl (by kernel_rfl) (by kernel_rfl) (by kernel_rfl) rfl (fun _ hS => aF rfl fI) (Evo.refl [b3] w101) ?_; refine cT [7] (by kernel_rfl) rfl ⟨?_, trivial⟩; refine cZ rfl ?_; refine bK rfl rfl (rfl) bZ hB104 rfl fun w106 hB107 hw108 => ?_; have hE109 := hE103.step hw108 hg3.mem1; have hE110 := (Evo.refl [b3] w101).step hw108 (fun y hy => .inl hy); have hB111 := hw108.blk hB105 ha34.symm.nmem1
     try simp only [cU, Nat.reduceAdd] at hB107
     refine aD (cL (.inl hE110) ?_); refine bG 8 rfl (by kernel_rfl) (by kernel_rfl) (by kernel_rfl) rfl (fun _ hS => aF rfl kH) hE110 ?_; refine cT [9] (by kernel_rfl) rfl ⟨?_, trivial⟩; refine cZ rfl ?_; refine bK rfl rfl (rfl) fQ hB107 rfl fun w112 hB113 hw114 => ?_; have hE115 := hE109.step hw114 hg3.mem1; have hE116 := hE110.step hw114 (fun y hy => .inl hy); have hB117 := hw114.blk hB111 ha34.symm.nmem1
     try simp only [cU, Nat.reduceAdd] at hB113
     refine aD (cL (.inl hE116) ?_); refine fL (by kernel_rfl) (aA ?_); refine aE (aB (aC rfl (cF rfl cQ bP hB113 rfl) (bN rfl rfl bP hB117 rfl rfl ⟨rfl, rfl, rfl, rfl, rfl, rfl, rfl, rfl, rfl, trivial⟩ fun w118 hB119 hw120 => ?_))); have hE121 := hE115.step hw120 hg4.mem1
     try simp only [cU, Nat.reduceAdd] at hB119
     refine aD (aA (aO (aY (aP (aY (aP (aP (aY (aP (dE rfl (ResOk.cellA rfl cQ bP hB119 rfl) ?_)))))))))); have hfin := heq.trans (IY (by omega) (by omega)); rw [if_pos hc49] at hfin; rw [hfin]
     have e1 : (((i + k + 1 - i : Nat)) : Int) = (k : Int) + 1 := by omega
     have e2 : decide (((sb s (i + k) : Nat) : Int) = 41) = decide (sb s (i + k) = 41) := decide_eq_decide.2 (by omega); refine ⟨?_, hE121⟩; simp only [opV, e1, e2]
    refine aW (aA (aE ?_)); refine jB (fun w0 w' => Evo [b3] w0 w') (by kernel_rfl) (fun w123 hw124 => ?_); have hE125 := hV16.then hw124; have hB126 := hw124.blk0 hb3; have hB127 := hw124.blk0 hb4; refine bG 0 rfl (by kernel_rfl) (by kernel_rfl) (by kernel_rfl) rfl (fun _ hS => bS rfl) (Evo.refl [b3] w123) ?_; refine bG 1 rfl (by kernel_rfl) (by kernel_rfl) (by kernel_rfl) rfl (fun _ hS => bC rfl rfl (by omega) (by omega)) (Evo.refl [b3] w123) ?_; refine bG 2 rfl (by kernel_rfl) (by kernel_rfl) (by kernel_rfl) rfl (fun _ hS => bS rfl) (Evo.refl [b3] w123) ?_; refine bG 3 rfl (by kernel_rfl) (by kernel_rfl) (by kernel_rfl) rfl (fun _ hS => bS rfl) (Evo.refl [b3] w123) ?_; refine bG 4 rfl (by kernel_rfl) (by kernel_rfl) (by kernel_rfl) rfl (fun _ hS => fJ (n := k) rfl rfl Tryz.underlying9 rfl (by omega) e0) (Evo.refl [b3] w123) ?_; refine bG 5 rfl (by kernel_rfl) (by kernel_rfl) (by kernel_rfl) rfl (fun _ hS => bF rfl rfl) (Evo.refl [b3] w123) ?_; refine bG 6 rfl (by kernel_rfl) (by kernel_rfl) (by kernel_rfl) rfl (fun _ hS => aF rfl fI) (Evo.refl [b3] w123) ?_; refine cT [7] (by kernel_rfl) rfl ⟨?_, trivial⟩; refine cZ rfl ?_; refine bK rfl rfl (rfl) bZ hB126 rfl fun w128 hB129 hw130 => ?_; have hE131 := hE125.step hw130 hg3.mem1; have hE132 := (Evo.refl [b3] w123).step hw130 (fun y hy => .inl hy); have hB133 := hw130.blk hB127 ha34.symm.nmem1
    try simp only [cU, Nat.reduceAdd] at hB129
    refine aD (cL (.inl hE132) ?_); refine bG 8 rfl (by kernel_rfl) (by kernel_rfl) (by kernel_rfl) rfl (fun _ hS => aF rfl kH) hE132 ?_; refine cT [9] (by kernel_rfl) rfl ⟨?_, trivial⟩; refine cZ rfl ?_; refine bK rfl rfl (rfl) fQ hB129 rfl fun w134 hB135 hw136 => ?_; have hE137 := hE131.step hw136 hg3.mem1; have hE138 := hE132.step hw136 (fun y hy => .inl hy); have hB139 := hw136.blk hB133 ha34.symm.nmem1
    try simp only [cU, Nat.reduceAdd] at hB135
    refine aD (cL (.inl hE138) ?_); refine fL (by kernel_rfl) (aA ?_); refine aE (aB (aC rfl (cF rfl cQ bP hB135 rfl) (bN rfl rfl bP hB139 rfl rfl ⟨rfl, rfl, rfl, rfl, rfl, rfl, rfl, rfl, rfl, trivial⟩ fun w140 hB141 hw142 => ?_))); have hE143 := hE137.step hw142 hg4.mem1
    try simp only [cU, Nat.reduceAdd] at hB141
    refine aD (aA (aO (aY (aP (aY (aP (aP (aY (aP (dE rfl (ResOk.cellA rfl cQ bP hB141 rfl) ?_)))))))))); have hfin := heq.trans (IY (by omega) (by omega)); rw [if_neg hc49] at hfin; rw [hfin]
    have e1 : (((i + k + 1 - i : Nat)) : Int) = (k : Int) + 1 := by omega
    have e2 : decide (((sb s (i + k) : Nat) : Int) = 41) = decide (sb s (i + k) = 41) := decide_eq_decide.2 (by omega); refine ⟨?_, hE143⟩; simp only [opV, e1, e2]
   refine aE (aB (aC rfl (aF rfl eQ) (bK rfl rfl (rfl) fR hb3 rfl fun w145 hB146 hw147 => ?_))); have hE148 := hV16.step hw147 hg3.mem1; have hB149 := hw147.blk hb4 ha34.symm.nmem1
   try simp only [cU, Nat.reduceAdd] at hB146
   refine aD (aA (aE (aB (aC rfl (cF rfl cQ bP hB146 rfl) (bN rfl rfl bP hB149 rfl rfl ⟨rfl, rfl, rfl, rfl, rfl, rfl, rfl, rfl, rfl, trivial⟩ fun w150 hB151 hw152 => ?_))))); have hE153 := hE148.step hw152 hg4.mem1
   try simp only [cU, Nat.reduceAdd] at hB151
   refine aD (aA (aO (aY (aP (aY (aP (aP (aY (aP (dE rfl (ResOk.cellA rfl cQ bP hB151 rfl) ?_)))))))))); have hfin := heq.trans (LC (by omega) (by omega) (by omega) (by omega) (by omega) (by omega) (by omega)); rw [hfin]; exact ⟨rfl, hE153⟩
  refine dV (cB (cB (dU (aA ?_)))); refine aE (aB (aC rfl (aF rfl eQ) (bK rfl rfl (rfl) fR hb3 rfl fun w155 hB156 hw157 => ?_))); have hE158 := hV16.step hw157 hg3.mem1; have hB159 := hw157.blk hb4 ha34.symm.nmem1
  try simp only [cU, Nat.reduceAdd] at hB156
  refine aD (aA (aE (aB (aC rfl (cF rfl cQ bP hB156 rfl) (bN rfl rfl bP hB159 rfl rfl ⟨rfl, rfl, rfl, rfl, rfl, rfl, rfl, rfl, rfl, trivial⟩ fun w160 hB161 hw162 => ?_))))); have hE163 := hE158.step hw162 hg4.mem1
  try simp only [cU, Nat.reduceAdd] at hB161
  refine aD (aA (aO (dE rfl (ResOk.cellA rfl cQ bP hB161 rfl) ?_))); have hfin := heq.trans (FD (by omega)); rw [hfin]; exact ⟨rfl, hE163⟩
end Go.Proofs.YtljadkcojnlioaaGreatDoor
namespace Go.Proofs.YtljadkcojnlioaaGreatDoor
open Go.Proofs
open Go.W Go.RowKit
attribute [local irreducible] Decidable.decide
theorem xO : Build Tryz.prog 159 #[(0, 1), (1, 1), (2, 4), (6, 1), (7, 1), (8, 1)] #[.int .i64 0, .string ByteArray.empty, .bool false, .bool false, .bool false, .bool false, .bool false, .bool false, .int .i64 0] := ⟨_, .agg #[.int .i64 0, .string ByteArray.empty, .bool false, .bool false, .bool false, .bool false, .bool false, .bool false, .int .i64 0], Tryz.underlying159, by kernel_rfl, rfl, fun w => by kernel_rfl⟩
theorem iE : fZ Tryz.prog 159 1 = some 1 := by kernel_rfl
theorem gD : fZ Tryz.prog 159 3 = some 6 := by kernel_rfl
theorem AW : eT Tryz.prog 143 := ⟨_, Tryz.func143, by kernel_rfl, by kernel_rfl⟩
def hd (k : Nat) : ByteArray := if k = 0 then ByteArray.mk #[40, 63, 80, 60] else ByteArray.mk #[40, 63, 60]
theorem hd_sz (k : Nat) : (k = 0 ∧ (hd k).size = 4) ∨ (k ≠ 0 ∧ (hd k).size = 3) := by
  unfold hd
  by_cases h : k = 0
  · rw [if_pos h]; exact .inl ⟨h, rfl⟩
  · rw [if_neg h]; exact .inr ⟨h, rfl⟩
theorem part_hd {k : Nat} (hk : k < 2) (w : World) : (part 9 #[.string (ByteArray.mk #[40, 63, 80, 60]), .string (ByteArray.mk #[40, 63, 60])] (k * 1)).run Tryz.prog w = .ok (.string (hd k)) w := by
  match k, hk with
  | 0, _ => exact tA w cO rfl
  | 1, _ => exact tA w cO rfl
theorem wF {s : ByteArray} {i k : Nat} (hi : i ≤ s.size) (h0 : isB s i 40 ∧ isB s (i + 1) 63) : Pre (s.extract i s.size) (hd k) ↔ (k = 0 ∧ isB s (i + 2) 80 ∧ isB s (i + 3) 60) ∨ (k ≠ 0 ∧ isB s (i + 2) 60) := by
  unfold hd
  by_cases h : k = 0
  · rw [if_pos h, pre4 hi]
    exact ⟨fun h1 => .inl ⟨h, h1.2.2⟩, fun h1 => by rcases h1 with h1 | h1; exact ⟨h0.1, h0.2, h1.2⟩; exact absurd h h1.1⟩
  · rw [if_neg h, pre3 hi]
    exact ⟨fun h1 => .inr ⟨h, h1.2.2⟩, fun h1 => by rcases h1 with h1 | h1; exact absurd h1.1 h; exact ⟨h0.1, h0.2, h1.2⟩⟩
theorem vT {s : ByteArray} {i : Nat} {fl : Fl} (h : ¬ (isB s i 40 ∧ isB s (i + 1) 63)) : iH s i fl = ⟨1, emp, fl, true, false, 0⟩ := by unfold iH; rw [if_pos h]
theorem JF {s : ByteArray} {i k : Nat} {fl : Fl} (hi : i ≤ s.size) (h0 : isB s i 40 ∧ isB s (i + 1) 63) (hk : k < 2) (h1 : Pre (s.extract i s.size) (hd k)) (h2 : ∀ j, j < k → ¬ Pre (s.extract i s.size) (hd j)) : iH s i fl = nZ s i (hd k).size fl := by
  rcases (show k = 0 ∨ k = 1 by omega) with rfl | rfl
  · unfold iH
    rw [if_neg (fun h => h h0), show (hd 0).size = 4 from rfl]
    rcases (wF hi h0).1 h1 with h3 | h3
    · exact if_pos h3.2
    · exact absurd rfl h3.1
  · unfold iH
    rw [if_neg (fun h => h h0), show (hd 1).size = 3 from rfl, if_neg (fun h => h2 0 (by omega) ((wF hi h0).2 (.inl ⟨rfl, h⟩)))]
    rcases (wF hi h0).1 h1 with h3 | h3
    · exact absurd h3.1 (by omega)
    · exact if_pos h3.2
theorem open_no {s : ByteArray} {i : Nat} {fl : Fl} (hi : i ≤ s.size) (h0 : isB s i 40 ∧ isB s (i + 1) 63) (h2 : ∀ j, j < 2 → ¬ Pre (s.extract i s.size) (hd j)) : iH s i fl = if isB s (i + 2) 58 then ⟨3, emp, fl, false, false, 0⟩ else iX s i s.size (i + 2) true 0 false fl := by
  unfold iH
  rw [if_neg (fun h => h h0), if_neg (fun h => h2 0 (by omega) ((wF hi h0).2 (.inl ⟨rfl, h⟩))), if_neg (fun h => h2 1 (by omega) ((wF hi h0).2 (.inr ⟨by omega, h⟩)))]
theorem wI {w : World} {b : Nat} {s : ByteArray} {st : PS} {a : Option Addr} {c : Nat} {T : TypeId} {z : Nat × Nat} (h : w.heap[b]? = some (.cells (rdc s st a c) T z)) : ∀ j v, ([.bool st.now.fold, .bool st.now.lines, .bool st.now.dots, .bool st.now.lazy] : List Value)[j]? = some v → w.cell? ⟨b, 2 + j, none⟩ = some v
  | 0, v, e => by cases e; exact iA h rfl
  | 1, v, e => by cases e; exact iA h rfl
  | 2, v, e => by cases e; exact iA h rfl
  | 3, v, e => by cases e; exact iA h rfl
  | j + 4, v, e => by cases e
theorem LP {s : ByteArray} {f j : Nat} (h : j < s.size) (h2 : iT (sb s j)) : kC s (f + 1) j = kC s f (j + 1) := by rw [kC, if_pos ⟨h, h2⟩]
theorem jP {s : ByteArray} {f j : Nat} (h : ¬ (j < s.size ∧ iT (sb s j))) : kC s f j = j := by
  cases f with
  | zero => rfl
  | succ f => rw [kC, if_neg h]
theorem kM {s : ByteArray} {i h : Nat} {fl : Fl} {j : Nat} (e : kC s s.size (i + h) = j) (hc : j = i + h ∨ ¬ isB s j 62) : nZ s i h fl = ⟨0, emp, fl, false, false, 85⟩ := by unfold nZ; rw [e, if_pos hc]
theorem nY {s : ByteArray} {i h : Nat} {fl : Fl} {j : Nat} (e : kC s s.size (i + h) = j) (hc : ¬ (j = i + h ∨ ¬ isB s j 62)) : nZ s i h fl = ⟨j + 1 - i, s.extract (i + h) j, fl, true, false, 0⟩ := by unfold nZ; rw [e, if_neg hc]
structure HdI (w wr : World) (b2 b4 : Nat) (s : ByteArray) (i : Nat) (fl : Fl) (k : Nat) : Prop where
  hk : k ≤ 2
  no : ∀ j, j < k → ¬ Pre (s.extract i s.size) (hd j)
structure WdG where
  f : Nat
  m : Nat
structure WdI (s : ByteArray) (i h : Nat) (x : WdG) : Prop where
  hm : i + x.m ≤ s.size
  hh : h ≤ x.m
  hf : s.size ≤ x.f + (i + x.m)
  eq : kC s s.size (i + h) = kC s x.f (i + x.m)
theorem mW {w : World} {b : Nat} {s : ByteArray} {st : PS} {a : Option Addr} {c : Nat} {ob : Option Nat} (hR : RdAt w b s st a c ob) (hs : s.size ≤ 1000000) (hlt : st.pos < s.size) :
    Calls Tryz.prog 127 #[.pointer (some ⟨b, 0, none⟩)] w (Ret fun v w' => v = .agg (opV (iH s st.pos st.now)) ∧ Evo [] w w') := by
  have hap := hR.ap
  have hle : st.pos ≤ s.size := by omega
  have hrs := fS (s := s) (a := st.pos) (Nat.le_refl s.size); refine bO (N := 87) Tryz.func127 rfl rfl rfl ?_; refine aE (aB (dG rfl iV fun b2 w1 hB2 hs3 hw4 => ?_)); have hsz_b2 := hs3; have hG7 := Ge.new (Evo.refl [] w) hs3; have hE8 := (Evo.refl [] w).then hw4; have hB9 := hw4.blk0 hR.blk; refine aD (aA (aE ?_)); refine fH (by kernel_rfl) (by kernel_rfl) ?_; refine aV rfl (fun _ hq12 => bS rfl) ?_; refine aV rfl (fun _ hq12 => aQ rfl) ?_; refine aV rfl (fun _ hq12 => aF rfl dI) ?_; refine aV rfl (fun _ hq12 => aI rfl cO (aK (hq12.blk0 hB9) rfl)) ?_; refine aV rfl (fun _ hq12 => bS rfl) ?_; refine aV rfl (fun _ hq12 => aQ rfl) ?_; refine aV rfl (fun _ hq12 => aF rfl bH) ?_; refine aV rfl (fun _ hq12 => aI rfl bD (aK (hq12.blk0 hB9) rfl)) ?_; refine aV rfl (fun _ hq12 => gQ (l := st.pos) rfl rfl Tryz.underlying9 rfl hle) ?_; refine aV rfl (fun _ hq12 => eZ rfl) ?_; refine fN (fun wq11 hq12 => aA ?_); have hE13 := hE8.then hq12; have hB14 := hq12.blk0 hB9; have hB16 := hq12.blk0 hB2; refine aE (aB (aG (aC rfl (aQ rfl) (aC rfl (aF rfl eO) (aC rfl (eL (o := 2) rfl iN dS (vs := [.bool st.now.fold, .bool st.now.lines, .bool st.now.dots, .bool st.now.lazy]) rfl (wI hB14)) ?_))))); refine aC rfl (eE (vs := [(2, _)]) xO rfl (cells := [_, _, _, _, _, _, _, _, _]) rfl) ?_; refine dG rfl iV fun b4 w17 hB18 hs19 hw20 => ?_; have hsz_b4 := hs19
  have hA23 := Apart.new (Lt.blk hB16) hs19; have hG24 := Ge.new hE13 hs19; have hE25 := hE13.then hw20; have hB28 := hw20.blk0 hB16; refine bN rfl rfl bP hB18 rfl rfl ⟨rfl, rfl, rfl, rfl, rfl, rfl, rfl, rfl, rfl, trivial⟩ fun w29 hB30 hw31 => ?_; have hE32 := hE25.step hw31 hG24.mem1; have hB35 := hw31.blk hB28 hA23.nmem1
  try simp only [cU, Nat.reduceAdd] at hB30
  refine aD (aA (aE (aE (aB (aG ?_))))); refine aN (vs := [_, _]) mJ rfl (uY (s.extract st.pos s.size) (ByteArray.mk #[40, 63]) (by omega) (show 2 ≤ 140737488355328 by omega)) rfl ?_; rintro _ w36 ⟨rfl, hw37⟩; have hE38 := hE32.then hw37; have hB41 := hw37.blk0 hB35; have hB42 := hw37.blk0 hB30; refine aC rfl (lI rfl) ?_; refine aD (aA (bI rfl (fun hc24 => ?_) (fun hc24 => ?_)))
  ·skip
   refine aE (aB (aC rfl (aF rfl fI) (bK rfl rfl (rfl) bZ hB42 rfl fun w43 hB44 hw45 => ?_))); have hE46 := hE38.step hw45 hG24.mem1; have hB49 := hw45.blk hB41 hA23.nmem1
   try simp only [cU, Nat.reduceAdd] at hB44
   refine aC rfl (aF rfl gD) (bK rfl rfl (rfl) fQ hB44 rfl fun w50 hB51 hw52 => ?_); have hE53 := hE46.step hw52 hG24.mem1; have hB56 := hw52.blk hB49 hA23.nmem1
   try simp only [cU, Nat.reduceAdd] at hB51
   refine aD (aA (aE (aB (aC rfl (cF rfl cQ bP hB51 rfl) (bN rfl rfl bP hB56 rfl rfl ⟨rfl, rfl, rfl, rfl, rfl, rfl, rfl, rfl, rfl, trivial⟩ fun w57 hB58 hw59 => ?_))))); have hE60 := hE53.step hw59 hG7.mem1
   try simp only [cU, Nat.reduceAdd] at hB58
   refine aD (aA (aO (aP (dE rfl (ResOk.cellA rfl cQ bP hB58 rfl) ?_)))); rw [vT (fun h => hc24 ((lY hle).2 h))]; exact ⟨rfl, hE60⟩
  have h40 := (lY hle).1 (Classical.not_not.1 hc24); refine aW (aA (aE (aE (aB ?_)))); refine aC rfl (qO (vs := [(0, _), (1, _)]) Tryz.underlying164 AI jY rfl (cells := #[.string (ByteArray.mk #[40, 63, 80, 60]), .string (ByteArray.mk #[40, 63, 60])]) (by kernel_rfl)) ?_; refine aG (aD (aA (bT ?_))); refine eR (α := Nat) (0) (fun k => [(29, .int .i64 (k : Nat))]) [(2, _), (3, _), (4, _), (28, _)] (fun k wr => Evo [] w36 wr ∧ (HdI w wr b2 b4 s st.pos st.now k)) (fun k => 2 - k) ⟨rfl, trivial⟩ ⟨rfl, rfl, rfl, rfl, trivial⟩ ⟨Evo.refl _ _, ⟨Nat.zero_le _, fun j h => by cases h⟩⟩ ?_; rintro k wr64 ⟨hV65, ⟨hk2, hno⟩⟩; show CW _ _ _ _ [(29, _), (2, _), (3, _), (4, _), (28, _)] _; have hE66 := hE38.then hV65; have hB69 := hV65.blk0 hB41; have hB70 := hV65.blk0 hB42; refine aE (aB (aC rfl (dH rfl rfl) ?_)); refine aD (aA (aE (bI rfl (fun hc30 => ?_) (fun hc30 => ?_))))
  ·skip
   refine aW (aA (aE (bT (aE (aB ?_))))); refine aC rfl (HW (n := k) rfl rfl Tryz.underlying164 rfl (by omega) jY (part_hd (by omega))) ?_; refine aM (aD (aA (aE (aE (aB (aG (aG ?_)))))))
   refine aN (vs := [_, _]) mJ rfl (uY (s.extract st.pos s.size) (hd k) (by omega) (by have := hd_sz k; omega)) rfl ?_
   rintro _ w71 ⟨rfl, hw72⟩; have hE73 := hE66.then hw72; have hE74 := hV65.then hw72; have hB77 := hw72.blk0 hB69; have hB78 := hw72.blk0 hB70; refine aC rfl (lI rfl) ?_; refine aD (aA (bI rfl (fun hc35 => ?_) (fun hc35 => ?_)))
   ·skip
    refine dV (cB (dU (aA ?_))); refine aB ?_; refine aC rfl (bC rfl rfl (by omega) (by omega)) ?_; refine aG (aD (bY ?_)); refine ⟨k + 1, ?_, ⟨rfl, trivial⟩, ⟨rfl, rfl, rfl, rfl, trivial⟩, hE74, ?_⟩
    · omega
    refine ⟨by omega, fun j hj => ?_⟩
    by_cases e : j = k
    · subst e; exact hc35
    · exact hno j (by omega)
   have hpk := Classical.not_not.1 hc35; have hsz := hd_sz k; have hsl : (hd k).size ≤ (s.extract st.pos s.size).size := hpk.1; have hop := JF (fl := st.now) hle h40 (by omega) hpk hno; refine aW (aA (aE (aB (aG (aC rfl (cI rfl Tryz.underlying9 rfl) ?_))))); refine aM (aD (aA (aE (bT ?_))))
   refine eR (α := WdG) (⟨s.size, (hd k).size⟩) (fun x => [(7, .int .i64 (x.m : Nat))]) [(2, _), (3, _), (4, _), (6, _), (28, _), (29, _)] (fun x wr => Evo [] w71 wr ∧ (WdI s st.pos (hd k).size x)) (fun x => x.f) ⟨rfl, trivial⟩ ⟨rfl, rfl, rfl, rfl, rfl, rfl, trivial⟩ ⟨Evo.refl _ _, ⟨by show st.pos + (hd k).size ≤ s.size; omega, Nat.le_refl _, Nat.le_add_right _ _, rfl⟩⟩ ?_
   rintro ⟨f, m⟩ wr79 ⟨hV80, ⟨hm, hhm, hf, heq⟩⟩; show CW _ _ _ _ [(7, .int .i64 (m : Nat)), (2, _), (3, _), (4, _), (6, _), (28, _), (29, _)] _
   try dsimp only at hm
   try dsimp only at hhm
   try dsimp only at hf
   try dsimp only at heq
   have hE81 := hE73.then hV80; have hB85 := hV80.blk0 hB77; have hB86 := hV80.blk0 hB78; refine aE (aE (aB (aG (aG (aC rfl (cI rfl Tryz.underlying9 rfl) ?_))))); refine aC rfl (dH rfl rfl) ?_; refine aG (aX (t := 42) rfl (fun hs42 => ?_) (fun hs42 => ?_))
   ·skip
    have e0 : sb (s.extract st.pos s.size) m = sb s (st.pos + m) := gR (by omega); refine aR (aG (aR (aG (aR ?_)))); refine aC rfl (fJ (n := m) rfl rfl Tryz.underlying9 rfl (by omega) e0) ?_; refine aR (aN (vs := [_]) mK rfl (uS (sb s (st.pos + m))) rfl ?_); rintro _ w87 ⟨rfl, hw88⟩; have hE89 := hE81.then hw88; have hE91 := hV80.then hw88; have hB94 := hw88.blk0 hB85; have hB95 := hw88.blk0 hB86; refine bL (aD (aA (bI rfl (fun hc47 => ?_) (fun hc47 => ?_))))
    ·skip
     refine aW (aA (bT (aB (aG ?_)))); refine aC rfl (bC rfl rfl (by omega) (by omega)) ?_; refine aM (aD (aZ (bY ?_))); refine ⟨⟨f - 1, m + 1⟩, ?_, ⟨rfl, trivial⟩, ⟨rfl, rfl, rfl, rfl, rfl, rfl, trivial⟩, hE91, ?_⟩
     · (try dsimp only); show f - 1 < f; omega
     try dsimp only
     have hf2 : f = f - 1 + 1 := by omega
     exact ⟨(by show st.pos + (m + 1) ≤ s.size; omega), Nat.le_succ_of_le hhm, (by show s.size ≤ f - 1 + (st.pos + (m + 1)); omega), heq.trans (by rw [hf2]; exact LP (by omega) hc47)⟩
    refine dV (cB (cB (dU (aA ?_)))); refine aE (aE (aB (aG (aG (aC rfl (cI rfl Tryz.underlying9 rfl) ?_))))); refine aC rfl (bF rfl rfl) ?_; refine aG (aX (t := 54) rfl (fun hs54 => ?_) (fun hs54 => ?_))
    ·skip
     refine aH (aH (aH (aH (bL (aG (aH (aH (aH (aH (bL (aD (aA (dA rfl ?_))))))))))))); refine aE (aB (aC rfl (aF rfl eQ) (bK rfl rfl (rfl) fR hB95 rfl fun w96 hB97 hw98 => ?_))); have hE99 := hE89.step hw98 hG24.mem1; have hB104 := hw98.blk hB94 hA23.nmem1
     try simp only [cU, Nat.reduceAdd] at hB97
     refine aD (aA (aE (aB (aC rfl (cF rfl cQ bP hB97 rfl) (bN rfl rfl bP hB104 rfl rfl ⟨rfl, rfl, rfl, rfl, rfl, rfl, rfl, rfl, rfl, trivial⟩ fun w105 hB106 hw107 => ?_))))); have hE108 := hE99.step hw107 hG7.mem1
     try simp only [cU, Nat.reduceAdd] at hB106
     refine aD (aA (aO (aP (aY (aP (aP (aY (aP (dE rfl (ResOk.cellA rfl cQ bP hB106 rfl) ?_)))))))))
     have hend := heq.trans (jP (by rintro ⟨h1, h2⟩; first | omega | exact hc47 h2))
     rw [hop, kM hend (.inl (by omega))]; exact ⟨rfl, hE108⟩
    refine aR (aG (aR (aG (aR (aC rfl (cI rfl Tryz.underlying9 rfl) ?_))))); refine aR (aC rfl (bF rfl rfl) ?_); refine aU (aG (aX (t := 60) rfl (fun hs60 => ?_) (fun hs60 => ?_)))
    ·skip
     refine aH (aH (aH (aH (bL (aD (aA (dA rfl ?_))))))); refine aE (aB (aC rfl (aF rfl eQ) (bK rfl rfl (rfl) fR hB95 rfl fun w112 hB113 hw114 => ?_))); have hE115 := hE89.step hw114 hG24.mem1; have hB120 := hw114.blk hB94 hA23.nmem1
     try simp only [cU, Nat.reduceAdd] at hB113
     refine aD (aA (aE (aB (aC rfl (cF rfl cQ bP hB113 rfl) (bN rfl rfl bP hB120 rfl rfl ⟨rfl, rfl, rfl, rfl, rfl, rfl, rfl, rfl, rfl, trivial⟩ fun w121 hB122 hw123 => ?_))))); have hE124 := hE115.step hw123 hG7.mem1
     try simp only [cU, Nat.reduceAdd] at hB122
     refine aD (aA (aO (aP (aY (aP (aP (aY (aP (dE rfl (ResOk.cellA rfl cQ bP hB122 rfl) ?_)))))))))
     have hend := heq.trans (jP (by rintro ⟨h1, h2⟩; first | omega | exact hc47 h2))
     rw [hop, kM hend (.inr (fun h => by have := h.1; omega))]
     exact ⟨rfl, hE124⟩
    have e0 : sb (s.extract st.pos s.size) m = sb s (st.pos + m) := gR (by omega); refine aR (aG (aR (aG (aR ?_)))); refine aC rfl (fJ (n := m) rfl rfl Tryz.underlying9 rfl (by omega) e0) ?_; refine aR (aC rfl (gA rfl rfl) ?_); refine aU (aD (aA (bI rfl (fun hc65 => ?_) (fun hc65 => ?_))))
    ·skip
     refine aE (aB (aC rfl (aF rfl eQ) (bK rfl rfl (rfl) fR hB95 rfl fun w128 hB129 hw130 => ?_))); have hE131 := hE89.step hw130 hG24.mem1; have hB136 := hw130.blk hB94 hA23.nmem1
     try simp only [cU, Nat.reduceAdd] at hB129
     refine aD (aA (aE (aB (aC rfl (cF rfl cQ bP hB129 rfl) (bN rfl rfl bP hB136 rfl rfl ⟨rfl, rfl, rfl, rfl, rfl, rfl, rfl, rfl, rfl, trivial⟩ fun w137 hB138 hw139 => ?_))))); have hE140 := hE131.step hw139 hG7.mem1
     try simp only [cU, Nat.reduceAdd] at hB138
     refine aD (aA (aO (aP (aY (aP (aP (aY (aP (dE rfl (ResOk.cellA rfl cQ bP hB138 rfl) ?_)))))))))
     have hend := heq.trans (jP (by rintro ⟨h1, h2⟩; first | omega | exact hc47 h2))
     rw [hop, kM hend (.inr (fun h => by have := h.2; omega))]
     exact ⟨rfl, hE140⟩
    have e74 : (s.extract st.pos s.size).extract (hd k).size m = s.extract (st.pos + (hd k).size) (st.pos + m) := wJ (by omega) hhm; refine aW (aA (aE ?_)); refine jB (fun w0 w' => Evo [b4] w0 w') (by kernel_rfl) (fun w144 hw145 => ?_); have hE146 := hE89.then hw145; have hB151 := hw145.blk0 hB94; have hB152 := hw145.blk0 hB95; refine bG 0 rfl (by kernel_rfl) (by kernel_rfl) (by kernel_rfl) rfl (fun _ hS => bS rfl) (Evo.refl [b4] w144) ?_; refine bG 1 rfl (by kernel_rfl) (by kernel_rfl) (by kernel_rfl) rfl (fun _ hS => bC rfl rfl (by omega) (by omega)) (Evo.refl [b4] w144) ?_; refine bG 2 rfl (by kernel_rfl) (by kernel_rfl) (by kernel_rfl) rfl (fun _ hS => bS rfl) (Evo.refl [b4] w144) ?_; refine bG 3 rfl (by kernel_rfl) (by kernel_rfl) (by kernel_rfl) rfl (fun _ hS => bS rfl) (Evo.refl [b4] w144) ?_; refine bG 4 rfl (by kernel_rfl) (by kernel_rfl) (by kernel_rfl) rfl (fun _ hS => cI rfl Tryz.underlying9 rfl) (Evo.refl [b4] w144) ?_; refine bG 5 rfl (by kernel_rfl) (by kernel_rfl) (by kernel_rfl) rfl (fun _ hS => bS rfl) (Evo.refl [b4] w144) ?_; refine bG 7 rfl (by kernel_rfl) (by kernel_rfl) (by kernel_rfl) rfl (fun _ hS => aF rfl fI) (Evo.refl [b4] w144) ?_; refine cT [6, 8] (by kernel_rfl) rfl ⟨?_, ?_, trivial⟩
    ·skip
     refine cZ rfl ?_; refine aC rfl (pU (l := (hd k).size) (h := m) rfl rfl rfl Tryz.underlying9 rfl rfl hhm (by omega) e74) ?_; refine aD (cL (.inl (Evo.refl [b4] w144)) ?_); refine cT [8] (by kernel_rfl) rfl ⟨?_, trivial⟩; refine cZ rfl ?_; refine bK rfl rfl (rfl) bZ hB152 rfl fun w153 hB154 hw155 => ?_; have hE156 := hE146.step hw155 hG24.mem1; have hE159 := (Evo.refl [b4] w144).step hw155 (fun y hy => .inl hy); have hB162 := hw155.blk hB151 hA23.nmem1
     try simp only [cU, Nat.reduceAdd] at hB154
     refine aD (cL (.inl hE159) ?_); refine bG 9 rfl (by kernel_rfl) (by kernel_rfl) (by kernel_rfl) rfl (fun _ hS => aF rfl iE) hE159 ?_; refine cT [10] (by kernel_rfl) rfl ⟨?_, trivial⟩; refine cZ rfl ?_; refine bK rfl rfl (rfl) jY hB154 rfl fun w163 hB164 hw165 => ?_; have hE166 := hE156.step hw165 hG24.mem1; have hE167 := hE159.step hw165 (fun y hy => .inl hy); have hB170 := hw165.blk hB162 hA23.nmem1
     try simp only [cU, Nat.reduceAdd] at hB164
     refine aD (cL (.inl hE167) ?_); refine bG 11 rfl (by kernel_rfl) (by kernel_rfl) (by kernel_rfl) rfl (fun _ hS => aF rfl gD) hE167 ?_; refine cT [12] (by kernel_rfl) rfl ⟨?_, trivial⟩; refine cZ rfl ?_; refine bK rfl rfl (rfl) fQ hB164 rfl fun w171 hB172 hw173 => ?_; have hE174 := hE166.step hw173 hG24.mem1; have hE175 := hE167.step hw173 (fun y hy => .inl hy); have hB178 := hw173.blk hB170 hA23.nmem1
     try simp only [cU, Nat.reduceAdd] at hB172
     refine aD (cL (.inl hE175) ?_); refine fL (by kernel_rfl) (aA ?_); refine aE (aB (aC rfl (cF rfl cQ bP hB172 rfl) (bN rfl rfl bP hB178 rfl rfl ⟨rfl, rfl, rfl, rfl, rfl, rfl, rfl, rfl, rfl, trivial⟩ fun w179 hB180 hw181 => ?_))); have hE182 := hE174.step hw181 hG7.mem1
     try simp only [cU, Nat.reduceAdd] at hB180
     refine aD (aA (aO (aY (aP (aP (aY (aP (dE rfl (ResOk.cellA rfl cQ bP hB180 rfl) ?_))))))))
     have hend := heq.trans (jP (by rintro ⟨h1, h2⟩; first | omega | exact hc47 h2))
     rw [hop, nY hend (by rintro (h | h); omega; exact h ⟨by omega, by omega⟩)]
     refine ⟨?_, hE182⟩; simp only [opV]; rw [show ((st.pos + m + 1 - st.pos : Nat) : Int) = (m : Int) + 1 by omega]
    refine cZ rfl ?_; refine bK rfl rfl (rfl) bZ hB152 rfl fun w186 hB187 hw188 => ?_; have hE189 := hE146.step hw188 hG24.mem1; have hE192 := (Evo.refl [b4] w144).step hw188 (fun y hy => .inl hy); have hB195 := hw188.blk hB151 hA23.nmem1
    try simp only [cU, Nat.reduceAdd] at hB187
    refine aD (cL (.inl hE192) ?_); refine cT [6] (by kernel_rfl) rfl ⟨?_, trivial⟩; refine cZ rfl ?_; refine aC rfl (pU (l := (hd k).size) (h := m) rfl rfl rfl Tryz.underlying9 rfl rfl hhm (by omega) e74) ?_; refine aD (cL (.inl hE192) ?_); refine bG 9 rfl (by kernel_rfl) (by kernel_rfl) (by kernel_rfl) rfl (fun _ hS => aF rfl iE) hE192 ?_; refine cT [10] (by kernel_rfl) rfl ⟨?_, trivial⟩; refine cZ rfl ?_; refine bK rfl rfl (rfl) jY hB187 rfl fun w196 hB197 hw198 => ?_; have hE199 := hE189.step hw198 hG24.mem1; have hE200 := hE192.step hw198 (fun y hy => .inl hy); have hB203 := hw198.blk hB195 hA23.nmem1
    try simp only [cU, Nat.reduceAdd] at hB197
    refine aD (cL (.inl hE200) ?_); refine bG 11 rfl (by kernel_rfl) (by kernel_rfl) (by kernel_rfl) rfl (fun _ hS => aF rfl gD) hE200 ?_; refine cT [12] (by kernel_rfl) rfl ⟨?_, trivial⟩; refine cZ rfl ?_; refine bK rfl rfl (rfl) fQ hB197 rfl fun w204 hB205 hw206 => ?_; have hE207 := hE199.step hw206 hG24.mem1; have hE208 := hE200.step hw206 (fun y hy => .inl hy); have hB211 := hw206.blk hB203 hA23.nmem1
    try simp only [cU, Nat.reduceAdd] at hB205
    refine aD (cL (.inl hE208) ?_); refine fL (by kernel_rfl) (aA ?_); refine aE (aB (aC rfl (cF rfl cQ bP hB205 rfl) (bN rfl rfl bP hB211 rfl rfl ⟨rfl, rfl, rfl, rfl, rfl, rfl, rfl, rfl, rfl, trivial⟩ fun w212 hB213 hw214 => ?_))); have hE215 := hE207.step hw214 hG7.mem1
    try simp only [cU, Nat.reduceAdd] at hB213
    refine aD (aA (aO (aY (aP (aP (aY (aP (dE rfl (ResOk.cellA rfl cQ bP hB213 rfl) ?_))))))))
    have hend := heq.trans (jP (by rintro ⟨h1, h2⟩; first | omega | exact hc47 h2))
    rw [hop, nY hend (by rintro (h | h); omega; exact h ⟨by omega, by omega⟩)]
    refine ⟨?_, hE215⟩; simp only [opV]; rw [show ((st.pos + m + 1 - st.pos : Nat) : Int) = (m : Int) + 1 by omega]
   refine aH (aH (aH (aH (aU (aD (aA (cK rfl ?_))))))); refine dV (cB (cB (dU (aA ?_)))); refine aE (aE (aB (aG (aG (aC rfl (cI rfl Tryz.underlying9 rfl) ?_))))); refine aC rfl (bF rfl rfl) ?_; refine aG (aX (t := 54) rfl (fun hs54 => ?_) (fun hs54 => ?_))
   ·skip
    refine aH (aH (aH (aH (bL (aG (aH (aH (aH (aH (bL (aD (aA (dA rfl ?_))))))))))))); refine aE (aB (aC rfl (aF rfl eQ) (bK rfl rfl (rfl) fR hB86 rfl fun w219 hB220 hw221 => ?_))); have hE222 := hE81.step hw221 hG24.mem1; have hB227 := hw221.blk hB85 hA23.nmem1
    try simp only [cU, Nat.reduceAdd] at hB220
    refine aD (aA (aE (aB (aC rfl (cF rfl cQ bP hB220 rfl) (bN rfl rfl bP hB227 rfl rfl ⟨rfl, rfl, rfl, rfl, rfl, rfl, rfl, rfl, rfl, trivial⟩ fun w228 hB229 hw230 => ?_))))); have hE231 := hE222.step hw230 hG7.mem1
    try simp only [cU, Nat.reduceAdd] at hB229
    refine aD (aA (aO (aP (aY (aP (aP (aY (aP (dE rfl (ResOk.cellA rfl cQ bP hB229 rfl) ?_)))))))))
    have hend := heq.trans (jP (by rintro ⟨h1, h2⟩; first | omega | exact hc47 h2))
    rw [hop, kM hend (.inl (by omega))]; exact ⟨rfl, hE231⟩
   refine aR (aG (aR (aG (aR (aC rfl (cI rfl Tryz.underlying9 rfl) ?_))))); refine aR (aC rfl (bF rfl rfl) ?_); refine aU (aG (aX (t := 60) rfl (fun hs60 => ?_) (fun hs60 => ?_)))
   ·skip
    refine aH (aH (aH (aH (bL (aD (aA (dA rfl ?_))))))); refine aE (aB (aC rfl (aF rfl eQ) (bK rfl rfl (rfl) fR hB86 rfl fun w235 hB236 hw237 => ?_))); have hE238 := hE81.step hw237 hG24.mem1; have hB243 := hw237.blk hB85 hA23.nmem1
    try simp only [cU, Nat.reduceAdd] at hB236
    refine aD (aA (aE (aB (aC rfl (cF rfl cQ bP hB236 rfl) (bN rfl rfl bP hB243 rfl rfl ⟨rfl, rfl, rfl, rfl, rfl, rfl, rfl, rfl, rfl, trivial⟩ fun w244 hB245 hw246 => ?_))))); have hE247 := hE238.step hw246 hG7.mem1
    try simp only [cU, Nat.reduceAdd] at hB245
    refine aD (aA (aO (aP (aY (aP (aP (aY (aP (dE rfl (ResOk.cellA rfl cQ bP hB245 rfl) ?_)))))))))
    have hend := heq.trans (jP (by rintro ⟨h1, h2⟩; first | omega | exact hc47 h2))
    rw [hop, kM hend (.inr (fun h => by have := h.1; omega))]
    exact ⟨rfl, hE247⟩
   have e0 : sb (s.extract st.pos s.size) m = sb s (st.pos + m) := gR (by omega); refine aR (aG (aR (aG (aR ?_)))); refine aC rfl (fJ (n := m) rfl rfl Tryz.underlying9 rfl (by omega) e0) ?_; refine aR (aC rfl (gA rfl rfl) ?_); refine aU (aD (aA (bI rfl (fun hc65 => ?_) (fun hc65 => ?_))))
   ·skip
    refine aE (aB (aC rfl (aF rfl eQ) (bK rfl rfl (rfl) fR hB86 rfl fun w251 hB252 hw253 => ?_))); have hE254 := hE81.step hw253 hG24.mem1; have hB259 := hw253.blk hB85 hA23.nmem1
    try simp only [cU, Nat.reduceAdd] at hB252
    refine aD (aA (aE (aB (aC rfl (cF rfl cQ bP hB252 rfl) (bN rfl rfl bP hB259 rfl rfl ⟨rfl, rfl, rfl, rfl, rfl, rfl, rfl, rfl, rfl, trivial⟩ fun w260 hB261 hw262 => ?_))))); have hE263 := hE254.step hw262 hG7.mem1
    try simp only [cU, Nat.reduceAdd] at hB261
    refine aD (aA (aO (aP (aY (aP (aP (aY (aP (dE rfl (ResOk.cellA rfl cQ bP hB261 rfl) ?_)))))))))
    have hend := heq.trans (jP (by rintro ⟨h1, h2⟩; first | omega | exact hc47 h2))
    rw [hop, kM hend (.inr (fun h => by have := h.2; omega))]
    exact ⟨rfl, hE263⟩
   have e74 : (s.extract st.pos s.size).extract (hd k).size m = s.extract (st.pos + (hd k).size) (st.pos + m) := wJ (by omega) hhm; refine aW (aA (aE ?_)); refine jB (fun w0 w' => Evo [b4] w0 w') (by kernel_rfl) (fun w267 hw268 => ?_); have hE269 := hE81.then hw268; have hB274 := hw268.blk0 hB85; have hB275 := hw268.blk0 hB86; refine bG 0 rfl (by kernel_rfl) (by kernel_rfl) (by kernel_rfl) rfl (fun _ hS => bS rfl) (Evo.refl [b4] w267) ?_; refine bG 1 rfl (by kernel_rfl) (by kernel_rfl) (by kernel_rfl) rfl (fun _ hS => bC rfl rfl (by omega) (by omega)) (Evo.refl [b4] w267) ?_; refine bG 2 rfl (by kernel_rfl) (by kernel_rfl) (by kernel_rfl) rfl (fun _ hS => bS rfl) (Evo.refl [b4] w267) ?_; refine bG 3 rfl (by kernel_rfl) (by kernel_rfl) (by kernel_rfl) rfl (fun _ hS => bS rfl) (Evo.refl [b4] w267) ?_; refine bG 4 rfl (by kernel_rfl) (by kernel_rfl) (by kernel_rfl) rfl (fun _ hS => cI rfl Tryz.underlying9 rfl) (Evo.refl [b4] w267) ?_; refine bG 5 rfl (by kernel_rfl) (by kernel_rfl) (by kernel_rfl) rfl (fun _ hS => bS rfl) (Evo.refl [b4] w267) ?_; refine bG 7 rfl (by kernel_rfl) (by kernel_rfl) (by kernel_rfl) rfl (fun _ hS => aF rfl fI) (Evo.refl [b4] w267) ?_; refine cT [6, 8] (by kernel_rfl) rfl ⟨?_, ?_, trivial⟩
   ·skip
    refine cZ rfl ?_; refine aC rfl (pU (l := (hd k).size) (h := m) rfl rfl rfl Tryz.underlying9 rfl rfl hhm (by omega) e74) ?_; refine aD (cL (.inl (Evo.refl [b4] w267)) ?_); refine cT [8] (by kernel_rfl) rfl ⟨?_, trivial⟩; refine cZ rfl ?_; refine bK rfl rfl (rfl) bZ hB275 rfl fun w276 hB277 hw278 => ?_; have hE279 := hE269.step hw278 hG24.mem1; have hE282 := (Evo.refl [b4] w267).step hw278 (fun y hy => .inl hy); have hB285 := hw278.blk hB274 hA23.nmem1
    try simp only [cU, Nat.reduceAdd] at hB277
    refine aD (cL (.inl hE282) ?_); refine bG 9 rfl (by kernel_rfl) (by kernel_rfl) (by kernel_rfl) rfl (fun _ hS => aF rfl iE) hE282 ?_; refine cT [10] (by kernel_rfl) rfl ⟨?_, trivial⟩; refine cZ rfl ?_; refine bK rfl rfl (rfl) jY hB277 rfl fun w286 hB287 hw288 => ?_; have hE289 := hE279.step hw288 hG24.mem1; have hE290 := hE282.step hw288 (fun y hy => .inl hy); have hB293 := hw288.blk hB285 hA23.nmem1
    try simp only [cU, Nat.reduceAdd] at hB287
    refine aD (cL (.inl hE290) ?_); refine bG 11 rfl (by kernel_rfl) (by kernel_rfl) (by kernel_rfl) rfl (fun _ hS => aF rfl gD) hE290 ?_; refine cT [12] (by kernel_rfl) rfl ⟨?_, trivial⟩; refine cZ rfl ?_; refine bK rfl rfl (rfl) fQ hB287 rfl fun w294 hB295 hw296 => ?_; have hE297 := hE289.step hw296 hG24.mem1; have hE298 := hE290.step hw296 (fun y hy => .inl hy); have hB301 := hw296.blk hB293 hA23.nmem1
    try simp only [cU, Nat.reduceAdd] at hB295
    refine aD (cL (.inl hE298) ?_); refine fL (by kernel_rfl) (aA ?_); refine aE (aB (aC rfl (cF rfl cQ bP hB295 rfl) (bN rfl rfl bP hB301 rfl rfl ⟨rfl, rfl, rfl, rfl, rfl, rfl, rfl, rfl, rfl, trivial⟩ fun w302 hB303 hw304 => ?_))); have hE305 := hE297.step hw304 hG7.mem1
    try simp only [cU, Nat.reduceAdd] at hB303
    refine aD (aA (aO (aY (aP (aP (aY (aP (dE rfl (ResOk.cellA rfl cQ bP hB303 rfl) ?_))))))))
    have hend := heq.trans (jP (by rintro ⟨h1, h2⟩; first | omega | exact hc47 h2))
    rw [hop, nY hend (by rintro (h | h); omega; exact h ⟨by omega, by omega⟩)]
    refine ⟨?_, hE305⟩; simp only [opV]; rw [show ((st.pos + m + 1 - st.pos : Nat) : Int) = (m : Int) + 1 by omega]
   refine cZ rfl ?_; refine bK rfl rfl (rfl) bZ hB275 rfl fun w309 hB310 hw311 => ?_; have hE312 := hE269.step hw311 hG24.mem1; have hE315 := (Evo.refl [b4] w267).step hw311 (fun y hy => .inl hy); have hB318 := hw311.blk hB274 hA23.nmem1
   try simp only [cU, Nat.reduceAdd] at hB310
   refine aD (cL (.inl hE315) ?_); refine cT [6] (by kernel_rfl) rfl ⟨?_, trivial⟩; refine cZ rfl ?_; refine aC rfl (pU (l := (hd k).size) (h := m) rfl rfl rfl Tryz.underlying9 rfl rfl hhm (by omega) e74) ?_; refine aD (cL (.inl hE315) ?_); refine bG 9 rfl (by kernel_rfl) (by kernel_rfl) (by kernel_rfl) rfl (fun _ hS => aF rfl iE) hE315 ?_; refine cT [10] (by kernel_rfl) rfl ⟨?_, trivial⟩; refine cZ rfl ?_; refine bK rfl rfl (rfl) jY hB310 rfl fun w319 hB320 hw321 => ?_; have hE322 := hE312.step hw321 hG24.mem1; have hE323 := hE315.step hw321 (fun y hy => .inl hy); have hB326 := hw321.blk hB318 hA23.nmem1
   try simp only [cU, Nat.reduceAdd] at hB320
   refine aD (cL (.inl hE323) ?_); refine bG 11 rfl (by kernel_rfl) (by kernel_rfl) (by kernel_rfl) rfl (fun _ hS => aF rfl gD) hE323 ?_; refine cT [12] (by kernel_rfl) rfl ⟨?_, trivial⟩; refine cZ rfl ?_; refine bK rfl rfl (rfl) fQ hB320 rfl fun w327 hB328 hw329 => ?_; have hE330 := hE322.step hw329 hG24.mem1; have hE331 := hE323.step hw329 (fun y hy => .inl hy); have hB334 := hw329.blk hB326 hA23.nmem1
   try simp only [cU, Nat.reduceAdd] at hB328
   refine aD (cL (.inl hE331) ?_); refine fL (by kernel_rfl) (aA ?_); refine aE (aB (aC rfl (cF rfl cQ bP hB328 rfl) (bN rfl rfl bP hB334 rfl rfl ⟨rfl, rfl, rfl, rfl, rfl, rfl, rfl, rfl, rfl, trivial⟩ fun w335 hB336 hw337 => ?_))); have hE338 := hE330.step hw337 hG7.mem1
   try simp only [cU, Nat.reduceAdd] at hB336
   refine aD (aA (aO (aY (aP (aP (aY (aP (dE rfl (ResOk.cellA rfl cQ bP hB336 rfl) ?_))))))))
   have hend := heq.trans (jP (by rintro ⟨h1, h2⟩; first | omega | exact hc47 h2))
   rw [hop, nY hend (by rintro (h | h); omega; exact h ⟨by omega, by omega⟩)]
   refine ⟨?_, hE338⟩; simp only [opV]; rw [show ((st.pos + m + 1 - st.pos : Nat) : Int) = (m : Int) + 1 by omega]
  have hnn : ∀ j, j < 2 → ¬ Pre (s.extract st.pos s.size) (hd j) := fun j hj => hno j (by omega); have hop := open_no (fl := st.now) hle h40 hnn; refine dV (cB (cB (dU (aA ?_)))); refine aE (aE (aB (aG ?_))); refine aN (vs := [_, _]) mJ rfl (uY (s.extract st.pos s.size) (ByteArray.mk #[40, 63, 58]) (by omega) (show 3 ≤ 140737488355328 by omega)) rfl ?_; rintro _ w342 ⟨rfl, hw343⟩; have hE344 := hE66.then hw343; have hB348 := hw343.blk0 hB69; have hB349 := hw343.blk0 hB70; refine aD (aA (bI rfl (fun hc81 => ?_) (fun hc81 => ?_)))
  ·skip
   refine aE (aB (aC rfl (aF rfl fI) (bK rfl rfl (rfl) bZ hB349 rfl fun w350 hB351 hw352 => ?_))); have hE353 := hE344.step hw352 hG24.mem1; have hB357 := hw352.blk hB348 hA23.nmem1
   try simp only [cU, Nat.reduceAdd] at hB351
   refine aD (aA (aE (aB (aC rfl (cF rfl cQ bP hB351 rfl) (bN rfl rfl bP hB357 rfl rfl ⟨rfl, rfl, rfl, rfl, rfl, rfl, rfl, rfl, rfl, trivial⟩ fun w358 hB359 hw360 => ?_))))); have hE361 := hE353.step hw360 hG7.mem1
   try simp only [cU, Nat.reduceAdd] at hB359
   refine aD (aA (aO (aP (dE rfl (ResOk.cellA rfl cQ bP hB359 rfl) ?_)))); have h58 : isB s (st.pos + 2) 58 := ((pre3 hle).1 hc81).2.2; rw [hop, if_pos h58]; exact ⟨rfl, hE361⟩
  refine aW (aA (aE (aB (aG (aC rfl (cF rfl cQ bP hB349 rfl) ?_)))))
  refine aN (vs := [_, _]) AW rfl (EU s st.pos st.now (by have := h40.2.1; omega) hs) rfl ?_
  rintro _ w365 ⟨rfl, hw366⟩; have hE367 := hE344.then hw366; have hB371 := hw366.blk0 hB348; refine bN rfl rfl bP hB371 rfl rfl ⟨rfl, rfl, rfl, rfl, rfl, rfl, rfl, rfl, rfl, trivial⟩ fun w373 hB374 hw375 => ?_; have hE376 := hE367.step hw375 hG7.mem1
  try simp only [cU, Nat.reduceAdd] at hB374
  refine aD (aA (aO (dE rfl (ResOk.cellA rfl cQ bP hB374 rfl) ?_))); have h58 : ¬ isB s (st.pos + 2) 58 := fun h => hc81 ((pre3 hle).2 ⟨h40.1, h40.2, h⟩); rw [hop, if_neg h58]; exact ⟨rfl, hE376⟩
end Go.Proofs.YtljadkcojnlioaaGreatDoor
