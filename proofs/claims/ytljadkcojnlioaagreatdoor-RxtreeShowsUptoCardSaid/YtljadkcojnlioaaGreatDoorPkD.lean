/- Shows: part 4 of 7 of what the law rests on. -/
import Derived.Test.YtljadkcojnlioaaGreatDoorPkC
set_option linter.unusedSectionVars false
set_option linter.unusedSimpArgs false
set_option linter.unusedVariables false
namespace Go.Proofs.YtljadkcojnlioaaGreatDoor
open Go.Proofs
open Go.W Go.RowKit
attribute [local irreducible] Decidable.decide
theorem lK : eM Tryz.prog 100 := ⟨_, Tryz.func100, by kernel_rfl, by kernel_rfl⟩
theorem uA : eM Tryz.prog 101 := ⟨_, Tryz.func101, by kernel_rfl, by kernel_rfl⟩
theorem cF : eM Tryz.prog 102 := ⟨_, Tryz.func102, by kernel_rfl, by kernel_rfl⟩
theorem tU : eM Tryz.prog 123 := ⟨_, Tryz.func123, by kernel_rfl, by kernel_rfl⟩
theorem cJ : eM Tryz.prog 49 := ⟨_, Tryz.func49, by kernel_rfl, by kernel_rfl⟩
theorem lA : eM Tryz.prog 99 := ⟨_, Tryz.func99, by kernel_rfl, by kernel_rfl⟩
structure Gw (w : World) : Prop where
  glb : Glb w
  t64 : Tab64 w
  t10 : Lib.TabIs Tryz.prog w "internal/strconv.uint64pow10" .u64 Lib.pow10Tab
theorem JU {w w' : World} {nm : String} {k : IntKind} {zs : List Int} (h : Lib.TabIs Tryz.prog w nm k zs) (he : Evo [] w w') : Lib.TabIs Tryz.prog w' nm k zs := by
  unfold Lib.TabIs World.var? at h ⊢
  cases hg : Tryz.prog.globalNamed nm with
  | none => rw [hg] at h; exact absurd h (by simp)
  | some g =>
    rw [hg] at h
    simp only [Option.bind_eq_bind, Option.bind_some] at h ⊢
    cases hb : w.heap[g]? with
    | none => rw [hb] at h; exact absurd h (by simp)
    | some o => rw [he.block g (fT hb) (by simp), ]; exact h
theorem Gw.evo0 {w w' : World} (h : Gw w) (he : Evo [] w w') : Gw w' := ⟨h.glb.evo he (by simp), h.t64.evo he (by simp), JU h.t10 he⟩
theorem EL (w : World) (k : Nat) (os : Array Obj) : Evo [] w (Sort.grow (w.drewN k) os) := by
  refine ⟨rfl, rfl, rfl, ?_, fun b hb hx => ?_⟩
  · simp [Sort.grow]
  · simp only [Sort.grow]
    rw [Array.getElem?_append_left (by simpa using hb)]
    rfl
theorem fP {w : World} (hG : Gw w) (n : Int) (h0 : 0 ≤ n) (h1 : n ≤ 1000000) : Calls Tryz.prog 102 #[.int .i64 n] w (Ret fun v w' => v = .string (bstr (fO n.toNat)) ∧ Evo [] w w') := by
  refine (nW n (by omega) (by omega) w hG.t10).mono ?_
  rintro e w' ⟨rfl, k, os, rfl⟩
  refine ⟨_, rfl, ?_, EL w k os⟩
  rw [fO, AG, Lib.itoa, if_neg (by omega)]
theorem cT {w w1 : World} {o o1 o2 : Option Nat} (h : o1 = o ∨ ∃ g, o1 = some g ∧ w.heap.size ≤ g) (h2 : o2 = o1 ∨ ∃ g, o2 = some g ∧ w1.heap.size ≤ g) (hw : w.heap.size ≤ w1.heap.size) : o2 = o ∨ ∃ g, o2 = some g ∧ w.heap.size ≤ g := by
  rcases h2 with rfl | ⟨g, rfl, hg⟩
  · exact h
  · exact .inr ⟨g, rfl, Nat.le_trans hw hg⟩
theorem dL {w : World} {b : Nat} {o o1 : Option Nat} (h : o1 = o ∨ ∃ g, o1 = some g ∧ w.heap.size ≤ g) : ∀ y, y ∈ b :: o1.toList → y ∈ b :: o.toList ∨ w.heap.size ≤ y := fun y hy => by
  rcases h with rfl | ⟨g, rfl, hg⟩
  · exact .inl hy
  · rcases List.mem_cons.1 hy with rfl | hy
    · exact .inl (List.mem_cons_self ..)
    · rw [List.mem_singleton.1 hy]; exact .inr hg
theorem iD {w0 : World} {b : Nat} {o : Option Nat} (hub : w0.heap.size ≤ b) (h : Ge w0 o) : ∀ y, y ∈ b :: o.toList → y ∈ ([] : List Nat) ∨ w0.heap.size ≤ y := fun y hy => by
  rcases List.mem_cons.1 hy with rfl | hy
  · exact .inr hub
  · cases o with
    | none => cases hy
    | some g => rw [List.mem_singleton.1 hy]; exact .inr (h g rfl)
theorem mP {q b : Nat} {o : Option Nat} (h1 : Apart (some q) (some b)) (h2 : Apart (some q) o) : q ∉ b :: o.toList := fun h => by
  rcases List.mem_cons.1 h with rfl | h
  · exact h1 q rfl rfl
  · exact h2.nmem h
theorem eS {w w1 : World} {b : Nat} {L l X : List Nat} {ob ob1 : Option Nat} (h : BdN w1 b L ob1) (e : L = l ++ X) (hE : Evo (b :: ob.toList) w w1) (hN : ob1 = ob ∨ ∃ g, ob1 = some g ∧ w.heap.size ≤ g) : Wr w b (l ++ X) ob w1 := ⟨ob1, e ▸ h, hE, hN⟩
theorem bap (a b : List Nat) : bstr a ++ bstr b = bstr (a ++ b) := by
  apply ByteArray.ext; simp [bstr]
theorem bsz (l : List Nat) : (bstr l).size = l.length := by simp [bstr, ByteArray.size]
theorem cC {l : List Nat} (h : l.all (fun b => decide (b < 256)) = true) : Lo l := fun b hb => by have := List.all_eq_true.1 h b hb; exact of_decide_eq_true this
theorem kU {w0 w : World} {b : Nat} {l : List Nat} {ob : Option Nat} {c : Int} (hG : Gw w0) (hE0 : Evo [] w0 w) (hub : w0.heap.size ≤ b) (huo : Ge w0 ob) (h : BdN w b l ob) (hl : l.length ≤ 90000000) (h0 : 0 ≤ c) (h1 : c ≤ 1114111) :
    Calls Tryz.prog 99 #[.pointer (some ⟨b, 0, none⟩), .int .i32 c] w (Ret fun v w' => Wr w b (l ++ DX c) ob w') := by
  obtain ⟨n, rfl⟩ : ∃ n : Nat, c = (n : Int) := ⟨c.toNat, by omega⟩; obtain ⟨hxw1, hxw⟩ := AX h0 h1
  have hlen := (wQ 7 n (by show n < 4294967296; omega)).1
  refine bL (N := 11) Tryz.func99 rfl rfl rfl ?_; refine aC (aH (aH ?_))
  refine aB rfl (gE n rfl Tryz.underlying21 Tryz.underlying2 rfl (by show ((n : Nat) : Int) ≤ 9223372036854775807; omega)) ?_
  refine aN (vs := [_, _]) tU rfl (EF (hG.evo0 hE0).t64 n (by show n < 4294967296; omega)) rfl ?_
  rintro _ w1 ⟨rfl, hw2⟩; have hE3 := (Evo.refl (b :: ob.toList) w).then hw2; have hF5 := h.evo0 hw2
  refine aB rfl (bZ rfl rfl (by rw [bsz]; show 3 + _ ≤ _; omega)) ?_
  rw [show ByteArray.mk #[92, 120, 123] = bstr [92, 120, 123] from by decide +kernel, bap]
  refine aB rfl (bZ rfl rfl (by rw [bsz]; show _ + 1 ≤ _; simp; omega)) ?_
  rw [show ByteArray.mk #[125] = bstr [125] from by decide +kernel, bap]; refine aN (vs := [_, _]) cJ rfl (dI hF5 (m := DX (n : Int)) rfl hxw (by omega) (by omega)) rfl ?_; rintro _ w6 ⟨obw1, hBDw1, hw7, hnb1⟩; have hV9 := hE3; have hN1 := cT (Or.inl rfl) hnb1 hV9.size; have hE8 := hE3.step hw7 (dL (Or.inl rfl)); refine aD (cP rfl ?_); exact eS hBDw1 (rfl) hE8 hN1
theorem LR : ∀ m, m < 128 → (0 ≤ Lib.indexByte (ByteArray.mk #[92, 46, 43, 42, 63, 40, 41, 124, 91, 93, 123, 125, 94, 36]).data.toList (UInt8.ofNat m) ↔ m ∈ spec) := by decide +kernel
theorem DC {w : World} (m : Nat) (hm : m < 128) : Calls Tryz.prog 41 #[.string (ByteArray.mk #[92, 46, 43, 42, 63, 40, 41, 124, 91, 93, 123, 125, 94, 36]), .int .u8 (m : Nat)] w (Ret fun v w' => ∃ z, v = .int .i64 z ∧ (0 ≤ z ↔ m ∈ spec) ∧ Evo [] w w') := by
  refine (jW _ _ w).mono ?_
  rintro e w' ⟨rfl, rfl⟩
  refine ⟨_, rfl, _, rfl, ?_, Evo.refl _ _⟩
  rw [← LR m hm]
  simp
theorem uY {w0 w : World} {b : Nat} {l : List Nat} {ob : Option Nat} {c : Int} (hG : Gw w0) (hE0 : Evo [] w0 w) (hub : w0.heap.size ≤ b) (huo : Ge w0 ob) (h : BdN w b l ob) (hl : l.length ≤ 90000000) (h0 : 0 ≤ c) (h1 : c ≤ 1114111) :
    Calls Tryz.prog 101 #[.pointer (some ⟨b, 0, none⟩), .int .i32 c] w (Ret fun v w' => Wr w b (l ++ nL c) ob w') := by
  obtain ⟨n, rfl⟩ : ∃ n : Nat, c = (n : Int) := ⟨c.toNat, by omega⟩; refine bL (N := 21) Tryz.func101 rfl rfl rfl ?_; refine aF (aF (aC (aH (aB rfl (dF rfl rfl) ?_)))); refine aH (aX (t := 6) rfl (fun hs6 => ?_) (fun hs6 => ?_))
  ·skip
   refine aP (aH (aP ?_))
   refine aB rfl (gE n rfl Tryz.underlying21 Tryz.underlying5 rfl (by show ((n : Nat) : Int) ≤ 255; omega)) ?_
   refine aP (aN (vs := [_]) mY rfl (wH n) rfl ?_); rintro _ w1 ⟨rfl, hw2⟩; have hE3 := (Evo.refl (b :: ob.toList) w).then hw2; have hE4 := hE0.then hw2; have hF5 := h.evo0 hw2; refine bD (aH (aX (t := 11) rfl (fun hs11 => ?_) (fun hs11 => ?_)))
   ·skip
    refine aP (aH (aP (aB rfl (gJ rfl rfl) ?_))); refine bD (aD (aA (bJ rfl (fun hc14 => ?_) (fun hc14 => ?_))))
    ·skip
     refine aF (aC (aH (aH ?_)))
     refine aN (vs := [_, _]) lK rfl (lC hF5 (by unfold IsR; omega) (by omega)) rfl ?_
     rintro _ w6 ⟨obw1, hBDw1, hw7, hnb1⟩; have hV9 := hE3; have hV90 := hE4; have hN1 := cT (Or.inl rfl) hnb1 hV9.size; have hU1 := dK huo hV90.size hnb1; have hE8 := hE3.step hw7 (dL (Or.inl rfl)); refine aD (aA (aQ (aO (uS rfl ?_))))
     exact eS hBDw1 (by rw [nL, if_pos (show yW (n : Int) from ⟨by omega, by rw [Int.toNat_natCast]; exact hs11, by omega⟩)]) hE8 hN1
    refine bA (aA (aC (aH (aH (aN (vs := [_, _]) lA rfl (kU hG hE4 hub huo hF5 hl h0 h1) rfl ?_))))); rintro _ w10 ⟨obw1, hBDw1, hw11, hnb1⟩; have hV9 := hE3; have hV90 := hE4; have hN1 := cT (Or.inl rfl) hnb1 hV9.size; have hU1 := dK huo hV90.size hnb1; have hE12 := hE3.step hw11 (dL (Or.inl rfl)); refine aD (cP rfl ?_)
    exact eS hBDw1 (by rw [nL, if_neg (fun hq : yW (n : Int) => by obtain ⟨q1, q2, q3⟩ := hq; rw [Int.toNat_natCast] at q2; first | omega | exact hs11 q2 | exact hs6 q2)]) hE12 hN1
   refine aG (aG (aV (aD (aA (cQ rfl ?_))))); refine bA (aA (aC (aH (aH (aN (vs := [_, _]) lA rfl (kU hG hE4 hub huo hF5 hl h0 h1) rfl ?_))))); rintro _ w14 ⟨obw1, hBDw1, hw15, hnb1⟩; have hV9 := hE3; have hV90 := hE4; have hN1 := cT (Or.inl rfl) hnb1 hV9.size; have hU1 := dK huo hV90.size hnb1; have hE16 := hE3.step hw15 (dL (Or.inl rfl)); refine aD (cP rfl ?_)
   exact eS hBDw1 (by rw [nL, if_neg (fun hq : yW (n : Int) => by obtain ⟨q1, q2, q3⟩ := hq; rw [Int.toNat_natCast] at q2; first | omega | exact hs11 q2 | exact hs6 q2)]) hE16 hN1
  refine aG (aG (aG (aV (aH (aG (aG (aV (aD (aA (cQ rfl ?_)))))))))); refine bA (aA (aC (aH (aH (aN (vs := [_, _]) lA rfl (kU hG hE0 hub huo h hl h0 h1) rfl ?_))))); rintro _ w18 ⟨obw1, hBDw1, hw19, hnb1⟩; have hV9 := (Evo.refl (b :: ob.toList) w); have hV90 := hE0; have hN1 := cT (Or.inl rfl) hnb1 hV9.size; have hU1 := dK huo hV90.size hnb1; have hE20 := (Evo.refl (b :: ob.toList) w).step hw19 (dL (Or.inl rfl)); refine aD (cP rfl ?_)
  exact eS hBDw1 (by rw [nL, if_neg (fun hq : yW (n : Int) => by obtain ⟨q1, q2, q3⟩ := hq; rw [Int.toNat_natCast] at q2; first | omega | exact hs11 q2 | exact hs6 q2)]) hE20 hN1
theorem CU {w0 w : World} {b : Nat} {l : List Nat} {ob : Option Nat} {c : Int} (hG : Gw w0) (hE0 : Evo [] w0 w) (hub : w0.heap.size ≤ b) (huo : Ge w0 ob) (h : BdN w b l ob) (hl : l.length ≤ 90000000) (h0 : 0 ≤ c) (h1 : c ≤ 1114111) :
    Calls Tryz.prog 72 #[.pointer (some ⟨b, 0, none⟩), .int .i32 c] w (Ret fun v w' => Wr w b (l ++ mO c) ob w') := by
  obtain ⟨n, rfl⟩ : ∃ n : Nat, c = (n : Int) := ⟨c.toNat, by omega⟩; refine bL (N := 39) Tryz.func72 rfl rfl rfl ?_; refine bX (aF (aC (aH (aB rfl (dF rfl rfl) ?_)))); refine aH (aX (t := 10) rfl (fun hs10 => ?_) (fun hs10 => ?_))
  ·skip
   refine aG (aG (bD (aH (aG (aG (aG (cI ?_))))))); refine cI ?_; refine aG (bD (aM (aD (aA (cW rfl ?_))))); refine aC (aH (aH (aN (vs := [_, _]) lA rfl (kU hG hE0 hub huo h hl h0 h1) rfl ?_))); rintro _ w1 ⟨obw1, hBDw1, hw2, hnb1⟩; have hV9 := (Evo.refl (b :: ob.toList) w); have hV90 := hE0; have hN1 := cT (Or.inl rfl) hnb1 hV9.size; have hU1 := dK huo hV90.size hnb1; have hE3 := (Evo.refl (b :: ob.toList) w).step hw2 (dL (Or.inl rfl)); refine aD (aY (cP rfl ?_))
   exact eS hBDw1 (by rw [mO, if_pos (show Odd (n : Int) from by unfold Odd; omega)]) hE3 hN1
  refine aP (aH (aP (aB rfl (bC rfl rfl) ?_))); refine aV (aH (aX (t := 14) rfl (fun hs14 => ?_) (fun hs14 => ?_)))
  ·skip
   refine aG (aG (aG (cI ?_))); refine cI ?_; refine aG (bD (aM (aD (aA (cW rfl ?_))))); refine aC (aH (aH (aN (vs := [_, _]) lA rfl (kU hG hE0 hub huo h hl h0 h1) rfl ?_))); rintro _ w5 ⟨obw1, hBDw1, hw6, hnb1⟩; have hV9 := (Evo.refl (b :: ob.toList) w); have hV90 := hE0; have hN1 := cT (Or.inl rfl) hnb1 hV9.size; have hU1 := dK huo hV90.size hnb1; have hE7 := (Evo.refl (b :: ob.toList) w).step hw6 (dL (Or.inl rfl)); refine aD (aY (cP rfl ?_))
   exact eS hBDw1 (by rw [mO, if_pos (show Odd (n : Int) from by unfold Odd; omega)]) hE7 hN1
  refine aP (aH (aP (aB rfl (fD rfl rfl) ?_))); refine aP (aH (aX (t := 17) rfl (fun hs17 => ?_) (fun hs17 => ?_)))
  ·skip
   refine aP (aH (aP (aB rfl (fM rfl rfl) ?_))); refine aP (bD (aV (aM (aD (aA (bJ rfl (fun hc7 => ?_) (fun hc7 => ?_)))))))
   ·skip
    refine aC (aH (aH (aN (vs := [_, _]) lA rfl (kU hG hE0 hub huo h hl h0 h1) rfl ?_))); rintro _ w9 ⟨obw1, hBDw1, hw10, hnb1⟩; have hV9 := (Evo.refl (b :: ob.toList) w); have hV90 := hE0; have hN1 := cT (Or.inl rfl) hnb1 hV9.size; have hU1 := dK huo hV90.size hnb1; have hE11 := (Evo.refl (b :: ob.toList) w).step hw10 (dL (Or.inl rfl)); refine aD (aY (cP rfl ?_))
    exact eS hBDw1 (by rw [mO, if_pos (show Odd (n : Int) from by unfold Odd; omega)]) hE11 hN1
   refine aF ?_
   have hOdd : ¬ Odd (n : Int) := by unfold Odd; omega
   have hIR : IsR (n : Int) := by unfold IsR; omega
   refine aC (aH (aB rfl (dF rfl rfl) ?_)); refine aH (aX (t := 28) rfl (fun hs28 => ?_) (fun hs28 => ?_))
   ·skip
    refine aP (aH (aP ?_))
    refine aB rfl (gE n rfl Tryz.underlying21 Tryz.underlying5 rfl (by show ((n : Nat) : Int) ≤ 255; omega)) ?_
    refine aP ?_; refine aN (vs := [_, _]) oB rfl (DC n (by omega)) rfl ?_; rintro _ w13 ⟨z, rfl, hz, hw14⟩; have hE15 := (Evo.refl (b :: ob.toList) w).then hw14; have hE16 := hE0.then hw14; have hF17 := h.evo0 hw14; refine aP (aB rfl (fD rfl rfl) ?_); refine bD (aM (aD (aA (bJ rfl (fun hc25 => ?_) (fun hc25 => ?_)))))
    ·skip
     refine aC (aH (aH (aB rfl (xT rfl Tryz.underlying21 Tryz.underlying9) ?_))); rw [EN hIR, kK hIR, show iE n = [n] by rw [iE, if_pos (by omega)]]
     refine aB rfl (bZ rfl rfl (by rw [bsz]; show 1 + 1 ≤ _; omega)) ?_
     rw [show ByteArray.mk #[92] = bstr [92] from by decide +kernel, bap]
     refine aN (vs := [_, _]) cJ rfl (dI hF17 (m := [92, n]) rfl (fun x hx => by simp at hx; omega) (by first | omega | (simp only [List.length_append]; omega)) (by simp only [List.length_append, List.length_cons, List.length_nil]; omega)) rfl ?_
     rintro _ w18 ⟨obw1, hBDw1, hw19, hnb1⟩; have hV9 := hE15; have hV90 := hE16; have hN1 := cT (Or.inl rfl) hnb1 hV9.size; have hU1 := dK huo hV90.size hnb1; have hE20 := hE15.step hw19 (dL (Or.inl rfl)); refine aD (aY (cP rfl ?_))
     exact eS hBDw1 (by rw [mO, if_neg hOdd, if_pos ⟨by omega, by rw [Int.toNat_natCast]; exact hz.1 (by omega)⟩]; rfl) hE20 hN1
    refine aC (aH (aH ?_)); refine aN (vs := [_, _]) lK rfl (lC hF17 hIR (by omega)) rfl ?_; rintro _ w22 ⟨obw1, hBDw1, hw23, hnb1⟩; have hV9 := hE15; have hV90 := hE16; have hN1 := cT (Or.inl rfl) hnb1 hV9.size; have hU1 := dK huo hV90.size hnb1; have hE24 := hE15.step hw23 (dL (Or.inl rfl)); refine aD (aY (cP rfl ?_))
    exact eS hBDw1 (by rw [mO, if_neg hOdd, if_neg (fun hq => by obtain ⟨q1, q2⟩ := hq; rw [Int.toNat_natCast] at q2; first | omega | (have h8 := hz.2 q2; omega))]) hE24 hN1
   refine aG (aG (aG (aG (aV (aM (aD (aA (cQ rfl ?_)))))))); refine aC (aH (aH ?_)); refine aN (vs := [_, _]) lK rfl (lC h hIR (by omega)) rfl ?_; rintro _ w26 ⟨obw1, hBDw1, hw27, hnb1⟩; have hV9 := (Evo.refl (b :: ob.toList) w); have hV90 := hE0; have hN1 := cT (Or.inl rfl) hnb1 hV9.size; have hU1 := dK huo hV90.size hnb1; have hE28 := (Evo.refl (b :: ob.toList) w).step hw27 (dL (Or.inl rfl)); refine aD (aY (cP rfl ?_))
   exact eS hBDw1 (by rw [mO, if_neg hOdd, if_neg (fun hq => by obtain ⟨q1, q2⟩ := hq; rw [Int.toNat_natCast] at q2; first | omega | (have h8 := hz.2 q2; omega))]) hE28 hN1
  refine aG (aG (aP (aV (aV (aM (aD (aA (cQ rfl ?_)))))))); refine aF ?_
  have hOdd : ¬ Odd (n : Int) := by unfold Odd; omega
  have hIR : IsR (n : Int) := by unfold IsR; omega
  refine aC (aH (aB rfl (dF rfl rfl) ?_)); refine aH (aX (t := 28) rfl (fun hs28 => ?_) (fun hs28 => ?_))
  ·skip
   refine aP (aH (aP ?_))
   refine aB rfl (gE n rfl Tryz.underlying21 Tryz.underlying5 rfl (by show ((n : Nat) : Int) ≤ 255; omega)) ?_
   refine aP ?_; refine aN (vs := [_, _]) oB rfl (DC n (by omega)) rfl ?_; rintro _ w30 ⟨z, rfl, hz, hw31⟩; have hE32 := (Evo.refl (b :: ob.toList) w).then hw31; have hE33 := hE0.then hw31; have hF34 := h.evo0 hw31; refine aP (aB rfl (fD rfl rfl) ?_); refine bD (aM (aD (aA (bJ rfl (fun hc25 => ?_) (fun hc25 => ?_)))))
   ·skip
    refine aC (aH (aH (aB rfl (xT rfl Tryz.underlying21 Tryz.underlying9) ?_))); rw [EN hIR, kK hIR, show iE n = [n] by rw [iE, if_pos (by omega)]]
    refine aB rfl (bZ rfl rfl (by rw [bsz]; show 1 + 1 ≤ _; omega)) ?_
    rw [show ByteArray.mk #[92] = bstr [92] from by decide +kernel, bap]
    refine aN (vs := [_, _]) cJ rfl (dI hF34 (m := [92, n]) rfl (fun x hx => by simp at hx; omega) (by first | omega | (simp only [List.length_append]; omega)) (by simp only [List.length_append, List.length_cons, List.length_nil]; omega)) rfl ?_
    rintro _ w35 ⟨obw1, hBDw1, hw36, hnb1⟩; have hV9 := hE32; have hV90 := hE33; have hN1 := cT (Or.inl rfl) hnb1 hV9.size; have hU1 := dK huo hV90.size hnb1; have hE37 := hE32.step hw36 (dL (Or.inl rfl)); refine aD (aY (cP rfl ?_))
    exact eS hBDw1 (by rw [mO, if_neg hOdd, if_pos ⟨by omega, by rw [Int.toNat_natCast]; exact hz.1 (by omega)⟩]; rfl) hE37 hN1
   refine aC (aH (aH ?_)); refine aN (vs := [_, _]) lK rfl (lC hF34 hIR (by omega)) rfl ?_; rintro _ w39 ⟨obw1, hBDw1, hw40, hnb1⟩; have hV9 := hE32; have hV90 := hE33; have hN1 := cT (Or.inl rfl) hnb1 hV9.size; have hU1 := dK huo hV90.size hnb1; have hE41 := hE32.step hw40 (dL (Or.inl rfl)); refine aD (aY (cP rfl ?_))
   exact eS hBDw1 (by rw [mO, if_neg hOdd, if_neg (fun hq => by obtain ⟨q1, q2⟩ := hq; rw [Int.toNat_natCast] at q2; first | omega | (have h8 := hz.2 q2; omega))]) hE41 hN1
  refine aG (aG (aG (aG (aV (aM (aD (aA (cQ rfl ?_)))))))); refine aC (aH (aH ?_)); refine aN (vs := [_, _]) lK rfl (lC h hIR (by omega)) rfl ?_; rintro _ w43 ⟨obw1, hBDw1, hw44, hnb1⟩; have hV9 := (Evo.refl (b :: ob.toList) w); have hV90 := hE0; have hN1 := cT (Or.inl rfl) hnb1 hV9.size; have hU1 := dK huo hV90.size hnb1; have hE45 := (Evo.refl (b :: ob.toList) w).step hw44 (dL (Or.inl rfl)); refine aD (aY (cP rfl ?_))
  exact eS hBDw1 (by rw [mO, if_neg hOdd, if_neg (fun hq => by obtain ⟨q1, q2⟩ := hq; rw [Int.toNat_natCast] at q2; first | omega | (have h8 := hz.2 q2; omega))]) hE45 hN1
theorem rM (n : Nat) (h : n ≤ 1000) : (fO n).length ≤ 4 := by
  have : ∀ n, n ≤ 1000 → (fO n).length ≤ 4 := by
    intro n h
    unfold fO
    rw [List.length_map]
    have hh : ∀ (f n : Nat), n < 10 ^ (f + 1) → (Lib.decDigits n).length ≤ f + 1 := by
      intro f
      induction f with
      | zero => intro n h; rw [Lib.decDigits, dif_pos (by simpa using h)]; simp
      | succ f ih =>
        intro n h
        rw [Lib.decDigits]
        split
        · simp
        · rw [List.length_append]
          have := ih (n / 10) (Nat.div_lt_of_lt_mul (by rw [Nat.mul_comm, ← Nat.pow_succ]; exact h))
          simp; omega
    exact hh 3 n (by show n < 10000; omega)
  exact this n h
theorem bW : ByteArray.mk #[123] = bstr [123] := by decide +kernel
theorem bH : ByteArray.mk #[44, 125] = bstr [44, 125] := by decide +kernel
theorem bV : ByteArray.mk #[125] = bstr [125] := by decide +kernel
theorem cS : ByteArray.mk #[44] = bstr [44] := by decide +kernel
theorem yL {w0 w : World} {b : Nat} {l : List Nat} {ob : Option Nat} {lo hi : Int} (hG : Gw w0) (hE0 : Evo [] w0 w) (hub : w0.heap.size ≤ b) (huo : Ge w0 ob) (h : BdN w b l ob) (hl : l.length ≤ 90000000) (h0 : 0 ≤ lo) (h1 : lo ≤ 1000) (h2 : hi = -1 ∨ (lo ≤ hi ∧ hi ≤ 1000)) :
    Calls Tryz.prog 75 #[.pointer (some ⟨b, 0, none⟩), .int .i64 lo, .int .i64 hi] w (Ret fun v w' => Wr w b (l ++ gZ lo hi) ob w') := by
  have hd1 := rM lo.toNat (by omega); have hd2 : hi ≠ -1 → (fO hi.toNat).length ≤ 4 := fun h => rM hi.toNat (by omega); have hq1 := wT lo.toNat; have hq2 := wT hi.toNat; refine bL (N := 62) Tryz.func75 rfl rfl rfl ?_; refine bX (aF (aC (aH (aB rfl (bC rfl rfl) ?_)))); refine aH (aX (t := 19) rfl (fun hs19 => ?_) (fun hs19 => ?_))
  ·skip
   refine aP (aH (aP (aB rfl (bC rfl rfl) ?_))); refine bD (aM (aD (aA (bJ rfl (fun hc16 => ?_) (fun hc16 => ?_)))))
   ·skip
    refine aC (aH ?_)
    refine aN (vs := [_, _]) cJ rfl (dI h (m := [42]) (by decide +kernel) (cC (by decide +kernel)) (by first | omega | (simp only [List.length_append]; omega)) (by decide)) rfl ?_
    rintro _ w1 ⟨obw1, hBDw1, hw2, hnb1⟩; have hV9 := (Evo.refl (b :: ob.toList) w); have hV90 := hE0; have hN1 := cT (Or.inl rfl) hnb1 hV9.size; have hU1 := dK huo hV90.size hnb1; have hE3 := (Evo.refl (b :: ob.toList) w).step hw2 (dL (Or.inl rfl)); refine aD (aY (cP rfl ?_))
    exact eS hBDw1 (by unfold gZ; rw [if_pos (by omega)]) hE3 hN1
   refine aF (aC (aH (aB rfl (bC rfl rfl) ?_))); refine aH (aX (t := 28) rfl (fun hs28 => ?_) (fun hs28 => ?_))
   ·skip
    refine aP (aH (aP (aB rfl (bC rfl rfl) ?_))); refine bD (aM (aD (aA (bJ rfl (fun hc25 => ?_) (fun hc25 => ?_)))))
    ·skip
     refine aC (aH ?_)
     refine aN (vs := [_, _]) cJ rfl (dI h (m := [43]) (by decide +kernel) (cC (by decide +kernel)) (by first | omega | (simp only [List.length_append]; omega)) (by decide)) rfl ?_
     rintro _ w5 ⟨obw1, hBDw1, hw6, hnb1⟩; have hV9 := (Evo.refl (b :: ob.toList) w); have hV90 := hE0; have hN1 := cT (Or.inl rfl) hnb1 hV9.size; have hU1 := dK huo hV90.size hnb1; have hE7 := (Evo.refl (b :: ob.toList) w).step hw6 (dL (Or.inl rfl)); refine aD (aY (cP rfl ?_))
     exact eS hBDw1 (by unfold gZ; rw [if_neg (by omega), if_pos (by omega)]) hE7 hN1
    refine aF (aC (aH (aB rfl (bC rfl rfl) ?_))); refine aH (aX (t := 37) rfl (fun hs37 => ?_) (fun hs37 => ?_))
    ·skip
     refine aP (aH (aP (aB rfl (bC rfl rfl) ?_))); refine bD (aM (aD (aA (bJ rfl (fun hc34 => ?_) (fun hc34 => ?_)))))
     ·skip
      refine aC (aH ?_)
      refine aN (vs := [_, _]) cJ rfl (dI h (m := [63]) (by decide +kernel) (cC (by decide +kernel)) (by first | omega | (simp only [List.length_append]; omega)) (by decide)) rfl ?_
      rintro _ w9 ⟨obw1, hBDw1, hw10, hnb1⟩; have hV9 := (Evo.refl (b :: ob.toList) w); have hV90 := hE0; have hN1 := cT (Or.inl rfl) hnb1 hV9.size; have hU1 := dK huo hV90.size hnb1; have hE11 := (Evo.refl (b :: ob.toList) w).step hw10 (dL (Or.inl rfl)); refine aD (aY (cP rfl ?_))
      exact eS hBDw1 (by unfold gZ; rw [if_neg (by omega), if_neg (by omega), if_pos (by omega)]) hE11 hN1
     refine aF (aC (aH (aB rfl (bC rfl rfl) ?_))); refine aM (aD (aA (bJ rfl (fun hc43 => ?_) (fun hc43 => ?_))))
     ·skip
      refine aC (aH (aH ?_)); refine aN (vs := [_]) cF rfl (fP (hG.evo0 hE0) lo (by omega) (by omega)) rfl ?_; rintro _ w13 ⟨rfl, hw14⟩; have hE15 := (Evo.refl (b :: ob.toList) w).then hw14; have hE16 := hE0.then hw14; have hF17 := h.evo0 hw14
      skip
      refine aB rfl (bZ rfl rfl (by simp only [bW, bH, bV, cS, bap, bsz, List.length_append, List.length_cons, List.length_nil]; omega)) ?_
      simp only [bW, bH, bV, cS, bap]
      skip
      refine aB rfl (bZ rfl rfl (by simp only [bW, bH, bV, cS, bap, bsz, List.length_append, List.length_cons, List.length_nil]; omega)) ?_
      simp only [bW, bH, bV, cS, bap]
      refine aN (vs := [_, _]) cJ rfl (dI hF17 (m := [123] ++ fO lo.toNat ++ [44, 125]) rfl (((cC (by decide +kernel)).app hq1).app (cC (by decide +kernel))) (by first | omega | (simp only [List.length_append]; omega)) (by simp only [List.length_append, List.length_cons, List.length_nil]; omega)) rfl ?_
      rintro _ w18 ⟨obw1, hBDw1, hw19, hnb1⟩; have hV9 := hE15; have hV90 := hE16; have hN1 := cT (Or.inl rfl) hnb1 hV9.size; have hU1 := dK huo hV90.size hnb1; have hE20 := hE15.step hw19 (dL (Or.inl rfl)); refine aD (aY (cP rfl ?_))
      exact eS hBDw1 (by unfold gZ; rw [if_neg (by omega), if_neg (by omega), if_neg (by omega), if_pos (by omega)]) hE20 hN1
     refine aF (aC (aH (aH (aB rfl (bC rfl rfl) ?_)))); refine aM (aD (aA (bJ rfl (fun hc52 => ?_) (fun hc52 => ?_))))
     ·skip
      refine aC (aH (aH ?_)); refine aN (vs := [_]) cF rfl (fP (hG.evo0 hE0) lo (by omega) (by omega)) rfl ?_; rintro _ w22 ⟨rfl, hw23⟩; have hE24 := (Evo.refl (b :: ob.toList) w).then hw23; have hE25 := hE0.then hw23; have hF26 := h.evo0 hw23
      skip
      refine aB rfl (bZ rfl rfl (by simp only [bW, bH, bV, cS, bap, bsz, List.length_append, List.length_cons, List.length_nil]; omega)) ?_
      simp only [bW, bH, bV, cS, bap]
      skip
      refine aB rfl (bZ rfl rfl (by simp only [bW, bH, bV, cS, bap, bsz, List.length_append, List.length_cons, List.length_nil]; omega)) ?_
      simp only [bW, bH, bV, cS, bap]
      refine aN (vs := [_, _]) cJ rfl (dI hF26 (m := [123] ++ fO lo.toNat ++ [125]) rfl (((cC (by decide +kernel)).app hq1).app (cC (by decide +kernel))) (by first | omega | (simp only [List.length_append]; omega)) (by simp only [List.length_append, List.length_cons, List.length_nil]; omega)) rfl ?_
      rintro _ w27 ⟨obw1, hBDw1, hw28, hnb1⟩; have hV9 := hE24; have hV90 := hE25; have hN1 := cT (Or.inl rfl) hnb1 hV9.size; have hU1 := dK huo hV90.size hnb1; have hE29 := hE24.step hw28 (dL (Or.inl rfl)); refine aD (aY (cP rfl ?_))
      exact eS hBDw1 (by unfold gZ; rw [if_neg (by omega), if_neg (by omega), if_neg (by omega), if_neg (by omega), if_pos (by omega)]) hE29 hN1
     have hd3 := hd2 (by omega); refine aC (aH (aH ?_)); refine aN (vs := [_]) cF rfl (fP (hG.evo0 hE0) lo (by omega) (by omega)) rfl ?_; rintro _ w31 ⟨rfl, hw32⟩; have hE33 := (Evo.refl (b :: ob.toList) w).then hw32; have hE34 := hE0.then hw32; have hF35 := h.evo0 hw32
     skip
     refine aB rfl (bZ rfl rfl (by simp only [bW, bH, bV, cS, bap, bsz, List.length_append, List.length_cons, List.length_nil]; omega)) ?_
     simp only [bW, bH, bV, cS, bap]
     skip
     refine aB rfl (bZ rfl rfl (by simp only [bW, bH, bV, cS, bap, bsz, List.length_append, List.length_cons, List.length_nil]; omega)) ?_
     simp only [bW, bH, bV, cS, bap]; refine aH ?_; refine aN (vs := [_]) cF rfl (fP (hG.evo0 hE34) hi (by omega) (by omega)) rfl ?_; rintro _ w36 ⟨rfl, hw37⟩; have hE38 := hE33.then hw37; have hE39 := hE34.then hw37; have hF40 := hF35.evo0 hw37
     skip
     refine aB rfl (bZ rfl rfl (by simp only [bW, bH, bV, cS, bap, bsz, List.length_append, List.length_cons, List.length_nil]; omega)) ?_
     simp only [bW, bH, bV, cS, bap]
     skip
     refine aB rfl (bZ rfl rfl (by simp only [bW, bH, bV, cS, bap, bsz, List.length_append, List.length_cons, List.length_nil]; omega)) ?_
     simp only [bW, bH, bV, cS, bap]
     refine aN (vs := [_, _]) cJ rfl (dI hF40 (m := [123] ++ fO lo.toNat ++ [44] ++ fO hi.toNat ++ [125]) rfl (((((cC (by decide +kernel)).app hq1).app (cC (by decide +kernel))).app hq2).app (cC (by decide +kernel))) (by first | omega | (simp only [List.length_append]; omega)) (by simp only [List.length_append, List.length_cons, List.length_nil]; omega)) rfl ?_
     rintro _ w41 ⟨obw1, hBDw1, hw42, hnb1⟩; have hV9 := hE38; have hV90 := hE39; have hN1 := cT (Or.inl rfl) hnb1 hV9.size; have hU1 := dK huo hV90.size hnb1; have hE43 := hE38.step hw42 (dL (Or.inl rfl)); refine aD (aY (cP rfl ?_))
     exact eS hBDw1 (by unfold gZ; rw [if_neg (by omega), if_neg (by omega), if_neg (by omega), if_neg (by omega), if_neg (by omega)]) hE43 hN1
    refine aG (aG (aV (aM (aD (aA (cQ rfl ?_)))))); refine aF (aC (aH (aB rfl (bC rfl rfl) ?_))); refine aM (aD (aA (bJ rfl (fun hc43 => ?_) (fun hc43 => ?_))))
    ·skip
     refine aC (aH (aH ?_)); refine aN (vs := [_]) cF rfl (fP (hG.evo0 hE0) lo (by omega) (by omega)) rfl ?_; rintro _ w45 ⟨rfl, hw46⟩; have hE47 := (Evo.refl (b :: ob.toList) w).then hw46; have hE48 := hE0.then hw46; have hF49 := h.evo0 hw46
     skip
     refine aB rfl (bZ rfl rfl (by simp only [bW, bH, bV, cS, bap, bsz, List.length_append, List.length_cons, List.length_nil]; omega)) ?_
     simp only [bW, bH, bV, cS, bap]
     skip
     refine aB rfl (bZ rfl rfl (by simp only [bW, bH, bV, cS, bap, bsz, List.length_append, List.length_cons, List.length_nil]; omega)) ?_
     simp only [bW, bH, bV, cS, bap]
     refine aN (vs := [_, _]) cJ rfl (dI hF49 (m := [123] ++ fO lo.toNat ++ [44, 125]) rfl (((cC (by decide +kernel)).app hq1).app (cC (by decide +kernel))) (by first | omega | (simp only [List.length_append]; omega)) (by simp only [List.length_append, List.length_cons, List.length_nil]; omega)) rfl ?_
     rintro _ w50 ⟨obw1, hBDw1, hw51, hnb1⟩; have hV9 := hE47; have hV90 := hE48; have hN1 := cT (Or.inl rfl) hnb1 hV9.size; have hU1 := dK huo hV90.size hnb1; have hE52 := hE47.step hw51 (dL (Or.inl rfl)); refine aD (aY (cP rfl ?_))
     exact eS hBDw1 (by unfold gZ; rw [if_neg (by omega), if_neg (by omega), if_neg (by omega), if_pos (by omega)]) hE52 hN1
    refine aF (aC (aH (aH (aB rfl (bC rfl rfl) ?_)))); refine aM (aD (aA (bJ rfl (fun hc52 => ?_) (fun hc52 => ?_))))
    ·skip
     refine aC (aH (aH ?_)); refine aN (vs := [_]) cF rfl (fP (hG.evo0 hE0) lo (by omega) (by omega)) rfl ?_; rintro _ w54 ⟨rfl, hw55⟩; have hE56 := (Evo.refl (b :: ob.toList) w).then hw55; have hE57 := hE0.then hw55; have hF58 := h.evo0 hw55
     skip
     refine aB rfl (bZ rfl rfl (by simp only [bW, bH, bV, cS, bap, bsz, List.length_append, List.length_cons, List.length_nil]; omega)) ?_
     simp only [bW, bH, bV, cS, bap]
     skip
     refine aB rfl (bZ rfl rfl (by simp only [bW, bH, bV, cS, bap, bsz, List.length_append, List.length_cons, List.length_nil]; omega)) ?_
     simp only [bW, bH, bV, cS, bap]
     refine aN (vs := [_, _]) cJ rfl (dI hF58 (m := [123] ++ fO lo.toNat ++ [125]) rfl (((cC (by decide +kernel)).app hq1).app (cC (by decide +kernel))) (by first | omega | (simp only [List.length_append]; omega)) (by simp only [List.length_append, List.length_cons, List.length_nil]; omega)) rfl ?_
     rintro _ w59 ⟨obw1, hBDw1, hw60, hnb1⟩; have hV9 := hE56; have hV90 := hE57; have hN1 := cT (Or.inl rfl) hnb1 hV9.size; have hU1 := dK huo hV90.size hnb1; have hE61 := hE56.step hw60 (dL (Or.inl rfl)); refine aD (aY (cP rfl ?_))
     exact eS hBDw1 (by unfold gZ; rw [if_neg (by omega), if_neg (by omega), if_neg (by omega), if_neg (by omega), if_pos (by omega)]) hE61 hN1
    have hd3 := hd2 (by omega); refine aC (aH (aH ?_)); refine aN (vs := [_]) cF rfl (fP (hG.evo0 hE0) lo (by omega) (by omega)) rfl ?_; rintro _ w63 ⟨rfl, hw64⟩; have hE65 := (Evo.refl (b :: ob.toList) w).then hw64; have hE66 := hE0.then hw64; have hF67 := h.evo0 hw64
    skip
    refine aB rfl (bZ rfl rfl (by simp only [bW, bH, bV, cS, bap, bsz, List.length_append, List.length_cons, List.length_nil]; omega)) ?_
    simp only [bW, bH, bV, cS, bap]
    skip
    refine aB rfl (bZ rfl rfl (by simp only [bW, bH, bV, cS, bap, bsz, List.length_append, List.length_cons, List.length_nil]; omega)) ?_
    simp only [bW, bH, bV, cS, bap]; refine aH ?_; refine aN (vs := [_]) cF rfl (fP (hG.evo0 hE66) hi (by omega) (by omega)) rfl ?_; rintro _ w68 ⟨rfl, hw69⟩; have hE70 := hE65.then hw69; have hE71 := hE66.then hw69; have hF72 := hF67.evo0 hw69
    skip
    refine aB rfl (bZ rfl rfl (by simp only [bW, bH, bV, cS, bap, bsz, List.length_append, List.length_cons, List.length_nil]; omega)) ?_
    simp only [bW, bH, bV, cS, bap]
    skip
    refine aB rfl (bZ rfl rfl (by simp only [bW, bH, bV, cS, bap, bsz, List.length_append, List.length_cons, List.length_nil]; omega)) ?_
    simp only [bW, bH, bV, cS, bap]
    refine aN (vs := [_, _]) cJ rfl (dI hF72 (m := [123] ++ fO lo.toNat ++ [44] ++ fO hi.toNat ++ [125]) rfl (((((cC (by decide +kernel)).app hq1).app (cC (by decide +kernel))).app hq2).app (cC (by decide +kernel))) (by first | omega | (simp only [List.length_append]; omega)) (by simp only [List.length_append, List.length_cons, List.length_nil]; omega)) rfl ?_
    rintro _ w73 ⟨obw1, hBDw1, hw74, hnb1⟩; have hV9 := hE70; have hV90 := hE71; have hN1 := cT (Or.inl rfl) hnb1 hV9.size; have hU1 := dK huo hV90.size hnb1; have hE75 := hE70.step hw74 (dL (Or.inl rfl)); refine aD (aY (cP rfl ?_))
    exact eS hBDw1 (by unfold gZ; rw [if_neg (by omega), if_neg (by omega), if_neg (by omega), if_neg (by omega), if_neg (by omega)]) hE75 hN1
   refine aG (aG (aV (aM (aD (aA (cQ rfl ?_)))))); refine aF (aC (aH (aB rfl (bC rfl rfl) ?_))); refine aH (aX (t := 37) rfl (fun hs37 => ?_) (fun hs37 => ?_))
   ·skip
    refine aP (aH (aP (aB rfl (bC rfl rfl) ?_))); refine bD (aM (aD (aA (bJ rfl (fun hc34 => ?_) (fun hc34 => ?_)))))
    ·skip
     refine aC (aH ?_)
     refine aN (vs := [_, _]) cJ rfl (dI h (m := [63]) (by decide +kernel) (cC (by decide +kernel)) (by first | omega | (simp only [List.length_append]; omega)) (by decide)) rfl ?_
     rintro _ w77 ⟨obw1, hBDw1, hw78, hnb1⟩; have hV9 := (Evo.refl (b :: ob.toList) w); have hV90 := hE0; have hN1 := cT (Or.inl rfl) hnb1 hV9.size; have hU1 := dK huo hV90.size hnb1; have hE79 := (Evo.refl (b :: ob.toList) w).step hw78 (dL (Or.inl rfl)); refine aD (aY (cP rfl ?_))
     exact eS hBDw1 (by unfold gZ; rw [if_neg (by omega), if_neg (by omega), if_pos (by omega)]) hE79 hN1
    refine aF (aC (aH (aB rfl (bC rfl rfl) ?_))); refine aM (aD (aA (bJ rfl (fun hc43 => ?_) (fun hc43 => ?_))))
    ·skip
     refine aC (aH (aH ?_)); refine aN (vs := [_]) cF rfl (fP (hG.evo0 hE0) lo (by omega) (by omega)) rfl ?_; rintro _ w81 ⟨rfl, hw82⟩; have hE83 := (Evo.refl (b :: ob.toList) w).then hw82; have hE84 := hE0.then hw82; have hF85 := h.evo0 hw82
     skip
     refine aB rfl (bZ rfl rfl (by simp only [bW, bH, bV, cS, bap, bsz, List.length_append, List.length_cons, List.length_nil]; omega)) ?_
     simp only [bW, bH, bV, cS, bap]
     skip
     refine aB rfl (bZ rfl rfl (by simp only [bW, bH, bV, cS, bap, bsz, List.length_append, List.length_cons, List.length_nil]; omega)) ?_
     simp only [bW, bH, bV, cS, bap]
     refine aN (vs := [_, _]) cJ rfl (dI hF85 (m := [123] ++ fO lo.toNat ++ [44, 125]) rfl (((cC (by decide +kernel)).app hq1).app (cC (by decide +kernel))) (by first | omega | (simp only [List.length_append]; omega)) (by simp only [List.length_append, List.length_cons, List.length_nil]; omega)) rfl ?_
     rintro _ w86 ⟨obw1, hBDw1, hw87, hnb1⟩; have hV9 := hE83; have hV90 := hE84; have hN1 := cT (Or.inl rfl) hnb1 hV9.size; have hU1 := dK huo hV90.size hnb1; have hE88 := hE83.step hw87 (dL (Or.inl rfl)); refine aD (aY (cP rfl ?_))
     exact eS hBDw1 (by unfold gZ; rw [if_neg (by omega), if_neg (by omega), if_neg (by omega), if_pos (by omega)]) hE88 hN1
    refine aF (aC (aH (aH (aB rfl (bC rfl rfl) ?_)))); refine aM (aD (aA (bJ rfl (fun hc52 => ?_) (fun hc52 => ?_))))
    ·skip
     refine aC (aH (aH ?_)); refine aN (vs := [_]) cF rfl (fP (hG.evo0 hE0) lo (by omega) (by omega)) rfl ?_; rintro _ w90 ⟨rfl, hw91⟩; have hE92 := (Evo.refl (b :: ob.toList) w).then hw91; have hE93 := hE0.then hw91; have hF94 := h.evo0 hw91
     skip
     refine aB rfl (bZ rfl rfl (by simp only [bW, bH, bV, cS, bap, bsz, List.length_append, List.length_cons, List.length_nil]; omega)) ?_
     simp only [bW, bH, bV, cS, bap]
     skip
     refine aB rfl (bZ rfl rfl (by simp only [bW, bH, bV, cS, bap, bsz, List.length_append, List.length_cons, List.length_nil]; omega)) ?_
     simp only [bW, bH, bV, cS, bap]
     refine aN (vs := [_, _]) cJ rfl (dI hF94 (m := [123] ++ fO lo.toNat ++ [125]) rfl (((cC (by decide +kernel)).app hq1).app (cC (by decide +kernel))) (by first | omega | (simp only [List.length_append]; omega)) (by simp only [List.length_append, List.length_cons, List.length_nil]; omega)) rfl ?_
     rintro _ w95 ⟨obw1, hBDw1, hw96, hnb1⟩; have hV9 := hE92; have hV90 := hE93; have hN1 := cT (Or.inl rfl) hnb1 hV9.size; have hU1 := dK huo hV90.size hnb1; have hE97 := hE92.step hw96 (dL (Or.inl rfl)); refine aD (aY (cP rfl ?_))
     exact eS hBDw1 (by unfold gZ; rw [if_neg (by omega), if_neg (by omega), if_neg (by omega), if_neg (by omega), if_pos (by omega)]) hE97 hN1
    have hd3 := hd2 (by omega); refine aC (aH (aH ?_)); refine aN (vs := [_]) cF rfl (fP (hG.evo0 hE0) lo (by omega) (by omega)) rfl ?_; rintro _ w99 ⟨rfl, hw100⟩; have hE101 := (Evo.refl (b :: ob.toList) w).then hw100; have hE102 := hE0.then hw100; have hF103 := h.evo0 hw100
    skip
    refine aB rfl (bZ rfl rfl (by simp only [bW, bH, bV, cS, bap, bsz, List.length_append, List.length_cons, List.length_nil]; omega)) ?_
    simp only [bW, bH, bV, cS, bap]
    skip
    refine aB rfl (bZ rfl rfl (by simp only [bW, bH, bV, cS, bap, bsz, List.length_append, List.length_cons, List.length_nil]; omega)) ?_
    simp only [bW, bH, bV, cS, bap]; refine aH ?_; refine aN (vs := [_]) cF rfl (fP (hG.evo0 hE102) hi (by omega) (by omega)) rfl ?_; rintro _ w104 ⟨rfl, hw105⟩; have hE106 := hE101.then hw105; have hE107 := hE102.then hw105; have hF108 := hF103.evo0 hw105
    skip
    refine aB rfl (bZ rfl rfl (by simp only [bW, bH, bV, cS, bap, bsz, List.length_append, List.length_cons, List.length_nil]; omega)) ?_
    simp only [bW, bH, bV, cS, bap]
    skip
    refine aB rfl (bZ rfl rfl (by simp only [bW, bH, bV, cS, bap, bsz, List.length_append, List.length_cons, List.length_nil]; omega)) ?_
    simp only [bW, bH, bV, cS, bap]
    refine aN (vs := [_, _]) cJ rfl (dI hF108 (m := [123] ++ fO lo.toNat ++ [44] ++ fO hi.toNat ++ [125]) rfl (((((cC (by decide +kernel)).app hq1).app (cC (by decide +kernel))).app hq2).app (cC (by decide +kernel))) (by first | omega | (simp only [List.length_append]; omega)) (by simp only [List.length_append, List.length_cons, List.length_nil]; omega)) rfl ?_
    rintro _ w109 ⟨obw1, hBDw1, hw110, hnb1⟩; have hV9 := hE106; have hV90 := hE107; have hN1 := cT (Or.inl rfl) hnb1 hV9.size; have hU1 := dK huo hV90.size hnb1; have hE111 := hE106.step hw110 (dL (Or.inl rfl)); refine aD (aY (cP rfl ?_))
    exact eS hBDw1 (by unfold gZ; rw [if_neg (by omega), if_neg (by omega), if_neg (by omega), if_neg (by omega), if_neg (by omega)]) hE111 hN1
   refine aG (aG (aV (aM (aD (aA (cQ rfl ?_)))))); refine aF (aC (aH (aB rfl (bC rfl rfl) ?_))); refine aM (aD (aA (bJ rfl (fun hc43 => ?_) (fun hc43 => ?_))))
   ·skip
    refine aC (aH (aH ?_)); refine aN (vs := [_]) cF rfl (fP (hG.evo0 hE0) lo (by omega) (by omega)) rfl ?_; rintro _ w113 ⟨rfl, hw114⟩; have hE115 := (Evo.refl (b :: ob.toList) w).then hw114; have hE116 := hE0.then hw114; have hF117 := h.evo0 hw114
    skip
    refine aB rfl (bZ rfl rfl (by simp only [bW, bH, bV, cS, bap, bsz, List.length_append, List.length_cons, List.length_nil]; omega)) ?_
    simp only [bW, bH, bV, cS, bap]
    skip
    refine aB rfl (bZ rfl rfl (by simp only [bW, bH, bV, cS, bap, bsz, List.length_append, List.length_cons, List.length_nil]; omega)) ?_
    simp only [bW, bH, bV, cS, bap]
    refine aN (vs := [_, _]) cJ rfl (dI hF117 (m := [123] ++ fO lo.toNat ++ [44, 125]) rfl (((cC (by decide +kernel)).app hq1).app (cC (by decide +kernel))) (by first | omega | (simp only [List.length_append]; omega)) (by simp only [List.length_append, List.length_cons, List.length_nil]; omega)) rfl ?_
    rintro _ w118 ⟨obw1, hBDw1, hw119, hnb1⟩; have hV9 := hE115; have hV90 := hE116; have hN1 := cT (Or.inl rfl) hnb1 hV9.size; have hU1 := dK huo hV90.size hnb1; have hE120 := hE115.step hw119 (dL (Or.inl rfl)); refine aD (aY (cP rfl ?_))
    exact eS hBDw1 (by unfold gZ; rw [if_neg (by omega), if_neg (by omega), if_neg (by omega), if_pos (by omega)]) hE120 hN1
   refine aF (aC (aH (aH (aB rfl (bC rfl rfl) ?_)))); refine aM (aD (aA (bJ rfl (fun hc52 => ?_) (fun hc52 => ?_))))
   ·skip
    refine aC (aH (aH ?_)); refine aN (vs := [_]) cF rfl (fP (hG.evo0 hE0) lo (by omega) (by omega)) rfl ?_; rintro _ w122 ⟨rfl, hw123⟩; have hE124 := (Evo.refl (b :: ob.toList) w).then hw123; have hE125 := hE0.then hw123; have hF126 := h.evo0 hw123
    skip
    refine aB rfl (bZ rfl rfl (by simp only [bW, bH, bV, cS, bap, bsz, List.length_append, List.length_cons, List.length_nil]; omega)) ?_
    simp only [bW, bH, bV, cS, bap]
    skip
    refine aB rfl (bZ rfl rfl (by simp only [bW, bH, bV, cS, bap, bsz, List.length_append, List.length_cons, List.length_nil]; omega)) ?_
    simp only [bW, bH, bV, cS, bap]
    refine aN (vs := [_, _]) cJ rfl (dI hF126 (m := [123] ++ fO lo.toNat ++ [125]) rfl (((cC (by decide +kernel)).app hq1).app (cC (by decide +kernel))) (by first | omega | (simp only [List.length_append]; omega)) (by simp only [List.length_append, List.length_cons, List.length_nil]; omega)) rfl ?_
    rintro _ w127 ⟨obw1, hBDw1, hw128, hnb1⟩; have hV9 := hE124; have hV90 := hE125; have hN1 := cT (Or.inl rfl) hnb1 hV9.size; have hU1 := dK huo hV90.size hnb1; have hE129 := hE124.step hw128 (dL (Or.inl rfl)); refine aD (aY (cP rfl ?_))
    exact eS hBDw1 (by unfold gZ; rw [if_neg (by omega), if_neg (by omega), if_neg (by omega), if_neg (by omega), if_pos (by omega)]) hE129 hN1
   have hd3 := hd2 (by omega); refine aC (aH (aH ?_)); refine aN (vs := [_]) cF rfl (fP (hG.evo0 hE0) lo (by omega) (by omega)) rfl ?_; rintro _ w131 ⟨rfl, hw132⟩; have hE133 := (Evo.refl (b :: ob.toList) w).then hw132; have hE134 := hE0.then hw132; have hF135 := h.evo0 hw132
   skip
   refine aB rfl (bZ rfl rfl (by simp only [bW, bH, bV, cS, bap, bsz, List.length_append, List.length_cons, List.length_nil]; omega)) ?_
   simp only [bW, bH, bV, cS, bap]
   skip
   refine aB rfl (bZ rfl rfl (by simp only [bW, bH, bV, cS, bap, bsz, List.length_append, List.length_cons, List.length_nil]; omega)) ?_
   simp only [bW, bH, bV, cS, bap]; refine aH ?_; refine aN (vs := [_]) cF rfl (fP (hG.evo0 hE134) hi (by omega) (by omega)) rfl ?_; rintro _ w136 ⟨rfl, hw137⟩; have hE138 := hE133.then hw137; have hE139 := hE134.then hw137; have hF140 := hF135.evo0 hw137
   skip
   refine aB rfl (bZ rfl rfl (by simp only [bW, bH, bV, cS, bap, bsz, List.length_append, List.length_cons, List.length_nil]; omega)) ?_
   simp only [bW, bH, bV, cS, bap]
   skip
   refine aB rfl (bZ rfl rfl (by simp only [bW, bH, bV, cS, bap, bsz, List.length_append, List.length_cons, List.length_nil]; omega)) ?_
   simp only [bW, bH, bV, cS, bap]
   refine aN (vs := [_, _]) cJ rfl (dI hF140 (m := [123] ++ fO lo.toNat ++ [44] ++ fO hi.toNat ++ [125]) rfl (((((cC (by decide +kernel)).app hq1).app (cC (by decide +kernel))).app hq2).app (cC (by decide +kernel))) (by first | omega | (simp only [List.length_append]; omega)) (by simp only [List.length_append, List.length_cons, List.length_nil]; omega)) rfl ?_
   rintro _ w141 ⟨obw1, hBDw1, hw142, hnb1⟩; have hV9 := hE138; have hV90 := hE139; have hN1 := cT (Or.inl rfl) hnb1 hV9.size; have hU1 := dK huo hV90.size hnb1; have hE143 := hE138.step hw142 (dL (Or.inl rfl)); refine aD (aY (cP rfl ?_))
   exact eS hBDw1 (by unfold gZ; rw [if_neg (by omega), if_neg (by omega), if_neg (by omega), if_neg (by omega), if_neg (by omega)]) hE143 hN1
  refine aG (aG (aV (aM (aD (aA (cQ rfl ?_)))))); refine aF (aC (aH (aB rfl (bC rfl rfl) ?_))); refine aH (aX (t := 28) rfl (fun hs28 => ?_) (fun hs28 => ?_))
  ·skip
   refine aP (aH (aP (aB rfl (bC rfl rfl) ?_))); refine bD (aM (aD (aA (bJ rfl (fun hc25 => ?_) (fun hc25 => ?_)))))
   ·skip
    refine aC (aH ?_)
    refine aN (vs := [_, _]) cJ rfl (dI h (m := [43]) (by decide +kernel) (cC (by decide +kernel)) (by first | omega | (simp only [List.length_append]; omega)) (by decide)) rfl ?_
    rintro _ w145 ⟨obw1, hBDw1, hw146, hnb1⟩; have hV9 := (Evo.refl (b :: ob.toList) w); have hV90 := hE0; have hN1 := cT (Or.inl rfl) hnb1 hV9.size; have hU1 := dK huo hV90.size hnb1; have hE147 := (Evo.refl (b :: ob.toList) w).step hw146 (dL (Or.inl rfl)); refine aD (aY (cP rfl ?_))
    exact eS hBDw1 (by unfold gZ; rw [if_neg (by omega), if_pos (by omega)]) hE147 hN1
   refine aF (aC (aH (aB rfl (bC rfl rfl) ?_))); refine aH (aX (t := 37) rfl (fun hs37 => ?_) (fun hs37 => ?_))
   ·skip
    refine aP (aH (aP (aB rfl (bC rfl rfl) ?_))); refine bD (aM (aD (aA (bJ rfl (fun hc34 => ?_) (fun hc34 => ?_)))))
    ·skip
     refine aC (aH ?_)
     refine aN (vs := [_, _]) cJ rfl (dI h (m := [63]) (by decide +kernel) (cC (by decide +kernel)) (by first | omega | (simp only [List.length_append]; omega)) (by decide)) rfl ?_
     rintro _ w149 ⟨obw1, hBDw1, hw150, hnb1⟩; have hV9 := (Evo.refl (b :: ob.toList) w); have hV90 := hE0; have hN1 := cT (Or.inl rfl) hnb1 hV9.size; have hU1 := dK huo hV90.size hnb1; have hE151 := (Evo.refl (b :: ob.toList) w).step hw150 (dL (Or.inl rfl)); refine aD (aY (cP rfl ?_))
     exact eS hBDw1 (by unfold gZ; rw [if_neg (by omega), if_neg (by omega), if_pos (by omega)]) hE151 hN1
    refine aF (aC (aH (aB rfl (bC rfl rfl) ?_))); refine aM (aD (aA (bJ rfl (fun hc43 => ?_) (fun hc43 => ?_))))
    ·skip
     refine aC (aH (aH ?_)); refine aN (vs := [_]) cF rfl (fP (hG.evo0 hE0) lo (by omega) (by omega)) rfl ?_; rintro _ w153 ⟨rfl, hw154⟩; have hE155 := (Evo.refl (b :: ob.toList) w).then hw154; have hE156 := hE0.then hw154; have hF157 := h.evo0 hw154
     skip
     refine aB rfl (bZ rfl rfl (by simp only [bW, bH, bV, cS, bap, bsz, List.length_append, List.length_cons, List.length_nil]; omega)) ?_
     simp only [bW, bH, bV, cS, bap]
     skip
     refine aB rfl (bZ rfl rfl (by simp only [bW, bH, bV, cS, bap, bsz, List.length_append, List.length_cons, List.length_nil]; omega)) ?_
     simp only [bW, bH, bV, cS, bap]
     refine aN (vs := [_, _]) cJ rfl (dI hF157 (m := [123] ++ fO lo.toNat ++ [44, 125]) rfl (((cC (by decide +kernel)).app hq1).app (cC (by decide +kernel))) (by first | omega | (simp only [List.length_append]; omega)) (by simp only [List.length_append, List.length_cons, List.length_nil]; omega)) rfl ?_
     rintro _ w158 ⟨obw1, hBDw1, hw159, hnb1⟩; have hV9 := hE155; have hV90 := hE156; have hN1 := cT (Or.inl rfl) hnb1 hV9.size; have hU1 := dK huo hV90.size hnb1; have hE160 := hE155.step hw159 (dL (Or.inl rfl)); refine aD (aY (cP rfl ?_))
     exact eS hBDw1 (by unfold gZ; rw [if_neg (by omega), if_neg (by omega), if_neg (by omega), if_pos (by omega)]) hE160 hN1
    refine aF (aC (aH (aH (aB rfl (bC rfl rfl) ?_)))); refine aM (aD (aA (bJ rfl (fun hc52 => ?_) (fun hc52 => ?_))))
    ·skip
     refine aC (aH (aH ?_)); refine aN (vs := [_]) cF rfl (fP (hG.evo0 hE0) lo (by omega) (by omega)) rfl ?_; rintro _ w162 ⟨rfl, hw163⟩; have hE164 := (Evo.refl (b :: ob.toList) w).then hw163; have hE165 := hE0.then hw163; have hF166 := h.evo0 hw163
     skip
     refine aB rfl (bZ rfl rfl (by simp only [bW, bH, bV, cS, bap, bsz, List.length_append, List.length_cons, List.length_nil]; omega)) ?_
     simp only [bW, bH, bV, cS, bap]
     skip
     refine aB rfl (bZ rfl rfl (by simp only [bW, bH, bV, cS, bap, bsz, List.length_append, List.length_cons, List.length_nil]; omega)) ?_
     simp only [bW, bH, bV, cS, bap]
     refine aN (vs := [_, _]) cJ rfl (dI hF166 (m := [123] ++ fO lo.toNat ++ [125]) rfl (((cC (by decide +kernel)).app hq1).app (cC (by decide +kernel))) (by first | omega | (simp only [List.length_append]; omega)) (by simp only [List.length_append, List.length_cons, List.length_nil]; omega)) rfl ?_
     rintro _ w167 ⟨obw1, hBDw1, hw168, hnb1⟩; have hV9 := hE164; have hV90 := hE165; have hN1 := cT (Or.inl rfl) hnb1 hV9.size; have hU1 := dK huo hV90.size hnb1; have hE169 := hE164.step hw168 (dL (Or.inl rfl)); refine aD (aY (cP rfl ?_))
     exact eS hBDw1 (by unfold gZ; rw [if_neg (by omega), if_neg (by omega), if_neg (by omega), if_neg (by omega), if_pos (by omega)]) hE169 hN1
    have hd3 := hd2 (by omega); refine aC (aH (aH ?_)); refine aN (vs := [_]) cF rfl (fP (hG.evo0 hE0) lo (by omega) (by omega)) rfl ?_; rintro _ w171 ⟨rfl, hw172⟩; have hE173 := (Evo.refl (b :: ob.toList) w).then hw172; have hE174 := hE0.then hw172; have hF175 := h.evo0 hw172
    skip
    refine aB rfl (bZ rfl rfl (by simp only [bW, bH, bV, cS, bap, bsz, List.length_append, List.length_cons, List.length_nil]; omega)) ?_
    simp only [bW, bH, bV, cS, bap]
    skip
    refine aB rfl (bZ rfl rfl (by simp only [bW, bH, bV, cS, bap, bsz, List.length_append, List.length_cons, List.length_nil]; omega)) ?_
    simp only [bW, bH, bV, cS, bap]; refine aH ?_; refine aN (vs := [_]) cF rfl (fP (hG.evo0 hE174) hi (by omega) (by omega)) rfl ?_; rintro _ w176 ⟨rfl, hw177⟩; have hE178 := hE173.then hw177; have hE179 := hE174.then hw177; have hF180 := hF175.evo0 hw177
    skip
    refine aB rfl (bZ rfl rfl (by simp only [bW, bH, bV, cS, bap, bsz, List.length_append, List.length_cons, List.length_nil]; omega)) ?_
    simp only [bW, bH, bV, cS, bap]
    skip
    refine aB rfl (bZ rfl rfl (by simp only [bW, bH, bV, cS, bap, bsz, List.length_append, List.length_cons, List.length_nil]; omega)) ?_
    simp only [bW, bH, bV, cS, bap]
    refine aN (vs := [_, _]) cJ rfl (dI hF180 (m := [123] ++ fO lo.toNat ++ [44] ++ fO hi.toNat ++ [125]) rfl (((((cC (by decide +kernel)).app hq1).app (cC (by decide +kernel))).app hq2).app (cC (by decide +kernel))) (by first | omega | (simp only [List.length_append]; omega)) (by simp only [List.length_append, List.length_cons, List.length_nil]; omega)) rfl ?_
    rintro _ w181 ⟨obw1, hBDw1, hw182, hnb1⟩; have hV9 := hE178; have hV90 := hE179; have hN1 := cT (Or.inl rfl) hnb1 hV9.size; have hU1 := dK huo hV90.size hnb1; have hE183 := hE178.step hw182 (dL (Or.inl rfl)); refine aD (aY (cP rfl ?_))
    exact eS hBDw1 (by unfold gZ; rw [if_neg (by omega), if_neg (by omega), if_neg (by omega), if_neg (by omega), if_neg (by omega)]) hE183 hN1
   refine aG (aG (aV (aM (aD (aA (cQ rfl ?_)))))); refine aF (aC (aH (aB rfl (bC rfl rfl) ?_))); refine aM (aD (aA (bJ rfl (fun hc43 => ?_) (fun hc43 => ?_))))
   ·skip
    refine aC (aH (aH ?_)); refine aN (vs := [_]) cF rfl (fP (hG.evo0 hE0) lo (by omega) (by omega)) rfl ?_; rintro _ w185 ⟨rfl, hw186⟩; have hE187 := (Evo.refl (b :: ob.toList) w).then hw186; have hE188 := hE0.then hw186; have hF189 := h.evo0 hw186
    skip
    refine aB rfl (bZ rfl rfl (by simp only [bW, bH, bV, cS, bap, bsz, List.length_append, List.length_cons, List.length_nil]; omega)) ?_
    simp only [bW, bH, bV, cS, bap]
    skip
    refine aB rfl (bZ rfl rfl (by simp only [bW, bH, bV, cS, bap, bsz, List.length_append, List.length_cons, List.length_nil]; omega)) ?_
    simp only [bW, bH, bV, cS, bap]
    refine aN (vs := [_, _]) cJ rfl (dI hF189 (m := [123] ++ fO lo.toNat ++ [44, 125]) rfl (((cC (by decide +kernel)).app hq1).app (cC (by decide +kernel))) (by first | omega | (simp only [List.length_append]; omega)) (by simp only [List.length_append, List.length_cons, List.length_nil]; omega)) rfl ?_
    rintro _ w190 ⟨obw1, hBDw1, hw191, hnb1⟩; have hV9 := hE187; have hV90 := hE188; have hN1 := cT (Or.inl rfl) hnb1 hV9.size; have hU1 := dK huo hV90.size hnb1; have hE192 := hE187.step hw191 (dL (Or.inl rfl)); refine aD (aY (cP rfl ?_))
    exact eS hBDw1 (by unfold gZ; rw [if_neg (by omega), if_neg (by omega), if_neg (by omega), if_pos (by omega)]) hE192 hN1
   refine aF (aC (aH (aH (aB rfl (bC rfl rfl) ?_)))); refine aM (aD (aA (bJ rfl (fun hc52 => ?_) (fun hc52 => ?_))))
   ·skip
    refine aC (aH (aH ?_)); refine aN (vs := [_]) cF rfl (fP (hG.evo0 hE0) lo (by omega) (by omega)) rfl ?_; rintro _ w194 ⟨rfl, hw195⟩; have hE196 := (Evo.refl (b :: ob.toList) w).then hw195; have hE197 := hE0.then hw195; have hF198 := h.evo0 hw195
    skip
    refine aB rfl (bZ rfl rfl (by simp only [bW, bH, bV, cS, bap, bsz, List.length_append, List.length_cons, List.length_nil]; omega)) ?_
    simp only [bW, bH, bV, cS, bap]
    skip
    refine aB rfl (bZ rfl rfl (by simp only [bW, bH, bV, cS, bap, bsz, List.length_append, List.length_cons, List.length_nil]; omega)) ?_
    simp only [bW, bH, bV, cS, bap]
    refine aN (vs := [_, _]) cJ rfl (dI hF198 (m := [123] ++ fO lo.toNat ++ [125]) rfl (((cC (by decide +kernel)).app hq1).app (cC (by decide +kernel))) (by first | omega | (simp only [List.length_append]; omega)) (by simp only [List.length_append, List.length_cons, List.length_nil]; omega)) rfl ?_
    rintro _ w199 ⟨obw1, hBDw1, hw200, hnb1⟩; have hV9 := hE196; have hV90 := hE197; have hN1 := cT (Or.inl rfl) hnb1 hV9.size; have hU1 := dK huo hV90.size hnb1; have hE201 := hE196.step hw200 (dL (Or.inl rfl)); refine aD (aY (cP rfl ?_))
    exact eS hBDw1 (by unfold gZ; rw [if_neg (by omega), if_neg (by omega), if_neg (by omega), if_neg (by omega), if_pos (by omega)]) hE201 hN1
   have hd3 := hd2 (by omega); refine aC (aH (aH ?_)); refine aN (vs := [_]) cF rfl (fP (hG.evo0 hE0) lo (by omega) (by omega)) rfl ?_; rintro _ w203 ⟨rfl, hw204⟩; have hE205 := (Evo.refl (b :: ob.toList) w).then hw204; have hE206 := hE0.then hw204; have hF207 := h.evo0 hw204
   skip
   refine aB rfl (bZ rfl rfl (by simp only [bW, bH, bV, cS, bap, bsz, List.length_append, List.length_cons, List.length_nil]; omega)) ?_
   simp only [bW, bH, bV, cS, bap]
   skip
   refine aB rfl (bZ rfl rfl (by simp only [bW, bH, bV, cS, bap, bsz, List.length_append, List.length_cons, List.length_nil]; omega)) ?_
   simp only [bW, bH, bV, cS, bap]; refine aH ?_; refine aN (vs := [_]) cF rfl (fP (hG.evo0 hE206) hi (by omega) (by omega)) rfl ?_; rintro _ w208 ⟨rfl, hw209⟩; have hE210 := hE205.then hw209; have hE211 := hE206.then hw209; have hF212 := hF207.evo0 hw209
   skip
   refine aB rfl (bZ rfl rfl (by simp only [bW, bH, bV, cS, bap, bsz, List.length_append, List.length_cons, List.length_nil]; omega)) ?_
   simp only [bW, bH, bV, cS, bap]
   skip
   refine aB rfl (bZ rfl rfl (by simp only [bW, bH, bV, cS, bap, bsz, List.length_append, List.length_cons, List.length_nil]; omega)) ?_
   simp only [bW, bH, bV, cS, bap]
   refine aN (vs := [_, _]) cJ rfl (dI hF212 (m := [123] ++ fO lo.toNat ++ [44] ++ fO hi.toNat ++ [125]) rfl (((((cC (by decide +kernel)).app hq1).app (cC (by decide +kernel))).app hq2).app (cC (by decide +kernel))) (by first | omega | (simp only [List.length_append]; omega)) (by simp only [List.length_append, List.length_cons, List.length_nil]; omega)) rfl ?_
   rintro _ w213 ⟨obw1, hBDw1, hw214, hnb1⟩; have hV9 := hE210; have hV90 := hE211; have hN1 := cT (Or.inl rfl) hnb1 hV9.size; have hU1 := dK huo hV90.size hnb1; have hE215 := hE210.step hw214 (dL (Or.inl rfl)); refine aD (aY (cP rfl ?_))
   exact eS hBDw1 (by unfold gZ; rw [if_neg (by omega), if_neg (by omega), if_neg (by omega), if_neg (by omega), if_neg (by omega)]) hE215 hN1
  refine aG (aG (aV (aM (aD (aA (cQ rfl ?_)))))); refine aF (aC (aH (aB rfl (bC rfl rfl) ?_))); refine aH (aX (t := 37) rfl (fun hs37 => ?_) (fun hs37 => ?_))
  ·skip
   refine aP (aH (aP (aB rfl (bC rfl rfl) ?_))); refine bD (aM (aD (aA (bJ rfl (fun hc34 => ?_) (fun hc34 => ?_)))))
   ·skip
    refine aC (aH ?_)
    refine aN (vs := [_, _]) cJ rfl (dI h (m := [63]) (by decide +kernel) (cC (by decide +kernel)) (by first | omega | (simp only [List.length_append]; omega)) (by decide)) rfl ?_
    rintro _ w217 ⟨obw1, hBDw1, hw218, hnb1⟩; have hV9 := (Evo.refl (b :: ob.toList) w); have hV90 := hE0; have hN1 := cT (Or.inl rfl) hnb1 hV9.size; have hU1 := dK huo hV90.size hnb1; have hE219 := (Evo.refl (b :: ob.toList) w).step hw218 (dL (Or.inl rfl)); refine aD (aY (cP rfl ?_))
    exact eS hBDw1 (by unfold gZ; rw [if_neg (by omega), if_neg (by omega), if_pos (by omega)]) hE219 hN1
   refine aF (aC (aH (aB rfl (bC rfl rfl) ?_))); refine aM (aD (aA (bJ rfl (fun hc43 => ?_) (fun hc43 => ?_))))
   ·skip
    refine aC (aH (aH ?_)); refine aN (vs := [_]) cF rfl (fP (hG.evo0 hE0) lo (by omega) (by omega)) rfl ?_; rintro _ w221 ⟨rfl, hw222⟩; have hE223 := (Evo.refl (b :: ob.toList) w).then hw222; have hE224 := hE0.then hw222; have hF225 := h.evo0 hw222
    skip
    refine aB rfl (bZ rfl rfl (by simp only [bW, bH, bV, cS, bap, bsz, List.length_append, List.length_cons, List.length_nil]; omega)) ?_
    simp only [bW, bH, bV, cS, bap]
    skip
    refine aB rfl (bZ rfl rfl (by simp only [bW, bH, bV, cS, bap, bsz, List.length_append, List.length_cons, List.length_nil]; omega)) ?_
    simp only [bW, bH, bV, cS, bap]
    refine aN (vs := [_, _]) cJ rfl (dI hF225 (m := [123] ++ fO lo.toNat ++ [44, 125]) rfl (((cC (by decide +kernel)).app hq1).app (cC (by decide +kernel))) (by first | omega | (simp only [List.length_append]; omega)) (by simp only [List.length_append, List.length_cons, List.length_nil]; omega)) rfl ?_
    rintro _ w226 ⟨obw1, hBDw1, hw227, hnb1⟩; have hV9 := hE223; have hV90 := hE224; have hN1 := cT (Or.inl rfl) hnb1 hV9.size; have hU1 := dK huo hV90.size hnb1; have hE228 := hE223.step hw227 (dL (Or.inl rfl)); refine aD (aY (cP rfl ?_))
    exact eS hBDw1 (by unfold gZ; rw [if_neg (by omega), if_neg (by omega), if_neg (by omega), if_pos (by omega)]) hE228 hN1
   refine aF (aC (aH (aH (aB rfl (bC rfl rfl) ?_)))); refine aM (aD (aA (bJ rfl (fun hc52 => ?_) (fun hc52 => ?_))))
   ·skip
    refine aC (aH (aH ?_)); refine aN (vs := [_]) cF rfl (fP (hG.evo0 hE0) lo (by omega) (by omega)) rfl ?_; rintro _ w230 ⟨rfl, hw231⟩; have hE232 := (Evo.refl (b :: ob.toList) w).then hw231; have hE233 := hE0.then hw231; have hF234 := h.evo0 hw231
    skip
    refine aB rfl (bZ rfl rfl (by simp only [bW, bH, bV, cS, bap, bsz, List.length_append, List.length_cons, List.length_nil]; omega)) ?_
    simp only [bW, bH, bV, cS, bap]
    skip
    refine aB rfl (bZ rfl rfl (by simp only [bW, bH, bV, cS, bap, bsz, List.length_append, List.length_cons, List.length_nil]; omega)) ?_
    simp only [bW, bH, bV, cS, bap]
    refine aN (vs := [_, _]) cJ rfl (dI hF234 (m := [123] ++ fO lo.toNat ++ [125]) rfl (((cC (by decide +kernel)).app hq1).app (cC (by decide +kernel))) (by first | omega | (simp only [List.length_append]; omega)) (by simp only [List.length_append, List.length_cons, List.length_nil]; omega)) rfl ?_
    rintro _ w235 ⟨obw1, hBDw1, hw236, hnb1⟩; have hV9 := hE232; have hV90 := hE233; have hN1 := cT (Or.inl rfl) hnb1 hV9.size; have hU1 := dK huo hV90.size hnb1; have hE237 := hE232.step hw236 (dL (Or.inl rfl)); refine aD (aY (cP rfl ?_))
    exact eS hBDw1 (by unfold gZ; rw [if_neg (by omega), if_neg (by omega), if_neg (by omega), if_neg (by omega), if_pos (by omega)]) hE237 hN1
   have hd3 := hd2 (by omega); refine aC (aH (aH ?_)); refine aN (vs := [_]) cF rfl (fP (hG.evo0 hE0) lo (by omega) (by omega)) rfl ?_; rintro _ w239 ⟨rfl, hw240⟩; have hE241 := (Evo.refl (b :: ob.toList) w).then hw240; have hE242 := hE0.then hw240; have hF243 := h.evo0 hw240
   skip
   refine aB rfl (bZ rfl rfl (by simp only [bW, bH, bV, cS, bap, bsz, List.length_append, List.length_cons, List.length_nil]; omega)) ?_
   simp only [bW, bH, bV, cS, bap]
   skip
   refine aB rfl (bZ rfl rfl (by simp only [bW, bH, bV, cS, bap, bsz, List.length_append, List.length_cons, List.length_nil]; omega)) ?_
   simp only [bW, bH, bV, cS, bap]; refine aH ?_; refine aN (vs := [_]) cF rfl (fP (hG.evo0 hE242) hi (by omega) (by omega)) rfl ?_; rintro _ w244 ⟨rfl, hw245⟩; have hE246 := hE241.then hw245; have hE247 := hE242.then hw245; have hF248 := hF243.evo0 hw245
   skip
   refine aB rfl (bZ rfl rfl (by simp only [bW, bH, bV, cS, bap, bsz, List.length_append, List.length_cons, List.length_nil]; omega)) ?_
   simp only [bW, bH, bV, cS, bap]
   skip
   refine aB rfl (bZ rfl rfl (by simp only [bW, bH, bV, cS, bap, bsz, List.length_append, List.length_cons, List.length_nil]; omega)) ?_
   simp only [bW, bH, bV, cS, bap]
   refine aN (vs := [_, _]) cJ rfl (dI hF248 (m := [123] ++ fO lo.toNat ++ [44] ++ fO hi.toNat ++ [125]) rfl (((((cC (by decide +kernel)).app hq1).app (cC (by decide +kernel))).app hq2).app (cC (by decide +kernel))) (by first | omega | (simp only [List.length_append]; omega)) (by simp only [List.length_append, List.length_cons, List.length_nil]; omega)) rfl ?_
   rintro _ w249 ⟨obw1, hBDw1, hw250, hnb1⟩; have hV9 := hE246; have hV90 := hE247; have hN1 := cT (Or.inl rfl) hnb1 hV9.size; have hU1 := dK huo hV90.size hnb1; have hE251 := hE246.step hw250 (dL (Or.inl rfl)); refine aD (aY (cP rfl ?_))
   exact eS hBDw1 (by unfold gZ; rw [if_neg (by omega), if_neg (by omega), if_neg (by omega), if_neg (by omega), if_neg (by omega)]) hE251 hN1
  refine aG (aG (aV (aM (aD (aA (cQ rfl ?_)))))); refine aF (aC (aH (aB rfl (bC rfl rfl) ?_))); refine aM (aD (aA (bJ rfl (fun hc43 => ?_) (fun hc43 => ?_))))
  ·skip
   refine aC (aH (aH ?_)); refine aN (vs := [_]) cF rfl (fP (hG.evo0 hE0) lo (by omega) (by omega)) rfl ?_; rintro _ w253 ⟨rfl, hw254⟩; have hE255 := (Evo.refl (b :: ob.toList) w).then hw254; have hE256 := hE0.then hw254; have hF257 := h.evo0 hw254
   skip
   refine aB rfl (bZ rfl rfl (by simp only [bW, bH, bV, cS, bap, bsz, List.length_append, List.length_cons, List.length_nil]; omega)) ?_
   simp only [bW, bH, bV, cS, bap]
   skip
   refine aB rfl (bZ rfl rfl (by simp only [bW, bH, bV, cS, bap, bsz, List.length_append, List.length_cons, List.length_nil]; omega)) ?_
   simp only [bW, bH, bV, cS, bap]
   refine aN (vs := [_, _]) cJ rfl (dI hF257 (m := [123] ++ fO lo.toNat ++ [44, 125]) rfl (((cC (by decide +kernel)).app hq1).app (cC (by decide +kernel))) (by first | omega | (simp only [List.length_append]; omega)) (by simp only [List.length_append, List.length_cons, List.length_nil]; omega)) rfl ?_
   rintro _ w258 ⟨obw1, hBDw1, hw259, hnb1⟩; have hV9 := hE255; have hV90 := hE256; have hN1 := cT (Or.inl rfl) hnb1 hV9.size; have hU1 := dK huo hV90.size hnb1; have hE260 := hE255.step hw259 (dL (Or.inl rfl)); refine aD (aY (cP rfl ?_))
   exact eS hBDw1 (by unfold gZ; rw [if_neg (by omega), if_neg (by omega), if_neg (by omega), if_pos (by omega)]) hE260 hN1
  refine aF (aC (aH (aH (aB rfl (bC rfl rfl) ?_)))); refine aM (aD (aA (bJ rfl (fun hc52 => ?_) (fun hc52 => ?_))))
  ·skip
   refine aC (aH (aH ?_)); refine aN (vs := [_]) cF rfl (fP (hG.evo0 hE0) lo (by omega) (by omega)) rfl ?_; rintro _ w262 ⟨rfl, hw263⟩; have hE264 := (Evo.refl (b :: ob.toList) w).then hw263; have hE265 := hE0.then hw263; have hF266 := h.evo0 hw263
   skip
   refine aB rfl (bZ rfl rfl (by simp only [bW, bH, bV, cS, bap, bsz, List.length_append, List.length_cons, List.length_nil]; omega)) ?_
   simp only [bW, bH, bV, cS, bap]
   skip
   refine aB rfl (bZ rfl rfl (by simp only [bW, bH, bV, cS, bap, bsz, List.length_append, List.length_cons, List.length_nil]; omega)) ?_
   simp only [bW, bH, bV, cS, bap]
   refine aN (vs := [_, _]) cJ rfl (dI hF266 (m := [123] ++ fO lo.toNat ++ [125]) rfl (((cC (by decide +kernel)).app hq1).app (cC (by decide +kernel))) (by first | omega | (simp only [List.length_append]; omega)) (by simp only [List.length_append, List.length_cons, List.length_nil]; omega)) rfl ?_
   rintro _ w267 ⟨obw1, hBDw1, hw268, hnb1⟩; have hV9 := hE264; have hV90 := hE265; have hN1 := cT (Or.inl rfl) hnb1 hV9.size; have hU1 := dK huo hV90.size hnb1; have hE269 := hE264.step hw268 (dL (Or.inl rfl)); refine aD (aY (cP rfl ?_))
   exact eS hBDw1 (by unfold gZ; rw [if_neg (by omega), if_neg (by omega), if_neg (by omega), if_neg (by omega), if_pos (by omega)]) hE269 hN1
  have hd3 := hd2 (by omega); refine aC (aH (aH ?_)); refine aN (vs := [_]) cF rfl (fP (hG.evo0 hE0) lo (by omega) (by omega)) rfl ?_; rintro _ w271 ⟨rfl, hw272⟩; have hE273 := (Evo.refl (b :: ob.toList) w).then hw272; have hE274 := hE0.then hw272; have hF275 := h.evo0 hw272
  skip
  refine aB rfl (bZ rfl rfl (by simp only [bW, bH, bV, cS, bap, bsz, List.length_append, List.length_cons, List.length_nil]; omega)) ?_
  simp only [bW, bH, bV, cS, bap]
  skip
  refine aB rfl (bZ rfl rfl (by simp only [bW, bH, bV, cS, bap, bsz, List.length_append, List.length_cons, List.length_nil]; omega)) ?_
  simp only [bW, bH, bV, cS, bap]; refine aH ?_; refine aN (vs := [_]) cF rfl (fP (hG.evo0 hE274) hi (by omega) (by omega)) rfl ?_; rintro _ w276 ⟨rfl, hw277⟩; have hE278 := hE273.then hw277; have hE279 := hE274.then hw277; have hF280 := hF275.evo0 hw277
  skip
  refine aB rfl (bZ rfl rfl (by simp only [bW, bH, bV, cS, bap, bsz, List.length_append, List.length_cons, List.length_nil]; omega)) ?_
  simp only [bW, bH, bV, cS, bap]
  skip
  refine aB rfl (bZ rfl rfl (by simp only [bW, bH, bV, cS, bap, bsz, List.length_append, List.length_cons, List.length_nil]; omega)) ?_
  simp only [bW, bH, bV, cS, bap]
  refine aN (vs := [_, _]) cJ rfl (dI hF280 (m := [123] ++ fO lo.toNat ++ [44] ++ fO hi.toNat ++ [125]) rfl (((((cC (by decide +kernel)).app hq1).app (cC (by decide +kernel))).app hq2).app (cC (by decide +kernel))) (by first | omega | (simp only [List.length_append]; omega)) (by simp only [List.length_append, List.length_cons, List.length_nil]; omega)) rfl ?_
  rintro _ w281 ⟨obw1, hBDw1, hw282, hnb1⟩; have hV9 := hE278; have hV90 := hE279; have hN1 := cT (Or.inl rfl) hnb1 hV9.size; have hU1 := dK huo hV90.size hnb1; have hE283 := hE278.step hw282 (dL (Or.inl rfl)); refine aD (aY (cP rfl ?_))
  exact eS hBDw1 (by unfold gZ; rw [if_neg (by omega), if_neg (by omega), if_neg (by omega), if_neg (by omega), if_neg (by omega)]) hE283 hN1
end Go.Proofs.YtljadkcojnlioaaGreatDoor
namespace Go.Proofs.YtljadkcojnlioaaGreatDoor
open Go.Proofs
open Go.W Go.ChangeShapes Go.WideShapes Go.ChangeAt Go.RowKit
theorem zZ {H : Type} {d : DataW H} {l : List (DataW H)} (h : d ∈ l) : Rows.uptoBulk d ≤ Rows.uptoBulkAll l := by
  induction l with
  | nil => cases h
  | cons x r ih =>
    simp only [Rows.uptoBulkAll]
    rcases List.mem_cons.1 h with e | e
    · subst e; omega
    · have := ih e; omega
theorem OS {H : Type} (d : DataW H) : 1 ≤ Rows.uptoBulk d := by
  cases d with
  | lit l => cases l <;> simp [Rows.uptoBulk]
  | nil => simp [Rows.uptoBulk]
  | ptr d => simp [Rows.uptoBulk]
  | slice elems spare => simp [Rows.uptoBulk]
  | agg parts => simp [Rows.uptoBulk]
  | iface t d => simp [Rows.uptoBulk]
  | map entries => simp [Rows.uptoBulk]
  | held h => simp [Rows.uptoBulk]
theorem LA {H : Type} (l : List (DataW H)) (m : Nat) : Rows.uptoBulkAll (l.take m) ≤ Rows.uptoBulkAll l := by
  induction l generalizing m with
  | nil => simp [Rows.uptoBulkAll]
  | cons x r ih =>
    cases m with
    | zero => simp [Rows.uptoBulkAll]
    | succ m => have := ih m; simp only [List.take_succ_cons, Rows.uptoBulkAll]; omega
theorem LB {H : Type} (l : List (DataW H)) (d : DataW H) : Rows.uptoBulkAll (l ++ [d]) = Rows.uptoBulkAll l + Rows.uptoBulk d := by
  induction l with
  | nil => simp [Rows.uptoBulkAll]
  | cons x r ih => simp only [List.cons_append, Rows.uptoBulkAll, ih]; omega
def oD {α : Type} (F : Nat) (t : TypeId) (R : Rel α) (μ : α → Nat) : Prop :=
  ∀ (H : Type) (enc : TypeId × Value → H) (w : World) (fuel : Nat) (cs : List Value) (x : DataW H × List MemPlace), fuel ≤ F → DataW.trod enc Tryz.prog w 0 (fun _ => true) true fuel t cs = some x →
    (∀ n, n ∈ x.1.weights Tryz.prog t → n ≤ reachBytes) → Rows.uptoBulk x.1 ≤ 1048576 → ∃ d, R [] w cs d ∧ μ d + 26 ≤ 26 * Rows.uptoBulk x.1
def sD {H : Type} : DataW H → Nat → Option (DataW H)
  | .agg l, i => l[i]?
  | _, _ => none
theorem HJ {H : Type} {x p q r : DataW H} (h2 : sD x 2 = some p) (h7 : sD x 7 = some q) (h8 : sD x 8 = some r) : Rows.uptoBulk p + Rows.uptoBulk q + Rows.uptoBulk r + 1 ≤ Rows.uptoBulk x := by
  cases x with
  | agg l =>
    simp only [sD] at h2 h7 h8
    match l, h2, h7, h8 with
    | a0 :: a1 :: a2 :: a3 :: a4 :: a5 :: a6 :: a7 :: a8 :: l, h2, h7, h8 =>
      simp at h2 h7 h8
      subst h2 h7 h8
      simp only [Rows.uptoBulk, Rows.uptoBulkAll]; omega
  | _ => simp [sD] at h2
theorem sX {α : Type} {F : Nat} {t e : TypeId} {R : Rel α} {μ : α → Nat} {sz bytes : Nat} (ht : Tryz.prog.underlying t = some (.slice e)) (hs : Tryz.prog.cellsOf e = sz) (hb : Tryz.prog.bytesOf e = bytes) (h0 : 0 < sz) (hR : oD F e R μ) : oD F t (RSlB sz bytes R) (fun ds => (ds.map μ).sum + 26 * ds.length) := by
  subst hs hb
  intro H enc w fuel cs x hfu h hw hbk
  rcases DataW.trod_slice ht h with ⟨rfl, rfl⟩ | ⟨a, len, cap, elems, rest, n, rfl, rfl, rfl, _, hle, _, hel, hat, _, _⟩
  · exact ⟨[], ⟨.slice none 0 0, rfl, ⟨none, 0, rfl, Nat.le_refl _, fun k hk => by simp at hk⟩, by simp⟩, by simp [Rows.uptoBulk]⟩
  · have hwl : (elems.length + rest.length) * Tryz.prog.bytesOf e ≤ 140737488351232 := by
      have := hw _ (by simp [DataW.weights, ht]; exact .inl rfl)
      simpa [reachBytes] using this
    have hwe : ∀ i (hi : i < elems.length) m, m ∈ (elems[i]).1.weights Tryz.prog e → m ≤ reachBytes := fun i hi m hm => by
      refine hw m ?_
      simp only [DataW.weights, ht, List.mem_cons, List.mem_append]
      exact .inr (.inl (vA (List.mem_map.2 ⟨elems[i], List.getElem_mem hi, rfl⟩) m hm))
    have key : ∀ i (hi : i < len), ∃ b o vs d, a = ⟨b, o, none⟩ ∧ vs.length = Tryz.prog.cellsOf e ∧ CellsAt w b (o + i * Tryz.prog.cellsOf e) vs ∧ R [] w vs d ∧ ∀ hi' : i < elems.length, μ d + 26 ≤ 26 * Rows.uptoBulk (elems[i]).1 := by
      intro i hi
      have h1 := hat i hi
      have hi' : i < elems.length := by omega
      rw [List.getElem?_eq_getElem hi'] at h1
      obtain ⟨vs, hvs, htr⟩ := Option.bind_eq_some_iff.1 h1
      obtain ⟨hl, hc⟩ := zW hvs
      obtain ⟨d, hd, hmu⟩ := hR H enc w n vs _ (by omega) htr (hwe i hi') (by have h9 := zZ (d := (elems[i]).1) (l := elems.map (·.1)) (List.mem_map.2 ⟨elems[i], List.getElem_mem hi', rfl⟩); simp only [Rows.uptoBulk] at hbk; omega)
      obtain ⟨b, o, spot⟩ := a
      have hspot : spot = none := by
        cases vs with
        | nil => simp at hl; omega
        | cons v0 vs =>
          have h2 := hc 0 v0 (by simp)
          have h3 := World.cell?_spot h2
          by_cases hz : i * Tryz.prog.cellsOf e = 0
          · rw [hz] at h3; simpa [Addr.add] using h3
          · have hz' : i * Tryz.prog.cellsOf e ≠ 0 := hz
            have hat0 := hat 0 (by omega)
            rw [List.getElem?_eq_getElem (by omega)] at hat0
            obtain ⟨us, hus, _⟩ := Option.bind_eq_some_iff.1 hat0
            obtain ⟨hul, huc⟩ := zW hus
            cases us with
            | nil => simp at hul; omega
            | cons u0 us =>
              have h4 := World.cell?_spot (huc 0 u0 (by simp))
              simpa [Addr.add] using h4
      subst hspot
      refine ⟨b, o, vs, d, rfl, hl, fun j v hv => ?_, hd, fun _ => hmu⟩
      have h2 := hc j v hv
      have hadd : ((⟨b, o, none⟩ : Addr).add (i * Tryz.prog.cellsOf e)).add j = ⟨b, o + i * Tryz.prog.cellsOf e + j, none⟩ := by
        unfold Addr.add
        split <;> split <;> simp_all
      rw [hadd] at h2
      exact h2
    have hex : ∀ m, m ≤ len → ∃ ds : List α, ds.length = m ∧ (ds.map μ).sum + 26 * m ≤ 26 * Rows.uptoBulkAll ((elems.map (·.1)).take m) ∧ ∀ k (hk : k < ds.length), ∃ b o vs, some a = some ⟨b, o, none⟩ ∧ b ∉ ([] : List Nat) ∧ vs.length = Tryz.prog.cellsOf e ∧ CellsAt w b (o + k * Tryz.prog.cellsOf e) vs ∧ R [] w vs ds[k] := by
      intro m
      induction m with
      | zero => exact fun _ => ⟨[], rfl, by simp, fun k hk => by simp at hk⟩
      | succ m ih =>
        intro hm
        obtain ⟨ds, hl, hmu, hds⟩ := ih (by omega)
        obtain ⟨b, o, vs, d, ha, h1, h2, h3, h4⟩ := key m (by omega)
        have hme : m < elems.length := by omega
        have h4 := h4 hme
        have h5 : (elems.map (·.1)).take (m + 1) = (elems.map (·.1)).take m ++ [(elems[m]).1] := by rw [List.take_succ_eq_append_getElem (by simpa using hme)]; simp
        refine ⟨ds ++ [d], by simp [hl], by rw [h5, LB, List.map_append, List.sum_append]; simp only [List.map_cons, List.map_nil, List.sum_cons, List.sum_nil]; omega, fun k hk => ?_⟩
        by_cases hkm : k < ds.length
        · rw [List.getElem_append_left hkm]; exact hds k hkm
        · obtain rfl : k = m := by simp at hk; omega
          rw [List.getElem_append_right (by omega)]
          simp only [hl, Nat.sub_self, List.getElem_cons_zero]
          exact ⟨b, o, vs, by rw [ha], by simp, h1, h2, h3⟩
    obtain ⟨ds, hl, hmu, hds⟩ := hex len (Nat.le_refl _)
    refine ⟨ds, ⟨.slice (some a) len cap, rfl, ⟨some a, cap, by rw [hl], by omega, hds⟩, ?_⟩, ?_⟩
    case refine_2 =>
      have h6 := LA (elems.map (·.1)) len
      simp only [Rows.uptoBulk]
      omega
    rw [hl, ← hel]
    exact Nat.le_trans (Nat.mul_le_mul_right _ (Nat.le_add_right _ _)) hwl
theorem GT (F : Nat) {t : TypeId} (ht : Tryz.prog.underlying t = some .string) : oD F t (fun _ _ vs s => vs = [.string s] ∧ s.size ≤ 1048576) (fun s => s.size) := by
  intro H enc w fuel cs x hfu h hw hbk
  obtain ⟨s, hcs, rfl, _⟩ := DataW.trod_string ht h
  have : s.data.toList.length = s.size := Array.length_toList
  simp only [Rows.uptoBulk] at hbk ⊢
  exact ⟨s, ⟨hcs, by omega⟩, by omega⟩
theorem oH {α H : Type} {F : Nat} {t T off m : Nat} {fs : Array Field} {enc : TypeId × Value → H} {w : World} {fuel : Nat} {cs : List Value} {x : DataW H × List MemPlace} (ht : Tryz.prog.underlying t = some (.struct fs)) (hfu : fuel ≤ F + 1)
    (h : DataW.trod enc Tryz.prog w 0 (fun _ => true) true fuel t cs = some x) (hwt : ∀ n, n ∈ x.1.weights Tryz.prog t → n ≤ reachBytes) (hw : Rows.uptoBulk x.1 ≤ 1048576) (i : Nat) {f : Field} (hf : fs[i]? = some f) (hT : f.type = T) (ho : f.offset = off) (hm : Tryz.prog.cellsOf T = m) {R : Rel α} {μ : α → Nat} (hR : oD F T R μ) :
    ∃ d p, R [] w ((cs.drop off).take m) d ∧ μ d + 26 ≤ 26 * Rows.uptoBulk p ∧ sD x.1 i = some p := by
  subst hT ho hm
  obtain ⟨xs, n, rfl, rfl, hl, hlen, hx⟩ := DataW.trod_struct ht h
  have hi : i < xs.length := by rw [hlen]; exact (Array.getElem?_eq_some_iff.1 hf).1
  have h1 := hx i f hf
  rw [List.getElem?_eq_getElem hi] at h1
  have hb : Rows.uptoBulk (xs[i]).1 ≤ 1048576 := by
    simp only [Rows.uptoBulk] at hw
    have := zZ (d := (xs[i]).1) (l := xs.map (·.1)) (List.mem_map.2 ⟨xs[i], List.getElem_mem hi, rfl⟩)
    omega
  obtain ⟨d, h2, h3⟩ := hR H enc w n _ _ (by omega) h1 (fun k hk => hwt k (rS ht hf (by simp [hi]) k hk)) hb
  exact ⟨d, _, h2, h3, by simp [sD, hi]⟩
theorem opens51 : Opens Tryz.prog 56 RRg := by
  intro H enc w fuel cs x h hw
  obtain ⟨a, ea, _⟩ := jE (T := 21) (off := 0) (m := 1) Tryz.underlying56 h hw 0 rfl rfl rfl (by kernel_rfl) (lT Tryz.underlying21)
  obtain ⟨b, eb, _⟩ := jE (T := 21) (off := 1) (m := 1) Tryz.underlying56 h hw 1 rfl rfl rfl (by kernel_rfl) (lT Tryz.underlying21)
  have hl := zF Tryz.underlying56 h
  rw [show Tryz.prog.cellsOf 56 = 2 from by kernel_rfl] at hl
  match cs, hl with
  | [c0, c1], _ =>
    simp at ea eb
    subst ea eb
    exact ⟨(a, b), rfl⟩
theorem IN : ∀ l : List Rx, kms l = (l.map Rx.ms).sum
  | [] => rfl
  | x :: l => by rw [kms, IN l, List.map_cons, List.sum_cons]
theorem IG : ∀ F, oD F 27 (RRx F) Rx.ms
  | 0 => fun H enc w fuel cs x hfu h hw hbk => by
    obtain ⟨xs, n, h0, -⟩ := DataW.trod_struct Tryz.underlying27 h
    omega
  | F + 1 => fun H enc w fuel cs x hfu h hw hbk => by
    have hk : oD F 25 (RSlB 9 112 (RRx F)) (fun ds => (ds.map Rx.ms).sum + 26 * ds.length) := sX Tryz.underlying25 (by kernel_rfl) (by kernel_rfl) (by decide) (IG F)
    have hr : oD F 56 RRg (fun _ => 0) := fun H enc w fuel cs x hfu h hw hbk => by
      obtain ⟨d, hd⟩ := opens51 H enc w fuel cs x h hw
      exact ⟨d, hd, by have := OS x.1; simp only; omega⟩
    have hrs : oD F 24 (RSlB 2 8 RRg) (fun ds => (ds.map fun _ => 0).sum + 26 * ds.length) := sX Tryz.underlying24 (by kernel_rfl) (by kernel_rfl) (by decide) hr
    obtain ⟨d0, e0, _⟩ := jE (T := 3) (off := 0) (m := 1) Tryz.underlying27 h hw 0 rfl rfl rfl (by kernel_rfl) (lT Tryz.underlying3)
    obtain ⟨d1, e1, _⟩ := jE (T := 21) (off := 1) (m := 1) Tryz.underlying27 h hw 1 rfl rfl rfl (by kernel_rfl) (lT Tryz.underlying21)
    obtain ⟨d2, p2, ⟨v2, e2, h2, hl2⟩, m2, q2⟩ := oH (T := 24) (off := 2) (m := 1) Tryz.underlying27 hfu h hw hbk 2 rfl rfl rfl (by kernel_rfl) hrs
    obtain ⟨d3, e3, _⟩ := jE (T := 3) (off := 3) (m := 1) Tryz.underlying27 h hw 3 rfl rfl rfl (by kernel_rfl) (lT Tryz.underlying3)
    obtain ⟨d4, e4, _⟩ := jE (T := 3) (off := 4) (m := 1) Tryz.underlying27 h hw 4 rfl rfl rfl (by kernel_rfl) (lT Tryz.underlying3)
    obtain ⟨d5, e5⟩ := jE (T := 4) (off := 5) (m := 1) Tryz.underlying27 h hw 5 rfl rfl rfl (by kernel_rfl) (GS Tryz.underlying4)
    obtain ⟨d6, e6, _⟩ := jE (T := 3) (off := 6) (m := 1) Tryz.underlying27 h hw 6 rfl rfl rfl (by kernel_rfl) (lT Tryz.underlying3)
    obtain ⟨d7, p7, ⟨e7, hl7⟩, m7, q7⟩ := oH (T := 9) (off := 7) (m := 1) Tryz.underlying27 hfu h hw hbk 7 rfl rfl rfl (by kernel_rfl) (GT F Tryz.underlying9)
    obtain ⟨d8, p8, ⟨v8, e8, h8, hl8⟩, m8, q8⟩ := oH (T := 25) (off := 8) (m := 1) Tryz.underlying27 hfu h hw hbk 8 rfl rfl rfl (by kernel_rfl) hk
    replace e5 : (cs.drop 5).take 1 = [Value.bool d5] := e5
    have hl := zF Tryz.underlying27 h
    rw [show Tryz.prog.cellsOf 27 = 9 from by kernel_rfl] at hl
    have hb3 := HJ q2 q7 q8
    match cs, hl with
    | [c0, c1, c2, c3, c4, c5, c6, c7, c8], _ =>
      simp at e0 e1 e2 e3 e4 e5 e6 e7 e8
      subst e0 e1 e2 e3 e4 e5 e6 e7 e8
      refine ⟨.mk d0 d1 d2 d3 d4 d5 d6 d7 d8, ⟨_, _, rfl, h2, h8, by show d2.length ≤ _; omega, by show d7.size ≤ _; omega, by show d8.length ≤ _; omega⟩, ?_⟩
      rw [Rx.ms, IN]
      try simp only at m2 m7 m8
      omega
abbrev laidL : List (String × DataW Unit) := [("math/bits.deBruijn32tab", Rows.laid_math_bits_deBruijn32tab), ("math/bits.deBruijn64tab", Rows.laid_math_bits_deBruijn64tab), ("internal/strconv.uint64pow10", Rows.laid_internal_strconv_uint64pow10)]
theorem own : ownKnob Tryz.prog.godebug = none := by kernel_rfl
theorem laidOut : laidOutB Tryz.prog = true := by kernel_rfl
theorem NO : true = Tryz.pinned.checked.prog.looks [] := by kernel_rfl
theorem gw_of {W : World} (hL : laidMetH Tryz.prog laidL W) (hsh : W.ShapedOpen Tryz.prog) : Gw W := by
  refine ⟨Tryz.laysM143.s1_3 W hsh, ?_, ?_⟩
  · have h0 : laidMetH Tryz.prog [("math/bits.deBruijn64tab", Rows.laid_math_bits_deBruijn64tab)] W := by
      have := hL.filter (fun x => x.1 == "math/bits.deBruijn64tab")
      rw [show laidL.filter (fun x => x.1 == "math/bits.deBruijn64tab") = [("math/bits.deBruijn64tab", Rows.laid_math_bits_deBruijn64tab)] from by kernel_rfl] at this
      exact this
    have h1 : Lib.TabIs Tryz.prog W "math/bits.deBruijn64tab" .u8 (Lib.deBruijn64tab.map fun n : Nat => (n : Int)) := Lib.tabIs_of_head (rest := []) (g := gTz) (by kernel_rfl) (by kernel_rfl) Tryz.underlying205 Tryz.underlying5 (by kernel_rfl) (by kernel_rfl) h0
    intro k hk
    have h2 := h1.cell (show Tryz.prog.globalNamed "math/bits.deBruijn64tab" = some gTz by kernel_rfl) k (by simpa using (show k < Lib.deBruijn64tab.length from hk))
    rw [h2]
    have hl : k < Lib.deBruijn64tab.length := hk
    simp [List.getD_eq_getElem?_getD, hl]
  · have h0 : laidMetH Tryz.prog [("internal/strconv.uint64pow10", Rows.laid_internal_strconv_uint64pow10)] W := by
      have := hL.filter (fun x => x.1 == "internal/strconv.uint64pow10")
      rw [show laidL.filter (fun x => x.1 == "internal/strconv.uint64pow10") = [("internal/strconv.uint64pow10", Rows.laid_internal_strconv_uint64pow10)] from by kernel_rfl] at this
      exact this
    exact Lib.tabIs_of_head (rest := []) (g := 1) (by kernel_rfl) (by kernel_rfl) Tryz.underlying186 Tryz.underlying176 (by kernel_rfl) (by kernel_rfl) h0
def wW (l : List Value) : Obj → Obj
  | .cells _ t frozen => .cells l.toArray t frozen
  | o => o
noncomputable def uL (os : Os) : World :=
  { World.holding Tryz.prog os ⟨#[], #[], []⟩ with heap := (((World.holding Tryz.prog os ⟨#[], #[], []⟩).heap.modify 3 (wW (Lib.deBruijn64tab.map fun n : Nat => Value.int .u8 (n : Int)))).modify 1 (wW (Lib.pow10Tab.map fun n : Int => Value.int .u64 n))).modify 2 (wW (Lib.deBruijn32tab.map fun n : Nat => Value.int .u8 (n : Int))) }
end Go.Proofs.YtljadkcojnlioaaGreatDoor
namespace Go.Proofs.YtljadkcojnlioaaGreatDoor
open Go.Proofs
open Go.W Go.RowKit
attribute [local irreducible] Decidable.decide
theorem pS : eM Tryz.prog 133 := ⟨_, Tryz.func133, by kernel_rfl, by kernel_rfl⟩
theorem mX : eM Tryz.prog 142 := ⟨_, Tryz.func142, by kernel_rfl, by kernel_rfl⟩
theorem tP : eM Tryz.prog 144 := ⟨_, Tryz.func144, by kernel_rfl, by kernel_rfl⟩
theorem CE : eM Tryz.prog 145 := ⟨_, Tryz.func145, by kernel_rfl, by kernel_rfl⟩
theorem CD : eM Tryz.prog 146 := ⟨_, Tryz.func146, by kernel_rfl, by kernel_rfl⟩
theorem gP : eM Tryz.prog 147 := ⟨_, Tryz.func147, by kernel_rfl, by kernel_rfl⟩
def LetU (w w' : World) (v : Value) (o : Option (Int → Prop)) : Prop := ∃ a c ob l, v = .tuple #[.slice a l.length c, .bool o.isSome] ∧ OwnS w' 56 2 a l.length c (eN l) ob ∧ Ge w ob ∧ Vr l ∧ l.length ≤ 8 ∧ ∀ S, o = some S → ∀ c, InR c l ↔ S c
theorem LetOut.uni {w w' : World} {v : Value} {o : Option (Int → Prop)} (h : LetOut w w' v o) : LetU w w' v o := by
  rcases h with ⟨rfl, rfl⟩ | ⟨S, v', rfl, rfl, a, c, ob, l, rfl, h2, h3, h4, h5, h6⟩
  · exact ⟨none, 0, none, [], rfl, OwnS.nil _ _ _, Ge.nil _, (fun g hg => by cases hg), Nat.zero_le _, fun S h => by cases h⟩
  · exact ⟨a, c, ob, l, rfl, h2, h3, h4, h6, fun S' e => by cases e; exact h5⟩
theorem wI {α : Type} {o : Option α} (h : o.isSome = true) : ∃ x, o = some x := Option.isSome_iff_exists.1 h
theorem none_of {α : Type} {o : Option α} (h : (!o.isSome) = true) : o = none := by cases o with | none => rfl | some x => cases h
theorem iI {α : Type} {o : Option α} (h : o.isSome = false) : o = none := by cases o with | none => rfl | some x => cases h
theorem IW {s : ByteArray} {a b j : Nat} (h : 0 ≤ EE s a b j) : ∃ k, kP s a b s.size j = some k ∧ EE s a b j = (k : Int) - (j : Nat) ∧ j ≤ k ∧ k + 1 < s.size := by
  unfold EE at *
  cases hf : kP s a b s.size j with
  | none => rw [hf] at h; exact absurd h (show ¬ (0 : Int) ≤ -1 by omega)
  | some k =>
    obtain ⟨h1, h2, h3⟩ := (rI s a b s.size j (by omega)).1 k hf
    exact ⟨k, rfl, rfl, h1, h2.1⟩
theorem iV {s : ByteArray} {a b j : Nat} (h : ¬ 0 ≤ EE s a b j) : kP s a b s.size j = none := by
  unfold EE at h
  cases hf : kP s a b s.size j with
  | none => rfl
  | some k =>
    rw [hf] at h
    obtain ⟨h1, h2, h3⟩ := (rI s a b s.size j (by omega)).1 k hf
    exact absurd (show (0 : Int) ≤ (k : Int) - j by omega) h
section
variable {s : ByteArray} {i k j m : Nat} {S : Int → Prop} {r q : Int} {e : Int}
theorem it_cut (h1 : isB s i 91 ∧ isB s (i + 1) 58) (h2 : kP s 58 93 s.size (i + 2) = some k) (h3 : i + 2 < k ∧ sb s (i + 2) = 94) (h4 : jS (s.extract (i + 3) k) = some S) : kW s i = .ok (wD S, k + 2) := by unfold kW; rw [if_pos h1, h2]; show (if _ then _ else _) = _; rw [if_pos h3, h4]
theorem it_cutN (h1 : isB s i 91 ∧ isB s (i + 1) 58) (h2 : kP s 58 93 s.size (i + 2) = some k) (h3 : i + 2 < k ∧ sb s (i + 2) = 94) (h4 : jS (s.extract (i + 3) k) = none) : kW s i = .error 81 := by unfold kW; rw [if_pos h1, h2]; show (if _ then _ else _) = _; rw [if_pos h3, h4]
theorem it_nam (h1 : isB s i 91 ∧ isB s (i + 1) 58) (h2 : kP s 58 93 s.size (i + 2) = some k) (h3 : ¬ (i + 2 < k ∧ sb s (i + 2) = 94)) (h4 : jS (s.extract (i + 2) k) = some S) : kW s i = .ok (S, k + 2) := by unfold kW; rw [if_pos h1, h2]; show (if _ then _ else _) = _; rw [if_neg h3, h4]
theorem it_namN (h1 : isB s i 91 ∧ isB s (i + 1) 58) (h2 : kP s 58 93 s.size (i + 2) = some k) (h3 : ¬ (i + 2 < k ∧ sb s (i + 2) = 94)) (h4 : jS (s.extract (i + 2) k) = none) : kW s i = .error 81 := by unfold kW; rw [if_pos h1, h2]; show (if _ then _ else _) = _; rw [if_neg h3, h4]
theorem dZ (h : (isB s i 91 ∧ isB s (i + 1) 58) → kP s 58 93 s.size (i + 2) = none) : kW s i = oF s i := by
  unfold kW
  by_cases h1 : isB s i 91 ∧ isB s (i + 1) 58
  · rw [if_pos h1, h h1]
  · rw [if_neg h1]
theorem NT (h1 : i + 1 < s.size ∧ sb s i = 92) (h2 : yO (sb s (i + 1)) = some S) : oF s i = .ok (S, i + 2) := by unfold oF; rw [if_pos h1, h2]
theorem fJ (h : (i + 1 < s.size ∧ sb s i = 92) → yO (sb s (i + 1)) = none) : oF s i = kG s i := by
  unfold oF
  by_cases h1 : i + 1 < s.size ∧ sb s i = 92
  · rw [if_pos h1, h h1]
  · rw [if_neg h1]
theorem uG (h : mN s i = .error e) : kG s i = .error e := by unfold kG; rw [h]
theorem jY (h : mN s i = .ok (r, j)) (h2 : ¬ (isB s j 45 ∧ j + 1 < s.size ∧ sb s (j + 1) ≠ 93)) : kG s i = .ok (rgS r r, j) := by unfold kG; rw [h]; show (if _ then _ else _) = _; rw [if_neg h2]
theorem rE (h : mN s i = .ok (r, j)) (h2 : isB s j 45 ∧ j + 1 < s.size ∧ sb s (j + 1) ≠ 93) (h3 : mN s (j + 1) = .error e) : kG s i = .error e := by unfold kG; rw [h]; show (if _ then _ else _) = _; rw [if_pos h2, h3]
theorem uH (h : mN s i = .ok (r, j)) (h2 : isB s j 45 ∧ j + 1 < s.size ∧ sb s (j + 1) ≠ 93) (h3 : mN s (j + 1) = .ok (q, m)) (h4 : q < r) : kG s i = .error 81 := by unfold kG; rw [h]; show (if _ then _ else _) = _; rw [if_pos h2, h3]; show (if _ then _ else _) = _; rw [if_pos h4]
theorem uF (h : mN s i = .ok (r, j)) (h2 : isB s j 45 ∧ j + 1 < s.size ∧ sb s (j + 1) ≠ 93) (h3 : mN s (j + 1) = .ok (q, m)) (h4 : ¬ q < r) : kG s i = .ok (rgS r q, m) := by unfold kG; rw [h]; show (if _ then _ else _) = _; rw [if_pos h2, h3]; show (if _ then _ else _) = _; rw [if_neg h4]
end
theorem NJ {s : ByteArray} {a : Nat} (h : 0 < (dA s a).2) {t : Nat} (h1 : 1 ≤ t) (h2 : t < (dA s a).2) : 128 ≤ sb s (a + t) := by
  have ha : a < s.size := by
    rcases Nat.lt_or_ge a s.size with h3 | h3
    · exact h3
    · rw [qL h3] at h; cases h
  rcases gV s a ha with ⟨w, hw1, hw4, hws, hit, -⟩ | ⟨hn, -⟩
  · obtain ⟨e, -⟩ := mD hw1 hw4 hws hit
    rw [e] at h2
    replace h2 : t < w := h2
    match w, hw1, hw4, hit, h2 with
    | 1, _, _, _, h2 => omega
    | 2, _, _, hit, h2 =>
      have := (hit2 s a).1 hit
      obtain rfl : t = 1 := by omega
      omega
    | 3, _, _, hit, h2 =>
      have := (hit3 s a).1 hit
      obtain rfl | rfl : t = 1 ∨ t = 2 := by omega
      · omega
      · omega
    | 4, _, _, hit, h2 =>
      have := (hit4 s a).1 hit
      obtain rfl | rfl | rfl : t = 1 ∨ t = 2 ∨ t = 3 := by omega
      · omega
      · omega
      · omega
  · rw [rF hn] at h; cases h
theorem nF {s : ByteArray} {i k : Nat} (hb : Bd s i) (hik : i ≤ k) (hk : k < s.size) (ha : sb s k < 128) : Bd s k := by
  obtain ⟨N, -, hU, -, -⟩ := hb
  have key : ∀ m, m ≤ N → k < eI s m → ∃ n, n < N ∧ eI s n ≤ k ∧ k < eI s (n + 1) := by
    intro m
    induction m with
    | zero => intro _ h; exact absurd h (Nat.not_lt_zero _)
    | succ m ih =>
      intro hm h
      by_cases h1 : k < eI s m
      · exact ih (by omega) h1
      · exact ⟨m, hm, by omega, h⟩
  obtain ⟨n, h1, h2, h3⟩ := key N (Nat.le_refl _) (by rw [hU.1]; exact hk)
  rcases Nat.eq_or_lt_of_le h2 with e | e
  · exact ⟨N, n, hU, by omega, e⟩
  · have h4 := NJ (hU.2 n h1) (t := k - eI s n) (by omega) (by rw [eI] at h3; omega)
    rw [show eI s n + (k - eI s n) = k by omega] at h4
    omega
theorem kE (r q x : Int) : InR x [(r, q)] ↔ rgS r q x := by rw [kS]; exact Iff.rfl
theorem AO {s : ByteArray} {i j : Nat} {S : Int → Prop} (h : kW s i = .ok (S, j)) (hb : Bd s i) (hi : i < s.size) : Bd s j ∧ i < j := by
  have hrange : kG s i = .ok (S, j) → Bd s j ∧ i < j := fun h => by
    unfold kG at h
    cases h1 : mN s i with
    | error e => rw [h1] at h; cases h
    | ok x =>
      obtain ⟨lo, k⟩ := x
      obtain ⟨h2, h3, -⟩ := lF h1 hb hi
      rw [h1] at h
      replace h : (if isB s k 45 ∧ k + 1 < s.size ∧ sb s (k + 1) ≠ 93 then (match mN s (k + 1) with | .error e => .error e | .ok (hi, k) => if hi < lo then .error 81 else .ok (rgS lo hi, k)) else .ok (rgS lo lo, k) : PR) = .ok (S, j) := h
      split at h
      · rename_i h4
        have h5 := h4.1.asc (by decide) h2
        cases h6 : mN s (k + 1) with
        | error e => rw [h6] at h; cases h
        | ok y =>
          obtain ⟨hi2, m⟩ := y
          obtain ⟨h7, h8, -⟩ := lF h6 h5 h4.2.1
          rw [h6] at h
          replace h : (if hi2 < lo then .error 81 else .ok (rgS lo hi2, m) : PR) = .ok (S, j) := h
          split at h
          · cases h
          · cases h; exact ⟨h7, by omega⟩
      · cases h; exact ⟨h2, h3⟩
  have hrest : oF s i = .ok (S, j) → Bd s j ∧ i < j := fun h => by
    unfold oF at h
    split at h
    · rename_i h1
      cases h2 : yO (sb s (i + 1)) with
      | none => rw [h2] at h; exact hrange h
      | some S' =>
        rw [h2] at h
        cases h
        have h3 := (hb.asc hi (by omega)).1
        refine ⟨(h3.asc h1.1 ?_).1, by omega⟩
        rcases Nat.lt_or_ge (sb s (i + 1)) 128 with h4 | h4
        · exact h4
        · rw [uK (by omega)] at h2; cases h2
    · exact hrange h
  unfold kW at h
  split at h
  · rename_i h1
    cases h2 : kP s 58 93 s.size (i + 2) with
    | none => rw [h2] at h; exact hrest h
    | some k =>
      rw [h2] at h
      obtain ⟨h3, h4, -⟩ := (rI s 58 93 s.size (i + 2) (by omega)).1 k h2
      have hk : ∃ S', (.ok (S', k + 2) : PR) = .ok (S, j) := by
        replace h : (if i + 2 < k ∧ sb s (i + 2) = 94 then (match jS (s.extract (i + 3) k) with | none => .error 81 | some S => .ok (wD S, k + 2)) else (match jS (s.extract (i + 2) k) with | none => .error 81 | some S => .ok (S, k + 2)) : PR) = .ok (S, j) := h
        split at h
        · split at h
          · cases h
          · exact ⟨_, h⟩
        · split at h
          · cases h
          · exact ⟨_, h⟩
      obtain ⟨S', h5⟩ := hk
      cases h5
      have h6 : Bd s k := nF hb (by omega) (by have := h4.1; omega) (by have := h4.2.1; omega)
      exact ⟨isB.asc (b := 93) ⟨h4.1, h4.2.2⟩ (by decide) (isB.asc (b := 58) ⟨by have := h4.1; omega, h4.2.1⟩ (by decide) h6), by omega⟩
  · exact hrest h
theorem cut_iff {s : ByteArray} {i k : Nat} (hk : k ≤ s.size) : (Pre (s.extract i k) (ByteArray.mk #[94]) ↔ i < k ∧ sb s i = 94) ∧ (i < k → (s.extract i k).extract (ByteArray.mk #[94]).size (s.extract i k).size = s.extract (i + 1) k) := by
  have hns := gI (s := s) (a := i) (b := k) hk
  constructor
  · rw [MJ]
    constructor
    · rintro ⟨h1, h2⟩
      rw [hns] at h1
      rw [fK hk (by omega)] at h2
      exact ⟨by omega, h2⟩
    · rintro ⟨h1, h2⟩
      exact ⟨by rw [hns]; omega, by rw [fK hk (by omega)]; exact h2⟩
  · intro h1
    show (s.extract i k).extract 1 (s.extract i k).size = _
    apply yE
    · rw [gI (Nat.le_refl _), hns, gI hk]; omega
    · intro j hj
      rw [gI (Nat.le_refl _), hns] at hj
      rw [fK (Nat.le_refl _) (by rw [hns]; omega), fK hk (by omega), fK hk (by omega), Nat.add_assoc]
theorem IQ {w : World} {b : Nat} {s : ByteArray} {st : PS} {a : Option Addr} {c : Nat} {ob : Option Nat} (hR : RdAt w b s st a c ob) (hs : s.size ≤ 1000000) (hlt : st.pos < s.size) (hb : Bd s st.pos) (hG : Glb w) :
    Calls Tryz.prog 129 #[.pointer (some ⟨b, 0, none⟩)] w (RetP (fun v w' => ∃ S j, kW s st.pos = .ok (S, j) ∧ yJ w w' v S 16 ∧ Evo [b] w w' ∧ RdAt w' b s (iG st j) a c ob) (fun v w' => ∃ e, kW s st.pos = .error e ∧ v = flt e ∧ Evo [b] w w')) := by
  have hap := hR.ap; have hgb : nO ∉ [b] := fun h => hR.glb hG (List.mem_singleton.1 h).symm
  have hle : st.pos ≤ s.size := by omega
  have hrs := gI (s := s) (a := st.pos) (Nat.le_refl s.size); have e0 : sb (s.extract st.pos s.size) 0 = sb s st.pos := hI (by omega); refine bL (N := 126) Tryz.func129 rfl rfl rfl ?_; refine aF (aC (aM (aD (aA (aF ?_))))); refine fN (by kernel_rfl) (by kernel_rfl) ?_; refine aW rfl (fun _ hq2 => bM rfl) ?_; refine aW rfl (fun _ hq2 => aR rfl) ?_; refine aW rfl (fun _ hq2 => aE rfl dO) ?_; refine aW rfl (fun _ hq2 => aI rfl cR (aJ (hq2.blk0 hR.blk) rfl)) ?_; refine aW rfl (fun _ hq2 => bM rfl) ?_; refine aW rfl (fun _ hq2 => aR rfl) ?_; refine aW rfl (fun _ hq2 => aE rfl bK) ?_; refine aW rfl (fun _ hq2 => aI rfl aU (aJ (hq2.blk0 hR.blk) rfl)) ?_; refine aW rfl (fun _ hq2 => gX (l := st.pos) rfl rfl Tryz.underlying9 rfl hle) ?_; refine aW rfl (fun _ hq2 => eE rfl) ?_; refine fR (fun wq1 hq2 => aA ?_); have hE3 := (Evo.refl [b] w).then hq2; have hB4 := hq2.blk0 hR.blk; have hO5 := hR.own.evo0 hq2; refine aF (aF (aC (aH ?_))); refine aN (vs := [_, _]) mX rfl (wO (s.extract st.pos s.size) (ByteArray.mk #[91, 58]) (by omega) (show 2 ≤ 140737488355328 by omega)) rfl ?_; rintro _ w6 ⟨rfl, hw7⟩; have hE8 := hE3.then hw7; have hB9 := hw7.blk0 hB4; have hO10 := hO5.evo0 hw7; refine aD (aA (bJ rfl (fun hc23 => ?_) (fun hc23 => ?_)))
  ·skip
   have hh2 := (mM hle).1 hc23; refine aF (aC (aH ?_))
   refine aB rfl (BC (l := 2) rfl rfl Tryz.underlying9 rfl (by have := hh2.2.1; omega) (OE hle)) ?_
   refine aN (vs := [_, _]) tP rfl (IR s 58 93 (st.pos + 2) (by have := hh2.2.1; omega) hs (hG.evo hE8 hgb)) rfl ?_
   rintro _ w11 ⟨rfl, hw12⟩; have hE13 := hE8.then hw12; have hB14 := hw12.blk0 hB9; have hO15 := hO10.evo0 hw12; refine aM (aD (aA (aF (aC (aH (aB rfl (fD rfl rfl) ?_)))))); refine aD (aA (bJ rfl (fun hc28 => ?_) (fun hc28 => ?_)))
   ·skip
    obtain ⟨k, hk, hfk, hk2, hk3⟩ := IW hc28; rw [hfk]
    have e33 : (s.extract st.pos s.size).extract 2 (k - st.pos) = s.extract (st.pos + 2) k := by rw [xS (by omega) (by omega), show st.pos + (k - st.pos) = k by omega]
    have hns := gI (s := s) (a := st.pos + 2) (b := k) (by omega); have hcut := cut_iff (s := s) (i := st.pos + 2) (k := k) (by omega); refine aF (aC (aH (aH ?_))); refine aB rfl (bF rfl rfl (by omega) (by omega)) ?_; refine aB rfl (qR (l := 2) (h := k - st.pos) rfl rfl rfl Tryz.underlying9 rfl (by omega) (by omega) (by omega) e33) ?_; refine aN (vs := [_, _]) CE rfl (cut_ok (s.extract (st.pos + 2) k) (ByteArray.mk #[94]) (by omega) (show 1 ≤ 140737488355328 by omega)) rfl ?_; rintro _ w16 ⟨rfl, hw17⟩; have hE18 := hE13.then hw17; have hB19 := hw17.blk0 hB14; have hO20 := hO15.evo0 hw17
    generalize hnm : (if Pre (s.extract (st.pos + 2) k) (ByteArray.mk #[94]) then (s.extract (st.pos + 2) k).extract (ByteArray.mk #[94]).size (s.extract (st.pos + 2) k).size else s.extract (st.pos + 2) k) = nm
    refine aH (aB rfl (dC rfl rfl) ?_); refine aB rfl (dC rfl rfl) ?_; refine aM (aM (aD (aA (aF (aC (aH (aN (vs := [_]) CD rfl (NK nm) rfl ?_))))))); rintro rv w21 ⟨hL, hw22⟩; obtain ⟨a1, c1, ob1, l1, rfl, hO1, hg1, hv1, hl1, hS1⟩ := hL.uni; have hA23 := Apart.fresh (Lt.blk hB19) hg1; have hG25 := Ge.fresh hE18 hg1; have hE26 := hE18.then hw22; have hB27 := hw22.blk0 hB19; have hO28 := hO20.evo0 hw22; refine aH (aB rfl (dC rfl rfl) ?_); refine aB rfl (dC rfl rfl) ?_; refine aM (aM (aD (aA (aF (aF (aC (aH (aB rfl (eO rfl) ?_)))))))); refine aD (aA (fB rfl (fun hc43 => ?_) (fun hc43 => ?_)))
    ·skip
     refine aC (cH (vs := [_]) dD rfl (eV 81) rfl ?_ ?_)
     ·skip
      intro pv wp hpp; obtain ⟨rfl, hpw⟩ := hpp; have hno := none_of hc43; refine And.intro rfl ⟨_, rfl, _, ?_, rfl, (hE26).then hpw⟩
      by_cases hP : Pre (s.extract (st.pos + 2) k) (ByteArray.mk #[94])
      · have h9 := hcut.1.1 hP; rw [if_pos hP, hcut.2 h9.1] at hnm; subst hnm; exact it_cutN hh2 hk h9 hno
      · rw [if_neg hP] at hnm; subst hnm; exact it_namN hh2 hk (fun h => hP (hcut.1.2 h)) hno
     intro _ _ hF; exact hF.elim
    obtain ⟨S1, hS1'⟩ := wI (by simpa using hc43); refine bA (aA (aF (aC (aH (aB rfl (aR rfl) (aB rfl (aE rfl bK) (aB rfl (aI rfl aU (aJ hB27 rfl)) (aH ?_)))))))); refine aB rfl (bF rfl rfl (by omega) (by omega)) ?_; refine aB rfl (JD (r := ((k + 2 : Nat) : Int)) rfl rfl (by omega) (by omega) (by omega)) ?_; refine aB rfl (aR rfl) (aB rfl (aE rfl bK) (bN rfl rfl (rfl) cB hB27 rfl fun w31 hB32 hw33 => ?_)); have hE34 := hE26.step hw33 (fun y hy => .inl hy); have hO35 := hO28.evo hw33 hap.symm.own1; have hO36 := hO1.evo hw33 hA23.symm.own1
    try simp only [dB, Nat.reduceAdd] at hB32
    refine aD (aA (aF (aF (aC (aH (aD (aA (bJ rfl (fun hc54 => ?_) (fun hc54 => ?_)))))))))
    ·skip
     refine aC (aH ?_); refine aN (vs := [_]) kL rfl (lV hO36 hv1 (by omega) (hS1 S1 hS1')) rfl ?_; rintro rv w37 hR1; have hV9 := hE34; have hw38 := hR1.evo; have hE39 := hE34.then hw38; have hB40 := hw38.blk0 hB32; have hO41 := hO35.evo0 hw38; refine aM (aD (aA (aF (aC (aH (aM (aD (aA (aQ (aO (cE (aK rfl rfl ?_)))))))))))); have h9 := hcut.1.1 hc54; rw [if_pos hc54, hcut.2 h9.1] at hnm; subst hnm; exact ⟨_, _, it_cut hh2 hk h9 hS1', rD (hR1.set hV9) (by omega), hE39, ⟨hB40, hO41, hR.ne⟩⟩
    refine bA (aA (aF (aC (aH (aM (aD (aA (aQ (aO (cE (aK rfl rfl ?_))))))))))); rw [if_neg hc54] at hnm; subst hnm; exact ⟨_, _, it_nam hh2 hk (fun h => hc54 (hcut.1.2 h)) hS1', ⟨_, _, _, _, rfl, hO36, hG25, hv1, hS1 S1 hS1', by omega⟩, hE34, ⟨hB32, hO35, hR.ne⟩⟩
   refine bA (aA (aF (aF (aC (aH (aB rfl (cX rfl Tryz.underlying9 rfl) ?_)))))); refine aB rfl (eZ rfl rfl) ?_; refine aH (aX (t := 61) rfl (fun hs61 => ?_) (fun hs61 => ?_))
   ·skip
    have e1 : sb (s.extract st.pos s.size) 1 = sb s (st.pos + 1) := hI (by omega); refine aP (aH (aP ?_)); refine aB rfl (fZ (n := 0) rfl rfl Tryz.underlying9 rfl (by omega) e0) ?_; refine aP (aB rfl (bC rfl rfl) ?_); refine bD (aD (aA (bJ rfl (fun hc65 => ?_) (fun hc65 => ?_))))
    ·skip
     refine aF (aC (aH ?_)); refine aB rfl (fZ (n := 1) rfl rfl Tryz.underlying9 rfl (by omega) e1) ?_; refine aN (vs := [_]) pS rfl (pL (sb s (st.pos + 1)) (jB s _)) rfl ?_; rintro rv w43 ⟨hL, hw44⟩; obtain ⟨a1, c1, ob1, l1, rfl, hO1, hg1, hv1, hl1, hS1⟩ := hL.uni; have hA45 := Apart.fresh (Lt.blk hB14) hg1; have hG47 := Ge.fresh hE13 hg1; have hE48 := hE13.then hw44; have hB49 := hw44.blk0 hB14; have hO50 := hO15.evo0 hw44; refine aH (aB rfl (dC rfl rfl) ?_); refine aB rfl (dC rfl rfl) ?_; refine aM (aM (aD (aA (aF (aC (aH (aD (aA (fB rfl (fun hc72 => ?_) (fun hc72 => ?_))))))))))
     ·skip
      obtain ⟨S1, hS1'⟩ := wI hc72; refine aF (aC (aH (aB rfl (aR rfl) (aB rfl (aE rfl bK) (aB rfl (aI rfl aU (aJ hB49 rfl)) ?_))))); refine aB rfl (bF rfl rfl (by omega) (by omega)) ?_; refine aB rfl (aR rfl) (aB rfl (aE rfl bK) (bN rfl rfl (rfl) cB hB49 rfl fun w51 hB52 hw53 => ?_)); have hE54 := hE48.step hw53 (fun y hy => .inl hy); have hO55 := hO50.evo hw53 hap.symm.own1; have hO56 := hO1.evo hw53 hA45.symm.own1
      try simp only [dB, Nat.reduceAdd] at hB52
      refine aD (aA (aF (aC (aH (aM (aD (aA (aQ (aO (cE (aK rfl rfl ?_))))))))))); exact ⟨_, _, (dZ (fun _ => iV hc28)).trans (NT ⟨by omega, by omega⟩ hS1'), ⟨_, _, _, _, rfl, hO56, hG47, hv1, hS1 S1 hS1', by omega⟩, hE54, ⟨hB52, hO55, hR.ne⟩⟩
     refine bA (aA (aF (aC (aH (cH (vs := [_]) gP rfl (jD ⟨hB49, hO50, hR.ne⟩ hs hlt hb) rfl ?_ ?_)))))
     ·skip
      intro pv wp hpp; obtain ⟨hpe, rfl, hpw⟩ := hpp; exact And.intro rfl ⟨_, rfl, _, (dZ (fun _ => iV hc28)).trans ((fJ (fun _ => iI hc72)).trans (uG hpe)), rfl, (hE48).step hpw (fun y hy => .inl hy)⟩
     rintro _ w57 ⟨lo, j, hx, rfl, hw58, hR3⟩; have hE59 := hE48.step hw58 (fun y hy => .inl hy); obtain ⟨hbj, hij, hlo0, hlo1⟩ := lF hx hb hlt; have hpj : (iG st j).pos = j := rfl; have hbjl := hbj.le; have hrs2 := gI (s := s) (a := j) (Nat.le_refl s.size); refine aM (aD (aA (aF ?_))); refine fN (by kernel_rfl) (by kernel_rfl) ?_; refine aW rfl (fun _ hq62 => bM rfl) ?_; refine aW rfl (fun _ hq62 => aR rfl) ?_; refine aW rfl (fun _ hq62 => aE rfl dO) ?_; refine aW rfl (fun _ hq62 => aI rfl cR (aJ (hq62.blk0 hR3.blk) rfl)) ?_; refine aW rfl (fun _ hq62 => bM rfl) ?_; refine aW rfl (fun _ hq62 => aR rfl) ?_; refine aW rfl (fun _ hq62 => aE rfl bK) ?_; refine aW rfl (fun _ hq62 => aI rfl aU (aJ (hq62.blk0 hR3.blk) rfl)) ?_; refine aW rfl (fun _ hq62 => gX (l := j) rfl rfl Tryz.underlying9 rfl hbj.le) ?_; refine aW rfl (fun _ hq62 => eE rfl) ?_; refine fR (fun wq61 hq62 => aA ?_); have hE63 := hE59.then hq62; have hB65 := hq62.blk0 hR3.blk; have hO66 := hR3.own.evo0 hq62; refine aF (aF (aC (aH (aB rfl (cX rfl Tryz.underlying9 rfl) ?_)))); refine aB rfl (dF rfl rfl) ?_; refine aH (aX (t := 95) rfl (fun hs95 => ?_) (fun hs95 => ?_))
     ·skip
      refine aG (aG (aG (bD (aH (aG (aG (aG (bD (aD (aA (cW rfl ?_))))))))))); refine aF (aC (aH (aH (bP (vs := [_, _]) rfl cN rfl rfl rfl rfl fun b67 w68 hO69 hs70 hw71 => ?_)))); have hE76 := hE63.then hw71; have hB78 := hw71.blk0 hB65; have hO79 := hO66.evo0 hw71; refine aN (vs := [_]) cO rfl (dY (es := [lo, lo]) hO69 (by simp)) rfl ?_; rintro _ w80 ⟨a1, c1, ob1, rfl, hO1, hg1, hw81⟩; have hG86 := Ge.fresh hE76 hg1; have hE87 := hE76.then hw81; have hB89 := hw81.blk0 hB78; have hO90 := hO79.evo0 hw81; refine aM (aD (aA (aQ (aO (cE (aK rfl rfl ?_))))))
      exact ⟨_, _, (dZ (fun _ => iV hc28)).trans ((fJ (fun _ => iI hc72)).trans (jY hx (by rintro ⟨⟨h1, h2⟩, h3, h4⟩; omega))), ⟨_, _, _, [(lo, lo)], rfl, hO1, hG86, (fun g hg => by rw [List.mem_singleton.1 hg]; exact ⟨hlo0, Int.le_refl _, hlo1⟩), kE lo lo, by simp⟩, hE87, ⟨hB89, hO90, hR.ne⟩⟩
     have f0 : sb (s.extract j s.size) 0 = sb s j := hI (by omega); have f1 : sb (s.extract j s.size) 1 = sb s (j + 1) := hI (by omega); refine aP (aH (aP ?_)); refine aB rfl (fZ (n := 0) rfl rfl Tryz.underlying9 rfl (by omega) f0) ?_; refine aP (aB rfl (gJ rfl rfl) ?_); refine aV (aH (aX (t := 100) rfl (fun hs100 => ?_) (fun hs100 => ?_)))
     ·skip
      refine aG (aG (aG (bD (aD (aA (cW rfl ?_)))))); refine aF (aC (aH (aH (bP (vs := [_, _]) rfl cN rfl rfl rfl rfl fun b92 w93 hO94 hs95 hw96 => ?_)))); have hE101 := hE63.then hw96; have hB103 := hw96.blk0 hB65; have hO104 := hO66.evo0 hw96; refine aN (vs := [_]) cO rfl (dY (es := [lo, lo]) hO94 (by simp)) rfl ?_; rintro _ w105 ⟨a1, c1, ob1, rfl, hO1, hg1, hw106⟩; have hG111 := Ge.fresh hE101 hg1; have hE112 := hE101.then hw106; have hB114 := hw106.blk0 hB103; have hO115 := hO104.evo0 hw106; refine aM (aD (aA (aQ (aO (cE (aK rfl rfl ?_))))))
      exact ⟨_, _, (dZ (fun _ => iV hc28)).trans ((fJ (fun _ => iI hc72)).trans (jY hx (by rintro ⟨⟨h1, h2⟩, h3, h4⟩; omega))), ⟨_, _, _, [(lo, lo)], rfl, hO1, hG111, (fun g hg => by rw [List.mem_singleton.1 hg]; exact ⟨hlo0, Int.le_refl _, hlo1⟩), kE lo lo, by simp⟩, hE112, ⟨hB114, hO115, hR.ne⟩⟩
     refine aP (aH (aP ?_)); refine aB rfl (fZ (n := 1) rfl rfl Tryz.underlying9 rfl (by omega) f1) ?_; refine aP (aB rfl (bC rfl rfl) ?_); refine aV (aD (aA (bJ rfl (fun hc104 => ?_) (fun hc104 => ?_))))
     ·skip
      refine aF (aC (aH (aH (bP (vs := [_, _]) rfl cN rfl rfl rfl rfl fun b117 w118 hO119 hs120 hw121 => ?_)))); have hE126 := hE63.then hw121; have hB128 := hw121.blk0 hB65; have hO129 := hO66.evo0 hw121; refine aN (vs := [_]) cO rfl (dY (es := [lo, lo]) hO119 (by simp)) rfl ?_; rintro _ w130 ⟨a1, c1, ob1, rfl, hO1, hg1, hw131⟩; have hG136 := Ge.fresh hE126 hg1; have hE137 := hE126.then hw131; have hB139 := hw131.blk0 hB128; have hO140 := hO129.evo0 hw131; refine aM (aD (aA (aQ (aO (cE (aK rfl rfl ?_))))))
      exact ⟨_, _, (dZ (fun _ => iV hc28)).trans ((fJ (fun _ => iI hc72)).trans (jY hx (by rintro ⟨⟨h1, h2⟩, h3, h4⟩; omega))), ⟨_, _, _, [(lo, lo)], rfl, hO1, hG136, (fun g hg => by rw [List.mem_singleton.1 hg]; exact ⟨hlo0, Int.le_refl _, hlo1⟩), kE lo lo, by simp⟩, hE137, ⟨hB139, hO140, hR.ne⟩⟩
     have hdash : isB s j 45 ∧ j + 1 < s.size ∧ sb s (j + 1) ≠ 93 := ⟨⟨by omega, by omega⟩, by omega, by omega⟩; have hbj1 := hdash.1.asc (by decide) hbj; refine bA (aA (aF (aC (aH (aB rfl (aR rfl) (aB rfl (aE rfl bK) (aB rfl (aI rfl aU (aJ hB65 rfl)) ?_))))))); refine aB rfl (bF rfl rfl (by omega) (by omega)) ?_; refine aB rfl (aR rfl) (aB rfl (aE rfl bK) (bN rfl rfl (rfl) cB hB65 rfl fun w142 hB143 hw144 => ?_)); have hE145 := hE63.step hw144 (fun y hy => .inl hy); have hO147 := hO66.evo hw144 hR3.ap.symm.own1
     try simp only [dB, Nat.reduceAdd] at hB143
     refine aD (aA (aF (aC (aH (cH (vs := [_]) gP rfl (jD (st := iG st (j + 1)) ⟨hB143, hO147, hR.ne⟩ hs hdash.2.1 hbj1) rfl ?_ ?_)))))
     ·skip
      intro pv wp hpp; obtain ⟨hpe, rfl, hpw⟩ := hpp; exact And.intro rfl ⟨_, rfl, _, (dZ (fun _ => iV hc28)).trans ((fJ (fun _ => iI hc72)).trans (rE hx hdash hpe)), rfl, (hE145).step hpw (fun y hy => .inl hy)⟩
     rintro _ w148 ⟨hi, m, hx2, rfl, hw149, hR4⟩; have hE150 := hE145.step hw149 (fun y hy => .inl hy); obtain ⟨hbm, hjm, hhi0, hhi1⟩ := lF hx2 hbj1 hdash.2.1; refine aM (aD (aA (aF (aF (aC (aH (aH (aB rfl (dF rfl rfl) ?_)))))))); refine aD (aA (bJ rfl (fun hc120 => ?_) (fun hc120 => ?_)))
     ·skip
      refine aC (cH (vs := [_]) dD rfl (eV 81) rfl ?_ ?_)
      ·skip
       intro pv wp hpp; obtain ⟨rfl, hpw⟩ := hpp; exact And.intro rfl ⟨_, rfl, _, (dZ (fun _ => iV hc28)).trans ((fJ (fun _ => iI hc72)).trans (uH hx hdash hx2 (by omega))), rfl, (hE150).then hpw⟩
      intro _ _ hF; exact hF.elim
     refine bA (aA (aF (aC (aH (aH (bP (vs := [_, _]) rfl cN rfl rfl rfl rfl fun b154 w155 hO156 hs157 hw158 => ?_)))))); have hE163 := hE150.then hw158; have hB165 := hw158.blk0 hR4.blk; have hO166 := hR4.own.evo0 hw158; refine aN (vs := [_]) cO rfl (dY (es := [lo, hi]) hO156 (by simp)) rfl ?_; rintro _ w167 ⟨a1, c1, ob1, rfl, hO1, hg1, hw168⟩; have hG173 := Ge.fresh hE163 hg1; have hE174 := hE163.then hw168; have hB176 := hw168.blk0 hB165; have hO177 := hO166.evo0 hw168; refine aM (aD (aA (aQ (cE (aK rfl rfl ?_)))))
     exact ⟨_, _, (dZ (fun _ => iV hc28)).trans ((fJ (fun _ => iI hc72)).trans (uF hx hdash hx2 (by omega))), ⟨_, _, _, [(lo, hi)], rfl, hO1, hG173, (fun g hg => by rw [List.mem_singleton.1 hg]; exact ⟨hlo0, by omega, hhi1⟩), kE lo hi, by simp⟩, hE174, ⟨hB176, hO177, hR.ne⟩⟩
    refine bA (aA (aF (aC (aH (cH (vs := [_]) gP rfl (jD ⟨hB14, hO15, hR.ne⟩ hs hlt hb) rfl ?_ ?_)))))
    ·skip
     intro pv wp hpp; obtain ⟨hpe, rfl, hpw⟩ := hpp; exact And.intro rfl ⟨_, rfl, _, (dZ (fun _ => iV hc28)).trans ((fJ (fun h => by omega)).trans (uG hpe)), rfl, (hE13).step hpw (fun y hy => .inl hy)⟩
    rintro _ w179 ⟨lo, j, hx, rfl, hw180, hR3⟩; have hE181 := hE13.step hw180 (fun y hy => .inl hy); obtain ⟨hbj, hij, hlo0, hlo1⟩ := lF hx hb hlt; have hpj : (iG st j).pos = j := rfl; have hbjl := hbj.le; have hrs2 := gI (s := s) (a := j) (Nat.le_refl s.size); refine aM (aD (aA (aF ?_))); refine fN (by kernel_rfl) (by kernel_rfl) ?_; refine aW rfl (fun _ hq183 => bM rfl) ?_; refine aW rfl (fun _ hq183 => aR rfl) ?_; refine aW rfl (fun _ hq183 => aE rfl dO) ?_; refine aW rfl (fun _ hq183 => aI rfl cR (aJ (hq183.blk0 hR3.blk) rfl)) ?_; refine aW rfl (fun _ hq183 => bM rfl) ?_; refine aW rfl (fun _ hq183 => aR rfl) ?_; refine aW rfl (fun _ hq183 => aE rfl bK) ?_; refine aW rfl (fun _ hq183 => aI rfl aU (aJ (hq183.blk0 hR3.blk) rfl)) ?_; refine aW rfl (fun _ hq183 => gX (l := j) rfl rfl Tryz.underlying9 rfl hbj.le) ?_; refine aW rfl (fun _ hq183 => eE rfl) ?_; refine fR (fun wq182 hq183 => aA ?_); have hE184 := hE181.then hq183; have hB185 := hq183.blk0 hR3.blk; have hO186 := hR3.own.evo0 hq183; refine aF (aF (aC (aH (aB rfl (cX rfl Tryz.underlying9 rfl) ?_)))); refine aB rfl (dF rfl rfl) ?_; refine aH (aX (t := 95) rfl (fun hs95 => ?_) (fun hs95 => ?_))
    ·skip
     refine aG (aG (aG (bD (aH (aG (aG (aG (bD (aD (aA (cW rfl ?_))))))))))); refine aF (aC (aH (aH (bP (vs := [_, _]) rfl cN rfl rfl rfl rfl fun b187 w188 hO189 hs190 hw191 => ?_)))); have hE195 := hE184.then hw191; have hB196 := hw191.blk0 hB185; have hO197 := hO186.evo0 hw191; refine aN (vs := [_]) cO rfl (dY (es := [lo, lo]) hO189 (by simp)) rfl ?_; rintro _ w198 ⟨a1, c1, ob1, rfl, hO1, hg1, hw199⟩; have hG203 := Ge.fresh hE195 hg1; have hE204 := hE195.then hw199; have hB205 := hw199.blk0 hB196; have hO206 := hO197.evo0 hw199; refine aM (aD (aA (aQ (aO (cE (aK rfl rfl ?_))))))
     exact ⟨_, _, (dZ (fun _ => iV hc28)).trans ((fJ (fun h => by omega)).trans (jY hx (by rintro ⟨⟨h1, h2⟩, h3, h4⟩; omega))), ⟨_, _, _, [(lo, lo)], rfl, hO1, hG203, (fun g hg => by rw [List.mem_singleton.1 hg]; exact ⟨hlo0, Int.le_refl _, hlo1⟩), kE lo lo, by simp⟩, hE204, ⟨hB205, hO206, hR.ne⟩⟩
    have f0 : sb (s.extract j s.size) 0 = sb s j := hI (by omega); have f1 : sb (s.extract j s.size) 1 = sb s (j + 1) := hI (by omega); refine aP (aH (aP ?_)); refine aB rfl (fZ (n := 0) rfl rfl Tryz.underlying9 rfl (by omega) f0) ?_; refine aP (aB rfl (gJ rfl rfl) ?_); refine aV (aH (aX (t := 100) rfl (fun hs100 => ?_) (fun hs100 => ?_)))
    ·skip
     refine aG (aG (aG (bD (aD (aA (cW rfl ?_)))))); refine aF (aC (aH (aH (bP (vs := [_, _]) rfl cN rfl rfl rfl rfl fun b208 w209 hO210 hs211 hw212 => ?_)))); have hE216 := hE184.then hw212; have hB217 := hw212.blk0 hB185; have hO218 := hO186.evo0 hw212; refine aN (vs := [_]) cO rfl (dY (es := [lo, lo]) hO210 (by simp)) rfl ?_; rintro _ w219 ⟨a1, c1, ob1, rfl, hO1, hg1, hw220⟩; have hG224 := Ge.fresh hE216 hg1; have hE225 := hE216.then hw220; have hB226 := hw220.blk0 hB217; have hO227 := hO218.evo0 hw220; refine aM (aD (aA (aQ (aO (cE (aK rfl rfl ?_))))))
     exact ⟨_, _, (dZ (fun _ => iV hc28)).trans ((fJ (fun h => by omega)).trans (jY hx (by rintro ⟨⟨h1, h2⟩, h3, h4⟩; omega))), ⟨_, _, _, [(lo, lo)], rfl, hO1, hG224, (fun g hg => by rw [List.mem_singleton.1 hg]; exact ⟨hlo0, Int.le_refl _, hlo1⟩), kE lo lo, by simp⟩, hE225, ⟨hB226, hO227, hR.ne⟩⟩
    refine aP (aH (aP ?_)); refine aB rfl (fZ (n := 1) rfl rfl Tryz.underlying9 rfl (by omega) f1) ?_; refine aP (aB rfl (bC rfl rfl) ?_); refine aV (aD (aA (bJ rfl (fun hc104 => ?_) (fun hc104 => ?_))))
    ·skip
     refine aF (aC (aH (aH (bP (vs := [_, _]) rfl cN rfl rfl rfl rfl fun b229 w230 hO231 hs232 hw233 => ?_)))); have hE237 := hE184.then hw233; have hB238 := hw233.blk0 hB185; have hO239 := hO186.evo0 hw233; refine aN (vs := [_]) cO rfl (dY (es := [lo, lo]) hO231 (by simp)) rfl ?_; rintro _ w240 ⟨a1, c1, ob1, rfl, hO1, hg1, hw241⟩; have hG245 := Ge.fresh hE237 hg1; have hE246 := hE237.then hw241; have hB247 := hw241.blk0 hB238; have hO248 := hO239.evo0 hw241; refine aM (aD (aA (aQ (aO (cE (aK rfl rfl ?_))))))
     exact ⟨_, _, (dZ (fun _ => iV hc28)).trans ((fJ (fun h => by omega)).trans (jY hx (by rintro ⟨⟨h1, h2⟩, h3, h4⟩; omega))), ⟨_, _, _, [(lo, lo)], rfl, hO1, hG245, (fun g hg => by rw [List.mem_singleton.1 hg]; exact ⟨hlo0, Int.le_refl _, hlo1⟩), kE lo lo, by simp⟩, hE246, ⟨hB247, hO248, hR.ne⟩⟩
    have hdash : isB s j 45 ∧ j + 1 < s.size ∧ sb s (j + 1) ≠ 93 := ⟨⟨by omega, by omega⟩, by omega, by omega⟩; have hbj1 := hdash.1.asc (by decide) hbj; refine bA (aA (aF (aC (aH (aB rfl (aR rfl) (aB rfl (aE rfl bK) (aB rfl (aI rfl aU (aJ hB185 rfl)) ?_))))))); refine aB rfl (bF rfl rfl (by omega) (by omega)) ?_; refine aB rfl (aR rfl) (aB rfl (aE rfl bK) (bN rfl rfl (rfl) cB hB185 rfl fun w250 hB251 hw252 => ?_)); have hE253 := hE184.step hw252 (fun y hy => .inl hy); have hO254 := hO186.evo hw252 hR3.ap.symm.own1
    try simp only [dB, Nat.reduceAdd] at hB251
    refine aD (aA (aF (aC (aH (cH (vs := [_]) gP rfl (jD (st := iG st (j + 1)) ⟨hB251, hO254, hR.ne⟩ hs hdash.2.1 hbj1) rfl ?_ ?_)))))
    ·skip
     intro pv wp hpp; obtain ⟨hpe, rfl, hpw⟩ := hpp; exact And.intro rfl ⟨_, rfl, _, (dZ (fun _ => iV hc28)).trans ((fJ (fun h => by omega)).trans (rE hx hdash hpe)), rfl, (hE253).step hpw (fun y hy => .inl hy)⟩
    rintro _ w255 ⟨hi, m, hx2, rfl, hw256, hR4⟩; have hE257 := hE253.step hw256 (fun y hy => .inl hy); obtain ⟨hbm, hjm, hhi0, hhi1⟩ := lF hx2 hbj1 hdash.2.1; refine aM (aD (aA (aF (aF (aC (aH (aH (aB rfl (dF rfl rfl) ?_)))))))); refine aD (aA (bJ rfl (fun hc120 => ?_) (fun hc120 => ?_)))
    ·skip
     refine aC (cH (vs := [_]) dD rfl (eV 81) rfl ?_ ?_)
     ·skip
      intro pv wp hpp; obtain ⟨rfl, hpw⟩ := hpp; exact And.intro rfl ⟨_, rfl, _, (dZ (fun _ => iV hc28)).trans ((fJ (fun h => by omega)).trans (uH hx hdash hx2 (by omega))), rfl, (hE257).then hpw⟩
     intro _ _ hF; exact hF.elim
    refine bA (aA (aF (aC (aH (aH (bP (vs := [_, _]) rfl cN rfl rfl rfl rfl fun b260 w261 hO262 hs263 hw264 => ?_)))))); have hE268 := hE257.then hw264; have hB269 := hw264.blk0 hR4.blk; have hO270 := hR4.own.evo0 hw264; refine aN (vs := [_]) cO rfl (dY (es := [lo, hi]) hO262 (by simp)) rfl ?_; rintro _ w271 ⟨a1, c1, ob1, rfl, hO1, hg1, hw272⟩; have hG276 := Ge.fresh hE268 hg1; have hE277 := hE268.then hw272; have hB278 := hw272.blk0 hB269; have hO279 := hO270.evo0 hw272; refine aM (aD (aA (aQ (cE (aK rfl rfl ?_)))))
    exact ⟨_, _, (dZ (fun _ => iV hc28)).trans ((fJ (fun h => by omega)).trans (uF hx hdash hx2 (by omega))), ⟨_, _, _, [(lo, hi)], rfl, hO1, hG276, (fun g hg => by rw [List.mem_singleton.1 hg]; exact ⟨hlo0, by omega, hhi1⟩), kE lo hi, by simp⟩, hE277, ⟨hB278, hO279, hR.ne⟩⟩
   refine aG (aG (aG (aV (aD (aA (cQ rfl ?_)))))); refine bA (aA (aF (aC (aH (cH (vs := [_]) gP rfl (jD ⟨hB14, hO15, hR.ne⟩ hs hlt hb) rfl ?_ ?_)))))
   ·skip
    intro pv wp hpp; obtain ⟨hpe, rfl, hpw⟩ := hpp; exact And.intro rfl ⟨_, rfl, _, (dZ (fun _ => iV hc28)).trans ((fJ (fun h => by omega)).trans (uG hpe)), rfl, (hE13).step hpw (fun y hy => .inl hy)⟩
   rintro _ w281 ⟨lo, j, hx, rfl, hw282, hR3⟩; have hE283 := hE13.step hw282 (fun y hy => .inl hy); obtain ⟨hbj, hij, hlo0, hlo1⟩ := lF hx hb hlt; have hpj : (iG st j).pos = j := rfl; have hbjl := hbj.le; have hrs2 := gI (s := s) (a := j) (Nat.le_refl s.size); refine aM (aD (aA (aF ?_))); refine fN (by kernel_rfl) (by kernel_rfl) ?_; refine aW rfl (fun _ hq285 => bM rfl) ?_; refine aW rfl (fun _ hq285 => aR rfl) ?_; refine aW rfl (fun _ hq285 => aE rfl dO) ?_; refine aW rfl (fun _ hq285 => aI rfl cR (aJ (hq285.blk0 hR3.blk) rfl)) ?_; refine aW rfl (fun _ hq285 => bM rfl) ?_; refine aW rfl (fun _ hq285 => aR rfl) ?_; refine aW rfl (fun _ hq285 => aE rfl bK) ?_; refine aW rfl (fun _ hq285 => aI rfl aU (aJ (hq285.blk0 hR3.blk) rfl)) ?_; refine aW rfl (fun _ hq285 => gX (l := j) rfl rfl Tryz.underlying9 rfl hbj.le) ?_; refine aW rfl (fun _ hq285 => eE rfl) ?_; refine fR (fun wq284 hq285 => aA ?_); have hE286 := hE283.then hq285; have hB287 := hq285.blk0 hR3.blk; have hO288 := hR3.own.evo0 hq285; refine aF (aF (aC (aH (aB rfl (cX rfl Tryz.underlying9 rfl) ?_)))); refine aB rfl (dF rfl rfl) ?_; refine aH (aX (t := 95) rfl (fun hs95 => ?_) (fun hs95 => ?_))
   ·skip
    refine aG (aG (aG (bD (aH (aG (aG (aG (bD (aD (aA (cW rfl ?_))))))))))); refine aF (aC (aH (aH (bP (vs := [_, _]) rfl cN rfl rfl rfl rfl fun b289 w290 hO291 hs292 hw293 => ?_)))); have hE297 := hE286.then hw293; have hB298 := hw293.blk0 hB287; have hO299 := hO288.evo0 hw293; refine aN (vs := [_]) cO rfl (dY (es := [lo, lo]) hO291 (by simp)) rfl ?_; rintro _ w300 ⟨a1, c1, ob1, rfl, hO1, hg1, hw301⟩; have hG305 := Ge.fresh hE297 hg1; have hE306 := hE297.then hw301; have hB307 := hw301.blk0 hB298; have hO308 := hO299.evo0 hw301; refine aM (aD (aA (aQ (aO (cE (aK rfl rfl ?_))))))
    exact ⟨_, _, (dZ (fun _ => iV hc28)).trans ((fJ (fun h => by omega)).trans (jY hx (by rintro ⟨⟨h1, h2⟩, h3, h4⟩; omega))), ⟨_, _, _, [(lo, lo)], rfl, hO1, hG305, (fun g hg => by rw [List.mem_singleton.1 hg]; exact ⟨hlo0, Int.le_refl _, hlo1⟩), kE lo lo, by simp⟩, hE306, ⟨hB307, hO308, hR.ne⟩⟩
   have f0 : sb (s.extract j s.size) 0 = sb s j := hI (by omega); have f1 : sb (s.extract j s.size) 1 = sb s (j + 1) := hI (by omega); refine aP (aH (aP ?_)); refine aB rfl (fZ (n := 0) rfl rfl Tryz.underlying9 rfl (by omega) f0) ?_; refine aP (aB rfl (gJ rfl rfl) ?_); refine aV (aH (aX (t := 100) rfl (fun hs100 => ?_) (fun hs100 => ?_)))
   ·skip
    refine aG (aG (aG (bD (aD (aA (cW rfl ?_)))))); refine aF (aC (aH (aH (bP (vs := [_, _]) rfl cN rfl rfl rfl rfl fun b310 w311 hO312 hs313 hw314 => ?_)))); have hE318 := hE286.then hw314; have hB319 := hw314.blk0 hB287; have hO320 := hO288.evo0 hw314; refine aN (vs := [_]) cO rfl (dY (es := [lo, lo]) hO312 (by simp)) rfl ?_; rintro _ w321 ⟨a1, c1, ob1, rfl, hO1, hg1, hw322⟩; have hG326 := Ge.fresh hE318 hg1; have hE327 := hE318.then hw322; have hB328 := hw322.blk0 hB319; have hO329 := hO320.evo0 hw322; refine aM (aD (aA (aQ (aO (cE (aK rfl rfl ?_))))))
    exact ⟨_, _, (dZ (fun _ => iV hc28)).trans ((fJ (fun h => by omega)).trans (jY hx (by rintro ⟨⟨h1, h2⟩, h3, h4⟩; omega))), ⟨_, _, _, [(lo, lo)], rfl, hO1, hG326, (fun g hg => by rw [List.mem_singleton.1 hg]; exact ⟨hlo0, Int.le_refl _, hlo1⟩), kE lo lo, by simp⟩, hE327, ⟨hB328, hO329, hR.ne⟩⟩
   refine aP (aH (aP ?_)); refine aB rfl (fZ (n := 1) rfl rfl Tryz.underlying9 rfl (by omega) f1) ?_; refine aP (aB rfl (bC rfl rfl) ?_); refine aV (aD (aA (bJ rfl (fun hc104 => ?_) (fun hc104 => ?_))))
   ·skip
    refine aF (aC (aH (aH (bP (vs := [_, _]) rfl cN rfl rfl rfl rfl fun b331 w332 hO333 hs334 hw335 => ?_)))); have hE339 := hE286.then hw335; have hB340 := hw335.blk0 hB287; have hO341 := hO288.evo0 hw335; refine aN (vs := [_]) cO rfl (dY (es := [lo, lo]) hO333 (by simp)) rfl ?_; rintro _ w342 ⟨a1, c1, ob1, rfl, hO1, hg1, hw343⟩; have hG347 := Ge.fresh hE339 hg1; have hE348 := hE339.then hw343; have hB349 := hw343.blk0 hB340; have hO350 := hO341.evo0 hw343; refine aM (aD (aA (aQ (aO (cE (aK rfl rfl ?_))))))
    exact ⟨_, _, (dZ (fun _ => iV hc28)).trans ((fJ (fun h => by omega)).trans (jY hx (by rintro ⟨⟨h1, h2⟩, h3, h4⟩; omega))), ⟨_, _, _, [(lo, lo)], rfl, hO1, hG347, (fun g hg => by rw [List.mem_singleton.1 hg]; exact ⟨hlo0, Int.le_refl _, hlo1⟩), kE lo lo, by simp⟩, hE348, ⟨hB349, hO350, hR.ne⟩⟩
   have hdash : isB s j 45 ∧ j + 1 < s.size ∧ sb s (j + 1) ≠ 93 := ⟨⟨by omega, by omega⟩, by omega, by omega⟩; have hbj1 := hdash.1.asc (by decide) hbj; refine bA (aA (aF (aC (aH (aB rfl (aR rfl) (aB rfl (aE rfl bK) (aB rfl (aI rfl aU (aJ hB287 rfl)) ?_))))))); refine aB rfl (bF rfl rfl (by omega) (by omega)) ?_; refine aB rfl (aR rfl) (aB rfl (aE rfl bK) (bN rfl rfl (rfl) cB hB287 rfl fun w352 hB353 hw354 => ?_)); have hE355 := hE286.step hw354 (fun y hy => .inl hy); have hO356 := hO288.evo hw354 hR3.ap.symm.own1
   try simp only [dB, Nat.reduceAdd] at hB353
   refine aD (aA (aF (aC (aH (cH (vs := [_]) gP rfl (jD (st := iG st (j + 1)) ⟨hB353, hO356, hR.ne⟩ hs hdash.2.1 hbj1) rfl ?_ ?_)))))
   ·skip
    intro pv wp hpp; obtain ⟨hpe, rfl, hpw⟩ := hpp; exact And.intro rfl ⟨_, rfl, _, (dZ (fun _ => iV hc28)).trans ((fJ (fun h => by omega)).trans (rE hx hdash hpe)), rfl, (hE355).step hpw (fun y hy => .inl hy)⟩
   rintro _ w357 ⟨hi, m, hx2, rfl, hw358, hR4⟩; have hE359 := hE355.step hw358 (fun y hy => .inl hy); obtain ⟨hbm, hjm, hhi0, hhi1⟩ := lF hx2 hbj1 hdash.2.1; refine aM (aD (aA (aF (aF (aC (aH (aH (aB rfl (dF rfl rfl) ?_)))))))); refine aD (aA (bJ rfl (fun hc120 => ?_) (fun hc120 => ?_)))
   ·skip
    refine aC (cH (vs := [_]) dD rfl (eV 81) rfl ?_ ?_)
    ·skip
     intro pv wp hpp; obtain ⟨rfl, hpw⟩ := hpp; exact And.intro rfl ⟨_, rfl, _, (dZ (fun _ => iV hc28)).trans ((fJ (fun h => by omega)).trans (uH hx hdash hx2 (by omega))), rfl, (hE359).then hpw⟩
    intro _ _ hF; exact hF.elim
   refine bA (aA (aF (aC (aH (aH (bP (vs := [_, _]) rfl cN rfl rfl rfl rfl fun b362 w363 hO364 hs365 hw366 => ?_)))))); have hE370 := hE359.then hw366; have hB371 := hw366.blk0 hR4.blk; have hO372 := hR4.own.evo0 hw366; refine aN (vs := [_]) cO rfl (dY (es := [lo, hi]) hO364 (by simp)) rfl ?_; rintro _ w373 ⟨a1, c1, ob1, rfl, hO1, hg1, hw374⟩; have hG378 := Ge.fresh hE370 hg1; have hE379 := hE370.then hw374; have hB380 := hw374.blk0 hB371; have hO381 := hO372.evo0 hw374; refine aM (aD (aA (aQ (cE (aK rfl rfl ?_)))))
   exact ⟨_, _, (dZ (fun _ => iV hc28)).trans ((fJ (fun h => by omega)).trans (uF hx hdash hx2 (by omega))), ⟨_, _, _, [(lo, hi)], rfl, hO1, hG378, (fun g hg => by rw [List.mem_singleton.1 hg]; exact ⟨hlo0, by omega, hhi1⟩), kE lo hi, by simp⟩, hE379, ⟨hB380, hO381, hR.ne⟩⟩
  refine bA (aA (aF (aF (aC (aH (aB rfl (cX rfl Tryz.underlying9 rfl) ?_)))))); refine aB rfl (eZ rfl rfl) ?_; refine aH (aX (t := 61) rfl (fun hs61 => ?_) (fun hs61 => ?_))
  ·skip
   have e1 : sb (s.extract st.pos s.size) 1 = sb s (st.pos + 1) := hI (by omega); refine aP (aH (aP ?_)); refine aB rfl (fZ (n := 0) rfl rfl Tryz.underlying9 rfl (by omega) e0) ?_; refine aP (aB rfl (bC rfl rfl) ?_); refine bD (aD (aA (bJ rfl (fun hc65 => ?_) (fun hc65 => ?_))))
   ·skip
    refine aF (aC (aH ?_)); refine aB rfl (fZ (n := 1) rfl rfl Tryz.underlying9 rfl (by omega) e1) ?_; refine aN (vs := [_]) pS rfl (pL (sb s (st.pos + 1)) (jB s _)) rfl ?_; rintro rv w383 ⟨hL, hw384⟩; obtain ⟨a1, c1, ob1, l1, rfl, hO1, hg1, hv1, hl1, hS1⟩ := hL.uni; have hA385 := Apart.fresh (Lt.blk hB9) hg1; have hG387 := Ge.fresh hE8 hg1; have hE388 := hE8.then hw384; have hB389 := hw384.blk0 hB9; have hO390 := hO10.evo0 hw384; refine aH (aB rfl (dC rfl rfl) ?_); refine aB rfl (dC rfl rfl) ?_; refine aM (aM (aD (aA (aF (aC (aH (aD (aA (fB rfl (fun hc72 => ?_) (fun hc72 => ?_))))))))))
    ·skip
     obtain ⟨S1, hS1'⟩ := wI hc72; refine aF (aC (aH (aB rfl (aR rfl) (aB rfl (aE rfl bK) (aB rfl (aI rfl aU (aJ hB389 rfl)) ?_))))); refine aB rfl (bF rfl rfl (by omega) (by omega)) ?_; refine aB rfl (aR rfl) (aB rfl (aE rfl bK) (bN rfl rfl (rfl) cB hB389 rfl fun w391 hB392 hw393 => ?_)); have hE394 := hE388.step hw393 (fun y hy => .inl hy); have hO395 := hO390.evo hw393 hap.symm.own1; have hO396 := hO1.evo hw393 hA385.symm.own1
     try simp only [dB, Nat.reduceAdd] at hB392
     refine aD (aA (aF (aC (aH (aM (aD (aA (aQ (aO (cE (aK rfl rfl ?_))))))))))); exact ⟨_, _, (dZ (fun h => absurd ((mM hle).2 h) hc23)).trans (NT ⟨by omega, by omega⟩ hS1'), ⟨_, _, _, _, rfl, hO396, hG387, hv1, hS1 S1 hS1', by omega⟩, hE394, ⟨hB392, hO395, hR.ne⟩⟩
    refine bA (aA (aF (aC (aH (cH (vs := [_]) gP rfl (jD ⟨hB389, hO390, hR.ne⟩ hs hlt hb) rfl ?_ ?_)))))
    ·skip
     intro pv wp hpp; obtain ⟨hpe, rfl, hpw⟩ := hpp; exact And.intro rfl ⟨_, rfl, _, (dZ (fun h => absurd ((mM hle).2 h) hc23)).trans ((fJ (fun _ => iI hc72)).trans (uG hpe)), rfl, (hE388).step hpw (fun y hy => .inl hy)⟩
    rintro _ w397 ⟨lo, j, hx, rfl, hw398, hR3⟩; have hE399 := hE388.step hw398 (fun y hy => .inl hy); obtain ⟨hbj, hij, hlo0, hlo1⟩ := lF hx hb hlt; have hpj : (iG st j).pos = j := rfl; have hbjl := hbj.le; have hrs2 := gI (s := s) (a := j) (Nat.le_refl s.size); refine aM (aD (aA (aF ?_))); refine fN (by kernel_rfl) (by kernel_rfl) ?_; refine aW rfl (fun _ hq402 => bM rfl) ?_; refine aW rfl (fun _ hq402 => aR rfl) ?_; refine aW rfl (fun _ hq402 => aE rfl dO) ?_; refine aW rfl (fun _ hq402 => aI rfl cR (aJ (hq402.blk0 hR3.blk) rfl)) ?_; refine aW rfl (fun _ hq402 => bM rfl) ?_; refine aW rfl (fun _ hq402 => aR rfl) ?_; refine aW rfl (fun _ hq402 => aE rfl bK) ?_; refine aW rfl (fun _ hq402 => aI rfl aU (aJ (hq402.blk0 hR3.blk) rfl)) ?_; refine aW rfl (fun _ hq402 => gX (l := j) rfl rfl Tryz.underlying9 rfl hbj.le) ?_; refine aW rfl (fun _ hq402 => eE rfl) ?_; refine fR (fun wq401 hq402 => aA ?_); have hE403 := hE399.then hq402; have hB405 := hq402.blk0 hR3.blk; have hO406 := hR3.own.evo0 hq402; refine aF (aF (aC (aH (aB rfl (cX rfl Tryz.underlying9 rfl) ?_)))); refine aB rfl (dF rfl rfl) ?_; refine aH (aX (t := 95) rfl (fun hs95 => ?_) (fun hs95 => ?_))
    ·skip
     refine aG (aG (aG (bD (aH (aG (aG (aG (bD (aD (aA (cW rfl ?_))))))))))); refine aF (aC (aH (aH (bP (vs := [_, _]) rfl cN rfl rfl rfl rfl fun b407 w408 hO409 hs410 hw411 => ?_)))); have hE416 := hE403.then hw411; have hB418 := hw411.blk0 hB405; have hO419 := hO406.evo0 hw411; refine aN (vs := [_]) cO rfl (dY (es := [lo, lo]) hO409 (by simp)) rfl ?_; rintro _ w420 ⟨a1, c1, ob1, rfl, hO1, hg1, hw421⟩; have hG426 := Ge.fresh hE416 hg1; have hE427 := hE416.then hw421; have hB429 := hw421.blk0 hB418; have hO430 := hO419.evo0 hw421; refine aM (aD (aA (aQ (aO (cE (aK rfl rfl ?_))))))
     exact ⟨_, _, (dZ (fun h => absurd ((mM hle).2 h) hc23)).trans ((fJ (fun _ => iI hc72)).trans (jY hx (by rintro ⟨⟨h1, h2⟩, h3, h4⟩; omega))), ⟨_, _, _, [(lo, lo)], rfl, hO1, hG426, (fun g hg => by rw [List.mem_singleton.1 hg]; exact ⟨hlo0, Int.le_refl _, hlo1⟩), kE lo lo, by simp⟩, hE427, ⟨hB429, hO430, hR.ne⟩⟩
    have f0 : sb (s.extract j s.size) 0 = sb s j := hI (by omega); have f1 : sb (s.extract j s.size) 1 = sb s (j + 1) := hI (by omega); refine aP (aH (aP ?_)); refine aB rfl (fZ (n := 0) rfl rfl Tryz.underlying9 rfl (by omega) f0) ?_; refine aP (aB rfl (gJ rfl rfl) ?_); refine aV (aH (aX (t := 100) rfl (fun hs100 => ?_) (fun hs100 => ?_)))
    ·skip
     refine aG (aG (aG (bD (aD (aA (cW rfl ?_)))))); refine aF (aC (aH (aH (bP (vs := [_, _]) rfl cN rfl rfl rfl rfl fun b432 w433 hO434 hs435 hw436 => ?_)))); have hE441 := hE403.then hw436; have hB443 := hw436.blk0 hB405; have hO444 := hO406.evo0 hw436; refine aN (vs := [_]) cO rfl (dY (es := [lo, lo]) hO434 (by simp)) rfl ?_; rintro _ w445 ⟨a1, c1, ob1, rfl, hO1, hg1, hw446⟩; have hG451 := Ge.fresh hE441 hg1; have hE452 := hE441.then hw446; have hB454 := hw446.blk0 hB443; have hO455 := hO444.evo0 hw446; refine aM (aD (aA (aQ (aO (cE (aK rfl rfl ?_))))))
     exact ⟨_, _, (dZ (fun h => absurd ((mM hle).2 h) hc23)).trans ((fJ (fun _ => iI hc72)).trans (jY hx (by rintro ⟨⟨h1, h2⟩, h3, h4⟩; omega))), ⟨_, _, _, [(lo, lo)], rfl, hO1, hG451, (fun g hg => by rw [List.mem_singleton.1 hg]; exact ⟨hlo0, Int.le_refl _, hlo1⟩), kE lo lo, by simp⟩, hE452, ⟨hB454, hO455, hR.ne⟩⟩
    refine aP (aH (aP ?_)); refine aB rfl (fZ (n := 1) rfl rfl Tryz.underlying9 rfl (by omega) f1) ?_; refine aP (aB rfl (bC rfl rfl) ?_); refine aV (aD (aA (bJ rfl (fun hc104 => ?_) (fun hc104 => ?_))))
    ·skip
     refine aF (aC (aH (aH (bP (vs := [_, _]) rfl cN rfl rfl rfl rfl fun b457 w458 hO459 hs460 hw461 => ?_)))); have hE466 := hE403.then hw461; have hB468 := hw461.blk0 hB405; have hO469 := hO406.evo0 hw461; refine aN (vs := [_]) cO rfl (dY (es := [lo, lo]) hO459 (by simp)) rfl ?_; rintro _ w470 ⟨a1, c1, ob1, rfl, hO1, hg1, hw471⟩; have hG476 := Ge.fresh hE466 hg1; have hE477 := hE466.then hw471; have hB479 := hw471.blk0 hB468; have hO480 := hO469.evo0 hw471; refine aM (aD (aA (aQ (aO (cE (aK rfl rfl ?_))))))
     exact ⟨_, _, (dZ (fun h => absurd ((mM hle).2 h) hc23)).trans ((fJ (fun _ => iI hc72)).trans (jY hx (by rintro ⟨⟨h1, h2⟩, h3, h4⟩; omega))), ⟨_, _, _, [(lo, lo)], rfl, hO1, hG476, (fun g hg => by rw [List.mem_singleton.1 hg]; exact ⟨hlo0, Int.le_refl _, hlo1⟩), kE lo lo, by simp⟩, hE477, ⟨hB479, hO480, hR.ne⟩⟩
    have hdash : isB s j 45 ∧ j + 1 < s.size ∧ sb s (j + 1) ≠ 93 := ⟨⟨by omega, by omega⟩, by omega, by omega⟩; have hbj1 := hdash.1.asc (by decide) hbj; refine bA (aA (aF (aC (aH (aB rfl (aR rfl) (aB rfl (aE rfl bK) (aB rfl (aI rfl aU (aJ hB405 rfl)) ?_))))))); refine aB rfl (bF rfl rfl (by omega) (by omega)) ?_; refine aB rfl (aR rfl) (aB rfl (aE rfl bK) (bN rfl rfl (rfl) cB hB405 rfl fun w482 hB483 hw484 => ?_)); have hE485 := hE403.step hw484 (fun y hy => .inl hy); have hO487 := hO406.evo hw484 hR3.ap.symm.own1
    try simp only [dB, Nat.reduceAdd] at hB483
    refine aD (aA (aF (aC (aH (cH (vs := [_]) gP rfl (jD (st := iG st (j + 1)) ⟨hB483, hO487, hR.ne⟩ hs hdash.2.1 hbj1) rfl ?_ ?_)))))
    ·skip
     intro pv wp hpp; obtain ⟨hpe, rfl, hpw⟩ := hpp; exact And.intro rfl ⟨_, rfl, _, (dZ (fun h => absurd ((mM hle).2 h) hc23)).trans ((fJ (fun _ => iI hc72)).trans (rE hx hdash hpe)), rfl, (hE485).step hpw (fun y hy => .inl hy)⟩
    rintro _ w488 ⟨hi, m, hx2, rfl, hw489, hR4⟩; have hE490 := hE485.step hw489 (fun y hy => .inl hy); obtain ⟨hbm, hjm, hhi0, hhi1⟩ := lF hx2 hbj1 hdash.2.1; refine aM (aD (aA (aF (aF (aC (aH (aH (aB rfl (dF rfl rfl) ?_)))))))); refine aD (aA (bJ rfl (fun hc120 => ?_) (fun hc120 => ?_)))
    ·skip
     refine aC (cH (vs := [_]) dD rfl (eV 81) rfl ?_ ?_)
     ·skip
      intro pv wp hpp; obtain ⟨rfl, hpw⟩ := hpp; exact And.intro rfl ⟨_, rfl, _, (dZ (fun h => absurd ((mM hle).2 h) hc23)).trans ((fJ (fun _ => iI hc72)).trans (uH hx hdash hx2 (by omega))), rfl, (hE490).then hpw⟩
     intro _ _ hF; exact hF.elim
    refine bA (aA (aF (aC (aH (aH (bP (vs := [_, _]) rfl cN rfl rfl rfl rfl fun b494 w495 hO496 hs497 hw498 => ?_)))))); have hE503 := hE490.then hw498; have hB505 := hw498.blk0 hR4.blk; have hO506 := hR4.own.evo0 hw498; refine aN (vs := [_]) cO rfl (dY (es := [lo, hi]) hO496 (by simp)) rfl ?_; rintro _ w507 ⟨a1, c1, ob1, rfl, hO1, hg1, hw508⟩; have hG513 := Ge.fresh hE503 hg1; have hE514 := hE503.then hw508; have hB516 := hw508.blk0 hB505; have hO517 := hO506.evo0 hw508; refine aM (aD (aA (aQ (cE (aK rfl rfl ?_)))))
    exact ⟨_, _, (dZ (fun h => absurd ((mM hle).2 h) hc23)).trans ((fJ (fun _ => iI hc72)).trans (uF hx hdash hx2 (by omega))), ⟨_, _, _, [(lo, hi)], rfl, hO1, hG513, (fun g hg => by rw [List.mem_singleton.1 hg]; exact ⟨hlo0, by omega, hhi1⟩), kE lo hi, by simp⟩, hE514, ⟨hB516, hO517, hR.ne⟩⟩
   refine bA (aA (aF (aC (aH (cH (vs := [_]) gP rfl (jD ⟨hB9, hO10, hR.ne⟩ hs hlt hb) rfl ?_ ?_)))))
   ·skip
    intro pv wp hpp; obtain ⟨hpe, rfl, hpw⟩ := hpp; exact And.intro rfl ⟨_, rfl, _, (dZ (fun h => absurd ((mM hle).2 h) hc23)).trans ((fJ (fun h => by omega)).trans (uG hpe)), rfl, (hE8).step hpw (fun y hy => .inl hy)⟩
   rintro _ w519 ⟨lo, j, hx, rfl, hw520, hR3⟩; have hE521 := hE8.step hw520 (fun y hy => .inl hy); obtain ⟨hbj, hij, hlo0, hlo1⟩ := lF hx hb hlt; have hpj : (iG st j).pos = j := rfl; have hbjl := hbj.le; have hrs2 := gI (s := s) (a := j) (Nat.le_refl s.size); refine aM (aD (aA (aF ?_))); refine fN (by kernel_rfl) (by kernel_rfl) ?_; refine aW rfl (fun _ hq523 => bM rfl) ?_; refine aW rfl (fun _ hq523 => aR rfl) ?_; refine aW rfl (fun _ hq523 => aE rfl dO) ?_; refine aW rfl (fun _ hq523 => aI rfl cR (aJ (hq523.blk0 hR3.blk) rfl)) ?_; refine aW rfl (fun _ hq523 => bM rfl) ?_; refine aW rfl (fun _ hq523 => aR rfl) ?_; refine aW rfl (fun _ hq523 => aE rfl bK) ?_; refine aW rfl (fun _ hq523 => aI rfl aU (aJ (hq523.blk0 hR3.blk) rfl)) ?_; refine aW rfl (fun _ hq523 => gX (l := j) rfl rfl Tryz.underlying9 rfl hbj.le) ?_; refine aW rfl (fun _ hq523 => eE rfl) ?_; refine fR (fun wq522 hq523 => aA ?_); have hE524 := hE521.then hq523; have hB525 := hq523.blk0 hR3.blk; have hO526 := hR3.own.evo0 hq523; refine aF (aF (aC (aH (aB rfl (cX rfl Tryz.underlying9 rfl) ?_)))); refine aB rfl (dF rfl rfl) ?_; refine aH (aX (t := 95) rfl (fun hs95 => ?_) (fun hs95 => ?_))
   ·skip
    refine aG (aG (aG (bD (aH (aG (aG (aG (bD (aD (aA (cW rfl ?_))))))))))); refine aF (aC (aH (aH (bP (vs := [_, _]) rfl cN rfl rfl rfl rfl fun b527 w528 hO529 hs530 hw531 => ?_)))); have hE535 := hE524.then hw531; have hB536 := hw531.blk0 hB525; have hO537 := hO526.evo0 hw531; refine aN (vs := [_]) cO rfl (dY (es := [lo, lo]) hO529 (by simp)) rfl ?_; rintro _ w538 ⟨a1, c1, ob1, rfl, hO1, hg1, hw539⟩; have hG543 := Ge.fresh hE535 hg1; have hE544 := hE535.then hw539; have hB545 := hw539.blk0 hB536; have hO546 := hO537.evo0 hw539; refine aM (aD (aA (aQ (aO (cE (aK rfl rfl ?_))))))
    exact ⟨_, _, (dZ (fun h => absurd ((mM hle).2 h) hc23)).trans ((fJ (fun h => by omega)).trans (jY hx (by rintro ⟨⟨h1, h2⟩, h3, h4⟩; omega))), ⟨_, _, _, [(lo, lo)], rfl, hO1, hG543, (fun g hg => by rw [List.mem_singleton.1 hg]; exact ⟨hlo0, Int.le_refl _, hlo1⟩), kE lo lo, by simp⟩, hE544, ⟨hB545, hO546, hR.ne⟩⟩
   have f0 : sb (s.extract j s.size) 0 = sb s j := hI (by omega); have f1 : sb (s.extract j s.size) 1 = sb s (j + 1) := hI (by omega); refine aP (aH (aP ?_)); refine aB rfl (fZ (n := 0) rfl rfl Tryz.underlying9 rfl (by omega) f0) ?_; refine aP (aB rfl (gJ rfl rfl) ?_); refine aV (aH (aX (t := 100) rfl (fun hs100 => ?_) (fun hs100 => ?_)))
   ·skip
    refine aG (aG (aG (bD (aD (aA (cW rfl ?_)))))); refine aF (aC (aH (aH (bP (vs := [_, _]) rfl cN rfl rfl rfl rfl fun b548 w549 hO550 hs551 hw552 => ?_)))); have hE556 := hE524.then hw552; have hB557 := hw552.blk0 hB525; have hO558 := hO526.evo0 hw552; refine aN (vs := [_]) cO rfl (dY (es := [lo, lo]) hO550 (by simp)) rfl ?_; rintro _ w559 ⟨a1, c1, ob1, rfl, hO1, hg1, hw560⟩; have hG564 := Ge.fresh hE556 hg1; have hE565 := hE556.then hw560; have hB566 := hw560.blk0 hB557; have hO567 := hO558.evo0 hw560; refine aM (aD (aA (aQ (aO (cE (aK rfl rfl ?_))))))
    exact ⟨_, _, (dZ (fun h => absurd ((mM hle).2 h) hc23)).trans ((fJ (fun h => by omega)).trans (jY hx (by rintro ⟨⟨h1, h2⟩, h3, h4⟩; omega))), ⟨_, _, _, [(lo, lo)], rfl, hO1, hG564, (fun g hg => by rw [List.mem_singleton.1 hg]; exact ⟨hlo0, Int.le_refl _, hlo1⟩), kE lo lo, by simp⟩, hE565, ⟨hB566, hO567, hR.ne⟩⟩
   refine aP (aH (aP ?_)); refine aB rfl (fZ (n := 1) rfl rfl Tryz.underlying9 rfl (by omega) f1) ?_; refine aP (aB rfl (bC rfl rfl) ?_); refine aV (aD (aA (bJ rfl (fun hc104 => ?_) (fun hc104 => ?_))))
   ·skip
    refine aF (aC (aH (aH (bP (vs := [_, _]) rfl cN rfl rfl rfl rfl fun b569 w570 hO571 hs572 hw573 => ?_)))); have hE577 := hE524.then hw573; have hB578 := hw573.blk0 hB525; have hO579 := hO526.evo0 hw573; refine aN (vs := [_]) cO rfl (dY (es := [lo, lo]) hO571 (by simp)) rfl ?_; rintro _ w580 ⟨a1, c1, ob1, rfl, hO1, hg1, hw581⟩; have hG585 := Ge.fresh hE577 hg1; have hE586 := hE577.then hw581; have hB587 := hw581.blk0 hB578; have hO588 := hO579.evo0 hw581; refine aM (aD (aA (aQ (aO (cE (aK rfl rfl ?_))))))
    exact ⟨_, _, (dZ (fun h => absurd ((mM hle).2 h) hc23)).trans ((fJ (fun h => by omega)).trans (jY hx (by rintro ⟨⟨h1, h2⟩, h3, h4⟩; omega))), ⟨_, _, _, [(lo, lo)], rfl, hO1, hG585, (fun g hg => by rw [List.mem_singleton.1 hg]; exact ⟨hlo0, Int.le_refl _, hlo1⟩), kE lo lo, by simp⟩, hE586, ⟨hB587, hO588, hR.ne⟩⟩
   have hdash : isB s j 45 ∧ j + 1 < s.size ∧ sb s (j + 1) ≠ 93 := ⟨⟨by omega, by omega⟩, by omega, by omega⟩; have hbj1 := hdash.1.asc (by decide) hbj; refine bA (aA (aF (aC (aH (aB rfl (aR rfl) (aB rfl (aE rfl bK) (aB rfl (aI rfl aU (aJ hB525 rfl)) ?_))))))); refine aB rfl (bF rfl rfl (by omega) (by omega)) ?_; refine aB rfl (aR rfl) (aB rfl (aE rfl bK) (bN rfl rfl (rfl) cB hB525 rfl fun w590 hB591 hw592 => ?_)); have hE593 := hE524.step hw592 (fun y hy => .inl hy); have hO594 := hO526.evo hw592 hR3.ap.symm.own1
   try simp only [dB, Nat.reduceAdd] at hB591
   refine aD (aA (aF (aC (aH (cH (vs := [_]) gP rfl (jD (st := iG st (j + 1)) ⟨hB591, hO594, hR.ne⟩ hs hdash.2.1 hbj1) rfl ?_ ?_)))))
   ·skip
    intro pv wp hpp; obtain ⟨hpe, rfl, hpw⟩ := hpp; exact And.intro rfl ⟨_, rfl, _, (dZ (fun h => absurd ((mM hle).2 h) hc23)).trans ((fJ (fun h => by omega)).trans (rE hx hdash hpe)), rfl, (hE593).step hpw (fun y hy => .inl hy)⟩
   rintro _ w595 ⟨hi, m, hx2, rfl, hw596, hR4⟩; have hE597 := hE593.step hw596 (fun y hy => .inl hy); obtain ⟨hbm, hjm, hhi0, hhi1⟩ := lF hx2 hbj1 hdash.2.1; refine aM (aD (aA (aF (aF (aC (aH (aH (aB rfl (dF rfl rfl) ?_)))))))); refine aD (aA (bJ rfl (fun hc120 => ?_) (fun hc120 => ?_)))
   ·skip
    refine aC (cH (vs := [_]) dD rfl (eV 81) rfl ?_ ?_)
    ·skip
     intro pv wp hpp; obtain ⟨rfl, hpw⟩ := hpp; exact And.intro rfl ⟨_, rfl, _, (dZ (fun h => absurd ((mM hle).2 h) hc23)).trans ((fJ (fun h => by omega)).trans (uH hx hdash hx2 (by omega))), rfl, (hE597).then hpw⟩
    intro _ _ hF; exact hF.elim
   refine bA (aA (aF (aC (aH (aH (bP (vs := [_, _]) rfl cN rfl rfl rfl rfl fun b600 w601 hO602 hs603 hw604 => ?_)))))); have hE608 := hE597.then hw604; have hB609 := hw604.blk0 hR4.blk; have hO610 := hR4.own.evo0 hw604; refine aN (vs := [_]) cO rfl (dY (es := [lo, hi]) hO602 (by simp)) rfl ?_; rintro _ w611 ⟨a1, c1, ob1, rfl, hO1, hg1, hw612⟩; have hG616 := Ge.fresh hE608 hg1; have hE617 := hE608.then hw612; have hB618 := hw612.blk0 hB609; have hO619 := hO610.evo0 hw612; refine aM (aD (aA (aQ (cE (aK rfl rfl ?_)))))
   exact ⟨_, _, (dZ (fun h => absurd ((mM hle).2 h) hc23)).trans ((fJ (fun h => by omega)).trans (uF hx hdash hx2 (by omega))), ⟨_, _, _, [(lo, hi)], rfl, hO1, hG616, (fun g hg => by rw [List.mem_singleton.1 hg]; exact ⟨hlo0, by omega, hhi1⟩), kE lo hi, by simp⟩, hE617, ⟨hB618, hO619, hR.ne⟩⟩
  refine aG (aG (aG (aV (aD (aA (cQ rfl ?_)))))); refine bA (aA (aF (aC (aH (cH (vs := [_]) gP rfl (jD ⟨hB9, hO10, hR.ne⟩ hs hlt hb) rfl ?_ ?_)))))
  ·skip
   intro pv wp hpp; obtain ⟨hpe, rfl, hpw⟩ := hpp; exact And.intro rfl ⟨_, rfl, _, (dZ (fun h => absurd ((mM hle).2 h) hc23)).trans ((fJ (fun h => by omega)).trans (uG hpe)), rfl, (hE8).step hpw (fun y hy => .inl hy)⟩
  rintro _ w621 ⟨lo, j, hx, rfl, hw622, hR3⟩; have hE623 := hE8.step hw622 (fun y hy => .inl hy); obtain ⟨hbj, hij, hlo0, hlo1⟩ := lF hx hb hlt; have hpj : (iG st j).pos = j := rfl; have hbjl := hbj.le; have hrs2 := gI (s := s) (a := j) (Nat.le_refl s.size); refine aM (aD (aA (aF ?_))); refine fN (by kernel_rfl) (by kernel_rfl) ?_; refine aW rfl (fun _ hq625 => bM rfl) ?_; refine aW rfl (fun _ hq625 => aR rfl) ?_; refine aW rfl (fun _ hq625 => aE rfl dO) ?_; refine aW rfl (fun _ hq625 => aI rfl cR (aJ (hq625.blk0 hR3.blk) rfl)) ?_; refine aW rfl (fun _ hq625 => bM rfl) ?_; refine aW rfl (fun _ hq625 => aR rfl) ?_; refine aW rfl (fun _ hq625 => aE rfl bK) ?_; refine aW rfl (fun _ hq625 => aI rfl aU (aJ (hq625.blk0 hR3.blk) rfl)) ?_; refine aW rfl (fun _ hq625 => gX (l := j) rfl rfl Tryz.underlying9 rfl hbj.le) ?_; refine aW rfl (fun _ hq625 => eE rfl) ?_; refine fR (fun wq624 hq625 => aA ?_); have hE626 := hE623.then hq625; have hB627 := hq625.blk0 hR3.blk; have hO628 := hR3.own.evo0 hq625; refine aF (aF (aC (aH (aB rfl (cX rfl Tryz.underlying9 rfl) ?_)))); refine aB rfl (dF rfl rfl) ?_; refine aH (aX (t := 95) rfl (fun hs95 => ?_) (fun hs95 => ?_))
  ·skip
   refine aG (aG (aG (bD (aH (aG (aG (aG (bD (aD (aA (cW rfl ?_))))))))))); refine aF (aC (aH (aH (bP (vs := [_, _]) rfl cN rfl rfl rfl rfl fun b629 w630 hO631 hs632 hw633 => ?_)))); have hE637 := hE626.then hw633; have hB638 := hw633.blk0 hB627; have hO639 := hO628.evo0 hw633; refine aN (vs := [_]) cO rfl (dY (es := [lo, lo]) hO631 (by simp)) rfl ?_; rintro _ w640 ⟨a1, c1, ob1, rfl, hO1, hg1, hw641⟩; have hG645 := Ge.fresh hE637 hg1; have hE646 := hE637.then hw641; have hB647 := hw641.blk0 hB638; have hO648 := hO639.evo0 hw641; refine aM (aD (aA (aQ (aO (cE (aK rfl rfl ?_))))))
   exact ⟨_, _, (dZ (fun h => absurd ((mM hle).2 h) hc23)).trans ((fJ (fun h => by omega)).trans (jY hx (by rintro ⟨⟨h1, h2⟩, h3, h4⟩; omega))), ⟨_, _, _, [(lo, lo)], rfl, hO1, hG645, (fun g hg => by rw [List.mem_singleton.1 hg]; exact ⟨hlo0, Int.le_refl _, hlo1⟩), kE lo lo, by simp⟩, hE646, ⟨hB647, hO648, hR.ne⟩⟩
  have f0 : sb (s.extract j s.size) 0 = sb s j := hI (by omega); have f1 : sb (s.extract j s.size) 1 = sb s (j + 1) := hI (by omega); refine aP (aH (aP ?_)); refine aB rfl (fZ (n := 0) rfl rfl Tryz.underlying9 rfl (by omega) f0) ?_; refine aP (aB rfl (gJ rfl rfl) ?_); refine aV (aH (aX (t := 100) rfl (fun hs100 => ?_) (fun hs100 => ?_)))
  ·skip
   refine aG (aG (aG (bD (aD (aA (cW rfl ?_)))))); refine aF (aC (aH (aH (bP (vs := [_, _]) rfl cN rfl rfl rfl rfl fun b650 w651 hO652 hs653 hw654 => ?_)))); have hE658 := hE626.then hw654; have hB659 := hw654.blk0 hB627; have hO660 := hO628.evo0 hw654; refine aN (vs := [_]) cO rfl (dY (es := [lo, lo]) hO652 (by simp)) rfl ?_; rintro _ w661 ⟨a1, c1, ob1, rfl, hO1, hg1, hw662⟩; have hG666 := Ge.fresh hE658 hg1; have hE667 := hE658.then hw662; have hB668 := hw662.blk0 hB659; have hO669 := hO660.evo0 hw662; refine aM (aD (aA (aQ (aO (cE (aK rfl rfl ?_))))))
   exact ⟨_, _, (dZ (fun h => absurd ((mM hle).2 h) hc23)).trans ((fJ (fun h => by omega)).trans (jY hx (by rintro ⟨⟨h1, h2⟩, h3, h4⟩; omega))), ⟨_, _, _, [(lo, lo)], rfl, hO1, hG666, (fun g hg => by rw [List.mem_singleton.1 hg]; exact ⟨hlo0, Int.le_refl _, hlo1⟩), kE lo lo, by simp⟩, hE667, ⟨hB668, hO669, hR.ne⟩⟩
  refine aP (aH (aP ?_)); refine aB rfl (fZ (n := 1) rfl rfl Tryz.underlying9 rfl (by omega) f1) ?_; refine aP (aB rfl (bC rfl rfl) ?_); refine aV (aD (aA (bJ rfl (fun hc104 => ?_) (fun hc104 => ?_))))
  ·skip
   refine aF (aC (aH (aH (bP (vs := [_, _]) rfl cN rfl rfl rfl rfl fun b671 w672 hO673 hs674 hw675 => ?_)))); have hE679 := hE626.then hw675; have hB680 := hw675.blk0 hB627; have hO681 := hO628.evo0 hw675; refine aN (vs := [_]) cO rfl (dY (es := [lo, lo]) hO673 (by simp)) rfl ?_; rintro _ w682 ⟨a1, c1, ob1, rfl, hO1, hg1, hw683⟩; have hG687 := Ge.fresh hE679 hg1; have hE688 := hE679.then hw683; have hB689 := hw683.blk0 hB680; have hO690 := hO681.evo0 hw683; refine aM (aD (aA (aQ (aO (cE (aK rfl rfl ?_))))))
   exact ⟨_, _, (dZ (fun h => absurd ((mM hle).2 h) hc23)).trans ((fJ (fun h => by omega)).trans (jY hx (by rintro ⟨⟨h1, h2⟩, h3, h4⟩; omega))), ⟨_, _, _, [(lo, lo)], rfl, hO1, hG687, (fun g hg => by rw [List.mem_singleton.1 hg]; exact ⟨hlo0, Int.le_refl _, hlo1⟩), kE lo lo, by simp⟩, hE688, ⟨hB689, hO690, hR.ne⟩⟩
  have hdash : isB s j 45 ∧ j + 1 < s.size ∧ sb s (j + 1) ≠ 93 := ⟨⟨by omega, by omega⟩, by omega, by omega⟩; have hbj1 := hdash.1.asc (by decide) hbj; refine bA (aA (aF (aC (aH (aB rfl (aR rfl) (aB rfl (aE rfl bK) (aB rfl (aI rfl aU (aJ hB627 rfl)) ?_))))))); refine aB rfl (bF rfl rfl (by omega) (by omega)) ?_; refine aB rfl (aR rfl) (aB rfl (aE rfl bK) (bN rfl rfl (rfl) cB hB627 rfl fun w692 hB693 hw694 => ?_)); have hE695 := hE626.step hw694 (fun y hy => .inl hy); have hO696 := hO628.evo hw694 hR3.ap.symm.own1
  try simp only [dB, Nat.reduceAdd] at hB693
  refine aD (aA (aF (aC (aH (cH (vs := [_]) gP rfl (jD (st := iG st (j + 1)) ⟨hB693, hO696, hR.ne⟩ hs hdash.2.1 hbj1) rfl ?_ ?_)))))
  ·skip
   intro pv wp hpp; obtain ⟨hpe, rfl, hpw⟩ := hpp; exact And.intro rfl ⟨_, rfl, _, (dZ (fun h => absurd ((mM hle).2 h) hc23)).trans ((fJ (fun h => by omega)).trans (rE hx hdash hpe)), rfl, (hE695).step hpw (fun y hy => .inl hy)⟩
  rintro _ w697 ⟨hi, m, hx2, rfl, hw698, hR4⟩; have hE699 := hE695.step hw698 (fun y hy => .inl hy); obtain ⟨hbm, hjm, hhi0, hhi1⟩ := lF hx2 hbj1 hdash.2.1; refine aM (aD (aA (aF (aF (aC (aH (aH (aB rfl (dF rfl rfl) ?_)))))))); refine aD (aA (bJ rfl (fun hc120 => ?_) (fun hc120 => ?_)))
  ·skip
   refine aC (cH (vs := [_]) dD rfl (eV 81) rfl ?_ ?_)
   ·skip
    intro pv wp hpp; obtain ⟨rfl, hpw⟩ := hpp; exact And.intro rfl ⟨_, rfl, _, (dZ (fun h => absurd ((mM hle).2 h) hc23)).trans ((fJ (fun h => by omega)).trans (uH hx hdash hx2 (by omega))), rfl, (hE699).then hpw⟩
   intro _ _ hF; exact hF.elim
  refine bA (aA (aF (aC (aH (aH (bP (vs := [_, _]) rfl cN rfl rfl rfl rfl fun b702 w703 hO704 hs705 hw706 => ?_)))))); have hE710 := hE699.then hw706; have hB711 := hw706.blk0 hR4.blk; have hO712 := hR4.own.evo0 hw706; refine aN (vs := [_]) cO rfl (dY (es := [lo, hi]) hO704 (by simp)) rfl ?_; rintro _ w713 ⟨a1, c1, ob1, rfl, hO1, hg1, hw714⟩; have hG718 := Ge.fresh hE710 hg1; have hE719 := hE710.then hw714; have hB720 := hw714.blk0 hB711; have hO721 := hO712.evo0 hw714; refine aM (aD (aA (aQ (cE (aK rfl rfl ?_)))))
  exact ⟨_, _, (dZ (fun h => absurd ((mM hle).2 h) hc23)).trans ((fJ (fun h => by omega)).trans (uF hx hdash hx2 (by omega))), ⟨_, _, _, [(lo, hi)], rfl, hO1, hG718, (fun g hg => by rw [List.mem_singleton.1 hg]; exact ⟨hlo0, by omega, hhi1⟩), kE lo hi, by simp⟩, hE719, ⟨hB720, hO721, hR.ne⟩⟩
end Go.Proofs.YtljadkcojnlioaaGreatDoor
namespace Go.Proofs.YtljadkcojnlioaaGreatDoor
open Go.Proofs
open Go.W Go.RowKit
attribute [local irreducible] Decidable.decide
theorem tS : eM Tryz.prog 129 := ⟨_, Tryz.func129, by kernel_rfl, by kernel_rfl⟩
theorem kO {w : World} {o p : Option Nat} (h : Lt w o) (hp : Ge w p) : Apart o p := fun g h1 h2 => by have := h g h1; have := hp g h2; omega
section
variable {s : ByteArray} {f i j : Nat} {fst : Bool} {S T : Int → Prop} {e : Int} {fl : Fl}
theorem its_end (h : s.size ≤ i) : iT s (f + 1) fst S i = .error 81 := by rw [iT, if_pos h]
theorem NR (h : i < s.size) (h2 : sb s i = 93) : iT s (f + 1) false S i = .ok (S, i + 1) := by rw [iT, if_neg (by omega), if_pos ⟨rfl, h2⟩]
theorem IP (h : i < s.size) (h2 : ¬ (fst = false ∧ sb s i = 93)) (h3 : kW s i = .error e) : iT s (f + 1) fst S i = .error e := by rw [iT, if_neg (by omega), if_neg h2, h3]
theorem NS (h : i < s.size) (h2 : ¬ (fst = false ∧ sb s i = 93)) (h3 : kW s i = .ok (T, j)) : iT s (f + 1) fst S i = iT s f false (unS S T) j := by rw [iT, if_neg (by omega), if_neg h2, h3]
theorem BL (h : iT s (s.size + 1) true (fun _ => False) (if isB s i 94 then i + 1 else i) = .error e) : lS s fl i = .error e := by unfold lS; rw [h]
theorem BK (h : iT s (s.size + 1) true (fun _ => False) (if isB s i 94 then i + 1 else i) = .ok (S, j)) :
    lS s fl i = .ok (lP (if isB s i 94 then wD (if fl.fold = true then qA S else S) else if fl.fold = true then qA S else S), j) := by unfold lS; rw [h]
end
structure ClG where
  f : Nat
  i : Nat
  n : Nat
  fst : Bool
  S : Int → Prop
  l : List (Int × Int)
  sa : Option Addr
  sc : Nat
  so : Option Nat
structure ClI (w wr : World) (b : Nat) (s : ByteArray) (st : PS) (a : Option Addr) (c : Nat) (ob : Option Nat) (b2 i0 : Nat) (x : ClG) : Prop where
  hr : RdAt wr b s (iG st x.i) a c ob
  bd : Bd s x.i
  eq : iT s (s.size + 1) true (fun _ => False) i0 = iT s x.f x.fst x.S x.i
  hf : s.size + 1 ≤ x.f + x.i
  own : OwnS wr 56 2 x.sa x.n x.sc (eN x.l) x.so
  ge : Ge w x.so
  vr : Vr x.l
  hS : ∀ c, InR c x.l ↔ x.S c
  len : x.n ≤ 16 * x.i
  hb2 : wr.heap[b2]? = some (.cells #[iv 0, .int .i32 0, .slice none 0 0, iv 0, iv 0, .bool false, iv 0, .string ByteArray.empty, .slice none 0 0] 27 (0, 0))
  g2 : Ge w (some b2)
  a2 : Apart (some b2) x.so
theorem un_in {l m : List (Int × Int)} {S T : Int → Prop} (h1 : ∀ c, InR c l ↔ S c) (h2 : ∀ c, InR c m ↔ T c) (c : Int) : InR c (l ++ m) ↔ unS S T c := by rw [mT, h1, h2]; exact Iff.rfl
theorem OQ {w : World} {b : Nat} {s : ByteArray} {st : PS} {a : Option Addr} {c : Nat} {ob : Option Nat} (hR : RdAt w b s st a c ob) (hs : s.size ≤ 10000) (hb : Bd s st.pos) (hG : Glb w) :
    Calls Tryz.prog 110 #[.pointer (some ⟨b, 0, none⟩)] w (RetP (fun v w' => ∃ x j, lS s st.now st.pos = .ok (x, j) ∧ TOut w w' v x ∧ Evo [b] w w' ∧ RdAt w' b s (iG st j) a c ob) (fun v w' => ∃ e, lS s st.now st.pos = .error e ∧ v = flt e ∧ Evo [b] w w')) := by
  have hap := hR.ap; have hgb : nO ∉ [b] := fun h => hR.glb hG (List.mem_singleton.1 h).symm; have hbw : Lt w (some b) := Lt.blk hR.blk; have how : Lt w ob := Lt.own hR.own; refine bL (N := 41) Tryz.func110 rfl rfl rfl ?_; refine aF (aC (dN rfl fE fun b2 w1 hB2 hs3 hw4 => ?_)); have hsz_b2 := hs3; have hA5 := Apart.new (Lt.blk hR.blk) hs3; have hG7 := Ge.new (Evo.refl [b] w) hs3; have hE8 := (Evo.refl [b] w).then hw4; have hB9 := hw4.blk0 hR.blk; have hO10 := hR.own.evo0 hw4; refine aD (aA (aF (aC (aH ?_)))); refine aN (vs := [_, _]) iF rfl (lD ⟨hB9, hO10, hR.ne⟩ (by omega) 94 (by decide)) rfl ?_; rintro _ w11 ⟨rfl, hw12, hR1⟩; have hE13 := hE8.step hw12 (fun y hy => .inl hy); have hB14 := hw12.blk hB2 ((by first | exact hA5.symm.own1 | exact hA5.symm.nmem1)); refine aM (aD (aA (aF ?_)))
  have hR1' : RdAt w11 b s (iG st (if isB s st.pos 94 then st.pos + 1 else st.pos)) a c ob := by by_cases h94 : isB s st.pos 94; { rw [if_pos h94] at hR1 ⊢; exact hR1 }; { rw [if_neg h94] at hR1 ⊢; exact hR1 }
  generalize hi0 : (if isB s st.pos 94 then st.pos + 1 else st.pos) = i0 at *
  have hbd0 : Bd s i0 := by rw [← hi0]; split; (rename_i h94; exact h94.asc (by decide) hb); exact hb
  refine aC (aM (aD (aA (aF (aF (aC (aM (aD (aA (bX ?_))))))))))
  refine eT (α := ClG) (⟨s.size + 1, i0, 0, true, fun _ => False, [], none, 0, none⟩) (fun x => [(4, .slice x.sa x.n x.sc), (5, .bool x.fst)]) [(0, _), (2, _), (3, _)] (fun x wr => Evo [b] w wr ∧ (ClI w wr b s st a c ob b2 i0 x)) (fun x => x.f) ⟨rfl, rfl, trivial⟩ ⟨rfl, rfl, rfl, trivial⟩ ⟨hE13, ⟨hR1', hbd0, rfl, by show s.size + 1 ≤ s.size + 1 + i0; omega, OwnS.nil _ _ _, Ge.nil _, fun g hg => (by cases hg), fun c => ⟨fun h => (mE c h).elim, False.elim⟩, Nat.zero_le _, hB14, hG7, Apart.nil _⟩⟩ ?_
  rintro ⟨f, i, n, fst, S, l, sa, sc, so⟩ wr15 ⟨hV16, ⟨hR9, hbi, heq, hfi, hown, hge, hvr, hSl, hlen, hb2, hg2, ha2⟩⟩; show CW _ _ _ _ [(4, .slice sa n sc), (5, .bool fst), (0, _), (2, _), (3, _)] _
  try dsimp only at hR9
  try dsimp only at hbi
  try dsimp only at heq
  try dsimp only at hfi
  try dsimp only at hown
  try dsimp only at hge
  try dsimp only at hvr
  try dsimp only at hSl
  try dsimp only at hlen
  try dsimp only at hb2
  try dsimp only at hg2
  try dsimp only at ha2
  have hil := hbi.le; have hA1 : Apart (some b) so := kO hbw hge; have hA2 : Apart ob so := kO how hge; have hA3 : Apart (some b) (some b2) := kO hbw hg2; have hA4 : Apart ob (some b2) := kO how hg2; have hpi : (iG st i).pos = i := rfl; obtain ⟨f', hff⟩ : ∃ f', f = f' + 1 := ⟨f - 1, by omega⟩; refine aF (bX (aF (aF ?_))); refine fN (by kernel_rfl) (by kernel_rfl) ?_; refine aW rfl (fun _ hq18 => bM rfl) ?_; refine aW rfl (fun _ hq18 => aR rfl) ?_; refine aW rfl (fun _ hq18 => aE rfl bK) ?_; refine aW rfl (fun _ hq18 => aI rfl aU (aJ (hq18.blk0 hR9.blk) rfl)) ?_; refine aW rfl (fun _ hq18 => bM rfl) ?_; refine aW rfl (fun _ hq18 => aR rfl) ?_; refine aW rfl (fun _ hq18 => aE rfl dO) ?_; refine aW rfl (fun _ hq18 => aI rfl cR (aJ (hq18.blk0 hR9.blk) rfl)) ?_; refine aW rfl (fun _ hq18 => cX rfl Tryz.underlying9 rfl) ?_; refine aW rfl (fun _ hq18 => bC rfl rfl) ?_; refine fR (fun wq17 hq18 => aA ?_); have hE19 := hV16.then hq18; have hB20 := hq18.blk0 hR9.blk; have hO21 := hR9.own.evo0 hq18; have hO22 := hown.evo0 hq18; have hB23 := hq18.blk0 hb2; refine bJ rfl (fun hc17 => ?_) (fun hc17 => ?_)
  ·skip
   refine aC (cH (vs := [_]) dD rfl (eV 81) rfl ?_ ?_)
   ·skip
    intro pv wp hpp; obtain ⟨rfl, hpw⟩ := hpp
    exact And.intro rfl ⟨_, rfl, _, BL (by rw [hi0, heq, hff]; exact its_end (by omega)), rfl, (hE19).then hpw⟩
   intro _ _ hF; exact hF.elim
  have hii : i < s.size := by omega
  refine bA (aA (aF (aF (aC (aH (aB rfl (eO rfl) ?_)))))); refine aH (gW (t := 21) rfl (fun hs21 => ?_) (fun hs21 => ?_))
  ·skip
   replace hs21 := congrArg Bool.not hs21; simp only [Bool.not_not, Bool.not_true, Bool.not_false] at hs21; subst hs21
   refine aP (aH (aP ?_)); refine aN (vs := [_, _]) iF rfl (lD ⟨hB20, hO21, hR9.ne⟩ (by omega) 93 (by decide)) rfl ?_; rintro _ w26 ⟨rfl, hw27, hR2⟩; have hE28 := hE19.step hw27 (fun y hy => .inl hy); have hB29 := hO22.evo hw27 ((by first | exact hA1.symm.own1 | exact hA1.symm.nmem1)); have hB30 := hw27.blk hB23 ((by first | exact hA3.symm.own1 | exact hA3.symm.nmem1)); refine bD (aD (aA (bJ rfl (fun hc24 => ?_) (fun hc24 => ?_))))
   ·skip
    rw [if_pos hc24] at hR2; have hst := (heq.trans (congrArg (fun f => iT s f false S i) hff)).trans (NR hii hc24.2); have hn9 := pJ hown; subst hn9; refine dT (cK (BF rfl (cK (cK (dS (aA ?_)))))); refine aF (aF (aC (aH (aB rfl (aR rfl) (aB rfl (aE rfl eX) (aB rfl (aE rfl pW) (aB rfl (aI rfl eF (aJ hR2.blk rfl)) (aD (aA (fB rfl (fun hc33 => ?_) (fun hc33 => ?_)))))))))))
    ·skip
     replace hc33 : st.now.fold = true := hc33; refine aC (aH ?_); refine aN (vs := [_]) tR rfl (zO hB29 hvr (by omega) hSl) rfl ?_; rintro rv w31 ⟨a4, c4, ob4, rfl, hO4, hg4, hl4, hcan4, heq4, hw32⟩; have hE38 := hE28.then hw32; have hB40 := hw32.blk0 hB30; have hB41 := hw32.blk0 hR2.blk; have hO42 := hR2.own.evo0 hw32; refine aM (aD (aA (aF (aF (aC (aH (aD (aA (bJ rfl (fun hc36 => ?_) (fun hc36 => ?_))))))))))
     ·skip
      refine aC (aH ?_); refine aN (vs := [_]) kL rfl (lV hO4 (uP hcan4) (by omega) heq4) rfl ?_; rintro rv w43 ⟨a5, c5, ob5, rfl, hO5, hg5, hl5, hcan5, heq5, hw44⟩; have hE51 := hE38.then hw44; have hB53 := hw44.blk0 hB40; have hB54 := hw44.blk0 hB41; have hO55 := hO42.evo0 hw44; refine aM (aD (aA (aF (aC (aH ?_))))); refine aN (vs := [_]) iM rfl (mS hO5 (uP hcan5) (by omega) heq5) rfl ?_; rintro rv w57 ⟨hT9, hw58⟩; have hV9 := hE51; have hb29 := fT hB53; have hE59 := hE51.then hw58; have hB61 := hw58.blk0 hB53; have hB62 := hw58.blk0 hB54; have hO63 := hO55.evo0 hw58; obtain ⟨vs9, bs9, rfl, hOT, hFr⟩ := hT9; obtain ⟨ra, rc, ka, kc, rfl⟩ := id hOT.nine; refine bQ rfl rfl bG hB61 rfl rfl ⟨rfl, rfl, rfl, rfl, rfl, rfl, rfl, rfl, rfl, trivial⟩ fun w65 hB66 hw67 => ?_; have hE68 := hE59.step hw67 hg2.mem1; have hE69 := (Evo.refl ([b2]) w57).step hw67 (fun y hy => .inl hy); have hB71 := hw67.blk hB62 hA3.nmem1; have hO72 := hO63.evo hw67 hA4.own1
      try simp only [dB, Nat.reduceAdd] at hB66
      refine aD (aA (aQ (cE (dM rfl (ResOk.cellA rfl bS bG hB66 rfl) ?_))))
      have hcl := BK (fl := st.now) (by rw [hi0]; exact hst)
      rw [if_pos hc36, if_pos hc33] at hcl; refine ⟨_, _, hcl, ⟨_, bs9, rfl, hOT.evo hE69 (fun q hq h => ?_), hFr.older hV9.size⟩, hE68, ⟨hB71, hO72, hR2.ne⟩⟩
      have := hFr.ge q hq; rw [List.mem_singleton.1 h] at this; omega
     refine bA (aA (aF (aC (aH ?_)))); refine aN (vs := [_]) iM rfl (mS hO4 (uP hcan4) (by omega) heq4) rfl ?_; rintro rv w74 ⟨hT9, hw75⟩; have hV9 := hE38; have hb29 := fT hB40; have hE76 := hE38.then hw75; have hB78 := hw75.blk0 hB40; have hB79 := hw75.blk0 hB41; have hO80 := hO42.evo0 hw75; obtain ⟨vs9, bs9, rfl, hOT, hFr⟩ := hT9; obtain ⟨ra, rc, ka, kc, rfl⟩ := id hOT.nine; refine bQ rfl rfl bG hB78 rfl rfl ⟨rfl, rfl, rfl, rfl, rfl, rfl, rfl, rfl, rfl, trivial⟩ fun w82 hB83 hw84 => ?_; have hE85 := hE76.step hw84 hg2.mem1; have hE86 := (Evo.refl ([b2]) w74).step hw84 (fun y hy => .inl hy); have hB88 := hw84.blk hB79 hA3.nmem1; have hO89 := hO80.evo hw84 hA4.own1
     try simp only [dB, Nat.reduceAdd] at hB83
     refine aD (aA (aQ (cE (dM rfl (ResOk.cellA rfl bS bG hB83 rfl) ?_))))
     have hcl := BK (fl := st.now) (by rw [hi0]; exact hst)
     rw [if_neg hc36, if_pos hc33] at hcl; refine ⟨_, _, hcl, ⟨_, bs9, rfl, hOT.evo hE86 (fun q hq h => ?_), hFr.older hV9.size⟩, hE85, ⟨hB88, hO89, hR2.ne⟩⟩
     have := hFr.ge q hq; rw [List.mem_singleton.1 h] at this; omega
    replace hc33 : st.now.fold = false := hc33; refine bA (aA (aF (aF (aC (aH (aD (aA (bJ rfl (fun hc36 => ?_) (fun hc36 => ?_)))))))))
    ·skip
     refine aC (aH ?_); refine aN (vs := [_]) kL rfl (lV hB29 hvr (by omega) hSl) rfl ?_; rintro rv w91 ⟨a5, c5, ob5, rfl, hO5, hg5, hl5, hcan5, heq5, hw92⟩; have hE98 := hE28.then hw92; have hB100 := hw92.blk0 hB30; have hB101 := hw92.blk0 hR2.blk; have hO102 := hR2.own.evo0 hw92; refine aM (aD (aA (aF (aC (aH ?_))))); refine aN (vs := [_]) iM rfl (mS hO5 (uP hcan5) (by omega) heq5) rfl ?_; rintro rv w103 ⟨hT9, hw104⟩; have hV9 := hE98; have hb29 := fT hB100; have hE105 := hE98.then hw104; have hB107 := hw104.blk0 hB100; have hB108 := hw104.blk0 hB101; have hO109 := hO102.evo0 hw104; obtain ⟨vs9, bs9, rfl, hOT, hFr⟩ := hT9; obtain ⟨ra, rc, ka, kc, rfl⟩ := id hOT.nine; refine bQ rfl rfl bG hB107 rfl rfl ⟨rfl, rfl, rfl, rfl, rfl, rfl, rfl, rfl, rfl, trivial⟩ fun w111 hB112 hw113 => ?_; have hE114 := hE105.step hw113 hg2.mem1; have hE115 := (Evo.refl ([b2]) w103).step hw113 (fun y hy => .inl hy); have hB117 := hw113.blk hB108 hA3.nmem1; have hO118 := hO109.evo hw113 hA4.own1
     try simp only [dB, Nat.reduceAdd] at hB112
     refine aD (aA (aQ (cE (dM rfl (ResOk.cellA rfl bS bG hB112 rfl) ?_))))
     have hcl := BK (fl := st.now) (by rw [hi0]; exact hst)
     rw [if_pos hc36, if_neg (show ¬ st.now.fold = true by simp [hc33])] at hcl; refine ⟨_, _, hcl, ⟨_, bs9, rfl, hOT.evo hE115 (fun q hq h => ?_), hFr.older hV9.size⟩, hE114, ⟨hB117, hO118, hR2.ne⟩⟩
     have := hFr.ge q hq; rw [List.mem_singleton.1 h] at this; omega
    refine bA (aA (aF (aC (aH ?_)))); refine aN (vs := [_]) iM rfl (mS hB29 hvr (by omega) hSl) rfl ?_; rintro rv w120 ⟨hT9, hw121⟩; have hV9 := hE28; have hb29 := fT hB30; have hE122 := hE28.then hw121; have hB124 := hw121.blk0 hB30; have hB125 := hw121.blk0 hR2.blk; have hO126 := hR2.own.evo0 hw121; obtain ⟨vs9, bs9, rfl, hOT, hFr⟩ := hT9; obtain ⟨ra, rc, ka, kc, rfl⟩ := id hOT.nine; refine bQ rfl rfl bG hB124 rfl rfl ⟨rfl, rfl, rfl, rfl, rfl, rfl, rfl, rfl, rfl, trivial⟩ fun w127 hB128 hw129 => ?_; have hE130 := hE122.step hw129 hg2.mem1; have hE131 := (Evo.refl ([b2]) w120).step hw129 (fun y hy => .inl hy); have hB133 := hw129.blk hB125 hA3.nmem1; have hO134 := hO126.evo hw129 hA4.own1
    try simp only [dB, Nat.reduceAdd] at hB128
    refine aD (aA (aQ (cE (dM rfl (ResOk.cellA rfl bS bG hB128 rfl) ?_))))
    have hcl := BK (fl := st.now) (by rw [hi0]; exact hst)
    rw [if_neg hc36, if_neg (show ¬ st.now.fold = true by simp [hc33])] at hcl; refine ⟨_, _, hcl, ⟨_, bs9, rfl, hOT.evo hE131 (fun q hq h => ?_), hFr.older hV9.size⟩, hE130, ⟨hB133, hO134, hR2.ne⟩⟩
    have := hFr.ge q hq; rw [List.mem_singleton.1 h] at this; omega
   rw [if_neg hc24] at hR2; refine bA (aA (aC (aH (aH ?_)))); refine cH (vs := [_]) tS rfl (IQ ⟨hR2.blk, hR2.own, hR2.ne⟩ (by omega) hii hbi (hG.evo hE28 hgb)) rfl ?_ ?_
   ·skip
    intro pv wp hpp; obtain ⟨e9, hpe, rfl, hpw⟩ := hpp
    exact And.intro rfl ⟨_, rfl, _, BL (by rw [hi0, heq, hff]; exact IP hii (fun h => hc24 ⟨hii, h.2⟩) hpe), rfl, (hE28).step hpw (fun y hy => .inl hy)⟩
   rintro rv w135 ⟨T, j, hx, hT, hw136, hR3⟩; obtain ⟨a3, c3, ob3, li, rfl, hO3, hg3, hv3, hS3, hl3⟩ := hT; have hE142 := hE28.step hw136 (fun y hy => .inl hy); have hB143 := hB29.evo hw136 ((by first | exact hA1.symm.own1 | exact hA1.symm.nmem1)); have hB144 := hw136.blk hB30 ((by first | exact hA3.symm.own1 | exact hA3.symm.nmem1)); obtain ⟨hbj, hij⟩ := AO hx hbi hii; have hjl := hbj.le; refine dX rfl rfl rfl rfl gS hB143 (Src.ofOwn hO3 (pH li)) (by omega) fun a2 c2 w147 ob2 hO2 hw150 hob151 => ?_; have hA152 := ha2.app (Lt.blk hB144) hob151; have hG156 := hge.app hE142 hob151; have hE157 := hE142.step hw150 hge.mem; have hB158 := hw150.blk hB144 ha2.nmem; have hB160 := hw150.blk hR3.blk hA1.nmem; have hO161 := hR3.own.evo hw150 hA2.own; refine aM (aD (aY (aA (aC (aM (aD (bI ?_))))))); refine ⟨⟨f', j, n + li.length, false, unS S T, l ++ li, a2, c2, ob2⟩, ?_, ⟨rfl, rfl, trivial⟩, ⟨rfl, rfl, rfl, trivial⟩, hE157, ?_⟩
   · (try dsimp only); omega
   try dsimp only
   refine ⟨⟨hB160, hO161, hR3.ne⟩, hbj, ?_, (by show s.size + 1 ≤ f' + j; omega), ?_, hG156, GE hvr hv3, un_in hSl hS3, (by show n + li.length ≤ 16 * j; omega), hB158, hg2, hA152⟩
   · rw [heq, hff]; exact NS hii (fun h => hc24 ⟨hii, h.2⟩) hx
   · rw [kF]; exact hO2
  replace hs21 := congrArg Bool.not hs21; simp only [Bool.not_not, Bool.not_true, Bool.not_false] at hs21; subst hs21
  refine aG (aG (aV (aD (aA (cQ rfl ?_))))); refine bA (aA (aC (aH (aH ?_)))); refine cH (vs := [_]) tS rfl (IQ ⟨hB20, hO21, hR9.ne⟩ (by omega) hii hbi (hG.evo hE19 hgb)) rfl ?_ ?_
  ·skip
   intro pv wp hpp; obtain ⟨e9, hpe, rfl, hpw⟩ := hpp
   exact And.intro rfl ⟨_, rfl, _, BL (by rw [hi0, heq, hff]; exact IP hii (fun h => (by cases h.1)) hpe), rfl, (hE19).step hpw (fun y hy => .inl hy)⟩
  rintro rv w162 ⟨T, j, hx, hT, hw163, hR3⟩; obtain ⟨a3, c3, ob3, li, rfl, hO3, hg3, hv3, hS3, hl3⟩ := hT; have hE169 := hE19.step hw163 (fun y hy => .inl hy); have hB170 := hO22.evo hw163 ((by first | exact hA1.symm.own1 | exact hA1.symm.nmem1)); have hB171 := hw163.blk hB23 ((by first | exact hA3.symm.own1 | exact hA3.symm.nmem1)); obtain ⟨hbj, hij⟩ := AO hx hbi hii; have hjl := hbj.le; refine dX rfl rfl rfl rfl gS hB170 (Src.ofOwn hO3 (pH li)) (by omega) fun a2 c2 w174 ob2 hO2 hw177 hob178 => ?_; have hA179 := ha2.app (Lt.blk hB171) hob178; have hG183 := hge.app hE169 hob178; have hE184 := hE169.step hw177 hge.mem; have hB185 := hw177.blk hB171 ha2.nmem; have hB187 := hw177.blk hR3.blk hA1.nmem; have hO188 := hR3.own.evo hw177 hA2.own; refine aM (aD (aY (aA (aC (aM (aD (bI ?_))))))); refine ⟨⟨f', j, n + li.length, false, unS S T, l ++ li, a2, c2, ob2⟩, ?_, ⟨rfl, rfl, trivial⟩, ⟨rfl, rfl, rfl, trivial⟩, hE184, ?_⟩
  · (try dsimp only); omega
  try dsimp only
  refine ⟨⟨hB187, hO188, hR3.ne⟩, hbj, ?_, (by show s.size + 1 ≤ f' + j; omega), ?_, hG183, GE hvr hv3, un_in hSl hS3, (by show n + li.length ≤ 16 * j; omega), hB185, hg2, hA179⟩
  · rw [heq, hff]; exact NS hii (fun h => (by cases h.1)) hx
  · rw [kF]; exact hO2
end Go.Proofs.YtljadkcojnlioaaGreatDoor
namespace Go.Proofs.YtljadkcojnlioaaGreatDoor
open Go.Proofs
open Go.W Go.RowKit
attribute [local irreducible] Decidable.decide
theorem tW : eM Tryz.prog 108 := ⟨_, Tryz.func108, by kernel_rfl, by kernel_rfl⟩
theorem xE {r : ByteArray} : ∀ {f i : Nat} {n : Int}, 0 ≤ n → n ≤ 1001 → i ≤ r.size → 0 ≤ (jQ r f i n).1 ∧ (jQ r f i n).1 ≤ 1001 ∧ i ≤ (jQ r f i n).2 ∧ (jQ r f i n).2 ≤ r.size
  | 0, i, n, h0, h1, hi => ⟨h0, h1, Nat.le_refl _, hi⟩
  | f + 1, i, n, h0, h1, hi => by
    rw [jQ]
    split
    · rename_i h
      have h2 : 48 ≤ sb r i ∧ sb r i ≤ 57 := h.2
      obtain ⟨i1, i2, i3, i4⟩ := xE (r := r) (f := f) (i := i + 1) (n := min (n * 10 + ((sb r i : Int) - 48)) 1001) (by omega) (by omega) (by omega)
      exact ⟨i1, i2, by omega, i4⟩
    · exact ⟨h0, h1, Nat.le_refl _, hi⟩
theorem pNum_go {r : ByteArray} {f i : Nat} {n : Int} (h : i < r.size) (h2 : 48 ≤ sb r i) (h3 : sb r i ≤ 57) : jQ r (f + 1) i n = jQ r f (i + 1) (min (n * 10 + ((sb r i : Int) - 48)) 1001) := by rw [jQ, if_pos ⟨h, h2, h3⟩]
theorem xD {r : ByteArray} {f i : Nat} {n : Int} (h : ¬ (i < r.size ∧ digN (sb r i))) : jQ r f i n = (n, i) := by
  cases f with
  | zero => rfl
  | succ f => rw [jQ, if_neg h]
structure NuG where
  f : Nat
  i : Nat
  n : Int
structure NuI (r : ByteArray) (i0 : Nat) (x : NuG) : Prop where
  hi : x.i ≤ r.size
  n0 : 0 ≤ x.n
  n1 : x.n ≤ 1001
  hf : r.size ≤ x.f + x.i
  eq : jQ r r.size i0 0 = jQ r x.f x.i x.n
theorem zG {w : World} (r : ByteArray) (i0 : Nat) (hi : i0 ≤ r.size) (hs : r.size ≤ 1000000) :
    Calls Tryz.prog 108 #[.string r, .int .i64 (i0 : Nat)] w (Ret fun v w' => v = .tuple #[iv (jQ r r.size i0 0).1, iv ((jQ r r.size i0 0).2 : Nat)] ∧ Evo [] w w') := by
  refine bL (N := 36) Tryz.func108 rfl rfl rfl ?_; refine aF (aC (aM (aM (aD (aA (aF (aC (aM (aD (aA (aF (bX ?_))))))))))))
  refine eT (α := NuG) (⟨r.size, i0, 0⟩) (fun x => [(6, .int .i64 x.n), (1, .int .i64 (x.i : Nat))]) [(0, _), (4, _), (5, _)] (fun x wr => Evo [] w wr ∧ (NuI r i0 x)) (fun x => x.f) ⟨rfl, rfl, trivial⟩ ⟨rfl, rfl, rfl, trivial⟩ ⟨(Evo.refl [] w), ⟨hi, Int.le_refl _, (by show (0 : Int) ≤ 1001; omega), Nat.le_add_right _ _, rfl⟩⟩ ?_
  rintro ⟨f, i, n⟩ wr1 ⟨hV2, ⟨hi1, hn0, hn1, hf, heq⟩⟩; show CW _ _ _ _ [(6, .int .i64 n), (1, .int .i64 (i : Nat)), (0, _), (4, _), (5, _)] _
  try dsimp only at hi1
  try dsimp only at hn0
  try dsimp only at hn1
  try dsimp only at hf
  try dsimp only at heq
  have hb := jB r i; refine aF (aF (aC (aH (aH (aB rfl (cX rfl Tryz.underlying9 rfl) ?_))))); refine aB rfl (dF rfl rfl) ?_; refine aH (aX (t := 11) rfl (fun hs11 => ?_) (fun hs11 => ?_))
  ·skip
   refine aP (aH (aP (aH (aP ?_)))); refine aB rfl (gA (n := i) rfl rfl Tryz.underlying9 rfl (by omega)) ?_; refine aP (aB rfl (fD rfl rfl) ?_); refine bD (aH (aX (t := 17) rfl (fun hs17 => ?_) (fun hs17 => ?_)))
   ·skip
    refine aP (aH (aP (aH (aP ?_)))); refine aB rfl (gA (n := i) rfl rfl Tryz.underlying9 rfl (by omega)) ?_; refine aP (aB rfl (fM rfl rfl) ?_); refine bD (aD (aA (bJ rfl (fun hc22 => ?_) (fun hc22 => ?_))))
    ·skip
     refine bA (aA (bX (aF (aC (aH ?_))))); refine aB rfl (sJ rfl rfl (by omega) (by omega)) ?_; refine aH (aH ?_); refine aB rfl (gA (n := i) rfl rfl Tryz.underlying9 rfl (by omega)) ?_; refine aB rfl (kZ rfl rfl (by omega) (by omega)) ?_; refine aB rfl (iX rfl Tryz.underlying5 Tryz.underlying3 (rQ (by omega) (by omega)).1 (rQ (by omega) (by omega)).2) ?_; refine aB rfl (bF rfl rfl (by omega) (by omega)) ?_; refine aB rfl (BG rfl rfl) ?_; rw [xK]; refine aM (aD (aA (aC (aH ?_)))); refine aB rfl (bF rfl rfl (by omega) (by omega)) ?_; refine aM (aD (aY (bI ?_))); refine ⟨⟨f - 1, i + 1, min (n * 10 + ((sb r i : Int) - 48)) 1001⟩, ?_, ⟨rfl, rfl, trivial⟩, ⟨rfl, rfl, rfl, trivial⟩, hV2, ?_⟩
     · (try dsimp only); show f - 1 < f; omega
     try dsimp only
     have hf2 : f = f - 1 + 1 := by omega
     exact ⟨(by show i + 1 ≤ r.size; omega), (by show 0 ≤ min _ _; omega), (by show min _ _ ≤ _; omega), (by show r.size ≤ f - 1 + (i + 1); omega), heq.trans (by rw [hf2]; exact pNum_go (by omega) (by omega) (by omega))⟩
    refine dT (cK (cK (dS (aA ?_)))); refine aF (aC (aH (aH (aM (aM (aD (aA (aQ (dE rfl rfl rfl ?_)))))))))
    have hend := heq.trans (xD (by rintro ⟨h1, h2, h3⟩; omega))
    rw [hend]; exact ⟨rfl, hV2⟩
   refine aG (aG (aG (aG (aV (aD (aA (cQ rfl ?_))))))); refine dT (cK (cK (dS (aA ?_)))); refine aF (aC (aH (aH (aM (aM (aD (aA (aQ (dE rfl rfl rfl ?_)))))))))
   have hend := heq.trans (xD (by rintro ⟨h1, h2, h3⟩; omega))
   rw [hend]; exact ⟨rfl, hV2⟩
  refine aG (aG (aG (aG (aV (aH (aG (aG (aG (aG (aV (aD (aA (cQ rfl ?_))))))))))))); refine dT (cK (cK (dS (aA ?_)))); refine aF (aC (aH (aH (aM (aM (aD (aA (aQ (dE rfl rfl rfl ?_)))))))))
  have hend := heq.trans (xD (by rintro ⟨h1, h2, h3⟩; omega))
  rw [hend]; exact ⟨rfl, hV2⟩
section
variable {r : ByteArray}
theorem IA (h : sb r 0 = 42) : mR r = (0, -1, 1) := by unfold mR; rw [if_pos h]
theorem IB (h : sb r 0 = 43) : mR r = (1, -1, 1) := by unfold mR; rw [if_neg (by omega), if_pos h]
theorem pr_qu (h : sb r 0 = 63) : mR r = (0, 1, 1) := by unfold mR; rw [if_neg (by omega), if_neg (by omega), if_pos h]
theorem ML (h : ¬ sb r 0 = 42) (h2 : ¬ sb r 0 = 43) (h3 : ¬ sb r 0 = 63) (h4 : ¬ sb r 0 = 123) : mR r = (0, 0, 0) := by unfold mR; rw [if_neg h, if_neg h2, if_neg h3, if_pos h4]
theorem pr_br (h : sb r 0 = 123) {lo : Int} {i : Nat} (h2 : jQ r r.size 1 0 = (lo, i)) : mR r = if 1 < i ∧ isB r i 44 then (if isB r (jQ r r.size (i + 1) 0).2 125 then (lo, (if (jQ r r.size (i + 1) 0).2 = i + 1 then -1 else (jQ r r.size (i + 1) 0).1), (jQ r r.size (i + 1) 0).2 + 1) else (0, 0, 0))
    else if i = 1 ∨ ¬ isB r i 125 then (0, 0, 0) else (lo, lo, i + 1) := by
  unfold mR
  rw [if_neg (by omega), if_neg (by omega), if_neg (by omega), if_neg (by omega), h2]
end
theorem mQ {p : Int × Int × Nat} {a b : Int} {c : Nat} (h : p = (a, b, c)) : (Value.tuple #[iv a, iv b, iv (c : Nat)]) = .tuple #[iv p.1, iv p.2.1, iv (p.2.2 : Nat)] := by rw [h]
theorem GK {w : World} {b : Nat} {s : ByteArray} {st : PS} {a : Option Addr} {c : Nat} {ob : Option Nat} (hR : RdAt w b s st a c ob) (hs : s.size ≤ 1000000) (hlt : st.pos < s.size) :
    Calls Tryz.prog 86 #[.pointer (some ⟨b, 0, none⟩)] w (Ret fun v w' => v = .tuple #[iv (mR (s.extract st.pos s.size)).1, iv (mR (s.extract st.pos s.size)).2.1, iv ((mR (s.extract st.pos s.size)).2.2 : Nat)] ∧ Evo [] w w') := by
  have hap := hR.ap; have hrs := gI (s := s) (a := st.pos) (Nat.le_refl s.size); refine bL (N := 78) Tryz.func86 rfl rfl rfl ?_; refine aF (aC (aM (aM (aM (aD (aA (aF ?_))))))); refine fN (by kernel_rfl) (by kernel_rfl) ?_; refine aW rfl (fun _ hq2 => bM rfl) ?_; refine aW rfl (fun _ hq2 => aR rfl) ?_; refine aW rfl (fun _ hq2 => aE rfl dO) ?_; refine aW rfl (fun _ hq2 => aI rfl cR (aJ (hq2.blk0 hR.blk) rfl)) ?_; refine aW rfl (fun _ hq2 => bM rfl) ?_; refine aW rfl (fun _ hq2 => aR rfl) ?_; refine aW rfl (fun _ hq2 => aE rfl bK) ?_; refine aW rfl (fun _ hq2 => aI rfl aU (aJ (hq2.blk0 hR.blk) rfl)) ?_; refine aW rfl (fun _ hq2 => gX (l := st.pos) rfl rfl Tryz.underlying9 rfl (by omega)) ?_; refine aW rfl (fun _ hq2 => eE rfl) ?_; refine fR (fun wq1 hq2 => aA ?_); have hE3 := (Evo.refl [] w).then hq2; refine aF (aF ?_)
  generalize s.extract st.pos s.size = r at *
  refine aC (aH ?_); refine aB rfl (gA (n := 0) rfl rfl Tryz.underlying9 rfl (by omega)) ?_; refine aD (aA (bX (aF (aC (aB rfl (bC rfl rfl) ?_))))); refine aM (aD (aA (bJ rfl (fun hc21 => ?_) (fun hc21 => ?_))))
  ·skip
   refine aF (aC (aM (aM (aM (aD (aA (aQ (aZ (aO (fH rfl rfl rfl rfl ?_)))))))))); exact ⟨mQ (IA (by omega)), hE3⟩
  refine aF (aC (aB rfl (bC rfl rfl) ?_)); refine aM (aD (aA (bJ rfl (fun hc23 => ?_) (fun hc23 => ?_))))
  ·skip
   refine aF (aC (aM (aM (aM (aD (aA (aQ (aZ (aO (fH rfl rfl rfl rfl ?_)))))))))); exact ⟨mQ (IB (by omega)), hE3⟩
  refine aF (aC (aB rfl (bC rfl rfl) ?_)); refine aM (aD (aA (bJ rfl (fun hc25 => ?_) (fun hc25 => ?_))))
  ·skip
   refine aF (aC (aM (aM (aM (aD (aA (aQ (aZ (aO (fH rfl rfl rfl rfl ?_)))))))))); exact ⟨mQ (pr_qu (by omega)), hE3⟩
  refine aF (aC (aB rfl (bC rfl rfl) ?_)); refine aM (aD (aA (bJ rfl (fun hc27 => ?_) (fun hc27 => ?_))))
  ·skip
   refine bA (aY (aA (aF (aC (aH ?_))))); refine aN (vs := [_, _]) tW rfl (zG r 1 (by omega) (by omega)) rfl ?_; rintro _ w6 ⟨rfl, hw7⟩; obtain ⟨lo, i, hp1⟩ : ∃ lo i, jQ r r.size 1 0 = (lo, i) := ⟨_, _, rfl⟩; have hb1 := xE (r := r) (f := r.size) (i := 1) (n := 0) (by omega) (by omega) (by omega); have hbr := pr_br (r := r) (by omega) hp1; rw [hp1] at hb1 ⊢; simp only at hb1; have hE8 := hE3.then hw7; refine aH (aB rfl (dC rfl rfl) ?_); refine aB rfl (dC rfl rfl) ?_; refine aM (aM (aD (aA (aF (aC (aH (aM (aD (aA (aF (aF (aC (aH (aB rfl (eZ rfl rfl) ?_)))))))))))))); refine aH (aX (t := 37) rfl (fun hs37 => ?_) (fun hs37 => ?_))
   ·skip
    refine aP (aH (aP (aH (aP (aB rfl (cX rfl Tryz.underlying9 rfl) ?_))))); refine aP (aB rfl (dF rfl rfl) ?_); refine bD (aH (aX (t := 43) rfl (fun hs43 => ?_) (fun hs43 => ?_)))
    ·skip
     refine aP (aH (aP (aH (aP ?_)))); refine aB rfl (gA (n := i) rfl rfl Tryz.underlying9 rfl (by omega)) ?_; refine aP (aB rfl (bC rfl rfl) ?_); refine bD (aD (aA (bJ rfl (fun hc48 => ?_) (fun hc48 => ?_))))
     ·skip
      have hcm : 1 < i ∧ isB r i 44 := ⟨by omega, by omega, by omega⟩; refine aF (aC (aH ?_)); refine aB rfl (bF rfl rfl (by omega) (by omega)) ?_; refine aM (aD (aA (aF (aC (aH (aH ?_)))))); refine aN (vs := [_, _]) tW rfl (zG r (i + 1) (by omega) (by omega)) rfl ?_; rintro _ w11 ⟨rfl, hw12⟩; obtain ⟨hi2, m, hp2⟩ : ∃ hi2 m, jQ r r.size (i + 1) 0 = (hi2, m) := ⟨_, _, rfl⟩; have hb2 := xE (r := r) (f := r.size) (i := i + 1) (n := 0) (by omega) (by omega) (by omega); rw [if_pos hcm, hp2] at hbr; rw [hp2] at hb2 ⊢; simp only at hb2 hbr; have hE13 := hE8.then hw12; refine aH (aB rfl (dC rfl rfl) ?_); refine aB rfl (dC rfl rfl) ?_; refine aM (aM (aD (aA (aF (aC (aH (aH (aB rfl (bC rfl rfl) ?_)))))))); refine aD (aA (bJ rfl (fun hc59 => ?_) (fun hc59 => ?_)))
      ·skip
       have hmi : m = i + 1 := by omega
       refine aC (aM (aD (aA (aF (aF (aC (aH (aB rfl (bC rfl rfl) ?_)))))))); refine aH (aX (t := 62) rfl (fun hs62 => ?_) (fun hs62 => ?_))
       ·skip
        refine aG (aG (aG (aG (bD (aH (aG (aG (aG (aG (bD (aD (aA (cW rfl ?_))))))))))))); refine aF (aC (aM (aM (aM (aD (aA (aQ (aO (fH rfl rfl rfl rfl ?_)))))))))
        exact ⟨mQ (hbr.trans (if_neg (fun h => by have h1 := h.1; have h2 := h.2; omega))), hE13⟩
       refine aP (aH (aP (aH (aP (aB rfl (cX rfl Tryz.underlying9 rfl) ?_))))); refine aP (aB rfl (fD rfl rfl) ?_); refine aV (aH (aX (t := 68) rfl (fun hs68 => ?_) (fun hs68 => ?_)))
       ·skip
        refine aG (aG (aG (aG (bD (aD (aA (cW rfl ?_))))))); refine aF (aC (aM (aM (aM (aD (aA (aQ (aO (fH rfl rfl rfl rfl ?_)))))))))
        exact ⟨mQ (hbr.trans (if_neg (fun h => by have h1 := h.1; have h2 := h.2; omega))), hE13⟩
       refine aP (aH (aP (aH (aP ?_)))); refine aB rfl (gA (n := m) rfl rfl Tryz.underlying9 rfl (by omega)) ?_; refine aP (aB rfl (gJ rfl rfl) ?_); refine aV (aD (aA (bJ rfl (fun hc73 => ?_) (fun hc73 => ?_))))
       ·skip
        refine aF (aC (aM (aM (aM (aD (aA (aQ (aO (fH rfl rfl rfl rfl ?_)))))))))
        exact ⟨mQ (hbr.trans (if_neg (fun h => by have h1 := h.1; have h2 := h.2; omega))), hE13⟩
       refine bA (aA (aF (aC (aH (aH (aH ?_)))))); refine aB rfl (bF rfl rfl (by omega) (by omega)) ?_; refine aM (aM (aM (aD (aA (aQ (fH rfl rfl rfl rfl ?_)))))); exact ⟨mQ (hbr.trans ((if_pos ⟨by omega, by omega⟩).trans (by rw [if_pos hmi]))), hE13⟩
      refine bA (aA (aF (aF (aC (aH (aB rfl (bC rfl rfl) ?_)))))); refine aH (aX (t := 62) rfl (fun hs62 => ?_) (fun hs62 => ?_))
      ·skip
       refine aG (aG (aG (aG (bD (aH (aG (aG (aG (aG (bD (aD (aA (cW rfl ?_))))))))))))); refine aF (aC (aM (aM (aM (aD (aA (aQ (aO (fH rfl rfl rfl rfl ?_)))))))))
       exact ⟨mQ (hbr.trans (if_neg (fun h => by have h1 := h.1; have h2 := h.2; omega))), hE13⟩
      refine aP (aH (aP (aH (aP (aB rfl (cX rfl Tryz.underlying9 rfl) ?_))))); refine aP (aB rfl (fD rfl rfl) ?_); refine aV (aH (aX (t := 68) rfl (fun hs68 => ?_) (fun hs68 => ?_)))
      ·skip
       refine aG (aG (aG (aG (bD (aD (aA (cW rfl ?_))))))); refine aF (aC (aM (aM (aM (aD (aA (aQ (aO (fH rfl rfl rfl rfl ?_)))))))))
       exact ⟨mQ (hbr.trans (if_neg (fun h => by have h1 := h.1; have h2 := h.2; omega))), hE13⟩
      refine aP (aH (aP (aH (aP ?_)))); refine aB rfl (gA (n := m) rfl rfl Tryz.underlying9 rfl (by omega)) ?_; refine aP (aB rfl (gJ rfl rfl) ?_); refine aV (aD (aA (bJ rfl (fun hc73 => ?_) (fun hc73 => ?_))))
      ·skip
       refine aF (aC (aM (aM (aM (aD (aA (aQ (aO (fH rfl rfl rfl rfl ?_)))))))))
       exact ⟨mQ (hbr.trans (if_neg (fun h => by have h1 := h.1; have h2 := h.2; omega))), hE13⟩
      refine bA (aA (aF (aC (aH (aH (aH ?_)))))); refine aB rfl (bF rfl rfl (by omega) (by omega)) ?_; refine aM (aM (aM (aD (aA (aQ (fH rfl rfl rfl rfl ?_)))))); exact ⟨mQ (hbr.trans ((if_pos ⟨by omega, by omega⟩).trans (by rw [if_neg (by omega)]))), hE13⟩
     refine bA (aA (aF (aF (aC (aH (aB rfl (bC rfl rfl) ?_)))))); refine aH (aX (t := 62) rfl (fun hs62 => ?_) (fun hs62 => ?_))
     ·skip
      refine aG (aG (aG (aG (bD (aH (aG (aG (aG (aG (bD (aD (aA (cW rfl ?_))))))))))))); refine aF (aC (aM (aM (aM (aD (aA (aQ (aO (fH rfl rfl rfl rfl ?_)))))))))
      exact ⟨mQ (hbr.trans ((if_neg (by rintro ⟨h1, h2, h3⟩; omega)).trans (if_pos (.inl (by omega))))), hE8⟩
     refine aP (aH (aP (aH (aP (aB rfl (cX rfl Tryz.underlying9 rfl) ?_))))); refine aP (aB rfl (fD rfl rfl) ?_); refine aV (aH (aX (t := 68) rfl (fun hs68 => ?_) (fun hs68 => ?_)))
     ·skip
      refine aG (aG (aG (aG (bD (aD (aA (cW rfl ?_))))))); refine aF (aC (aM (aM (aM (aD (aA (aQ (aO (fH rfl rfl rfl rfl ?_)))))))))
      exact ⟨mQ (hbr.trans ((if_neg (by rintro ⟨h1, h2, h3⟩; omega)).trans (if_pos (.inr (fun h => by have h1 := h.1; have h2 := h.2; omega))))), hE8⟩
     refine aP (aH (aP (aH (aP ?_)))); refine aB rfl (gA (n := i) rfl rfl Tryz.underlying9 rfl (by omega)) ?_; refine aP (aB rfl (gJ rfl rfl) ?_); refine aV (aD (aA (bJ rfl (fun hc73 => ?_) (fun hc73 => ?_))))
     ·skip
      refine aF (aC (aM (aM (aM (aD (aA (aQ (aO (fH rfl rfl rfl rfl ?_)))))))))
      exact ⟨mQ (hbr.trans ((if_neg (by rintro ⟨h1, h2, h3⟩; omega)).trans (if_pos (.inr (fun h => by have h1 := h.1; have h2 := h.2; omega))))), hE8⟩
     refine bA (aA (aF (aC (aH (aH (aH ?_)))))); refine aB rfl (bF rfl rfl (by omega) (by omega)) ?_; refine aM (aM (aM (aD (aA (aQ (fH rfl rfl rfl rfl ?_))))))
     exact ⟨mQ (hbr.trans ((if_neg (by rintro ⟨h1, h2, h3⟩; omega)).trans (if_neg (by rintro (h | h); omega; exact h ⟨by omega, by omega⟩)))), hE8⟩
    refine aG (aG (aG (aG (aV (aD (aA (cQ rfl ?_))))))); refine bA (aA (aF (aF (aC (aH (aB rfl (bC rfl rfl) ?_)))))); refine aH (aX (t := 62) rfl (fun hs62 => ?_) (fun hs62 => ?_))
    ·skip
     refine aG (aG (aG (aG (bD (aH (aG (aG (aG (aG (bD (aD (aA (cW rfl ?_))))))))))))); refine aF (aC (aM (aM (aM (aD (aA (aQ (aO (fH rfl rfl rfl rfl ?_)))))))))
     exact ⟨mQ (hbr.trans ((if_neg (by rintro ⟨h1, h2, h3⟩; omega)).trans (if_pos (.inl (by omega))))), hE8⟩
    refine aP (aH (aP (aH (aP (aB rfl (cX rfl Tryz.underlying9 rfl) ?_))))); refine aP (aB rfl (fD rfl rfl) ?_); refine aV (aH (aX (t := 68) rfl (fun hs68 => ?_) (fun hs68 => ?_)))
    ·skip
     refine aG (aG (aG (aG (bD (aD (aA (cW rfl ?_))))))); refine aF (aC (aM (aM (aM (aD (aA (aQ (aO (fH rfl rfl rfl rfl ?_)))))))))
     exact ⟨mQ (hbr.trans ((if_neg (by rintro ⟨h1, h2, h3⟩; omega)).trans (if_pos (.inr (fun h => by have h1 := h.1; have h2 := h.2; omega))))), hE8⟩
    refine aP (aH (aP (aH (aP ?_)))); refine aB rfl (gA (n := i) rfl rfl Tryz.underlying9 rfl (by omega)) ?_; refine aP (aB rfl (gJ rfl rfl) ?_); refine aV (aD (aA (bJ rfl (fun hc73 => ?_) (fun hc73 => ?_))))
    ·skip
     refine aF (aC (aM (aM (aM (aD (aA (aQ (aO (fH rfl rfl rfl rfl ?_)))))))))
     exact ⟨mQ (hbr.trans ((if_neg (by rintro ⟨h1, h2, h3⟩; omega)).trans (if_pos (.inr (fun h => by have h1 := h.1; have h2 := h.2; omega))))), hE8⟩
    refine bA (aA (aF (aC (aH (aH (aH ?_)))))); refine aB rfl (bF rfl rfl (by omega) (by omega)) ?_; refine aM (aM (aM (aD (aA (aQ (fH rfl rfl rfl rfl ?_))))))
    exact ⟨mQ (hbr.trans ((if_neg (by rintro ⟨h1, h2, h3⟩; omega)).trans (if_neg (by rintro (h | h); omega; exact h ⟨by omega, by omega⟩)))), hE8⟩
   refine aG (aG (aG (aG (aV (aH (aG (aG (aG (aG (aV (aD (aA (cQ rfl ?_))))))))))))); refine bA (aA (aF (aF (aC (aH (aB rfl (bC rfl rfl) ?_)))))); refine aH (aX (t := 62) rfl (fun hs62 => ?_) (fun hs62 => ?_))
   ·skip
    refine aG (aG (aG (aG (bD (aH (aG (aG (aG (aG (bD (aD (aA (cW rfl ?_))))))))))))); refine aF (aC (aM (aM (aM (aD (aA (aQ (aO (fH rfl rfl rfl rfl ?_)))))))))
    exact ⟨mQ (hbr.trans ((if_neg (by rintro ⟨h1, h2, h3⟩; omega)).trans (if_pos (.inl (by omega))))), hE8⟩
   refine aP (aH (aP (aH (aP (aB rfl (cX rfl Tryz.underlying9 rfl) ?_))))); refine aP (aB rfl (fD rfl rfl) ?_); refine aV (aH (aX (t := 68) rfl (fun hs68 => ?_) (fun hs68 => ?_)))
   ·skip
    refine aG (aG (aG (aG (bD (aD (aA (cW rfl ?_))))))); refine aF (aC (aM (aM (aM (aD (aA (aQ (aO (fH rfl rfl rfl rfl ?_)))))))))
    exact ⟨mQ (hbr.trans ((if_neg (by rintro ⟨h1, h2, h3⟩; omega)).trans (if_pos (.inr (fun h => by have h1 := h.1; have h2 := h.2; omega))))), hE8⟩
   refine aP (aH (aP (aH (aP ?_)))); refine aB rfl (gA (n := i) rfl rfl Tryz.underlying9 rfl (by omega)) ?_; refine aP (aB rfl (gJ rfl rfl) ?_); refine aV (aD (aA (bJ rfl (fun hc73 => ?_) (fun hc73 => ?_))))
   ·skip
    refine aF (aC (aM (aM (aM (aD (aA (aQ (aO (fH rfl rfl rfl rfl ?_)))))))))
    exact ⟨mQ (hbr.trans ((if_neg (by rintro ⟨h1, h2, h3⟩; omega)).trans (if_pos (.inr (fun h => by have h1 := h.1; have h2 := h.2; omega))))), hE8⟩
   refine bA (aA (aF (aC (aH (aH (aH ?_)))))); refine aB rfl (bF rfl rfl (by omega) (by omega)) ?_; refine aM (aM (aM (aD (aA (aQ (fH rfl rfl rfl rfl ?_))))))
   exact ⟨mQ (hbr.trans ((if_neg (by rintro ⟨h1, h2, h3⟩; omega)).trans (if_neg (by rintro (h | h); omega; exact h ⟨by omega, by omega⟩)))), hE8⟩
  refine aF (aC (aM (aM (aM (aD (aA (aQ (aZ (aO (fH rfl rfl rfl rfl ?_)))))))))); exact ⟨mQ (ML (by omega) (by omega) (by omega) (by omega)), hE3⟩
end Go.Proofs.YtljadkcojnlioaaGreatDoor
namespace Go.Proofs.YtljadkcojnlioaaGreatDoor
open Go.Proofs
open Go.W Go.RowKit
attribute [local irreducible] Decidable.decide
theorem dQ : sA Tryz.prog 25 = some (27, 9) := by kernel_rfl
def KOut (w w' : World) (v : Value) (l : List Rx) : Prop := ∃ a c ob cs bs, v = .slice a l.length c ∧ OwnS w' 27 9 a l.length c cs ob ∧ OTs l w' cs bs ∧ Fr w (ob.toList ++ bs)
theorem iJ {X : List Nat} {w w1 w2 : World} {x : Rx} {vs : List Value} {bs : List Nat} {g : Nat} (hO : OwnS w2 27 9 (some ⟨g, 0, none⟩) 1 1 vs (some g)) (hT : OT x w1 vs bs) (hF : Fr w bs) (hg : w1.heap.size ≤ g) (he : Evo X w1 w2) (hx : ∀ b, b ∈ bs → b ∉ X) (hw : w.heap.size ≤ w1.heap.size) : KOut w w2 (.slice (some ⟨g, 0, none⟩) 1 1) [x] := by
  refine ⟨_, _, some g, vs, bs, rfl, hO, OTs.single (hT.evo he hx), ⟨List.nodup_cons.2 ⟨fun h => ?_, hF.nd⟩, fun b hb => ?_⟩⟩
  · have := hT.lt g h; omega
  · rcases List.mem_cons.1 hb with rfl | hb
    · omega
    · exact hF.ge b hb
theorem ot_row (k : Int) {l : List Rx} {w : World} {a : Option Addr} {n c : Nat} {cs : List Value} {ob : Option Nat} {bs : List Nat} (hO : OwnS w 27 9 a n c cs ob) (hT : OTs l w cs bs) (hl : l.length ≤ 1000000) :
    OT (wY k l) w [iv k, .int .i32 0, .slice none 0 0, iv 0, iv 0, .bool false, iv 0, .string ByteArray.empty, .slice a n c] (ob.toList ++ bs) := by
  have h1 := hO.length
  have h2 := hT.len
  obtain rfl : n = l.length := by omega
  unfold wY
  rw [OT]
  exact ⟨none, 0, none, a, c, ob, cs, bs, rfl, OwnS.nil _ _ _, hO, hT, rfl, by simp, by show (0 : Nat) ≤ 1000000; omega, hl⟩
theorem JZ {k : Int} {l : List Rx} (h : 2 ≤ l.length) : wC k l = wY k l := by
  match l, h with
  | x :: y :: l, _ => rfl
theorem AJ {w : World} (k : Int) {l : List Rx} {a : Option Addr} {n c : Nat} {cs : List Value} {ob : Option Nat} {bs : List Nat} (hO : OwnS w 27 9 a n c cs ob) (hT : OTs l w cs bs) (hl : l.length ≤ 1000000) :
    Calls Tryz.prog 61 #[iv k, .slice a n c] w (Ret fun v w' => (∃ vs bs', v = .agg vs.toArray ∧ OT (wC k l) w' vs bs' ∧ bs'.Sublist (ob.toList ++ bs)) ∧ Evo [] w w') := by
  have h1 := hO.length; have h2 := hT.len
  obtain rfl : n = l.length := by omega
  refine bL (N := 18) Tryz.func61 rfl rfl rfl ?_; refine aF (aC (dN rfl fE fun b4 w1 hB2 hs3 hw4 => ?_)); have hsz_b4 := hs3; have hA5 := Apart.new (Lt.own hO) hs3; have hG6 := Ge.new (Evo.refl [] w) hs3; have hE7 := (Evo.refl [] w).then hw4; have hO8 := hO.evo0 hw4; refine aD (aA (aF (aF (aC (aH (aB rfl (bO rfl Tryz.underlying25 rfl) ?_)))))); refine aD (aA (bX (aF (aC (aB rfl (bC rfl rfl) ?_))))); refine aM (aD (aA (bJ rfl (fun hc7 => ?_) (fun hc7 => ?_))))
  ·skip
   refine aF (aC (aB rfl (eU (vs := [(0, _)]) eC rfl (cells := [_, _, _, _, _, _, _, _, _]) rfl) ?_)); refine bQ rfl rfl bG hB2 rfl rfl ⟨rfl, rfl, rfl, rfl, rfl, rfl, rfl, rfl, rfl, trivial⟩ fun w9 hB10 hw11 => ?_; have hE12 := hE7.step hw11 hG6.mem1
   try simp only [dB, Nat.reduceAdd] at hB10
   refine aD (aA (aQ (aZ (aO (dM rfl (ResOk.cellA rfl bS bG hB10 rfl) ?_))))); obtain rfl := List.length_eq_zero_iff.1 (show l.length = 0 by omega); exact ⟨⟨_, [], rfl, pK 1 _, List.nil_sublist _⟩, hE12⟩
  refine aF (aC (aB rfl (bC rfl rfl) ?_)); refine aM (aD (aA (bJ rfl (fun hc10 => ?_) (fun hc10 => ?_))))
  ·skip
   obtain ⟨x, rfl⟩ := List.length_eq_one_iff.1 (show l.length = 1 by omega); obtain ⟨g1, hg1', ha1, hc1⟩ := hO.cells (by simp); have hX := hT.one'; obtain ⟨ra, rc, ka, kc, rfl⟩ := id hX.nine; refine aF (aC (aH ?_)); refine aB rfl (gH (n := 0) rfl rfl ha1 dV (by omega)) ?_; refine aB rfl (eQ rfl bS bG (vs := [_, _, _, _, _, _, _, _, _]) rfl (hc1.evo hE7 (by simp))) ?_; refine bQ rfl rfl bG hB2 rfl rfl ⟨rfl, rfl, rfl, rfl, rfl, rfl, rfl, rfl, rfl, trivial⟩ fun w14 hB15 hw16 => ?_; have hE17 := hE7.step hw16 hG6.mem1
   try simp only [dB, Nat.reduceAdd] at hB15
   refine aD (aA (aQ (aZ (aO (dM rfl (ResOk.cellA rfl bS bG hB15 rfl) ?_))))); exact ⟨⟨_, bs, rfl, hX.evo hE17 (fun b hb h => by cases h), List.sublist_append_right _ _⟩, hE17⟩
  refine bA (aY (aA (aF (aC (aH (aH (aB rfl (eU (vs := [(0, _), (8, _)]) eC rfl (cells := [_, _, _, _, _, _, _, _, _]) rfl) ?_))))))); refine bQ rfl rfl bG hB2 rfl rfl ⟨rfl, rfl, rfl, rfl, rfl, rfl, rfl, rfl, rfl, trivial⟩ fun w19 hB20 hw21 => ?_; have hE22 := hE7.step hw21 hG6.mem1; have hO23 := hO8.evo hw21 hA5.own1
  try simp only [dB, Nat.reduceAdd] at hB20
  refine aD (aA (aQ (dM rfl (ResOk.cellA rfl bS bG hB20 rfl) ?_))); rw [JZ (by omega)]; exact ⟨⟨_, _, rfl, ot_row k hO23 (hT.evo hE22 (fun b hb h => by cases h)) hl, List.Sublist.refl _⟩, hE22⟩
theorem NF {w : World} (k k2 : Int) (t : Bool) : Calls Tryz.prog 115 #[iv k, iv k2, .bool t] w (Ret fun v w' => KOut w w' v [rxK (if t = true then k2 else k)] ∧ Evo [] w w') := by
  refine bL (N := 12) Tryz.func115 rfl rfl rfl ?_; refine aF (aC (aM (aD (aA (aF (aF (aC (aH (aD (aA (fB rfl (fun hc7 => ?_) (fun hc7 => ?_))))))))))))
  ·skip
   refine aC (aH (aM (aD (aA (aF (aC (aH (aB rfl (eU (vs := [(0, _)]) eC rfl (cells := [_, _, _, _, _, _, _, _, _]) rfl) ?_)))))))); refine bP (vs := [_]) rfl dQ rfl rfl rfl rfl fun b11 w1 hO2 hs3 hw4 => ?_; have hG5 := Ge.new (Evo.refl [] w) hs3; have hE6 := (Evo.refl [] w).then hw4; refine aM (aD (aA (aQ (aK rfl rfl ?_)))); rw [if_pos hc7]; exact ⟨iJ hO2 (pK k2 _) (Fr.nil _) (hG5 _ rfl) hE6 (fun b hb => by cases hb) (Nat.le_refl _), hE6⟩
  refine bA (aA (aF (aC (aH (aB rfl (eU (vs := [(0, _)]) eC rfl (cells := [_, _, _, _, _, _, _, _, _]) rfl) ?_))))); refine bP (vs := [_]) rfl dQ rfl rfl rfl rfl fun b11 w7 hO8 hs9 hw10 => ?_; have hG11 := Ge.new (Evo.refl [] w) hs9; have hE12 := (Evo.refl [] w).then hw10; refine aM (aD (aA (aQ (aK rfl rfl ?_)))); rw [if_neg (by simp [hc7])]; exact ⟨iJ hO8 (pK k _) (Fr.nil _) (hG11 _ rfl) hE12 (fun b hb => by cases hb) (Nat.le_refl _), hE12⟩
end Go.Proofs.YtljadkcojnlioaaGreatDoor
namespace Go.Proofs.YtljadkcojnlioaaGreatDoor
open Go.Proofs
open Go.W Go.RowKit
attribute [local irreducible] Decidable.decide
theorem cY : nN Tryz.prog 159 = some true := by kernel_rfl
theorem iZ : nN Tryz.prog 28 = some false := by kernel_rfl
theorem iY : nN Tryz.prog 62 = some true := by kernel_rfl
theorem lM : gB Tryz.prog 64 4 = some 7 := by kernel_rfl
theorem bR : iR Tryz.prog 159 = some 9 := by kernel_rfl
theorem dU : iR Tryz.prog 62 = some 4 := by kernel_rfl
theorem BS : nG Tryz.prog 164 = some #[.string ByteArray.empty, .string ByteArray.empty] := by kernel_rfl
theorem RdAt.mk' {w : World} {b : Nat} {s : ByteArray} {st : PS} {a : Option Addr} {n c : Nat} {ob : Option Nat} (hn : n = st.names.length)
    (hb : w.heap[b]? = some (.cells #[.string s, iv (st.pos : Nat), .bool st.now.fold, .bool st.now.lines, .bool st.now.dots, .bool st.now.lazy, iv (st.opn : Nat), .slice a n c] 64 (0, 0)))
    (ho : OwnS w 9 1 a n c (st.names.map sv) ob) (hne : ∀ g, ob = some g → g ≠ b) : RdAt w b s st a c ob := by subst hn; exact ⟨hb, ho, hne⟩
theorem KF {w : World} {e : TypeId} {a : Option Addr} {n c : Nat} {l : List ByteArray} {ob : Option Nat} (h : OwnS w e 1 a n c (l.map sv) ob) {k : Nat} (hk : k < l.length) : ∃ g, ob = some g ∧ a = some ⟨g, 0, none⟩ ∧ w.cell? ⟨g, 0 + k * 1, none⟩ = some (sv l[k]) := by
  have hl : l.length = n * 1 := by have := h.length; simpa using this
  obtain ⟨g, hg, ha, hc⟩ := h.cells (by omega)
  refine ⟨g, hg, ha, ?_⟩
  rw [Nat.mul_one]
  exact hc k _ (by simp [hk])
def LG (nm : ByteArray) (ns : List ByteArray) : Prop := ns.length = 100 ∨ (nm ≠ emp ∧ nm ∈ ns)
structure NgP (nm : ByteArray) (ns : List ByteArray) (k : Nat) : Prop where
  hk : k ≤ ns.length
  all : ∀ i (h : i < ns.length), i < k → nm = emp ∨ ns[i] ≠ nm
theorem ng_end {nm : ByteArray} {ns : List ByteArray} {k : Nat} (h : NgP nm ns k) (hk : ns.length ≤ k) (h1 : ns.length ≠ 100) : ¬ LG nm ns := by
  rintro (h2 | ⟨h2, h3⟩)
  · exact h1 h2
  · obtain ⟨i, hi, he⟩ := List.getElem_of_mem h3
    rcases h.all i hi (by omega) with h4 | h4
    · exact h2 h4
    · exact h4 he
theorem vJ {w : World} {b : Nat} {s : ByteArray} {st : PS} {a : Option Addr} {c : Nat} {ob : Option Nat} (hR : RdAt w b s st a c ob) (nm : ByteArray) (hnl : st.names.length ≤ 100) :
    Calls Tryz.prog 128 #[.pointer (some ⟨b, 0, none⟩), .string nm] w (RetP (fun v w' => ¬ LG nm st.names ∧ v = iv ((st.names.length : Int) + 1) ∧ Evo (b :: ob.toList) w w' ∧ ∃ a' c' ob', RdAt w' b s { st with names := st.names ++ [nm] } a' c' ob' ∧ (ob' = ob ∨ ∃ g, ob' = some g ∧ w.heap.size ≤ g)) (fun v w' => LG nm st.names ∧ v = flt 85 ∧ Evo [] w w')) := by
  have hap := hR.ap; refine bL (N := 47) Tryz.func128 rfl rfl rfl ?_; refine aF (aC (aM (aD (aA (aF (aF (aC (aH (aB rfl (aR rfl) (aB rfl (aE rfl lM) (aB rfl (aI rfl iH (aJ hR.blk rfl)) (aB rfl (bO rfl Tryz.underlying22 rfl) ?_)))))))))))); refine aB rfl (bC rfl rfl) ?_; refine aD (aA (bJ rfl (fun hc12 => ?_) (fun hc12 => ?_)))
  ·skip
   refine aC (cH (vs := [_]) dD rfl (eV 85) rfl ?_ ?_)
   ·skip
    intro pv wp hpp; obtain ⟨rfl, hpw⟩ := hpp; exact And.intro rfl ⟨_, rfl, .inl (by omega), rfl, ((Evo.refl [] w)).then hpw⟩
   intro _ _ hF; exact hF.elim
  refine bA (aA (aF (aF (aC (aH (aB rfl (aR rfl) (aB rfl (aE rfl lM) (aB rfl (aI rfl iH (aJ hR.blk rfl)) (aB rfl (bO rfl Tryz.underlying22 rfl) ?_))))))))); refine aH (aD (aA (bX ?_))); refine eT (α := Nat) (0) (fun k => [(19, .int .i64 (k : Nat))]) [(0, _), (1, _), (4, _), (17, _), (18, _)] (fun k wr => Evo [] w wr ∧ (NgP nm st.names k)) (fun k => st.names.length - k) ⟨rfl, trivial⟩ ⟨rfl, rfl, rfl, rfl, rfl, trivial⟩ ⟨Evo.refl _ _, ⟨Nat.zero_le _, fun i h h2 => by omega⟩⟩ ?_; rintro k wr3 ⟨hV4, hng⟩; show CW _ _ _ _ [(19, _), (0, _), (1, _), (4, _), (17, _), (18, _)] _; have hE5 := (Evo.refl [] w).then hV4; have hE6 := (Evo.refl (b :: ob.toList) w).then hV4; have hB7 := hV4.blk0 hR.blk; have hO8 := hR.own.evo0 hV4; have hngk := hng.hk; refine aF (aC (aB rfl (dF rfl rfl) ?_)); refine aD (aA (aF (bJ rfl (fun hc20 => ?_) (fun hc20 => ?_))))
  ·skip
   have hk' : k < st.names.length := by omega
   obtain ⟨g1, hg1, ha1, hc1⟩ := KF hR.own hk'; refine bA (aA (aF (bX (aF (aC ?_))))); refine aB rfl (gH (n := k) rfl rfl ha1 mK (by omega)) ?_; refine aB rfl (aI rfl cR ((hE5).cell hc1 (by simp))) ?_; refine aM (aD (aA (aF (aC (aH (aB rfl (rJ rfl rfl) ?_)))))); refine aH (aX (t := 25) rfl (fun hs25 => ?_) (fun hs25 => ?_))
   ·skip
    refine aP (aH (aP (aH (aP (aB rfl (gD rfl rfl) ?_))))); refine bD (aD (aA (bJ rfl (fun hc29 => ?_) (fun hc29 => ?_))))
    ·skip
     refine aC (cH (vs := [_]) dD rfl (eV 85) rfl ?_ ?_)
     ·skip
      intro pv wp hpp; obtain ⟨rfl, hpw⟩ := hpp; exact And.intro rfl ⟨_, rfl, .inr ⟨hs25, hc29 ▸ List.getElem_mem hk'⟩, rfl, (hE5).then hpw⟩
     intro _ _ hF; exact hF.elim
    refine bA (aY (aA (aC ?_))); refine aB rfl (bF rfl rfl (by omega) (by omega)) ?_; refine aH (aD (bI ?_)); refine ⟨k + 1, ?_, ⟨rfl, trivial⟩, ⟨rfl, rfl, rfl, rfl, rfl, trivial⟩, hV4, ?_⟩
    · omega
    refine ⟨hk', fun i h h2 => ?_⟩
    by_cases e : i = k
    · subst e; exact .inr hc29
    · exact hng.all i h (by omega)
   refine aG (aG (aG (aV (aD (aA (cQ rfl ?_)))))); refine bA (aY (aA (aC ?_))); refine aB rfl (bF rfl rfl (by omega) (by omega)) ?_; refine aH (aD (bI ?_)); refine ⟨k + 1, ?_, ⟨rfl, trivial⟩, ⟨rfl, rfl, rfl, rfl, rfl, trivial⟩, hV4, ?_⟩
   · omega
   refine ⟨hk', fun i h h2 => ?_⟩
   by_cases e : i = k
   · subst e; exact .inl (Classical.not_not.1 hs25)
   · exact hng.all i h (by omega)
  refine dT (cK (cK (dS (aA ?_)))); refine aF (aC (aH (aH (aB rfl (aR rfl) (aB rfl (aE rfl lM) (aB rfl (aI rfl iH (aJ hB7 rfl)) (aH (bP (vs := [_]) rfl pQ rfl rfl rfl rfl fun b11 w12 hO13 hs14 hw15 => ?_)))))))); have hE21 := hE5.then hw15; have hE22 := hE6.then hw15; have hB24 := hw15.blk0 hB7; have hO25 := hO8.evo0 hw15; have hx12 := hE21; refine dX rfl rfl rfl rfl oM hO25 (Src.ofOwn hO13 ⟨rfl, trivial⟩) (by omega) fun a2 c2 w28 ob2 hO2 hw31 hob32 => ?_; have hA33 := hap.app (Lt.blk hB24) hob32; have hE36 := hE22.step hw31 (fun y hy => .inl (List.mem_cons_of_mem _ hy)); have hB38 := hw31.blk hB24 hap.nmem; have hob2 := hob32; refine aB rfl (aR rfl) (aB rfl (aE rfl lM) (bN rfl rfl (rfl) qX hB38 rfl fun w40 hB41 hw42 => ?_))
  have hE43 := hE36.step hw42 (fun y hy => .inl (by rw [List.mem_singleton.1 hy]; simp))
  have hO45 := hO2.evo hw42 hA33.symm.own1
  try simp only [dB, Nat.reduceAdd] at hB41
  refine aD (aA (aF (aC (aH (aB rfl (aR rfl) (aB rfl (aE rfl lM) (aB rfl (aI rfl iH (aJ hB41 rfl)) (aB rfl (bO rfl Tryz.underlying22 rfl) ?_)))))))); refine aM (aD (aA (aQ (cE (aK rfl rfl ?_)))))
  refine ⟨ng_end hng (by omega) (by omega), by rfl, hE43, a2, c2, ob2, RdAt.mk' (by simp) hB41 (by rw [List.map_append]; exact hO45) (fun g hg e => (hA33) g (congrArg some e.symm) hg), ?_⟩
  rcases hob2 with h | ⟨g, h, h2⟩
  · exact .inl h
  · exact .inr ⟨g, h, Nat.le_trans hx12.size h2⟩
end Go.Proofs.YtljadkcojnlioaaGreatDoor
namespace Go.Proofs.YtljadkcojnlioaaGreatDoor
open Go.Proofs
open Go.W Go.RowKit
attribute [local irreducible] Decidable.decide
theorem fW : gB Tryz.prog 159 0 = some 0 := by kernel_rfl
theorem iC : gB Tryz.prog 159 2 = some 2 := by kernel_rfl
theorem kQ : gB Tryz.prog 159 4 = some 7 := by kernel_rfl
theorem fA : gB Tryz.prog 159 5 = some 8 := by kernel_rfl
theorem pV : gB Tryz.prog 62 1 = some 1 := by kernel_rfl
theorem uB : gB Tryz.prog 62 2 = some 2 := by kernel_rfl
theorem pU : gB Tryz.prog 62 3 = some 3 := by kernel_rfl
theorem gG : iR Tryz.prog 28 = some 1 := by kernel_rfl
theorem jG : nG Tryz.prog 159 = some #[.int .i64 0, .string ByteArray.empty, .bool false, .bool false, .bool false, .bool false, .bool false, .bool false, .int .i64 0] := by kernel_rfl
def opV (o : Opn) : Array Value := #[iv (o.size : Nat), .string o.name, .bool o.thn.fold, .bool o.thn.lines, .bool o.thn.dots, .bool o.thn.lazy, .bool o.capt, .bool o.sett, iv o.err]
section
variable {s : ByteArray} {i f j : Nat} {b m : Bool} {n : Int} {fl : Fl}
theorem GO (h : s.size ≤ j) : jJ s i f j b n m fl = ⟨0, emp, fl, false, false, 84⟩ := by
  cases f with
  | zero => rfl
  | succ f => rw [jJ, if_pos h]
theorem ps_i (h : j < s.size) (hc : sb s j = 105) : jJ s i (f + 1) j b n m fl = jJ s i f (j + 1) b (n + 1) m { fl with fold := b } := by rw [jJ, if_neg (by omega), if_pos hc]
theorem ps_m (h : j < s.size) (hc : sb s j = 109) : jJ s i (f + 1) j b n m fl = jJ s i f (j + 1) b (n + 1) m { fl with lines := b } := by rw [jJ, if_neg (by omega), if_neg (by omega), if_pos hc]
theorem ps_s (h : j < s.size) (hc : sb s j = 115) : jJ s i (f + 1) j b n m fl = jJ s i f (j + 1) b (n + 1) m { fl with dots := b } := by rw [jJ, if_neg (by omega), if_neg (by omega), if_neg (by omega), if_pos hc]
theorem ps_u (h : j < s.size) (hc : sb s j = 85) : jJ s i (f + 1) j b n m fl = jJ s i f (j + 1) b (n + 1) m { fl with lazy := b } := by rw [jJ, if_neg (by omega), if_neg (by omega), if_neg (by omega), if_neg (by omega), if_pos hc]
theorem MH (h : j < s.size) (hc : sb s j = 45) : jJ s i (f + 1) j b n true fl = ⟨0, emp, fl, false, false, 84⟩ := by rw [jJ, if_neg (by omega), if_neg (by omega), if_neg (by omega), if_neg (by omega), if_neg (by omega), if_pos hc, if_pos rfl]
theorem MI (h : j < s.size) (hc : sb s j = 45) : jJ s i (f + 1) j b n false fl = jJ s i f (j + 1) false 0 true fl := by rw [jJ, if_neg (by omega), if_neg (by omega), if_neg (by omega), if_neg (by omega), if_neg (by omega), if_pos hc, if_neg (by simp)]
theorem KC (h : j < s.size) (hc : sb s j = 58 ∨ sb s j = 41) : jJ s i (f + 1) j b n m fl = ⟨j + 1 - i, emp, fl, false, decide (sb s j = 41), if n = 0 then 84 else 0⟩ := by rw [jJ, if_neg (by omega), if_neg (by omega), if_neg (by omega), if_neg (by omega), if_neg (by omega), if_neg (by omega), if_pos hc]
theorem MG (h : j < s.size) (h1 : ¬ sb s j = 105) (h2 : ¬ sb s j = 109) (h3 : ¬ sb s j = 115) (h4 : ¬ sb s j = 85) (h5 : ¬ sb s j = 45) (h6 : ¬ (sb s j = 58 ∨ sb s j = 41)) : jJ s i (f + 1) j b n m fl = ⟨0, emp, fl, false, false, 84⟩ := by rw [jJ, if_neg (by omega), if_neg h1, if_neg h2, if_neg h3, if_neg h4, if_neg h5, if_neg h6]
end
structure SeG where
  f : Nat
  k : Nat
  q : Bool
  n : Int
  m : Bool
  fl : Fl
structure SeI (w wr : World) (b3 b4 : Nat) (s : ByteArray) (i : Nat) (fl0 : Fl) (x : SeG) : Prop where
  hk : i + x.k ≤ s.size
  hf : s.size ≤ x.f + (i + x.k)
  n0 : 0 ≤ x.n
  n1 : x.n ≤ x.k
  eq : jJ s i s.size (i + 2) true 0 false fl0 = jJ s i x.f (i + x.k) x.q x.n x.m x.fl
  hb3 : wr.heap[b3]? = some (.cells #[iv 0, .string emp, .bool x.fl.fold, .bool x.fl.lines, .bool x.fl.dots, .bool x.fl.lazy, .bool false, .bool false, iv 0] 159 (0, 0))
  hb4 : wr.heap[b4]? = some (.cells #[iv 0, .string emp, .bool false, .bool false, .bool false, .bool false, .bool false, .bool false, iv 0] 159 (0, 0))
  g3 : Ge w (some b3)
  g4 : Ge w (some b4)
  a34 : Apart (some b3) (some b4)
theorem GH {w : World} (s : ByteArray) (i : Nat) (fl0 : Fl) (hi : i + 2 ≤ s.size) (hs : s.size ≤ 1000000) :
    Calls Tryz.prog 143 #[.string (s.extract i s.size), .agg (opV ⟨0, emp, fl0, false, false, 0⟩)] w (Ret fun v w' => v = .agg (opV (jJ s i s.size (i + 2) true 0 false fl0)) ∧ Evo [] w w') := by
  have hrs := gI (s := s) (a := i) (Nat.le_refl s.size); show Calls Tryz.prog 143 #[.string (s.extract i s.size), .agg #[iv 0, .string emp, .bool fl0.fold, .bool fl0.lines, .bool fl0.dots, .bool fl0.lazy, .bool false, .bool false, iv 0]] w _; refine bL (N := 64) Tryz.func143 rfl rfl rfl ?_; refine aF (aC (gT rfl rfl fun b3 w1 hB2 hs3 hw4 => ?_)); have hsz_b3 := hs3; have hG5 := Ge.new (Evo.refl [] w) hs3; have hE6 := (Evo.refl [] w).then hw4; refine dN rfl jG fun b4 w7 hB8 hs9 hw10 => ?_; have hsz_b4 := hs9; have hA11 := Apart.new (Lt.blk hB2) hs9; have hG12 := Ge.new hE6 hs9; have hE13 := hE6.then hw10; have hB14 := hw10.blk0 hB2; refine aD (aA (aF (aC (aM (aM (aM (aD (aA (aF (aF (aC (aM (aD (aA (bX ?_)))))))))))))))
  refine eT (α := SeG) (⟨s.size, 2, true, 0, false, fl0⟩) (fun x => [(8, .int .i64 (x.k : Nat)), (5, .bool x.q), (6, .int .i64 x.n), (7, .bool x.m)]) [(0, _), (3, _), (4, _)] (fun x wr => Evo [] w wr ∧ (SeI w wr b3 b4 s i fl0 x)) (fun x => x.f) ⟨rfl, rfl, rfl, rfl, trivial⟩ ⟨rfl, rfl, rfl, trivial⟩ ⟨hE13, ⟨hi, (by show s.size ≤ s.size + (i + 2); omega), Int.le_refl _, (by show (0 : Int) ≤ ((2 : Nat) : Int); omega), rfl, hB14, hB8, hG5, hG12, hA11⟩⟩ ?_
  rintro ⟨f, k, q, n, m, fl⟩ wr15 ⟨hV16, ⟨hk, hf, hn0, hn1, heq, hb3, hb4, hg3, hg4, ha34⟩⟩; show CW _ _ _ _ [(8, .int .i64 (k : Nat)), (5, .bool q), (6, .int .i64 n), (7, .bool m), (0, _), (3, _), (4, _)] _
  try dsimp only at hk
  try dsimp only at hf
  try dsimp only at hn0
  try dsimp only at hn1
  try dsimp only at heq
  try dsimp only at hb3
  try dsimp only at hb4
  try dsimp only at hg3
  try dsimp only at hg4
  try dsimp only at ha34
  refine aF (aF (aC (aH (aH (aB rfl (cX rfl Tryz.underlying9 rfl) ?_))))); refine aB rfl (dF rfl rfl) ?_; refine aD (aA (bJ rfl (fun hc12 => ?_) (fun hc12 => ?_)))
  ·skip
   have hik : i + k < s.size := by omega
   have e0 : sb (s.extract i s.size) k = sb s (i + k) := hI hik; obtain ⟨f', rfl⟩ : ∃ f', f = f' + 1 := ⟨f - 1, by omega⟩; have hb9 := jB s (i + k); refine bA (aA (aF (bX (aF (aF (aC (aH (aH ?_)))))))); refine aB rfl (fZ (n := k) rfl rfl Tryz.underlying9 rfl (by omega) e0) ?_; refine aD (aA (bX (aF (aC (aB rfl (bC rfl rfl) ?_))))); refine aM (aD (aA (bJ rfl (fun hc20 => ?_) (fun hc20 => ?_))))
   ·skip
    refine aC (aH (aB rfl (aE rfl iC) (aB rfl (aE rfl pW) (bN rfl rfl (rfl) gF hb3 rfl fun w17 hB18 hw19 => ?_)))); have hE20 := hV16.step hw19 hg3.mem1; have hB21 := hw19.blk hb4 ha34.symm.nmem1
    try simp only [dB, Nat.reduceAdd] at hB18
    refine aD (aY (aA (aC (aH ?_)))); refine aB rfl (bF rfl rfl (by omega) (by omega)) ?_; refine aM (aD (aY (aA (aC (aH ?_))))); refine aB rfl (bF rfl rfl (by omega) (by omega)) ?_; refine aM (aD (bI ?_)); refine ⟨⟨f', k + 1, q, n + 1, m, { fl with fold := q }⟩, ?_, ⟨rfl, rfl, rfl, rfl, trivial⟩, ⟨rfl, rfl, rfl, trivial⟩, hE20, ?_⟩
    · (try dsimp only); show f' < f' + 1; omega
    try dsimp only
    exact ⟨(by show i + (k + 1) ≤ s.size; omega), (by show s.size ≤ f' + (i + (k + 1)); omega), (by show 0 ≤ n + 1; omega), (by show n + 1 ≤ ((k + 1 : Nat) : Int); omega), heq.trans (ps_i (by omega) (by omega)), hB18, hB21, hg3, hg4, ha34⟩
   refine aF (aC (aB rfl (bC rfl rfl) ?_)); refine aM (aD (aA (bJ rfl (fun hc25 => ?_) (fun hc25 => ?_))))
   ·skip
    refine aC (aH (aB rfl (aE rfl iC) (aB rfl (aE rfl pV) (bN rfl rfl (rfl) gF hb3 rfl fun w22 hB23 hw24 => ?_)))); have hE25 := hV16.step hw24 hg3.mem1; have hB26 := hw24.blk hb4 ha34.symm.nmem1
    try simp only [dB, Nat.reduceAdd] at hB23
    refine aD (aY (aA (aC (aH ?_)))); refine aB rfl (bF rfl rfl (by omega) (by omega)) ?_; refine aM (aD (aY (aA (aC (aH ?_))))); refine aB rfl (bF rfl rfl (by omega) (by omega)) ?_; refine aM (aD (bI ?_)); refine ⟨⟨f', k + 1, q, n + 1, m, { fl with lines := q }⟩, ?_, ⟨rfl, rfl, rfl, rfl, trivial⟩, ⟨rfl, rfl, rfl, trivial⟩, hE25, ?_⟩
    · (try dsimp only); show f' < f' + 1; omega
    try dsimp only
    exact ⟨(by show i + (k + 1) ≤ s.size; omega), (by show s.size ≤ f' + (i + (k + 1)); omega), (by show 0 ≤ n + 1; omega), (by show n + 1 ≤ ((k + 1 : Nat) : Int); omega), heq.trans (ps_m (by omega) (by omega)), hB23, hB26, hg3, hg4, ha34⟩
   refine aF (aC (aB rfl (bC rfl rfl) ?_)); refine aM (aD (aA (bJ rfl (fun hc30 => ?_) (fun hc30 => ?_))))
   ·skip
    refine aC (aH (aB rfl (aE rfl iC) (aB rfl (aE rfl uB) (bN rfl rfl (rfl) gF hb3 rfl fun w27 hB28 hw29 => ?_)))); have hE30 := hV16.step hw29 hg3.mem1; have hB31 := hw29.blk hb4 ha34.symm.nmem1
    try simp only [dB, Nat.reduceAdd] at hB28
    refine aD (aY (aA (aC (aH ?_)))); refine aB rfl (bF rfl rfl (by omega) (by omega)) ?_; refine aM (aD (aY (aA (aC (aH ?_))))); refine aB rfl (bF rfl rfl (by omega) (by omega)) ?_; refine aM (aD (bI ?_)); refine ⟨⟨f', k + 1, q, n + 1, m, { fl with dots := q }⟩, ?_, ⟨rfl, rfl, rfl, rfl, trivial⟩, ⟨rfl, rfl, rfl, trivial⟩, hE30, ?_⟩
    · (try dsimp only); show f' < f' + 1; omega
    try dsimp only
    exact ⟨(by show i + (k + 1) ≤ s.size; omega), (by show s.size ≤ f' + (i + (k + 1)); omega), (by show 0 ≤ n + 1; omega), (by show n + 1 ≤ ((k + 1 : Nat) : Int); omega), heq.trans (ps_s (by omega) (by omega)), hB28, hB31, hg3, hg4, ha34⟩
   refine aF (aC (aB rfl (bC rfl rfl) ?_)); refine aM (aD (aA (bJ rfl (fun hc35 => ?_) (fun hc35 => ?_))))
   ·skip
    refine aC (aH (aB rfl (aE rfl iC) (aB rfl (aE rfl pU) (bN rfl rfl (rfl) gF hb3 rfl fun w32 hB33 hw34 => ?_)))); have hE35 := hV16.step hw34 hg3.mem1; have hB36 := hw34.blk hb4 ha34.symm.nmem1
    try simp only [dB, Nat.reduceAdd] at hB33
    refine aD (aY (aA (aC (aH ?_)))); refine aB rfl (bF rfl rfl (by omega) (by omega)) ?_; refine aM (aD (aY (aA (aC (aH ?_))))); refine aB rfl (bF rfl rfl (by omega) (by omega)) ?_; refine aM (aD (bI ?_)); refine ⟨⟨f', k + 1, q, n + 1, m, { fl with lazy := q }⟩, ?_, ⟨rfl, rfl, rfl, rfl, trivial⟩, ⟨rfl, rfl, rfl, trivial⟩, hE35, ?_⟩
    · (try dsimp only); show f' < f' + 1; omega
    try dsimp only
    exact ⟨(by show i + (k + 1) ≤ s.size; omega), (by show s.size ≤ f' + (i + (k + 1)); omega), (by show 0 ≤ n + 1; omega), (by show n + 1 ≤ ((k + 1 : Nat) : Int); omega), heq.trans (ps_u (by omega) (by omega)), hB33, hB36, hg3, hg4, ha34⟩
   refine aF (aC (aB rfl (bC rfl rfl) ?_)); refine aM (aD (aA (bJ rfl (fun hc40 => ?_) (fun hc40 => ?_))))
   ·skip
    refine aF (aF (aC (aH (aD (aA (fB rfl (fun hc42 => ?_) (fun hc42 => ?_)))))))
    ·skip
     subst hc42; refine aF (aC (aB rfl (aE rfl fA) (bN rfl rfl (rfl) gG hb3 rfl fun w37 hB38 hw39 => ?_))); have hE40 := hV16.step hw39 hg3.mem1; have hB41 := hw39.blk hb4 ha34.symm.nmem1
     try simp only [dB, Nat.reduceAdd] at hB38
     refine aD (aA (aF (aC (aB rfl (cA rfl cY bR hB38 rfl) (bQ rfl rfl bR hB41 rfl rfl ⟨rfl, rfl, rfl, rfl, rfl, rfl, rfl, rfl, rfl, trivial⟩ fun w42 hB43 hw44 => ?_))))); have hE45 := hE40.step hw44 hg4.mem1
     try simp only [dB, Nat.reduceAdd] at hB43
     refine aD (aA (aQ (aO (aZ (aO (aZ (aO (aO (aZ (aO (dM rfl (ResOk.cellA rfl cY bR hB43 rfl) ?_))))))))))); have hfin := heq.trans (MH (by omega) (by omega)); rw [hfin]; exact ⟨rfl, hE45⟩
    subst hc42; refine bA (aA (aC (aM (aM (aM (aD (aY (aA (aC (aH ?_)))))))))); refine aB rfl (bF rfl rfl (by omega) (by omega)) ?_; refine aM (aD (aY (aA (aC (aH ?_))))); refine aB rfl (bF rfl rfl (by omega) (by omega)) ?_; refine aM (aD (bI ?_)); refine ⟨⟨f', k + 1, false, 0, true, fl⟩, ?_, ⟨rfl, rfl, rfl, rfl, trivial⟩, ⟨rfl, rfl, rfl, trivial⟩, hV16, ?_⟩
    · (try dsimp only); show f' < f' + 1; omega
    try dsimp only
    exact ⟨(by show i + (k + 1) ≤ s.size; omega), (by show s.size ≤ f' + (i + (k + 1)); omega), Int.le_refl _, (by show (0 : Int) ≤ ((k + 1 : Nat) : Int); omega), heq.trans (MI (by omega) (by omega)), hb3, hb4, hg3, hg4, ha34⟩
   refine aF (aF (aC (aB rfl (bC rfl rfl) ?_))); refine aM (aD (aA (bJ rfl (fun hc45 => ?_) (fun hc45 => ?_))))
   ·skip
    refine bA (aA (bJ rfl (fun hc45 => ?_) (fun hc45 => ?_)))
    ·skip
     refine aF (aF (aC (aH (aB rfl (bC rfl rfl) ?_)))); refine aD (aA (bJ rfl (fun hc49 => ?_) (fun hc49 => ?_)))
     ·skip
      refine aC (aB rfl (aE rfl fA) (bN rfl rfl (rfl) gG hb3 rfl fun w47 hB48 hw49 => ?_)); have hE50 := hV16.step hw49 hg3.mem1; have hB51 := hw49.blk hb4 ha34.symm.nmem1
      try simp only [dB, Nat.reduceAdd] at hB48
      refine aD (aA (aF ?_)); refine hD (fun w0 w' => Evo [b3] w0 w') (by kernel_rfl) (fun w52 hw53 => ?_); have hE54 := hE50.then hw53; have hB55 := hw53.blk0 hB48; have hB56 := hw53.blk0 hB51; refine bB 0 rfl (by kernel_rfl) (by kernel_rfl) (by kernel_rfl) rfl (fun _ hS => bM rfl) (Evo.refl [b3] w52) ?_; refine bB 1 rfl (by kernel_rfl) (by kernel_rfl) (by kernel_rfl) rfl (fun _ hS => bF rfl rfl (by omega) (by omega)) (Evo.refl [b3] w52) ?_; refine bB 2 rfl (by kernel_rfl) (by kernel_rfl) (by kernel_rfl) rfl (fun _ hS => bM rfl) (Evo.refl [b3] w52) ?_; refine bB 3 rfl (by kernel_rfl) (by kernel_rfl) (by kernel_rfl) rfl (fun _ hS => bM rfl) (Evo.refl [b3] w52) ?_; refine bB 4 rfl (by kernel_rfl) (by kernel_rfl) (by kernel_rfl) rfl (fun _ hS => fZ (n := k) rfl rfl Tryz.underlying9 rfl (by omega) e0) (Evo.refl [b3] w52) ?_; refine bB 5 rfl (by kernel_rfl) (by kernel_rfl) (by kernel_rfl) rfl (fun _ hS => bC rfl rfl) (Evo.refl [b3] w52) ?_; refine bB 6 rfl (by kernel_rfl) (by kernel_rfl) (by kernel_rfl) rfl (fun _ hS => aE rfl fW) (Evo.refl [b3] w52) ?_; refine cL [7] (by kernel_rfl) rfl ⟨?_, trivial⟩; refine cV rfl ?_; refine bN rfl rfl (rfl) cB hB55 rfl fun w57 hB58 hw59 => ?_; have hE60 := hE54.step hw59 hg3.mem1; have hE61 := (Evo.refl [b3] w52).step hw59 (fun y hy => .inl hy); have hB62 := hw59.blk hB56 ha34.symm.nmem1
      try simp only [dB, Nat.reduceAdd] at hB58
      refine aD (cG (.inl hE61) ?_); refine bB 8 rfl (by kernel_rfl) (by kernel_rfl) (by kernel_rfl) rfl (fun _ hS => aE rfl kQ) hE61 ?_; refine cL [9] (by kernel_rfl) rfl ⟨?_, trivial⟩; refine cV rfl ?_; refine bN rfl rfl (rfl) gF hB58 rfl fun w63 hB64 hw65 => ?_; have hE66 := hE60.step hw65 hg3.mem1; have hE67 := hE61.step hw65 (fun y hy => .inl hy); have hB68 := hw65.blk hB62 ha34.symm.nmem1
      try simp only [dB, Nat.reduceAdd] at hB64
      refine aD (cG (.inl hE67) ?_); refine eH (by kernel_rfl) (aA ?_); refine aF (aC (aB rfl (cA rfl cY bR hB64 rfl) (bQ rfl rfl bR hB68 rfl rfl ⟨rfl, rfl, rfl, rfl, rfl, rfl, rfl, rfl, rfl, trivial⟩ fun w69 hB70 hw71 => ?_))); have hE72 := hE66.step hw71 hg4.mem1
      try simp only [dB, Nat.reduceAdd] at hB70
      refine aD (aA (aQ (aZ (aO (aZ (aO (aO (aZ (aO (dM rfl (ResOk.cellA rfl cY bR hB70 rfl) ?_)))))))))); have hfin := heq.trans (KC (by omega) (by omega)); rw [if_pos hc49] at hfin; rw [hfin]
      have e1 : (((i + k + 1 - i : Nat)) : Int) = (k : Int) + 1 := by omega
      have e2 : decide (((sb s (i + k) : Nat) : Int) = 41) = decide (sb s (i + k) = 41) := decide_eq_decide.2 (by omega); refine ⟨?_, hE72⟩; simp only [opV, e1, e2]
     refine bA (aA (aF ?_)); refine hD (fun w0 w' => Evo [b3] w0 w') (by kernel_rfl) (fun w74 hw75 => ?_); have hE76 := hV16.then hw75; have hB77 := hw75.blk0 hb3; have hB78 := hw75.blk0 hb4; refine bB 0 rfl (by kernel_rfl) (by kernel_rfl) (by kernel_rfl) rfl (fun _ hS => bM rfl) (Evo.refl [b3] w74) ?_; refine bB 1 rfl (by kernel_rfl) (by kernel_rfl) (by kernel_rfl) rfl (fun _ hS => bF rfl rfl (by omega) (by omega)) (Evo.refl [b3] w74) ?_; refine bB 2 rfl (by kernel_rfl) (by kernel_rfl) (by kernel_rfl) rfl (fun _ hS => bM rfl) (Evo.refl [b3] w74) ?_; refine bB 3 rfl (by kernel_rfl) (by kernel_rfl) (by kernel_rfl) rfl (fun _ hS => bM rfl) (Evo.refl [b3] w74) ?_; refine bB 4 rfl (by kernel_rfl) (by kernel_rfl) (by kernel_rfl) rfl (fun _ hS => fZ (n := k) rfl rfl Tryz.underlying9 rfl (by omega) e0) (Evo.refl [b3] w74) ?_; refine bB 5 rfl (by kernel_rfl) (by kernel_rfl) (by kernel_rfl) rfl (fun _ hS => bC rfl rfl) (Evo.refl [b3] w74) ?_; refine bB 6 rfl (by kernel_rfl) (by kernel_rfl) (by kernel_rfl) rfl (fun _ hS => aE rfl fW) (Evo.refl [b3] w74) ?_; refine cL [7] (by kernel_rfl) rfl ⟨?_, trivial⟩; refine cV rfl ?_; refine bN rfl rfl (rfl) cB hB77 rfl fun w79 hB80 hw81 => ?_; have hE82 := hE76.step hw81 hg3.mem1; have hE83 := (Evo.refl [b3] w74).step hw81 (fun y hy => .inl hy); have hB84 := hw81.blk hB78 ha34.symm.nmem1
     try simp only [dB, Nat.reduceAdd] at hB80
     refine aD (cG (.inl hE83) ?_); refine bB 8 rfl (by kernel_rfl) (by kernel_rfl) (by kernel_rfl) rfl (fun _ hS => aE rfl kQ) hE83 ?_; refine cL [9] (by kernel_rfl) rfl ⟨?_, trivial⟩; refine cV rfl ?_; refine bN rfl rfl (rfl) gF hB80 rfl fun w85 hB86 hw87 => ?_; have hE88 := hE82.step hw87 hg3.mem1; have hE89 := hE83.step hw87 (fun y hy => .inl hy); have hB90 := hw87.blk hB84 ha34.symm.nmem1
     try simp only [dB, Nat.reduceAdd] at hB86
     refine aD (cG (.inl hE89) ?_); refine eH (by kernel_rfl) (aA ?_); refine aF (aC (aB rfl (cA rfl cY bR hB86 rfl) (bQ rfl rfl bR hB90 rfl rfl ⟨rfl, rfl, rfl, rfl, rfl, rfl, rfl, rfl, rfl, trivial⟩ fun w91 hB92 hw93 => ?_))); have hE94 := hE88.step hw93 hg4.mem1
     try simp only [dB, Nat.reduceAdd] at hB92
     refine aD (aA (aQ (aZ (aO (aZ (aO (aO (aZ (aO (dM rfl (ResOk.cellA rfl cY bR hB92 rfl) ?_)))))))))); have hfin := heq.trans (KC (by omega) (by omega)); rw [if_neg hc49] at hfin; rw [hfin]
     have e1 : (((i + k + 1 - i : Nat)) : Int) = (k : Int) + 1 := by omega
     have e2 : decide (((sb s (i + k) : Nat) : Int) = 41) = decide (sb s (i + k) = 41) := decide_eq_decide.2 (by omega); refine ⟨?_, hE94⟩; simp only [opV, e1, e2]
    exfalso; omega
   refine aC (aB rfl (bC rfl rfl) ?_); refine aM (aD (aA (bJ rfl (fun hc45 => ?_) (fun hc45 => ?_))))
   ·skip
    refine aF (aF (aC (aH (aB rfl (bC rfl rfl) ?_)))); refine aD (aA (bJ rfl (fun hc49 => ?_) (fun hc49 => ?_)))
    ·skip
     refine aC (aB rfl (aE rfl fA) (bN rfl rfl (rfl) gG hb3 rfl fun w96 hB97 hw98 => ?_)); have hE99 := hV16.step hw98 hg3.mem1; have hB100 := hw98.blk hb4 ha34.symm.nmem1
     try simp only [dB, Nat.reduceAdd] at hB97
     refine aD (aA (aF ?_)); refine hD (fun w0 w' => Evo [b3] w0 w') (by kernel_rfl) (fun w101 hw102 => ?_); have hE103 := hE99.then hw102; have hB104 := hw102.blk0 hB97; have hB105 := hw102.blk0 hB100; refine bB 0 rfl (by kernel_rfl) (by kernel_rfl) (by kernel_rfl) rfl (fun _ hS => bM rfl) (Evo.refl [b3] w101) ?_; refine bB 1 rfl (by kernel_rfl) (by kernel_rfl) (by kernel_rfl) rfl (fun _ hS => bF rfl rfl (by omega) (by omega)) (Evo.refl [b3] w101) ?_; refine bB 2 rfl (by kernel_rfl) (by kernel_rfl) (by kernel_rfl) rfl (fun _ hS => bM rfl) (Evo.refl [b3] w101) ?_; refine bB 3 rfl (by kernel_rfl) (by kernel_rfl) (by kernel_rfl) rfl (fun _ hS => bM rfl) (Evo.refl [b3] w101) ?_; refine bB 4 rfl (by kernel_rfl) (by kernel_rfl) (by kernel_rfl) rfl (fun _ hS => fZ (n := k) rfl rfl Tryz.underlying9 rfl (by omega) e0) (Evo.refl [b3] w101) ?_; refine bB 5 rfl (by kernel_rfl) (by kernel_rfl) (by kernel_rfl) rfl (fun _ hS => bC rfl rfl) (Evo.refl [b3] w101) ?_; refine bB 6 rfl (by kernel_rfl) (by kernel_rfl) (by kernel_rfl) rfl (fun _ hS => aE rfl fW) (Evo.refl [b3] w101) ?_; refine cL [7] (by kernel_rfl) rfl ⟨?_, trivial⟩; refine cV rfl ?_; refine bN rfl rfl (rfl) cB hB104 rfl fun w106 hB107 hw108 => ?_; have hE109 := hE103.step hw108 hg3.mem1; have hE110 := (Evo.refl [b3] w101).step hw108 (fun y hy => .inl hy); have hB111 := hw108.blk hB105 ha34.symm.nmem1
     try simp only [dB, Nat.reduceAdd] at hB107
     refine aD (cG (.inl hE110) ?_); refine bB 8 rfl (by kernel_rfl) (by kernel_rfl) (by kernel_rfl) rfl (fun _ hS => aE rfl kQ) hE110 ?_; refine cL [9] (by kernel_rfl) rfl ⟨?_, trivial⟩; refine cV rfl ?_; refine bN rfl rfl (rfl) gF hB107 rfl fun w112 hB113 hw114 => ?_; have hE115 := hE109.step hw114 hg3.mem1; have hE116 := hE110.step hw114 (fun y hy => .inl hy); have hB117 := hw114.blk hB111 ha34.symm.nmem1
     try simp only [dB, Nat.reduceAdd] at hB113
     refine aD (cG (.inl hE116) ?_); refine eH (by kernel_rfl) (aA ?_); refine aF (aC (aB rfl (cA rfl cY bR hB113 rfl) (bQ rfl rfl bR hB117 rfl rfl ⟨rfl, rfl, rfl, rfl, rfl, rfl, rfl, rfl, rfl, trivial⟩ fun w118 hB119 hw120 => ?_))); have hE121 := hE115.step hw120 hg4.mem1
     try simp only [dB, Nat.reduceAdd] at hB119
     refine aD (aA (aQ (aZ (aO (aZ (aO (aO (aZ (aO (dM rfl (ResOk.cellA rfl cY bR hB119 rfl) ?_)))))))))); have hfin := heq.trans (KC (by omega) (by omega)); rw [if_pos hc49] at hfin; rw [hfin]
     have e1 : (((i + k + 1 - i : Nat)) : Int) = (k : Int) + 1 := by omega
     have e2 : decide (((sb s (i + k) : Nat) : Int) = 41) = decide (sb s (i + k) = 41) := decide_eq_decide.2 (by omega); refine ⟨?_, hE121⟩; simp only [opV, e1, e2]
    refine bA (aA (aF ?_)); refine hD (fun w0 w' => Evo [b3] w0 w') (by kernel_rfl) (fun w123 hw124 => ?_); have hE125 := hV16.then hw124; have hB126 := hw124.blk0 hb3; have hB127 := hw124.blk0 hb4; refine bB 0 rfl (by kernel_rfl) (by kernel_rfl) (by kernel_rfl) rfl (fun _ hS => bM rfl) (Evo.refl [b3] w123) ?_; refine bB 1 rfl (by kernel_rfl) (by kernel_rfl) (by kernel_rfl) rfl (fun _ hS => bF rfl rfl (by omega) (by omega)) (Evo.refl [b3] w123) ?_; refine bB 2 rfl (by kernel_rfl) (by kernel_rfl) (by kernel_rfl) rfl (fun _ hS => bM rfl) (Evo.refl [b3] w123) ?_; refine bB 3 rfl (by kernel_rfl) (by kernel_rfl) (by kernel_rfl) rfl (fun _ hS => bM rfl) (Evo.refl [b3] w123) ?_; refine bB 4 rfl (by kernel_rfl) (by kernel_rfl) (by kernel_rfl) rfl (fun _ hS => fZ (n := k) rfl rfl Tryz.underlying9 rfl (by omega) e0) (Evo.refl [b3] w123) ?_; refine bB 5 rfl (by kernel_rfl) (by kernel_rfl) (by kernel_rfl) rfl (fun _ hS => bC rfl rfl) (Evo.refl [b3] w123) ?_; refine bB 6 rfl (by kernel_rfl) (by kernel_rfl) (by kernel_rfl) rfl (fun _ hS => aE rfl fW) (Evo.refl [b3] w123) ?_; refine cL [7] (by kernel_rfl) rfl ⟨?_, trivial⟩; refine cV rfl ?_; refine bN rfl rfl (rfl) cB hB126 rfl fun w128 hB129 hw130 => ?_; have hE131 := hE125.step hw130 hg3.mem1; have hE132 := (Evo.refl [b3] w123).step hw130 (fun y hy => .inl hy); have hB133 := hw130.blk hB127 ha34.symm.nmem1
    try simp only [dB, Nat.reduceAdd] at hB129
    refine aD (cG (.inl hE132) ?_); refine bB 8 rfl (by kernel_rfl) (by kernel_rfl) (by kernel_rfl) rfl (fun _ hS => aE rfl kQ) hE132 ?_; refine cL [9] (by kernel_rfl) rfl ⟨?_, trivial⟩; refine cV rfl ?_; refine bN rfl rfl (rfl) gF hB129 rfl fun w134 hB135 hw136 => ?_; have hE137 := hE131.step hw136 hg3.mem1; have hE138 := hE132.step hw136 (fun y hy => .inl hy); have hB139 := hw136.blk hB133 ha34.symm.nmem1
    try simp only [dB, Nat.reduceAdd] at hB135
    refine aD (cG (.inl hE138) ?_); refine eH (by kernel_rfl) (aA ?_); refine aF (aC (aB rfl (cA rfl cY bR hB135 rfl) (bQ rfl rfl bR hB139 rfl rfl ⟨rfl, rfl, rfl, rfl, rfl, rfl, rfl, rfl, rfl, trivial⟩ fun w140 hB141 hw142 => ?_))); have hE143 := hE137.step hw142 hg4.mem1
    try simp only [dB, Nat.reduceAdd] at hB141
    refine aD (aA (aQ (aZ (aO (aZ (aO (aO (aZ (aO (dM rfl (ResOk.cellA rfl cY bR hB141 rfl) ?_)))))))))); have hfin := heq.trans (KC (by omega) (by omega)); rw [if_neg hc49] at hfin; rw [hfin]
    have e1 : (((i + k + 1 - i : Nat)) : Int) = (k : Int) + 1 := by omega
    have e2 : decide (((sb s (i + k) : Nat) : Int) = 41) = decide (sb s (i + k) = 41) := decide_eq_decide.2 (by omega); refine ⟨?_, hE143⟩; simp only [opV, e1, e2]
   refine aF (aC (aB rfl (aE rfl fA) (bN rfl rfl (rfl) gG hb3 rfl fun w145 hB146 hw147 => ?_))); have hE148 := hV16.step hw147 hg3.mem1; have hB149 := hw147.blk hb4 ha34.symm.nmem1
   try simp only [dB, Nat.reduceAdd] at hB146
   refine aD (aA (aF (aC (aB rfl (cA rfl cY bR hB146 rfl) (bQ rfl rfl bR hB149 rfl rfl ⟨rfl, rfl, rfl, rfl, rfl, rfl, rfl, rfl, rfl, trivial⟩ fun w150 hB151 hw152 => ?_))))); have hE153 := hE148.step hw152 hg4.mem1
   try simp only [dB, Nat.reduceAdd] at hB151
   refine aD (aA (aQ (aZ (aO (aZ (aO (aO (aZ (aO (dM rfl (ResOk.cellA rfl cY bR hB151 rfl) ?_)))))))))); have hfin := heq.trans (MG (by omega) (by omega) (by omega) (by omega) (by omega) (by omega) (by omega)); rw [hfin]; exact ⟨rfl, hE153⟩
  refine dT (cK (cK (dS (aA ?_)))); refine aF (aC (aB rfl (aE rfl fA) (bN rfl rfl (rfl) gG hb3 rfl fun w155 hB156 hw157 => ?_))); have hE158 := hV16.step hw157 hg3.mem1; have hB159 := hw157.blk hb4 ha34.symm.nmem1
  try simp only [dB, Nat.reduceAdd] at hB156
  refine aD (aA (aF (aC (aB rfl (cA rfl cY bR hB156 rfl) (bQ rfl rfl bR hB159 rfl rfl ⟨rfl, rfl, rfl, rfl, rfl, rfl, rfl, rfl, rfl, trivial⟩ fun w160 hB161 hw162 => ?_))))); have hE163 := hE158.step hw162 hg4.mem1
  try simp only [dB, Nat.reduceAdd] at hB161
  refine aD (aA (aQ (dM rfl (ResOk.cellA rfl cY bR hB161 rfl) ?_))); have hfin := heq.trans (GO (by omega)); rw [hfin]; exact ⟨rfl, hE163⟩
end Go.Proofs.YtljadkcojnlioaaGreatDoor
