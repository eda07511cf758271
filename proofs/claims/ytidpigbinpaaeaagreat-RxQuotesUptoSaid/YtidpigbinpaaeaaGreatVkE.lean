/- RxQuotes: a quoted text is a pattern that matches that text and of all others none. Condition: what came in is of bulk at most 1048576 (the form Upto). -/
import Derived.Test.YtidpigbinpaaeaaGreatVkD
set_option linter.unusedSectionVars false
set_option linter.unusedSimpArgs false
set_option linter.unusedVariables false
namespace Go.Proofs.YtidpigbinpaaeaaGreat
open Go.RowKit Go.W
attribute [local irreducible] Decidable.decide
theorem FP : dU Tryz.prog 127 := ⟨_, Tryz.func127, by kernel_rfl, by kernel_rfl⟩
theorem FO : dU Tryz.prog 128 := ⟨_, Tryz.func128, by kernel_rfl, by kernel_rfl⟩
theorem FN : dU Tryz.prog 129 := ⟨_, Tryz.func129, by kernel_rfl, by kernel_rfl⟩
theorem vC : dU Tryz.prog 133 := ⟨_, Tryz.func133, by kernel_rfl, by kernel_rfl⟩
theorem yJ {s : ByteArray} : ∀ {f i j : Nat} {fst : Bool} {S T : Int → Prop}, gE s f fst S i = .ok (T, j) → Bd s i → Bd s j ∧ i < j
  | 0, i, j, fst, S, T, h, _ => by cases h
  | f + 1, i, j, fst, S, T, h, hb => by
    rw [gE] at h
    split at h
    · cases h
    · rename_i h0
      split at h
      · rename_i h1
        cases h
        exact ⟨(hb.asc (by omega) (by omega)).1, by omega⟩
      · cases h2 : jM s i with
        | error e => rw [h2] at h; cases h
        | ok x =>
          obtain ⟨U, k⟩ := x
          rw [h2] at h
          obtain ⟨h3, h4⟩ := xK h2 hb (by omega)
          obtain ⟨h5, h6⟩ := yJ h h3
          exact ⟨h5, by omega⟩
theorem GL {s : ByteArray} {fl : Fl} {i j : Nat} {x : Rx} (h : lH s fl i = .ok (x, j)) (hb : Bd s i) : Bd s j ∧ i < j := by
  unfold lH at h
  cases h1 : gE s (s.size + 1) true (fun _ => False) (if isB s i 94 then i + 1 else i) with
  | error e => rw [h1] at h; cases h
  | ok y =>
    obtain ⟨S, k⟩ := y
    rw [h1] at h
    cases h
    by_cases h2 : isB s i 94
    · rw [if_pos h2] at h1
      obtain ⟨h3, h4⟩ := yJ h1 (h2.asc (by decide) hb)
      exact ⟨h3, by omega⟩
    · rw [if_neg h2] at h1
      exact yJ h1 hb
section
variable {s : ByteArray} {ex : PS → PX Rx} {st : PS} {x : Rx} {j : Nat} {e : Int}
theorem UA (h : sb s st.pos = 40) : eJ s ex st = qE s ex st := by unfold eJ; rw [if_pos h]
theorem pc_cl (h : sb s st.pos = 91) (h2 : lH s st.now (st.pos + 1) = .ok (x, j)) : eJ s ex st = .ok ([x], gX st j) := by unfold eJ; rw [if_neg (by omega), if_pos h, h2]; rfl
theorem pc_clE (h : sb s st.pos = 91) (h2 : lH s st.now (st.pos + 1) = .error e) : eJ s ex st = .error e := by unfold eJ; rw [if_neg (by omega), if_pos h, h2]
theorem TY (h : sb s st.pos = 92) : eJ s ex st = fQ s st := by unfold eJ; rw [if_neg (by omega), if_neg (by omega), if_pos h]
theorem TW (h1 : ¬ sb s st.pos = 40) (h2 : ¬ sb s st.pos = 91) (h3 : ¬ sb s st.pos = 92) : eJ s ex st = kC s st := by unfold eJ; rw [if_neg h1, if_neg h2, if_neg h3]
theorem pl_all (h : (bJ s st.pos).1 = 46) (h2 : st.now.dots = true) : kC s st = .ok ([kI (rs [(0, 1114111)])], gX st (st.pos + (bJ s st.pos).2)) := by unfold kC; rw [if_pos h, if_pos h2]; rfl
theorem pl_dot (h : (bJ s st.pos).1 = 46) (h2 : ¬ st.now.dots = true) : kC s st = .ok ([kI (rs [(0, 9), (11, 1114111)])], gX st (st.pos + (bJ s st.pos).2)) := by unfold kC; rw [if_pos h, if_neg h2]; rfl
theorem pl_hat (h : (bJ s st.pos).1 = 94) : kC s st = .ok ([rxK (if st.now.lines = true then 10 else 8)], gX st (st.pos + (bJ s st.pos).2)) := by unfold kC; rw [if_neg (by omega), if_pos h]; rfl
theorem pl_dol (h : (bJ s st.pos).1 = 36) : kC s st = .ok ([rxK (if st.now.lines = true then 11 else 9)], gX st (st.pos + (bJ s st.pos).2)) := by unfold kC; rw [if_neg (by omega), if_neg (by omega), if_pos h]; rfl
theorem KM (h : ¬ (bJ s st.pos).1 = 46) (h1 : ¬ (bJ s st.pos).1 = 94) (h2 : ¬ (bJ s st.pos).1 = 36) : kC s st = .ok ([lD st.now (bJ s st.pos).1], gX st (st.pos + (bJ s st.pos).2)) := by unfold kC; rw [if_neg h, if_neg h1, if_neg h2]; rfl
end
theorem PcPost.congr {b : Nat} {s : ByteArray} {pp qq : PS → PL} {st : PS} {ob : Option Nat} {w w' : World} {v : Value} (h : PcPost b s pp st ob w v w') (e : qq st = pp st) : PcPost b s qq st ob w v w' := by
  obtain ⟨l, st', h1, h2⟩ := h
  exact ⟨l, st', e.trans h1, h2⟩
theorem ExPan.congr {b : Nat} {α : Type} {pp qq : PS → PX α} {st : PS} {ob : Option Nat} {w w' : World} {v : Value} (h : ExPan b pp st ob w v w') (e : qq st = pp st) : ExPan b qq st ob w v w' := by
  obtain ⟨x, h1, h2⟩ := h
  exact ⟨x, e.trans h1, h2⟩
theorem PcPost.older {b : Nat} {s : ByteArray} {pp : PS → PL} {st : PS} {ob : Option Nat} {w w1 w' : World} {v : Value} (h : PcPost b s pp st ob w1 v w') (he : Evo [] w w1) : PcPost b s pp st ob w v w' := by
  obtain ⟨l, st', h1, h2, h3, h4, h5, a, c, o, ka, kc, ko, cs, bs, h6, h7, h8, h9, h10, h11⟩ := h
  exact ⟨l, st', h1, (he.any _).step h2 (fun y hy => .inl hy), h3, h4, h5, a, c, o, ka, kc, ko, cs, bs, h6, h7, h8, h9.older he.size, h10, (show NB w ob ob from .inl rfl).older h11 he.size⟩
theorem ExPan.older {b : Nat} {α : Type} {pp : PS → PX α} {st : PS} {ob : Option Nat} {w w1 w' : World} {v : Value} (h : ExPan b pp st ob w1 v w') (he : Evo [] w w1) : ExPan b pp st ob w v w' := by
  obtain ⟨e, h1, h2, h3⟩ := h
  exact ⟨e, h1, h2, (he.any _).step h3 (fun y hy => .inl hy)⟩
theorem PcPost.evo {b : Nat} {s : ByteArray} {pp : PS → PL} {st : PS} {ob : Option Nat} {w w' : World} {v : Value} (h : PcPost b s pp st ob w v w') : Evo (b :: ob.toList) w w' := by obtain ⟨l, st', h1, h2, _⟩ := h; exact h2
theorem TV {ex : PS → PX Rx} {w : World} {b : Nat} {s : ByteArray} {st : PS} {a : Option Addr} {c : Nat} {ob : Option Nat} (hex : st.opn < 250 → tP b s ex (st.opn + 1)) (hR : RdAt w b s st a c ob) (hs : s.size ≤ 4096) (hlt : st.pos < s.size) (hop : st.opn ≤ 250) (hb : Bd s st.pos) (hnl : st.names.length ≤ 100) (hG : Glb w) (hGo : Apart (some oC) ob) :
    Calls Tryz.prog 99 #[.pointer (some ⟨b, 0, none⟩)] w (RetP (PcPost b s (eJ s ex) st ob w) (ExPan b (eJ s ex) st ob w)) := by
  have hap := hR.ap; have hgb : oC ∉ [b] := fun h => hR.glb hG (List.mem_singleton.1 h).symm; obtain ⟨h1, h2, a5, hr0, hr1⟩ := hb.next hlt; refine bD (N := 71) Tryz.func99 rfl rfl rfl ?_; refine csr (wan (aI (aI ?_))); refine eM (by kernel_rfl) (by kernel_rfl) ?_; refine bE (fun _ D => aY rfl) ?_; refine bE (fun _ D => aF rfl) ?_; refine bE (fun _ D => aA rfl cP) ?_; refine bE (fun _ D => aU rfl cT (bA (D.blk0 hR.blk) rfl)) ?_; refine bE (fun _ D => aY rfl) ?_; refine bE (fun _ D => aF rfl) ?_; refine bE (fun _ D => aA rfl aV) ?_; refine bE (fun _ D => aU rfl aQ (bA (D.blk0 hR.blk) rfl)) ?_; refine bE (fun _ D => eA (n := st.pos) rfl rfl Tryz.underlying9 rfl hlt) ?_; refine eS (fun h3 D => aB ?_); have I := (Evo.refl [b] w).then D; have d7 := (Evo.refl [] w).then D; have a6 := D.blk0 hR.blk; have b5 := hR.own.evo0 D; refine bG (csr (wel ?_)); refine wan (aX rfl (fun e0 => ?_) (fun e0 => ?_))
  ·refine csr (aD ?_); refine cB (vs := [_]) FP rfl (MA hex ⟨a6, b5, hR.ne⟩ hs ⟨hlt, by omega⟩ hop hb hnl (hG.evo I hgb) hGo) rfl ?_ ?_
   ·intro pv wp hpp; exact And.intro rfl ⟨_, rfl, (ExPan.older hpp d7).congr (UA (by omega))⟩
   rintro rv w7 hpc; have h4 := hpc.evo; have B := I; refine wan (aH (aM (aE (cE (br1 ?_))))); exact (PcPost.older hpc d7).congr (UA (by omega))
  refine csr (wel ?_); refine wan (aX rfl (fun e1 => ?_) (fun e1 => ?_))
  ·refine csr (aD (aC (aF rfl) (wfl rfl aV rfl aQ a6 rfl ?_))); refine aC (aJ rfl rfl (by omega) (by omega)) ?_; refine aC (aF rfl) (aC (aA rfl aV) ?_); refine bC rfl rfl (by first | rfl | assumption) bO a6 rfl fun w9 b6 b7 => ?_; have U := I.step b7 (fun y hy => .inl hy)
   try simp only [cG, Nat.reduceAdd] at b6
   refine wnn (csr (aD ?_)); refine cB (vs := [_]) FO rfl (XF (st := gX st (st.pos + 1)) ⟨b6, (b5.evo b7 hap.symm.own1), hR.ne⟩ (by omega) (hb.asc hlt (by omega)).1 (hG.evo U hgb)) rfl ?_ ?_
   ·intro pv wp hpp; obtain ⟨e9, hpe, rfl, hpw⟩ := hpp; exact And.intro rfl ⟨_, rfl, UD (pc_clE (by omega) hpe) ((U).step hpw (fun y hy => .inl hy))⟩
   rintro rv d8 ⟨x, j, hx, hT, b8, b9⟩; have hcall9 := b8; have B := U; obtain ⟨hbj, hij⟩ := GL hx (hb.asc hlt (by omega)).1; have hij2 : st.pos + 1 < j := hij; obtain ⟨vs, bx, rfl, hOT, hFx⟩ := hT; obtain ⟨ra, rc, ka, kc, rfl⟩ := id hOT.nine; refine bL (vs := [_]) rfl cQ rfl rfl rfl rfl fun h5 h6 e2 e3 V => ?_; have e4 := (U.step b8 (fun y hy => .inl hy)).then V; have e5 := V.blk0 b9.blk; have e6 := b9.own.evo0 V; refine wan (aH (aM (aE (cE (br1 ?_)))))
   exact yD (pp := eJ s ex) hR (pc_cl (by omega) hx) (iD e2 hOT (hFx.older B.size) ((Ge.new (Evo.refl [] d8) e3) _ rfl) ((Evo.refl [] d8).then V) (fun b hb h => by cases h) (Nat.le_trans B.size hcall9.size)) e4 ⟨e5, e6, b9.ne⟩ rfl rfl hnl (by show st.pos < j; omega) hbj (by show 1 + st.pos ≤ j; omega)
  refine csr (wel ?_); refine wan (aX rfl (fun e7 => ?_) (fun e7 => ?_))
  ·refine csr (aD ?_); refine cB (vs := [_]) FN rfl (RE ⟨a6, b5, hR.ne⟩ (by omega) hlt (by omega) hb (hG.evo I hgb)) rfl ?_ ?_
   ·intro pv wp hpp; obtain ⟨e9, hpe, rfl, hpw⟩ := hpp; exact And.intro rfl ⟨_, rfl, UD ((TY (by omega)).trans hpe) ((I).step hpw (fun y hy => .inl hy))⟩
   rintro rv h7 ⟨l, st', hx, hK, e8, c0, ho, hnm, hp, hbd, hll⟩; have B := I; refine wan (aH (aM (aE (cE (br1 ?_))))); exact yD (pp := eJ s ex) hR ((TY (by omega)).trans hx) (hK.older B.size) (I.step e8 (fun y hy => .inl hy)) ⟨c0.blk, c0.own, c0.ne⟩ ho hnm hnl hp hbd hll
  refine aL (aO (aB (aI ?_))); have hpl : eJ s ex st = kC s st := TW (by omega) (by omega) (by omega); refine aG (aD ?_); refine aK (vs := [_]) nE rfl (xH ⟨a6, b5, hR.ne⟩ (by omega) hb) rfl ?_; rintro _ h8 ⟨rfl, f0, A⟩; have F := I.step f0 (fun y hy => .inl hy); refine wan (csr (aD (wnn (bG (csr (wel ?_)))))); refine wan (aX rfl (fun f5 => ?_) (fun f5 => ?_))
  ·refine aI (csr (aD (aC (aF rfl) (aC (aA rfl dS) (wfl rfl tL rfl gC A.blk rfl (wnn (fN rfl (fun H => ?_) (fun H => ?_))))))))
   ·replace H : st.now.dots = true := H; refine csr (bL (vs := [_, _]) rfl cO rfl rfl rfl rfl fun h9 i1 f6 g5 a7 => ?_); refine aK (vs := [_]) cU rfl (fP (es := [0, 1114111]) f6 (by decide)) rfl ?_; rintro _ i2 ⟨a1, c1, ob1, rfl, c2, hg1, a8⟩; have c3 := (F.then a7).then a8; refine aK (vs := [_]) gO rfl (mY (l := [(0, 1114111)]) (S := rs [(0, 1114111)]) c2 (gZ (by kernel_rfl)) (by decide) (fun c => Iff.rfl)) rfl ?_; rintro rv d9 ⟨hT, a0⟩; have hcall9 := a0; have B := c3; obtain ⟨vs, bx, rfl, hOT, hFx⟩ := hT; obtain ⟨ra, rc, ka, kc, rfl⟩ := id hOT.nine; refine bL (vs := [_]) rfl cQ rfl rfl rfl rfl fun i3 i4 f7 f8 a2 => ?_; have f9 := (c3.then a0).then a2; have g0 := a2.blk0 (a0.blk0 (a8.blk0 (a7.blk0 A.blk))); have g1 := (((A.own.evo0 a7).evo0 a8).evo0 a0).evo0 a2; refine wan (aH (aE (aM (cE (br1 ?_)))))
    exact yD (pp := eJ s ex) hR (hpl.trans (pl_all (by omega) H)) (iD f7 hOT (hFx.older B.size) ((Ge.new (Evo.refl ([]) d9) f8) _ rfl) ((Evo.refl ([]) d9).then a2) (fun b hb h => by cases h) (Nat.le_trans B.size hcall9.size)) f9 ⟨g0, g1, A.ne⟩ rfl rfl hnl (by show st.pos < st.pos + _; omega) a5 (by show 1 + st.pos ≤ st.pos + _; omega)
   replace H : st.now.dots = false := H; refine aL (aB (csr (bL (vs := [_, _, _, _]) rfl cO rfl rfl rfl rfl fun i5 i6 g2 g6 a9 => ?_))); refine aK (vs := [_]) cU rfl (fP (es := [0, 9, 11, 1114111]) g2 (by decide)) rfl ?_; rintro _ i7 ⟨a1, c1, ob1, rfl, c2, hg1, b4⟩; have c4 := (F.then a9).then b4; refine aK (vs := [_]) gO rfl (mY (l := [(0, 9), (11, 1114111)]) (S := rs [(0, 9), (11, 1114111)]) c2 (gZ (by kernel_rfl)) (by decide) (fun c => Iff.rfl)) rfl ?_; rintro rv c5 ⟨hT, J⟩; have hcall9 := J; have B := c4; obtain ⟨vs, bx, rfl, hOT, hFx⟩ := hT; obtain ⟨ra, rc, ka, kc, rfl⟩ := id hOT.nine; refine bL (vs := [_]) rfl cQ rfl rfl rfl rfl fun i8 g7 c7 c8 L => ?_; have c9 := (c4.then J).then L; have d0 := L.blk0 (J.blk0 (b4.blk0 (a9.blk0 A.blk))); have d1 := (((A.own.evo0 a9).evo0 b4).evo0 J).evo0 L; refine wan (aH (aM (cE (br1 ?_))))
   exact yD (pp := eJ s ex) hR (hpl.trans (pl_dot (by omega) (by simp [H]))) (iD c7 hOT (hFx.older B.size) ((Ge.new (Evo.refl ([]) c5) c8) _ rfl) ((Evo.refl ([]) c5).then L) (fun b hb h => by cases h) (Nat.le_trans B.size hcall9.size)) c9 ⟨d0, d1, A.ne⟩ rfl rfl hnl (by show st.pos < st.pos + _; omega) a5 (by show 1 + st.pos ≤ st.pos + _; omega)
  refine csr (wel ?_); refine wan (aX rfl (fun g3 => ?_) (fun g3 => ?_))
  ·refine csr (aD (aC (aF rfl) (aC (aA rfl dS) (wfl rfl pE rfl gC A.blk rfl (aK (vs := [_, _, _]) vC rfl (UO 8 10 st.now.lines) rfl ?_))))); rintro rv g8 ⟨hK, a3⟩; have B := F; refine wan (aH (aM (cE (br1 ?_))))
   exact yD (pp := eJ s ex) hR (hpl.trans (pl_hat (by omega))) (hK.older B.size) (F.then a3) ⟨(a3.blk0 A.blk), (A.own.evo0 a3), A.ne⟩ rfl rfl hnl (by show st.pos < st.pos + _; omega) a5 (by show 1 + st.pos ≤ st.pos + _; omega)
  refine csr (wel ?_); refine wan (aX rfl (fun g4 => ?_) (fun g4 => ?_))
  ·refine csr (aD (aC (aF rfl) (aC (aA rfl dS) (wfl rfl pE rfl gC A.blk rfl (aK (vs := [_, _, _]) vC rfl (UO 9 11 st.now.lines) rfl ?_))))); rintro rv g9 ⟨hK, a4⟩; have B := F; refine wan (aH (aM (cE (br1 ?_))))
   exact yD (pp := eJ s ex) hR (hpl.trans (pl_dol (by omega))) (hK.older B.size) (F.then a4) ⟨(a4.blk0 A.blk), (A.own.evo0 a4), A.ne⟩ rfl rfl hnl (by show st.pos < st.pos + _; omega) a5 (by show 1 + st.pos ≤ st.pos + _; omega)
  refine csr (aD (aD (aK (vs := [_, _]) nD rfl (DX ⟨A.blk, A.own, A.ne⟩ (bJ s st.pos).1 hr0 hr1) rfl ?_))); rintro rv c6 ⟨hT, M⟩; have hcall9 := M; have B := F; obtain ⟨vs, bx, rfl, hOT, hFx⟩ := hT; obtain ⟨ra, rc, ka, kc, rfl⟩ := id hOT.nine; refine bL (vs := [_]) rfl cQ rfl rfl rfl rfl fun i9 h0 d2 d3 O => ?_; have d4 := (F.then M).then O; have d5 := O.blk0 (M.blk0 A.blk); have d6 := (A.own.evo0 M).evo0 O; refine wan (aH (aM (cE (br1 ?_))))
  exact yD (pp := eJ s ex) hR (hpl.trans (KM (by omega) (by omega) (by omega))) (iD d2 hOT (hFx.older B.size) ((Ge.new (Evo.refl ([]) c6) d3) _ rfl) ((Evo.refl ([]) c6).then O) (fun b hb h => by cases h) (Nat.le_trans B.size hcall9.size)) d4 ⟨d5, d6, A.ne⟩ rfl rfl hnl (by show st.pos < st.pos + _; omega) a5 (by show 1 + st.pos ≤ st.pos + _; omega)
end Go.Proofs.YtidpigbinpaaeaaGreat
namespace Go.Proofs.YtidpigbinpaaeaaGreat
open Go.RowKit Go.W
theorem UG {s : ByteArray} {i nn : Nat} {lo hi : Int} (hb : Bd s i) (hi0 : i < s.size) (h : mP (s.extract i s.size) = (lo, hi, nn)) : 0 ≤ lo ∧ lo ≤ 1001 ∧ -1 ≤ hi ∧ hi ≤ 1001 ∧ (nn ≠ 0 → i + nn ≤ s.size ∧ Bd s (i + nn)) := by
  have hrs := fH (s := s) (a := i) (Nat.le_refl s.size)
  have e0 : sb (s.extract i s.size) 0 = sb s i := lF (by omega)
  have one : sb s i < 128 → i + 1 ≤ s.size ∧ Bd s (i + 1) := fun h => ⟨hi0, (hb.asc hi0 h).1⟩
  by_cases h1 : sb (s.extract i s.size) 0 = 42
  · rw [MV h1] at h; cases h
    exact ⟨by omega, by omega, by omega, by omega, fun _ => one (by omega)⟩
  · by_cases h2 : sb (s.extract i s.size) 0 = 43
    · rw [MW h2] at h; cases h
      exact ⟨by omega, by omega, by omega, by omega, fun _ => one (by omega)⟩
    · by_cases h3 : sb (s.extract i s.size) 0 = 63
      · rw [pr_qu h3] at h; cases h
        exact ⟨by omega, by omega, by omega, by omega, fun _ => one (by omega)⟩
      · by_cases h4 : sb (s.extract i s.size) 0 = 123
        · have close : ∀ {k : Nat}, isB (s.extract i s.size) k 125 → i + (k + 1) ≤ s.size ∧ Bd s (i + (k + 1)) := fun {k} hk => by
            have hk1 := hk.1
            have h6 : sb s (i + k) = 125 := by rw [← lF (by omega)]; exact hk.2
            exact ⟨by omega, by rw [← Nat.add_assoc]; exact isB.asc (b := 125) ⟨by omega, h6⟩ (by decide) (nK hb (by omega) (by omega) (by omega))⟩
          obtain ⟨lo1, j, hp1⟩ : ∃ lo1 j, iQ (s.extract i s.size) (s.extract i s.size).size 1 0 = (lo1, j) := ⟨_, _, rfl⟩
          have hb1 := yI (r := s.extract i s.size) (f := (s.extract i s.size).size) (i := 1) (n := 0) (by omega) (by omega) (by omega)
          have hbr := pr_br h4 hp1
          rw [hp1] at hb1
          rw [h] at hbr
          replace hb1 : 0 ≤ lo1 ∧ lo1 ≤ 1001 ∧ 1 ≤ j ∧ j ≤ (s.extract i s.size).size := hb1
          split at hbr
          · rename_i hc
            have hb2 := yI (r := s.extract i s.size) (f := (s.extract i s.size).size) (i := j + 1) (n := 0) (by omega) (by omega) (by have := hc.2.1; omega)
            split at hbr
            · rename_i hd
              obtain ⟨rfl, hx⟩ := Prod.mk.inj hbr
              obtain ⟨rfl, rfl⟩ := Prod.mk.inj hx
              refine ⟨hb1.1, hb1.2.1, ?_, ?_, fun _ => close hd⟩
              · split <;> omega
              · split <;> omega
            · cases hbr; exact ⟨by omega, by omega, by omega, by omega, fun h => absurd rfl h⟩
          · split at hbr
            · cases hbr; exact ⟨by omega, by omega, by omega, by omega, fun h => absurd rfl h⟩
            · rename_i hc
              obtain ⟨rfl, hx⟩ := Prod.mk.inj hbr
              obtain ⟨rfl, rfl⟩ := Prod.mk.inj hx
              have hd : isB (s.extract i s.size) j 125 := Classical.not_not.1 (fun h => hc (.inr h))
              exact ⟨hb1.1, hb1.2.1, by omega, by omega, fun _ => close hd⟩
        · rw [TT h1 h2 h3 h4] at h; cases h
          exact ⟨by omega, by omega, by omega, by omega, fun h => absurd rfl h⟩
section
variable {s : ByteArray} {ex : PS → PX Rx} {f : Nat} {l g : List Rx} {ah : Bool} {st st2 : PS} {e lo hi : Int} {nn : Nat}
theorem sY (h : s.size ≤ st.pos ∨ sb s st.pos = 124 ∨ sb s st.pos = 41) : iK s ex f l ah st = .ok (lC 4 l, st) := by
  cases f with
  | zero => rfl
  | succ f => rw [iK, if_pos h]
theorem alt_pcE (h : ¬ (s.size ≤ st.pos ∨ sb s st.pos = 124 ∨ sb s st.pos = 41)) (hr : mP (s.extract st.pos s.size) = (lo, hi, 0)) (hp : eJ s ex st = .error e) : iK s ex (f + 1) l ah st = .error e := by
  rw [iK, if_neg h, hr]; simp only; rw [if_pos trivial, hp]
theorem XT (h : ¬ (s.size ≤ st.pos ∨ sb s st.pos = 124 ∨ sb s st.pos = 41)) (hr : mP (s.extract st.pos s.size) = (lo, hi, 0)) (hp : eJ s ex st = .ok (g, st2)) : iK s ex (f + 1) l ah st = iK s ex f (l ++ g) (decide (0 < g.length)) st2 := by
  rw [iK, if_neg h, hr]; simp only; rw [if_pos trivial, hp]
theorem xQ (h : ¬ (s.size ≤ st.pos ∨ sb s st.pos = 124 ∨ sb s st.pos = 41)) (hr : mP (s.extract st.pos s.size) = (lo, hi, nn)) (hn : nn ≠ 0) (hc : ah = false ∨ 1000 < lo ∨ 1000 < hi ∨ (0 ≤ hi ∧ hi < lo)) : iK s ex (f + 1) l ah st = .error 82 := by
  rw [iK, if_neg h, hr]; simp only; rw [if_neg hn, if_pos hc]
theorem PF (h : ¬ (s.size ≤ st.pos ∨ sb s st.pos = 124 ∨ sb s st.pos = 41)) (hr : mP (s.extract st.pos s.size) = (lo, hi, nn)) (hn : nn ≠ 0) (hc : ¬ (ah = false ∨ 1000 < lo ∨ 1000 < hi ∨ (0 ≤ hi ∧ hi < lo))) (hq : isB s (st.pos + nn) 63) :
    iK s ex (f + 1) l ah st = iK s ex f (l.dropLast ++ [lS lo hi (!st.now.lazy) (l.getLastD (rxK 1))]) false { st with pos := st.pos + nn + 1 } := by
  rw [iK, if_neg h, hr]; simp only; rw [if_neg hn, if_neg hc, if_pos hq]
theorem ES (h : ¬ (s.size ≤ st.pos ∨ sb s st.pos = 124 ∨ sb s st.pos = 41)) (hr : mP (s.extract st.pos s.size) = (lo, hi, nn)) (hn : nn ≠ 0) (hc : ¬ (ah = false ∨ 1000 < lo ∨ 1000 < hi ∨ (0 ≤ hi ∧ hi < lo))) (hq : ¬ isB s (st.pos + nn) 63) :
    iK s ex (f + 1) l ah st = iK s ex f (l.dropLast ++ [lS lo hi st.now.lazy (l.getLastD (rxK 1))]) false { st with pos := st.pos + nn } := by
  rw [iK, if_neg h, hr]; simp only; rw [if_neg hn, if_neg hc, if_neg hq]
theorem IP (h : ¬ isB s st.pos 124) : mU s ex f l st = .ok (lC 5 l, st) := by
  cases f with
  | zero => rfl
  | succ f => rw [mU, if_neg h]
theorem XS (h : isB s st.pos 124) (hp : iK s ex (s.size + 1) [] false (adv st 1) = .error e) : mU s ex (f + 1) l st = .error e := by
  rw [mU, if_pos h]; show (match iK s ex (s.size + 1) [] false (adv st 1) with | .error e => _ | .ok (x, st2) => _) = _; rw [hp]
theorem alts_go {x : Rx} (h : isB s st.pos 124) (hp : iK s ex (s.size + 1) [] false (adv st 1) = .ok (x, st2)) : mU s ex (f + 1) l st = mU s ex f (l ++ [x]) st2 := by
  rw [mU, if_pos h]; show (match iK s ex (s.size + 1) [] false (adv st 1) with | .error e => _ | .ok (x, st2) => _) = _; rw [hp]
end
theorem Fr.right {w : World} {b1 b2 : List Nat} (h : Fr w (b1 ++ b2)) : Fr w b2 := ⟨(List.nodup_append.1 h.nd).2.1, fun b hb => h.ge b (List.mem_append_right _ hb)⟩
theorem Fr.sub {w : World} {b1 b2 : List Nat} (h : Fr w b2) (hs : b1.Sublist b2) : Fr w b1 := ⟨h.nd.sublist hs, fun b hb => h.ge b (hs.subset hb)⟩
theorem Fr.insert {w w1 : World} {b0 b1 b2 : List Nat} {g : Nat} (h : Fr w (b0 ++ (b1 ++ b2))) (hl : ∀ b, b ∈ b0 ++ (b1 ++ b2) → b < w1.heap.size) (hg : w1.heap.size ≤ g) (hw : w.heap.size ≤ w1.heap.size) : Fr w (b0 ++ (b1 ++ (g :: b2))) := by
  have hp : (b0 ++ (b1 ++ (g :: b2))).Perm (g :: (b0 ++ (b1 ++ b2))) := by
    rw [← List.append_assoc, ← List.append_assoc]
    exact List.perm_middle
  refine ⟨hp.nodup_iff.2 (List.nodup_cons.2 ⟨fun hm => ?_, h.nd⟩), fun b hb => ?_⟩
  · have := hl g hm; omega
  · rcases List.mem_cons.1 (hp.mem_iff.1 hb) with rfl | hb
    · omega
    · exact h.ge b hb
theorem vL {w : World} {e e2 : TypeId} {sz sz2 : Nat} {a a2 : Option Addr} {n n2 c c2 : Nat} {xs xs2 : List Value} {o o2 : Option Nat} (h : OwnS w e sz a n c xs o) (h2 : OwnS w e2 sz2 a2 n2 c2 xs2 o2) (hne : e ≠ e2) : Apart o o2 := fun g h3 h4 => by
  rcases h.2 with ⟨_, _, h5⟩ | ⟨g', _, cur, hg, _, hb, _⟩
  · rw [h5] at h3; cases h3
  · rcases h2.2 with ⟨_, _, h5⟩ | ⟨g2, _, cur2, hg2, _, hb2, _⟩
    · rw [h5] at h4; cases h4
    · rw [h3] at hg; cases hg
      rw [h4] at hg2; cases hg2
      rw [hb] at hb2
      injection hb2 with hb2
      injection hb2 with _ hb2
      exact hne hb2
theorem CP {w : World} {e e2 : TypeId} {sz2 : Nat} {a2 : Option Addr} {n2 c2 : Nat} {xs2 : List Value} {o2 : Option Nat} {b : Nat} {cs : Array Value} (h : w.heap[b]? = some (.cells cs e (0, 0))) (h2 : OwnS w e2 sz2 a2 n2 c2 xs2 o2) (hne : e ≠ e2) : Apart (some b) o2 := fun g h3 h4 => by
  cases h3
  rcases h2.2 with ⟨_, _, h5⟩ | ⟨g2, _, cur2, hg2, _, hb2, _⟩
  · rw [h5] at h4; cases h4
  · rw [h4] at hg2; cases hg2
    rw [h] at hb2
    injection hb2 with hb2
    injection hb2 with _ hb2
    exact hne hb2
theorem put_end {c1 c2 vs : List Value} (h : vs.length = c2.length) : uE (c1 ++ c2) c1.length vs = c1 ++ vs := by
  unfold uE
  rw [List.take_left, List.drop_append, h]
  simp
theorem qJ {w : World} {g : Nat} {c1 c2 : List Value} (h : CellsAt w g 0 (c1 ++ c2)) : CellsAt w g (0 + c1.length) c2 := fun j v hj => by
  have h1 := h (c1.length + j) v (by rw [List.getElem?_append_right (by omega)]; simpa using hj)
  rw [← Nat.add_assoc] at h1
  exact h1
theorem MN {l : List Rx} (h : l ≠ []) : ∃ l' x, l = l' ++ [x] ∧ l.dropLast = l' ∧ (∀ d, l.getLastD d = x) := by
  rcases List.eq_nil_or_concat l with rfl | ⟨l', x, rfl⟩
  · exact (h rfl).elim
  · exact ⟨l', x, by simp, by simp, fun d => by simp⟩
theorem DL {X : List Nat} {w1 w2 : World} {x : Rx} {vs : List Value} {bs : List Nat} {g : Nat} {lo hi : Int} {z : Bool} (hO : OwnS w2 71 9 (some ⟨g, 0, none⟩) 1 1 vs (some g)) (hT : OT x w1 vs bs) (he : Evo X w1 w2) (hx : ∀ b, b ∈ bs → b ∉ X) :
    OT (lS lo hi z x) w2 [iv 6, .int .i32 0, .slice none 0 0, iv lo, iv hi, .bool z, iv 0, .string ByteArray.empty, .slice (some ⟨g, 0, none⟩) 1 1] (g :: bs) := by
  unfold lS
  rw [OT]
  exact ⟨none, 0, none, _, 1, some g, vs, bs, rfl, OwnS.nil _ _ _, hO, OTs.single (hT.evo he hx), rfl, by simp, by show (0 : Nat) ≤ 1000000; omega, by simp⟩
end Go.Proofs.YtidpigbinpaaeaaGreat
namespace Go.Proofs.YtidpigbinpaaeaaGreat
open Go.RowKit Go.W
attribute [local irreducible] Decidable.decide
theorem oR : dU Tryz.prog 78 := ⟨_, Tryz.func78, by kernel_rfl, by kernel_rfl⟩
theorem IY : dU Tryz.prog 98 := ⟨_, Tryz.func98, by kernel_rfl, by kernel_rfl⟩
theorem IX : dU Tryz.prog 99 := ⟨_, Tryz.func99, by kernel_rfl, by kernel_rfl⟩
noncomputable def wI (s : ByteArray) (ex : PS → PX Rx) (st : PS) : PX Rx := iK s ex (s.size + 1) [] false st
structure AtG where
  f : Nat
  sx : PS
  l : List Rx
  ah : Bool
  n : Nat
  qa : Option Addr
  qc : Nat
  qo : Option Nat
  bs : List Nat
  na : Option Addr
  nc : Nat
  no : Option Nat
structure AtI (w wr : World) (b : Nat) (s : ByteArray) (ex : PS → PX Rx) (st : PS) (ob : Option Nat) (b2 : Nat) (x : AtG) : Prop where
  hr : RdAt wr b s x.sx x.na x.nc x.no
  mv : Mv s st x.sx
  eq : wI s ex st = iK s ex x.f x.l x.ah x.sx
  hf : s.size + 1 ≤ x.f + x.sx.pos
  kt : ∃ cs, OwnS wr 71 9 x.qa x.n x.qc cs x.qo ∧ OTs x.l wr cs x.bs
  fr : Fr w (x.qo.toList ++ x.bs)
  len : x.l.length + st.pos ≤ x.sx.pos
  ahl : x.ah = true → x.l ≠ []
  nb : NB w ob x.no
  hb2 : wr.heap[b2]? = some (.cells #[iv 0, .int .i32 0, .slice none 0 0, iv 0, iv 0, .bool false, iv 0, .string ByteArray.empty, .slice none 0 0] 71 (0, 0))
  g2 : Ge w (some b2)
  a2 : b2 ∉ x.qo.toList ++ x.bs
theorem DI {w : World} {e : TypeId} {sz : Nat} {a : Option Addr} {n c : Nat} {xs : List Value} {o : Option Nat} (h : OwnS w e sz a n c xs o) : ∀ g, g ∈ o.toList → ∃ cs, w.heap[g]? = some (.cells cs e (0, 0)) := fun g hg => by
  rcases h.2 with ⟨_, _, h5⟩ | ⟨g', _, cur, hg2, _, hb, _⟩
  · rw [h5] at hg; cases hg
  · rw [hg2] at hg
    rw [List.mem_singleton.1 hg]; exact ⟨_, hb⟩
mutual
theorem OT.types : ∀ {x : Rx} {w : World} {vs : List Value} {bs : List Nat}, OT x w vs bs → ∀ g, g ∈ bs → ∃ cs T, w.heap[g]? = some (.cells cs T (0, 0)) ∧ (T = 71 ∨ T = 135)
  | .mk k r rs mn mx lz cp nm ks, w, vs, bs, h => by
    rw [OT] at h
    obtain ⟨ra, rc, rb, ka, kc, kb, cs, bk, h1, h2, h3, h4, rfl, h5⟩ := h
    intro g hg
    rcases List.mem_append.1 hg with hg | hg
    · obtain ⟨c, hc⟩ := DI h2 g hg; exact ⟨c, _, hc, .inr rfl⟩
    · rcases List.mem_append.1 hg with hg | hg
      · obtain ⟨c, hc⟩ := DI h3 g hg; exact ⟨c, _, hc, .inl rfl⟩
      · exact OTs.types h4 g hg
theorem OTs.types : ∀ {l : List Rx} {w : World} {cs : List Value} {bs : List Nat}, OTs l w cs bs → ∀ g, g ∈ bs → ∃ cs T, w.heap[g]? = some (.cells cs T (0, 0)) ∧ (T = 71 ∨ T = 135)
  | [], w, cs, bs, h => by rw [OTs] at h; rw [h.2]; exact fun g hg => by cases hg
  | x :: l, w, cs, bs, h => by
    rw [OTs] at h
    obtain ⟨vs, cs', b1, b2, h1, rfl, h3, h4⟩ := h
    intro g hg
    rcases List.mem_append.1 hg with hg | hg
    · exact OT.types h3 g hg
    · exact OTs.types h4 g hg
end
theorem nm_rd {w : World} {b : Nat} {s : ByteArray} {st : PS} {a : Option Addr} {c : Nat} {ob : Option Nat} {qa : Option Addr} {n qc : Nat} {cs : List Value} {qo : Option Nat} {l : List Rx} {bs : List Nat} (hR : RdAt w b s st a c ob) (hO : OwnS w 71 9 qa n qc cs qo) (hT : OTs l w cs bs) : ∀ q, q ∈ qo.toList ++ bs → q ∉ b :: ob.toList := fun q hq hm => by
  have h1 : ∃ cs T, w.heap[q]? = some (.cells cs T (0, 0)) ∧ (T = 71 ∨ T = 135) := by
    rcases List.mem_append.1 hq with hq | hq
    · obtain ⟨c, hc⟩ := DI hO q hq; exact ⟨c, _, hc, .inl rfl⟩
    · exact hT.types q hq
  obtain ⟨c1, T, h1, hTT⟩ := h1
  rcases List.mem_cons.1 hm with rfl | hm
  · rw [hR.blk] at h1
    injection h1 with h1
    injection h1 with _ h1
    rw [← h1] at hTT
    exact absurd hTT (by decide +kernel)
  · obtain ⟨c2, h2⟩ := DI hR.own q hm
    rw [h2] at h1
    injection h1 with h1
    injection h1 with _ h1
    rw [← h1] at hTT
    exact absurd hTT (by decide +kernel)
theorem GV {w2 : World} {q : Nat} {o o2 : Option Nat} {bs bx : List Nat} (h : q ∉ o.toList ++ bs) (hq : q < w2.heap.size) (hx : ∀ b, b ∈ bx → q ≠ b) (hob : o2 = o ∨ ∃ g, o2 = some g ∧ w2.heap.size ≤ g) : q ∉ o2.toList ++ (bs ++ bx) := fun hm => by
  rcases List.mem_append.1 hm with hm | hm
  · rcases hob with rfl | ⟨g, rfl, hg⟩
    · exact h (List.mem_append_left _ hm)
    · rw [List.mem_singleton.1 hm] at hq; omega
  · rcases List.mem_append.1 hm with hm | hm
    · exact h (List.mem_append_right _ hm)
    · exact hx q hm rfl
theorem oH {w w' : World} {e : TypeId} {sz : Nat} {a : Option Addr} {n c k g : Nat} {c1 c2 vs : List Value} {ob : Option Nat} {cur : Array Value} {U : TypeId} (h : OwnS w e sz a n c (c1 ++ c2) ob) (hg : ob = some g) (hb : w.heap[g]? = some (.cells cur U (0, 0))) (hc1 : c1.length = k * sz) (hk : k < n) (hc2 : c2.length = sz) (hv : vs.length = sz)
    (hb' : w'.heap[g]? = some (.cells (cur.toList.take (0 + k * sz) ++ vs ++ cur.toList.drop (0 + k * sz + sz)).toArray U (0, 0))) : OwnS w' e sz a n c (c1 ++ vs) ob := by
  have h1 := OwnS.put h hg hb (o := 0 + k * sz) (by omega) hk hv hb'
  rw [Nat.zero_add, ← hc1, put_end (by omega)] at h1
  exact h1
theorem KD {w : World} {b : Nat} {s : ByteArray} {st : PS} {a : Option Addr} {c : Nat} {ob : Option Nat} {lo hi : Int} {nn : Nat} (hR : RdAt w b s st a c ob) (hs : s.size ≤ 1000000) (hlt : st.pos < s.size) (hrp : mP (s.extract st.pos s.size) = (lo, hi, nn)) :
    Calls Tryz.prog 98 #[.pointer (some ⟨b, 0, none⟩)] w (Ret fun v w' => v = .tuple #[iv lo, iv hi, iv (nn : Nat)] ∧ Evo [] w w') := by
  have h := KF hR hs hlt
  rw [hrp] at h
  exact h
theorem ap_nm {q : Nat} {o : Option Nat} {l : List Nat} (h : q ∉ o.toList ++ l) : Apart (some q) o := fun g h1 h2 => by cases h1; exact h (List.mem_append_left _ (by simp [h2]))
theorem HT {b : Nat} {o : Option Nat} : ∀ y, y ∈ [b] → y ∈ b :: o.toList := fun y hy => by rw [List.mem_singleton.1 hy]; simp
theorem rZ {ex : PS → PX Rx} {w : World} {b : Nat} {s : ByteArray} {st : PS} {a : Option Addr} {c : Nat} {ob : Option Nat} (hex : st.opn < 250 → tP b s ex (st.opn + 1)) (hR : RdAt w b s st a c ob) (hs : s.size ≤ 4096) (hop : st.opn ≤ 250) (hb : Bd s st.pos) (hnl : st.names.length ≤ 100) (hG : Glb w) (hGo : Apart (some oC) ob) :
    Calls Tryz.prog 76 #[.pointer (some ⟨b, 0, none⟩)] w (RetP (MI b s (wI s ex) st ob w) (ExPan b (wI s ex) st ob w)) := by
  have hap := hR.ap; have hgb : oC ∉ [b] := fun h => hR.glb hG (List.mem_singleton.1 h).symm; have hgw := WA hgb hGo; have hbw : Lt w (some b) := Lt.blk hR.blk; have how : Lt w ob := Lt.own hR.own; refine bD (N := 115) Tryz.func76 rfl rfl rfl ?_; refine csr (cK rfl eG fun b2 w1 m2 i1 i2 => ?_); have m3 := i1; have d3 := Apart.new (Lt.blk hR.blk) i1; have m4 := Ge.new (Evo.refl (b :: ob.toList) w) i1; refine wnn (csr (wan (csr (wan (aI (bG ?_))))))
  refine dC (α := AtG) (⟨s.size + 1, st, [], false, 0, none, 0, none, [], a, c, ob⟩) (fun x => [(3, .slice x.qa x.n x.qc), (4, .bool x.ah)]) [(0, _), (2, _)] (fun x wr => Evo (b :: ob.toList) w wr ∧ (AtI w wr b s ex st ob b2 x)) (fun x => x.f) ⟨rfl, rfl, trivial⟩ ⟨rfl, rfl, trivial⟩ ⟨((Evo.refl (b :: ob.toList) w).then i2), ⟨⟨(i2.blk0 hR.blk), (hR.own.evo0 i2), hR.ne⟩, ⟨rfl, Nat.le_refl _, hb, hnl⟩, rfl, Nat.le_add_right _ _, ⟨[], OwnS.nil _ _ _, OTs.nil _⟩, Fr.nil _, (by show 0 + st.pos ≤ st.pos; omega), (fun h => by cases h), .inl rfl, m2, m4, List.not_mem_nil⟩⟩ ?_
  rintro ⟨f, sx, l, ah, n, qa, qc, qo, bs, na, nc, no⟩ wr11 ⟨c9, ⟨B, hmv, heq, hfi, ⟨cs, hown, hts⟩, hfr, hlen, hahl, hnb, hb2, hg2, ha2⟩⟩; show CW _ _ _ _ [(3, .slice qa n qc), (4, .bool ah), (0, _), (2, _)] _
  try dsimp only at B hmv heq hfi cs hown hts hfr hlen hahl hnb hb2 hg2 ha2
  have V : Apart (some b) qo := kE hbw (oL hfr); have f9 := vL hown B.own (by decide +kernel); have a5 : Apart (some b) (some b2) := kE hbw hg2; have g0 := CP hb2 B.own (by decide +kernel); have d3 := ap_nm ha2; have hGo1 := fT hGo (LI hG) hnb; have hpl := hmv.bd.le; have hmle := hmv.le; have nmq := nm_rd B hown hts; refine aI (aI ?_); refine eM (by kernel_rfl) (by kernel_rfl) ?_; refine bE (fun _ A => aY rfl) ?_; refine bE (fun _ A => aF rfl) ?_; refine bE (fun _ A => aA rfl aV) ?_; refine bE (fun _ A => aU rfl aQ (bA (A.blk0 B.blk) rfl)) ?_; refine bE (fun _ A => aY rfl) ?_; refine bE (fun _ A => aF rfl) ?_; refine bE (fun _ A => aA rfl cP) ?_; refine bE (fun _ A => aU rfl cT (bA (A.blk0 B.blk) rfl)) ?_; refine bE (fun _ A => cA rfl Tryz.underlying9 rfl) ?_; refine bE (fun _ A => cX rfl rfl) ?_; refine bE (fun _ A => aY rfl) ?_; refine kG (t := 21) rfl (fun k2 => ?_) (fun k2 => ?_)
  ·refine qlg ?_; refine bE (fun _ A => aY rfl) ?_; refine qlg ?_; refine bE (fun _ A => aF rfl) ?_; refine qlg ?_; refine bE (fun _ A => aA rfl cP) ?_; refine qlg ?_; refine bE (fun _ A => aU rfl cT (bA (A.blk0 B.blk) rfl)) ?_; refine qlg ?_; refine bE (fun _ A => aY rfl) ?_; refine qlg ?_; refine bE (fun _ A => aF rfl) ?_; refine qlg ?_; refine bE (fun _ A => aA rfl aV) ?_; refine qlg ?_; refine bE (fun _ A => aU rfl aQ (bA (A.blk0 B.blk) rfl)) ?_; refine qlg ?_; refine bE (fun _ A => eA (n := sx.pos) rfl rfl Tryz.underlying9 rfl (by omega)) ?_; refine qlg ?_; refine bE (fun _ A => gU rfl rfl) ?_; refine bE (fun _ A => gB rfl rfl) ?_; refine bE (fun _ A => aY rfl) ?_; refine kG (t := 33) rfl (fun k3 => ?_) (fun k3 => ?_)
   ·refine qlg ?_; refine bE (fun _ A => aY rfl) ?_; refine qlg ?_; refine bE (fun _ A => aF rfl) ?_; refine qlg ?_; refine bE (fun _ A => aA rfl cP) ?_; refine qlg ?_; refine bE (fun _ A => aU rfl cT (bA (A.blk0 B.blk) rfl)) ?_; refine qlg ?_; refine bE (fun _ A => aY rfl) ?_; refine qlg ?_; refine bE (fun _ A => aF rfl) ?_; refine qlg ?_; refine bE (fun _ A => aA rfl aV) ?_; refine qlg ?_; refine bE (fun _ A => aU rfl aQ (bA (A.blk0 B.blk) rfl)) ?_; refine qlg ?_; refine bE (fun _ A => eA (n := sx.pos) rfl rfl Tryz.underlying9 rfl (by omega)) ?_; refine qlg ?_; refine bE (fun _ A => gU rfl rfl) ?_; refine bE (fun _ A => gB rfl rfl) ?_; refine eS (fun i3 A => aB ?_); have e7 := c9.then A; have e8 := A.blk0 B.blk; have f0 := B.own.evo0 A; have f5 := hts.evo0 A; refine aX rfl (fun k4 => ?_) (fun k4 => ?_)
    ·have hng : ¬ (s.size ≤ sx.pos ∨ sb s sx.pos = 124 ∨ sb s sx.pos = 41) := by omega
     obtain ⟨f', rfl⟩ : ∃ f', f = f' + 1 := ⟨f - 1, by omega⟩; obtain ⟨lo, hi, nn, hrp⟩ : ∃ lo hi nn, mP (s.extract sx.pos s.size) = (lo, hi, nn) := ⟨_, _, _, rfl⟩; obtain ⟨hlo0, hlo1, hhi0, hhi1, hnn⟩ := UG hmv.bd (by omega) hrp; have hopx : sx.opn = st.opn := hmv.opn
     have hex' : sx.opn < 250 → tP b s ex (sx.opn + 1) := by rw [hopx]; exact hex
     refine aL (aB (bG (csr (aD ?_)))); refine aK (vs := [_]) IY rfl (KD ⟨e8, f0, B.ne⟩ (by omega) (by omega) hrp) rfl ?_; rintro _ o3 ⟨rfl, b9⟩; have M := e7.then b9; have d0 := b9.blk0 e8; have f6 := f0.evo0 b9; have d5 := (hown.evo0 A).evo0 b9; have d6 := f5.evo0 b9; have d7 := b9.blk0 (A.blk0 hb2); refine aD (aC (cD rfl rfl) ?_); refine aC (cD rfl rfl) ?_; refine aC (cD rfl rfl) ?_; refine bX (bX (wan (aI (csr (aD (wel ?_)))))); refine wnn (aX rfl (fun k5 => ?_) (fun k5 => ?_))
     ·obtain rfl : nn = 0 := by omega
      refine csr (aD ?_); refine cB (vs := [_]) IX rfl (TV hex' ⟨d0, f6, B.ne⟩ hs (by omega) (by omega) hmv.bd hmv.nm (hG.evo M hgw) hGo1) rfl ?_ ?_
      ·intro pv wp hpp; obtain ⟨e9, hpe, rfl, hpw⟩ := hpp; exact And.intro rfl ⟨_, rfl, _, heq.trans (alt_pcE hng hrp hpe), rfl, (M).step hpw (oV hnb)⟩
      rintro rv m5 ⟨g, st2, hx, d1, hmv2, hp2, hl2, na3, nc3, no3, ka, kc, ko, cs2, bs2, rfl, hk1, hk2, hk3, g1, hnb3⟩; have hcall9 := d1; have e6 := M; have hl1 := oU d5 d6; have hnb4 := hnb.older hnb3 e6.size; have hkg : ∀ q, q ∈ ko.toList ++ bs2 → _ ≤ q := hk3.ge; have hb2l := eO d7
      have n1 : Apart ko qo := fun q h1 h2 => by have h3 := hkg q (List.mem_append_left _ (by simp [h1])); have h4 := hl1 q (List.mem_append_left _ (by simp [h2])); omega
      have n2 : Apart ko (some b2) := fun q h1 h2 => by cases h2; have h3 := hkg b2 (List.mem_append_left _ (by simp [h1])); omega
      have i4 := d5.evo d1 (fun q hq => nmq q (List.mem_append_left _ (by simp [hq]))); have i5 := d1.blk d7 (AB a5.symm g0); have k6 := vL i4 g1.own (by decide +kernel); refine wan (csr (aD (aD ?_))); have k7 := hk2; have hVV := (Evo.refl [] m5); have hb29 := eO i5
      refine dB rfl rfl rfl rfl mG i4 (Src.ofOwn hk1 hk2.one) (by have h8 := rP hown hts; have h9 := hmv2.bd.le; omega) fun qa2 qc2 o4 qo2 m6 c0 hob41 => ?_
      have k8 := (d6.evo d1 (fun q hq => nmq q (List.mem_append_right _ hq))).evo c0 (rD hfr)
      have k9 := hk2.evo c0 (fun q hq h => by have h8 := hkg q (List.mem_append_right _ hq); have h9 := hl1 q (List.mem_append_left _ h); omega)
      have hob2 := hob41; have hFr9 := Fr.grow hfr hl1 hk3.right (OTs.lt k7) e6.size (Nat.le_trans hcall9.size hVV.size) hob2
      have hnin := GV ha2 hb29 (fun q hq e => by have h8 := hkg q (List.mem_append_right _ hq); omega) hob2
      refine wan (csr (aD (aC (bH rfl Tryz.underlying69 rfl) ?_))); refine aC (gL rfl rfl) ?_; refine wan (cM (bK (cL (bB ?_)))); refine ⟨⟨f', st2, l ++ g, decide (0 < (g.length : Int)), n + g.length, qa2, qc2, qo2, bs ++ bs2, na3, nc3, no3⟩, ?_, ⟨rfl, rfl, trivial⟩, ⟨rfl, rfl, trivial⟩, ((M.step d1 (oV hnb)).step c0 (oL hfr).mem), ?_⟩
      · (try dsimp only); show f' < f' + 1; omega
      try dsimp only
      refine ⟨⟨(c0.blk g1.blk V.nmem), (g1.own.evo c0 k6.symm.own), g1.ne⟩, ⟨hmv2.opn.trans hmv.opn, Nat.le_trans hmv.le hmv2.le, hmv2.bd, hmv2.nm⟩, heq.trans ((XT hng hrp hx).trans ?_), (by show s.size + 1 ≤ f' + st2.pos; omega), ⟨_, m6, OTs.app k8 k9⟩, hFr9, (by show (l ++ g).length + st.pos ≤ st2.pos; rw [List.length_append]; omega), ?_, hnb4, (c0.blk i5 d3.nmem), hg2, hnin⟩
      · rw [show decide (0 < (g.length : Int)) = decide (0 < g.length) from decide_eq_decide.2 (by omega)]
      · intro h h9; have h8 : 0 < (g.length : Int) := of_decide_eq_true h; have h7 := (List.append_eq_nil_iff.1 h9).2; rw [h7] at h8; exact absurd h8 (by decide +kernel)
     have hnn0 : nn ≠ 0 := by omega
     refine aL (aB (aI (csr (aD (aC (fK rfl) ?_))))); refine aD (sH (t := 63) rfl (fun O => ?_) (fun O => ?_))
     ·replace O := congrArg Bool.not O; simp only [Bool.not_not, Bool.not_true, Bool.not_false] at O; subst O
      refine aN (aN (bW (aD (aN (aN (bW (aD (aN (aN (aN (fF ?_))))))))))); refine fF ?_; refine fF ?_; refine aN (bW (wnn (dP rfl ?_))); refine aG (cB (vs := [_]) cN rfl (eD 82) rfl ?_ ?_)
      ·intro pv wp hpp; obtain ⟨rfl, hpw⟩ := hpp; exact And.intro rfl ⟨_, rfl, _, heq.trans (xQ hng hrp hnn0 (.inl rfl)), rfl, (M).then hpw⟩
      intro _ _ hF; exact hF.elim
     replace O := congrArg Bool.not O; simp only [Bool.not_not, Bool.not_true, Bool.not_false] at O; subst O
     refine aT (aD (aT (aC (gL rfl rfl) ?_))); refine bM (aD (bF (t := 67) rfl (fun l0 => ?_) (fun l0 => ?_)))
     ·refine aN (aN (bW (aD (aN (aN (aN (fF ?_))))))); refine fF ?_; refine fF ?_; refine aN (bW (wnn (dP rfl ?_))); refine aG (cB (vs := [_]) cN rfl (eD 82) rfl ?_ ?_)
      ·intro pv wp hpp; obtain ⟨rfl, hpw⟩ := hpp; exact And.intro rfl ⟨_, rfl, _, heq.trans (xQ hng hrp hnn0 (.inr (by omega))), rfl, (M).then hpw⟩
      intro _ _ hF; exact hF.elim
     refine aT (aD (aT (aC (gL rfl rfl) ?_))); refine bM (aD (bF (t := 71) rfl (fun l1 => ?_) (fun l1 => ?_)))
     ·refine aN (aN (aN (fF ?_))); refine fF ?_; refine fF ?_; refine aN (bW (wnn (dP rfl ?_))); refine aG (cB (vs := [_]) cN rfl (eD 82) rfl ?_ ?_)
      ·intro pv wp hpp; obtain ⟨rfl, hpw⟩ := hpp; exact And.intro rfl ⟨_, rfl, _, heq.trans (xQ hng hrp hnn0 (.inr (by omega))), rfl, (M).then hpw⟩
      intro _ _ hF; exact hF.elim
     refine aT (aD (aT (aC (eF rfl rfl) ?_))); refine aT (aD (bF (t := 74) rfl (fun l2 => ?_) (fun l2 => ?_)))
     ·refine aT (aD (aT (aD (aT (aC (cX rfl rfl) ?_))))); refine aT (bW (bM (wnn (aX rfl (fun l3 => ?_) (fun l3 => ?_)))))
      ·refine aG (cB (vs := [_]) cN rfl (eD 82) rfl ?_ ?_)
       ·intro pv wp hpp; obtain ⟨rfl, hpw⟩ := hpp; exact And.intro rfl ⟨_, rfl, _, heq.trans (xQ hng hrp hnn0 (.inr (by omega))), rfl, (M).then hpw⟩
       intro _ _ hF; exact hF.elim
      refine aL (aB (aI ?_)); obtain ⟨hnb1, hnb2⟩ := hnn hnn0
      have hcc : ¬ (true = false ∨ 1000 < lo ∨ 1000 < hi ∨ (0 ≤ hi ∧ hi < lo)) := by rintro (h | h | h | ⟨h, h'⟩); cases h; omega; omega; omega
      obtain ⟨l', x, hlx, hdl, hgl⟩ := MN (hahl rfl); have hne := rP hown hts
      have m7 : n = l'.length + 1 := by rw [hne, hlx]; simp
      refine aG (aD (aC (aF rfl) (wfl rfl aV rfl aQ d0 rfl (aD ?_)))); refine aC (aJ rfl rfl (by omega) (by omega)) ?_; refine aC (aF rfl) (aC (aA rfl aV) ?_); refine bC rfl rfl (by first | rfl | assumption) bO d0 rfl fun o5 f7 d2 => ?_
      have l4 := M.step d2 (fun y hy => .inl (by rw [List.mem_singleton.1 hy]; simp))
      have l5 := d6.evo d2 (fun q hq h => nmq q (List.mem_append_right _ hq) (HT q h))
      try simp only [cG, Nat.reduceAdd] at f7
      refine wnn (csr (aD (aC (aF rfl) (aC (aA rfl dS) (wfl rfl pD rfl gC f7 rfl (wan (aI (csr (aD ?_))))))))); refine aK (vs := [_, _]) iF rfl (mW (st := gX sx (sx.pos + nn)) ⟨f7, (f6.evo d2 B.ap.symm.own1), B.ne⟩ (by omega) 63 (by decide)) rfl ?_; rintro _ d4 ⟨rfl, d8, F⟩
      have d9 := l4.step d8 (fun y hy => .inl (by rw [List.mem_singleton.1 hy]; simp))
      have a0 := (d5.evo d2 V.symm.own1).evo d8 ((by first | exact V.symm.own1 | exact V.symm.nmem1)); have e0 := l5.evo d8 (fun q hq h => nmq q (List.mem_append_right _ hq) (HT q h)); have e1 := d8.blk (d2.blk d7 a5.symm.nmem1) ((by first | exact a5.symm.own1 | exact a5.symm.nmem1)); refine wnn (aX rfl (fun D => ?_) (fun D => ?_))
      ·rw [if_pos D] at F; refine aG (aD (aC (fK rfl) ?_)); refine wan (csr (aD (aC (bH rfl Tryz.underlying69 rfl) ?_))); refine aC (dL rfl rfl (by omega) (by omega)) ?_; refine wan (aI ?_); have hts16 := e0; rw [hlx] at hts16; obtain ⟨c1, c2, b1, bx, hcs, hbs, ht1, ht2⟩ := OTs.parts hts16; have hl16 := oU a0 e0; have a6 := d9; have hb216 := eO e1; subst hcs; subst hbs; have hX := ht2.one'; obtain ⟨ra, rc, ka, kc, rfl⟩ := id hX.nine; obtain ⟨gq, hgq, haq, hcq⟩ := (a0).cells (by omega); have hcl := qJ hcq; have hc1l := ht1.len; rw [hc1l] at hcl; refine aG (aD (aD (aD (aD (aD (aD (aD ?_))))))); refine aC (eE (n := l'.length) rfl rfl haq (by omega) dO (by omega)) ?_; refine aC (dF rfl bQ aS (vs := [_, _, _, _, _, _, _, _, _]) rfl (hcl.evo (Evo.refl [] d4) (by simp))) ?_; refine bL (vs := [_]) rfl cQ rfl rfl rfl rfl fun a7 o6 l6 i6 c3 => ?_; have f8 := a0.evo0 c3; refine aC (cC (vs := [(0, _), (3, _), (4, _), (5, _), (8, _)]) dD rfl (cells := [_, _, _, _, _, _, _, _, _]) rfl) ?_; have U := (Ge.new (Evo.refl [] d4) i6); refine aC (eE (n := l'.length) rfl rfl haq (by omega) dO (by omega)) ?_
       obtain ⟨g9, cur9, hg9, hx9, hcu9, hcs9, -⟩ := f8.at (by omega)
       rw [haq] at hx9; cases hx9
       refine lU rfl rfl aS rfl (fun u hu => AllOne.mem (l := [_, _, _, _, _, _, _, _, _]) ⟨rfl, rfl, rfl, rfl, rfl, rfl, rfl, rfl, rfl, trivial⟩ u hu) hcu9 (by have h8 := (f8).le; rw [hcs9]; omega) fun o7 l7 a1 => ?_
       replace a1 := kD hg9 a1; have l8 := oH f8 hg9 hcu9 hc1l (by omega) rfl rfl l7; have g2 := ((Evo.refl qo.toList d4).then c3).step a1 (fun y hy => .inl hy); have i7 := a1.blk (c3.blk0 e1) d3.nmem; refine wnn (aG (bX (aP (aO (bB ?_))))); refine ⟨⟨f', gX sx (sx.pos + nn + 1), l' ++ [lS lo hi (!sx.now.lazy) x], false, n, qa, qc, qo, b1 ++ (a7 :: bx), na, nc, no⟩, ?_, ⟨rfl, rfl, trivial⟩, ⟨rfl, rfl, trivial⟩, ((d9.then c3).step a1 (oL hfr).mem), ?_⟩
       · (try dsimp only); show f' < f' + 1; omega
       try dsimp only
       have hRp := DL (lo := lo) (hi := hi) (z := !sx.now.lazy) (l6.evo a1 (Apart.new (Lt.own a0) i6).symm.own) hX g2 (fun q hq => rD hfr q (List.mem_append_right _ hq)); have hge110 := U _ rfl
       refine ⟨⟨(a1.blk (c3.blk0 F.blk) V.nmem), ((F.own.evo0 c3).evo a1 f9.symm.own), F.ne⟩, ⟨hmv.opn, (by show st.pos ≤ sx.pos + nn + 1; omega), D.asc (by decide) hnb2, hmv.nm⟩, heq.trans ((PF hng hrp hnn0 hcc D).trans (by rw [hdl, hgl]; rfl)), (by show s.size + 1 ≤ f' + (sx.pos + nn + 1); omega), ⟨_, l8, OTs.app (ht1.evo g2 (fun q hq => rD hfr q (List.mem_append_left _ hq))) (OTs.single hRp)⟩, Fr.insert hfr hl16 hge110 a6.size, ?_, (fun h => by cases h), hnb, i7, hg2, ?_⟩
       · show (l' ++ [_]).length + st.pos ≤ sx.pos + nn + 1; rw [hlx] at hlen; rw [List.length_append] at hlen ⊢; simp at hlen ⊢; omega
       · intro hm; rcases List.mem_append.1 hm with hm | hm
         · exact ha2 (List.mem_append_left _ hm)
         · rcases List.mem_append.1 hm with hm | hm
           · exact ha2 (List.mem_append_right _ (List.mem_append_left _ hm))
           · rcases List.mem_cons.1 hm with hm | hm
             · omega
             · exact ha2 (List.mem_append_right _ (List.mem_append_right _ hm))
      rw [if_neg D] at F; refine aL (aB (csr (aD (aC (bH rfl Tryz.underlying69 rfl) ?_)))); refine aC (dL rfl rfl (by omega) (by omega)) ?_; refine wan (aI ?_); have hts16 := e0; rw [hlx] at hts16; obtain ⟨c1, c2, b1, bx, hcs, hbs, ht1, ht2⟩ := OTs.parts hts16; have hl16 := oU a0 e0; have a6 := d9; have hb216 := eO e1; subst hcs; subst hbs; have hX := ht2.one'; obtain ⟨ra, rc, ka, kc, rfl⟩ := id hX.nine; obtain ⟨gq, hgq, haq, hcq⟩ := (a0).cells (by omega); have hcl := qJ hcq; have hc1l := ht1.len; rw [hc1l] at hcl; refine aG (aD (aD (aD (aD (aD (aD (aD ?_))))))); refine aC (eE (n := l'.length) rfl rfl haq (by omega) dO (by omega)) ?_; refine aC (dF rfl bQ aS (vs := [_, _, _, _, _, _, _, _, _]) rfl (hcl.evo (Evo.refl [] d4) (by simp))) ?_; refine bL (vs := [_]) rfl cQ rfl rfl rfl rfl fun a7 n3 i8 g3 a2 => ?_; have e2 := a0.evo0 a2; refine aC (cC (vs := [(0, _), (3, _), (4, _), (5, _), (8, _)]) dD rfl (cells := [_, _, _, _, _, _, _, _, _]) rfl) ?_; have U := (Ge.new (Evo.refl [] d4) g3); refine aC (eE (n := l'.length) rfl rfl haq (by omega) dO (by omega)) ?_
      obtain ⟨g9, cur9, hg9, hx9, hcu9, hcs9, -⟩ := e2.at (by omega)
      rw [haq] at hx9; cases hx9
      refine lU rfl rfl aS rfl (fun u hu => AllOne.mem (l := [_, _, _, _, _, _, _, _, _]) ⟨rfl, rfl, rfl, rfl, rfl, rfl, rfl, rfl, rfl, trivial⟩ u hu) hcu9 (by have h8 := (e2).le; rw [hcs9]; omega) fun n4 i9 H => ?_
      replace H := kD hg9 H; have j0 := oH e2 hg9 hcu9 hc1l (by omega) rfl rfl i9; have g4 := ((Evo.refl qo.toList d4).then a2).step H (fun y hy => .inl hy); have j1 := H.blk (a2.blk0 e1) d3.nmem; refine wnn (aG (bX (aP (aO (bB ?_))))); refine ⟨⟨f', gX sx (sx.pos + nn), l' ++ [lS lo hi (sx.now.lazy) x], false, n, qa, qc, qo, b1 ++ (a7 :: bx), na, nc, no⟩, ?_, ⟨rfl, rfl, trivial⟩, ⟨rfl, rfl, trivial⟩, ((d9.then a2).step H (oL hfr).mem), ?_⟩
      · (try dsimp only); show f' < f' + 1; omega
      try dsimp only
      have hRp := DL (lo := lo) (hi := hi) (z := sx.now.lazy) (i8.evo H (Apart.new (Lt.own a0) g3).symm.own) hX g4 (fun q hq => rD hfr q (List.mem_append_right _ hq)); have hge110 := U _ rfl
      refine ⟨⟨(H.blk (a2.blk0 F.blk) V.nmem), ((F.own.evo0 a2).evo H f9.symm.own), F.ne⟩, ⟨hmv.opn, (by show st.pos ≤ sx.pos + nn; omega), hnb2, hmv.nm⟩, heq.trans ((ES hng hrp hnn0 hcc D).trans (by rw [hdl, hgl]; rfl)), (by show s.size + 1 ≤ f' + (sx.pos + nn); omega), ⟨_, j0, OTs.app (ht1.evo g4 (fun q hq => rD hfr q (List.mem_append_left _ hq))) (OTs.single hRp)⟩, Fr.insert hfr hl16 hge110 a6.size, ?_, (fun h => by cases h), hnb, j1, hg2, ?_⟩
      · show (l' ++ [_]).length + st.pos ≤ sx.pos + nn; rw [hlx] at hlen; rw [List.length_append] at hlen ⊢; simp at hlen ⊢; omega
      · intro hm; rcases List.mem_append.1 hm with hm | hm
        · exact ha2 (List.mem_append_left _ hm)
        · rcases List.mem_append.1 hm with hm | hm
          · exact ha2 (List.mem_append_right _ (List.mem_append_left _ hm))
          · rcases List.mem_cons.1 hm with hm | hm
            · omega
            · exact ha2 (List.mem_append_right _ (List.mem_append_right _ hm))
     refine aN (aN (aN (aT (bM (bM (wnn (cS rfl ?_))))))); refine aL (aB (aI ?_)); obtain ⟨hnb1, hnb2⟩ := hnn hnn0
     have hcc : ¬ (true = false ∨ 1000 < lo ∨ 1000 < hi ∨ (0 ≤ hi ∧ hi < lo)) := by rintro (h | h | h | ⟨h, h'⟩); cases h; omega; omega; omega
     obtain ⟨l', x, hlx, hdl, hgl⟩ := MN (hahl rfl); have hne := rP hown hts
     have m7 : n = l'.length + 1 := by rw [hne, hlx]; simp
     refine aG (aD (aC (aF rfl) (wfl rfl aV rfl aQ d0 rfl (aD ?_)))); refine aC (aJ rfl rfl (by omega) (by omega)) ?_; refine aC (aF rfl) (aC (aA rfl aV) ?_); refine bC rfl rfl (by first | rfl | assumption) bO d0 rfl fun n5 e3 a8 => ?_
     have j2 := M.step a8 (fun y hy => .inl (by rw [List.mem_singleton.1 hy]; simp))
     have j3 := d6.evo a8 (fun q hq h => nmq q (List.mem_append_right _ hq) (HT q h))
     try simp only [cG, Nat.reduceAdd] at e3
     refine wnn (csr (aD (aC (aF rfl) (aC (aA rfl dS) (wfl rfl pD rfl gC e3 rfl (wan (aI (csr (aD ?_))))))))); refine aK (vs := [_, _]) iF rfl (mW (st := gX sx (sx.pos + nn)) ⟨e3, (f6.evo a8 B.ap.symm.own1), B.ne⟩ (by omega) 63 (by decide)) rfl ?_; rintro _ c4 ⟨rfl, c5, F⟩
     have c6 := j2.step c5 (fun y hy => .inl (by rw [List.mem_singleton.1 hy]; simp))
     have I := (d5.evo a8 V.symm.own1).evo c5 ((by first | exact V.symm.own1 | exact V.symm.nmem1)); have c7 := j3.evo c5 (fun q hq h => nmq q (List.mem_append_right _ hq) (HT q h)); have c8 := c5.blk (a8.blk d7 a5.symm.nmem1) ((by first | exact a5.symm.own1 | exact a5.symm.nmem1)); refine wnn (aX rfl (fun D => ?_) (fun D => ?_))
     ·rw [if_pos D] at F; refine aG (aD (aC (fK rfl) ?_)); refine wan (csr (aD (aC (bH rfl Tryz.underlying69 rfl) ?_))); refine aC (dL rfl rfl (by omega) (by omega)) ?_; refine wan (aI ?_); have hts16 := c7; rw [hlx] at hts16; obtain ⟨c1, c2, b1, bx, hcs, hbs, ht1, ht2⟩ := OTs.parts hts16; have hl16 := oU I c7; have a6 := c6; have hb216 := eO c8; subst hcs; subst hbs; have hX := ht2.one'; obtain ⟨ra, rc, ka, kc, rfl⟩ := id hX.nine; obtain ⟨gq, hgq, haq, hcq⟩ := (I).cells (by omega); have hcl := qJ hcq; have hc1l := ht1.len; rw [hc1l] at hcl; refine aG (aD (aD (aD (aD (aD (aD (aD ?_))))))); refine aC (eE (n := l'.length) rfl rfl haq (by omega) dO (by omega)) ?_; refine aC (dF rfl bQ aS (vs := [_, _, _, _, _, _, _, _, _]) rfl (hcl.evo (Evo.refl [] c4) (by simp))) ?_; refine bL (vs := [_]) rfl cQ rfl rfl rfl rfl fun a7 n6 j4 g5 a3 => ?_; have e4 := I.evo0 a3; refine aC (cC (vs := [(0, _), (3, _), (4, _), (5, _), (8, _)]) dD rfl (cells := [_, _, _, _, _, _, _, _, _]) rfl) ?_; have U := (Ge.new (Evo.refl [] c4) g5); refine aC (eE (n := l'.length) rfl rfl haq (by omega) dO (by omega)) ?_
      obtain ⟨g9, cur9, hg9, hx9, hcu9, hcs9, -⟩ := e4.at (by omega)
      rw [haq] at hx9; cases hx9
      refine lU rfl rfl aS rfl (fun u hu => AllOne.mem (l := [_, _, _, _, _, _, _, _, _]) ⟨rfl, rfl, rfl, rfl, rfl, rfl, rfl, rfl, rfl, trivial⟩ u hu) hcu9 (by have h8 := (e4).le; rw [hcs9]; omega) fun n7 j5 J => ?_
      replace J := kD hg9 J; have j6 := oH e4 hg9 hcu9 hc1l (by omega) rfl rfl j5; have g6 := ((Evo.refl qo.toList c4).then a3).step J (fun y hy => .inl hy); have j7 := J.blk (a3.blk0 c8) d3.nmem; refine wnn (aG (bX (aP (aO (bB ?_))))); refine ⟨⟨f', gX sx (sx.pos + nn + 1), l' ++ [lS lo hi (!sx.now.lazy) x], false, n, qa, qc, qo, b1 ++ (a7 :: bx), na, nc, no⟩, ?_, ⟨rfl, rfl, trivial⟩, ⟨rfl, rfl, trivial⟩, ((c6.then a3).step J (oL hfr).mem), ?_⟩
      · (try dsimp only); show f' < f' + 1; omega
      try dsimp only
      have hRp := DL (lo := lo) (hi := hi) (z := !sx.now.lazy) (j4.evo J (Apart.new (Lt.own I) g5).symm.own) hX g6 (fun q hq => rD hfr q (List.mem_append_right _ hq)); have hge110 := U _ rfl
      refine ⟨⟨(J.blk (a3.blk0 F.blk) V.nmem), ((F.own.evo0 a3).evo J f9.symm.own), F.ne⟩, ⟨hmv.opn, (by show st.pos ≤ sx.pos + nn + 1; omega), D.asc (by decide) hnb2, hmv.nm⟩, heq.trans ((PF hng hrp hnn0 hcc D).trans (by rw [hdl, hgl]; rfl)), (by show s.size + 1 ≤ f' + (sx.pos + nn + 1); omega), ⟨_, j6, OTs.app (ht1.evo g6 (fun q hq => rD hfr q (List.mem_append_left _ hq))) (OTs.single hRp)⟩, Fr.insert hfr hl16 hge110 a6.size, ?_, (fun h => by cases h), hnb, j7, hg2, ?_⟩
      · show (l' ++ [_]).length + st.pos ≤ sx.pos + nn + 1; rw [hlx] at hlen; rw [List.length_append] at hlen ⊢; simp at hlen ⊢; omega
      · intro hm; rcases List.mem_append.1 hm with hm | hm
        · exact ha2 (List.mem_append_left _ hm)
        · rcases List.mem_append.1 hm with hm | hm
          · exact ha2 (List.mem_append_right _ (List.mem_append_left _ hm))
          · rcases List.mem_cons.1 hm with hm | hm
            · omega
            · exact ha2 (List.mem_append_right _ (List.mem_append_right _ hm))
     rw [if_neg D] at F; refine aL (aB (csr (aD (aC (bH rfl Tryz.underlying69 rfl) ?_)))); refine aC (dL rfl rfl (by omega) (by omega)) ?_; refine wan (aI ?_); have hts16 := c7; rw [hlx] at hts16; obtain ⟨c1, c2, b1, bx, hcs, hbs, ht1, ht2⟩ := OTs.parts hts16; have hl16 := oU I c7; have a6 := c6; have hb216 := eO c8; subst hcs; subst hbs; have hX := ht2.one'; obtain ⟨ra, rc, ka, kc, rfl⟩ := id hX.nine; obtain ⟨gq, hgq, haq, hcq⟩ := (I).cells (by omega); have hcl := qJ hcq; have hc1l := ht1.len; rw [hc1l] at hcl; refine aG (aD (aD (aD (aD (aD (aD (aD ?_))))))); refine aC (eE (n := l'.length) rfl rfl haq (by omega) dO (by omega)) ?_; refine aC (dF rfl bQ aS (vs := [_, _, _, _, _, _, _, _, _]) rfl (hcl.evo (Evo.refl [] c4) (by simp))) ?_; refine bL (vs := [_]) rfl cQ rfl rfl rfl rfl fun a7 n8 j8 g7 a4 => ?_; have e5 := I.evo0 a4; refine aC (cC (vs := [(0, _), (3, _), (4, _), (5, _), (8, _)]) dD rfl (cells := [_, _, _, _, _, _, _, _, _]) rfl) ?_; have U := (Ge.new (Evo.refl [] c4) g7); refine aC (eE (n := l'.length) rfl rfl haq (by omega) dO (by omega)) ?_
     obtain ⟨g9, cur9, hg9, hx9, hcu9, hcs9, -⟩ := e5.at (by omega)
     rw [haq] at hx9; cases hx9
     refine lU rfl rfl aS rfl (fun u hu => AllOne.mem (l := [_, _, _, _, _, _, _, _, _]) ⟨rfl, rfl, rfl, rfl, rfl, rfl, rfl, rfl, rfl, trivial⟩ u hu) hcu9 (by have h8 := (e5).le; rw [hcs9]; omega) fun n9 j9 L => ?_
     replace L := kD hg9 L; have k0 := oH e5 hg9 hcu9 hc1l (by omega) rfl rfl j9; have g8 := ((Evo.refl qo.toList c4).then a4).step L (fun y hy => .inl hy); have k1 := L.blk (a4.blk0 c8) d3.nmem; refine wnn (aG (bX (aP (aO (bB ?_))))); refine ⟨⟨f', gX sx (sx.pos + nn), l' ++ [lS lo hi (sx.now.lazy) x], false, n, qa, qc, qo, b1 ++ (a7 :: bx), na, nc, no⟩, ?_, ⟨rfl, rfl, trivial⟩, ⟨rfl, rfl, trivial⟩, ((c6.then a4).step L (oL hfr).mem), ?_⟩
     · (try dsimp only); show f' < f' + 1; omega
     try dsimp only
     have hRp := DL (lo := lo) (hi := hi) (z := sx.now.lazy) (j8.evo L (Apart.new (Lt.own I) g7).symm.own) hX g8 (fun q hq => rD hfr q (List.mem_append_right _ hq)); have hge110 := U _ rfl
     refine ⟨⟨(L.blk (a4.blk0 F.blk) V.nmem), ((F.own.evo0 a4).evo L f9.symm.own), F.ne⟩, ⟨hmv.opn, (by show st.pos ≤ sx.pos + nn; omega), hnb2, hmv.nm⟩, heq.trans ((ES hng hrp hnn0 hcc D).trans (by rw [hdl, hgl]; rfl)), (by show s.size + 1 ≤ f' + (sx.pos + nn); omega), ⟨_, k0, OTs.app (ht1.evo g8 (fun q hq => rD hfr q (List.mem_append_left _ hq))) (OTs.single hRp)⟩, Fr.insert hfr hl16 hge110 a6.size, ?_, (fun h => by cases h), hnb, k1, hg2, ?_⟩
     · show (l' ++ [_]).length + st.pos ≤ sx.pos + nn; rw [hlx] at hlen; rw [List.length_append] at hlen ⊢; simp at hlen ⊢; omega
     · intro hm; rcases List.mem_append.1 hm with hm | hm
       · exact ha2 (List.mem_append_left _ hm)
       · rcases List.mem_append.1 hm with hm | hm
         · exact ha2 (List.mem_append_right _ (List.mem_append_left _ hm))
         · rcases List.mem_cons.1 hm with hm | hm
           · omega
           · exact ha2 (List.mem_append_right _ (List.mem_append_right _ hm))
    refine cM (bK (bK (cL (aB ?_)))); refine csr (aD ?_); refine aK (vs := [_, _]) oR rfl (CY 4 (hown.evo0 A) f5 (by omega)) rfl ?_; rintro rv l9 ⟨⟨vs, bs', rfl, hOT, hsub⟩, a9⟩; have e6 := e7; obtain ⟨ra, rc, ka, kc, rfl⟩ := id hOT.nine; refine aW rfl rfl aS (a9.blk0 (A.blk0 hb2)) rfl rfl ⟨by first | rfl | assumption, by first | rfl | assumption, by first | rfl | assumption, by first | rfl | assumption, by first | rfl | assumption, by first | rfl | assumption, by first | rfl | assumption, by first | rfl | assumption, by first | rfl | assumption, trivial⟩ fun o0 h0 b4 => ?_
    have m8 := (f5.evo0 a9).evo b4 (fun q hq h => ha2 (List.mem_append_right _ (by rw [← List.mem_singleton.1 h]; exact hq)))
    try simp only [cG, Nat.reduceAdd] at h0
    refine wnn (aH (cE (cH rfl (ResOk.cellA rfl bQ aS h0 rfl) ?_)))
    exact ⟨lC 4 l, sx, heq.trans (sY (by omega)), ((e7.then a9).step b4 hg2.mem1), hmv, na, nc, no, _, bs', rfl, hOT.evo ((Evo.refl ([b2]) l9).step b4 (fun y hy => .inl hy)) (fun q hq h => ha2 (by rw [← List.mem_singleton.1 h]; exact hsub.subset hq)), hfr.sub hsub, ⟨(b4.blk (a9.blk0 e8) a5.nmem1), ((f0.evo0 a9).evo b4 g0.symm.own1), B.ne⟩, hnb⟩
   refine qln ?_; refine qln ?_; refine qln ?_; refine qln ?_; refine qln ?_; refine qln ?_; refine qln ?_; refine qln ?_; refine qln ?_; refine qln ?_; refine bE (fun _ A => gT rfl rfl) ?_; refine eS (fun i3 A => aB ?_); refine cS rfl ?_; refine cM (bK (bK (cL (aB ?_)))); refine csr (aD ?_); refine aK (vs := [_, _]) oR rfl (CY 4 (hown.evo0 A) (hts.evo0 A) (by omega)) rfl ?_; rintro rv m0 ⟨⟨vs, bs', rfl, hOT, hsub⟩, b5⟩; have e6 := (c9.then A); obtain ⟨ra, rc, ka, kc, rfl⟩ := id hOT.nine; refine aW rfl rfl aS (b5.blk0 (A.blk0 hb2)) rfl rfl ⟨by first | rfl | assumption, by first | rfl | assumption, by first | rfl | assumption, by first | rfl | assumption, by first | rfl | assumption, by first | rfl | assumption, by first | rfl | assumption, by first | rfl | assumption, by first | rfl | assumption, trivial⟩ fun o1 h5 b6 => ?_
   have m9 := ((hts.evo0 A).evo0 b5).evo b6 (fun q hq h => ha2 (List.mem_append_right _ (by rw [← List.mem_singleton.1 h]; exact hq)))
   try simp only [cG, Nat.reduceAdd] at h5
   refine wnn (aH (cE (cH rfl (ResOk.cellA rfl bQ aS h5 rfl) ?_)))
   exact ⟨lC 4 l, sx, heq.trans (sY (by omega)), (((c9.then A).then b5).step b6 hg2.mem1), hmv, na, nc, no, _, bs', rfl, hOT.evo ((Evo.refl ([b2]) m0).step b6 (fun y hy => .inl hy)) (fun q hq h => ha2 (by rw [← List.mem_singleton.1 h]; exact hsub.subset hq)), hfr.sub hsub, ⟨(b6.blk (b5.blk0 (A.blk0 B.blk)) a5.nmem1), (((B.own.evo0 A).evo0 b5).evo b6 g0.symm.own1), B.ne⟩, hnb⟩
  refine qln ?_; refine qln ?_; refine qln ?_; refine qln ?_; refine qln ?_; refine qln ?_; refine qln ?_; refine qln ?_; refine qln ?_; refine qln ?_; refine bE (fun _ A => gT rfl rfl) ?_; refine bE (fun _ A => aY rfl) ?_; refine qln ?_; refine qln ?_; refine qln ?_; refine qln ?_; refine qln ?_; refine qln ?_; refine qln ?_; refine qln ?_; refine qln ?_; refine qln ?_; refine bE (fun _ A => gT rfl rfl) ?_; refine eS (fun i3 A => aB ?_); refine cS rfl ?_; refine cM (bK (bK (cL (aB ?_)))); refine csr (aD ?_); refine aK (vs := [_, _]) oR rfl (CY 4 (hown.evo0 A) (hts.evo0 A) (by omega)) rfl ?_; rintro rv m1 ⟨⟨vs, bs', rfl, hOT, hsub⟩, b7⟩; have e6 := (c9.then A); obtain ⟨ra, rc, ka, kc, rfl⟩ := id hOT.nine; refine aW rfl rfl aS (b7.blk0 (A.blk0 hb2)) rfl rfl ⟨by first | rfl | assumption, by first | rfl | assumption, by first | rfl | assumption, by first | rfl | assumption, by first | rfl | assumption, by first | rfl | assumption, by first | rfl | assumption, by first | rfl | assumption, by first | rfl | assumption, trivial⟩ fun o2 h6 b8 => ?_
  have n0 := ((hts.evo0 A).evo0 b7).evo b8 (fun q hq h => ha2 (List.mem_append_right _ (by rw [← List.mem_singleton.1 h]; exact hq)))
  try simp only [cG, Nat.reduceAdd] at h6
  refine wnn (aH (cE (cH rfl (ResOk.cellA rfl bQ aS h6 rfl) ?_)))
  exact ⟨lC 4 l, sx, heq.trans (sY (by omega)), (((c9.then A).then b7).step b8 hg2.mem1), hmv, na, nc, no, _, bs', rfl, hOT.evo ((Evo.refl ([b2]) m1).step b8 (fun y hy => .inl hy)) (fun q hq h => ha2 (by rw [← List.mem_singleton.1 h]; exact hsub.subset hq)), hfr.sub hsub, ⟨(b8.blk (b7.blk0 (A.blk0 B.blk)) a5.nmem1), (((B.own.evo0 A).evo0 b7).evo b8 g0.symm.own1), B.ne⟩, hnb⟩
theorem wU : dU Tryz.prog 76 := ⟨_, Tryz.func76, by kernel_rfl, by kernel_rfl⟩
structure EtG where
  f : Nat
  sx : PS
  l : List Rx
  n : Nat
  qa : Option Addr
  qc : Nat
  qo : Option Nat
  bs : List Nat
  na : Option Addr
  nc : Nat
  no : Option Nat
structure EtI (w wr : World) (b : Nat) (s : ByteArray) (ex : PS → PX Rx) (st : PS) (ob : Option Nat) (b2 : Nat) (x : EtG) : Prop where
  hr : RdAt wr b s x.sx x.na x.nc x.no
  mv : Mv s st x.sx
  eq : mL s ex st = mU s ex x.f x.l x.sx
  hf : s.size + 1 ≤ x.f + x.sx.pos
  kt : ∃ cs, OwnS wr 71 9 x.qa x.n x.qc cs x.qo ∧ OTs x.l wr cs x.bs
  fr : Fr w (x.qo.toList ++ x.bs)
  len : x.l.length + st.pos ≤ x.sx.pos + 1
  nb : NB w ob x.no
  hb2 : wr.heap[b2]? = some (.cells #[iv 0, .int .i32 0, .slice none 0 0, iv 0, iv 0, .bool false, iv 0, .string ByteArray.empty, .slice none 0 0] 71 (0, 0))
  g2 : Ge w (some b2)
  a2 : b2 ∉ x.qo.toList ++ x.bs
theorem exp_err {s : ByteArray} {ex : PS → PX Rx} {st : PS} {e : Int} (h : wI s ex st = .error e) : mL s ex st = .error e := by
  unfold mL; unfold wI at h; rw [h]
theorem WM {s : ByteArray} {ex : PS → PX Rx} {st st2 : PS} {x : Rx} (h : wI s ex st = .ok (x, st2)) : mL s ex st = mU s ex (s.size + 1) [x] st2 := by
  unfold mL; unfold wI at h; rw [h]
theorem rF {ex : PS → PX Rx} {w : World} {b : Nat} {s : ByteArray} {st : PS} {a : Option Addr} {c : Nat} {ob : Option Nat} (hex : st.opn < 250 → tP b s ex (st.opn + 1)) (hR : RdAt w b s st a c ob) (hs : s.size ≤ 4096) (hop : st.opn ≤ 250) (hb : Bd s st.pos) (hnl : st.names.length ≤ 100) (hG : Glb w) (hGo : Apart (some oC) ob) :
    Calls Tryz.prog 52 #[.pointer (some ⟨b, 0, none⟩)] w (RetP (MI b s (mL s ex) st ob w) (ExPan b (mL s ex) st ob w)) := by
  have hap := hR.ap; have hgb : oC ∉ [b] := fun h => hR.glb hG (List.mem_singleton.1 h).symm; have hgw := WA hgb hGo; have hbw : Lt w (some b) := Lt.blk hR.blk; have how : Lt w ob := Lt.own hR.own; refine bD (N := 16) Tryz.func52 rfl rfl rfl ?_; refine csr (cK rfl eG fun b2 w1 c3 a4 a8 => ?_); have d3 := a4; have a9 := Apart.new (Lt.blk hR.blk) a4; have d4 := Ge.new (Evo.refl (b :: ob.toList) w) a4; have a5 := (Evo.refl (b :: ob.toList) w).then a8; refine wnn (csr (aD (cB (vs := [_]) wU rfl (rZ hex ⟨(a8.blk0 hR.blk), (hR.own.evo0 a8), hR.ne⟩ hs hop hb hnl (hG.evo a5 hgw) hGo) rfl ?_ ?_)))
  ·intro pv wp hpp; obtain ⟨e9, hpe, rfl, hpw⟩ := hpp; exact And.intro rfl ⟨_, rfl, _, exp_err hpe, rfl, (a5).step hpw (oV (show NB w ob ob from .inl rfl))⟩
  rintro rv d5 ⟨x, st1, hx, a1, hmv1, na1, nc1, no1, vs, bx, rfl, hOT, hFx, b4, hnb1⟩; have hcall9 := a1; have O := a5; have hnb9 := (show NB w ob ob from .inl rfl).older hnb1 O.size; have hb2l := eO c3; have hxg : ∀ q, q ∈ bx → _ ≤ q := hFx.ge; have b5 := a5.step a1 (oV (show NB w ob ob from .inl rfl)); obtain ⟨ra, rc, ka, kc, rfl⟩ := id hOT.nine; refine bL (vs := [_]) rfl cQ rfl rfl rfl rfl fun b6 e1 c5 b7 I => ?_; have c6 := Ge.new b5 b7; have b8 := Ge.new (Evo.refl [] d5) b7; refine wan (aI (bG ?_))
  refine dC (α := EtG) (⟨s.size + 1, st1, [x], 1, some ⟨b6, 0, none⟩, 1, some b6, bx, na1, nc1, no1⟩) (fun x => [(3, .slice x.qa x.n x.qc)]) [(0, _), (2, _)] (fun x wr => Evo (b :: ob.toList) w wr ∧ (EtI w wr b s ex st ob b2 x)) (fun x => x.f) ⟨rfl, trivial⟩ ⟨rfl, rfl, trivial⟩ ⟨(b5.then I), ⟨⟨(I.blk0 b4.blk), (b4.own.evo0 I), b4.ne⟩, hmv1, WM hx, Nat.le_add_right _ _, ⟨_, c5, OTs.single (hOT.evo0 I)⟩, ⟨List.nodup_cons.2 ⟨fun h => (by have h8 := hOT.lt b6 h; have h9 := b8 _ rfl; omega), hFx.nd⟩, fun q hq => by rcases List.mem_cons.1 hq with rfl | hq; (exact c6 _ rfl); (have h8 := hxg q hq; have h7 := O.size; omega)⟩, (by show 1 + st.pos ≤ st1.pos + 1; have := hmv1.le; omega), hnb9, (I.blk0 (a1.blk c3 (AB a9.symm (Apart.new (Lt.own hR.own) a4).symm))), d4, (fun h => by rcases List.mem_cons.1 h with h | h; (have h9 := b8 _ rfl; have h7 := hcall9.size; omega); (have h8 := hxg b2 h; omega))⟩⟩ ?_
  rintro ⟨f, sx, l, n, qa, qc, qo, bs, na, nc, no⟩ wr30 ⟨c7, ⟨U, hmv, heq, hfi, ⟨cs, hown, hts⟩, hfr, hlen, hnb, hb2, hg2, ha2⟩⟩; show CW _ _ _ _ [(3, .slice qa n qc), (0, _), (2, _)] _
  try dsimp only at U hmv heq hfi cs hown hts hfr hlen hnb hb2 hg2 ha2
  have b9 : Apart (some b) qo := kE hbw (oL hfr); have a6 : Apart (some b) (some b2) := kE hbw hg2; have c4 := CP hb2 U.own (by decide +kernel); have a9 := ap_nm ha2; have hGo1 := fT hGo (LI hG) hnb; have hpl := hmv.bd.le; have hmle := hmv.le; have nmq := nm_rd U hown hts; refine aI (csr (aD ?_)); refine aK (vs := [_, _]) iF rfl (mW ⟨U.blk, U.own, U.ne⟩ (by omega) 124 (by decide)) rfl ?_; rintro _ e2 ⟨rfl, V, F⟩
  have B := c7.step V (fun y hy => .inl (by rw [List.mem_singleton.1 hy]; simp))
  have a2 := hown.evo V ((by first | exact b9.symm.own1 | exact b9.symm.nmem1)); have a0 := hts.evo V (fun q hq h => nmq q (List.mem_append_right _ hq) (HT q h)); have a3 := V.blk hb2 ((by first | exact a6.symm.own1 | exact a6.symm.nmem1)); refine wnn (aX rfl (fun H => ?_) (fun H => ?_))
  ·rw [if_pos H] at F
   obtain ⟨f', rfl⟩ : ∃ f', f = f' + 1 := ⟨f - 1, by have := H.1; omega⟩
   have hopx : sx.opn = st.opn := hmv.opn
   have hex' : (adv sx 1).opn < 250 → tP b s ex ((adv sx 1).opn + 1) := by show sx.opn < 250 → tP b s ex (sx.opn + 1); rw [hopx]; exact hex
   have hbd1 : Bd s (adv sx 1).pos := H.asc (by decide) hmv.bd; refine aL (aB (bG (aG (aD (aD ?_)))))
   refine cB (vs := [_]) wU rfl (rZ hex' ⟨F.blk, F.own, F.ne⟩ hs (by show sx.opn ≤ 250; omega) hbd1 hmv.nm (hG.evo B hgw) hGo1) rfl ?_ ?_
   ·intro pv wp hpp; obtain ⟨e9, hpe, rfl, hpw⟩ := hpp; exact And.intro rfl ⟨_, rfl, _, heq.trans (XS H hpe), rfl, (B).step hpw (oV hnb)⟩
   rintro rv d6 ⟨x, st3, hx, J, hmv3, na3, nc3, no3, vs, bx, rfl, hOT, hFx, a7, hnb3⟩; have hcall9 := J; have O := B; have hnb9 := hnb.older hnb3 O.size; have hb2l := eO a3; have hxg : ∀ q, q ∈ bx → _ ≤ q := hFx.ge; have hl1 := oU a2 a0; have c0 := a2.evo J (fun q hq => nmq q (List.mem_append_left _ (by simp [hq]))); obtain ⟨ra, rc, ka, kc, rfl⟩ := id hOT.nine; have c8 := vL c0 a7.own (by decide +kernel); refine bL (vs := [_]) rfl cQ rfl rfl rfl rfl fun e3 e4 c9 d9 A => ?_; have c1 := A.blk0 (J.blk a3 (AB a6.symm c4)); have d0 := (hOT.evo0 A); have hVV := ((Evo.refl [] d6).then A); have hb29 := eO c1
   refine dB rfl rfl rfl rfl mG (c0.evo0 A) (Src.ofOwn c9 ⟨by first | rfl | assumption, by first | rfl | assumption, by first | rfl | assumption, by first | rfl | assumption, by first | rfl | assumption, by first | rfl | assumption, by first | rfl | assumption, by first | rfl | assumption, by first | rfl | assumption, trivial⟩) (by have h8 := rP hown hts; omega) fun qa2 qc2 e5 qo2 d7 D hob69 => ?_
   have d1 := ((a0.evo J (fun q hq => nmq q (List.mem_append_right _ hq))).evo0 A).evo D (rD hfr)
   have d2 := (hOT.evo0 A).evo D (fun q hq h => by have h8 := hxg q hq; have h9 := hl1 q (List.mem_append_left _ h); omega)
   have hob2 := hob69; have hFr9 := Fr.grow hfr hl1 hFx (OT.lt d0) O.size (Nat.le_trans hcall9.size hVV.size) hob2
   have hnin := GV ha2 hb29 (fun q hq e => by have h8 := hxg q hq; omega) hob2
   refine bX (aP (aO (bB ?_))); refine ⟨⟨f', st3, l ++ [x], n + 1, qa2, qc2, qo2, bs ++ bx, na3, nc3, no3⟩, ?_, ⟨rfl, trivial⟩, ⟨rfl, rfl, trivial⟩, (((B.step J (oV hnb)).then A).step D (oL hfr).mem), ?_⟩
   · (try dsimp only); show f' < f' + 1; omega
   try dsimp only
   have hle3 : sx.pos + 1 ≤ st3.pos := hmv3.le
   refine ⟨⟨(D.blk (A.blk0 a7.blk) b9.nmem), ((a7.own.evo0 A).evo D c8.symm.own), a7.ne⟩, ⟨hmv3.opn.trans hmv.opn, (by show st.pos ≤ st3.pos; omega), hmv3.bd, hmv3.nm⟩, heq.trans (alts_go H hx), (by show s.size + 1 ≤ f' + st3.pos; omega), ⟨_, d7, OTs.app d1 (OTs.single d2)⟩, hFr9, ?_, hnb9, (D.blk c1 a9.nmem), hg2, hnin⟩
   show (l ++ [x]).length + st.pos ≤ st3.pos + 1; rw [List.length_append]; simp; omega
  rw [if_neg H] at F; refine cM (bK (bK (cL (aB ?_)))); refine csr (aD ?_); refine aK (vs := [_, _]) oR rfl (CY 5 a2 a0 (by omega)) rfl ?_; rintro rv d8 ⟨⟨vs, bs', rfl, hOT, hsub⟩, L⟩; have O := B; obtain ⟨ra, rc, ka, kc, rfl⟩ := id hOT.nine; refine aW rfl rfl aS (L.blk0 a3) rfl rfl ⟨by first | rfl | assumption, by first | rfl | assumption, by first | rfl | assumption, by first | rfl | assumption, by first | rfl | assumption, by first | rfl | assumption, by first | rfl | assumption, by first | rfl | assumption, by first | rfl | assumption, trivial⟩ fun e6 c2 M => ?_
  have e0 := (a0.evo0 L).evo M (fun q hq h => ha2 (List.mem_append_right _ (by rw [← List.mem_singleton.1 h]; exact hq)))
  try simp only [cG, Nat.reduceAdd] at c2
  refine wnn (aH (cE (cH rfl (ResOk.cellA rfl bQ aS c2 rfl) ?_)))
  exact ⟨lC 5 l, sx, heq.trans (IP H), ((B.then L).step M hg2.mem1), hmv, na, nc, no, _, bs', rfl, hOT.evo ((Evo.refl ([b2]) d8).step M (fun y hy => .inl hy)) (fun q hq h => ha2 (by rw [← List.mem_singleton.1 h]; exact hsub.subset hq)), hfr.sub hsub, ⟨(M.blk (L.blk0 F.blk) a6.nmem1), ((F.own.evo0 L).evo M c4.symm.own1), F.ne⟩, hnb⟩
theorem AF {b : Nat} {s : ByteArray} (hs : s.size ≤ 4096) : ∀ (n m : Nat), m + n = 250 → tP b s (qD s n) m := by
  intro n
  induction n with
  | zero =>
    intro m hm
    unfold tP
    intro w st a c ob hR ho hb hnl hG hGo
    exact rF (ex := fun _ => .error 3) (fun h => by omega) hR hs (by omega) hb hnl hG hGo
  | succ n ih =>
    intro m hm
    unfold tP
    intro w st a c ob hR ho hb hnl hG hGo
    exact rF (ex := qD s n) (fun h => by rw [ho]; exact ih (m + 1) (by omega)) hR hs (by omega) hb hnl hG hGo
end Go.Proofs.YtidpigbinpaaeaaGreat
namespace Go.W
open Go.RowKit
section
variable {P : Program} {σ : Env} {w : World}
def RecAs (u : FrameMode) (v : Value) (u' : FrameMode) : Prop :=
  ∀ (c₀ : Frame) (cs : List Frame), c₀.mode = u → (recoverD (c₀ :: cs) = some (v, { c₀ with mode := u' } :: cs)) ∨ (recoverD (c₀ :: cs) = none ∧ v = .nilIface ∧ u' = u)
theorem RecAs.ret : RecAs .returning .nilIface .returning := fun c cs h => .inr ⟨by simp [recoverD, h], rfl, rfl⟩
theorem RecAs.pan (v : Value) : RecAs (.panicking (pan v)) v (.panicking [{ v := v, recovered := true }]) := fun c cs h => .inl (by simp [recoverD, h])
theorem wpS_rec {Q : Exit → Act → List Frame → World → Prop} {id d d2 : Nat} {T T2 : TypeId} {p p2 : String} {e e2 : Array Edge} {a : Act} {c₀ : Frame} {cs : List Frame} {v : Value} {u u' : FrameMode}
    (hu : c₀.mode = u) (hr : RecAs u v u') (hd : d < a.tmps.size) (h : Q .normal ((a.put (some d) v).put (some d2) v) ({ c₀ with mode := u' } :: cs) w) :
    (Code.region id #[⟨some d, .call ⟨.builtin .recover, #[], #[]⟩, T, p, e, none⟩, ⟨some d2, .assign (.tmp d), T2, p2, e2, none⟩] false).wpS P Q a (c₀ :: cs) w := by
  refine wpS_region ?_
  have hget : ∀ v : Value, (a.put (some d) v).eval (.tmp d) = v := fun v => by
    simp [Act.put, Act.eval, hd]
  have hrun : (execOp a.eval ⟨some d, .call ⟨.builtin .recover, #[], #[]⟩, T, p, e, none⟩).run P w = .ok .recover w := by
    simp [execOp, resolve, builtin, invoke]
  have hrun2 : ∀ v : Value, (execOp (a.put (some d) v).eval ⟨some d2, .assign (.tmp d), T2, p2, e2, none⟩).run P w = .ok (.value v) w := fun v => by
    simp [execOp, hget]
  show wpOpsS P _ Q [0, 1] a (c₀ :: cs) w
  have hstep : ∀ (v : Value) (cs' : List Frame), Q .normal ((a.put (some d) v).put (some d2) v) cs' w → wpOpsS P #[⟨some d, .call ⟨.builtin .recover, #[], #[]⟩, T, p, e, none⟩, ⟨some d2, .assign (.tmp d), T2, p2, e2, none⟩] Q [1] (a.put (some d) v) cs' w := fun v cs' h => by
    simp only [wpOpsS]
    simp [Region.wanted, hrun2, Oper.upon, wpOpsS, h]
  rw [wpOpsS]
  simp only [Region.wanted, List.getElem?_toArray, List.getElem?_cons_zero, hrun, if_true]
  rcases hr c₀ cs hu with h1 | ⟨h1, rfl, rfl⟩
  · rw [h1]; exact hstep _ _ h
  · rw [h1]; subst hu; exact hstep _ _ h
theorem zL {f : FuncId} {fn : Func} {y : Code} {cap : List Value} {Φ : Value → World → Prop} {N id d d2 : Nat} {T T2 : TypeId} {p p2 : String} {e e2 : Array Edge} {v : Value} {u u' : FrameMode} (hr : RecAs u v u')
    (hf : P.funcs[f]? = some fn) (hb : fn.body = some (.seq (.region id #[⟨some d, .call ⟨.builtin .recover, #[], #[]⟩, T, p, e, none⟩, ⟨some d2, .assign (.tmp d), T2, p2, e2, none⟩] false) y)) (hN : fn.ntmps = N)
    (hle' : Nat.ble cap.length N = true) (hd : Nat.blt d N = true) (hd2 : Nat.blt d2 N = true)
    (h : CW P (N, []) y (nZ P fn (Ret Φ)) ((d2, v) :: (d, v) :: nP 0 cap) w) :
    CallsD P f cap.toArray u w (fun e u2 w' => (∃ vv, e = .returned vv ∧ Φ vv w') ∧ u2 = u') := by
  have hle : cap.length ≤ N := Nat.le_of_ble_eq_true hle'
  have hdN : d < N := of_decide_eq_true (by simpa using hd)
  have hdN2 : d2 < N := of_decide_eq_true (by simpa using hd2)
  have hfit : Fits (N, []) (nP 0 cap) { tmps := cap.toArray ++ Array.replicate (fn.ntmps - cap.toArray.size) undef, defers := [] } := by
    refine ⟨?_, rfl, ?_⟩
    · simp [hN]; omega
    · intro t v hv
      obtain ⟨_, h2⟩ := qB cap 0 t v hv
      simp only [Nat.sub_zero] at h2
      have hlt : t < cap.length := (List.getElem?_eq_some_iff.1 h2).1
      have h3 : cap[t] = v := by rw [List.getElem?_eq_getElem hlt] at h2; exact Option.some.inj h2
      simp [Array.getElem?_append, hlt, h3]
  refine callsD_of_wpS hf hb fun c₀ cs hu => wpS_seq (wpS_rec hu hr (by rw [hfit.1]; exact hdN) ?_)
  refine wpS_of_wp (wp_mono (h _ ((hfit.put hdN v).put hdN2 v)) ?_)
  intro ex a' w' hq
  cases ex with
  | normal => obtain ⟨N', σ', hf', hn, hk⟩ := hq; obtain ⟨v', h1, h2⟩ := hk a' (by rw [hf'.1, hf'.2.1]; exact hf'); exact ⟨hf'.2.1.trans hn, u', rfl, v', h1, h2, rfl⟩
  | ret => obtain ⟨N', σ', hf', hn, hk⟩ := hq; obtain ⟨v', h1, h2⟩ := hk a' (by rw [hf'.1, hf'.2.1]; exact hf'); exact ⟨hf'.2.1.trans hn, u', rfl, v', h1, h2, rfl⟩
  | panic ch => obtain ⟨N', σ', hf', hn, v', h1, h2⟩ := hq; cases h1
  | outgrown => obtain ⟨_, v', h1, h2⟩ := hq; cases h1
  | exit i => obtain ⟨_, _, _, hk⟩ := hq; exact hk
  | goto l => obtain ⟨_, _, _, hk⟩ := hq; exact hk
theorem tV {n : Nat} {fn : Func} {r r' : ResultVar} {Φ : Value → World → Prop} {f : FuncId} {g : Func} {cap : Array Value} {u : FrameMode} (hr : fn.results = #[r, r']) (hg : P.funcs[f]? = some g) (hn : (g.name == "runtime.NumGoroutine") = false) (hb : g.body.isNone = false) (hu : u ≠ .run)
    (h : CallsD P f cap u w fun e u' w' => (∃ vv, e = .returned vv) ∧ settle u' = .returning ∧ ∃ v v', ResOk P σ w' r v ∧ ResOk P σ w' r' v' ∧ Φ (.tuple #[v, v']) w') :
    ∀ a, Fits (n, [dfr f cap]) σ a → Leaves P fn a.tmps (Ret Φ) [dfr f cap] u w := fun a ha => by
  refine LC hg hn hb hu (h.mono ?_)
  rintro e u' w' ⟨⟨vv, rfl⟩, hs, v, v', h1, h2, h3⟩
  show Leaves P fn a.tmps (Ret Φ) [] (settle u') w'
  rw [hs]
  refine ⟨.tuple #[v, v'], ?_, _, rfl, h3⟩
  have ha' : Fits (a.tmps.size, a.defers) σ a := ⟨rfl, rfl, ha.2.2⟩
  rw [pX, hr]
  simp [h1 a ha', h2 a ha']
theorem zP {n : Nat} {fn : Func} {Φ : Value → World → Prop} (h : nZ P fn (Ret Φ) .ret (n, []) σ w) : XK P fn (Ret Φ) .ret (n, []) σ w := fun a ha => h.2 a (by rw [ha.1, ha.2.1]; exact ha)
end
end Go.W
namespace Go.Proofs.YtidpigbinpaaeaaGreat
open Go.RowKit Go.W
attribute [local irreducible] Decidable.decide
theorem sI {s : ByteArray} {a : Nat} (ha : a < s.size) (h : (Utf8.decode s a).1 = 65533 → a + 3 ≤ s.size ∧ s.extract a (a + 3) = fS [239, 191, 189]) :
    (bJ s a).1 = ((Utf8.decode s a).1 : Nat) ∧ (bJ s a).2 = (Utf8.decode s a).2 := by
  have h1 : ¬ ((Utf8.decode s a).1 = 65533 ∧ (Utf8.decode s a).2 = 1) := fun ⟨h1, h2⟩ => by
    have := (rX s a h1 ha).2 (h h1)
    omega
  unfold bJ
  rw [if_pos ⟨ha, h1⟩]
  exact ⟨rfl, rfl⟩
theorem oD {s : ByteArray} {a : Nat} (ha : a < s.size) : 0 < (Utf8.decode s a).2 := by
  rcases fM s a ha with ⟨w, h1, h2, h3, hh, hd, h4, h5, -⟩ | ⟨h1, hd⟩ <;> rw [hd] <;> simp <;> omega
theorem PM {s : ByteArray} {k : Nat} (hw : ∀ j, j < k → 0 < (bJ s (cV s j)).2) (h : ¬ cV s k < s.size) : Utf s k := ⟨Nat.le_antisymm (uG s k) (by omega), hw⟩
theorem SB {s : ByteArray} {k : Nat} (hw : ∀ j, j < k → 0 < (bJ s (cV s j)).2) (h1 : cV s k < s.size) (h2 : (bJ s (cV s k)).2 = 0) : ¬ ∃ N, Utf s N := by
  rintro ⟨N, hN⟩
  rcases Nat.lt_or_ge k N with h | h
  · have := hN.2 k h; omega
  · have h3 : cV s N ≤ cV s k := by
      rcases Nat.lt_or_ge N k with h' | h'
      · exact Nat.le_of_lt (uF hw h' (Nat.le_refl _))
      · rw [Nat.le_antisymm h h']; exact Nat.le_refl _
    rw [hN.1] at h3; omega
structure VaI (w wr : World) (s : ByteArray) (it k : Nat) : Prop where
  hw : ∀ j, j < k → 0 < (bJ s (cV s j)).2
  hit : wr.heap[it]? = some (.stringIter s (cV s k))
  hge : Ge w (some it)
theorem AV {w : World} (s : ByteArray) (hs : s.size ≤ 140737488355320) : Calls Tryz.prog 10 #[.string s] w (Ret fun v w' => ∃ b, v = .bool b ∧ (b = true ↔ ∃ N, Utf s N) ∧ Evo [] w w') := by
  refine bD (N := 19) Tryz.func10 rfl rfl rfl ?_; refine csr (wan (aI (csr (aD (AU rfl rfl Tryz.underlying9 fun it w1 O U V => ?_))))); have a0 := Ge.new (Evo.refl [] w) U; refine wnn (bG ?_); refine dC (α := Nat) (0) (fun k => []) [(0, _), (6, _)] (fun k wr => Evo [] w wr ∧ (VaI w wr s it k)) (fun k => s.size - cV s k) trivial ⟨rfl, rfl, trivial⟩ ⟨((Evo.refl [] w).then V), ⟨fun j h => (by cases h), O, a0⟩⟩ ?_; rintro k wr7 ⟨H, ⟨hw, hIt, hIg⟩⟩; show CW _ _ _ _ [(0, _), (6, _)] _; refine csr ?_
  by_cases I : cV s k < s.size
  ·refine FW rfl rfl hIt I fun a1 F J => ?_; have B := H.step J hIg.mem1
   have hlt : cV s k < s.size := by omega
   refine aC (cD rfl rfl) ?_; refine wnn (aI (dP rfl ?_)); refine aL (aB (bG (csr (aC (cD rfl rfl) ?_)))); refine aC (cD rfl rfl) ?_; refine bX (wan (csr (aD (wel ?_)))); refine aD (bF (t := 13) rfl (fun L => ?_) (fun L => ?_))
   ·refine aT (aD (aT (aD (aT ?_)))); refine aK (vs := [_, _]) wY rfl (wF s (cV s k) (uG s k) (by omega)) rfl ?_; rintro _ a2 ⟨rfl, D⟩; have M := D.blk0 F; refine aT (aC (oY rfl) ?_); refine bW (wnn (aX rfl (fun A => ?_) (fun A => ?_)))
    ·refine csr (wan (aH (aM (aE (aM (aE (br1 ?_)))))))
     exact ⟨false, rfl, by simp only [Bool.false_eq_true, false_iff]; exact SB hw hlt (by rw [BQ hlt (by omega) (by simpa using A)]), (B.then D)⟩
    refine aL (aO (bB ?_)); refine ⟨(k + 1), ?_, trivial, ⟨rfl, rfl, trivial⟩, (B.then D), ?_⟩
    · (have hnd : (bJ s (cV s k)).1 = ((Utf8.decode s (cV s k)).1 : Nat) ∧ (bJ s (cV s k)).2 = (Utf8.decode s (cV s k)).2 := sI hlt (fun h => by first | (exfalso; omega) | simpa using A); have hdw := oD hlt; have e0 : cV s (k + 1) = cV s k + (bJ s (cV s k)).2 := rfl; rw [e0, hnd.2]; omega)
    have hnd : (bJ s (cV s k)).1 = ((Utf8.decode s (cV s k)).1 : Nat) ∧ (bJ s (cV s k)).2 = (Utf8.decode s (cV s k)).2 := sI hlt (fun h => by first | (exfalso; omega) | simpa using A)
    have hdw := oD hlt; have e0 : cV s (k + 1) = cV s k + (bJ s (cV s k)).2 := rfl; refine ⟨fun j hj => ?_, ?_, hIg⟩
    · by_cases e : j < k; exact hw j e; (obtain rfl : j = k := by omega); rw [hnd.2]; exact hdw
    · rw [e0, hnd.2]; exact M
   refine aN (aN (aN (aN (bM (wnn (cS rfl ?_)))))); refine aL (aO (bB ?_)); refine ⟨(k + 1), ?_, trivial, ⟨rfl, rfl, trivial⟩, B, ?_⟩
   · (have hnd : (bJ s (cV s k)).1 = ((Utf8.decode s (cV s k)).1 : Nat) ∧ (bJ s (cV s k)).2 = (Utf8.decode s (cV s k)).2 := sI hlt (fun h => by first | (exfalso; omega) | simpa using A); have hdw := oD hlt; have e0 : cV s (k + 1) = cV s k + (bJ s (cV s k)).2 := rfl; rw [e0, hnd.2]; omega)
   have hnd : (bJ s (cV s k)).1 = ((Utf8.decode s (cV s k)).1 : Nat) ∧ (bJ s (cV s k)).2 = (Utf8.decode s (cV s k)).2 := sI hlt (fun h => by first | (exfalso; omega) | simpa using A)
   have hdw := oD hlt; have e0 : cV s (k + 1) = cV s k + (bJ s (cV s k)).2 := rfl; refine ⟨fun j hj => ?_, ?_, hIg⟩
   · by_cases e : j < k; exact hw j e; (obtain rfl : j = k := by omega); rw [hnd.2]; exact hdw
   · rw [e0, hnd.2]; exact F
  refine RX rfl rfl hIt I ?_; refine aC (cD rfl rfl) ?_; refine wnn (aI (cS rfl ?_)); refine cM (bK (bK (cL (aB ?_)))); refine csr (wan (aH (br1 ?_)))
  exact ⟨true, rfl, by simp only [true_iff]; exact ⟨k, PM hw (by omega)⟩, H⟩
theorem AL : cZ Tryz.prog 110 0 = some 0 := by kernel_rfl
theorem EY : fR Tryz.prog 110 = some 1 := by kernel_rfl
theorem EW : mH Tryz.prog 110 = some #[.int .i64 0] := by kernel_rfl
theorem OQ {P : Program} {σ : Env} {w : World} {T : TypeId} {pos : String} {after : Array Edge} {dst : Option Nat} {g : Option (Nat × Bool)} {op : BinOp} {xt yt : TypeId} {x y : Operand} {a b r : Value} (hx : σ.ev x = some a) (hy : σ.ev y = some b) (h : ∀ w, (do eqGuard op xt x y a b; binOp op xt a b : Sem Value).run P w = .ok r w) : Ex P σ ⟨dst, .binOp op xt x y yt, T, pos, after, g⟩ w r w := fun ρ ha => by
  have h1 := h w
  simp only [Sem.run_bind] at h1
  simp only [execOp, ha _ _ hx, ha _ _ hy, Sem.run_bind, h1, Result.andThen_ok, Sem.run_pure]
theorem LO {P : Program} {σ : Env} {w : World} {T : TypeId} {pos : String} {after : Array Edge} {dst : Option Nat} {g : Option (Nat × Bool)} {xt ast : TypeId} {ok : Bool} {x : Operand} {a r : Value} (hx : σ.ev x = some a) (h : ∀ w, (Instr.typeAssert a xt ast ok).run P w = .ok r w) : Ex P σ ⟨dst, .typeAssert x xt ast ok, T, pos, after, g⟩ w r w := fun ρ ha => by
  simp [execOp, ha _ _ hx, h]
theorem recov_none {w : World} {x e : Value} : CallsD Tryz.prog 51 #[x, e] .returning w (fun e u2 w' => (∃ vv, e = .returned vv ∧ Evo [] w w') ∧ u2 = .returning) := by
  refine zL (N := 19) (RecAs.ret) Tryz.func51 rfl rfl rfl rfl rfl ?_
  refine aI ?_
  refine aG ?_
  refine aD ?_
  refine gI rfl (OQ (r := .bool false) rfl rfl (fun w => by kernel_rfl)) ?_
  refine aP (aB ?_)
  refine cS rfl ?_
  refine aL (eC rfl ?_)
  exact (Evo.refl [] w)
theorem yB {w : World} {bx be : Nat} {c0 c1 c2 c3 c4 c5 c6 c7 c8 v0 : Value} {k : Int} (hx : w.heap[bx]? = some (.cells #[c0, c1, c2, c3, c4, c5, c6, c7, c8] 71 (0, 0))) (he : w.heap[be]? = some (.cells #[v0] 26 (0, 0))) (hne : Apart (some bx) (some be)) :
    CallsD Tryz.prog 51 #[.pointer (some ⟨bx, 0, none⟩), .pointer (some ⟨be, 0, none⟩)] (.panicking (pan (flt k))) w (fun e u2 w' => (∃ vv, e = .returned vv ∧ Evo [bx, be] w w' ∧ w'.heap[bx]? = some (.cells #[iv 0, .int .i32 0, .slice none 0 0, iv 0, iv 0, .bool false, iv 0, .string ByteArray.empty, .slice none 0 0] 71 (0, 0)) ∧ w'.heap[be]? = some (.cells #[iv k] 26 (0, 0))) ∧ u2 = .panicking [{ v := flt k, recovered := true }]) := by
  refine zL (N := 19) (RecAs.pan _) Tryz.func51 rfl rfl rfl rfl rfl ?_
  refine aI ?_
  refine aG ?_
  refine aD ?_
  refine gI rfl (OQ (r := .bool true) rfl rfl (fun w => by kernel_rfl)) ?_
  refine aP (aB ?_)
  refine dP rfl ?_
  refine aI ?_
  refine aG ?_
  refine aD ?_
  refine gI rfl (LO (r := .tuple #[.agg #[iv k], .bool true]) rfl (fun w => by kernel_rfl)) ?_
  refine aD ?_
  refine gI rfl (cD rfl rfl) ?_
  refine gI rfl (cD rfl rfl) ?_
  refine cK rfl EW fun bf w1 hB2 hs3 hw4 => ?_
  have hsz_bf := hs3
  have hA5 := Apart.new (Lt.blk hx) hs3
  have hA6 := Apart.new (Lt.blk he) hs3
  have hG7 := Ge.new (Evo.refl [bx, be] w) hs3
  have hE8 := (Evo.refl [bx, be] w).then hw4
  have hB9 := hw4.blk0 hx
  have hB10 := hw4.blk0 he
  refine aW rfl rfl EY hB2 rfl rfl ⟨by first | rfl | assumption, trivial⟩ fun w11 hB12 hw13 => ?_
  have hE14 := hE8.step hw13 hG7.mem1
  have hB15 := hw13.blk hB9 hA5.nmem1
  have hB16 := hw13.blk hB10 hA6.nmem1
  refine bX ?_
  refine aP (aB ?_)
  refine aI ?_
  refine aI ?_
  refine aG ?_
  refine aD ?_
  refine gI rfl (fK rfl) ?_
  refine aP (aB ?_)
  refine cS rfl ?_
  refine aL (aB ?_)
  refine fZ (fun w0 w' => Evo [bx, be] w0 w') (by kernel_rfl) (fun w17 hw18 => ?_)
  have hE19 := hE14.then hw18
  have hB20 := hw18.blk0 hB15
  have hB21 := hw18.blk0 hB16
  have hB22 := hw18.blk0 hB12
  refine xR 0 rfl (by kernel_rfl) (by kernel_rfl) (by kernel_rfl) rfl (fun _ hS => cC (vs := []) dD rfl (cells := [_, _, _, _, _, _, _, _, _]) rfl) (Evo.refl [bx, be] w17) ?_
  refine xR 1 rfl (by kernel_rfl) (by kernel_rfl) (by kernel_rfl) rfl (fun _ hS => aA rfl AL) (Evo.refl [bx, be] w17) ?_
  refine xR 2 rfl (by kernel_rfl) (by kernel_rfl) (by kernel_rfl) rfl (fun _ hS => aU rfl iY (bA (hS.blk hB22 ((AB hA5.symm hA6.symm))) rfl)) (Evo.refl [bx, be] w17) ?_
  refine bR [3] (by kernel_rfl) rfl ⟨?_, trivial⟩
  refine bY rfl ?_
  refine aW rfl rfl aS hB20 rfl rfl ⟨by first | rfl | assumption, by first | rfl | assumption, by first | rfl | assumption, by first | rfl | assumption, by first | rfl | assumption, by first | rfl | assumption, by first | rfl | assumption, by first | rfl | assumption, by first | rfl | assumption, trivial⟩ fun w23 hB24 hw25 => ?_
  have hE26 := hE19.step hw25 (fun y hy => .inl (by rw [List.mem_singleton.1 hy]; simp))
  have hE27 := (Evo.refl [bx, be] w17).step hw25 (fun y hy => .inl (by rw [List.mem_singleton.1 hy]; simp))
  have hB28 := hw25.blk hB21 hne.symm.nmem1
  have hB29 := hw25.blk hB22 hA5.symm.nmem1
  refine aP (bN (.inl hE27) ?_)
  refine bR [4] (by kernel_rfl) rfl ⟨?_, trivial⟩
  refine bY rfl ?_
  refine bC rfl rfl (by first | rfl | assumption) eH hB28 rfl fun w30 hB31 hw32 => ?_
  have hE33 := hE26.step hw32 (fun y hy => .inl (by rw [List.mem_singleton.1 hy]; simp))
  have hE34 := hE27.step hw32 (fun y hy => .inl (by rw [List.mem_singleton.1 hy]; simp))
  have hB35 := hw32.blk hB24 hne.nmem1
  have hB36 := hw32.blk hB29 hA6.symm.nmem1
  refine aP (bN (.inl hE34) ?_)
  refine dJ (by kernel_rfl) (eC rfl ?_)
  exact ⟨hE33, hB35, hB31⟩
theorem AP : Build Tryz.prog 116 #[(0, 1), (1, 1), (2, 4), (6, 1), (7, 1)] #[.string ByteArray.empty, .int .i64 0, .bool false, .bool false, .bool false, .bool false, .int .i64 0, .slice none 0 0] := ⟨_, .agg #[.string ByteArray.empty, .int .i64 0, .bool false, .bool false, .bool false, .bool false, .int .i64 0, .slice none 0 0], Tryz.underlying116, by kernel_rfl, rfl, fun w => by kernel_rfl⟩
theorem xB : dU Tryz.prog 10 := ⟨_, Tryz.func10, by kernel_rfl, by kernel_rfl⟩
theorem IT : mH Tryz.prog 26 = some #[.int .i64 0] := by kernel_rfl
abbrev st0 : PS := ⟨0, ⟨false, false, false, false⟩, 0, []⟩
abbrev zRx : Value := .agg #[iv 0, .int .i32 0, .slice none 0 0, iv 0, iv 0, .bool false, iv 0, .string ByteArray.empty, .slice none 0 0]
section
variable {s : ByteArray} {e : Int} {x : Rx} {st : PS}
theorem MX (h : 4096 < s.size) : eZ s = .error 1 := by unfold eZ; rw [if_pos h]
theorem pp_utf (h : ¬ 4096 < s.size) (hU : ¬ ∃ N, Utf s N) : eZ s = .error 4 := by unfold eZ; rw [if_neg h, if_pos hU]
theorem pp_err (h : ¬ 4096 < s.size) (hU : ∃ N, Utf s N) (he : qD s 250 st0 = .error e) : eZ s = .error e := by unfold eZ; rw [if_neg h, if_neg (not_not_intro hU), he]
theorem pp_open (h : ¬ 4096 < s.size) (hU : ∃ N, Utf s N) (he : qD s 250 st0 = .ok (x, st)) (hp : st.pos < s.size) : eZ s = .error 80 := by unfold eZ; rw [if_neg h, if_neg (not_not_intro hU), he]; simp only [if_pos hp]
theorem TU (h : ¬ 4096 < s.size) (hU : ∃ N, Utf s N) (he : qD s 250 st0 = .ok (x, st)) (hp : ¬ st.pos < s.size) : eZ s = .ok x := by unfold eZ; rw [if_neg h, if_neg (not_not_intro hU), he]; simp only [if_neg hp]
end
def XZ (s : ByteArray) (w : World) (v : Value) (w' : World) : Prop :=
  Evo [] w w' ∧ ((∃ e, eZ s = .error e ∧ v = .tuple #[zRx, iv e]) ∨ ∃ x vs bs, eZ s = .ok x ∧ v = .tuple #[.agg vs.toArray, iv 0] ∧ OT x w' vs bs ∧ Fr w bs)
theorem UC {w : World} (s : ByteArray) (hG : Glb w) : Calls Tryz.prog 29 #[.string s] w (Ret (XZ s w)) := by
  refine EP (N := 31) Tryz.func29 rfl rfl rfl ?_; refine csr (cK rfl eG fun bx w1 a8 c5 d9 => ?_); have e0 := c5; have H := Ge.new (Evo.refl [] w) c5; have a9 := (Evo.refl [] w).then d9; refine cK rfl IT fun be w7 c6 b4 I => ?_; have e1 := b4; have B := Apart.new (Lt.blk a8) b4; have D := Ge.new a9 b4; refine wnn (aI (csr (aD (aC (cA rfl Tryz.underlying9 rfl) ?_)))); refine aC (gL rfl rfl) ?_; refine wnn (aX rfl (fun e2 => ?_) (fun e2 => ?_))
  ·refine csr (aC (cC (vs := []) dD rfl (cells := [_, _, _, _, _, _, _, _, _]) rfl) ?_); refine aW rfl rfl aS (I.blk0 a8) rfl rfl ⟨by first | rfl | assumption, by first | rfl | assumption, by first | rfl | assumption, by first | rfl | assumption, by first | rfl | assumption, by first | rfl | assumption, by first | rfl | assumption, by first | rfl | assumption, by first | rfl | assumption, trivial⟩ fun e5 c7 b5 => ?_; refine bC rfl rfl (by first | rfl | assumption) eH (b5.blk c6 B.symm.nmem1) rfl fun e6 c8 b6 => ?_; refine wnn (aH (aE (zP (nY rfl (ResOk.cellA rfl bQ aS (b6.blk c7 B.nmem1) rfl) (ResOk.cell1 rfl iY c8 rfl) ?_)))); exact ⟨(((a9.then I).step b5 H.mem1).step b6 D.mem1), .inl ⟨1, MX (by omega), rfl⟩⟩
  have hlen : ¬ 4096 < s.size := by omega
  refine aL (aB (aI (csr (aD ?_)))); refine aK (vs := [_]) xB rfl (AV s (by omega)) rfl ?_; rintro _ e7 ⟨bU, rfl, hbU, O⟩; have J := (a9.then I).then O; have U := O.blk0 (I.blk0 a8); have V := O.blk0 c6; refine aC (fK rfl) ?_; refine wnn (fN rfl (fun b7 => ?_) (fun b7 => ?_))
  ·refine csr (aC (cC (vs := []) dD rfl (cells := [_, _, _, _, _, _, _, _, _]) rfl) ?_); refine aW rfl rfl aS U rfl rfl ⟨by first | rfl | assumption, by first | rfl | assumption, by first | rfl | assumption, by first | rfl | assumption, by first | rfl | assumption, by first | rfl | assumption, by first | rfl | assumption, by first | rfl | assumption, by first | rfl | assumption, trivial⟩ fun e8 c9 b8 => ?_; refine bC rfl rfl (by first | rfl | assumption) eH (b8.blk V B.symm.nmem1) rfl fun f0 d0 b9 => ?_; refine wnn (aH (aE (zP (nY rfl (ResOk.cellA rfl bQ aS (b9.blk c9 B.nmem1) rfl) (ResOk.cell1 rfl iY d0 rfl) ?_))))
   exact ⟨((J.step b8 H.mem1).step b9 D.mem1), .inl ⟨4, pp_utf hlen (fun h => by have := hbU.2 h; simp_all), rfl⟩⟩
  have hU : ∃ N, Utf s N := hbU.1 (by simpa using b7); refine aL (aB (csr (aC (HS (vs := [_, _]) rfl) ?_))); refine RY rfl ?_; refine wnn (csr (aD (aC (cC (vs := [(0, _)]) AP rfl (cells := [_, _, _, _, _, _, _, _]) rfl) ?_))); refine gK rfl rfl fun br f5 d1 F a0 => ?_; have e3 := F; have a1 := Apart.new (Lt.blk U) F; have c0 := Apart.new (Lt.blk V) F; have L := J.then a0; have a2 := a0.blk0 U; have a3 := a0.blk0 V; refine wan (csr (aD ?_))
  refine cB (vs := [_]) sB rfl (AF (by omega) 250 0 rfl (a := none) (c := 0) (ob := none) (st := st0) ⟨d1, OwnS.nil _ _ _, fun g h => by cases h⟩ rfl (by obtain ⟨N, hN⟩ := hU; exact Bd.zero hN) (by show 0 ≤ 100; omega) (hG.evo L (by simp)) (Apart.nil _)) rfl ?_ ?_
  ·intro pv wp hpp; obtain ⟨e9, hpe, rfl, hpw⟩ := hpp; refine tV rfl Tryz.func51 (by kernel_rfl) rfl (by simp) ((yB (hpw.blk a2 (by simpa using a1.nmem1)) (hpw.blk a3 (by simpa using c0.nmem1)) B).mono ?_); rintro e9 u9 w9 ⟨⟨vv, rfl, hv9, hb9, c1⟩, rfl⟩
   exact ⟨⟨vv, rfl⟩, rfl, _, _, ResOk.cellA rfl bQ aS hb9 rfl, ResOk.cell1 rfl iY c1 rfl, ((L).step hpw (fun y hy => (Ge.new J F).mem1 y (by simpa using hy))).step hv9 (fun y hy => by rcases List.mem_cons.1 hy with rfl | hy; exact H.mem1 _ (by simp); exact D.mem1 _ hy), .inl ⟨_, pp_err hlen hU hpe, rfl⟩⟩
  rintro _ f6 ⟨x, st1, hx, h0w, hmv, na, nc, no, vs, bs, rfl, hOT, hFx, hR, hnb⟩; have a4 : Evo [br] _ _ := h0w; obtain ⟨ra, rc, ka, kc, rfl⟩ := id hOT.nine; have hbxl := eO a2; have hbel := eO a3; refine aW rfl rfl aS (a4.blk a2 a1.nmem1) rfl rfl ⟨by first | rfl | assumption, by first | rfl | assumption, by first | rfl | assumption, by first | rfl | assumption, by first | rfl | assumption, by first | rfl | assumption, by first | rfl | assumption, by first | rfl | assumption, by first | rfl | assumption, trivial⟩ fun f7 d2 M => ?_; have c2 := M.blk hR.blk a1.symm.nmem1
  have d3 := hOT.evo M (fun q hq h => by rw [List.mem_singleton.1 h] at hq; have h8 := hFx.ge _ hq; omega)
  refine wnn (aI (aI ?_)); refine eM (by kernel_rfl) (by kernel_rfl) ?_; refine bE (fun _ A => aY rfl) ?_; refine bE (fun _ A => aF rfl) ?_; refine bE (fun _ A => aA rfl aV) ?_; refine bE (fun _ A => aU rfl aQ (bA (A.blk0 c2) rfl)) ?_; refine bE (fun _ A => aY rfl) ?_; refine bE (fun _ A => aF rfl) ?_; refine bE (fun _ A => aA rfl cP) ?_; refine bE (fun _ A => aU rfl cT (bA (A.blk0 c2) rfl)) ?_; refine bE (fun _ A => cA rfl Tryz.underlying9 rfl) ?_; refine bE (fun _ A => cX rfl rfl) ?_; refine eS (fun e4 A => aB ?_); have c3 := ((L.step a4 (Ge.new J F).mem1).step M H.mem1).then A; have a5 := A.blk0 d2; have c4 := A.blk0 (M.blk (a4.blk a3 c0.nmem1) B.symm.nmem1); refine aX rfl (fun d4 => ?_) (fun d4 => ?_)
  ·refine aG (cB (vs := [_]) cN rfl (eD 80) rfl ?_ ?_)
   ·intro pv wp hpp; obtain ⟨rfl, hpw⟩ := hpp; refine tV rfl Tryz.func51 (by kernel_rfl) rfl (by simp) ((yB (hpw.blk a5 (by simp)) (hpw.blk c4 (by simp)) B).mono ?_); rintro e9 u9 w9 ⟨⟨vv, rfl, hv9, hb9, c1⟩, rfl⟩
    exact ⟨⟨vv, rfl⟩, rfl, _, _, ResOk.cellA rfl bQ aS hb9 rfl, ResOk.cell1 rfl iY c1 rfl, ((c3).then hpw).step hv9 (fun y hy => by rcases List.mem_cons.1 hy with rfl | hy; exact H.mem1 _ (by simp); exact D.mem1 _ hy), .inl ⟨_, pp_open hlen hU hx (by omega), rfl⟩⟩
   intro _ _ hF; exact hF.elim
  refine aL (aB (csr (aC (bV rfl bQ aS a5 rfl) ?_))); refine aW rfl rfl aS a5 rfl rfl ⟨by first | rfl | assumption, by first | rfl | assumption, by first | rfl | assumption, by first | rfl | assumption, by first | rfl | assumption, by first | rfl | assumption, by first | rfl | assumption, by first | rfl | assumption, by first | rfl | assumption, trivial⟩ fun f8 d5 a6 => ?_
  have d6 := (d3.evo0 A).evo a6 (fun q hq h => by rw [List.mem_singleton.1 h] at hq; have h8 := hFx.ge _ hq; omega)
  refine bC rfl rfl (by first | rfl | assumption) eH (a6.blk c4 B.symm.nmem1) rfl fun f9 d7 a7 => ?_
  have d8 := d6.evo a7 (fun q hq h => by rw [List.mem_singleton.1 h] at hq; have h8 := hFx.ge _ hq; omega)
  refine wnn (aH (?_)); refine tV rfl Tryz.func51 (by kernel_rfl) rfl (by simp) (recov_none.mono ?_); rintro e9 u9 w9 ⟨⟨vv, rfl, hv9⟩, rfl⟩; exact ⟨⟨vv, rfl⟩, rfl, _, _, ResOk.cellA rfl bQ aS (hv9.blk0 (a7.blk d5 B.nmem1)) rfl, ResOk.cell1 rfl iY (hv9.blk0 d7) rfl, (((c3.step a6 H.mem1).step a7 D.mem1)).then hv9, .inr ⟨x, _, bs, TU hlen hU hx (by omega), rfl, d8.evo0 hv9, hFx.older L.size⟩⟩
theorem offs_ge {s : ByteArray} {k : Nat} (h : ∀ j, j < k → 0 < (bJ s (cV s j)).2) : k ≤ cV s k := by
  induction k with
  | zero => exact Nat.zero_le _
  | succ k ih =>
    have h1 := ih (fun j hj => h j (by omega))
    have h2 := h k (by omega)
    rw [cV]; omega
theorem SD {s : ByteArray} {K N : Nat} (hw : ∀ j, j < K → 0 < (bJ s (cV s j)).2) (he : cV s K = s.size ∨ (bJ s (cV s K)).2 = 0) (hU : Utf s N) : K = N := by
  rcases Nat.lt_trichotomy K N with h | h | h
  · have h1 := hU.2 K h
    have h2 := uF hU.2 h (Nat.le_refl _)
    rw [hU.1] at h2
    omega
  · exact h
  · have h1 := hw N h
    rw [hU.1, pM (Nat.le_refl _)] at h1
    cases h1
theorem GC (s : ByteArray) (k : Nat) : cW s (k + 1) = cW s k ++ [(bJ s (cV s k)).1] := by
  unfold cW; rw [List.range_succ, List.map_append]; rfl
end Go.Proofs.YtidpigbinpaaeaaGreat
namespace Go.Proofs.YtidpigbinpaaeaaGreat
open Go.RowKit Go.W
instance (c : Int) : Decidable (xT c) := by unfold xT; infer_instance
end Go.Proofs.YtidpigbinpaaeaaGreat
namespace Go.Proofs.YtidpigbinpaaeaaGreat
open Go.RowKit Go.W
attribute [local irreducible] Decidable.decide
section
variable {P : Program} {σ : Env} {w : World} {dst : Option Nat} {T : TypeId} {pos : String} {after : Array Edge} {g : Option (Nat × Bool)}
end
def frm (rs : List Int) : List Nat := rs.flatMap dE
theorem WC {rs : List Int} {k : Nat} (h : k < rs.length) : frm (rs.take (k + 1)) = frm (rs.take k) ++ dE rs[k] := by
  unfold frm; rw [List.take_add_one, List.getElem?_eq_getElem h, List.flatMap_append]; simp
theorem LJ (rs : List Int) : ∀ b, b ∈ frm rs → b < 256 := fun b hb => by
  obtain ⟨r, _, h⟩ := List.mem_flatMap.1 hb
  exact uL r b h
theorem yS {s : ByteArray} {a : Nat} (h : 0 < (bJ s a).2) : s.extract a (a + (bJ s a).2) = fS (dE (bJ s a).1) ∧ (dE (bJ s a).1).length = (bJ s a).2 ∧ IsR (bJ s a).1 := by
  by_cases ha : a < s.size
  · rcases fM s a ha with ⟨w, h1, h2, h3, hh, hd, h4, h5, -⟩ | ⟨h1, hd⟩
    · have hn := (pN h1 h2 h3 hh).1
      rw [hn]
      exact ⟨(VU h3).1 hh, DZ hh, hit_isR h1 hh⟩
    · unfold bJ at h
      rw [if_neg (fun e => e.2 (by rw [hd]; exact ⟨rfl, rfl⟩))] at h
      cases h
  · rw [pM (by omega)] at h; cases h
theorem ext_app {s : ByteArray} {a b c : Nat} (h1 : a ≤ b) (h2 : b ≤ c) : s.extract a c = s.extract a b ++ s.extract b c := by
  rw [ByteArray.extract_append_extract]
  congr 1 <;> omega
end Go.Proofs.YtidpigbinpaaeaaGreat
namespace Go.Proofs.YtidpigbinpaaeaaGreat
open Go.RowKit Go.W
theorem toList_inj {a b : ByteArray} (h : a.toList = b.toList) : a = b := by
  rw [Go.ByteArray.toList_eq, Go.ByteArray.toList_eq] at h
  cases a; cases b
  simpa [Array.toList_inj] using h
theorem GO {w : World} {e : TypeId} {a : Option Addr} {n c : Nat} {xs : List Value} {g : Nat} (h : OwnS w e 1 a n c xs (some g)) : a = some ⟨g, 0, none⟩ := by
  rcases h.2 with ⟨_, _, h3⟩ | ⟨g', _, _, hg, hv, _⟩
  · cases h3
  · cases hg; cases hv; rfl
section
variable {α : Type} [Inhabited α] (enc : α → Value)
end
abbrev nob : ByteArray := ByteArray.mk #[]
variable {s : ByteArray} {N : Nat} {R S : Nat → Nat → Prop} {t u : ByteArray} {ex fx : Bool}
end Go.Proofs.YtidpigbinpaaeaaGreat
namespace Go.Proofs.YtidpigbinpaaeaaGreat
open Go.RowKit Go.W
def VR (rs : List Int) : Prop := ∀ r, r ∈ rs → IsR r
abbrev txt (rs : List Int) : ByteArray := fS (frm rs)
theorem oK (a b : List Int) : frm (a ++ b) = frm a ++ frm b := by unfold frm; rw [List.flatMap_append]
theorem XI (a b : List Nat) : fS (a ++ b) = fS a ++ fS b := by
  apply ByteArray.ext
  simp [fS]
theorem txt_app (a b : List Int) : txt (a ++ b) = txt a ++ txt b := by unfold txt; rw [oK, XI]
theorem nM (rs : List Int) : (txt rs).size = (frm rs).length := CM _
theorem sL {l : List Nat} {k : Nat} (hk : k < l.length) (hl : ∀ b, b ∈ l → b < 256) : sb (fS l) k = l[k] := by
  have hz : k < (fS l).size := by rw [CM]; exact hk
  have h1 := hl l[k] (List.getElem_mem hk)
  rw [rL _ _ hz]
  show ((fS l).data[k]'(by exact hz)).toNat = _
  simp [fS]
  omega
theorem sS {r : Int} (h : IsR r) : 1 ≤ (dE r).length := by
  rw [dE, if_pos h]; unfold kB; repeat' split
  all_goals simp
theorem BP {s : ByteArray} {a : Nat} {r : Int} (hr : IsR r) (hs : a + (dE r).length ≤ s.size) (h : ∀ k (hk : k < (dE r).length), sb s (a + k) = (dE r)[k]) : bJ s a = (r, (dE r).length) := by
  have hb : gW s a (dE r).length = dE r := by
    apply List.ext_getElem
    · simp [gW]
    · intro k h1 h2
      simp only [gW, List.getElem_map, List.getElem_range]
      exact h k h2
  have hg : dN s a (dE r).length = r := by
    obtain ⟨m, rfl⟩ := Int.eq_ofNat_of_zero_le hr.1
    have e : dE (m : Int) = kB m := by rw [dE, if_pos hr]; rfl
    rw [e] at h ⊢
    have hm : (m : Int) ≤ 1114111 := hr.2.1
    unfold kB at h ⊢
    by_cases c1 : m < 128
    · simp only [if_pos c1] at h ⊢
      have h0 := h 0 (by simp)
      simp at h0
      simp [dN, h0]
    by_cases c2 : m < 2048
    · simp only [if_neg c1, if_pos c2] at h ⊢
      have h0 := h 0 (by simp); have h1 := h 1 (by simp)
      simp at h0 h1
      simp [dN, h0, h1]; omega
    by_cases c3 : m < 65536
    · simp only [if_neg c1, if_neg c2, if_pos c3] at h ⊢
      have h0 := h 0 (by simp); have h1 := h 1 (by simp); have h2 := h 2 (by simp)
      simp at h0 h1 h2
      simp [dN, h0, h1, h2]; omega
    · simp only [if_neg c1, if_neg c2, if_neg c3] at h ⊢
      have h0 := h 0 (by simp); have h1 := h 1 (by simp); have h2 := h 2 (by simp); have h3 := h 3 (by simp)
      simp at h0 h1 h2 h3
      simp [dN, h0, h1, h2, h3]; omega
  have hh : Hit s a (dE r).length := by unfold Hit; rw [hg, hb]
  have := (pN (sS hr) (QV r) hs hh).1
  rw [this, hg]
theorem yR {p q : List Int} {r : Int} (hr : IsR r) : bJ (txt (p ++ r :: q)) (frm p).length = (r, (dE r).length) := by
  have e : frm (p ++ r :: q) = frm p ++ (dE r ++ frm q) := by rw [oK]; rfl
  have hlt : ∀ b, b ∈ frm (p ++ r :: q) → b < 256 := LJ _
  refine BP hr ?_ fun k hk => ?_
  · rw [nM, e]; simp only [List.length_append]; omega
  · rw [sL (by rw [e]; simp only [List.length_append]; omega) hlt]
    simp only [e]
    rw [List.getElem_append_right (by omega), List.getElem_append_left (by omega)]
    simp
theorem GQ {rs : List Int} (h : VR rs) : ∀ k, k ≤ rs.length → cV (txt rs) k = (frm (rs.take k)).length := by
  intro k
  induction k with
  | zero => intro _; rfl
  | succ k ih =>
    intro hk
    have h1 := ih (by omega)
    have hlt : k < rs.length := by omega
    have e : rs = rs.take k ++ rs[k] :: rs.drop (k + 1) := by simp
    have h2 := yR (p := rs.take k) (q := rs.drop (k + 1)) (h rs[k] (List.getElem_mem hlt))
    rw [← e] at h2
    rw [cV, h1, h2, WC hlt, List.length_append]
theorem MM {rs : List Int} (h : VR rs) : Utf (txt rs) rs.length ∧ cW (txt rs) rs.length = rs := by
  have hn : ∀ k (hk : k < rs.length), bJ (txt rs) (cV (txt rs) k) = (rs[k], (dE rs[k]).length) := fun k hk => by
    have e : rs = rs.take k ++ rs[k] :: rs.drop (k + 1) := by simp
    have h2 := yR (p := rs.take k) (q := rs.drop (k + 1)) (h rs[k] (List.getElem_mem hk))
    rw [← e] at h2
    rw [GQ h k (by omega)]
    exact h2
  refine ⟨⟨?_, fun k hk => ?_⟩, ?_⟩
  · rw [GQ h _ (Nat.le_refl _), List.take_length, nM]
  · rw [hn k hk]; exact sS (h _ (List.getElem_mem hk))
  · apply List.ext_getElem
    · simp [cW]
    · intro k h1 h2
      simp only [cW, List.getElem_map, List.getElem_range]
      show (bJ _ _).1 = _
      rw [hn k h2]
theorem yA {s : ByteArray} {N : Nat} (hU : Utf s N) : VR (cW s N) := fun r hr => by
  obtain ⟨k, hk, rfl⟩ := List.mem_map.1 hr
  exact (yS (hU.2 k (List.mem_range.1 hk))).2.2
theorem sJ {s : ByteArray} {N : Nat} (hU : Utf s N) : txt (cW s N) = s := by
  have h : ∀ k, k ≤ N → txt (cW s k) = s.extract 0 (cV s k) := by
    intro k
    induction k with
    | zero => intro _; symm; exact ByteArray.size_eq_zero_iff.1 (by rw [ByteArray.size_extract]; show min 0 _ - 0 = 0; omega)
    | succ k ih =>
      intro hk
      have h1 := yS (hU.2 k (by omega))
      rw [GC, txt_app, ih (by omega), ext_app (b := cV s k) (Nat.zero_le _) (sN s (Nat.le_succ k)), cV, h1.1]
      congr 1
      simp [txt, frm]
  rw [h N (Nat.le_refl _), hU.1]
  simp
def At (s : ByteArray) : Nat → List Nat → Prop
  | _, [] => True
  | i, b :: l => isB s i b ∧ At s (i + 1) l
theorem KY {s : ByteArray} {i : Nat} (hi : i < s.size) (h : sb s i < 128) : bJ s i = (((sb s i : Nat) : Int), 1) := by
  have hr : IsR (sb s i : Nat) := ⟨by omega, by omega, by omega⟩
  have hf : dE (sb s i : Nat) = [sb s i] := by
    unfold dE
    rw [if_pos hr]
    unfold kB
    rw [if_pos (by omega)]
    simp
  have := BP (s := s) (a := i) hr (by rw [hf]; simp; omega) (fun k hk => by
    have hk0 : k = 0 := by rw [hf] at hk; simp at hk; exact hk
    subst hk0
    simp [hf])
  rw [this, hf]
  rfl
theorem yM {s : ByteArray} (h : ∀ k, k < s.size → sb s k < 128) : ∀ {k : Nat}, k ≤ s.size → cV s k = k
  | 0, _ => rfl
  | k + 1, hk => by
    have h1 := yM h (k := k) (by omega)
    show cV s k + (bJ s (cV s k)).2 = k + 1
    rw [h1, KY (by omega) (h k (by omega))]
theorem CS {s : ByteArray} (h : ∀ k, k < s.size → sb s k < 128) : Utf s s.size := by
  refine ⟨yM h (Nat.le_refl _), fun k hk => ?_⟩
  rw [yM h (by omega), KY hk (h k hk)]
  exact Nat.one_pos
theorem SZ {s : ByteArray} {i : Nat} (h : i < s.size) : sb (s.extract i s.size) 0 = sb s i := by
  have := lF (s := s) (i := i) (k := 0) (by omega)
  simpa using this
theorem rep_no {s : ByteArray} {i : Nat} (h : i < s.size) (h1 : sb s i ≠ 42) (h2 : sb s i ≠ 43) (h3 : sb s i ≠ 63) (h4 : sb s i ≠ 123) : mP (s.extract i s.size) = (0, 0, 0) := by
  have e := SZ h
  exact TT (by rw [e]; exact h1) (by rw [e]; exact h2) (by rw [e]; exact h3) (by rw [e]; exact h4)
def PH (c : Nat) : Prop := c < 128 ∧ c ≠ 36 ∧ c ≠ 40 ∧ c ≠ 41 ∧ c ≠ 42 ∧ c ≠ 43 ∧ c ≠ 46 ∧ c ≠ 63 ∧ c ≠ 91 ∧ c ≠ 92 ∧ c ≠ 94 ∧ c ≠ 123 ∧ c ≠ 124
instance (c : Nat) : Decidable (PH c) := by unfold PH; infer_instance
section
variable {s : ByteArray} {ex : PS → PX Rx} {f : Nat} {l g : List Rx} {ah : Bool} {st st2 : PS} {e : Int} {c : Nat}
theorem KO (h : isB s st.pos c) (hc : PH c) : eJ s ex st = .ok ([lD st.now c], gX st (st.pos + 1)) := by
  obtain ⟨h1, h2⟩ := h
  obtain ⟨c1, c2, c3, c4, c5, c6, c7, c8, c9, c10, c11, c12, c13⟩ := hc
  have hn := KY h1 (by omega)
  rw [h2] at hn
  rw [TW (by omega) (by omega) (by omega), KM (by rw [hn]; show ¬ ((c : Nat) : Int) = 46; omega) (by rw [hn]; show ¬ ((c : Nat) : Int) = 94; omega) (by rw [hn]; show ¬ ((c : Nat) : Int) = 36; omega), hn]
theorem sX (h : isB s st.pos c) (hc : c ≠ 41 ∧ c ≠ 42 ∧ c ≠ 43 ∧ c ≠ 63 ∧ c ≠ 123 ∧ c ≠ 124) (hp : eJ s ex st = .ok (g, st2)) : iK s ex (f + 1) l ah st = iK s ex f (l ++ g) (decide (0 < g.length)) st2 := by
  obtain ⟨h1, h2⟩ := h
  exact XT (lo := 0) (hi := 0) (by omega) (rep_no h1 (by omega) (by omega) (by omega) (by omega)) hp
theorem IQ (h : isB s st.pos c) (hc : PH c) : iK s ex (f + 1) l ah st = iK s ex f (l ++ [lD st.now c]) true (gX st (st.pos + 1)) := by
  have hc' := hc
  obtain ⟨c1, c2, c3, c4, c5, c6, c7, c8, c9, c10, c11, c12, c13⟩ := hc
  rw [sX h ⟨by omega, by omega, by omega, by omega, by omega, by omega⟩ (KO h hc')]
  rfl
theorem br_open (h : isB s st.pos 40) : eJ s ex st = qE s ex st := UA h.2
theorem ND (s : ByteArray) : ∀ n, ∃ ex, ∀ st, qD s n st = mL s ex st
  | 0 => ⟨_, fun st => rfl⟩
  | n + 1 => ⟨qD s n, fun st => rfl⟩
theorem zG {x : Rx} (h : iK s ex (s.size + 1) [] false st = .ok (x, st2)) (h2 : ¬ isB s st2.pos 124) : mL s ex st = .ok (x, st2) := by
  rw [WM (show wI s ex st = _ from h), IP h2]
  rfl
end
end Go.Proofs.YtidpigbinpaaeaaGreat
namespace Go.Proofs.YtidpigbinpaaeaaGreat
open Go.RowKit Go.W
attribute [local irreducible] Decidable.decide
theorem sC : dU Tryz.prog 27 := ⟨_, Tryz.func27, by kernel_rfl, by kernel_rfl⟩
def qc (c : Nat) : List Nat := if c ∈ sZ then [92, c] else [c]
def qK (s : ByteArray) : Nat → List Nat
  | 0 => []
  | k + 1 => qK s k ++ qc (sb s k)
theorem DC (s : ByteArray) : ∀ k, (qK s k).length ≤ 2 * k
  | 0 => by simp [qK]
  | k + 1 => by have := DC s k; rw [qK, List.length_append]; unfold qc; split <;> simp <;> omega
theorem qK_lo (s : ByteArray) : ∀ k, Lo (qK s k)
  | 0 => fun b hb => by cases hb
  | k + 1 => by
    have h1 := iS s k
    rw [qK]
    refine (qK_lo s k).app ?_
    unfold qc
    split
    · intro b hb; simp at hb; omega
    · intro b hb; simp at hb; omega
theorem PN : ∀ m, m < 256 → (0 ≤ Lib.indexByte (ByteArray.mk #[92, 46, 43, 42, 63, 40, 41, 124, 91, 93, 123, 125, 94, 36]).data.toList (UInt8.ofNat m) ↔ m ∈ sZ) := by decide +kernel
theorem PO {w : World} (m : Nat) (hm : m < 256) : Calls Tryz.prog 26 #[.string (ByteArray.mk #[92, 46, 43, 42, 63, 40, 41, 124, 91, 93, 123, 125, 94, 36]), .int .u8 (m : Nat)] w (Ret fun v w' => ∃ z, v = .int .i64 z ∧ (0 ≤ z ↔ m ∈ sZ) ∧ Evo [] w w') := by
  refine (lN _ _ w).mono ?_
  rintro e w' ⟨rfl, rfl⟩
  refine ⟨_, rfl, _, rfl, ?_, Evo.refl _ _⟩
  rw [← PN m hm]
  simp
structure QgG where
  k : Nat
  o : Option Nat
theorem XY {w : World} (s : ByteArray) (hs : s.size ≤ 30000000) :
    Calls Tryz.prog 8 #[.string s] w (Ret fun v w' => v = .string (fS (qK s s.size)) ∧ Evo [] w w') := by
  refine bD (N := 22) Tryz.func8 rfl rfl rfl ?_; refine csr (wan (csr (cK rfl IS fun bb w1 a0 a1 a2 => ?_))); have H := a1; have hub := Nat.le_of_eq H; refine wnn (aI (csr (aD (aC (cA rfl Tryz.underlying9 rfl) ?_)))); refine aD (wnn (bG (dC (α := QgG) (⟨0, none⟩) (fun x => [(7, .int .i64 (x.k : Nat))]) [(0, _), (2, _), (3, _), (6, _)] (fun x wr => Evo [] w wr ∧ (x.k ≤ s.size ∧ BdN wr bb (qK s x.k) x.o ∧ Ge w x.o)) (fun x => s.size - x.k) ⟨rfl, trivial⟩ ⟨rfl, rfl, rfl, rfl, trivial⟩ ⟨((Evo.refl [] w).then a2), ⟨Nat.zero_le _, (BdN.new a0), Ge.nil _⟩⟩ ?_))); rintro ⟨k, o⟩ wr7 ⟨J, ⟨hk, hBDl, hul⟩⟩; show CW _ _ _ _ [(7, .int .i64 (k : Nat)), (0, _), (2, _), (3, _), (6, _)] _
  try dsimp only at hk hBDl hul
  refine csr (aC (cX rfl rfl) ?_); refine wnn (aI (aX rfl (fun a3 => ?_) (fun a3 => ?_)))
  ·have hk' : k < s.size := by omega
   refine aL (aB (aI (bG (csr (aD (wan (aI (csr (aD (aD (aC (eA (n := k) rfl rfl Tryz.underlying9 rfl hk') ?_))))))))))); refine aK (vs := [_, _]) wZ rfl (PO (sb s k) (iS s k)) rfl ?_; rintro _ w9 ⟨z, rfl, hz, D⟩; have B := J.then D; refine aC (eF rfl rfl) ?_; refine wnn (aX rfl (fun L => ?_) (fun L => ?_))
   ·refine aG ?_
    refine aK (vs := [_, _]) sC rfl (pW 92 (hBDl.evo0 D) (by have h9 := DC s k; omega)) rfl ?_
    rintro _ a4 ⟨obw1, hBDw1, M, hnb1⟩; have A := B; have F := OK hul A.size hnb1; have I := B.step M (JR hub hul); refine wnn (aG (aD (aD (aC (eA (n := k) rfl rfl Tryz.underlying9 rfl hk') ?_))))
    refine aK (vs := [_, _]) sC rfl (pW (sb s k) hBDw1 (by have h9 := DC s k; first | omega | (rw [List.length_append]; simp; omega))) rfl ?_
    rintro _ a5 ⟨obw2, hBDw2, O, hnb2⟩; have A := I; refine aP (aO (aB (aG ?_))); refine aC (aJ rfl rfl (by omega) (by omega)) ?_; refine aD (aP (bB ?_)); refine ⟨⟨k + 1, obw2⟩, ?_, ⟨rfl, trivial⟩, ⟨rfl, rfl, rfl, rfl, trivial⟩, (I.step O (JR hub F)), ?_⟩
    · (try dsimp only); omega
    try dsimp only
    have hfin := hBDw2; refine ⟨by omega, ?_, (OK F A.size hnb2)⟩
    rw [qK, qc, if_pos (hz.1 (by omega))]; simpa [List.append_assoc] using hfin
   refine aL (aB (aG (aD (aD (aC (eA (n := k) rfl rfl Tryz.underlying9 rfl hk') ?_)))))
   refine aK (vs := [_, _]) sC rfl (pW (sb s k) (hBDl.evo0 D) (by have h9 := DC s k; first | omega | (rw [List.length_append]; simp; omega))) rfl ?_
   rintro _ a6 ⟨obw1, hBDw1, U, hnb1⟩; have A := B; have F := OK hul A.size hnb1; refine aP (aO (aB (aG ?_))); refine aC (aJ rfl rfl (by omega) (by omega)) ?_; refine aD (aP (bB ?_)); refine ⟨⟨k + 1, obw1⟩, ?_, ⟨rfl, trivial⟩, ⟨rfl, rfl, rfl, rfl, trivial⟩, (B.step U (JR hub hul)), ?_⟩
   · (try dsimp only); omega
   try dsimp only
   have hfin := hBDw1; refine ⟨by omega, ?_, F⟩
   rw [qK, qc, if_neg (fun h9 => by have := hz.2 h9; omega)]; simpa [List.append_assoc] using hfin
  obtain rfl : k = s.size := by omega
  refine cM (bK (bK (cL (aB ?_)))); refine csr ?_
  refine aK (vs := [_]) JJ rfl (LZ hBDl (qK_lo s _) (fun g hg => by have h9 := hul g hg; omega)) rfl ?_
  rintro _ a7 ⟨rfl, V⟩; refine wan (aH (br1 ?_)); exact ⟨rfl, (J.step V (fun y hy => .inr (Nat.le_trans hub (VN.1 hy).2)))⟩
end Go.Proofs.YtidpigbinpaaeaaGreat
namespace Go.Proofs.YtidpigbinpaaeaaGreat
open Go.RowKit Go.W
abbrev flz : Fl := ⟨false, false, false, false⟩
theorem qI {f : Fl} {c : Int} (hf : f.fold = false) (h0 : 0 ≤ c) (h1 : c ≤ 1114111) : lD f c = dK c := by
  rw [lD, if_neg (by rw [hf]; simp)]
  exact uH (m := [(c, c)]) (RN h0 h1) rfl rfl
theorem VD {c : Int} (h0 : 0 ≤ c) (h1 : c ≤ 1114111) : NodeP (dK c) := ⟨by show (1 : Int) ≤ 2; decide, by show (2 : Int) ≤ 13; decide, .inl rfl, .inr rfl, .inr ⟨rfl, rfl, rfl⟩, .inr ⟨rfl, rfl⟩, fun _ => ⟨h0, h1⟩, fun h => absurd (show (2 : Int) = 3 from h) (by decide), fun h => absurd (show (2 : Int) = 4 ∨ (2 : Int) = 5 from h) (by decide), fun h => absurd (show (2 : Int) = 6 from h) (by decide), fun h => absurd (show (2 : Int) = 7 from h) (by decide), fun _ => rfl⟩
theorem np_cls {l : List (Int × Int)} (h : RangesOk l) : NodeP (uD l) := ⟨by show (1 : Int) ≤ 3; decide, by show (3 : Int) ≤ 13; decide, .inr rfl, .inl rfl, .inr ⟨rfl, rfl, rfl⟩, .inr ⟨rfl, rfl⟩, fun h => absurd (show (3 : Int) = 2 from h) (by decide), fun _ => h, fun h => absurd (show (3 : Int) = 4 ∨ (3 : Int) = 5 from h) (by decide), fun h => absurd (show (3 : Int) = 6 from h) (by decide), fun h => absurd (show (3 : Int) = 7 from h) (by decide), fun _ => rfl⟩
theorem VC {k : Int} {l : List Rx} (hk : k = 4 ∨ k = 5) (hl : 2 ≤ l.length) : NodeP (lG k l) := ⟨by show (1 : Int) ≤ k; omega, by show k ≤ 13; omega, .inr rfl, .inr rfl, .inr ⟨rfl, rfl, rfl⟩, .inr ⟨rfl, rfl⟩, fun h => by have : k = 2 := h; omega, fun h => by have : k = 3 := h; omega, fun _ => hl, fun h => by have : k = 6 := h; omega, fun h => by have : k = 7 := h; omega, fun h => (h (by show k = 4 ∨ k = 5 ∨ k = 6 ∨ k = 7; omega)).elim⟩
theorem np_rep {lo hi : Int} {z : Bool} {x : Rx} (h0 : 0 ≤ lo) (h1 : lo ≤ 1000) (h2 : hi = -1 ∨ (lo ≤ hi ∧ hi ≤ 1000)) : NodeP (lS lo hi z x) := ⟨by show (1 : Int) ≤ 6; decide, by show (6 : Int) ≤ 13; decide, .inr rfl, .inr rfl, .inl rfl, .inr ⟨rfl, rfl⟩, fun h => absurd (show (6 : Int) = 2 from h) (by decide), fun h => absurd (show (6 : Int) = 3 from h) (by decide), fun h => absurd (show (6 : Int) = 4 ∨ (6 : Int) = 5 from h) (by decide), fun _ => ⟨h0, h1, h2, rfl⟩, fun h => absurd (show (6 : Int) = 7 from h) (by decide), fun h => (h (.inr (.inr (.inl rfl)))).elim⟩
theorem CE {x : Rx} {b : Int} {st : St} (hp : NodeP x) (hk : sF x.kind) (h7 : x.kind ≠ 7) (h1 : st.1 + 1 ≤ 8194) (hb : b ≤ 250) : x.fine b st = some (st.1 + 1, st.2) := by
  rw [jN ⟨h1, by rw [if_neg h7]; exact hb, hp, fun h => absurd h h7⟩, hp.leaf hk, cY, if_neg h7]
theorem rrx_up : ∀ {n : Nat} {X : List Nat} {w : World} {vs : List Value} {x : Rx}, RRx n X w vs x → RRx (n + 1) X w vs x := by
  intro n
  induction n with
  | zero => intro X w vs x h; exact h.elim
  | succ n ih =>
    rintro X w vs x ⟨vr, vk, h1, h2, ⟨a, c, hv, hc, h3⟩, h4⟩
    exact ⟨vr, vk, h1, h2, ⟨a, c, hv, hc, fun k hk => by obtain ⟨b, o, us, ha, hb, hl, hcs, hr⟩ := h3 k hk; exact ⟨b, o, us, ha, hb, hl, hcs, ih hr⟩⟩, h4⟩
theorem TF {n m : Nat} {X : List Nat} {w : World} {vs : List Value} {x : Rx} (h : RRx n X w vs x) (hm : n ≤ m) : RRx m X w vs x := by
  induction hm with
  | refl => exact h
  | step _ ih => exact rrx_up ih
mutual
theorem OT.rrx : ∀ {x : Rx} {w : World} {vs : List Value} {bs X : List Nat}, OT x w vs bs → (∀ b, b ∈ bs → b ∉ X) → ∃ n, RRx n X w vs x
  | .mk k r rs mn mx lz cp nm ks, w, vs, bs, X, h, hX => by
    rw [OT] at h
    obtain ⟨ra, rc, rb, ka, kc, kb, cs, bk, h1, h2, h3, h4, rfl, h5, h6, h7⟩ := h
    obtain ⟨n, hn⟩ := OTs.rrx h4 (X := X) (fun b hb => hX b (List.mem_append_right _ (List.mem_append_right _ hb)))
    refine ⟨n + 1, _, _, h1, own_rrg h2 (fun g hg => hX g (by simp [hg])), ⟨ka, kc, rfl, h3.le, fun j hj => ?_⟩, by show rs.length ≤ _; omega, by show nm.size ≤ _; omega, by show ks.length ≤ _; omega⟩
    obtain ⟨us, hul, huc, hur⟩ := hn j hj
    have hj' : j < ks.length := hj
    obtain ⟨g, hg, ha, hc⟩ := h3.cells (by omega)
    refine ⟨g, 0, us, ha, hX g (by simp [hg]), hul, fun i v hi => ?_, hur⟩
    have := hc _ _ (huc i v hi)
    rw [← Nat.add_assoc] at this
    exact this
theorem OTs.rrx : ∀ {l : List Rx} {w : World} {cs : List Value} {bs X : List Nat}, OTs l w cs bs → (∀ b, b ∈ bs → b ∉ X) → ∃ n, ∀ k (hk : k < l.length), ∃ us, us.length = 9 ∧ (∀ j v, us[j]? = some v → cs[k * 9 + j]? = some v) ∧ RRx n X w us l[k]
  | [], w, cs, bs, X, h, hX => ⟨0, fun k hk => by cases hk⟩
  | x :: l, w, cs, bs, X, h, hX => by
    rw [OTs] at h
    obtain ⟨vs, cs', b1, b2, rfl, rfl, h3, h4⟩ := h
    obtain ⟨n1, hn1⟩ := OT.rrx h3 (X := X) (fun b hb => hX b (List.mem_append_left _ hb))
    obtain ⟨n2, hn2⟩ := OTs.rrx h4 (X := X) (fun b hb => hX b (List.mem_append_right _ hb))
    have hl9 : vs.length = 9 := by obtain ⟨ra, rc, ka, kc, rfl⟩ := h3.nine; rfl
    refine ⟨max n1 n2, fun k hk => ?_⟩
    cases k with
    | zero => exact ⟨vs, hl9, fun j v hj => by rw [Nat.zero_mul, Nat.zero_add, List.getElem?_append_left (List.getElem?_eq_some_iff.1 hj).1]; exact hj, TF hn1 (Nat.le_max_left _ _)⟩
    | succ k =>
      obtain ⟨us, hu1, hu2, hu3⟩ := hn2 k (by simpa using hk)
      refine ⟨us, hu1, fun j v hj => ?_, TF hu3 (Nat.le_max_right _ _)⟩
      rw [List.getElem?_append_right (by omega), show (k + 1) * 9 + j - vs.length = k * 9 + j by omega]
      exact hu2 j v hj
end
end Go.Proofs.YtidpigbinpaaeaaGreat
namespace Go.Proofs.YtidpigbinpaaeaaGreat
open Go.RowKit Go.W
attribute [local irreducible] Decidable.decide
theorem JI : dU Tryz.prog 29 := ⟨_, Tryz.func29, by kernel_rfl, by kernel_rfl⟩
theorem MF : dU Tryz.prog 8 := ⟨_, Tryz.func8, by kernel_rfl, by kernel_rfl⟩
def zX : Rx := .mk 0 0 [] 0 0 false 0 emp []
theorem zX_rx (X : List Nat) (w : World) : RRx 1 X w [iv 0, .int .i32 0, .slice none 0 0, iv 0, iv 0, .bool false, iv 0, .string ByteArray.empty, .slice none 0 0] zX := ⟨_, _, rfl, mJ, mJ, Nat.zero_le _, Nat.zero_le _, Nat.zero_le _⟩
end Go.Proofs.YtidpigbinpaaeaaGreat
namespace Go.Proofs.YtidpigbinpaaeaaGreat
open Go.RowKit Go.W
def Bdd (S : Int → Prop) : Prop := ∀ c, S c → 0 ≤ c ∧ c ≤ 1114111
theorem XH (S : Int → Prop) (M : Int) (hM : M = 1114112) : ∀ n : Nat, ∃ l, jA (M - n) l ∧ ∀ c, InR c l ↔ (M - n ≤ c ∧ c ≤ 1114111 ∧ S c)
  | 0 => ⟨[], trivial, fun c => ⟨fun h => (kJ c h).elim, fun h => by omega⟩⟩
  | n + 1 => by
    obtain ⟨l, h1, h2⟩ := XH S M hM n
    have e : M - (n + 1 : Nat) = M - n - 1 := by omega
    by_cases hs : S (M - (n + 1 : Nat))
    · cases l with
      | nil =>
        refine ⟨[(M - (n + 1 : Nat), M - (n + 1 : Nat))], ⟨Int.le_refl _, Int.le_refl _, by omega, trivial⟩, fun c => ?_⟩
        rw [kP]
        constructor
        · intro h; obtain rfl : c = M - (n + 1 : Nat) := by simp only at h; omega
          exact ⟨by omega, by omega, hs⟩
        · rintro ⟨h3, h4, h5⟩
          by_cases hc : c = M - (n + 1 : Nat)
          · simp only; omega
          · exact (kJ c ((h2 c).2 ⟨by omega, h4, h5⟩)).elim
      | cons g l =>
        obtain ⟨g1, g2, g3, g4⟩ := h1
        by_cases hg : g.1 = M - n
        · refine ⟨(M - (n + 1 : Nat), g.2) :: l, ⟨Int.le_refl _, by simp only; omega, g3, g4⟩, fun c => ?_⟩
          have h2c := h2 c
          rw [fB] at h2c ⊢
          simp only
          constructor
          · intro h
            by_cases hc : c = M - (n + 1 : Nat)
            · exact ⟨by omega, by omega, by rw [hc]; exact hs⟩
            · have := h2c.1 (h.imp (fun h => ⟨by omega, h.2⟩) id)
              exact ⟨by omega, this.2⟩
          · rintro ⟨h3, h4, h5⟩
            by_cases hc : c = M - (n + 1 : Nat)
            · left; omega
            · rcases h2c.2 ⟨by omega, h4, h5⟩ with h | h
              · left; omega
              · exact .inr h
        · refine ⟨(M - (n + 1 : Nat), M - (n + 1 : Nat)) :: g :: l, ⟨Int.le_refl _, Int.le_refl _, by simp only; omega, by simp only; omega, g2, g3, g4⟩, fun c => ?_⟩
          have h2c := h2 c
          rw [fB]
          simp only
          constructor
          · rintro (h | h)
            · obtain rfl : c = M - (n + 1 : Nat) := by omega
              exact ⟨by omega, by omega, hs⟩
            · have := h2c.1 h
              exact ⟨by omega, this.2⟩
          · rintro ⟨h3, h4, h5⟩
            by_cases hc : c = M - (n + 1 : Nat)
            · left; omega
            · exact .inr (h2c.2 ⟨by omega, h4, h5⟩)
    · refine ⟨l, EO h1 (by omega), fun c => ?_⟩
      rw [h2 c]
      constructor
      · rintro ⟨h3, h4⟩; exact ⟨by omega, h4⟩
      · rintro ⟨h3, h4, h5⟩
        have : c ≠ M - (n + 1 : Nat) := fun h => hs (by rw [← h]; exact h5)
        exact ⟨by omega, h4, h5⟩
theorem vV {S : Int → Prop} (hS : Bdd S) : tB (jP S) ∧ ∀ c, InR c (jP S) ↔ S c := by
  obtain ⟨l, h1, h2⟩ := XH S 1114112 rfl 1114112
  have h1' : tB l := by rw [show ((1114112 : Int) - (1114112 : Nat)) = 0 by omega] at h1; exact h1
  have h2' : ∀ c, InR c l ↔ S c := fun c => (h2 c).trans ⟨fun h => h.2.2, fun h => ⟨by have := (hS c h).1; omega, (hS c h).2, h⟩⟩
  rw [uN h1' h2']
  exact ⟨h1', h2'⟩
theorem GU (S : Int → Prop) : (∃ a, jP S = [(a, a)] ∧ kI S = dK a) ∨ (kI S = uD (jP S)) := by
  generalize h : jP S = l
  match l, h with
  | [], h => exact .inr (rQ h (fun h1 => by simp at h1))
  | [(a, b)], h =>
    by_cases e : a = b
    · subst e; exact .inl ⟨a, rfl, uH h rfl rfl⟩
    · exact .inr (rQ h (fun _ => e))
  | g :: g2 :: l, h => exact .inr (rQ h (fun h1 => by simp at h1))
theorem mI {l : List (Int × Int)} (h : l.all (fun g => decide (0 ≤ g.1) && decide (g.2 ≤ 1114111)) = true) : Bdd (rs l) := by
  rintro c ⟨g, hg, h1⟩
  have := List.all_eq_true.1 h g hg
  simp at this
  omega
theorem DR (S : Int → Prop) : Bdd (vO S) := fun c h => ⟨h.1, h.2.1⟩
theorem HE {S : Int → Prop} (h : Bdd S) : Bdd (oM S) := by
  rintro c (h1 | h1 | h1)
  · exact h c h1
  · omega
  · omega
theorem unS_bd {S T : Int → Prop} (h1 : Bdd S) (h2 : Bdd T) : Bdd (unS S T) := fun c h => h.elim (h1 c) (h2 c)
theorem OB {c : Nat} {S : Int → Prop} (h : vR c = some S) : Bdd S := by
  unfold vR at h
  repeat' split at h
  all_goals first | (cases h; done) | (cases h; exact DR _) | (cases h; exact mI (by decide))
theorem lJ {p : Prop} [Decidable p] {A S : Int → Prop} {o : Option (Int → Prop)} (h : (if p then some A else o) = some S) (hA : Bdd A) (ho : o = some S → Bdd S) : Bdd S := by
  by_cases hp : p
  · rw [if_pos hp] at h; cases h; exact hA
  · rw [if_neg hp] at h; exact ho h
theorem namS_bd {n : ByteArray} {S : Int → Prop} (h : iR n = some S) : Bdd S :=
  (fun h => lJ h (mI (by decide)) (fun h => lJ h (mI (by decide)) (fun h => lJ h (mI (by decide)) (fun h => lJ h (mI (by decide)) (fun h => lJ h (mI (by decide)) (fun h => lJ h (mI (by decide)) (fun h => lJ h (mI (by decide)) (fun h => lJ h (mI (by decide)) (fun h => lJ h (mI (by decide)) (fun h => lJ h (mI (by decide)) (fun h => lJ h (mI (by decide)) (fun h => lJ h (mI (by decide)) (fun h => lJ h (mI (by decide)) (fun h => lJ h (mI (by decide)) (fun h => by cases h))))))))))))))) h
theorem TK {a b : Int} (h0 : 0 ≤ a) (h1 : b ≤ 1114111) : Bdd (rgS a b) := fun c h => by unfold rgS at h; omega
theorem BH {s : ByteArray} {i j : Nat} {S : Int → Prop} (h : iL s i = .ok (S, j)) (hb : Bd s i) (hi : i < s.size) : Bdd S := by
  unfold iL at h
  cases h1 : lX s i with
  | error e => rw [h1] at h; cases h
  | ok p =>
    obtain ⟨lo, m⟩ := p
    obtain ⟨b1, b2, b3, b4⟩ := vK h1 hb hi
    rw [h1] at h
    simp only at h
    split at h
    · rename_i hd
      cases h3 : lX s (m + 1) with
      | error e => rw [h3] at h; cases h
      | ok q =>
        obtain ⟨hi9, m2⟩ := q
        rw [h3] at h
        simp only at h
        split at h
        · cases h
        · have b5 := (b1.asc hd.1.1 (by rw [hd.1.2]; decide)).1
          have b6 := vK h3 b5 hd.2.1
          cases h
          exact TK b3 b6.2.2.2
    · cases h; exact TK b3 b4
theorem BK {s : ByteArray} {i j : Nat} {S : Int → Prop} (h : kS s i = .ok (S, j)) (hb : Bd s i) (hi : i < s.size) : Bdd S := by
  unfold kS at h
  split at h
  · split at h
    · cases h; exact OB (by assumption)
    · exact BH h hb hi
  · exact BH h hb hi
theorem UJ {s : ByteArray} {i j : Nat} {S : Int → Prop} (h : jM s i = .ok (S, j)) (hb : Bd s i) (hi : i < s.size) : Bdd S := by
  unfold jM at h
  split at h
  · split at h
    · exact BK h hb hi
    · split at h
      · split at h
        · cases h
        · cases h; exact DR _
      · split at h
        · cases h
        · cases h; exact namS_bd (by assumption)
  · exact BK h hb hi
theorem BJ {s : ByteArray} : ∀ {f i j : Nat} {fst : Bool} {S T : Int → Prop}, gE s f fst S i = .ok (T, j) → Bd s i → Bdd S → Bdd T
  | 0, i, j, fst, S, T, h, hb, hS => by rw [gE] at h; cases h
  | f + 1, i, j, fst, S, T, h, hb, hS => by
    rw [gE] at h
    split at h
    · cases h
    · split at h
      · cases h; exact hS
      · split at h
        · cases h
        · rename_i h1
          exact BJ h (xK h1 hb (by omega)).1 (unS_bd hS (UJ h1 hb (by omega)))
def Pc (o : Int) (ns ns' : List ByteArray) (q : Nat) (x : Rx) (K : Int → Prop) : Prop :=
  ∀ k, K k → ∀ (b : Int) (c : Nat), b ≤ o → c + q ≤ 8194 → x.fine (b + if Brk x.kind k then 1 else 0) (c, ns) = some (c + q, ns')
abbrev KA : Int → Prop := fun _ => True
abbrev KR : Int → Prop := fun k => k ≠ 6
abbrev KE : Int → Prop := fun k => k = 5 ∨ k = 7
theorem Pc.mono {o : Int} {ns ns' : List ByteArray} {q : Nat} {x : Rx} {K L : Int → Prop} (h : Pc o ns ns' q x K) (hL : ∀ k, L k → K k) : Pc o ns ns' q x L := fun k hk => h k (hL k hk)
theorem Pc.fine {o : Int} {ns ns' : List ByteArray} {q : Nat} {x : Rx} {K : Int → Prop} (h : Pc o ns ns' q x K) (h7 : K 7) {b : Int} {c : Nat} (hb : b ≤ o) (hc : c + q ≤ 8194) : x.fine b (c, ns) = some (c + q, ns') := by
  have := h 7 h7 b c hb hc
  rw [if_neg (by unfold Brk; omega), Int.add_zero] at this
  exact this
theorem GX {a : Int} (h : a ≠ 4 ∧ a ≠ 5 ∧ a ≠ 6 ∧ a ≠ 7) : sF a := by unfold sF; omega
theorem brk_no {a k : Int} (h : a ≠ 1 ∧ a ≠ 4 ∧ a ≠ 5 ∧ a ≠ 6) : ¬ Brk a k := by unfold Brk; omega
section
variable {o : Int} {ns ns' : List ByteArray} {q : Nat} {x : Rx}
theorem xJ (hp : NodeP x) (hl : sF x.kind) (h1 : x.kind ≠ 1) (ho : o ≤ 250) : Pc o ns ns 1 x KA := by
  intro k _ b c hb hc
  unfold sF at hl
  rw [if_neg (by unfold Brk; omega), Int.add_zero]
  exact CE (st := (c, ns)) hp hl (by omega) hc (by omega)
theorem np_k {k : Int} (h : k = 1 ∨ (8 ≤ k ∧ k ≤ 13)) : NodeP (rxK k) := ⟨by show (1 : Int) ≤ k; omega, by show k ≤ 13; omega, .inr rfl, .inr rfl, .inr ⟨rfl, rfl, rfl⟩, .inr ⟨rfl, rfl⟩, fun h9 => by have : k = 2 := h9; omega, fun h9 => by have : k = 3 := h9; omega, fun h9 => by have : k = 4 ∨ k = 5 := h9; omega, fun h9 => by have : k = 6 := h9; omega, fun h9 => by have : k = 7 := h9; omega, fun _ => rfl⟩
theorem TZ (ho : o ≤ 250) : Pc o ns ns 1 (rxK 1) KE := by
  intro k hk b c hb hc
  rw [if_neg (show ¬ Brk (rxK 1).kind k by show ¬ Brk 1 k; unfold Brk; have : k = 5 ∨ k = 7 := hk; omega), Int.add_zero]
  exact CE (st := (c, ns)) (np_k (.inl rfl)) (GX (a := 1) (by decide)) (by show (1 : Int) ≠ 7; decide) hc (by omega)
theorem GH {k : Int} (h : 8 ≤ k ∧ k ≤ 13) (ho : o ≤ 250) : Pc o ns ns 1 (rxK k) KA := xJ (np_k (.inr h)) (GX (a := k) (by omega)) (by show k ≠ 1; omega) ho
theorem IJ {l : List (Int × Int)} (h : tB l) (h1 : ∀ h : l.length = 1, l[0].1 ≠ l[0].2) : RangesOk l := by
  have key : ∀ (l : List (Int × Int)) (d : Int), 0 ≤ d → jA d l → ∀ i (h : i < l.length), d ≤ l[i].1 ∧ l[i].1 ≤ l[i].2 ∧ l[i].2 ≤ 1114111 ∧ ∀ j (hj : j < l.length), i = j + 1 → l[j].2 + 1 < l[i].1 := by
    intro l
    induction l with
    | nil => intro d hd hc i hi; cases hi
    | cons g l ih =>
      rintro d hd ⟨c1, c2, c3, c4⟩ i hi
      cases i with
      | zero => exact ⟨c1, c2, c3, fun j hj e => by omega⟩
      | succ i =>
        obtain ⟨e1, e2, e3, e4⟩ := ih (g.2 + 2) (by omega) c4 i (by simpa using hi)
        refine ⟨by simp only [List.getElem_cons_succ]; omega, e2, e3, fun j hj e => ?_⟩
        cases j with
        | zero =>
          obtain rfl : i = 0 := by omega
          simp only [List.getElem_cons_zero, List.getElem_cons_succ]
          omega
        | succ j => exact e4 j (by simpa using hj) (by omega)
  exact ⟨fun i hi => by have := key l 0 (Int.le_refl _) h i hi; exact ⟨by omega, this.2⟩, h1⟩
theorem sM {S : Int → Prop} (hS : Bdd S) (ho : o ≤ 250) : Pc o ns ns 1 (kI S) KA := by
  rcases GU S with ⟨a, h, e⟩ | e
  · have := (vV hS).1
    rw [h] at this
    obtain ⟨c1, c2, c3, -⟩ := this
    rw [e]
    exact xJ (VD c1 c3) (GX (a := 2) (by decide)) (by show (2 : Int) ≠ 1; decide) ho
  · by_cases h1 : ∃ a, jP S = [(a, a)]
    · obtain ⟨a, ha⟩ := h1
      have := uH (S := S) ha rfl rfl
      rw [this]
      have hc := (vV hS).1
      rw [ha] at hc
      obtain ⟨c1, c2, c3, -⟩ := hc
      exact xJ (VD c1 c3) (GX (a := 2) (by decide)) (by show (2 : Int) ≠ 1; decide) ho
    · rw [e]
      refine xJ (np_cls (IJ (vV hS).1 fun hl => ?_)) (GX (a := 3) (by decide)) (by show (3 : Int) ≠ 1; decide) ho
      intro h9
      obtain ⟨g, hg⟩ := List.length_eq_one_iff.1 hl
      refine h1 ⟨g.1, ?_⟩
      simp only [hg, List.getElem_cons_zero] at h9
      rw [hg]
      exact congrArg (fun z => [z]) (Prod.ext rfl h9.symm)
theorem NY {c : Int} (h0 : 0 ≤ c) (h1 : c ≤ 1114111) : Bdd (fun x => x = c) := fun x hx => by subst hx; exact ⟨h0, h1⟩
theorem KP {f : Fl} {c : Int} (h0 : 0 ≤ c) (h1 : c ≤ 1114111) (ho : o ≤ 250) : Pc o ns ns 1 (lD f c) KA := by
  rw [litS]
  split
  · exact sM (HE (NY h0 h1)) ho
  · exact sM (NY h0 h1) ho
theorem pc_wrap (h : ∀ (b : Int) (c : Nat), b ≤ o + 1 → c + q ≤ 8194 → x.fine b (c, ns) = some (c + q, ns')) : Pc o ns ns' q x KA := by
  intro k _ b c hb hc
  refine h _ c ?_ hc
  split <;> omega
theorem TX {nm : ByteArray} (h : ∀ (b : Int) (c : Nat), b ≤ o + 1 → c + q ≤ 8194 → x.fine b (c, ns ++ [nm]) = some (c + q, ns')) (ho : o + 1 ≤ 250) (hg : iZ ((ns.length : Int) + 1) nm ns) : Pc o ns ns' (q + 1) (oE ((ns.length : Int) + 1) nm x) KA := by
  intro k _ b c hb hc
  rw [if_neg (show ¬ Brk (oE ((ns.length : Int) + 1) nm x).kind k from brk_no (a := 7) (by decide)), Int.add_zero]
  have hp : NodeP (oE ((ns.length : Int) + 1) nm x) := ⟨by show (1 : Int) ≤ 7; decide, by show (7 : Int) ≤ 13; decide, .inr rfl, .inr rfl, .inr ⟨rfl, rfl, rfl⟩, .inl rfl, fun h9 => absurd (show (7 : Int) = 2 from h9) (by decide), fun h9 => absurd (show (7 : Int) = 3 from h9) (by decide), fun h9 => absurd (show (7 : Int) = 4 ∨ (7 : Int) = 5 from h9) (by decide), fun h9 => absurd (show (7 : Int) = 6 from h9) (by decide), fun _ => rfl, fun h9 => (h9 (.inr (.inr (.inr rfl)))).elim⟩
  rw [jN (st := (c, ns)) ⟨by show c + 1 ≤ 8194; omega, by show (if (7 : Int) = 7 then b + 1 else b) ≤ 250; rw [if_pos rfl]; omega, hp, fun _ => hg⟩]
  show cY [x] 7 (if (7 : Int) = 7 then b + 1 else b) (c + 1, if (7 : Int) = 7 then ns ++ [nm] else ns) = _
  rw [if_pos rfl, if_pos rfl, cY, if_neg (by unfold Brk; omega), Int.add_zero, h (b + 1) (c + 1) (by omega) (by omega)]
  simp only
  rw [cY]
  exact congrArg some (Prod.ext (by simp only; omega) rfl)
theorem pc_rep {lo hi : Int} {z : Bool} (h : Pc o ns ns' q x KA) (ho : o ≤ 250) (h0 : 0 ≤ lo) (h1 : lo ≤ 1000) (h2 : hi = -1 ∨ (lo ≤ hi ∧ hi ≤ 1000)) : Pc o ns ns' (q + 1) (lS lo hi z x) KR := by
  intro k hk b c hb hc
  rw [if_neg (show ¬ Brk (lS lo hi z x).kind k by show ¬ Brk 6 k; unfold Brk; have : k ≠ 6 := hk; omega), Int.add_zero]
  rw [jN ⟨by show c + 1 ≤ 8194; omega, by show (if (6 : Int) = 7 then b + 1 else b) ≤ 250; rw [if_neg (by decide)]; omega, np_rep h0 h1 h2, fun h9 => absurd (show (6 : Int) = 7 from h9) (by decide)⟩]
  show cY [x] 6 (if (6 : Int) = 7 then b + 1 else b) (c + 1, if (6 : Int) = 7 then _ else ns) = _
  rw [if_neg (by decide), if_neg (by decide), cY, h 6 trivial b (c + 1) hb (by omega)]
  simp only
  rw [cY]
  exact congrArg some (Prod.ext (by simp only; omega) rfl)
end
def Ps (K : Int → Prop) (o : Int) : List Rx → List ByteArray → List ByteArray → Nat → Prop
  | [], ns, ns', q => ns' = ns ∧ q = 0
  | x :: l, ns, ns', q => ∃ n1 q1 q2, q = q1 + q2 ∧ Pc o ns n1 q1 x K ∧ Ps K o l n1 ns' q2
section
variable {K : Int → Prop} {o : Int}
theorem Ps.one {x : Rx} {ns ns' : List ByteArray} {q : Nat} (h : Pc o ns ns' q x K) : Ps K o [x] ns ns' q := ⟨ns', q, 0, rfl, h, rfl, rfl⟩
theorem Ps.app : ∀ {l m : List Rx} {ns n1 ns' : List ByteArray} {q1 q2 : Nat}, Ps K o l ns n1 q1 → Ps K o m n1 ns' q2 → Ps K o (l ++ m) ns ns' (q1 + q2)
  | [], m, ns, n1, ns', q1, q2, ⟨h1, h2⟩, h => by subst h1 h2; rw [List.nil_append, Nat.zero_add]; exact h
  | x :: l, m, ns, n1, ns', q1, q2, ⟨n2, a, b, e, h1, h2⟩, h => ⟨n2, a, b + q2, by omega, h1, h2.app h⟩
theorem Ps.kids {k : Int} (hk : K k) : ∀ {l : List Rx} {ns ns' : List ByteArray} {q : Nat}, Ps K o l ns ns' q → ∀ (b : Int) (c : Nat), b ≤ o → c + q ≤ 8194 → cY l k b (c, ns) = some (c + q, ns')
  | [], ns, ns', q, ⟨h1, h2⟩, b, c, hb, hc => by subst h1 h2; rw [cY]; rfl
  | x :: l, ns, ns', q, ⟨n2, a, d, e, h1, h2⟩, b, c, hb, hc => by
    rw [cY, h1 k hk b c hb (by omega)]
    simp only
    rw [Ps.kids hk h2 b (c + a) hb (by omega)]
    exact congrArg some (Prod.ext (by simp only; omega) rfl)
theorem row4 {l : List Rx} {ns ns' : List ByteArray} {q : Nat} (h : Ps KR o l ns ns' q) (ho : o ≤ 250) : ∃ q', Pc o ns ns' q' (lC 4 l) KE ∧ (l.length = 0 → q' = 1) ∧ (l.length = 1 → q' = q) ∧ q' ≤ q + 1 := by
  match l, h with
  | [], ⟨h1, h2⟩ => subst h1; exact ⟨1, TZ ho, fun _ => rfl, (fun h => by cases h), by omega⟩
  | [x], ⟨n1, a, b, e, h1, h2, h3⟩ =>
    subst h2 h3
    exact ⟨a, h1.mono fun k hk => by show k ≠ 6; have : k = 5 ∨ k = 7 := hk; omega, (fun h => by cases h), fun _ => by omega, by omega⟩
  | x :: y :: l, h =>
    refine ⟨q + 1, ?_, (fun h => by simp at h), (fun h => by simp at h), Nat.le_refl _⟩
    intro k hk b c hb hc
    have hk' : k = 5 ∨ k = 7 := hk
    show (lG 4 (x :: y :: l)).fine _ _ = _
    rw [show (lC 4 (x :: y :: l)).kind = 4 from rfl, if_neg (by unfold Brk; omega), Int.add_zero]
    rw [jN ⟨by show c + 1 ≤ 8194; omega, by show (if (4 : Int) = 7 then b + 1 else b) ≤ 250; rw [if_neg (by decide)]; omega, VC (.inl rfl) (by simp), fun h9 => absurd (show (4 : Int) = 7 from h9) (by decide)⟩]
    show cY (x :: y :: l) 4 (if (4 : Int) = 7 then b + 1 else b) (c + 1, if (4 : Int) = 7 then _ else ns) = _
    rw [if_neg (by decide), if_neg (by decide), h.kids (k := 4) (by show (4 : Int) ≠ 6; decide) b (c + 1) hb (by omega)]
    exact congrArg some (Prod.ext (by simp only; omega) rfl)
theorem row5 {l : List Rx} {ns ns' : List ByteArray} {q : Nat} (h : Ps KE o l ns ns' q) (hl : 1 ≤ l.length) (ho : o ≤ 250) : ∃ q', (∀ (b : Int) (c : Nat), b ≤ o → c + q' ≤ 8194 → (lC 5 l).fine b (c, ns) = some (c + q', ns')) ∧ (l.length = 1 → q' = q) ∧ q' ≤ q + 1 := by
  match l, h with
  | [x], ⟨n1, a, b, e, h1, h2, h3⟩ =>
    subst h2 h3
    exact ⟨a, fun b c hb hc => h1.fine (.inr rfl) hb hc, fun _ => by omega, by omega⟩
  | x :: y :: l, h =>
    refine ⟨q + 1, fun b c hb hc => ?_, (fun h => by simp at h), Nat.le_refl _⟩
    show (lG 5 (x :: y :: l)).fine _ _ = _
    rw [jN ⟨by show c + 1 ≤ 8194; omega, by show (if (5 : Int) = 7 then b + 1 else b) ≤ 250; rw [if_neg (by decide)]; omega, VC (.inr rfl) (by simp), fun h9 => absurd (show (5 : Int) = 7 from h9) (by decide)⟩]
    show cY (x :: y :: l) 5 (if (5 : Int) = 7 then b + 1 else b) (c + 1, if (5 : Int) = 7 then _ else ns) = _
    rw [if_neg (by decide), if_neg (by decide), h.kids (k := 5) (.inl rfl) b (c + 1) hb (by omega)]
    exact congrArg some (Prod.ext (by simp only; omega) rfl)
end
section
variable {s t : ByteArray} {i i' : Nat}
end
def qR (r : Int) : List Int := if r.toNat ∈ sZ then [92, r] else [r]
theorem uC : ∀ c, c ∈ sZ → c < 128 ∧ c ≠ 65 ∧ c ≠ 122 ∧ c ≠ 98 ∧ c ≠ 66 ∧ c ≠ 81 ∧ c ≠ 120 ∧ ¬ fU c ∧ vT c = none := by decide
theorem SR {c : Nat} (h : c ∈ sZ) : vR c = none := by
  simp only [sZ, List.mem_cons, List.not_mem_nil, or_false] at h
  rcases h with h | h | h | h | h | h | h | h | h | h | h | h | h | h <;> subst h <;> rfl
theorem oA {r : Int} (h0 : 0 ≤ r) (h : r < 128) : dE r = [r.toNat] := by
  rw [dE, if_pos ⟨h0, by omega, by omega⟩, kB, if_pos (by omega)]
theorem EB {r : Int} (h : 128 ≤ r) : ∀ b, b ∈ dE r → 128 ≤ b := by
  intro b hb
  unfold dE at hb
  split at hb
  · unfold kB at hb
    rw [if_neg (by omega)] at hb
    split at hb
    · simp at hb; omega
    · split at hb
      · simp at hb; omega
      · simp at hb; omega
  · cases hb
theorem qR_vr {r : Int} (h : IsR r) : VR (qR r) := by
  intro x hx
  unfold qR at hx
  split at hx
  · simp at hx
    rcases hx with rfl | rfl
    · decide
    · exact h
  · simp at hx; subst hx; exact h
theorem qRs_vr {l : List Int} (h : VR l) : VR (l.flatMap qR) := by
  intro x hx
  obtain ⟨r, hr, hx⟩ := List.mem_flatMap.1 hx
  exact qR_vr (h r hr) x hx
theorem SS {r : Int} (h : 128 ≤ r) : ¬ r.toNat ∈ sZ := fun hs => by have := (uC _ hs).1; omega
theorem CB {α : Type} {g : α → List α} : ∀ {l : List α}, (∀ b, b ∈ l → g b = [b]) → l.flatMap g = l
  | [], _ => rfl
  | x :: l, h => by rw [List.flatMap_cons, h x (by simp), CB (fun b hb => h b (by simp [hb]))]; rfl
theorem frm_qR {r : Int} (h : IsR r) : frm (qR r) = (dE r).flatMap qc := by
  rcases Int.lt_or_le r 128 with h1 | h1
  · rw [oA h.1 h1]
    show _ = qc r.toNat ++ []
    unfold qR qc
    split
    · show dE 92 ++ (dE r ++ []) = _
      rw [oA h.1 h1]; rfl
    · show dE r ++ [] = _
      rw [oA h.1 h1]
  · rw [qR, if_neg (SS h1)]
    show dE r ++ [] = _
    rw [List.append_nil, CB]
    intro b hb
    have h2 := EB h1 b hb
    rw [qc, if_neg (fun hs => by have := (uC _ hs).1; omega)]
theorem frm_qRs {l : List Int} (h : VR l) : frm (l.flatMap qR) = (frm l).flatMap qc := by
  induction l with
  | nil => rfl
  | cons r l ih =>
    have h1 := ih (fun x hx => h x (by simp [hx]))
    rw [List.flatMap_cons, oK, h1, frm_qR (h r (by simp))]
    show _ = (dE r ++ frm l).flatMap qc
    rw [List.flatMap_append]
theorem DD {l : List Nat} (hl : ∀ b, b ∈ l → b < 256) : ∀ k, k ≤ l.length → qK (fS l) k = (l.take k).flatMap qc
  | 0, _ => rfl
  | k + 1, hk => by
    rw [qK, DD hl k (by omega), sL (by omega) hl, List.take_add_one, List.getElem?_eq_getElem (by omega), List.flatMap_append]
    simp
theorem qK_txt {s : ByteArray} {N : Nat} (hU : Utf s N) : fS (qK s s.size) = txt ((cW s N).flatMap qR) := by
  have h1 := sJ hU
  have h2 := DD (LJ (cW s N)) _ (Nat.le_refl _)
  have hsz : s.size = (frm (cW s N)).length := by rw [← nM, h1]
  rw [List.take_length, ← hsz, show fS (frm (cW s N)) = s from h1] at h2
  rw [h2]
  show _ = fS (frm _)
  rw [frm_qRs (yA hU)]
section
variable {s : ByteArray} {ex : PS → PX Rx} {st : PS}
theorem QC {c : Nat} (h : At s st.pos [92, c]) (hc : c ∈ sZ) : eJ s ex st = .ok ([lD st.now c], gX st (st.pos + 2)) := by
  obtain ⟨h1, ⟨h2, h3⟩, -⟩ := h
  obtain ⟨c1, c2, c3, c4, c5, c6, c7, c8, c9⟩ := uC c hc
  have he : mX s st.pos = .ok (c, st.pos + 2) := by
    unfold mX
    rw [if_neg (by omega), h3, c9]
    simp only
    rw [if_neg c7, if_neg (fun h => h.elim (by omega) (fun h9 => c8 h9.1))]
  rw [TY h1.2, OU (by omega) (by omega) (by omega) (by omega) (by omega) (by omega), h3, SR hc, he]
  rfl
theorem KN {r : Int} {n : Nat} (hn : bJ s st.pos = (r, n)) (h1 : ¬ sb s st.pos = 40) (h2 : ¬ sb s st.pos = 91) (h3 : ¬ sb s st.pos = 92) (h4 : r ≠ 46) (h5 : r ≠ 94) (h6 : r ≠ 36) : eJ s ex st = .ok ([lD st.now r], gX st (st.pos + n)) := by
  rw [TW h1 h2 h3, KM (by rw [hn]; exact h4) (by rw [hn]; exact h5) (by rw [hn]; exact h6), hn]
end
theorem OL {p q : List Int} {r : Int} (hr : IsR r) : (frm p).length < (txt (p ++ r :: q)).size ∧ sb (txt (p ++ r :: q)) (frm p).length ∈ dE r := by
  have e : frm (p ++ r :: q) = frm p ++ (dE r ++ frm q) := by rw [oK]; rfl
  have hp := sS hr
  have hlt : (frm p).length < (frm (p ++ r :: q)).length := by rw [e]; simp only [List.length_append]; omega
  refine ⟨by rw [nM]; exact hlt, ?_⟩
  rw [sL hlt (LJ _)]
  simp only [e]
  rw [List.getElem_append_right (by omega), List.getElem_append_left (by omega)]
  exact List.getElem_mem _
theorem WE {p q : List Int} {r : Int} (h0 : 0 ≤ r) (h : r < 128) : isB (txt (p ++ r :: q)) (frm p).length r.toNat := by
  obtain ⟨h1, h2⟩ := OL (p := p) (q := q) (r := r) ⟨h0, by omega, by omega⟩
  rw [oA h0 h, List.mem_singleton] at h2
  exact ⟨h1, h2⟩
theorem TB {ex : PS → PX Rx} : ∀ (l p : List Int) (f : Nat) (acc : List Rx) (ah : Bool), VR p → VR l → l.length + 1 ≤ f →
    iK (txt (p ++ l.flatMap qR)) ex f acc ah ⟨(frm p).length, flz, 0, []⟩ = .ok (lC 4 (acc ++ l.map dK), ⟨(txt (p ++ l.flatMap qR)).size, flz, 0, []⟩)
  | [], p, f, acc, ah, hp, hl, hf => by
    have e : (txt (p ++ ([] : List Int).flatMap qR)).size = (frm p).length := by rw [List.flatMap_nil, List.append_nil, nM]
    rw [e, sY (.inl (by rw [e]; exact Nat.le_refl _)), List.map_nil, List.append_nil]
  | r :: l, p, 0, acc, ah, hp, hl, hf => by simp at hf
  | r :: l, p, f + 1, acc, ah, hp, hl, hf => by
    have hr := hl r (by simp)
    have hl' : VR l := fun x hx => hl x (by simp [hx])
    have hb : r ≤ 1114111 := hr.2.1
    have h0 : 0 ≤ r := hr.1
    simp only [List.length_cons] at hf
    by_cases hs : r.toNat ∈ sZ
    · have h1 := (uC _ hs).1
      have e : p ++ (r :: l).flatMap qR = p ++ 92 :: r :: l.flatMap qR := by rw [List.flatMap_cons, qR, if_pos hs]; rfl
      have e2 : p ++ 92 :: r :: l.flatMap qR = (p ++ [92, r]) ++ l.flatMap qR := by simp
      have e3 : (frm (p ++ [92])).length = (frm p).length + 1 := by rw [oK, List.length_append]; rfl
      have e4 : (frm (p ++ [92, r])).length = (frm p).length + 2 := by rw [oK, List.length_append]; show _ + (dE 92 ++ (dE r ++ [])).length = _; rw [oA h0 (by omega)]; rfl
      have hat : At (txt (p ++ 92 :: r :: l.flatMap qR)) (frm p).length [92, r.toNat] := by
        refine ⟨WE (r := 92) (by decide) (by decide), ?_, trivial⟩
        have h9 := WE (p := p ++ [92]) (q := l.flatMap qR) (r := r) h0 (by omega)
        rw [e3, List.append_assoc] at h9
        exact h9
      have hp2 : VR (p ++ [92, r]) := fun x hx => by
        rcases List.mem_append.1 hx with h | h
        · exact hp x h
        · simp at h
          rcases h with rfl | rfl
          · decide
          · exact hr
      rw [e, sX (st := ⟨(frm p).length, flz, 0, []⟩) hat.1 (by decide) (QC (st := ⟨(frm p).length, flz, 0, []⟩) hat hs)]
      have hrr : ((r.toNat : Nat) : Int) = r := by omega
      show iK _ ex f (acc ++ [lD flz (r.toNat : Nat)]) _ ⟨(frm p).length + 2, flz, 0, []⟩ = _
      rw [hrr, qI rfl h0 hb, e2, ← e4, TB l (p ++ [92, r]) f _ _ hp2 hl' (by omega)]
      simp
    · have e : p ++ (r :: l).flatMap qR = p ++ r :: l.flatMap qR := by rw [List.flatMap_cons, qR, if_neg hs]; rfl
      have e2 : p ++ r :: l.flatMap qR = (p ++ [r]) ++ l.flatMap qR := by simp
      have e4 : (frm (p ++ [r])).length = (frm p).length + (dE r).length := by rw [oK, List.length_append]; show _ + (dE r ++ []).length = _; rw [List.append_nil]
      have hp2 : VR (p ++ [r]) := fun x hx => by
        rcases List.mem_append.1 hx with h | h
        · exact hp x h
        · simp at h; subst h; exact hr
      have hn := yR (p := p) (q := l.flatMap qR) hr
      obtain ⟨hlt, hm⟩ := OL (p := p) (q := l.flatMap qR) hr
      have hns : ∀ c, c ∈ sZ → sb (txt (p ++ r :: l.flatMap qR)) (frm p).length ≠ c := fun c hc h9 => by
        rcases Int.lt_or_le r 128 with h1 | h1
        · rw [oA h0 h1, List.mem_singleton] at hm
          exact hs (by rw [← hm, h9]; exact hc)
        · have := EB h1 _ hm
          have := (uC c hc).1
          omega
      have hri : ∀ c : Nat, c ∈ sZ → r ≠ (c : Int) := fun c hc h9 => hs (by rw [h9]; exact hc)
      rw [e, sX (c := sb (txt (p ++ r :: l.flatMap qR)) (frm p).length) (st := ⟨(frm p).length, flz, 0, []⟩) ⟨hlt, rfl⟩ ⟨hns 41 (by decide), hns 42 (by decide), hns 43 (by decide), hns 63 (by decide), hns 123 (by decide), hns 124 (by decide)⟩
        (KN (st := ⟨(frm p).length, flz, 0, []⟩) hn (hns 40 (by decide)) (hns 91 (by decide)) (hns 92 (by decide)) (hri 46 (by decide)) (hri 94 (by decide)) (hri 36 (by decide)))]
      show iK _ ex f (acc ++ [lD flz r]) _ ⟨(frm p).length + (dE r).length, flz, 0, []⟩ = _
      rw [qI rfl h0 hb, e2, ← e4, TB l (p ++ [r]) f _ _ hp2 hl' (by omega)]
      simp
theorem MU : ∀ {l : List Int}, VR l → l.length ≤ (frm (l.flatMap qR)).length
  | [], _ => Nat.le_refl _
  | r :: l, h => by
    have h1 := MU (fun x hx => h x (by simp [hx]) : VR l)
    have h2 := sS (h r (by simp))
    have h3 : (dE r).length ≤ (frm (qR r)).length := by
      unfold qR; split
      · show _ ≤ (dE 92 ++ (dE r ++ [])).length
        simp
      · show _ ≤ (dE r ++ []).length
        simp
    rw [List.flatMap_cons, oK, List.length_append, List.length_cons]
    omega
theorem QE {l : List Int} (h : VR l) (hz : (frm (l.flatMap qR)).length ≤ 4096) : eZ (txt (l.flatMap qR)) = .ok (lC 4 (l.map dK)) := by
  obtain ⟨ex, he⟩ := ND (txt (l.flatMap qR)) 250
  have hsz : (txt (l.flatMap qR)).size = (frm (l.flatMap qR)).length := nM _
  have h1 := TB (ex := ex) l [] ((txt (l.flatMap qR)).size + 1) [] false (fun x hx => by cases hx) h (by have := MU h; omega)
  rw [List.nil_append, List.nil_append] at h1
  have h2 : qD (txt (l.flatMap qR)) 250 st0 = .ok (lC 4 (l.map dK), ⟨(txt (l.flatMap qR)).size, flz, 0, []⟩) := by
    rw [he]; exact zG h1 (fun h9 => by have := h9.1; simp at this)
  exact TU (by rw [hsz]; omega) ⟨_, (MM (qRs_vr h)).1⟩ h2 (Nat.lt_irrefl _)
theorem wH {s : ByteArray} {N : Nat} (hU : Utf s N) (h : (qK s s.size).length ≤ 4096) : eZ (fS (qK s s.size)) = .ok (lC 4 ((cW s N).map dK)) := by
  have e := qK_txt hU
  have hz : (fS (qK s s.size)).size = (frm ((cW s N).flatMap qR)).length := by rw [e, nM]
  rw [bsz] at hz
  rw [e]
  exact QE (yA hU) (by omega)
section
variable {s : ByteArray} {ex : PS → PX Rx}
theorem QP {i k : Nat} (hk : 1 ≤ k) (h : k < (bJ s i).2) : 128 ≤ sb s (i + k) := by
  obtain ⟨h1, h2, h3⟩ := yS (s := s) (a := i) (by omega)
  have hle : i + (bJ s i).2 ≤ s.size := by
    rcases lY s i with e | e
    · rw [e] at h; exact absurd h (Nat.not_lt_zero _)
    · exact e.2.2.2.2
  have hb : sb s (i + k) = (dE (bJ s i).1)[k]'(by omega) := by
    rw [← dQ (s := s) (a := i) (b := i + (bJ s i).2) (k := k) hle (by omega), h1, sL (by omega) (uL _)]
  have hm := List.getElem_mem (l := dE (bJ s i).1) (n := k) (by omega)
  rw [← hb] at hm
  rcases Int.lt_or_le (bJ s i).1 128 with h5 | h5
  · have h7 := congrArg List.length (oA h3.1 h5); simp at h7; omega
  · exact EB h5 _ hm
theorem MZ {fl : Fl} {e : Nat} (he : sb s e < 128) : ∀ {f i : Nat} {l : List Rx}, i ≤ e → (kR s fl e f l i).2 ≤ e
  | 0, i, l, h => h
  | f + 1, i, l, h => by
    rw [kR]
    split
    · rename_i hi
      refine MZ he ?_
      rcases Nat.lt_or_ge e (i + (bJ s i).2) with h9 | h9
      · have := QP (s := s) (i := i) (k := e - i) (by omega) (by omega)
        rw [show i + (e - i) = e by omega] at this
        omega
      · exact h9
    · exact h
end
theorem Ps.mono {K L : Int → Prop} {o : Int} (hL : ∀ k, L k → K k) : ∀ {l : List Rx} {ns ns' : List ByteArray} {q : Nat}, Ps K o l ns ns' q → Ps L o l ns ns' q
  | [], ns, ns', q, h => h
  | x :: l, ns, ns', q, ⟨n2, a, d, e, h1, h2⟩ => ⟨n2, a, d, e, h1.mono hL, Ps.mono hL h2⟩
theorem Ps.last {K : Int → Prop} {o : Int} : ∀ {l : List Rx} {ns ns' : List ByteArray} {q : Nat}, Ps K o l ns ns' q → l ≠ [] → ∃ l0 y n1 qa qb, l = l0 ++ [y] ∧ Ps K o l0 ns n1 qa ∧ Pc o n1 ns' qb y K ∧ q = qa + qb
  | [x], ns, ns', q, ⟨n1, a, d, e, h1, h2, h3⟩, _ => by subst h2 h3; exact ⟨[], x, ns, 0, a, rfl, ⟨rfl, rfl⟩, h1, by omega⟩
  | x :: y :: l, ns, ns', q, ⟨n1, a, d, e, h1, h2⟩, _ => by
    obtain ⟨l0, z, n2, qa, qb, e1, e2, e3, e4⟩ := Ps.last h2 (by simp)
    exact ⟨x :: l0, z, n2, a + qa, qb, by rw [e1]; rfl, ⟨n1, a, qa, rfl, h1, e2⟩, e3, by omega⟩
def FU (s : ByteArray) (ex : PS → PX Rx) (n : Nat) : Prop := ∀ st x st', st.opn = n → Bd s st.pos → st.names.length ≤ 100 → ex st = .ok (x, st') →
  ∃ q, (∀ (b : Int) (c : Nat), b ≤ n → c + q ≤ 8194 → x.fine b (c, st.names) = some (c + q, st'.names)) ∧ q + 2 * st.pos ≤ 2 * st'.pos + 1 ∧ st.pos ≤ st'.pos ∧ Bd s st'.pos ∧ st'.opn = n ∧ st'.names.length ≤ 100
def uA (s : ByteArray) (st st2 : PS) (g : List Rx) : Prop := ∃ q, Ps KA st.opn g st.names st2.names q ∧ q + g.length + 2 * st.pos ≤ 2 * st2.pos ∧ st.pos < st2.pos ∧ Bd s st2.pos ∧ st2.opn = st.opn ∧ st2.names.length ≤ 100
section
variable {s : ByteArray} {ex : PS → PX Rx} {st : PS}
theorem rO {x : Rx} {j : Nat} (ho : st.opn ≤ 250) (hn : st.names.length ≤ 100) (h : Pc st.opn st.names st.names 1 x KA) (hj : st.pos < j) (hb : Bd s j) : uA s st (gX st j) [x] :=
  ⟨1, Ps.one h, by show 1 + 1 + 2 * st.pos ≤ 2 * j; omega, hj, hb, rfl, hn⟩
theorem MY : ∀ {f j k : Nat}, j ≤ k → k < iB s f j → fU (sb s k)
  | 0, j, k, h, h2 => by rw [iB] at h2; omega
  | f + 1, j, k, h, h2 => by
    rw [iB] at h2
    split at h2
    · rename_i hw
      by_cases e : j = k
      · subst e; exact hw.2
      · exact MY (by omega) h2
    · omega
theorem nU : zZ emp := fun j hj => absurd hj (Nat.not_lt_zero _)
theorem BI {i h : Nat} {fl : Fl} : zZ (nR s i h fl).name := by
  unfold nR
  split
  · exact nU
  · rename_i hc
    have hb : isB s (iB s s.size (i + h)) 62 := Classical.not_not.1 (fun h9 => hc (.inr h9))
    intro j hj
    have hj' : j < (s.extract (i + h) (iB s s.size (i + h))).size := hj
    rw [ByteArray.size_extract] at hj'
    have := hb.1
    have hge : i + h ≤ iB s s.size (i + h) := yG
    show fU (sb (s.extract (i + h) (iB s s.size (i + h))) j)
    rw [dQ (by omega) (by omega)]
    exact MY (f := s.size) (j := i + h) (by omega) (by omega)
theorem BG {i : Nat} : ∀ {f j : Nat} {b m : Bool} {n : Int} {fl : Fl}, zZ (hD s i f j b n m fl).name
  | 0, j, b, m, n, fl => nU
  | f + 1, j, b, m, n, fl => by
    rw [hD]
    repeat' split
    all_goals first | exact BG | exact nU
theorem KS {i : Nat} {fl : Fl} : zZ (fI s i fl).name := by
  unfold fI
  split
  · exact nU
  · split
    · exact BI
    · split
      · exact BI
      · split
        · exact nU
        · exact BG
theorem DF {fl : Fl} {e : Nat} {o : Int} {ns : List ByteArray} (ho : o ≤ 250) (he : e ≤ s.size) : ∀ {f i : Nat} {l : List Rx}, Bd s i → Ps KA o l ns ns l.length → Ps KA o (kR s fl e f l i).1 ns ns (kR s fl e f l i).1.length ∧ i + (kR s fl e f l i).1.length ≤ (kR s fl e f l i).2 + l.length ∧ Bd s (kR s fl e f l i).2 ∧ (e ≤ i + f → e ≤ (kR s fl e f l i).2)
  | 0, i, l, hb, h => ⟨h, Nat.le_refl _, hb, fun h => h⟩
  | f + 1, i, l, hb, h => by
    rw [kR]
    split
    · rename_i hi
      obtain ⟨n1, n2, n3, n4, n5⟩ := hb.next (by omega)
      have h1 : Ps KA o (l ++ [lD fl (bJ s i).1]) ns ns (l ++ [lD fl (bJ s i).1]).length := by
        rw [List.length_append]; exact h.app (Ps.one (KP n4 n5 ho))
      obtain ⟨a1, a2, a3, a4⟩ := DF (fl := fl) (e := e) (f := f) ho he n3 h1
      refine ⟨a1, ?_, a3, fun h9 => a4 (by omega)⟩
      rw [List.length_append] at a2
      simp only [List.length_singleton] at a2
      omega
    · rename_i hi
      exact ⟨h, Nat.le_refl _, hb, fun _ => by show e ≤ i; omega⟩
theorem quote_i {g : List Rx} {st2 : PS} (h : nQ s st = .ok (g, st2)) (hb : Bd s (st.pos + 2)) (ho : st.opn ≤ 250) (hn : st.names.length ≤ 100) : uA s st st2 g := by
  have ho' : (st.opn : Int) ≤ 250 := by omega
  have hle := hb.le
  unfold nQ at h
  split at h
  · rename_i e he
    cases h
    obtain ⟨f1, f2, f3⟩ := (qL s 92 69 s.size (st.pos + 2) (by omega)).1 e he
    obtain ⟨a1, a2, a3, a4⟩ := DF (s := s) (fl := st.now) (e := e) (o := st.opn) (ns := st.names) (f := s.size) (i := st.pos + 2) (l := []) ho' (by have := f2.1; omega) hb ⟨rfl, rfl⟩
    have h9 := MZ (s := s) (fl := st.now) (e := e) (by rw [f2.2.1]; decide) (f := s.size) (i := st.pos + 2) (l := []) f1
    have h8 := a4 (by have := f2.1; omega)
    have h7 : (kR s st.now e s.size [] (st.pos + 2)).2 = e := by omega
    refine ⟨_, a1, ?_, ?_, ?_, rfl, hn⟩
    · simp only [List.length_nil] at a2
      show _ + _ + 2 * st.pos ≤ 2 * ((kR s st.now e s.size [] (st.pos + 2)).2 + 2)
      omega
    · show st.pos < (kR s st.now e s.size [] (st.pos + 2)).2 + 2
      omega
    · show Bd s ((kR s st.now e s.size [] (st.pos + 2)).2 + 2)
      rw [h7] at a3 ⊢
      have b1 := (a3.asc (by have := f2.1; omega) (by rw [f2.2.1]; decide)).1
      exact (b1.asc f2.1 (by rw [f2.2.2]; decide)).1
  · cases h
    obtain ⟨a1, a2, a3, a4⟩ := DF (s := s) (fl := st.now) (e := s.size) (o := st.opn) (ns := st.names) (f := s.size) (i := st.pos + 2) (l := []) ho' (Nat.le_refl _) hb ⟨rfl, rfl⟩
    simp only [List.length_nil] at a2
    refine ⟨_, a1, ?_, ?_, a3, rfl, hn⟩
    · show _ + _ + 2 * st.pos ≤ 2 * (kR s st.now s.size s.size [] (st.pos + 2)).2
      omega
    · show st.pos < (kR s st.now s.size s.size [] (st.pos + 2)).2
      omega
theorem WU {g : List Rx} {st2 : PS} (h : fQ s st = .ok (g, st2)) (h92 : sb s st.pos = 92) (hb : Bd s st.pos) (hp : st.pos < s.size) (ho : st.opn ≤ 250) (hn : st.names.length ≤ 100) : uA s st st2 g := by
  have ho' : (st.opn : Int) ≤ 250 := by omega
  have b1 := (hb.asc hp (by rw [h92]; decide)).1
  unfold fQ at h
  split at h
  · cases h
  · rename_i hsz
    have b2 : sb s (st.pos + 1) < 128 → Bd s (st.pos + 2) := fun h9 => (b1.asc (by omega) h9).1
    split at h
    · cases h; exact rO ho hn (GH (by decide) ho') (by omega) (b2 (by omega))
    · split at h
      · cases h; exact rO ho hn (GH (by decide) ho') (by omega) (b2 (by omega))
      · split at h
        · cases h; exact rO ho hn (GH (by decide) ho') (by omega) (b2 (by omega))
        · split at h
          · cases h; exact rO ho hn (GH (by decide) ho') (by omega) (b2 (by omega))
          · split at h
            · exact quote_i h (b2 (by omega)) ho hn
            · split at h
              · rename_i S hS
                cases h; exact rO ho hn (sM (OB hS) ho') (by omega) (b2 (OA hS))
              · split at h
                · cases h
                · rename_i v j he
                  cases h
                  obtain ⟨e1, e2, e3⟩ := KT he hb h92
                  exact rO ho hn (KP (by omega) (by omega) ho') e2 e1
theorem plain_i {g : List Rx} {st2 : PS} (h : kC s st = .ok (g, st2)) (hb : Bd s st.pos) (hp : st.pos < s.size) (ho : st.opn ≤ 250) (hn : st.names.length ≤ 100) : uA s st st2 g := by
  have ho' : (st.opn : Int) ≤ 250 := by omega
  obtain ⟨n1, n2, n3, n4, n5⟩ := hb.next hp
  unfold kC at h
  cases h
  refine rO ho hn ?_ (by omega) n3
  split
  · split
    · exact sM (mI (by decide)) ho'
    · exact sM (mI (by decide)) ho'
  · split
    · split
      · exact GH (by decide) ho'
      · exact GH (by decide) ho'
    · split
      · split
        · exact GH (by decide) ho'
        · exact GH (by decide) ho'
      · exact KP n4 n5 ho'
theorem class_i {x : Rx} {j : Nat} (h : lH s st.now (st.pos + 1) = .ok (x, j)) (hb : Bd s (st.pos + 1)) (ho : st.opn ≤ 250) (hn : st.names.length ≤ 100) : uA s st (gX st j) [x] := by
  have ho' : (st.opn : Int) ≤ 250 := by omega
  have hcb := GL h hb
  refine rO ho hn ?_ (by omega) hcb.1
  cases hi : gE s (s.size + 1) true (fun _ => False) (if isB s (st.pos + 1) 94 then st.pos + 1 + 1 else st.pos + 1) with
  | error e => rw [xP hi] at h; cases h
  | ok q =>
    obtain ⟨C, j2⟩ := q
    rw [zK hi] at h
    cases h
    have hb2 : Bd s (if isB s (st.pos + 1) 94 then st.pos + 1 + 1 else st.pos + 1) := by
      split
      · rename_i h9; exact (hb.asc h9.1 (by rw [h9.2]; decide)).1
      · exact hb
    have hC := BJ hi hb2 (fun c hc => hc.elim)
    refine sM ?_ ho'
    split
    · exact DR _
    · split
      · exact HE hC
      · exact hC
theorem brk_i {g : List Rx} {st2 : PS} (h : qE s ex st = .ok (g, st2)) (h40 : isB s st.pos 40) (hb : Bd s st.pos) (ho : st.opn ≤ 250) (hn : st.names.length ≤ 100) (hex : st.opn < 250 → FU s ex (st.opn + 1)) : uA s st st2 g := by
  unfold qE at h
  simp only at h
  split at h
  · rename_i hs
    cases h
    obtain ⟨o1, o2, o3⟩ := DG hb h40 hs.1
    exact ⟨0, ⟨rfl, rfl⟩, by show 0 + 0 + 2 * st.pos ≤ 2 * (st.pos + _); omega, by show st.pos < st.pos + _; omega, o2, rfl, hn⟩
  · split at h
    · cases h
    · rename_i h250
      split at h
      · cases h
      · rename_i herr
        obtain ⟨o1, o2, o3⟩ := DG (fl := st.now) hb h40 (Classical.not_not.1 herr)
        split at h
        · cases h
        · rename_i hful
          split at h
          · cases h
          · rename_i x st3 hx
            split at h
            · rename_i hcl
              cases h
              have hlt : st.opn < 250 := by omega
              obtain ⟨q, q1, q2, q3, q4, q5, q6⟩ := hex hlt _ x st3 rfl o2 (by
                show (if (fI s st.pos st.now).capt = true then _ else _ : List ByteArray).length ≤ 100
                split
                · rename_i hc
                  have : st.names.length ≠ 100 := fun h9 => hful ⟨hc, .inl h9⟩
                  rw [List.length_append]; simp; omega
                · exact hn) hx
              have q2' : q + 2 * (st.pos + (fI s st.pos st.now).size) ≤ 2 * st3.pos + 1 := q2
              have q3' : st.pos + (fI s st.pos st.now).size ≤ st3.pos := q3
              have hb3 : Bd s (st3.pos + 1) := (q4.asc hcl.1 (by rw [hcl.2]; decide)).1
              by_cases hc : (fI s st.pos st.now).capt = true
              · simp only [if_pos hc] at q1 ⊢
                have hl : st.names.length ≠ 100 := fun h9 => hful ⟨hc, .inl h9⟩
                have hg : iZ ((st.names.length : Int) + 1) (fI s st.pos st.now).name st.names := ⟨rfl, by omega, KS, by
                  by_cases he : (fI s st.pos st.now).name = emp
                  · exact .inl he
                  · exact .inr (fun h9 => hful ⟨hc, .inr ⟨he, h9⟩⟩)⟩
                refine ⟨q + 1, Ps.one (TX (fun b c hb hc => q1 b c (by push_cast; omega) hc) (by omega) hg), ?_, ?_, hb3, ?_, q6⟩
                · show q + 1 + 1 + 2 * st.pos ≤ 2 * (st3.pos + 1); omega
                · show st.pos < st3.pos + 1; omega
                · show st3.opn - 1 = st.opn; omega
              · simp only [if_neg hc] at q1 ⊢
                refine ⟨q, Ps.one (pc_wrap (fun b c hb hc => q1 b c (by push_cast; omega) hc)), ?_, ?_, hb3, ?_, q6⟩
                · show q + 1 + 2 * st.pos ≤ 2 * (st3.pos + 1); omega
                · show st.pos < st3.pos + 1; omega
                · show st3.opn - 1 = st.opn; omega
            · cases h
theorem piece_i {g : List Rx} {st2 : PS} (h : eJ s ex st = .ok (g, st2)) (hb : Bd s st.pos) (hp : st.pos < s.size) (ho : st.opn ≤ 250) (hn : st.names.length ≤ 100) (hex : st.opn < 250 → FU s ex (st.opn + 1)) : uA s st st2 g := by
  unfold eJ at h
  split at h
  · rename_i hc; exact brk_i h ⟨hp, hc⟩ hb ho hn hex
  · split at h
    · rename_i hc
      split at h
      · cases h
      · rename_i x j hx
        cases h
        exact class_i hx ((hb.asc hp (by rw [hc]; decide)).1) ho hn
    · split at h
      · rename_i hc; exact WU h hc hb hp ho hn
      · exact plain_i h hb hp ho hn
end
structure AltI (s : ByteArray) (o : Nat) (ns0 : List ByteArray) (p0 : Nat) (l : List Rx) (st : PS) (q : Nat) : Prop where
  ps : Ps KR o l ns0 st.names q
  cnt : q + l.length + 2 * p0 ≤ 2 * st.pos
  ge : p0 ≤ st.pos
  bd : Bd s st.pos
  opn : st.opn = o
  nm : st.names.length ≤ 100
def LastI (o : Nat) (ns0 : List ByteArray) (l : List Rx) (st : PS) (q : Nat) : Prop := ∃ l0 y n1 qa qb, l = l0 ++ [y] ∧ Ps KR o l0 ns0 n1 qa ∧ Pc o n1 st.names qb y KA ∧ q = qa + qb
section
variable {s : ByteArray} {ex : PS → PX Rx} {o : Nat} {ns0 : List ByteArray} {p0 : Nat}
theorem PG (ho : o ≤ 250) (hex : o < 250 → FU s ex (o + 1)) : ∀ (f : Nat) (l : List Rx) (ah : Bool) (st st' : PS) (x : Rx) (q : Nat), AltI s o ns0 p0 l st q → (ah = true → LastI o ns0 l st q) → iK s ex f l ah st = .ok (x, st') →
    ∃ l' q', x = lC 4 l' ∧ AltI s o ns0 p0 l' st' q' ∧ st.pos ≤ st'.pos
  | 0, l, ah, st, st', x, q, h, hl, h1 => by rw [iK] at h1; cases h1; exact ⟨l, q, rfl, h, Nat.le_refl _⟩
  | f + 1, l, ah, st, st', x, q, h, hl, h1 => by
    rw [iK] at h1
    split at h1
    · cases h1; exact ⟨l, q, rfl, h, Nat.le_refl _⟩
    · rename_i hend
      have hp : st.pos < s.size := by omega
      generalize hr : mP (s.extract st.pos s.size) = rr at h1
      obtain ⟨lo, hi, nn⟩ := rr
      obtain ⟨r1, r2, r3, r4, r5⟩ := UG h.bd hp hr
      simp only at h1
      split at h1
      · split at h1
        · cases h1
        · rename_i g st2 hpc
          obtain ⟨qg, g1, g2, g3, g4, g5, g6⟩ := piece_i hpc h.bd hp (by rw [h.opn]; exact ho) h.nm (by rw [h.opn]; exact hex)
          rw [h.opn] at g1
          have hc := h.cnt
          have hge := h.ge
          have hN : AltI s o ns0 p0 (l ++ g) st2 (q + qg) := ⟨h.ps.app (g1.mono fun k _ => trivial), by rw [List.length_append]; omega, by omega, g4, by rw [g5, h.opn], g6⟩
          obtain ⟨l', q', e1, e2, e3⟩ := PG ho hex f _ _ _ _ _ _ hN (fun ha => by
            have hg : g ≠ [] := fun h9 => by rw [h9] at ha; exact absurd (of_decide_eq_true ha) (Nat.lt_irrefl 0)
            obtain ⟨g0, y, n1, qa, qb, b1, b2, b3, b4⟩ := g1.last hg
            exact ⟨l ++ g0, y, n1, q + qa, qb, by rw [b1, List.append_assoc], h.ps.app (b2.mono fun k _ => trivial), b3, by omega⟩) h1
          exact ⟨l', q', e1, e2, by omega⟩
      · rename_i hn
        obtain ⟨r6, r7⟩ := r5 hn
        split at h1
        · cases h1
        · rename_i hc
          have hah : ah = true := by cases ah with | true => rfl | false => exact (hc (.inl rfl)).elim
          obtain ⟨l0, y, n1, qa, qb, b1, b2, b3, b4⟩ := hl hah
          have hdl : l.dropLast = l0 := by rw [b1, List.dropLast_concat]
          have hgl : l.getLastD (rxK 1) = y := by rw [b1]; simp
          have hlen : l.length = l0.length + 1 := by rw [b1]; simp
          have hcnt := h.cnt
          have hge := h.ge
          have key : ∀ z, Ps KR o (l0 ++ [lS lo hi z y]) ns0 st.names (qa + (qb + 1)) := fun z => b2.app (Ps.one (pc_rep b3 (by omega) r1 (by omega) (by omega)))
          rw [hdl, hgl] at h1
          split at h1
          · rename_i hq
            have hbq := (r7.asc hq.1 (by rw [hq.2]; decide)).1
            obtain ⟨l', q', e1, e2, e3⟩ := PG ho hex f _ _ _ _ _ _ (⟨key _, by simp; omega, by show p0 ≤ st.pos + nn + 1; omega, hbq, h.opn, h.nm⟩ : AltI s o ns0 p0 _ { st with pos := st.pos + nn + 1 } _) (fun h9 => by cases h9) h1
            exact ⟨l', q', e1, e2, Nat.le_trans (by show st.pos ≤ st.pos + nn + 1; omega) e3⟩
          · obtain ⟨l', q', e1, e2, e3⟩ := PG ho hex f _ _ _ _ _ _ (⟨key _, by simp; omega, by show p0 ≤ st.pos + nn; omega, r7, h.opn, h.nm⟩ : AltI s o ns0 p0 _ { st with pos := st.pos + nn } _) (fun h9 => by cases h9) h1
            exact ⟨l', q', e1, e2, Nat.le_trans (by show st.pos ≤ st.pos + nn; omega) e3⟩
theorem XU (ho : o ≤ 250) (hex : o < 250 → FU s ex (o + 1)) {st st' : PS} {x : Rx} {f : Nat} (hb : Bd s st.pos) (hop : st.opn = o) (hn : st.names.length ≤ 100) (h : iK s ex f [] false st = .ok (x, st')) :
    ∃ q, Pc o st.names st'.names q x KE ∧ q + 2 * st.pos ≤ 2 * st'.pos + 1 ∧ st.pos ≤ st'.pos ∧ Bd s st'.pos ∧ st'.opn = o ∧ st'.names.length ≤ 100 := by
  obtain ⟨l, q, rfl, e2, e3⟩ := PG (ns0 := st.names) (p0 := st.pos) ho hex f [] false st st' x 0 ⟨⟨rfl, rfl⟩, by simp, Nat.le_refl _, hb, hop, hn⟩ (fun h => by cases h) h
  obtain ⟨q', r1, r2, r3, r4⟩ := row4 e2.ps (by omega)
  have hc := e2.cnt
  refine ⟨q', r1, ?_, e3, e2.bd, e2.opn, e2.nm⟩
  rcases Nat.lt_trichotomy l.length 1 with h9 | h9 | h9
  · have := r2 (by omega); omega
  · have := r3 h9; omega
  · omega
structure AltsI (s : ByteArray) (o : Nat) (ns0 : List ByteArray) (p0 : Nat) (l : List Rx) (st : PS) (q : Nat) : Prop where
  ps : Ps KE o l ns0 st.names q
  cnt : q + l.length + 2 * p0 ≤ 2 * st.pos + 2
  ge : p0 ≤ st.pos
  bd : Bd s st.pos
  opn : st.opn = o
  nm : st.names.length ≤ 100
  ne : 1 ≤ l.length
theorem XR (ho : o ≤ 250) (hex : o < 250 → FU s ex (o + 1)) : ∀ (f : Nat) (l : List Rx) (st st' : PS) (x : Rx) (q : Nat), AltsI s o ns0 p0 l st q → mU s ex f l st = .ok (x, st') → ∃ l' q', x = lC 5 l' ∧ AltsI s o ns0 p0 l' st' q'
  | 0, l, st, st', x, q, h, h1 => by rw [mU] at h1; cases h1; exact ⟨l, q, rfl, h⟩
  | f + 1, l, st, st', x, q, h, h1 => by
    rw [mU] at h1
    split at h1
    · rename_i hb
      split at h1
      · cases h1
      · rename_i y st2 hy
        obtain ⟨q2, r1, r2, r3, r4, r5, r6⟩ := XU ho hex (st := { st with pos := st.pos + 1 }) ((h.bd.asc hb.1 (by rw [hb.2]; decide)).1) h.opn h.nm hy
        have hc := h.cnt
        have hge := h.ge
        have r2' : q2 + 2 * (st.pos + 1) ≤ 2 * st2.pos + 1 := r2
        have r3' : st.pos + 1 ≤ st2.pos := r3
        exact XR ho hex f _ _ _ _ (q + q2) ⟨h.ps.app (Ps.one r1), by rw [List.length_append]; simp; omega, by omega, r4, r5, r6, by rw [List.length_append]; simp⟩ h1
    · cases h1; exact ⟨l, q, rfl, h⟩
theorem WN (ho : o ≤ 250) (hex : o < 250 → FU s ex (o + 1)) : FU s (mL s ex) o := by
  intro st x st' hop hb hn h
  unfold mL at h
  split at h
  · cases h
  · rename_i y st2 hy
    obtain ⟨q, r1, r2, r3, r4, r5, r6⟩ := XU ho hex hb hop hn hy
    obtain ⟨l, q', rfl, e⟩ := XR (ns0 := st.names) (p0 := st.pos) ho hex _ _ _ _ _ q ⟨Ps.one r1, by simp; omega, r3, r4, r5, r6, by simp⟩ h
    obtain ⟨q2, f1, f2, f3⟩ := row5 e.ps e.ne (by omega)
    have hc := e.cnt
    refine ⟨q2, f1, ?_, e.ge, e.bd, e.opn, e.nm⟩
    rcases Nat.lt_or_ge 1 l.length with h9 | h9
    · omega
    · have := f2 (by have := e.ne; omega); have := e.ne; omega
end
theorem WK (s : ByteArray) : ∀ n, n ≤ 250 → FU s (qD s n) (250 - n)
  | 0, _ => WN (ex := fun _ => .error 3) (o := 250) (Nat.le_refl _) (fun h => absurd h (Nat.lt_irrefl _))
  | n + 1, h => by
    have h1 := WK s n (by omega)
    have h2 : FU s (mL s (qD s n)) (250 - (n + 1)) := WN (by omega) (fun _ => by rw [show 250 - (n + 1) + 1 = 250 - n by omega]; exact h1)
    exact h2
theorem qA {s : ByteArray} {x : Rx} (h : eZ s = .ok x) : x.Ok ∧ ∃ st', qD s 250 st0 = .ok (x, st') ∧ s.size ≤ st'.pos ∧ Bd s st'.pos ∧ ∃ q, x.fine 0 (0, []) = some (q, st'.names) := by
  unfold eZ at h
  split at h
  · cases h
  · rename_i hz
    split at h
    · cases h
    · rename_i hU
      obtain ⟨N, hU⟩ := Classical.not_not.1 hU
      split at h
      · cases h
      · rename_i x0 st hx
        split at h
        · cases h
        · rename_i hend
          cases h
          obtain ⟨q, q1, q2, q3, q4, q5, q6⟩ := WK s 250 (Nat.le_refl _) st0 x st rfl (Bd.zero hU) (Nat.zero_le _) hx
          have hle := q4.le
          have hf := q1 0 0 (by simp) (by have : q + 2 * 0 ≤ 2 * st.pos + 1 := q2; omega)
          rw [Nat.zero_add] at hf
          exact ⟨⟨_, hf⟩, st, hx, by omega, q4, q, hf⟩
def NZ {α : Type} (r : Except Int α) : Prop := ∀ e, r = .error e → e ≠ 0
theorem kZ {α : Type} (a : α) : NZ (.ok a : Except Int α) := fun e h => by cases h
theorem fJ {α : Type} {e : Int} (h : e ≠ 0) : NZ (.error e : Except Int α) := fun e' h' => by cases h'; exact h
theorem NZ.ne {α : Type} {r : Except Int α} {e : Int} (h : NZ r) (k : r = .error e) : e ≠ 0 := h e k
theorem NJ (s : ByteArray) (i : Nat) : NZ (gG s i) := by
  unfold gG
  repeat' split
  all_goals first | exact kZ _ | exact fJ (by decide)
theorem NI (s : ByteArray) : ∀ f n i, NZ (mK s f n i)
  | 0, n, i => fJ (by decide)
  | f + 1, n, i => by
    unfold mK
    repeat' split
    all_goals first | exact kZ _ | exact NI s f _ _ | exact fJ (by decide) | exact fJ ((NJ _ _).ne (by assumption))
theorem nz_hex (s : ByteArray) (i : Nat) : NZ (qC s i) := by
  unfold qC
  repeat' split
  all_goals first | exact kZ _ | exact NI _ _ _ _ | exact fJ (by decide) | exact fJ ((NJ _ _).ne (by assumption))
theorem UX (s : ByteArray) (i : Nat) : NZ (mX s i) := by
  unfold mX
  repeat' split
  all_goals first | exact kZ _ | exact nz_hex _ _ | exact fJ (by decide)
theorem nz_one (s : ByteArray) (i : Nat) : NZ (lX s i) := by
  unfold lX
  repeat' split
  all_goals first | exact kZ _ | exact fJ (by decide) | exact fJ ((UX _ _).ne (by assumption))
theorem UR (s : ByteArray) (i : Nat) : NZ (iL s i) := by
  unfold iL
  repeat' split
  all_goals first | exact kZ _ | exact fJ (by decide) | exact fJ ((nz_one _ _).ne (by assumption))
theorem UV (s : ByteArray) (i : Nat) : NZ (kS s i) := by
  unfold kS
  repeat' split
  all_goals first | exact kZ _ | exact UR _ _
theorem nz_item (s : ByteArray) (i : Nat) : NZ (jM s i) := by
  unfold jM
  repeat' split
  all_goals first | exact kZ _ | exact UV _ _ | exact fJ (by decide)
theorem GT (s : ByteArray) : ∀ f b S i, NZ (gE s f b S i)
  | 0, b, S, i => fJ (by decide)
  | f + 1, b, S, i => by
    unfold gE
    repeat' split
    all_goals first | exact kZ _ | exact GT s f _ _ _ | exact fJ (by decide) | exact fJ ((nz_item _ _).ne (by assumption))
theorem UY (s : ByteArray) (fl : Fl) (i : Nat) : NZ (lH s fl i) := by
  unfold lH
  split
  · exact fJ ((GT _ _ _ _ _).ne (by assumption))
  · exact kZ _
theorem nz_brk {s : ByteArray} {ex : PS → PX Rx} (h : ∀ st, NZ (ex st)) (st : PS) : NZ (qE s ex st) := by
  unfold qE
  dsimp only
  repeat' split
  all_goals first | exact kZ _ | exact fJ (by decide) | exact fJ (by assumption) | exact fJ ((h _).ne (by assumption))
theorem US (s : ByteArray) (st : PS) : NZ (nQ s st) := by
  unfold nQ
  split <;> exact kZ _
theorem QK (s : ByteArray) (st : PS) : NZ (fQ s st) := by
  unfold fQ
  repeat' split
  all_goals first | exact kZ _ | exact US _ _ | exact fJ (by decide) | exact fJ ((UX _ _).ne (by assumption))
theorem UT {s : ByteArray} {ex : PS → PX Rx} (h : ∀ st, NZ (ex st)) (st : PS) : NZ (eJ s ex st) := by
  unfold eJ
  repeat' split
  all_goals first | exact kZ _ | exact nz_brk h _ | exact QK _ _ | exact fJ ((UY _ _ _).ne (by assumption)) | (unfold kC; exact kZ _)
theorem KW {s : ByteArray} {ex : PS → PX Rx} (h : ∀ st, NZ (ex st)) : ∀ f l ah st, NZ (iK s ex f l ah st)
  | 0, l, ah, st => kZ _
  | f + 1, l, ah, st => by
    unfold iK
    dsimp only
    repeat' split
    all_goals first | exact kZ _ | exact KW h f _ _ _ | exact fJ (by decide) | exact fJ ((UT h _).ne (by assumption))
theorem NL {s : ByteArray} {ex : PS → PX Rx} (h : ∀ st, NZ (ex st)) : ∀ f l st, NZ (mU s ex f l st)
  | 0, l, st => kZ _
  | f + 1, l, st => by
    unfold mU
    repeat' split
    all_goals first | exact kZ _ | exact NL h f _ _ | exact fJ ((KW h _ _ _ _).ne (by assumption))
theorem NK {s : ByteArray} {ex : PS → PX Rx} (h : ∀ st, NZ (ex st)) (st : PS) : NZ (mL s ex st) := by
  unfold mL
  split
  · exact fJ ((KW h _ _ _ _).ne (by assumption))
  · exact NL h _ _ _
theorem UW (s : ByteArray) : ∀ n st, NZ (qD s n st)
  | 0, st => NK (fun _ => fJ (by decide)) st
  | n + 1, st => NK (UW s n) st
theorem UU (s : ByteArray) : NZ (eZ s) := by
  unfold eZ
  repeat' split
  all_goals first | exact kZ _ | exact fJ (by decide) | exact fJ ((UW _ _ _).ne (by assumption))
end Go.Proofs.YtidpigbinpaaeaaGreat
namespace Go.Proofs.YtidpigbinpaaeaaGreat
open Go.RowKit Go.W
attribute [local irreducible] Decidable.decide
theorem FT : Build Tryz.prog 80 #[(0, 1), (1, 4)] #[.string ByteArray.empty, .slice none 0 0, .int .i64 0, .int .i64 0, .slice none 0 0] := ⟨_, .agg #[.string ByteArray.empty, .slice none 0 0, .int .i64 0, .int .i64 0, .slice none 0 0], Tryz.underlying80, by kernel_rfl, rfl, fun w => by kernel_rfl⟩
theorem vE : cZ Tryz.prog 76 2 = some 2 := by kernel_rfl
theorem qW : cZ Tryz.prog 80 1 = some 1 := by kernel_rfl
theorem JH : dU Tryz.prog 30 := ⟨_, Tryz.func30, by kernel_rfl, by kernel_rfl⟩
theorem wX : dU Tryz.prog 32 := ⟨_, Tryz.func32, by kernel_rfl, by kernel_rfl⟩
structure RgAt (w : World) (b : Nat) (s : ByteArray) (x : Rx) (l : List In) (n : Nat) : Prop where
  ex : ∃ a c na nc, w.heap[b]? = some (.cells #[.string s, .slice a l.length c, iv 0, iv (fY x).length, .slice na (fY x).length nc] 80 (0, 0)) ∧ RSl 5 RIn [] w (.slice a l.length c) l ∧ RSl 1 RStr [] w (.slice na (fY x).length nc) (fY x)
  len : l.length ≤ 10000
  prog : ProgOk x l n
  ok : x.Ok
  grp : (fY x).length ≤ 100
theorem RgAt.evo0 {w w' : World} {b : Nat} {s : ByteArray} {x : Rx} {l : List In} {n : Nat} (h : RgAt w b s x l n) (he : Evo [] w w') : RgAt w' b s x l n := by
  obtain ⟨a, c, na, nc, h1, h2, h3⟩ := h.ex
  exact ⟨⟨a, c, na, nc, he.blk0 h1, RSl.evo RIn.pers he h2, RSl.evo RStr.pers he h3⟩, h.len, h.prog, h.ok, h.grp⟩
theorem MQ {w : World} {b : Nat} {v0 v1 v2 v3 v4 : Value} {T : TypeId} {z : Nat × Nat} (h : w.heap[b]? = some (.cells #[v0, v1, v2, v3, v4] T z)) : ∀ j v, ([v1, v2, v3, v4] : List Value)[j]? = some v → w.cell? ⟨b, 1 + j, none⟩ = some v
  | 0, v, e => by cases e; exact fC h rfl
  | 1, v, e => by cases e; exact fC h rfl
  | 2, v, e => by cases e; exact fC h rfl
  | 3, v, e => by cases e; exact fC h rfl
  | j + 4, v, e => by cases e
theorem KQ {w : World} {s : ByteArray} (hG : Glb w) : Calls Tryz.prog 29 #[.string s] w (Ret fun v w' => ∃ vs n x e, v = .tuple #[.agg vs.toArray, iv e] ∧ RRx n [] w' vs x ∧ ((eZ s = .ok x ∧ e = 0) ∨ (eZ s = .error e ∧ e ≠ 0)) ∧ Evo [] w w') := by
  refine (UC s hG).mono ?_
  rintro e w' ⟨v, rfl, hv, h1 | ⟨x2, vs, bs, h2, rfl, h4, h5⟩⟩
  · obtain ⟨e, h1, rfl⟩ := h1
    exact ⟨_, rfl, _, 1, zX, e, rfl, zX_rx [] w', .inr ⟨h1, (UU s).ne h1⟩, hv⟩
  · obtain ⟨n, hn⟩ := h4.rrx (X := []) (fun b _ h => by cases h)
    exact ⟨_, rfl, vs, n, x2, 0, rfl, hn, .inl ⟨h2, rfl⟩, hv⟩
theorem Comp2.four {X : List Nat} {t : Rx} {w : World} {ps : List Value} {e : Int} (h : Comp2 X t w ps e) : ∃ p q r u, ps = [p, q, r, u] ∧ p.oneCell' = true ∧ q.oneCell' = true ∧ r.oneCell' = true ∧ u.oneCell' = true := by
  rcases h with ⟨-, -, a, n, c, g, nm, rfl, h1, h2⟩ | ⟨-, -, -, l, n, a, c, na, nc, rfl, -⟩
  · exact ⟨_, _, _, _, rfl, rfl, rfl, h1, h2⟩
  · exact ⟨_, _, _, _, rfl, rfl, rfl, rfl, rfl⟩
theorem QF {s : ByteArray} {x : Rx} (h : eZ s = .ok x) : (fY x).length ≤ 100 := by
  obtain ⟨-, st, h1, h2, h3, q, h4⟩ := qA h
  obtain ⟨N, k, hU, -⟩ := h3
  obtain ⟨-, -, -, -, -, -, h6⟩ := WK s 250 (Nat.le_refl _) st0 x st rfl (Bd.zero hU) (Nat.zero_le _) h1
  have e : fY x = st.names := by unfold fY; rw [h4]
  rw [e]; exact h6
theorem RgAt.sound {w : World} {b : Nat} {s : ByteArray} {x : Rx} {l : List In} {n : Nat} (h : RgAt w b s x l n) : kW ⟨l, 0, (fY x).length, fY x⟩ := KL h.prog (ok_caps h.ok) h.len h.grp
theorem TR {w : World} {x : Rx} {l : List In} {n : Nat} {a na : Option Addr} {c nc : Nat} (hp : ProgOk x l n) (hs : kW ⟨l, 0, (fY x).length, fY x⟩) (hl : l.length ≤ 10000) (hg : (fY x).length ≤ 100) (h1 : RSl 5 RIn [] w (.slice a l.length c) l) (h2 : RSl 1 RStr [] w (.slice na (fY x).length nc) (fY x)) :
    RPrg [] w [.slice a l.length c, iv 0, iv (fY x).length, .slice na (fY x).length nc] ⟨l, 0, (fY x).length, fY x⟩ := by
  refine ⟨⟨by simp, by show -9223372036854775808 ≤ ((fY x).length : Int) ∧ ((fY x).length : Int) ≤ 9223372036854775807; omega, by show l.length * 56 ≤ _; omega, by show (fY x).length * 16 ≤ _; omega⟩, _, _, rfl, ?_, h2⟩
  obtain ⟨a', c', he, hc, ek⟩ := h1
  refine ⟨a', c', he, hc, fun k hk => ?_⟩
  obtain ⟨b, o, vs, q1, q2, q3, q4, q5⟩ := ek k hk
  exact ⟨b, o, vs, q1, q2, q3, q4, TJ q5 (hs.2 k hk hk) (by show (l.length : Int) ≤ 10000; omega) (by show 0 ≤ ((fY x).length : Int) ∧ ((fY x).length : Int) ≤ 100; omega)⟩
theorem TA {w : World} (s : ByteArray) (hG : Glb w) :
    Calls Tryz.prog 9 #[.string s] w (Ret fun v w' => Evo [] w w' ∧ ∃ p e, v = .tuple #[.pointer p, iv e] ∧ ((e ≠ 0 ∧ p = none ∧ ((∃ e', eZ s = .error e') ∨ ∃ x, eZ s = .ok x ∧ 10000 < x.esz + 1)) ∨ (e = 0 ∧ ∃ b x l n, p = some ⟨b, 0, none⟩ ∧ w.heap.size ≤ b ∧ eZ s = .ok x ∧ RgAt w' b s x l n))) := by
  refine bD (N := 27) Tryz.func9 rfl rfl rfl ?_; refine csr (bX (wan (csr (aD ?_)))); refine aK (vs := [_]) JI rfl (KQ (s := s) (hG.evo (Evo.refl [] w) (by simp))) rfl ?_; rintro _ w1 ⟨vs, n1, x, e1, rfl, hx1, hxp, b5⟩; have a3 := (Evo.refl [] w).then b5; have hx1' := hx1; obtain ⟨m1, ra1, rc1, ka1, kc1, hm1, rfl, -⟩ := hx1.get; refine aD (aC (cD rfl rfl) ?_); refine aC (cD rfl rfl) ?_; refine cK rfl eG fun b4 w4 b7 I a4 => ?_; have b8 := I; refine aW rfl rfl aS b7 rfl rfl ⟨by first | rfl | assumption, by first | rfl | assumption, by first | rfl | assumption, by first | rfl | assumption, by first | rfl | assumption, by first | rfl | assumption, by first | rfl | assumption, by first | rfl | assumption, by first | rfl | assumption, trivial⟩ fun c1 J L => ?_; have A := (a3.then a4).step L (Ge.new a3 I).mem1; have a7 := ((Evo.refl [] w1).then a4).step L (Ge.new (Evo.refl [] w1) I).mem1
  try simp only [cG, Nat.reduceAdd] at J
  refine wan (aI (csr (aD (aC (gU rfl rfl) ?_)))); refine wnn (aX rfl (fun B => ?_) (fun B => ?_))
  ·refine csr (aD (bX (wan (aH (aE (cJ rfl rfl rfl ?_)))))); exact ⟨A, none, e1, rfl, .inl ⟨B, rfl, .inl ⟨e1, (hxp.resolve_left (fun h9 => B h9.2)).1⟩⟩⟩
  have hpx : eZ s = .ok x := (hxp.resolve_right (fun h9 => h9.2 (by omega))).1; refine aL (aB (csr (aC (bV rfl bQ aS J rfl) ?_))); refine aK (vs := [_]) JH rfl (IC (X := []) (fun b h => by cases h) (RRx.pers _ _ _ _ _ _ a7 hx1')) rfl ?_; rintro _ a5 ⟨M, ps, e2, rfl, a6⟩; have hc2' := a6; obtain ⟨q1, q2, q3, q4, rfl, o1, o2, o3, o4⟩ := a6.four; refine aD (aC (cD rfl rfl) ?_); refine aC (cD rfl rfl) ?_; refine cK rfl wP fun b6 c2 a8 D O => ?_; have b9 := D; refine aW rfl rfl fO a8 rfl rfl ⟨by first | rfl | assumption, by first | rfl | assumption, by first | rfl | assumption, by first | rfl | assumption, trivial⟩ fun c3 U V => ?_; have F := ((A.then M).then O).step V (Ge.new (A.then M) D).mem1
  try simp only [cG, Nat.reduceAdd] at U
  refine wan (aI (csr (aD (aC (gU rfl rfl) ?_)))); refine wnn (aX rfl (fun H => ?_) (fun H => ?_))
  ·refine csr (aD (bX (wan (aH (aE (cJ rfl rfl rfl ?_)))))); obtain ⟨-, h9, -⟩ := hc2'.resolve_right (fun h9 => H h9.2.2.1); exact ⟨F, none, e2, rfl, .inl ⟨H, rfl, .inr ⟨x, hpx, h9.resolve_left (fun h8 => h8 (qA hpx).1)⟩⟩⟩
  refine aL (aB (csr (aD (aC (bV rfl jS fO U rfl) (aC (cC (vs := [(0, _), (1, _)]) FT rfl (cells := [_, _, _, _, _]) rfl) ?_))))); refine gK rfl rfl fun br c4 a9 a0 a1 => ?_; have c0 := a0; have a2 := (((Evo.refl [] a5).then O).step V (Ge.new (Evo.refl [] a5) D).mem1).then a1; refine bX (wan (aH (cJ rfl rfl rfl ?_))); obtain ⟨hok, -, he2, l, n, a, c, na, nc, hps, hi, hn, hl, hP⟩ := hc2'.resolve_left (fun h9 => h9.1 (by omega))
  injection hps with e1' hps
  injection hps with e2' hps
  injection hps with e3' hps
  injection hps with e4' _
  subst e1' e2' e3' e4'; exact ⟨(F.then a1), _, 0, rfl, .inr ⟨rfl, br, x, l, n, rfl, (Ge.new F a0) _ rfl, hpx, ⟨⟨a, c, na, nc, a9, RSl.evo RIn.pers a2 hi, RSl.evo RStr.pers a2 hn⟩, hl, hP, hok, QF hpx⟩⟩⟩
theorem nV {w : World} {b : Nat} {s : ByteArray} {x : Rx} {l : List In} {n : Nat} (h : RgAt w b s x l n) (t : ByteArray) (ht : t.size ≤ 2097152) :
    Calls Tryz.prog 11 #[.pointer (some ⟨b, 0, none⟩), .string t] w (Ret fun v w' => ∃ m, v = .bool m ∧ (m = true ↔ ∃ M, Utf t M ∧ Mt (cW t M) x 0 M) ∧ Evo [] w w') := by
  have hsnd := h.sound; obtain ⟨a, c, na, nc, hb, hi, hn⟩ := h.ex; refine bD (N := 19) Tryz.func11 rfl rfl rfl ?_; refine csr (wan (aI (csr (aD ?_)))); refine aC (uM (r := .bool false) rfl rfl (fun w => by kernel_rfl)) ?_; refine wnn (cS rfl ?_); refine aL (aB (csr (aD (aC (aF rfl) (aC (aA rfl qW) (aC (dF (o := 1) rfl jS fO (vs := [.slice a l.length c, iv 0, iv (fY x).length, .slice na (fY x).length nc]) rfl (MQ hb)) ?_)))))); refine aD (aK (vs := [_, _]) wX rfl (AZ (TR h.prog hsnd h.len h.grp (RSl.evo RIn.pers (Evo.refl [] w) hi) (RSl.evo RStr.pers (Evo.refl [] w) hn)) hsnd t ht) rfl ?_); rintro _ w1 ⟨nv, m, r, W', rfl, hpk, hres, A⟩; refine aD (aC (cD rfl rfl) ?_); refine aC (cD rfl rfl) ?_; refine bX (wan (csr (aD (wan (aH (br1 ?_)))))); refine ⟨m, rfl, ?_, ((Evo.refl [] w).then A)⟩; rw [← JY hsnd rfl h.prog hpk]
  rcases hres with ⟨h1, h2⟩ | ⟨t9, h1, h2, -⟩
  · rw [h1, h2]; simp
  · rw [h1, h2]; simp
theorem IB {w : World} {b : Nat} {s : ByteArray} {x : Rx} {l : List In} {n : Nat} (h : RgAt w b s x l n) :
    Calls Tryz.prog 12 #[.pointer (some ⟨b, 0, none⟩)] w (Ret fun v w' => v = iv (fY x).length ∧ Evo [] w w') := by
  obtain ⟨a, c, na, nc, hb, hi, hn⟩ := h.ex; refine bD (N := 10) Tryz.func12 rfl rfl rfl ?_; refine csr (wan (aI (csr (aD ?_)))); refine aC (uM (r := .bool false) rfl rfl (fun w => by kernel_rfl)) ?_; refine wnn (cS rfl ?_); refine aL (aB (csr (aD (aC (aF rfl) (aC (aA rfl qW) (wfl rfl vE rfl aQ hb rfl (wan (aH (br1 ?_))))))))); exact ⟨rfl, (Evo.refl [] w)⟩
theorem tJ : cZ Tryz.prog 148 0 = some 0 := by kernel_rfl
theorem AH : cZ Tryz.prog 148 1 = some 1 := by kernel_rfl
theorem tI : cZ Tryz.prog 148 2 = some 2 := by kernel_rfl
theorem WP {P : Program} {σ : Env} {w : World} {dst : Option Nat} {T : TypeId} {pos : String} {after : Array Edge} {g : Option (Nat × Bool)} {x y : Operand} {t t' : TypeId} {q : Option Addr} (hx : σ.ev x = some (.pointer q)) (hy : σ.ev y = some (.pointer none)) (ht : P.underlying t = some (.pointer (P.pointee t))) :
    Ex P σ ⟨dst, .binOp .neq t x y t', T, pos, after, g⟩ w (.bool (!q.isNone)) w := fun ρ h => by
  simp [execOp, h x _ hx, h y _ hy, eqGuard, run_neq_pointer_nil (P := P) w t q ht]
theorem RNote.open {X : List Nat} {w : World} {q : Option Addr} {t : eN} (h : RNote X w (.pointer q) t) (hq : (!q.isNone) = true) : ∃ b k a q' t', q = some ⟨b, 0, none⟩ ∧ t = (k, a) :: t' ∧ b ∉ X ∧ w.heap[b]? = some (.cells #[iv (k : Nat), iv (a : Nat), .pointer q'] 148 (0, 0)) ∧ RNote X w (.pointer q') t' := by
  cases h with
  | nil => simp at hq
  | cons hx hb h => obtain ⟨q', rfl⟩ := h.ptr; exact ⟨_, _, _, q', _, rfl, rfl, hx, hb, h⟩
theorem RNote.shut {X : List Nat} {w : World} {q : Option Addr} {t : eN} (h : RNote X w (.pointer q) t) (hq : (!q.isNone) = false) : t = [] := by
  cases h with
  | nil => rfl
  | cons hx hb h => simp at hq
def NOk (n : Nat) (t : eN) : Prop := ∀ q, q ∈ t → 2 ≤ q.1 ∧ q.1 < n
theorem save_ok {p : Prg} {s : ByteArray} {a i k o : Nat} (hsp : kW p) (h : dV p s a i = .save k o) : 2 ≤ k ∧ k < rR p := by
  unfold dV at h
  cases hi : p.insts[i]? with
  | none => rw [hi] at h; cases h
  | some c =>
    rw [hi] at h
    obtain ⟨hlt, hc⟩ := List.getElem?_eq_some_iff.1 hi
    have hs := hsp.2 i hlt hlt
    rw [hc] at hs
    obtain ⟨n1, n2, n3, n4, n5, n6, n7, n8, n9, n10⟩ := hs.1
    simp only [mvI] at h
    by_cases h1 : c.op = 1
    · rw [if_pos h1] at h; cases h
    · rw [if_neg h1] at h
      by_cases h2 : c.op = 2
      · rw [if_pos h2] at h; cases h
      · rw [if_neg h2] at h
        by_cases h3 : c.op = 3
        · rw [if_pos h3] at h; cases h
        · rw [if_neg h3] at h
          by_cases h4 : c.op = 4
          · rw [if_pos h4] at h
            have hk := n7 h4
            cases h
            unfold rR
            omega
          · rw [if_neg h4] at h
            split at h <;> cases h
theorem dr_ok {p : Prg} {s : ByteArray} (hsp : kW p) {g : List (Nat × Nat × eN)} {W W' : Wt} {r : Option eN} (h : Dr (dV p s) (gY s) s.size g W r W') (hg : ∀ x, x ∈ g → NOk (rR p) x.2.2) : ∀ t, r = some t → NOk (rR p) t := by
  induction h with
  | nil => intro t ht; cases ht
  | seen _ _ ih => exact ih (fun x hx => hg x (List.mem_cons_of_mem _ hx))
  | found _ _ _ => intro t ht; cases ht; exact hg _ (List.mem_cons_self ..)
  | mat _ _ _ _ ih => exact ih (fun x hx => hg x (List.mem_cons_of_mem _ hx))
  | rune _ _ _ _ _ ih => exact ih (fun x hx => by rcases List.mem_cons.1 hx with rfl | hx; { have h9 := hg _ (List.mem_cons_self ..); exact h9 }; { exact hg x (List.mem_cons_of_mem _ hx) })
  | miss _ _ _ ih => exact ih (fun x hx => hg x (List.mem_cons_of_mem _ hx))
  | go _ _ _ ih => exact ih (fun x hx => by rcases List.mem_cons.1 hx with rfl | hx; { have h9 := hg _ (List.mem_cons_self ..); exact h9 }; { exact hg x (List.mem_cons_of_mem _ hx) })
  | split _ _ _ ih => exact ih (fun x hx => by rcases List.mem_cons.1 hx with rfl | hx; { have h9 := hg _ (List.mem_cons_self ..); exact h9 }; { rcases List.mem_cons.1 hx with rfl | hx; { have h9 := hg _ (List.mem_cons_self ..); exact h9 }; { exact hg x (List.mem_cons_of_mem _ hx) } })
  | save _ hm _ ih => exact ih (fun x hx => by rcases List.mem_cons.1 hx with rfl | hx; { intro q hq; rcases List.mem_cons.1 hq with rfl | hq; { exact save_ok hsp hm }; { have h9 := hg _ (List.mem_cons_self ..); exact h9 q hq } }; { exact hg x (List.mem_cons_of_mem _ hx) })
  | dead _ _ _ ih => exact ih (fun x hx => hg x (List.mem_cons_of_mem _ hx))
def tF : List Int → eN → List Int
  | sl, [] => sl
  | sl, (k, a) :: t => tF (if sl.getD k 0 < 0 then sl.set k a else sl) t
theorem HO : ∀ (t : eN) (sl : List Int), NOk sl.length t → (tF sl t).length = sl.length ∧ ∀ k, k < sl.length → (tF sl t)[k]? = some (if sl.getD k 0 < 0 then (match t.find? (fun q => q.1 == k) with | some q => (q.2 : Int) | none => sl.getD k 0) else sl.getD k 0)
  | [], sl, _ => ⟨rfl, fun k hk => by simp [tF, hk]⟩
  | (j, a) :: t, sl, h => by
    have hj := h (j, a) (List.mem_cons_self ..)
    have hl : (if sl.getD j 0 < 0 then sl.set j a else sl).length = sl.length := by split <;> simp
    obtain ⟨h1, h2⟩ := HO t (if sl.getD j 0 < 0 then sl.set j a else sl) (by rw [hl]; exact fun q hq => h q (List.mem_cons_of_mem _ hq))
    refine ⟨by rw [tF, h1, hl], fun k hk => ?_⟩
    rw [tF, h2 k (by rw [hl]; exact hk)]
    congr 1
    have hg : ∀ (l : List Int) (hl2 : k < l.length), l.getD k 0 = l[k] := fun l hl2 => by simp [hl2]
    by_cases hjk : j = k
    · subst hjk
      by_cases h0 : sl.getD j 0 < 0
      · simp only [if_pos h0]
        have e : (sl.set j (a : Int)).getD j 0 = a := by simp [hk]
        rw [e, if_neg (by omega)]
        simp
      · simp only [if_neg h0]
    · have hb : (((j, a) : Nat × Nat).1 == k) = false := by simpa using hjk
      have e : (if sl.getD j 0 < 0 then sl.set j (a : Int) else sl).getD k 0 = sl.getD k 0 := by
        split
        · simp [List.getElem?_set, hjk]
        · rfl
      rw [e]
      simp only [List.find?_cons, hb]
theorem RB {n len : Nat} {t : eN} (hn : 2 ≤ n) (h : NOk n t) : tF (((List.replicate n (-1 : Int)).set 0 0).set 1 len) t = zE n len (some t) := by
  have hl : (((List.replicate n (-1 : Int)).set 0 0).set 1 (len : Int)).length = n := by simp
  obtain ⟨h1, h2⟩ := HO t (((List.replicate n (-1 : Int)).set 0 0).set 1 len) (by rw [hl]; exact h)
  apply List.ext_getElem?
  intro k
  by_cases hk : k < n
  · rw [h2 k (by rw [hl]; exact hk)]
    have hnone : ∀ j, j < 2 → t.find? (fun q => q.1 == j) = none := fun j hj => by
      rw [List.find?_eq_none]
      intro q hq
      have := h q hq
      simp; omega
    simp only [zE, CV]
    by_cases k1 : k = 1
    · subst k1
      simp only [List.getD_eq_getElem?_getD]
      simp [hk]
      intro h; omega
    · by_cases k0 : k = 0
      · subst k0; simp [hk]
      · have e : (((List.replicate n (-1 : Int)).set 0 0).set 1 (len : Int)).getD k 0 = -1 := by simp [List.getElem?_set, Ne.symm k1, Ne.symm k0, hk]
        rw [e]
        simp [List.getElem?_set, Ne.symm k1, Ne.symm k0, hk, SX]
        cases List.find? (fun q => q.1 == k) t <;> rfl
  · rw [List.getElem?_eq_none (by rw [h1, hl]; omega), List.getElem?_eq_none (by simp [zE, CV]; omega)]
theorem TL {n k : Nat} (hk : k < n) : (List.replicate k (iv (-1)) ++ List.replicate (n - k) (iv 0)).set k (iv (-1)) = List.replicate (k + 1) (iv (-1)) ++ List.replicate (n - (k + 1)) (iv 0) := by
  rw [List.set_append_right _ _ (by simp)]
  simp only [List.length_replicate, Nat.sub_self]
  rw [show n - k = (n - (k + 1)) + 1 by omega, List.replicate_succ, List.set_cons_zero, List.replicate_succ' (n := k), List.append_assoc]
  rfl
theorem ME : Tryz.prog.underlying 82 = some (.pointer (Tryz.prog.pointee 82)) := by kernel_rfl
theorem PI (n : Nat) : rC #[.int .i64 0] n = List.replicate 0 (iv (-1)) ++ List.replicate (n - 0) (iv 0) := by
  simp only [rC, List.replicate_zero, List.nil_append, Nat.sub_zero]
  induction n with
  | zero => rfl
  | succ n ih => rw [List.replicate_succ, List.flatten_cons, ih, List.replicate_succ]; rfl
theorem LM {X : List Nat} {w : World} {vs : List Value} {p : Prg} (hp : RPrg X w vs p) (hsp : kW p) (s : ByteArray) (hs : s.size ≤ 2097152) :
    Calls Tryz.prog 48 #[.agg vs.toArray, .string s] w (Ret fun v w' => ∃ a n c l ob, v = .slice a n c ∧ OwnS w' 3 1 a n c (List.map iv l) ob ∧ Ge w ob ∧ XX p s l ∧ Evo [] w w') := by
  have hp0 := hp; obtain ⟨hok, pi0, pn0, rfl, hiv, hnv⟩ := hp; have hst0 := hok.start; have hgr := hok.groups; have hil := hok.ilen; have hnl := hok.nlen; obtain ⟨a3, c3, rfl, hl3, e3⟩ := hiv; obtain ⟨a4, c4, rfl, hl4, e4⟩ := hnv; obtain ⟨hh1, hh2, hh3, hh4, hh5, hh6, hh7⟩ := hsp.1; refine bD (N := 64) Tryz.func48 rfl rfl rfl ?_; refine csr (gK rfl rfl fun b1 w2 b5 d9 d3 => ?_); have b6 := (Evo.refl [] w).then d3; refine wan (csr (aC (bV rfl jS fO b5 rfl) (aD (aK (vs := [_, _]) wX rfl (AZ (RPrg.pers _ _ _ _ _ ((b6).any X) hp0) hsp s hs) rfl ?_)))); rintro _ w8 ⟨nv, b, r, W', rfl, hpk, hres, b7⟩; have L := b6.then b7; obtain ⟨W2, hdr, -⟩ := pk_dr (KX s) (VA s) _ 0 rfl hpk; refine aD (aC (cD rfl rfl) ?_); refine aC (cD rfl rfl) ?_; refine bX (wan (aI (csr (aD (aC (fK rfl) ?_))))); refine wnn (fN rfl (fun B => ?_) (fun B => ?_))
  ·have hr : r = none := by rcases hres with h | ⟨t, _, h, _⟩; { exact h.1 }; { rw [h] at B; cases B }
   refine csr (wan (aH (aE (br1 ?_))))
   exact ⟨none, 0, 0, [], none, rfl, OwnS.nil _ _ _, Ge.nil _, .inr ⟨hsp, none, W2, by rw [← hr]; exact hdr, rfl⟩, L⟩
  obtain ⟨t0, hrt, hb, hNt⟩ : ∃ t, r = some t ∧ b = true ∧ RNote [] _ nv t := by rcases hres with h | h; { rw [h.2] at B; cases B }; { exact h }
  obtain ⟨q0, rfl⟩ := hNt.ptr
  have hN : ((rR p : Nat) : Int) = 2 * (p.groups + 1) := by unfold rR; omega
  have hnok0 := dr_ok hsp hdr (by intro x hx; simp [LH] at hx; subst hx; intro q hq; cases hq) t0 hrt
  obtain ⟨N, hNN⟩ : ∃ N, rR p = N := ⟨_, rfl⟩; rw [hNN] at hN
  have hnok : NOk N t0 := by rw [← hNN]; exact hnok0
  refine aL (aB (csr (wfl rfl vE rfl aQ (b7.blk0 b5) rfl ?_))); refine aC (aJ rfl rfl (by omega) (by omega)) ?_; refine aC (fL rfl rfl (by omega) (by omega)) ?_; refine MK (len := N) (c := N) rfl rfl rfl wR (by omega) (by omega) (by omega) (by decide) (by omega) (by omega) fun gS d4 b8 a7 a8 => ?_; have M := Ge.new L a7; have O := Ge.new (Evo.refl [] w8) a7; have hgS : Ge w (some gS) := M; have hgS1 := O; refine wan (aI (csr (aD (aC (bH rfl Tryz.underlying37 rfl) ?_)))); refine aD (wnn (bG ?_))
  refine dC (α := Nat) (0) (fun k => [(25, .int .i64 (k : Nat))]) [(1, _), (4, _), (5, _), (7, _), (24, _)] (fun k wr => Evo [gS] d4 wr ∧ (k ≤ N ∧ OwnS wr 3 1 (some ⟨gS, 0, none⟩) N N (List.replicate k (iv (-1)) ++ List.replicate (N - k) (iv 0)) (some gS))) (fun k => N - k) ⟨rfl, trivial⟩ ⟨rfl, rfl, rfl, rfl, rfl, trivial⟩ ⟨Evo.refl _ _, ⟨Nat.zero_le _, by rw [PI] at b8; exact b8⟩⟩ ?_
  rintro k wr23 ⟨I, ⟨hk, hSk⟩⟩; show CW _ _ _ _ [(25, _), (1, _), (4, _), (5, _), (7, _), (24, _)] _; refine csr (aC (cX rfl rfl) ?_); refine wnn (aI (aX rfl (fun c5 => ?_) (fun c5 => ?_)))
  ·refine aL (aB (aI (bG (csr (aD (wan (aG (aD (aD ?_))))))))); refine aC (cF (n := k) rfl rfl gA (by omega)) ?_
   obtain ⟨g36, cur27, hg28, hx29, hcu30, hcs31, -⟩ := hSk.at (by omega)
   cases hx29; refine gD rfl rfl (rfl) bO hcu30 (hSk.inb hcs31 (k := k) (j := 0) (by omega) (by omega) (by omega)) fun d5 c6 U => ?_; replace U := kD hg28 U
   have c7 := I.step U (by intro y hy; left; simpa using hy)
   have b9 : OwnS d5 3 1 (some ⟨gS, 0, none⟩) N N ((List.replicate k (iv (-1)) ++ List.replicate (N - k) (iv 0)).set (0 + k * 1) (iv (-1))) (some gS) := (hSk.set' hg28 hcu30 c6); rw [show 0 + k * 1 = k by omega, TL (by omega)] at b9; refine aP (aO (aB (aG ?_))); refine aC (aJ rfl rfl (by omega) (by omega)) ?_; refine aD (aP (bB ?_)); refine ⟨k + 1, ?_, ⟨rfl, trivial⟩, ⟨rfl, rfl, rfl, rfl, rfl, trivial⟩, c7, ?_⟩
   · omega
   exact ⟨by omega, b9⟩
  have hkN : k = N := by omega
  have a9 : OwnS wr23 3 1 (some ⟨gS, 0, none⟩) N N (List.map iv (List.replicate N (-1 : Int))) (some gS) := by have h := hSk; rw [hkN, Nat.sub_self, List.replicate_zero, List.append_nil, ← List.map_replicate (f := iv)] at h; exact h
  refine cM (bK (bK (cL (aB ?_)))); refine csr (aD (aD (aD (aC (cA rfl Tryz.underlying9 rfl) ?_)))); refine aC (cF (n := 0) rfl rfl gA (by omega)) ?_
  obtain ⟨g49, cur40, hg41, hx42, hcu43, hcs44, -⟩ := a9.at (by omega)
  cases hx42; refine gD rfl rfl (rfl) bO hcu43 (a9.inb hcs44 (k := 0) (j := 0) (by omega) (by omega) (by omega)) fun e0 c8 D => ?_; replace D := kD hg41 D; have V := a9.set' hg41 hcu43 c8
  have c9 := I.step D (by intro y hy; left; simpa using hy)
  refine aC (cF (n := 1) rfl rfl gA (by omega)) ?_
  obtain ⟨g62, cur53, hg54, hx55, hcu56, hcs57, -⟩ := V.at (by omega)
  cases hx55; refine gD rfl rfl (rfl) bO hcu56 (V.inb hcs57 (k := 1) (j := 0) (by omega) (by omega) (by omega)) fun d6 d0 F => ?_; replace F := kD hg54 F
  have d8 := c9.step F (by intro y hy; left; simpa using hy)
  have c0 : OwnS d6 3 1 (some ⟨gS, 0, none⟩) N N (((List.map iv (List.replicate N (-1 : Int))).set (0 + 0 * 1) (iv 0)).set (0 + 1 * 1) (iv (s.size : Nat))) (some gS) := (V.set' hg54 hcu56 d0); rw [show 0 + 0 * 1 = 0 by rfl, show 0 + 1 * 1 = 1 by rfl, ← List.map_set, ← List.map_set] at c0; refine wnn (aI (csr (aD (wan (bG ?_))))); refine dC (α := eN × Option Addr × List Int) ((t0, q0, ((List.replicate N (-1 : Int)).set 0 0).set 1 (s.size : Nat))) (fun x => [(9, .pointer x.2.1)]) [(4, _), (7, _)] (fun x wr => Evo [] w wr ∧ (OwnS wr 3 1 (some ⟨gS, 0, none⟩) N N (List.map iv x.2.2) (some gS) ∧ x.2.2.length = N ∧ RNote [gS] wr (.pointer x.2.1) x.1 ∧ NOk N x.1 ∧ tF x.2.2 x.1 = zE N s.size (some t0))) (fun x => x.1.length) ⟨rfl, trivial⟩ ⟨rfl, rfl, trivial⟩ ⟨((((L.then a8).step I (hgS.mem1)).step D M.mem).step F M.mem), ⟨c0, by simp, (hNt.step (((((Evo.refl [] w8).then a8).step I (hgS1.mem1)).step D O.mem).step F O.mem) (fun y hy => .inr (hgS1 y (by rw [List.mem_singleton.1 hy])))), hnok, RB (by omega) hnok⟩⟩ ?_; rintro ⟨t, q, sl⟩ wr66 ⟨a0, ⟨hS, hsl, hNt, hnk, hfl⟩⟩; show CW _ _ _ _ [(9, .pointer q), (4, _), (7, _)] _
  try dsimp only at hS hsl hNt hnk hfl
  have b4 := Evo.refl ([gS]) wr66; refine aI (csr (aD (aC (WP rfl rfl ME) ?_))); refine wnn (fN rfl (fun a1 => ?_) (fun a1 => ?_))
  ·obtain ⟨nb, k, pa, q1, t1, rfl, rfl, hnx, hnb, c1⟩ := hNt.open a1
   have hns : Apart (some nb) (some gS) := fun y h1 h2 => by cases h1; cases h2; exact hnx (by simp)
   have hkN := hnk (k, pa) (List.mem_cons_self ..)
   dsimp only at hkN
   have hget : (List.map iv sl)[k]? = some (iv (sl.getD k 0)) := by simp [show k < sl.length by omega]
   refine aL (aB (aI (bG (csr (aD (aD (aC (aF rfl) (wfl rfl tJ rfl aQ hnb rfl ?_)))))))); refine aC (cF (n := k) rfl rfl gA (by omega)) ?_; refine aC (aU rfl aQ (hS.get1 hget)) (aC (cX rfl rfl) ?_); refine wnn (aX rfl (fun a2 => ?_) (fun a2 => ?_))
   ·refine fZ (fun w0 w' => Evo [] w0 w') (by kernel_rfl) (fun A J => ?_); have a5 := hS.evo0 J; have a6 := J.blk0 hnb; refine aet 0 rfl (fun _ hS => aY rfl) (Evo.refl [] A) ?_; refine aet 1 rfl (fun _ hS => aY rfl) (Evo.refl [] A) ?_; refine aet 2 rfl (fun _ hS => aF rfl) (Evo.refl [] A) ?_; refine aet 3 rfl (fun _ hS => aA rfl tJ) (Evo.refl [] A) ?_; refine aet 4 rfl (fun _ hS => aU rfl aQ (bA (hS.blk0 a6) rfl)) (Evo.refl [] A) ?_; refine aet 5 rfl (fun _ hS => aY rfl) (Evo.refl [] A) ?_; refine aet 6 rfl (fun _ hS => aF rfl) (Evo.refl [] A) ?_; refine aet 7 rfl (fun _ hS => aA rfl AH) (Evo.refl [] A) ?_; refine aet 8 rfl (fun _ hS => aU rfl aQ (bA (hS.blk0 a6) rfl)) (Evo.refl [] A) ?_; refine aet 9 rfl (fun _ hS => cF (n := k) rfl rfl gA (by omega)) (Evo.refl [] A) ?_; refine bR [10] (by kernel_rfl) rfl ⟨?_, trivial⟩; refine bY rfl ?_
    obtain ⟨g84, cur75, hg76, hx77, hcu78, hcs79, -⟩ := a5.at (by omega)
    cases hx77; refine gD rfl rfl (rfl) bO hcu78 (a5.inb hcs79 (k := k) (j := 0) (by omega) (by omega) (by omega)) fun d7 d1 H => ?_; replace H := kD hg76 H; have d2 := (b4.then J).step H (fun y hy => .inl (by simpa using hy)); have c2 : OwnS d7 3 1 (some ⟨gS, 0, none⟩) N N ((List.map iv sl).set (0 + k * 1) (iv (pa : Nat))) (some gS) := (a5.set' hg76 hcu78 d1); rw [show 0 + k * 1 = k by omega, ← List.map_set] at c2; refine aP (bN (.inr (by kernel_rfl)) ?_); refine dJ (by kernel_rfl) (aO (aB ?_)); refine aG (aD (aC (aF rfl) (wfl rfl tI rfl jR (H.blk a6 hns.nmem) rfl (bX (aP (bB ?_)))))); refine ⟨(t1, q1, sl.set k pa), ?_, ⟨rfl, trivial⟩, ⟨rfl, rfl, trivial⟩, ((a0.then J).step H hgS.mem), ?_⟩
    · (try dsimp only); simp
    try dsimp only
    exact ⟨c2, by rw [List.length_set]; exact hsl, c1.step d2 (fun y hy => .inl hy), fun q hq => hnk q (List.mem_cons_of_mem _ hq), by rw [← hfl, tF, if_pos a2]⟩
   refine aL (aO (aB (aG (aD (aC (aF rfl) (wfl rfl tI rfl jR hnb rfl (bX (aP (bB ?_))))))))); refine ⟨(t1, q1, sl), ?_, ⟨rfl, trivial⟩, ⟨rfl, rfl, trivial⟩, a0, ?_⟩
   · (try dsimp only); simp
   try dsimp only
   exact ⟨hS, hsl, c1.step b4 (fun y hy => .inl hy), fun q hq => hnk q (List.mem_cons_of_mem _ hq), by rw [← hfl, tF, if_neg a2]⟩
  refine cM (bK (bK (cL (aB ?_)))); refine csr (aD (wan (aH (br1 ?_)))); have hz := hNt.shut a1; subst hz
  exact ⟨_, _, _, sl, _, rfl, hS, hgS, .inr ⟨hsp, some t0, W2, by rw [← hrt]; exact hdr, by rw [hNN]; exact hfl⟩, a0⟩
end Go.Proofs.YtidpigbinpaaeaaGreat
namespace Go.Proofs.YtidpigbinpaaeaaGreat
open Go.RowKit Go.W
theorem tT {rs : List Int} {r : Int} {i j : Nat} : Mt rs (dK r) i j ↔ j = i + 1 ∧ rs[i]? = some r := by
  unfold dK; rw [Mt]; simp
theorem yU (rs : List Int) : ∀ (l : List Int) (i j : Nat), Mts rs (l.map dK) i j ↔ j = i + l.length ∧ ∀ t (h : t < l.length), rs[i + t]? = some l[t]
  | [], i, j => by
    rw [List.map_nil, Mts]
    simp [eq_comm]
  | r :: l, i, j => by
    rw [List.map_cons, Mts]
    constructor
    · rintro ⟨k, h1, h2⟩
      obtain ⟨rfl, h3⟩ := tT.1 h1
      obtain ⟨rfl, h4⟩ := (yU rs l _ j).1 h2
      refine ⟨by simp; omega, fun t ht => ?_⟩
      cases t with
      | zero => exact h3
      | succ t => rw [show i + (t + 1) = i + 1 + t by omega]; exact h4 t (by simpa using ht)
    · rintro ⟨rfl, h⟩
      refine ⟨i + 1, tT.2 ⟨rfl, h 0 (by simp)⟩, (yU rs l _ _).2 ⟨by simp; omega, fun t ht => ?_⟩⟩
      have := h (t + 1) (by simpa using ht)
      rw [show i + (t + 1) = i + 1 + t by omega] at this
      exact this
theorem NX {rs l : List Int} : (rs.length = 0 + l.length ∧ ∀ t (h : t < l.length), rs[0 + t]? = some l[t]) ↔ rs = l := by
  constructor
  · rintro ⟨h1, h2⟩
    refine List.ext_getElem (by omega) fun t ht ht' => ?_
    have h3 := h2 t ht'
    rw [Nat.zero_add, List.getElem?_eq_getElem ht] at h3
    exact Option.some.inj h3
  · rintro rfl
    exact ⟨by omega, fun t ht => by rw [Nat.zero_add, List.getElem?_eq_getElem ht]⟩
theorem VJ (rs l : List Int) : Mt rs (lC 4 (l.map dK)) 0 rs.length ↔ rs = l := by
  match l with
  | [] =>
    show Mt rs (rxK 1) 0 rs.length ↔ _
    unfold rxK; rw [Mt]; simp
    constructor
    · intro h; exact List.eq_nil_of_length_eq_zero h.symm
    · rintro rfl; rfl
  | [r] =>
    show Mt rs (dK r) 0 rs.length ↔ _
    rw [tT, ← NX (l := [r])]
    constructor
    · rintro ⟨h1, h2⟩
      exact ⟨h1, fun t ht => by simp at ht; subst ht; exact h2⟩
    · rintro ⟨h1, h2⟩
      exact ⟨h1, h2 0 (by simp)⟩
  | a :: b :: l =>
    show Mt rs (lG 4 ((a :: b :: l).map dK)) 0 rs.length ↔ _
    unfold lG; rw [Mt]
    simp only [show (4 : Int) ≠ 1 by decide, show (4 : Int) ≠ 2 by decide, show (4 : Int) ≠ 3 by decide, show (4 : Int) ≠ 5 by decide, show (4 : Int) ≠ 6 by decide, show (4 : Int) ≠ 7 by decide, show ¬ (8 : Int) ≤ 4 by decide, false_and, false_or, or_false, true_and]
    rw [yU, NX]
theorem utf_inj {s t : ByteArray} {N M : Nat} (hs : Utf s N) (ht : Utf t M) (h : cW s N = cW t M) : s = t := by
  rw [← sJ hs, ← sJ ht, h]
theorem nN {s t : ByteArray} {N : Nat} (hs : Utf s N) : (∃ M, Utf t M ∧ Mt (cW t M) (lC 4 ((cW s N).map dK)) 0 M) ↔ t = s := by
  constructor
  · rintro ⟨M, hM, h⟩
    have h2 := (VJ (cW t M) (cW s N)).1 (by rw [lV]; exact h)
    exact utf_inj hM hs h2
  · rintro rfl
    refine ⟨N, hs, ?_⟩
    have := (VJ (cW t N) (cW t N)).2 rfl
    rwa [lV] at this
def bS : ByteArray := ByteArray.mk #[40, 97, 41, 98, 42]
def bT : Rx := lG 4 [oE 1 emp (dK 97), lS 0 (-1) false (dK 98)]
theorem bS_asc : ∀ k, k < bS.size → sb bS k < 128 := by rw [show bS.size = 5 from rfl]; decide +kernel
theorem QS {s : ByteArray} {ex : PS → PX Rx} {st st2 : PS} {x : Rx} (h : isB s st.pos 40) (hq : ¬ isB s (st.pos + 1) 63) (ho : st.opn ≠ 250) (hl : ¬ RU emp st.names) (hx : ex ⟨st.pos + 1, st.now, st.opn + 1, st.names ++ [emp]⟩ = .ok (x, st2)) (hc : isB s st2.pos 41) : eJ s ex st = .ok ([oE ((st.names.length : Int) + 1) emp x], { st2 with pos := st2.pos + 1, opn := st2.opn - 1, now := st.now }) := by
  rw [br_open h, zO (yK (fun h2 => hq h2.2)) (by simp) ho (by simp) (fun h3 => hl h3.2)]
  show (match ex ⟨st.pos + 1, st.now, st.opn + 1, if true = true then st.names ++ [emp] else st.names⟩ with | .error e => _ | .ok (x, st2) => _) = _
  rw [if_pos rfl, hx]
  simp only
  rw [if_pos hc]
  rfl
theorem XO : qD bS 250 st0 = .ok (bT, ⟨5, flz, 0, [emp]⟩) := by
  obtain ⟨ex, he⟩ := ND bS 249
  have e0 : qD bS 249 ⟨1, flz, 1, [emp]⟩ = .ok (dK 97, ⟨2, flz, 1, [emp]⟩) := by
    rw [he]
    refine zG (st2 := ⟨2, flz, 1, [emp]⟩) ?_ (by decide +kernel)
    show iK bS ex 6 [] false ⟨1, flz, 1, [emp]⟩ = _
    rw [IQ (c := 97) (by decide +kernel) (by decide), sY (st := gX ⟨1, flz, 1, [emp]⟩ 2) (.inr (.inr (by decide +kernel)))]
    show Except.ok (lD flz 97, _) = _
    rw [qI rfl (by decide) (by decide)]
    rfl
  have e1 : eJ bS (qD bS 249) st0 = .ok ([oE 1 emp (dK 97)], ⟨3, flz, 0, [emp]⟩) := QS (st := st0) (st2 := ⟨2, flz, 1, [emp]⟩) (by decide +kernel) (by decide +kernel) (by decide) (fun h => h.elim (by decide) (fun h3 => h3.1 rfl)) e0 (by decide +kernel)
  show mL bS (qD bS 249) st0 = _
  refine zG (st2 := ⟨5, flz, 0, [emp]⟩) ?_ (by decide +kernel)
  show iK bS (qD bS 249) 6 [] false st0 = _
  rw [sX (c := 40) (by decide +kernel) (by decide) e1, IQ (c := 98) (st := ⟨3, flz, 0, [emp]⟩) (by decide +kernel) (by decide)]
  have hr : mP (bS.extract 4 bS.size) = (0, -1, 1) := by decide +kernel
  rw [ES (lo := 0) (hi := -1) (nn := 1) (st := gX ⟨3, flz, 0, [emp]⟩ 4) (by decide +kernel) hr (by decide) (by decide) (by decide +kernel), sY (.inl (by decide +kernel))]
  show Except.ok (lC 4 [oE 1 emp (dK 97), lS 0 (-1) false (lD flz 98)], _) = _
  rw [qI rfl (by decide) (by decide)]
  rfl
theorem uP : eZ bS = .ok bT := TU (by decide +kernel) ⟨_, CS bS_asc⟩ XO (by decide +kernel)
theorem MC : fY bT = [emp] := by
  obtain ⟨-, st, h1, -, -, q, h4⟩ := qA uP
  rw [XO] at h1
  cases h1
  unfold fY; rw [h4]
theorem bT_esz : bT.esz = 6 - 0 - 0 := by decide +kernel
theorem utf_one {t : ByteArray} (h : ∀ k, k < t.size → sb t k < 128) {M : Nat} (hM : Utf t M) : M = t.size := by
  have h1 := CS h
  exact SD hM.2 (.inl hM.1) h1
theorem bT_mt {rs : List Int} {n : Nat} : Mt rs bT 0 n ↔ rs[0]? = some 97 ∧ ∃ c, It (Mts rs [dK 98]) c 1 n := by
  unfold bT lG; rw [Mt]
  simp only [show (4 : Int) ≠ 1 by decide, show (4 : Int) ≠ 2 by decide, show (4 : Int) ≠ 3 by decide, show (4 : Int) ≠ 5 by decide, show (4 : Int) ≠ 6 by decide, show (4 : Int) ≠ 7 by decide, show ¬ (8 : Int) ≤ 4 by decide, false_and, false_or, or_false, true_and]
  unfold oE lS
  rw [Mts]
  constructor
  · rintro ⟨k, h1, h2⟩
    rw [Mt] at h1
    simp at h1
    rw [Mts] at h1
    obtain ⟨k1, h3, h4⟩ := h1
    rw [Mts] at h4
    subst h4
    obtain ⟨rfl, h5⟩ := tT.1 h3
    rw [Mts] at h2
    obtain ⟨k2, h6, h7⟩ := h2
    rw [Mts] at h7
    subst h7
    rw [Mt] at h6
    simp at h6
    exact ⟨h5, h6⟩
  · rintro ⟨h1, c, h2⟩
    refine ⟨1, ?_, ?_⟩
    · rw [Mt]
      simp
      rw [Mts]
      exact ⟨1, tT.2 ⟨rfl, h1⟩, by rw [Mts]⟩
    · rw [Mts]
      refine ⟨n, ?_, by rw [Mts]⟩
      rw [Mt]
      simp
      exact ⟨c, h2⟩
theorem abb_yes : ∃ M, Utf (ByteArray.mk #[97, 98, 98]) M ∧ Mt (cW (ByteArray.mk #[97, 98, 98]) M) bT 0 M := by
  refine ⟨3, CS (by rw [show (ByteArray.mk #[97, 98, 98]).size = 3 from rfl]; decide +kernel), ?_⟩
  rw [show cW (ByteArray.mk #[97, 98, 98]) 3 = [97, 98, 98] by decide +kernel, bT_mt]
  refine ⟨rfl, 2, 2, ?_, 3, ?_, rfl⟩
  · rw [Mts]; exact ⟨2, tT.2 ⟨rfl, rfl⟩, by rw [Mts]⟩
  · rw [Mts]; exact ⟨3, tT.2 ⟨rfl, rfl⟩, by rw [Mts]⟩
theorem ba_no : ¬ ∃ M, Utf (ByteArray.mk #[98, 97]) M ∧ Mt (cW (ByteArray.mk #[98, 97]) M) bT 0 M := by
  rintro ⟨M, hU, h⟩
  obtain rfl : M = 2 := utf_one (by rw [show (ByteArray.mk #[98, 97]).size = 2 from rfl]; decide +kernel) hU
  rw [show cW (ByteArray.mk #[98, 97]) 2 = [98, 97] by decide +kernel, bT_mt] at h
  have := h.1
  simp at this
section
variable {l : List In} {n : Nat} (hP : ProgOk bT l n)
include hP
theorem bT_prog : n = 6 ∧ l[0]? = some ⟨4, 1, 0, 2, []⟩ ∧ l[1]? = some ⟨2, 2, 0, 0, [(97, 97)]⟩ ∧ l[2]? = some ⟨4, 3, 0, 3, []⟩ ∧ l[3]? = some ⟨3, 4, 6, 0, []⟩ ∧ l[4]? = some ⟨2, 5, 0, 0, [(98, 98)]⟩ ∧ l[5]? = some ⟨10, 3, 0, 0, []⟩ ∧ l[6]? = some ⟨1, 0, 0, 0, []⟩ := by
  have hb := hP.blk
  have hl := hP.last
  unfold bT lG at hb
  rw [Blk] at hb
  obtain ⟨-, -, -, b4, -⟩ := hb
  have h1 := b4 rfl
  unfold oE lS dK at h1
  rw [iP] at h1
  obtain ⟨m, h2, h3⟩ := h1
  rw [Blk] at h2
  obtain ⟨-, -, -, -, -, -, b7, -⟩ := h2
  obtain ⟨q, g1, g2, g3, rfl⟩ := b7 rfl
  rw [iP] at g2
  obtain ⟨q1, g4, g5⟩ := g2
  rw [iP] at g5
  subst g5
  rw [Blk] at g4
  obtain ⟨-, c2, -⟩ := g4
  obtain ⟨rfl, g6⟩ := c2 rfl
  rw [iP] at h3
  obtain ⟨m2, h4, h5⟩ := h3
  rw [iP] at h5
  subst h5
  rw [Blk] at h4
  obtain ⟨-, -, -, -, -, b6, -⟩ := h4
  obtain ⟨m3, r1, r2, -⟩ := b6 rfl
  have r1' : 0 + 1 + 1 + 1 = m3 := r1
  subst r1'
  obtain ⟨m4, r3, r4, r5, rfl⟩ := r2 rfl
  rw [iP] at r4
  obtain ⟨q3, r6, r7⟩ := r4
  rw [iP] at r7
  subst r7
  rw [Blk] at r6
  obtain ⟨-, d2, -⟩ := r6
  obtain ⟨rfl, r8⟩ := d2 rfl
  exact ⟨rfl, g1, g6, g3, r3, r8, r5, hl⟩
abbrev abT : ByteArray := ByteArray.mk #[97, 98]
theorem ab_run {ls : List Int} (h : XX ⟨l, 0, 1, [emp]⟩ abT ls) (hs : kW ⟨l, 0, 1, [emp]⟩) : ls = [0, 2, 0, 1] := by
  obtain ⟨-, h0, h1, h2, h3, h4, h5, h6⟩ := bT_prog hP
  obtain ⟨-, r, W', hd, rfl⟩ := h.resolve_left (fun h9 => h9.1 hs)
  have n0 : bJ abT 0 = (97, 1) := by decide +kernel
  have n1 : bJ abT 1 = (98, 1) := by decide +kernel
  have m0 : dV ⟨l, 0, 1, [emp]⟩ abT 0 0 = .save 2 1 := by unfold dV; rw [h0]; rfl
  have m1 : dV ⟨l, 0, 1, [emp]⟩ abT 0 1 = .rune (some 2) := by unfold dV; rw [h1]; simp [mvI, n0, mT]
  have m2 : dV ⟨l, 0, 1, [emp]⟩ abT 1 2 = .save 3 3 := by unfold dV; rw [h2]; rfl
  have m3 : ∀ a, dV ⟨l, 0, 1, [emp]⟩ abT a 3 = .split 4 6 := fun a => by unfold dV; rw [h3]; rfl
  have m4 : dV ⟨l, 0, 1, [emp]⟩ abT 1 4 = .rune (some 5) := by unfold dV; rw [h4]; simp [mvI, n1, mT]
  have m4' : ∃ o, dV ⟨l, 0, 1, [emp]⟩ abT 2 4 = .rune o := by unfold dV; rw [h4]; exact ⟨_, rfl⟩
  have m5 : dV ⟨l, 0, 1, [emp]⟩ abT 2 5 = .go 3 := by unfold dV; rw [h5]; rfl
  have m6 : dV ⟨l, 0, 1, [emp]⟩ abT 2 6 = .mat := by unfold dV; rw [h6]; rfl
  have x0 : gY abT 0 = some 1 := by unfold gY; rw [n0]; rfl
  have x1 : gY abT 1 = some 2 := by unfold gY; rw [n1]; rfl
  have hd2 : ∃ W2, Dr (dV ⟨l, 0, 1, [emp]⟩ abT) (gY abT) 2 [(0, 0, [])] (fun _ _ => false) (some [(3, 1), (2, 0)]) W2 :=
    ⟨_, .save rfl m0 (.rune rfl m1 (by decide) x0 (.save rfl m2 (.split rfl (m3 1) (.rune rfl m4 (by decide) x1 (.go rfl m5 (.split rfl (m3 2) (.miss rfl (.inr ⟨m4', .inl rfl⟩) (.found rfl m6 rfl))))))))⟩
  obtain ⟨W2, hd2⟩ := hd2
  rw [hd.uniq hd2]
  rfl
end
theorem spec_lo {c : Nat} (h : c ∈ sZ) : c < 128 := by
  unfold sZ at h; simp at h; omega
theorem uJ {m : Nat} (h : m < 128) : kB m = [m] := by unfold kB; rw [if_pos h]
theorem HC {m : Nat} (h : 128 ≤ m) : (∀ b, b ∈ kB m → 128 ≤ b) ∧ kB m ≠ [] := by
  unfold kB
  rw [if_neg (by omega)]
  repeat' split
  all_goals (refine ⟨fun b hb => ?_, by simp⟩; simp at hb; omega)
theorem uK {r : Int} (h : IsR r) : dE r = kB r.toNat := by unfold dE; rw [if_pos h]
theorem rT (r : Int) (t : List Int) : frm (r :: t) = dE r ++ frm t := rfl
theorem OI : ∀ (cs sl X : List Nat), (∀ c, c ∈ cs → 128 ≤ c) → sl.flatMap qc = cs ++ X → ∃ sl', sl = cs ++ sl' ∧ sl'.flatMap qc = X
  | [], sl, X, _, h => ⟨sl, rfl, h⟩
  | c :: cs, [], X, _, h => by cases h
  | c :: cs, d :: sl, X, hc, h => by
    have h0 := hc c (List.mem_cons_self ..)
    rw [List.flatMap_cons] at h
    by_cases e : d ∈ sZ
    · rw [show qc d = [92, d] by unfold qc; rw [if_pos e]] at h
      injection h with h1 h2
      omega
    · rw [show qc d = [d] by unfold qc; rw [if_neg e]] at h
      injection h with h1 h2
      obtain ⟨sl', rfl, h3⟩ := OI cs sl X (fun x hx => hc x (List.mem_cons_of_mem _ hx)) h2
      exact ⟨sl', by rw [h1]; rfl, h3⟩
theorem unq : ∀ (n : Nat) (rs : List Int) (sl : List Nat), rs.length ≤ n → VR rs → sl.flatMap qc = frm rs → ∃ rs', VR rs' ∧ sl = frm rs'
  | n, [], sl, _, _, h => by
    refine ⟨[], fun r hr => (by cases hr), ?_⟩
    cases sl with
    | nil => rfl
    | cons d sl =>
      exfalso
      rw [List.flatMap_cons] at h
      have h1 := congrArg List.length h
      have : 0 < (qc d).length := by unfold qc; split <;> simp
      have h2 : (frm ([] : List Int)).length = 0 := rfl
      rw [h2, List.length_append] at h1
      omega
  | 0, r :: t, sl, hn, _, _ => by simp at hn
  | n + 1, r :: t, sl, hn, hv, h => by
    have hr := hv r (List.mem_cons_self ..)
    have ht : VR t := fun x hx => hv x (List.mem_cons_of_mem _ hx)
    have hn' : t.length ≤ n := by simpa using hn
    have hcons : ∀ {x : Int} {rs' : List Int}, IsR x → VR rs' → VR (x :: rs') := fun hx hrs y hy => by
      rcases List.mem_cons.1 hy with rfl | hy
      · exact hx
      · exact hrs y hy
    rw [rT, uK hr] at h
    by_cases e : r.toNat < 128
    · rw [uJ e] at h
      match sl, h with
      | [], h => cases h
      | d :: sl', h =>
        rw [List.flatMap_cons] at h
        by_cases ed : d ∈ sZ
        · rw [show qc d = [92, d] by unfold qc; rw [if_pos ed]] at h
          injection h with h1 h2
          have hd := spec_lo ed
          match t, ht, hn', h2 with
          | [], _, _, h2 => cases h2
          | r2 :: t2, ht, hn', h2 =>
            have hr2 := ht r2 (List.mem_cons_self ..)
            rw [rT, uK hr2] at h2
            by_cases e2 : r2.toNat < 128
            · rw [uJ e2] at h2
              injection h2 with h3 h4
              obtain ⟨rs', h5, h6⟩ := unq n t2 sl' (by simp at hn'; omega) (fun x hx => ht x (List.mem_cons_of_mem _ hx)) h4
              exact ⟨r2 :: rs', hcons hr2 h5, by rw [rT, uK hr2, uJ e2, h6, h3]; rfl⟩
            · obtain ⟨h3, h4⟩ := HC (m := r2.toNat) (by omega)
              exfalso
              cases hf : kB r2.toNat with
              | nil => exact h4 hf
              | cons x xs =>
                rw [hf] at h2 h3
                injection h2 with h5 h6
                have := h3 x (List.mem_cons_self ..)
                omega
        · rw [show qc d = [d] by unfold qc; rw [if_neg ed]] at h
          injection h with h1 h2
          obtain ⟨rs', h5, h6⟩ := unq n t sl' hn' ht h2
          exact ⟨r :: rs', hcons hr h5, by rw [rT, uK hr, uJ e, h6, h1]; rfl⟩
    · obtain ⟨h3, -⟩ := HC (m := r.toNat) (by omega)
      obtain ⟨sl', rfl, h4⟩ := OI _ sl _ h3 h
      obtain ⟨rs', h5, h6⟩ := unq n t sl' hn' ht h4
      exact ⟨r :: rs', hcons hr h5, by rw [rT, uK hr, h6]⟩
theorem bstr_in {l k : List Nat} (hl : ∀ b, b ∈ l → b < 256) (hk : ∀ b, b ∈ k → b < 256) (h : fS l = fS k) : l = k := by
  have h1 := congrArg ByteArray.size h
  rw [bsz, bsz] at h1
  refine List.ext_getElem h1 fun i hi hi' => ?_
  rw [← sL hi hl, ← sL hi' hk, h]
theorem PY {s : ByteArray} {N : Nat} (h : Utf (fS (qK s s.size)) N) : ∃ M, Utf s M := by
  have h1 := sJ h
  obtain ⟨l, hl⟩ : ∃ l, l = nmL s := ⟨_, rfl⟩
  have hlo : ∀ b, b ∈ l → b < 256 := by rw [hl]; exact u8_lo _
  have hs : s = fS l := by rw [hl, VE]
  have hsz : s.size = l.length := by rw [hl, nmL_len]
  have hq : qK s s.size = l.flatMap qc := by
    have := DD hlo l.length (Nat.le_refl _)
    rw [List.take_length] at this
    rw [hsz, hs]; exact this
  have hv : VR (cW (fS (qK s s.size)) N) := yA h
  have h2 : l.flatMap qc = frm (cW (fS (qK s s.size)) N) := by
    refine bstr_in (fun b hb => ?_) (fun b hb => ?_) ?_
    · obtain ⟨c, hc, hb⟩ := List.mem_flatMap.1 hb
      have := hlo c hc
      unfold qc at hb; split at hb <;> simp at hb <;> omega
    · obtain ⟨c, hc, hb⟩ := List.mem_flatMap.1 hb
      exact uL c b hb
    · rw [← hq]; exact h1.symm
  obtain ⟨rs', h3, h4⟩ := unq _ _ l (Nat.le_refl _) hv h2
  refine ⟨rs'.length, ?_⟩
  have h5 := (MM h3).1
  rw [hs, h4]
  exact h5
end Go.Proofs.YtidpigbinpaaeaaGreat
namespace Go.Proofs.YtidpigbinpaaeaaGreat
open Go.RowKit Go.W
attribute [local irreducible] Decidable.decide
theorem jQ : dU Tryz.prog 11 := ⟨_, Tryz.func11, by kernel_rfl, by kernel_rfl⟩
theorem xA : dU Tryz.prog 12 := ⟨_, Tryz.func12, by kernel_rfl, by kernel_rfl⟩
theorem JL : dU Tryz.prog 24 := ⟨_, Tryz.func24, by kernel_rfl, by kernel_rfl⟩
theorem JK : dU Tryz.prog 25 := ⟨_, Tryz.func25, by kernel_rfl, by kernel_rfl⟩
theorem JG : dU Tryz.prog 48 := ⟨_, Tryz.func48, by kernel_rfl, by kernel_rfl⟩
theorem MG : dU Tryz.prog 7 := ⟨_, Tryz.func7, by kernel_rfl, by kernel_rfl⟩
theorem zU : dU Tryz.prog 9 := ⟨_, Tryz.func9, by kernel_rfl, by kernel_rfl⟩
def RZ : Rel Int := fun _ _ vs z => vs = [iv z]
theorem NF {X : List Nat} {w : World} {e : TypeId} {a : Option Addr} {n c : Nat} {l : List Int} {ob : Option Nat} (h : OwnS w e 1 a n c (l.map iv) ob) (hx : ∀ g, ob = some g → g ∉ X) : RSl 1 RZ X w (.slice a n c) l := by
  have e1 : (l.map fun z => [iv z]).flatten = l.map iv := by clear h; induction l with | nil => rfl | cons z l ih => simpa using ih
  have hl := h.length
  rw [← e1] at h
  exact RSl.ofOwn h ⟨by simp, fun k h1 h2 => by simp only [List.getElem_map]; exact ⟨rfl, rfl⟩⟩ (by simpa using hl) hx
theorem same_ok {X Y : List Nat} {w : World} {v1 v2 : Value} {d1 d2 : List Int} (h1 : RSl 1 RZ X w v1 d1) (h2 : RSl 1 RZ Y w v2 d2) (hl : d1.length ≤ 140737488355328) (hl' : d2.length ≤ 140737488355328) :
    Calls Tryz.prog 24 #[v1, v2] w (Ret fun v w' => v = .bool (decide (d1 = d2)) ∧ Evo [] w w') := by
  obtain ⟨a1, c1, rfl, hlc1, e1⟩ := h1; obtain ⟨a2, c2, rfl, hlc2, e2⟩ := h2; refine bD (N := 26) Tryz.func24 rfl rfl rfl ?_; refine csr (wan (aI (csr (aD (aC (bH rfl Tryz.underlying37 rfl) ?_))))); refine aD (aC (bH rfl Tryz.underlying37 rfl) ?_); refine aC (gU rfl rfl) ?_; refine wnn (aX rfl (fun F => ?_) (fun F => ?_))
  ·refine csr (wan (aH (aE (br1 ?_)))); exact ⟨congrArg Value.bool (decide_eq_false (fun h => F (by rw [h]))).symm, (Evo.refl [] w)⟩
  refine aL (aB (aI (csr (aD (aC (bH rfl Tryz.underlying37 rfl) ?_))))); refine aD (wnn (bG (dC (α := Nat) (0) (fun k => [(13, .int .i64 (k : Nat))]) [(0, _), (1, _), (12, _)] (fun k wr => Evo [] w wr ∧ (k ≤ d1.length ∧ d1.take k = d2.take k)) (fun k => d1.length - k) ⟨rfl, trivial⟩ ⟨rfl, rfl, rfl, trivial⟩ ⟨Evo.refl _ _, ⟨Nat.zero_le _, rfl⟩⟩ ?_))); rintro k wr1 ⟨H, ⟨hk, hpre⟩⟩; show CW _ _ _ _ [(13, _), (0, _), (1, _), (12, _)] _; have D := (Evo.refl [] w).then H; refine csr (aC (cX rfl rfl) ?_); refine wnn (aI (aX rfl (fun I => ?_) (fun I => ?_)))
  ·obtain ⟨b1, o1, vs1, ha1, hb1, -, J, rfl⟩ := e1 k (by omega); obtain ⟨b2, o2, vs2, ha2, hb2, -, L, rfl⟩ := e2 k (by omega); refine aL (aB (aI (bG (csr (aD (wan (aI ?_))))))); refine eM (by kernel_rfl) (by kernel_rfl) ?_; refine bE (fun _ A => aY rfl) ?_; refine bE (fun _ A => aY rfl) ?_
   refine bE (fun _ A => cF (n := k) (by rw [ha1]; rfl) rfl gA (by omega)) ?_
   refine bE (fun _ A => aU rfl aQ ((J.evo (((D.then A)).any X) hb1) 0 _ rfl)) ?_; refine bE (fun _ A => aY rfl) ?_; refine bE (fun _ A => aY rfl) ?_
   refine bE (fun _ A => cF (n := k) (by rw [ha2]; rfl) rfl gA (by omega)) ?_
   refine bE (fun _ A => aU rfl aQ ((L.evo (((D.then A)).any Y) hb2) 0 _ rfl)) ?_; refine bE (fun _ A => gU rfl rfl) ?_; refine eS (fun M A => aB ?_); refine aX rfl (fun B => ?_) (fun B => ?_)
   ·refine csr (wan (aH (aM (aE (aE (aM (aE (br1 ?_))))))))
    exact ⟨congrArg Value.bool (decide_eq_false (fun h => B (by subst h; rfl))).symm, (D.then A)⟩
   refine aL (aO (aB (aG ?_))); refine aC (aJ rfl rfl (by omega) (by omega)) ?_; refine aD (aP (bB ?_)); refine ⟨k + 1, ?_, ⟨rfl, trivial⟩, ⟨rfl, rfl, rfl, trivial⟩, (H.then A), ?_⟩
   · omega
   have h3 : d1[k] = d2[k] := by simpa using B
   exact ⟨by omega, by rw [List.take_succ_eq_append_getElem (by omega), List.take_succ_eq_append_getElem (by omega), hpre, h3]⟩
  refine cM (bK (bK (cL (aB ?_)))); refine csr (wan (aH (br1 ?_)))
  exact ⟨congrArg Value.bool (decide_eq_true (by rw [List.take_of_length_le (by omega), List.take_of_length_le (by omega)] at hpre; exact hpre)).symm, D⟩
theorem bS_fit : ¬ ((∃ e', eZ bS = .error e') ∨ ∃ x, eZ bS = .ok x ∧ 10000 < x.esz + 1) := by
  rintro (⟨e, h⟩ | ⟨x, h, h2⟩)
  · rw [uP] at h; cases h
  · rw [uP] at h; cases h
    rw [bT_esz] at h2; omega
theorem CI : ∀ l : List Int, gV (l.map dK) = l.length
  | [] => by rw [List.map_nil, gV]; rfl
  | r :: l => by
    rw [List.map_cons, gV, CI l, List.length_cons, show (dK r).esz = 1 by rw [Rx.esz_eq]; rfl]; omega
theorem row_esz (l : List Int) : (lC 4 (l.map dK)).esz ≤ l.length := by
  match l with
  | [] => show (rxK 1).esz ≤ 0; rw [Rx.esz_eq]; exact Nat.le_refl _
  | [r] => show (dK r).esz ≤ 1; rw [Rx.esz_eq]; exact Nat.le_refl _
  | a :: b :: l =>
    show (lG 4 ((a :: b :: l).map dK)).esz ≤ _
    rw [Rx.esz_eq]
    show gV ((a :: b :: l).map dK) ≤ _
    rw [CI]; exact Nat.le_refl _
theorem HN {c b : Int} {st s1 : St} (h : (dK c).fine b st = some s1) : s1.2 = st.2 := by
  by_cases hc : st.1 + 1 ≤ 8194 ∧ (if (dK c).kind = 7 then b + 1 else b) ≤ 250 ∧ NodeP (dK c) ∧ ((dK c).kind = 7 → iZ (dK c).cap (dK c).name st.2)
  · rw [jN hc] at h
    have h2 : cY [] (dK c).kind (if (dK c).kind = 7 then b + 1 else b) (st.1 + 1, if (dK c).kind = 7 then st.2 ++ [(dK c).name] else st.2) = some s1 := h
    rw [cY, if_neg (show ¬ (dK c).kind = 7 by show ¬ (2 : Int) = 7; decide)] at h2
    cases h2; rfl
  · rw [oO hc] at h; cases h
theorem BV {k b : Int} : ∀ (l : List Int) (st s1 : St), cY (l.map dK) k b st = some s1 → s1.2 = st.2
  | [], st, s1, h => by rw [List.map_nil, cY] at h; cases h; rfl
  | r :: l, st, s1, h => by
    rw [List.map_cons, cY] at h
    cases hy : (dK r).fine (b + if Brk (dK r).kind k then 1 else 0) st with
    | none => rw [hy] at h; cases h
    | some s2 => rw [hy] at h; rw [BV l s2 s1 h, HN hy]
theorem row_grp {l : List Int} (h : (lC 4 (l.map dK)).Ok) : fY (lC 4 (l.map dK)) = [] := by
  obtain ⟨st, h⟩ := h
  have e : fY (lC 4 (l.map dK)) = st.2 := by unfold fY; rw [h]
  rw [e]
  match l, h with
  | [], h =>
    have h1 : (rxK 1).fine 0 (0, []) = some st := h
    by_cases hc : ((0, []) : St).1 + 1 ≤ 8194 ∧ (if (rxK 1).kind = 7 then (0 : Int) + 1 else 0) ≤ 250 ∧ NodeP (rxK 1) ∧ ((rxK 1).kind = 7 → iZ (rxK 1).cap (rxK 1).name ((0, []) : St).2)
    · rw [jN hc] at h1
      have h2 : cY [] (rxK 1).kind (if (rxK 1).kind = 7 then (0 : Int) + 1 else 0) (1, if (rxK 1).kind = 7 then ([] : List ByteArray) ++ [(rxK 1).name] else []) = some st := h1
      rw [cY, if_neg (show ¬ (rxK 1).kind = 7 by decide)] at h2
      cases h2; rfl
    · rw [oO hc] at h1; cases h1
  | [r], h => exact HN (c := r) (b := 0) (st := (0, [])) h
  | a :: b :: l, h =>
    have h1 : (lG 4 ((a :: b :: l).map dK)).fine 0 (0, []) = some st := h
    by_cases hc : ((0, []) : St).1 + 1 ≤ 8194 ∧ (if (lG 4 ((a :: b :: l).map dK)).kind = 7 then (0 : Int) + 1 else 0) ≤ 250 ∧ NodeP (lG 4 ((a :: b :: l).map dK)) ∧ ((lG 4 ((a :: b :: l).map dK)).kind = 7 → iZ (lG 4 ((a :: b :: l).map dK)).cap (lG 4 ((a :: b :: l).map dK)).name ((0, []) : St).2)
    · rw [jN hc] at h1
      exact BV (a :: b :: l) (1, []) st h1
    · rw [oO hc] at h1; cases h1
theorem PW {s : ByteArray} {x : Rx} (h : eZ (fS (qK s s.size)) = .ok x) : ∃ N, Utf s N ∧ x = lC 4 ((cW s N).map dK) := by
  obtain ⟨-, st, -, -, hB, -⟩ := qA h
  obtain ⟨M, k, hU, -⟩ := hB
  obtain ⟨N, hN⟩ := PY hU
  refine ⟨N, hN, ?_⟩
  have hz : (qK s s.size).length ≤ 4096 := by
    rcases Nat.lt_or_ge 4096 (qK s s.size).length with h9 | h9
    · rw [MX (by rw [bsz]; exact h9)] at h; cases h
    · exact h9
  rw [wH hN hz] at h
  cases h; rfl
theorem TN (s : ByteArray) : ∀ k, k ≤ (qK s k).length
  | 0 => Nat.zero_le _
  | k + 1 => by have := TN s k; rw [qK, List.length_append]; unfold qc; split <;> simp <;> omega
theorem KH {s : ByteArray} (h : (∃ e', eZ (fS (qK s s.size)) = .error e') ∨ ∃ x, eZ (fS (qK s s.size)) = .ok x ∧ 10000 < x.esz + 1) (hU : ∃ N, Utf s N) : 4096 < (qK s s.size).length := by
  obtain ⟨N, hN⟩ := hU
  rcases Nat.lt_or_ge 4096 (qK s s.size).length with h9 | h9
  · exact h9
  · exfalso
    have hp := wH hN h9
    rcases h with ⟨e, h⟩ | ⟨x, h, h2⟩
    · rw [hp] at h; cases h
    · rw [hp] at h; cases h
      have h3 := row_esz (cW s N)
      rw [lV] at h3
      have h4 : N ≤ s.size := by have h8 := offs_ge hN.2; rw [hN.1] at h8; exact h8
      have h5 := TN s s.size
      omega
theorem KC {w : World} {b : Nat} {s : ByteArray} {x : Rx} {l : List In} {n : Nat} (h : RgAt w b s x l n) (t : ByteArray) (ht : t.size ≤ 2097152) :
    Calls Tryz.prog 25 #[.pointer (some ⟨b, 0, none⟩), .string t] w (Ret fun v w' => ∃ a n c ls ob, v = .slice a n c ∧ OwnS w' 3 1 a n c (List.map iv ls) ob ∧ Ge w ob ∧ XX ⟨l, 0, (fY x).length, fY x⟩ t ls ∧ Evo [] w w') := by
  have hsnd := h.sound; obtain ⟨a, c, na, nc, hb, hi, hn⟩ := h.ex; refine bD (N := 13) Tryz.func25 rfl rfl rfl ?_; refine csr (wan (aI (csr (aD ?_)))); refine aC (uM (r := .bool false) rfl rfl (fun w => by kernel_rfl)) ?_; refine wnn (cS rfl ?_); refine aL (aB (csr (aD (aC (aF rfl) (aC (aA rfl qW) (aC (dF (o := 1) rfl jS fO (vs := [.slice a l.length c, iv 0, iv (fY x).length, .slice na (fY x).length nc]) rfl (MQ hb)) ?_)))))); refine aD (aK (vs := [_, _]) JG rfl (LM (TR h.prog hsnd h.len h.grp (RSl.evo RIn.pers (Evo.refl [] w) hi) (RSl.evo RStr.pers (Evo.refl [] w) hn)) hsnd t ht) rfl ?_); rintro _ w1 ⟨ga, gn, gc, ls, gob, rfl, hO, hgo, hR, A⟩; refine wan (aH (br1 ?_)); exact ⟨ga, gn, gc, ls, gob, rfl, hO, Ge.fresh (Evo.refl [] w) hgo, hR, ((Evo.refl [] w).then A)⟩
theorem XP {w : World} (hG : Glb w) : Calls Tryz.prog 7 #[] w (Ret fun v w' => v = .bool true ∧ Evo [] w w') := by
  refine bD (N := 33) Tryz.func7 rfl rfl rfl ?_; refine csr (wan (csr ?_)); refine aK (vs := [_]) zU rfl (TA bS (hG.evo (Evo.refl [] w) (by simp))) rfl ?_; rintro _ w1 ⟨M, p, e, rfl, hr⟩; have O := (Evo.refl [] w).then M; obtain ⟨rfl, b, x, l, n, rfl, -, hpx, hRg⟩ := hr.resolve_left (fun h9 => bS_fit h9.2.2); rw [uP] at hpx; cases hpx; refine aD (aC (cD rfl rfl) ?_); refine aC (cD rfl rfl) ?_; refine bX (wan (csr (aD (wel ?_)))); rw [show decide ((0 : Int) = 0) = true from decide_eq_true rfl]; refine aD (aT (aD (aT ?_))); refine aC (uM (r := .bool true) rfl rfl (fun w => by kernel_rfl)) ?_; refine bW (aD (aT (aD (aT ?_)))); refine aK (vs := [_, _]) jQ rfl (nV (hRg.evo0 (Evo.refl [] w1)) (ByteArray.mk #[97, 98, 98]) (by decide)) rfl ?_; rintro _ w4 ⟨m1, rfl, hm1, H⟩; have A := (Evo.refl [] w1).then H; obtain rfl : m1 = true := hm1.2 abb_yes; refine bW (aD (aT (aD (aT ?_)))); refine aK (vs := [_, _]) jQ rfl (nV (hRg.evo0 A) (ByteArray.mk #[98, 97]) (by decide)) rfl ?_; rintro _ w8 ⟨m2, rfl, hm2, B⟩
  obtain rfl : m2 = false := by cases m2; rfl; exact (ba_no (hm2.1 rfl)).elim
  refine aT (aC (fK rfl) ?_); refine bW (aD (aT (aD (aT (aK (vs := [_]) xA rfl (IB (hRg.evo0 (A.then B))) rfl ?_))))); rintro _ V ⟨rfl, D⟩; refine aT (wel ?_)
  rw [show decide (((fY bT).length : Int) = 1) = true from decide_eq_true (by rw [MC]; rfl)]
  refine bW (aD (aT (aD (aT ?_)))); refine aK (vs := [_, _]) JK rfl (KC (hRg.evo0 ((A.then B).then D)) abT (by decide)) rfl ?_; rintro _ a0 ⟨ga, gn, gc, ls, gob, rfl, hO, hgo, hR, I⟩
  have hyes : decide (ls = [0, 2, 0, 1]) = true := decide_eq_true (ab_run hRg.prog (by have h9 := hR; rw [MC] at h9; exact h9) (by have h9 := hRg.sound; rw [MC] at h9; exact h9))
  refine aT (bL (vs := [_, _, _, _]) rfl qO rfl rfl rfl rfl fun a1 a2 J U F => ?_); refine aT ?_
  refine aK (vs := [_, _]) JL rfl (same_ok (X := []) (Y := []) (NF (hO.evo0 F) (fun g _ h => by cases h)) (NF (l := [0, 2, 0, 1]) J (fun g _ h => by cases h)) (by have h9 := hyes; have h8 := of_decide_eq_true h9; rw [h8]; decide) (by decide)) rfl ?_
  rintro _ a3 ⟨rfl, L⟩; rw [hyes]; refine bW (wan (aH (br1 ?_))); exact ⟨rfl, ((((((O.then H).then B).then D).then I).then F).then L)⟩
set_option maxHeartbeats 2000000 in
theorem CX {w : World} (s : ByteArray) {a : Option Addr} {n c : Nat} {l : List ByteArray} (hs : RSl 1 RStr [] w (.slice a n c) l) (hl : l.length ≤ 140737488355328) (hz : ∀ t, t ∈ l → t.size ≤ 2097152) (hG : Glb w) (hsz : s.size ≤ 1048576) :
    Calls Tryz.prog 3 #[.string s, .slice a n c] w (Ret fun v w' => v = .bool true ∧ Evo [] w w') := by
  obtain ⟨a', c', he, hcap, ek⟩ := hs; cases he; refine bD (N := 80) Tryz.func3 rfl rfl rfl ?_; refine csr (wan (aI (csr ?_))); refine aK (vs := []) MG rfl (XP (hG.evo (Evo.refl [] w) (by simp))) rfl ?_; rintro _ w1 ⟨rfl, a7⟩; refine aC (fK rfl) ?_; refine wnn (cS rfl ?_); refine aL (aB (csr (aD ?_))); refine aK (vs := [_]) MF rfl (XY s (by omega)) rfl ?_; rintro _ w4 ⟨rfl, a8⟩; have H := ((Evo.refl [] w).then a7).then a8; refine wan (csr (aD ?_)); refine aK (vs := [_]) zU rfl (TA (fS (qK s s.size)) (hG.evo H (by simp))) rfl ?_; rintro _ w7 ⟨a1, p, e, rfl, hr⟩; refine aD (aC (cD rfl rfl) ?_); refine aC (cD rfl rfl) ?_; refine bX (wan (aI (csr (aD (aC (gU rfl rfl) ?_))))); refine wnn (aX rfl (fun I => ?_) (fun I => ?_))
  ·obtain ⟨-, -, hbad⟩ := hr.resolve_right (fun h9 => I h9.1); have hlong := KH hbad; refine csr (aD ?_); refine aK (vs := [_]) xB rfl (AV s (by omega)) rfl ?_; rintro _ b5 ⟨u, rfl, hu, a2⟩; have J := (H.then a1).then a2; refine aC (fK rfl) ?_; refine aD (sH (t := 24) rfl (fun L => ?_) (fun L => ?_))
   ·refine aN (aN (aN (bW (wan (aH (aE (br1 ?_))))))); exact ⟨rfl, J⟩
   refine aT (aD (aT (aC (cA rfl Tryz.underlying9 rfl) ?_))); refine aT (aC (gL rfl rfl) ?_); refine bM (wan (aH (aE (br1 ?_))))
   exact ⟨congrArg Value.bool (decide_eq_true (by have h9 := hlong (hu.1 (by cases u; cases L; rfl)); rw [bsz]; omega)), J⟩
  obtain ⟨-, b, x, li, nn, rfl, -, hpx, hRg⟩ := hr.resolve_left (fun h9 => h9.1 (by omega)); obtain ⟨N, hN, rfl⟩ := PW hpx; refine aL (aB (aI (csr (aD ?_)))); refine aC (uM (r := .bool false) rfl rfl (fun w => by kernel_rfl)) ?_; refine aD (aT (aD (aT (aD (aT ?_))))); refine aK (vs := [_, _]) jQ rfl (nV (hRg.evo0 (Evo.refl [] w7)) (s) (by omega)) rfl ?_; rintro _ b6 ⟨m1, rfl, hm1, M⟩; have O := (Evo.refl [] w7).then M; obtain rfl : m1 = true := hm1.2 ((nN hN).2 rfl); refine aT (aC (fK rfl) ?_); refine bM (aD (aT (aD (aT (aK (vs := [_]) xA rfl (IB (hRg.evo0 O)) rfl ?_))))); rintro _ a9 ⟨rfl, U⟩; refine aT (aC (gU rfl rfl) ?_)
  rw [show decide (((fY (lC 4 ((cW s N).map dK))).length : Int) ≠ 0) = false from decide_eq_false (by rw [row_grp hRg.ok]; exact not_not_intro rfl)]
  refine bM (wnn (cS rfl ?_)); refine aL (aB (aI (csr (aD (aC (bH rfl Tryz.underlying22 rfl) ?_))))); refine aD (wnn (bG (dC (α := Nat) (0) (fun k => [(44, .int .i64 (k : Nat))]) [(0, _), (6, _), (42, _), (43, _)] (fun k wr => Evo [] a9 wr ∧ (k ≤ l.length)) (fun k => l.length - k) ⟨rfl, trivial⟩ ⟨rfl, rfl, rfl, rfl, trivial⟩ ⟨Evo.refl _ _, Nat.zero_le _⟩ ?_))); rintro k wr21 ⟨B, hk0⟩; show CW _ _ _ _ [(44, _), (0, _), (6, _), (42, _), (43, _)] _; have V := (((H.then a1).then M).then U).then B; have D := (O.then U).then B; refine csr (aC (cX rfl rfl) ?_); refine wnn (aI (aX rfl (fun a3 => ?_) (fun a3 => ?_)))
  ·have hk' : k < l.length := by omega
   obtain ⟨g1, o1, vs1, hg1, -, -, b4, hr1⟩ := ek k hk'; obtain rfl := hr1; refine aL (aB (aI (bG (csr (aC (eT (n := k) rfl rfl hg1 sE hk') ?_))))); refine aC (aU rfl cT ((b4.evo V (by simp)) 0 _ rfl)) ?_; refine wan (csr (aD (aD (aC (EG rfl rfl) ?_)))); refine aD (bF (t := 51) rfl (fun F => ?_) (fun F => ?_))
   ·refine aT (aD (aT (aD (aT (aK (vs := [_, _]) jQ rfl (nV (hRg.evo0 D) (l[k]) (hz _ (List.getElem_mem hk'))) rfl ?_))))); rintro _ b7 ⟨m2, rfl, hm2, a4⟩
    obtain rfl : m2 = false := by cases m2; rfl; exact absurd ((nN hN).1 (hm2.1 rfl)) F
    refine bW (aD (aT (aD (aT (aD (aT (aC (iH rfl rfl) ?_))))))); refine aT (aD (bF (t := 60) rfl (fun A => ?_) (fun A => ?_)))
    ·exact absurd A F
    refine aN (aN (aN (aN (aT (bM (bM (wnn (cS rfl ?_)))))))); refine aL (aO (aB (aG ?_))); refine aC (aJ rfl rfl (by omega) (by omega)) ?_; refine aD (aP (bB ?_)); refine ⟨k + 1, ?_, ⟨rfl, trivial⟩, ⟨rfl, rfl, rfl, rfl, trivial⟩, (B.then a4), ?_⟩
    · omega
    show k + 1 ≤ l.length; omega
   refine aN (aN (aN (bM (aD (aT (aD (aT (aD (aT (aC (iH rfl rfl) ?_)))))))))); refine aT (aD (bF (t := 60) rfl (fun A => ?_) (fun A => ?_)))
   ·refine aT (aD (aT (aD (aT (aK (vs := [_, _]) jQ rfl (nV (hRg.evo0 D) (l[k]) (hz _ (List.getElem_mem hk'))) rfl ?_))))); rintro _ b8 ⟨m3, rfl, hm3, a5⟩; obtain rfl : m3 = true := hm3.2 ((nN hN).2 A); refine aT (aC (fK rfl) ?_); refine aT (bW (bM (wnn (cS rfl ?_)))); refine aL (aO (aB (aG ?_))); refine aC (aJ rfl rfl (by omega) (by omega)) ?_; refine aD (aP (bB ?_)); refine ⟨k + 1, ?_, ⟨rfl, trivial⟩, ⟨rfl, rfl, rfl, rfl, trivial⟩, (B.then a5), ?_⟩
    · omega
    show k + 1 ≤ l.length; omega
   exact absurd (Classical.not_not.1 F) A
  refine cM (bK (bK (cL (aB ?_)))); refine csr (aD (aD ?_))
  refine aC (OO rfl rfl (by show s.size + 1 ≤ _; omega)) ?_
  refine aK (vs := [_, _]) jQ rfl (nV (hRg.evo0 D) (s ++ ByteArray.mk #[97]) (by rw [ByteArray.size_append]; show s.size + 1 ≤ _; omega)) rfl ?_
  rintro _ b9 ⟨m4, rfl, hm4, a0⟩
  obtain rfl : m4 = false := by cases m4; rfl; exact absurd ((nN hN).1 (hm4.1 rfl)) (fun h8 => by have h7 := congrArg ByteArray.size h8; rw [ByteArray.size_append] at h7; have h6 : s.size + 1 = s.size := h7; omega)
  refine aC (fK rfl) ?_; refine aD (aT (aD (aT (aD (aT ?_)))))
  refine aC (OO rfl rfl (by show 1 + s.size ≤ _; omega)) ?_
  refine aT ?_
  refine aK (vs := [_, _]) jQ rfl (nV (hRg.evo0 (D.then a0)) (ByteArray.mk #[97] ++ s) (by rw [ByteArray.size_append]; show 1 + s.size ≤ _; omega)) rfl ?_
  rintro _ c0 ⟨m5, rfl, hm5, a6⟩
  obtain rfl : m5 = false := by cases m5; rfl; exact absurd ((nN hN).1 (hm5.1 rfl)) (fun h8 => by have h7 := congrArg ByteArray.size h8; rw [ByteArray.size_append] at h7; have h6 : 1 + s.size = s.size := h7; omega)
  refine aT (aC (fK rfl) ?_); refine bW (wan (aH (br1 ?_))); exact ⟨rfl, ((V.then a0).then a6)⟩
end Go.Proofs.YtidpigbinpaaeaaGreat
namespace Go.Proofs.YtidpigbinpaaeaaGreat
open Go.ChangeAt Go.ChangeShapes Go.RowKit Go.W Go.WideShapes
set_option maxRecDepth 100000 in
theorem XE (H : Type) (enc : TypeId × Value → H) (W : World) (base : Nat) (args : Array Value) (ds gs : List (DataW H)) (before : List MemPlace)
    (hval : ∀ (j : Nat) t v, Tryz.f3.params[j]? = some t → args[j]? = some v → Value.okWide Tryz.prog W .any base t v)
    (hW : DataW.Whole enc Tryz.prog Tryz.f3.params.toList Rows.rxQuotesSpec.vars false W args.toList ds gs before) (hk : Rows.uptoSmall H (ds ++ gs) = true)
    (hsz : (DataW.weightsEach Tryz.prog (Tryz.f3.params.toList ++ Rows.rxQuotesSpec.plain.varTypes Tryz.prog) (ds ++ gs)).all (· ≤ reachBytes) = true) (hG : Glb W) :
    Calls Tryz.prog 3 args W fun e W' => ∃ v, e = .returned v ∧ Rows.rxQuotesSpec.post enc Tryz.prog Tryz.f3 false true false false W args v W' := by
  have hW' := hW
  obtain ⟨p, q, B, hV, rfl, hfz, hnd⟩ := hW
  have hA : DataW.TrodAll enc Tryz.prog W 0 (fun _ => true) true Tryz.f3.params.toList args.toList ds p := B
  rw [Tryz.params3] at hA hval hsz
  obtain ⟨v0, vs0, d0, ds0, p0, q0, hargs0, rfl, rfl, h0, r0⟩ := trodAll_cons hA
  obtain ⟨v1, vs1, d1, ds1, p1, q1, hargs1, rfl, rfl, h1, r1⟩ := trodAll_cons r0
  obtain ⟨D, rfl, rfl⟩ := trodAll_nil r1
  subst D
  subst hargs1
  obtain rfl : args = #[v0, v1] := by cases args; simp_all
  obtain ⟨rfl, rfl⟩ := trodVars_none hV
  have hbk := of_decide_eq_true hk
  simp only [List.append_nil, List.cons_append, List.nil_append, Rows.uptoBulkAll] at hbk
  have k0 := h0
  have lt0 : ∀ x ∈ p0, x.block < W.heap.size := by obtain ⟨m, hm⟩ := k0; exact DataW.trod_lt m _ _ _ hm
  obtain ⟨f0, hf0⟩ := h0
  obtain ⟨s0, ⟨A, F⟩, -⟩ := yL f0 Tryz.underlying9 H enc W f0 _ _ (Nat.le_refl _) hf0 (fun n hn => by have := List.all_eq_true.1 hsz n (DataW.weights_mem_each (j := 0) rfl rfl n hn); simpa using this) (by simp only; omega)
  obtain ⟨z0, rfl⟩ := okWide_string Tryz.underlying9 (hval 0 9 _ rfl rfl)
  simp [Value.cells] at A
  subst A
  have k1 := h1
  have lt1 : ∀ x ∈ p1, x.block < W.heap.size := by obtain ⟨m, hm⟩ := k1; exact DataW.trod_lt m _ _ _ hm
  obtain ⟨f1, hf1⟩ := h1
  obtain ⟨l1, ⟨u1, hu1, hsl1, hb1⟩, -⟩ := QJ f1 H enc W f1 _ _ (Nat.le_refl _) hf1 (fun n hn => by have := List.all_eq_true.1 hsz n (DataW.weights_mem_each (j := 1) rfl rfl n hn); simpa using this) (by simp only; omega)
  obtain ⟨a1, n1, c1, rfl⟩ := okWide_slice Tryz.underlying22 (hval 1 22 _ rfl rfl)
  simp [Value.cells] at hu1
  subst hu1
  obtain ⟨I, hz1⟩ := unU hsl1
  refine (CX z0 I (by omega) (fun t ht => Nat.le_trans (hz1 t ht) (by decide)) hG F).mono fun e W' ⟨v, he, hv, bel⟩ => ?_
  subst he hv
  exact ⟨_, rfl, _, _, _, [], _, [], hW', trodAll_mk1 (shut_bool Tryz.underlying4 _), (trodAll_cons_mk (Below.trod OD (by kernel_rfl) (of_decide_eq_true (by kernel_rfl)) k0 bel.below lt0) (trodAll_cons_mk (Below.trod OD (by kernel_rfl) (of_decide_eq_true (by kernel_rfl)) k1 bel.below lt1) trodAll_mk0)), rfl, bel.below.frame _, fun h => by cases h⟩
noncomputable def vI (os : Os) : World := World.holding Tryz.prog os ⟨#[], #[], []⟩
theorem VP (os : Os) : laidMet Tryz.prog Rows.rxQuotesUptoRow.laid ((vI os).forCall (fun _ _ => 0) ⟨#[], #[.string ByteArray.empty, .slice none 0 0], []⟩).memory :=
  laidMet_of_run' 8 (by kernel_rfl) (by kernel_rfl)
theorem reads (os : Os) {H : Type} (enc : TypeId × Value → H) : ∃ places, DataW.whole enc Tryz.prog ((vI os).forCall (fun _ _ => 0) ⟨#[], #[.string ByteArray.empty, .slice none 0 0], []⟩).memory Tryz.f3.params.toList Rows.rxQuotesSpec.vars false (#[.string ByteArray.empty, .slice none 0 0] : Array Value).toList 8 = some ([.lit (.string []), .nil], [], places) :=
  ⟨[], by kernel_rfl⟩
set_option maxRecDepth 100000 in
theorem lifted (os : Os) (started : os.Started) (H : Type) (enc : TypeId × Value → H) (F : Stop.Interp) :
    ReturnsInHanded {} Tryz.checked os 3 .any ((Rows.OpenSpec.upto Rows.rxQuotesSpec).preRow enc Tryz.prog Tryz.f3 Rows.rxQuotesUptoRow.domain false Rows.rxQuotesUptoRow.laid) (((Rows.OpenSpec.upto Rows.rxQuotesSpec).at F).post enc Tryz.prog Tryz.f3 false true false false) := by
  obtain ⟨places, hx⟩ := reads os enc
  refine returnsInHanded_of_row (C := Tryz.checked) (s := (Rows.OpenSpec.upto Rows.rxQuotesSpec)) own started (by kernel_rfl) Tryz.func3
    (witness_row_at (enc := enc) (C := Tryz.checked) false (vI os) #[.string ByteArray.empty, .slice none 0 0] rfl (by kernel_rfl) (by kernel_rfl) (by kernel_rfl)
      (OpenSpec.preRow_of_cond 8 hx (by kernel_rfl) (fun k hk => by cases hk; kernel_rfl) (by kernel_rfl) (VP os))) ?_
  intro W base args ds gs before hval hW _ hk hsz hL hsh _
  exact XE H enc W base args ds gs before hval hW (hk _ rfl) hsz (Tryz.laysM143.s1_3 W hsh)
theorem rxQuotes_holds : Rows.RxQuotesUptoSaid :=
  OpenClaim.holds_of_cond 3 Tryz.f3 rfl rfl rfl rfl rfl rfl rfl ⟨rfl, rfl, rfl, rfl, rfl⟩ rfl rfl rfl rfl rfl (by kernel_rfl) Tryz.func3 (by kernel_rfl)
    (of_decide_eq_true (by kernel_rfl)) (by unfold Func.isWrapper; first | (rw [if_pos (by decide +kernel)]; kernel_rfl) | (rw [if_neg (by decide +kernel)]; exact ⟨rfl, rfl⟩))
    (fun os started H enc _ F => by rw [OpenClaim.pre_eq_preRow]; exact lifted os started H enc F)
#print axioms rxQuotes_holds
end Go.Proofs.YtidpigbinpaaeaaGreat
