/- IndexSplits holds of every list of label sets and any two lists of matchers whose values and letters are together at most 1048576 (the form Upto): what holds of matchers together is what holds of the one part and of the other; of a matcher and its opposite every set is in just one. Condition: the variable internal/bytealg.MaxLen holds a whole number, as the program's text lays it. -/
import Derived.Test.YtidpigbinpaaeaaGreatYkE
set_option linter.unusedSectionVars false
set_option linter.unusedSimpArgs false
set_option linter.unusedVariables false
namespace Go.Proofs.YtidpigbinpaaeaaGreat
open Go.RowKit Go.W
attribute [local irreducible] Decidable.decide
theorem qC : cX Tryz.prog 78 := ⟨_, Tryz.func78, by kernel_rfl, by kernel_rfl⟩
theorem QM : cX Tryz.prog 98 := ⟨_, Tryz.func98, by kernel_rfl, by kernel_rfl⟩
theorem QK : cX Tryz.prog 99 := ⟨_, Tryz.func99, by kernel_rfl, by kernel_rfl⟩
noncomputable def BV (s : ByteArray) (ex : PS → PX Rx) (st : PS) : PX Rx := kP s ex (s.size + 1) [] false st
structure AtG where
  f : Nat
  sx : PS
  l : List Rx
  ah : Bool
  n : Nat
  qa : Option Addr
  qc : Nat
  qo : Option Nat
  bs : List Nat
  na : Option Addr
  nc : Nat
  no : Option Nat
structure AtI (w wr : World) (b : Nat) (s : ByteArray) (ex : PS → PX Rx) (st : PS) (ob : Option Nat) (b2 : Nat) (x : AtG) : Prop where
  hr : RdAt wr b s x.sx x.na x.nc x.no
  mv : Mv s st x.sx
  eq : BV s ex st = kP s ex x.f x.l x.ah x.sx
  hf : s.size + 1 ≤ x.f + x.sx.pos
  kt : ∃ cs, OwnS wr 71 9 x.qa x.n x.qc cs x.qo ∧ OTs x.l wr cs x.bs
  fr : Fr w (x.qo.toList ++ x.bs)
  len : x.l.length + st.pos ≤ x.sx.pos
  ahl : x.ah = true → x.l ≠ []
  nb : NB w ob x.no
  hb2 : wr.heap[b2]? = some (.cells #[iv 0, .int .i32 0, .slice none 0 0, iv 0, iv 0, .bool false, iv 0, .string ByteArray.empty, .slice none 0 0] 71 (0, 0))
  g2 : Ge w (some b2)
  a2 : b2 ∉ x.qo.toList ++ x.bs
theorem IJ {w : World} {e : TypeId} {sz : Nat} {a : Option Addr} {n c : Nat} {xs : List Value} {o : Option Nat} (h : OwnS w e sz a n c xs o) : ∀ g, g ∈ o.toList → ∃ cs, w.heap[g]? = some (.cells cs e (0, 0)) := fun g hg => by
  rcases h.2 with ⟨_, _, h5⟩ | ⟨g', _, cur, hg2, _, hb, _⟩
  · rw [h5] at hg; cases hg
  · rw [hg2] at hg
    rw [List.mem_singleton.1 hg]; exact ⟨_, hb⟩
mutual
theorem OT.types : ∀ {x : Rx} {w : World} {vs : List Value} {bs : List Nat}, OT x w vs bs → ∀ g, g ∈ bs → ∃ cs T, w.heap[g]? = some (.cells cs T (0, 0)) ∧ (T = 71 ∨ T = 135)
  | .mk k r rs mn mx lz cp nm ks, w, vs, bs, h => by
    rw [OT] at h
    obtain ⟨ra, rc, rb, ka, kc, kb, cs, bk, h1, h2, h3, h4, rfl, h5⟩ := h
    intro g hg
    rcases List.mem_append.1 hg with hg | hg
    · obtain ⟨c, hc⟩ := IJ h2 g hg; exact ⟨c, _, hc, .inr rfl⟩
    · rcases List.mem_append.1 hg with hg | hg
      · obtain ⟨c, hc⟩ := IJ h3 g hg; exact ⟨c, _, hc, .inl rfl⟩
      · exact OTs.types h4 g hg
theorem OTs.types : ∀ {l : List Rx} {w : World} {cs : List Value} {bs : List Nat}, OTs l w cs bs → ∀ g, g ∈ bs → ∃ cs T, w.heap[g]? = some (.cells cs T (0, 0)) ∧ (T = 71 ∨ T = 135)
  | [], w, cs, bs, h => by rw [OTs] at h; rw [h.2]; exact fun g hg => by cases hg
  | x :: l, w, cs, bs, h => by
    rw [OTs] at h
    obtain ⟨vs, cs', b1, b2, h1, rfl, h3, h4⟩ := h
    intro g hg
    rcases List.mem_append.1 hg with hg | hg
    · exact OT.types h3 g hg
    · exact OTs.types h4 g hg
end
theorem nm_rd {w : World} {b : Nat} {s : ByteArray} {st : PS} {a : Option Addr} {c : Nat} {ob : Option Nat} {qa : Option Addr} {n qc : Nat} {cs : List Value} {qo : Option Nat} {l : List Rx} {bs : List Nat} (hR : RdAt w b s st a c ob) (hO : OwnS w 71 9 qa n qc cs qo) (hT : OTs l w cs bs) : ∀ q, q ∈ qo.toList ++ bs → q ∉ b :: ob.toList := fun q hq hm => by
  have h1 : ∃ cs T, w.heap[q]? = some (.cells cs T (0, 0)) ∧ (T = 71 ∨ T = 135) := by
    rcases List.mem_append.1 hq with hq | hq
    · obtain ⟨c, hc⟩ := IJ hO q hq; exact ⟨c, _, hc, .inl rfl⟩
    · exact hT.types q hq
  obtain ⟨c1, T, h1, hTT⟩ := h1
  rcases List.mem_cons.1 hm with rfl | hm
  · rw [hR.blk] at h1
    injection h1 with h1
    injection h1 with _ h1
    rw [← h1] at hTT
    exact absurd hTT (by decide +kernel)
  · obtain ⟨c2, h2⟩ := IJ hR.own q hm
    rw [h2] at h1
    injection h1 with h1
    injection h1 with _ h1
    rw [← h1] at hTT
    exact absurd hTT (by decide +kernel)
theorem NP {w2 : World} {q : Nat} {o o2 : Option Nat} {bs bx : List Nat} (h : q ∉ o.toList ++ bs) (hq : q < w2.heap.size) (hx : ∀ b, b ∈ bx → q ≠ b) (hob : o2 = o ∨ ∃ g, o2 = some g ∧ w2.heap.size ≤ g) : q ∉ o2.toList ++ (bs ++ bx) := fun hm => by
  rcases List.mem_append.1 hm with hm | hm
  · rcases hob with rfl | ⟨g, rfl, hg⟩
    · exact h (List.mem_append_left _ hm)
    · rw [List.mem_singleton.1 hm] at hq; omega
  · rcases List.mem_append.1 hm with hm | hm
    · exact h (List.mem_append_right _ hm)
    · exact hx q hm rfl
theorem pS {w w' : World} {e : TypeId} {sz : Nat} {a : Option Addr} {n c k g : Nat} {c1 c2 vs : List Value} {ob : Option Nat} {cur : Array Value} {U : TypeId} (h : OwnS w e sz a n c (c1 ++ c2) ob) (hg : ob = some g) (hb : w.heap[g]? = some (.cells cur U (0, 0))) (hc1 : c1.length = k * sz) (hk : k < n) (hc2 : c2.length = sz) (hv : vs.length = sz)
    (hb' : w'.heap[g]? = some (.cells (cur.toList.take (0 + k * sz) ++ vs ++ cur.toList.drop (0 + k * sz + sz)).toArray U (0, 0))) : OwnS w' e sz a n c (c1 ++ vs) ob := by
  have h1 := OwnS.put h hg hb (o := 0 + k * sz) (by omega) hk hv hb'
  rw [Nat.zero_add, ← hc1, put_end (by omega)] at h1
  exact h1
theorem RX {w : World} {b : Nat} {s : ByteArray} {st : PS} {a : Option Addr} {c : Nat} {ob : Option Nat} {lo hi : Int} {nn : Nat} (hR : RdAt w b s st a c ob) (hs : s.size ≤ 1000000) (hlt : st.pos < s.size) (hrp : oW (s.extract st.pos s.size) = (lo, hi, nn)) :
    Calls Tryz.prog 98 #[.pointer (some ⟨b, 0, none⟩)] w (Ret fun v w' => v = .tuple #[iv lo, iv hi, iv (nn : Nat)] ∧ Evo [] w w') := by
  have h := RY hR hs hlt
  rw [hrp] at h
  exact h
theorem ap_nm {q : Nat} {o : Option Nat} {l : List Nat} (h : q ∉ o.toList ++ l) : Apart (some q) o := fun g h1 h2 => by cases h1; exact h (List.mem_append_left _ (by simp [h2]))
theorem OS {b : Nat} {o : Option Nat} : ∀ y, y ∈ [b] → y ∈ b :: o.toList := fun y hy => by rw [List.mem_singleton.1 hy]; simp
theorem tZ {ex : PS → PX Rx} {w : World} {b : Nat} {s : ByteArray} {st : PS} {a : Option Addr} {c : Nat} {ob : Option Nat} (hex : st.opn < 250 → vN b s ex (st.opn + 1)) (hR : RdAt w b s st a c ob) (hs : s.size ≤ 4096) (hop : st.opn ≤ 250) (hb : Bd s st.pos) (hnl : st.names.length ≤ 100) (hG : Glb w) (hGo : Apart (some pM) ob) :
    Calls Tryz.prog 76 #[.pointer (some ⟨b, 0, none⟩)] w (RetP (UC b s (BV s ex) st ob w) (ExPan b (BV s ex) st ob w)) := by
  have hap := hR.ap; have hgb : pM ∉ [b] := fun h => hR.glb hG (List.mem_singleton.1 h).symm; have hgw := gm_nm hgb hGo; have hbw : Lt w (some b) := Lt.blk hR.blk; have how : Lt w ob := Lt.own hR.own; refine aT (N := 115) Tryz.func76 rfl rfl rfl ?_; refine csr (cF rfl eJ fun b2 w1 m5 i4 i5 => ?_); have m6 := i4; have d6 := Apart.new (Lt.blk hR.blk) i4; have m7 := Ge.new (Evo.refl (b :: ob.toList) w) i4; refine wnn (csr (wan (csr (wan (aI (bC ?_))))))
  refine cN (α := AtG) (⟨s.size + 1, st, [], false, 0, none, 0, none, [], a, c, ob⟩) (fun x => [(3, .slice x.qa x.n x.qc), (4, .bool x.ah)]) [(0, _), (2, _)] (fun x wr => Evo (b :: ob.toList) w wr ∧ (AtI w wr b s ex st ob b2 x)) (fun x => x.f) ⟨rfl, rfl, trivial⟩ ⟨rfl, rfl, trivial⟩ ⟨((Evo.refl (b :: ob.toList) w).then i5), ⟨⟨(i5.blk0 hR.blk), (hR.own.evo0 i5), hR.ne⟩, ⟨rfl, Nat.le_refl _, hb, hnl⟩, rfl, Nat.le_add_right _ _, ⟨[], OwnS.nil _ _ _, OTs.nil _⟩, Fr.nil _, (by show 0 + st.pos ≤ st.pos; omega), (fun h => by cases h), .inl rfl, m5, m7, List.not_mem_nil⟩⟩ ?_
  rintro ⟨f, sx, l, ah, n, qa, qc, qo, bs, na, nc, no⟩ wr11 ⟨d0, ⟨E, hmv, heq, hfi, ⟨cs, hown, hts⟩, hfr, hlen, hahl, hnb, hb2, hg2, ha2⟩⟩; show CW _ _ _ _ [(3, .slice qa n qc), (4, .bool ah), (0, _), (2, _)] _
  try dsimp only at E hmv heq hfi cs hown hts hfr hlen hahl hnb hb2 hg2 ha2
  have a0 : Apart (some b) qo := kL hbw (pV hfr); have g2 := yB hown E.own (by decide +kernel); have a6 : Apart (some b) (some b2) := kL hbw hg2; have g3 := HS hb2 E.own (by decide +kernel); have d6 := ap_nm ha2; have hGo1 := fW hGo (TE hG) hnb; have hpl := hmv.bd.le; have hmle := hmv.le; have nmq := nm_rd E hown hts; refine aI (aI ?_); refine eP (by kernel_rfl) (by kernel_rfl) ?_; refine bJ (fun _ A => aY rfl) ?_; refine bJ (fun _ A => aG rfl) ?_; refine bJ (fun _ A => aD rfl bB) ?_; refine bJ (fun _ A => aQ rfl aX (aV (A.blk0 E.blk) rfl)) ?_; refine bJ (fun _ A => aY rfl) ?_; refine bJ (fun _ A => aG rfl) ?_; refine bJ (fun _ A => aD rfl cS) ?_; refine bJ (fun _ A => aQ rfl cZ (aV (A.blk0 E.blk) rfl)) ?_; refine bJ (fun _ A => cD rfl Tryz.underlying9 rfl) ?_; refine bJ (fun _ A => cP rfl rfl) ?_; refine bJ (fun _ A => aY rfl) ?_; refine kN (t := 21) rfl (fun k5 => ?_) (fun k5 => ?_)
  ·refine qlg ?_; refine bJ (fun _ A => aY rfl) ?_; refine qlg ?_; refine bJ (fun _ A => aG rfl) ?_; refine qlg ?_; refine bJ (fun _ A => aD rfl cS) ?_; refine qlg ?_; refine bJ (fun _ A => aQ rfl cZ (aV (A.blk0 E.blk) rfl)) ?_; refine qlg ?_; refine bJ (fun _ A => aY rfl) ?_; refine qlg ?_; refine bJ (fun _ A => aG rfl) ?_; refine qlg ?_; refine bJ (fun _ A => aD rfl bB) ?_; refine qlg ?_; refine bJ (fun _ A => aQ rfl aX (aV (A.blk0 E.blk) rfl)) ?_; refine qlg ?_; refine bJ (fun _ A => eD (n := sx.pos) rfl rfl Tryz.underlying9 rfl (by omega)) ?_; refine qlg ?_; refine bJ (fun _ A => fJ rfl rfl) ?_; refine bJ (fun _ A => dX rfl rfl) ?_; refine bJ (fun _ A => aY rfl) ?_; refine kN (t := 33) rfl (fun k6 => ?_) (fun k6 => ?_)
   ·refine qlg ?_; refine bJ (fun _ A => aY rfl) ?_; refine qlg ?_; refine bJ (fun _ A => aG rfl) ?_; refine qlg ?_; refine bJ (fun _ A => aD rfl cS) ?_; refine qlg ?_; refine bJ (fun _ A => aQ rfl cZ (aV (A.blk0 E.blk) rfl)) ?_; refine qlg ?_; refine bJ (fun _ A => aY rfl) ?_; refine qlg ?_; refine bJ (fun _ A => aG rfl) ?_; refine qlg ?_; refine bJ (fun _ A => aD rfl bB) ?_; refine qlg ?_; refine bJ (fun _ A => aQ rfl aX (aV (A.blk0 E.blk) rfl)) ?_; refine qlg ?_; refine bJ (fun _ A => eD (n := sx.pos) rfl rfl Tryz.underlying9 rfl (by omega)) ?_; refine qlg ?_; refine bJ (fun _ A => fJ rfl rfl) ?_; refine bJ (fun _ A => dX rfl rfl) ?_; refine eV (fun i6 A => aA ?_); have f5 := d0.then A; have f6 := A.blk0 E.blk; have f7 := E.own.evo0 A; have f8 := hts.evo0 A; refine bA rfl (fun k7 => ?_) (fun k7 => ?_)
    ·have hng : ¬ (s.size ≤ sx.pos ∨ sb s sx.pos = 124 ∨ sb s sx.pos = 41) := by omega
     obtain ⟨f', rfl⟩ : ∃ f', f = f' + 1 := ⟨f - 1, by omega⟩; obtain ⟨lo, hi, nn, hrp⟩ : ∃ lo hi nn, oW (s.extract sx.pos s.size) = (lo, hi, nn) := ⟨_, _, _, rfl⟩; obtain ⟨hlo0, hlo1, hhi0, hhi1, hnn⟩ := pRep_b hmv.bd (by omega) hrp; have hopx : sx.opn = st.opn := hmv.opn
     have hex' : sx.opn < 250 → vN b s ex (sx.opn + 1) := by rw [hopx]; exact hex
     refine aL (aA (bC (csr (aB ?_)))); refine aJ (vs := [_]) QM rfl (RX ⟨f6, f7, E.ne⟩ (by omega) (by omega) hrp) rfl ?_; rintro _ o7 ⟨rfl, c0⟩; have U := f5.then c0; have d3 := c0.blk0 f6; have f9 := f7.evo0 c0; have d8 := (hown.evo0 A).evo0 c0; have d9 := f8.evo0 c0; have e0 := c0.blk0 (A.blk0 hb2); refine aB (aC (bK rfl rfl) ?_); refine aC (bK rfl rfl) ?_; refine aC (bK rfl rfl) ?_; refine bR (bR (wan (aI (csr (aB (wel ?_)))))); refine wnn (bA rfl (fun k8 => ?_) (fun k8 => ?_))
     ·obtain rfl : nn = 0 := by omega
      refine csr (aB ?_); refine cE (vs := [_]) QK rfl (piece_ok hex' ⟨d3, f9, E.ne⟩ hs (by omega) (by omega) hmv.bd hmv.nm (hG.evo U hgw) hGo1) rfl ?_ ?_
      ·intro pv wp hpp; obtain ⟨e9, hpe, rfl, hpw⟩ := hpp; exact And.intro rfl ⟨_, rfl, _, heq.trans (alt_pcE hng hrp hpe), rfl, (U).step hpw (qG hnb)⟩
      rintro rv m8 ⟨g, st2, hx, d4, hmv2, hp2, hl2, na3, nc3, no3, ka, kc, ko, cs2, bs2, rfl, hk1, hk2, hk3, g4, hnb3⟩; have hcall9 := d4; have f0 := U; have hl1 := qF d8 d9; have hnb4 := hnb.older hnb3 f0.size; have hkg : ∀ q, q ∈ ko.toList ++ bs2 → _ ≤ q := hk3.ge; have hb2l := dK e0
      have n5 : Apart ko qo := fun q h1 h2 => by have h3 := hkg q (List.mem_append_left _ (by simp [h1])); have h4 := hl1 q (List.mem_append_left _ (by simp [h2])); omega
      have n6 : Apart ko (some b2) := fun q h1 h2 => by cases h2; have h3 := hkg b2 (List.mem_append_left _ (by simp [h1])); omega
      have i7 := d8.evo d4 (fun q hq => nmq q (List.mem_append_left _ (by simp [hq]))); have i8 := d4.blk e0 (EF a6.symm g3); have k9 := yB i7 g4.own (by decide +kernel); refine wan (csr (aB (aB ?_))); have l0 := hk2; have hVV := (Evo.refl [] m8); have hb29 := dK i8
      refine cT rfl rfl rfl rfl nH i7 (Src.ofOwn hk1 hk2.one) (by have h8 := tN hown hts; have h9 := hmv2.bd.le; omega) fun qa2 qc2 o8 qo2 m9 c3 hob41 => ?_
      have l1 := (d9.evo d4 (fun q hq => nmq q (List.mem_append_right _ hq))).evo c3 (sW hfr)
      have l2 := hk2.evo c3 (fun q hq h => by have h8 := hkg q (List.mem_append_right _ hq); have h9 := hl1 q (List.mem_append_left _ h); omega)
      have hob2 := hob41; have hFr9 := Fr.grow hfr hl1 hk3.right (OTs.lt l0) f0.size (Nat.le_trans hcall9.size hVV.size) hob2
      have hnin := NP ha2 hb29 (fun q hq e => by have h8 := hkg q (List.mem_append_right _ hq); omega) hob2
      refine wan (csr (aB (aC (bD rfl Tryz.underlying69 rfl) ?_))); refine aC (gF rfl rfl) ?_; refine wan (cJ (bH (cI (aW ?_)))); refine ⟨⟨f', st2, l ++ g, decide (0 < (g.length : Int)), n + g.length, qa2, qc2, qo2, bs ++ bs2, na3, nc3, no3⟩, ?_, ⟨rfl, rfl, trivial⟩, ⟨rfl, rfl, trivial⟩, ((U.step d4 (qG hnb)).step c3 (pV hfr).mem), ?_⟩
      · (try dsimp only); show f' < f' + 1; omega
      try dsimp only
      refine ⟨⟨(c3.blk g4.blk a0.nmem), (g4.own.evo c3 k9.symm.own), g4.ne⟩, ⟨hmv2.opn.trans hmv.opn, Nat.le_trans hmv.le hmv2.le, hmv2.bd, hmv2.nm⟩, heq.trans ((alt_pc hng hrp hx).trans ?_), (by show s.size + 1 ≤ f' + st2.pos; omega), ⟨_, m9, OTs.app l1 l2⟩, hFr9, (by show (l ++ g).length + st.pos ≤ st2.pos; rw [List.length_append]; omega), ?_, hnb4, (c3.blk i8 d6.nmem), hg2, hnin⟩
      · rw [show decide (0 < (g.length : Int)) = decide (0 < g.length) from decide_eq_decide.2 (by omega)]
      · intro h h9; have h8 : 0 < (g.length : Int) := of_decide_eq_true h; have h7 := (List.append_eq_nil_iff.1 h9).2; rw [h7] at h8; exact absurd h8 (by decide +kernel)
     have hnn0 : nn ≠ 0 := by omega
     refine aL (aA (aI (csr (aB (aC (fP rfl) ?_))))); refine aB (xU (t := 63) rfl (fun V => ?_) (fun V => ?_))
     ·replace V := congrArg Bool.not V; simp only [Bool.not_not, Bool.not_true, Bool.not_false] at V; subst V
      refine aN (aN (bW (aB (aN (aN (bW (aB (aN (aN (aN (dT ?_))))))))))); refine dT ?_; refine dT ?_; refine aN (bW (wnn (dB rfl ?_))); refine aF (cE (vs := [_]) cO rfl (eG 82) rfl ?_ ?_)
      ·intro pv wp hpp; obtain ⟨rfl, hpw⟩ := hpp; exact And.intro rfl ⟨_, rfl, _, heq.trans (AU hng hrp hnn0 (.inl rfl)), rfl, (U).then hpw⟩
      intro _ _ hF; exact hF.elim
     replace V := congrArg Bool.not V; simp only [Bool.not_not, Bool.not_true, Bool.not_false] at V; subst V
     refine aS (aB (aS (aC (gF rfl rfl) ?_))); refine bM (aB (bF (t := 67) rfl (fun l3 => ?_) (fun l3 => ?_)))
     ·refine aN (aN (bW (aB (aN (aN (aN (dT ?_))))))); refine dT ?_; refine dT ?_; refine aN (bW (wnn (dB rfl ?_))); refine aF (cE (vs := [_]) cO rfl (eG 82) rfl ?_ ?_)
      ·intro pv wp hpp; obtain ⟨rfl, hpw⟩ := hpp; exact And.intro rfl ⟨_, rfl, _, heq.trans (AU hng hrp hnn0 (.inr (by omega))), rfl, (U).then hpw⟩
      intro _ _ hF; exact hF.elim
     refine aS (aB (aS (aC (gF rfl rfl) ?_))); refine bM (aB (bF (t := 71) rfl (fun l4 => ?_) (fun l4 => ?_)))
     ·refine aN (aN (aN (dT ?_))); refine dT ?_; refine dT ?_; refine aN (bW (wnn (dB rfl ?_))); refine aF (cE (vs := [_]) cO rfl (eG 82) rfl ?_ ?_)
      ·intro pv wp hpp; obtain ⟨rfl, hpw⟩ := hpp; exact And.intro rfl ⟨_, rfl, _, heq.trans (AU hng hrp hnn0 (.inr (by omega))), rfl, (U).then hpw⟩
      intro _ _ hF; exact hF.elim
     refine aS (aB (aS (aC (dV rfl rfl) ?_))); refine aS (aB (bF (t := 74) rfl (fun l5 => ?_) (fun l5 => ?_)))
     ·refine aS (aB (aS (aB (aS (aC (cP rfl rfl) ?_))))); refine aS (bW (bM (wnn (bA rfl (fun l6 => ?_) (fun l6 => ?_)))))
      ·refine aF (cE (vs := [_]) cO rfl (eG 82) rfl ?_ ?_)
       ·intro pv wp hpp; obtain ⟨rfl, hpw⟩ := hpp; exact And.intro rfl ⟨_, rfl, _, heq.trans (AU hng hrp hnn0 (.inr (by omega))), rfl, (U).then hpw⟩
       intro _ _ hF; exact hF.elim
      refine aL (aA (aI ?_)); obtain ⟨hnb1, hnb2⟩ := hnn hnn0
      have hcc : ¬ (true = false ∨ 1000 < lo ∨ 1000 < hi ∨ (0 ≤ hi ∧ hi < lo)) := by rintro (h | h | h | ⟨h, h'⟩); cases h; omega; omega; omega
      obtain ⟨l', x, hlx, hdl, hgl⟩ := UK (hahl rfl); have hne := tN hown hts
      have n1 : n = l'.length + 1 := by rw [hne, hlx]; simp
      refine aF (aB (aC (aG rfl) (wfl rfl bB rfl aX d3 rfl (aB ?_)))); refine aC (aK rfl rfl (by omega) (by omega)) ?_; refine aC (aG rfl) (aC (aD rfl bB) ?_); refine bE rfl rfl (by first | rfl | assumption) bZ d3 rfl fun o9 g0 d5 => ?_
      have l7 := U.step d5 (fun y hy => .inl (by rw [List.mem_singleton.1 hy]; simp))
      have l8 := d9.evo d5 (fun q hq h => nmq q (List.mem_append_right _ hq) (OS q h))
      try simp only [cG, Nat.reduceAdd] at g0
      refine wnn (csr (aB (aC (aG rfl) (aC (aD rfl dS) (wfl rfl qQ rfl gD g0 rfl (wan (aI (csr (aB ?_))))))))); refine aJ (vs := [_, _]) iC rfl (oA (st := iP sx (sx.pos + nn)) ⟨g0, (f9.evo d5 E.ap.symm.own1), E.ne⟩ (by omega) 63 (by decide)) rfl ?_; rintro _ d7 ⟨rfl, e1, I⟩
      have e2 := l7.step e1 (fun y hy => .inl (by rw [List.mem_singleton.1 hy]; simp))
      have a1 := (d8.evo d5 a0.symm.own1).evo e1 ((by first | exact a0.symm.own1 | exact a0.symm.nmem1)); have e3 := l8.evo e1 (fun q hq h => nmq q (List.mem_append_right _ hq) (OS q h)); have e4 := e1.blk (d5.blk e0 a6.symm.nmem1) ((by first | exact a6.symm.own1 | exact a6.symm.nmem1)); refine wnn (bA rfl (fun H => ?_) (fun H => ?_))
      ·rw [if_pos H] at I; refine aF (aB (aC (fP rfl) ?_)); refine wan (csr (aB (aC (bD rfl Tryz.underlying69 rfl) ?_))); refine aC (dG rfl rfl (by omega) (by omega)) ?_; refine wan (aI ?_); have hts16 := e3; rw [hlx] at hts16; obtain ⟨c1, c2, b1, bx, hcs, hbs, ht1, ht2⟩ := OTs.parts hts16; have hl16 := qF a1 e3; have a7 := e2; have hb216 := dK e4; subst hcs; subst hbs; have hX := ht2.one'; obtain ⟨ra, rc, ka, kc, rfl⟩ := id hX.nine; obtain ⟨gq, hgq, haq, hcq⟩ := (a1).cells (by omega); have hcl := rX hcq; have hc1l := ht1.len; rw [hc1l] at hcl; refine aF (aB (aB (aB (aB (aB (aB (aB ?_))))))); refine aC (eI (n := l'.length) rfl rfl haq (by omega) dN (by omega)) ?_; refine aC (cY rfl bV aU (vs := [_, _, _, _, _, _, _, _, _]) rfl (hcl.evo (Evo.refl [] d7) (by simp))) ?_; refine bL (vs := [_]) rfl cU rfl rfl rfl rfl fun a8 p1 l9 i9 c4 => ?_; have g1 := a1.evo0 c4; refine aC (cA (vs := [(0, _), (3, _), (4, _), (5, _), (8, _)]) dE rfl (cells := [_, _, _, _, _, _, _, _, _]) rfl) ?_; have W := (Ge.new (Evo.refl [] d7) i9); refine aC (eI (n := l'.length) rfl rfl haq (by omega) dN (by omega)) ?_
       obtain ⟨g9, cur9, hg9, hx9, hcu9, hcs9, -⟩ := g1.at (by omega)
       rw [haq] at hx9; cases hx9
       refine mM rfl rfl aU rfl (fun u hu => AllOne.mem (l := [_, _, _, _, _, _, _, _, _]) ⟨rfl, rfl, rfl, rfl, rfl, rfl, rfl, rfl, rfl, trivial⟩ u hu) hcu9 (by have h8 := (g1).le; rw [hcs9]; omega) fun p2 m0 a2 => ?_
       replace a2 := lF hg9 a2; have m1 := pS g1 hg9 hcu9 hc1l (by omega) rfl rfl m0; have g5 := ((Evo.refl qo.toList d7).then c4).step a2 (fun y hy => .inl hy); have j0 := a2.blk (c4.blk0 e4) d6.nmem; refine wnn (aF (bR (aP (aO (aW ?_))))); refine ⟨⟨f', iP sx (sx.pos + nn + 1), l' ++ [pO lo hi (!sx.now.lazy) x], false, n, qa, qc, qo, b1 ++ (a8 :: bx), na, nc, no⟩, ?_, ⟨rfl, rfl, trivial⟩, ⟨rfl, rfl, trivial⟩, ((e2.then c4).step a2 (pV hfr).mem), ?_⟩
       · (try dsimp only); show f' < f' + 1; omega
       try dsimp only
       have hRp := IP (lo := lo) (hi := hi) (z := !sx.now.lazy) (l9.evo a2 (Apart.new (Lt.own a1) i9).symm.own) hX g5 (fun q hq => sW hfr q (List.mem_append_right _ hq)); have hge110 := W _ rfl
       refine ⟨⟨(a2.blk (c4.blk0 I.blk) a0.nmem), ((I.own.evo0 c4).evo a2 g2.symm.own), I.ne⟩, ⟨hmv.opn, (by show st.pos ≤ sx.pos + nn + 1; omega), H.asc (by decide) hnb2, hmv.nm⟩, heq.trans ((WU hng hrp hnn0 hcc H).trans (by rw [hdl, hgl]; rfl)), (by show s.size + 1 ≤ f' + (sx.pos + nn + 1); omega), ⟨_, m1, OTs.app (ht1.evo g5 (fun q hq => sW hfr q (List.mem_append_left _ hq))) (OTs.single hRp)⟩, Fr.insert hfr hl16 hge110 a7.size, ?_, (fun h => by cases h), hnb, j0, hg2, ?_⟩
       · show (l' ++ [_]).length + st.pos ≤ sx.pos + nn + 1; rw [hlx] at hlen; rw [List.length_append] at hlen ⊢; simp at hlen ⊢; omega
       · intro hm; rcases List.mem_append.1 hm with hm | hm
         · exact ha2 (List.mem_append_left _ hm)
         · rcases List.mem_append.1 hm with hm | hm
           · exact ha2 (List.mem_append_right _ (List.mem_append_left _ hm))
           · rcases List.mem_cons.1 hm with hm | hm
             · omega
             · exact ha2 (List.mem_append_right _ (List.mem_append_right _ hm))
      rw [if_neg H] at I; refine aL (aA (csr (aB (aC (bD rfl Tryz.underlying69 rfl) ?_)))); refine aC (dG rfl rfl (by omega) (by omega)) ?_; refine wan (aI ?_); have hts16 := e3; rw [hlx] at hts16; obtain ⟨c1, c2, b1, bx, hcs, hbs, ht1, ht2⟩ := OTs.parts hts16; have hl16 := qF a1 e3; have a7 := e2; have hb216 := dK e4; subst hcs; subst hbs; have hX := ht2.one'; obtain ⟨ra, rc, ka, kc, rfl⟩ := id hX.nine; obtain ⟨gq, hgq, haq, hcq⟩ := (a1).cells (by omega); have hcl := rX hcq; have hc1l := ht1.len; rw [hc1l] at hcl; refine aF (aB (aB (aB (aB (aB (aB (aB ?_))))))); refine aC (eI (n := l'.length) rfl rfl haq (by omega) dN (by omega)) ?_; refine aC (cY rfl bV aU (vs := [_, _, _, _, _, _, _, _, _]) rfl (hcl.evo (Evo.refl [] d7) (by simp))) ?_; refine bL (vs := [_]) rfl cU rfl rfl rfl rfl fun a8 n7 j1 g6 a3 => ?_; have e5 := a1.evo0 a3; refine aC (cA (vs := [(0, _), (3, _), (4, _), (5, _), (8, _)]) dE rfl (cells := [_, _, _, _, _, _, _, _, _]) rfl) ?_; have W := (Ge.new (Evo.refl [] d7) g6); refine aC (eI (n := l'.length) rfl rfl haq (by omega) dN (by omega)) ?_
      obtain ⟨g9, cur9, hg9, hx9, hcu9, hcs9, -⟩ := e5.at (by omega)
      rw [haq] at hx9; cases hx9
      refine mM rfl rfl aU rfl (fun u hu => AllOne.mem (l := [_, _, _, _, _, _, _, _, _]) ⟨rfl, rfl, rfl, rfl, rfl, rfl, rfl, rfl, rfl, trivial⟩ u hu) hcu9 (by have h8 := (e5).le; rw [hcs9]; omega) fun n8 j2 J => ?_
      replace J := lF hg9 J; have j3 := pS e5 hg9 hcu9 hc1l (by omega) rfl rfl j2; have g7 := ((Evo.refl qo.toList d7).then a3).step J (fun y hy => .inl hy); have j4 := J.blk (a3.blk0 e4) d6.nmem; refine wnn (aF (bR (aP (aO (aW ?_))))); refine ⟨⟨f', iP sx (sx.pos + nn), l' ++ [pO lo hi (sx.now.lazy) x], false, n, qa, qc, qo, b1 ++ (a8 :: bx), na, nc, no⟩, ?_, ⟨rfl, rfl, trivial⟩, ⟨rfl, rfl, trivial⟩, ((e2.then a3).step J (pV hfr).mem), ?_⟩
      · (try dsimp only); show f' < f' + 1; omega
      try dsimp only
      have hRp := IP (lo := lo) (hi := hi) (z := sx.now.lazy) (j1.evo J (Apart.new (Lt.own a1) g6).symm.own) hX g7 (fun q hq => sW hfr q (List.mem_append_right _ hq)); have hge110 := W _ rfl
      refine ⟨⟨(J.blk (a3.blk0 I.blk) a0.nmem), ((I.own.evo0 a3).evo J g2.symm.own), I.ne⟩, ⟨hmv.opn, (by show st.pos ≤ sx.pos + nn; omega), hnb2, hmv.nm⟩, heq.trans ((WV hng hrp hnn0 hcc H).trans (by rw [hdl, hgl]; rfl)), (by show s.size + 1 ≤ f' + (sx.pos + nn); omega), ⟨_, j3, OTs.app (ht1.evo g7 (fun q hq => sW hfr q (List.mem_append_left _ hq))) (OTs.single hRp)⟩, Fr.insert hfr hl16 hge110 a7.size, ?_, (fun h => by cases h), hnb, j4, hg2, ?_⟩
      · show (l' ++ [_]).length + st.pos ≤ sx.pos + nn; rw [hlx] at hlen; rw [List.length_append] at hlen ⊢; simp at hlen ⊢; omega
      · intro hm; rcases List.mem_append.1 hm with hm | hm
        · exact ha2 (List.mem_append_left _ hm)
        · rcases List.mem_append.1 hm with hm | hm
          · exact ha2 (List.mem_append_right _ (List.mem_append_left _ hm))
          · rcases List.mem_cons.1 hm with hm | hm
            · omega
            · exact ha2 (List.mem_append_right _ (List.mem_append_right _ hm))
     refine aN (aN (aN (aS (bM (bM (wnn (cM rfl ?_))))))); refine aL (aA (aI ?_)); obtain ⟨hnb1, hnb2⟩ := hnn hnn0
     have hcc : ¬ (true = false ∨ 1000 < lo ∨ 1000 < hi ∨ (0 ≤ hi ∧ hi < lo)) := by rintro (h | h | h | ⟨h, h'⟩); cases h; omega; omega; omega
     obtain ⟨l', x, hlx, hdl, hgl⟩ := UK (hahl rfl); have hne := tN hown hts
     have n1 : n = l'.length + 1 := by rw [hne, hlx]; simp
     refine aF (aB (aC (aG rfl) (wfl rfl bB rfl aX d3 rfl (aB ?_)))); refine aC (aK rfl rfl (by omega) (by omega)) ?_; refine aC (aG rfl) (aC (aD rfl bB) ?_); refine bE rfl rfl (by first | rfl | assumption) bZ d3 rfl fun n9 e6 a9 => ?_
     have j5 := U.step a9 (fun y hy => .inl (by rw [List.mem_singleton.1 hy]; simp))
     have j6 := d9.evo a9 (fun q hq h => nmq q (List.mem_append_right _ hq) (OS q h))
     try simp only [cG, Nat.reduceAdd] at e6
     refine wnn (csr (aB (aC (aG rfl) (aC (aD rfl dS) (wfl rfl qQ rfl gD e6 rfl (wan (aI (csr (aB ?_))))))))); refine aJ (vs := [_, _]) iC rfl (oA (st := iP sx (sx.pos + nn)) ⟨e6, (f9.evo a9 E.ap.symm.own1), E.ne⟩ (by omega) 63 (by decide)) rfl ?_; rintro _ c5 ⟨rfl, c6, I⟩
     have c7 := j5.step c6 (fun y hy => .inl (by rw [List.mem_singleton.1 hy]; simp))
     have L := (d8.evo a9 a0.symm.own1).evo c6 ((by first | exact a0.symm.own1 | exact a0.symm.nmem1)); have c8 := j6.evo c6 (fun q hq h => nmq q (List.mem_append_right _ hq) (OS q h)); have c9 := c6.blk (a9.blk e0 a6.symm.nmem1) ((by first | exact a6.symm.own1 | exact a6.symm.nmem1)); refine wnn (bA rfl (fun H => ?_) (fun H => ?_))
     ·rw [if_pos H] at I; refine aF (aB (aC (fP rfl) ?_)); refine wan (csr (aB (aC (bD rfl Tryz.underlying69 rfl) ?_))); refine aC (dG rfl rfl (by omega) (by omega)) ?_; refine wan (aI ?_); have hts16 := c8; rw [hlx] at hts16; obtain ⟨c1, c2, b1, bx, hcs, hbs, ht1, ht2⟩ := OTs.parts hts16; have hl16 := qF L c8; have a7 := c7; have hb216 := dK c9; subst hcs; subst hbs; have hX := ht2.one'; obtain ⟨ra, rc, ka, kc, rfl⟩ := id hX.nine; obtain ⟨gq, hgq, haq, hcq⟩ := (L).cells (by omega); have hcl := rX hcq; have hc1l := ht1.len; rw [hc1l] at hcl; refine aF (aB (aB (aB (aB (aB (aB (aB ?_))))))); refine aC (eI (n := l'.length) rfl rfl haq (by omega) dN (by omega)) ?_; refine aC (cY rfl bV aU (vs := [_, _, _, _, _, _, _, _, _]) rfl (hcl.evo (Evo.refl [] c5) (by simp))) ?_; refine bL (vs := [_]) rfl cU rfl rfl rfl rfl fun a8 o0 j7 g8 a4 => ?_; have e7 := L.evo0 a4; refine aC (cA (vs := [(0, _), (3, _), (4, _), (5, _), (8, _)]) dE rfl (cells := [_, _, _, _, _, _, _, _, _]) rfl) ?_; have W := (Ge.new (Evo.refl [] c5) g8); refine aC (eI (n := l'.length) rfl rfl haq (by omega) dN (by omega)) ?_
      obtain ⟨g9, cur9, hg9, hx9, hcu9, hcs9, -⟩ := e7.at (by omega)
      rw [haq] at hx9; cases hx9
      refine mM rfl rfl aU rfl (fun u hu => AllOne.mem (l := [_, _, _, _, _, _, _, _, _]) ⟨rfl, rfl, rfl, rfl, rfl, rfl, rfl, rfl, rfl, trivial⟩ u hu) hcu9 (by have h8 := (e7).le; rw [hcs9]; omega) fun o1 j8 M => ?_
      replace M := lF hg9 M; have j9 := pS e7 hg9 hcu9 hc1l (by omega) rfl rfl j8; have h0 := ((Evo.refl qo.toList c5).then a4).step M (fun y hy => .inl hy); have k0 := M.blk (a4.blk0 c9) d6.nmem; refine wnn (aF (bR (aP (aO (aW ?_))))); refine ⟨⟨f', iP sx (sx.pos + nn + 1), l' ++ [pO lo hi (!sx.now.lazy) x], false, n, qa, qc, qo, b1 ++ (a8 :: bx), na, nc, no⟩, ?_, ⟨rfl, rfl, trivial⟩, ⟨rfl, rfl, trivial⟩, ((c7.then a4).step M (pV hfr).mem), ?_⟩
      · (try dsimp only); show f' < f' + 1; omega
      try dsimp only
      have hRp := IP (lo := lo) (hi := hi) (z := !sx.now.lazy) (j7.evo M (Apart.new (Lt.own L) g8).symm.own) hX h0 (fun q hq => sW hfr q (List.mem_append_right _ hq)); have hge110 := W _ rfl
      refine ⟨⟨(M.blk (a4.blk0 I.blk) a0.nmem), ((I.own.evo0 a4).evo M g2.symm.own), I.ne⟩, ⟨hmv.opn, (by show st.pos ≤ sx.pos + nn + 1; omega), H.asc (by decide) hnb2, hmv.nm⟩, heq.trans ((WU hng hrp hnn0 hcc H).trans (by rw [hdl, hgl]; rfl)), (by show s.size + 1 ≤ f' + (sx.pos + nn + 1); omega), ⟨_, j9, OTs.app (ht1.evo h0 (fun q hq => sW hfr q (List.mem_append_left _ hq))) (OTs.single hRp)⟩, Fr.insert hfr hl16 hge110 a7.size, ?_, (fun h => by cases h), hnb, k0, hg2, ?_⟩
      · show (l' ++ [_]).length + st.pos ≤ sx.pos + nn + 1; rw [hlx] at hlen; rw [List.length_append] at hlen ⊢; simp at hlen ⊢; omega
      · intro hm; rcases List.mem_append.1 hm with hm | hm
        · exact ha2 (List.mem_append_left _ hm)
        · rcases List.mem_append.1 hm with hm | hm
          · exact ha2 (List.mem_append_right _ (List.mem_append_left _ hm))
          · rcases List.mem_cons.1 hm with hm | hm
            · omega
            · exact ha2 (List.mem_append_right _ (List.mem_append_right _ hm))
     rw [if_neg H] at I; refine aL (aA (csr (aB (aC (bD rfl Tryz.underlying69 rfl) ?_)))); refine aC (dG rfl rfl (by omega) (by omega)) ?_; refine wan (aI ?_); have hts16 := c8; rw [hlx] at hts16; obtain ⟨c1, c2, b1, bx, hcs, hbs, ht1, ht2⟩ := OTs.parts hts16; have hl16 := qF L c8; have a7 := c7; have hb216 := dK c9; subst hcs; subst hbs; have hX := ht2.one'; obtain ⟨ra, rc, ka, kc, rfl⟩ := id hX.nine; obtain ⟨gq, hgq, haq, hcq⟩ := (L).cells (by omega); have hcl := rX hcq; have hc1l := ht1.len; rw [hc1l] at hcl; refine aF (aB (aB (aB (aB (aB (aB (aB ?_))))))); refine aC (eI (n := l'.length) rfl rfl haq (by omega) dN (by omega)) ?_; refine aC (cY rfl bV aU (vs := [_, _, _, _, _, _, _, _, _]) rfl (hcl.evo (Evo.refl [] c5) (by simp))) ?_; refine bL (vs := [_]) rfl cU rfl rfl rfl rfl fun a8 o2 k1 h5 a5 => ?_; have e8 := L.evo0 a5; refine aC (cA (vs := [(0, _), (3, _), (4, _), (5, _), (8, _)]) dE rfl (cells := [_, _, _, _, _, _, _, _, _]) rfl) ?_; have W := (Ge.new (Evo.refl [] c5) h5); refine aC (eI (n := l'.length) rfl rfl haq (by omega) dN (by omega)) ?_
     obtain ⟨g9, cur9, hg9, hx9, hcu9, hcs9, -⟩ := e8.at (by omega)
     rw [haq] at hx9; cases hx9
     refine mM rfl rfl aU rfl (fun u hu => AllOne.mem (l := [_, _, _, _, _, _, _, _, _]) ⟨rfl, rfl, rfl, rfl, rfl, rfl, rfl, rfl, rfl, trivial⟩ u hu) hcu9 (by have h8 := (e8).le; rw [hcs9]; omega) fun o3 k2 O => ?_
     replace O := lF hg9 O; have k3 := pS e8 hg9 hcu9 hc1l (by omega) rfl rfl k2; have h6 := ((Evo.refl qo.toList c5).then a5).step O (fun y hy => .inl hy); have k4 := O.blk (a5.blk0 c9) d6.nmem; refine wnn (aF (bR (aP (aO (aW ?_))))); refine ⟨⟨f', iP sx (sx.pos + nn), l' ++ [pO lo hi (sx.now.lazy) x], false, n, qa, qc, qo, b1 ++ (a8 :: bx), na, nc, no⟩, ?_, ⟨rfl, rfl, trivial⟩, ⟨rfl, rfl, trivial⟩, ((c7.then a5).step O (pV hfr).mem), ?_⟩
     · (try dsimp only); show f' < f' + 1; omega
     try dsimp only
     have hRp := IP (lo := lo) (hi := hi) (z := sx.now.lazy) (k1.evo O (Apart.new (Lt.own L) h5).symm.own) hX h6 (fun q hq => sW hfr q (List.mem_append_right _ hq)); have hge110 := W _ rfl
     refine ⟨⟨(O.blk (a5.blk0 I.blk) a0.nmem), ((I.own.evo0 a5).evo O g2.symm.own), I.ne⟩, ⟨hmv.opn, (by show st.pos ≤ sx.pos + nn; omega), hnb2, hmv.nm⟩, heq.trans ((WV hng hrp hnn0 hcc H).trans (by rw [hdl, hgl]; rfl)), (by show s.size + 1 ≤ f' + (sx.pos + nn); omega), ⟨_, k3, OTs.app (ht1.evo h6 (fun q hq => sW hfr q (List.mem_append_left _ hq))) (OTs.single hRp)⟩, Fr.insert hfr hl16 hge110 a7.size, ?_, (fun h => by cases h), hnb, k4, hg2, ?_⟩
     · show (l' ++ [_]).length + st.pos ≤ sx.pos + nn; rw [hlx] at hlen; rw [List.length_append] at hlen ⊢; simp at hlen ⊢; omega
     · intro hm; rcases List.mem_append.1 hm with hm | hm
       · exact ha2 (List.mem_append_left _ hm)
       · rcases List.mem_append.1 hm with hm | hm
         · exact ha2 (List.mem_append_right _ (List.mem_append_left _ hm))
         · rcases List.mem_cons.1 hm with hm | hm
           · omega
           · exact ha2 (List.mem_append_right _ (List.mem_append_right _ hm))
    refine cJ (bH (bH (cI (aA ?_)))); refine csr (aB ?_); refine aJ (vs := [_, _]) qC rfl (IE 4 (hown.evo0 A) f8 (by omega)) rfl ?_; rintro rv m2 ⟨⟨vs, bs', rfl, hOT, hsub⟩, b4⟩; have f0 := f5; obtain ⟨ra, rc, ka, kc, rfl⟩ := id hOT.nine; refine aZ rfl rfl aU (b4.blk0 (A.blk0 hb2)) rfl rfl ⟨by first | rfl | assumption, by first | rfl | assumption, by first | rfl | assumption, by first | rfl | assumption, by first | rfl | assumption, by first | rfl | assumption, by first | rfl | assumption, by first | rfl | assumption, by first | rfl | assumption, trivial⟩ fun o4 i1 b5 => ?_
    have n2 := (f8.evo0 b4).evo b5 (fun q hq h => ha2 (List.mem_append_right _ (by rw [← List.mem_singleton.1 h]; exact hq)))
    try simp only [cG, Nat.reduceAdd] at i1
    refine wnn (aH (cH (cK rfl (ResOk.cellA rfl bV aU i1 rfl) ?_)))
    exact ⟨tL 4 l, sx, heq.trans (JY (by omega)), ((f5.then b4).step b5 hg2.mem1), hmv, na, nc, no, _, bs', rfl, hOT.evo ((Evo.refl ([b2]) m2).step b5 (fun y hy => .inl hy)) (fun q hq h => ha2 (by rw [← List.mem_singleton.1 h]; exact hsub.subset hq)), hfr.sub hsub, ⟨(b5.blk (b4.blk0 f6) a6.nmem1), ((f7.evo0 b4).evo b5 g3.symm.own1), E.ne⟩, hnb⟩
   refine qln ?_; refine qln ?_; refine qln ?_; refine qln ?_; refine qln ?_; refine qln ?_; refine qln ?_; refine qln ?_; refine qln ?_; refine qln ?_; refine bJ (fun _ A => eU rfl rfl) ?_; refine eV (fun i6 A => aA ?_); refine cM rfl ?_; refine cJ (bH (bH (cI (aA ?_)))); refine csr (aB ?_); refine aJ (vs := [_, _]) qC rfl (IE 4 (hown.evo0 A) (hts.evo0 A) (by omega)) rfl ?_; rintro rv m3 ⟨⟨vs, bs', rfl, hOT, hsub⟩, b6⟩; have f0 := (d0.then A); obtain ⟨ra, rc, ka, kc, rfl⟩ := id hOT.nine; refine aZ rfl rfl aU (b6.blk0 (A.blk0 hb2)) rfl rfl ⟨by first | rfl | assumption, by first | rfl | assumption, by first | rfl | assumption, by first | rfl | assumption, by first | rfl | assumption, by first | rfl | assumption, by first | rfl | assumption, by first | rfl | assumption, by first | rfl | assumption, trivial⟩ fun o5 i2 b7 => ?_
   have n3 := ((hts.evo0 A).evo0 b6).evo b7 (fun q hq h => ha2 (List.mem_append_right _ (by rw [← List.mem_singleton.1 h]; exact hq)))
   try simp only [cG, Nat.reduceAdd] at i2
   refine wnn (aH (cH (cK rfl (ResOk.cellA rfl bV aU i2 rfl) ?_)))
   exact ⟨tL 4 l, sx, heq.trans (JY (by omega)), (((d0.then A).then b6).step b7 hg2.mem1), hmv, na, nc, no, _, bs', rfl, hOT.evo ((Evo.refl ([b2]) m3).step b7 (fun y hy => .inl hy)) (fun q hq h => ha2 (by rw [← List.mem_singleton.1 h]; exact hsub.subset hq)), hfr.sub hsub, ⟨(b7.blk (b6.blk0 (A.blk0 E.blk)) a6.nmem1), (((E.own.evo0 A).evo0 b6).evo b7 g3.symm.own1), E.ne⟩, hnb⟩
  refine qln ?_; refine qln ?_; refine qln ?_; refine qln ?_; refine qln ?_; refine qln ?_; refine qln ?_; refine qln ?_; refine qln ?_; refine qln ?_; refine bJ (fun _ A => eU rfl rfl) ?_; refine bJ (fun _ A => aY rfl) ?_; refine qln ?_; refine qln ?_; refine qln ?_; refine qln ?_; refine qln ?_; refine qln ?_; refine qln ?_; refine qln ?_; refine qln ?_; refine qln ?_; refine bJ (fun _ A => eU rfl rfl) ?_; refine eV (fun i6 A => aA ?_); refine cM rfl ?_; refine cJ (bH (bH (cI (aA ?_)))); refine csr (aB ?_); refine aJ (vs := [_, _]) qC rfl (IE 4 (hown.evo0 A) (hts.evo0 A) (by omega)) rfl ?_; rintro rv m4 ⟨⟨vs, bs', rfl, hOT, hsub⟩, b8⟩; have f0 := (d0.then A); obtain ⟨ra, rc, ka, kc, rfl⟩ := id hOT.nine; refine aZ rfl rfl aU (b8.blk0 (A.blk0 hb2)) rfl rfl ⟨by first | rfl | assumption, by first | rfl | assumption, by first | rfl | assumption, by first | rfl | assumption, by first | rfl | assumption, by first | rfl | assumption, by first | rfl | assumption, by first | rfl | assumption, by first | rfl | assumption, trivial⟩ fun o6 i3 b9 => ?_
  have n4 := ((hts.evo0 A).evo0 b8).evo b9 (fun q hq h => ha2 (List.mem_append_right _ (by rw [← List.mem_singleton.1 h]; exact hq)))
  try simp only [cG, Nat.reduceAdd] at i3
  refine wnn (aH (cH (cK rfl (ResOk.cellA rfl bV aU i3 rfl) ?_)))
  exact ⟨tL 4 l, sx, heq.trans (JY (by omega)), (((d0.then A).then b8).step b9 hg2.mem1), hmv, na, nc, no, _, bs', rfl, hOT.evo ((Evo.refl ([b2]) m4).step b9 (fun y hy => .inl hy)) (fun q hq h => ha2 (by rw [← List.mem_singleton.1 h]; exact hsub.subset hq)), hfr.sub hsub, ⟨(b9.blk (b8.blk0 (A.blk0 E.blk)) a6.nmem1), (((E.own.evo0 A).evo0 b8).evo b9 g3.symm.own1), E.ne⟩, hnb⟩
theorem zQ : cX Tryz.prog 76 := ⟨_, Tryz.func76, by kernel_rfl, by kernel_rfl⟩
structure EtG where
  f : Nat
  sx : PS
  l : List Rx
  n : Nat
  qa : Option Addr
  qc : Nat
  qo : Option Nat
  bs : List Nat
  na : Option Addr
  nc : Nat
  no : Option Nat
structure EtI (w wr : World) (b : Nat) (s : ByteArray) (ex : PS → PX Rx) (st : PS) (ob : Option Nat) (b2 : Nat) (x : EtG) : Prop where
  hr : RdAt wr b s x.sx x.na x.nc x.no
  mv : Mv s st x.sx
  eq : pR s ex st = nY s ex x.f x.l x.sx
  hf : s.size + 1 ≤ x.f + x.sx.pos
  kt : ∃ cs, OwnS wr 71 9 x.qa x.n x.qc cs x.qo ∧ OTs x.l wr cs x.bs
  fr : Fr w (x.qo.toList ++ x.bs)
  len : x.l.length + st.pos ≤ x.sx.pos + 1
  nb : NB w ob x.no
  hb2 : wr.heap[b2]? = some (.cells #[iv 0, .int .i32 0, .slice none 0 0, iv 0, iv 0, .bool false, iv 0, .string ByteArray.empty, .slice none 0 0] 71 (0, 0))
  g2 : Ge w (some b2)
  a2 : b2 ∉ x.qo.toList ++ x.bs
theorem exp_err {s : ByteArray} {ex : PS → PX Rx} {st : PS} {e : Int} (h : BV s ex st = .error e) : pR s ex st = .error e := by
  unfold pR; unfold BV at h; rw [h]
theorem exp_go {s : ByteArray} {ex : PS → PX Rx} {st st2 : PS} {x : Rx} (h : BV s ex st = .ok (x, st2)) : pR s ex st = nY s ex (s.size + 1) [x] st2 := by
  unfold pR; unfold BV at h; rw [h]
theorem sY {ex : PS → PX Rx} {w : World} {b : Nat} {s : ByteArray} {st : PS} {a : Option Addr} {c : Nat} {ob : Option Nat} (hex : st.opn < 250 → vN b s ex (st.opn + 1)) (hR : RdAt w b s st a c ob) (hs : s.size ≤ 4096) (hop : st.opn ≤ 250) (hb : Bd s st.pos) (hnl : st.names.length ≤ 100) (hG : Glb w) (hGo : Apart (some pM) ob) :
    Calls Tryz.prog 52 #[.pointer (some ⟨b, 0, none⟩)] w (RetP (UC b s (pR s ex) st ob w) (ExPan b (pR s ex) st ob w)) := by
  have hap := hR.ap; have hgb : pM ∉ [b] := fun h => hR.glb hG (List.mem_singleton.1 h).symm; have hgw := gm_nm hgb hGo; have hbw : Lt w (some b) := Lt.blk hR.blk; have how : Lt w ob := Lt.own hR.own; refine aT (N := 16) Tryz.func52 rfl rfl rfl ?_; refine csr (cF rfl eJ fun b2 w1 c4 a5 a9 => ?_); have d6 := a5; have b4 := Apart.new (Lt.blk hR.blk) a5; have d7 := Ge.new (Evo.refl (b :: ob.toList) w) a5; have a6 := (Evo.refl (b :: ob.toList) w).then a9; refine wnn (csr (aB (cE (vs := [_]) zQ rfl (tZ hex ⟨(a9.blk0 hR.blk), (hR.own.evo0 a9), hR.ne⟩ hs hop hb hnl (hG.evo a6 hgw) hGo) rfl ?_ ?_)))
  ·intro pv wp hpp; obtain ⟨e9, hpe, rfl, hpw⟩ := hpp; exact And.intro rfl ⟨_, rfl, _, exp_err hpe, rfl, (a6).step hpw (qG (show NB w ob ob from .inl rfl))⟩
  rintro rv d8 ⟨x, st1, hx, a2, hmv1, na1, nc1, no1, vs, bx, rfl, hOT, hFx, b5, hnb1⟩; have hcall9 := a2; have V := a6; have hnb9 := (show NB w ob ob from .inl rfl).older hnb1 V.size; have hb2l := dK c4; have hxg : ∀ q, q ∈ bx → _ ≤ q := hFx.ge; have b7 := a6.step a2 (qG (show NB w ob ob from .inl rfl)); obtain ⟨ra, rc, ka, kc, rfl⟩ := id hOT.nine; refine bL (vs := [_]) rfl cU rfl rfl rfl rfl fun b6 e4 c6 b8 L => ?_; have c7 := Ge.new b7 b8; have b9 := Ge.new (Evo.refl [] d8) b8; refine wan (aI (bC ?_))
  refine cN (α := EtG) (⟨s.size + 1, st1, [x], 1, some ⟨b6, 0, none⟩, 1, some b6, bx, na1, nc1, no1⟩) (fun x => [(3, .slice x.qa x.n x.qc)]) [(0, _), (2, _)] (fun x wr => Evo (b :: ob.toList) w wr ∧ (EtI w wr b s ex st ob b2 x)) (fun x => x.f) ⟨rfl, trivial⟩ ⟨rfl, rfl, trivial⟩ ⟨(b7.then L), ⟨⟨(L.blk0 b5.blk), (b5.own.evo0 L), b5.ne⟩, hmv1, exp_go hx, Nat.le_add_right _ _, ⟨_, c6, OTs.single (hOT.evo0 L)⟩, ⟨List.nodup_cons.2 ⟨fun h => (by have h8 := hOT.lt b6 h; have h9 := b9 _ rfl; omega), hFx.nd⟩, fun q hq => by rcases List.mem_cons.1 hq with rfl | hq; (exact c7 _ rfl); (have h8 := hxg q hq; have h7 := V.size; omega)⟩, (by show 1 + st.pos ≤ st1.pos + 1; have := hmv1.le; omega), hnb9, (L.blk0 (a2.blk c4 (EF b4.symm (Apart.new (Lt.own hR.own) a5).symm))), d7, (fun h => by rcases List.mem_cons.1 h with h | h; (have h9 := b9 _ rfl; have h7 := hcall9.size; omega); (have h8 := hxg b2 h; omega))⟩⟩ ?_
  rintro ⟨f, sx, l, n, qa, qc, qo, bs, na, nc, no⟩ wr30 ⟨c8, ⟨W, hmv, heq, hfi, ⟨cs, hown, hts⟩, hfr, hlen, hnb, hb2, hg2, ha2⟩⟩; show CW _ _ _ _ [(3, .slice qa n qc), (0, _), (2, _)] _
  try dsimp only at W hmv heq hfi cs hown hts hfr hlen hnb hb2 hg2 ha2
  have c0 : Apart (some b) qo := kL hbw (pV hfr); have a7 : Apart (some b) (some b2) := kL hbw hg2; have c5 := HS hb2 W.own (by decide +kernel); have b4 := ap_nm ha2; have hGo1 := fW hGo (TE hG) hnb; have hpl := hmv.bd.le; have hmle := hmv.le; have nmq := nm_rd W hown hts; refine aI (csr (aB ?_)); refine aJ (vs := [_, _]) iC rfl (oA ⟨W.blk, W.own, W.ne⟩ (by omega) 124 (by decide)) rfl ?_; rintro _ e5 ⟨rfl, a0, I⟩
  have E := c8.step a0 (fun y hy => .inl (by rw [List.mem_singleton.1 hy]; simp))
  have a3 := hown.evo a0 ((by first | exact c0.symm.own1 | exact c0.symm.nmem1)); have a1 := hts.evo a0 (fun q hq h => nmq q (List.mem_append_right _ hq) (OS q h)); have a4 := a0.blk hb2 ((by first | exact a7.symm.own1 | exact a7.symm.nmem1)); refine wnn (bA rfl (fun J => ?_) (fun J => ?_))
  ·rw [if_pos J] at I
   obtain ⟨f', rfl⟩ : ∃ f', f = f' + 1 := ⟨f - 1, by have := J.1; omega⟩
   have hopx : sx.opn = st.opn := hmv.opn
   have hex' : (adv sx 1).opn < 250 → vN b s ex ((adv sx 1).opn + 1) := by show sx.opn < 250 → vN b s ex (sx.opn + 1); rw [hopx]; exact hex
   have hbd1 : Bd s (adv sx 1).pos := J.asc (by decide) hmv.bd; refine aL (aA (bC (aF (aB (aB ?_)))))
   refine cE (vs := [_]) zQ rfl (tZ hex' ⟨I.blk, I.own, I.ne⟩ hs (by show sx.opn ≤ 250; omega) hbd1 hmv.nm (hG.evo E hgw) hGo1) rfl ?_ ?_
   ·intro pv wp hpp; obtain ⟨e9, hpe, rfl, hpw⟩ := hpp; exact And.intro rfl ⟨_, rfl, _, heq.trans (alts_err J hpe), rfl, (E).step hpw (qG hnb)⟩
   rintro rv d9 ⟨x, st3, hx, M, hmv3, na3, nc3, no3, vs, bx, rfl, hOT, hFx, a8, hnb3⟩; have hcall9 := M; have V := E; have hnb9 := hnb.older hnb3 V.size; have hb2l := dK a4; have hxg : ∀ q, q ∈ bx → _ ≤ q := hFx.ge; have hl1 := qF a3 a1; have c1 := a3.evo M (fun q hq => nmq q (List.mem_append_left _ (by simp [hq]))); obtain ⟨ra, rc, ka, kc, rfl⟩ := id hOT.nine; have c9 := yB c1 a8.own (by decide +kernel); refine bL (vs := [_]) rfl cU rfl rfl rfl rfl fun e6 e7 d0 e2 A => ?_; have c2 := A.blk0 (M.blk a4 (EF a7.symm c5)); have d3 := (hOT.evo0 A); have hVV := ((Evo.refl [] d9).then A); have hb29 := dK c2
   refine cT rfl rfl rfl rfl nH (c1.evo0 A) (Src.ofOwn d0 ⟨by first | rfl | assumption, by first | rfl | assumption, by first | rfl | assumption, by first | rfl | assumption, by first | rfl | assumption, by first | rfl | assumption, by first | rfl | assumption, by first | rfl | assumption, by first | rfl | assumption, trivial⟩) (by have h8 := tN hown hts; omega) fun qa2 qc2 e8 qo2 e0 H hob69 => ?_
   have d4 := ((a1.evo M (fun q hq => nmq q (List.mem_append_right _ hq))).evo0 A).evo H (sW hfr)
   have d5 := (hOT.evo0 A).evo H (fun q hq h => by have h8 := hxg q hq; have h9 := hl1 q (List.mem_append_left _ h); omega)
   have hob2 := hob69; have hFr9 := Fr.grow hfr hl1 hFx (OT.lt d3) V.size (Nat.le_trans hcall9.size hVV.size) hob2
   have hnin := NP ha2 hb29 (fun q hq e => by have h8 := hxg q hq; omega) hob2
   refine bR (aP (aO (aW ?_))); refine ⟨⟨f', st3, l ++ [x], n + 1, qa2, qc2, qo2, bs ++ bx, na3, nc3, no3⟩, ?_, ⟨rfl, trivial⟩, ⟨rfl, rfl, trivial⟩, (((E.step M (qG hnb)).then A).step H (pV hfr).mem), ?_⟩
   · (try dsimp only); show f' < f' + 1; omega
   try dsimp only
   have hle3 : sx.pos + 1 ≤ st3.pos := hmv3.le
   refine ⟨⟨(H.blk (A.blk0 a8.blk) c0.nmem), ((a8.own.evo0 A).evo H c9.symm.own), a8.ne⟩, ⟨hmv3.opn.trans hmv.opn, (by show st.pos ≤ st3.pos; omega), hmv3.bd, hmv3.nm⟩, heq.trans (alts_go J hx), (by show s.size + 1 ≤ f' + st3.pos; omega), ⟨_, e0, OTs.app d4 (OTs.single d5)⟩, hFr9, ?_, hnb9, (H.blk c2 b4.nmem), hg2, hnin⟩
   show (l ++ [x]).length + st.pos ≤ st3.pos + 1; rw [List.length_append]; simp; omega
  rw [if_neg J] at I; refine cJ (bH (bH (cI (aA ?_)))); refine csr (aB ?_); refine aJ (vs := [_, _]) qC rfl (IE 5 a3 a1 (by omega)) rfl ?_; rintro rv e1 ⟨⟨vs, bs', rfl, hOT, hsub⟩, O⟩; have V := E; obtain ⟨ra, rc, ka, kc, rfl⟩ := id hOT.nine; refine aZ rfl rfl aU (O.blk0 a4) rfl rfl ⟨by first | rfl | assumption, by first | rfl | assumption, by first | rfl | assumption, by first | rfl | assumption, by first | rfl | assumption, by first | rfl | assumption, by first | rfl | assumption, by first | rfl | assumption, by first | rfl | assumption, trivial⟩ fun f0 c3 U => ?_
  have e3 := (a1.evo0 O).evo U (fun q hq h => ha2 (List.mem_append_right _ (by rw [← List.mem_singleton.1 h]; exact hq)))
  try simp only [cG, Nat.reduceAdd] at c3
  refine wnn (aH (cH (cK rfl (ResOk.cellA rfl bV aU c3 rfl) ?_)))
  exact ⟨tL 5 l, sx, heq.trans (alts_end J), ((E.then O).step U hg2.mem1), hmv, na, nc, no, _, bs', rfl, hOT.evo ((Evo.refl ([b2]) e1).step U (fun y hy => .inl hy)) (fun q hq h => ha2 (by rw [← List.mem_singleton.1 h]; exact hsub.subset hq)), hfr.sub hsub, ⟨(U.blk (O.blk0 I.blk) a7.nmem1), ((I.own.evo0 O).evo U c5.symm.own1), I.ne⟩, hnb⟩
theorem EM {b : Nat} {s : ByteArray} (hs : s.size ≤ 4096) : ∀ (n m : Nat), m + n = 250 → vN b s (BU s n) m := by
  intro n
  induction n with
  | zero =>
    intro m hm
    unfold vN
    intro w st a c ob hR ho hb hnl hG hGo
    exact sY (ex := fun _ => .error 3) (fun h => by omega) hR hs (by omega) hb hnl hG hGo
  | succ n ih =>
    intro m hm
    unfold vN
    intro w st a c ob hR ho hb hnl hG hGo
    exact sY (ex := BU s n) (fun h => by rw [ho]; exact ih (m + 1) (by omega)) hR hs (by omega) hb hnl hG hGo
end Go.Proofs.YtidpigbinpaaeaaGreat
namespace Go.W
open Go.RowKit
section
variable {P : Program} {σ : Env} {w : World}
def RecAs (u : FrameMode) (v : Value) (u' : FrameMode) : Prop :=
  ∀ (c₀ : Frame) (cs : List Frame), c₀.mode = u → (recoverD (c₀ :: cs) = some (v, { c₀ with mode := u' } :: cs)) ∨ (recoverD (c₀ :: cs) = none ∧ v = .nilIface ∧ u' = u)
theorem RecAs.ret : RecAs .returning .nilIface .returning := fun c cs h => .inr ⟨by simp [recoverD, h], rfl, rfl⟩
theorem RecAs.pan (v : Value) : RecAs (.panicking (pan v)) v (.panicking [{ v := v, recovered := true }]) := fun c cs h => .inl (by simp [recoverD, h])
theorem wpS_rec {Q : Exit → Act → List Frame → World → Prop} {id d d2 : Nat} {T T2 : TypeId} {p p2 : String} {e e2 : Array Edge} {a : Act} {c₀ : Frame} {cs : List Frame} {v : Value} {u u' : FrameMode}
    (hu : c₀.mode = u) (hr : RecAs u v u') (hd : d < a.tmps.size) (h : Q .normal ((a.put (some d) v).put (some d2) v) ({ c₀ with mode := u' } :: cs) w) :
    (Code.region id #[⟨some d, .call ⟨.builtin .recover, #[], #[]⟩, T, p, e, none⟩, ⟨some d2, .assign (.tmp d), T2, p2, e2, none⟩] false).wpS P Q a (c₀ :: cs) w := by
  refine wpS_region ?_
  have hget : ∀ v : Value, (a.put (some d) v).eval (.tmp d) = v := fun v => by
    simp [Act.put, Act.eval, hd]
  have hrun : (execOp a.eval ⟨some d, .call ⟨.builtin .recover, #[], #[]⟩, T, p, e, none⟩).run P w = .ok .recover w := by
    simp [execOp, resolve, builtin, invoke]
  have hrun2 : ∀ v : Value, (execOp (a.put (some d) v).eval ⟨some d2, .assign (.tmp d), T2, p2, e2, none⟩).run P w = .ok (.value v) w := fun v => by
    simp [execOp, hget]
  show wpOpsS P _ Q [0, 1] a (c₀ :: cs) w
  have hstep : ∀ (v : Value) (cs' : List Frame), Q .normal ((a.put (some d) v).put (some d2) v) cs' w → wpOpsS P #[⟨some d, .call ⟨.builtin .recover, #[], #[]⟩, T, p, e, none⟩, ⟨some d2, .assign (.tmp d), T2, p2, e2, none⟩] Q [1] (a.put (some d) v) cs' w := fun v cs' h => by
    simp only [wpOpsS]
    simp [Region.wanted, hrun2, Oper.upon, wpOpsS, h]
  rw [wpOpsS]
  simp only [Region.wanted, List.getElem?_toArray, List.getElem?_cons_zero, hrun, if_true]
  rcases hr c₀ cs hu with h1 | ⟨h1, rfl, rfl⟩
  · rw [h1]; exact hstep _ _ h
  · rw [h1]; subst hu; exact hstep _ _ h
theorem DL {f : FuncId} {fn : Func} {y : Code} {cap : List Value} {Φ : Value → World → Prop} {N id d d2 : Nat} {T T2 : TypeId} {p p2 : String} {e e2 : Array Edge} {v : Value} {u u' : FrameMode} (hr : RecAs u v u')
    (hf : P.funcs[f]? = some fn) (hb : fn.body = some (.seq (.region id #[⟨some d, .call ⟨.builtin .recover, #[], #[]⟩, T, p, e, none⟩, ⟨some d2, .assign (.tmp d), T2, p2, e2, none⟩] false) y)) (hN : fn.ntmps = N)
    (hle' : Nat.ble cap.length N = true) (hd : Nat.blt d N = true) (hd2 : Nat.blt d2 N = true)
    (h : CW P (N, []) y (pH P fn (Ret Φ)) ((d2, v) :: (d, v) :: oV 0 cap) w) :
    CallsD P f cap.toArray u w (fun e u2 w' => (∃ vv, e = .returned vv ∧ Φ vv w') ∧ u2 = u') := by
  have hle : cap.length ≤ N := Nat.le_of_ble_eq_true hle'
  have hdN : d < N := of_decide_eq_true (by simpa using hd)
  have hdN2 : d2 < N := of_decide_eq_true (by simpa using hd2)
  have hfit : Fits (N, []) (oV 0 cap) { tmps := cap.toArray ++ Array.replicate (fn.ntmps - cap.toArray.size) undef, defers := [] } := by
    refine ⟨?_, rfl, ?_⟩
    · simp [hN]; omega
    · intro t v hv
      obtain ⟨_, h2⟩ := rQ cap 0 t v hv
      simp only [Nat.sub_zero] at h2
      have hlt : t < cap.length := (List.getElem?_eq_some_iff.1 h2).1
      have h3 : cap[t] = v := by rw [List.getElem?_eq_getElem hlt] at h2; exact Option.some.inj h2
      simp [Array.getElem?_append, hlt, h3]
  refine callsD_of_wpS hf hb fun c₀ cs hu => wpS_seq (wpS_rec hu hr (by rw [hfit.1]; exact hdN) ?_)
  refine wpS_of_wp (wp_mono (h _ ((hfit.put hdN v).put hdN2 v)) ?_)
  intro ex a' w' hq
  cases ex with
  | normal => obtain ⟨N', σ', hf', hn, hk⟩ := hq; obtain ⟨v', h1, h2⟩ := hk a' (by rw [hf'.1, hf'.2.1]; exact hf'); exact ⟨hf'.2.1.trans hn, u', rfl, v', h1, h2, rfl⟩
  | ret => obtain ⟨N', σ', hf', hn, hk⟩ := hq; obtain ⟨v', h1, h2⟩ := hk a' (by rw [hf'.1, hf'.2.1]; exact hf'); exact ⟨hf'.2.1.trans hn, u', rfl, v', h1, h2, rfl⟩
  | panic ch => obtain ⟨N', σ', hf', hn, v', h1, h2⟩ := hq; cases h1
  | outgrown => obtain ⟨_, v', h1, h2⟩ := hq; cases h1
  | exit i => obtain ⟨_, _, _, hk⟩ := hq; exact hk
  | goto l => obtain ⟨_, _, _, hk⟩ := hq; exact hk
theorem vV {n : Nat} {fn : Func} {r r' : ResultVar} {Φ : Value → World → Prop} {f : FuncId} {g : Func} {cap : Array Value} {u : FrameMode} (hr : fn.results = #[r, r']) (hg : P.funcs[f]? = some g) (hn : (g.name == "runtime.NumGoroutine") = false) (hb : g.body.isNone = false) (hu : u ≠ .run)
    (h : CallsD P f cap u w fun e u' w' => (∃ vv, e = .returned vv) ∧ settle u' = .returning ∧ ∃ v v', ResOk P σ w' r v ∧ ResOk P σ w' r' v' ∧ Φ (.tuple #[v, v']) w') :
    ∀ a, Fits (n, [dfr f cap]) σ a → Leaves P fn a.tmps (Ret Φ) [dfr f cap] u w := fun a ha => by
  refine TA hg hn hb hu (h.mono ?_)
  rintro e u' w' ⟨⟨vv, rfl⟩, hs, v, v', h1, h2, h3⟩
  show Leaves P fn a.tmps (Ret Φ) [] (settle u') w'
  rw [hs]
  refine ⟨.tuple #[v, v'], ?_, _, rfl, h3⟩
  have ha' : Fits (a.tmps.size, a.defers) σ a := ⟨rfl, rfl, ha.2.2⟩
  rw [rN, hr]
  simp [h1 a ha', h2 a ha']
theorem DO {n : Nat} {fn : Func} {Φ : Value → World → Prop} (h : pH P fn (Ret Φ) .ret (n, []) σ w) : bodyRD P fn (Ret Φ) .ret (n, []) σ w := fun a ha => h.2 a (by rw [ha.1, ha.2.1]; exact ha)
end
end Go.W
namespace Go.Proofs.YtidpigbinpaaeaaGreat
open Go.RowKit Go.W
attribute [local irreducible] Decidable.decide
theorem uM {s : ByteArray} {a : Nat} (ha : a < s.size) (h : (Utf8.decode s a).1 = 65533 → a + 3 ≤ s.size ∧ s.extract a (a + 3) = qJ [239, 191, 189]) :
    (bQ s a).1 = ((Utf8.decode s a).1 : Nat) ∧ (bQ s a).2 = (Utf8.decode s a).2 := by
  have h1 : ¬ ((Utf8.decode s a).1 = 65533 ∧ (Utf8.decode s a).2 = 1) := fun ⟨h1, h2⟩ => by
    have := (tX s a h1 ha).2 (h h1)
    omega
  unfold bQ
  rw [if_pos ⟨ha, h1⟩]
  exact ⟨rfl, rfl⟩
theorem pN {s : ByteArray} {a : Nat} (ha : a < s.size) : 0 < (Utf8.decode s a).2 := by
  rcases fR s a ha with ⟨w, h1, h2, h3, hh, hd, h4, h5, -⟩ | ⟨h1, hd⟩ <;> rw [hd] <;> simp <;> omega
theorem XD {s : ByteArray} {k : Nat} (hw : ∀ j, j < k → 0 < (bQ s (dJ s j)).2) (h : ¬ dJ s k < s.size) : Utf s k := ⟨Nat.le_antisymm (wH s k) (by omega), hw⟩
theorem vutf_bad {s : ByteArray} {k : Nat} (hw : ∀ j, j < k → 0 < (bQ s (dJ s j)).2) (h1 : dJ s k < s.size) (h2 : (bQ s (dJ s k)).2 = 0) : ¬ ∃ N, Utf s N := by
  rintro ⟨N, hN⟩
  rcases Nat.lt_or_ge k N with h | h
  · have := hN.2 k h; omega
  · have h3 : dJ s N ≤ dJ s k := by
      rcases Nat.lt_or_ge N k with h' | h'
      · exact Nat.le_of_lt (AL hw h' (Nat.le_refl _))
      · rw [Nat.le_antisymm h h']; exact Nat.le_refl _
    rw [hN.1] at h3; omega
structure VaI (w wr : World) (s : ByteArray) (it k : Nat) : Prop where
  hw : ∀ j, j < k → 0 < (bQ s (dJ s j)).2
  hit : wr.heap[it]? = some (.stringIter s (dJ s k))
  hge : Ge w (some it)
theorem XG {w : World} (s : ByteArray) (hs : s.size ≤ 140737488355320) : Calls Tryz.prog 10 #[.string s] w (Ret fun v w' => ∃ b, v = .bool b ∧ (b = true ↔ ∃ N, Utf s N) ∧ Evo [] w w') := by
  refine aT (N := 19) Tryz.func10 rfl rfl rfl ?_; refine csr (wan (aI (csr (aB (xV rfl rfl Tryz.underlying9 fun it w1 V W a0 => ?_))))); have a1 := Ge.new (Evo.refl [] w) W; refine wnn (bC ?_); refine cN (α := Nat) (0) (fun k => []) [(0, _), (6, _)] (fun k wr => Evo [] w wr ∧ (VaI w wr s it k)) (fun k => s.size - dJ s k) trivial ⟨rfl, rfl, trivial⟩ ⟨((Evo.refl [] w).then a0), ⟨fun j h => (by cases h), V, a1⟩⟩ ?_; rintro k wr7 ⟨J, ⟨hw, hIt, hIg⟩⟩; show CW _ _ _ _ [(0, _), (6, _)] _; refine csr ?_
  by_cases L : dJ s k < s.size
  ·refine AZ rfl rfl hIt L fun a2 I M => ?_; have E := J.step M hIg.mem1
   have hlt : dJ s k < s.size := by omega
   refine aC (bK rfl rfl) ?_; refine wnn (aI (dB rfl ?_)); refine aL (aA (bC (csr (aC (bK rfl rfl) ?_)))); refine aC (bK rfl rfl) ?_; refine bR (wan (csr (aB (wel ?_)))); refine aB (bF (t := 13) rfl (fun O => ?_) (fun O => ?_))
   ·refine aS (aB (aS (aB (aS ?_)))); refine aJ (vs := [_, _]) zT rfl (zA s (dJ s k) (wH s k) (by omega)) rfl ?_; rintro _ a3 ⟨rfl, H⟩; have U := H.blk0 I; refine aS (aC (lX rfl) ?_); refine bW (wnn (bA rfl (fun A => ?_) (fun A => ?_)))
    ·refine csr (wan (aH (aM (aE (aM (aE (br1 ?_)))))))
     exact ⟨false, rfl, by simp only [Bool.false_eq_true, false_iff]; exact vutf_bad hw hlt (by rw [GL hlt (by omega) (by simpa using A)]), (E.then H)⟩
    refine aL (aO (aW ?_)); refine ⟨(k + 1), ?_, trivial, ⟨rfl, rfl, trivial⟩, (E.then H), ?_⟩
    · (have hnd : (bQ s (dJ s k)).1 = ((Utf8.decode s (dJ s k)).1 : Nat) ∧ (bQ s (dJ s k)).2 = (Utf8.decode s (dJ s k)).2 := uM hlt (fun h => by first | (exfalso; omega) | simpa using A); have hdw := pN hlt; have e0 : dJ s (k + 1) = dJ s k + (bQ s (dJ s k)).2 := rfl; rw [e0, hnd.2]; omega)
    have hnd : (bQ s (dJ s k)).1 = ((Utf8.decode s (dJ s k)).1 : Nat) ∧ (bQ s (dJ s k)).2 = (Utf8.decode s (dJ s k)).2 := uM hlt (fun h => by first | (exfalso; omega) | simpa using A)
    have hdw := pN hlt; have e0 : dJ s (k + 1) = dJ s k + (bQ s (dJ s k)).2 := rfl; refine ⟨fun j hj => ?_, ?_, hIg⟩
    · by_cases e : j < k; exact hw j e; (obtain rfl : j = k := by omega); rw [hnd.2]; exact hdw
    · rw [e0, hnd.2]; exact U
   refine aN (aN (aN (aN (bM (wnn (cM rfl ?_)))))); refine aL (aO (aW ?_)); refine ⟨(k + 1), ?_, trivial, ⟨rfl, rfl, trivial⟩, E, ?_⟩
   · (have hnd : (bQ s (dJ s k)).1 = ((Utf8.decode s (dJ s k)).1 : Nat) ∧ (bQ s (dJ s k)).2 = (Utf8.decode s (dJ s k)).2 := uM hlt (fun h => by first | (exfalso; omega) | simpa using A); have hdw := pN hlt; have e0 : dJ s (k + 1) = dJ s k + (bQ s (dJ s k)).2 := rfl; rw [e0, hnd.2]; omega)
   have hnd : (bQ s (dJ s k)).1 = ((Utf8.decode s (dJ s k)).1 : Nat) ∧ (bQ s (dJ s k)).2 = (Utf8.decode s (dJ s k)).2 := uM hlt (fun h => by first | (exfalso; omega) | simpa using A)
   have hdw := pN hlt; have e0 : dJ s (k + 1) = dJ s k + (bQ s (dJ s k)).2 := rfl; refine ⟨fun j hj => ?_, ?_, hIg⟩
   · by_cases e : j < k; exact hw j e; (obtain rfl : j = k := by omega); rw [hnd.2]; exact hdw
   · rw [e0, hnd.2]; exact I
  refine MJ rfl rfl hIt L ?_; refine aC (bK rfl rfl) ?_; refine wnn (aI (cM rfl ?_)); refine cJ (bH (bH (cI (aA ?_)))); refine csr (wan (aH (br1 ?_)))
  exact ⟨true, rfl, by simp only [true_iff]; exact ⟨k, XD hw (by omega)⟩, J⟩
theorem EZ : dA Tryz.prog 110 0 = some 0 := by kernel_rfl
theorem KF : eQ Tryz.prog 110 = some 1 := by kernel_rfl
theorem KD : kF Tryz.prog 110 = some #[.int .i64 0] := by kernel_rfl
theorem WE {P : Program} {σ : Env} {w : World} {T : TypeId} {pos : String} {after : Array Edge} {dst : Option Nat} {g : Option (Nat × Bool)} {op : BinOp} {xt yt : TypeId} {x y : Operand} {a b r : Value} (hx : σ.ev x = some a) (hy : σ.ev y = some b) (h : ∀ w, (do eqGuard op xt x y a b; binOp op xt a b : Sem Value).run P w = .ok r w) : Ex P σ ⟨dst, .binOp op xt x y yt, T, pos, after, g⟩ w r w := fun ρ ha => by
  have h1 := h w
  simp only [Sem.run_bind] at h1
  simp only [execOp, ha _ _ hx, ha _ _ hy, Sem.run_bind, h1, Result.andThen_ok, Sem.run_pure]
theorem TK {P : Program} {σ : Env} {w : World} {T : TypeId} {pos : String} {after : Array Edge} {dst : Option Nat} {g : Option (Nat × Bool)} {xt ast : TypeId} {ok : Bool} {x : Operand} {a r : Value} (hx : σ.ev x = some a) (h : ∀ w, (Instr.typeAssert a xt ast ok).run P w = .ok r w) : Ex P σ ⟨dst, .typeAssert x xt ast ok, T, pos, after, g⟩ w r w := fun ρ ha => by
  simp [execOp, ha _ _ hx, h]
theorem recov_none {w : World} {x e : Value} : CallsD Tryz.prog 51 #[x, e] .returning w (fun e u2 w' => (∃ vv, e = .returned vv ∧ Evo [] w w') ∧ u2 = .returning) := by
  refine DL (N := 19) (RecAs.ret) Tryz.func51 rfl rfl rfl rfl rfl ?_
  refine aI ?_
  refine aF ?_
  refine aB ?_
  refine fH rfl (WE (r := .bool false) rfl rfl (fun w => by kernel_rfl)) ?_
  refine aP (aA ?_)
  refine cM rfl ?_
  refine aL (eF rfl ?_)
  exact (Evo.refl [] w)
theorem BJ {w : World} {bx be : Nat} {c0 c1 c2 c3 c4 c5 c6 c7 c8 v0 : Value} {k : Int} (hx : w.heap[bx]? = some (.cells #[c0, c1, c2, c3, c4, c5, c6, c7, c8] 71 (0, 0))) (he : w.heap[be]? = some (.cells #[v0] 26 (0, 0))) (hne : Apart (some bx) (some be)) :
    CallsD Tryz.prog 51 #[.pointer (some ⟨bx, 0, none⟩), .pointer (some ⟨be, 0, none⟩)] (.panicking (pan (flt k))) w (fun e u2 w' => (∃ vv, e = .returned vv ∧ Evo [bx, be] w w' ∧ w'.heap[bx]? = some (.cells #[iv 0, .int .i32 0, .slice none 0 0, iv 0, iv 0, .bool false, iv 0, .string ByteArray.empty, .slice none 0 0] 71 (0, 0)) ∧ w'.heap[be]? = some (.cells #[iv k] 26 (0, 0))) ∧ u2 = .panicking [{ v := flt k, recovered := true }]) := by
  refine DL (N := 19) (RecAs.pan _) Tryz.func51 rfl rfl rfl rfl rfl ?_
  refine aI ?_
  refine aF ?_
  refine aB ?_
  refine fH rfl (WE (r := .bool true) rfl rfl (fun w => by kernel_rfl)) ?_
  refine aP (aA ?_)
  refine dB rfl ?_
  refine aI ?_
  refine aF ?_
  refine aB ?_
  refine fH rfl (TK (r := .tuple #[.agg #[iv k], .bool true]) rfl (fun w => by kernel_rfl)) ?_
  refine aB ?_
  refine fH rfl (bK rfl rfl) ?_
  refine fH rfl (bK rfl rfl) ?_
  refine cF rfl KD fun bf w1 hB2 hs3 hw4 => ?_
  have hsz_bf := hs3
  have hA5 := Apart.new (Lt.blk hx) hs3
  have hA6 := Apart.new (Lt.blk he) hs3
  have hG7 := Ge.new (Evo.refl [bx, be] w) hs3
  have hE8 := (Evo.refl [bx, be] w).then hw4
  have hB9 := hw4.blk0 hx
  have hB10 := hw4.blk0 he
  refine aZ rfl rfl KF hB2 rfl rfl ⟨by first | rfl | assumption, trivial⟩ fun w11 hB12 hw13 => ?_
  have hE14 := hE8.step hw13 hG7.mem1
  have hB15 := hw13.blk hB9 hA5.nmem1
  have hB16 := hw13.blk hB10 hA6.nmem1
  refine bR ?_
  refine aP (aA ?_)
  refine aI ?_
  refine aI ?_
  refine aF ?_
  refine aB ?_
  refine fH rfl (fP rfl) ?_
  refine aP (aA ?_)
  refine cM rfl ?_
  refine aL (aA ?_)
  refine eX (fun w0 w' => Evo [bx, be] w0 w') (by kernel_rfl) (fun w17 hw18 => ?_)
  have hE19 := hE14.then hw18
  have hB20 := hw18.blk0 hB15
  have hB21 := hw18.blk0 hB16
  have hB22 := hw18.blk0 hB12
  refine AV 0 rfl (by kernel_rfl) (by kernel_rfl) (by kernel_rfl) rfl (fun _ hS => cA (vs := []) dE rfl (cells := [_, _, _, _, _, _, _, _, _]) rfl) (Evo.refl [bx, be] w17) ?_
  refine AV 1 rfl (by kernel_rfl) (by kernel_rfl) (by kernel_rfl) rfl (fun _ hS => aD rfl EZ) (Evo.refl [bx, be] w17) ?_
  refine AV 2 rfl (by kernel_rfl) (by kernel_rfl) (by kernel_rfl) rfl (fun _ hS => aQ rfl jB (aV (hS.blk hB22 ((EF hA5.symm hA6.symm))) rfl)) (Evo.refl [bx, be] w17) ?_
  refine bS [3] (by kernel_rfl) rfl ⟨?_, trivial⟩
  refine bY rfl ?_
  refine aZ rfl rfl aU hB20 rfl rfl ⟨by first | rfl | assumption, by first | rfl | assumption, by first | rfl | assumption, by first | rfl | assumption, by first | rfl | assumption, by first | rfl | assumption, by first | rfl | assumption, by first | rfl | assumption, by first | rfl | assumption, trivial⟩ fun w23 hB24 hw25 => ?_
  have hE26 := hE19.step hw25 (fun y hy => .inl (by rw [List.mem_singleton.1 hy]; simp))
  have hE27 := (Evo.refl [bx, be] w17).step hw25 (fun y hy => .inl (by rw [List.mem_singleton.1 hy]; simp))
  have hB28 := hw25.blk hB21 hne.symm.nmem1
  have hB29 := hw25.blk hB22 hA5.symm.nmem1
  refine aP (bN (.inl hE27) ?_)
  refine bS [4] (by kernel_rfl) rfl ⟨?_, trivial⟩
  refine bY rfl ?_
  refine bE rfl rfl (by first | rfl | assumption) eK hB28 rfl fun w30 hB31 hw32 => ?_
  have hE33 := hE26.step hw32 (fun y hy => .inl (by rw [List.mem_singleton.1 hy]; simp))
  have hE34 := hE27.step hw32 (fun y hy => .inl (by rw [List.mem_singleton.1 hy]; simp))
  have hB35 := hw32.blk hB24 hne.nmem1
  have hB36 := hw32.blk hB29 hA6.symm.nmem1
  refine aP (bN (.inl hE34) ?_)
  refine cV (by kernel_rfl) (eF rfl ?_)
  exact ⟨hE33, hB35, hB31⟩
theorem FD : Build Tryz.prog 116 #[(0, 1), (1, 1), (2, 4), (6, 1), (7, 1)] #[.string ByteArray.empty, .int .i64 0, .bool false, .bool false, .bool false, .bool false, .int .i64 0, .slice none 0 0] := ⟨_, .agg #[.string ByteArray.empty, .int .i64 0, .bool false, .bool false, .bool false, .bool false, .int .i64 0, .slice none 0 0], Tryz.underlying116, by kernel_rfl, rfl, fun w => by kernel_rfl⟩
theorem QX : cX Tryz.prog 10 := ⟨_, Tryz.func10, by kernel_rfl, by kernel_rfl⟩
theorem QA : kF Tryz.prog 26 = some #[.int .i64 0] := by kernel_rfl
abbrev st0 : PS := ⟨0, ⟨false, false, false, false⟩, 0, []⟩
abbrev zRx : Value := .agg #[iv 0, .int .i32 0, .slice none 0 0, iv 0, iv 0, .bool false, iv 0, .string ByteArray.empty, .slice none 0 0]
section
variable {s : ByteArray} {e : Int} {x : Rx} {st : PS}
theorem pp_long (h : 4096 < s.size) : fM s = .error 1 := by unfold fM; rw [if_pos h]
theorem pp_utf (h : ¬ 4096 < s.size) (hU : ¬ ∃ N, Utf s N) : fM s = .error 4 := by unfold fM; rw [if_neg h, if_pos hU]
theorem pp_err (h : ¬ 4096 < s.size) (hU : ∃ N, Utf s N) (he : BU s 250 st0 = .error e) : fM s = .error e := by unfold fM; rw [if_neg h, if_neg (not_not_intro hU), he]
theorem pp_open (h : ¬ 4096 < s.size) (hU : ∃ N, Utf s N) (he : BU s 250 st0 = .ok (x, st)) (hp : st.pos < s.size) : fM s = .error 80 := by unfold fM; rw [if_neg h, if_neg (not_not_intro hU), he]; simp only [if_pos hp]
theorem pp_ok (h : ¬ 4096 < s.size) (hU : ∃ N, Utf s N) (he : BU s 250 st0 = .ok (x, st)) (hp : ¬ st.pos < s.size) : fM s = .ok x := by unfold fM; rw [if_neg h, if_neg (not_not_intro hU), he]; simp only [if_neg hp]
end
def ParseOut (s : ByteArray) (w : World) (v : Value) (w' : World) : Prop :=
  Evo [] w w' ∧ ((∃ e, fM s = .error e ∧ v = .tuple #[zRx, iv e]) ∨ ∃ x vs bs, fM s = .ok x ∧ v = .tuple #[.agg vs.toArray, iv 0] ∧ OT x w' vs bs ∧ Fr w bs)
theorem parse_ok {w : World} (s : ByteArray) (hG : Glb w) : Calls Tryz.prog 29 #[.string s] w (Ret (ParseOut s w)) := by
  refine JU (N := 31) Tryz.func29 rfl rfl rfl ?_; refine csr (cF rfl eJ fun bx w1 a9 c6 e2 => ?_); have e3 := c6; have J := Ge.new (Evo.refl [] w) c6; have b4 := (Evo.refl [] w).then e2; refine cF rfl QA fun be w7 c7 b5 L => ?_; have e4 := b5; have E := Apart.new (Lt.blk a9) b5; have H := Ge.new b4 b5; refine wnn (aI (csr (aB (aC (cD rfl Tryz.underlying9 rfl) ?_)))); refine aC (gF rfl rfl) ?_; refine wnn (bA rfl (fun e5 => ?_) (fun e5 => ?_))
  ·refine csr (aC (cA (vs := []) dE rfl (cells := [_, _, _, _, _, _, _, _, _]) rfl) ?_); refine aZ rfl rfl aU (L.blk0 a9) rfl rfl ⟨by first | rfl | assumption, by first | rfl | assumption, by first | rfl | assumption, by first | rfl | assumption, by first | rfl | assumption, by first | rfl | assumption, by first | rfl | assumption, by first | rfl | assumption, by first | rfl | assumption, trivial⟩ fun e8 c8 b6 => ?_; refine bE rfl rfl (by first | rfl | assumption) eK (b6.blk c7 E.symm.nmem1) rfl fun f0 c9 b7 => ?_; refine wnn (aH (aE (DO (pG rfl (ResOk.cellA rfl bV aU (b7.blk c8 E.nmem1) rfl) (ResOk.cell1 rfl jB c9 rfl) ?_)))); exact ⟨(((b4.then L).step b6 J.mem1).step b7 H.mem1), .inl ⟨1, pp_long (by omega), rfl⟩⟩
  have hlen : ¬ 4096 < s.size := by omega
  refine aL (aA (aI (csr (aB ?_)))); refine aJ (vs := [_]) QX rfl (XG s (by omega)) rfl ?_; rintro _ f5 ⟨bU, rfl, hbU, V⟩; have M := (b4.then L).then V; have W := V.blk0 (L.blk0 a9); have a0 := V.blk0 c7; refine aC (fP rfl) ?_; refine wnn (dW rfl (fun b8 => ?_) (fun b8 => ?_))
  ·refine csr (aC (cA (vs := []) dE rfl (cells := [_, _, _, _, _, _, _, _, _]) rfl) ?_); refine aZ rfl rfl aU W rfl rfl ⟨by first | rfl | assumption, by first | rfl | assumption, by first | rfl | assumption, by first | rfl | assumption, by first | rfl | assumption, by first | rfl | assumption, by first | rfl | assumption, by first | rfl | assumption, by first | rfl | assumption, trivial⟩ fun f6 d0 b9 => ?_; refine bE rfl rfl (by first | rfl | assumption) eK (b9.blk a0 E.symm.nmem1) rfl fun f7 d3 c0 => ?_; refine wnn (aH (aE (DO (pG rfl (ResOk.cellA rfl bV aU (c0.blk d0 E.nmem1) rfl) (ResOk.cell1 rfl jB d3 rfl) ?_))))
   exact ⟨((M.step b9 J.mem1).step c0 H.mem1), .inl ⟨4, pp_utf hlen (fun h => by have := hbU.2 h; simp_all), rfl⟩⟩
  have hU : ∃ N, Utf s N := hbU.1 (by simpa using b8); refine aL (aA (csr (aC (iS (vs := [_, _]) rfl) ?_))); refine ZX rfl ?_; refine wnn (csr (aB (aC (cA (vs := [(0, _)]) FD rfl (cells := [_, _, _, _, _, _, _, _]) rfl) ?_))); refine fT rfl rfl fun br f8 d4 I a1 => ?_; have e6 := I; have a2 := Apart.new (Lt.blk W) I; have c1 := Apart.new (Lt.blk a0) I; have O := M.then a1; have a3 := a1.blk0 W; have a4 := a1.blk0 a0; refine wan (csr (aB ?_))
  refine cE (vs := [_]) uI rfl (EM (by omega) 250 0 rfl (a := none) (c := 0) (ob := none) (st := st0) ⟨d4, OwnS.nil _ _ _, fun g h => by cases h⟩ rfl (by obtain ⟨N, hN⟩ := hU; exact Bd.zero hN) (by show 0 ≤ 100; omega) (hG.evo O (by simp)) (Apart.nil _)) rfl ?_ ?_
  ·intro pv wp hpp; obtain ⟨e9, hpe, rfl, hpw⟩ := hpp; refine vV rfl Tryz.func51 (by kernel_rfl) rfl (by simp) ((BJ (hpw.blk a3 (by simpa using a2.nmem1)) (hpw.blk a4 (by simpa using c1.nmem1)) E).mono ?_); rintro e9 u9 w9 ⟨⟨vv, rfl, hv9, hb9, c2⟩, rfl⟩
   exact ⟨⟨vv, rfl⟩, rfl, _, _, ResOk.cellA rfl bV aU hb9 rfl, ResOk.cell1 rfl jB c2 rfl, ((O).step hpw (fun y hy => (Ge.new M I).mem1 y (by simpa using hy))).step hv9 (fun y hy => by rcases List.mem_cons.1 hy with rfl | hy; exact J.mem1 _ (by simp); exact H.mem1 _ hy), .inl ⟨_, pp_err hlen hU hpe, rfl⟩⟩
  rintro _ f9 ⟨x, st1, hx, h0w, hmv, na, nc, no, vs, bs, rfl, hOT, hFx, hR, hnb⟩; have a5 : Evo [br] _ _ := h0w; obtain ⟨ra, rc, ka, kc, rfl⟩ := id hOT.nine; have hbxl := dK a3; have hbel := dK a4; refine aZ rfl rfl aU (a5.blk a3 a2.nmem1) rfl rfl ⟨by first | rfl | assumption, by first | rfl | assumption, by first | rfl | assumption, by first | rfl | assumption, by first | rfl | assumption, by first | rfl | assumption, by first | rfl | assumption, by first | rfl | assumption, by first | rfl | assumption, trivial⟩ fun g0 d5 U => ?_; have c3 := U.blk hR.blk a2.symm.nmem1
  have d6 := hOT.evo U (fun q hq h => by rw [List.mem_singleton.1 h] at hq; have h8 := hFx.ge _ hq; omega)
  refine wnn (aI (aI ?_)); refine eP (by kernel_rfl) (by kernel_rfl) ?_; refine bJ (fun _ A => aY rfl) ?_; refine bJ (fun _ A => aG rfl) ?_; refine bJ (fun _ A => aD rfl bB) ?_; refine bJ (fun _ A => aQ rfl aX (aV (A.blk0 c3) rfl)) ?_; refine bJ (fun _ A => aY rfl) ?_; refine bJ (fun _ A => aG rfl) ?_; refine bJ (fun _ A => aD rfl cS) ?_; refine bJ (fun _ A => aQ rfl cZ (aV (A.blk0 c3) rfl)) ?_; refine bJ (fun _ A => cD rfl Tryz.underlying9 rfl) ?_; refine bJ (fun _ A => cP rfl rfl) ?_; refine eV (fun e7 A => aA ?_); have c4 := ((O.step a5 (Ge.new M I).mem1).step U J.mem1).then A; have a6 := A.blk0 d5; have c5 := A.blk0 (U.blk (a5.blk a4 c1.nmem1) E.symm.nmem1); refine bA rfl (fun d7 => ?_) (fun d7 => ?_)
  ·refine aF (cE (vs := [_]) cO rfl (eG 80) rfl ?_ ?_)
   ·intro pv wp hpp; obtain ⟨rfl, hpw⟩ := hpp; refine vV rfl Tryz.func51 (by kernel_rfl) rfl (by simp) ((BJ (hpw.blk a6 (by simp)) (hpw.blk c5 (by simp)) E).mono ?_); rintro e9 u9 w9 ⟨⟨vv, rfl, hv9, hb9, c2⟩, rfl⟩
    exact ⟨⟨vv, rfl⟩, rfl, _, _, ResOk.cellA rfl bV aU hb9 rfl, ResOk.cell1 rfl jB c2 rfl, ((c4).then hpw).step hv9 (fun y hy => by rcases List.mem_cons.1 hy with rfl | hy; exact J.mem1 _ (by simp); exact H.mem1 _ hy), .inl ⟨_, pp_open hlen hU hx (by omega), rfl⟩⟩
   intro _ _ hF; exact hF.elim
  refine aL (aA (csr (aC (bT rfl bV aU a6 rfl) ?_))); refine aZ rfl rfl aU a6 rfl rfl ⟨by first | rfl | assumption, by first | rfl | assumption, by first | rfl | assumption, by first | rfl | assumption, by first | rfl | assumption, by first | rfl | assumption, by first | rfl | assumption, by first | rfl | assumption, by first | rfl | assumption, trivial⟩ fun g1 d8 a7 => ?_
  have d9 := (d6.evo0 A).evo a7 (fun q hq h => by rw [List.mem_singleton.1 h] at hq; have h8 := hFx.ge _ hq; omega)
  refine bE rfl rfl (by first | rfl | assumption) eK (a7.blk c5 E.symm.nmem1) rfl fun g2 e0 a8 => ?_
  have e1 := d9.evo a8 (fun q hq h => by rw [List.mem_singleton.1 h] at hq; have h8 := hFx.ge _ hq; omega)
  refine wnn (aH (?_)); refine vV rfl Tryz.func51 (by kernel_rfl) rfl (by simp) (recov_none.mono ?_); rintro e9 u9 w9 ⟨⟨vv, rfl, hv9⟩, rfl⟩; exact ⟨⟨vv, rfl⟩, rfl, _, _, ResOk.cellA rfl bV aU (hv9.blk0 (a8.blk d8 E.nmem1)) rfl, ResOk.cell1 rfl jB (hv9.blk0 e0) rfl, (((c4.step a7 J.mem1).step a8 H.mem1)).then hv9, .inr ⟨x, _, bs, pp_ok hlen hU hx (by omega), rfl, e1.evo0 hv9, hFx.older O.size⟩⟩
end Go.Proofs.YtidpigbinpaaeaaGreat
namespace Go.Proofs.YtidpigbinpaaeaaGreat
open Go.RowKit Go.W
open Classical in
noncomputable def tf (p : Prop) : Bool := decide p
noncomputable def bl (n : Nat) (f : Nat → Prop) : List Bool := (List.range n).map fun j => tf (f j)
instance (c : Int) : Decidable (AW c) := by unfold AW; infer_instance
end Go.Proofs.YtidpigbinpaaeaaGreat
namespace Go.Proofs.YtidpigbinpaaeaaGreat
open Go.RowKit Go.W
attribute [local irreducible] Decidable.decide
section
variable {P : Program} {σ : Env} {w : World} {dst : Option Nat} {T : TypeId} {pos : String} {after : Array Edge} {g : Option (Nat × Bool)}
end
theorem next_ext {s : ByteArray} {a : Nat} (h : 0 < (bQ s a).2) : s.extract a (a + (bQ s a).2) = qJ (jP (bQ s a).1) ∧ (jP (bQ s a).1).length = (bQ s a).2 ∧ IsR (bQ s a).1 := by
  by_cases ha : a < s.size
  · rcases fR s a ha with ⟨w, h1, h2, h3, hh, hd, h4, h5, -⟩ | ⟨h1, hd⟩
    · have hn := (tQ h1 h2 h3 hh).1
      rw [hn]
      exact ⟨(hit_eq h3).1 hh, JD hh, hit_isR h1 hh⟩
    · unfold bQ at h
      rw [if_neg (fun e => e.2 (by rw [hd]; exact ⟨rfl, rfl⟩))] at h
      cases h
  · rw [tP (by omega)] at h; cases h
end Go.Proofs.YtidpigbinpaaeaaGreat
namespace Go.Proofs.YtidpigbinpaaeaaGreat
open Go.RowKit Go.W
theorem toList_inj {a b : ByteArray} (h : a.toList = b.toList) : a = b := by
  rw [Go.ByteArray.toList_eq, Go.ByteArray.toList_eq] at h
  cases a; cases b
  simpa [Array.toList_inj] using h
theorem BW {w : World} {e : TypeId} {a : Option Addr} {n c : Nat} {xs : List Value} {g : Nat} (h : OwnS w e 1 a n c xs (some g)) : a = some ⟨g, 0, none⟩ := by
  rcases h.2 with ⟨_, _, h3⟩ | ⟨g', _, _, hg, hv, _⟩
  · cases h3
  · cases hg; cases hv; rfl
section
variable {α : Type} [Inhabited α] (enc : α → Value)
end
abbrev nob : ByteArray := ByteArray.mk #[]
variable {s : ByteArray} {N : Nat} {R S : Nat → Nat → Prop} {t u : ByteArray} {ex fx : Bool}
end Go.Proofs.YtidpigbinpaaeaaGreat
namespace Go.Proofs.YtidpigbinpaaeaaGreat
open Go.RowKit Go.W
theorem sb_bstr {l : List Nat} {k : Nat} (hk : k < l.length) (hl : ∀ b, b ∈ l → b < 256) : sb (qJ l) k = l[k] := by
  have hz : k < (qJ l).size := by rw [ZP]; exact hk
  have h1 := hl l[k] (List.getElem_mem hk)
  rw [tH _ _ hz]
  show ((qJ l).data[k]'(by exact hz)).toNat = _
  simp [qJ]
  omega
def At (s : ByteArray) : Nat → List Nat → Prop
  | _, [] => True
  | i, b :: l => isB s i b ∧ At s (i + 1) l
def Plain (c : Nat) : Prop := c < 128 ∧ c ≠ 36 ∧ c ≠ 40 ∧ c ≠ 41 ∧ c ≠ 42 ∧ c ≠ 43 ∧ c ≠ 46 ∧ c ≠ 63 ∧ c ≠ 91 ∧ c ≠ 92 ∧ c ≠ 94 ∧ c ≠ 123 ∧ c ≠ 124
instance (c : Nat) : Decidable (Plain c) := by unfold Plain; infer_instance
section
variable {s : ByteArray} {ex : PS → PX Rx} {f : Nat} {l g : List Rx} {ah : Bool} {st st2 : PS} {e : Int} {c : Nat}
end
end Go.Proofs.YtidpigbinpaaeaaGreat
namespace Go.Proofs.YtidpigbinpaaeaaGreat
open Go.RowKit Go.W
attribute [local irreducible] Decidable.decide
def qc (c : Nat) : List Nat := if c ∈ spec then [92, c] else [c]
end Go.Proofs.YtidpigbinpaaeaaGreat
namespace Go.Proofs.YtidpigbinpaaeaaGreat
open Go.RowKit Go.W
theorem np_lit {c : Int} (h0 : 0 ≤ c) (h1 : c ≤ 1114111) : NodeP (yX c) := ⟨by show (1 : Int) ≤ 2; decide, by show (2 : Int) ≤ 13; decide, .inl rfl, .inr rfl, .inr ⟨rfl, rfl, rfl⟩, .inr ⟨rfl, rfl⟩, fun _ => ⟨h0, h1⟩, fun h => absurd (show (2 : Int) = 3 from h) (by decide), fun h => absurd (show (2 : Int) = 4 ∨ (2 : Int) = 5 from h) (by decide), fun h => absurd (show (2 : Int) = 6 from h) (by decide), fun h => absurd (show (2 : Int) = 7 from h) (by decide), fun _ => rfl⟩
theorem np_cls {l : List (Int × Int)} (h : RangesOk l) : NodeP (wF l) := ⟨by show (1 : Int) ≤ 3; decide, by show (3 : Int) ≤ 13; decide, .inr rfl, .inl rfl, .inr ⟨rfl, rfl, rfl⟩, .inr ⟨rfl, rfl⟩, fun h => absurd (show (3 : Int) = 2 from h) (by decide), fun _ => h, fun h => absurd (show (3 : Int) = 4 ∨ (3 : Int) = 5 from h) (by decide), fun h => absurd (show (3 : Int) = 6 from h) (by decide), fun h => absurd (show (3 : Int) = 7 from h) (by decide), fun _ => rfl⟩
theorem np_row {k : Int} {l : List Rx} (hk : k = 4 ∨ k = 5) (hl : 2 ≤ l.length) : NodeP (BI k l) := ⟨by show (1 : Int) ≤ k; omega, by show k ≤ 13; omega, .inr rfl, .inr rfl, .inr ⟨rfl, rfl, rfl⟩, .inr ⟨rfl, rfl⟩, fun h => by have : k = 2 := h; omega, fun h => by have : k = 3 := h; omega, fun _ => hl, fun h => by have : k = 6 := h; omega, fun h => by have : k = 7 := h; omega, fun h => (h (by show k = 4 ∨ k = 5 ∨ k = 6 ∨ k = 7; omega)).elim⟩
theorem np_rep {lo hi : Int} {z : Bool} {x : Rx} (h0 : 0 ≤ lo) (h1 : lo ≤ 1000) (h2 : hi = -1 ∨ (lo ≤ hi ∧ hi ≤ 1000)) : NodeP (pO lo hi z x) := ⟨by show (1 : Int) ≤ 6; decide, by show (6 : Int) ≤ 13; decide, .inr rfl, .inr rfl, .inl rfl, .inr ⟨rfl, rfl⟩, fun h => absurd (show (6 : Int) = 2 from h) (by decide), fun h => absurd (show (6 : Int) = 3 from h) (by decide), fun h => absurd (show (6 : Int) = 4 ∨ (6 : Int) = 5 from h) (by decide), fun _ => ⟨h0, h1, h2, rfl⟩, fun h => absurd (show (6 : Int) = 7 from h) (by decide), fun h => (h (.inr (.inr (.inl rfl)))).elim⟩
theorem HC {x : Rx} {b : Int} {st : St} (hp : NodeP x) (hk : uK x.kind) (h7 : x.kind ≠ 7) (h1 : st.1 + 1 ≤ 8194) (hb : b ≤ 250) : x.fine b st = some (st.1 + 1, st.2) := by
  rw [nN ⟨h1, by rw [if_neg h7]; exact hb, hp, fun h => absurd h h7⟩, hp.leaf hk, dP, if_neg h7]
theorem rrx_up : ∀ {n : Nat} {X : List Nat} {w : World} {vs : List Value} {x : Rx}, RRx n X w vs x → RRx (n + 1) X w vs x := by
  intro n
  induction n with
  | zero => intro X w vs x h; exact h.elim
  | succ n ih =>
    rintro X w vs x ⟨vr, vk, h1, h2, ⟨a, c, hv, hc, h3⟩, h4⟩
    exact ⟨vr, vk, h1, h2, ⟨a, c, hv, hc, fun k hk => by obtain ⟨b, o, us, ha, hb, hl, hcs, hr⟩ := h3 k hk; exact ⟨b, o, us, ha, hb, hl, hcs, ih hr⟩⟩, h4⟩
theorem rrx_le {n m : Nat} {X : List Nat} {w : World} {vs : List Value} {x : Rx} (h : RRx n X w vs x) (hm : n ≤ m) : RRx m X w vs x := by
  induction hm with
  | refl => exact h
  | step _ ih => exact rrx_up ih
mutual
theorem OT.rrx : ∀ {x : Rx} {w : World} {vs : List Value} {bs X : List Nat}, OT x w vs bs → (∀ b, b ∈ bs → b ∉ X) → ∃ n, RRx n X w vs x
  | .mk k r rs mn mx lz cp nm ks, w, vs, bs, X, h, hX => by
    rw [OT] at h
    obtain ⟨ra, rc, rb, ka, kc, kb, cs, bk, h1, h2, h3, h4, rfl, h5, h6, h7⟩ := h
    obtain ⟨n, hn⟩ := OTs.rrx h4 (X := X) (fun b hb => hX b (List.mem_append_right _ (List.mem_append_right _ hb)))
    refine ⟨n + 1, _, _, h1, own_rrg h2 (fun g hg => hX g (by simp [hg])), ⟨ka, kc, rfl, h3.le, fun j hj => ?_⟩, by show rs.length ≤ _; omega, by show nm.size ≤ _; omega, by show ks.length ≤ _; omega⟩
    obtain ⟨us, hul, huc, hur⟩ := hn j hj
    have hj' : j < ks.length := hj
    obtain ⟨g, hg, ha, hc⟩ := h3.cells (by omega)
    refine ⟨g, 0, us, ha, hX g (by simp [hg]), hul, fun i v hi => ?_, hur⟩
    have := hc _ _ (huc i v hi)
    rw [← Nat.add_assoc] at this
    exact this
theorem OTs.rrx : ∀ {l : List Rx} {w : World} {cs : List Value} {bs X : List Nat}, OTs l w cs bs → (∀ b, b ∈ bs → b ∉ X) → ∃ n, ∀ k (hk : k < l.length), ∃ us, us.length = 9 ∧ (∀ j v, us[j]? = some v → cs[k * 9 + j]? = some v) ∧ RRx n X w us l[k]
  | [], w, cs, bs, X, h, hX => ⟨0, fun k hk => by cases hk⟩
  | x :: l, w, cs, bs, X, h, hX => by
    rw [OTs] at h
    obtain ⟨vs, cs', b1, b2, rfl, rfl, h3, h4⟩ := h
    obtain ⟨n1, hn1⟩ := OT.rrx h3 (X := X) (fun b hb => hX b (List.mem_append_left _ hb))
    obtain ⟨n2, hn2⟩ := OTs.rrx h4 (X := X) (fun b hb => hX b (List.mem_append_right _ hb))
    have hl9 : vs.length = 9 := by obtain ⟨ra, rc, ka, kc, rfl⟩ := h3.nine; rfl
    refine ⟨max n1 n2, fun k hk => ?_⟩
    cases k with
    | zero => exact ⟨vs, hl9, fun j v hj => by rw [Nat.zero_mul, Nat.zero_add, List.getElem?_append_left (List.getElem?_eq_some_iff.1 hj).1]; exact hj, rrx_le hn1 (Nat.le_max_left _ _)⟩
    | succ k =>
      obtain ⟨us, hu1, hu2, hu3⟩ := hn2 k (by simpa using hk)
      refine ⟨us, hu1, fun j v hj => ?_, rrx_le hu3 (Nat.le_max_right _ _)⟩
      rw [List.getElem?_append_right (by omega), show (k + 1) * 9 + j - vs.length = k * 9 + j by omega]
      exact hu2 j v hj
end
end Go.Proofs.YtidpigbinpaaeaaGreat
namespace Go.Proofs.YtidpigbinpaaeaaGreat
open Go.RowKit Go.W
attribute [local irreducible] Decidable.decide
theorem QV : cX Tryz.prog 29 := ⟨_, Tryz.func29, by kernel_rfl, by kernel_rfl⟩
def zX : Rx := .mk 0 0 [] 0 0 false 0 emp []
theorem zX_rx (X : List Nat) (w : World) : RRx 1 X w [iv 0, .int .i32 0, .slice none 0 0, iv 0, iv 0, .bool false, iv 0, .string ByteArray.empty, .slice none 0 0] zX := ⟨_, _, rfl, nJ, nJ, Nat.zero_le _, Nat.zero_le _, Nat.zero_le _⟩
end Go.Proofs.YtidpigbinpaaeaaGreat
namespace Go.Proofs.YtidpigbinpaaeaaGreat
open Go.RowKit Go.W
def Bdd (S : Int → Prop) : Prop := ∀ c, S c → 0 ≤ c ∧ c ≤ 1114111
theorem can_up (S : Int → Prop) (M : Int) (hM : M = 1114112) : ∀ n : Nat, ∃ l, jC (M - n) l ∧ ∀ c, InR c l ↔ (M - n ≤ c ∧ c ≤ 1114111 ∧ S c)
  | 0 => ⟨[], trivial, fun c => ⟨fun h => (kR c h).elim, fun h => by omega⟩⟩
  | n + 1 => by
    obtain ⟨l, h1, h2⟩ := can_up S M hM n
    have e : M - (n + 1 : Nat) = M - n - 1 := by omega
    by_cases hs : S (M - (n + 1 : Nat))
    · cases l with
      | nil =>
        refine ⟨[(M - (n + 1 : Nat), M - (n + 1 : Nat))], ⟨Int.le_refl _, Int.le_refl _, by omega, trivial⟩, fun c => ?_⟩
        rw [lW]
        constructor
        · intro h; obtain rfl : c = M - (n + 1 : Nat) := by simp only at h; omega
          exact ⟨by omega, by omega, hs⟩
        · rintro ⟨h3, h4, h5⟩
          by_cases hc : c = M - (n + 1 : Nat)
          · simp only; omega
          · exact (kR c ((h2 c).2 ⟨by omega, h4, h5⟩)).elim
      | cons g l =>
        obtain ⟨g1, g2, g3, g4⟩ := h1
        by_cases hg : g.1 = M - n
        · refine ⟨(M - (n + 1 : Nat), g.2) :: l, ⟨Int.le_refl _, by simp only; omega, g3, g4⟩, fun c => ?_⟩
          have h2c := h2 c
          rw [fF] at h2c ⊢
          simp only
          constructor
          · intro h
            by_cases hc : c = M - (n + 1 : Nat)
            · exact ⟨by omega, by omega, by rw [hc]; exact hs⟩
            · have := h2c.1 (h.imp (fun h => ⟨by omega, h.2⟩) id)
              exact ⟨by omega, this.2⟩
          · rintro ⟨h3, h4, h5⟩
            by_cases hc : c = M - (n + 1 : Nat)
            · left; omega
            · rcases h2c.2 ⟨by omega, h4, h5⟩ with h | h
              · left; omega
              · exact .inr h
        · refine ⟨(M - (n + 1 : Nat), M - (n + 1 : Nat)) :: g :: l, ⟨Int.le_refl _, Int.le_refl _, by simp only; omega, by simp only; omega, g2, g3, g4⟩, fun c => ?_⟩
          have h2c := h2 c
          rw [fF]
          simp only
          constructor
          · rintro (h | h)
            · obtain rfl : c = M - (n + 1 : Nat) := by omega
              exact ⟨by omega, by omega, hs⟩
            · have := h2c.1 h
              exact ⟨by omega, this.2⟩
          · rintro ⟨h3, h4, h5⟩
            by_cases hc : c = M - (n + 1 : Nat)
            · left; omega
            · exact .inr (h2c.2 ⟨by omega, h4, h5⟩)
    · refine ⟨l, JS h1 (by omega), fun c => ?_⟩
      rw [h2 c]
      constructor
      · rintro ⟨h3, h4⟩; exact ⟨by omega, h4⟩
      · rintro ⟨h3, h4, h5⟩
        have : c ≠ M - (n + 1 : Nat) := fun h => hs (by rw [← h]; exact h5)
        exact ⟨by omega, h4, h5⟩
theorem yN {S : Int → Prop} (hS : Bdd S) : uZ (kI S) ∧ ∀ c, InR c (kI S) ↔ S c := by
  obtain ⟨l, h1, h2⟩ := can_up S 1114112 rfl 1114112
  have h1' : uZ l := by rw [show ((1114112 : Int) - (1114112 : Nat)) = 0 by omega] at h1; exact h1
  have h2' : ∀ c, InR c l ↔ S c := fun c => (h2 c).trans ⟨fun h => h.2.2, fun h => ⟨by have := (hS c h).1; omega, (hS c h).2, h⟩⟩
  rw [DK h1' h2']
  exact ⟨h1', h2'⟩
theorem NO (S : Int → Prop) : (∃ a, kI S = [(a, a)] ∧ kQ S = yX a) ∨ (kQ S = wF (kI S)) := by
  generalize h : kI S = l
  match l, h with
  | [], h => exact .inr (tO h (fun h1 => by simp at h1))
  | [(a, b)], h =>
    by_cases e : a = b
    · subst e; exact .inl ⟨a, rfl, BZ h rfl rfl⟩
    · exact .inr (tO h (fun _ => e))
  | g :: g2 :: l, h => exact .inr (tO h (fun h1 => by simp at h1))
theorem nI {l : List (Int × Int)} (h : l.all (fun g => decide (0 ≤ g.1) && decide (g.2 ≤ 1114111)) = true) : Bdd (rs l) := by
  rintro c ⟨g, hg, h1⟩
  have := List.all_eq_true.1 h g hg
  simp at this
  omega
theorem IS (S : Int → Prop) : Bdd (yF S) := fun c h => ⟨h.1, h.2.1⟩
theorem OE {S : Int → Prop} (h : Bdd S) : Bdd (pW S) := by
  rintro c (h1 | h1 | h1)
  · exact h c h1
  · omega
  · omega
theorem unS_bd {S T : Int → Prop} (h1 : Bdd S) (h2 : Bdd T) : Bdd (unS S T) := fun c h => h.elim (h1 c) (h2 c)
theorem VR {c : Nat} {S : Int → Prop} (h : zY c = some S) : Bdd S := by
  unfold zY at h
  repeat' split at h
  all_goals first | (cases h; done) | (cases h; exact IS _) | (cases h; exact nI (by decide))
theorem lV {p : Prop} [Decidable p] {A S : Int → Prop} {o : Option (Int → Prop)} (h : (if p then some A else o) = some S) (hA : Bdd A) (ho : o = some S → Bdd S) : Bdd S := by
  by_cases hp : p
  · rw [if_pos hp] at h; cases h; exact hA
  · rw [if_neg hp] at h; exact ho h
theorem namS_bd {n : ByteArray} {S : Int → Prop} (h : iR n = some S) : Bdd S :=
  (fun h => lV h (nI (by decide)) (fun h => lV h (nI (by decide)) (fun h => lV h (nI (by decide)) (fun h => lV h (nI (by decide)) (fun h => lV h (nI (by decide)) (fun h => lV h (nI (by decide)) (fun h => lV h (nI (by decide)) (fun h => lV h (nI (by decide)) (fun h => lV h (nI (by decide)) (fun h => lV h (nI (by decide)) (fun h => lV h (nI (by decide)) (fun h => lV h (nI (by decide)) (fun h => lV h (nI (by decide)) (fun h => lV h (nI (by decide)) (fun h => by cases h))))))))))))))) h
theorem rgS_bd {a b : Int} (h0 : 0 ≤ a) (h1 : b ≤ 1114111) : Bdd (rgS a b) := fun c h => by unfold rgS at h; omega
theorem FZ {s : ByteArray} {i j : Nat} {S : Int → Prop} (h : iK s i = .ok (S, j)) (hb : Bd s i) (hi : i < s.size) : Bdd S := by
  unfold iK at h
  cases h1 : mO s i with
  | error e => rw [h1] at h; cases h
  | ok p =>
    obtain ⟨lo, m⟩ := p
    obtain ⟨b1, b2, b3, b4⟩ := yA h1 hb hi
    rw [h1] at h
    simp only at h
    split at h
    · rename_i hd
      cases h3 : mO s (m + 1) with
      | error e => rw [h3] at h; cases h
      | ok q =>
        obtain ⟨hi9, m2⟩ := q
        rw [h3] at h
        simp only at h
        split at h
        · cases h
        · have b5 := (b1.asc hd.1.1 (by rw [hd.1.2]; decide)).1
          have b6 := yA h3 b5 hd.2.1
          cases h
          exact rgS_bd b3 b6.2.2.2
    · cases h; exact rgS_bd b3 b4
theorem GC {s : ByteArray} {i j : Nat} {S : Int → Prop} (h : lE s i = .ok (S, j)) (hb : Bd s i) (hi : i < s.size) : Bdd S := by
  unfold lE at h
  split at h
  · split at h
    · cases h; exact VR (by assumption)
    · exact FZ h hb hi
  · exact FZ h hb hi
theorem pItem_bd {s : ByteArray} {i j : Nat} {S : Int → Prop} (h : jS s i = .ok (S, j)) (hb : Bd s i) (hi : i < s.size) : Bdd S := by
  unfold jS at h
  split at h
  · split at h
    · exact GC h hb hi
    · split at h
      · split at h
        · cases h
        · cases h; exact IS _
      · split at h
        · cases h
        · cases h; exact namS_bd (by assumption)
  · exact GC h hb hi
theorem GB {s : ByteArray} : ∀ {f i j : Nat} {fst : Bool} {S T : Int → Prop}, gE s f fst S i = .ok (T, j) → Bd s i → Bdd S → Bdd T
  | 0, i, j, fst, S, T, h, hb, hS => by rw [gE] at h; cases h
  | f + 1, i, j, fst, S, T, h, hb, hS => by
    rw [gE] at h
    split at h
    · cases h
    · split at h
      · cases h; exact hS
      · split at h
        · cases h
        · rename_i h1
          exact GB h (AJ h1 hb (by omega)).1 (unS_bd hS (pItem_bd h1 hb (by omega)))
def Pc (o : Int) (ns ns' : List ByteArray) (q : Nat) (x : Rx) (K : Int → Prop) : Prop :=
  ∀ k, K k → ∀ (b : Int) (c : Nat), b ≤ o → c + q ≤ 8194 → x.fine (b + if Brk x.kind k then 1 else 0) (c, ns) = some (c + q, ns')
abbrev KA : Int → Prop := fun _ => True
abbrev KR : Int → Prop := fun k => k ≠ 6
abbrev KE : Int → Prop := fun k => k = 5 ∨ k = 7
theorem Pc.mono {o : Int} {ns ns' : List ByteArray} {q : Nat} {x : Rx} {K L : Int → Prop} (h : Pc o ns ns' q x K) (hL : ∀ k, L k → K k) : Pc o ns ns' q x L := fun k hk => h k (hL k hk)
theorem Pc.fine {o : Int} {ns ns' : List ByteArray} {q : Nat} {x : Rx} {K : Int → Prop} (h : Pc o ns ns' q x K) (h7 : K 7) {b : Int} {c : Nat} (hb : b ≤ o) (hc : c + q ≤ 8194) : x.fine b (c, ns) = some (c + q, ns') := by
  have := h 7 h7 b c hb hc
  rw [if_neg (by unfold Brk; omega), Int.add_zero] at this
  exact this
theorem NW {a : Int} (h : a ≠ 4 ∧ a ≠ 5 ∧ a ≠ 6 ∧ a ≠ 7) : uK a := by unfold uK; omega
theorem brk_no {a k : Int} (h : a ≠ 1 ∧ a ≠ 4 ∧ a ≠ 5 ∧ a ≠ 6) : ¬ Brk a k := by unfold Brk; omega
section
variable {o : Int} {ns ns' : List ByteArray} {q : Nat} {x : Rx}
theorem AI (hp : NodeP x) (hl : uK x.kind) (h1 : x.kind ≠ 1) (ho : o ≤ 250) : Pc o ns ns 1 x KA := by
  intro k _ b c hb hc
  unfold uK at hl
  rw [if_neg (by unfold Brk; omega), Int.add_zero]
  exact HC (st := (c, ns)) hp hl (by omega) hc (by omega)
theorem np_k {k : Int} (h : k = 1 ∨ (8 ≤ k ∧ k ≤ 13)) : NodeP (rxK k) := ⟨by show (1 : Int) ≤ k; omega, by show k ≤ 13; omega, .inr rfl, .inr rfl, .inr ⟨rfl, rfl, rfl⟩, .inr ⟨rfl, rfl⟩, fun h9 => by have : k = 2 := h9; omega, fun h9 => by have : k = 3 := h9; omega, fun h9 => by have : k = 4 ∨ k = 5 := h9; omega, fun h9 => by have : k = 6 := h9; omega, fun h9 => by have : k = 7 := h9; omega, fun _ => rfl⟩
theorem pc_empty (ho : o ≤ 250) : Pc o ns ns 1 (rxK 1) KE := by
  intro k hk b c hb hc
  rw [if_neg (show ¬ Brk (rxK 1).kind k by show ¬ Brk 1 k; unfold Brk; have : k = 5 ∨ k = 7 := hk; omega), Int.add_zero]
  exact HC (st := (c, ns)) (np_k (.inl rfl)) (NW (a := 1) (by decide)) (by show (1 : Int) ≠ 7; decide) hc (by omega)
theorem MY {k : Int} (h : 8 ≤ k ∧ k ≤ 13) (ho : o ≤ 250) : Pc o ns ns 1 (rxK k) KA := AI (np_k (.inr h)) (NW (a := k) (by omega)) (by show k ≠ 1; omega) ho
theorem PT {l : List (Int × Int)} (h : uZ l) (h1 : ∀ h : l.length = 1, l[0].1 ≠ l[0].2) : RangesOk l := by
  have key : ∀ (l : List (Int × Int)) (d : Int), 0 ≤ d → jC d l → ∀ i (h : i < l.length), d ≤ l[i].1 ∧ l[i].1 ≤ l[i].2 ∧ l[i].2 ≤ 1114111 ∧ ∀ j (hj : j < l.length), i = j + 1 → l[j].2 + 1 < l[i].1 := by
    intro l
    induction l with
    | nil => intro d hd hc i hi; cases hi
    | cons g l ih =>
      rintro d hd ⟨c1, c2, c3, c4⟩ i hi
      cases i with
      | zero => exact ⟨c1, c2, c3, fun j hj e => by omega⟩
      | succ i =>
        obtain ⟨e1, e2, e3, e4⟩ := ih (g.2 + 2) (by omega) c4 i (by simpa using hi)
        refine ⟨by simp only [List.getElem_cons_succ]; omega, e2, e3, fun j hj e => ?_⟩
        cases j with
        | zero =>
          obtain rfl : i = 0 := by omega
          simp only [List.getElem_cons_zero, List.getElem_cons_succ]
          omega
        | succ j => exact e4 j (by simpa using hj) (by omega)
  exact ⟨fun i hi => by have := key l 0 (Int.le_refl _) h i hi; exact ⟨by omega, this.2⟩, h1⟩
theorem uO {S : Int → Prop} (hS : Bdd S) (ho : o ≤ 250) : Pc o ns ns 1 (kQ S) KA := by
  rcases NO S with ⟨a, h, e⟩ | e
  · have := (yN hS).1
    rw [h] at this
    obtain ⟨c1, c2, c3, -⟩ := this
    rw [e]
    exact AI (np_lit c1 c3) (NW (a := 2) (by decide)) (by show (2 : Int) ≠ 1; decide) ho
  · by_cases h1 : ∃ a, kI S = [(a, a)]
    · obtain ⟨a, ha⟩ := h1
      have := BZ (S := S) ha rfl rfl
      rw [this]
      have hc := (yN hS).1
      rw [ha] at hc
      obtain ⟨c1, c2, c3, -⟩ := hc
      exact AI (np_lit c1 c3) (NW (a := 2) (by decide)) (by show (2 : Int) ≠ 1; decide) ho
    · rw [e]
      refine AI (np_cls (PT (yN hS).1 fun hl => ?_)) (NW (a := 3) (by decide)) (by show (3 : Int) ≠ 1; decide) ho
      intro h9
      obtain ⟨g, hg⟩ := List.length_eq_one_iff.1 hl
      refine h1 ⟨g.1, ?_⟩
      simp only [hg, List.getElem_cons_zero] at h9
      rw [hg]
      exact congrArg (fun z => [z]) (Prod.ext rfl h9.symm)
theorem VP {c : Int} (h0 : 0 ≤ c) (h1 : c ≤ 1114111) : Bdd (fun x => x = c) := fun x hx => by subst hx; exact ⟨h0, h1⟩
theorem SE {f : Fl} {c : Int} (h0 : 0 ≤ c) (h1 : c ≤ 1114111) (ho : o ≤ 250) : Pc o ns ns 1 (rD f c) KA := by
  rw [litS]
  split
  · exact uO (OE (VP h0 h1)) ho
  · exact uO (VP h0 h1) ho
theorem pc_wrap (h : ∀ (b : Int) (c : Nat), b ≤ o + 1 → c + q ≤ 8194 → x.fine b (c, ns) = some (c + q, ns')) : Pc o ns ns' q x KA := by
  intro k _ b c hb hc
  refine h _ c ?_ hc
  split <;> omega
theorem pc_group {nm : ByteArray} (h : ∀ (b : Int) (c : Nat), b ≤ o + 1 → c + q ≤ 8194 → x.fine b (c, ns ++ [nm]) = some (c + q, ns')) (ho : o + 1 ≤ 250) (hg : lB ((ns.length : Int) + 1) nm ns) : Pc o ns ns' (q + 1) (yY ((ns.length : Int) + 1) nm x) KA := by
  intro k _ b c hb hc
  rw [if_neg (show ¬ Brk (yY ((ns.length : Int) + 1) nm x).kind k from brk_no (a := 7) (by decide)), Int.add_zero]
  have hp : NodeP (yY ((ns.length : Int) + 1) nm x) := ⟨by show (1 : Int) ≤ 7; decide, by show (7 : Int) ≤ 13; decide, .inr rfl, .inr rfl, .inr ⟨rfl, rfl, rfl⟩, .inl rfl, fun h9 => absurd (show (7 : Int) = 2 from h9) (by decide), fun h9 => absurd (show (7 : Int) = 3 from h9) (by decide), fun h9 => absurd (show (7 : Int) = 4 ∨ (7 : Int) = 5 from h9) (by decide), fun h9 => absurd (show (7 : Int) = 6 from h9) (by decide), fun _ => rfl, fun h9 => (h9 (.inr (.inr (.inr rfl)))).elim⟩
  rw [nN (st := (c, ns)) ⟨by show c + 1 ≤ 8194; omega, by show (if (7 : Int) = 7 then b + 1 else b) ≤ 250; rw [if_pos rfl]; omega, hp, fun _ => hg⟩]
  show dP [x] 7 (if (7 : Int) = 7 then b + 1 else b) (c + 1, if (7 : Int) = 7 then ns ++ [nm] else ns) = _
  rw [if_pos rfl, if_pos rfl, dP, if_neg (by unfold Brk; omega), Int.add_zero, h (b + 1) (c + 1) (by omega) (by omega)]
  simp only
  rw [dP]
  exact congrArg some (Prod.ext (by simp only; omega) rfl)
theorem pc_rep {lo hi : Int} {z : Bool} (h : Pc o ns ns' q x KA) (ho : o ≤ 250) (h0 : 0 ≤ lo) (h1 : lo ≤ 1000) (h2 : hi = -1 ∨ (lo ≤ hi ∧ hi ≤ 1000)) : Pc o ns ns' (q + 1) (pO lo hi z x) KR := by
  intro k hk b c hb hc
  rw [if_neg (show ¬ Brk (pO lo hi z x).kind k by show ¬ Brk 6 k; unfold Brk; have : k ≠ 6 := hk; omega), Int.add_zero]
  rw [nN ⟨by show c + 1 ≤ 8194; omega, by show (if (6 : Int) = 7 then b + 1 else b) ≤ 250; rw [if_neg (by decide)]; omega, np_rep h0 h1 h2, fun h9 => absurd (show (6 : Int) = 7 from h9) (by decide)⟩]
  show dP [x] 6 (if (6 : Int) = 7 then b + 1 else b) (c + 1, if (6 : Int) = 7 then _ else ns) = _
  rw [if_neg (by decide), if_neg (by decide), dP, h 6 trivial b (c + 1) hb (by omega)]
  simp only
  rw [dP]
  exact congrArg some (Prod.ext (by simp only; omega) rfl)
end
def Ps (K : Int → Prop) (o : Int) : List Rx → List ByteArray → List ByteArray → Nat → Prop
  | [], ns, ns', q => ns' = ns ∧ q = 0
  | x :: l, ns, ns', q => ∃ n1 q1 q2, q = q1 + q2 ∧ Pc o ns n1 q1 x K ∧ Ps K o l n1 ns' q2
section
variable {K : Int → Prop} {o : Int}
theorem Ps.one {x : Rx} {ns ns' : List ByteArray} {q : Nat} (h : Pc o ns ns' q x K) : Ps K o [x] ns ns' q := ⟨ns', q, 0, rfl, h, rfl, rfl⟩
theorem Ps.app : ∀ {l m : List Rx} {ns n1 ns' : List ByteArray} {q1 q2 : Nat}, Ps K o l ns n1 q1 → Ps K o m n1 ns' q2 → Ps K o (l ++ m) ns ns' (q1 + q2)
  | [], m, ns, n1, ns', q1, q2, ⟨h1, h2⟩, h => by subst h1 h2; rw [List.nil_append, Nat.zero_add]; exact h
  | x :: l, m, ns, n1, ns', q1, q2, ⟨n2, a, b, e, h1, h2⟩, h => ⟨n2, a, b + q2, by omega, h1, h2.app h⟩
theorem Ps.kids {k : Int} (hk : K k) : ∀ {l : List Rx} {ns ns' : List ByteArray} {q : Nat}, Ps K o l ns ns' q → ∀ (b : Int) (c : Nat), b ≤ o → c + q ≤ 8194 → dP l k b (c, ns) = some (c + q, ns')
  | [], ns, ns', q, ⟨h1, h2⟩, b, c, hb, hc => by subst h1 h2; rw [dP]; rfl
  | x :: l, ns, ns', q, ⟨n2, a, d, e, h1, h2⟩, b, c, hb, hc => by
    rw [dP, h1 k hk b c hb (by omega)]
    simp only
    rw [Ps.kids hk h2 b (c + a) hb (by omega)]
    exact congrArg some (Prod.ext (by simp only; omega) rfl)
theorem row4 {l : List Rx} {ns ns' : List ByteArray} {q : Nat} (h : Ps KR o l ns ns' q) (ho : o ≤ 250) : ∃ q', Pc o ns ns' q' (tL 4 l) KE ∧ (l.length = 0 → q' = 1) ∧ (l.length = 1 → q' = q) ∧ q' ≤ q + 1 := by
  match l, h with
  | [], ⟨h1, h2⟩ => subst h1; exact ⟨1, pc_empty ho, fun _ => rfl, (fun h => by cases h), by omega⟩
  | [x], ⟨n1, a, b, e, h1, h2, h3⟩ =>
    subst h2 h3
    exact ⟨a, h1.mono fun k hk => by show k ≠ 6; have : k = 5 ∨ k = 7 := hk; omega, (fun h => by cases h), fun _ => by omega, by omega⟩
  | x :: y :: l, h =>
    refine ⟨q + 1, ?_, (fun h => by simp at h), (fun h => by simp at h), Nat.le_refl _⟩
    intro k hk b c hb hc
    have hk' : k = 5 ∨ k = 7 := hk
    show (BI 4 (x :: y :: l)).fine _ _ = _
    rw [show (tL 4 (x :: y :: l)).kind = 4 from rfl, if_neg (by unfold Brk; omega), Int.add_zero]
    rw [nN ⟨by show c + 1 ≤ 8194; omega, by show (if (4 : Int) = 7 then b + 1 else b) ≤ 250; rw [if_neg (by decide)]; omega, np_row (.inl rfl) (by simp), fun h9 => absurd (show (4 : Int) = 7 from h9) (by decide)⟩]
    show dP (x :: y :: l) 4 (if (4 : Int) = 7 then b + 1 else b) (c + 1, if (4 : Int) = 7 then _ else ns) = _
    rw [if_neg (by decide), if_neg (by decide), h.kids (k := 4) (by show (4 : Int) ≠ 6; decide) b (c + 1) hb (by omega)]
    exact congrArg some (Prod.ext (by simp only; omega) rfl)
theorem row5 {l : List Rx} {ns ns' : List ByteArray} {q : Nat} (h : Ps KE o l ns ns' q) (hl : 1 ≤ l.length) (ho : o ≤ 250) : ∃ q', (∀ (b : Int) (c : Nat), b ≤ o → c + q' ≤ 8194 → (tL 5 l).fine b (c, ns) = some (c + q', ns')) ∧ (l.length = 1 → q' = q) ∧ q' ≤ q + 1 := by
  match l, h with
  | [x], ⟨n1, a, b, e, h1, h2, h3⟩ =>
    subst h2 h3
    exact ⟨a, fun b c hb hc => h1.fine (.inr rfl) hb hc, fun _ => by omega, by omega⟩
  | x :: y :: l, h =>
    refine ⟨q + 1, fun b c hb hc => ?_, (fun h => by simp at h), Nat.le_refl _⟩
    show (BI 5 (x :: y :: l)).fine _ _ = _
    rw [nN ⟨by show c + 1 ≤ 8194; omega, by show (if (5 : Int) = 7 then b + 1 else b) ≤ 250; rw [if_neg (by decide)]; omega, np_row (.inr rfl) (by simp), fun h9 => absurd (show (5 : Int) = 7 from h9) (by decide)⟩]
    show dP (x :: y :: l) 5 (if (5 : Int) = 7 then b + 1 else b) (c + 1, if (5 : Int) = 7 then _ else ns) = _
    rw [if_neg (by decide), if_neg (by decide), h.kids (k := 5) (.inl rfl) b (c + 1) hb (by omega)]
    exact congrArg some (Prod.ext (by simp only; omega) rfl)
end
section
variable {s t : ByteArray} {i i' : Nat}
end
theorem asc_form {r : Int} (h0 : 0 ≤ r) (h : r < 128) : jP r = [r.toNat] := by
  rw [jP, if_pos ⟨h0, by omega, by omega⟩, vC, if_pos (by omega)]
theorem form_hi {r : Int} (h : 128 ≤ r) : ∀ b, b ∈ jP r → 128 ≤ b := by
  intro b hb
  unfold jP at hb
  split at hb
  · unfold vC at hb
    rw [if_neg (by omega)] at hb
    split at hb
    · simp at hb; omega
    · split at hb
      · simp at hb; omega
      · simp at hb; omega
  · cases hb
section
variable {s : ByteArray} {ex : PS → PX Rx} {st : PS}
end
section
variable {s : ByteArray} {ex : PS → PX Rx}
theorem YI {i k : Nat} (hk : 1 ≤ k) (h : k < (bQ s i).2) : 128 ≤ sb s (i + k) := by
  obtain ⟨h1, h2, h3⟩ := next_ext (s := s) (a := i) (by omega)
  have hle : i + (bQ s i).2 ≤ s.size := by
    rcases mP s i with e | e
    · rw [e] at h; exact absurd h (Nat.not_lt_zero _)
    · exact e.2.2.2.2
  have hb : sb s (i + k) = (jP (bQ s i).1)[k]'(by omega) := by
    rw [← dO (s := s) (a := i) (b := i + (bQ s i).2) (k := k) hle (by omega), h1, sb_bstr (by omega) (OC _)]
  have hm := List.getElem_mem (l := jP (bQ s i).1) (n := k) (by omega)
  rw [← hb] at hm
  rcases Int.lt_or_le (bQ s i).1 128 with h5 | h5
  · have h7 := congrArg List.length (asc_form h3.1 h5); simp at h7; omega
  · exact form_hi h5 _ hm
theorem UT {fl : Fl} {e : Nat} (he : sb s e < 128) : ∀ {f i : Nat} {l : List Rx}, i ≤ e → (lD s fl e f l i).2 ≤ e
  | 0, i, l, h => h
  | f + 1, i, l, h => by
    rw [lD]
    split
    · rename_i hi
      refine UT he ?_
      rcases Nat.lt_or_ge e (i + (bQ s i).2) with h9 | h9
      · have := YI (s := s) (i := i) (k := e - i) (by omega) (by omega)
        rw [show i + (e - i) = e by omega] at this
        omega
      · exact h9
    · exact h
end
theorem Ps.mono {K L : Int → Prop} {o : Int} (hL : ∀ k, L k → K k) : ∀ {l : List Rx} {ns ns' : List ByteArray} {q : Nat}, Ps K o l ns ns' q → Ps L o l ns ns' q
  | [], ns, ns', q, h => h
  | x :: l, ns, ns', q, ⟨n2, a, d, e, h1, h2⟩ => ⟨n2, a, d, e, h1.mono hL, Ps.mono hL h2⟩
theorem Ps.last {K : Int → Prop} {o : Int} : ∀ {l : List Rx} {ns ns' : List ByteArray} {q : Nat}, Ps K o l ns ns' q → l ≠ [] → ∃ l0 y n1 qa qb, l = l0 ++ [y] ∧ Ps K o l0 ns n1 qa ∧ Pc o n1 ns' qb y K ∧ q = qa + qb
  | [x], ns, ns', q, ⟨n1, a, d, e, h1, h2, h3⟩, _ => by subst h2 h3; exact ⟨[], x, ns, 0, a, rfl, ⟨rfl, rfl⟩, h1, by omega⟩
  | x :: y :: l, ns, ns', q, ⟨n1, a, d, e, h1, h2⟩, _ => by
    obtain ⟨l0, z, n2, qa, qb, e1, e2, e3, e4⟩ := Ps.last h2 (by simp)
    exact ⟨x :: l0, z, n2, a + qa, qb, by rw [e1]; rfl, ⟨n1, a, qa, rfl, h1, e2⟩, e3, by omega⟩
def MH (s : ByteArray) (ex : PS → PX Rx) (n : Nat) : Prop := ∀ st x st', st.opn = n → Bd s st.pos → st.names.length ≤ 100 → ex st = .ok (x, st') →
  ∃ q, (∀ (b : Int) (c : Nat), b ≤ n → c + q ≤ 8194 → x.fine b (c, st.names) = some (c + q, st'.names)) ∧ q + 2 * st.pos ≤ 2 * st'.pos + 1 ∧ st.pos ≤ st'.pos ∧ Bd s st'.pos ∧ st'.opn = n ∧ st'.names.length ≤ 100
def wE (s : ByteArray) (st st2 : PS) (g : List Rx) : Prop := ∃ q, Ps KA st.opn g st.names st2.names q ∧ q + g.length + 2 * st.pos ≤ 2 * st2.pos ∧ st.pos < st2.pos ∧ Bd s st2.pos ∧ st2.opn = st.opn ∧ st2.names.length ≤ 100
section
variable {s : ByteArray} {ex : PS → PX Rx} {st : PS}
theorem tM {x : Rx} {j : Nat} (ho : st.opn ≤ 250) (hn : st.names.length ≤ 100) (h : Pc st.opn st.names st.names 1 x KA) (hj : st.pos < j) (hb : Bd s j) : wE s st (iP st j) [x] :=
  ⟨1, Ps.one h, by show 1 + 1 + 2 * st.pos ≤ 2 * j; omega, hj, hb, rfl, hn⟩
theorem US : ∀ {f j k : Nat}, j ≤ k → k < gY s f j → gC (sb s k)
  | 0, j, k, h, h2 => by rw [gY] at h2; omega
  | f + 1, j, k, h, h2 => by
    rw [gY] at h2
    split at h2
    · rename_i hw
      by_cases e : j = k
      · subst e; exact hw.2
      · exact US (by omega) h2
    · omega
theorem pC : EC emp := fun j hj => absurd hj (Nat.not_lt_zero _)
theorem GA {i h : Nat} {fl : Fl} : EC (oY s i h fl).name := by
  unfold oY
  split
  · exact pC
  · rename_i hc
    have hb : isB s (gY s s.size (i + h)) 62 := Classical.not_not.1 (fun h9 => hc (.inr h9))
    intro j hj
    have hj' : j < (s.extract (i + h) (gY s s.size (i + h))).size := hj
    rw [ByteArray.size_extract] at hj'
    have := hb.1
    have hge : i + h ≤ gY s s.size (i + h) := BP
    show gC (sb (s.extract (i + h) (gY s s.size (i + h))) j)
    rw [dO (by omega) (by omega)]
    exact US (f := s.size) (j := i + h) (by omega) (by omega)
theorem FY {i : Nat} : ∀ {f j : Nat} {b m : Bool} {n : Int} {fl : Fl}, EC (gV s i f j b n m fl).name
  | 0, j, b, m, n, fl => pC
  | f + 1, j, b, m, n, fl => by
    rw [gV]
    repeat' split
    all_goals first | exact FY | exact pC
theorem SI {i : Nat} {fl : Fl} : EC (fN s i fl).name := by
  unfold fN
  split
  · exact pC
  · split
    · exact GA
    · split
      · exact GA
      · split
        · exact pC
        · exact FY
theorem IH {fl : Fl} {e : Nat} {o : Int} {ns : List ByteArray} (ho : o ≤ 250) (he : e ≤ s.size) : ∀ {f i : Nat} {l : List Rx}, Bd s i → Ps KA o l ns ns l.length → Ps KA o (lD s fl e f l i).1 ns ns (lD s fl e f l i).1.length ∧ i + (lD s fl e f l i).1.length ≤ (lD s fl e f l i).2 + l.length ∧ Bd s (lD s fl e f l i).2 ∧ (e ≤ i + f → e ≤ (lD s fl e f l i).2)
  | 0, i, l, hb, h => ⟨h, Nat.le_refl _, hb, fun h => h⟩
  | f + 1, i, l, hb, h => by
    rw [lD]
    split
    · rename_i hi
      obtain ⟨n1, n2, n3, n4, n5⟩ := hb.next (by omega)
      have h1 : Ps KA o (l ++ [rD fl (bQ s i).1]) ns ns (l ++ [rD fl (bQ s i).1]).length := by
        rw [List.length_append]; exact h.app (Ps.one (SE n4 n5 ho))
      obtain ⟨a1, a2, a3, a4⟩ := IH (fl := fl) (e := e) (f := f) ho he n3 h1
      refine ⟨a1, ?_, a3, fun h9 => a4 (by omega)⟩
      rw [List.length_append] at a2
      simp only [List.length_singleton] at a2
      omega
    · rename_i hi
      exact ⟨h, Nat.le_refl _, hb, fun _ => by show e ≤ i; omega⟩
theorem quote_i {g : List Rx} {st2 : PS} (h : oX s st = .ok (g, st2)) (hb : Bd s (st.pos + 2)) (ho : st.opn ≤ 250) (hn : st.names.length ≤ 100) : wE s st st2 g := by
  have ho' : (st.opn : Int) ≤ 250 := by omega
  have hle := hb.le
  unfold oX at h
  split at h
  · rename_i e he
    cases h
    obtain ⟨f1, f2, f3⟩ := (rY s 92 69 s.size (st.pos + 2) (by omega)).1 e he
    obtain ⟨a1, a2, a3, a4⟩ := IH (s := s) (fl := st.now) (e := e) (o := st.opn) (ns := st.names) (f := s.size) (i := st.pos + 2) (l := []) ho' (by have := f2.1; omega) hb ⟨rfl, rfl⟩
    have h9 := UT (s := s) (fl := st.now) (e := e) (by rw [f2.2.1]; decide) (f := s.size) (i := st.pos + 2) (l := []) f1
    have h8 := a4 (by have := f2.1; omega)
    have h7 : (lD s st.now e s.size [] (st.pos + 2)).2 = e := by omega
    refine ⟨_, a1, ?_, ?_, ?_, rfl, hn⟩
    · simp only [List.length_nil] at a2
      show _ + _ + 2 * st.pos ≤ 2 * ((lD s st.now e s.size [] (st.pos + 2)).2 + 2)
      omega
    · show st.pos < (lD s st.now e s.size [] (st.pos + 2)).2 + 2
      omega
    · show Bd s ((lD s st.now e s.size [] (st.pos + 2)).2 + 2)
      rw [h7] at a3 ⊢
      have b1 := (a3.asc (by have := f2.1; omega) (by rw [f2.2.1]; decide)).1
      exact (b1.asc f2.1 (by rw [f2.2.2]; decide)).1
  · cases h
    obtain ⟨a1, a2, a3, a4⟩ := IH (s := s) (fl := st.now) (e := s.size) (o := st.opn) (ns := st.names) (f := s.size) (i := st.pos + 2) (l := []) ho' (Nat.le_refl _) hb ⟨rfl, rfl⟩
    simp only [List.length_nil] at a2
    refine ⟨_, a1, ?_, ?_, a3, rfl, hn⟩
    · show _ + _ + 2 * st.pos ≤ 2 * (lD s st.now s.size s.size [] (st.pos + 2)).2
      omega
    · show st.pos < (lD s st.now s.size s.size [] (st.pos + 2)).2
      omega
theorem escape_i {g : List Rx} {st2 : PS} (h : fV s st = .ok (g, st2)) (h92 : sb s st.pos = 92) (hb : Bd s st.pos) (hp : st.pos < s.size) (ho : st.opn ≤ 250) (hn : st.names.length ≤ 100) : wE s st st2 g := by
  have ho' : (st.opn : Int) ≤ 250 := by omega
  have b1 := (hb.asc hp (by rw [h92]; decide)).1
  unfold fV at h
  split at h
  · cases h
  · rename_i hsz
    have b2 : sb s (st.pos + 1) < 128 → Bd s (st.pos + 2) := fun h9 => (b1.asc (by omega) h9).1
    split at h
    · cases h; exact tM ho hn (MY (by decide) ho') (by omega) (b2 (by omega))
    · split at h
      · cases h; exact tM ho hn (MY (by decide) ho') (by omega) (b2 (by omega))
      · split at h
        · cases h; exact tM ho hn (MY (by decide) ho') (by omega) (b2 (by omega))
        · split at h
          · cases h; exact tM ho hn (MY (by decide) ho') (by omega) (b2 (by omega))
          · split at h
            · exact quote_i h (b2 (by omega)) ho hn
            · split at h
              · rename_i S hS
                cases h; exact tM ho hn (uO (VR hS) ho') (by omega) (b2 (VQ hS))
              · split at h
                · cases h
                · rename_i v j he
                  cases h
                  obtain ⟨e1, e2, e3⟩ := SJ he hb h92
                  exact tM ho hn (SE (by omega) (by omega) ho') e2 e1
theorem plain_i {g : List Rx} {st2 : PS} (h : kJ s st = .ok (g, st2)) (hb : Bd s st.pos) (hp : st.pos < s.size) (ho : st.opn ≤ 250) (hn : st.names.length ≤ 100) : wE s st st2 g := by
  have ho' : (st.opn : Int) ≤ 250 := by omega
  obtain ⟨n1, n2, n3, n4, n5⟩ := hb.next hp
  unfold kJ at h
  cases h
  refine tM ho hn ?_ (by omega) n3
  split
  · split
    · exact uO (nI (by decide)) ho'
    · exact uO (nI (by decide)) ho'
  · split
    · split
      · exact MY (by decide) ho'
      · exact MY (by decide) ho'
    · split
      · split
        · exact MY (by decide) ho'
        · exact MY (by decide) ho'
      · exact SE n4 n5 ho'
theorem class_i {x : Rx} {j : Nat} (h : lT s st.now (st.pos + 1) = .ok (x, j)) (hb : Bd s (st.pos + 1)) (ho : st.opn ≤ 250) (hn : st.names.length ≤ 100) : wE s st (iP st j) [x] := by
  have ho' : (st.opn : Int) ≤ 250 := by omega
  have hcb := ND h hb
  refine tM ho hn ?_ (by omega) hcb.1
  cases hi : gE s (s.size + 1) true (fun _ => False) (if isB s (st.pos + 1) 94 then st.pos + 1 + 1 else st.pos + 1) with
  | error e => rw [AR hi] at h; cases h
  | ok q =>
    obtain ⟨C, j2⟩ := q
    rw [DG hi] at h
    cases h
    have hb2 : Bd s (if isB s (st.pos + 1) 94 then st.pos + 1 + 1 else st.pos + 1) := by
      split
      · rename_i h9; exact (hb.asc h9.1 (by rw [h9.2]; decide)).1
      · exact hb
    have hC := GB hi hb2 (fun c hc => hc.elim)
    refine uO ?_ ho'
    split
    · exact IS _
    · split
      · exact OE hC
      · exact hC
theorem brk_i {g : List Rx} {st2 : PS} (h : sZ s ex st = .ok (g, st2)) (h40 : isB s st.pos 40) (hb : Bd s st.pos) (ho : st.opn ≤ 250) (hn : st.names.length ≤ 100) (hex : st.opn < 250 → MH s ex (st.opn + 1)) : wE s st st2 g := by
  unfold sZ at h
  simp only at h
  split at h
  · rename_i hs
    cases h
    obtain ⟨o1, o2, o3⟩ := II hb h40 hs.1
    exact ⟨0, ⟨rfl, rfl⟩, by show 0 + 0 + 2 * st.pos ≤ 2 * (st.pos + _); omega, by show st.pos < st.pos + _; omega, o2, rfl, hn⟩
  · split at h
    · cases h
    · rename_i h250
      split at h
      · cases h
      · rename_i herr
        obtain ⟨o1, o2, o3⟩ := II (fl := st.now) hb h40 (Classical.not_not.1 herr)
        split at h
        · cases h
        · rename_i hful
          split at h
          · cases h
          · rename_i x st3 hx
            split at h
            · rename_i hcl
              cases h
              have hlt : st.opn < 250 := by omega
              obtain ⟨q, q1, q2, q3, q4, q5, q6⟩ := hex hlt _ x st3 rfl o2 (by
                show (if (fN s st.pos st.now).capt = true then _ else _ : List ByteArray).length ≤ 100
                split
                · rename_i hc
                  have : st.names.length ≠ 100 := fun h9 => hful ⟨hc, .inl h9⟩
                  rw [List.length_append]; simp; omega
                · exact hn) hx
              have q2' : q + 2 * (st.pos + (fN s st.pos st.now).size) ≤ 2 * st3.pos + 1 := q2
              have q3' : st.pos + (fN s st.pos st.now).size ≤ st3.pos := q3
              have hb3 : Bd s (st3.pos + 1) := (q4.asc hcl.1 (by rw [hcl.2]; decide)).1
              by_cases hc : (fN s st.pos st.now).capt = true
              · simp only [if_pos hc] at q1 ⊢
                have hl : st.names.length ≠ 100 := fun h9 => hful ⟨hc, .inl h9⟩
                have hg : lB ((st.names.length : Int) + 1) (fN s st.pos st.now).name st.names := ⟨rfl, by omega, SI, by
                  by_cases he : (fN s st.pos st.now).name = emp
                  · exact .inl he
                  · exact .inr (fun h9 => hful ⟨hc, .inr ⟨he, h9⟩⟩)⟩
                refine ⟨q + 1, Ps.one (pc_group (fun b c hb hc => q1 b c (by push_cast; omega) hc) (by omega) hg), ?_, ?_, hb3, ?_, q6⟩
                · show q + 1 + 1 + 2 * st.pos ≤ 2 * (st3.pos + 1); omega
                · show st.pos < st3.pos + 1; omega
                · show st3.opn - 1 = st.opn; omega
              · simp only [if_neg hc] at q1 ⊢
                refine ⟨q, Ps.one (pc_wrap (fun b c hb hc => q1 b c (by push_cast; omega) hc)), ?_, ?_, hb3, ?_, q6⟩
                · show q + 1 + 2 * st.pos ≤ 2 * (st3.pos + 1); omega
                · show st.pos < st3.pos + 1; omega
                · show st3.opn - 1 = st.opn; omega
            · cases h
theorem piece_i {g : List Rx} {st2 : PS} (h : fX s ex st = .ok (g, st2)) (hb : Bd s st.pos) (hp : st.pos < s.size) (ho : st.opn ≤ 250) (hn : st.names.length ≤ 100) (hex : st.opn < 250 → MH s ex (st.opn + 1)) : wE s st st2 g := by
  unfold fX at h
  split at h
  · rename_i hc; exact brk_i h ⟨hp, hc⟩ hb ho hn hex
  · split at h
    · rename_i hc
      split at h
      · cases h
      · rename_i x j hx
        cases h
        exact class_i hx ((hb.asc hp (by rw [hc]; decide)).1) ho hn
    · split at h
      · rename_i hc; exact escape_i h hc hb hp ho hn
      · exact plain_i h hb hp ho hn
end
structure AltI (s : ByteArray) (o : Nat) (ns0 : List ByteArray) (p0 : Nat) (l : List Rx) (st : PS) (q : Nat) : Prop where
  ps : Ps KR o l ns0 st.names q
  cnt : q + l.length + 2 * p0 ≤ 2 * st.pos
  ge : p0 ≤ st.pos
  bd : Bd s st.pos
  opn : st.opn = o
  nm : st.names.length ≤ 100
def LastI (o : Nat) (ns0 : List ByteArray) (l : List Rx) (st : PS) (q : Nat) : Prop := ∃ l0 y n1 qa qb, l = l0 ++ [y] ∧ Ps KR o l0 ns0 n1 qa ∧ Pc o n1 st.names qb y KA ∧ q = qa + qb
section
variable {s : ByteArray} {ex : PS → PX Rx} {o : Nat} {ns0 : List ByteArray} {p0 : Nat}
theorem WW (ho : o ≤ 250) (hex : o < 250 → MH s ex (o + 1)) : ∀ (f : Nat) (l : List Rx) (ah : Bool) (st st' : PS) (x : Rx) (q : Nat), AltI s o ns0 p0 l st q → (ah = true → LastI o ns0 l st q) → kP s ex f l ah st = .ok (x, st') →
    ∃ l' q', x = tL 4 l' ∧ AltI s o ns0 p0 l' st' q' ∧ st.pos ≤ st'.pos
  | 0, l, ah, st, st', x, q, h, hl, h1 => by rw [kP] at h1; cases h1; exact ⟨l, q, rfl, h, Nat.le_refl _⟩
  | f + 1, l, ah, st, st', x, q, h, hl, h1 => by
    rw [kP] at h1
    split at h1
    · cases h1; exact ⟨l, q, rfl, h, Nat.le_refl _⟩
    · rename_i hend
      have hp : st.pos < s.size := by omega
      generalize hr : oW (s.extract st.pos s.size) = rr at h1
      obtain ⟨lo, hi, nn⟩ := rr
      obtain ⟨r1, r2, r3, r4, r5⟩ := pRep_b h.bd hp hr
      simp only at h1
      split at h1
      · split at h1
        · cases h1
        · rename_i g st2 hpc
          obtain ⟨qg, g1, g2, g3, g4, g5, g6⟩ := piece_i hpc h.bd hp (by rw [h.opn]; exact ho) h.nm (by rw [h.opn]; exact hex)
          rw [h.opn] at g1
          have hc := h.cnt
          have hge := h.ge
          have hN : AltI s o ns0 p0 (l ++ g) st2 (q + qg) := ⟨h.ps.app (g1.mono fun k _ => trivial), by rw [List.length_append]; omega, by omega, g4, by rw [g5, h.opn], g6⟩
          obtain ⟨l', q', e1, e2, e3⟩ := WW ho hex f _ _ _ _ _ _ hN (fun ha => by
            have hg : g ≠ [] := fun h9 => by rw [h9] at ha; exact absurd (of_decide_eq_true ha) (Nat.lt_irrefl 0)
            obtain ⟨g0, y, n1, qa, qb, b1, b2, b3, b4⟩ := g1.last hg
            exact ⟨l ++ g0, y, n1, q + qa, qb, by rw [b1, List.append_assoc], h.ps.app (b2.mono fun k _ => trivial), b3, by omega⟩) h1
          exact ⟨l', q', e1, e2, by omega⟩
      · rename_i hn
        obtain ⟨r6, r7⟩ := r5 hn
        split at h1
        · cases h1
        · rename_i hc
          have hah : ah = true := by cases ah with | true => rfl | false => exact (hc (.inl rfl)).elim
          obtain ⟨l0, y, n1, qa, qb, b1, b2, b3, b4⟩ := hl hah
          have hdl : l.dropLast = l0 := by rw [b1, List.dropLast_concat]
          have hgl : l.getLastD (rxK 1) = y := by rw [b1]; simp
          have hlen : l.length = l0.length + 1 := by rw [b1]; simp
          have hcnt := h.cnt
          have hge := h.ge
          have key : ∀ z, Ps KR o (l0 ++ [pO lo hi z y]) ns0 st.names (qa + (qb + 1)) := fun z => b2.app (Ps.one (pc_rep b3 (by omega) r1 (by omega) (by omega)))
          rw [hdl, hgl] at h1
          split at h1
          · rename_i hq
            have hbq := (r7.asc hq.1 (by rw [hq.2]; decide)).1
            obtain ⟨l', q', e1, e2, e3⟩ := WW ho hex f _ _ _ _ _ _ (⟨key _, by simp; omega, by show p0 ≤ st.pos + nn + 1; omega, hbq, h.opn, h.nm⟩ : AltI s o ns0 p0 _ { st with pos := st.pos + nn + 1 } _) (fun h9 => by cases h9) h1
            exact ⟨l', q', e1, e2, Nat.le_trans (by show st.pos ≤ st.pos + nn + 1; omega) e3⟩
          · obtain ⟨l', q', e1, e2, e3⟩ := WW ho hex f _ _ _ _ _ _ (⟨key _, by simp; omega, by show p0 ≤ st.pos + nn; omega, r7, h.opn, h.nm⟩ : AltI s o ns0 p0 _ { st with pos := st.pos + nn } _) (fun h9 => by cases h9) h1
            exact ⟨l', q', e1, e2, Nat.le_trans (by show st.pos ≤ st.pos + nn; omega) e3⟩
theorem alt0_i (ho : o ≤ 250) (hex : o < 250 → MH s ex (o + 1)) {st st' : PS} {x : Rx} {f : Nat} (hb : Bd s st.pos) (hop : st.opn = o) (hn : st.names.length ≤ 100) (h : kP s ex f [] false st = .ok (x, st')) :
    ∃ q, Pc o st.names st'.names q x KE ∧ q + 2 * st.pos ≤ 2 * st'.pos + 1 ∧ st.pos ≤ st'.pos ∧ Bd s st'.pos ∧ st'.opn = o ∧ st'.names.length ≤ 100 := by
  obtain ⟨l, q, rfl, e2, e3⟩ := WW (ns0 := st.names) (p0 := st.pos) ho hex f [] false st st' x 0 ⟨⟨rfl, rfl⟩, by simp, Nat.le_refl _, hb, hop, hn⟩ (fun h => by cases h) h
  obtain ⟨q', r1, r2, r3, r4⟩ := row4 e2.ps (by omega)
  have hc := e2.cnt
  refine ⟨q', r1, ?_, e3, e2.bd, e2.opn, e2.nm⟩
  rcases Nat.lt_trichotomy l.length 1 with h9 | h9 | h9
  · have := r2 (by omega); omega
  · have := r3 h9; omega
  · omega
structure AltsI (s : ByteArray) (o : Nat) (ns0 : List ByteArray) (p0 : Nat) (l : List Rx) (st : PS) (q : Nat) : Prop where
  ps : Ps KE o l ns0 st.names q
  cnt : q + l.length + 2 * p0 ≤ 2 * st.pos + 2
  ge : p0 ≤ st.pos
  bd : Bd s st.pos
  opn : st.opn = o
  nm : st.names.length ≤ 100
  ne : 1 ≤ l.length
theorem alts_i (ho : o ≤ 250) (hex : o < 250 → MH s ex (o + 1)) : ∀ (f : Nat) (l : List Rx) (st st' : PS) (x : Rx) (q : Nat), AltsI s o ns0 p0 l st q → nY s ex f l st = .ok (x, st') → ∃ l' q', x = tL 5 l' ∧ AltsI s o ns0 p0 l' st' q'
  | 0, l, st, st', x, q, h, h1 => by rw [nY] at h1; cases h1; exact ⟨l, q, rfl, h⟩
  | f + 1, l, st, st', x, q, h, h1 => by
    rw [nY] at h1
    split at h1
    · rename_i hb
      split at h1
      · cases h1
      · rename_i y st2 hy
        obtain ⟨q2, r1, r2, r3, r4, r5, r6⟩ := alt0_i ho hex (st := { st with pos := st.pos + 1 }) ((h.bd.asc hb.1 (by rw [hb.2]; decide)).1) h.opn h.nm hy
        have hc := h.cnt
        have hge := h.ge
        have r2' : q2 + 2 * (st.pos + 1) ≤ 2 * st2.pos + 1 := r2
        have r3' : st.pos + 1 ≤ st2.pos := r3
        exact alts_i ho hex f _ _ _ _ (q + q2) ⟨h.ps.app (Ps.one r1), by rw [List.length_append]; simp; omega, by omega, r4, r5, r6, by rw [List.length_append]; simp⟩ h1
    · cases h1; exact ⟨l, q, rfl, h⟩
theorem expW_i (ho : o ≤ 250) (hex : o < 250 → MH s ex (o + 1)) : MH s (pR s ex) o := by
  intro st x st' hop hb hn h
  unfold pR at h
  split at h
  · cases h
  · rename_i y st2 hy
    obtain ⟨q, r1, r2, r3, r4, r5, r6⟩ := alt0_i ho hex hb hop hn hy
    obtain ⟨l, q', rfl, e⟩ := alts_i (ns0 := st.names) (p0 := st.pos) ho hex _ _ _ _ _ q ⟨Ps.one r1, by simp; omega, r3, r4, r5, r6, by simp⟩ h
    obtain ⟨q2, f1, f2, f3⟩ := row5 e.ps e.ne (by omega)
    have hc := e.cnt
    refine ⟨q2, f1, ?_, e.ge, e.bd, e.opn, e.nm⟩
    rcases Nat.lt_or_ge 1 l.length with h9 | h9
    · omega
    · have := f2 (by have := e.ne; omega); have := e.ne; omega
end
theorem exp_i (s : ByteArray) : ∀ n, n ≤ 250 → MH s (BU s n) (250 - n)
  | 0, _ => expW_i (ex := fun _ => .error 3) (o := 250) (Nat.le_refl _) (fun h => absurd h (Nat.lt_irrefl _))
  | n + 1, h => by
    have h1 := exp_i s n (by omega)
    have h2 : MH s (pR s (BU s n)) (250 - (n + 1)) := expW_i (by omega) (fun _ => by rw [show 250 - (n + 1) + 1 = 250 - n by omega]; exact h1)
    exact h2
theorem vR {s : ByteArray} {x : Rx} (h : fM s = .ok x) : x.Ok ∧ ∃ st', BU s 250 st0 = .ok (x, st') ∧ s.size ≤ st'.pos ∧ Bd s st'.pos ∧ ∃ q, x.fine 0 (0, []) = some (q, st'.names) := by
  unfold fM at h
  split at h
  · cases h
  · rename_i hz
    split at h
    · cases h
    · rename_i hU
      obtain ⟨N, hU⟩ := Classical.not_not.1 hU
      split at h
      · cases h
      · rename_i x0 st hx
        split at h
        · cases h
        · rename_i hend
          cases h
          obtain ⟨q, q1, q2, q3, q4, q5, q6⟩ := exp_i s 250 (Nat.le_refl _) st0 x st rfl (Bd.zero hU) (Nat.zero_le _) hx
          have hle := q4.le
          have hf := q1 0 0 (by simp) (by have : q + 2 * 0 ≤ 2 * st.pos + 1 := q2; omega)
          rw [Nat.zero_add] at hf
          exact ⟨⟨_, hf⟩, st, hx, by omega, q4, q, hf⟩
def NZ {α : Type} (r : Except Int α) : Prop := ∀ e, r = .error e → e ≠ 0
theorem lM {α : Type} (a : α) : NZ (.ok a : Except Int α) := fun e h => by cases h
theorem fO {α : Type} {e : Int} (h : e ≠ 0) : NZ (.error e : Except Int α) := fun e' h' => by cases h'; exact h
theorem NZ.ne {α : Type} {r : Except Int α} {e : Int} (h : NZ r) (k : r = .error e) : e ≠ 0 := h e k
theorem VB (s : ByteArray) (i : Nat) : NZ (gH s i) := by
  unfold gH
  repeat' split
  all_goals first | exact lM _ | exact fO (by decide)
theorem VA (s : ByteArray) : ∀ f n i, NZ (nK s f n i)
  | 0, n, i => fO (by decide)
  | f + 1, n, i => by
    unfold nK
    repeat' split
    all_goals first | exact lM _ | exact VA s f _ _ | exact fO (by decide) | exact fO ((VB _ _).ne (by assumption))
theorem nz_hex (s : ByteArray) (i : Nat) : NZ (rR s i) := by
  unfold rR
  repeat' split
  all_goals first | exact lM _ | exact VA _ _ _ _ | exact fO (by decide) | exact fO ((VB _ _).ne (by assumption))
theorem nz_esc (s : ByteArray) (i : Nat) : NZ (pJ s i) := by
  unfold pJ
  repeat' split
  all_goals first | exact lM _ | exact nz_hex _ _ | exact fO (by decide)
theorem nz_one (s : ByteArray) (i : Nat) : NZ (mO s i) := by
  unfold mO
  repeat' split
  all_goals first | exact lM _ | exact fO (by decide) | exact fO ((nz_esc _ _).ne (by assumption))
theorem nz_range (s : ByteArray) (i : Nat) : NZ (iK s i) := by
  unfold iK
  repeat' split
  all_goals first | exact lM _ | exact fO (by decide) | exact fO ((nz_one _ _).ne (by assumption))
theorem nz_itemR (s : ByteArray) (i : Nat) : NZ (lE s i) := by
  unfold lE
  repeat' split
  all_goals first | exact lM _ | exact nz_range _ _
theorem nz_item (s : ByteArray) (i : Nat) : NZ (jS s i) := by
  unfold jS
  repeat' split
  all_goals first | exact lM _ | exact nz_itemR _ _ | exact fO (by decide)
theorem NM (s : ByteArray) : ∀ f b S i, NZ (gE s f b S i)
  | 0, b, S, i => fO (by decide)
  | f + 1, b, S, i => by
    unfold gE
    repeat' split
    all_goals first | exact lM _ | exact NM s f _ _ _ | exact fO (by decide) | exact fO ((nz_item _ _).ne (by assumption))
theorem nz_class (s : ByteArray) (fl : Fl) (i : Nat) : NZ (lT s fl i) := by
  unfold lT
  split
  · exact fO ((NM _ _ _ _ _).ne (by assumption))
  · exact lM _
theorem nz_brk {s : ByteArray} {ex : PS → PX Rx} (h : ∀ st, NZ (ex st)) (st : PS) : NZ (sZ s ex st) := by
  unfold sZ
  dsimp only
  repeat' split
  all_goals first | exact lM _ | exact fO (by decide) | exact fO (by assumption) | exact fO ((h _).ne (by assumption))
theorem nz_quote (s : ByteArray) (st : PS) : NZ (oX s st) := by
  unfold oX
  split <;> exact lM _
theorem YD (s : ByteArray) (st : PS) : NZ (fV s st) := by
  unfold fV
  repeat' split
  all_goals first | exact lM _ | exact nz_quote _ _ | exact fO (by decide) | exact fO ((nz_esc _ _).ne (by assumption))
theorem nz_piece {s : ByteArray} {ex : PS → PX Rx} (h : ∀ st, NZ (ex st)) (st : PS) : NZ (fX s ex st) := by
  unfold fX
  repeat' split
  all_goals first | exact lM _ | exact nz_brk h _ | exact YD _ _ | exact fO ((nz_class _ _ _).ne (by assumption)) | (unfold kJ; exact lM _)
theorem SO {s : ByteArray} {ex : PS → PX Rx} (h : ∀ st, NZ (ex st)) : ∀ f l ah st, NZ (kP s ex f l ah st)
  | 0, l, ah, st => lM _
  | f + 1, l, ah, st => by
    unfold kP
    dsimp only
    repeat' split
    all_goals first | exact lM _ | exact SO h f _ _ _ | exact fO (by decide) | exact fO ((nz_piece h _).ne (by assumption))
theorem VD {s : ByteArray} {ex : PS → PX Rx} (h : ∀ st, NZ (ex st)) : ∀ f l st, NZ (nY s ex f l st)
  | 0, l, st => lM _
  | f + 1, l, st => by
    unfold nY
    repeat' split
    all_goals first | exact lM _ | exact VD h f _ _ | exact fO ((SO h _ _ _ _).ne (by assumption))
theorem VC {s : ByteArray} {ex : PS → PX Rx} (h : ∀ st, NZ (ex st)) (st : PS) : NZ (pR s ex st) := by
  unfold pR
  split
  · exact fO ((SO h _ _ _ _).ne (by assumption))
  · exact VD h _ _ _
theorem nz_exp (s : ByteArray) : ∀ n st, NZ (BU s n st)
  | 0, st => VC (fun _ => fO (by decide)) st
  | n + 1, st => VC (nz_exp s n) st
theorem nz_parse (s : ByteArray) : NZ (fM s) := by
  unfold fM
  repeat' split
  all_goals first | exact lM _ | exact fO (by decide) | exact fO ((nz_exp _ _ _).ne (by assumption))
end Go.Proofs.YtidpigbinpaaeaaGreat
namespace Go.Proofs.YtidpigbinpaaeaaGreat
open Go.RowKit Go.W
attribute [local irreducible] Decidable.decide
theorem MG : Build Tryz.prog 80 #[(0, 1), (1, 4)] #[.string ByteArray.empty, .slice none 0 0, .int .i64 0, .int .i64 0, .slice none 0 0] := ⟨_, .agg #[.string ByteArray.empty, .slice none 0 0, .int .i64 0, .int .i64 0, .slice none 0 0], Tryz.underlying80, by kernel_rfl, rfl, fun w => by kernel_rfl⟩
theorem ME : dA Tryz.prog 80 1 = some 1 := by kernel_rfl
theorem QU : cX Tryz.prog 30 := ⟨_, Tryz.func30, by kernel_rfl, by kernel_rfl⟩
theorem QT : cX Tryz.prog 32 := ⟨_, Tryz.func32, by kernel_rfl, by kernel_rfl⟩
structure RgX (X : List Nat) (w : World) (b : Nat) (s : ByteArray) (x : Rx) (l : List In) (n : Nat) : Prop where
  ex : ∃ a c na nc, w.heap[b]? = some (.cells #[.string s, .slice a l.length c, iv 0, iv (iL x).length, .slice na (iL x).length nc] 80 (0, 0)) ∧ RSl 5 RIn X w (.slice a l.length c) l ∧ RSl 1 RStr X w (.slice na (iL x).length nc) (iL x)
  out : b ∉ X
  len : l.length ≤ 10000
  prog : ProgOk x l n
  ok : x.Ok
  grp : (iL x).length ≤ 100
theorem RgX.evo {X Z : List Nat} {w w' : World} {b : Nat} {s : ByteArray} {x : Rx} {l : List In} {n : Nat} (h : RgX X w b s x l n) (he : Evo Z w w') (hz : ∀ y, y ∈ Z → y ∈ X ∨ w.heap.size ≤ y) : RgX [] w' b s x l n := by
  obtain ⟨a, c, na, nc, h1, h2, h3⟩ := h.ex
  have hb := dK h1
  exact ⟨⟨a, c, na, nc, he.blk h1 (fun hm => (hz b hm).elim h.out (by omega)), (RSl.evo RIn.pers he (h2.fresh (by decide) RIn.fresh hz)).fresh (by decide) RIn.fresh (fun _ hm => by cases hm), (RSl.evo RStr.pers he (h3.fresh (by decide) RStr.fresh hz)).fresh (by decide) RStr.fresh (fun _ hm => by cases hm)⟩, by simp, h.len, h.prog, h.ok, h.grp⟩
theorem rg_prog {w : World} {b : Nat} {v0 v1 v2 v3 v4 : Value} {T : TypeId} {z : Nat × Nat} (h : w.heap[b]? = some (.cells #[v0, v1, v2, v3, v4] T z)) : ∀ j v, ([v1, v2, v3, v4] : List Value)[j]? = some v → w.cell? ⟨b, 1 + j, none⟩ = some v
  | 0, v, e => by cases e; exact eY h rfl
  | 1, v, e => by cases e; exact eY h rfl
  | 2, v, e => by cases e; exact eY h rfl
  | 3, v, e => by cases e; exact eY h rfl
  | j + 4, v, e => by cases e
theorem SF {w : World} {s : ByteArray} (hG : Glb w) : Calls Tryz.prog 29 #[.string s] w (Ret fun v w' => ∃ vs n x e, v = .tuple #[.agg vs.toArray, iv e] ∧ RRx n [] w' vs x ∧ ((fM s = .ok x ∧ e = 0) ∨ (fM s = .error e ∧ e ≠ 0)) ∧ Evo [] w w') := by
  refine (parse_ok s hG).mono ?_
  rintro e w' ⟨v, rfl, hv, h1 | ⟨x2, vs, bs, h2, rfl, h4, h5⟩⟩
  · obtain ⟨e, h1, rfl⟩ := h1
    exact ⟨_, rfl, _, 1, zX, e, rfl, zX_rx [] w', .inr ⟨h1, (nz_parse s).ne h1⟩, hv⟩
  · obtain ⟨n, hn⟩ := h4.rrx (X := []) (fun b _ h => by cases h)
    exact ⟨_, rfl, vs, n, x2, 0, rfl, hn, .inl ⟨h2, rfl⟩, hv⟩
theorem Comp2.four {X : List Nat} {t : Rx} {w : World} {ps : List Value} {e : Int} (h : Comp2 X t w ps e) : ∃ p q r u, ps = [p, q, r, u] ∧ p.oneCell' = true ∧ q.oneCell' = true ∧ r.oneCell' = true ∧ u.oneCell' = true := by
  rcases h with ⟨-, -, ⟨a, n, c, g, nm, rfl, h1, h2⟩, -⟩ | ⟨-, -, -, l, n, a, c, na, nc, rfl, -⟩
  · exact ⟨_, _, _, _, rfl, rfl, rfl, h1, h2⟩
  · exact ⟨_, _, _, _, rfl, rfl, rfl, rfl, rfl⟩
theorem XY {s : ByteArray} {x : Rx} (h : fM s = .ok x) : (iL x).length ≤ 100 := by
  obtain ⟨-, st, h1, h2, h3, q, h4⟩ := vR h
  obtain ⟨N, k, hU, -⟩ := h3
  obtain ⟨-, -, -, -, -, -, h6⟩ := exp_i s 250 (Nat.le_refl _) st0 x st rfl (Bd.zero hU) (Nat.zero_le _) h1
  have e : iL x = st.names := by unfold iL; rw [h4]
  rw [e]; exact h6
theorem RgX.sound {X : List Nat} {w : World} {b : Nat} {s : ByteArray} {x : Rx} {l : List In} {n : Nat} (h : RgX X w b s x l n) : sU ⟨l, 0, (iL x).length, iL x⟩ := SD h.prog (ok_caps h.ok) h.len h.grp
theorem prg_of {w : World} {x : Rx} {l : List In} {n : Nat} {a na : Option Addr} {c nc : Nat} (hp : ProgOk x l n) (hs : sU ⟨l, 0, (iL x).length, iL x⟩) (hl : l.length ≤ 10000) (hg : (iL x).length ≤ 100) (h1 : RSl 5 RIn [] w (.slice a l.length c) l) (h2 : RSl 1 RStr [] w (.slice na (iL x).length nc) (iL x)) :
    RPrg [] w [.slice a l.length c, iv 0, iv (iL x).length, .slice na (iL x).length nc] ⟨l, 0, (iL x).length, iL x⟩ := by
  refine ⟨⟨by simp, by show -9223372036854775808 ≤ ((iL x).length : Int) ∧ ((iL x).length : Int) ≤ 9223372036854775807; omega, by show l.length * 56 ≤ _; omega, by show (iL x).length * 16 ≤ _; omega⟩, _, _, rfl, ?_, h2⟩
  obtain ⟨a', c', he, hc, ek⟩ := h1
  refine ⟨a', c', he, hc, fun k hk => ?_⟩
  obtain ⟨b, o, vs, q1, q2, q3, q4, q5⟩ := ek k hk
  exact ⟨b, o, vs, q1, q2, q3, q4, rinst_of q5 (hs.2 k hk hk) (by show (l.length : Int) ≤ 10000; omega) (by show 0 ≤ ((iL x).length : Int) ∧ ((iL x).length : Int) ≤ 100; omega)⟩
theorem rxc_ok {X : List Nat} {w : World} (s : ByteArray) (hG : Glb w) (hX : ∀ b, b ∈ X → b < w.heap.size) :
    Calls Tryz.prog 9 #[.string s] w (Ret fun v w' => Evo [] w w' ∧ ∃ p e, v = .tuple #[.pointer p, iv e] ∧ ((e ≠ 0 ∧ p = none ∧ ((fM s = .error e) ∨ ∃ x, fM s = .ok x ∧ 10000 < x.esz + 1 ∧ e = 90)) ∨ (e = 0 ∧ ∃ b x l n, p = some ⟨b, 0, none⟩ ∧ w.heap.size ≤ b ∧ fM s = .ok x ∧ x.esz + 1 ≤ 10000 ∧ RgX X w' b s x l n))) := by
  refine aT (N := 27) Tryz.func9 rfl rfl rfl ?_; refine csr (bR (wan (csr (aB ?_)))); refine aJ (vs := [_]) QV rfl (SF (s := s) (hG.evo (Evo.refl [] w) (by simp))) rfl ?_; rintro _ w1 ⟨vs, n1, x, e1, rfl, hx1, hxp, b5⟩; have a4 := (Evo.refl [] w).then b5; have hx1' := hx1; obtain ⟨m1, ra1, rc1, ka1, kc1, hm1, rfl, -⟩ := hx1.get; refine aB (aC (bK rfl rfl) ?_); refine aC (bK rfl rfl) ?_; refine cF rfl eJ fun b4 w4 b7 M a5 => ?_; have b8 := M; refine aZ rfl rfl aU b7 rfl rfl ⟨by first | rfl | assumption, by first | rfl | assumption, by first | rfl | assumption, by first | rfl | assumption, by first | rfl | assumption, by first | rfl | assumption, by first | rfl | assumption, by first | rfl | assumption, by first | rfl | assumption, trivial⟩ fun c1 O U => ?_; have A := (a4.then a5).step U (Ge.new a4 M).mem1
  try simp only [cG, Nat.reduceAdd] at O
  refine wan (aI (csr (aB (aC (fJ rfl rfl) ?_)))); refine wnn (bA rfl (fun H => ?_) (fun H => ?_))
  ·refine csr (aB (bR (wan (aH (aE (cB rfl rfl rfl ?_)))))); exact ⟨A, none, e1, rfl, .inl ⟨H, rfl, .inl (hxp.resolve_left (fun h9 => H h9.2)).1⟩⟩
  have hpx : fM s = .ok x := (hxp.resolve_right (fun h9 => h9.2 (by omega))).1; refine aL (aA (csr (aC (bT rfl bV aU O rfl) (aJ (vs := [_]) QU rfl (PH (X := X) (fun b h => Nat.lt_of_lt_of_le (hX b h) (A).size) (RRx.pers _ _ _ _ _ _ (((Evo.refl [] w1).then a5).step U (Ge.new (Evo.refl [] w1) M).mem1) hx1')) rfl ?_)))); rintro _ a6 ⟨V, ps, e2, rfl, a7⟩; have hc2' := a7; obtain ⟨q1, q2, q3, q4, rfl, o1, o2, o3, o4⟩ := a7.four; refine aB (aC (bK rfl rfl) ?_); refine aC (bK rfl rfl) ?_; refine cF rfl zK fun b6 c2 a8 I W => ?_; have b9 := I; refine aZ rfl rfl gO a8 rfl rfl ⟨by first | rfl | assumption, by first | rfl | assumption, by first | rfl | assumption, by first | rfl | assumption, trivial⟩ fun c3 a0 a1 => ?_; have E := ((A.then V).then W).step a1 (Ge.new (A.then V) I).mem1
  try simp only [cG, Nat.reduceAdd] at a0
  refine wan (aI (csr (aB (aC (fJ rfl rfl) ?_)))); refine wnn (bA rfl (fun J => ?_) (fun J => ?_))
  ·refine csr (aB (bR (wan (aH (aE (cB rfl rfl rfl ?_)))))); obtain ⟨-, h9, -, h7⟩ := hc2'.resolve_right (fun h9 => J h9.2.2.1); exact ⟨E, none, e2, rfl, .inl ⟨J, rfl, .inr ⟨x, hpx, h9.resolve_left (fun h8 => h8 (vR hpx).1), h7 (vR hpx).1⟩⟩⟩
  refine aL (aA (csr (aB (aC (bT rfl mW gO a0 rfl) (aC (cA (vs := [(0, _), (1, _)]) MG rfl (cells := [_, _, _, _, _]) rfl) ?_))))); refine fT rfl rfl fun br c4 a9 L a2 => ?_; have c0 := L; have a3 := (((Evo.refl [] a6).then W).step a1 (Ge.new (Evo.refl [] a6) I).mem1).then a2; refine bR (wan (aH (cB rfl rfl rfl ?_))); obtain ⟨hok, hez, he2, l, n, a, c, na, nc, hps, hi, hn, hl, hP⟩ := hc2'.resolve_left (fun h9 => h9.1 (by omega))
  injection hps with e1' hps
  injection hps with e2' hps
  injection hps with e3' hps
  injection hps with e4' _
  subst e1' e2' e3' e4'
  exact ⟨(E.then a2), _, 0, rfl, .inr ⟨rfl, br, x, l, n, rfl, (Ge.new E L) _ rfl, hpx, hez, ⟨⟨a, c, na, nc, a9, RSl.evo RIn.pers ((a3).any X) hi, RSl.evo RStr.pers ((a3).any X) hn⟩, fun hm => by have h8 := hX br hm; have h9 := (Ge.new E L) _ rfl; omega, hl, hP, hok, XY hpx⟩⟩⟩
theorem match_ok {w : World} {b : Nat} {s : ByteArray} {x : Rx} {l : List In} {n : Nat} (h : RgX [] w b s x l n) (t : ByteArray) (ht : t.size ≤ 2097152) :
    Calls Tryz.prog 11 #[.pointer (some ⟨b, 0, none⟩), .string t] w (Ret fun v w' => ∃ m, v = .bool m ∧ (m = true ↔ ∃ M, Utf t M ∧ Mt (iD t M) x 0 M) ∧ Evo [] w w') := by
  have hsnd := h.sound; obtain ⟨a, c, na, nc, hb, hi, hn⟩ := h.ex; refine aT (N := 19) Tryz.func11 rfl rfl rfl ?_; refine csr (wan (aI (csr (aB ?_)))); refine aC (ex_binC (r := .bool false) rfl rfl (fun w => by kernel_rfl)) ?_; refine wnn (cM rfl ?_); refine aL (aA (csr (aB (aC (aG rfl) (aC (aD rfl ME) (aC (cY (o := 1) rfl mW gO (vs := [.slice a l.length c, iv 0, iv (iL x).length, .slice na (iL x).length nc]) rfl (rg_prog hb)) ?_)))))); refine aB (aJ (vs := [_, _]) QT rfl (XN (prg_of h.prog hsnd h.len h.grp (RSl.evo RIn.pers (Evo.refl [] w) hi) (RSl.evo RStr.pers (Evo.refl [] w) hn)) hsnd t ht) rfl ?_); rintro _ w1 ⟨nv, m, r, W', rfl, hpk, hres, A⟩; refine aB (aC (bK rfl rfl) ?_); refine aC (bK rfl rfl) ?_; refine bR (wan (csr (aB (wan (aH (br1 ?_)))))); refine ⟨m, rfl, ?_, ((Evo.refl [] w).then A)⟩; rw [← RR hsnd rfl h.prog hpk]
  rcases hres with ⟨h1, h2⟩ | ⟨t9, h1, h2, -⟩
  · rw [h1, h2]; simp
  · rw [h1, h2]; simp
end Go.Proofs.YtidpigbinpaaeaaGreat
namespace Go.Proofs.YtidpigbinpaaeaaGreat
open Go.RowKit Go.W
structure Mat where
  op : Int
  nm : ByteArray
  v : ByteArray
def IX (p t : ByteArray) : Prop := ∃ x M, fM p = .ok x ∧ Utf t M ∧ Mt (iD t M) x 0 M
def Mat.asks (m : Mat) (t : ByteArray) : Prop := (m.op = 1 ∧ t = m.v) ∨ (m.op = 2 ∧ ¬ t = m.v) ∨ (m.op = 3 ∧ IX m.v t) ∨ (m.op = 4 ∧ ¬ IX m.v t)
noncomputable def FP (p : ByteArray) : Int := match fM p with | .error e => e | .ok x => if 10000 < x.esz + 1 then 90 else 0
noncomputable def Mat.err (m : Mat) : Int := if m.op < 1 ∨ 4 < m.op then 7 else if ¬ lA m.nm then 160 else if ¬ qV m.v = true then 4 else if m.op = 3 ∨ m.op = 4 then FP m.v else 0
noncomputable def lG : List Mat → Int
  | [] => 0
  | m :: ms => if m.err = 0 then lG ms else m.err
theorem ZE {ms : List Mat} {k : Nat} (hk : k < ms.length) (h : lG (ms.take k) = 0) : lG (ms.take (k + 1)) = ms[k].err := by
  induction ms generalizing k with
  | nil => simp at hk
  | cons m ms ih =>
    cases k with
    | zero => simp only [List.take_succ_cons, List.take_zero, lG, List.getElem_cons_zero]; split <;> simp_all
    | succ k =>
      simp only [List.take_succ_cons, lG, List.getElem_cons_succ] at h ⊢
      by_cases hm : m.err = 0
      · rw [if_pos hm] at h ⊢; exact ih (by simpa using hk) h
      · rw [if_neg hm] at h; exact absurd h hm
theorem errs_at {ms : List Mat} {k : Nat} (hk : k < ms.length) (h : lG (ms.take k) = 0) (hm : ms[k].err ≠ 0) : lG ms = ms[k].err := by
  induction ms generalizing k with
  | nil => simp at hk
  | cons m ms ih =>
    cases k with
    | zero => simp only [List.getElem_cons_zero] at hm ⊢; simp only [lG, if_neg hm]
    | succ k =>
      simp only [List.take_succ_cons, lG, List.getElem_cons_succ] at h hm ⊢
      by_cases h0 : m.err = 0
      · rw [if_pos h0] at h ⊢; exact ih (by simpa using hk) h hm
      · rw [if_neg h0] at h; exact absurd h h0
theorem DD {ms : List Mat} : lG ms = 0 ↔ ∀ m, m ∈ ms → m.err = 0 := by
  induction ms with
  | nil => simp [lG]
  | cons m ms ih =>
    simp only [lG, List.mem_cons, forall_eq_or_imp]
    by_cases h0 : m.err = 0
    · rw [if_pos h0, ih]; simp [h0]
    · rw [if_neg h0]; simp [h0]
theorem OY {a b : List Mat} : lG (a ++ b) = 0 ↔ lG a = 0 ∧ lG b = 0 := by
  simp only [DD, List.mem_append]
  exact ⟨fun h => ⟨fun m hm => h m (.inl hm), fun m hm => h m (.inr hm)⟩, fun h m hm => hm.elim (h.1 m) (h.2 m)⟩
theorem Mat.op_of {m : Mat} (h : m.err = 0) : 1 ≤ m.op ∧ m.op ≤ 4 := by
  unfold Mat.err at h
  split at h
  · cases h
  · omega
def Mat.flip (m : Mat) : Mat := ⟨m.op - 1 + (m.op % 2) * 2, m.nm, m.v⟩
theorem Mat.flip_op {m : Mat} (h : 1 ≤ m.op ∧ m.op ≤ 4) : (m.op = 1 ∧ m.flip.op = 2) ∨ (m.op = 2 ∧ m.flip.op = 1) ∨ (m.op = 3 ∧ m.flip.op = 4) ∨ (m.op = 4 ∧ m.flip.op = 3) := by
  unfold Mat.flip
  simp only
  have h3 : m.op = 1 ∨ m.op = 2 ∨ m.op = 3 ∨ m.op = 4 := by omega
  rcases h3 with e | e | e | e <;> rw [e] <;> decide
theorem Mat.flip_err {m : Mat} (h : m.err = 0) : m.flip.err = 0 := by
  have h1 := Mat.op_of h
  have h2 := Mat.flip_op h1
  have h3 : m.flip.nm = m.nm := rfl
  have h4 : m.flip.v = m.v := rfl
  unfold Mat.err at h ⊢
  rw [if_neg (by omega)] at h ⊢
  rw [h3, h4]
  split at h
  · rename_i h5; rw [if_pos h5]; exact h
  · rename_i h5
    rw [if_neg h5]
    split at h
    · rename_i h6; rw [if_pos h6]; exact h
    · rename_i h6
      rw [if_neg h6]
      split at h
      · rename_i h7; rw [if_pos (by omega)]; exact h
      · rename_i h7; rw [if_neg (by omega)]
theorem Mat.flip_asks {m : Mat} (h : 1 ≤ m.op ∧ m.op ≤ 4) (t : ByteArray) : m.flip.asks t ↔ ¬ m.asks t := by
  have h2 := Mat.flip_op h
  have h4 : m.flip.v = m.v := rfl
  unfold Mat.asks
  rw [h4]
  rcases h2 with ⟨a, b⟩ | ⟨a, b⟩ | ⟨a, b⟩ | ⟨a, b⟩ <;> rw [a, b] <;> simp
def Chosen (sets : List (List LB)) (ms : List Mat) (i : Int) : Prop := ∃ k, ∃ h : k < sets.length, i = (k : Int) ∧ ∀ m, m ∈ ms → m.asks (kS sets[k] m.nm)
def FindIs (sets : List (List LB)) (ms : List Mat) (r : List Int) : Prop := SR3 r ∧ ∀ i, i ∈ r ↔ Chosen sets ms i
theorem Chosen.at {sets : List (List LB)} {ms : List Mat} {k : Nat} (h : k < sets.length) : Chosen sets ms (k : Int) ↔ ∀ m, m ∈ ms → m.asks (kS sets[k] m.nm) := by
  constructor
  · rintro ⟨j, hj, e, ha⟩
    obtain rfl : k = j := by omega
    exact ha
  · intro ha; exact ⟨k, h, rfl, ha⟩
theorem Chosen.app {sets : List (List LB)} {a b : List Mat} {i : Int} : Chosen sets (a ++ b) i ↔ Chosen sets a i ∧ Chosen sets b i := by
  constructor
  · rintro ⟨k, h, rfl, ha⟩
    exact ⟨⟨k, h, rfl, fun m hm => ha m (by simp [hm])⟩, ⟨k, h, rfl, fun m hm => ha m (by simp [hm])⟩⟩
  · rintro ⟨⟨k, h, rfl, ha⟩, hb⟩
    rw [Chosen.at h] at hb
    exact ⟨k, h, rfl, fun m hm => (List.mem_append.1 hm).elim (ha m) (hb m)⟩
open Classical in
noncomputable def AS (sets : List (List LB)) (ms : List Mat) (k : Nat) : List Int := (iJ [] k).filter fun i => decide (Chosen sets ms i)
theorem SX {sets : List (List LB)} {ms : List Mat} {k : Nat} {i : Int} : i ∈ AS sets ms k ↔ (0 ≤ i ∧ i < k) ∧ Chosen sets ms i := by
  unfold AS; rw [List.mem_filter, rC]; simp
theorem FindIs.eq {sets : List (List LB)} {ms : List Mat} {r : List Int} (h : FindIs sets ms r) : r = AS sets ms sets.length := by
  refine SR3.ext h.1 ((AO _ _).filter _) fun x => ?_
  rw [h.2 x, SX]
  refine ⟨fun hc => ⟨?_, hc⟩, fun hc => hc.2⟩
  obtain ⟨k, hk, rfl, -⟩ := hc
  exact ⟨by omega, by omega⟩
theorem ON {α : Type} (l : List α) (p q : α → Bool) (h : ∀ x, x ∈ l → q x = !p x) : (l.filter p).length + (l.filter q).length = l.length := by
  induction l with
  | nil => rfl
  | cons x l ih =>
    have h1 := h x (by simp)
    have h2 := ih (fun y hy => h y (by simp [hy]))
    cases hp : p x
    · rw [hp] at h1; simp only [List.filter_cons, hp, h1, Bool.not_false, if_true, Bool.false_eq_true, if_false, List.length_cons]; omega
    · rw [hp] at h1; simp only [List.filter_cons, hp, h1, Bool.not_true, if_true, Bool.false_eq_true, if_false, List.length_cons]; omega
theorem XI {sets : List (List LB)} {m : Mat} {yes no : List Int} (hm : m.err = 0) (h1 : FindIs sets [m] yes) (h2 : FindIs sets [m.flip] no) : yes.length + no.length = sets.length := by
  rw [h1.eq, h2.eq]
  unfold AS
  rw [ON, wM]
  intro i hi
  obtain ⟨⟨a, b⟩, -⟩ := rC.1 hi
  obtain ⟨k, rfl⟩ := Int.eq_ofNat_of_zero_le a
  have hk : k < sets.length := by omega
  have e1 := Chosen.at (ms := [m]) hk
  have e2 := Chosen.at (ms := [m.flip]) hk
  have e3 := Mat.flip_asks (Mat.op_of hm) (kS sets[k] m.nm)
  simp only [List.mem_singleton, forall_eq] at e1 e2
  have e4 : m.flip.nm = m.nm := rfl
  rw [e4, e3, ← e1] at e2
  by_cases hc : Chosen sets [m] (k : Int)
  · simp [hc, e2]
  · simp [hc, e2]
theorem RH {sets : List (List LB)} {m : Mat} {yes no r : List Int} (hm : m.err = 0) (h1 : FindIs sets [m] yes) (h2 : FindIs sets [m.flip] no) (hr : ∀ x, x ∈ r ↔ x ∈ yes ∧ x ∈ no) : r.length = 0 := by
  refine sr_none fun x hx => ?_
  obtain ⟨a, b⟩ := (hr x).1 hx
  obtain ⟨k, hk, rfl, c1⟩ := (h1.2 x).1 a
  have c2 := (Chosen.at hk).1 ((h2.2 _).1 b) m.flip (by simp)
  exact (Mat.flip_asks (Mat.op_of hm) _).1 c2 (c1 m (by simp))
end Go.Proofs.YtidpigbinpaaeaaGreat
namespace Go.Proofs.YtidpigbinpaaeaaGreat
open Go.RowKit Go.W
attribute [local irreducible] Decidable.decide
theorem QJ : iN Tryz.prog 29 = some false := by kernel_rfl
theorem iT : iN Tryz.prog 43 = some true := by kernel_rfl
theorem QI : iN Tryz.prog 48 = some false := by kernel_rfl
theorem zM : iN Tryz.prog 96 = some false := by kernel_rfl
theorem sL : mA Tryz.prog 33 = some 3 := by kernel_rfl
theorem LM : mA Tryz.prog 96 = some 1 := by kernel_rfl
theorem jH : dA Tryz.prog 43 0 = some 0 := by kernel_rfl
theorem nE : dA Tryz.prog 43 2 = some 2 := by kernel_rfl
theorem LL : cX Tryz.prog 11 := ⟨_, Tryz.func11, by kernel_rfl, by kernel_rfl⟩
theorem KS : cX Tryz.prog 67 := ⟨_, Tryz.func67, by kernel_rfl, by kernel_rfl⟩
theorem KQ : cX Tryz.prog 68 := ⟨_, Tryz.func68, by kernel_rfl, by kernel_rfl⟩
theorem KP : cX Tryz.prog 69 := ⟨_, Tryz.func69, by kernel_rfl, by kernel_rfl⟩
theorem wZ : eQ Tryz.prog 29 = some 1 := by kernel_rfl
theorem fS : eQ Tryz.prog 43 = some 3 := by kernel_rfl
theorem KJ : eQ Tryz.prog 96 = some 1 := by kernel_rfl
theorem YQ {ls : List LB} {B : Nat} (h : ∀ l, l ∈ ls → l.2.size ≤ B) (n : ByteArray) : (kS ls n).size ≤ B := by
  induction ls with
  | nil => exact Nat.zero_le _
  | cons l r ih =>
    simp only [kS]
    split
    · exact h l (by simp)
    · exact ih (fun l hl => h l (by simp [hl]))
theorem get_ok {X : List Nat} {w : World} {v : Value} {ls : List LB} (hs : RSl 2 RLB X w v ls) (hl : ls.length ≤ 1000000000) (n : ByteArray) : Calls Tryz.prog 69 #[v, .string n] w (Ret fun r w' => r = .string (kS ls n) ∧ Evo [] w w') := by
  obtain ⟨sa, sc, rfl, hlc, e1⟩ := hs; refine aT (N := 20) Tryz.func69 rfl rfl rfl ?_; refine csr (wan (aI (csr (aB (aC (bD rfl Tryz.underlying49 rfl) ?_))))); refine aB (wnn (bC ?_)); refine cN (α := Nat) (0) (fun k => [(9, .int .i64 (k : Nat))]) [(1, _), (7, _), (8, _)] (fun k wr => Evo [] w wr ∧ (k ≤ ls.length ∧ ∀ j (h : j < ls.length), j < k → ¬ ls[j].1 = n)) (fun k => ls.length - k) ⟨rfl, trivial⟩ ⟨rfl, rfl, rfl, trivial⟩ ⟨Evo.refl _ _, ⟨Nat.zero_le _, fun j _ h => by omega⟩⟩ ?_; rintro k wr1 ⟨H, ⟨hk, hno⟩⟩; show CW _ _ _ _ [(9, _), (1, _), (7, _), (8, _)] _; have E := (Evo.refl [] w).then H; refine csr (aC (cP rfl rfl) ?_); refine wnn (aI (bA rfl (fun O => ?_) (fun O => ?_)))
  ·have hk' : k < ls.length := by omega
   obtain ⟨b1, o1, vs1, ha1, hb1, -, U, rfl, hz1, hz2⟩ := e1 k hk'; refine aL (aA (aI (bC (csr ?_))))
   refine aC (bX (n := k) (by rw [ha1]; rfl) rfl oE (by omega)) ?_
   refine aC (cY rfl uG kA (vs := [_, _]) rfl (U.evo ((E).any X) hb1)) ?_; refine cF rfl sF fun b4 w5 V L M => ?_; refine aZ rfl rfl kA V rfl rfl ⟨by first | rfl | assumption, by first | rfl | assumption, trivial⟩ fun W I J => ?_; refine wnn (csr (wfl rfl iG rfl dD I rfl (aB (aC (gK rfl rfl) ?_)))); refine wnn (bA rfl (fun A => ?_) (fun A => ?_))
   ·refine csr (wfl rfl iF rfl dD I rfl (wan (aH (aM (aE (aE (aM (aE (br1 ?_))))))))); exact ⟨by rw [VX hk' A (fun j hj h => hno j hj h)], ((E.then M).step J (Ge.new E L).mem1)⟩
   refine aL (aO (aA (aF ?_))); refine aC (aK rfl rfl (by omega) (by omega)) ?_; refine aB (aP (aW ?_)); refine ⟨k + 1, ?_, ⟨rfl, trivial⟩, ⟨rfl, rfl, rfl, trivial⟩, ((H.then M).step J (Ge.new H L).mem1), ?_⟩
   · omega
   exact ⟨by omega, fun j hj h => by by_cases e : j = k; (subst e; exact A); exact hno j hj (by omega)⟩
  refine cJ (bH (bH (cI (aA ?_)))); refine csr (wan (aH (br1 ?_))); exact ⟨by rw [JE (fun j hj => hno j hj (by omega))], E⟩
theorem ask1_ok {w : World} {bm : Nat} {nm u : ByteArray} {op : Int} (hB : w.heap[bm]? = some (.cells #[.string nm, .int .i64 op, .string u] 43 (0, 0))) (x : ByteArray) : Calls Tryz.prog 67 #[.string x, .pointer (some ⟨bm, 0, none⟩)] w (Ret fun r w' => r = .bool (decide (x = u)) ∧ Evo [] w w') := by
  refine aT (N := 8) Tryz.func67 rfl rfl rfl ?_; refine csr (wan (csr (aB (wfl rfl nE rfl dD hB rfl (aC (gK rfl rfl) ?_))))); refine wan (aH (br1 ?_)); exact ⟨rfl, (Evo.refl [] w)⟩
def AsksS (fv : Value) (X : List Nat) (w : World) (p : ByteArray → Prop) : Prop := ∃ fn pre cap, fv = .func (.func fn) (List.toArray pre) (List.toArray cap) ∧ cX Tryz.prog fn ∧
  ∀ (Z : List Nat) (W : World) (x : ByteArray), Evo Z w W → (∀ y, y ∈ Z → y ∈ X ∨ w.heap.size ≤ y) → x.size ≤ 2097152 → Calls Tryz.prog fn (pre ++ [Value.string x] ++ cap).toArray W (Ret fun r W' => ∃ b, r = .bool b ∧ (b = true ↔ p x) ∧ Evo [] W W')
theorem AsksS.evo {fv : Value} {X Y Z : List Nat} {w w' : World} {p : ByteArray → Prop} (h : AsksS fv X w p) (he : Evo Z w w') (hz : ∀ y, y ∈ Z → y ∈ X ∨ w.heap.size ≤ y) (hy : ∀ y, y ∈ Y → y ∈ X ∨ w.heap.size ≤ y) : AsksS fv Y w' p := by
  obtain ⟨fn, pre, cap, h1, h2, h3⟩ := h
  refine ⟨fn, pre, cap, h1, h2, fun V W x k hv hx => h3 (Z ++ V) W x ((he.mono (by simp; intro b hb; exact .inl hb)).trans (k.mono (by simp; intro b hb; exact .inr hb))) (fun y hm => ?_) hx⟩
  rcases List.mem_append.1 hm with hm | hm
  · exact hz y hm
  · rcases hv y hm with h4 | h4
    · exact hy y h4
    · exact .inr (Nat.le_trans he.size h4)
theorem WT {X : List Nat} {w : World} {bm : Nat} {nm u : ByteArray} {op : Int} (hB : w.heap[bm]? = some (.cells #[.string nm, .int .i64 op, .string u] 43 (0, 0))) (hX : bm ∉ X) : AsksS (.func (.func 67) #[] #[.pointer (some ⟨bm, 0, none⟩)]) X w (fun t => t = u) :=
  ⟨_, [], [_], rfl, KS, fun Z W x he hz hx => (ask1_ok (he.blk hB (fun hm => (hz bm hm).elim hX (fun h => by have := dK hB; omega))) x).mono fun _ _ ⟨v, e, hv, hw⟩ => ⟨v, e, _, hv, by simp, hw⟩⟩
theorem asksM {X : List Nat} {w : World} {b : Nat} {s : ByteArray} {x : Rx} {l : List In} {n : Nat} (h : RgX X w b s x l n) (hp : fM s = .ok x) : AsksS (.func (.func 11) #[.pointer (some ⟨b, 0, none⟩)] #[]) X w (IX s) :=
  ⟨_, [_], [], rfl, LL, fun Z W t he hz ht => (match_ok (h.evo he hz) t ht).mono fun _ _ ⟨v, e, m, hv, hm, hw⟩ => ⟨v, e, m, hv, hm.trans ⟨fun ⟨M, a, b⟩ => ⟨x, M, hp, a, b⟩, fun ⟨y, M, a, b, c⟩ => by rw [hp] at a; cases a; exact ⟨M, b, c⟩⟩, hw⟩⟩
theorem ask2_ok {Y : List Nat} {w : World} {bs bm bw : Nat} {fn : FuncId} {pre cap : List Value} {nm u : ByteArray} {op : Int} {want : Bool} {p : ByteArray → Prop} {v : Value} {ls : List LB} (hS : w.heap[bs]? = some (.cells #[.func (.func fn) pre.toArray cap.toArray] 29 (0, 0))) (hB : w.heap[bm]? = some (.cells #[.string nm, .int .i64 op, .string u] 43 (0, 0))) (hW : w.heap[bw]? = some (.cells #[.bool want] 4 (0, 0))) (hgo : cX Tryz.prog fn)
    (hA : ∀ W x, Evo [] w W → x.size ≤ 2097152 → Calls Tryz.prog fn (pre ++ [Value.string x] ++ cap).toArray W (Ret fun r W' => ∃ b, r = .bool b ∧ (b = true ↔ p x) ∧ Evo [] W W')) (hs : RSl 2 RLB Y w v ls) (hl : ls.length ≤ 1000000000) (hz : (kS ls nm).size ≤ 2097152) :
    Calls Tryz.prog 68 #[v, .pointer (some ⟨bs, 0, none⟩), .pointer (some ⟨bm, 0, none⟩), .pointer (some ⟨bw, 0, none⟩)] w (Ret fun r w' => ∃ b, r = .bool b ∧ (b = true ↔ (p (kS ls nm) ↔ want = true)) ∧ Evo [] w w') := by
  refine aT (N := 14) Tryz.func68 rfl rfl rfl ?_; refine csr (wan (aI ?_)); refine eX (fun w0 w' => Evo [] w0 w') (by kernel_rfl) (fun w1 E => ?_); have H := (Evo.refl [] w).then E; have O := E.blk0 hS; refine aet 0 rfl (fun _ hS => aQ rfl QJ (aV (hS.blk0 O) rfl)) (Evo.refl [] w1) ?_; refine aet 1 rfl (fun _ hS => aY rfl) (Evo.refl [] w1) ?_; refine aet 2 rfl (fun _ hS => aD rfl jH) (Evo.refl [] w1) ?_; refine aet 3 rfl (fun _ hS => aQ rfl dD (aV (hS.blk0 (E.blk0 hB)) rfl)) (Evo.refl [] w1) ?_; refine aet 6 rfl (fun _ hS => aQ rfl DY (aV (hS.blk0 (E.blk0 hW)) rfl)) (Evo.refl [] w1) ?_; refine bS [4] (by kernel_rfl) rfl ⟨?_, trivial⟩; refine bY rfl ?_; refine aJ (vs := [_, _]) KP rfl (get_ok (RSl.evo RLB.pers ((H).any Y) hs) hl nm) rfl ?_; rintro _ w7 ⟨rfl, I⟩; have J := (Evo.refl [] w1).then I; refine aP (bN (.inl J) ?_); refine bS [5] (by kernel_rfl) rfl ⟨?_, trivial⟩; refine bY rfl ?_; refine XC (pre := pre) (cap := cap) (vs := [_]) hgo rfl rfl (hA w7 _ (H.then I) hz) rfl ?_; rintro _ U ⟨b, rfl, hbp, L⟩; have M := (H.then I).then L; have A := J.then L; refine aP (bN (.inl A) ?_); refine aet 7 rfl (fun _ hS => CY rfl rfl Tryz.underlying4) A ?_
  refine aet 8 rfl (fun _ hS => dU rfl) A ?_; refine cV (by kernel_rfl) (aA ?_); refine aH (br1 ?_)
  exact ⟨_, rfl, by rw [beq_iff_eq, ← hbp]; cases b <;> cases want <;> simp, M⟩
theorem eN : dA Tryz.prog 43 1 = some 1 := by kernel_rfl
theorem QG : cX Tryz.prog 9 := ⟨_, Tryz.func9, by kernel_rfl, by kernel_rfl⟩
theorem KI : kF Tryz.prog 29 = some #[.nilFunc] := by kernel_rfl
theorem pZ : kF Tryz.prog 4 = some #[.bool false] := by kernel_rfl
def AsksL (fv : Value) (X : List Nat) (w : World) (p : List LB → Prop) : Prop := ∃ cap, fv = .func (.func 68) #[] (List.toArray cap) ∧
  ∀ (Z : List Nat) (W : World) (Y : List Nat) (v : Value) (ls : List LB), Evo Z w W → (∀ y, y ∈ Z → y ∈ X ∨ w.heap.size ≤ y) → RSl 2 RLB Y W v ls → ls.length ≤ 1000000000 → (∀ l, l ∈ ls → l.2.size ≤ 2097152) →
    Calls Tryz.prog 68 (v :: cap).toArray W (Ret fun r W' => ∃ b, r = .bool b ∧ (b = true ↔ p ls) ∧ Evo [] W W')
theorem AsksL.evo {fv : Value} {X Y Z : List Nat} {w w' : World} {p : List LB → Prop} (h : AsksL fv X w p) (he : Evo Z w w') (hz : ∀ y, y ∈ Z → y ∈ X ∨ w.heap.size ≤ y) (hy : ∀ y, y ∈ Y → y ∈ X ∨ w.heap.size ≤ y) : AsksL fv Y w' p := by
  obtain ⟨cap, h1, h3⟩ := h
  refine ⟨cap, h1, fun V W U v ls k hv a1 a2 a3 => h3 (Z ++ V) W U v ls ((he.mono (by simp; intro b hb; exact .inl hb)).trans (k.mono (by simp; intro b hb; exact .inr hb))) (fun y hm => ?_) a1 a2 a3⟩
  rcases List.mem_append.1 hm with hm | hm
  · exact hz y hm
  · rcases hv y hm with h4 | h4
    · exact hy y h4
    · exact .inr (Nat.le_trans he.size h4)
theorem rI {X : List Nat} {w : World} {bs bm bw : Nat} {fv : Value} {m : Mat} {want : Bool} {p : ByteArray → Prop} (hS : w.heap[bs]? = some (.cells #[fv] 29 (0, 0))) (hB : w.heap[bm]? = some (.cells #[.string m.nm, .int .i64 m.op, .string m.v] 43 (0, 0))) (hW : w.heap[bw]? = some (.cells #[.bool want] 4 (0, 0)))
    (x1 : bs ∉ X) (x2 : bm ∉ X) (x3 : bw ∉ X) (hA : AsksS fv X w p) (hq : ∀ t, (p t ↔ want = true) ↔ m.asks t) : AsksL (.func (.func 68) #[] #[.pointer (some ⟨bs, 0, none⟩), .pointer (some ⟨bm, 0, none⟩), .pointer (some ⟨bw, 0, none⟩)]) X w (fun ls => m.asks (kS ls m.nm)) := by
  obtain ⟨fn, pre, cap, rfl, hgo, hA⟩ := hA
  refine ⟨[_, _, _], rfl, fun Z W Y v ls he hz hs hl hv => ?_⟩
  have hn : ∀ b o, w.heap[b]? = some o → b ∉ X → b ∉ Z := fun b o h1 h2 hm => (hz b hm).elim h2 (fun h3 => by have := dK h1; omega)
  refine (ask2_ok (p := p) (he.blk hS (hn _ _ hS x1)) (he.blk hB (hn _ _ hB x2)) (he.blk hW (hn _ _ hW x3)) hgo (fun W2 x k hx => hA Z W2 x (he.then k) hz hx) hs hl (YQ hv _)).mono ?_
  rintro e W' ⟨v, rfl, b, rfl, hb, hw⟩
  exact ⟨_, rfl, b, rfl, hb.trans (hq _), hw⟩
theorem XO {s : ByteArray} {e : Int} (h : (fM s = .error e) ∨ ∃ x, fM s = .ok x ∧ 10000 < x.esz + 1 ∧ e = 90) : FP s = e := by
  unfold FP
  rcases h with h | ⟨x, h, h2, rfl⟩
  · rw [h]
  · rw [h]; simp only; rw [if_pos h2]
theorem MR {s : ByteArray} {x : Rx} (h : fM s = .ok x) (h2 : x.esz + 1 ≤ 10000) : FP s = 0 := by
  unfold FP; rw [h]; simp only; rw [if_neg (by omega)]
theorem pF {m : Mat} (h1 : ¬ (m.op < 1 ∨ 4 < m.op)) (h2 : lA m.nm) (h3 : qV m.v = true) : m.err = if m.op = 3 ∨ m.op = 4 then FP m.v else 0 := by
  unfold Mat.err; rw [if_neg h1, if_neg (fun h => h h2), if_neg (fun h => h h3)]
theorem WS {m : Mat} (h : m.op = 3 ∨ m.op = 4) (t : ByteArray) : (IX m.v t ↔ decide (m.op = 3) = true) ↔ m.asks t := by
  unfold Mat.asks
  rcases h with h | h <;> rw [h] <;> simp
theorem AT {m : Mat} {want : Bool} (h : m.op = 1 ∧ want = true ∨ m.op = 2 ∧ want = false) (t : ByteArray) : (t = m.v ↔ want = true) ↔ m.asks t := by
  unfold Mat.asks
  rcases h with ⟨h, e⟩ | ⟨h, e⟩ <;> rw [h, e] <;> simp
theorem PG {X : List Nat} {w : World} (m : Mat) (hG : Glb w) (hX : ∀ b, b ∈ X → b < w.heap.size) (h1 : m.nm.size ≤ 1000000000) (h2 : m.v.size ≤ 1000000000) :
    Calls Tryz.prog 41 #[.agg #[.string m.nm, .int .i64 m.op, .string m.v]] w (Ret fun r w' => Evo [] w w' ∧ ∃ fv e, r = .tuple #[fv, iv3 e] ∧ e = m.err ∧ (e = 0 → AsksL fv X w' (fun ls => m.asks (kS ls m.nm)))) := by
  refine aT (N := 56) Tryz.func41 rfl rfl rfl ?_; refine csr (fT rfl rfl fun bm w1 b9 e5 g5 => ?_); have g6 := e5; have c9 := Ge.new (Evo.refl [] w) e5; have d4 := (Evo.refl [] w).then g5; refine bR (wan (aI (bC (aI (mB (α := Bool) (fun z8 => [(8, .bool z8)]) [(1, _), (2, _), (3, _)] (fun z8 wr => w1 = wr ∧ (z8 = true ↔ (m.op < 1 ∨ 4 < m.op))) ⟨rfl, rfl, rfl, trivial⟩ ?_ ?_)))))
  ·refine aF (wfl rfl eN rfl eL b9 rfl (aC (cP rfl rfl) ?_)); refine aB (bF (t := 12) rfl (fun e6 => ?_) (fun e6 => ?_))
   ·refine aN (aN (aN (bW (bR (aP (aW ?_)))))); refine ⟨_, ⟨rfl, trivial⟩, ⟨rfl, rfl, rfl, trivial⟩, rfl, ?_⟩
    simp only [decide_eq_true_eq, Bool.false_eq_true, Bool.true_eq_false, true_iff, false_iff, eq_self, iff_true]; omega
   refine aS (aC (aD rfl eN) (aS (aC (aQ rfl eL (aV b9 rfl)) (aS (aC (gF rfl rfl) ?_))))); refine bM (bR (aP (aW ?_))); refine ⟨_, ⟨rfl, trivial⟩, ⟨rfl, rfl, rfl, trivial⟩, rfl, ?_⟩
   simp only [decide_eq_true_eq, Bool.false_eq_true, Bool.true_eq_false, true_iff, false_iff, eq_self, iff_true]; omega
  rintro z8 _ ⟨rfl, hz8⟩; refine aA ?_; show CW _ _ _ _ [(8, _), (1, _), (2, _), (3, _)] _; refine dW rfl (fun d5 => ?_) (fun d5 => ?_)
  ·subst d5; have hj8 := hz8.1 rfl; refine csr (bR (wan (aH (aM (aE (cB rfl rfl rfl ?_))))))
   exact ⟨d4, _, 7, rfl, by unfold Mat.err; rw [if_pos hj8], fun h => by cases h⟩
  subst d5
  have hj8 : ¬ (m.op < 1 ∨ 4 < m.op) := fun h9 => by have := hz8.2 h9; cases this
  refine csr (wfl rfl jH rfl dD b9 rfl ?_); refine aJ (vs := [_]) xB rfl (CL m.nm (by omega)) rfl ?_; rintro _ w9 ⟨rfl, a4⟩; refine aC (lX rfl) ?_; refine wan (bA rfl (fun H => ?_) (fun H => ?_))
  ·refine csr (bR (wan (aH (aM (aE (cB rfl rfl rfl ?_))))))
   exact ⟨(d4.then a4), _, 160, rfl, by unfold Mat.err; rw [if_neg hj8, if_pos H], fun h => by cases h⟩
  refine csr (wfl rfl nE rfl dD (a4.blk0 b9) rfl ?_); refine aJ (vs := [_]) xJ rfl (utf_ok m.v (by omega)) rfl ?_; rintro _ h3 ⟨rfl, d6⟩; have c0 := (d4.then a4).then d6; have d7 := d6.blk0 (a4.blk0 b9); refine aC (fP rfl) ?_; refine wan (dW rfl (fun I => ?_) (fun I => ?_))
  ·refine csr (bR (wan (aH (aM (aE (cB rfl rfl rfl ?_))))))
   exact ⟨c0, _, 4, rfl, by unfold Mat.err; rw [if_neg hj8, if_neg (fun h => h (Classical.not_not.1 H)), if_pos (by simpa using I)], fun h => by cases h⟩
  refine aL (aO (aA (csr (aC (iS (vs := [_]) rfl) ?_)))); refine cF rfl KI fun bs h4 e7 c1 d8 => ?_; have g7 := c1; have d9 := Apart.new (Lt.blk d7) c1; have L := Ge.new c0 c1; refine bE rfl rfl (by first | rfl | assumption) wZ e7 rfl fun g8 J e0 => ?_; have A := (c0.then d8).step e0 L.mem1; have E := e0.blk (d8.blk0 d7) d9.nmem1
  try simp only [cG, Nat.reduceAdd] at J
  refine wnn (aI (aI (mB (α := Bool) (fun z35 => [(35, .bool z35)]) [(1, _), (2, _), (3, _), (4, _)] (fun z35 wr => g8 = wr ∧ (z35 = true ↔ (m.op = 3 ∨ m.op = 4))) ⟨rfl, rfl, rfl, rfl, trivial⟩ ?_ ?_)))
  ·refine aF (wfl rfl eN rfl eL E rfl (wel ?_)); refine aB (bF (t := 31) rfl (fun e8 => ?_) (fun e8 => ?_))
   ·refine aN (aN (aN (bW (aP (aW ?_))))); refine ⟨_, ⟨rfl, trivial⟩, ⟨rfl, rfl, rfl, rfl, trivial⟩, rfl, ?_⟩
    simp only [decide_eq_true_eq, Bool.false_eq_true, Bool.true_eq_false, true_iff, false_iff, eq_self, iff_true]; omega
   refine aS (aC (aD rfl eN) (aS (aC (aQ rfl eL (aV E rfl)) (aS (wel ?_))))); refine bM (aP (aW ?_)); refine ⟨_, ⟨rfl, trivial⟩, ⟨rfl, rfl, rfl, rfl, trivial⟩, rfl, ?_⟩
   simp only [decide_eq_true_eq, Bool.false_eq_true, Bool.true_eq_false, true_iff, false_iff, eq_self, iff_true]; omega
  rintro z35 _ ⟨rfl, hz35⟩; refine aA ?_; show CW _ _ _ _ [(35, _), (1, _), (2, _), (3, _), (4, _)] _; refine dW rfl (fun c2 => ?_) (fun c2 => ?_)
  ·subst c2; have hj35 := hz35.1 rfl; refine csr (wfl rfl nE rfl dD E rfl ?_)
   refine aJ (vs := [_]) QG rfl (rxc_ok (X := bs :: X) m.v (hG.evo A (by simp)) (fun b hb => by rcases List.mem_cons.1 hb with rfl | hb; exact dK J; exact Nat.lt_of_lt_of_le (hX b hb) (A).size)) rfl ?_
   rintro _ g9 ⟨a5, p, e, rfl, hrx⟩; refine aB (aC (bK rfl rfl) ?_); refine aC (bK rfl rfl) ?_; refine bR (wan (aI (csr (aB (aC (fJ rfl rfl) ?_))))); refine wnn (bA rfl (fun c3 => ?_) (fun c3 => ?_))
   ·obtain ⟨-, rfl, hbad⟩ := hrx.resolve_right (fun h9 => c3 h9.1); refine csr (aB (bR (wan (aH (aE (aE (cB rfl rfl rfl ?_))))))); have hlb := Classical.not_not.1 H
    have hut : qV m.v = true := by simpa using I
    exact ⟨(A.then a5), _, e, rfl, by rw [pF hj8 hlb hut, if_pos hj35, XO hbad], fun h => absurd h c3⟩
   obtain ⟨-, rb, rx, rl, rn, rfl, hrb, hpx, hez, hrg⟩ := hrx.resolve_left (fun h9 => h9.1 (by omega)); refine aL (aA (aF (aB (aC (JL rfl) ?_)))); refine bE rfl rfl (by first | rfl | assumption) wZ (a5.blk0 J) rfl fun h5 a0 c4 => ?_; have M := (A.then a5).step c4 L.mem1; have a6 := (Evo.refl [bs] g9).step c4 (fun y hy => .inl hy); have O := c4.blk (a5.blk0 E) d9.nmem1
   try simp only [cG, Nat.reduceAdd] at a0
   refine wnn (csr (wfl rfl eN rfl eL O rfl (wel ?_))); refine aB (bF (t := 50) rfl (fun c5 => ?_) (fun c5 => ?_))
   ·refine aN (aN (aN (bW (cF rfl pZ fun bw h6 e9 U a7 => ?_)))); have a1 := U; refine bE rfl rfl (by first | rfl | assumption) nP e9 rfl fun h7 e1 a8 => ?_; have f0 := (M.then a7).step a8 (Ge.new M U).mem1; have f5 := (a6.then a7).step a8 (Ge.new a6 U).mem1; have f6 := a8.blk (a7.blk0 O) (Apart.new (Lt.blk O) U).nmem1; have f7 := a8.blk (a7.blk0 a0) (Apart.new (Lt.blk a0) U).nmem1
    try simp only [cG, Nat.reduceAdd] at e1
    refine wnn (csr (aC (iS (vs := [_, _, _]) rfl) ?_)); refine bR (wan (aH (cB rfl rfl rfl ?_)))
    have hx1 : bs ∉ X := fun hm => by have h8 := hX _ hm; have h9 := L _ rfl; omega
    have hx2 : bm ∉ X := fun hm => by have h8 := hX _ hm; have h9 := c9 _ rfl; omega
    have hx3 : bw ∉ X := fun hm => by have h8 := hX _ hm; have h9 := (Ge.new M U) _ rfl; omega
    have hlb := Classical.not_not.1 H
    have hut : qV m.v = true := by simpa using I
    first | (exfalso; omega) | exact ⟨f0, _, 0, rfl, by rw [pF hj8 hlb hut, if_pos hj35, MR hpx hez], fun _ => rI (want := decide (m.op = 3)) f7 f6 e1 hx1 hx2 hx3 ((asksM hrg hpx).evo f5 (fun y hy => .inl (List.mem_cons.2 (.inl (List.mem_singleton.1 hy)))) (fun y hy => .inl (List.mem_cons_of_mem _ hy))) (WS hj35)⟩
   refine aS (aC (aD rfl eN) (aS (aC (aQ rfl eL (aV O rfl)) (aS (wel ?_))))); refine bM (cF rfl pZ fun bw i1 f8 V a9 => ?_); have a1 := V; refine bE rfl rfl (by first | rfl | assumption) nP f8 rfl fun i2 e2 b4 => ?_; have f9 := (M.then a9).step b4 (Ge.new M V).mem1; have g0 := (a6.then a9).step b4 (Ge.new a6 V).mem1; have g1 := b4.blk (a9.blk0 O) (Apart.new (Lt.blk O) V).nmem1; have g2 := b4.blk (a9.blk0 a0) (Apart.new (Lt.blk a0) V).nmem1
   try simp only [cG, Nat.reduceAdd] at e2
   refine wnn (csr (aC (iS (vs := [_, _, _]) rfl) ?_)); refine bR (wan (aH (cB rfl rfl rfl ?_)))
   have hx1 : bs ∉ X := fun hm => by have h8 := hX _ hm; have h9 := L _ rfl; omega
   have hx2 : bm ∉ X := fun hm => by have h8 := hX _ hm; have h9 := c9 _ rfl; omega
   have hx3 : bw ∉ X := fun hm => by have h8 := hX _ hm; have h9 := (Ge.new M V) _ rfl; omega
   have hlb := Classical.not_not.1 H
   have hut : qV m.v = true := by simpa using I
   first | (exfalso; omega) | exact ⟨f9, _, 0, rfl, by rw [pF hj8 hlb hut, if_pos hj35, MR hpx hez], fun _ => rI (want := decide (m.op = 3)) g2 g1 e2 hx1 hx2 hx3 ((asksM hrg hpx).evo g0 (fun y hy => .inl (List.mem_cons.2 (.inl (List.mem_singleton.1 hy)))) (fun y hy => .inl (List.mem_cons_of_mem _ hy))) (WS hj35)⟩
  subst c2
  have hj35 : ¬ (m.op = 3 ∨ m.op = 4) := fun h9 => by have := hz35.2 h9; cases this
  refine aL (aA (csr (wfl rfl eN rfl eL E rfl (wel ?_)))); refine aB (bF (t := 50) rfl (fun c5 => ?_) (fun c5 => ?_))
  ·refine aN (aN (aN (bW (cF rfl pZ fun bw i3 g3 a2 c6 => ?_)))); have a1 := a2; refine bE rfl rfl (by first | rfl | assumption) nP g3 rfl fun i4 c7 c8 => ?_; have e3 := (A.then c6).step c8 (Ge.new A a2).mem1; have b5 := c8.blk (c6.blk0 E) (Apart.new (Lt.blk E) a2).nmem1; have e4 := c8.blk (c6.blk0 J) (Apart.new (Lt.blk J) a2).nmem1
   try simp only [cG, Nat.reduceAdd] at c7
   refine wnn (csr (aC (iS (vs := [_, _, _]) rfl) ?_)); refine bR (wan (aH (cB rfl rfl rfl ?_)))
   have hx1 : bs ∉ X := fun hm => by have h8 := hX _ hm; have h9 := L _ rfl; omega
   have hx2 : bm ∉ X := fun hm => by have h8 := hX _ hm; have h9 := c9 _ rfl; omega
   have hx3 : bw ∉ X := fun hm => by have h8 := hX _ hm; have h9 := (Ge.new A a2) _ rfl; omega
   have hlb := Classical.not_not.1 H
   have hut : qV m.v = true := by simpa using I
   first | exact ⟨e3, _, 0, rfl, by rw [pF hj8 hlb hut, if_neg hj35], fun _ => rI (want := true) e4 b5 c7 hx1 hx2 hx3 (WT b5 hx2) (AT (.inl ⟨by omega, rfl⟩))⟩ | exact ⟨e3, _, 0, rfl, by rw [pF hj8 hlb hut, if_neg hj35], fun _ => rI (want := decide (m.op = 3)) e4 b5 c7 hx1 hx2 hx3 (WT b5 hx2) (AT (.inr ⟨by omega, decide_eq_false (by omega)⟩))⟩
  refine aS (aC (aD rfl eN) (aS (aC (aQ rfl eL (aV E rfl)) (aS (wel ?_))))); refine bM (cF rfl pZ fun bw i5 g4 a3 b6 => ?_); have a1 := a3; refine bE rfl rfl (by first | rfl | assumption) nP g4 rfl fun h0 b7 b8 => ?_; have d0 := (A.then b6).step b8 (Ge.new A a3).mem1; have W := b8.blk (b6.blk0 E) (Apart.new (Lt.blk E) a3).nmem1; have d3 := b8.blk (b6.blk0 J) (Apart.new (Lt.blk J) a3).nmem1
  try simp only [cG, Nat.reduceAdd] at b7
  refine wnn (csr (aC (iS (vs := [_, _, _]) rfl) ?_)); refine bR (wan (aH (cB rfl rfl rfl ?_)))
  have hx1 : bs ∉ X := fun hm => by have h8 := hX _ hm; have h9 := L _ rfl; omega
  have hx2 : bm ∉ X := fun hm => by have h8 := hX _ hm; have h9 := c9 _ rfl; omega
  have hx3 : bw ∉ X := fun hm => by have h8 := hX _ hm; have h9 := (Ge.new A a3) _ rfl; omega
  have hlb := Classical.not_not.1 H
  have hut : qV m.v = true := by simpa using I
  first | exact ⟨d0, _, 0, rfl, by rw [pF hj8 hlb hut, if_neg hj35], fun _ => rI (want := true) d3 W b7 hx1 hx2 hx3 (WT W hx2) (AT (.inl ⟨by omega, rfl⟩))⟩ | exact ⟨d0, _, 0, rfl, by rw [pF hj8 hlb hut, if_neg hj35], fun _ => rI (want := decide (m.op = 3)) d3 W b7 hx1 hx2 hx3 (WT W hx2) (AT (.inr ⟨by omega, decide_eq_false (by omega)⟩))⟩
theorem DX : AA Tryz.prog 96 96 = some (48, 1, 8) := by kernel_rfl
theorem EU : Build Tryz.prog 98 #[(0, 1)] #[.slice none 0 0] := ⟨_, .agg #[.slice none 0 0], Tryz.underlying98, by kernel_rfl, rfl, fun w => by kernel_rfl⟩
theorem qN : dA Tryz.prog 98 0 = some 0 := by kernel_rfl
theorem LC : cX Tryz.prog 41 := ⟨_, Tryz.func41, by kernel_rfl, by kernel_rfl⟩
theorem EO : lS Tryz.prog 96 = some (48, 1) := by kernel_rfl
theorem sG : kF Tryz.prog 43 = some #[.string ByteArray.empty, .int .i64 0, .string ByteArray.empty] := by kernel_rfl
theorem QF : Tryz.prog.underlying 45 = some (.pointer (Tryz.prog.pointee 45)) := by kernel_rfl
def RMat : Rel Mat := fun _ _ vs m => vs = [.string m.nm, .int .i64 m.op, .string m.v] ∧ m.nm.size ≤ 1000000000 ∧ m.v.size ≤ 1000000000
theorem RMat.pers : RMat.Pers := fun _ _ _ _ _ _ h => h
def FilterAt (X : List Nat) (w : World) (b : Nat) (ms : List Mat) : Prop := b ∉ X ∧ ∃ a c, w.heap[b]? = some (.cells #[.slice a ms.length c] 98 (0, 0)) ∧
  ∀ k (hk : k < ms.length), ∃ g fv, a = some ⟨g, 0, none⟩ ∧ g ∉ X ∧ w.cell? ⟨g, 0 + k * 1, none⟩ = some fv ∧ AsksL fv X w (fun ls => ms[k].asks (kS ls ms[k].nm))
theorem FilterAt.evo {X Y Z : List Nat} {w w' : World} {b : Nat} {ms : List Mat} (h : FilterAt X w b ms) (he : Evo Z w w') (hz : ∀ y, y ∈ Z → y ∈ X ∨ w.heap.size ≤ y) (hy : ∀ y, y ∈ Y → y ∈ X ∨ w.heap.size ≤ y) : FilterAt Y w' b ms := by
  obtain ⟨hb, a, c, h1, h2⟩ := h
  have hlt := dK h1
  have nz : ∀ (V : List Nat), (∀ y, y ∈ V → y ∈ X ∨ w.heap.size ≤ y) → ∀ g, g ∉ X → g < w.heap.size → g ∉ V := fun V hv g g1 g2 hm => (hv g hm).elim g1 (fun h => by omega)
  refine ⟨nz Y hy b hb hlt, a, c, he.blk h1 (nz Z hz b hb hlt), fun k hk => ?_⟩
  obtain ⟨g, fv, e, hg, hc, hA⟩ := h2 k hk
  have hgl := WN hc
  exact ⟨g, fv, e, nz Y hy g hg hgl, he.cell hc (nz Z hz g hg hgl), hA.evo he hz hy⟩
theorem FilterAt.evo0 {w w' : World} {b : Nat} {ms : List Mat} (h : FilterAt [] w b ms) (he : Evo [] w w') : FilterAt [] w' b ms := h.evo he (by simp) (by simp)
theorem zJ {X : List Nat} {w : World} {v : Value} {ms : List Mat} (hs : RSl 3 RMat X w v ms) (hl : ms.length ≤ 2000000) (hG : Glb w) :
    Calls Tryz.prog 18 #[v] w (Ret fun r w' => ∃ p i e, r = .tuple #[.pointer p, i, iv3 e] ∧ e = lG ms ∧ (e = 0 → ∃ b, p = some ⟨b, 0, none⟩ ∧ FilterAt [] w' b ms) ∧ Evo [] w w') := by
  obtain ⟨sa, sc, rfl, hlc, e1⟩ := hs; refine aT (N := 40) Tryz.func18 rfl rfl rfl ?_; refine csr (bR (bR (wan (csr (aC (cA (vs := []) EU rfl (cells := [_]) rfl) ?_))))); refine fT rfl rfl fun bf w1 c4 a8 c5 => ?_; have c6 := a8; refine wan (aI (csr (aB (aC (bD rfl Tryz.underlying33 rfl) ?_)))); refine aB (wnn (bC ?_)); refine cN (α := Nat × Option Addr × Nat × Option Nat × List Value) ((0, none, 0, none, [])) (fun x => [(14, .int .i64 (x.1 : Nat))]) [(5, _), (12, _), (13, _)] (fun x wr => Evo [] w wr ∧ (x.1 ≤ ms.length ∧ lG (ms.take x.1) = 0 ∧ wr.heap[bf]? = some (.cells #[.slice x.2.1 x.1 x.2.2.1] 98 (0, 0)) ∧ OwnS wr 48 1 x.2.1 x.1 x.2.2.1 x.2.2.2.2 x.2.2.2.1 ∧ Apart (some bf) x.2.2.2.1 ∧ w.heap.size ≤ bf ∧ Ge w x.2.2.2.1 ∧ ∀ j (h : j < ms.length) fv, x.2.2.2.2[j]? = some fv → AsksL fv (bf :: x.2.2.2.1.toList) wr (fun ls => ms[j].asks (kS ls ms[j].nm)))) (fun x => ms.length - x.1) ⟨rfl, trivial⟩ ⟨rfl, rfl, rfl, trivial⟩ ⟨((Evo.refl [] w).then c5), ⟨Nat.zero_le _, rfl, c4, OwnS.nil _ _ _, Apart.nil _, (Ge.new (Evo.refl [] w) a8) _ rfl, Ge.nil _, fun j h fv e => by simp at e⟩⟩ ?_; rintro ⟨k, la, lc, lob, fs⟩ wr7 ⟨V, ⟨hk, her, hBf, hL, hap, hgbf, hgl, hAs⟩⟩; show CW _ _ _ _ [(14, .int .i64 (k : Nat)), (5, _), (12, _), (13, _)] _
  try dsimp only at hk her hBf hL hap hgbf hgl hAs
  have b4 := Evo.refl (bf :: lob.toList) wr7
  have hgbf2 : Ge w (some bf) := fun g h => by cases h; exact hgbf
  have hfl : fs.length = k := by have := hL.length; omega
  refine csr (aC (cP rfl rfl) ?_); refine wnn (aI (bA rfl (fun b6 => ?_) (fun b6 => ?_)))
  ·have hk' : k < ms.length := by omega
   obtain ⟨b1, o1, vs1, ha1, hb1, -, c7, rfl, hz1, hz2⟩ := e1 k hk'; refine aL (aA (aI (bC (csr (aB ?_)))))
   refine aC (bX (n := k) (by rw [ha1]; rfl) rfl sL (by omega)) ?_
   refine aC (cY rfl iT fS (vs := [_, _, _]) rfl (c7.evo ((V).any X) hb1)) ?_; refine cF rfl sG fun bm d4 b7 E I => ?_; have c8 := E; refine bR ?_; refine aZ rfl rfl fS b7 rfl rfl ⟨by first | rfl | assumption, by first | rfl | assumption, by first | rfl | assumption, trivial⟩ fun d5 a0 J => ?_; have O := (V.then I).step J (Ge.new V E).mem1; have U := J.blk (I.blk0 hBf) (Apart.new (Lt.blk hBf) E).nmem1; have a1 := (hL.evo0 I).evo J (Apart.new (Lt.own hL) E).own1
   try simp only [cG, Nat.reduceAdd] at a0
   refine wnn (csr (aC (bT rfl iT fS a0 rfl) ?_))
   refine aJ (vs := [_]) LC rfl (PG (X := bf :: lob.toList) ms[k] (hG.evo O (by simp)) (fun b hb => by rcases List.mem_cons.1 hb with rfl | hb; exact dK U; exact Lt.own a1 b (by simpa using hb)) hz1 hz2) rfl ?_
   rintro _ b5 ⟨A, fv, e, rfl, hee, hAfv⟩; have a2 := ((b4.then I).step J (Ge.new b4 E).mem1).then A; have hsz2 := (a2).size; refine aB (aC (bK rfl rfl) ?_); refine aC (bK rfl rfl) ?_; refine bR (wan (aI (csr (aB (aC (fJ rfl rfl) ?_))))); refine wnn (bA rfl (fun b8 => ?_) (fun b8 => ?_))
   ·refine csr (aB (aB (bR (bR (wan (aH (aE (aM (aE (aE (aM (aE (dI rfl rfl rfl rfl ?_)))))))))))))
    have hne : ms[k].err ≠ 0 := by rw [← hee]; omega
    exact ⟨_, _, _, rfl, by rw [hee, errs_at hk' her hne], fun h => absurd h (by omega), (O.then A)⟩
   have hAf := hAfv (by omega); obtain ⟨cap9, hfe, -⟩ := id hAf; subst hfe; refine aL (aA (aF (aB (aB (aC (aG rfl) (wfl rfl qN rfl zM (A.blk0 U) rfl (aB (bL (vs := [_]) rfl EO rfl rfl rfl rfl fun d6 d7 b9 d3 H => ?_)))))))); have a3 := (O.then A).then H; have a4 := (Evo.refl (bf :: lob.toList) b5).then H; have a5 := H.blk0 (A.blk0 U); have hsz3 := (a4).size; refine cT rfl rfl rfl rfl DX ((a1.evo0 A).evo0 H) (Src.ofOwn b9 ⟨by first | rfl | assumption, trivial⟩) (by omega) fun a9 c9 d8 ob9 d0 L hob57 => ?_; have a6 := hap.app (Lt.blk a5) hob57; have c0 := (a2.then H).step L (fun y hy => .inl (List.mem_cons_of_mem _ hy)); have c1 := a4.step L (fun y hy => .inl (List.mem_cons_of_mem _ hy)); have hob9a := hob57; refine aC (aG rfl) (aC (aD rfl qN) ?_); refine bE rfl rfl (by first | rfl | assumption) KJ (L.blk a5 hap.nmem) rfl fun d9 a7 M => ?_
   have c2 := c0.step M (fun y hy => .inl (by rw [List.mem_singleton.1 hy]; exact List.mem_cons_self ..))
   have c3 := c1.step M (fun y hy => .inl (by rw [List.mem_singleton.1 hy]; exact List.mem_cons_self ..))
   try simp only [cG, Nat.reduceAdd] at a7
   refine aP (aO (aA (aF ?_))); refine aC (aK rfl rfl (by omega) (by omega)) ?_; refine aB (aP (aW ?_)); refine ⟨⟨k + 1, a9, c9, ob9, fs ++ [.func (.func 68) #[] (List.toArray cap9)]⟩, ?_, ⟨rfl, trivial⟩, ⟨rfl, rfl, rfl, trivial⟩, ((a3.step L hgl.mem).step M hgbf2.mem1), ?_⟩
   · (try dsimp only); omega
   try dsimp only
   have hob9 : ∀ y, y ∈ bf :: ob9.toList → y ∈ bf :: lob.toList ∨ b5.heap.size ≤ y := fun y hy => by rcases List.mem_cons.1 hy with rfl | hy; exact .inl (List.mem_cons_self ..); rcases hob9a with e9 | ⟨g9, e9, e10⟩; (rw [e9] at hy; exact .inl (List.mem_cons_of_mem _ hy)); (rw [e9] at hy; have : y = g9 := (by simpa using hy); subst this; exact .inr (Nat.le_trans hsz3 e10))
   have hself : ∀ (W : World) y, y ∈ bf :: lob.toList → y ∈ bf :: lob.toList ∨ W.heap.size ≤ y := fun W y hy => .inl hy
   refine ⟨by omega, by rw [ZE hk' her, ← hee]; omega, a7, (d0.evo M a6.symm.own1), a6, hgbf, (hgl.app a3 hob57), fun j h fu ej => ?_⟩
   by_cases ejk : j < k
   · rw [List.getElem?_append_left (by omega)] at ej; exact (hAs j h fu ej).evo c2 (hself _) (fun y hy => (hob9 y hy).imp id (fun h => Nat.le_trans hsz2 h))
   · have hjl := (List.getElem?_eq_some_iff.1 ej).1; rw [List.length_append, List.length_singleton] at hjl; obtain rfl : j = k := by omega
     rw [List.getElem?_append_right (by omega), show j - fs.length = 0 by omega] at ej; cases ej
     exact hAf.evo c3 (hself _) hob9
  obtain rfl : k = ms.length := by omega
  refine cJ (bH (bH (cI (aA ?_)))); refine csr (aB (bR (bR (wan (aH (dI rfl rfl rfl rfl ?_)))))); rw [List.take_length] at her; refine ⟨_, _, 0, rfl, her.symm, fun _ => ⟨bf, rfl, by simp, la, lc, hBf, fun j hj => ?_⟩, V⟩; obtain ⟨fv, hfv⟩ : ∃ fv, fs[j]? = some fv := ⟨fs[j], List.getElem?_eq_getElem (by omega)⟩; obtain ⟨g, hg, ha, hc⟩ := GF hL hfv; exact ⟨g, fv, ha, by simp, hc, (hAs j hj fv hfv).evo (Evo.refl [] _) (by simp) (by simp)⟩
theorem HG {Y : List Nat} {w : World} {b : Nat} {ms : List Mat} {v : Value} {ls : List LB} (h : FilterAt [] w b ms) (hm : ms.length ≤ 2000000) (hs : RSl 2 RLB Y w v ls) (hl : ls.length ≤ 1000000000) (hv : ∀ l, l ∈ ls → l.2.size ≤ 2097152) :
    Calls Tryz.prog 19 #[.pointer (some ⟨b, 0, none⟩), v] w (Ret fun r w' => ∃ q, r = .bool q ∧ (q = true ↔ ∀ m, m ∈ ms → m.asks (kS ls m.nm)) ∧ Evo [] w w') := by
  obtain ⟨-, fa, fc, hF, hf⟩ := h; refine aT (N := 23) Tryz.func19 rfl rfl rfl ?_; refine csr (wan (aI (csr (aB (aC (JM rfl rfl QF) ?_))))); refine wnn (cM rfl ?_); refine aL (aA (aI (csr (aB (aC (aG rfl) (wfl rfl qN rfl zM hF rfl (aC (bD rfl Tryz.underlying96 rfl) ?_))))))); refine aB (wnn (bC ?_)); refine cN (α := Nat) (0) (fun k => [(14, .int .i64 (k : Nat))]) [(1, _), (12, _), (13, _)] (fun k wr => Evo [] w wr ∧ (k ≤ ms.length ∧ ∀ j (h : j < ms.length), j < k → ms[j].asks (kS ls ms[j].nm))) (fun k => ms.length - k) ⟨rfl, trivial⟩ ⟨rfl, rfl, rfl, trivial⟩ ⟨Evo.refl _ _, ⟨Nat.zero_le _, fun j _ h => by omega⟩⟩ ?_; rintro k wr1 ⟨H, ⟨hk, hyes⟩⟩; show CW _ _ _ _ [(14, _), (1, _), (12, _), (13, _)] _; have A := (Evo.refl [] w).then H; refine csr (aC (cP rfl rfl) ?_); refine wnn (aI (bA rfl (fun L => ?_) (fun L => ?_)))
  ·have hk' : k < ms.length := by omega
   obtain ⟨g, fv, hga, -, hfc, cap, rfl, hA⟩ := hf k hk'; refine aL (aA (aI (bC (csr ?_))))
   refine aC (bX (n := k) (by rw [hga]; rfl) rfl LM (by omega)) ?_
   refine aC (aQ rfl QI ((A).cell hfc (by simp))) ?_; refine wan (csr (aB (aB ?_))); refine xW (vs := [_]) KQ rfl rfl (hA [] wr1 Y _ ls A (by simp) (RSl.evo RLB.pers ((A).any Y) hs) hl hv) rfl ?_; rintro _ w5 ⟨q9, rfl, I, J⟩; refine aC (fP rfl) ?_; refine wnn (dW rfl (fun E => ?_) (fun E => ?_))
   ·refine csr (wan (aH (aM (aE (aE (aM (aE (br1 ?_))))))))
    exact ⟨false, rfl, by simp only [Bool.false_eq_true, false_iff]; exact fun h => by have := I.2 (h _ (List.getElem_mem hk')); simp_all, (A.then J)⟩
   refine aL (aO (aA (aF ?_))); refine aC (aK rfl rfl (by omega) (by omega)) ?_; refine aB (aP (aW ?_)); refine ⟨k + 1, ?_, ⟨rfl, trivial⟩, ⟨rfl, rfl, rfl, trivial⟩, (H.then J), ?_⟩
   · omega
   exact ⟨by omega, fun j hj h => by by_cases e : j = k; (subst e; exact I.1 (by simpa using E)); exact hyes j hj (by omega)⟩
  refine cJ (bH (bH (cI (aA ?_)))); refine csr (wan (aH (br1 ?_)))
  exact ⟨true, rfl, by simp only [true_iff]; exact fun m hm => by obtain ⟨j, hj, rfl⟩ := List.getElem_of_mem hm; exact hyes j hj (by omega), A⟩
end Go.Proofs.YtidpigbinpaaeaaGreat
namespace Go.Proofs.YtidpigbinpaaeaaGreat
open Go.RowKit Go.W
def SeenA (p : ByteArray → Prop) (vs : List Vl) (seen : List Nat) (S : List Int) : Prop := ∀ i, i ∈ S ↔ ∃ k, k ∈ seen ∧ ∃ x, vs[k]? = some x ∧ p x.v ∧ i ∈ x.ids
theorem SeenA.nil (p : ByteArray → Prop) (vs : List Vl) : SeenA p vs [] [] := fun i => by simp
theorem SeenA.yes {p : ByteArray → Prop} {vs : List Vl} {seen : List Nat} {S : List Int} (h : SeenA p vs seen S) {k : Nat} {x : Vl} (hx : vs[k]? = some x) (hp : p x.v) : SeenA p vs (seen ++ [k]) (S ++ x.ids) := fun i => by
  rw [List.mem_append, h i]
  constructor
  · rintro (⟨j, hj, hr⟩ | hi)
    · exact ⟨j, by simp [hj], hr⟩
    · exact ⟨k, by simp, x, hx, hp, hi⟩
  · rintro ⟨j, hj, y, hy, hq, hi⟩
    rcases List.mem_append.1 hj with hj | hj
    · exact .inl ⟨j, hj, y, hy, hq, hi⟩
    · obtain rfl : j = k := by simpa using hj
      rw [hx] at hy; cases hy; exact .inr hi
theorem SeenA.no {p : ByteArray → Prop} {vs : List Vl} {seen : List Nat} {S : List Int} (h : SeenA p vs seen S) {k : Nat} {x : Vl} (hx : vs[k]? = some x) (hp : ¬ p x.v) : SeenA p vs (seen ++ [k]) S := fun i => by
  rw [h i]
  constructor
  · rintro ⟨j, hj, hr⟩
    exact ⟨j, by simp [hj], hr⟩
  · rintro ⟨j, hj, y, hy, hq, hi⟩
    rcases List.mem_append.1 hj with hj | hj
    · exact ⟨j, hj, y, hy, hq, hi⟩
    · obtain rfl : j = k := by simpa using hj
      rw [hx] at hy; cases hy; exact absurd hq hp
def gl (vs : List Vl) (k : Nat) : Nat := ((vs[k]?).map fun x => x.ids.length).getD 0
theorem gl_at {vs : List Vl} {k : Nat} {x : Vl} (hx : vs[k]? = some x) : gl vs k = x.ids.length := by unfold gl; rw [hx]; rfl
theorem gl_all (vs : List Vl) : (List.range vs.length).map (gl vs) = vs.map fun x => x.ids.length := by
  apply List.ext_getElem
  · simp
  · intro i h1 h2
    have hi : i < vs.length := by simpa using h2
    simp [gl, hi]
theorem seen_sum {l : List Nat} {n : Nat} (h1 : l.Nodup) (h2 : ∀ x, x ∈ l → x < n) (g : Nat → Nat) : (l.map g).sum ≤ ((List.range n).map g).sum := by
  have h := BL (l := l ++ (List.range n).filter (fun x => decide (x ∉ l))) (r := List.range n) (by
    rw [List.nodup_append]
    refine ⟨h1, List.nodup_range.filter _, fun a ha b hb e => ?_⟩
    subst e
    have := (List.mem_filter.1 hb).2
    exact of_decide_eq_true this ha) List.nodup_range (fun x => by
    rw [List.mem_append, List.mem_filter, List.mem_range]
    constructor
    · rintro (h | h)
      · exact h2 x h
      · exact h.1
    · intro h
      by_cases hx : x ∈ l
      · exact .inl hx
      · exact .inr ⟨h, decide_eq_true hx⟩)
  have h3 := perm_sum g h
  rw [List.map_append, List.sum_append] at h3
  omega
section
variable {D : List En} {n : ByteArray} {m : Option Nat} {vs : List Vl} {sets : List (List LB)}
theorem FO {T : List Tr} {seen : List Nat} (hO : OfAt D n m vs) (hK : Knows D T) (h1 : seen.Nodup) (h2 : ∀ x, x ∈ seen → x < vs.length) : (seen.map (gl vs)).sum ≤ T.length := by
  have h3 := seen_sum h1 h2 (gl vs)
  rw [gl_all] at h3
  exact Nat.le_trans h3 (hO.cnt hK)
theorem SeenA.all {p : ByteArray → Prop} {T : List Tr} {seen : List Nat} {S : List Int} (h : SeenA p vs seen S) (hO : OfAt D n m vs) (hK : Knows D T) (hall : ∀ i, i < vs.length → i ∈ seen) {i : Int} : i ∈ S ↔ ∃ v, p v ∧ (n, v, i) ∈ T := by
  rw [h i]
  constructor
  · rintro ⟨k, _, x, hx, hp, hi⟩
    rw [hO.ids hK (List.mem_of_getElem? hx)] at hi
    exact ⟨x.v, hp, pT.1 hi⟩
  · rintro ⟨v, hp, ht⟩
    obtain ⟨x, hx, rfl, hi⟩ := hO.has hK ht
    obtain ⟨k, hk, rfl⟩ := List.getElem_of_mem hx
    exact ⟨k, hall k hk, _, List.getElem?_eq_getElem hk, hp, hi⟩
theorem GR {n v : ByteArray} {i : Int} : (n, v, i) ∈ dM sets sets.length ↔ ∃ k, ∃ h : k < sets.length, i = (k : Int) ∧ (n, v) ∈ sets[k] := by
  constructor
  · intro h
    obtain ⟨k, hk, _, e, hm⟩ := GP h
    exact ⟨k, hk, e, hm⟩
  · rintro ⟨k, hk, rfl, hm⟩
    exact mem_rows.2 ⟨hk, hk, hm⟩
theorem GQ (hv : ∀ i (h : i < sets.length), lbOk sets[i]) {n : ByteArray} {i : Int} : i ∈ kK (dM sets sets.length) sets.length n ↔ ∃ k, ∃ h : k < sets.length, i = (k : Int) ∧ kS sets[k] n = ByteArray.mk #[] := by
  rw [NT]
  constructor
  · rintro ⟨⟨h1, h2⟩, h3⟩
    obtain ⟨k, rfl⟩ := Int.eq_ofNat_of_zero_le h1
    have hk : k < sets.length := by omega
    exact ⟨k, hk, rfl, (yK (hv k hk)).1 fun v hm => h3 v (GR.2 ⟨k, hk, rfl, hm⟩)⟩
  · rintro ⟨k, hk, rfl, e⟩
    refine ⟨⟨by omega, by omega⟩, fun v ht => ?_⟩
    obtain ⟨j, hj, e2, hm⟩ := GR.1 ht
    obtain rfl : k = j := by omega
    exact (yK (hv k hk)).2 e v hm
theorem SV (hv : ∀ i (h : i < sets.length), lbOk sets[i]) {n v : ByteArray} {i : Int} : i ∈ mS (dM sets sets.length) sets.length n v ↔ ∃ k, ∃ h : k < sets.length, i = (k : Int) ∧ kS sets[k] n = v := by
  unfold mS
  split
  · rename_i h; subst h; exact GQ hv
  · rename_i h
    rw [pT, GR]
    constructor
    · rintro ⟨k, hk, e, hm⟩; exact ⟨k, hk, e, (CQ (hv k hk) h).1 hm⟩
    · rintro ⟨k, hk, e, hm⟩; exact ⟨k, hk, e, (CQ (hv k hk) h).2 hm⟩
theorem DI {mt : Mat} {i : Int} : Chosen sets [mt] i ↔ ∃ k, ∃ h : k < sets.length, i = (k : Int) ∧ mt.asks (kS sets[k] mt.nm) := by
  unfold Chosen; simp
theorem ZM (hv : ∀ i (h : i < sets.length), lbOk sets[i]) {mt : Mat} (ho : mt.op = 1) {i : Int} : i ∈ mS (dM sets sets.length) sets.length mt.nm mt.v ↔ Chosen sets [mt] i := by
  rw [SV hv, DI]
  have : ∀ t, mt.asks t ↔ t = mt.v := fun t => by unfold Mat.asks; rw [ho]; simp
  simp only [this]
theorem DJ (hv : ∀ i (h : i < sets.length), lbOk sets[i]) {mt : Mat} {S l : List Int} (hS : ∀ i, i ∈ S ↔ ∃ v, mt.asks v ∧ (mt.nm, v, i) ∈ dM sets sets.length)
    (hl : (mt.asks (ByteArray.mk #[]) ∧ ∀ i, i ∈ l ↔ i ∈ S ∨ i ∈ kK (dM sets sets.length) sets.length mt.nm) ∨ (¬ mt.asks (ByteArray.mk #[]) ∧ ∀ i, i ∈ l ↔ i ∈ S)) (i : Int) : i ∈ l ↔ Chosen sets [mt] i := by
  rw [DI]
  have h1 : i ∈ S ↔ ∃ k, ∃ h : k < sets.length, i = (k : Int) ∧ mt.asks (kS sets[k] mt.nm) ∧ ¬ kS sets[k] mt.nm = ByteArray.mk #[] := by
    rw [hS]
    constructor
    · rintro ⟨v, hp, ht⟩
      obtain ⟨k, hk, e, hm⟩ := GR.1 ht
      have hg := wL (hv k hk) hm
      exact ⟨k, hk, e, by rw [hg]; exact hp, fun e2 => (yK (hv k hk)).2 e2 v hm⟩
    · rintro ⟨k, hk, e, hp, hn⟩
      exact ⟨_, hp, GR.2 ⟨k, hk, e, (CQ (hv k hk) hn).2 rfl⟩⟩
  rcases hl with ⟨ha, hl⟩ | ⟨ha, hl⟩
  · rw [hl, h1, GQ hv]
    constructor
    · rintro (⟨k, hk, e, hp, -⟩ | ⟨k, hk, e, e2⟩)
      · exact ⟨k, hk, e, hp⟩
      · exact ⟨k, hk, e, by rw [e2]; exact ha⟩
    · rintro ⟨k, hk, e, hp⟩
      by_cases h : kS sets[k] mt.nm = ByteArray.mk #[]
      · exact .inr ⟨k, hk, e, h⟩
      · exact .inl ⟨k, hk, e, hp, h⟩
  · rw [hl, h1]
    constructor
    · rintro ⟨k, hk, e, hp, -⟩; exact ⟨k, hk, e, hp⟩
    · rintro ⟨k, hk, e, hp⟩
      exact ⟨k, hk, e, hp, fun h => ha (h ▸ hp)⟩
end
theorem getL_one (n v : ByteArray) : kS [(n, v)] n = v := by simp [kS]
end Go.Proofs.YtidpigbinpaaeaaGreat
namespace Go.Proofs.YtidpigbinpaaeaaGreat
open Go.RowKit Go.W
attribute [local irreducible] Decidable.decide
theorem xG : cX Tryz.prog 18 := ⟨_, Tryz.func18, by kernel_rfl, by kernel_rfl⟩
theorem xF : cX Tryz.prog 19 := ⟨_, Tryz.func19, by kernel_rfl, by kernel_rfl⟩
theorem nC : lS Tryz.prog 33 = some (43, 3) := by kernel_rfl
theorem rnil2 {X : List Nat} {w : World} : RSl 2 RLB X w (.slice none 0 0) [] := ⟨none, 0, rfl, by simp, fun k hk => by simp at hk⟩
theorem IL {w : World} {e : TypeId} {a : Option Addr} {c : Nat} {m : Mat} {ob : Option Nat} (h : OwnS w e 3 a 1 c [.string m.nm, .int .i64 m.op, .string m.v] ob) (h1 : m.nm.size ≤ 1000000000) (h2 : m.v.size ≤ 1000000000) : RSl 3 RMat [] w (.slice a 1 c) [m] :=
  RSl.ofOwn (rows := [[_, _, _]]) h ⟨rfl, fun k hk hk2 => by match k, hk, hk2 with | 0, _, _ => exact ⟨rfl, rfl, h1, h2⟩⟩ rfl (fun _ _ => by simp)
theorem UI (l : List Int) : (srt l).length = l.length := List.length_mergeSort l
theorem VL {l : List Int} {x : Int} : x ∈ srt l ↔ x ∈ l := List.mem_mergeSort
structure IxOn (w : World) (bx : Nat) (sets : List (List LB)) : Prop where
  ex : ∃ n0 mb D, IxAt w n0 bx sets.length mb D ∧ Knows D (dM sets sets.length)
  ok : ∀ i (h : i < sets.length), lbOk sets[i]
  few : sets.length ≤ 2000000
  rows : (dM sets sets.length).length ≤ 2000000
  short : ∀ i (h : i < sets.length) l, l ∈ sets[i] → l.1.size ≤ 1000000000 ∧ l.2.size ≤ 2097152
theorem IxOn.evo0 {w w' : World} {bx : Nat} {sets : List (List LB)} (h : IxOn w bx sets) (he : Evo [] w w') : IxOn w' bx sets := by
  obtain ⟨⟨n0, mb, D, h1, h2⟩, a, b, c, d⟩ := h
  exact ⟨⟨n0, mb, D, h1.evo0 he, h2⟩, a, b, c, d⟩
theorem SY {w : World} {bx : Nat} {sets : List (List LB)} (h : IxOn w bx sets) (m : Mat) (hm : m.err = 0) (h1 : m.nm.size ≤ 1000000000) (h2 : m.v.size ≤ 1000000000) (hG : Glb w) :
    Calls Tryz.prog 37 #[.pointer (some ⟨bx, 0, none⟩), .agg #[.string m.nm, .int .i64 m.op, .string m.v]] w (Ret fun v w' => ∃ l, Res w w' v l ∧ (∀ i, i ∈ l ↔ Chosen sets [m] i) ∧ l.length ≤ 4000000) := by
  obtain ⟨⟨n0, mb, D, hI, hK⟩, hok, hfew, hrows, hshort⟩ := h; refine aT (N := 60) Tryz.func37 rfl rfl rfl ?_; refine csr (fT rfl rfl fun bm w1 a1 e1 e2 => ?_); have e3 := e1; have a2 := (Evo.refl [] w).then e2; refine wan (aI (csr (wfl rfl eN rfl eL a1 rfl (wel ?_)))); refine wnn (bA rfl (fun d5 => ?_) (fun d5 => ?_))
  ·refine csr (aB (wfl rfl jH rfl dD a1 rfl (wfl rfl nE rfl dD a1 rfl ?_))); refine aJ (vs := [_, _, _]) xE rfl (GX (hI.evo0 a2) hK RV (by omega) (by omega) m.nm m.v) rfl ?_; rintro _ w7 ⟨ra, rc, rob, rfl, hRO, hRG, e4⟩; have hidl := YO (T := dM sets sets.length) (N := sets.length) (n := m.nm) (v := m.v); refine wan (aH (aE (br1 ?_))); exact ⟨_, ⟨ra, rc, rob, rfl, hRO, (Ge.fresh a2 hRG), (a2.then e4)⟩, fun i => ZM hok (by omega), by omega⟩
  refine aL (aA (csr (aC (bT rfl iT fS a1 rfl) (bL (vs := [_]) rfl nC rfl rfl rfl rfl fun f7 f8 d6 e8 a3 => ?_)))); refine aJ (vs := [_]) xG rfl (zJ (IL d6 h1 h2) (by simp) (hG.evo (a2.then a3) (by simp))) rfl ?_; rintro _ f9 ⟨p, ri, e, rfl, hee, hfil, b7⟩; have b8 := (a2.then a3).then b7; have a4 := b7.blk0 (a3.blk0 a1)
  have he0 : e = 0 := by rw [hee]; simp [lG, hm]
  subst he0; obtain ⟨fb, rfl, e5⟩ := hfil rfl; refine aB (aC (bK rfl rfl) ?_); refine aC (bK rfl rfl) ?_; refine aC (bK rfl rfl) ?_; refine bR (bR (wan (aI (csr (aB (aC (fJ rfl rfl) ?_)))))); refine wnn (bA rfl (fun b9 => ?_) (fun b9 => ?_))
  ·exact absurd rfl b9
  refine aL (aA (csr (wan (aI (csr (aB (wfl rfl jH rfl dD a4 rfl (aJ (vs := [_, _]) sI rfl (of_ok (hI.evo0 b8) hK.nmN m.nm) rfl ?_)))))))); rintro _ d4 ⟨mm, vs, rfl, hO, L⟩; have a5 := b8.then L; refine AY rfl rfl Tryz.underlying89 (hO.map (hI.evo0 a5)) fun it g0 d7 a6 a7 => ?_; refine wnn (bC ?_)
  refine cN (α := List Nat × List Int × Nat × Option Addr × Nat × Option Nat) (([], [], 0, none, 0, none)) (fun y => [(8, .slice y.2.2.2.1 y.2.2.1 y.2.2.2.2.1)]) [(0, _), (3, _), (4, _), (5, _), (33, _)] (fun y wr => Evo [] w wr ∧ (y.1.Nodup ∧ (∀ i, i ∈ y.1 → i < vs.length) ∧ SeenA m.asks vs y.1 y.2.1 ∧ y.2.1.length ≤ (y.1.map (gl vs)).sum ∧ y.2.2.1 = y.2.1.length ∧ OwnS wr 3 1 y.2.2.2.1 y.2.2.1 y.2.2.2.2.1 (y.2.1.map iv3) y.2.2.2.2.2 ∧ Ge w y.2.2.2.2.2 ∧ IterN wr it mm (vs.map Vl.kv).length y.1 ∧ Apart (some it) y.2.2.2.2.2 ∧ FilterAt (it :: y.2.2.2.2.2.toList) wr fb [m] ∧ wr.heap[bm]? = some (.cells #[.string m.nm, .int .i64 m.op, .string m.v] 43 (0, 0)) ∧ Apart (some bm) y.2.2.2.2.2)) (fun y => vs.length - y.1.length) ⟨rfl, trivial⟩ ⟨rfl, rfl, rfl, rfl, rfl, trivial⟩ ⟨(a5.then a7), ⟨List.nodup_nil, by simp, SeenA.nil _ _, by simp, rfl, OwnS.nil _ _ _, Ge.nil _, d7, Apart.nil _, (e5.evo0 L).evo ((Evo.refl [] d4).then a7) (by simp) (fun y hy => .inr (by have h9 := (Ge.new (Evo.refl [] d4) a6) _ rfl; simp at hy; subst hy; exact h9)), (a7.blk0 (L.blk0 a4)), Apart.nil _⟩⟩ ?_
  rintro ⟨seen, S, nl, la, lc, lob⟩ wr41 ⟨a8, ⟨hsn, hsl, hSA, hSl, hnl, hL, hGL, hIt, hAi, hF, hBm, hAb⟩⟩; show CW _ _ _ _ [(8, .slice la nl lc), (0, _), (3, _), (4, _), (5, _), (33, _)] _
  try dsimp only at hsn hsl hSA hSl hnl hL hGL hIt hAi hF hBm hAb
  have c0 := Evo.refl (it :: lob.toList) wr41; refine csr (FJ rfl rfl hIt (hO.map (hI.evo0 a8)) (fun hall => ?_) (fun ni nkv g1 hnkv hns c1 M => ?_))
  ·refine aC (bK rfl rfl) ?_; refine wnn (aI (cM rfl ?_)); refine cJ (bH (bH (cI (aA ?_)))); refine aI (aI ?_); have hsT := FO hO hK hsn hsl
   have hgot := fun i => hSA.all (i := i) hO hK (fun i hi => hall i (by rw [List.length_map]; exact hi))
   refine aF (aB ?_); refine aJ (vs := [_, _]) xF rfl (HG (Y := []) (hF.evo c0 (Y := []) (fun y hy => .inl hy) (by simp)) (by simp) rnil2 (by simp) (by simp)) rfl ?_; rintro _ g2 ⟨q, rfl, hq, O⟩; have U := a8.then O; simp only [List.mem_singleton, forall_eq, kS] at hq; refine wnn (dW rfl (fun c2 => ?_) (fun c2 => ?_))
   ·refine aF (aB (aB (wfl rfl jH rfl dD (O.blk0 hBm) rfl ?_))); refine aJ (vs := [_, _]) xC rfl (WR (hI.evo0 U) hK RV (by omega) (by omega) m.nm) rfl ?_; rintro _ g3 ⟨ra, rc, rob, rfl, hRO, hRG, b4⟩; have hbl : (kK (dM sets sets.length) sets.length m.nm).length ≤ sets.length := wN _ _; refine cT rfl rfl rfl rfl jV ((hL.evo0 O).evo0 b4) (src_rz (kY (X := []) hRO (fun _ _ => by simp)) (Evo.refl _ _)) (by omega) fun a9 c9 e6 ob9 c3 d8 hob73 => ?_; have c4 := hGL.app (U.then b4) hob73
    have hO9b : OwnS e6 3 1 a9 (nl + (kK (dM sets sets.length) sets.length m.nm).length) c9 ((S ++ kK (dM sets sets.length) sets.length m.nm).map iv3) ob9 := by rw [List.map_append]; exact c3
    refine wan (csr (aB ?_)); refine aJ (vs := [_]) sH rfl (BH hO9b (by omega)) rfl ?_; rintro _ g4 ⟨rfl, c5, d9⟩; refine wnn (csr (aB (wan (aH (br1 ?_))))); have J := hq.1 (by simpa using c2)
    have hln : (srt (S ++ kK (dM sets sets.length) sets.length m.nm)).length = nl + (kK (dM sets sets.length) sets.length m.nm).length := by rw [UI, List.length_append, hnl]
    exact ⟨_, ⟨a9, c9, ob9, by rw [hln], by rw [hln]; exact c5, c4, (((U.then b4).step d8 hGL.mem).step d9 c4.mem)⟩, fun i => DJ hok hgot (.inl ⟨J, fun i => by rw [VL, List.mem_append]⟩) i, by rw [hln]; omega⟩
   refine aL (aA (csr (aB ?_))); refine aJ (vs := [_]) sH rfl (BH (hL.evo0 O) (by omega)) rfl ?_; rintro _ g5 ⟨rfl, c5, e0⟩; refine wnn (csr (aB (wan (aH (br1 ?_)))))
   have J : ¬ m.asks (ByteArray.mk #[]) := fun h => by have := hq.2 h; simp_all
   have hln : (srt S).length = nl := by rw [UI, hnl]
   exact ⟨_, ⟨la, lc, lob, by rw [hln], by rw [hln]; exact c5, hGL, (U.step e0 hGL.mem)⟩, fun i => DJ hok hgot (.inr ⟨J, fun i => VL⟩) i, by rw [hln]; omega⟩
  skip
  have b5 := a8.step M (Ge.new a5 a6).mem
  have c6 := c0.step M (fun y hy => .inl (by rw [List.mem_singleton.1 hy]; exact List.mem_cons_self ..))
  have c7 := M.blk hBm (Apart.new (Lt.blk (L.blk0 a4)) a6).nmem; obtain ⟨x, hxv, hxk⟩ := NU hnkv; subst hxk; have hnk := (List.getElem?_eq_some_iff.1 hxv).1; have hxm := List.mem_of_getElem? hxv; have hxn : x.n = x.ids.length := oZ (hO.at (hI.evo0 b5) hxm); obtain ⟨ti, hti⟩ := (hO.mem hK).1 (List.mem_map.2 ⟨x, hxm, rfl⟩); obtain ⟨tk, htk, -, htm⟩ := GR.1 hti; have hxs := (hshort tk htk _ htm).2
  dsimp only at hxs
  have hsn9 : (seen ++ [ni]).Nodup := List.nodup_append.2 ⟨hsn, by simp, fun a ha b hb2 e => by simp at hb2; subst hb2; exact hns (e ▸ ha)⟩
  have hsl9 : ∀ i, i ∈ seen ++ [ni] → i < vs.length := fun i hi => by rcases List.mem_append.1 hi with hi | hi; exact hsl i hi; simp at hi; subst hi; exact hnk
  have hsT := FO hO hK hsn9 hsl9; rw [List.map_append, List.sum_append, List.map_singleton, List.sum_singleton, gl_at hxv] at hsT; refine aC (bK rfl rfl) ?_; refine wnn (aI (dB rfl ?_)); refine aL (aA (bC (csr (aC ((show Ex _ _ _ _ (.tuple #[.string x.v, .slice x.a x.n x.c]) _ from HI rfl c1 (hO.map (hI.evo0 b5)) hnkv)) ?_)))); refine aC (bK rfl rfl) ?_; refine aC (bK rfl rfl) ?_; refine bR (wan (csr (aB (wfl rfl jH rfl dD c7 rfl (aB (aC (cA (vs := [(0, _), (1, _)]) nF rfl (cells := [_, _]) rfl) ?_)))))); refine bL (vs := [_]) rfl qM rfl rfl rfl rfl fun g6 f0 d0 e7 A => ?_
  refine aJ (vs := [_, _]) xF rfl (HG (Y := []) (hF.evo (c6.then A) (Y := []) (fun y hy => .inl hy) (by simp)) (by simp) (IM (X := []) (l := [(m.nm, x.v)]) d0 rfl (by simp only [List.mem_singleton, forall_eq]; exact ⟨h1, by omega⟩) (by simp)) (by simp) (by simp only [List.mem_singleton, forall_eq]; exact hxs)) rfl ?_
  rintro _ f5 ⟨q, rfl, hq, E⟩; have H := (b5.then A).then E; have V := (c6.then A).then E; have W := (c1.evo0 A).evo0 E; have b6 := ((hL.evo M hAi.symm.own).evo0 A).evo0 E; have a0 := E.blk0 (A.blk0 c7); simp only [List.mem_singleton, forall_eq, getL_one] at hq; refine wnn (dW rfl (fun c8 => ?_) (fun c8 => ?_))
  ·refine aF (aB (aB ?_)); have hsz8 := (V).size
   refine cT rfl rfl rfl rfl jV b6 (src_rz (kY (X := []) (hO.at (hI.evo0 H) hxm) (fun _ _ => by simp)) (Evo.refl _ _)) (by rw [← hxn] at hsT ⊢; omega) fun a9 c9 f6 ob9 c3 I hob128 => ?_
   have d3 := V.step I (fun y hy => .inl (List.mem_cons_of_mem _ hy)); have hob9a := hob128; refine bR (aP (aO (aW ?_))); refine ⟨⟨seen ++ [ni], S ++ x.ids, nl + x.ids.length, a9, c9, ob9⟩, ?_, ⟨rfl, trivial⟩, ⟨rfl, rfl, rfl, rfl, rfl, trivial⟩, (H.step I hGL.mem), ?_⟩
   · (try dsimp only); (have h9 := IC hsn hsl hnk hns; rw [List.length_append]; simp; omega)
   try dsimp only
   have J : m.asks x.v := hq.1 (by simpa using c8); have h9 := c3
   refine ⟨hsn9, hsl9, hSA.yes hxv J, by rw [List.map_append, List.sum_append, List.map_singleton, List.sum_singleton, gl_at hxv, List.length_append]; omega, by rw [List.length_append]; omega, by rw [List.map_append]; exact h9, (hGL.app H hob128), (W.evo I hAi.own), (hAi.app (Lt.iterN W) hob128), hF.evo d3 (fun y hy => .inl hy) (fun y hy => ?_), (I.blk a0 hAb.nmem), (hAb.app (Lt.blk a0) hob128)⟩
   rcases List.mem_cons.1 hy with rfl | hy
   · exact .inl (List.mem_cons_self ..)
   · rcases hob9a with e9 | ⟨g9, e9, e10⟩
     · rw [e9] at hy; exact .inl (List.mem_cons_of_mem _ hy)
     · rw [e9] at hy; have e11 : y = g9 := (by simpa using hy); subst e11; exact .inr (Nat.le_trans hsz8 e10)
  refine aL (aO (aW ?_)); refine ⟨⟨seen ++ [ni], S, nl, la, lc, lob⟩, ?_, ⟨rfl, trivial⟩, ⟨rfl, rfl, rfl, rfl, rfl, trivial⟩, H, ?_⟩
  · (try dsimp only); (have h9 := IC hsn hsl hnk hns; rw [List.length_append]; simp; omega)
  try dsimp only
  have J : ¬ m.asks x.v := fun h => by have := hq.2 h; simp_all
  exact ⟨hsn9, hsl9, hSA.no hxv J, by rw [List.map_append, List.sum_append, List.map_singleton, List.sum_singleton]; omega, hnl, b6, hGL, W, hAi, hF.evo V (fun y hy => .inl hy) (fun y hy => .inl hy), a0, hAb⟩
theorem LG : cX Tryz.prog 36 := ⟨_, Tryz.func36, by kernel_rfl, by kernel_rfl⟩
theorem LF : cX Tryz.prog 37 := ⟨_, Tryz.func37, by kernel_rfl, by kernel_rfl⟩
theorem FindIs.nil (sets : List (List LB)) : FindIs sets [] (iJ [] sets.length) := ⟨AO _ _, fun i => by
  rw [rC]
  constructor
  · rintro ⟨⟨h1, h2⟩, -⟩
    obtain ⟨k, rfl⟩ := Int.eq_ofNat_of_zero_le h1
    exact ⟨k, by omega, rfl, by simp⟩
  · rintro ⟨k, hk, rfl, -⟩
    exact ⟨⟨by omega, by omega⟩, by simp⟩⟩
theorem FindIs.len {sets : List (List LB)} {ms : List Mat} {l : List Int} (h : FindIs sets ms l) : l.length ≤ sets.length := by
  rw [h.eq]
  exact Nat.le_trans (List.length_filter_le _ _) (wN _ _)
theorem FindIs.step {sets : List (List LB)} {ms : List Mat} {k : Nat} (hk : k < ms.length) {l l2 r : List Int} (h : FindIs sets (ms.take k) l) (h2 : ∀ i, i ∈ l2 ↔ Chosen sets [ms[k]] i) (hs : SR3 r) (hr : ∀ x, x ∈ r ↔ x ∈ l ∧ x ∈ l2) : FindIs sets (ms.take (k + 1)) r :=
  ⟨hs, fun i => by rw [hr, h.2, h2, List.take_succ_eq_append_getElem hk, Chosen.app]⟩
theorem tC {X : List Nat} {w : World} {bx : Nat} {sets : List (List LB)} {v : Value} {ms : List Mat} (h : IxOn w bx sets) (hs : RSl 3 RMat X w v ms) (hl : ms.length ≤ 2000000) (hG : Glb w) :
    Calls Tryz.prog 15 #[.pointer (some ⟨bx, 0, none⟩), v] w (Ret fun r w' => ∃ v1 e, r = .tuple #[v1, iv3 e] ∧ e = lG ms ∧ ((e ≠ 0 ∧ v1 = .slice none 0 0) ∨ (e = 0 ∧ ∃ l, Res w w' v1 l ∧ FindIs sets ms l)) ∧ Evo [] w w') := by
  have a4 := hs; have h0 := h; obtain ⟨sa, sc, rfl, hlc, e1⟩ := hs; obtain ⟨⟨n0, mb, D, hI, hK⟩, -, hfew, -, -⟩ := h; refine aT (N := 36) Tryz.func15 rfl rfl rfl ?_; refine csr (bR (wan (aI (csr (aB (aJ (vs := [_]) xG rfl (zJ a4 hl hG) rfl ?_)))))); rintro _ w1 ⟨p, ri, e, rfl, hee, hfil, a5⟩; have J := (Evo.refl [] w).then a5; refine aB (aC (bK rfl rfl) ?_); refine aC (bK rfl rfl) ?_; refine aC (bK rfl rfl) ?_; refine bR (bR (wan (csr (aB (aC (fJ rfl rfl) ?_))))); refine wnn (bA rfl (fun L => ?_) (fun L => ?_))
  ·refine csr (aB (bR (wan (aH (aE (cB rfl rfl rfl ?_)))))); exact ⟨_, _, rfl, hee, .inl ⟨L, rfl⟩, J⟩
  have hes : lG ms = 0 := by omega
  refine aL (aA (csr (aB ?_))); refine aJ (vs := [_]) LG rfl (all_ok (hI.evo0 J) (by omega)) rfl ?_; rintro _ w4 ⟨a0, c0, ob0, rfl, a6, a7, a8⟩; refine wan (aI (csr (aB (aC (bD rfl Tryz.underlying33 rfl) ?_)))); refine aB (wnn (bC (cN (α := Nat × List Int × Nat × Option Addr × Nat × Option Nat) ((0, iJ [] sets.length, (iJ [] sets.length).length, a0, c0, ob0)) (fun y => [(25, .int .i64 (y.1 : Nat)), (9, .slice y.2.2.2.1 y.2.2.1 y.2.2.2.2.1)]) [(0, _), (4, _), (5, _), (23, _), (24, _)] (fun y wr => Evo [] w wr ∧ (y.1 ≤ ms.length ∧ FindIs sets (ms.take y.1) y.2.1 ∧ y.2.2.1 = y.2.1.length ∧ OwnS wr 3 1 y.2.2.2.1 y.2.2.1 y.2.2.2.2.1 (y.2.1.map iv3) y.2.2.2.2.2 ∧ Ge w y.2.2.2.2.2)) (fun y => ms.length - y.1) ⟨rfl, rfl, trivial⟩ ⟨rfl, rfl, rfl, rfl, rfl, trivial⟩ ⟨(J.then a8), ⟨Nat.zero_le _, FindIs.nil _, rfl, a6, (Ge.fresh J a7)⟩⟩ ?_))); rintro ⟨k, l, nl, la, lc, lob⟩ wr8 ⟨E, ⟨hk, hF, hnl, hL, hGL⟩⟩; show CW _ _ _ _ [(25, .int .i64 (k : Nat)), (9, .slice la nl lc), (0, _), (4, _), (5, _), (23, _), (24, _)] _
  try dsimp only at hk hF hnl hL hGL
  have b9 := hL; subst hnl; refine csr (aC (cP rfl rfl) ?_); refine wnn (aI (bA rfl (fun V => ?_) (fun V => ?_)))
  ·have hk' : k < ms.length := by omega
   obtain ⟨b1, o1, vs1, ha1, hb1, -, a9, rfl, hz1, hz2⟩ := e1 k hk'; have hll := hF.len; refine aL (aA (aI (bC (csr ?_))))
   refine aC (bX (n := k) (by rw [ha1]; rfl) rfl sL (by omega)) ?_
   refine aC (cY rfl iT fS (vs := [_, _, _]) rfl (a9.evo ((E).any X) hb1)) ?_; refine cF rfl sG fun bm c1 W H M => ?_; have b4 := H; refine aZ rfl rfl fS W rfl rfl ⟨by first | rfl | assumption, by first | rfl | assumption, by first | rfl | assumption, trivial⟩ fun c4 O U => ?_; have A := (E.then M).step U (Ge.new E H).mem1
   try simp only [cG, Nat.reduceAdd] at O
   refine wnn (aF (aB (aB (aC (bT rfl iT fS O rfl) ?_)))); refine aJ (vs := [_, _]) LF rfl (SY (h0.evo0 A) ms[k] (DD.1 hes _ (List.getElem_mem hk')) hz1 hz2 (hG.evo A (by simp))) rfl ?_; rintro _ c5 ⟨l2, ⟨a2, c2, ob2, rfl, b5, c6, I⟩, hm2, hl2⟩; refine aJ (vs := [_, _]) sK rfl (UB (kY (X := []) (((hL.evo0 M).evo U (Apart.new (Lt.own hL) H).own1).evo0 I) (by simp)) (kY (X := []) b5 (by simp)) (by omega) (by omega)) rfl ?_; rintro _ c7 ⟨l3, ⟨a3, c3, ob3, rfl, b6, b7, a1⟩, b8, hm3, hl3⟩; refine bR (aP (aO (aA (aF ?_)))); refine aC (aK rfl rfl (by omega) (by omega)) ?_; refine aB (aP (aW ?_)); refine ⟨⟨k + 1, l3, l3.length, a3, c3, ob3⟩, ?_, ⟨rfl, rfl, trivial⟩, ⟨rfl, rfl, rfl, rfl, rfl, trivial⟩, ((A.then I).then a1), ?_⟩
   · (try dsimp only); omega
   try dsimp only
   exact ⟨by omega, hF.step hk' hm2 b8 hm3, rfl, b6, (Ge.fresh (A.then I) b7)⟩
  obtain rfl : k = ms.length := by omega
  rw [List.take_length] at hF; refine cJ (bH (bH (cI (aA ?_)))); refine csr (aB (bR (wan (aH (cB rfl rfl rfl ?_))))); exact ⟨_, 0, rfl, hes.symm, .inr ⟨rfl, l, ⟨la, lc, lob, rfl, hL, hGL, E⟩, hF⟩, E⟩
theorem LK : cX Tryz.prog 13 := ⟨_, Tryz.func13, by kernel_rfl, by kernel_rfl⟩
theorem mF : cX Tryz.prog 15 := ⟨_, Tryz.func15, by kernel_rfl, by kernel_rfl⟩
section
variable {P : Program} {σ : Env} {w : World} {dst : Option Nat} {T : TypeId} {pos : String} {after : Array Edge} {g : Option (Nat × Bool)}
theorem ex_eqPn {x y : Operand} {t t' : TypeId} (hx : σ.ev x = some (.pointer none)) (hy : σ.ev y = some (.pointer none)) (h : P.underlying t = some (.pointer (P.pointee t))) : Ex P σ ⟨dst, .binOp .eql t x y t', T, pos, after, g⟩ w (.bool true) w := fun ρ hρ => by
  have := Go.run_eql_pointer_nil (P := P) (w := w) t none h
  simp [execOp, hρ x _ hx, hρ y _ hy, eqGuard, this]
theorem tW {x y : Operand} {t t' : TypeId} {k : IntKind} {m n : Int} (hx : σ.ev x = some (.int k m)) (hy : σ.ev y = some (.int k n)) (h : m = n) : Ex P σ ⟨dst, .binOp .neq t x y t', T, pos, after, g⟩ w (.bool false) w := by
  have := fJ (P := P) (σ := σ) (dst := dst) (T := T) (pos := pos) (after := after) (g := g) (w := w) (t := t) (t' := t') hx hy
  rwa [decide_eq_false (fun h2 => h2 h)] at this
end
theorem new_on {w : World} {v : Value} {sets : List (List LB)} (hs : RSl 1 (RSlice 2 RLB) [] w v sets) (hl1 : sets.length ≤ 2000000) (hl2 : ∀ i (h : i < sets.length), sets[i].length ≤ 2000000) (hl3 : (dM sets sets.length).length ≤ 2000000) (hsh : ∀ i (h : i < sets.length) l, l ∈ sets[i] → l.1.size ≤ 1000000000 ∧ l.2.size ≤ 2097152) :
    Calls Tryz.prog 14 #[v] w (Ret fun r w' => ∃ (q : Option Addr) (c : Int), r = .tuple #[.pointer q, iv3 c] ∧ ((q = none ∧ c ≠ 0) ∨ ∃ bx, q = some ⟨bx, 0, none⟩ ∧ c = 0 ∧ IxOn w' bx sets) ∧ Evo [] w w') := by
  refine (new_ok hs hl1 hl2 (by omega)).mono ?_
  rintro e w' ⟨r, rfl, ⟨h1, _, h3⟩ | ⟨bx, mb, D, h1, h2, h3, h4, h5⟩⟩
  · exact ⟨_, rfl, none, 160, h1, .inl ⟨rfl, by decide⟩, h3⟩
  · exact ⟨_, rfl, _, 0, h1, .inr ⟨bx, rfl, rfl, ⟨_, mb, D, h3, h4⟩, h2, hl1, hl3, hsh⟩, h5⟩
theorem uF : AA Tryz.prog 33 33 = some (43, 3, 40) := by kernel_rfl
def mrow (m : Mat) : List Value := [.string m.nm, .int .i64 m.op, .string m.v]
def CG (l : List Mat) : List Value := (l.map mrow).flatten
theorem RMat.one : ∀ X w vs d, RMat X w vs d → ∀ u, u ∈ vs → u.oneCell' = true := fun _ _ _ _ h u hu => by
  obtain ⟨rfl, _⟩ := h
  simp at hu; rcases hu with rfl | rfl | rfl <;> rfl
theorem UJ {P : Program} {X : List Nat} {w : World} {v : Value} {l : List Mat} (h : RSl 3 RMat X w v l) : Src P w 3 v l.length (CG l) := by
  obtain ⟨rows, hr, hs⟩ := RSl.rows (P := P) h (Evo.refl _ _) RMat.one
  have : rows = l.map mrow := by
    apply List.ext_getElem (by simpa using hr.1)
    intro k h1 h2
    have := (hr.2 k (by rw [← hr.1]; exact h1) h1).2.1
    rw [List.getElem_map]; exact this
  rw [this] at hs
  exact hs
theorem FS {X : List Nat} {w : World} {v : Value} {l : List Mat} (h : RSl 3 RMat X w v l) : ∀ m, m ∈ l → m.nm.size ≤ 1000000000 ∧ m.v.size ≤ 1000000000 := fun m hm => by
  obtain ⟨a, c, _, _, e⟩ := h
  obtain ⟨k, hk, rfl⟩ := List.getElem_of_mem hm
  obtain ⟨_, _, _, _, _, _, _, h⟩ := e k hk
  exact h.2
theorem own_mats {w : World} {e : TypeId} {a : Option Addr} {n c : Nat} {l : List Mat} {ob : Option Nat} (h : OwnS w e 3 a n c (CG l) ob) (hn : l.length = n) (hz : ∀ m, m ∈ l → m.nm.size ≤ 1000000000 ∧ m.v.size ≤ 1000000000) : RSl 3 RMat [] w (.slice a n c) l :=
  RSl.ofOwn (rows := l.map mrow) h ⟨by simp, fun k h1 h2 => by simp only [List.getElem_map]; exact ⟨rfl, rfl, hz _ (List.getElem_mem h1)⟩⟩ hn (fun _ _ => by simp)
theorem YK (a b : List Mat) : CG (a ++ b) = CG a ++ CG b := by simp [CG]
theorem RG {w : World} {v v2 v3 : Value} {sets : List (List LB)} {ms more : List Mat} (hs : RSl 1 (RSlice 2 RLB) [] w v sets) (hl1 : sets.length ≤ 1048576) (hl2 : ∀ i (h : i < sets.length), sets[i].length ≤ 1048576) (hl3 : (dM sets sets.length).length ≤ 1048576) (hsh : ∀ i (h : i < sets.length) l, l ∈ sets[i] → l.1.size ≤ 1000000000 ∧ l.2.size ≤ 2097152) (hm : RSl 3 RMat [] w v2 ms) (hm2 : RSl 3 RMat [] w v3 more) (hml : ms.length + more.length ≤ 1048576) (hG : Glb w) : Calls Tryz.prog 4 #[v, v2, v3] w (Ret fun r w' => r = .bool true ∧ Evo [] w w') := by
  have f8 := hs; have hm0 := hm; have hm20 := hm2; obtain ⟨sa, sc, rfl, hlc, e1⟩ := hs; obtain ⟨ma, mc, rfl, hlm, em⟩ := hm; obtain ⟨na, nc, rfl, hln, -⟩ := hm2; refine aT (N := 127) Tryz.func4 rfl rfl rfl ?_; refine csr (wan (aI (csr (aJ (vs := []) LK rfl (awake_ok) rfl ?_)))); rintro _ w1 ⟨rfl, f9⟩; have e7 := (Evo.refl [] w).then f9; refine aC (fP rfl) ?_; refine wnn (cM rfl ?_); refine aL (aA (csr (aB ?_)))
  refine aJ (vs := [_]) xI rfl (new_on (RSl.evo (RSlice.pers RLB.pers) e7 f8) (by omega) (fun i h => by have := hl2 i h; omega) (by omega) hsh) rfl ?_
  rintro _ w4 ⟨q, c, rfl, hN, g0⟩; have c6 := e7.then g0; refine aB (aC (bK rfl rfl) ?_); refine aC (bK rfl rfl) ?_; refine bR (wan (aI (csr (aB (aC (fJ rfl rfl) ?_))))); refine wnn (bA rfl (fun d3 => ?_) (fun d3 => ?_))
  ·obtain ⟨rfl, -⟩ := hN.resolve_right (fun ⟨_, _, h9, _⟩ => d3 h9); refine csr (aB (aC (ex_eqPn rfl rfl uE) ?_)); refine wan (aH (aE (br1 ?_))); exact ⟨rfl, c6⟩
  obtain ⟨bx, rfl, -, hX⟩ := hN.resolve_left (fun h9 => h9.2 (by omega)); refine aL (aA (csr (aB (aB ?_)))); refine aJ (vs := [_, _]) mF rfl (tC (X := []) (hX.evo0 (Evo.refl [] w4)) (RSl.evo RMat.pers c6 hm0) (by omega) (hG.evo c6 (by simp))) rfl ?_; rintro _ w7 ⟨va, ea, rfl, heea, hresa, e8⟩; have c7 := c6.then e8; have b7 := (Evo.refl [] w4).then e8; refine aB (aC (bK rfl rfl) ?_); refine aC (bK rfl rfl) ?_; refine bR (wan (csr (aB (aB ?_)))); refine aJ (vs := [_, _]) mF rfl (tC (X := []) (hX.evo0 b7) (RSl.evo RMat.pers c7 hm20) (by omega) (hG.evo c7 (by simp))) rfl ?_; rintro _ e9 ⟨vb, eb, rfl, heeb, hresb, U⟩; have a5 := (Evo.refl [] w7).then U; refine aB (aC (bK rfl rfl) ?_); refine aC (bK rfl rfl) ?_; refine bR (wan (csr (aB (bL (vs := []) rfl nC rfl rfl rfl rfl fun i5 i6 f5 V W => ?_)))); have d4 := Ge.new (c7.then U) V; have d5 := Ge.new (b7.then U) V; have d6 := Ge.new (Evo.refl [] e9) V; have b8 := (c7.then U).then W; have d7 := (b7.then U).then W; have d8 := (Evo.refl [] e9).then W; refine aB ?_; refine cT rfl rfl rfl rfl uF f5 (UJ (RSl.evo RMat.pers b8 hm0)) (by omega) fun a1 c1 i7 ob1 g1 a6 hob35 => ?_; have d9 := b8.step a6 d4.mem; refine aB ?_
  refine cT rfl rfl rfl rfl uF g1 (UJ (RSl.evo RMat.pers d9 hm20)) (by omega) fun a2 c2 g2 ob2 g3 a7 hob50 => ?_; have b9 := d9.step a7 (d4.app b8 hob35).mem; have e0 := (d7.step a6 d5.mem).step a7 (d5.app d7 hob35).mem
  have hO2b : OwnS g2 43 3 a2 (0 + ms.length + more.length) c2 (CG (ms ++ more)) ob2 := by rw [YK]; exact g3
  refine aJ (vs := [_, _]) mF rfl (tC (X := []) (ms := ms ++ more) (hX.evo0 e0) (own_mats hO2b (by rw [List.length_append]; omega) (fun m h => by rcases List.mem_append.1 h with h | h; exact FS hm0 m h; exact FS hm20 m h)) (by rw [List.length_append]; omega) (hG.evo b9 (by simp))) rfl ?_
  rintro _ g4 ⟨vc, ec, rfl, heec, hresc, a0⟩; refine aB (aC (bK rfl rfl) ?_); refine aC (bK rfl rfl) ?_; refine bR (wan (aI (aI (mB (α := Bool) (fun z58 => [(58, .bool z58)]) [(0, _), (1, _), (6, _), (7, _), (9, _), (10, _), (12, _), (13, _)] (fun z58 wr => g4 = wr ∧ (z58 = true ↔ (¬ lG ms = 0 ∨ ¬ lG more = 0))) ⟨rfl, rfl, rfl, rfl, rfl, rfl, rfl, rfl, trivial⟩ ?_ ?_))))
  ·refine aF (aB (aC (fJ rfl rfl) ?_)); refine aB (bF (t := 55) rfl (fun f6 => ?_) (fun f6 => ?_))
   ·refine aN (aN (bW (aP (aW ?_)))); refine ⟨_, ⟨rfl, trivial⟩, ⟨rfl, rfl, rfl, rfl, rfl, rfl, rfl, rfl, trivial⟩, rfl, ?_⟩
    simp only [decide_eq_true_eq, Bool.false_eq_true, Bool.true_eq_false, true_iff, false_iff, eq_self, iff_true]; omega
   refine aS (aB (aS (aC (fJ rfl rfl) ?_))); refine bM (aP (aW ?_)); refine ⟨_, ⟨rfl, trivial⟩, ⟨rfl, rfl, rfl, rfl, rfl, rfl, rfl, rfl, trivial⟩, rfl, ?_⟩
   simp only [decide_eq_true_eq, Bool.false_eq_true, Bool.true_eq_false, true_iff, false_iff, eq_self, iff_true]; omega
  rintro z58 _ ⟨rfl, hz58⟩; refine aA ?_; show CW _ _ _ _ [(58, _), (0, _), (1, _), (6, _), (7, _), (9, _), (10, _), (12, _), (13, _)] _; refine dW rfl (fun c0 => ?_) (fun c0 => ?_)
  ·subst c0; have hj58 := hz58.1 rfl; refine csr (aB (aC (fJ rfl rfl) ?_)); refine wan (aH (aE (br1 ?_)))
   exact ⟨congrArg Value.bool (decide_eq_true (fun h9 => by have h8 := OY.1 (heec.symm.trans h9); omega)), (b9.then a0)⟩
  subst c0
  have hj58 : ¬ (¬ lG ms = 0 ∨ ¬ lG more = 0) := fun h9 => by have := hz58.2 h9; cases this
  obtain ⟨hz1, hz2⟩ := not_or.1 hj58; have ha0 : lG ms = 0 := Classical.not_not.1 hz1; have hb0 : lG more = 0 := Classical.not_not.1 hz2; have f0 : lG (ms ++ more) = 0 := OY.2 ⟨ha0, hb0⟩; obtain ⟨-, la, ⟨aa, ca, oa, rfl, hOa0, -, -⟩, hFa⟩ := hresa.resolve_left (fun h9 => h9.1 (heea.trans ha0)); obtain ⟨-, lb, ⟨ab, cb, obb, rfl, hOb0, -, -⟩, hFb⟩ := hresb.resolve_left (fun h9 => h9.1 (heeb.trans hb0)); obtain ⟨-, lc, ⟨ac, cc, oc, rfl, hOc, -, -⟩, hFc⟩ := hresc.resolve_left (fun h9 => h9.1 (heec.trans f0)); have hOa := hOa0.evo0 ((((a5.then W).step a6 (Ge.new a5 V).mem).step a7 ((Ge.new a5 V).app (a5.then W) hob35).mem).then a0); have hOb := hOb0.evo0 (((d8.step a6 d6.mem).step a7 (d6.app d8 hob35).mem).then a0); have hla := hFa.len; have hlb := hFb.len; have hlc := hFc.len; refine aL (aA (aI (csr (aB (aC (tW rfl rfl (heec.trans f0)) ?_))))); refine aB (aS (aB (aS (aB (aS (aB (aS ?_))))))); refine aJ (vs := [_, _]) sK rfl (UB (kY (X := []) hOa (by simp)) (kY (X := []) hOb (by simp)) (by omega) (by omega)) rfl ?_; rintro _ i8 ⟨l3, ⟨a3, c3, ob3, rfl, g5, i9, c5⟩, g6, hm3, hl3'⟩; refine aS ?_; refine aJ (vs := [_, _]) xH rfl (UN (kY (X := []) (hOc.evo0 c5) (by simp)) (kY (X := []) g5 (by simp)) (by omega) (SR3.ext hFc.1 g6 (fun x => by rw [hm3, hFc.2, hFa.2, hFb.2, Chosen.app]))) rfl ?_; rintro _ g7 ⟨rfl, e2⟩; refine aS (aC (fP rfl) ?_); refine bM (wnn (cM rfl ?_)); refine aL (aA (aI ?_))
  refine csr (wan (bC (cN (α := Nat) (0) (fun i => [(14, .int .i64 (i : Nat))]) [(0, _), (1, _), (7, _)] (fun i wr => Evo [] g7 wr ∧ (i ≤ ms.length)) (fun i => ms.length - i) ⟨rfl, trivial⟩ ⟨rfl, rfl, rfl, trivial⟩ ⟨Evo.refl _ _, Nat.zero_le _⟩ ?_))); rintro i wr100 ⟨E, hi⟩; show CW _ _ _ _ [(14, _), (0, _), (1, _), (7, _)] _; have H := (((b9.then a0).then c5).then e2).then E; have a8 := (((e0.then a0).then c5).then e2).then E; refine aI (csr (aB (aB (aC (bD rfl Tryz.underlying33 rfl) ?_)))); refine aC (cP rfl rfl) ?_; refine wnn (bA rfl (fun f7 => ?_) (fun f7 => ?_))
  ·have hi' : i < ms.length := by omega
   obtain ⟨b1, o1, vs1, ha1, hb1, -, g8, rfl, hz1, hz2⟩ := em i hi'; have hm1 := DD.1 ha0 _ (List.getElem_mem hi'); have hm1f := Mat.flip_err hm1; have hop := Mat.op_of hm1; obtain ⟨o, ho⟩ := Int.eq_ofNat_of_zero_le (show 0 ≤ ms[i].op by omega)
   have hfo : ms[i].flip.op = ms[i].op - 1 + ((o % 2 : Nat) : Int) * 2 := by show ms[i].op - 1 + ms[i].op % 2 * 2 = _; omega
   refine aL (aA (aI (bC (csr (aB (aB ?_))))))
   refine aC (bX (n := i) (by rw [ha1]; rfl) rfl sL (by omega)) ?_
   refine aC (cY rfl iT fS (vs := [_, _, _]) rfl (g8.evo H hb1)) ?_; refine cF rfl sG fun bq h2 e3 A a9 => ?_; have g9 := A; refine aZ rfl rfl fS e3 rfl rfl ⟨by first | rfl | assumption, by first | rfl | assumption, by first | rfl | assumption, trivial⟩ fun h3 L b4 => ?_
   try simp only [cG, Nat.reduceAdd] at L
   refine wnn (csr (aB (aC (bT rfl iT fS L rfl) (bL (vs := [_]) rfl nC rfl rfl rfl rfl fun h4 h5 e4 h0 I => ?_)))); have c8 := ((H.then a9).step b4 (Ge.new H A).mem1).then I; have c9 := ((a8.then a9).step b4 (Ge.new a8 A).mem1).then I; have hltq := Lt.blk (I.blk0 L); refine aJ (vs := [_, _]) mF rfl (tC (X := []) (hX.evo0 c9) (IL (m := ms[i]) e4 hz1 hz2) (by simp) (hG.evo c8 (by simp))) rfl ?_; rintro _ h6 ⟨vy, ey, rfl, heey, hresy, M⟩; have b5 := M.blk0 (I.blk0 L); obtain ⟨-, ly, ⟨ay, cy, oy, rfl, hOy, hGy, -⟩, hFy⟩ := hresy.resolve_left (fun h9 => h9.1 (heey.trans (by simp [lG, hm1]))); have hAqy := Apart.fresh hltq hGy; have hly := hFy.len; refine aB (aC (bK rfl rfl) ?_); refine aC (bK rfl rfl) ?_; refine bR (wan (csr (wfl rfl eN rfl eL b5 rfl ?_))); refine aC (dG rfl rfl (by omega) (by omega)) ?_; refine wfl rfl eN rfl eL b5 rfl ?_; refine aC (ex_remN rfl rfl ho (show (2 : Int) = ((2 : Nat) : Int) from rfl) (by decide)) ?_; refine aC (fQ rfl rfl (by omega) (by omega)) ?_; refine aC (JN rfl rfl hfo.symm (by omega) (by omega)) ?_; refine aC (aD rfl eN) ?_
   refine bE rfl rfl (by first | rfl | assumption) nQ b5 rfl fun h7 b6 O => ?_
   try simp only [cG, Nat.reduceAdd] at b6
   refine wnn (csr (aB (aC (bT rfl iT fS b6 rfl) (bL (vs := [_]) rfl nC rfl rfl rfl rfl fun i1 i2 e5 h1 J => ?_)))); have hltq := Lt.blk (J.blk0 b6); refine aJ (vs := [_, _]) mF rfl (tC (X := []) (hX.evo0 (((c9.then M).step O (Ge.new a8 A).mem1).then J)) (IL (m := ms[i].flip) e5 hz1 hz2) (by simp) (hG.evo (((c8.then M).step O (Ge.new H A).mem1).then J) (by simp))) rfl ?_; rintro _ i3 ⟨vn, en, rfl, heen, hresn, d0⟩; obtain ⟨-, ln, ⟨an, cn, on, rfl, hOn, hGn, -⟩, hFn⟩ := hresn.resolve_left (fun h9 => h9.1 (heen.trans (by simp [lG, hm1f]))); have hAqn := Apart.fresh hltq hGn; have hln := hFn.len; refine aB (aC (bK rfl rfl) ?_); refine aC (bK rfl rfl) ?_; refine bR (wan (aI ?_)); have hsp := XI hm1 hFy hFn; refine aF (aB ?_); refine aC (tW rfl rfl (heey.trans (by simp [lG, hm1]))) ?_; refine aB (aS (aB (aS ?_))); refine aC (tW rfl rfl (heen.trans (by simp [lG, hm1f]))) ?_; refine bM (aB (aS (aB (aS (aC (bD rfl Tryz.underlying37 rfl) ?_))))); refine aS (aB (aS (aC (bD rfl Tryz.underlying37 rfl) ?_))); refine aS ?_; refine aC (aK rfl rfl (by omega) (by omega)) ?_; refine aS (aB (aS (aC (bD rfl Tryz.underlying32 rfl) ?_))); refine aS ?_
   refine aC (tW rfl rfl (by omega)) ?_; refine bM (aB (aS (aB (aS (aB (aS ?_)))))); refine aJ (vs := [_, _]) sK rfl (UB (kY (X := []) (((hOy.evo O hAqy.symm.own1).evo0 J).evo0 d0) (by simp)) (kY (X := []) hOn (by simp)) (by omega) (by omega)) rfl ?_; rintro _ i4 ⟨l4, ⟨a4, c4, ob4, rfl, j0, j1, e6⟩, j2, hm4, hl4⟩; have hl40 := RH hm1 hFy hFn hm4; refine aS (aC (bD rfl Tryz.underlying37 rfl) ?_); refine aS ?_; refine aC (tW rfl rfl (by omega)) ?_; refine bM (wnn (cM rfl ?_)); refine aL (aO (aA (aF (aB ?_)))); refine aC (aK rfl rfl (by omega) (by omega)) ?_; refine bR (aP (aW ?_)); refine ⟨i + 1, ?_, ⟨rfl, trivial⟩, ⟨rfl, rfl, rfl, trivial⟩, ((((((((E.then a9).step b4 (Ge.new E A).mem1).then I).then M).step O (Ge.new E A).mem1).then J).then d0).then e6), ?_⟩
   · omega
   omega
  refine cJ (bH (bH (cI (aA ?_)))); refine csr (wan (aH (br1 ?_))); exact ⟨rfl, H⟩
end Go.Proofs.YtidpigbinpaaeaaGreat
namespace Go.Proofs.YtidpigbinpaaeaaGreat
open Go.ChangeAt Go.ChangeShapes Go.RowKit Go.W Go.WideShapes
def RLBU : Rel LB := fun _ _ vs d => vs = [.string d.1, .string d.2] ∧ d.1.size ≤ 1048576 ∧ d.2.size ≤ 1048576
def RMatU : Rel Mat := fun _ _ vs m => vs = [.string m.nm, .int .i64 m.op, .string m.v] ∧ m.nm.size ≤ 1048576 ∧ m.v.size ≤ 1048576
theorem openLab (F : Nat) : oL F 52 RLBU (fun _ => 0) := fun H enc w fuel cs x hfu h hw hbk => by
  obtain ⟨a, pa, ⟨ea, ha⟩, -, -⟩ := mZ (F := F) (T := 9) (off := 0) (m := 1) Tryz.underlying52 (by omega) h hw hbk 0 rfl rfl rfl (by kernel_rfl) (rU F Tryz.underlying9)
  obtain ⟨b, pb, ⟨eb, hb⟩, -, -⟩ := mZ (F := F) (T := 9) (off := 1) (m := 1) Tryz.underlying52 (by omega) h hw hbk 1 rfl rfl rfl (by kernel_rfl) (rU F Tryz.underlying9)
  have hl := GG Tryz.underlying52 h
  rw [show Tryz.prog.cellsOf 52 = 2 from by kernel_rfl] at hl
  have := PU x.1
  match cs, hl with
  | [c0, c1], _ =>
    simp at ea eb
    subst ea eb
    exact ⟨(a, b), ⟨rfl, ha, hb⟩, by simp only; omega⟩
theorem openLabs (F : Nat) : oL F 49 (ZT 2 32 RLBU) (fun ds => (ds.map fun _ => 0).sum + 26 * ds.length) := rV Tryz.underlying49 (by kernel_rfl) (by kernel_rfl) (by decide) (openLab F)
theorem openSets (F : Nat) : oL F 32 (ZT 1 24 (ZT 2 32 RLBU)) (fun ds => (ds.map fun ls => (ls.map fun _ => 0).sum + 26 * ls.length).sum + 26 * ds.length) := rV Tryz.underlying32 (by kernel_rfl) (by kernel_rfl) (by decide) (openLabs F)
theorem openMat (F : Nat) : oL F 43 RMatU (fun _ => 0) := fun H enc w fuel cs x hfu h hw hbk => by
  obtain ⟨a, pa, ⟨ea, ha⟩, -, -⟩ := mZ (F := F) (T := 9) (off := 0) (m := 1) Tryz.underlying43 (by omega) h hw hbk 0 rfl rfl rfl (by kernel_rfl) (rU F Tryz.underlying9)
  obtain ⟨o, eo, _⟩ := IQ (T := 3) (off := 1) (m := 1) Tryz.underlying43 h hw 1 rfl rfl rfl (by kernel_rfl) (YB Tryz.underlying3)
  obtain ⟨b, pb, ⟨eb, hb⟩, -, -⟩ := mZ (F := F) (T := 9) (off := 2) (m := 1) Tryz.underlying43 (by omega) h hw hbk 2 rfl rfl rfl (by kernel_rfl) (rU F Tryz.underlying9)
  have hl := GG Tryz.underlying43 h
  rw [show Tryz.prog.cellsOf 43 = 3 from by kernel_rfl] at hl
  have := PU x.1
  match cs, hl with
  | [c0, c1, c2], _ =>
    simp at ea eo eb
    subst ea eo eb
    exact ⟨⟨o, a, b⟩, ⟨rfl, ha, hb⟩, by simp only; omega⟩
theorem NJ (F : Nat) : oL F 33 (ZT 3 40 RMatU) (fun ds => (ds.map fun _ => 0).sum + 26 * ds.length) := rV Tryz.underlying33 (by kernel_rfl) (by kernel_rfl) (by decide) (openMat F)
theorem unMats {X : List Nat} {w : World} {v : Value} {ds : List Mat} (h : RSl 3 RMatU X w v ds) : RSl 3 RMat X w v ds := by
  obtain ⟨a, c, he, hc, hk⟩ := h
  refine ⟨a, c, he, hc, fun k hk' => ?_⟩
  obtain ⟨b, o, vs, h1, h2, h3, h4, h5, h6, h7⟩ := hk k hk'
  exact ⟨b, o, vs, h1, h2, h3, h4, h5, by omega, by omega⟩
theorem unSets {X : List Nat} {w : World} {v : Value} {ds : List (List LB)} (h : RSl 1 (ZT 2 32 RLBU) X w v ds) : RSl 1 (RSlice 2 RLB) X w v ds ∧ ∀ i (h : i < ds.length) l, l ∈ ds[i] → l.1.size ≤ 1048576 ∧ l.2.size ≤ 1048576 := by
  obtain ⟨a, c, he, hc, hk⟩ := h
  refine ⟨⟨a, c, he, hc, fun k hk' => ?_⟩, fun k hk' l hl => ?_⟩
  · obtain ⟨b, o, vs, h1, h2, h3, h4, u, h5, ⟨a', c', h6, h7, h8⟩, h9⟩ := hk k hk'
    exact ⟨b, o, vs, h1, h2, h3, h4, u, h5, a', c', h6, h7, fun j hj => by obtain ⟨b', o', vs', q1, q2, q3, q4, q5, q6, q7⟩ := h8 j hj; exact ⟨b', o', vs', q1, q2, q3, q4, q5, by omega, by omega⟩⟩
  · obtain ⟨b, o, vs, h1, h2, h3, h4, u, h5, ⟨a', c', h6, h7, h8⟩, h9⟩ := hk k hk'
    obtain ⟨j, hj, rfl⟩ := List.getElem_of_mem hl
    obtain ⟨b', o', vs', q1, q2, q3, q4, q5, q6, q7⟩ := h8 j hj
    exact ⟨q6, q7⟩
theorem zsum {α : Type} (l : List α) : (l.map fun _ => 0).sum = 0 := by induction l with | nil => rfl | cons x l ih => simp only [List.map_cons, List.sum_cons, ih]
theorem XR (sets : List (List LB)) : ∀ m, m ≤ sets.length → 26 * (dM sets m).length = ((sets.take m).map fun ls => (ls.map fun _ => 0).sum + 26 * ls.length).sum := by
  intro m
  induction m with
  | zero => intro _; rfl
  | succ m ih =>
    intro hm
    rw [tK (by omega), List.length_append, Nat.mul_add, ih (by omega), List.take_succ_eq_append_getElem (by omega), List.map_append, List.sum_append]
    simp only [jQ, List.length_map, List.map_cons, List.map_nil, List.sum_cons, List.sum_nil, zsum]; omega
theorem RO {sets : List (List LB)} {B : Nat} (h : (sets.map fun ls => (ls.map fun _ => 0).sum + 26 * ls.length).sum + 26 * sets.length + 26 ≤ 26 * B) : sets.length ≤ B ∧ (dM sets sets.length).length ≤ B ∧ ∀ i (h : i < sets.length), sets[i].length ≤ B := by
  have h1 := XR sets sets.length (Nat.le_refl _)
  rw [List.take_length] at h1
  refine ⟨by omega, by omega, fun i hi => ?_⟩
  have h2 := ID (sets := sets) (k := sets[i].length) hi
  rw [List.take_length, List.length_append] at h2
  simp only [jQ, List.length_map] at h2
  omega
set_option maxRecDepth 100000 in
theorem contract (H : Type) (enc : TypeId × Value → H) (W : World) (base : Nat) (args : Array Value) (ds gs : List (DataW H)) (before : List MemPlace)
    (hval : ∀ (j : Nat) t v, Tryz.f4.params[j]? = some t → args[j]? = some v → Value.okWide Tryz.prog W .any base t v)
    (hW : DataW.Whole enc Tryz.prog Tryz.f4.params.toList Rows.indexSplitsSpec.vars false W args.toList ds gs before) (hk : Rows.uptoSmall H (ds ++ gs) = true)
    (hsz : (DataW.weightsEach Tryz.prog (Tryz.f4.params.toList ++ Rows.indexSplitsSpec.plain.varTypes Tryz.prog) (ds ++ gs)).all (· ≤ reachBytes) = true) (hG : Glb W) :
    Calls Tryz.prog 4 args W fun e W' => ∃ v, e = .returned v ∧ Rows.indexSplitsSpec.post enc Tryz.prog Tryz.f4 false true false false W args v W' := by
  have hW' := hW
  obtain ⟨p, q, A, hV, rfl, hfz, hnd⟩ := hW
  have hA : DataW.TrodAll enc Tryz.prog W 0 (fun _ => true) true Tryz.f4.params.toList args.toList ds p := A
  rw [Tryz.params4] at hA hval hsz
  obtain ⟨v0, vs0, d0, ds0, p0, q0, hargs0, rfl, rfl, h0, r0⟩ := trodAll_cons hA
  obtain ⟨v1, vs1, d1, ds1, p1, q1, hargs1, rfl, rfl, h1, r1⟩ := trodAll_cons r0
  obtain ⟨v2, vs2, d2, ds2, p2, q2, hargs2, rfl, rfl, h2, r2⟩ := trodAll_cons r1
  obtain ⟨E, rfl, rfl⟩ := trodAll_nil r2
  subst E
  subst hargs2
  subst hargs1
  obtain rfl : args = #[v0, v1, v2] := by cases args; simp_all
  obtain ⟨rfl, rfl⟩ := trodVars_none hV
  have hbk := of_decide_eq_true hk
  simp only [List.append_nil, List.cons_append, List.nil_append, Rows.uptoBulkAll] at hbk
  have k0 := h0
  have lt0 : ∀ x ∈ p0, x.block < W.heap.size := by obtain ⟨m, hm⟩ := k0; exact DataW.trod_lt m _ _ _ hm
  obtain ⟨f0, hf0⟩ := h0
  obtain ⟨l0, ⟨u0, hu0, hsl0, hb0⟩, hmu0⟩ := openSets f0 H enc W f0 _ _ (Nat.le_refl _) hf0 (fun n hn => by have := List.all_eq_true.1 hsz n (DataW.weights_mem_each (j := 0) rfl rfl n hn); simpa using this) (by simp only; omega)
  obtain ⟨a0, n0, c0, rfl⟩ := okWide_slice Tryz.underlying32 (hval 0 32 _ rfl rfl)
  simp [Value.cells] at hu0
  subst hu0
  obtain ⟨I, hz0⟩ := unSets hsl0
  obtain ⟨O, U, J⟩ := RO (B := Rows.uptoBulk d0) hmu0
  have k1 := h1
  have lt1 : ∀ x ∈ p1, x.block < W.heap.size := by obtain ⟨m, hm⟩ := k1; exact DataW.trod_lt m _ _ _ hm
  obtain ⟨f1, hf1⟩ := h1
  obtain ⟨l1, ⟨u1, hu1, hsl1, hb1⟩, hmu1⟩ := NJ f1 H enc W f1 _ _ (Nat.le_refl _) hf1 (fun n hn => by have := List.all_eq_true.1 hsz n (DataW.weights_mem_each (j := 1) rfl rfl n hn); simpa using this) (by simp only; omega)
  obtain ⟨a1, n1, c1, rfl⟩ := okWide_slice Tryz.underlying33 (hval 1 33 _ rfl rfl)
  simp [Value.cells] at hu1
  subst hu1
  have L := unMats hsl1
  simp only [zsum] at hmu1
  have k2 := h2
  have lt2 : ∀ x ∈ p2, x.block < W.heap.size := by obtain ⟨m, hm⟩ := k2; exact DataW.trod_lt m _ _ _ hm
  obtain ⟨f2, hf2⟩ := h2
  obtain ⟨l2, ⟨u2, hu2, hsl2, hb2⟩, hmu2⟩ := NJ f2 H enc W f2 _ _ (Nat.le_refl _) hf2 (fun n hn => by have := List.all_eq_true.1 hsz n (DataW.weights_mem_each (j := 2) rfl rfl n hn); simpa using this) (by simp only; omega)
  obtain ⟨a2, n2, c2, rfl⟩ := okWide_slice Tryz.underlying33 (hval 2 33 _ rfl rfl)
  simp [Value.cells] at hu2
  subst hu2
  have M := unMats hsl2
  simp only [zsum] at hmu2
  refine (RG I (by omega) (fun i h => by have := J i h; omega) (by omega) (fun i h l hl => by have := hz0 i h l hl; omega) L M (by omega) hG).mono fun e W' ⟨v, he, hv, bel⟩ => ?_
  subst he hv
  exact ⟨_, rfl, _, _, _, [], _, [], hW', trodAll_mk1 (shut_bool Tryz.underlying4 _), (trodAll_cons_mk (Below.trod JA (by kernel_rfl) (of_decide_eq_true (by kernel_rfl)) k0 bel.below lt0) (trodAll_cons_mk (Below.trod JA (by kernel_rfl) (of_decide_eq_true (by kernel_rfl)) k1 bel.below lt1) (trodAll_cons_mk (Below.trod JA (by kernel_rfl) (of_decide_eq_true (by kernel_rfl)) k2 bel.below lt2) trodAll_mk0))), rfl, bel.below.frame _, fun h => by cases h⟩
noncomputable def xY (os : Os) : World := World.holding Tryz.prog os ⟨#[], #[], []⟩
theorem laid_met (os : Os) : laidMet Tryz.prog Rows.indexSplitsUptoRow.laid ((xY os).forCall (fun _ _ => 0) ⟨#[], #[.slice none 0 0, .slice none 0 0, .slice none 0 0], []⟩).memory :=
  laidMet_of_run' 8 (by kernel_rfl) (by kernel_rfl)
theorem reads (os : Os) {H : Type} (enc : TypeId × Value → H) : ∃ places, DataW.whole enc Tryz.prog ((xY os).forCall (fun _ _ => 0) ⟨#[], #[.slice none 0 0, .slice none 0 0, .slice none 0 0], []⟩).memory Tryz.f4.params.toList Rows.indexSplitsSpec.vars false (#[.slice none 0 0, .slice none 0 0, .slice none 0 0] : Array Value).toList 8 = some ([.nil, .nil, .nil], [], places) :=
  ⟨[], by kernel_rfl⟩
set_option maxRecDepth 100000 in
theorem lifted (os : Os) (started : os.Started) (H : Type) (enc : TypeId × Value → H) (F : Stop.Interp) :
    ReturnsInHanded {} Tryz.checked os 4 .any ((Rows.OpenSpec.upto Rows.indexSplitsSpec).preRow enc Tryz.prog Tryz.f4 Rows.indexSplitsUptoRow.domain false Rows.indexSplitsUptoRow.laid) (((Rows.OpenSpec.upto Rows.indexSplitsSpec).at F).post enc Tryz.prog Tryz.f4 false true false false) := by
  obtain ⟨places, hx⟩ := reads os enc
  refine returnsInHanded_of_row (C := Tryz.checked) (s := (Rows.OpenSpec.upto Rows.indexSplitsSpec)) own started (by kernel_rfl) Tryz.func4
    (witness_row_at (enc := enc) (C := Tryz.checked) false (xY os) #[.slice none 0 0, .slice none 0 0, .slice none 0 0] rfl (by kernel_rfl) (by kernel_rfl) (by kernel_rfl)
      (OpenSpec.preRow_of_cond 8 hx (by kernel_rfl) (fun k hk => by cases hk; kernel_rfl) (by kernel_rfl) (laid_met os))) ?_
  intro W base args ds gs before hval hW _ hk hsz hL hsh _
  exact contract H enc W base args ds gs before hval hW (hk _ rfl) hsz (Tryz.laysM143.s1_3 W hsh)
theorem indexSplits_holds : Rows.IndexSplitsUptoSaid :=
  OpenClaim.holds_of_cond 4 Tryz.f4 rfl rfl rfl rfl rfl rfl rfl ⟨rfl, rfl, rfl, rfl, rfl⟩ rfl rfl rfl rfl rfl (by kernel_rfl) Tryz.func4 (by kernel_rfl)
    (of_decide_eq_true (by kernel_rfl)) (by unfold Func.isWrapper; first | (rw [if_pos (by decide +kernel)]; kernel_rfl) | (rw [if_neg (by decide +kernel)]; exact ⟨rfl, rfl⟩))
    (fun os started H enc _ F => by rw [OpenClaim.pre_eq_preRow]; exact lifted os started H enc F)
#print axioms indexSplits_holds
end Go.Proofs.YtidpigbinpaaeaaGreat
