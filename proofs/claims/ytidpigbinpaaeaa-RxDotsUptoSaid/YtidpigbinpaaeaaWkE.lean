/- RxDots: a dot takes runes, and no line's end unless (?s) says so. Condition: what came in is of bulk at most 1048576 (the form Upto). -/
import Derived.Test.YtidpigbinpaaeaaWkD
set_option linter.unusedSectionVars false
set_option linter.unusedSimpArgs false
set_option linter.unusedVariables false
namespace Go.Proofs.Ytidpigbinpaaeaa
open Go.RowKit Go.W
attribute [local irreducible] Decidable.decide
theorem qH : dY Try.prog 27 := ⟨_, Try.func27, by kernel_rfl, by kernel_rfl⟩
theorem KO : dY Try.prog 36 := ⟨_, Try.func36, by kernel_rfl, by kernel_rfl⟩
theorem KN : dY Try.prog 37 := ⟨_, Try.func37, by kernel_rfl, by kernel_rfl⟩
noncomputable def vJ (s : ByteArray) (ex : PS → PX Rx) (st : PS) : PX Rx := iB s ex (s.size + 1) [] false st
structure AtG where
  f : Nat
  sx : PS
  l : List Rx
  ah : Bool
  n : Nat
  qa : Option Addr
  qc : Nat
  qo : Option Nat
  bs : List Nat
  na : Option Addr
  nc : Nat
  no : Option Nat
structure AtI (w wr : World) (b : Nat) (s : ByteArray) (ex : PS → PX Rx) (st : PS) (ob : Option Nat) (b2 : Nat) (x : AtG) : Prop where
  hr : RdAt wr b s x.sx x.na x.nc x.no
  mv : Mv s st x.sx
  eq : vJ s ex st = iB s ex x.f x.l x.ah x.sx
  hf : s.size + 1 ≤ x.f + x.sx.pos
  kt : ∃ cs, OwnS wr 37 9 x.qa x.n x.qc cs x.qo ∧ OTs x.l wr cs x.bs
  fr : Fr w (x.qo.toList ++ x.bs)
  len : x.l.length + st.pos ≤ x.sx.pos
  ahl : x.ah = true → x.l ≠ []
  nb : NB w ob x.no
  hb2 : wr.heap[b2]? = some (.cells #[iv 0, .int .i32 0, .slice none 0 0, iv 0, iv 0, .bool false, iv 0, .string ByteArray.empty, .slice none 0 0] 37 (0, 0))
  g2 : Ge w (some b2)
  a2 : b2 ∉ x.qo.toList ++ x.bs
theorem CB {w : World} {e : TypeId} {sz : Nat} {a : Option Addr} {n c : Nat} {xs : List Value} {o : Option Nat} (h : OwnS w e sz a n c xs o) : ∀ g, g ∈ o.toList → ∃ cs, w.heap[g]? = some (.cells cs e (0, 0)) := fun g hg => by
  rcases h.2 with ⟨_, _, h5⟩ | ⟨g', _, cur, hg2, _, hb, _⟩
  · rw [h5] at hg; cases hg
  · rw [hg2] at hg
    rw [List.mem_singleton.1 hg]; exact ⟨_, hb⟩
mutual
theorem OT.types : ∀ {x : Rx} {w : World} {vs : List Value} {bs : List Nat}, OT x w vs bs → ∀ g, g ∈ bs → ∃ cs T, w.heap[g]? = some (.cells cs T (0, 0)) ∧ (T = 37 ∨ T = 78)
  | .mk k r rs mn mx lz cp nm ks, w, vs, bs, h => by
    rw [OT] at h
    obtain ⟨ra, rc, rb, ka, kc, kb, cs, bk, h1, h2, h3, h4, rfl, h5⟩ := h
    intro g hg
    rcases List.mem_append.1 hg with hg | hg
    · obtain ⟨c, hc⟩ := CB h2 g hg; exact ⟨c, _, hc, .inr rfl⟩
    · rcases List.mem_append.1 hg with hg | hg
      · obtain ⟨c, hc⟩ := CB h3 g hg; exact ⟨c, _, hc, .inl rfl⟩
      · exact OTs.types h4 g hg
theorem OTs.types : ∀ {l : List Rx} {w : World} {cs : List Value} {bs : List Nat}, OTs l w cs bs → ∀ g, g ∈ bs → ∃ cs T, w.heap[g]? = some (.cells cs T (0, 0)) ∧ (T = 37 ∨ T = 78)
  | [], w, cs, bs, h => by rw [OTs] at h; rw [h.2]; exact fun g hg => by cases hg
  | x :: l, w, cs, bs, h => by
    rw [OTs] at h
    obtain ⟨vs, cs', b1, b2, h1, rfl, h3, h4⟩ := h
    intro g hg
    rcases List.mem_append.1 hg with hg | hg
    · exact OT.types h3 g hg
    · exact OTs.types h4 g hg
end
theorem nm_rd {w : World} {b : Nat} {s : ByteArray} {st : PS} {a : Option Addr} {c : Nat} {ob : Option Nat} {qa : Option Addr} {n qc : Nat} {cs : List Value} {qo : Option Nat} {l : List Rx} {bs : List Nat} (hR : RdAt w b s st a c ob) (hO : OwnS w 37 9 qa n qc cs qo) (hT : OTs l w cs bs) : ∀ q, q ∈ qo.toList ++ bs → q ∉ b :: ob.toList := fun q hq hm => by
  have h1 : ∃ cs T, w.heap[q]? = some (.cells cs T (0, 0)) ∧ (T = 37 ∨ T = 78) := by
    rcases List.mem_append.1 hq with hq | hq
    · obtain ⟨c, hc⟩ := CB hO q hq; exact ⟨c, _, hc, .inl rfl⟩
    · exact hT.types q hq
  obtain ⟨c1, T, h1, hTT⟩ := h1
  rcases List.mem_cons.1 hm with rfl | hm
  · rw [hR.blk] at h1
    injection h1 with h1
    injection h1 with _ h1
    rw [← h1] at hTT
    exact absurd hTT (by decide +kernel)
  · obtain ⟨c2, h2⟩ := CB hR.own q hm
    rw [h2] at h1
    injection h1 with h1
    injection h1 with _ h1
    rw [← h1] at hTT
    exact absurd hTT (by decide +kernel)
theorem ER {w2 : World} {q : Nat} {o o2 : Option Nat} {bs bx : List Nat} (h : q ∉ o.toList ++ bs) (hq : q < w2.heap.size) (hx : ∀ b, b ∈ bx → q ≠ b) (hob : o2 = o ∨ ∃ g, o2 = some g ∧ w2.heap.size ≤ g) : q ∉ o2.toList ++ (bs ++ bx) := fun hm => by
  rcases List.mem_append.1 hm with hm | hm
  · rcases hob with rfl | ⟨g, rfl, hg⟩
    · exact h (List.mem_append_left _ hm)
    · rw [List.mem_singleton.1 hm] at hq; omega
  · rcases List.mem_append.1 hm with hm | hm
    · exact h (List.mem_append_right _ hm)
    · exact hx q hm rfl
theorem nY {w w' : World} {e : TypeId} {sz : Nat} {a : Option Addr} {n c k g : Nat} {c1 c2 vs : List Value} {ob : Option Nat} {cur : Array Value} {U : TypeId} (h : OwnS w e sz a n c (c1 ++ c2) ob) (hg : ob = some g) (hb : w.heap[g]? = some (.cells cur U (0, 0))) (hc1 : c1.length = k * sz) (hk : k < n) (hc2 : c2.length = sz) (hv : vs.length = sz)
    (hb' : w'.heap[g]? = some (.cells (cur.toList.take (0 + k * sz) ++ vs ++ cur.toList.drop (0 + k * sz + sz)).toArray U (0, 0))) : OwnS w' e sz a n c (c1 ++ vs) ob := by
  have h1 := OwnS.put h hg hb (o := 0 + k * sz) (by omega) hk hv hb'
  rw [Nat.zero_add, ← hc1, put_end (by omega)] at h1
  exact h1
theorem HU {w : World} {b : Nat} {s : ByteArray} {st : PS} {a : Option Addr} {c : Nat} {ob : Option Nat} {lo hi : Int} {nn : Nat} (hR : RdAt w b s st a c ob) (hs : s.size ≤ 1000000) (hlt : st.pos < s.size) (hrp : lG (s.extract st.pos s.size) = (lo, hi, nn)) :
    Calls Try.prog 36 #[.pointer (some ⟨b, 0, none⟩)] w (Ret fun v w' => v = .tuple #[iv lo, iv hi, iv (nn : Nat)] ∧ Evo [] w w') := by
  have h := HV hR hs hlt
  rw [hrp] at h
  exact h
theorem ap_nm {q : Nat} {o : Option Nat} {l : List Nat} (h : q ∉ o.toList ++ l) : Apart (some q) o := fun g h1 h2 => by cases h1; exact h (List.mem_append_left _ (by simp [h2]))
theorem FU {b : Nat} {o : Option Nat} : ∀ y, y ∈ [b] → y ∈ b :: o.toList := fun y hy => by rw [List.mem_singleton.1 hy]; simp
theorem rI {ex : PS → PX Rx} {w : World} {b : Nat} {s : ByteArray} {st : PS} {a : Option Addr} {c : Nat} {ob : Option Nat} (hex : st.opn < 250 → sX b s ex (st.opn + 1)) (hR : RdAt w b s st a c ob) (hs : s.size ≤ 4096) (hop : st.opn ≤ 250) (hb : Bd s st.pos) (hnl : st.names.length ≤ 100) (hG : Glb w) (hGo : Apart (some nU) ob) :
    Calls Try.prog 25 #[.pointer (some ⟨b, 0, none⟩)] w (RetP (LC b s (vJ s ex) st ob w) (ExPan b (vJ s ex) st ob w)) := by
  have hap := hR.ap; have hgb : nU ∉ [b] := fun h => hR.glb hG (List.mem_singleton.1 h).symm; have hgw := UB hgb hGo; have hbw : Lt w (some b) := Lt.blk hR.blk; have how : Lt w ob := Lt.own hR.own; refine bE (N := 115) Try.func25 rfl rfl rfl ?_; refine csr (cL rfl eN fun b2 w1 m2 i1 i2 => ?_); have m3 := i1; have d3 := Apart.new (Lt.blk hR.blk) i1; have m4 := Ge.new (Evo.refl (b :: ob.toList) w) i1; refine wnn (csr (wan (csr (wan (aI (bJ ?_))))))
  refine dA (α := AtG) (⟨s.size + 1, st, [], false, 0, none, 0, none, [], a, c, ob⟩) (fun x => [(3, .slice x.qa x.n x.qc), (4, .bool x.ah)]) [(0, _), (2, _)] (fun x wr => Evo (b :: ob.toList) w wr ∧ (AtI w wr b s ex st ob b2 x)) (fun x => x.f) ⟨rfl, rfl, trivial⟩ ⟨rfl, rfl, trivial⟩ ⟨((Evo.refl (b :: ob.toList) w).then i2), ⟨⟨(i2.blk0 hR.blk), (hR.own.evo0 i2), hR.ne⟩, ⟨rfl, Nat.le_refl _, hb, hnl⟩, rfl, Nat.le_add_right _ _, ⟨[], OwnS.nil _ _ _, OTs.nil _⟩, Fr.nil _, (by show 0 + st.pos ≤ st.pos; omega), (fun h => by cases h), .inl rfl, m2, m4, List.not_mem_nil⟩⟩ ?_
  rintro ⟨f, sx, l, ah, n, qa, qc, qo, bs, na, nc, no⟩ wr11 ⟨c9, ⟨B, hmv, heq, hfi, ⟨cs, hown, hts⟩, hfr, hlen, hahl, hnb, hb2, hg2, ha2⟩⟩; show CW _ _ _ _ [(3, .slice qa n qc), (4, .bool ah), (0, _), (2, _)] _
  try dsimp only at B hmv heq hfi cs hown hts hfr hlen hahl hnb hb2 hg2 ha2
  have V : Apart (some b) qo := jR hbw (oC hfr); have f9 := uP hown B.own (by decide +kernel); have a5 : Apart (some b) (some b2) := jR hbw hg2; have g0 := BM hb2 B.own (by decide +kernel); have d3 := ap_nm ha2; have hGo1 := fO hGo (IU hG) hnb; have hpl := hmv.bd.le; have hmle := hmv.le; have nmq := nm_rd B hown hts; refine aI (aI ?_); refine eH (by kernel_rfl) (by kernel_rfl) ?_; refine bD (fun _ A => aX rfl) ?_; refine bD (fun _ A => aF rfl) ?_; refine bD (fun _ A => aD rfl bF) ?_; refine bD (fun _ A => aS rfl aT (aY (A.blk0 B.blk) rfl)) ?_; refine bD (fun _ A => aX rfl) ?_; refine bD (fun _ A => aF rfl) ?_; refine bD (fun _ A => aD rfl cV) ?_; refine bD (fun _ A => aS rfl dC (aY (A.blk0 B.blk) rfl)) ?_; refine bD (fun _ A => bR rfl Try.underlying9 rfl) ?_; refine bD (fun _ A => cU rfl rfl) ?_; refine bD (fun _ A => aX rfl) ?_; refine jT (t := 21) rfl (fun k2 => ?_) (fun k2 => ?_)
  ·refine qlg ?_; refine bD (fun _ A => aX rfl) ?_; refine qlg ?_; refine bD (fun _ A => aF rfl) ?_; refine qlg ?_; refine bD (fun _ A => aD rfl cV) ?_; refine qlg ?_; refine bD (fun _ A => aS rfl dC (aY (A.blk0 B.blk) rfl)) ?_; refine qlg ?_; refine bD (fun _ A => aX rfl) ?_; refine qlg ?_; refine bD (fun _ A => aF rfl) ?_; refine qlg ?_; refine bD (fun _ A => aD rfl bF) ?_; refine qlg ?_; refine bD (fun _ A => aS rfl aT (aY (A.blk0 B.blk) rfl)) ?_; refine qlg ?_; refine bD (fun _ A => eE (n := sx.pos) rfl rfl Try.underlying9 rfl (by omega)) ?_; refine qlg ?_; refine bD (fun _ A => gE rfl rfl) ?_; refine bD (fun _ A => fV rfl rfl) ?_; refine bD (fun _ A => aX rfl) ?_; refine jT (t := 33) rfl (fun k3 => ?_) (fun k3 => ?_)
   ·refine qlg ?_; refine bD (fun _ A => aX rfl) ?_; refine qlg ?_; refine bD (fun _ A => aF rfl) ?_; refine qlg ?_; refine bD (fun _ A => aD rfl cV) ?_; refine qlg ?_; refine bD (fun _ A => aS rfl dC (aY (A.blk0 B.blk) rfl)) ?_; refine qlg ?_; refine bD (fun _ A => aX rfl) ?_; refine qlg ?_; refine bD (fun _ A => aF rfl) ?_; refine qlg ?_; refine bD (fun _ A => aD rfl bF) ?_; refine qlg ?_; refine bD (fun _ A => aS rfl aT (aY (A.blk0 B.blk) rfl)) ?_; refine qlg ?_; refine bD (fun _ A => eE (n := sx.pos) rfl rfl Try.underlying9 rfl (by omega)) ?_; refine qlg ?_; refine bD (fun _ A => gE rfl rfl) ?_; refine bD (fun _ A => fV rfl rfl) ?_; refine eL (fun i3 A => aC ?_); have e7 := c9.then A; have e8 := A.blk0 B.blk; have f0 := B.own.evo0 A; have f5 := hts.evo0 A; refine aW rfl (fun k4 => ?_) (fun k4 => ?_)
    ·have hng : ¬ (s.size ≤ sx.pos ∨ sb s sx.pos = 124 ∨ sb s sx.pos = 41) := by omega
     obtain ⟨f', rfl⟩ : ∃ f', f = f' + 1 := ⟨f - 1, by omega⟩; obtain ⟨lo, hi, nn, hrp⟩ : ∃ lo hi nn, lG (s.extract sx.pos s.size) = (lo, hi, nn) := ⟨_, _, _, rfl⟩; obtain ⟨hlo0, hlo1, hhi0, hhi1, hnn⟩ := SD hmv.bd (by omega) hrp; have hopx : sx.opn = st.opn := hmv.opn
     have hex' : sx.opn < 250 → sX b s ex (sx.opn + 1) := by rw [hopx]; exact hex
     refine aM (aC (bJ (csr (aB ?_)))); refine aL (vs := [_]) KO rfl (HU ⟨e8, f0, B.ne⟩ (by omega) (by omega) hrp) rfl ?_; rintro _ o3 ⟨rfl, b9⟩; have M := e7.then b9; have d0 := b9.blk0 e8; have f6 := f0.evo0 b9; have d5 := (hown.evo0 A).evo0 b9; have d6 := f5.evo0 b9; have d7 := b9.blk0 (A.blk0 hb2); refine aB (aA (bN rfl rfl) ?_); refine aA (bN rfl rfl) ?_; refine aA (bN rfl rfl) ?_; refine bX (bX (wan (aI (csr (aB (wel ?_)))))); refine wnn (aW rfl (fun k5 => ?_) (fun k5 => ?_))
     ·obtain rfl : nn = 0 := by omega
      refine csr (aB ?_); refine cB (vs := [_]) KN rfl (RR hex' ⟨d0, f6, B.ne⟩ hs (by omega) (by omega) hmv.bd hmv.nm (hG.evo M hgw) hGo1) rfl ?_ ?_
      ·intro pv wp hpp; obtain ⟨e9, hpe, rfl, hpw⟩ := hpp; exact And.intro rfl ⟨_, rfl, _, heq.trans (alt_pcE hng hrp hpe), rfl, (M).step hpw (oL hnb)⟩
      rintro rv m5 ⟨g, st2, hx, d1, hmv2, hp2, hl2, na3, nc3, no3, ka, kc, ko, cs2, bs2, rfl, hk1, hk2, hk3, g1, hnb3⟩; have hcall9 := d1; have e6 := M; have hl1 := oK d5 d6; have hnb4 := hnb.older hnb3 e6.size; have hkg : ∀ q, q ∈ ko.toList ++ bs2 → _ ≤ q := hk3.ge; have hb2l := eM d7
      have n1 : Apart ko qo := fun q h1 h2 => by have h3 := hkg q (List.mem_append_left _ (by simp [h1])); have h4 := hl1 q (List.mem_append_left _ (by simp [h2])); omega
      have n2 : Apart ko (some b2) := fun q h1 h2 => by cases h2; have h3 := hkg b2 (List.mem_append_left _ (by simp [h1])); omega
      have i4 := d5.evo d1 (fun q hq => nmq q (List.mem_append_left _ (by simp [hq]))); have i5 := d1.blk d7 (zO a5.symm g0); have k6 := uP i4 g1.own (by decide +kernel); refine wan (csr (aB (aB ?_))); have k7 := hk2; have hVV := (Evo.refl [] m5); have hb29 := eM i5
      refine cZ rfl rfl rfl rfl mU i4 (Src.ofOwn hk1 hk2.one) (by have h8 := qZ hown hts; have h9 := hmv2.bd.le; omega) fun qa2 qc2 o4 qo2 m6 c0 hob41 => ?_
      have k8 := (d6.evo d1 (fun q hq => nmq q (List.mem_append_right _ hq))).evo c0 (qK hfr)
      have k9 := hk2.evo c0 (fun q hq h => by have h8 := hkg q (List.mem_append_right _ hq); have h9 := hl1 q (List.mem_append_left _ h); omega)
      have hob2 := hob41; have hFr9 := Fr.grow hfr hl1 hk3.right (OTs.lt k7) e6.size (Nat.le_trans hcall9.size hVV.size) hob2
      have hnin := ER ha2 hb29 (fun q hq e => by have h8 := hkg q (List.mem_append_right _ hq); omega) hob2
      refine wan (csr (aB (aA (aZ rfl Try.underlying35 rfl) ?_))); refine aA (fE rfl rfl) ?_; refine wan (cN (bL (cM (bA ?_)))); refine ⟨⟨f', st2, l ++ g, decide (0 < (g.length : Int)), n + g.length, qa2, qc2, qo2, bs ++ bs2, na3, nc3, no3⟩, ?_, ⟨rfl, rfl, trivial⟩, ⟨rfl, rfl, trivial⟩, ((M.step d1 (oL hnb)).step c0 (oC hfr).mem), ?_⟩
      · (try dsimp only); show f' < f' + 1; omega
      try dsimp only
      refine ⟨⟨(c0.blk g1.blk V.nmem), (g1.own.evo c0 k6.symm.own), g1.ne⟩, ⟨hmv2.opn.trans hmv.opn, Nat.le_trans hmv.le hmv2.le, hmv2.bd, hmv2.nm⟩, heq.trans ((VP hng hrp hx).trans ?_), (by show s.size + 1 ≤ f' + st2.pos; omega), ⟨_, m6, OTs.app k8 k9⟩, hFr9, (by show (l ++ g).length + st.pos ≤ st2.pos; rw [List.length_append]; omega), ?_, hnb4, (c0.blk i5 d3.nmem), hg2, hnin⟩
      · rw [show decide (0 < (g.length : Int)) = decide (0 < g.length) from decide_eq_decide.2 (by omega)]
      · intro h h9; have h8 : 0 < (g.length : Int) := of_decide_eq_true h; have h7 := (List.append_eq_nil_iff.1 h9).2; rw [h7] at h8; exact absurd h8 (by decide +kernel)
     have hnn0 : nn ≠ 0 := by omega
     refine aM (aC (aI (csr (aB (aA (dR rfl) ?_))))); refine aB (jM (t := 63) rfl (fun O => ?_) (fun O => ?_))
     ·replace O := congrArg Bool.not O; simp only [Bool.not_not, Bool.not_true, Bool.not_false] at O; subst O
      refine aJ (aJ (bQ (aB (aJ (aJ (bQ (aB (aJ (aJ (aJ (eZ ?_))))))))))); refine eZ ?_; refine eZ ?_; refine aJ (bQ (wnn (dD rfl ?_))); refine aG (cB (vs := [_]) cQ rfl (eB 82) rfl ?_ ?_)
      ·intro pv wp hpp; obtain ⟨rfl, hpw⟩ := hpp; exact And.intro rfl ⟨_, rfl, _, heq.trans (wN hng hrp hnn0 (.inl rfl)), rfl, (M).then hpw⟩
      intro _ _ hF; exact hF.elim
     replace O := congrArg Bool.not O; simp only [Bool.not_not, Bool.not_true, Bool.not_false] at O; subst O
     refine aO (aB (aO (aA (fE rfl rfl) ?_))); refine bK (aB (bC (t := 67) rfl (fun l0 => ?_) (fun l0 => ?_)))
     ·refine aJ (aJ (bQ (aB (aJ (aJ (aJ (eZ ?_))))))); refine eZ ?_; refine eZ ?_; refine aJ (bQ (wnn (dD rfl ?_))); refine aG (cB (vs := [_]) cQ rfl (eB 82) rfl ?_ ?_)
      ·intro pv wp hpp; obtain ⟨rfl, hpw⟩ := hpp; exact And.intro rfl ⟨_, rfl, _, heq.trans (wN hng hrp hnn0 (.inr (by omega))), rfl, (M).then hpw⟩
      intro _ _ hF; exact hF.elim
     refine aO (aB (aO (aA (fE rfl rfl) ?_))); refine bK (aB (bC (t := 71) rfl (fun l1 => ?_) (fun l1 => ?_)))
     ·refine aJ (aJ (aJ (eZ ?_))); refine eZ ?_; refine eZ ?_; refine aJ (bQ (wnn (dD rfl ?_))); refine aG (cB (vs := [_]) cQ rfl (eB 82) rfl ?_ ?_)
      ·intro pv wp hpp; obtain ⟨rfl, hpw⟩ := hpp; exact And.intro rfl ⟨_, rfl, _, heq.trans (wN hng hrp hnn0 (.inr (by omega))), rfl, (M).then hpw⟩
      intro _ _ hF; exact hF.elim
     refine aO (aB (aO (aA (eF rfl rfl) ?_))); refine aO (aB (bC (t := 74) rfl (fun l2 => ?_) (fun l2 => ?_)))
     ·refine aO (aB (aO (aB (aO (aA (cU rfl rfl) ?_))))); refine aO (bQ (bK (wnn (aW rfl (fun l3 => ?_) (fun l3 => ?_)))))
      ·refine aG (cB (vs := [_]) cQ rfl (eB 82) rfl ?_ ?_)
       ·intro pv wp hpp; obtain ⟨rfl, hpw⟩ := hpp; exact And.intro rfl ⟨_, rfl, _, heq.trans (wN hng hrp hnn0 (.inr (by omega))), rfl, (M).then hpw⟩
       intro _ _ hF; exact hF.elim
      refine aM (aC (aI ?_)); obtain ⟨hnb1, hnb2⟩ := hnn hnn0
      have hcc : ¬ (true = false ∨ 1000 < lo ∨ 1000 < hi ∨ (0 ≤ hi ∧ hi < lo)) := by rintro (h | h | h | ⟨h, h'⟩); cases h; omega; omega; omega
      obtain ⟨l', x, hlx, hdl, hgl⟩ := LI (hahl rfl); have hne := qZ hown hts
      have m7 : n = l'.length + 1 := by rw [hne, hlx]; simp
      refine aG (aB (aA (aF rfl) (wfl rfl bF rfl aT d0 rfl (aB ?_)))); refine aA (aK rfl rfl (by omega) (by omega)) ?_; refine aA (aF rfl) (aA (aD rfl bF) ?_); refine bB rfl rfl (by first | rfl | assumption) bY d0 rfl fun o5 f7 d2 => ?_
      have l4 := M.step d2 (fun y hy => .inl (by rw [List.mem_singleton.1 hy]; simp))
      have l5 := d6.evo d2 (fun q hq h => nmq q (List.mem_append_right _ hq) (FU q h))
      try simp only [cH, Nat.reduceAdd] at f7
      refine wnn (csr (aB (aA (aF rfl) (aA (aD rfl eJ) (wfl rfl rO rfl hD f7 rfl (wan (aI (csr (aB ?_))))))))); refine aL (vs := [_, _]) iR rfl (mQ (st := gT sx (sx.pos + nn)) ⟨f7, (f6.evo d2 B.ap.symm.own1), B.ne⟩ (by omega) 63 (by decide)) rfl ?_; rintro _ d4 ⟨rfl, d8, F⟩
      have d9 := l4.step d8 (fun y hy => .inl (by rw [List.mem_singleton.1 hy]; simp))
      have a0 := (d5.evo d2 V.symm.own1).evo d8 ((by first | exact V.symm.own1 | exact V.symm.nmem1)); have e0 := l5.evo d8 (fun q hq h => nmq q (List.mem_append_right _ hq) (FU q h)); have e1 := d8.blk (d2.blk d7 a5.symm.nmem1) ((by first | exact a5.symm.own1 | exact a5.symm.nmem1)); refine wnn (aW rfl (fun D => ?_) (fun D => ?_))
      ·rw [if_pos D] at F; refine aG (aB (aA (dR rfl) ?_)); refine wan (csr (aB (aA (aZ rfl Try.underlying35 rfl) ?_))); refine aA (dJ rfl rfl (by omega) (by omega)) ?_; refine wan (aI ?_); have hts16 := e0; rw [hlx] at hts16; obtain ⟨c1, c2, b1, bx, hcs, hbs, ht1, ht2⟩ := OTs.parts hts16; have hl16 := oK a0 e0; have a6 := d9; have hb216 := eM e1; subst hcs; subst hbs; have hX := ht2.one'; obtain ⟨ra, rc, ka, kc, rfl⟩ := id hX.nine; obtain ⟨gq, hgq, haq, hcq⟩ := (a0).cells (by omega); have hcl := pX hcq; have hc1l := ht1.len; rw [hc1l] at hcl; refine aG (aB (aB (aB (aB (aB (aB (aB ?_))))))); refine aA (eD (n := l'.length) rfl rfl haq (by omega) dV (by omega)) ?_; refine aA (cY rfl bZ aU (vs := [_, _, _, _, _, _, _, _, _]) rfl (hcl.evo (Evo.refl [] d4) (by simp))) ?_; refine bM (vs := [_]) rfl cT rfl rfl rfl rfl fun a7 o6 l6 i6 c3 => ?_; have f8 := a0.evo0 c3; refine aA (cC (vs := [(0, _), (3, _), (4, _), (5, _), (8, _)]) dI rfl (cells := [_, _, _, _, _, _, _, _, _]) rfl) ?_; have U := (Ge.new (Evo.refl [] d4) i6); refine aA (eD (n := l'.length) rfl rfl haq (by omega) dV (by omega)) ?_
       obtain ⟨g9, cur9, hg9, hx9, hcu9, hcs9, -⟩ := f8.at (by omega)
       rw [haq] at hx9; cases hx9
       refine lF rfl rfl aU rfl (fun u hu => AllOne.mem (l := [_, _, _, _, _, _, _, _, _]) ⟨rfl, rfl, rfl, rfl, rfl, rfl, rfl, rfl, rfl, trivial⟩ u hu) hcu9 (by have h8 := (f8).le; rw [hcs9]; omega) fun o7 l7 a1 => ?_
       replace a1 := jQ hg9 a1; have l8 := nY f8 hg9 hcu9 hc1l (by omega) rfl rfl l7; have g2 := ((Evo.refl qo.toList d4).then c3).step a1 (fun y hy => .inl hy); have i7 := a1.blk (c3.blk0 e1) d3.nmem; refine wnn (aG (bX (aQ (aP (bA ?_))))); refine ⟨⟨f', gT sx (sx.pos + nn + 1), l' ++ [jD lo hi (!sx.now.lazy) x], false, n, qa, qc, qo, b1 ++ (a7 :: bx), na, nc, no⟩, ?_, ⟨rfl, rfl, trivial⟩, ⟨rfl, rfl, trivial⟩, ((d9.then c3).step a1 (oC hfr).mem), ?_⟩
       · (try dsimp only); show f' < f' + 1; omega
       try dsimp only
       have hRp := CF (lo := lo) (hi := hi) (z := !sx.now.lazy) (l6.evo a1 (Apart.new (Lt.own a0) i6).symm.own) hX g2 (fun q hq => qK hfr q (List.mem_append_right _ hq)); have hge110 := U _ rfl
       refine ⟨⟨(a1.blk (c3.blk0 F.blk) V.nmem), ((F.own.evo0 c3).evo a1 f9.symm.own), F.ne⟩, ⟨hmv.opn, (by show st.pos ≤ sx.pos + nn + 1; omega), D.asc (by decide) hnb2, hmv.nm⟩, heq.trans ((NQ hng hrp hnn0 hcc D).trans (by rw [hdl, hgl]; rfl)), (by show s.size + 1 ≤ f' + (sx.pos + nn + 1); omega), ⟨_, l8, OTs.app (ht1.evo g2 (fun q hq => qK hfr q (List.mem_append_left _ hq))) (OTs.single hRp)⟩, Fr.insert hfr hl16 hge110 a6.size, ?_, (fun h => by cases h), hnb, i7, hg2, ?_⟩
       · show (l' ++ [_]).length + st.pos ≤ sx.pos + nn + 1; rw [hlx] at hlen; rw [List.length_append] at hlen ⊢; simp at hlen ⊢; omega
       · intro hm; rcases List.mem_append.1 hm with hm | hm
         · exact ha2 (List.mem_append_left _ hm)
         · rcases List.mem_append.1 hm with hm | hm
           · exact ha2 (List.mem_append_right _ (List.mem_append_left _ hm))
           · rcases List.mem_cons.1 hm with hm | hm
             · omega
             · exact ha2 (List.mem_append_right _ (List.mem_append_right _ hm))
      rw [if_neg D] at F; refine aM (aC (csr (aB (aA (aZ rfl Try.underlying35 rfl) ?_)))); refine aA (dJ rfl rfl (by omega) (by omega)) ?_; refine wan (aI ?_); have hts16 := e0; rw [hlx] at hts16; obtain ⟨c1, c2, b1, bx, hcs, hbs, ht1, ht2⟩ := OTs.parts hts16; have hl16 := oK a0 e0; have a6 := d9; have hb216 := eM e1; subst hcs; subst hbs; have hX := ht2.one'; obtain ⟨ra, rc, ka, kc, rfl⟩ := id hX.nine; obtain ⟨gq, hgq, haq, hcq⟩ := (a0).cells (by omega); have hcl := pX hcq; have hc1l := ht1.len; rw [hc1l] at hcl; refine aG (aB (aB (aB (aB (aB (aB (aB ?_))))))); refine aA (eD (n := l'.length) rfl rfl haq (by omega) dV (by omega)) ?_; refine aA (cY rfl bZ aU (vs := [_, _, _, _, _, _, _, _, _]) rfl (hcl.evo (Evo.refl [] d4) (by simp))) ?_; refine bM (vs := [_]) rfl cT rfl rfl rfl rfl fun a7 n3 i8 g3 a2 => ?_; have e2 := a0.evo0 a2; refine aA (cC (vs := [(0, _), (3, _), (4, _), (5, _), (8, _)]) dI rfl (cells := [_, _, _, _, _, _, _, _, _]) rfl) ?_; have U := (Ge.new (Evo.refl [] d4) g3); refine aA (eD (n := l'.length) rfl rfl haq (by omega) dV (by omega)) ?_
      obtain ⟨g9, cur9, hg9, hx9, hcu9, hcs9, -⟩ := e2.at (by omega)
      rw [haq] at hx9; cases hx9
      refine lF rfl rfl aU rfl (fun u hu => AllOne.mem (l := [_, _, _, _, _, _, _, _, _]) ⟨rfl, rfl, rfl, rfl, rfl, rfl, rfl, rfl, rfl, trivial⟩ u hu) hcu9 (by have h8 := (e2).le; rw [hcs9]; omega) fun n4 i9 H => ?_
      replace H := jQ hg9 H; have j0 := nY e2 hg9 hcu9 hc1l (by omega) rfl rfl i9; have g4 := ((Evo.refl qo.toList d4).then a2).step H (fun y hy => .inl hy); have j1 := H.blk (a2.blk0 e1) d3.nmem; refine wnn (aG (bX (aQ (aP (bA ?_))))); refine ⟨⟨f', gT sx (sx.pos + nn), l' ++ [jD lo hi (sx.now.lazy) x], false, n, qa, qc, qo, b1 ++ (a7 :: bx), na, nc, no⟩, ?_, ⟨rfl, rfl, trivial⟩, ⟨rfl, rfl, trivial⟩, ((d9.then a2).step H (oC hfr).mem), ?_⟩
      · (try dsimp only); show f' < f' + 1; omega
      try dsimp only
      have hRp := CF (lo := lo) (hi := hi) (z := sx.now.lazy) (i8.evo H (Apart.new (Lt.own a0) g3).symm.own) hX g4 (fun q hq => qK hfr q (List.mem_append_right _ hq)); have hge110 := U _ rfl
      refine ⟨⟨(H.blk (a2.blk0 F.blk) V.nmem), ((F.own.evo0 a2).evo H f9.symm.own), F.ne⟩, ⟨hmv.opn, (by show st.pos ≤ sx.pos + nn; omega), hnb2, hmv.nm⟩, heq.trans ((uG hng hrp hnn0 hcc D).trans (by rw [hdl, hgl]; rfl)), (by show s.size + 1 ≤ f' + (sx.pos + nn); omega), ⟨_, j0, OTs.app (ht1.evo g4 (fun q hq => qK hfr q (List.mem_append_left _ hq))) (OTs.single hRp)⟩, Fr.insert hfr hl16 hge110 a6.size, ?_, (fun h => by cases h), hnb, j1, hg2, ?_⟩
      · show (l' ++ [_]).length + st.pos ≤ sx.pos + nn; rw [hlx] at hlen; rw [List.length_append] at hlen ⊢; simp at hlen ⊢; omega
      · intro hm; rcases List.mem_append.1 hm with hm | hm
        · exact ha2 (List.mem_append_left _ hm)
        · rcases List.mem_append.1 hm with hm | hm
          · exact ha2 (List.mem_append_right _ (List.mem_append_left _ hm))
          · rcases List.mem_cons.1 hm with hm | hm
            · omega
            · exact ha2 (List.mem_append_right _ (List.mem_append_right _ hm))
     refine aJ (aJ (aJ (aO (bK (bK (wnn (cK rfl ?_))))))); refine aM (aC (aI ?_)); obtain ⟨hnb1, hnb2⟩ := hnn hnn0
     have hcc : ¬ (true = false ∨ 1000 < lo ∨ 1000 < hi ∨ (0 ≤ hi ∧ hi < lo)) := by rintro (h | h | h | ⟨h, h'⟩); cases h; omega; omega; omega
     obtain ⟨l', x, hlx, hdl, hgl⟩ := LI (hahl rfl); have hne := qZ hown hts
     have m7 : n = l'.length + 1 := by rw [hne, hlx]; simp
     refine aG (aB (aA (aF rfl) (wfl rfl bF rfl aT d0 rfl (aB ?_)))); refine aA (aK rfl rfl (by omega) (by omega)) ?_; refine aA (aF rfl) (aA (aD rfl bF) ?_); refine bB rfl rfl (by first | rfl | assumption) bY d0 rfl fun n5 e3 a8 => ?_
     have j2 := M.step a8 (fun y hy => .inl (by rw [List.mem_singleton.1 hy]; simp))
     have j3 := d6.evo a8 (fun q hq h => nmq q (List.mem_append_right _ hq) (FU q h))
     try simp only [cH, Nat.reduceAdd] at e3
     refine wnn (csr (aB (aA (aF rfl) (aA (aD rfl eJ) (wfl rfl rO rfl hD e3 rfl (wan (aI (csr (aB ?_))))))))); refine aL (vs := [_, _]) iR rfl (mQ (st := gT sx (sx.pos + nn)) ⟨e3, (f6.evo a8 B.ap.symm.own1), B.ne⟩ (by omega) 63 (by decide)) rfl ?_; rintro _ c4 ⟨rfl, c5, F⟩
     have c6 := j2.step c5 (fun y hy => .inl (by rw [List.mem_singleton.1 hy]; simp))
     have I := (d5.evo a8 V.symm.own1).evo c5 ((by first | exact V.symm.own1 | exact V.symm.nmem1)); have c7 := j3.evo c5 (fun q hq h => nmq q (List.mem_append_right _ hq) (FU q h)); have c8 := c5.blk (a8.blk d7 a5.symm.nmem1) ((by first | exact a5.symm.own1 | exact a5.symm.nmem1)); refine wnn (aW rfl (fun D => ?_) (fun D => ?_))
     ·rw [if_pos D] at F; refine aG (aB (aA (dR rfl) ?_)); refine wan (csr (aB (aA (aZ rfl Try.underlying35 rfl) ?_))); refine aA (dJ rfl rfl (by omega) (by omega)) ?_; refine wan (aI ?_); have hts16 := c7; rw [hlx] at hts16; obtain ⟨c1, c2, b1, bx, hcs, hbs, ht1, ht2⟩ := OTs.parts hts16; have hl16 := oK I c7; have a6 := c6; have hb216 := eM c8; subst hcs; subst hbs; have hX := ht2.one'; obtain ⟨ra, rc, ka, kc, rfl⟩ := id hX.nine; obtain ⟨gq, hgq, haq, hcq⟩ := (I).cells (by omega); have hcl := pX hcq; have hc1l := ht1.len; rw [hc1l] at hcl; refine aG (aB (aB (aB (aB (aB (aB (aB ?_))))))); refine aA (eD (n := l'.length) rfl rfl haq (by omega) dV (by omega)) ?_; refine aA (cY rfl bZ aU (vs := [_, _, _, _, _, _, _, _, _]) rfl (hcl.evo (Evo.refl [] c4) (by simp))) ?_; refine bM (vs := [_]) rfl cT rfl rfl rfl rfl fun a7 n6 j4 g5 a3 => ?_; have e4 := I.evo0 a3; refine aA (cC (vs := [(0, _), (3, _), (4, _), (5, _), (8, _)]) dI rfl (cells := [_, _, _, _, _, _, _, _, _]) rfl) ?_; have U := (Ge.new (Evo.refl [] c4) g5); refine aA (eD (n := l'.length) rfl rfl haq (by omega) dV (by omega)) ?_
      obtain ⟨g9, cur9, hg9, hx9, hcu9, hcs9, -⟩ := e4.at (by omega)
      rw [haq] at hx9; cases hx9
      refine lF rfl rfl aU rfl (fun u hu => AllOne.mem (l := [_, _, _, _, _, _, _, _, _]) ⟨rfl, rfl, rfl, rfl, rfl, rfl, rfl, rfl, rfl, trivial⟩ u hu) hcu9 (by have h8 := (e4).le; rw [hcs9]; omega) fun n7 j5 J => ?_
      replace J := jQ hg9 J; have j6 := nY e4 hg9 hcu9 hc1l (by omega) rfl rfl j5; have g6 := ((Evo.refl qo.toList c4).then a3).step J (fun y hy => .inl hy); have j7 := J.blk (a3.blk0 c8) d3.nmem; refine wnn (aG (bX (aQ (aP (bA ?_))))); refine ⟨⟨f', gT sx (sx.pos + nn + 1), l' ++ [jD lo hi (!sx.now.lazy) x], false, n, qa, qc, qo, b1 ++ (a7 :: bx), na, nc, no⟩, ?_, ⟨rfl, rfl, trivial⟩, ⟨rfl, rfl, trivial⟩, ((c6.then a3).step J (oC hfr).mem), ?_⟩
      · (try dsimp only); show f' < f' + 1; omega
      try dsimp only
      have hRp := CF (lo := lo) (hi := hi) (z := !sx.now.lazy) (j4.evo J (Apart.new (Lt.own I) g5).symm.own) hX g6 (fun q hq => qK hfr q (List.mem_append_right _ hq)); have hge110 := U _ rfl
      refine ⟨⟨(J.blk (a3.blk0 F.blk) V.nmem), ((F.own.evo0 a3).evo J f9.symm.own), F.ne⟩, ⟨hmv.opn, (by show st.pos ≤ sx.pos + nn + 1; omega), D.asc (by decide) hnb2, hmv.nm⟩, heq.trans ((NQ hng hrp hnn0 hcc D).trans (by rw [hdl, hgl]; rfl)), (by show s.size + 1 ≤ f' + (sx.pos + nn + 1); omega), ⟨_, j6, OTs.app (ht1.evo g6 (fun q hq => qK hfr q (List.mem_append_left _ hq))) (OTs.single hRp)⟩, Fr.insert hfr hl16 hge110 a6.size, ?_, (fun h => by cases h), hnb, j7, hg2, ?_⟩
      · show (l' ++ [_]).length + st.pos ≤ sx.pos + nn + 1; rw [hlx] at hlen; rw [List.length_append] at hlen ⊢; simp at hlen ⊢; omega
      · intro hm; rcases List.mem_append.1 hm with hm | hm
        · exact ha2 (List.mem_append_left _ hm)
        · rcases List.mem_append.1 hm with hm | hm
          · exact ha2 (List.mem_append_right _ (List.mem_append_left _ hm))
          · rcases List.mem_cons.1 hm with hm | hm
            · omega
            · exact ha2 (List.mem_append_right _ (List.mem_append_right _ hm))
     rw [if_neg D] at F; refine aM (aC (csr (aB (aA (aZ rfl Try.underlying35 rfl) ?_)))); refine aA (dJ rfl rfl (by omega) (by omega)) ?_; refine wan (aI ?_); have hts16 := c7; rw [hlx] at hts16; obtain ⟨c1, c2, b1, bx, hcs, hbs, ht1, ht2⟩ := OTs.parts hts16; have hl16 := oK I c7; have a6 := c6; have hb216 := eM c8; subst hcs; subst hbs; have hX := ht2.one'; obtain ⟨ra, rc, ka, kc, rfl⟩ := id hX.nine; obtain ⟨gq, hgq, haq, hcq⟩ := (I).cells (by omega); have hcl := pX hcq; have hc1l := ht1.len; rw [hc1l] at hcl; refine aG (aB (aB (aB (aB (aB (aB (aB ?_))))))); refine aA (eD (n := l'.length) rfl rfl haq (by omega) dV (by omega)) ?_; refine aA (cY rfl bZ aU (vs := [_, _, _, _, _, _, _, _, _]) rfl (hcl.evo (Evo.refl [] c4) (by simp))) ?_; refine bM (vs := [_]) rfl cT rfl rfl rfl rfl fun a7 n8 j8 g7 a4 => ?_; have e5 := I.evo0 a4; refine aA (cC (vs := [(0, _), (3, _), (4, _), (5, _), (8, _)]) dI rfl (cells := [_, _, _, _, _, _, _, _, _]) rfl) ?_; have U := (Ge.new (Evo.refl [] c4) g7); refine aA (eD (n := l'.length) rfl rfl haq (by omega) dV (by omega)) ?_
     obtain ⟨g9, cur9, hg9, hx9, hcu9, hcs9, -⟩ := e5.at (by omega)
     rw [haq] at hx9; cases hx9
     refine lF rfl rfl aU rfl (fun u hu => AllOne.mem (l := [_, _, _, _, _, _, _, _, _]) ⟨rfl, rfl, rfl, rfl, rfl, rfl, rfl, rfl, rfl, trivial⟩ u hu) hcu9 (by have h8 := (e5).le; rw [hcs9]; omega) fun n9 j9 L => ?_
     replace L := jQ hg9 L; have k0 := nY e5 hg9 hcu9 hc1l (by omega) rfl rfl j9; have g8 := ((Evo.refl qo.toList c4).then a4).step L (fun y hy => .inl hy); have k1 := L.blk (a4.blk0 c8) d3.nmem; refine wnn (aG (bX (aQ (aP (bA ?_))))); refine ⟨⟨f', gT sx (sx.pos + nn), l' ++ [jD lo hi (sx.now.lazy) x], false, n, qa, qc, qo, b1 ++ (a7 :: bx), na, nc, no⟩, ?_, ⟨rfl, rfl, trivial⟩, ⟨rfl, rfl, trivial⟩, ((c6.then a4).step L (oC hfr).mem), ?_⟩
     · (try dsimp only); show f' < f' + 1; omega
     try dsimp only
     have hRp := CF (lo := lo) (hi := hi) (z := sx.now.lazy) (j8.evo L (Apart.new (Lt.own I) g7).symm.own) hX g8 (fun q hq => qK hfr q (List.mem_append_right _ hq)); have hge110 := U _ rfl
     refine ⟨⟨(L.blk (a4.blk0 F.blk) V.nmem), ((F.own.evo0 a4).evo L f9.symm.own), F.ne⟩, ⟨hmv.opn, (by show st.pos ≤ sx.pos + nn; omega), hnb2, hmv.nm⟩, heq.trans ((uG hng hrp hnn0 hcc D).trans (by rw [hdl, hgl]; rfl)), (by show s.size + 1 ≤ f' + (sx.pos + nn); omega), ⟨_, k0, OTs.app (ht1.evo g8 (fun q hq => qK hfr q (List.mem_append_left _ hq))) (OTs.single hRp)⟩, Fr.insert hfr hl16 hge110 a6.size, ?_, (fun h => by cases h), hnb, k1, hg2, ?_⟩
     · show (l' ++ [_]).length + st.pos ≤ sx.pos + nn; rw [hlx] at hlen; rw [List.length_append] at hlen ⊢; simp at hlen ⊢; omega
     · intro hm; rcases List.mem_append.1 hm with hm | hm
       · exact ha2 (List.mem_append_left _ hm)
       · rcases List.mem_append.1 hm with hm | hm
         · exact ha2 (List.mem_append_right _ (List.mem_append_left _ hm))
         · rcases List.mem_cons.1 hm with hm | hm
           · omega
           · exact ha2 (List.mem_append_right _ (List.mem_append_right _ hm))
    refine cN (bL (bL (cM (aC ?_)))); refine csr (aB ?_); refine aL (vs := [_, _]) qH rfl (BW 4 (hown.evo0 A) f5 (by omega)) rfl ?_; rintro rv l9 ⟨⟨vs, bs', rfl, hOT, hsub⟩, a9⟩; have e6 := e7; obtain ⟨ra, rc, ka, kc, rfl⟩ := id hOT.nine; refine aV rfl rfl aU (a9.blk0 (A.blk0 hb2)) rfl rfl ⟨by first | rfl | assumption, by first | rfl | assumption, by first | rfl | assumption, by first | rfl | assumption, by first | rfl | assumption, by first | rfl | assumption, by first | rfl | assumption, by first | rfl | assumption, by first | rfl | assumption, trivial⟩ fun o0 h0 b4 => ?_
    have m8 := (f5.evo0 a9).evo b4 (fun q hq h => ha2 (List.mem_append_right _ (by rw [← List.mem_singleton.1 h]; exact hq)))
    try simp only [cH, Nat.reduceAdd] at h0
    refine wnn (aH (cE (cI rfl (ResOk.cellA rfl bZ aU h0 rfl) ?_)))
    exact ⟨qN 4 l, sx, heq.trans (mT (by omega)), ((e7.then a9).step b4 hg2.mem1), hmv, na, nc, no, _, bs', rfl, hOT.evo ((Evo.refl ([b2]) l9).step b4 (fun y hy => .inl hy)) (fun q hq h => ha2 (by rw [← List.mem_singleton.1 h]; exact hsub.subset hq)), hfr.sub hsub, ⟨(b4.blk (a9.blk0 e8) a5.nmem1), ((f0.evo0 a9).evo b4 g0.symm.own1), B.ne⟩, hnb⟩
   refine qln ?_; refine qln ?_; refine qln ?_; refine qln ?_; refine qln ?_; refine qln ?_; refine qln ?_; refine qln ?_; refine qln ?_; refine qln ?_; refine bD (fun _ A => gI rfl rfl) ?_; refine eL (fun i3 A => aC ?_); refine cK rfl ?_; refine cN (bL (bL (cM (aC ?_)))); refine csr (aB ?_); refine aL (vs := [_, _]) qH rfl (BW 4 (hown.evo0 A) (hts.evo0 A) (by omega)) rfl ?_; rintro rv m0 ⟨⟨vs, bs', rfl, hOT, hsub⟩, b5⟩; have e6 := (c9.then A); obtain ⟨ra, rc, ka, kc, rfl⟩ := id hOT.nine; refine aV rfl rfl aU (b5.blk0 (A.blk0 hb2)) rfl rfl ⟨by first | rfl | assumption, by first | rfl | assumption, by first | rfl | assumption, by first | rfl | assumption, by first | rfl | assumption, by first | rfl | assumption, by first | rfl | assumption, by first | rfl | assumption, by first | rfl | assumption, trivial⟩ fun o1 h5 b6 => ?_
   have m9 := ((hts.evo0 A).evo0 b5).evo b6 (fun q hq h => ha2 (List.mem_append_right _ (by rw [← List.mem_singleton.1 h]; exact hq)))
   try simp only [cH, Nat.reduceAdd] at h5
   refine wnn (aH (cE (cI rfl (ResOk.cellA rfl bZ aU h5 rfl) ?_)))
   exact ⟨qN 4 l, sx, heq.trans (mT (by omega)), (((c9.then A).then b5).step b6 hg2.mem1), hmv, na, nc, no, _, bs', rfl, hOT.evo ((Evo.refl ([b2]) m0).step b6 (fun y hy => .inl hy)) (fun q hq h => ha2 (by rw [← List.mem_singleton.1 h]; exact hsub.subset hq)), hfr.sub hsub, ⟨(b6.blk (b5.blk0 (A.blk0 B.blk)) a5.nmem1), (((B.own.evo0 A).evo0 b5).evo b6 g0.symm.own1), B.ne⟩, hnb⟩
  refine qln ?_; refine qln ?_; refine qln ?_; refine qln ?_; refine qln ?_; refine qln ?_; refine qln ?_; refine qln ?_; refine qln ?_; refine qln ?_; refine bD (fun _ A => gI rfl rfl) ?_; refine bD (fun _ A => aX rfl) ?_; refine qln ?_; refine qln ?_; refine qln ?_; refine qln ?_; refine qln ?_; refine qln ?_; refine qln ?_; refine qln ?_; refine qln ?_; refine qln ?_; refine bD (fun _ A => gI rfl rfl) ?_; refine eL (fun i3 A => aC ?_); refine cK rfl ?_; refine cN (bL (bL (cM (aC ?_)))); refine csr (aB ?_); refine aL (vs := [_, _]) qH rfl (BW 4 (hown.evo0 A) (hts.evo0 A) (by omega)) rfl ?_; rintro rv m1 ⟨⟨vs, bs', rfl, hOT, hsub⟩, b7⟩; have e6 := (c9.then A); obtain ⟨ra, rc, ka, kc, rfl⟩ := id hOT.nine; refine aV rfl rfl aU (b7.blk0 (A.blk0 hb2)) rfl rfl ⟨by first | rfl | assumption, by first | rfl | assumption, by first | rfl | assumption, by first | rfl | assumption, by first | rfl | assumption, by first | rfl | assumption, by first | rfl | assumption, by first | rfl | assumption, by first | rfl | assumption, trivial⟩ fun o2 h6 b8 => ?_
  have n0 := ((hts.evo0 A).evo0 b7).evo b8 (fun q hq h => ha2 (List.mem_append_right _ (by rw [← List.mem_singleton.1 h]; exact hq)))
  try simp only [cH, Nat.reduceAdd] at h6
  refine wnn (aH (cE (cI rfl (ResOk.cellA rfl bZ aU h6 rfl) ?_)))
  exact ⟨qN 4 l, sx, heq.trans (mT (by omega)), (((c9.then A).then b7).step b8 hg2.mem1), hmv, na, nc, no, _, bs', rfl, hOT.evo ((Evo.refl ([b2]) m1).step b8 (fun y hy => .inl hy)) (fun q hq h => ha2 (by rw [← List.mem_singleton.1 h]; exact hsub.subset hq)), hfr.sub hsub, ⟨(b8.blk (b7.blk0 (A.blk0 B.blk)) a5.nmem1), (((B.own.evo0 A).evo0 b7).evo b8 g0.symm.own1), B.ne⟩, hnb⟩
theorem zD : dY Try.prog 25 := ⟨_, Try.func25, by kernel_rfl, by kernel_rfl⟩
structure EtG where
  f : Nat
  sx : PS
  l : List Rx
  n : Nat
  qa : Option Addr
  qc : Nat
  qo : Option Nat
  bs : List Nat
  na : Option Addr
  nc : Nat
  no : Option Nat
structure EtI (w wr : World) (b : Nat) (s : ByteArray) (ex : PS → PX Rx) (st : PS) (ob : Option Nat) (b2 : Nat) (x : EtG) : Prop where
  hr : RdAt wr b s x.sx x.na x.nc x.no
  mv : Mv s st x.sx
  eq : kE s ex st = mO s ex x.f x.l x.sx
  hf : s.size + 1 ≤ x.f + x.sx.pos
  kt : ∃ cs, OwnS wr 37 9 x.qa x.n x.qc cs x.qo ∧ OTs x.l wr cs x.bs
  fr : Fr w (x.qo.toList ++ x.bs)
  len : x.l.length + st.pos ≤ x.sx.pos + 1
  nb : NB w ob x.no
  hb2 : wr.heap[b2]? = some (.cells #[iv 0, .int .i32 0, .slice none 0 0, iv 0, iv 0, .bool false, iv 0, .string ByteArray.empty, .slice none 0 0] 37 (0, 0))
  g2 : Ge w (some b2)
  a2 : b2 ∉ x.qo.toList ++ x.bs
theorem exp_err {s : ByteArray} {ex : PS → PX Rx} {st : PS} {e : Int} (h : vJ s ex st = .error e) : kE s ex st = .error e := by
  unfold kE; unfold vJ at h; rw [h]
theorem UJ {s : ByteArray} {ex : PS → PX Rx} {st st2 : PS} {x : Rx} (h : vJ s ex st = .ok (x, st2)) : kE s ex st = mO s ex (s.size + 1) [x] st2 := by
  unfold kE; unfold vJ at h; rw [h]
theorem qM {ex : PS → PX Rx} {w : World} {b : Nat} {s : ByteArray} {st : PS} {a : Option Addr} {c : Nat} {ob : Option Nat} (hex : st.opn < 250 → sX b s ex (st.opn + 1)) (hR : RdAt w b s st a c ob) (hs : s.size ≤ 4096) (hop : st.opn ≤ 250) (hb : Bd s st.pos) (hnl : st.names.length ≤ 100) (hG : Glb w) (hGo : Apart (some nU) ob) :
    Calls Try.prog 19 #[.pointer (some ⟨b, 0, none⟩)] w (RetP (LC b s (kE s ex) st ob w) (ExPan b (kE s ex) st ob w)) := by
  have hap := hR.ap; have hgb : nU ∉ [b] := fun h => hR.glb hG (List.mem_singleton.1 h).symm; have hgw := UB hgb hGo; have hbw : Lt w (some b) := Lt.blk hR.blk; have how : Lt w ob := Lt.own hR.own; refine bE (N := 16) Try.func19 rfl rfl rfl ?_; refine csr (cL rfl eN fun b2 w1 c3 a4 a8 => ?_); have d3 := a4; have a9 := Apart.new (Lt.blk hR.blk) a4; have d4 := Ge.new (Evo.refl (b :: ob.toList) w) a4; have a5 := (Evo.refl (b :: ob.toList) w).then a8; refine wnn (csr (aB (cB (vs := [_]) zD rfl (rI hex ⟨(a8.blk0 hR.blk), (hR.own.evo0 a8), hR.ne⟩ hs hop hb hnl (hG.evo a5 hgw) hGo) rfl ?_ ?_)))
  ·intro pv wp hpp; obtain ⟨e9, hpe, rfl, hpw⟩ := hpp; exact And.intro rfl ⟨_, rfl, _, exp_err hpe, rfl, (a5).step hpw (oL (show NB w ob ob from .inl rfl))⟩
  rintro rv d5 ⟨x, st1, hx, a1, hmv1, na1, nc1, no1, vs, bx, rfl, hOT, hFx, b4, hnb1⟩; have hcall9 := a1; have O := a5; have hnb9 := (show NB w ob ob from .inl rfl).older hnb1 O.size; have hb2l := eM c3; have hxg : ∀ q, q ∈ bx → _ ≤ q := hFx.ge; have b5 := a5.step a1 (oL (show NB w ob ob from .inl rfl)); obtain ⟨ra, rc, ka, kc, rfl⟩ := id hOT.nine; refine bM (vs := [_]) rfl cT rfl rfl rfl rfl fun b6 e1 c5 b7 I => ?_; have c6 := Ge.new b5 b7; have b8 := Ge.new (Evo.refl [] d5) b7; refine wan (aI (bJ ?_))
  refine dA (α := EtG) (⟨s.size + 1, st1, [x], 1, some ⟨b6, 0, none⟩, 1, some b6, bx, na1, nc1, no1⟩) (fun x => [(3, .slice x.qa x.n x.qc)]) [(0, _), (2, _)] (fun x wr => Evo (b :: ob.toList) w wr ∧ (EtI w wr b s ex st ob b2 x)) (fun x => x.f) ⟨rfl, trivial⟩ ⟨rfl, rfl, trivial⟩ ⟨(b5.then I), ⟨⟨(I.blk0 b4.blk), (b4.own.evo0 I), b4.ne⟩, hmv1, UJ hx, Nat.le_add_right _ _, ⟨_, c5, OTs.single (hOT.evo0 I)⟩, ⟨List.nodup_cons.2 ⟨fun h => (by have h8 := hOT.lt b6 h; have h9 := b8 _ rfl; omega), hFx.nd⟩, fun q hq => by rcases List.mem_cons.1 hq with rfl | hq; (exact c6 _ rfl); (have h8 := hxg q hq; have h7 := O.size; omega)⟩, (by show 1 + st.pos ≤ st1.pos + 1; have := hmv1.le; omega), hnb9, (I.blk0 (a1.blk c3 (zO a9.symm (Apart.new (Lt.own hR.own) a4).symm))), d4, (fun h => by rcases List.mem_cons.1 h with h | h; (have h9 := b8 _ rfl; have h7 := hcall9.size; omega); (have h8 := hxg b2 h; omega))⟩⟩ ?_
  rintro ⟨f, sx, l, n, qa, qc, qo, bs, na, nc, no⟩ wr30 ⟨c7, ⟨U, hmv, heq, hfi, ⟨cs, hown, hts⟩, hfr, hlen, hnb, hb2, hg2, ha2⟩⟩; show CW _ _ _ _ [(3, .slice qa n qc), (0, _), (2, _)] _
  try dsimp only at U hmv heq hfi cs hown hts hfr hlen hnb hb2 hg2 ha2
  have b9 : Apart (some b) qo := jR hbw (oC hfr); have a6 : Apart (some b) (some b2) := jR hbw hg2; have c4 := BM hb2 U.own (by decide +kernel); have a9 := ap_nm ha2; have hGo1 := fO hGo (IU hG) hnb; have hpl := hmv.bd.le; have hmle := hmv.le; have nmq := nm_rd U hown hts; refine aI (csr (aB ?_)); refine aL (vs := [_, _]) iR rfl (mQ ⟨U.blk, U.own, U.ne⟩ (by omega) 124 (by decide)) rfl ?_; rintro _ e2 ⟨rfl, V, F⟩
  have B := c7.step V (fun y hy => .inl (by rw [List.mem_singleton.1 hy]; simp))
  have a2 := hown.evo V ((by first | exact b9.symm.own1 | exact b9.symm.nmem1)); have a0 := hts.evo V (fun q hq h => nmq q (List.mem_append_right _ hq) (FU q h)); have a3 := V.blk hb2 ((by first | exact a6.symm.own1 | exact a6.symm.nmem1)); refine wnn (aW rfl (fun H => ?_) (fun H => ?_))
  ·rw [if_pos H] at F
   obtain ⟨f', rfl⟩ : ∃ f', f = f' + 1 := ⟨f - 1, by have := H.1; omega⟩
   have hopx : sx.opn = st.opn := hmv.opn
   have hex' : (adv sx 1).opn < 250 → sX b s ex ((adv sx 1).opn + 1) := by show sx.opn < 250 → sX b s ex (sx.opn + 1); rw [hopx]; exact hex
   have hbd1 : Bd s (adv sx 1).pos := H.asc (by decide) hmv.bd; refine aM (aC (bJ (aG (aB (aB ?_)))))
   refine cB (vs := [_]) zD rfl (rI hex' ⟨F.blk, F.own, F.ne⟩ hs (by show sx.opn ≤ 250; omega) hbd1 hmv.nm (hG.evo B hgw) hGo1) rfl ?_ ?_
   ·intro pv wp hpp; obtain ⟨e9, hpe, rfl, hpw⟩ := hpp; exact And.intro rfl ⟨_, rfl, _, heq.trans (VO H hpe), rfl, (B).step hpw (oL hnb)⟩
   rintro rv d6 ⟨x, st3, hx, J, hmv3, na3, nc3, no3, vs, bx, rfl, hOT, hFx, a7, hnb3⟩; have hcall9 := J; have O := B; have hnb9 := hnb.older hnb3 O.size; have hb2l := eM a3; have hxg : ∀ q, q ∈ bx → _ ≤ q := hFx.ge; have hl1 := oK a2 a0; have c0 := a2.evo J (fun q hq => nmq q (List.mem_append_left _ (by simp [hq]))); obtain ⟨ra, rc, ka, kc, rfl⟩ := id hOT.nine; have c8 := uP c0 a7.own (by decide +kernel); refine bM (vs := [_]) rfl cT rfl rfl rfl rfl fun e3 e4 c9 d9 A => ?_; have c1 := A.blk0 (J.blk a3 (zO a6.symm c4)); have d0 := (hOT.evo0 A); have hVV := ((Evo.refl [] d6).then A); have hb29 := eM c1
   refine cZ rfl rfl rfl rfl mU (c0.evo0 A) (Src.ofOwn c9 ⟨by first | rfl | assumption, by first | rfl | assumption, by first | rfl | assumption, by first | rfl | assumption, by first | rfl | assumption, by first | rfl | assumption, by first | rfl | assumption, by first | rfl | assumption, by first | rfl | assumption, trivial⟩) (by have h8 := qZ hown hts; omega) fun qa2 qc2 e5 qo2 d7 D hob69 => ?_
   have d1 := ((a0.evo J (fun q hq => nmq q (List.mem_append_right _ hq))).evo0 A).evo D (qK hfr)
   have d2 := (hOT.evo0 A).evo D (fun q hq h => by have h8 := hxg q hq; have h9 := hl1 q (List.mem_append_left _ h); omega)
   have hob2 := hob69; have hFr9 := Fr.grow hfr hl1 hFx (OT.lt d0) O.size (Nat.le_trans hcall9.size hVV.size) hob2
   have hnin := ER ha2 hb29 (fun q hq e => by have h8 := hxg q hq; omega) hob2
   refine bX (aQ (aP (bA ?_))); refine ⟨⟨f', st3, l ++ [x], n + 1, qa2, qc2, qo2, bs ++ bx, na3, nc3, no3⟩, ?_, ⟨rfl, trivial⟩, ⟨rfl, rfl, trivial⟩, (((B.step J (oL hnb)).then A).step D (oC hfr).mem), ?_⟩
   · (try dsimp only); show f' < f' + 1; omega
   try dsimp only
   have hle3 : sx.pos + 1 ≤ st3.pos := hmv3.le
   refine ⟨⟨(D.blk (A.blk0 a7.blk) b9.nmem), ((a7.own.evo0 A).evo D c8.symm.own), a7.ne⟩, ⟨hmv3.opn.trans hmv.opn, (by show st.pos ≤ st3.pos; omega), hmv3.bd, hmv3.nm⟩, heq.trans (alts_go H hx), (by show s.size + 1 ≤ f' + st3.pos; omega), ⟨_, d7, OTs.app d1 (OTs.single d2)⟩, hFr9, ?_, hnb9, (D.blk c1 a9.nmem), hg2, hnin⟩
   show (l ++ [x]).length + st.pos ≤ st3.pos + 1; rw [List.length_append]; simp; omega
  rw [if_neg H] at F; refine cN (bL (bL (cM (aC ?_)))); refine csr (aB ?_); refine aL (vs := [_, _]) qH rfl (BW 5 a2 a0 (by omega)) rfl ?_; rintro rv d8 ⟨⟨vs, bs', rfl, hOT, hsub⟩, L⟩; have O := B; obtain ⟨ra, rc, ka, kc, rfl⟩ := id hOT.nine; refine aV rfl rfl aU (L.blk0 a3) rfl rfl ⟨by first | rfl | assumption, by first | rfl | assumption, by first | rfl | assumption, by first | rfl | assumption, by first | rfl | assumption, by first | rfl | assumption, by first | rfl | assumption, by first | rfl | assumption, by first | rfl | assumption, trivial⟩ fun e6 c2 M => ?_
  have e0 := (a0.evo0 L).evo M (fun q hq h => ha2 (List.mem_append_right _ (by rw [← List.mem_singleton.1 h]; exact hq)))
  try simp only [cH, Nat.reduceAdd] at c2
  refine wnn (aH (cE (cI rfl (ResOk.cellA rfl bZ aU c2 rfl) ?_)))
  exact ⟨qN 5 l, sx, heq.trans (GO H), ((B.then L).step M hg2.mem1), hmv, na, nc, no, _, bs', rfl, hOT.evo ((Evo.refl ([b2]) d8).step M (fun y hy => .inl hy)) (fun q hq h => ha2 (by rw [← List.mem_singleton.1 h]; exact hsub.subset hq)), hfr.sub hsub, ⟨(M.blk (L.blk0 F.blk) a6.nmem1), ((F.own.evo0 L).evo M c4.symm.own1), F.ne⟩, hnb⟩
theorem zR {b : Nat} {s : ByteArray} (hs : s.size ≤ 4096) : ∀ (n m : Nat), m + n = 250 → sX b s (kS s n) m := by
  intro n
  induction n with
  | zero =>
    intro m hm
    unfold sX
    intro w st a c ob hR ho hb hnl hG hGo
    exact qM (ex := fun _ => .error 3) (fun h => by omega) hR hs (by omega) hb hnl hG hGo
  | succ n ih =>
    intro m hm
    unfold sX
    intro w st a c ob hR ho hb hnl hG hGo
    exact qM (ex := kS s n) (fun h => by rw [ho]; exact ih (m + 1) (by omega)) hR hs (by omega) hb hnl hG hGo
end Go.Proofs.Ytidpigbinpaaeaa
namespace Go.W
open Go.RowKit
section
variable {P : Program} {σ : Env} {w : World}
def RecAs (u : FrameMode) (v : Value) (u' : FrameMode) : Prop :=
  ∀ (c₀ : Frame) (cs : List Frame), c₀.mode = u → (recoverD (c₀ :: cs) = some (v, { c₀ with mode := u' } :: cs)) ∨ (recoverD (c₀ :: cs) = none ∧ v = .nilIface ∧ u' = u)
theorem RecAs.ret : RecAs .returning .nilIface .returning := fun c cs h => .inr ⟨by simp [recoverD, h], rfl, rfl⟩
theorem RecAs.pan (v : Value) : RecAs (.panicking (pan v)) v (.panicking [{ v := v, recovered := true }]) := fun c cs h => .inl (by simp [recoverD, h])
theorem wpS_rec {Q : Exit → Act → List Frame → World → Prop} {id d d2 : Nat} {T T2 : TypeId} {p p2 : String} {e e2 : Array Edge} {a : Act} {c₀ : Frame} {cs : List Frame} {v : Value} {u u' : FrameMode}
    (hu : c₀.mode = u) (hr : RecAs u v u') (hd : d < a.tmps.size) (h : Q .normal ((a.put (some d) v).put (some d2) v) ({ c₀ with mode := u' } :: cs) w) :
    (Code.region id #[⟨some d, .call ⟨.builtin .recover, #[], #[]⟩, T, p, e, none⟩, ⟨some d2, .assign (.tmp d), T2, p2, e2, none⟩] false).wpS P Q a (c₀ :: cs) w := by
  refine wpS_region ?_
  have hget : ∀ v : Value, (a.put (some d) v).eval (.tmp d) = v := fun v => by
    simp [Act.put, Act.eval, hd]
  have hrun : (execOp a.eval ⟨some d, .call ⟨.builtin .recover, #[], #[]⟩, T, p, e, none⟩).run P w = .ok .recover w := by
    simp [execOp, resolve, builtin, invoke]
  have hrun2 : ∀ v : Value, (execOp (a.put (some d) v).eval ⟨some d2, .assign (.tmp d), T2, p2, e2, none⟩).run P w = .ok (.value v) w := fun v => by
    simp [execOp, hget]
  show wpOpsS P _ Q [0, 1] a (c₀ :: cs) w
  have hstep : ∀ (v : Value) (cs' : List Frame), Q .normal ((a.put (some d) v).put (some d2) v) cs' w → wpOpsS P #[⟨some d, .call ⟨.builtin .recover, #[], #[]⟩, T, p, e, none⟩, ⟨some d2, .assign (.tmp d), T2, p2, e2, none⟩] Q [1] (a.put (some d) v) cs' w := fun v cs' h => by
    simp only [wpOpsS]
    simp [Region.wanted, hrun2, Oper.upon, wpOpsS, h]
  rw [wpOpsS]
  simp only [Region.wanted, List.getElem?_toArray, List.getElem?_cons_zero, hrun, if_true]
  rcases hr c₀ cs hu with h1 | ⟨h1, rfl, rfl⟩
  · rw [h1]; exact hstep _ _ h
  · rw [h1]; subst hu; exact hstep _ _ h
theorem yH {f : FuncId} {fn : Func} {y : Code} {cap : List Value} {Φ : Value → World → Prop} {N id d d2 : Nat} {T T2 : TypeId} {p p2 : String} {e e2 : Array Edge} {v : Value} {u u' : FrameMode} (hr : RecAs u v u')
    (hf : P.funcs[f]? = some fn) (hb : fn.body = some (.seq (.region id #[⟨some d, .call ⟨.builtin .recover, #[], #[]⟩, T, p, e, none⟩, ⟨some d2, .assign (.tmp d), T2, p2, e2, none⟩] false) y)) (hN : fn.ntmps = N)
    (hle' : Nat.ble cap.length N = true) (hd : Nat.blt d N = true) (hd2 : Nat.blt d2 N = true)
    (h : CW P (N, []) y (nP P fn (Ret Φ)) ((d2, v) :: (d, v) :: nF 0 cap) w) :
    CallsD P f cap.toArray u w (fun e u2 w' => (∃ vv, e = .returned vv ∧ Φ vv w') ∧ u2 = u') := by
  have hle : cap.length ≤ N := Nat.le_of_ble_eq_true hle'
  have hdN : d < N := of_decide_eq_true (by simpa using hd)
  have hdN2 : d2 < N := of_decide_eq_true (by simpa using hd2)
  have hfit : Fits (N, []) (nF 0 cap) { tmps := cap.toArray ++ Array.replicate (fn.ntmps - cap.toArray.size) undef, defers := [] } := by
    refine ⟨?_, rfl, ?_⟩
    · simp [hN]; omega
    · intro t v hv
      obtain ⟨_, h2⟩ := pS cap 0 t v hv
      simp only [Nat.sub_zero] at h2
      have hlt : t < cap.length := (List.getElem?_eq_some_iff.1 h2).1
      have h3 : cap[t] = v := by rw [List.getElem?_eq_getElem hlt] at h2; exact Option.some.inj h2
      simp [Array.getElem?_append, hlt, h3]
  refine callsD_of_wpS hf hb fun c₀ cs hu => wpS_seq (wpS_rec hu hr (by rw [hfit.1]; exact hdN) ?_)
  refine wpS_of_wp (wp_mono (h _ ((hfit.put hdN v).put hdN2 v)) ?_)
  intro ex a' w' hq
  cases ex with
  | normal => obtain ⟨N', σ', hf', hn, hk⟩ := hq; obtain ⟨v', h1, h2⟩ := hk a' (by rw [hf'.1, hf'.2.1]; exact hf'); exact ⟨hf'.2.1.trans hn, u', rfl, v', h1, h2, rfl⟩
  | ret => obtain ⟨N', σ', hf', hn, hk⟩ := hq; obtain ⟨v', h1, h2⟩ := hk a' (by rw [hf'.1, hf'.2.1]; exact hf'); exact ⟨hf'.2.1.trans hn, u', rfl, v', h1, h2, rfl⟩
  | panic ch => obtain ⟨N', σ', hf', hn, v', h1, h2⟩ := hq; cases h1
  | outgrown => obtain ⟨_, v', h1, h2⟩ := hq; cases h1
  | exit i => obtain ⟨_, _, _, hk⟩ := hq; exact hk
  | goto l => obtain ⟨_, _, _, hk⟩ := hq; exact hk
theorem tC {n : Nat} {fn : Func} {r r' : ResultVar} {Φ : Value → World → Prop} {f : FuncId} {g : Func} {cap : Array Value} {u : FrameMode} (hr : fn.results = #[r, r']) (hg : P.funcs[f]? = some g) (hn : (g.name == "runtime.NumGoroutine") = false) (hb : g.body.isNone = false) (hu : u ≠ .run)
    (h : CallsD P f cap u w fun e u' w' => (∃ vv, e = .returned vv) ∧ settle u' = .returning ∧ ∃ v v', ResOk P σ w' r v ∧ ResOk P σ w' r' v' ∧ Φ (.tuple #[v, v']) w') :
    ∀ a, Fits (n, [dfr f cap]) σ a → Leaves P fn a.tmps (Ret Φ) [dfr f cap] u w := fun a ha => by
  refine IN hg hn hb hu (h.mono ?_)
  rintro e u' w' ⟨⟨vv, rfl⟩, hs, v, v', h1, h2, h3⟩
  show Leaves P fn a.tmps (Ret Φ) [] (settle u') w'
  rw [hs]
  refine ⟨.tuple #[v, v'], ?_, _, rfl, h3⟩
  have ha' : Fits (a.tmps.size, a.defers) σ a := ⟨rfl, rfl, ha.2.2⟩
  rw [pO, hr]
  simp [h1 a ha', h2 a ha']
theorem yK {n : Nat} {fn : Func} {Φ : Value → World → Prop} (h : nP P fn (Ret Φ) .ret (n, []) σ w) : VH P fn (Ret Φ) .ret (n, []) σ w := fun a ha => h.2 a (by rw [ha.1, ha.2.1]; exact ha)
end
end Go.W
namespace Go.Proofs.Ytidpigbinpaaeaa
open Go.RowKit Go.W
attribute [local irreducible] Decidable.decide
theorem rW {s : ByteArray} {a : Nat} (ha : a < s.size) (h : (Utf8.decode s a).1 = 65533 → a + 3 ≤ s.size ∧ s.extract a (a + 3) = oP [239, 191, 189]) :
    (bH s a).1 = ((Utf8.decode s a).1 : Nat) ∧ (bH s a).2 = (Utf8.decode s a).2 := by
  have h1 : ¬ ((Utf8.decode s a).1 = 65533 ∧ (Utf8.decode s a).2 = 1) := fun ⟨h1, h2⟩ => by
    have := (rG s a h1 ha).2 (h h1)
    omega
  unfold bH
  rw [if_pos ⟨ha, h1⟩]
  exact ⟨rfl, rfl⟩
theorem nV {s : ByteArray} {a : Nat} (ha : a < s.size) : 0 < (Utf8.decode s a).2 := by
  rcases fF s a ha with ⟨w, h1, h2, h3, hh, hd, h4, h5, -⟩ | ⟨h1, hd⟩ <;> rw [hd] <;> simp <;> omega
theorem NV {s : ByteArray} {k : Nat} (hw : ∀ j, j < k → 0 < (bH s (cD s j)).2) (h : ¬ cD s k < s.size) : Utf s k := ⟨Nat.le_antisymm (tY s k) (by omega), hw⟩
theorem QD {s : ByteArray} {k : Nat} (hw : ∀ j, j < k → 0 < (bH s (cD s j)).2) (h1 : cD s k < s.size) (h2 : (bH s (cD s k)).2 = 0) : ¬ ∃ N, Utf s N := by
  rintro ⟨N, hN⟩
  rcases Nat.lt_or_ge k N with h | h
  · have := hN.2 k h; omega
  · have h3 : cD s N ≤ cD s k := by
      rcases Nat.lt_or_ge N k with h' | h'
      · exact Nat.le_of_lt (nZ hw h' (Nat.le_refl _))
      · rw [Nat.le_antisymm h h']; exact Nat.le_refl _
    rw [hN.1] at h3; omega
structure VaI (w wr : World) (s : ByteArray) (it k : Nat) : Prop where
  hw : ∀ j, j < k → 0 < (bH s (cD s j)).2
  hit : wr.heap[it]? = some (.stringIter s (cD s k))
  hge : Ge w (some it)
theorem zW {w : World} (s : ByteArray) (hs : s.size ≤ 140737488355320) : Calls Try.prog 6 #[.string s] w (Ret fun v w' => ∃ b, v = .bool b ∧ (b = true ↔ ∃ N, Utf s N) ∧ Evo [] w w') := by
  refine bE (N := 19) Try.func6 rfl rfl rfl ?_; refine csr (wan (aI (csr (aB (zV rfl rfl Try.underlying9 fun it w1 O U V => ?_))))); have a0 := Ge.new (Evo.refl [] w) U; refine wnn (bJ ?_); refine dA (α := Nat) (0) (fun k => []) [(0, _), (6, _)] (fun k wr => Evo [] w wr ∧ (VaI w wr s it k)) (fun k => s.size - cD s k) trivial ⟨rfl, rfl, trivial⟩ ⟨((Evo.refl [] w).then V), ⟨fun j h => (by cases h), O, a0⟩⟩ ?_; rintro k wr7 ⟨H, ⟨hw, hIt, hIg⟩⟩; show CW _ _ _ _ [(0, _), (6, _)] _; refine csr ?_
  by_cases I : cD s k < s.size
  ·refine DT rfl rfl hIt I fun a1 F J => ?_; have B := H.step J hIg.mem1
   have hlt : cD s k < s.size := by omega
   refine aA (bN rfl rfl) ?_; refine wnn (aI (dD rfl ?_)); refine aM (aC (bJ (csr (aA (bN rfl rfl) ?_)))); refine aA (bN rfl rfl) ?_; refine bX (wan (csr (aB (wel ?_)))); refine aB (bC (t := 13) rfl (fun L => ?_) (fun L => ?_))
   ·refine aO (aB (aO (aB (aO ?_)))); refine aL (vs := [_, _]) zH rfl (vH s (cD s k) (tY s k) (by omega)) rfl ?_; rintro _ a2 ⟨rfl, D⟩; have M := D.blk0 F; refine aO (aA (oO rfl) ?_); refine bQ (wnn (aW rfl (fun A => ?_) (fun A => ?_)))
    ·refine csr (wan (aH (aN (aE (aN (aE (br1 ?_)))))))
     exact ⟨false, rfl, by simp only [Bool.false_eq_true, false_iff]; exact QD hw hlt (by rw [AU hlt (by omega) (by simpa using A)]), (B.then D)⟩
    refine aM (aP (bA ?_)); refine ⟨(k + 1), ?_, trivial, ⟨rfl, rfl, trivial⟩, (B.then D), ?_⟩
    · (have hnd : (bH s (cD s k)).1 = ((Utf8.decode s (cD s k)).1 : Nat) ∧ (bH s (cD s k)).2 = (Utf8.decode s (cD s k)).2 := rW hlt (fun h => by first | (exfalso; omega) | simpa using A); have hdw := nV hlt; have e0 : cD s (k + 1) = cD s k + (bH s (cD s k)).2 := rfl; rw [e0, hnd.2]; omega)
    have hnd : (bH s (cD s k)).1 = ((Utf8.decode s (cD s k)).1 : Nat) ∧ (bH s (cD s k)).2 = (Utf8.decode s (cD s k)).2 := rW hlt (fun h => by first | (exfalso; omega) | simpa using A)
    have hdw := nV hlt; have e0 : cD s (k + 1) = cD s k + (bH s (cD s k)).2 := rfl; refine ⟨fun j hj => ?_, ?_, hIg⟩
    · by_cases e : j < k; exact hw j e; (obtain rfl : j = k := by omega); rw [hnd.2]; exact hdw
    · rw [e0, hnd.2]; exact M
   refine aJ (aJ (aJ (aJ (bK (wnn (cK rfl ?_)))))); refine aM (aP (bA ?_)); refine ⟨(k + 1), ?_, trivial, ⟨rfl, rfl, trivial⟩, B, ?_⟩
   · (have hnd : (bH s (cD s k)).1 = ((Utf8.decode s (cD s k)).1 : Nat) ∧ (bH s (cD s k)).2 = (Utf8.decode s (cD s k)).2 := rW hlt (fun h => by first | (exfalso; omega) | simpa using A); have hdw := nV hlt; have e0 : cD s (k + 1) = cD s k + (bH s (cD s k)).2 := rfl; rw [e0, hnd.2]; omega)
   have hnd : (bH s (cD s k)).1 = ((Utf8.decode s (cD s k)).1 : Nat) ∧ (bH s (cD s k)).2 = (Utf8.decode s (cD s k)).2 := rW hlt (fun h => by first | (exfalso; omega) | simpa using A)
   have hdw := nV hlt; have e0 : cD s (k + 1) = cD s k + (bH s (cD s k)).2 := rfl; refine ⟨fun j hj => ?_, ?_, hIg⟩
   · by_cases e : j < k; exact hw j e; (obtain rfl : j = k := by omega); rw [hnd.2]; exact hdw
   · rw [e0, hnd.2]; exact F
  refine QA rfl rfl hIt I ?_; refine aA (bN rfl rfl) ?_; refine wnn (aI (cK rfl ?_)); refine cN (bL (bL (cM (aC ?_)))); refine csr (wan (aH (br1 ?_)))
  exact ⟨true, rfl, by simp only [true_iff]; exact ⟨k, NV hw (by omega)⟩, H⟩
theorem HA : cX Try.prog 55 0 = some 0 := by kernel_rfl
theorem JQ : fQ Try.prog 55 = some 1 := by kernel_rfl
theorem JO : mN Try.prog 55 = some #[.int .i64 0] := by kernel_rfl
theorem NE {P : Program} {σ : Env} {w : World} {T : TypeId} {pos : String} {after : Array Edge} {dst : Option Nat} {g : Option (Nat × Bool)} {op : BinOp} {xt yt : TypeId} {x y : Operand} {a b r : Value} (hx : σ.ev x = some a) (hy : σ.ev y = some b) (h : ∀ w, (do eqGuard op xt x y a b; binOp op xt a b : Sem Value).run P w = .ok r w) : Ex P σ ⟨dst, .binOp op xt x y yt, T, pos, after, g⟩ w r w := fun ρ ha => by
  have h1 := h w
  simp only [Sem.run_bind] at h1
  simp only [execOp, ha _ _ hx, ha _ _ hy, Sem.run_bind, h1, Result.andThen_ok, Sem.run_pure]
theorem IZ {P : Program} {σ : Env} {w : World} {T : TypeId} {pos : String} {after : Array Edge} {dst : Option Nat} {g : Option (Nat × Bool)} {xt ast : TypeId} {ok : Bool} {x : Operand} {a r : Value} (hx : σ.ev x = some a) (h : ∀ w, (Instr.typeAssert a xt ast ok).run P w = .ok r w) : Ex P σ ⟨dst, .typeAssert x xt ast ok, T, pos, after, g⟩ w r w := fun ρ ha => by
  simp [execOp, ha _ _ hx, h]
theorem recov_none {w : World} {x e : Value} : CallsD Try.prog 18 #[x, e] .returning w (fun e u2 w' => (∃ vv, e = .returned vv ∧ Evo [] w w') ∧ u2 = .returning) := by
  refine yH (N := 19) (RecAs.ret) Try.func18 rfl rfl rfl rfl rfl ?_
  refine aI ?_
  refine aG ?_
  refine aB ?_
  refine gC rfl (NE (r := .bool false) rfl rfl (fun w => by kernel_rfl)) ?_
  refine aQ (aC ?_)
  refine cK rfl ?_
  refine aM (eA rfl ?_)
  exact (Evo.refl [] w)
theorem wZ {w : World} {bx be : Nat} {c0 c1 c2 c3 c4 c5 c6 c7 c8 v0 : Value} {k : Int} (hx : w.heap[bx]? = some (.cells #[c0, c1, c2, c3, c4, c5, c6, c7, c8] 37 (0, 0))) (he : w.heap[be]? = some (.cells #[v0] 24 (0, 0))) (hne : Apart (some bx) (some be)) :
    CallsD Try.prog 18 #[.pointer (some ⟨bx, 0, none⟩), .pointer (some ⟨be, 0, none⟩)] (.panicking (pan (flt k))) w (fun e u2 w' => (∃ vv, e = .returned vv ∧ Evo [bx, be] w w' ∧ w'.heap[bx]? = some (.cells #[iv 0, .int .i32 0, .slice none 0 0, iv 0, iv 0, .bool false, iv 0, .string ByteArray.empty, .slice none 0 0] 37 (0, 0)) ∧ w'.heap[be]? = some (.cells #[iv k] 24 (0, 0))) ∧ u2 = .panicking [{ v := flt k, recovered := true }]) := by
  refine yH (N := 19) (RecAs.pan _) Try.func18 rfl rfl rfl rfl rfl ?_
  refine aI ?_
  refine aG ?_
  refine aB ?_
  refine gC rfl (NE (r := .bool true) rfl rfl (fun w => by kernel_rfl)) ?_
  refine aQ (aC ?_)
  refine dD rfl ?_
  refine aI ?_
  refine aG ?_
  refine aB ?_
  refine gC rfl (IZ (r := .tuple #[.agg #[iv k], .bool true]) rfl (fun w => by kernel_rfl)) ?_
  refine aB ?_
  refine gC rfl (bN rfl rfl) ?_
  refine gC rfl (bN rfl rfl) ?_
  refine cL rfl JO fun bf w1 hB2 hs3 hw4 => ?_
  have hsz_bf := hs3
  have hA5 := Apart.new (Lt.blk hx) hs3
  have hA6 := Apart.new (Lt.blk he) hs3
  have hG7 := Ge.new (Evo.refl [bx, be] w) hs3
  have hE8 := (Evo.refl [bx, be] w).then hw4
  have hB9 := hw4.blk0 hx
  have hB10 := hw4.blk0 he
  refine aV rfl rfl JQ hB2 rfl rfl ⟨by first | rfl | assumption, trivial⟩ fun w11 hB12 hw13 => ?_
  have hE14 := hE8.step hw13 hG7.mem1
  have hB15 := hw13.blk hB9 hA5.nmem1
  have hB16 := hw13.blk hB10 hA6.nmem1
  refine bX ?_
  refine aQ (aC ?_)
  refine aI ?_
  refine aI ?_
  refine aG ?_
  refine aB ?_
  refine gC rfl (dR rfl) ?_
  refine aQ (aC ?_)
  refine cK rfl ?_
  refine aM (aC ?_)
  refine fT (fun w0 w' => Evo [bx, be] w0 w') (by kernel_rfl) (fun w17 hw18 => ?_)
  have hE19 := hE14.then hw18
  have hB20 := hw18.blk0 hB15
  have hB21 := hw18.blk0 hB16
  have hB22 := hw18.blk0 hB12
  refine wO 0 rfl (by kernel_rfl) (by kernel_rfl) (by kernel_rfl) rfl (fun _ hS => cC (vs := []) dI rfl (cells := [_, _, _, _, _, _, _, _, _]) rfl) (Evo.refl [bx, be] w17) ?_
  refine wO 1 rfl (by kernel_rfl) (by kernel_rfl) (by kernel_rfl) rfl (fun _ hS => aD rfl HA) (Evo.refl [bx, be] w17) ?_
  refine wO 2 rfl (by kernel_rfl) (by kernel_rfl) (by kernel_rfl) rfl (fun _ hS => aS rfl jO (aY (hS.blk hB22 ((zO hA5.symm hA6.symm))) rfl)) (Evo.refl [bx, be] w17) ?_
  refine bV [3] (by kernel_rfl) rfl ⟨?_, trivial⟩
  refine cA rfl ?_
  refine aV rfl rfl aU hB20 rfl rfl ⟨by first | rfl | assumption, by first | rfl | assumption, by first | rfl | assumption, by first | rfl | assumption, by first | rfl | assumption, by first | rfl | assumption, by first | rfl | assumption, by first | rfl | assumption, by first | rfl | assumption, trivial⟩ fun w23 hB24 hw25 => ?_
  have hE26 := hE19.step hw25 (fun y hy => .inl (by rw [List.mem_singleton.1 hy]; simp))
  have hE27 := (Evo.refl [bx, be] w17).step hw25 (fun y hy => .inl (by rw [List.mem_singleton.1 hy]; simp))
  have hB28 := hw25.blk hB21 hne.symm.nmem1
  have hB29 := hw25.blk hB22 hA5.symm.nmem1
  refine aQ (bO (.inl hE27) ?_)
  refine bV [4] (by kernel_rfl) rfl ⟨?_, trivial⟩
  refine cA rfl ?_
  refine bB rfl rfl (by first | rfl | assumption) eO hB28 rfl fun w30 hB31 hw32 => ?_
  have hE33 := hE26.step hw32 (fun y hy => .inl (by rw [List.mem_singleton.1 hy]; simp))
  have hE34 := hE27.step hw32 (fun y hy => .inl (by rw [List.mem_singleton.1 hy]; simp))
  have hB35 := hw32.blk hB24 hne.nmem1
  have hB36 := hw32.blk hB29 hA6.symm.nmem1
  refine aQ (bO (.inl hE34) ?_)
  refine dH (by kernel_rfl) (eA rfl ?_)
  exact ⟨hE33, hB35, hB31⟩
theorem HE : Build Try.prog 61 #[(0, 1), (1, 1), (2, 4), (6, 1), (7, 1)] #[.string ByteArray.empty, .int .i64 0, .bool false, .bool false, .bool false, .bool false, .int .i64 0, .slice none 0 0] := ⟨_, .agg #[.string ByteArray.empty, .int .i64 0, .bool false, .bool false, .bool false, .bool false, .int .i64 0, .slice none 0 0], Try.underlying61, by kernel_rfl, rfl, fun w => by kernel_rfl⟩
theorem BO : dY Try.prog 6 := ⟨_, Try.func6, by kernel_rfl, by kernel_rfl⟩
theorem JP : mN Try.prog 24 = some #[.int .i64 0] := by kernel_rfl
abbrev st0 : PS := ⟨0, ⟨false, false, false, false⟩, 0, []⟩
abbrev zRx : Value := .agg #[iv 0, .int .i32 0, .slice none 0 0, iv 0, iv 0, .bool false, iv 0, .string ByteArray.empty, .slice none 0 0]
section
variable {s : ByteArray} {e : Int} {x : Rx} {st : PS}
theorem pp_long (h : 4096 < s.size) : eC s = .error 1 := by unfold eC; rw [if_pos h]
theorem pp_utf (h : ¬ 4096 < s.size) (hU : ¬ ∃ N, Utf s N) : eC s = .error 4 := by unfold eC; rw [if_neg h, if_pos hU]
theorem pp_err (h : ¬ 4096 < s.size) (hU : ∃ N, Utf s N) (he : kS s 250 st0 = .error e) : eC s = .error e := by unfold eC; rw [if_neg h, if_neg (not_not_intro hU), he]
theorem pp_open (h : ¬ 4096 < s.size) (hU : ∃ N, Utf s N) (he : kS s 250 st0 = .ok (x, st)) (hp : st.pos < s.size) : eC s = .error 80 := by unfold eC; rw [if_neg h, if_neg (not_not_intro hU), he]; simp only [if_pos hp]
theorem EE (h : ¬ 4096 < s.size) (hU : ∃ N, Utf s N) (he : kS s 250 st0 = .ok (x, st)) (hp : ¬ st.pos < s.size) : eC s = .ok x := by unfold eC; rw [if_neg h, if_neg (not_not_intro hU), he]; simp only [if_neg hp]
end
def VU (s : ByteArray) (w : World) (v : Value) (w' : World) : Prop :=
  Evo [] w w' ∧ ((∃ e, eC s = .error e ∧ v = .tuple #[zRx, iv e]) ∨ ∃ x vs bs, eC s = .ok x ∧ v = .tuple #[.agg vs.toArray, iv 0] ∧ OT x w' vs bs ∧ Fr w bs)
theorem RY {w : World} (s : ByteArray) (hG : Glb w) : Calls Try.prog 12 #[.string s] w (Ret (VU s w)) := by
  refine DI (N := 31) Try.func12 rfl rfl rfl ?_; refine csr (cL rfl eN fun bx w1 a8 c5 d9 => ?_); have e0 := c5; have H := Ge.new (Evo.refl [] w) c5; have a9 := (Evo.refl [] w).then d9; refine cL rfl JP fun be w7 c6 b4 I => ?_; have e1 := b4; have B := Apart.new (Lt.blk a8) b4; have D := Ge.new a9 b4; refine wnn (aI (csr (aB (aA (bR rfl Try.underlying9 rfl) ?_)))); refine aA (fE rfl rfl) ?_; refine wnn (aW rfl (fun e2 => ?_) (fun e2 => ?_))
  ·refine csr (aA (cC (vs := []) dI rfl (cells := [_, _, _, _, _, _, _, _, _]) rfl) ?_); refine aV rfl rfl aU (I.blk0 a8) rfl rfl ⟨by first | rfl | assumption, by first | rfl | assumption, by first | rfl | assumption, by first | rfl | assumption, by first | rfl | assumption, by first | rfl | assumption, by first | rfl | assumption, by first | rfl | assumption, by first | rfl | assumption, trivial⟩ fun e5 c7 b5 => ?_; refine bB rfl rfl (by first | rfl | assumption) eO (b5.blk c6 B.symm.nmem1) rfl fun e6 c8 b6 => ?_; refine wnn (aH (aE (yK (nO rfl (ResOk.cellA rfl bZ aU (b6.blk c7 B.nmem1) rfl) (ResOk.cell1 rfl jO c8 rfl) ?_)))); exact ⟨(((a9.then I).step b5 H.mem1).step b6 D.mem1), .inl ⟨1, pp_long (by omega), rfl⟩⟩
  have hlen : ¬ 4096 < s.size := by omega
  refine aM (aC (aI (csr (aB ?_)))); refine aL (vs := [_]) BO rfl (zW s (by omega)) rfl ?_; rintro _ e7 ⟨bU, rfl, hbU, O⟩; have J := (a9.then I).then O; have U := O.blk0 (I.blk0 a8); have V := O.blk0 c6; refine aA (dR rfl) ?_; refine wnn (fG rfl (fun b7 => ?_) (fun b7 => ?_))
  ·refine csr (aA (cC (vs := []) dI rfl (cells := [_, _, _, _, _, _, _, _, _]) rfl) ?_); refine aV rfl rfl aU U rfl rfl ⟨by first | rfl | assumption, by first | rfl | assumption, by first | rfl | assumption, by first | rfl | assumption, by first | rfl | assumption, by first | rfl | assumption, by first | rfl | assumption, by first | rfl | assumption, by first | rfl | assumption, trivial⟩ fun e8 c9 b8 => ?_; refine bB rfl rfl (by first | rfl | assumption) eO (b8.blk V B.symm.nmem1) rfl fun f0 d0 b9 => ?_; refine wnn (aH (aE (yK (nO rfl (ResOk.cellA rfl bZ aU (b9.blk c9 B.nmem1) rfl) (ResOk.cell1 rfl jO d0 rfl) ?_))))
   exact ⟨((J.step b8 H.mem1).step b9 D.mem1), .inl ⟨4, pp_utf hlen (fun h => by have := hbU.2 h; simp_all), rfl⟩⟩
  have hU : ∃ N, Utf s N := hbU.1 (by simpa using b7); refine aM (aC (csr (aA (FT (vs := [_, _]) rfl) ?_))); refine QB rfl ?_; refine wnn (csr (aB (aA (cC (vs := [(0, _)]) HE rfl (cells := [_, _, _, _, _, _, _, _]) rfl) ?_))); refine gD rfl rfl fun br f5 d1 F a0 => ?_; have e3 := F; have a1 := Apart.new (Lt.blk U) F; have c0 := Apart.new (Lt.blk V) F; have L := J.then a0; have a2 := a0.blk0 U; have a3 := a0.blk0 V; refine wan (csr (aB ?_))
  refine cB (vs := [_]) tN rfl (zR (by omega) 250 0 rfl (a := none) (c := 0) (ob := none) (st := st0) ⟨d1, OwnS.nil _ _ _, fun g h => by cases h⟩ rfl (by obtain ⟨N, hN⟩ := hU; exact Bd.zero hN) (by show 0 ≤ 100; omega) (hG.evo L (by simp)) (Apart.nil _)) rfl ?_ ?_
  ·intro pv wp hpp; obtain ⟨e9, hpe, rfl, hpw⟩ := hpp; refine tC rfl Try.func18 (by kernel_rfl) rfl (by simp) ((wZ (hpw.blk a2 (by simpa using a1.nmem1)) (hpw.blk a3 (by simpa using c0.nmem1)) B).mono ?_); rintro e9 u9 w9 ⟨⟨vv, rfl, hv9, hb9, c1⟩, rfl⟩
   exact ⟨⟨vv, rfl⟩, rfl, _, _, ResOk.cellA rfl bZ aU hb9 rfl, ResOk.cell1 rfl jO c1 rfl, ((L).step hpw (fun y hy => (Ge.new J F).mem1 y (by simpa using hy))).step hv9 (fun y hy => by rcases List.mem_cons.1 hy with rfl | hy; exact H.mem1 _ (by simp); exact D.mem1 _ hy), .inl ⟨_, pp_err hlen hU hpe, rfl⟩⟩
  rintro _ f6 ⟨x, st1, hx, h0w, hmv, na, nc, no, vs, bs, rfl, hOT, hFx, hR, hnb⟩; have a4 : Evo [br] _ _ := h0w; obtain ⟨ra, rc, ka, kc, rfl⟩ := id hOT.nine; have hbxl := eM a2; have hbel := eM a3; refine aV rfl rfl aU (a4.blk a2 a1.nmem1) rfl rfl ⟨by first | rfl | assumption, by first | rfl | assumption, by first | rfl | assumption, by first | rfl | assumption, by first | rfl | assumption, by first | rfl | assumption, by first | rfl | assumption, by first | rfl | assumption, by first | rfl | assumption, trivial⟩ fun f7 d2 M => ?_; have c2 := M.blk hR.blk a1.symm.nmem1
  have d3 := hOT.evo M (fun q hq h => by rw [List.mem_singleton.1 h] at hq; have h8 := hFx.ge _ hq; omega)
  refine wnn (aI (aI ?_)); refine eH (by kernel_rfl) (by kernel_rfl) ?_; refine bD (fun _ A => aX rfl) ?_; refine bD (fun _ A => aF rfl) ?_; refine bD (fun _ A => aD rfl bF) ?_; refine bD (fun _ A => aS rfl aT (aY (A.blk0 c2) rfl)) ?_; refine bD (fun _ A => aX rfl) ?_; refine bD (fun _ A => aF rfl) ?_; refine bD (fun _ A => aD rfl cV) ?_; refine bD (fun _ A => aS rfl dC (aY (A.blk0 c2) rfl)) ?_; refine bD (fun _ A => bR rfl Try.underlying9 rfl) ?_; refine bD (fun _ A => cU rfl rfl) ?_; refine eL (fun e4 A => aC ?_); have c3 := ((L.step a4 (Ge.new J F).mem1).step M H.mem1).then A; have a5 := A.blk0 d2; have c4 := A.blk0 (M.blk (a4.blk a3 c0.nmem1) B.symm.nmem1); refine aW rfl (fun d4 => ?_) (fun d4 => ?_)
  ·refine aG (cB (vs := [_]) cQ rfl (eB 80) rfl ?_ ?_)
   ·intro pv wp hpp; obtain ⟨rfl, hpw⟩ := hpp; refine tC rfl Try.func18 (by kernel_rfl) rfl (by simp) ((wZ (hpw.blk a5 (by simp)) (hpw.blk c4 (by simp)) B).mono ?_); rintro e9 u9 w9 ⟨⟨vv, rfl, hv9, hb9, c1⟩, rfl⟩
    exact ⟨⟨vv, rfl⟩, rfl, _, _, ResOk.cellA rfl bZ aU hb9 rfl, ResOk.cell1 rfl jO c1 rfl, ((c3).then hpw).step hv9 (fun y hy => by rcases List.mem_cons.1 hy with rfl | hy; exact H.mem1 _ (by simp); exact D.mem1 _ hy), .inl ⟨_, pp_open hlen hU hx (by omega), rfl⟩⟩
   intro _ _ hF; exact hF.elim
  refine aM (aC (csr (aA (bW rfl bZ aU a5 rfl) ?_))); refine aV rfl rfl aU a5 rfl rfl ⟨by first | rfl | assumption, by first | rfl | assumption, by first | rfl | assumption, by first | rfl | assumption, by first | rfl | assumption, by first | rfl | assumption, by first | rfl | assumption, by first | rfl | assumption, by first | rfl | assumption, trivial⟩ fun f8 d5 a6 => ?_
  have d6 := (d3.evo0 A).evo a6 (fun q hq h => by rw [List.mem_singleton.1 h] at hq; have h8 := hFx.ge _ hq; omega)
  refine bB rfl rfl (by first | rfl | assumption) eO (a6.blk c4 B.symm.nmem1) rfl fun f9 d7 a7 => ?_
  have d8 := d6.evo a7 (fun q hq h => by rw [List.mem_singleton.1 h] at hq; have h8 := hFx.ge _ hq; omega)
  refine wnn (aH (?_)); refine tC rfl Try.func18 (by kernel_rfl) rfl (by simp) (recov_none.mono ?_); rintro e9 u9 w9 ⟨⟨vv, rfl, hv9⟩, rfl⟩; exact ⟨⟨vv, rfl⟩, rfl, _, _, ResOk.cellA rfl bZ aU (hv9.blk0 (a7.blk d5 B.nmem1)) rfl, ResOk.cell1 rfl jO (hv9.blk0 d7) rfl, (((c3.step a6 H.mem1).step a7 D.mem1)).then hv9, .inr ⟨x, _, bs, EE hlen hU hx (by omega), rfl, d8.evo0 hv9, hFx.older L.size⟩⟩
theorem QF {s : ByteArray} {K N : Nat} (hw : ∀ j, j < K → 0 < (bH s (cD s j)).2) (he : cD s K = s.size ∨ (bH s (cD s K)).2 = 0) (hU : Utf s N) : K = N := by
  rcases Nat.lt_trichotomy K N with h | h | h
  · have h1 := hU.2 K h
    have h2 := nZ hU.2 h (Nat.le_refl _)
    rw [hU.1] at h2
    omega
  · exact h
  · have h1 := hw N h
    rw [hU.1, oX (Nat.le_refl _)] at h1
    cases h1
end Go.Proofs.Ytidpigbinpaaeaa
namespace Go.Proofs.Ytidpigbinpaaeaa
open Go.RowKit Go.W
instance (c : Int) : Decidable (wP c) := by unfold wP; infer_instance
end Go.Proofs.Ytidpigbinpaaeaa
namespace Go.Proofs.Ytidpigbinpaaeaa
open Go.RowKit Go.W
attribute [local irreducible] Decidable.decide
section
variable {P : Program} {σ : Env} {w : World} {dst : Option Nat} {T : TypeId} {pos : String} {after : Array Edge} {g : Option (Nat × Bool)}
end
theorem ET {s : ByteArray} {a : Nat} (h : 0 < (bH s a).2) : s.extract a (a + (bH s a).2) = oP (eY (bH s a).1) ∧ (eY (bH s a).1).length = (bH s a).2 ∧ IsR (bH s a).1 := by
  by_cases ha : a < s.size
  · rcases fF s a ha with ⟨w, h1, h2, h3, hh, hd, h4, h5, -⟩ | ⟨h1, hd⟩
    · have hn := (oY h1 h2 h3 hh).1
      rw [hn]
      exact ⟨(TV h3).1 hh, CQ hh, hit_isR h1 hh⟩
    · unfold bH at h
      rw [if_neg (fun e => e.2 (by rw [hd]; exact ⟨rfl, rfl⟩))] at h
      cases h
  · rw [oX (by omega)] at h; cases h
end Go.Proofs.Ytidpigbinpaaeaa
namespace Go.Proofs.Ytidpigbinpaaeaa
open Go.RowKit Go.W
theorem toList_inj {a b : ByteArray} (h : a.toList = b.toList) : a = b := by
  rw [Go.ByteArray.toList_eq, Go.ByteArray.toList_eq] at h
  cases a; cases b
  simpa [Array.toList_inj] using h
theorem EM {w : World} {e : TypeId} {a : Option Addr} {n c : Nat} {xs : List Value} {g : Nat} (h : OwnS w e 1 a n c xs (some g)) : a = some ⟨g, 0, none⟩ := by
  rcases h.2 with ⟨_, _, h3⟩ | ⟨g', _, _, hg, hv, _⟩
  · cases h3
  · cases hg; cases hv; rfl
section
variable {α : Type} [Inhabited α] (enc : α → Value)
end
abbrev nob : ByteArray := ByteArray.mk #[]
variable {s : ByteArray} {N : Nat} {R S : Nat → Nat → Prop} {t u : ByteArray} {ex fx : Bool}
end Go.Proofs.Ytidpigbinpaaeaa
namespace Go.Proofs.Ytidpigbinpaaeaa
open Go.RowKit Go.W
def VR (rs : List Int) : Prop := ∀ r, r ∈ rs → IsR r
theorem sb_bstr {l : List Nat} {k : Nat} (hk : k < l.length) (hl : ∀ b, b ∈ l → b < 256) : sb (oP l) k = l[k] := by
  have hz : k < (oP l).size := by rw [PQ]; exact hk
  have h1 := hl l[k] (List.getElem_mem hk)
  rw [qV _ _ hz]
  show ((oP l).data[k]'(by exact hz)).toNat = _
  simp [oP]
  omega
theorem OV {r : Int} (h : IsR r) : 1 ≤ (eY r).length := by
  rw [eY, if_pos h]; unfold nN; repeat' split
  all_goals simp
theorem OO {s : ByteArray} {a : Nat} {r : Int} (hr : IsR r) (hs : a + (eY r).length ≤ s.size) (h : ∀ k (hk : k < (eY r).length), sb s (a + k) = (eY r)[k]) : bH s a = (r, (eY r).length) := by
  have hb : gL s a (eY r).length = eY r := by
    apply List.ext_getElem
    · simp [gL]
    · intro k h1 h2
      simp only [gL, List.getElem_map, List.getElem_range]
      exact h k h2
  have hg : dL s a (eY r).length = r := by
    obtain ⟨m, rfl⟩ := Int.eq_ofNat_of_zero_le hr.1
    have e : eY (m : Int) = nN m := by rw [eY, if_pos hr]; rfl
    rw [e] at h ⊢
    have hm : (m : Int) ≤ 1114111 := hr.2.1
    unfold nN at h ⊢
    by_cases c1 : m < 128
    · simp only [if_pos c1] at h ⊢
      have h0 := h 0 (by simp)
      simp at h0
      simp [dL, h0]
    by_cases c2 : m < 2048
    · simp only [if_neg c1, if_pos c2] at h ⊢
      have h0 := h 0 (by simp); have h1 := h 1 (by simp)
      simp at h0 h1
      simp [dL, h0, h1]; omega
    by_cases c3 : m < 65536
    · simp only [if_neg c1, if_neg c2, if_pos c3] at h ⊢
      have h0 := h 0 (by simp); have h1 := h 1 (by simp); have h2 := h 2 (by simp)
      simp at h0 h1 h2
      simp [dL, h0, h1, h2]; omega
    · simp only [if_neg c1, if_neg c2, if_neg c3] at h ⊢
      have h0 := h 0 (by simp); have h1 := h 1 (by simp); have h2 := h 2 (by simp); have h3 := h 3 (by simp)
      simp at h0 h1 h2 h3
      simp [dL, h0, h1, h2, h3]; omega
  have hh : Hit s a (eY r).length := by unfold Hit; rw [hg, hb]
  have := (oY (OV hr) (OW r) hs hh).1
  rw [this, hg]
theorem EA {s : ByteArray} {N : Nat} (hU : Utf s N) : VR (dO s N) := fun r hr => by
  obtain ⟨k, hk, rfl⟩ := List.mem_map.1 hr
  exact (ET (hU.2 k (List.mem_range.1 hk))).2.2
theorem IK {s : ByteArray} {i : Nat} (hi : i < s.size) (h : sb s i < 128) : bH s i = (((sb s i : Nat) : Int), 1) := by
  have hr : IsR (sb s i : Nat) := ⟨by omega, by omega, by omega⟩
  have hf : eY (sb s i : Nat) = [sb s i] := by
    unfold eY
    rw [if_pos hr]
    unfold nN
    rw [if_pos (by omega)]
    simp
  have := OO (s := s) (a := i) hr (by rw [hf]; simp; omega) (fun k hk => by
    have hk0 : k = 0 := by rw [hf] at hk; simp at hk; exact hk
    subst hk0
    simp [hf])
  rw [this, hf]
  rfl
theorem xK {s : ByteArray} (h : ∀ k, k < s.size → sb s k < 128) : ∀ {k : Nat}, k ≤ s.size → cD s k = k
  | 0, _ => rfl
  | k + 1, hk => by
    have h1 := xK h (k := k) (by omega)
    show cD s k + (bH s (cD s k)).2 = k + 1
    rw [h1, IK (by omega) (h k (by omega))]
theorem rX {s : ByteArray} (h : ∀ k, k < s.size → sb s k < 128) : Utf s s.size := by
  refine ⟨xK h (Nat.le_refl _), fun k hk => ?_⟩
  rw [xK h (by omega), IK hk (h k hk)]
  exact Nat.one_pos
theorem QU {s : ByteArray} {i : Nat} (h : i < s.size) : sb (s.extract i s.size) 0 = sb s i := by
  have := kV (s := s) (i := i) (k := 0) (by omega)
  simpa using this
theorem rep_no {s : ByteArray} {i : Nat} (h : i < s.size) (h1 : sb s i ≠ 42) (h2 : sb s i ≠ 43) (h3 : sb s i ≠ 63) (h4 : sb s i ≠ 123) : lG (s.extract i s.size) = (0, 0, 0) := by
  have e := QU h
  exact RP (by rw [e]; exact h1) (by rw [e]; exact h2) (by rw [e]; exact h3) (by rw [e]; exact h4)
def NS (c : Nat) : Prop := c < 128 ∧ c ≠ 36 ∧ c ≠ 40 ∧ c ≠ 41 ∧ c ≠ 42 ∧ c ≠ 43 ∧ c ≠ 46 ∧ c ≠ 63 ∧ c ≠ 91 ∧ c ≠ 92 ∧ c ≠ 94 ∧ c ≠ 123 ∧ c ≠ 124
instance (c : Nat) : Decidable (NS c) := by unfold NS; infer_instance
section
variable {s : ByteArray} {ex : PS → PX Rx} {f : Nat} {l g : List Rx} {ah : Bool} {st st2 : PS} {e : Int} {c : Nat}
theorem IA (h : isB s st.pos c) (hc : NS c) : dZ s ex st = .ok ([mA st.now c], gT st (st.pos + 1)) := by
  obtain ⟨h1, h2⟩ := h
  obtain ⟨c1, c2, c3, c4, c5, c6, c7, c8, c9, c10, c11, c12, c13⟩ := hc
  have hn := IK h1 (by omega)
  rw [h2] at hn
  rw [RS (by omega) (by omega) (by omega), RQ (by rw [hn]; show ¬ ((c : Nat) : Int) = 46; omega) (by rw [hn]; show ¬ ((c : Nat) : Int) = 94; omega) (by rw [hn]; show ¬ ((c : Nat) : Int) = 36; omega), hn]
theorem kI (h : isB s st.pos c) (hc : c ≠ 41 ∧ c ≠ 42 ∧ c ≠ 43 ∧ c ≠ 63 ∧ c ≠ 123 ∧ c ≠ 124) (hp : dZ s ex st = .ok (g, st2)) : iB s ex (f + 1) l ah st = iB s ex f (l ++ g) (decide (0 < g.length)) st2 := by
  obtain ⟨h1, h2⟩ := h
  exact VP (lo := 0) (hi := 0) (by omega) (rep_no h1 (by omega) (by omega) (by omega) (by omega)) hp
theorem GP (h : isB s st.pos c) (hc : NS c) : iB s ex (f + 1) l ah st = iB s ex f (l ++ [mA st.now c]) true (gT st (st.pos + 1)) := by
  have hc' := hc
  obtain ⟨c1, c2, c3, c4, c5, c6, c7, c8, c9, c10, c11, c12, c13⟩ := hc
  rw [kI h ⟨by omega, by omega, by omega, by omega, by omega, by omega⟩ (IA h hc')]
  rfl
theorem br_open (h : isB s st.pos 40) : dZ s ex st = pU s ex st := LQ h.2
theorem LW (s : ByteArray) : ∀ n, ∃ ex, ∀ st, kS s n st = kE s ex st
  | 0 => ⟨_, fun st => rfl⟩
  | n + 1 => ⟨kS s n, fun st => rfl⟩
theorem pE {x : Rx} (h : iB s ex (s.size + 1) [] false st = .ok (x, st2)) (h2 : ¬ isB s st2.pos 124) : kE s ex st = .ok (x, st2) := by
  rw [UJ (show vJ s ex st = _ from h), GO h2]
  rfl
end
end Go.Proofs.Ytidpigbinpaaeaa
namespace Go.Proofs.Ytidpigbinpaaeaa
open Go.RowKit Go.W
attribute [local irreducible] Decidable.decide
def qc (c : Nat) : List Nat := if c ∈ spec then [92, c] else [c]
end Go.Proofs.Ytidpigbinpaaeaa
namespace Go.Proofs.Ytidpigbinpaaeaa
open Go.RowKit Go.W
abbrev flz : Fl := ⟨false, false, false, false⟩
theorem xS {f : Fl} {c : Int} (hf : f.fold = false) (h0 : 0 ≤ c) (h1 : c ≤ 1114111) : mA f c = lD c := by
  rw [mA, if_neg (by rw [hf]; simp)]
  exact uA (m := [(c, c)]) (PP h0 h1) rfl rfl
theorem TI {a b : Int} (h0 : 0 ≤ a) (h1 : a < b) (h2 : b ≤ 1114111) {S : Int → Prop} (hS : ∀ c, S c ↔ a ≤ c ∧ c ≤ b) : iZ S = nC [(a, b)] :=
  nJ (pH (yG h0 (by omega) h2) fun c => by rw [jB, hS]) fun _ => by show ¬ a = b; omega
theorem TF {c : Int} (h0 : 0 ≤ c) (h1 : c ≤ 1114111) : NodeP (lD c) := ⟨by show (1 : Int) ≤ 2; decide, by show (2 : Int) ≤ 13; decide, .inl rfl, .inr rfl, .inr ⟨rfl, rfl, rfl⟩, .inr ⟨rfl, rfl⟩, fun _ => ⟨h0, h1⟩, fun h => absurd (show (2 : Int) = 3 from h) (by decide), fun h => absurd (show (2 : Int) = 4 ∨ (2 : Int) = 5 from h) (by decide), fun h => absurd (show (2 : Int) = 6 from h) (by decide), fun h => absurd (show (2 : Int) = 7 from h) (by decide), fun _ => rfl⟩
theorem np_cls {l : List (Int × Int)} (h : RangesOk l) : NodeP (nC l) := ⟨by show (1 : Int) ≤ 3; decide, by show (3 : Int) ≤ 13; decide, .inr rfl, .inl rfl, .inr ⟨rfl, rfl, rfl⟩, .inr ⟨rfl, rfl⟩, fun h => absurd (show (3 : Int) = 2 from h) (by decide), fun _ => h, fun h => absurd (show (3 : Int) = 4 ∨ (3 : Int) = 5 from h) (by decide), fun h => absurd (show (3 : Int) = 6 from h) (by decide), fun h => absurd (show (3 : Int) = 7 from h) (by decide), fun _ => rfl⟩
theorem TE {k : Int} {l : List Rx} (hk : k = 4 ∨ k = 5) (hl : 2 ≤ l.length) : NodeP (sQ k l) := ⟨by show (1 : Int) ≤ k; omega, by show k ≤ 13; omega, .inr rfl, .inr rfl, .inr ⟨rfl, rfl, rfl⟩, .inr ⟨rfl, rfl⟩, fun h => by have : k = 2 := h; omega, fun h => by have : k = 3 := h; omega, fun _ => hl, fun h => by have : k = 6 := h; omega, fun h => by have : k = 7 := h; omega, fun h => (h (by show k = 4 ∨ k = 5 ∨ k = 6 ∨ k = 7; omega)).elim⟩
theorem np_rep {lo hi : Int} {z : Bool} {x : Rx} (h0 : 0 ≤ lo) (h1 : lo ≤ 1000) (h2 : hi = -1 ∨ (lo ≤ hi ∧ hi ≤ 1000)) : NodeP (jD lo hi z x) := ⟨by show (1 : Int) ≤ 6; decide, by show (6 : Int) ≤ 13; decide, .inr rfl, .inr rfl, .inl rfl, .inr ⟨rfl, rfl⟩, fun h => absurd (show (6 : Int) = 2 from h) (by decide), fun h => absurd (show (6 : Int) = 3 from h) (by decide), fun h => absurd (show (6 : Int) = 4 ∨ (6 : Int) = 5 from h) (by decide), fun _ => ⟨h0, h1, h2, rfl⟩, fun h => absurd (show (6 : Int) = 7 from h) (by decide), fun h => (h (.inr (.inr (.inl rfl)))).elim⟩
theorem BE {x : Rx} {b : Int} {st : St} (hp : NodeP x) (hk : rU x.kind) (h7 : x.kind ≠ 7) (h1 : st.1 + 1 ≤ 8194) (hb : b ≤ 250) : x.fine b st = some (st.1 + 1, st.2) := by
  rw [mC ⟨h1, by rw [if_neg h7]; exact hb, hp, fun h => absurd h h7⟩, hp.leaf hk, dN, if_neg h7]
theorem rrx_up : ∀ {n : Nat} {X : List Nat} {w : World} {vs : List Value} {x : Rx}, RRx n X w vs x → RRx (n + 1) X w vs x := by
  intro n
  induction n with
  | zero => intro X w vs x h; exact h.elim
  | succ n ih =>
    rintro X w vs x ⟨vr, vk, h1, h2, ⟨a, c, hv, hc, h3⟩, h4⟩
    exact ⟨vr, vk, h1, h2, ⟨a, c, hv, hc, fun k hk => by obtain ⟨b, o, us, ha, hb, hl, hcs, hr⟩ := h3 k hk; exact ⟨b, o, us, ha, hb, hl, hcs, ih hr⟩⟩, h4⟩
theorem QZ {n m : Nat} {X : List Nat} {w : World} {vs : List Value} {x : Rx} (h : RRx n X w vs x) (hm : n ≤ m) : RRx m X w vs x := by
  induction hm with
  | refl => exact h
  | step _ ih => exact rrx_up ih
mutual
theorem OT.rrx : ∀ {x : Rx} {w : World} {vs : List Value} {bs X : List Nat}, OT x w vs bs → (∀ b, b ∈ bs → b ∉ X) → ∃ n, RRx n X w vs x
  | .mk k r rs mn mx lz cp nm ks, w, vs, bs, X, h, hX => by
    rw [OT] at h
    obtain ⟨ra, rc, rb, ka, kc, kb, cs, bk, h1, h2, h3, h4, rfl, h5, h6, h7⟩ := h
    obtain ⟨n, hn⟩ := OTs.rrx h4 (X := X) (fun b hb => hX b (List.mem_append_right _ (List.mem_append_right _ hb)))
    refine ⟨n + 1, _, _, h1, own_rrg h2 (fun g hg => hX g (by simp [hg])), ⟨ka, kc, rfl, h3.le, fun j hj => ?_⟩, by show rs.length ≤ _; omega, by show nm.size ≤ _; omega, by show ks.length ≤ _; omega⟩
    obtain ⟨us, hul, huc, hur⟩ := hn j hj
    have hj' : j < ks.length := hj
    obtain ⟨g, hg, ha, hc⟩ := h3.cells (by omega)
    refine ⟨g, 0, us, ha, hX g (by simp [hg]), hul, fun i v hi => ?_, hur⟩
    have := hc _ _ (huc i v hi)
    rw [← Nat.add_assoc] at this
    exact this
theorem OTs.rrx : ∀ {l : List Rx} {w : World} {cs : List Value} {bs X : List Nat}, OTs l w cs bs → (∀ b, b ∈ bs → b ∉ X) → ∃ n, ∀ k (hk : k < l.length), ∃ us, us.length = 9 ∧ (∀ j v, us[j]? = some v → cs[k * 9 + j]? = some v) ∧ RRx n X w us l[k]
  | [], w, cs, bs, X, h, hX => ⟨0, fun k hk => by cases hk⟩
  | x :: l, w, cs, bs, X, h, hX => by
    rw [OTs] at h
    obtain ⟨vs, cs', b1, b2, rfl, rfl, h3, h4⟩ := h
    obtain ⟨n1, hn1⟩ := OT.rrx h3 (X := X) (fun b hb => hX b (List.mem_append_left _ hb))
    obtain ⟨n2, hn2⟩ := OTs.rrx h4 (X := X) (fun b hb => hX b (List.mem_append_right _ hb))
    have hl9 : vs.length = 9 := by obtain ⟨ra, rc, ka, kc, rfl⟩ := h3.nine; rfl
    refine ⟨max n1 n2, fun k hk => ?_⟩
    cases k with
    | zero => exact ⟨vs, hl9, fun j v hj => by rw [Nat.zero_mul, Nat.zero_add, List.getElem?_append_left (List.getElem?_eq_some_iff.1 hj).1]; exact hj, QZ hn1 (Nat.le_max_left _ _)⟩
    | succ k =>
      obtain ⟨us, hu1, hu2, hu3⟩ := hn2 k (by simpa using hk)
      refine ⟨us, hu1, fun j v hj => ?_, QZ hu3 (Nat.le_max_right _ _)⟩
      rw [List.getElem?_append_right (by omega), show (k + 1) * 9 + j - vs.length = k * 9 + j by omega]
      exact hu2 j v hj
end
end Go.Proofs.Ytidpigbinpaaeaa
namespace Go.Proofs.Ytidpigbinpaaeaa
open Go.RowKit Go.W
attribute [local irreducible] Decidable.decide
theorem KY : dY Try.prog 12 := ⟨_, Try.func12, by kernel_rfl, by kernel_rfl⟩
def zX : Rx := .mk 0 0 [] 0 0 false 0 emp []
theorem zX_rx (X : List Nat) (w : World) : RRx 1 X w [iv 0, .int .i32 0, .slice none 0 0, iv 0, iv 0, .bool false, iv 0, .string ByteArray.empty, .slice none 0 0] zX := ⟨_, _, rfl, lX, lX, Nat.zero_le _, Nat.zero_le _, Nat.zero_le _⟩
end Go.Proofs.Ytidpigbinpaaeaa
namespace Go.Proofs.Ytidpigbinpaaeaa
open Go.RowKit Go.W
def Bdd (S : Int → Prop) : Prop := ∀ c, S c → 0 ≤ c ∧ c ≤ 1114111
theorem VE (S : Int → Prop) (M : Int) (hM : M = 1114112) : ∀ n : Nat, ∃ l, iE (M - n) l ∧ ∀ c, InR c l ↔ (M - n ≤ c ∧ c ≤ 1114111 ∧ S c)
  | 0 => ⟨[], trivial, fun c => ⟨fun h => (jV c h).elim, fun h => by omega⟩⟩
  | n + 1 => by
    obtain ⟨l, h1, h2⟩ := VE S M hM n
    have e : M - (n + 1 : Nat) = M - n - 1 := by omega
    by_cases hs : S (M - (n + 1 : Nat))
    · cases l with
      | nil =>
        refine ⟨[(M - (n + 1 : Nat), M - (n + 1 : Nat))], ⟨Int.le_refl _, Int.le_refl _, by omega, trivial⟩, fun c => ?_⟩
        rw [jB]
        constructor
        · intro h; obtain rfl : c = M - (n + 1 : Nat) := by simp only at h; omega
          exact ⟨by omega, by omega, hs⟩
        · rintro ⟨h3, h4, h5⟩
          by_cases hc : c = M - (n + 1 : Nat)
          · simp only; omega
          · exact (jV c ((h2 c).2 ⟨by omega, h4, h5⟩)).elim
      | cons g l =>
        obtain ⟨g1, g2, g3, g4⟩ := h1
        by_cases hg : g.1 = M - n
        · refine ⟨(M - (n + 1 : Nat), g.2) :: l, ⟨Int.le_refl _, by simp only; omega, g3, g4⟩, fun c => ?_⟩
          have h2c := h2 c
          rw [eQ] at h2c ⊢
          simp only
          constructor
          · intro h
            by_cases hc : c = M - (n + 1 : Nat)
            · exact ⟨by omega, by omega, by rw [hc]; exact hs⟩
            · have := h2c.1 (h.imp (fun h => ⟨by omega, h.2⟩) id)
              exact ⟨by omega, this.2⟩
          · rintro ⟨h3, h4, h5⟩
            by_cases hc : c = M - (n + 1 : Nat)
            · left; omega
            · rcases h2c.2 ⟨by omega, h4, h5⟩ with h | h
              · left; omega
              · exact .inr h
        · refine ⟨(M - (n + 1 : Nat), M - (n + 1 : Nat)) :: g :: l, ⟨Int.le_refl _, Int.le_refl _, by simp only; omega, by simp only; omega, g2, g3, g4⟩, fun c => ?_⟩
          have h2c := h2 c
          rw [eQ]
          simp only
          constructor
          · rintro (h | h)
            · obtain rfl : c = M - (n + 1 : Nat) := by omega
              exact ⟨by omega, by omega, hs⟩
            · have := h2c.1 h
              exact ⟨by omega, this.2⟩
          · rintro ⟨h3, h4, h5⟩
            by_cases hc : c = M - (n + 1 : Nat)
            · left; omega
            · exact .inr (h2c.2 ⟨by omega, h4, h5⟩)
    · refine ⟨l, DG h1 (by omega), fun c => ?_⟩
      rw [h2 c]
      constructor
      · rintro ⟨h3, h4⟩; exact ⟨by omega, h4⟩
      · rintro ⟨h3, h4, h5⟩
        have : c ≠ M - (n + 1 : Nat) := fun h => hs (by rw [← h]; exact h5)
        exact ⟨by omega, h4, h5⟩
theorem uZ {S : Int → Prop} (hS : Bdd S) : sO (jC S) ∧ ∀ c, InR c (jC S) ↔ S c := by
  obtain ⟨l, h1, h2⟩ := VE S 1114112 rfl 1114112
  have h1' : sO l := by rw [show ((1114112 : Int) - (1114112 : Nat)) = 0 by omega] at h1; exact h1
  have h2' : ∀ c, InR c l ↔ S c := fun c => (h2 c).trans ⟨fun h => h.2.2, fun h => ⟨by have := (hS c h).1; omega, (hS c h).2, h⟩⟩
  rw [pH h1' h2']
  exact ⟨h1', h2'⟩
theorem EQ (S : Int → Prop) : (∃ a, jC S = [(a, a)] ∧ iZ S = lD a) ∨ (iZ S = nC (jC S)) := by
  generalize h : jC S = l
  match l, h with
  | [], h => exact .inr (nJ h (fun h1 => by simp at h1))
  | [(a, b)], h =>
    by_cases e : a = b
    · subst e; exact .inl ⟨a, rfl, uA h rfl rfl⟩
    · exact .inr (nJ h (fun _ => e))
  | g :: g2 :: l, h => exact .inr (nJ h (fun h1 => by simp at h1))
theorem lW {l : List (Int × Int)} (h : l.all (fun g => decide (0 ≤ g.1) && decide (g.2 ≤ 1114111)) = true) : Bdd (rs l) := by
  rintro c ⟨g, hg, h1⟩
  have := List.all_eq_true.1 h g hg
  simp at this
  omega
theorem CH (S : Int → Prop) : Bdd (uT S) := fun c h => ⟨h.1, h.2.1⟩
theorem FF {S : Int → Prop} (h : Bdd S) : Bdd (oD S) := by
  rintro c (h1 | h1 | h1)
  · exact h c h1
  · omega
  · omega
theorem unS_bd {S T : Int → Prop} (h1 : Bdd S) (h2 : Bdd T) : Bdd (unS S T) := fun c h => h.elim (h1 c) (h2 c)
theorem MQ {c : Nat} {S : Int → Prop} (h : vY c = some S) : Bdd S := by
  unfold vY at h
  repeat' split at h
  all_goals first | (cases h; done) | (cases h; exact CH _) | (cases h; exact lW (by decide))
theorem kY {p : Prop} [Decidable p] {A S : Int → Prop} {o : Option (Int → Prop)} (h : (if p then some A else o) = some S) (hA : Bdd A) (ho : o = some S → Bdd S) : Bdd S := by
  by_cases hp : p
  · rw [if_pos hp] at h; cases h; exact hA
  · rw [if_neg hp] at h; exact ho h
theorem namS_bd {n : ByteArray} {S : Int → Prop} (h : iJ n = some S) : Bdd S :=
  (fun h => kY h (lW (by decide)) (fun h => kY h (lW (by decide)) (fun h => kY h (lW (by decide)) (fun h => kY h (lW (by decide)) (fun h => kY h (lW (by decide)) (fun h => kY h (lW (by decide)) (fun h => kY h (lW (by decide)) (fun h => kY h (lW (by decide)) (fun h => kY h (lW (by decide)) (fun h => kY h (lW (by decide)) (fun h => kY h (lW (by decide)) (fun h => kY h (lW (by decide)) (fun h => kY h (lW (by decide)) (fun h => kY h (lW (by decide)) (fun h => by cases h))))))))))))))) h
theorem RF {a b : Int} (h0 : 0 ≤ a) (h1 : b ≤ 1114111) : Bdd (rgS a b) := fun c h => by unfold rgS at h; omega
theorem AM {s : ByteArray} {i j : Nat} {S : Int → Prop} (h : iF s i = .ok (S, j)) (hb : Bd s i) (hi : i < s.size) : Bdd S := by
  unfold iF at h
  cases h1 : lH s i with
  | error e => rw [h1] at h; cases h
  | ok p =>
    obtain ⟨lo, m⟩ := p
    obtain ⟨b1, b2, b3, b4⟩ := uO h1 hb hi
    rw [h1] at h
    simp only at h
    split at h
    · rename_i hd
      cases h3 : lH s (m + 1) with
      | error e => rw [h3] at h; cases h
      | ok q =>
        obtain ⟨hi9, m2⟩ := q
        rw [h3] at h
        simp only at h
        split at h
        · cases h
        · have b5 := (b1.asc hd.1.1 (by rw [hd.1.2]; decide)).1
          have b6 := uO h3 b5 hd.2.1
          cases h
          exact RF b3 b6.2.2.2
    · cases h; exact RF b3 b4
theorem AP {s : ByteArray} {i j : Nat} {S : Int → Prop} (h : jZ s i = .ok (S, j)) (hb : Bd s i) (hi : i < s.size) : Bdd S := by
  unfold jZ at h
  split at h
  · split at h
    · cases h; exact MQ (by assumption)
    · exact AM h hb hi
  · exact AM h hb hi
theorem SI {s : ByteArray} {i j : Nat} {S : Int → Prop} (h : jH s i = .ok (S, j)) (hb : Bd s i) (hi : i < s.size) : Bdd S := by
  unfold jH at h
  split at h
  · split at h
    · exact AP h hb hi
    · split at h
      · split at h
        · cases h
        · cases h; exact CH _
      · split at h
        · cases h
        · cases h; exact namS_bd (by assumption)
  · exact AP h hb hi
theorem AO {s : ByteArray} : ∀ {f i j : Nat} {fst : Bool} {S T : Int → Prop}, fX s f fst S i = .ok (T, j) → Bd s i → Bdd S → Bdd T
  | 0, i, j, fst, S, T, h, hb, hS => by rw [fX] at h; cases h
  | f + 1, i, j, fst, S, T, h, hb, hS => by
    rw [fX] at h
    split at h
    · cases h
    · split at h
      · cases h; exact hS
      · split at h
        · cases h
        · rename_i h1
          exact AO h (wI h1 hb (by omega)).1 (unS_bd hS (SI h1 hb (by omega)))
def Pc (o : Int) (ns ns' : List ByteArray) (q : Nat) (x : Rx) (K : Int → Prop) : Prop :=
  ∀ k, K k → ∀ (b : Int) (c : Nat), b ≤ o → c + q ≤ 8194 → x.fine (b + if Brk x.kind k then 1 else 0) (c, ns) = some (c + q, ns')
abbrev KA : Int → Prop := fun _ => True
abbrev KR : Int → Prop := fun k => k ≠ 6
abbrev KE : Int → Prop := fun k => k = 5 ∨ k = 7
theorem Pc.mono {o : Int} {ns ns' : List ByteArray} {q : Nat} {x : Rx} {K L : Int → Prop} (h : Pc o ns ns' q x K) (hL : ∀ k, L k → K k) : Pc o ns ns' q x L := fun k hk => h k (hL k hk)
theorem Pc.fine {o : Int} {ns ns' : List ByteArray} {q : Nat} {x : Rx} {K : Int → Prop} (h : Pc o ns ns' q x K) (h7 : K 7) {b : Int} {c : Nat} (hb : b ≤ o) (hc : c + q ≤ 8194) : x.fine b (c, ns) = some (c + q, ns') := by
  have := h 7 h7 b c hb hc
  rw [if_neg (by unfold Brk; omega), Int.add_zero] at this
  exact this
theorem EW {a : Int} (h : a ≠ 4 ∧ a ≠ 5 ∧ a ≠ 6 ∧ a ≠ 7) : rU a := by unfold rU; omega
theorem brk_no {a k : Int} (h : a ≠ 1 ∧ a ≠ 4 ∧ a ≠ 5 ∧ a ≠ 6) : ¬ Brk a k := by unfold Brk; omega
section
variable {o : Int} {ns ns' : List ByteArray} {q : Nat} {x : Rx}
theorem wH (hp : NodeP x) (hl : rU x.kind) (h1 : x.kind ≠ 1) (ho : o ≤ 250) : Pc o ns ns 1 x KA := by
  intro k _ b c hb hc
  unfold rU at hl
  rw [if_neg (by unfold Brk; omega), Int.add_zero]
  exact BE (st := (c, ns)) hp hl (by omega) hc (by omega)
theorem np_k {k : Int} (h : k = 1 ∨ (8 ≤ k ∧ k ≤ 13)) : NodeP (rxK k) := ⟨by show (1 : Int) ≤ k; omega, by show k ≤ 13; omega, .inr rfl, .inr rfl, .inr ⟨rfl, rfl, rfl⟩, .inr ⟨rfl, rfl⟩, fun h9 => by have : k = 2 := h9; omega, fun h9 => by have : k = 3 := h9; omega, fun h9 => by have : k = 4 ∨ k = 5 := h9; omega, fun h9 => by have : k = 6 := h9; omega, fun h9 => by have : k = 7 := h9; omega, fun _ => rfl⟩
theorem RV (ho : o ≤ 250) : Pc o ns ns 1 (rxK 1) KE := by
  intro k hk b c hb hc
  rw [if_neg (show ¬ Brk (rxK 1).kind k by show ¬ Brk 1 k; unfold Brk; have : k = 5 ∨ k = 7 := hk; omega), Int.add_zero]
  exact BE (st := (c, ns)) (np_k (.inl rfl)) (EW (a := 1) (by decide)) (by show (1 : Int) ≠ 7; decide) hc (by omega)
theorem EF {k : Int} (h : 8 ≤ k ∧ k ≤ 13) (ho : o ≤ 250) : Pc o ns ns 1 (rxK k) KA := wH (np_k (.inr h)) (EW (a := k) (by omega)) (by show k ≠ 1; omega) ho
theorem GK {l : List (Int × Int)} (h : sO l) (h1 : ∀ h : l.length = 1, l[0].1 ≠ l[0].2) : RangesOk l := by
  have key : ∀ (l : List (Int × Int)) (d : Int), 0 ≤ d → iE d l → ∀ i (h : i < l.length), d ≤ l[i].1 ∧ l[i].1 ≤ l[i].2 ∧ l[i].2 ≤ 1114111 ∧ ∀ j (hj : j < l.length), i = j + 1 → l[j].2 + 1 < l[i].1 := by
    intro l
    induction l with
    | nil => intro d hd hc i hi; cases hi
    | cons g l ih =>
      rintro d hd ⟨c1, c2, c3, c4⟩ i hi
      cases i with
      | zero => exact ⟨c1, c2, c3, fun j hj e => by omega⟩
      | succ i =>
        obtain ⟨e1, e2, e3, e4⟩ := ih (g.2 + 2) (by omega) c4 i (by simpa using hi)
        refine ⟨by simp only [List.getElem_cons_succ]; omega, e2, e3, fun j hj e => ?_⟩
        cases j with
        | zero =>
          obtain rfl : i = 0 := by omega
          simp only [List.getElem_cons_zero, List.getElem_cons_succ]
          omega
        | succ j => exact e4 j (by simpa using hj) (by omega)
  exact ⟨fun i hi => by have := key l 0 (Int.le_refl _) h i hi; exact ⟨by omega, this.2⟩, h1⟩
theorem rZ {S : Int → Prop} (hS : Bdd S) (ho : o ≤ 250) : Pc o ns ns 1 (iZ S) KA := by
  rcases EQ S with ⟨a, h, e⟩ | e
  · have := (uZ hS).1
    rw [h] at this
    obtain ⟨c1, c2, c3, -⟩ := this
    rw [e]
    exact wH (TF c1 c3) (EW (a := 2) (by decide)) (by show (2 : Int) ≠ 1; decide) ho
  · by_cases h1 : ∃ a, jC S = [(a, a)]
    · obtain ⟨a, ha⟩ := h1
      have := uA (S := S) ha rfl rfl
      rw [this]
      have hc := (uZ hS).1
      rw [ha] at hc
      obtain ⟨c1, c2, c3, -⟩ := hc
      exact wH (TF c1 c3) (EW (a := 2) (by decide)) (by show (2 : Int) ≠ 1; decide) ho
    · rw [e]
      refine wH (np_cls (GK (uZ hS).1 fun hl => ?_)) (EW (a := 3) (by decide)) (by show (3 : Int) ≠ 1; decide) ho
      intro h9
      obtain ⟨g, hg⟩ := List.length_eq_one_iff.1 hl
      refine h1 ⟨g.1, ?_⟩
      simp only [hg, List.getElem_cons_zero] at h9
      rw [hg]
      exact congrArg (fun z => [z]) (Prod.ext rfl h9.symm)
theorem MO {c : Int} (h0 : 0 ≤ c) (h1 : c ≤ 1114111) : Bdd (fun x => x = c) := fun x hx => by subst hx; exact ⟨h0, h1⟩
theorem IB {f : Fl} {c : Int} (h0 : 0 ≤ c) (h1 : c ≤ 1114111) (ho : o ≤ 250) : Pc o ns ns 1 (mA f c) KA := by
  rw [litS]
  split
  · exact rZ (FF (MO h0 h1)) ho
  · exact rZ (MO h0 h1) ho
theorem pc_wrap (h : ∀ (b : Int) (c : Nat), b ≤ o + 1 → c + q ≤ 8194 → x.fine b (c, ns) = some (c + q, ns')) : Pc o ns ns' q x KA := by
  intro k _ b c hb hc
  refine h _ c ?_ hc
  split <;> omega
theorem RU {nm : ByteArray} (h : ∀ (b : Int) (c : Nat), b ≤ o + 1 → c + q ≤ 8194 → x.fine b (c, ns ++ [nm]) = some (c + q, ns')) (ho : o + 1 ≤ 250) (hg : jW ((ns.length : Int) + 1) nm ns) : Pc o ns ns' (q + 1) (kC ((ns.length : Int) + 1) nm x) KA := by
  intro k _ b c hb hc
  rw [if_neg (show ¬ Brk (kC ((ns.length : Int) + 1) nm x).kind k from brk_no (a := 7) (by decide)), Int.add_zero]
  have hp : NodeP (kC ((ns.length : Int) + 1) nm x) := ⟨by show (1 : Int) ≤ 7; decide, by show (7 : Int) ≤ 13; decide, .inr rfl, .inr rfl, .inr ⟨rfl, rfl, rfl⟩, .inl rfl, fun h9 => absurd (show (7 : Int) = 2 from h9) (by decide), fun h9 => absurd (show (7 : Int) = 3 from h9) (by decide), fun h9 => absurd (show (7 : Int) = 4 ∨ (7 : Int) = 5 from h9) (by decide), fun h9 => absurd (show (7 : Int) = 6 from h9) (by decide), fun _ => rfl, fun h9 => (h9 (.inr (.inr (.inr rfl)))).elim⟩
  rw [mC (st := (c, ns)) ⟨by show c + 1 ≤ 8194; omega, by show (if (7 : Int) = 7 then b + 1 else b) ≤ 250; rw [if_pos rfl]; omega, hp, fun _ => hg⟩]
  show dN [x] 7 (if (7 : Int) = 7 then b + 1 else b) (c + 1, if (7 : Int) = 7 then ns ++ [nm] else ns) = _
  rw [if_pos rfl, if_pos rfl, dN, if_neg (by unfold Brk; omega), Int.add_zero, h (b + 1) (c + 1) (by omega) (by omega)]
  simp only
  rw [dN]
  exact congrArg some (Prod.ext (by simp only; omega) rfl)
theorem pc_rep {lo hi : Int} {z : Bool} (h : Pc o ns ns' q x KA) (ho : o ≤ 250) (h0 : 0 ≤ lo) (h1 : lo ≤ 1000) (h2 : hi = -1 ∨ (lo ≤ hi ∧ hi ≤ 1000)) : Pc o ns ns' (q + 1) (jD lo hi z x) KR := by
  intro k hk b c hb hc
  rw [if_neg (show ¬ Brk (jD lo hi z x).kind k by show ¬ Brk 6 k; unfold Brk; have : k ≠ 6 := hk; omega), Int.add_zero]
  rw [mC ⟨by show c + 1 ≤ 8194; omega, by show (if (6 : Int) = 7 then b + 1 else b) ≤ 250; rw [if_neg (by decide)]; omega, np_rep h0 h1 h2, fun h9 => absurd (show (6 : Int) = 7 from h9) (by decide)⟩]
  show dN [x] 6 (if (6 : Int) = 7 then b + 1 else b) (c + 1, if (6 : Int) = 7 then _ else ns) = _
  rw [if_neg (by decide), if_neg (by decide), dN, h 6 trivial b (c + 1) hb (by omega)]
  simp only
  rw [dN]
  exact congrArg some (Prod.ext (by simp only; omega) rfl)
end
def Ps (K : Int → Prop) (o : Int) : List Rx → List ByteArray → List ByteArray → Nat → Prop
  | [], ns, ns', q => ns' = ns ∧ q = 0
  | x :: l, ns, ns', q => ∃ n1 q1 q2, q = q1 + q2 ∧ Pc o ns n1 q1 x K ∧ Ps K o l n1 ns' q2
section
variable {K : Int → Prop} {o : Int}
theorem Ps.one {x : Rx} {ns ns' : List ByteArray} {q : Nat} (h : Pc o ns ns' q x K) : Ps K o [x] ns ns' q := ⟨ns', q, 0, rfl, h, rfl, rfl⟩
theorem Ps.app : ∀ {l m : List Rx} {ns n1 ns' : List ByteArray} {q1 q2 : Nat}, Ps K o l ns n1 q1 → Ps K o m n1 ns' q2 → Ps K o (l ++ m) ns ns' (q1 + q2)
  | [], m, ns, n1, ns', q1, q2, ⟨h1, h2⟩, h => by subst h1 h2; rw [List.nil_append, Nat.zero_add]; exact h
  | x :: l, m, ns, n1, ns', q1, q2, ⟨n2, a, b, e, h1, h2⟩, h => ⟨n2, a, b + q2, by omega, h1, h2.app h⟩
theorem Ps.kids {k : Int} (hk : K k) : ∀ {l : List Rx} {ns ns' : List ByteArray} {q : Nat}, Ps K o l ns ns' q → ∀ (b : Int) (c : Nat), b ≤ o → c + q ≤ 8194 → dN l k b (c, ns) = some (c + q, ns')
  | [], ns, ns', q, ⟨h1, h2⟩, b, c, hb, hc => by subst h1 h2; rw [dN]; rfl
  | x :: l, ns, ns', q, ⟨n2, a, d, e, h1, h2⟩, b, c, hb, hc => by
    rw [dN, h1 k hk b c hb (by omega)]
    simp only
    rw [Ps.kids hk h2 b (c + a) hb (by omega)]
    exact congrArg some (Prod.ext (by simp only; omega) rfl)
theorem row4 {l : List Rx} {ns ns' : List ByteArray} {q : Nat} (h : Ps KR o l ns ns' q) (ho : o ≤ 250) : ∃ q', Pc o ns ns' q' (qN 4 l) KE ∧ (l.length = 0 → q' = 1) ∧ (l.length = 1 → q' = q) ∧ q' ≤ q + 1 := by
  match l, h with
  | [], ⟨h1, h2⟩ => subst h1; exact ⟨1, RV ho, fun _ => rfl, (fun h => by cases h), by omega⟩
  | [x], ⟨n1, a, b, e, h1, h2, h3⟩ =>
    subst h2 h3
    exact ⟨a, h1.mono fun k hk => by show k ≠ 6; have : k = 5 ∨ k = 7 := hk; omega, (fun h => by cases h), fun _ => by omega, by omega⟩
  | x :: y :: l, h =>
    refine ⟨q + 1, ?_, (fun h => by simp at h), (fun h => by simp at h), Nat.le_refl _⟩
    intro k hk b c hb hc
    have hk' : k = 5 ∨ k = 7 := hk
    show (sQ 4 (x :: y :: l)).fine _ _ = _
    rw [show (qN 4 (x :: y :: l)).kind = 4 from rfl, if_neg (by unfold Brk; omega), Int.add_zero]
    rw [mC ⟨by show c + 1 ≤ 8194; omega, by show (if (4 : Int) = 7 then b + 1 else b) ≤ 250; rw [if_neg (by decide)]; omega, TE (.inl rfl) (by simp), fun h9 => absurd (show (4 : Int) = 7 from h9) (by decide)⟩]
    show dN (x :: y :: l) 4 (if (4 : Int) = 7 then b + 1 else b) (c + 1, if (4 : Int) = 7 then _ else ns) = _
    rw [if_neg (by decide), if_neg (by decide), h.kids (k := 4) (by show (4 : Int) ≠ 6; decide) b (c + 1) hb (by omega)]
    exact congrArg some (Prod.ext (by simp only; omega) rfl)
theorem row5 {l : List Rx} {ns ns' : List ByteArray} {q : Nat} (h : Ps KE o l ns ns' q) (hl : 1 ≤ l.length) (ho : o ≤ 250) : ∃ q', (∀ (b : Int) (c : Nat), b ≤ o → c + q' ≤ 8194 → (qN 5 l).fine b (c, ns) = some (c + q', ns')) ∧ (l.length = 1 → q' = q) ∧ q' ≤ q + 1 := by
  match l, h with
  | [x], ⟨n1, a, b, e, h1, h2, h3⟩ =>
    subst h2 h3
    exact ⟨a, fun b c hb hc => h1.fine (.inr rfl) hb hc, fun _ => by omega, by omega⟩
  | x :: y :: l, h =>
    refine ⟨q + 1, fun b c hb hc => ?_, (fun h => by simp at h), Nat.le_refl _⟩
    show (sQ 5 (x :: y :: l)).fine _ _ = _
    rw [mC ⟨by show c + 1 ≤ 8194; omega, by show (if (5 : Int) = 7 then b + 1 else b) ≤ 250; rw [if_neg (by decide)]; omega, TE (.inr rfl) (by simp), fun h9 => absurd (show (5 : Int) = 7 from h9) (by decide)⟩]
    show dN (x :: y :: l) 5 (if (5 : Int) = 7 then b + 1 else b) (c + 1, if (5 : Int) = 7 then _ else ns) = _
    rw [if_neg (by decide), if_neg (by decide), h.kids (k := 5) (.inl rfl) b (c + 1) hb (by omega)]
    exact congrArg some (Prod.ext (by simp only; omega) rfl)
end
section
variable {s t : ByteArray} {i i' : Nat}
end
theorem VL {r : Int} (h0 : 0 ≤ r) (h : r < 128) : eY r = [r.toNat] := by
  rw [eY, if_pos ⟨h0, by omega, by omega⟩, nN, if_pos (by omega)]
theorem form_hi {r : Int} (h : 128 ≤ r) : ∀ b, b ∈ eY r → 128 ≤ b := by
  intro b hb
  unfold eY at hb
  split at hb
  · unfold nN at hb
    rw [if_neg (by omega)] at hb
    split at hb
    · simp at hb; omega
    · split at hb
      · simp at hb; omega
      · simp at hb; omega
  · cases hb
section
variable {s : ByteArray} {ex : PS → PX Rx} {st : PS}
end
section
variable {s : ByteArray} {ex : PS → PX Rx}
theorem OP {i k : Nat} (hk : 1 ≤ k) (h : k < (bH s i).2) : 128 ≤ sb s (i + k) := by
  obtain ⟨h1, h2, h3⟩ := ET (s := s) (a := i) (by omega)
  have hle : i + (bH s i).2 ≤ s.size := by
    rcases lI s i with e | e
    · rw [e] at h; exact absurd h (Nat.not_lt_zero _)
    · exact e.2.2.2.2
  have hb : sb s (i + k) = (eY (bH s i).1)[k]'(by omega) := by
    rw [← dM (s := s) (a := i) (b := i + (bH s i).2) (k := k) hle (by omega), h1, sb_bstr (by omega) (FD _)]
  have hm := List.getElem_mem (l := eY (bH s i).1) (n := k) (by omega)
  rw [← hb] at hm
  rcases Int.lt_or_le (bH s i).1 128 with h5 | h5
  · have h7 := congrArg List.length (VL h3.1 h5); simp at h7; omega
  · exact form_hi h5 _ hm
theorem LS {fl : Fl} {e : Nat} (he : sb s e < 128) : ∀ {f i : Nat} {l : List Rx}, i ≤ e → (jY s fl e f l i).2 ≤ e
  | 0, i, l, h => h
  | f + 1, i, l, h => by
    rw [jY]
    split
    · rename_i hi
      refine LS he ?_
      rcases Nat.lt_or_ge e (i + (bH s i).2) with h9 | h9
      · have := OP (s := s) (i := i) (k := e - i) (by omega) (by omega)
        rw [show i + (e - i) = e by omega] at this
        omega
      · exact h9
    · exact h
end
theorem Ps.mono {K L : Int → Prop} {o : Int} (hL : ∀ k, L k → K k) : ∀ {l : List Rx} {ns ns' : List ByteArray} {q : Nat}, Ps K o l ns ns' q → Ps L o l ns ns' q
  | [], ns, ns', q, h => h
  | x :: l, ns, ns', q, ⟨n2, a, d, e, h1, h2⟩ => ⟨n2, a, d, e, h1.mono hL, Ps.mono hL h2⟩
theorem Ps.last {K : Int → Prop} {o : Int} : ∀ {l : List Rx} {ns ns' : List ByteArray} {q : Nat}, Ps K o l ns ns' q → l ≠ [] → ∃ l0 y n1 qa qb, l = l0 ++ [y] ∧ Ps K o l0 ns n1 qa ∧ Pc o n1 ns' qb y K ∧ q = qa + qb
  | [x], ns, ns', q, ⟨n1, a, d, e, h1, h2, h3⟩, _ => by subst h2 h3; exact ⟨[], x, ns, 0, a, rfl, ⟨rfl, rfl⟩, h1, by omega⟩
  | x :: y :: l, ns, ns', q, ⟨n1, a, d, e, h1, h2⟩, _ => by
    obtain ⟨l0, z, n2, qa, qb, e1, e2, e3, e4⟩ := Ps.last h2 (by simp)
    exact ⟨x :: l0, z, n2, a + qa, qb, by rw [e1]; rfl, ⟨n1, a, qa, rfl, h1, e2⟩, e3, by omega⟩
def DO (s : ByteArray) (ex : PS → PX Rx) (n : Nat) : Prop := ∀ st x st', st.opn = n → Bd s st.pos → st.names.length ≤ 100 → ex st = .ok (x, st') →
  ∃ q, (∀ (b : Int) (c : Nat), b ≤ n → c + q ≤ 8194 → x.fine b (c, st.names) = some (c + q, st'.names)) ∧ q + 2 * st.pos ≤ 2 * st'.pos + 1 ∧ st.pos ≤ st'.pos ∧ Bd s st'.pos ∧ st'.opn = n ∧ st'.names.length ≤ 100
def tQ (s : ByteArray) (st st2 : PS) (g : List Rx) : Prop := ∃ q, Ps KA st.opn g st.names st2.names q ∧ q + g.length + 2 * st.pos ≤ 2 * st2.pos ∧ st.pos < st2.pos ∧ Bd s st2.pos ∧ st2.opn = st.opn ∧ st2.names.length ≤ 100
section
variable {s : ByteArray} {ex : PS → PX Rx} {st : PS}
theorem qY {x : Rx} {j : Nat} (ho : st.opn ≤ 250) (hn : st.names.length ≤ 100) (h : Pc st.opn st.names st.names 1 x KA) (hj : st.pos < j) (hb : Bd s j) : tQ s st (gT st j) [x] :=
  ⟨1, Ps.one h, by show 1 + 1 + 2 * st.pos ≤ 2 * j; omega, hj, hb, rfl, hn⟩
theorem LR : ∀ {f j k : Nat}, j ≤ k → k < gU s f j → fR (sb s k)
  | 0, j, k, h, h2 => by rw [gU] at h2; omega
  | f + 1, j, k, h, h2 => by
    rw [gU] at h2
    split at h2
    · rename_i hw
      by_cases e : j = k
      · subst e; exact hw.2
      · exact LR (by omega) h2
    · omega
theorem nL : zM emp := fun j hj => absurd hj (Nat.not_lt_zero _)
theorem AN {i h : Nat} {fl : Fl} : zM (nH s i h fl).name := by
  unfold nH
  split
  · exact nL
  · rename_i hc
    have hb : isB s (gU s s.size (i + h)) 62 := Classical.not_not.1 (fun h9 => hc (.inr h9))
    intro j hj
    have hj' : j < (s.extract (i + h) (gU s s.size (i + h))).size := hj
    rw [ByteArray.size_extract] at hj'
    have := hb.1
    have hge : i + h ≤ gU s s.size (i + h) := xF
    show fR (sb (s.extract (i + h) (gU s s.size (i + h))) j)
    rw [dM (by omega) (by omega)]
    exact LR (f := s.size) (j := i + h) (by omega) (by omega)
theorem AL {i : Nat} : ∀ {f j : Nat} {b m : Bool} {n : Int} {fl : Fl}, zM (gO s i f j b n m fl).name
  | 0, j, b, m, n, fl => nL
  | f + 1, j, b, m, n, fl => by
    rw [gO]
    repeat' split
    all_goals first | exact AL | exact nL
theorem ID {i : Nat} {fl : Fl} : zM (eX s i fl).name := by
  unfold eX
  split
  · exact nL
  · split
    · exact AN
    · split
      · exact AN
      · split
        · exact nL
        · exact AL
theorem BY {fl : Fl} {e : Nat} {o : Int} {ns : List ByteArray} (ho : o ≤ 250) (he : e ≤ s.size) : ∀ {f i : Nat} {l : List Rx}, Bd s i → Ps KA o l ns ns l.length → Ps KA o (jY s fl e f l i).1 ns ns (jY s fl e f l i).1.length ∧ i + (jY s fl e f l i).1.length ≤ (jY s fl e f l i).2 + l.length ∧ Bd s (jY s fl e f l i).2 ∧ (e ≤ i + f → e ≤ (jY s fl e f l i).2)
  | 0, i, l, hb, h => ⟨h, Nat.le_refl _, hb, fun h => h⟩
  | f + 1, i, l, hb, h => by
    rw [jY]
    split
    · rename_i hi
      obtain ⟨n1, n2, n3, n4, n5⟩ := hb.next (by omega)
      have h1 : Ps KA o (l ++ [mA fl (bH s i).1]) ns ns (l ++ [mA fl (bH s i).1]).length := by
        rw [List.length_append]; exact h.app (Ps.one (IB n4 n5 ho))
      obtain ⟨a1, a2, a3, a4⟩ := BY (fl := fl) (e := e) (f := f) ho he n3 h1
      refine ⟨a1, ?_, a3, fun h9 => a4 (by omega)⟩
      rw [List.length_append] at a2
      simp only [List.length_singleton] at a2
      omega
    · rename_i hi
      exact ⟨h, Nat.le_refl _, hb, fun _ => by show e ≤ i; omega⟩
theorem quote_i {g : List Rx} {st2 : PS} (h : nG s st = .ok (g, st2)) (hb : Bd s (st.pos + 2)) (ho : st.opn ≤ 250) (hn : st.names.length ≤ 100) : tQ s st st2 g := by
  have ho' : (st.opn : Int) ≤ 250 := by omega
  have hle := hb.le
  unfold nG at h
  split at h
  · rename_i e he
    cases h
    obtain ⟨f1, f2, f3⟩ := (pZ s 92 69 s.size (st.pos + 2) (by omega)).1 e he
    obtain ⟨a1, a2, a3, a4⟩ := BY (s := s) (fl := st.now) (e := e) (o := st.opn) (ns := st.names) (f := s.size) (i := st.pos + 2) (l := []) ho' (by have := f2.1; omega) hb ⟨rfl, rfl⟩
    have h9 := LS (s := s) (fl := st.now) (e := e) (by rw [f2.2.1]; decide) (f := s.size) (i := st.pos + 2) (l := []) f1
    have h8 := a4 (by have := f2.1; omega)
    have h7 : (jY s st.now e s.size [] (st.pos + 2)).2 = e := by omega
    refine ⟨_, a1, ?_, ?_, ?_, rfl, hn⟩
    · simp only [List.length_nil] at a2
      show _ + _ + 2 * st.pos ≤ 2 * ((jY s st.now e s.size [] (st.pos + 2)).2 + 2)
      omega
    · show st.pos < (jY s st.now e s.size [] (st.pos + 2)).2 + 2
      omega
    · show Bd s ((jY s st.now e s.size [] (st.pos + 2)).2 + 2)
      rw [h7] at a3 ⊢
      have b1 := (a3.asc (by have := f2.1; omega) (by rw [f2.2.1]; decide)).1
      exact (b1.asc f2.1 (by rw [f2.2.2]; decide)).1
  · cases h
    obtain ⟨a1, a2, a3, a4⟩ := BY (s := s) (fl := st.now) (e := s.size) (o := st.opn) (ns := st.names) (f := s.size) (i := st.pos + 2) (l := []) ho' (Nat.le_refl _) hb ⟨rfl, rfl⟩
    simp only [List.length_nil] at a2
    refine ⟨_, a1, ?_, ?_, a3, rfl, hn⟩
    · show _ + _ + 2 * st.pos ≤ 2 * (jY s st.now s.size s.size [] (st.pos + 2)).2
      omega
    · show st.pos < (jY s st.now s.size s.size [] (st.pos + 2)).2
      omega
theorem UR {g : List Rx} {st2 : PS} (h : fN s st = .ok (g, st2)) (h92 : sb s st.pos = 92) (hb : Bd s st.pos) (hp : st.pos < s.size) (ho : st.opn ≤ 250) (hn : st.names.length ≤ 100) : tQ s st st2 g := by
  have ho' : (st.opn : Int) ≤ 250 := by omega
  have b1 := (hb.asc hp (by rw [h92]; decide)).1
  unfold fN at h
  split at h
  · cases h
  · rename_i hsz
    have b2 : sb s (st.pos + 1) < 128 → Bd s (st.pos + 2) := fun h9 => (b1.asc (by omega) h9).1
    split at h
    · cases h; exact qY ho hn (EF (by decide) ho') (by omega) (b2 (by omega))
    · split at h
      · cases h; exact qY ho hn (EF (by decide) ho') (by omega) (b2 (by omega))
      · split at h
        · cases h; exact qY ho hn (EF (by decide) ho') (by omega) (b2 (by omega))
        · split at h
          · cases h; exact qY ho hn (EF (by decide) ho') (by omega) (b2 (by omega))
          · split at h
            · exact quote_i h (b2 (by omega)) ho hn
            · split at h
              · rename_i S hS
                cases h; exact qY ho hn (rZ (MQ hS) ho') (by omega) (b2 (MP hS))
              · split at h
                · cases h
                · rename_i v j he
                  cases h
                  obtain ⟨e1, e2, e3⟩ := IE he hb h92
                  exact qY ho hn (IB (by omega) (by omega) ho') e2 e1
theorem plain_i {g : List Rx} {st2 : PS} (h : jG s st = .ok (g, st2)) (hb : Bd s st.pos) (hp : st.pos < s.size) (ho : st.opn ≤ 250) (hn : st.names.length ≤ 100) : tQ s st st2 g := by
  have ho' : (st.opn : Int) ≤ 250 := by omega
  obtain ⟨n1, n2, n3, n4, n5⟩ := hb.next hp
  unfold jG at h
  cases h
  refine qY ho hn ?_ (by omega) n3
  split
  · split
    · exact rZ (lW (by decide)) ho'
    · exact rZ (lW (by decide)) ho'
  · split
    · split
      · exact EF (by decide) ho'
      · exact EF (by decide) ho'
    · split
      · split
        · exact EF (by decide) ho'
        · exact EF (by decide) ho'
      · exact IB n4 n5 ho'
theorem class_i {x : Rx} {j : Nat} (h : kW s st.now (st.pos + 1) = .ok (x, j)) (hb : Bd s (st.pos + 1)) (ho : st.opn ≤ 250) (hn : st.names.length ≤ 100) : tQ s st (gT st j) [x] := by
  have ho' : (st.opn : Int) ≤ 250 := by omega
  have hcb := EJ h hb
  refine qY ho hn ?_ (by omega) hcb.1
  cases hi : fX s (s.size + 1) true (fun _ => False) (if isB s (st.pos + 1) 94 then st.pos + 1 + 1 else st.pos + 1) with
  | error e => rw [wM hi] at h; cases h
  | ok q =>
    obtain ⟨C, j2⟩ := q
    rw [yF hi] at h
    cases h
    have hb2 : Bd s (if isB s (st.pos + 1) 94 then st.pos + 1 + 1 else st.pos + 1) := by
      split
      · rename_i h9; exact (hb.asc h9.1 (by rw [h9.2]; decide)).1
      · exact hb
    have hC := AO hi hb2 (fun c hc => hc.elim)
    refine rZ ?_ ho'
    split
    · exact CH _
    · split
      · exact FF hC
      · exact hC
theorem brk_i {g : List Rx} {st2 : PS} (h : pU s ex st = .ok (g, st2)) (h40 : isB s st.pos 40) (hb : Bd s st.pos) (ho : st.opn ≤ 250) (hn : st.names.length ≤ 100) (hex : st.opn < 250 → DO s ex (st.opn + 1)) : tQ s st st2 g := by
  unfold pU at h
  simp only at h
  split at h
  · rename_i hs
    cases h
    obtain ⟨o1, o2, o3⟩ := BZ hb h40 hs.1
    exact ⟨0, ⟨rfl, rfl⟩, by show 0 + 0 + 2 * st.pos ≤ 2 * (st.pos + _); omega, by show st.pos < st.pos + _; omega, o2, rfl, hn⟩
  · split at h
    · cases h
    · rename_i h250
      split at h
      · cases h
      · rename_i herr
        obtain ⟨o1, o2, o3⟩ := BZ (fl := st.now) hb h40 (Classical.not_not.1 herr)
        split at h
        · cases h
        · rename_i hful
          split at h
          · cases h
          · rename_i x st3 hx
            split at h
            · rename_i hcl
              cases h
              have hlt : st.opn < 250 := by omega
              obtain ⟨q, q1, q2, q3, q4, q5, q6⟩ := hex hlt _ x st3 rfl o2 (by
                show (if (eX s st.pos st.now).capt = true then _ else _ : List ByteArray).length ≤ 100
                split
                · rename_i hc
                  have : st.names.length ≠ 100 := fun h9 => hful ⟨hc, .inl h9⟩
                  rw [List.length_append]; simp; omega
                · exact hn) hx
              have q2' : q + 2 * (st.pos + (eX s st.pos st.now).size) ≤ 2 * st3.pos + 1 := q2
              have q3' : st.pos + (eX s st.pos st.now).size ≤ st3.pos := q3
              have hb3 : Bd s (st3.pos + 1) := (q4.asc hcl.1 (by rw [hcl.2]; decide)).1
              by_cases hc : (eX s st.pos st.now).capt = true
              · simp only [if_pos hc] at q1 ⊢
                have hl : st.names.length ≠ 100 := fun h9 => hful ⟨hc, .inl h9⟩
                have hg : jW ((st.names.length : Int) + 1) (eX s st.pos st.now).name st.names := ⟨rfl, by omega, ID, by
                  by_cases he : (eX s st.pos st.now).name = emp
                  · exact .inl he
                  · exact .inr (fun h9 => hful ⟨hc, .inr ⟨he, h9⟩⟩)⟩
                refine ⟨q + 1, Ps.one (RU (fun b c hb hc => q1 b c (by push_cast; omega) hc) (by omega) hg), ?_, ?_, hb3, ?_, q6⟩
                · show q + 1 + 1 + 2 * st.pos ≤ 2 * (st3.pos + 1); omega
                · show st.pos < st3.pos + 1; omega
                · show st3.opn - 1 = st.opn; omega
              · simp only [if_neg hc] at q1 ⊢
                refine ⟨q, Ps.one (pc_wrap (fun b c hb hc => q1 b c (by push_cast; omega) hc)), ?_, ?_, hb3, ?_, q6⟩
                · show q + 1 + 2 * st.pos ≤ 2 * (st3.pos + 1); omega
                · show st.pos < st3.pos + 1; omega
                · show st3.opn - 1 = st.opn; omega
            · cases h
theorem piece_i {g : List Rx} {st2 : PS} (h : dZ s ex st = .ok (g, st2)) (hb : Bd s st.pos) (hp : st.pos < s.size) (ho : st.opn ≤ 250) (hn : st.names.length ≤ 100) (hex : st.opn < 250 → DO s ex (st.opn + 1)) : tQ s st st2 g := by
  unfold dZ at h
  split at h
  · rename_i hc; exact brk_i h ⟨hp, hc⟩ hb ho hn hex
  · split at h
    · rename_i hc
      split at h
      · cases h
      · rename_i x j hx
        cases h
        exact class_i hx ((hb.asc hp (by rw [hc]; decide)).1) ho hn
    · split at h
      · rename_i hc; exact UR h hc hb hp ho hn
      · exact plain_i h hb hp ho hn
end
structure AltI (s : ByteArray) (o : Nat) (ns0 : List ByteArray) (p0 : Nat) (l : List Rx) (st : PS) (q : Nat) : Prop where
  ps : Ps KR o l ns0 st.names q
  cnt : q + l.length + 2 * p0 ≤ 2 * st.pos
  ge : p0 ≤ st.pos
  bd : Bd s st.pos
  opn : st.opn = o
  nm : st.names.length ≤ 100
def LastI (o : Nat) (ns0 : List ByteArray) (l : List Rx) (st : PS) (q : Nat) : Prop := ∃ l0 y n1 qa qb, l = l0 ++ [y] ∧ Ps KR o l0 ns0 n1 qa ∧ Pc o n1 st.names qb y KA ∧ q = qa + qb
section
variable {s : ByteArray} {ex : PS → PX Rx} {o : Nat} {ns0 : List ByteArray} {p0 : Nat}
theorem NR (ho : o ≤ 250) (hex : o < 250 → DO s ex (o + 1)) : ∀ (f : Nat) (l : List Rx) (ah : Bool) (st st' : PS) (x : Rx) (q : Nat), AltI s o ns0 p0 l st q → (ah = true → LastI o ns0 l st q) → iB s ex f l ah st = .ok (x, st') →
    ∃ l' q', x = qN 4 l' ∧ AltI s o ns0 p0 l' st' q' ∧ st.pos ≤ st'.pos
  | 0, l, ah, st, st', x, q, h, hl, h1 => by rw [iB] at h1; cases h1; exact ⟨l, q, rfl, h, Nat.le_refl _⟩
  | f + 1, l, ah, st, st', x, q, h, hl, h1 => by
    rw [iB] at h1
    split at h1
    · cases h1; exact ⟨l, q, rfl, h, Nat.le_refl _⟩
    · rename_i hend
      have hp : st.pos < s.size := by omega
      generalize hr : lG (s.extract st.pos s.size) = rr at h1
      obtain ⟨lo, hi, nn⟩ := rr
      obtain ⟨r1, r2, r3, r4, r5⟩ := SD h.bd hp hr
      simp only at h1
      split at h1
      · split at h1
        · cases h1
        · rename_i g st2 hpc
          obtain ⟨qg, g1, g2, g3, g4, g5, g6⟩ := piece_i hpc h.bd hp (by rw [h.opn]; exact ho) h.nm (by rw [h.opn]; exact hex)
          rw [h.opn] at g1
          have hc := h.cnt
          have hge := h.ge
          have hN : AltI s o ns0 p0 (l ++ g) st2 (q + qg) := ⟨h.ps.app (g1.mono fun k _ => trivial), by rw [List.length_append]; omega, by omega, g4, by rw [g5, h.opn], g6⟩
          obtain ⟨l', q', e1, e2, e3⟩ := NR ho hex f _ _ _ _ _ _ hN (fun ha => by
            have hg : g ≠ [] := fun h9 => by rw [h9] at ha; exact absurd (of_decide_eq_true ha) (Nat.lt_irrefl 0)
            obtain ⟨g0, y, n1, qa, qb, b1, b2, b3, b4⟩ := g1.last hg
            exact ⟨l ++ g0, y, n1, q + qa, qb, by rw [b1, List.append_assoc], h.ps.app (b2.mono fun k _ => trivial), b3, by omega⟩) h1
          exact ⟨l', q', e1, e2, by omega⟩
      · rename_i hn
        obtain ⟨r6, r7⟩ := r5 hn
        split at h1
        · cases h1
        · rename_i hc
          have hah : ah = true := by cases ah with | true => rfl | false => exact (hc (.inl rfl)).elim
          obtain ⟨l0, y, n1, qa, qb, b1, b2, b3, b4⟩ := hl hah
          have hdl : l.dropLast = l0 := by rw [b1, List.dropLast_concat]
          have hgl : l.getLastD (rxK 1) = y := by rw [b1]; simp
          have hlen : l.length = l0.length + 1 := by rw [b1]; simp
          have hcnt := h.cnt
          have hge := h.ge
          have key : ∀ z, Ps KR o (l0 ++ [jD lo hi z y]) ns0 st.names (qa + (qb + 1)) := fun z => b2.app (Ps.one (pc_rep b3 (by omega) r1 (by omega) (by omega)))
          rw [hdl, hgl] at h1
          split at h1
          · rename_i hq
            have hbq := (r7.asc hq.1 (by rw [hq.2]; decide)).1
            obtain ⟨l', q', e1, e2, e3⟩ := NR ho hex f _ _ _ _ _ _ (⟨key _, by simp; omega, by show p0 ≤ st.pos + nn + 1; omega, hbq, h.opn, h.nm⟩ : AltI s o ns0 p0 _ { st with pos := st.pos + nn + 1 } _) (fun h9 => by cases h9) h1
            exact ⟨l', q', e1, e2, Nat.le_trans (by show st.pos ≤ st.pos + nn + 1; omega) e3⟩
          · obtain ⟨l', q', e1, e2, e3⟩ := NR ho hex f _ _ _ _ _ _ (⟨key _, by simp; omega, by show p0 ≤ st.pos + nn; omega, r7, h.opn, h.nm⟩ : AltI s o ns0 p0 _ { st with pos := st.pos + nn } _) (fun h9 => by cases h9) h1
            exact ⟨l', q', e1, e2, Nat.le_trans (by show st.pos ≤ st.pos + nn; omega) e3⟩
theorem VQ (ho : o ≤ 250) (hex : o < 250 → DO s ex (o + 1)) {st st' : PS} {x : Rx} {f : Nat} (hb : Bd s st.pos) (hop : st.opn = o) (hn : st.names.length ≤ 100) (h : iB s ex f [] false st = .ok (x, st')) :
    ∃ q, Pc o st.names st'.names q x KE ∧ q + 2 * st.pos ≤ 2 * st'.pos + 1 ∧ st.pos ≤ st'.pos ∧ Bd s st'.pos ∧ st'.opn = o ∧ st'.names.length ≤ 100 := by
  obtain ⟨l, q, rfl, e2, e3⟩ := NR (ns0 := st.names) (p0 := st.pos) ho hex f [] false st st' x 0 ⟨⟨rfl, rfl⟩, by simp, Nat.le_refl _, hb, hop, hn⟩ (fun h => by cases h) h
  obtain ⟨q', r1, r2, r3, r4⟩ := row4 e2.ps (by omega)
  have hc := e2.cnt
  refine ⟨q', r1, ?_, e3, e2.bd, e2.opn, e2.nm⟩
  rcases Nat.lt_trichotomy l.length 1 with h9 | h9 | h9
  · have := r2 (by omega); omega
  · have := r3 h9; omega
  · omega
structure AltsI (s : ByteArray) (o : Nat) (ns0 : List ByteArray) (p0 : Nat) (l : List Rx) (st : PS) (q : Nat) : Prop where
  ps : Ps KE o l ns0 st.names q
  cnt : q + l.length + 2 * p0 ≤ 2 * st.pos + 2
  ge : p0 ≤ st.pos
  bd : Bd s st.pos
  opn : st.opn = o
  nm : st.names.length ≤ 100
  ne : 1 ≤ l.length
theorem VN (ho : o ≤ 250) (hex : o < 250 → DO s ex (o + 1)) : ∀ (f : Nat) (l : List Rx) (st st' : PS) (x : Rx) (q : Nat), AltsI s o ns0 p0 l st q → mO s ex f l st = .ok (x, st') → ∃ l' q', x = qN 5 l' ∧ AltsI s o ns0 p0 l' st' q'
  | 0, l, st, st', x, q, h, h1 => by rw [mO] at h1; cases h1; exact ⟨l, q, rfl, h⟩
  | f + 1, l, st, st', x, q, h, h1 => by
    rw [mO] at h1
    split at h1
    · rename_i hb
      split at h1
      · cases h1
      · rename_i y st2 hy
        obtain ⟨q2, r1, r2, r3, r4, r5, r6⟩ := VQ ho hex (st := { st with pos := st.pos + 1 }) ((h.bd.asc hb.1 (by rw [hb.2]; decide)).1) h.opn h.nm hy
        have hc := h.cnt
        have hge := h.ge
        have r2' : q2 + 2 * (st.pos + 1) ≤ 2 * st2.pos + 1 := r2
        have r3' : st.pos + 1 ≤ st2.pos := r3
        exact VN ho hex f _ _ _ _ (q + q2) ⟨h.ps.app (Ps.one r1), by rw [List.length_append]; simp; omega, by omega, r4, r5, r6, by rw [List.length_append]; simp⟩ h1
    · cases h1; exact ⟨l, q, rfl, h⟩
theorem UK (ho : o ≤ 250) (hex : o < 250 → DO s ex (o + 1)) : DO s (kE s ex) o := by
  intro st x st' hop hb hn h
  unfold kE at h
  split at h
  · cases h
  · rename_i y st2 hy
    obtain ⟨q, r1, r2, r3, r4, r5, r6⟩ := VQ ho hex hb hop hn hy
    obtain ⟨l, q', rfl, e⟩ := VN (ns0 := st.names) (p0 := st.pos) ho hex _ _ _ _ _ q ⟨Ps.one r1, by simp; omega, r3, r4, r5, r6, by simp⟩ h
    obtain ⟨q2, f1, f2, f3⟩ := row5 e.ps e.ne (by omega)
    have hc := e.cnt
    refine ⟨q2, f1, ?_, e.ge, e.bd, e.opn, e.nm⟩
    rcases Nat.lt_or_ge 1 l.length with h9 | h9
    · omega
    · have := f2 (by have := e.ne; omega); have := e.ne; omega
end
theorem UI (s : ByteArray) : ∀ n, n ≤ 250 → DO s (kS s n) (250 - n)
  | 0, _ => UK (ex := fun _ => .error 3) (o := 250) (Nat.le_refl _) (fun h => absurd h (Nat.lt_irrefl _))
  | n + 1, h => by
    have h1 := UI s n (by omega)
    have h2 : DO s (kE s (kS s n)) (250 - (n + 1)) := UK (by omega) (fun _ => by rw [show 250 - (n + 1) + 1 = 250 - n by omega]; exact h1)
    exact h2
theorem pR {s : ByteArray} {x : Rx} (h : eC s = .ok x) : x.Ok ∧ ∃ st', kS s 250 st0 = .ok (x, st') ∧ s.size ≤ st'.pos ∧ Bd s st'.pos ∧ ∃ q, x.fine 0 (0, []) = some (q, st'.names) := by
  unfold eC at h
  split at h
  · cases h
  · rename_i hz
    split at h
    · cases h
    · rename_i hU
      obtain ⟨N, hU⟩ := Classical.not_not.1 hU
      split at h
      · cases h
      · rename_i x0 st hx
        split at h
        · cases h
        · rename_i hend
          cases h
          obtain ⟨q, q1, q2, q3, q4, q5, q6⟩ := UI s 250 (Nat.le_refl _) st0 x st rfl (Bd.zero hU) (Nat.zero_le _) hx
          have hle := q4.le
          have hf := q1 0 0 (by simp) (by have : q + 2 * 0 ≤ 2 * st.pos + 1 := q2; omega)
          rw [Nat.zero_add] at hf
          exact ⟨⟨_, hf⟩, st, hx, by omega, q4, q, hf⟩
def NZ {α : Type} (r : Except Int α) : Prop := ∀ e, r = .error e → e ≠ 0
theorem kF {α : Type} (a : α) : NZ (.ok a : Except Int α) := fun e h => by cases h
theorem fC {α : Type} {e : Int} (h : e ≠ 0) : NZ (.error e : Except Int α) := fun e' h' => by cases h'; exact h
theorem NZ.ne {α : Type} {r : Except Int α} {e : Int} (h : NZ r) (k : r = .error e) : e ≠ 0 := h e k
theorem MB (s : ByteArray) (i : Nat) : NZ (gA s i) := by
  unfold gA
  repeat' split
  all_goals first | exact kF _ | exact fC (by decide)
theorem MA (s : ByteArray) : ∀ f n i, NZ (lY s f n i)
  | 0, n, i => fC (by decide)
  | f + 1, n, i => by
    unfold lY
    repeat' split
    all_goals first | exact kF _ | exact MA s f _ _ | exact fC (by decide) | exact fC ((MB _ _).ne (by assumption))
theorem nz_hex (s : ByteArray) (i : Nat) : NZ (pT s i) := by
  unfold pT
  repeat' split
  all_goals first | exact kF _ | exact MA _ _ _ _ | exact fC (by decide) | exact fC ((MB _ _).ne (by assumption))
theorem SZ (s : ByteArray) (i : Nat) : NZ (nT s i) := by
  unfold nT
  repeat' split
  all_goals first | exact kF _ | exact nz_hex _ _ | exact fC (by decide)
theorem nz_one (s : ByteArray) (i : Nat) : NZ (lH s i) := by
  unfold lH
  repeat' split
  all_goals first | exact kF _ | exact fC (by decide) | exact fC ((SZ _ _).ne (by assumption))
theorem SR (s : ByteArray) (i : Nat) : NZ (iF s i) := by
  unfold iF
  repeat' split
  all_goals first | exact kF _ | exact fC (by decide) | exact fC ((nz_one _ _).ne (by assumption))
theorem SX (s : ByteArray) (i : Nat) : NZ (jZ s i) := by
  unfold jZ
  repeat' split
  all_goals first | exact kF _ | exact SR _ _
theorem nz_item (s : ByteArray) (i : Nat) : NZ (jH s i) := by
  unfold jH
  repeat' split
  all_goals first | exact kF _ | exact SX _ _ | exact fC (by decide)
theorem EP (s : ByteArray) : ∀ f b S i, NZ (fX s f b S i)
  | 0, b, S, i => fC (by decide)
  | f + 1, b, S, i => by
    unfold fX
    repeat' split
    all_goals first | exact kF _ | exact EP s f _ _ _ | exact fC (by decide) | exact fC ((nz_item _ _).ne (by assumption))
theorem TA (s : ByteArray) (fl : Fl) (i : Nat) : NZ (kW s fl i) := by
  unfold kW
  split
  · exact fC ((EP _ _ _ _ _).ne (by assumption))
  · exact kF _
theorem nz_brk {s : ByteArray} {ex : PS → PX Rx} (h : ∀ st, NZ (ex st)) (st : PS) : NZ (pU s ex st) := by
  unfold pU
  dsimp only
  repeat' split
  all_goals first | exact kF _ | exact fC (by decide) | exact fC (by assumption) | exact fC ((h _).ne (by assumption))
theorem SS (s : ByteArray) (st : PS) : NZ (nG s st) := by
  unfold nG
  split <;> exact kF _
theorem OK (s : ByteArray) (st : PS) : NZ (fN s st) := by
  unfold fN
  repeat' split
  all_goals first | exact kF _ | exact SS _ _ | exact fC (by decide) | exact fC ((SZ _ _).ne (by assumption))
theorem SU {s : ByteArray} {ex : PS → PX Rx} (h : ∀ st, NZ (ex st)) (st : PS) : NZ (dZ s ex st) := by
  unfold dZ
  repeat' split
  all_goals first | exact kF _ | exact nz_brk h _ | exact OK _ _ | exact fC ((TA _ _ _).ne (by assumption)) | (unfold jG; exact kF _)
theorem II {s : ByteArray} {ex : PS → PX Rx} (h : ∀ st, NZ (ex st)) : ∀ f l ah st, NZ (iB s ex f l ah st)
  | 0, l, ah, st => kF _
  | f + 1, l, ah, st => by
    unfold iB
    dsimp only
    repeat' split
    all_goals first | exact kF _ | exact II h f _ _ _ | exact fC (by decide) | exact fC ((SU h _).ne (by assumption))
theorem MD {s : ByteArray} {ex : PS → PX Rx} (h : ∀ st, NZ (ex st)) : ∀ f l st, NZ (mO s ex f l st)
  | 0, l, st => kF _
  | f + 1, l, st => by
    unfold mO
    repeat' split
    all_goals first | exact kF _ | exact MD h f _ _ | exact fC ((II h _ _ _ _).ne (by assumption))
theorem MC {s : ByteArray} {ex : PS → PX Rx} (h : ∀ st, NZ (ex st)) (st : PS) : NZ (kE s ex st) := by
  unfold kE
  split
  · exact fC ((II h _ _ _ _).ne (by assumption))
  · exact MD h _ _ _
theorem SY (s : ByteArray) : ∀ n st, NZ (kS s n st)
  | 0, st => MC (fun _ => fC (by decide)) st
  | n + 1, st => MC (SY s n) st
theorem SV (s : ByteArray) : NZ (eC s) := by
  unfold eC
  repeat' split
  all_goals first | exact kF _ | exact fC (by decide) | exact fC ((SY _ _ _).ne (by assumption))
end Go.Proofs.Ytidpigbinpaaeaa
namespace Go.Proofs.Ytidpigbinpaaeaa
open Go.RowKit Go.W
attribute [local irreducible] Decidable.decide
theorem HG : Build Try.prog 47 #[(0, 1), (1, 4)] #[.string ByteArray.empty, .slice none 0 0, .int .i64 0, .int .i64 0, .slice none 0 0] := ⟨_, .agg #[.string ByteArray.empty, .slice none 0 0, .int .i64 0, .int .i64 0, .slice none 0 0], Try.underlying47, by kernel_rfl, rfl, fun w => by kernel_rfl⟩
theorem vU : cX Try.prog 43 2 = some 2 := by kernel_rfl
theorem rR : cX Try.prog 47 1 = some 1 := by kernel_rfl
theorem KX : dY Try.prog 13 := ⟨_, Try.func13, by kernel_rfl, by kernel_rfl⟩
theorem zG : dY Try.prog 15 := ⟨_, Try.func15, by kernel_rfl, by kernel_rfl⟩
structure RgAt (w : World) (b : Nat) (s : ByteArray) (x : Rx) (l : List In) (n : Nat) : Prop where
  ex : ∃ a c na nc, w.heap[b]? = some (.cells #[.string s, .slice a l.length c, iv 0, iv (fS x).length, .slice na (fS x).length nc] 47 (0, 0)) ∧ RSl 5 RIn [] w (.slice a l.length c) l ∧ RSl 1 RStr [] w (.slice na (fS x).length nc) (fS x)
  len : l.length ≤ 10000
  prog : ProgOk x l n
  ok : x.Ok
  grp : (fS x).length ≤ 100
theorem RgAt.evo0 {w w' : World} {b : Nat} {s : ByteArray} {x : Rx} {l : List In} {n : Nat} (h : RgAt w b s x l n) (he : Evo [] w w') : RgAt w' b s x l n := by
  obtain ⟨a, c, na, nc, h1, h2, h3⟩ := h.ex
  exact ⟨⟨a, c, na, nc, he.blk0 h1, RSl.evo RIn.pers he h2, RSl.evo RStr.pers he h3⟩, h.len, h.prog, h.ok, h.grp⟩
theorem LL {w : World} {b : Nat} {v0 v1 v2 v3 v4 : Value} {T : TypeId} {z : Nat × Nat} (h : w.heap[b]? = some (.cells #[v0, v1, v2, v3, v4] T z)) : ∀ j v, ([v1, v2, v3, v4] : List Value)[j]? = some v → w.cell? ⟨b, 1 + j, none⟩ = some v
  | 0, v, e => by cases e; exact eS h rfl
  | 1, v, e => by cases e; exact eS h rfl
  | 2, v, e => by cases e; exact eS h rfl
  | 3, v, e => by cases e; exact eS h rfl
  | j + 4, v, e => by cases e
theorem IC {w : World} {s : ByteArray} (hG : Glb w) : Calls Try.prog 12 #[.string s] w (Ret fun v w' => ∃ vs n x e, v = .tuple #[.agg vs.toArray, iv e] ∧ RRx n [] w' vs x ∧ ((eC s = .ok x ∧ e = 0) ∨ (eC s = .error e ∧ e ≠ 0)) ∧ Evo [] w w') := by
  refine (RY s hG).mono ?_
  rintro e w' ⟨v, rfl, hv, h1 | ⟨x2, vs, bs, h2, rfl, h4, h5⟩⟩
  · obtain ⟨e, h1, rfl⟩ := h1
    exact ⟨_, rfl, _, 1, zX, e, rfl, zX_rx [] w', .inr ⟨h1, (SV s).ne h1⟩, hv⟩
  · obtain ⟨n, hn⟩ := h4.rrx (X := []) (fun b _ h => by cases h)
    exact ⟨_, rfl, vs, n, x2, 0, rfl, hn, .inl ⟨h2, rfl⟩, hv⟩
theorem Comp2.four {X : List Nat} {t : Rx} {w : World} {ps : List Value} {e : Int} (h : Comp2 X t w ps e) : ∃ p q r u, ps = [p, q, r, u] ∧ p.oneCell' = true ∧ q.oneCell' = true ∧ r.oneCell' = true ∧ u.oneCell' = true := by
  rcases h with ⟨-, -, a, n, c, g, nm, rfl, h1, h2⟩ | ⟨-, -, -, l, n, a, c, na, nc, rfl, -⟩
  · exact ⟨_, _, _, _, rfl, rfl, rfl, h1, h2⟩
  · exact ⟨_, _, _, _, rfl, rfl, rfl, rfl, rfl⟩
theorem OG {s : ByteArray} {x : Rx} (h : eC s = .ok x) : (fS x).length ≤ 100 := by
  obtain ⟨-, st, h1, h2, h3, q, h4⟩ := pR h
  obtain ⟨N, k, hU, -⟩ := h3
  obtain ⟨-, -, -, -, -, -, h6⟩ := UI s 250 (Nat.le_refl _) st0 x st rfl (Bd.zero hU) (Nat.zero_le _) h1
  have e : fS x = st.names := by unfold fS; rw [h4]
  rw [e]; exact h6
theorem RgAt.sound {w : World} {b : Nat} {s : ByteArray} {x : Rx} {l : List In} {n : Nat} (h : RgAt w b s x l n) : iX ⟨l, 0, (fS x).length, fS x⟩ := HZ h.prog (ok_caps h.ok) h.len h.grp
theorem RN {w : World} {x : Rx} {l : List In} {n : Nat} {a na : Option Addr} {c nc : Nat} (hp : ProgOk x l n) (hs : iX ⟨l, 0, (fS x).length, fS x⟩) (hl : l.length ≤ 10000) (hg : (fS x).length ≤ 100) (h1 : RSl 5 RIn [] w (.slice a l.length c) l) (h2 : RSl 1 RStr [] w (.slice na (fS x).length nc) (fS x)) :
    RPrg [] w [.slice a l.length c, iv 0, iv (fS x).length, .slice na (fS x).length nc] ⟨l, 0, (fS x).length, fS x⟩ := by
  refine ⟨⟨by simp, by show -9223372036854775808 ≤ ((fS x).length : Int) ∧ ((fS x).length : Int) ≤ 9223372036854775807; omega, by show l.length * 56 ≤ _; omega, by show (fS x).length * 16 ≤ _; omega⟩, _, _, rfl, ?_, h2⟩
  obtain ⟨a', c', he, hc, ek⟩ := h1
  refine ⟨a', c', he, hc, fun k hk => ?_⟩
  obtain ⟨b, o, vs, q1, q2, q3, q4, q5⟩ := ek k hk
  exact ⟨b, o, vs, q1, q2, q3, q4, RE q5 (hs.2 k hk hk) (by show (l.length : Int) ≤ 10000; omega) (by show 0 ≤ ((fS x).length : Int) ∧ ((fS x).length : Int) ≤ 100; omega)⟩
theorem BU {w : World} (s : ByteArray) (hG : Glb w) :
    Calls Try.prog 5 #[.string s] w (Ret fun v w' => Evo [] w w' ∧ ∃ p e, v = .tuple #[.pointer p, iv e] ∧ ((e ≠ 0 ∧ p = none ∧ ((∃ e', eC s = .error e') ∨ ∃ x, eC s = .ok x ∧ 10000 < x.esz + 1)) ∨ (e = 0 ∧ ∃ b x l n, p = some ⟨b, 0, none⟩ ∧ w.heap.size ≤ b ∧ eC s = .ok x ∧ RgAt w' b s x l n))) := by
  refine bE (N := 27) Try.func5 rfl rfl rfl ?_; refine csr (bX (wan (csr (aB ?_)))); refine aL (vs := [_]) KY rfl (IC (s := s) (hG.evo (Evo.refl [] w) (by simp))) rfl ?_; rintro _ w1 ⟨vs, n1, x, e1, rfl, hx1, hxp, b5⟩; have a3 := (Evo.refl [] w).then b5; have hx1' := hx1; obtain ⟨m1, ra1, rc1, ka1, kc1, hm1, rfl, -⟩ := hx1.get; refine aB (aA (bN rfl rfl) ?_); refine aA (bN rfl rfl) ?_; refine cL rfl eN fun b4 w4 b7 I a4 => ?_; have b8 := I; refine aV rfl rfl aU b7 rfl rfl ⟨by first | rfl | assumption, by first | rfl | assumption, by first | rfl | assumption, by first | rfl | assumption, by first | rfl | assumption, by first | rfl | assumption, by first | rfl | assumption, by first | rfl | assumption, by first | rfl | assumption, trivial⟩ fun c1 J L => ?_; have A := (a3.then a4).step L (Ge.new a3 I).mem1; have a7 := ((Evo.refl [] w1).then a4).step L (Ge.new (Evo.refl [] w1) I).mem1
  try simp only [cH, Nat.reduceAdd] at J
  refine wan (aI (csr (aB (aA (gE rfl rfl) ?_)))); refine wnn (aW rfl (fun B => ?_) (fun B => ?_))
  ·refine csr (aB (bX (wan (aH (aE (cJ rfl rfl rfl ?_)))))); exact ⟨A, none, e1, rfl, .inl ⟨B, rfl, .inl ⟨e1, (hxp.resolve_left (fun h9 => B h9.2)).1⟩⟩⟩
  have hpx : eC s = .ok x := (hxp.resolve_right (fun h9 => h9.2 (by omega))).1; refine aM (aC (csr (aA (bW rfl bZ aU J rfl) ?_))); refine aL (vs := [_]) KX rfl (GD (X := []) (fun b h => by cases h) (RRx.pers _ _ _ _ _ _ a7 hx1')) rfl ?_; rintro _ a5 ⟨M, ps, e2, rfl, a6⟩; have hc2' := a6; obtain ⟨q1, q2, q3, q4, rfl, o1, o2, o3, o4⟩ := a6.four; refine aB (aA (bN rfl rfl) ?_); refine aA (bN rfl rfl) ?_; refine cL rfl yQ fun b6 c2 a8 D O => ?_; have b9 := D; refine aV rfl rfl fZ a8 rfl rfl ⟨by first | rfl | assumption, by first | rfl | assumption, by first | rfl | assumption, by first | rfl | assumption, trivial⟩ fun c3 U V => ?_; have F := ((A.then M).then O).step V (Ge.new (A.then M) D).mem1
  try simp only [cH, Nat.reduceAdd] at U
  refine wan (aI (csr (aB (aA (gE rfl rfl) ?_)))); refine wnn (aW rfl (fun H => ?_) (fun H => ?_))
  ·refine csr (aB (bX (wan (aH (aE (cJ rfl rfl rfl ?_)))))); obtain ⟨-, h9, -⟩ := hc2'.resolve_right (fun h9 => H h9.2.2.1); exact ⟨F, none, e2, rfl, .inl ⟨H, rfl, .inr ⟨x, hpx, h9.resolve_left (fun h8 => h8 (pR hpx).1)⟩⟩⟩
  refine aM (aC (csr (aB (aA (bW rfl kQ fZ U rfl) (aA (cC (vs := [(0, _), (1, _)]) HG rfl (cells := [_, _, _, _, _]) rfl) ?_))))); refine gD rfl rfl fun br c4 a9 a0 a1 => ?_; have c0 := a0; have a2 := (((Evo.refl [] a5).then O).step V (Ge.new (Evo.refl [] a5) D).mem1).then a1; refine bX (wan (aH (cJ rfl rfl rfl ?_))); obtain ⟨hok, -, he2, l, n, a, c, na, nc, hps, hi, hn, hl, hP⟩ := hc2'.resolve_left (fun h9 => h9.1 (by omega))
  injection hps with e1' hps
  injection hps with e2' hps
  injection hps with e3' hps
  injection hps with e4' _
  subst e1' e2' e3' e4'; exact ⟨(F.then a1), _, 0, rfl, .inr ⟨rfl, br, x, l, n, rfl, (Ge.new F a0) _ rfl, hpx, ⟨⟨a, c, na, nc, a9, RSl.evo RIn.pers a2 hi, RSl.evo RStr.pers a2 hn⟩, hl, hP, hok, OG hpx⟩⟩⟩
theorem pA {w : World} {b : Nat} {s : ByteArray} {x : Rx} {l : List In} {n : Nat} (h : RgAt w b s x l n) (t : ByteArray) (ht : t.size ≤ 2097152) :
    Calls Try.prog 7 #[.pointer (some ⟨b, 0, none⟩), .string t] w (Ret fun v w' => ∃ m, v = .bool m ∧ (m = true ↔ ∃ M, Utf t M ∧ Mt (dO t M) x 0 M) ∧ Evo [] w w') := by
  have hsnd := h.sound; obtain ⟨a, c, na, nc, hb, hi, hn⟩ := h.ex; refine bE (N := 19) Try.func7 rfl rfl rfl ?_; refine csr (wan (aI (csr (aB ?_)))); refine aA (kZ (r := .bool false) rfl rfl (fun w => by kernel_rfl)) ?_; refine wnn (cK rfl ?_); refine aM (aC (csr (aB (aA (aF rfl) (aA (aD rfl rR) (aA (cY (o := 1) rfl kQ fZ (vs := [.slice a l.length c, iv 0, iv (fS x).length, .slice na (fS x).length nc]) rfl (LL hb)) ?_)))))); refine aB (aL (vs := [_, _]) zG rfl (AD (RN h.prog hsnd h.len h.grp (RSl.evo RIn.pers (Evo.refl [] w) hi) (RSl.evo RStr.pers (Evo.refl [] w) hn)) hsnd t ht) rfl ?_); rintro _ w1 ⟨nv, m, r, W', rfl, hpk, hres, A⟩; refine aB (aA (bN rfl rfl) ?_); refine aA (bN rfl rfl) ?_; refine bX (wan (csr (aB (wan (aH (br1 ?_)))))); refine ⟨m, rfl, ?_, ((Evo.refl [] w).then A)⟩; rw [← HQ hsnd rfl h.prog hpk]
  rcases hres with ⟨h1, h2⟩ | ⟨t9, h1, h2, -⟩
  · rw [h1, h2]; simp
  · rw [h1, h2]; simp
theorem VA {w : World} {b : Nat} {s : ByteArray} {x : Rx} {l : List In} {n : Nat} (h : RgAt w b s x l n) :
    Calls Try.prog 10 #[.pointer (some ⟨b, 0, none⟩)] w (Ret fun v w' => v = iv (fS x).length ∧ Evo [] w w') := by
  obtain ⟨a, c, na, nc, hb, hi, hn⟩ := h.ex; refine bE (N := 10) Try.func10 rfl rfl rfl ?_; refine csr (wan (aI (csr (aB ?_)))); refine aA (kZ (r := .bool false) rfl rfl (fun w => by kernel_rfl)) ?_; refine wnn (cK rfl ?_); refine aM (aC (csr (aB (aA (aF rfl) (aA (aD rfl rR) (wfl rfl vU rfl aT hb rfl (wan (aH (br1 ?_))))))))); exact ⟨rfl, (Evo.refl [] w)⟩
theorem vR : cX Try.prog 80 0 = some 0 := by kernel_rfl
theorem GW : cX Try.prog 80 1 = some 1 := by kernel_rfl
theorem vQ : cX Try.prog 80 2 = some 2 := by kernel_rfl
theorem UM {P : Program} {σ : Env} {w : World} {dst : Option Nat} {T : TypeId} {pos : String} {after : Array Edge} {g : Option (Nat × Bool)} {x y : Operand} {t t' : TypeId} {q : Option Addr} (hx : σ.ev x = some (.pointer q)) (hy : σ.ev y = some (.pointer none)) (ht : P.underlying t = some (.pointer (P.pointee t))) :
    Ex P σ ⟨dst, .binOp .neq t x y t', T, pos, after, g⟩ w (.bool (!q.isNone)) w := fun ρ h => by
  simp [execOp, h x _ hx, h y _ hy, eqGuard, run_neq_pointer_nil (P := P) w t q ht]
theorem RNote.open {X : List Nat} {w : World} {q : Option Addr} {t : dS} (h : RNote X w (.pointer q) t) (hq : (!q.isNone) = true) : ∃ b k a q' t', q = some ⟨b, 0, none⟩ ∧ t = (k, a) :: t' ∧ b ∉ X ∧ w.heap[b]? = some (.cells #[iv (k : Nat), iv (a : Nat), .pointer q'] 80 (0, 0)) ∧ RNote X w (.pointer q') t' := by
  cases h with
  | nil => simp at hq
  | cons hx hb h => obtain ⟨q', rfl⟩ := h.ptr; exact ⟨_, _, _, q', _, rfl, rfl, hx, hb, h⟩
theorem RNote.shut {X : List Nat} {w : World} {q : Option Addr} {t : dS} (h : RNote X w (.pointer q) t) (hq : (!q.isNone) = false) : t = [] := by
  cases h with
  | nil => rfl
  | cons hx hb h => simp at hq
def NOk (n : Nat) (t : dS) : Prop := ∀ q, q ∈ t → 2 ≤ q.1 ∧ q.1 < n
theorem save_ok {p : Prg} {s : ByteArray} {a i k o : Nat} (hsp : iX p) (h : dE p s a i = .save k o) : 2 ≤ k ∧ k < rA p := by
  unfold dE at h
  cases hi : p.insts[i]? with
  | none => rw [hi] at h; cases h
  | some c =>
    rw [hi] at h
    obtain ⟨hlt, hc⟩ := List.getElem?_eq_some_iff.1 hi
    have hs := hsp.2 i hlt hlt
    rw [hc] at hs
    obtain ⟨n1, n2, n3, n4, n5, n6, n7, n8, n9, n10⟩ := hs.1
    simp only [mvI] at h
    by_cases h1 : c.op = 1
    · rw [if_pos h1] at h; cases h
    · rw [if_neg h1] at h
      by_cases h2 : c.op = 2
      · rw [if_pos h2] at h; cases h
      · rw [if_neg h2] at h
        by_cases h3 : c.op = 3
        · rw [if_pos h3] at h; cases h
        · rw [if_neg h3] at h
          by_cases h4 : c.op = 4
          · rw [if_pos h4] at h
            have hk := n7 h4
            cases h
            unfold rA
            omega
          · rw [if_neg h4] at h
            split at h <;> cases h
theorem dr_ok {p : Prg} {s : ByteArray} (hsp : iX p) {g : List (Nat × Nat × dS)} {W W' : Wt} {r : Option dS} (h : Dr (dE p s) (gF s) s.size g W r W') (hg : ∀ x, x ∈ g → NOk (rA p) x.2.2) : ∀ t, r = some t → NOk (rA p) t := by
  induction h with
  | nil => intro t ht; cases ht
  | seen _ _ ih => exact ih (fun x hx => hg x (List.mem_cons_of_mem _ hx))
  | found _ _ _ => intro t ht; cases ht; exact hg _ (List.mem_cons_self ..)
  | mat _ _ _ _ ih => exact ih (fun x hx => hg x (List.mem_cons_of_mem _ hx))
  | rune _ _ _ _ _ ih => exact ih (fun x hx => by rcases List.mem_cons.1 hx with rfl | hx; { have h9 := hg _ (List.mem_cons_self ..); exact h9 }; { exact hg x (List.mem_cons_of_mem _ hx) })
  | miss _ _ _ ih => exact ih (fun x hx => hg x (List.mem_cons_of_mem _ hx))
  | go _ _ _ ih => exact ih (fun x hx => by rcases List.mem_cons.1 hx with rfl | hx; { have h9 := hg _ (List.mem_cons_self ..); exact h9 }; { exact hg x (List.mem_cons_of_mem _ hx) })
  | split _ _ _ ih => exact ih (fun x hx => by rcases List.mem_cons.1 hx with rfl | hx; { have h9 := hg _ (List.mem_cons_self ..); exact h9 }; { rcases List.mem_cons.1 hx with rfl | hx; { have h9 := hg _ (List.mem_cons_self ..); exact h9 }; { exact hg x (List.mem_cons_of_mem _ hx) } })
  | save _ hm _ ih => exact ih (fun x hx => by rcases List.mem_cons.1 hx with rfl | hx; { intro q hq; rcases List.mem_cons.1 hq with rfl | hq; { exact save_ok hsp hm }; { have h9 := hg _ (List.mem_cons_self ..); exact h9 q hq } }; { exact hg x (List.mem_cons_of_mem _ hx) })
  | dead _ _ _ ih => exact ih (fun x hx => hg x (List.mem_cons_of_mem _ hx))
def sT : List Int → dS → List Int
  | sl, [] => sl
  | sl, (k, a) :: t => sT (if sl.getD k 0 < 0 then sl.set k a else sl) t
theorem FP : ∀ (t : dS) (sl : List Int), NOk sl.length t → (sT sl t).length = sl.length ∧ ∀ k, k < sl.length → (sT sl t)[k]? = some (if sl.getD k 0 < 0 then (match t.find? (fun q => q.1 == k) with | some q => (q.2 : Int) | none => sl.getD k 0) else sl.getD k 0)
  | [], sl, _ => ⟨rfl, fun k hk => by simp [sT, hk]⟩
  | (j, a) :: t, sl, h => by
    have hj := h (j, a) (List.mem_cons_self ..)
    have hl : (if sl.getD j 0 < 0 then sl.set j a else sl).length = sl.length := by split <;> simp
    obtain ⟨h1, h2⟩ := FP t (if sl.getD j 0 < 0 then sl.set j a else sl) (by rw [hl]; exact fun q hq => h q (List.mem_cons_of_mem _ hq))
    refine ⟨by rw [sT, h1, hl], fun k hk => ?_⟩
    rw [sT, h2 k (by rw [hl]; exact hk)]
    congr 1
    have hg : ∀ (l : List Int) (hl2 : k < l.length), l.getD k 0 = l[k] := fun l hl2 => by simp [hl2]
    by_cases hjk : j = k
    · subst hjk
      by_cases h0 : sl.getD j 0 < 0
      · simp only [if_pos h0]
        have e : (sl.set j (a : Int)).getD j 0 = a := by simp [hk]
        rw [e, if_neg (by omega)]
        simp
      · simp only [if_neg h0]
    · have hb : (((j, a) : Nat × Nat).1 == k) = false := by simpa using hjk
      have e : (if sl.getD j 0 < 0 then sl.set j (a : Int) else sl).getD k 0 = sl.getD k 0 := by
        split
        · simp [List.getElem?_set, hjk]
        · rfl
      rw [e]
      simp only [List.find?_cons, hb]
theorem PE {n len : Nat} {t : dS} (hn : 2 ≤ n) (h : NOk n t) : sT (((List.replicate n (-1 : Int)).set 0 0).set 1 len) t = xZ n len (some t) := by
  have hl : (((List.replicate n (-1 : Int)).set 0 0).set 1 (len : Int)).length = n := by simp
  obtain ⟨h1, h2⟩ := FP t (((List.replicate n (-1 : Int)).set 0 0).set 1 len) (by rw [hl]; exact h)
  apply List.ext_getElem?
  intro k
  by_cases hk : k < n
  · rw [h2 k (by rw [hl]; exact hk)]
    have hnone : ∀ j, j < 2 → t.find? (fun q => q.1 == j) = none := fun j hj => by
      rw [List.find?_eq_none]
      intro q hq
      have := h q hq
      simp; omega
    simp only [xZ, tT]
    by_cases k1 : k = 1
    · subst k1
      simp only [List.getD_eq_getElem?_getD]
      simp [hk]
      intro h; omega
    · by_cases k0 : k = 0
      · subst k0; simp [hk]
      · have e : (((List.replicate n (-1 : Int)).set 0 0).set 1 (len : Int)).getD k 0 = -1 := by simp [List.getElem?_set, Ne.symm k1, Ne.symm k0, hk]
        rw [e]
        simp [List.getElem?_set, Ne.symm k1, Ne.symm k0, hk, qT]
        cases List.find? (fun q => q.1 == k) t <;> rfl
  · rw [List.getElem?_eq_none (by rw [h1, hl]; omega), List.getElem?_eq_none (by simp [xZ, tT]; omega)]
theorem RG {n k : Nat} (hk : k < n) : (List.replicate k (iv (-1)) ++ List.replicate (n - k) (iv 0)).set k (iv (-1)) = List.replicate (k + 1) (iv (-1)) ++ List.replicate (n - (k + 1)) (iv 0) := by
  rw [List.set_append_right _ _ (by simp)]
  simp only [List.length_replicate, Nat.sub_self]
  rw [show n - k = (n - (k + 1)) + 1 by omega, List.replicate_succ, List.set_cons_zero, List.replicate_succ' (n := k), List.append_assoc]
  rfl
theorem PU : Try.prog.underlying 49 = some (.pointer (Try.prog.pointee 49)) := by kernel_rfl
theorem NT (n : Nat) : qJ #[.int .i64 0] n = List.replicate 0 (iv (-1)) ++ List.replicate (n - 0) (iv 0) := by
  simp only [qJ, List.replicate_zero, List.nil_append, Nat.sub_zero]
  induction n with
  | zero => rfl
  | succ n ih => rw [List.replicate_succ, List.flatten_cons, ih, List.replicate_succ]; rfl
theorem IX {X : List Nat} {w : World} {vs : List Value} {p : Prg} (hp : RPrg X w vs p) (hsp : iX p) (s : ByteArray) (hs : s.size ≤ 2097152) :
    Calls Try.prog 17 #[.agg vs.toArray, .string s] w (Ret fun v w' => ∃ a n c l ob, v = .slice a n c ∧ OwnS w' 3 1 a n c (List.map iv l) ob ∧ Ge w ob ∧ zL p s l ∧ Evo [] w w') := by
  have hp0 := hp; obtain ⟨hok, pi0, pn0, rfl, hiv, hnv⟩ := hp; have hst0 := hok.start; have hgr := hok.groups; have hil := hok.ilen; have hnl := hok.nlen; obtain ⟨a3, c3, rfl, hl3, e3⟩ := hiv; obtain ⟨a4, c4, rfl, hl4, e4⟩ := hnv; obtain ⟨hh1, hh2, hh3, hh4, hh5, hh6, hh7⟩ := hsp.1; refine bE (N := 64) Try.func17 rfl rfl rfl ?_; refine csr (gD rfl rfl fun b1 w2 b5 d9 d3 => ?_); have b6 := (Evo.refl [] w).then d3; refine wan (csr (aA (bW rfl kQ fZ b5 rfl) (aB (aL (vs := [_, _]) zG rfl (AD (RPrg.pers _ _ _ _ _ ((b6).any X) hp0) hsp s hs) rfl ?_)))); rintro _ w8 ⟨nv, b, r, W', rfl, hpk, hres, b7⟩; have L := b6.then b7; obtain ⟨W2, hdr, -⟩ := pk_dr (IJ s) (TC s) _ 0 rfl hpk; refine aB (aA (bN rfl rfl) ?_); refine aA (bN rfl rfl) ?_; refine bX (wan (aI (csr (aB (aA (dR rfl) ?_))))); refine wnn (fG rfl (fun B => ?_) (fun B => ?_))
  ·have hr : r = none := by rcases hres with h | ⟨t, _, h, _⟩; { exact h.1 }; { rw [h] at B; cases B }
   refine csr (wan (aH (aE (br1 ?_))))
   exact ⟨none, 0, 0, [], none, rfl, OwnS.nil _ _ _, Ge.nil _, .inr ⟨hsp, none, W2, by rw [← hr]; exact hdr, rfl⟩, L⟩
  obtain ⟨t0, hrt, hb, hNt⟩ : ∃ t, r = some t ∧ b = true ∧ RNote [] _ nv t := by rcases hres with h | h; { rw [h.2] at B; cases B }; { exact h }
  obtain ⟨q0, rfl⟩ := hNt.ptr
  have hN : ((rA p : Nat) : Int) = 2 * (p.groups + 1) := by unfold rA; omega
  have hnok0 := dr_ok hsp hdr (by intro x hx; simp [FA] at hx; subst hx; intro q hq; cases hq) t0 hrt
  obtain ⟨N, hNN⟩ : ∃ N, rA p = N := ⟨_, rfl⟩; rw [hNN] at hN
  have hnok : NOk N t0 := by rw [← hNN]; exact hnok0
  refine aM (aC (csr (wfl rfl vU rfl aT (b7.blk0 b5) rfl ?_))); refine aA (aK rfl rfl (by omega) (by omega)) ?_; refine aA (fD rfl rfl (by omega) (by omega)) ?_; refine LE (len := N) (c := N) rfl rfl rfl yS (by omega) (by omega) (by omega) (by decide) (by omega) (by omega) fun gS d4 b8 a7 a8 => ?_; have M := Ge.new L a7; have O := Ge.new (Evo.refl [] w8) a7; have hgS : Ge w (some gS) := M; have hgS1 := O; refine wan (aI (csr (aB (aA (aZ rfl Try.underlying30 rfl) ?_)))); refine aB (wnn (bJ ?_))
  refine dA (α := Nat) (0) (fun k => [(25, .int .i64 (k : Nat))]) [(1, _), (4, _), (5, _), (7, _), (24, _)] (fun k wr => Evo [gS] d4 wr ∧ (k ≤ N ∧ OwnS wr 3 1 (some ⟨gS, 0, none⟩) N N (List.replicate k (iv (-1)) ++ List.replicate (N - k) (iv 0)) (some gS))) (fun k => N - k) ⟨rfl, trivial⟩ ⟨rfl, rfl, rfl, rfl, rfl, trivial⟩ ⟨Evo.refl _ _, ⟨Nat.zero_le _, by rw [NT] at b8; exact b8⟩⟩ ?_
  rintro k wr23 ⟨I, ⟨hk, hSk⟩⟩; show CW _ _ _ _ [(25, _), (1, _), (4, _), (5, _), (7, _), (24, _)] _; refine csr (aA (cU rfl rfl) ?_); refine wnn (aI (aW rfl (fun c5 => ?_) (fun c5 => ?_)))
  ·refine aM (aC (aI (bJ (csr (aB (wan (aG (aB (aB ?_))))))))); refine aA (cG (n := k) rfl rfl dB (by omega)) ?_
   obtain ⟨g36, cur27, hg28, hx29, hcu30, hcs31, -⟩ := hSk.at (by omega)
   cases hx29; refine fW rfl rfl (rfl) bY hcu30 (hSk.inb hcs31 (k := k) (j := 0) (by omega) (by omega) (by omega)) fun d5 c6 U => ?_; replace U := jQ hg28 U
   have c7 := I.step U (by intro y hy; left; simpa using hy)
   have b9 : OwnS d5 3 1 (some ⟨gS, 0, none⟩) N N ((List.replicate k (iv (-1)) ++ List.replicate (N - k) (iv 0)).set (0 + k * 1) (iv (-1))) (some gS) := (hSk.set' hg28 hcu30 c6); rw [show 0 + k * 1 = k by omega, RG (by omega)] at b9; refine aQ (aP (aC (aG ?_))); refine aA (aK rfl rfl (by omega) (by omega)) ?_; refine aB (aQ (bA ?_)); refine ⟨k + 1, ?_, ⟨rfl, trivial⟩, ⟨rfl, rfl, rfl, rfl, rfl, trivial⟩, c7, ?_⟩
   · omega
   exact ⟨by omega, b9⟩
  have hkN : k = N := by omega
  have a9 : OwnS wr23 3 1 (some ⟨gS, 0, none⟩) N N (List.map iv (List.replicate N (-1 : Int))) (some gS) := by have h := hSk; rw [hkN, Nat.sub_self, List.replicate_zero, List.append_nil, ← List.map_replicate (f := iv)] at h; exact h
  refine cN (bL (bL (cM (aC ?_)))); refine csr (aB (aB (aB (aA (bR rfl Try.underlying9 rfl) ?_)))); refine aA (cG (n := 0) rfl rfl dB (by omega)) ?_
  obtain ⟨g49, cur40, hg41, hx42, hcu43, hcs44, -⟩ := a9.at (by omega)
  cases hx42; refine fW rfl rfl (rfl) bY hcu43 (a9.inb hcs44 (k := 0) (j := 0) (by omega) (by omega) (by omega)) fun e0 c8 D => ?_; replace D := jQ hg41 D; have V := a9.set' hg41 hcu43 c8
  have c9 := I.step D (by intro y hy; left; simpa using hy)
  refine aA (cG (n := 1) rfl rfl dB (by omega)) ?_
  obtain ⟨g62, cur53, hg54, hx55, hcu56, hcs57, -⟩ := V.at (by omega)
  cases hx55; refine fW rfl rfl (rfl) bY hcu56 (V.inb hcs57 (k := 1) (j := 0) (by omega) (by omega) (by omega)) fun d6 d0 F => ?_; replace F := jQ hg54 F
  have d8 := c9.step F (by intro y hy; left; simpa using hy)
  have c0 : OwnS d6 3 1 (some ⟨gS, 0, none⟩) N N (((List.map iv (List.replicate N (-1 : Int))).set (0 + 0 * 1) (iv 0)).set (0 + 1 * 1) (iv (s.size : Nat))) (some gS) := (V.set' hg54 hcu56 d0); rw [show 0 + 0 * 1 = 0 by rfl, show 0 + 1 * 1 = 1 by rfl, ← List.map_set, ← List.map_set] at c0; refine wnn (aI (csr (aB (wan (bJ ?_))))); refine dA (α := dS × Option Addr × List Int) ((t0, q0, ((List.replicate N (-1 : Int)).set 0 0).set 1 (s.size : Nat))) (fun x => [(9, .pointer x.2.1)]) [(4, _), (7, _)] (fun x wr => Evo [] w wr ∧ (OwnS wr 3 1 (some ⟨gS, 0, none⟩) N N (List.map iv x.2.2) (some gS) ∧ x.2.2.length = N ∧ RNote [gS] wr (.pointer x.2.1) x.1 ∧ NOk N x.1 ∧ sT x.2.2 x.1 = xZ N s.size (some t0))) (fun x => x.1.length) ⟨rfl, trivial⟩ ⟨rfl, rfl, trivial⟩ ⟨((((L.then a8).step I (hgS.mem1)).step D M.mem).step F M.mem), ⟨c0, by simp, (hNt.step (((((Evo.refl [] w8).then a8).step I (hgS1.mem1)).step D O.mem).step F O.mem) (fun y hy => .inr (hgS1 y (by rw [List.mem_singleton.1 hy])))), hnok, PE (by omega) hnok⟩⟩ ?_; rintro ⟨t, q, sl⟩ wr66 ⟨a0, ⟨hS, hsl, hNt, hnk, hfl⟩⟩; show CW _ _ _ _ [(9, .pointer q), (4, _), (7, _)] _
  try dsimp only at hS hsl hNt hnk hfl
  have b4 := Evo.refl ([gS]) wr66; refine aI (csr (aB (aA (UM rfl rfl PU) ?_))); refine wnn (fG rfl (fun a1 => ?_) (fun a1 => ?_))
  ·obtain ⟨nb, k, pa, q1, t1, rfl, rfl, hnx, hnb, c1⟩ := hNt.open a1
   have hns : Apart (some nb) (some gS) := fun y h1 h2 => by cases h1; cases h2; exact hnx (by simp)
   have hkN := hnk (k, pa) (List.mem_cons_self ..)
   dsimp only at hkN
   have hget : (List.map iv sl)[k]? = some (iv (sl.getD k 0)) := by simp [show k < sl.length by omega]
   refine aM (aC (aI (bJ (csr (aB (aB (aA (aF rfl) (wfl rfl vR rfl aT hnb rfl ?_)))))))); refine aA (cG (n := k) rfl rfl dB (by omega)) ?_; refine aA (aS rfl aT (hS.get1 hget)) (aA (cU rfl rfl) ?_); refine wnn (aW rfl (fun a2 => ?_) (fun a2 => ?_))
   ·refine fT (fun w0 w' => Evo [] w0 w') (by kernel_rfl) (fun A J => ?_); have a5 := hS.evo0 J; have a6 := J.blk0 hnb; refine aet 0 rfl (fun _ hS => aX rfl) (Evo.refl [] A) ?_; refine aet 1 rfl (fun _ hS => aX rfl) (Evo.refl [] A) ?_; refine aet 2 rfl (fun _ hS => aF rfl) (Evo.refl [] A) ?_; refine aet 3 rfl (fun _ hS => aD rfl vR) (Evo.refl [] A) ?_; refine aet 4 rfl (fun _ hS => aS rfl aT (aY (hS.blk0 a6) rfl)) (Evo.refl [] A) ?_; refine aet 5 rfl (fun _ hS => aX rfl) (Evo.refl [] A) ?_; refine aet 6 rfl (fun _ hS => aF rfl) (Evo.refl [] A) ?_; refine aet 7 rfl (fun _ hS => aD rfl GW) (Evo.refl [] A) ?_; refine aet 8 rfl (fun _ hS => aS rfl aT (aY (hS.blk0 a6) rfl)) (Evo.refl [] A) ?_; refine aet 9 rfl (fun _ hS => cG (n := k) rfl rfl dB (by omega)) (Evo.refl [] A) ?_; refine bV [10] (by kernel_rfl) rfl ⟨?_, trivial⟩; refine cA rfl ?_
    obtain ⟨g84, cur75, hg76, hx77, hcu78, hcs79, -⟩ := a5.at (by omega)
    cases hx77; refine fW rfl rfl (rfl) bY hcu78 (a5.inb hcs79 (k := k) (j := 0) (by omega) (by omega) (by omega)) fun d7 d1 H => ?_; replace H := jQ hg76 H; have d2 := (b4.then J).step H (fun y hy => .inl (by simpa using hy)); have c2 : OwnS d7 3 1 (some ⟨gS, 0, none⟩) N N ((List.map iv sl).set (0 + k * 1) (iv (pa : Nat))) (some gS) := (a5.set' hg76 hcu78 d1); rw [show 0 + k * 1 = k by omega, ← List.map_set] at c2; refine aQ (bO (.inr (by kernel_rfl)) ?_); refine dH (by kernel_rfl) (aP (aC ?_)); refine aG (aB (aA (aF rfl) (wfl rfl vQ rfl kP (H.blk a6 hns.nmem) rfl (bX (aQ (bA ?_)))))); refine ⟨(t1, q1, sl.set k pa), ?_, ⟨rfl, trivial⟩, ⟨rfl, rfl, trivial⟩, ((a0.then J).step H hgS.mem), ?_⟩
    · (try dsimp only); simp
    try dsimp only
    exact ⟨c2, by rw [List.length_set]; exact hsl, c1.step d2 (fun y hy => .inl hy), fun q hq => hnk q (List.mem_cons_of_mem _ hq), by rw [← hfl, sT, if_pos a2]⟩
   refine aM (aP (aC (aG (aB (aA (aF rfl) (wfl rfl vQ rfl kP hnb rfl (bX (aQ (bA ?_))))))))); refine ⟨(t1, q1, sl), ?_, ⟨rfl, trivial⟩, ⟨rfl, rfl, trivial⟩, a0, ?_⟩
   · (try dsimp only); simp
   try dsimp only
   exact ⟨hS, hsl, c1.step b4 (fun y hy => .inl hy), fun q hq => hnk q (List.mem_cons_of_mem _ hq), by rw [← hfl, sT, if_neg a2]⟩
  refine cN (bL (bL (cM (aC ?_)))); refine csr (aB (wan (aH (br1 ?_)))); have hz := hNt.shut a1; subst hz
  exact ⟨_, _, _, sl, _, rfl, hS, hgS, .inr ⟨hsp, some t0, W2, by rw [← hrt]; exact hdr, by rw [hNN]; exact hfl⟩, a0⟩
end Go.Proofs.Ytidpigbinpaaeaa
namespace Go.Proofs.Ytidpigbinpaaeaa
open Go.RowKit Go.W
theorem CK {rs : List Int} {r : Int} {i j : Nat} : Mt rs (lD r) i j ↔ j = i + 1 ∧ rs[i]? = some r := by
  unfold lD; rw [Mt]; simp
def bS : ByteArray := ByteArray.mk #[40, 97, 41, 98, 42]
def bT : Rx := sQ 4 [kC 1 emp (lD 97), jD 0 (-1) false (lD 98)]
theorem bS_asc : ∀ k, k < bS.size → sb bS k < 128 := by rw [show bS.size = 5 from rfl]; decide +kernel
theorem AY {s : ByteArray} {ex : PS → PX Rx} {st st2 : PS} {x : Rx} (h : isB s st.pos 40) (hq : ¬ isB s (st.pos + 1) 63) (ho : st.opn ≠ 250) (hl : ¬ PY emp st.names) (hx : ex ⟨st.pos + 1, st.now, st.opn + 1, st.names ++ [emp]⟩ = .ok (x, st2)) (hc : isB s st2.pos 41) : dZ s ex st = .ok ([kC ((st.names.length : Int) + 1) emp x], { st2 with pos := st2.pos + 1, opn := st2.opn - 1, now := st.now }) := by
  rw [br_open h, yJ (xJ (fun h2 => hq h2.2)) (by simp) ho (by simp) (fun h3 => hl h3.2)]
  show (match ex ⟨st.pos + 1, st.now, st.opn + 1, if true = true then st.names ++ [emp] else st.names⟩ with | .error e => _ | .ok (x, st2) => _) = _
  rw [if_pos rfl, hx]
  simp only
  rw [if_pos hc]
  rfl
theorem VJ : kS bS 250 st0 = .ok (bT, ⟨5, flz, 0, [emp]⟩) := by
  obtain ⟨ex, he⟩ := LW bS 249
  have e0 : kS bS 249 ⟨1, flz, 1, [emp]⟩ = .ok (lD 97, ⟨2, flz, 1, [emp]⟩) := by
    rw [he]
    refine pE (st2 := ⟨2, flz, 1, [emp]⟩) ?_ (by decide +kernel)
    show iB bS ex 6 [] false ⟨1, flz, 1, [emp]⟩ = _
    rw [GP (c := 97) (by decide +kernel) (by decide), mT (st := gT ⟨1, flz, 1, [emp]⟩ 2) (.inr (.inr (by decide +kernel)))]
    show Except.ok (mA flz 97, _) = _
    rw [xS rfl (by decide) (by decide)]
    rfl
  have e1 : dZ bS (kS bS 249) st0 = .ok ([kC 1 emp (lD 97)], ⟨3, flz, 0, [emp]⟩) := AY (st := st0) (st2 := ⟨2, flz, 1, [emp]⟩) (by decide +kernel) (by decide +kernel) (by decide) (fun h => h.elim (by decide) (fun h3 => h3.1 rfl)) e0 (by decide +kernel)
  show kE bS (kS bS 249) st0 = _
  refine pE (st2 := ⟨5, flz, 0, [emp]⟩) ?_ (by decide +kernel)
  show iB bS (kS bS 249) 6 [] false st0 = _
  rw [kI (c := 40) (by decide +kernel) (by decide) e1, GP (c := 98) (st := ⟨3, flz, 0, [emp]⟩) (by decide +kernel) (by decide)]
  have hr : lG (bS.extract 4 bS.size) = (0, -1, 1) := by decide +kernel
  rw [uG (lo := 0) (hi := -1) (nn := 1) (st := gT ⟨3, flz, 0, [emp]⟩ 4) (by decide +kernel) hr (by decide) (by decide) (by decide +kernel), mT (.inl (by decide +kernel))]
  show Except.ok (qN 4 [kC 1 emp (lD 97), jD 0 (-1) false (mA flz 98)], _) = _
  rw [xS rfl (by decide) (by decide)]
  rfl
theorem uF : eC bS = .ok bT := EE (by decide +kernel) ⟨_, rX bS_asc⟩ VJ (by decide +kernel)
theorem JL : fS bT = [emp] := by
  obtain ⟨-, st, h1, -, -, q, h4⟩ := pR uF
  rw [VJ] at h1
  cases h1
  unfold fS; rw [h4]
theorem bT_esz : bT.esz = 6 - 0 - 0 := by decide +kernel
theorem utf_one {t : ByteArray} (h : ∀ k, k < t.size → sb t k < 128) {M : Nat} (hM : Utf t M) : M = t.size := by
  have h1 := rX h
  exact QF hM.2 (.inl hM.1) h1
theorem bT_mt {rs : List Int} {n : Nat} : Mt rs bT 0 n ↔ rs[0]? = some 97 ∧ ∃ c, It (Mts rs [lD 98]) c 1 n := by
  unfold bT sQ; rw [Mt]
  simp only [show (4 : Int) ≠ 1 by decide, show (4 : Int) ≠ 2 by decide, show (4 : Int) ≠ 3 by decide, show (4 : Int) ≠ 5 by decide, show (4 : Int) ≠ 6 by decide, show (4 : Int) ≠ 7 by decide, show ¬ (8 : Int) ≤ 4 by decide, false_and, false_or, or_false, true_and]
  unfold kC jD
  rw [Mts]
  constructor
  · rintro ⟨k, h1, h2⟩
    rw [Mt] at h1
    simp at h1
    rw [Mts] at h1
    obtain ⟨k1, h3, h4⟩ := h1
    rw [Mts] at h4
    subst h4
    obtain ⟨rfl, h5⟩ := CK.1 h3
    rw [Mts] at h2
    obtain ⟨k2, h6, h7⟩ := h2
    rw [Mts] at h7
    subst h7
    rw [Mt] at h6
    simp at h6
    exact ⟨h5, h6⟩
  · rintro ⟨h1, c, h2⟩
    refine ⟨1, ?_, ?_⟩
    · rw [Mt]
      simp
      rw [Mts]
      exact ⟨1, CK.2 ⟨rfl, h1⟩, by rw [Mts]⟩
    · rw [Mts]
      refine ⟨n, ?_, by rw [Mts]⟩
      rw [Mt]
      simp
      exact ⟨c, h2⟩
theorem abb_yes : ∃ M, Utf (ByteArray.mk #[97, 98, 98]) M ∧ Mt (dO (ByteArray.mk #[97, 98, 98]) M) bT 0 M := by
  refine ⟨3, rX (by rw [show (ByteArray.mk #[97, 98, 98]).size = 3 from rfl]; decide +kernel), ?_⟩
  rw [show dO (ByteArray.mk #[97, 98, 98]) 3 = [97, 98, 98] by decide +kernel, bT_mt]
  refine ⟨rfl, 2, 2, ?_, 3, ?_, rfl⟩
  · rw [Mts]; exact ⟨2, CK.2 ⟨rfl, rfl⟩, by rw [Mts]⟩
  · rw [Mts]; exact ⟨3, CK.2 ⟨rfl, rfl⟩, by rw [Mts]⟩
theorem ba_no : ¬ ∃ M, Utf (ByteArray.mk #[98, 97]) M ∧ Mt (dO (ByteArray.mk #[98, 97]) M) bT 0 M := by
  rintro ⟨M, hU, h⟩
  obtain rfl : M = 2 := utf_one (by rw [show (ByteArray.mk #[98, 97]).size = 2 from rfl]; decide +kernel) hU
  rw [show dO (ByteArray.mk #[98, 97]) 2 = [98, 97] by decide +kernel, bT_mt] at h
  have := h.1
  simp at this
section
variable {l : List In} {n : Nat} (hP : ProgOk bT l n)
include hP
theorem bT_prog : n = 6 ∧ l[0]? = some ⟨4, 1, 0, 2, []⟩ ∧ l[1]? = some ⟨2, 2, 0, 0, [(97, 97)]⟩ ∧ l[2]? = some ⟨4, 3, 0, 3, []⟩ ∧ l[3]? = some ⟨3, 4, 6, 0, []⟩ ∧ l[4]? = some ⟨2, 5, 0, 0, [(98, 98)]⟩ ∧ l[5]? = some ⟨10, 3, 0, 0, []⟩ ∧ l[6]? = some ⟨1, 0, 0, 0, []⟩ := by
  have hb := hP.blk
  have hl := hP.last
  unfold bT sQ at hb
  rw [Blk] at hb
  obtain ⟨-, -, -, b4, -⟩ := hb
  have h1 := b4 rfl
  unfold kC jD lD at h1
  rw [gQ] at h1
  obtain ⟨m, h2, h3⟩ := h1
  rw [Blk] at h2
  obtain ⟨-, -, -, -, -, -, b7, -⟩ := h2
  obtain ⟨q, g1, g2, g3, rfl⟩ := b7 rfl
  rw [gQ] at g2
  obtain ⟨q1, g4, g5⟩ := g2
  rw [gQ] at g5
  subst g5
  rw [Blk] at g4
  obtain ⟨-, c2, -⟩ := g4
  obtain ⟨rfl, g6⟩ := c2 rfl
  rw [gQ] at h3
  obtain ⟨m2, h4, h5⟩ := h3
  rw [gQ] at h5
  subst h5
  rw [Blk] at h4
  obtain ⟨-, -, -, -, -, b6, -⟩ := h4
  obtain ⟨m3, r1, r2, -⟩ := b6 rfl
  have r1' : 0 + 1 + 1 + 1 = m3 := r1
  subst r1'
  obtain ⟨m4, r3, r4, r5, rfl⟩ := r2 rfl
  rw [gQ] at r4
  obtain ⟨q3, r6, r7⟩ := r4
  rw [gQ] at r7
  subst r7
  rw [Blk] at r6
  obtain ⟨-, d2, -⟩ := r6
  obtain ⟨rfl, r8⟩ := d2 rfl
  exact ⟨rfl, g1, g6, g3, r3, r8, r5, hl⟩
abbrev abT : ByteArray := ByteArray.mk #[97, 98]
theorem ab_run {ls : List Int} (h : zL ⟨l, 0, 1, [emp]⟩ abT ls) (hs : iX ⟨l, 0, 1, [emp]⟩) : ls = [0, 2, 0, 1] := by
  obtain ⟨-, h0, h1, h2, h3, h4, h5, h6⟩ := bT_prog hP
  obtain ⟨-, r, W', hd, rfl⟩ := h.resolve_left (fun h9 => h9.1 hs)
  have n0 : bH abT 0 = (97, 1) := by decide +kernel
  have n1 : bH abT 1 = (98, 1) := by decide +kernel
  have m0 : dE ⟨l, 0, 1, [emp]⟩ abT 0 0 = .save 2 1 := by unfold dE; rw [h0]; rfl
  have m1 : dE ⟨l, 0, 1, [emp]⟩ abT 0 1 = .rune (some 2) := by unfold dE; rw [h1]; simp [mvI, n0, lU]
  have m2 : dE ⟨l, 0, 1, [emp]⟩ abT 1 2 = .save 3 3 := by unfold dE; rw [h2]; rfl
  have m3 : ∀ a, dE ⟨l, 0, 1, [emp]⟩ abT a 3 = .split 4 6 := fun a => by unfold dE; rw [h3]; rfl
  have m4 : dE ⟨l, 0, 1, [emp]⟩ abT 1 4 = .rune (some 5) := by unfold dE; rw [h4]; simp [mvI, n1, lU]
  have m4' : ∃ o, dE ⟨l, 0, 1, [emp]⟩ abT 2 4 = .rune o := by unfold dE; rw [h4]; exact ⟨_, rfl⟩
  have m5 : dE ⟨l, 0, 1, [emp]⟩ abT 2 5 = .go 3 := by unfold dE; rw [h5]; rfl
  have m6 : dE ⟨l, 0, 1, [emp]⟩ abT 2 6 = .mat := by unfold dE; rw [h6]; rfl
  have x0 : gF abT 0 = some 1 := by unfold gF; rw [n0]; rfl
  have x1 : gF abT 1 = some 2 := by unfold gF; rw [n1]; rfl
  have hd2 : ∃ W2, Dr (dE ⟨l, 0, 1, [emp]⟩ abT) (gF abT) 2 [(0, 0, [])] (fun _ _ => false) (some [(3, 1), (2, 0)]) W2 :=
    ⟨_, .save rfl m0 (.rune rfl m1 (by decide) x0 (.save rfl m2 (.split rfl (m3 1) (.rune rfl m4 (by decide) x1 (.go rfl m5 (.split rfl (m3 2) (.miss rfl (.inr ⟨m4', .inl rfl⟩) (.found rfl m6 rfl))))))))⟩
  obtain ⟨W2, hd2⟩ := hd2
  rw [hd.uniq hd2]
  rfl
end
end Go.Proofs.Ytidpigbinpaaeaa
namespace Go.Proofs.Ytidpigbinpaaeaa
open Go.RowKit Go.W
attribute [local irreducible] Decidable.decide
theorem LA : dY Try.prog 10 := ⟨_, Try.func10, by kernel_rfl, by kernel_rfl⟩
theorem KZ : dY Try.prog 11 := ⟨_, Try.func11, by kernel_rfl, by kernel_rfl⟩
theorem KW : dY Try.prog 17 := ⟨_, Try.func17, by kernel_rfl, by kernel_rfl⟩
theorem PV : dY Try.prog 4 := ⟨_, Try.func4, by kernel_rfl, by kernel_rfl⟩
theorem sK : dY Try.prog 5 := ⟨_, Try.func5, by kernel_rfl, by kernel_rfl⟩
theorem nA : dY Try.prog 7 := ⟨_, Try.func7, by kernel_rfl, by kernel_rfl⟩
theorem pI : dY Try.prog 9 := ⟨_, Try.func9, by kernel_rfl, by kernel_rfl⟩
def RZ : Rel Int := fun _ _ vs z => vs = [iv z]
theorem sA {X : List Nat} {w : World} {e : TypeId} {a : Option Addr} {n c : Nat} {l : List Int} {ob : Option Nat} (h : OwnS w e 1 a n c (l.map iv) ob) (hx : ∀ g, ob = some g → g ∉ X) : RSl 1 RZ X w (.slice a n c) l := by
  have e1 : (l.map fun z => [iv z]).flatten = l.map iv := by clear h; induction l with | nil => rfl | cons z l ih => simpa using ih
  have hl := h.length
  rw [← e1] at h
  exact RSl.ofOwn h ⟨by simp, fun k h1 h2 => by simp only [List.getElem_map]; exact ⟨rfl, rfl⟩⟩ (by simpa using hl) hx
theorem same_ok {X Y : List Nat} {w : World} {v1 v2 : Value} {d1 d2 : List Int} (h1 : RSl 1 RZ X w v1 d1) (h2 : RSl 1 RZ Y w v2 d2) (hl : d1.length ≤ 140737488355328) (hl' : d2.length ≤ 140737488355328) :
    Calls Try.prog 11 #[v1, v2] w (Ret fun v w' => v = .bool (decide (d1 = d2)) ∧ Evo [] w w') := by
  obtain ⟨a1, c1, rfl, hlc1, e1⟩ := h1; obtain ⟨a2, c2, rfl, hlc2, e2⟩ := h2; refine bE (N := 26) Try.func11 rfl rfl rfl ?_; refine csr (wan (aI (csr (aB (aA (aZ rfl Try.underlying30 rfl) ?_))))); refine aB (aA (aZ rfl Try.underlying30 rfl) ?_); refine aA (gE rfl rfl) ?_; refine wnn (aW rfl (fun F => ?_) (fun F => ?_))
  ·refine csr (wan (aH (aE (br1 ?_)))); exact ⟨congrArg Value.bool (decide_eq_false (fun h => F (by rw [h]))).symm, (Evo.refl [] w)⟩
  refine aM (aC (aI (csr (aB (aA (aZ rfl Try.underlying30 rfl) ?_))))); refine aB (wnn (bJ (dA (α := Nat) (0) (fun k => [(13, .int .i64 (k : Nat))]) [(0, _), (1, _), (12, _)] (fun k wr => Evo [] w wr ∧ (k ≤ d1.length ∧ d1.take k = d2.take k)) (fun k => d1.length - k) ⟨rfl, trivial⟩ ⟨rfl, rfl, rfl, trivial⟩ ⟨Evo.refl _ _, ⟨Nat.zero_le _, rfl⟩⟩ ?_))); rintro k wr1 ⟨H, ⟨hk, hpre⟩⟩; show CW _ _ _ _ [(13, _), (0, _), (1, _), (12, _)] _; have D := (Evo.refl [] w).then H; refine csr (aA (cU rfl rfl) ?_); refine wnn (aI (aW rfl (fun I => ?_) (fun I => ?_)))
  ·obtain ⟨b1, o1, vs1, ha1, hb1, -, J, rfl⟩ := e1 k (by omega); obtain ⟨b2, o2, vs2, ha2, hb2, -, L, rfl⟩ := e2 k (by omega); refine aM (aC (aI (bJ (csr (aB (wan (aI ?_))))))); refine eH (by kernel_rfl) (by kernel_rfl) ?_; refine bD (fun _ A => aX rfl) ?_; refine bD (fun _ A => aX rfl) ?_
   refine bD (fun _ A => cG (n := k) (by rw [ha1]; rfl) rfl dB (by omega)) ?_
   refine bD (fun _ A => aS rfl aT ((J.evo (((D.then A)).any X) hb1) 0 _ rfl)) ?_; refine bD (fun _ A => aX rfl) ?_; refine bD (fun _ A => aX rfl) ?_
   refine bD (fun _ A => cG (n := k) (by rw [ha2]; rfl) rfl dB (by omega)) ?_
   refine bD (fun _ A => aS rfl aT ((L.evo (((D.then A)).any Y) hb2) 0 _ rfl)) ?_; refine bD (fun _ A => gE rfl rfl) ?_; refine eL (fun M A => aC ?_); refine aW rfl (fun B => ?_) (fun B => ?_)
   ·refine csr (wan (aH (aN (aE (aE (aN (aE (br1 ?_))))))))
    exact ⟨congrArg Value.bool (decide_eq_false (fun h => B (by subst h; rfl))).symm, (D.then A)⟩
   refine aM (aP (aC (aG ?_))); refine aA (aK rfl rfl (by omega) (by omega)) ?_; refine aB (aQ (bA ?_)); refine ⟨k + 1, ?_, ⟨rfl, trivial⟩, ⟨rfl, rfl, rfl, trivial⟩, (H.then A), ?_⟩
   · omega
   have h3 : d1[k] = d2[k] := by simpa using B
   exact ⟨by omega, by rw [List.take_succ_eq_append_getElem (by omega), List.take_succ_eq_append_getElem (by omega), hpre, h3]⟩
  refine cN (bL (bL (cM (aC ?_)))); refine csr (wan (aH (br1 ?_)))
  exact ⟨congrArg Value.bool (decide_eq_true (by rw [List.take_of_length_le (by omega), List.take_of_length_le (by omega)] at hpre; exact hpre)).symm, D⟩
theorem bS_fit : ¬ ((∃ e', eC bS = .error e') ∨ ∃ x, eC bS = .ok x ∧ 10000 < x.esz + 1) := by
  rintro (⟨e, h⟩ | ⟨x, h, h2⟩)
  · rw [uF] at h; cases h
  · rw [uF] at h; cases h
    rw [bT_esz] at h2; omega
theorem nD {w : World} {b : Nat} {s : ByteArray} {x : Rx} {l : List In} {n : Nat} (h : RgAt w b s x l n) (t : ByteArray) (ht : t.size ≤ 2097152) :
    Calls Try.prog 9 #[.pointer (some ⟨b, 0, none⟩), .string t] w (Ret fun v w' => ∃ a n c ls ob, v = .slice a n c ∧ OwnS w' 3 1 a n c (List.map iv ls) ob ∧ Ge w ob ∧ zL ⟨l, 0, (fS x).length, fS x⟩ t ls ∧ Evo [] w w') := by
  have hsnd := h.sound; obtain ⟨a, c, na, nc, hb, hi, hn⟩ := h.ex; refine bE (N := 13) Try.func9 rfl rfl rfl ?_; refine csr (wan (aI (csr (aB ?_)))); refine aA (kZ (r := .bool false) rfl rfl (fun w => by kernel_rfl)) ?_; refine wnn (cK rfl ?_); refine aM (aC (csr (aB (aA (aF rfl) (aA (aD rfl rR) (aA (cY (o := 1) rfl kQ fZ (vs := [.slice a l.length c, iv 0, iv (fS x).length, .slice na (fS x).length nc]) rfl (LL hb)) ?_)))))); refine aB (aL (vs := [_, _]) KW rfl (IX (RN h.prog hsnd h.len h.grp (RSl.evo RIn.pers (Evo.refl [] w) hi) (RSl.evo RStr.pers (Evo.refl [] w) hn)) hsnd t ht) rfl ?_); rintro _ w1 ⟨ga, gn, gc, ls, gob, rfl, hO, hgo, hR, A⟩; refine wan (aH (br1 ?_)); exact ⟨ga, gn, gc, ls, gob, rfl, hO, Ge.fresh (Evo.refl [] w) hgo, hR, ((Evo.refl [] w).then A)⟩
theorem VK {w : World} (hG : Glb w) : Calls Try.prog 4 #[] w (Ret fun v w' => v = .bool true ∧ Evo [] w w') := by
  refine bE (N := 33) Try.func4 rfl rfl rfl ?_; refine csr (wan (csr ?_)); refine aL (vs := [_]) sK rfl (BU bS (hG.evo (Evo.refl [] w) (by simp))) rfl ?_; rintro _ w1 ⟨M, p, e, rfl, hr⟩; have O := (Evo.refl [] w).then M; obtain ⟨rfl, b, x, l, n, rfl, -, hpx, hRg⟩ := hr.resolve_left (fun h9 => bS_fit h9.2.2); rw [uF] at hpx; cases hpx; refine aB (aA (bN rfl rfl) ?_); refine aA (bN rfl rfl) ?_; refine bX (wan (csr (aB (wel ?_)))); rw [show decide ((0 : Int) = 0) = true from decide_eq_true rfl]; refine aB (aO (aB (aO ?_))); refine aA (kZ (r := .bool true) rfl rfl (fun w => by kernel_rfl)) ?_; refine bQ (aB (aO (aB (aO ?_)))); refine aL (vs := [_, _]) nA rfl (pA (hRg.evo0 (Evo.refl [] w1)) (ByteArray.mk #[97, 98, 98]) (by decide)) rfl ?_; rintro _ w4 ⟨m1, rfl, hm1, H⟩; have A := (Evo.refl [] w1).then H; obtain rfl : m1 = true := hm1.2 abb_yes; refine bQ (aB (aO (aB (aO ?_)))); refine aL (vs := [_, _]) nA rfl (pA (hRg.evo0 A) (ByteArray.mk #[98, 97]) (by decide)) rfl ?_; rintro _ w8 ⟨m2, rfl, hm2, B⟩
  obtain rfl : m2 = false := by cases m2; rfl; exact (ba_no (hm2.1 rfl)).elim
  refine aO (aA (dR rfl) ?_); refine bQ (aB (aO (aB (aO (aL (vs := [_]) LA rfl (VA (hRg.evo0 (A.then B))) rfl ?_))))); rintro _ V ⟨rfl, D⟩; refine aO (wel ?_)
  rw [show decide (((fS bT).length : Int) = 1) = true from decide_eq_true (by rw [JL]; rfl)]
  refine bQ (aB (aO (aB (aO ?_)))); refine aL (vs := [_, _]) pI rfl (nD (hRg.evo0 ((A.then B).then D)) abT (by decide)) rfl ?_; rintro _ a0 ⟨ga, gn, gc, ls, gob, rfl, hO, hgo, hR, I⟩
  have hyes : decide (ls = [0, 2, 0, 1]) = true := decide_eq_true (ab_run hRg.prog (by have h9 := hR; rw [JL] at h9; exact h9) (by have h9 := hRg.sound; rw [JL] at h9; exact h9))
  refine aO (bM (vs := [_, _, _, _]) rfl rL rfl rfl rfl rfl fun a1 a2 J U F => ?_); refine aO ?_
  refine aL (vs := [_, _]) KZ rfl (same_ok (X := []) (Y := []) (sA (hO.evo0 F) (fun g _ h => by cases h)) (sA (l := [0, 2, 0, 1]) J (fun g _ h => by cases h)) (by have h9 := hyes; have h8 := of_decide_eq_true h9; rw [h8]; decide) (by decide)) rfl ?_
  rintro _ a3 ⟨rfl, L⟩; rw [hyes]; refine bQ (wan (aH (br1 ?_))); exact ⟨rfl, ((((((O.then H).then B).then D).then I).then F).then L)⟩
end Go.Proofs.Ytidpigbinpaaeaa
namespace Go.Proofs.Ytidpigbinpaaeaa
open Go.RowKit Go.W
abbrev fls : Fl := ⟨false, false, true, false⟩
abbrev xA : Rx := nC [(0, 1114111)]
abbrev rNon : Rx := nC [(0, 9), (11, 1114111)]
theorem TH : iZ (rs [(0, 1114111)]) = xA := TI (by decide) (by decide) (by decide) fun c => jB (g := (0, 1114111))
theorem TG : iZ (rs [(0, 9), (11, 1114111)]) = rNon := by
  have h : jC (rs [(0, 9), (11, 1114111)]) = [(0, 9), (11, 1114111)] := by
    refine pH ?_ (fun c => Iff.rfl)
    show iE 0 _
    rw [iE, iE, iE]
    refine ⟨?_, ?_, ?_, ?_, ?_, ?_, trivial⟩ <;> decide
  exact nJ h fun h9 => by simp at h9
def s1 : ByteArray := ByteArray.mk #[40, 63, 115, 41, 40, 46, 41, 42]
def s2 : ByteArray := ByteArray.mk #[40, 63, 115, 41, 46]
def s3 : ByteArray := ByteArray.mk #[46, 42]
def t1 : Rx := jD 0 (-1) false (kC 1 emp xA)
def t3 : Rx := jD 0 (-1) false rNon
theorem s1_asc : ∀ k, k < s1.size → sb s1 k < 128 := by rw [show s1.size = 8 from rfl]; decide +kernel
theorem s2_asc : ∀ k, k < s2.size → sb s2 k < 128 := by rw [show s2.size = 5 from rfl]; decide +kernel
theorem s3_asc : ∀ k, k < s3.size → sb s3 k < 128 := by rw [show s3.size = 2 from rfl]; decide +kernel
theorem uX {s : ByteArray} {ex : PS → PX Rx} {p o : Nat} {fl : Fl} {ns : List ByteArray} (h : sb s p = 46) (hn : bH s p = (46, 1)) : dZ s ex ⟨p, fl, o, ns⟩ = .ok ([if fl.dots = true then xA else rNon], ⟨p + 1, fl, o, ns⟩) := by
  rw [RS (st := ⟨p, fl, o, ns⟩) (by show ¬ sb s p = 40; omega) (by show ¬ sb s p = 91; omega) (by show ¬ sb s p = 92; omega)]
  unfold jG
  simp only [hn, if_pos]
  rw [TH, TG]
theorem AC {s : ByteArray} {ex : PS → PX Rx} (h : sb s 0 = 40) (ho : eX s 0 flz = ⟨4, emp, fls, false, true, 0⟩) : dZ s ex st0 = .ok ([], ⟨4, fls, 0, []⟩) := by
  rw [LQ (st := st0) h, VF (st := st0) ho rfl rfl]
  rfl
theorem QV : kS s1 250 st0 = .ok (t1, ⟨8, fls, 0, [emp]⟩) := by
  obtain ⟨ex, he⟩ := LW s1 249
  have e0 : kS s1 249 ⟨5, fls, 1, [emp]⟩ = .ok (xA, ⟨6, fls, 1, [emp]⟩) := by
    rw [he]
    refine pE (st2 := ⟨6, fls, 1, [emp]⟩) ?_ (by decide +kernel)
    show iB s1 ex 9 [] false ⟨5, fls, 1, [emp]⟩ = _
    rw [kI (c := 46) (by decide +kernel) (by decide) (uX (by decide +kernel) (by decide +kernel)), mT (.inr (.inr (by decide +kernel)))]
    rfl
  have e1 : dZ s1 (kS s1 249) st0 = .ok ([], ⟨4, fls, 0, []⟩) := AC (by decide +kernel) (by kernel_rfl)
  have e2 : dZ s1 (kS s1 249) ⟨4, fls, 0, []⟩ = .ok ([kC 1 emp xA], ⟨7, fls, 0, [emp]⟩) := AY (st := ⟨4, fls, 0, []⟩) (st2 := ⟨6, fls, 1, [emp]⟩) (by decide +kernel) (by decide +kernel) (by decide) (fun h => h.elim (by decide) (fun h3 => h3.1 rfl)) e0 (by decide +kernel)
  show kE s1 (kS s1 249) st0 = _
  refine pE (st2 := ⟨8, fls, 0, [emp]⟩) ?_ (by decide +kernel)
  show iB s1 (kS s1 249) 9 [] false st0 = _
  rw [kI (c := 40) (by decide +kernel) (by decide) e1, kI (c := 40) (by decide +kernel) (by decide) e2]
  have hr : lG (s1.extract 7 s1.size) = (0, -1, 1) := by decide +kernel
  rw [uG (lo := 0) (hi := -1) (nn := 1) (st := ⟨7, fls, 0, [emp]⟩) (by decide +kernel) hr (by decide) (by decide) (by decide +kernel), mT (.inl (by decide +kernel))]
  rfl
theorem tU : eC s1 = .ok t1 := EE (by decide +kernel) ⟨_, rX s1_asc⟩ QV (by decide +kernel)
theorem wY : eC s2 = .ok xA := by
  have e3 : kS s2 250 st0 = .ok (xA, ⟨5, fls, 0, []⟩) := by
    show kE s2 (kS s2 249) st0 = _
    refine pE (st2 := ⟨5, fls, 0, []⟩) ?_ (by decide +kernel)
    show iB s2 (kS s2 249) 6 [] false st0 = _
    rw [kI (c := 40) (by decide +kernel) (by decide) (AC (by decide +kernel) (by kernel_rfl)), kI (c := 46) (by decide +kernel) (by decide) (uX (by decide +kernel) (by decide +kernel)), mT (.inl (by decide +kernel))]
    rfl
  exact EE (by decide +kernel) ⟨_, rX s2_asc⟩ e3 (by decide +kernel)
theorem wX : eC s3 = .ok t3 := by
  have e3 : kS s3 250 st0 = .ok (t3, ⟨2, flz, 0, []⟩) := by
    show kE s3 (kS s3 249) st0 = _
    refine pE (st2 := ⟨2, flz, 0, []⟩) ?_ (by decide +kernel)
    show iB s3 (kS s3 249) 3 [] false st0 = _
    rw [kI (c := 46) (by decide +kernel) (by decide) (uX (by decide +kernel) (by decide +kernel))]
    have hr : lG (s3.extract 1 s3.size) = (0, -1, 1) := by decide +kernel
    rw [uG (lo := 0) (hi := -1) (nn := 1) (st := ⟨1, flz, 0, []⟩) (by decide +kernel) hr (by decide) (by decide) (by decide +kernel), mT (.inl (by decide +kernel))]
    rfl
  exact EE (by decide +kernel) ⟨_, rX s3_asc⟩ e3 (by decide +kernel)
theorem pM : fS t1 = [emp] := by
  obtain ⟨-, st, h1, -, -, q, h4⟩ := pR tU
  rw [QV] at h1
  cases h1
  unfold fS; rw [h4]
theorem CL {rs : List Int} {g : List (Int × Int)} {i j : Nat} : Mt rs (nC g) i j ↔ j = i + 1 ∧ ∃ c, rs[i]? = some c ∧ InR c g := by
  unfold nC; rw [Mt]; simp
theorem MJ {rs : List Int} {x : Rx} {i j : Nat} : Mt rs (jD 0 (-1) false x) i j ↔ ∃ c, It (Mts rs [x]) c i j := by
  unfold jD; rw [Mt]; simp
theorem mt_grp {rs : List Int} {n : Int} {nm : ByteArray} {x : Rx} {i j : Nat} : Mt rs (kC n nm x) i j ↔ Mt rs x i j := by
  unfold kC; rw [Mt]; simp
  rw [Mts]
  constructor
  · rintro ⟨k, h1, h2⟩; rw [Mts] at h2; subst h2; exact h1
  · intro h; exact ⟨j, h, by rw [Mts]⟩
theorem EV {rs : List Int} {x : Rx} {i j : Nat} : Mts rs [x] i j ↔ Mt rs x i j := by
  rw [Mts]
  constructor
  · rintro ⟨k, h1, h2⟩; rw [Mts] at h2; subst h2; exact h1
  · intro h; exact ⟨j, h, by rw [Mts]⟩
theorem wR {rs : List Int} {n : Nat} (hn : rs.length = n) {R : Nat → Nat → Prop} {S : Int → Prop} (hR : ∀ i j, R i j ↔ j = i + 1 ∧ ∃ c, rs[i]? = some c ∧ S c) : ∀ (d i : Nat), i + d = n → ((∃ c, It R c i n) ↔ ∀ k (h : k < rs.length), i ≤ k → S rs[k])
  | 0, i, h => by
    constructor
    · intro _ k hk hik; omega
    · intro _; exact ⟨0, by show i = n; omega⟩
  | d + 1, i, h => by
    have ih := wR hn hR d (i + 1) (by omega)
    have hi : i < rs.length := by omega
    constructor
    · rintro ⟨c, hc⟩
      cases c with
      | zero => have h9 : i = n := hc; omega
      | succ c =>
        obtain ⟨k, h1, h2⟩ := hc
        obtain ⟨rfl, c', h3, h4⟩ := (hR _ _).1 h1
        rw [List.getElem?_eq_getElem hi] at h3
        cases h3
        intro k hk hik
        by_cases e : k = i
        · subst e; exact h4
        · exact (ih.1 ⟨c, h2⟩) k hk (by omega)
    · intro hS
      obtain ⟨c, hc⟩ := ih.2 (fun k hk hik => hS k hk (by omega))
      exact ⟨c + 1, i + 1, (hR _ _).2 ⟨rfl, _, List.getElem?_eq_getElem hi, hS i hi (Nat.le_refl _)⟩, hc⟩
theorem MW {c : Int} : InR c [(0, 1114111)] ↔ 0 ≤ c ∧ c ≤ 1114111 := by unfold InR; simp
theorem MV {c : Int} : InR c [(0, 9), (11, 1114111)] ↔ 0 ≤ c ∧ c ≤ 1114111 ∧ c ≠ 10 := by
  unfold InR; simp
  constructor
  · rintro (h | h) <;> omega
  · intro h; omega
theorem BV {s : ByteArray} {N k : Nat} (hU : Utf s N) (h : k < (dO s N).length) : 0 ≤ (dO s N)[k] ∧ (dO s N)[k] ≤ 1114111 := by
  have := EA hU _ (List.getElem_mem h)
  unfold IsR at this; omega
theorem all_iff {s : ByteArray} : (∃ M, Utf s M ∧ Mt (dO s M) t1 0 M) ↔ ∃ M, Utf s M := by
  constructor
  · rintro ⟨M, h, -⟩; exact ⟨M, h⟩
  · rintro ⟨M, h⟩
    refine ⟨M, h, ?_⟩
    unfold t1
    rw [MJ]
    exact (wR (rs := dO s M) (iL s M) (R := Mts (dO s M) [kC 1 emp xA]) (S := fun c => InR c [(0, 1114111)]) (fun i j => by rw [EV, mt_grp, CL]) M 0 (by omega)).2 (fun k hk _ => MW.2 (BV h hk))
theorem TQ {s : ByteArray} : (∃ M, Utf s M ∧ Mt (dO s M) t3 0 M) ↔ ∃ M, Utf s M ∧ ∀ k, k < M → tW s k ≠ 10 := by
  have key : ∀ M, Utf s M → (Mt (dO s M) t3 0 M ↔ ∀ k, k < M → tW s k ≠ 10) := fun M h => by
    unfold t3
    rw [MJ]
    rw [wR (rs := dO s M) (iL s M) (R := Mts (dO s M) [rNon]) (S := fun c => InR c [(0, 9), (11, 1114111)]) (fun i j => by rw [EV, CL]) M 0 (by omega)]
    constructor
    · intro hh k hk
      have h2 := (MV.1 (hh k (by rw [iL]; exact hk) (Nat.zero_le _))).2.2
      have hkl : k < (dO s M).length := by rw [iL]; exact hk
      have h3 := jE (s := s) (N := M) hk
      rw [List.getElem?_eq_getElem hkl] at h3
      rw [Option.some.inj h3] at h2
      exact h2
    · intro hh k hk _
      have hk2 : k < M := by rw [iL] at hk; exact hk
      have h3 := jE (s := s) (N := M) hk2
      rw [List.getElem?_eq_getElem hk] at h3
      have h4 := BV h hk
      exact MV.2 ⟨h4.1, h4.2, by rw [Option.some.inj h3]; exact hh k hk2⟩
  constructor
  · rintro ⟨M, h, h2⟩; exact ⟨M, h, (key M h).1 h2⟩
  · rintro ⟨M, h, h2⟩; exact ⟨M, h, (key M h).2 h2⟩
theorem one_iff {s : ByteArray} : (∃ M, Utf s M ∧ Mt (dO s M) xA 0 M) ↔ 0 < (bH s 0).2 ∧ (bH s 0).2 = s.size := by
  constructor
  · rintro ⟨M, h, h2⟩
    obtain ⟨h3, -⟩ := CL.1 h2
    obtain rfl : M = 1 := by omega
    have h4 := h.2 0 (by decide)
    have h5 := h.1
    have e : cD s 1 = 0 + (bH s 0).2 := rfl
    exact ⟨h4, by omega⟩
  · rintro ⟨h1, h2⟩
    have hU : Utf s 1 := ⟨by show 0 + (bH s 0).2 = s.size; omega, fun k hk => by (obtain rfl : k = 0 := (by omega)); exact h1⟩
    refine ⟨1, hU, CL.2 ⟨rfl, ?_⟩⟩
    have hl : 0 < (dO s 1).length := by rw [iL]; decide
    exact ⟨_, List.getElem?_eq_getElem hl, MW.2 (BV hU hl)⟩
theorem LG {s : ByteArray} {M : Nat} (h : Utf s M) : (∃ k, k < M ∧ tW s k = 10) ↔ ∃ j, j < s.size ∧ sb s j = 10 := by
  constructor
  · rintro ⟨k, hk, hr⟩
    have h1 := (tV (h.2 k hk)).1.2 hr
    have h2 := nZ h.2 hk (Nat.le_refl _)
    have h3 := h.1
    exact ⟨cD s k, by omega, h1⟩
  · rintro ⟨j, hj, hb⟩
    have key : ∀ d k, k + d = M → cD s k ≤ j → ∃ k, k < M ∧ tW s k = 10 := by
      intro d
      induction d with
      | zero => intro k hk hle; have h3 := h.1; have e : k = M := by omega
                subst e; omega
      | succ d ih =>
        intro k hk hle
        have hk' : k < M := by omega
        by_cases e : cD s (k + 1) ≤ j
        · exact ih (k + 1) (by omega) e
        · have hw := h.2 k hk'
          have e2 : cD s (k + 1) = cD s k + (bH s (cD s k)).2 := rfl
          by_cases e3 : j = cD s k
          · rw [e3] at hb
            exact ⟨k, hk', (tV hw).1.1 hb⟩
          · have h4 := ES hw (t := j - cD s k) (by omega) (by omega)
            rw [show cD s k + (j - cD s k) = j by omega] at h4
            omega
    exact key M 0 (by omega) (Nat.zero_le _)
section
variable {l : List In} {n : Nat} (hP : ProgOk t1 l n)
include hP
theorem LH : n = 5 ∧ l[0]? = some ⟨3, 1, 5, 0, []⟩ ∧ l[1]? = some ⟨4, 2, 0, 2, []⟩ ∧ l[2]? = some ⟨2, 3, 0, 0, [(0, 1114111)]⟩ ∧ l[3]? = some ⟨4, 4, 0, 3, []⟩ ∧ l[4]? = some ⟨10, 0, 0, 0, []⟩ ∧ l[5]? = some ⟨1, 0, 0, 0, []⟩ := by
  have hb := hP.blk
  have hl := hP.last
  unfold t1 jD kC at hb
  rw [Blk] at hb
  obtain ⟨-, -, -, -, -, b6, -⟩ := hb
  obtain ⟨m3, r1, r2, -⟩ := b6 rfl
  have r1' : 0 = m3 := r1
  subst r1'
  obtain ⟨m4, r3, r4, r5, rfl⟩ := r2 rfl
  rw [gQ] at r4
  obtain ⟨m, h2, h3⟩ := r4
  rw [gQ] at h3
  subst h3
  rw [Blk] at h2
  obtain ⟨-, -, -, -, -, -, b7, -⟩ := h2
  obtain ⟨q, g1, g2, g3, rfl⟩ := b7 rfl
  unfold xA nC at g2
  rw [gQ] at g2
  obtain ⟨q1, g4, g5⟩ := g2
  rw [gQ] at g5
  subst g5
  rw [Blk] at g4
  obtain ⟨-, -, c3, -⟩ := g4
  obtain ⟨rfl, g6⟩ := c3 rfl
  rw [if_neg (by simp)] at g6
  exact ⟨rfl, r3, g1, g6, g3, r5, hl⟩
end
section
variable {l : List In} {s : ByteArray}
def tl1 (s : ByteArray) (k : Nat) : Nat → dS → dS
  | 0, t => t
  | d + 1, t => tl1 s (k + 1) d ((3, cD s (k + 1)) :: (2, cD s k) :: t)
theorem zY (s : ByteArray) : ∀ (d k : Nat) (t : dS), qT (tl1 s k (d + 1) t) 2 = cD s (k + d) ∧ qT (tl1 s k (d + 1) t) 3 = cD s (k + d + 1)
  | 0, k, t => ⟨rfl, rfl⟩
  | d + 1, k, t => by
    have h := zY s d (k + 1) ((3, cD s (k + 1)) :: (2, cD s k) :: t)
    rw [show k + (d + 1) = k + 1 + d by omega]
    exact h
structure Clear (W : Wt) (a : Nat) : Prop where
  FA : W a 0 = false ∧ W a 1 = false ∧ W a 2 = false ∧ W a 5 = false
  ahead : ∀ c, a < c → ∀ i, W c i = false
theorem UX (h0 : l[0]? = some ⟨3, 1, 5, 0, []⟩) (h1 : l[1]? = some ⟨4, 2, 0, 2, []⟩) (h2 : l[2]? = some ⟨2, 3, 0, 0, [(0, 1114111)]⟩) (h3 : l[3]? = some ⟨4, 4, 0, 3, []⟩) (h4 : l[4]? = some ⟨10, 0, 0, 0, []⟩) (h5 : l[5]? = some ⟨1, 0, 0, 0, []⟩) {g : Int} {ns : List ByteArray} {N : Nat} (hU : Utf s N) :
    ∀ (d k : Nat), k + d = N → ∀ (t : dS) (G : List (Nat × Nat × dS)) (W : Wt), Clear W (cD s k) → ∃ W', Dr (dE ⟨l, 0, g, ns⟩ s) (gF s) s.size ((cD s k, 0, t) :: G) W (some (tl1 s k d t)) W' := by
  have m0 : ∀ a, dE ⟨l, 0, g, ns⟩ s a 0 = .split 1 5 := fun a => by unfold dE; rw [h0]; rfl
  have m1 : ∀ a, dE ⟨l, 0, g, ns⟩ s a 1 = .save 2 2 := fun a => by unfold dE; rw [h1]; rfl
  have m2 : ∀ a, ∃ o, dE ⟨l, 0, g, ns⟩ s a 2 = .rune o := fun a => by unfold dE; rw [h2]; exact ⟨_, rfl⟩
  have m3 : ∀ a, dE ⟨l, 0, g, ns⟩ s a 3 = .save 3 4 := fun a => by unfold dE; rw [h3]; rfl
  have m4 : ∀ a, dE ⟨l, 0, g, ns⟩ s a 4 = .go 0 := fun a => by unfold dE; rw [h4]; rfl
  have m5 : ∀ a, dE ⟨l, 0, g, ns⟩ s a 5 = .mat := fun a => by unfold dE; rw [h5]; rfl
  intro d
  induction d with
  | zero =>
    intro k hk t G W hC
    obtain ⟨⟨c0, c1, c2, c5⟩, -⟩ := hC
    have hk' : k = N := by omega
    subst hk'
    have hz := hU.1
    rw [hz] at c0 c1 c2 c5 ⊢
    refine ⟨_, .split c0 (m0 _) (.save ?_ (m1 _) (.miss ?_ (.inr ⟨m2 _, .inl rfl⟩) (.found ?_ (m5 _) rfl)))⟩
    · simp [Wt.lay, Vis.add, c1]
    · simp [Wt.lay, Vis.add, c2]
    · simp [Wt.lay, Vis.add, c5]
  | succ d ih =>
    intro k hk t G W hC
    obtain ⟨⟨c0, c1, c2, c5⟩, hA⟩ := hC
    have hkN : k < N := by omega
    have hw := hU.2 k hkN
    have hlt := nZ hU.2 (show k < k + 1 by omega) (show k + 1 ≤ N by omega)
    have hle := nZ hU.2 hkN (Nat.le_refl _)
    have hz := hU.1
    have hr : dE ⟨l, 0, g, ns⟩ s (cD s k) 2 = .rune (some 3) := by
      have h9 := EA hU (tW s k) (List.mem_map.2 ⟨k, List.mem_range.2 hkN, rfl⟩)
      have h10 : lU (bH s (cD s k)).1 [(0, 1114111)] := ⟨(0, 1114111), by simp, by unfold IsR tW at h9; exact h9.1, by unfold IsR tW at h9; exact h9.2.1⟩
      unfold dE; rw [h2]
      show (if (2 : Int) = 1 then _ else if (2 : Int) = 2 then _ else _) = _
      rw [if_neg (by decide), if_pos rfl, if_pos h10]
      rfl
    have hn : gF s (cD s k) = some (cD s (k + 1)) := tZ hw
    have hne : cD s (k + 1) ≠ cD s k := by omega
    have hb : ∀ i, W (cD s (k + 1)) i = false := hA _ hlt
    refine (ih (k + 1) (by omega) ((3, cD s (k + 1)) :: (2, cD s k) :: t) ((cD s k, 5, t) :: G) _ ?_).imp fun W' h => .split c0 (m0 _) (.save ?_ (m1 _) (.rune ?_ hr (by omega) hn (.save ?_ (m3 _) (.go ?_ (m4 _) h))))
    · refine ⟨⟨?_, ?_, ?_, ?_⟩, fun c hc i => ?_⟩
      · simp [Wt.lay, Vis.add, hne, hb]
      · simp [Wt.lay, Vis.add, hne, hb]
      · simp [Wt.lay, Vis.add, hne, hb]
      · simp [Wt.lay, Vis.add, hne, hb]
      · have e1 : c ≠ cD s (k + 1) := by omega
        have e2 : c ≠ cD s k := by omega
        simp [Wt.lay, e1, e2, hA c (by omega)]
    · simp [Wt.lay, Vis.add, c1]
    · simp [Wt.lay, Vis.add, c2]
    · simp [Wt.lay, Vis.add, hne, hb]
    · simp [Wt.lay, Vis.add, hne, hb]
theorem pY {ls : List Int} {N n : Nat} (hP : ProgOk t1 l n) (hs : iX ⟨l, 0, 1, [emp]⟩) (hU : Utf s (N + 1)) (h : zL ⟨l, 0, 1, [emp]⟩ s ls) : ls = [0, (s.size : Int), (cD s N : Int), (s.size : Int)] := by
  obtain ⟨-, h0, h1, h2, h3, h4, h5⟩ := LH hP
  obtain ⟨-, r, W', hd, rfl⟩ := h.resolve_left (fun h9 => h9.1 hs)
  obtain ⟨W2, hd2⟩ := UX (g := 1) (ns := [emp]) h0 h1 h2 h3 h4 h5 hU (N + 1) 0 (by omega) [] [] (fun _ _ => false) ⟨⟨rfl, rfl, rfl, rfl⟩, fun _ _ _ => rfl⟩
  rw [hd.uniq hd2]
  obtain ⟨q1, q2⟩ := zY s N 0 []
  rw [Nat.zero_add] at q1 q2
  have q3 : cD s (N + 1) = s.size := hU.1
  rw [q3] at q2
  show ((tT 4 (tl1 s 0 (N + 1) [])).set 0 0).set 1 (s.size : Int) = _
  have e : tT 4 (tl1 s 0 (N + 1) []) = [qT (tl1 s 0 (N + 1) []) 0, qT (tl1 s 0 (N + 1) []) 1, qT (tl1 s 0 (N + 1) []) 2, qT (tl1 s 0 (N + 1) []) 3] := rfl
  rw [e, q1, q2]
  rfl
theorem IT {ls : List Int} {N n : Nat} (hP : ProgOk t1 l n) (hs : iX ⟨l, 0, 1, [emp]⟩) (hU : Utf s N) (h : zL ⟨l, 0, 1, [emp]⟩ s ls) : ls.length = 4 := by
  obtain ⟨-, h0, h1, h2, h3, h4, h5⟩ := LH hP
  obtain ⟨-, r, W', hd, rfl⟩ := h.resolve_left (fun h9 => h9.1 hs)
  obtain ⟨W2, hd2⟩ := UX (g := 1) (ns := [emp]) h0 h1 h2 h3 h4 h5 hU N 0 (by omega) [] [] (fun _ _ => false) ⟨⟨rfl, rfl, rfl, rfl⟩, fun _ _ _ => rfl⟩
  rw [hd.uniq hd2]
  rfl
theorem dr_fn {mv : Nat → Nat → Mov} {nxt : Nat → Option Nat} {len : Nat} {g : List (Nat × Nat × dS)} {W W' : Wt} {r : Option dS} (h : Dr mv nxt len g W r W') : r.isSome = true → ∃ x, x ∈ g ∧ Fn mv nxt len x.1 x.2.1 := by
  induction h with
  | nil => intro h; cases h
  | seen _ _ ih => intro h; obtain ⟨x, hx, hf⟩ := ih h; exact ⟨x, List.mem_cons_of_mem _ hx, hf⟩
  | found _ hm ha => intro _; exact ⟨_, List.mem_cons_self .., .mat ha hm⟩
  | mat _ _ _ _ ih => intro h; obtain ⟨x, hx, hf⟩ := ih h; exact ⟨x, List.mem_cons_of_mem _ hx, hf⟩
  | rune _ hm hl hn _ ih =>
    intro h
    obtain ⟨x, hx, hf⟩ := ih h
    rcases List.mem_cons.1 hx with rfl | hx
    · exact ⟨_, List.mem_cons_self .., .rune hl hm hn hf⟩
    · exact ⟨x, List.mem_cons_of_mem _ hx, hf⟩
  | miss _ _ _ ih => intro h; obtain ⟨x, hx, hf⟩ := ih h; exact ⟨x, List.mem_cons_of_mem _ hx, hf⟩
  | go _ hm _ ih =>
    intro h
    obtain ⟨x, hx, hf⟩ := ih h
    rcases List.mem_cons.1 hx with rfl | hx
    · exact ⟨_, List.mem_cons_self .., .eps (by rw [hm]; exact rfl) hf⟩
    · exact ⟨x, List.mem_cons_of_mem _ hx, hf⟩
  | split _ hm _ ih =>
    intro h
    obtain ⟨x, hx, hf⟩ := ih h
    rcases List.mem_cons.1 hx with rfl | hx
    · exact ⟨_, List.mem_cons_self .., .eps (by rw [hm]; exact .inl rfl) hf⟩
    · rcases List.mem_cons.1 hx with rfl | hx
      · exact ⟨_, List.mem_cons_self .., .eps (by rw [hm]; exact .inr rfl) hf⟩
      · exact ⟨x, List.mem_cons_of_mem _ hx, hf⟩
  | save _ hm _ ih =>
    intro h
    obtain ⟨x, hx, hf⟩ := ih h
    rcases List.mem_cons.1 hx with rfl | hx
    · exact ⟨_, List.mem_cons_self .., .eps (by rw [hm]; exact rfl) hf⟩
    · exact ⟨x, List.mem_cons_of_mem _ hx, hf⟩
  | dead _ _ _ ih => intro h; obtain ⟨x, hx, hf⟩ := ih h; exact ⟨x, List.mem_cons_of_mem _ hx, hf⟩
theorem FB {ls : List Int} {n : Nat} (hP : ProgOk t1 l n) (hs : iX ⟨l, 0, 1, [emp]⟩) (hU : ¬ ∃ N, Utf s N) (h : zL ⟨l, 0, 1, [emp]⟩ s ls) : ls = [] := by
  obtain ⟨-, r, W', hd, rfl⟩ := h.resolve_left (fun h9 => h9.1 hs)
  cases r with
  | none => rfl
  | some t =>
    exfalso
    obtain ⟨x, hx, hf⟩ := dr_fn hd rfl
    rw [List.mem_singleton.1 hx] at hf
    obtain ⟨N, h9, -⟩ := (UF hs hP).1 hf
    exact hU ⟨N, h9⟩
end
end Go.Proofs.Ytidpigbinpaaeaa
namespace Go.Proofs.Ytidpigbinpaaeaa
open Go.RowKit Go.W
attribute [local irreducible] Decidable.decide
theorem s1_fit : ¬ ((∃ e', eC s1 = .error e') ∨ ∃ x, eC s1 = .ok x ∧ 10000 < x.esz + 1) := by
  rintro (⟨e, h⟩ | ⟨x, h, h2⟩)
  · rw [tU] at h; cases h
  · rw [tU] at h; cases h
    exact absurd h2 (by decide +kernel)
theorem s2_fit : ¬ ((∃ e', eC s2 = .error e') ∨ ∃ x, eC s2 = .ok x ∧ 10000 < x.esz + 1) := by
  rintro (⟨e, h⟩ | ⟨x, h, h2⟩)
  · rw [wY] at h; cases h
  · rw [wY] at h; cases h
    exact absurd h2 (by decide +kernel)
theorem s3_fit : ¬ ((∃ e', eC s3 = .error e') ∨ ∃ x, eC s3 = .ok x ∧ 10000 < x.esz + 1) := by
  rintro (⟨e, h⟩ | ⟨x, h, h2⟩)
  · rw [wX] at h; cases h
  · rw [wX] at h; cases h
    exact absurd h2 (by decide +kernel)
def uK (s : ByteArray) : Nat → Bool
  | 0 => false
  | k + 1 => uK s k || decide (sb s k = 10)
theorem DX (s : ByteArray) : ∀ k, uK s k = true ↔ ∃ j, j < k ∧ sb s j = 10
  | 0 => by simp [uK]
  | k + 1 => by
    rw [uK, Bool.or_eq_true, DX s k, decide_eq_true_iff]
    constructor
    · rintro (⟨j, h, e⟩ | e)
      · exact ⟨j, by omega, e⟩
      · exact ⟨k, by omega, e⟩
    · rintro ⟨j, h, e⟩
      rcases Nat.lt_or_ge j k with h2 | h2
      · exact .inl ⟨j, h2, e⟩
      · obtain rfl : j = k := by omega
        exact .inr e
theorem line_b {s : ByteArray} {m u : Bool} (hm : m = true ↔ ∃ M, Utf s M ∧ Mt (dO s M) t3 0 M) (hu : u = true ↔ ∃ N, Utf s N) : m = (u && !uK s s.size) := by
  rw [Bool.eq_iff_iff, hm, TQ, Bool.and_eq_true, hu, Bool.not_eq_true', ← Bool.not_eq_true, DX]
  constructor
  · rintro ⟨M, h, k⟩
    exact ⟨⟨M, h⟩, fun h2 => by obtain ⟨j, h3, h4⟩ := (LG h).2 h2; exact k j h3 h4⟩
  · rintro ⟨⟨M, h⟩, k⟩
    exact ⟨M, h, fun j h3 h4 => k ((LG h).1 ⟨j, h3, h4⟩)⟩
theorem tS {s : ByteArray} {N : Nat} (h : Utf s (N + 1)) : cD s N + (bH s (cD s N)).2 = s.size ∧ 0 < (bH s (cD s N)).2 := by
  have h1 := h.1
  have h2 := h.2 N (by omega)
  rw [cD] at h1
  exact ⟨h1, by omega⟩
theorem sI {s : ByteArray} {u : Bool} (hu : u = true ↔ ∃ N, Utf s N) (h : u = true) (he : ¬ s = ByteArray.mk #[]) : ∃ N, Utf s (N + 1) := by
  obtain ⟨N, hN⟩ := hu.1 h
  match N, hN with
  | N + 1, hN => exact ⟨N, hN⟩
  | 0, hN =>
    have h1 : 0 = s.size := hN.1
    exact absurd (by apply ByteArray.ext; apply Array.ext' ; cases s with | mk d => cases d with | mk l => cases l with | nil => rfl | cons a l => exact absurd h1 (by show ¬ 0 = l.length + 1; omega)) he
theorem qA {P : Program} {σ : Env} {w : World} {dst : Option Nat} {T : TypeId} {pos : String} {after : Array Edge} {g : Option (Nat × Bool)} {x y : Operand} {t t' : TypeId} {a b : Bool} (hx : σ.ev x = some (.bool a)) (hy : σ.ev y = some (.bool b)) (ht : P.underlying t = some .bool) (h : a = b) :
    Ex P σ ⟨dst, .binOp .neq t x y t', T, pos, after, g⟩ w (.bool false) w := by
  have := uD (T := T) (pos := pos) (after := after) (g := g) (dst := dst) (t' := t') (w := w) hx hy ht
  rw [h] at this; simpa using this
theorem rF {P : Program} {σ : Env} {w : World} {dst : Option Nat} {T : TypeId} {pos : String} {after : Array Edge} {g : Option (Nat × Bool)} {x y : Operand} {t t' : TypeId} {a b : Bool} (hx : σ.ev x = some (.bool a)) (hy : σ.ev y = some (.bool b)) (ht : P.underlying t = some .bool) (h : a = b) :
    Ex P σ ⟨dst, .binOp .eql t x y t', T, pos, after, g⟩ w (.bool true) w := by
  have := yB (T := T) (pos := pos) (after := after) (g := g) (dst := dst) (t' := t') (w := w) hx hy ht
  rw [h] at this; simpa using this
theorem one_b {s : ByteArray} {m : Bool} (hm : m = true ↔ ∃ M, Utf s M ∧ Mt (dO s M) xA 0 M) : m = decide (0 < (bH s 0).2 ∧ (bH s 0).2 = s.size) := by
  rw [Bool.eq_iff_iff, hm, one_iff, decide_eq_true_iff]
theorem lZ {w w' : World} {b : Nat} {l : List In} {n : Nat} {s : ByteArray} {m emp : Bool} {ls : List Int} {e : TypeId} {a : Option Addr} {gn c : Nat} {ob : Option Nat} (hg : RgAt w b s1 t1 l n) (hu : m = true ↔ ∃ N, Utf s N) (hR : zL ⟨l, 0, (fS t1).length, fS t1⟩ s ls) (hO : OwnS w' e 1 a gn c (ls.map iv) ob) :
    (m = false → decide ((gn : Int) = 0) = !m) ∧ (m = true → decide ((gn : Int) = 0) = !m) := by
  have hsd := hg.sound
  rw [pM] at hR hsd
  have hl : ls.length = gn := by simpa using hO.length
  refine ⟨fun h => ?_, fun h => ?_⟩
  · have h1 := FB hg.prog hsd (fun h9 => by have := hu.2 h9; rw [h] at this; cases this) hR
    rw [h1] at hl; rw [h]; exact decide_eq_true (by rw [← hl]; rfl)
  · obtain ⟨N, hN⟩ := hu.1 h
    have h1 := IT hg.prog hsd hN hR
    rw [h]; exact decide_eq_false (by omega)
set_option maxHeartbeats 2000000 in
theorem HS {w : World} (s : ByteArray) (hG : Glb w) (hsz : s.size ≤ 1048576) :
    Calls Try.prog 3 #[.string s] w (Ret fun v w' => v = .bool true ∧ Evo [] w w') := by
  refine bE (N := 145) Try.func3 rfl rfl rfl ?_; refine csr (wan (aI (csr ?_))); refine aL (vs := []) PV rfl (VK (hG.evo (Evo.refl [] w) (by simp))) rfl ?_; rintro _ w1 ⟨rfl, e7⟩; have b7 := (Evo.refl [] w).then e7; refine aA (dR rfl) ?_; refine wnn (cK rfl ?_); refine aM (aC (csr ?_)); refine aL (vs := [_]) sK rfl (BU s1 (hG.evo b7 (by simp))) rfl ?_; rintro _ w4 ⟨d4, p1, e1, rfl, hr1⟩; obtain ⟨rfl, b1, x1, l1, n1, rfl, -, hpx1, hRg1⟩ := hr1.resolve_left (fun h9 => s1_fit h9.2.2); rw [tU] at hpx1; cases hpx1; refine aB (aA (bN rfl rfl) ?_); refine aA (bN rfl rfl) ?_; refine bX (wan (csr ?_)); refine aL (vs := [_]) sK rfl (BU s2 (hG.evo (b7.then d4) (by simp))) rfl ?_; rintro _ w7 ⟨d5, p2, e2, rfl, hr2⟩; have d6 := (b7.then d4).then d5; obtain ⟨rfl, b2, x2, l2, n2, rfl, -, hpx2, hRg2⟩ := hr2.resolve_left (fun h9 => s2_fit h9.2.2); rw [wY] at hpx2; cases hpx2; refine aB (aA (bN rfl rfl) ?_); refine aA (bN rfl rfl) ?_; refine bX (wan (csr ?_)); refine aL (vs := [_]) sK rfl (BU s3 (hG.evo d6 (by simp))) rfl ?_; rintro _ d7 ⟨V, p3, e3, rfl, hr3⟩; obtain ⟨rfl, b3, x3, l3, n3, rfl, -, hpx3, hRg3⟩ := hr3.resolve_left (fun h9 => s3_fit h9.2.2); rw [wX] at hpx3; cases hpx3; refine aB (aA (bN rfl rfl) ?_)
  refine aA (bN rfl rfl) ?_; refine bX (wan (aI (csr (aB (aA (gE rfl rfl) ?_))))); rw [show decide ((0 : Int) ≠ 0) = false from decide_eq_false (not_not_intro rfl)]; refine aB (aO (aB (aO (aA (gE rfl rfl) ?_)))); rw [show decide ((0 : Int) ≠ 0) = false from decide_eq_false (not_not_intro rfl)]; refine bK (aB (aO (aB (aO (aA (gE rfl rfl) ?_))))); rw [show decide ((0 : Int) ≠ 0) = false from decide_eq_false (not_not_intro rfl)]; refine bK (aB (aO (aB (aO ?_)))); refine aA (kZ (r := .bool false) rfl rfl (fun w => by kernel_rfl)) ?_; refine bK (aB (aO (aB (aO ?_)))); refine aA (kZ (r := .bool false) rfl rfl (fun w => by kernel_rfl)) ?_; refine bK (aB (aO (aB (aO ?_)))); refine aA (kZ (r := .bool false) rfl rfl (fun w => by kernel_rfl)) ?_; refine bK (wnn (cK rfl ?_)); refine aM (aC (csr (wan (aI (csr (wan (bJ (dA (α := Nat) (0) (fun k => [(10, .int .i64 (k : Nat)), (9, .bool (uK s k))]) [(0, _), (2, _), (3, _), (5, _), (7, _)] (fun k wr => Evo [] d7 wr ∧ (k ≤ s.size)) (fun k => s.size - k) ⟨rfl, rfl, trivial⟩ ⟨rfl, rfl, rfl, rfl, rfl, trivial⟩ ⟨Evo.refl _ _, Nat.zero_le _⟩ ?_))))))))
  rintro k wr16 ⟨I, hk0⟩; show CW _ _ _ _ [(10, _), (9, _), (0, _), (2, _), (3, _), (5, _), (7, _)] _; refine aI (csr (aB (aB (aA (bR rfl Try.underlying9 rfl) ?_)))); refine aA (cU rfl rfl) ?_; refine wnn (aW rfl (fun e0 => ?_) (fun e0 => ?_))
  ·refine aM (aC (aI (mK (α := Bool) (fun z63 => [(9, .bool z63)]) [(0, _), (2, _), (3, _), (5, _), (7, _), (10, _)] (fun z63 wr => wr16 = wr ∧ (z63 = uK s (k + 1))) ⟨rfl, rfl, rfl, rfl, rfl, rfl, trivial⟩ ?_ ?_)))
   ·refine bJ (aG (aB (aB (jM (t := 58) rfl (fun e4 => ?_) (fun e4 => ?_)))))
    ·refine aJ (aJ (aJ (aJ (bQ (bX (aQ (aP (bA ?_)))))))); refine ⟨_, ⟨rfl, trivial⟩, ⟨rfl, rfl, rfl, rfl, rfl, rfl, trivial⟩, rfl, ?_⟩; have h9 : uK s (k + 1) = (uK s k || decide (sb s k = 10)) := rfl; rw [h9]
     cases h8 : uK s k <;> simp_all <;> omega
    refine aO (aB (aO (aB (aO ?_)))); refine aA (eE (n := k) rfl rfl Try.underlying9 rfl (by omega)) ?_; refine aO (wel ?_); refine bK (bX (aQ (aP (bA ?_)))); refine ⟨_, ⟨rfl, trivial⟩, ⟨rfl, rfl, rfl, rfl, rfl, rfl, trivial⟩, rfl, ?_⟩; have h9 : uK s (k + 1) = (uK s k || decide (sb s k = 10)) := rfl; rw [h9]
    cases h8 : uK s k <;> simp_all <;> omega
   rintro z63 _ ⟨rfl, rfl⟩; refine aC ?_; show CW _ _ _ _ [(9, _), (0, _), (2, _), (3, _), (5, _), (7, _), (10, _)] _; refine aG (aB ?_); refine aA (aK rfl rfl (by omega) (by omega)) ?_; refine bX (aQ (bA ?_)); refine ⟨k + 1, ?_, ⟨rfl, rfl, trivial⟩, ⟨rfl, rfl, rfl, rfl, rfl, trivial⟩, I, ?_⟩
   · omega
   show k + 1 ≤ s.size; omega
  obtain rfl : k = s.size := by omega
  refine cN (bL (bL (cM (aC ?_)))); refine csr (aB ?_); refine aL (vs := [_]) BO rfl (zW s (by omega)) rfl ?_; rintro _ f0 ⟨u, rfl, hu, L⟩; have b8 := ((((Evo.refl [] w4).then d5).then V).then I).then L; refine wan (aI (csr (aB (aB ?_)))); refine aL (vs := [_, _]) nA rfl (pA (hRg1.evo0 b8) s (by omega)) rfl ?_; rintro _ f5 ⟨m1, rfl, hm1, M⟩; obtain rfl : m1 = u := Bool.eq_iff_iff.2 (hm1.trans (all_iff.trans hu.symm)); refine aB (aA (qA rfl rfl Try.underlying4 rfl) ?_); refine aB (aO (aB (aO (aB (aO ?_))))); refine aL (vs := [_, _]) nA rfl (pA (hRg3.evo0 ((((Evo.refl [] d7).then I).then L).then M)) s (by omega)) rfl ?_; rintro _ f6 ⟨m2, rfl, hm2, a0⟩; have b9 := ((((d6.then V).then I).then L).then M).then a0; have c0 := (b8.then M).then a0; have c1 := (((((Evo.refl [] w7).then V).then I).then L).then M).then a0; obtain rfl := line_b hm2 hu; refine aO (aB (aO (aB (jM (t := 76) rfl (fun a1 => ?_) (fun a1 => ?_)))))
  ·refine aO (aB (aO (aA (dR rfl) ?_))); refine aO (bQ (aO ?_)); refine aA (qA rfl rfl Try.underlying4 (by rw [a1, Bool.true_and])) ?_; refine bK (wnn (cK rfl ?_)); refine aM (aC (csr (aB ?_))); refine aL (vs := [_, _]) kK rfl (oA s 0 (Nat.zero_le _) (by omega)) rfl ?_; rintro _ f7 ⟨rfl, a2⟩; refine aB (aA (bN rfl rfl) ?_); refine aA (bN rfl rfl) ?_; refine bX (wan (aI (csr (aB (aB ?_))))); refine aL (vs := [_, _]) nA rfl (pA (hRg2.evo0 (c1.then a2)) s (by omega)) rfl ?_; rintro _ f8 ⟨m3, rfl, hm3, c2⟩; have c3 := (b9.then a2).then c2; have c4 := (c0.then a2).then c2; obtain rfl := one_b hm3; refine aB (aA (fE rfl rfl) ?_); refine aB (bC (t := 92) rfl (fun a3 => ?_) (fun a3 => ?_))
   ·refine aO (aB (aO (aB (aO (aA (bR rfl Try.underlying9 rfl) ?_))))); refine aO (wel ?_); refine bQ ?_; refine aA (qA rfl rfl Try.underlying4 (decide_eq_decide.2 (by omega))) ?_; refine wnn (cK rfl ?_); refine aM (aC (csr (aB (aB ?_)))); refine aL (vs := [_, _]) pI rfl (nD (hRg1.evo0 c4) s (by omega)) rfl ?_; rintro _ d8 ⟨ga, gn, gc, ls, gob, rfl, hO, hgo, hR, e5⟩; have a4 := c3.then e5; refine wan (aI (csr (aB (aA (dR rfl) ?_)))); refine aB (jM (t := 104) rfl (fun A => ?_) (fun A => ?_))
    ·refine aJ (aJ (bQ (wnn (dD rfl ?_)))); refine csr (aB (aA (aZ rfl Try.underlying30 rfl) ?_)); refine wel ?_; refine aB (aA (dR rfl) ?_)
     refine aA (rF rfl rfl Try.underlying4 (by have h8 := lZ (m := m1) (emp := decide (s = ByteArray.mk #[])) hRg1 hu hR (hO); first | exact h8.1 (by have h9 := A; cases m1 <;> simp_all))) ?_
     refine wan (aH (aE (br1 ?_))); exact ⟨rfl, a4⟩
    refine aO (aB (aO (aA (gK rfl rfl) ?_))); refine bK (wnn (aW rfl (fun B => ?_) (fun B => ?_)))
    ·refine csr (aB (aA (aZ rfl Try.underlying30 rfl) ?_)); refine wel ?_; refine aB (aA (dR rfl) ?_)
     refine aA (rF rfl rfl Try.underlying4 (by have h8 := lZ (m := m1) (emp := decide (s = ByteArray.mk #[])) hRg1 hu hR (hO); first | exact h8.2 (by have h9 := A; cases m1 <;> simp_all))) ?_
     refine wan (aH (aE (br1 ?_))); exact ⟨rfl, a4⟩
    have hu1 : m1 = true := by have h9 := A; cases m1 <;> simp_all
    obtain ⟨N, hN⟩ := sI hu hu1 B; have hR' := hR; rw [pM] at hR'; have hsd := hRg1.sound; rw [pM] at hsd; obtain rfl := pY hRg1.prog hsd hN hR'; have hoff : cD s N + (bH s (cD s N)).2 = s.size ∧ 0 < (bH s (cD s N)).2 := tS hN; obtain ⟨aq, cq, heq, hcq, ek⟩ := sA (X := []) (hO) (fun g _ h => by cases h); cases heq
    have hk2 : 2 < [0, (s.size : Int), (cD s N : Int), (s.size : Int)].length := by show 2 < 4; omega
    have hk3 : 3 < [0, (s.size : Int), (cD s N : Int), (s.size : Int)].length := by show 3 < 4; omega
    obtain ⟨g1, o1, vs1, hg1, -, -, H, hr1⟩ := ek 2 hk2; obtain rfl := hr1; obtain ⟨g2, o2, vs2, hg2, -, -, J, hr2⟩ := ek 3 hk3; obtain rfl := hr2; refine aM (aC (aI (csr (aB (aA (aZ rfl Try.underlying30 rfl) ?_))))); refine aA (kZ (r := .bool false) rfl rfl (fun w => by kernel_rfl)) ?_; refine wnn (cK rfl ?_); refine aM (aC (csr (aB (aB (aA (cP (n := 2) rfl rfl hg1 dB hk2) ?_))))); refine aA (aS rfl aT (show _ = some (iv (cD s N : Int)) from (H.evo (Evo.refl [] d8) (by simp)) 0 _ rfl)) ?_; refine aL (vs := [_, _]) kK rfl (oA s (cD s N) (by omega) (by omega)) rfl ?_; rintro _ f9 ⟨rfl, c5⟩; have c6 := (Evo.refl [] d8).then c5; refine aB (aA (bN rfl rfl) ?_); refine aA (bN rfl rfl) ?_; refine wan (csr (aB (aA (fE rfl rfl) ?_))); refine aB (bC (t := 127) rfl (fun D => ?_) (fun D => ?_))
    ·refine aO (aB (aO (aA (cP (n := 2) rfl rfl hg1 dB hk2) ?_))); refine aO ?_; refine aA (aS rfl aT (show _ = some (iv (cD s N : Int)) from (H.evo c6 (by simp)) 0 _ rfl)) ?_; refine aO (aB (aO ?_)); refine aA (aK rfl rfl (by omega) (by omega)) ?_; refine aO (aB (aO (aA (bR rfl Try.underlying9 rfl) ?_))); refine aO (wel ?_); refine bQ (aB (bC (t := 137) rfl (fun F => ?_) (fun F => ?_)))
     ·refine aO (aB (aO (aA (cP (n := 3) rfl rfl hg2 dB hk3) ?_))); refine aO ?_; refine aA (aS rfl aT (show _ = some (iv (s.size : Int)) from (J.evo c6 (by simp)) 0 _ rfl)) ?_; refine aO (aB (aO (aA (bR rfl Try.underlying9 rfl) ?_))); refine aO (wel ?_); refine bQ (wan (aH (br1 ?_))); exact ⟨congrArg Value.bool (decide_eq_true rfl), (a4.then c5)⟩
     refine aJ (aJ (aJ (aJ (aJ (aJ (bK (wan (aH (br1 ?_))))))))); exact absurd (by omega) F
    refine aJ (aJ (aJ (aJ (aJ (aJ (aJ (aJ (bK (aB (aJ (aJ (aJ (aJ (aJ ?_)))))))))))))); refine aJ (bK (wan (aH (br1 ?_)))); exact absurd (by omega) D
   refine aJ (aJ (aJ (aJ (bK ?_)))); refine aA (qA rfl rfl Try.underlying4 (decide_eq_false (by omega))) ?_; refine wnn (cK rfl ?_); refine aM (aC (csr (aB (aB ?_)))); refine aL (vs := [_, _]) pI rfl (nD (hRg1.evo0 c4) s (by omega)) rfl ?_; rintro _ d9 ⟨ga, gn, gc, ls, gob, rfl, hO, hgo, hR, e6⟩; have a5 := c3.then e6; refine wan (aI (csr (aB (aA (dR rfl) ?_)))); refine aB (jM (t := 104) rfl (fun A => ?_) (fun A => ?_))
   ·refine aJ (aJ (bQ (wnn (dD rfl ?_)))); refine csr (aB (aA (aZ rfl Try.underlying30 rfl) ?_)); refine wel ?_; refine aB (aA (dR rfl) ?_)
    refine aA (rF rfl rfl Try.underlying4 (by have h8 := lZ (m := m1) (emp := decide (s = ByteArray.mk #[])) hRg1 hu hR (hO); first | exact h8.1 (by have h9 := A; cases m1 <;> simp_all))) ?_
    refine wan (aH (aE (br1 ?_))); exact ⟨rfl, a5⟩
   refine aO (aB (aO (aA (gK rfl rfl) ?_))); refine bK (wnn (aW rfl (fun B => ?_) (fun B => ?_)))
   ·refine csr (aB (aA (aZ rfl Try.underlying30 rfl) ?_)); refine wel ?_; refine aB (aA (dR rfl) ?_)
    refine aA (rF rfl rfl Try.underlying4 (by have h8 := lZ (m := m1) (emp := decide (s = ByteArray.mk #[])) hRg1 hu hR (hO); first | exact h8.2 (by have h9 := A; cases m1 <;> simp_all))) ?_
    refine wan (aH (aE (br1 ?_))); exact ⟨rfl, a5⟩
   have hu1 : m1 = true := by have h9 := A; cases m1 <;> simp_all
   obtain ⟨N, hN⟩ := sI hu hu1 B; have hR' := hR; rw [pM] at hR'; have hsd := hRg1.sound; rw [pM] at hsd; obtain rfl := pY hRg1.prog hsd hN hR'; have hoff : cD s N + (bH s (cD s N)).2 = s.size ∧ 0 < (bH s (cD s N)).2 := tS hN; obtain ⟨aq, cq, heq, hcq, ek⟩ := sA (X := []) (hO) (fun g _ h => by cases h); cases heq
   have hk2 : 2 < [0, (s.size : Int), (cD s N : Int), (s.size : Int)].length := by show 2 < 4; omega
   have hk3 : 3 < [0, (s.size : Int), (cD s N : Int), (s.size : Int)].length := by show 3 < 4; omega
   obtain ⟨g1, o1, vs1, hg1, -, -, H, hr1⟩ := ek 2 hk2; obtain rfl := hr1; obtain ⟨g2, o2, vs2, hg2, -, -, J, hr2⟩ := ek 3 hk3; obtain rfl := hr2; refine aM (aC (aI (csr (aB (aA (aZ rfl Try.underlying30 rfl) ?_))))); refine aA (kZ (r := .bool false) rfl rfl (fun w => by kernel_rfl)) ?_; refine wnn (cK rfl ?_); refine aM (aC (csr (aB (aB (aA (cP (n := 2) rfl rfl hg1 dB hk2) ?_))))); refine aA (aS rfl aT (show _ = some (iv (cD s N : Int)) from (H.evo (Evo.refl [] d9) (by simp)) 0 _ rfl)) ?_; refine aL (vs := [_, _]) kK rfl (oA s (cD s N) (by omega) (by omega)) rfl ?_; rintro _ g0 ⟨rfl, c7⟩; have c8 := (Evo.refl [] d9).then c7; refine aB (aA (bN rfl rfl) ?_); refine aA (bN rfl rfl) ?_; refine wan (csr (aB (aA (fE rfl rfl) ?_))); refine aB (bC (t := 127) rfl (fun D => ?_) (fun D => ?_))
   ·refine aO (aB (aO (aA (cP (n := 2) rfl rfl hg1 dB hk2) ?_))); refine aO ?_; refine aA (aS rfl aT (show _ = some (iv (cD s N : Int)) from (H.evo c8 (by simp)) 0 _ rfl)) ?_; refine aO (aB (aO ?_)); refine aA (aK rfl rfl (by omega) (by omega)) ?_; refine aO (aB (aO (aA (bR rfl Try.underlying9 rfl) ?_))); refine aO (wel ?_); refine bQ (aB (bC (t := 137) rfl (fun F => ?_) (fun F => ?_)))
    ·refine aO (aB (aO (aA (cP (n := 3) rfl rfl hg2 dB hk3) ?_))); refine aO ?_; refine aA (aS rfl aT (show _ = some (iv (s.size : Int)) from (J.evo c8 (by simp)) 0 _ rfl)) ?_; refine aO (aB (aO (aA (bR rfl Try.underlying9 rfl) ?_))); refine aO (wel ?_); refine bQ (wan (aH (br1 ?_))); exact ⟨congrArg Value.bool (decide_eq_true rfl), (a5.then c7)⟩
    refine aJ (aJ (aJ (aJ (aJ (aJ (bK (wan (aH (br1 ?_))))))))); exact absurd (by omega) F
   refine aJ (aJ (aJ (aJ (aJ (aJ (aJ (aJ (bK (aB (aJ (aJ (aJ (aJ (aJ ?_)))))))))))))); refine aJ (bK (wan (aH (br1 ?_)))); exact absurd (by omega) D
  refine aJ (aJ (aO (bK (aO ?_))))
  refine aA (qA rfl rfl Try.underlying4 (by have h9 := a1; cases m1 <;> simp_all)) ?_
  refine bK (wnn (cK rfl ?_)); refine aM (aC (csr (aB ?_))); refine aL (vs := [_, _]) kK rfl (oA s 0 (Nat.zero_le _) (by omega)) rfl ?_; rintro _ g3 ⟨rfl, a6⟩; refine aB (aA (bN rfl rfl) ?_); refine aA (bN rfl rfl) ?_; refine bX (wan (aI (csr (aB (aB ?_))))); refine aL (vs := [_, _]) nA rfl (pA (hRg2.evo0 (c1.then a6)) s (by omega)) rfl ?_; rintro _ g4 ⟨m3, rfl, hm3, c9⟩; have a7 := (b9.then a6).then c9; have a8 := (c0.then a6).then c9; obtain rfl := one_b hm3; refine aB (aA (fE rfl rfl) ?_); refine aB (bC (t := 92) rfl (fun a3 => ?_) (fun a3 => ?_))
  ·refine aO (aB (aO (aB (aO (aA (bR rfl Try.underlying9 rfl) ?_))))); refine aO (wel ?_); refine bQ ?_; refine aA (qA rfl rfl Try.underlying4 (decide_eq_decide.2 (by omega))) ?_; refine wnn (cK rfl ?_); refine aM (aC (csr (aB (aB ?_)))); refine aL (vs := [_, _]) pI rfl (nD (hRg1.evo0 a8) s (by omega)) rfl ?_; rintro _ d0 ⟨ga, gn, gc, ls, gob, rfl, hO, hgo, hR, d2⟩; have O := a7.then d2; refine wan (aI (csr (aB (aA (dR rfl) ?_)))); refine aB (jM (t := 104) rfl (fun A => ?_) (fun A => ?_))
   ·refine aJ (aJ (bQ (wnn (dD rfl ?_)))); refine csr (aB (aA (aZ rfl Try.underlying30 rfl) ?_)); refine wel ?_; refine aB (aA (dR rfl) ?_)
    refine aA (rF rfl rfl Try.underlying4 (by have h8 := lZ (m := m1) (emp := decide (s = ByteArray.mk #[])) hRg1 hu hR (hO); first | exact h8.1 (by have h9 := A; cases m1 <;> simp_all))) ?_
    refine wan (aH (aE (br1 ?_))); exact ⟨rfl, O⟩
   refine aO (aB (aO (aA (gK rfl rfl) ?_))); refine bK (wnn (aW rfl (fun B => ?_) (fun B => ?_)))
   ·refine csr (aB (aA (aZ rfl Try.underlying30 rfl) ?_)); refine wel ?_; refine aB (aA (dR rfl) ?_)
    refine aA (rF rfl rfl Try.underlying4 (by have h8 := lZ (m := m1) (emp := decide (s = ByteArray.mk #[])) hRg1 hu hR (hO); first | exact h8.2 (by have h9 := A; cases m1 <;> simp_all))) ?_
    refine wan (aH (aE (br1 ?_))); exact ⟨rfl, O⟩
   have hu1 : m1 = true := by have h9 := A; cases m1 <;> simp_all
   obtain ⟨N, hN⟩ := sI hu hu1 B; have hR' := hR; rw [pM] at hR'; have hsd := hRg1.sound; rw [pM] at hsd; obtain rfl := pY hRg1.prog hsd hN hR'; have hoff : cD s N + (bH s (cD s N)).2 = s.size ∧ 0 < (bH s (cD s N)).2 := tS hN; obtain ⟨aq, cq, heq, hcq, ek⟩ := sA (X := []) (hO) (fun g _ h => by cases h); cases heq
   have hk2 : 2 < [0, (s.size : Int), (cD s N : Int), (s.size : Int)].length := by show 2 < 4; omega
   have hk3 : 3 < [0, (s.size : Int), (cD s N : Int), (s.size : Int)].length := by show 3 < 4; omega
   obtain ⟨g1, o1, vs1, hg1, -, -, H, hr1⟩ := ek 2 hk2; obtain rfl := hr1; obtain ⟨g2, o2, vs2, hg2, -, -, J, hr2⟩ := ek 3 hk3; obtain rfl := hr2; refine aM (aC (aI (csr (aB (aA (aZ rfl Try.underlying30 rfl) ?_))))); refine aA (kZ (r := .bool false) rfl rfl (fun w => by kernel_rfl)) ?_; refine wnn (cK rfl ?_); refine aM (aC (csr (aB (aB (aA (cP (n := 2) rfl rfl hg1 dB hk2) ?_))))); refine aA (aS rfl aT (show _ = some (iv (cD s N : Int)) from (H.evo (Evo.refl [] d0) (by simp)) 0 _ rfl)) ?_; refine aL (vs := [_, _]) kK rfl (oA s (cD s N) (by omega) (by omega)) rfl ?_; rintro _ e8 ⟨rfl, a9⟩; have b4 := (Evo.refl [] d0).then a9; refine aB (aA (bN rfl rfl) ?_); refine aA (bN rfl rfl) ?_; refine wan (csr (aB (aA (fE rfl rfl) ?_))); refine aB (bC (t := 127) rfl (fun D => ?_) (fun D => ?_))
   ·refine aO (aB (aO (aA (cP (n := 2) rfl rfl hg1 dB hk2) ?_))); refine aO ?_; refine aA (aS rfl aT (show _ = some (iv (cD s N : Int)) from (H.evo b4 (by simp)) 0 _ rfl)) ?_; refine aO (aB (aO ?_)); refine aA (aK rfl rfl (by omega) (by omega)) ?_; refine aO (aB (aO (aA (bR rfl Try.underlying9 rfl) ?_))); refine aO (wel ?_); refine bQ (aB (bC (t := 137) rfl (fun F => ?_) (fun F => ?_)))
    ·refine aO (aB (aO (aA (cP (n := 3) rfl rfl hg2 dB hk3) ?_))); refine aO ?_; refine aA (aS rfl aT (show _ = some (iv (s.size : Int)) from (J.evo b4 (by simp)) 0 _ rfl)) ?_; refine aO (aB (aO (aA (bR rfl Try.underlying9 rfl) ?_))); refine aO (wel ?_); refine bQ (wan (aH (br1 ?_))); exact ⟨congrArg Value.bool (decide_eq_true rfl), (O.then a9)⟩
    refine aJ (aJ (aJ (aJ (aJ (aJ (bK (wan (aH (br1 ?_))))))))); exact absurd (by omega) F
   refine aJ (aJ (aJ (aJ (aJ (aJ (aJ (aJ (bK (aB (aJ (aJ (aJ (aJ (aJ ?_)))))))))))))); refine aJ (bK (wan (aH (br1 ?_)))); exact absurd (by omega) D
  refine aJ (aJ (aJ (aJ (bK ?_)))); refine aA (qA rfl rfl Try.underlying4 (decide_eq_false (by omega))) ?_; refine wnn (cK rfl ?_); refine aM (aC (csr (aB (aB ?_)))); refine aL (vs := [_, _]) pI rfl (nD (hRg1.evo0 a8) s (by omega)) rfl ?_; rintro _ d1 ⟨ga, gn, gc, ls, gob, rfl, hO, hgo, hR, d3⟩; have U := a7.then d3; refine wan (aI (csr (aB (aA (dR rfl) ?_)))); refine aB (jM (t := 104) rfl (fun A => ?_) (fun A => ?_))
  ·refine aJ (aJ (bQ (wnn (dD rfl ?_)))); refine csr (aB (aA (aZ rfl Try.underlying30 rfl) ?_)); refine wel ?_; refine aB (aA (dR rfl) ?_)
   refine aA (rF rfl rfl Try.underlying4 (by have h8 := lZ (m := m1) (emp := decide (s = ByteArray.mk #[])) hRg1 hu hR (hO); first | exact h8.1 (by have h9 := A; cases m1 <;> simp_all))) ?_
   refine wan (aH (aE (br1 ?_))); exact ⟨rfl, U⟩
  refine aO (aB (aO (aA (gK rfl rfl) ?_))); refine bK (wnn (aW rfl (fun B => ?_) (fun B => ?_)))
  ·refine csr (aB (aA (aZ rfl Try.underlying30 rfl) ?_)); refine wel ?_; refine aB (aA (dR rfl) ?_)
   refine aA (rF rfl rfl Try.underlying4 (by have h8 := lZ (m := m1) (emp := decide (s = ByteArray.mk #[])) hRg1 hu hR (hO); first | exact h8.2 (by have h9 := A; cases m1 <;> simp_all))) ?_
   refine wan (aH (aE (br1 ?_))); exact ⟨rfl, U⟩
  have hu1 : m1 = true := by have h9 := A; cases m1 <;> simp_all
  obtain ⟨N, hN⟩ := sI hu hu1 B; have hR' := hR; rw [pM] at hR'; have hsd := hRg1.sound; rw [pM] at hsd; obtain rfl := pY hRg1.prog hsd hN hR'; have hoff : cD s N + (bH s (cD s N)).2 = s.size ∧ 0 < (bH s (cD s N)).2 := tS hN; obtain ⟨aq, cq, heq, hcq, ek⟩ := sA (X := []) (hO) (fun g _ h => by cases h); cases heq
  have hk2 : 2 < [0, (s.size : Int), (cD s N : Int), (s.size : Int)].length := by show 2 < 4; omega
  have hk3 : 3 < [0, (s.size : Int), (cD s N : Int), (s.size : Int)].length := by show 3 < 4; omega
  obtain ⟨g1, o1, vs1, hg1, -, -, H, hr1⟩ := ek 2 hk2; obtain rfl := hr1; obtain ⟨g2, o2, vs2, hg2, -, -, J, hr2⟩ := ek 3 hk3; obtain rfl := hr2; refine aM (aC (aI (csr (aB (aA (aZ rfl Try.underlying30 rfl) ?_))))); refine aA (kZ (r := .bool false) rfl rfl (fun w => by kernel_rfl)) ?_; refine wnn (cK rfl ?_); refine aM (aC (csr (aB (aB (aA (cP (n := 2) rfl rfl hg1 dB hk2) ?_))))); refine aA (aS rfl aT (show _ = some (iv (cD s N : Int)) from (H.evo (Evo.refl [] d1) (by simp)) 0 _ rfl)) ?_; refine aL (vs := [_, _]) kK rfl (oA s (cD s N) (by omega) (by omega)) rfl ?_; rintro _ e9 ⟨rfl, b5⟩; have b6 := (Evo.refl [] d1).then b5; refine aB (aA (bN rfl rfl) ?_); refine aA (bN rfl rfl) ?_; refine wan (csr (aB (aA (fE rfl rfl) ?_))); refine aB (bC (t := 127) rfl (fun D => ?_) (fun D => ?_))
  ·refine aO (aB (aO (aA (cP (n := 2) rfl rfl hg1 dB hk2) ?_))); refine aO ?_; refine aA (aS rfl aT (show _ = some (iv (cD s N : Int)) from (H.evo b6 (by simp)) 0 _ rfl)) ?_; refine aO (aB (aO ?_)); refine aA (aK rfl rfl (by omega) (by omega)) ?_; refine aO (aB (aO (aA (bR rfl Try.underlying9 rfl) ?_))); refine aO (wel ?_); refine bQ (aB (bC (t := 137) rfl (fun F => ?_) (fun F => ?_)))
   ·refine aO (aB (aO (aA (cP (n := 3) rfl rfl hg2 dB hk3) ?_))); refine aO ?_; refine aA (aS rfl aT (show _ = some (iv (s.size : Int)) from (J.evo b6 (by simp)) 0 _ rfl)) ?_; refine aO (aB (aO (aA (bR rfl Try.underlying9 rfl) ?_))); refine aO (wel ?_); refine bQ (wan (aH (br1 ?_))); exact ⟨congrArg Value.bool (decide_eq_true rfl), (U.then b5)⟩
   refine aJ (aJ (aJ (aJ (aJ (aJ (bK (wan (aH (br1 ?_))))))))); exact absurd (by omega) F
  refine aJ (aJ (aJ (aJ (aJ (aJ (aJ (aJ (bK (aB (aJ (aJ (aJ (aJ (aJ ?_)))))))))))))); refine aJ (bK (wan (aH (br1 ?_)))); exact absurd (by omega) D
end Go.Proofs.Ytidpigbinpaaeaa
namespace Go.Proofs.Ytidpigbinpaaeaa
open Go.ChangeAt Go.ChangeShapes Go.RowKit Go.W Go.WideShapes
set_option maxRecDepth 100000 in
theorem VB (H : Type) (enc : TypeId × Value → H) (W : World) (base : Nat) (args : Array Value) (ds gs : List (DataW H)) (before : List MemPlace)
    (hval : ∀ (j : Nat) t v, Try.f3.params[j]? = some t → args[j]? = some v → Value.okWide Try.prog W .any base t v)
    (hW : DataW.Whole enc Try.prog Try.f3.params.toList Rows.rxDotsSpec.vars false W args.toList ds gs before) (hk : Rows.uptoSmall H (ds ++ gs) = true)
    (hsz : (DataW.weightsEach Try.prog (Try.f3.params.toList ++ Rows.rxDotsSpec.plain.varTypes Try.prog) (ds ++ gs)).all (· ≤ reachBytes) = true) (hG : Glb W) :
    Calls Try.prog 3 args W fun e W' => ∃ v, e = .returned v ∧ Rows.rxDotsSpec.post enc Try.prog Try.f3 false true false false W args v W' := by
  have hW' := hW
  obtain ⟨p, q, B, hV, rfl, hfz, hnd⟩ := hW
  have hA : DataW.TrodAll enc Try.prog W 0 (fun _ => true) true Try.f3.params.toList args.toList ds p := B
  rw [Try.params3] at hA hval hsz
  obtain ⟨v0, vs0, d0, ds0, p0, q0, hargs0, rfl, rfl, h0, r0⟩ := trodAll_cons hA
  obtain ⟨D, rfl, rfl⟩ := trodAll_nil r0
  subst D
  obtain rfl : args = #[v0] := by cases args; simp_all
  obtain ⟨rfl, rfl⟩ := trodVars_none hV
  have hbk := of_decide_eq_true hk
  simp only [List.append_nil, List.cons_append, List.nil_append, Rows.uptoBulkAll] at hbk
  have k0 := h0
  have lt0 : ∀ x ∈ p0, x.block < W.heap.size := by obtain ⟨m, hm⟩ := k0; exact DataW.trod_lt m _ _ _ hm
  obtain ⟨f0, hf0⟩ := h0
  obtain ⟨s0, ⟨A, F⟩, -⟩ := IG f0 Try.underlying9 H enc W f0 _ _ (Nat.le_refl _) hf0 (fun n hn => by have := List.all_eq_true.1 hsz n (DataW.weights_mem_each (j := 0) rfl rfl n hn); simpa using this) (by simp only; omega)
  obtain ⟨z0, rfl⟩ := okWide_string Try.underlying9 (hval 0 9 _ rfl rfl)
  simp [Value.cells] at A
  subst A
  refine (HS z0 hG F).mono fun e W' ⟨v, he, hv, bel⟩ => ?_
  subst he hv
  exact ⟨_, rfl, _, _, _, [], _, [], hW', trodAll_mk1 (shut_bool Try.underlying4 _), (trodAll_cons_mk (Below.trod laidOut (by kernel_rfl) (of_decide_eq_true (by kernel_rfl)) k0 bel.below lt0) trodAll_mk0), rfl, bel.below.frame _, fun h => by cases h⟩
noncomputable def uM (os : Os) : World := World.holding Try.prog os ⟨#[], #[], []⟩
theorem TR (os : Os) : laidMet Try.prog Rows.rxDotsUptoRow.laid ((uM os).forCall (fun _ _ => 0) ⟨#[], #[.string ByteArray.empty], []⟩).memory :=
  laidMet_of_run' 8 (by kernel_rfl) (by kernel_rfl)
theorem reads (os : Os) {H : Type} (enc : TypeId × Value → H) : ∃ places, DataW.whole enc Try.prog ((uM os).forCall (fun _ _ => 0) ⟨#[], #[.string ByteArray.empty], []⟩).memory Try.f3.params.toList Rows.rxDotsSpec.vars false (#[.string ByteArray.empty] : Array Value).toList 8 = some ([.lit (.string [])], [], places) :=
  ⟨[], by kernel_rfl⟩
set_option maxRecDepth 100000 in
theorem lifted (os : Os) (started : os.Started) (H : Type) (enc : TypeId × Value → H) (F : Stop.Interp) :
    ReturnsInHanded {} Try.checked os 3 .any ((Rows.OpenSpec.upto Rows.rxDotsSpec).preRow enc Try.prog Try.f3 Rows.rxDotsUptoRow.domain false Rows.rxDotsUptoRow.laid) (((Rows.OpenSpec.upto Rows.rxDotsSpec).at F).post enc Try.prog Try.f3 false true false false) := by
  obtain ⟨places, hx⟩ := reads os enc
  refine returnsInHanded_of_row (C := Try.checked) (s := (Rows.OpenSpec.upto Rows.rxDotsSpec)) own started (by kernel_rfl) Try.func3
    (witness_row_at (enc := enc) (C := Try.checked) false (uM os) #[.string ByteArray.empty] rfl (by kernel_rfl) (by kernel_rfl) (by kernel_rfl)
      (OpenSpec.preRow_of_cond 8 hx (by kernel_rfl) (fun k hk => by cases hk; kernel_rfl) (by kernel_rfl) (TR os))) ?_
  intro W base args ds gs before hval hW _ hk hsz hL hsh _
  exact VB H enc W base args ds gs before hval hW (hk _ rfl) hsz (Try.laysM143.s1_3 W hsh)
theorem rxDots_holds : Rows.RxDotsUptoSaid :=
  OpenClaim.holds_of_cond 3 Try.f3 rfl rfl rfl rfl rfl rfl rfl ⟨rfl, rfl, rfl, rfl, rfl⟩ rfl rfl rfl rfl rfl (by kernel_rfl) Try.func3 (by kernel_rfl)
    (of_decide_eq_true (by kernel_rfl)) (by unfold Func.isWrapper; first | (rw [if_pos (by decide +kernel)]; kernel_rfl) | (rw [if_neg (by decide +kernel)]; exact ⟨rfl, rfl⟩))
    (fun os started H enc _ F => by rw [OpenClaim.pre_eq_preRow]; exact lifted os started H enc F)
#print axioms rxDots_holds
end Go.Proofs.Ytidpigbinpaaeaa
