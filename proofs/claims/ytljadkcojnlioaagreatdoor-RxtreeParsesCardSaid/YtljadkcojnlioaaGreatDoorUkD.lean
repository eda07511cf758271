/- Parses: part 4 of 7 of what the law rests on. -/
import Derived.Test.YtljadkcojnlioaaGreatDoorUkC
set_option linter.unusedSectionVars false
set_option linter.unusedSimpArgs false
set_option linter.unusedVariables false
namespace Go.Proofs.YtljadkcojnlioaaGreatDoor
open Go.RowKit Go.W
attribute [local irreducible] Decidable.decide
theorem iZ : eU Tryz.prog 64 3 = some 6 := by kernel_rfl
theorem mT : dW Tryz.prog 127 := ⟨_, Tryz.func127, by kernel_rfl, by kernel_rfl⟩
theorem GK : dW Tryz.prog 128 := ⟨_, Tryz.func128, by kernel_rfl, by kernel_rfl⟩
theorem sV : dW Tryz.prog 36 := ⟨_, Tryz.func36, by kernel_rfl, by kernel_rfl⟩
theorem nW : pF Tryz.prog 62 = some #[.bool false, .bool false, .bool false, .bool false] := by kernel_rfl
structure BrG where
  b3 : Nat
  b4 : Nat
structure BrI (w wr : World) (b : Nat) (s : ByteArray) (st : PS) (a : Option Addr) (c : Nat) (ob : Option Nat) (x : BrG) : Prop where
  hr : RdAt wr b s st a c ob
  h3 : wr.heap[x.b3]? = some (.cells (opV (eT s st.pos st.now)) 159 (0, 0))
  h4 : wr.heap[x.b4]? = some (.cells #[.bool st.now.fold, .bool st.now.lines, .bool st.now.dots, .bool st.now.lazy] 62 (0, 0))
  g3 : Ge w (some x.b3)
  g4 : Ge w (some x.b4)
  a34 : Apart (some x.b3) (some x.b4)
theorem wO {w : World} {b : Nat} {o : Opn} {T : TypeId} {z : Nat × Nat} (h : w.heap[b]? = some (.cells (opV o) T z)) : ∀ j v, ([.bool o.thn.fold, .bool o.thn.lines, .bool o.thn.dots, .bool o.thn.lazy] : List Value)[j]? = some v → w.cell? ⟨b, 2 + j, none⟩ = some v
  | 0, v, e => by cases e; exact iS h rfl
  | 1, v, e => by cases e; exact iS h rfl
  | 2, v, e => by cases e; exact iS h rfl
  | 3, v, e => by cases e; exact iS h rfl
  | j + 4, v, e => by cases e
section
variable {s : ByteArray} {ex : PS → PX Rx} {st : PS} {o : Opn} {e : Int} {x : Rx} {st2 : PS}
theorem WV (ho : eT s st.pos st.now = o) (h : o.err = 0) (h2 : o.sett = true) : mZ s ex st = .ok ([], { st with pos := st.pos + o.size, now := o.thn }) := by unfold mZ; rw [ho]; exact if_pos ⟨h, h2⟩
theorem OY (ho : eT s st.pos st.now = o) (h : ¬ (o.err = 0 ∧ o.sett = true)) (h2 : st.opn = 250) : mZ s ex st = .error 3 := by unfold mZ; rw [ho]; exact (if_neg h).trans (if_pos h2)
theorem FI (ho : eT s st.pos st.now = o) (h : ¬ (o.err = 0 ∧ o.sett = true)) (h2 : ¬ st.opn = 250) (h3 : o.err ≠ 0) : mZ s ex st = .error o.err := by unfold mZ; rw [ho]; exact (if_neg h).trans ((if_neg h2).trans (if_pos h3))
theorem OX (ho : eT s st.pos st.now = o) (h : ¬ (o.err = 0 ∧ o.sett = true)) (h2 : ¬ st.opn = 250) (h3 : ¬ o.err ≠ 0) (h4 : o.capt = true) (h5 : yG o.name st.names) : mZ s ex st = .error 85 := by unfold mZ; rw [ho]; exact (if_neg h).trans ((if_neg h2).trans ((if_neg h3).trans (if_pos ⟨h4, h5⟩)))
theorem xP (ho : eT s st.pos st.now = o) (h : ¬ (o.err = 0 ∧ o.sett = true)) (h2 : ¬ st.opn = 250) (h3 : ¬ o.err ≠ 0) (h4 : ¬ (o.capt = true ∧ yG o.name st.names)) : mZ s ex st = match ex ⟨st.pos + o.size, o.thn, st.opn + 1, if o.capt = true then st.names ++ [o.name] else st.names⟩ with
    | .error e => .error e
    | .ok (x, st2) => if isB s st2.pos 41 then
        .ok ([if o.capt = true then zI ((st.names.length : Int) + 1) o.name x else x], { st2 with pos := st2.pos + 1, opn := st2.opn - 1, now := st.now })
      else .error 80 := by unfold mZ; rw [ho]; exact (if_neg h).trans ((if_neg h2).trans ((if_neg h3).trans (if_neg h4)))
end
theorem TZ {X : List Nat} {w w1 w2 : World} {x : Rx} {vs : List Value} {bs : List Nat} {g : Nat} {n : Int} {nm : ByteArray} (hO : OwnS w2 27 9 (some ⟨g, 0, none⟩) 1 1 vs (some g)) (hT : OT x w1 vs bs) (hF : Fr w bs) (hg : w1.heap.size ≤ g) (he : Evo X w1 w2) (hx : ∀ b, b ∈ bs → b ∉ X) (hw : w.heap.size ≤ w1.heap.size) (hn : nm.size ≤ 1000000) :
    OT (zI n nm x) w2 [iv 7, .int .i32 0, .slice none 0 0, iv 0, iv 0, .bool false, iv n, .string nm, .slice (some ⟨g, 0, none⟩) 1 1] (g :: bs) ∧ Fr w (g :: bs) := by
  refine ⟨?_, ⟨List.nodup_cons.2 ⟨fun h => ?_, hF.nd⟩, fun b hb => ?_⟩⟩
  · unfold zI
    rw [OT]
    exact ⟨none, 0, none, _, 1, some g, vs, bs, rfl, OwnS.nil _ _ _, hO, OTs.single (hT.evo he hx), rfl, by simp, hn, by simp⟩
  · have := hT.lt g h; omega
  · rcases List.mem_cons.1 hb with rfl | hb
    · omega
    · exact hF.ge b hb
theorem sA {q b : Nat} {o : Option Nat} (h1 : Apart (some q) (some b)) (h2 : Apart (some q) o) : q ∉ b :: o.toList := fun h => by
  rcases List.mem_cons.1 h with rfl | h
  · exact h1 q rfl rfl
  · exact h2 q rfl (Option.mem_toList.1 h)
theorem LV {w : World} (h : Glb w) : Lt w (some pR) := fun g e => by
  cases e
  obtain ⟨m, hm⟩ := h
  rcases Nat.lt_or_ge pR w.heap.size with h1 | h1
  · exact h1
  · have h2 : w.heap[pR]? = none := Array.getElem?_eq_none h1
    simp [World.cell?, h2] at hm
theorem VU {b : Nat} {o : Option Nat} (h1 : pR ∉ [b]) (h2 : Apart (some pR) o) : pR ∉ b :: o.toList := fun h => by
  rcases List.mem_cons.1 h with e | h
  · exact h1 (by rw [e]; simp)
  · exact h2 _ rfl (Option.mem_toList.1 h)
theorem QQ {w w1 : World} {b : Nat} {bs : List Nat} (h : Fr w1 bs) (hb : Lt w (some b)) (hw : w.heap.size ≤ w1.heap.size) : ∀ q, q ∈ bs → q ∉ [b] := fun q hq hm => by
  have h1 := h.ge q hq
  have h2 := hb b rfl
  rw [List.mem_singleton.1 hm] at h1; omega
theorem MG {ex : PS → PX Rx} {w : World} {b : Nat} {s : ByteArray} {st : PS} {a : Option Addr} {c : Nat} {ob : Option Nat} (hex : st.opn < 250 → tO b s ex (st.opn + 1)) (hR : RdAt w b s st a c ob) (hs : s.size ≤ 4096) (h40 : isB s st.pos 40) (hop : st.opn ≤ 250) (hb : Bd s st.pos) (hnl : st.names.length ≤ 100) (hG : Glb w) (hGo : Apart (some pR) ob) :
    Calls Tryz.prog 109 #[.pointer (some ⟨b, 0, none⟩)] w (RetP (PcPost b s (mZ s ex) st ob w) (ExPan b (mZ s ex) st ob w)) := by
  have hap := hR.ap; have hgb : pR ∉ [b] := fun h => hR.glb hG (List.mem_singleton.1 h).symm; have hgw := VU hgb hGo; have hbw : Lt w (some b) := Lt.blk hR.blk; have how : Lt w ob := Lt.own hR.own; refine bE (N := 100) Tryz.func109 rfl rfl rfl ?_; refine csr (wan (aM (gR (α := BrG) (fun x => [(3, .pointer (some ⟨x.b3, 0, none⟩)), (4, .pointer (some ⟨x.b4, 0, none⟩))]) [(0, _), (2, _)] (fun x wr => Evo (b :: ob.toList) w wr ∧ (BrI w wr b s st a c ob x)) ⟨rfl, rfl, trivial⟩ ?_ ?_)))
  ·refine fR (fun w0 w' => Evo [] w0 w') (by kernel_rfl) (fun w1 s5 => ?_); have l8 := (Evo.refl (b :: ob.toList) w).then s5; have j4 := s5.blk0 hR.blk; have k2 := hR.own.evo0 s5; refine aet 0 rfl (fun _ hS => bC rfl) (Evo.refl [] w1) ?_; refine aet 2 rfl (fun _ hS => bC rfl) (Evo.refl [] w1) ?_; refine aet 3 rfl (fun _ hS => aH rfl) (Evo.refl [] w1) ?_; refine aet 4 rfl (fun _ hS => aD rfl fS) (Evo.refl [] w1) ?_; refine aet 5 rfl (fun _ hS => eB (o := 2) rfl lZ eX (vs := [.bool st.now.fold, .bool st.now.lines, .bool st.now.dots, .bool st.now.lazy]) rfl (AR (hS.blk0 j4))) (Evo.refl [] w1) ?_; refine cA [1, 6, 7] (by kernel_rfl) rfl ⟨?_, ?_, ?_, trivial⟩
   ·refine cG rfl ?_; refine aG (vs := [_]) mT rfl (pK ⟨j4, k2, hR.ne⟩ (by omega) h40.1) rfl ?_; rintro _ w6 ⟨rfl, m5⟩; have h6 := l8.then m5; have l9 := (Evo.refl [] w1).then m5; have g6 := m5.blk0 j4; have g7 := k2.evo0 m5; refine aR (bV (.inl l9) ?_); refine cA [6, 7] (by kernel_rfl) rfl ⟨?_, ?_, trivial⟩
    ·refine cG rfl ?_; refine cO rfl jN fun b3 C9 s6 g8 d5 => ?_; have d9 := g8; have k3 := l9.then d5; refine aR (bV (.inl k3) ?_); refine cA [7] (by kernel_rfl) rfl ⟨?_, trivial⟩; refine cG rfl ?_; refine cO rfl nW fun b4 D0 y0 g9 h0 => ?_; have e0 := g9; have m1 := Apart.new (Lt.blk s6) g9; have s7 := Ge.new (h6.then d5) g9; refine aR (bV (.inl (k3.then h0)) ?_); refine cA [8] (by kernel_rfl) rfl ⟨?_, trivial⟩; refine cG rfl ?_; refine aV rfl rfl bQ (h0.blk0 s6) rfl rfl ⟨rfl, rfl, rfl, rfl, rfl, rfl, rfl, rfl, rfl, trivial⟩ fun D1 s8 j5 => ?_; have s9 := (k3.then h0).step j5 (Ge.new l9 g8).mem1
     try simp only [cH, Nat.reduceAdd] at s8
     refine aR (bV (.inl s9) ?_); refine cA [9] (by kernel_rfl) rfl ⟨?_, trivial⟩; refine cG rfl ?_; refine aV rfl rfl eX (j5.blk y0 m1.symm.nmem1) rfl rfl ⟨rfl, rfl, rfl, rfl, trivial⟩ fun D2 t0 j6 => ?_
     try simp only [cH, Nat.reduceAdd] at t0
     refine aR (bV (.inl (s9.step j6 (Ge.new k3 g9).mem1)) ?_); refine dB (by kernel_rfl) (aY ?_); refine ⟨⟨b3, b4⟩, ⟨rfl, rfl, trivial⟩, ⟨rfl, rfl, trivial⟩, ((((h6.then d5).then h0).step j5 (Ge.new h6 g8).mem1).step j6 s7.mem1), ?_⟩; exact ⟨⟨(j6.blk (j5.blk (h0.blk0 (d5.blk0 g6)) (Apart.new (Lt.blk g6) g8).nmem1) (Apart.new (Lt.blk (d5.blk0 g6)) g9).nmem1), ((((g7.evo0 d5).evo0 h0).evo j5 (Apart.new (Lt.own g7) g8).own1).evo j6 (Apart.new (Lt.own (g7.evo0 d5)) g9).own1), hR.ne⟩, (j6.blk s8 m1.nmem1), t0, (Ge.new h6 g8), s7, m1⟩
    refine cG rfl ?_; refine cO rfl nW fun b4 D3 t1 h3 d6 => ?_; have e0 := h3; have k4 := l9.then d6; refine aR (bV (.inl k4) ?_); refine cA [6] (by kernel_rfl) rfl ⟨?_, trivial⟩; refine cG rfl ?_; refine cO rfl jN fun b3 D4 y1 h4 h5 => ?_; have d9 := h4; have m2 := Apart.new (Lt.blk t1) h4; have t2 := Ge.new (h6.then d6) h4; refine aR (bV (.inl (k4.then h5)) ?_); refine cA [8] (by kernel_rfl) rfl ⟨?_, trivial⟩; refine cG rfl ?_; refine aV rfl rfl bQ y1 rfl rfl ⟨rfl, rfl, rfl, rfl, rfl, rfl, rfl, rfl, rfl, trivial⟩ fun D5 t3 j7 => ?_; have t4 := (k4.then h5).step j7 (Ge.new k4 h4).mem1
    try simp only [cH, Nat.reduceAdd] at t3
    refine aR (bV (.inl t4) ?_); refine cA [9] (by kernel_rfl) rfl ⟨?_, trivial⟩; refine cG rfl ?_; refine aV rfl rfl eX (j7.blk (h5.blk0 t1) m2.nmem1) rfl rfl ⟨rfl, rfl, rfl, rfl, trivial⟩ fun D6 t5 j8 => ?_
    try simp only [cH, Nat.reduceAdd] at t5
    refine aR (bV (.inl (t4.step j8 (Ge.new l9 h3).mem1)) ?_); refine dB (by kernel_rfl) (aY ?_); refine ⟨⟨b3, b4⟩, ⟨rfl, rfl, trivial⟩, ⟨rfl, rfl, trivial⟩, ((((h6.then d6).then h5).step j7 t2.mem1).step j8 (Ge.new h6 h3).mem1), ?_⟩; exact ⟨⟨(j8.blk (j7.blk (h5.blk0 (d6.blk0 g6)) (Apart.new (Lt.blk (d6.blk0 g6)) h4).nmem1) (Apart.new (Lt.blk g6) h3).nmem1), ((((g7.evo0 d6).evo0 h5).evo j7 (Apart.new (Lt.own (g7.evo0 d6)) h4).own1).evo j8 (Apart.new (Lt.own g7) h3).own1), hR.ne⟩, (j8.blk t3 m2.symm.nmem1), t5, t2, (Ge.new h6 h3), m2.symm⟩
   ·refine cG rfl ?_; refine cO rfl jN fun b3 D7 k5 j9 k6 => ?_; have d9 := j9; have m6 := Apart.new (Lt.blk j4) j9; have m7 := Apart.new (Lt.own k2) j9; have h7 := Ge.new l8 j9; have m8 := Ge.new (Evo.refl [] w1) j9; have e1 := l8.then k6; have e2 := (Evo.refl [] w1).then k6; have a5 := k6.blk0 j4; have a6 := k2.evo0 k6; refine aR (bV (.inl e2) ?_); refine cA [1, 7] (by kernel_rfl) rfl ⟨?_, ?_, trivial⟩
    ·refine cG rfl ?_; refine aG (vs := [_]) mT rfl (pK ⟨a5, a6, hR.ne⟩ (by omega) h40.1) rfl ?_; rintro _ z0 ⟨rfl, E⟩; have i0 := e2.then E; refine aR (bV (.inl i0) ?_); refine cA [7] (by kernel_rfl) rfl ⟨?_, trivial⟩; refine cG rfl ?_; refine cO rfl nW fun b4 z1 u2 a7 a8 => ?_; have e0 := a7; have k7 := Apart.new (Lt.blk (E.blk0 k5)) a7; have m9 := Ge.new (e1.then E) a7; refine aR (bV (.inl (i0.then a8)) ?_); refine cA [8] (by kernel_rfl) rfl ⟨?_, trivial⟩; refine cG rfl ?_; refine aV rfl rfl bQ (a8.blk0 (E.blk0 k5)) rfl rfl ⟨rfl, rfl, rfl, rfl, rfl, rfl, rfl, rfl, rfl, trivial⟩ fun z2 n0 e3 => ?_; have n1 := (i0.then a8).step e3 m8.mem1
     try simp only [cH, Nat.reduceAdd] at n0
     refine aR (bV (.inl n1) ?_); refine cA [9] (by kernel_rfl) rfl ⟨?_, trivial⟩; refine cG rfl ?_; refine aV rfl rfl eX (e3.blk u2 k7.symm.nmem1) rfl rfl ⟨rfl, rfl, rfl, rfl, trivial⟩ fun z3 n2 e4 => ?_
     try simp only [cH, Nat.reduceAdd] at n2
     refine aR (bV (.inl (n1.step e4 (Ge.new i0 a7).mem1)) ?_); refine dB (by kernel_rfl) (aY ?_); refine ⟨⟨b3, b4⟩, ⟨rfl, rfl, trivial⟩, ⟨rfl, rfl, trivial⟩, ((((e1.then E).then a8).step e3 h7.mem1).step e4 m9.mem1), ?_⟩; exact ⟨⟨(e4.blk (e3.blk (a8.blk0 (E.blk0 a5)) m6.nmem1) (Apart.new (Lt.blk (E.blk0 a5)) a7).nmem1), ((((a6.evo0 E).evo0 a8).evo e3 m7.own1).evo e4 (Apart.new (Lt.own (a6.evo0 E)) a7).own1), hR.ne⟩, (e4.blk n0 k7.nmem1), n2, h7, m9, k7⟩
    refine cG rfl ?_; refine cO rfl nW fun b4 z4 u3 Y H => ?_; have e0 := Y; have k8 := Apart.new (Lt.blk k5) Y; refine aR (bV (.inl (e2.then H)) ?_); refine cA [1] (by kernel_rfl) rfl ⟨?_, trivial⟩; refine cG rfl ?_; refine aG (vs := [_]) mT rfl (pK ⟨(H.blk0 a5), (a6.evo0 H), hR.ne⟩ (by omega) h40.1) rfl ?_; rintro _ z5 ⟨rfl, a9⟩; have n3 := (e2.then H).then a9; refine aR (bV (.inl n3) ?_); refine cA [8] (by kernel_rfl) rfl ⟨?_, trivial⟩; refine cG rfl ?_; refine aV rfl rfl bQ (a9.blk0 (H.blk0 k5)) rfl rfl ⟨rfl, rfl, rfl, rfl, rfl, rfl, rfl, rfl, rfl, trivial⟩ fun z6 n4 e5 => ?_; have n5 := n3.step e5 m8.mem1
    try simp only [cH, Nat.reduceAdd] at n4
    refine aR (bV (.inl n5) ?_); refine cA [9] (by kernel_rfl) rfl ⟨?_, trivial⟩; refine cG rfl ?_; refine aV rfl rfl eX (e5.blk (a9.blk0 u3) k8.symm.nmem1) rfl rfl ⟨rfl, rfl, rfl, rfl, trivial⟩ fun z7 n6 e6 => ?_
    try simp only [cH, Nat.reduceAdd] at n6
    refine aR (bV (.inl (n5.step e6 (Ge.new e2 Y).mem1)) ?_); refine dB (by kernel_rfl) (aY ?_); refine ⟨⟨b3, b4⟩, ⟨rfl, rfl, trivial⟩, ⟨rfl, rfl, trivial⟩, ((((e1.then H).then a9).step e5 h7.mem1).step e6 (Ge.new e1 Y).mem1), ?_⟩; exact ⟨⟨(e6.blk (e5.blk (a9.blk0 (H.blk0 a5)) m6.nmem1) (Apart.new (Lt.blk a5) Y).nmem1), ((((a6.evo0 H).evo0 a9).evo e5 m7.own1).evo e6 (Apart.new (Lt.own a6) Y).own1), hR.ne⟩, (e6.blk n4 k8.nmem1), n6, h7, (Ge.new e1 Y), k8⟩
   refine cG rfl ?_; refine cO rfl nW fun b4 z8 i1 e7 i2 => ?_; have e0 := e7; have n7 := Apart.new (Lt.blk j4) e7; have n8 := Apart.new (Lt.own k2) e7; have i3 := Ge.new l8 e7; have n9 := Ge.new (Evo.refl [] w1) e7; have e8 := l8.then i2; have f0 := (Evo.refl [] w1).then i2; have b5 := i2.blk0 j4; have b7 := k2.evo0 i2; refine aR (bV (.inl f0) ?_); refine cA [1, 6] (by kernel_rfl) rfl ⟨?_, ?_, trivial⟩
   ·refine cG rfl ?_; refine aG (vs := [_]) mT rfl (pK ⟨b5, b7, hR.ne⟩ (by omega) h40.1) rfl ?_; rintro _ z9 ⟨rfl, F⟩; have i4 := f0.then F; refine aR (bV (.inl i4) ?_); refine cA [6] (by kernel_rfl) rfl ⟨?_, trivial⟩; refine cG rfl ?_; refine cO rfl jN fun b3 A0 u4 b8 b9 => ?_; have d9 := b8; have k9 := Apart.new (Lt.blk (F.blk0 i1)) b8; have o0 := Ge.new (e8.then F) b8; refine aR (bV (.inl (i4.then b9)) ?_); refine cA [8] (by kernel_rfl) rfl ⟨?_, trivial⟩; refine cG rfl ?_; refine aV rfl rfl bQ u4 rfl rfl ⟨rfl, rfl, rfl, rfl, rfl, rfl, rfl, rfl, rfl, trivial⟩ fun A1 o1 f5 => ?_; have o2 := (i4.then b9).step f5 (Ge.new i4 b8).mem1
    try simp only [cH, Nat.reduceAdd] at o1
    refine aR (bV (.inl o2) ?_); refine cA [9] (by kernel_rfl) rfl ⟨?_, trivial⟩; refine cG rfl ?_; refine aV rfl rfl eX (f5.blk (b9.blk0 (F.blk0 i1)) k9.nmem1) rfl rfl ⟨rfl, rfl, rfl, rfl, trivial⟩ fun A2 o3 f6 => ?_
    try simp only [cH, Nat.reduceAdd] at o3
    refine aR (bV (.inl (o2.step f6 n9.mem1)) ?_); refine dB (by kernel_rfl) (aY ?_); refine ⟨⟨b3, b4⟩, ⟨rfl, rfl, trivial⟩, ⟨rfl, rfl, trivial⟩, ((((e8.then F).then b9).step f5 o0.mem1).step f6 i3.mem1), ?_⟩; exact ⟨⟨(f6.blk (f5.blk (b9.blk0 (F.blk0 b5)) (Apart.new (Lt.blk (F.blk0 b5)) b8).nmem1) n7.nmem1), ((((b7.evo0 F).evo0 b9).evo f5 (Apart.new (Lt.own (b7.evo0 F)) b8).own1).evo f6 n8.own1), hR.ne⟩, (f6.blk o1 k9.symm.nmem1), o3, o0, i3, k9.symm⟩
   refine cG rfl ?_; refine cO rfl jN fun b3 A3 u5 Z I => ?_; have d9 := Z; have l0 := Apart.new (Lt.blk i1) Z; refine aR (bV (.inl (f0.then I)) ?_); refine cA [1] (by kernel_rfl) rfl ⟨?_, trivial⟩; refine cG rfl ?_; refine aG (vs := [_]) mT rfl (pK ⟨(I.blk0 b5), (b7.evo0 I), hR.ne⟩ (by omega) h40.1) rfl ?_; rintro _ A4 ⟨rfl, c0⟩; have o4 := (f0.then I).then c0; refine aR (bV (.inl o4) ?_); refine cA [8] (by kernel_rfl) rfl ⟨?_, trivial⟩; refine cG rfl ?_; refine aV rfl rfl bQ (c0.blk0 u5) rfl rfl ⟨rfl, rfl, rfl, rfl, rfl, rfl, rfl, rfl, rfl, trivial⟩ fun A5 o5 f7 => ?_; have o6 := o4.step f7 (Ge.new f0 Z).mem1
   try simp only [cH, Nat.reduceAdd] at o5
   refine aR (bV (.inl o6) ?_); refine cA [9] (by kernel_rfl) rfl ⟨?_, trivial⟩; refine cG rfl ?_; refine aV rfl rfl eX (f7.blk (c0.blk0 (I.blk0 i1)) l0.nmem1) rfl rfl ⟨rfl, rfl, rfl, rfl, trivial⟩ fun A6 o7 f8 => ?_
   try simp only [cH, Nat.reduceAdd] at o7
   refine aR (bV (.inl (o6.step f8 n9.mem1)) ?_); refine dB (by kernel_rfl) (aY ?_); refine ⟨⟨b3, b4⟩, ⟨rfl, rfl, trivial⟩, ⟨rfl, rfl, trivial⟩, ((((e8.then I).then c0).step f7 (Ge.new e8 Z).mem1).step f8 i3.mem1), ?_⟩; exact ⟨⟨(f8.blk (f7.blk (c0.blk0 (I.blk0 b5)) (Apart.new (Lt.blk b5) Z).nmem1) n7.nmem1), ((((b7.evo0 I).evo0 c0).evo f7 (Apart.new (Lt.own b7) Z).own1).evo f8 n8.own1), hR.ne⟩, (f8.blk o5 l0.symm.nmem1), o7, (Ge.new e8 Z), i3, l0.symm⟩
  rintro ⟨b3, b4⟩ y2 ⟨J, ⟨D, hb3, hb4, hg3, hg4, ha34⟩⟩; refine aC ?_; show CW _ _ _ _ [(3, .pointer (some ⟨b3, 0, none⟩)), (4, .pointer (some ⟨b4, 0, none⟩)), (0, _), (2, _)] _
  try dsimp only at D hb3 hb4 hg3 hg4 ha34
  have B : Apart (some b) (some b3) := jJ hbw hg3; have G : Apart (some b) (some b4) := jJ hbw hg4; have o8 : Apart ob (some b3) := jJ how hg3; have o9 : Apart ob (some b4) := jJ how hg4; have hob0 := pOpen_b (fl := st.now) hb h40; have hoe := pOpen_e (s := s) (i := st.pos) (fl := st.now)
  generalize ho : eT s st.pos st.now = o at *
  have hbdl := hb.le; refine aM (aM (gR (α := Bool) (fun z19 => [(19, .bool z19)]) [(0, _), (2, _), (3, _), (4, _)] (fun z19 wr => y2 = wr ∧ (z19 = true ↔ (o.err = 0 ∧ o.sett = true))) ⟨rfl, rfl, rfl, rfl, trivial⟩ ?_ ?_))
  ·refine aF (wfl rfl fC rfl kR hb3 rfl (wel ?_)); refine aA (bH (t := 16) rfl (fun k0 => ?_) (fun k0 => ?_))
   ·refine aW (aB (aD rfl lS) (aW (aB (aX rfl fI (bI hb3 rfl)) (bW (aR (aY ?_)))))); refine ⟨_, ⟨rfl, trivial⟩, ⟨rfl, rfl, rfl, rfl, trivial⟩, rfl, ?_⟩
    first | (simp only [Bool.false_eq_true, false_iff]; exact fun h9 => k0 h9.1) | exact ⟨fun h9 => ⟨k0, h9⟩, fun h9 => h9.2⟩
   refine aP (aP (bR (aR (aY ?_)))); refine ⟨_, ⟨rfl, trivial⟩, ⟨rfl, rfl, rfl, rfl, trivial⟩, rfl, ?_⟩
   first | (simp only [Bool.false_eq_true, false_iff]; exact fun h9 => k0 h9.1) | exact ⟨fun h9 => ⟨k0, h9⟩, fun h9 => h9.2⟩
  rintro z19 _ ⟨rfl, hz19⟩; refine aC ?_; show CW _ _ _ _ [(19, _), (0, _), (2, _), (3, _), (4, _)] _; refine eO rfl (fun m3 => ?_) (fun m3 => ?_)
  ·subst m3; have hj19 := hz19.1 rfl; obtain ⟨hz1, hz2, hz3⟩ := hob0 hj19.1; refine aM ?_; refine fR (fun w0 w' => Evo [b] w0 w') (by kernel_rfl) (fun L c1 => ?_); refine aet 0 rfl (fun _ hS => bC rfl) (Evo.refl [b] L) ?_; refine aet 1 rfl (fun _ hS => aH rfl) (Evo.refl [b] L) ?_; refine aet 2 rfl (fun _ hS => aD rfl bP) (Evo.refl [b] L) ?_; refine aet 4 rfl (fun _ hS => aD rfl gI) (Evo.refl [b] L) ?_; refine aet 5 rfl (fun _ hS => aX rfl bD (bI (hS.blk (c1.blk0 hb3) (B.symm.nmem1)) rfl)) (Evo.refl [b] L) ?_; refine cA [3] (by kernel_rfl) rfl ⟨?_, trivial⟩; refine cG rfl ?_; refine aB (aX rfl bD (bI (c1.blk0 D.blk) rfl)) (aR (bV (.inl (Evo.refl [b] L)) ?_)); refine aet 6 rfl (fun _ hS => aI rfl rfl (by omega) (by omega)) (Evo.refl [b] L) ?_; refine aet 7 rfl (fun _ hS => aH rfl) (Evo.refl [b] L) ?_; refine aet 8 rfl (fun _ hS => aD rfl bP) (Evo.refl [b] L) ?_; refine cA [9] (by kernel_rfl) rfl ⟨?_, trivial⟩; refine cG rfl ?_; refine bJ rfl rfl (rfl) bY (c1.blk0 D.blk) rfl fun A7 p1 i5 => ?_
   have u6 := (J.then c1).step i5 (fun y hy => .inl (by rw [List.mem_singleton.1 hy]; simp))
   try simp only [cH, Nat.reduceAdd] at p1
   refine aR (bV (.inl ((Evo.refl [b] L).step i5 (fun y hy => .inl hy))) ?_); refine dB (by kernel_rfl) (aC ?_); refine csr (aA (aB (aD rfl jU) (aB (eB (o := 2) rfl lZ eX (vs := [.bool o.thn.fold, .bool o.thn.lines, .bool o.thn.dots, .bool o.thn.lazy]) rfl (wO (i5.blk (c1.blk0 hb3) B.symm.nmem1))) ?_))); refine aB (aH rfl) (aB (aD rfl fS) (qL (f1 := .bool o.thn.fold) (f2 := .bool o.thn.lines) (f3 := .bool o.thn.dots) (f4 := .bool o.thn.lazy) rfl rfl eX ⟨rfl, rfl, rfl, rfl, trivial⟩ p1 fun A8 u7 p2 => ?_))
   have u8 := u6.step p2 (fun y hy => .inl (by rw [List.mem_singleton.1 hy]; simp))
   refine wnn (csr (wan (aK (aE (cU (br1 ?_))))))
   exact ⟨[], { st with pos := st.pos + o.size, now := o.thn }, WV ho hj19.1 hj19.2, u8, ⟨rfl, Nat.le_add_right _ _, hz2, hnl⟩, (by show st.pos < st.pos + o.size; omega), (by show 0 + st.pos ≤ st.pos + o.size; omega), a, c, ob, none, 0, none, [], [], rfl, OwnS.nil _ _ _, OTs.nil _, Fr.nil _, ⟨u7, (((D.own.evo0 c1).evo i5 D.ap.symm.own1).evo p2 D.ap.symm.own1), hR.ne⟩, .inl rfl⟩
  subst m3
  have hj19 : ¬ (o.err = 0 ∧ o.sett = true) := fun h9 => by have := hz19.2 h9; cases this
  refine aN (aC (aM (aM ?_))); have hno : ¬ (o.err = 0 ∧ o.sett = true) := hj19; refine aF (aA (aB (aH rfl) (wfl rfl iZ rfl bD D.blk rfl (wel ?_)))); refine wnn (aZ rfl (fun y3 => ?_) (fun y3 => ?_))
  ·refine aF (cT (vs := [_]) dJ rfl (fU 3) rfl ?_ ?_)
   ·intro pv wp hpp; obtain ⟨rfl, hpw⟩ := hpp; exact And.intro rfl ⟨_, rfl, _, OY ho hno (by omega), rfl, (J).then hpw⟩
   intro _ _ hF; exact hF.elim
  refine aN (aC (aM (aM ?_)))
  have hne250 : ¬ st.opn = 250 := by omega
  refine aF (wfl rfl fC rfl kR hb3 rfl (aB (fE rfl rfl) ?_)); refine wnn (aZ rfl (fun M => ?_) (fun M => ?_))
  ·refine aF (wfl rfl fC rfl kR hb3 rfl (cT (vs := [_]) dJ rfl (fU o.err) rfl ?_ ?_))
   ·intro pv wp hpp; obtain ⟨rfl, hpw⟩ := hpp; exact And.intro rfl ⟨_, rfl, _, FI ho hno hne250 M, rfl, (J).then hpw⟩
   intro _ _ hF; exact hF.elim
  refine aN (aC (aM ?_)); have herr : o.err = 0 := Classical.not_not.1 M; obtain ⟨hz1, hz2, hz3⟩ := hob0 herr; refine aF (wan (aM (csr (wfl rfl jA rfl fI hb3 rfl (wnn (eO rfl (fun a0 => ?_) (fun a0 => ?_)))))))
  ·have y4 := J; refine aF (aA (wfl rfl kX rfl dG hb3 rfl (cT (vs := [_, _]) GK rfl (IA ⟨D.blk, D.own, D.ne⟩ o.name hnl) rfl ?_ ?_)))
   ·intro pv wp hpp; obtain ⟨hfl, rfl, hpw⟩ := hpp; exact And.intro rfl ⟨_, rfl, _, OX ho hno hne250 M a0 hfl, rfl, (J).then hpw⟩
   rintro _ A9 ⟨hnf, rfl, l1, a2, c2, ob2, k1, hnb⟩; have t6 := gX o8.symm (Lt.blk hb3) hnb; have t7 := gX o9.symm (Lt.blk hb4) hnb; have hGo2 := gX hGo (LV (hG.evo J hgw)) hnb; have hnb2 : NB w ob ob2 := (show NB w ob ob from .inl rfl).older hnb y4.size; have hpp2 : ({ st with names := st.names ++ [o.name] } : PS).pos = st.pos := rfl; have hpo2 : ({ st with names := st.names ++ [o.name] } : PS).opn = st.opn := rfl
   have hnl2 : (st.names ++ [o.name]).length ≤ 100 := by rw [List.length_append]; have : st.names.length ≠ 100 := fun h => hnf (.inl h); simp; omega
   refine wan (aM ?_); refine fR (fun w0 w' => Evo [b] w0 w') (by kernel_rfl) (fun O c4 => ?_); have u9 := (J.step l1 (fun y hy => .inl hy)).then c4; have p3 := c4.blk0 (l1.blk hb3 (sA B.symm o8.symm)); refine aet 0 rfl (fun _ hS => bC rfl) (Evo.refl [b] O) ?_; refine aet 1 rfl (fun _ hS => aH rfl) (Evo.refl [b] O) ?_; refine aet 2 rfl (fun _ hS => aD rfl bP) (Evo.refl [b] O) ?_; refine aet 4 rfl (fun _ hS => aD rfl gI) (Evo.refl [b] O) ?_; refine aet 5 rfl (fun _ hS => aX rfl bD (bI (hS.blk p3 (B.symm.nmem1)) rfl)) (Evo.refl [b] O) ?_; refine cA [3] (by kernel_rfl) rfl ⟨?_, trivial⟩; refine cG rfl ?_; refine aB (aX rfl bD (bI (c4.blk0 k1.blk) rfl)) (aR (bV (.inl (Evo.refl [b] O)) ?_)); refine aet 6 rfl (fun _ hS => aI rfl rfl (by omega) (by omega)) (Evo.refl [b] O) ?_; refine aet 7 rfl (fun _ hS => aH rfl) (Evo.refl [b] O) ?_; refine aet 8 rfl (fun _ hS => aD rfl bP) (Evo.refl [b] O) ?_; refine cA [9] (by kernel_rfl) rfl ⟨?_, trivial⟩; refine cG rfl ?_; refine bJ rfl rfl (rfl) bY (c4.blk0 k1.blk) rfl fun B0 l2 f9 => ?_
   have v0 := u9.step f9 (fun y hy => .inl (by rw [List.mem_singleton.1 hy]; simp))
   try simp only [cH, Nat.reduceAdd] at l2
   refine aR (bV (.inl ((Evo.refl [b] O).step f9 (fun y hy => .inl hy))) ?_); refine dB (by kernel_rfl) (aC ?_); refine csr (aA (aB (aH rfl) (wfl rfl iZ rfl bD l2 rfl ?_))); refine aB (aI rfl rfl (by omega) (by omega)) ?_; refine aB (aH rfl) (aB (aD rfl iZ) (bJ rfl rfl (rfl) bY l2 rfl fun B1 p4 i6 => ?_))
   have v1 := v0.step i6 (fun y hy => .inl (by rw [List.mem_singleton.1 hy]; simp))
   have p5 := i6.blk (f9.blk p3 B.symm.nmem1) B.symm.nmem1
   try simp only [cH, Nat.reduceAdd] at p4
   refine wnn (csr (aA (aB (aD rfl jU) (aB (eB (o := 2) rfl lZ eX (vs := [.bool o.thn.fold, .bool o.thn.lines, .bool o.thn.dots, .bool o.thn.lazy]) rfl (wO p5)) ?_)))); refine aB (aH rfl) (aB (aD rfl fS) (qL (f1 := .bool o.thn.fold) (f2 := .bool o.thn.lines) (f3 := .bool o.thn.dots) (f4 := .bool o.thn.lazy) rfl rfl eX ⟨rfl, rfl, rfl, rfl, trivial⟩ p4 fun B2 v2 i7 => ?_))
   have i8 := v1.step i7 (fun y hy => .inl (by rw [List.mem_singleton.1 hy]; simp))
   have p6 := i7.blk p5 B.symm.nmem1; have p7 := i7.blk (i6.blk (f9.blk (c4.blk0 (l1.blk hb4 (sA G.symm o9.symm))) G.symm.nmem1) G.symm.nmem1) G.symm.nmem1; refine wnn (csr (aA ?_)); refine cT (vs := [_]) sV rfl (hex (by omega) (st := ⟨st.pos + o.size, o.thn, st.opn + 1, st.names ++ [o.name]⟩) ⟨v2, ((((k1.own.evo0 c4).evo f9 k1.ap.symm.own1).evo i6 k1.ap.symm.own1).evo i7 k1.ap.symm.own1), k1.ne⟩ rfl hz2 hnl2 (hG.evo i8 hgw) hGo2) rfl ?_ ?_
   ·intro pv wp hpp; obtain ⟨e9, hpe, rfl, hpw⟩ := hpp; exact And.intro rfl ⟨_, rfl, _, (xP ho hno hne250 M (fun h => hnf h.2)).trans (by rw [if_pos a0, hpe]), rfl, (i8).step hpw (oB hnb2)⟩
   rintro rv B3 ⟨x, st2, hx, l3, hmv, a3, c3, ob3, vs, bs, rfl, hOT, hFr, V, hnb3⟩; have m0 := i8; have y5 := gX t6 (Lt.blk p6) hnb3; have y6 := gX t7 (Lt.blk p7) hnb3; have hnb4 := hnb2.older hnb3 m0.size; have hFr9 : Fr w bs := hFr.older m0.size; have l4 := i8.step l3 (oB hnb2); have p8 := l3.blk p6 (sA B.symm t6); have p9 := l3.blk p7 (sA G.symm t7); obtain ⟨ra, rc, ka, kc, rfl⟩ := id hOT.nine; have hltx := hOT.lt; refine cO rfl dC fun b6 B4 v3 a1 c5 => ?_; have t8 := a1; have c6 := Apart.new (Lt.blk V.blk) a1; have q0 := Apart.new (Lt.own V.own) a1; refine aV rfl rfl aJ v3 rfl rfl ⟨rfl, rfl, rfl, rfl, rfl, rfl, rfl, rfl, rfl, trivial⟩ fun B5 q1 c7 => ?_
   have v4 := (hOT.evo0 c5).evo c7 (fun q hq h => by have h8 := hltx q hq; have h9 := List.mem_singleton.1 h; omega)
   try simp only [cH, Nat.reduceAdd] at q1
   refine wnn (aM (csr (aA ?_))); refine aG (vs := [_, _]) jO rfl (oK ⟨(c7.blk (c5.blk0 V.blk) c6.nmem1), ((V.own.evo0 c5).evo c7 q0.own1), V.ne⟩ (by omega) 41 (by decide)) rfl ?_; rintro _ B6 ⟨rfl, g0, W⟩
   have q3 := ((l4.then c5).step c7 (Ge.new l4 a1).mem1).step g0 (fun y hy => .inl (by rw [List.mem_singleton.1 hy]; simp))
   have v5 := g0.blk (c7.blk (c5.blk0 p8) (Apart.new (Lt.blk p8) a1).nmem1) ((by first | exact B.symm.own1 | exact B.symm.nmem1)); have v6 := g0.blk (c7.blk (c5.blk0 p9) (Apart.new (Lt.blk p9) a1).nmem1) ((by first | exact G.symm.own1 | exact G.symm.nmem1)); have v7 := v4.evo g0 (QQ hFr9 hbw (Nat.le_refl _)); have v8 := g0.blk q1 ((by first | exact c6.symm.own1 | exact c6.symm.nmem1)); refine aB (mS rfl) ?_; refine wnn (aZ rfl (fun d7 => ?_) (fun d7 => ?_))
   ·refine aF (cT (vs := [_]) dJ rfl (fU 80) rfl ?_ ?_)
    ·intro pv wp hpp; obtain ⟨rfl, hpw⟩ := hpp
     exact And.intro rfl ⟨_, rfl, _, (xP ho hno hne250 M (fun h => hnf h.2)).trans (by rw [if_pos a0, hx]; exact if_neg d7), rfl, (q3).then hpw⟩
    intro _ _ hF; exact hF.elim
   have h41 : isB s st2.pos 41 := Classical.not_not.1 d7; rw [if_pos h41] at W; have ho2 : st2.opn = st.opn + 1 := hmv.opn; have hle2 : st.pos + o.size ≤ st2.pos := hmv.le
   have ho3 : ((adv st2 1).opn : Int) - 1 = ((st2.opn - 1 : Nat) : Int) := by show ((st2.opn : Nat) : Int) - 1 = _; omega
   refine aN (aC (csr (aA (aB (aH rfl) (wfl rfl iZ rfl bD W.blk rfl ?_))))); refine aB (dX rfl rfl (by omega) (by omega)) ?_; rw [ho3]; refine aB (aH rfl) (aB (aD rfl iZ) (bJ rfl rfl (rfl) bY W.blk rfl fun B7 q4 c8 => ?_))
   have v9 := q3.step c8 (fun y hy => .inl (by rw [List.mem_singleton.1 hy]; simp))
   try simp only [cH, Nat.reduceAdd] at q4
   refine wnn (csr (aA (aB (bX rfl lZ eX (c8.blk v6 G.symm.nmem1) rfl) (aB (aH rfl) (aB (aD rfl fS) (qL (f1 := .bool st.now.fold) (f2 := .bool st.now.lines) (f3 := .bool st.now.dots) (f4 := .bool st.now.lazy) rfl rfl eX ⟨rfl, rfl, rfl, rfl, trivial⟩ q4 fun t9 w2 g1 => ?_))))))
   have q5 := v9.step g1 (fun y hy => .inl (by rw [List.mem_singleton.1 hy]; simp))
   have q6 := g1.blk (c8.blk v5 B.symm.nmem1) B.symm.nmem1; have q7 := (v7.evo c8 (QQ hFr9 hbw (Nat.le_refl _))).evo g1 (QQ hFr9 hbw (Nat.le_refl _)); have l5 := g1.blk (c8.blk v8 c6.symm.nmem1) c6.symm.nmem1; refine wnn (aM (csr (wfl rfl jA rfl fI q6 rfl (wnn (eO rfl (fun d8 => ?_) (fun d8 => ?_))))))
   ·have y7 := q7; refine aF (aA (wfl rfl kX rfl dG q6 rfl (aB (bX rfl bF aJ l5 rfl) (bL (vs := [_]) rfl cY rfl rfl rfl rfl fun D8 B8 w3 q8 c9 => ?_)))); refine aB (cI (vs := [(0, _), (6, _), (7, _), (8, _)]) cB rfl (cells := [_, _, _, _, _, _, _, _, _]) rfl) ?_; refine aV rfl rfl aJ (c9.blk0 l5) rfl rfl ⟨rfl, rfl, rfl, rfl, rfl, rfl, rfl, rfl, rfl, trivial⟩ fun u0 q9 d0 => ?_; have r0 := (q5.then c9).step d0 (Ge.new l4 a1).mem1
    have y9 := (q7.evo0 c9).evo d0 (fun q hq h => by have h8 := hltx q hq; have h9 := List.mem_singleton.1 h; omega)
    try simp only [cH, Nat.reduceAdd] at q9
    refine wnn (aM ?_)
    have hgr := TZ (n := (st.names.length : Int) + 1) (nm := o.name) (w3.evo d0 (Apart.new (Lt.blk l5) q8).symm.own1) y7 hFr9 ((Ge.new (Evo.refl ([b6]) t9) q8) _ rfl) (((Evo.refl ([b6]) t9).then c9).step d0 (fun y hy => .inl hy)) (fun q hq h => by have h8 := hltx q hq; have h9 := List.mem_singleton.1 h; omega) q5.size (by omega)
    obtain ⟨hgT, hgF⟩ := hgr; have m4 := r0; refine aF (aB (bX rfl bF aJ q9 rfl) (bL (vs := [_]) rfl cY rfl rfl rfl rfl fun y8 B9 w4 w5 i9 => ?_)); refine wan (aK (cU (br1 ?_))); have hK := jM w4 hgT hgF ((Ge.new (Evo.refl ([]) u0) w5) _ rfl) ((Evo.refl ([]) u0).then i9) (fun _ _ h => by cases h) m4.size; obtain ⟨ka9, kc9, ko9, cs9, bs9, hv9, hk1, hk2, hk3⟩ := hK
    refine ⟨[zI ((st.names.length : Int) + 1) o.name x], { st2 with pos := st2.pos + 1, opn := st2.opn - 1, now := st.now }, (xP ho hno hne250 M (fun h => hnf h.2)).trans (by rw [if_pos a0, hx]; exact (if_pos h41).trans (by rw [if_pos a0])), (r0.then i9), ⟨(by show st2.opn - 1 = st.opn; omega), (by show st.pos ≤ st2.pos + 1; omega), h41.asc (by decide) hmv.bd, hmv.nm⟩, (by show st.pos < st2.pos + 1; omega), (by show 1 + st.pos ≤ st2.pos + 1; omega), a3, c3, ob3, ka9, kc9, ko9, cs9, bs9, hv9, hk1, hk2, hk3, ⟨(i9.blk0 (d0.blk (c9.blk0 w2) c6.nmem1)), (((((W.own.evo c8 W.ap.symm.own1).evo g1 W.ap.symm.own1).evo0 c9).evo d0 q0.own1).evo0 i9), V.ne⟩, hnb4⟩
   rw [a0] at d8; cases d8
  have hnc : ¬ o.capt = true := by rw [a0]; simp
  refine aN (aC (aM ?_)); refine fR (fun w0 w' => Evo [b] w0 w') (by kernel_rfl) (fun U a4 => ?_); refine aet 0 rfl (fun _ hS => bC rfl) (Evo.refl [b] U) ?_; refine aet 1 rfl (fun _ hS => aH rfl) (Evo.refl [b] U) ?_; refine aet 2 rfl (fun _ hS => aD rfl bP) (Evo.refl [b] U) ?_; refine aet 4 rfl (fun _ hS => aD rfl gI) (Evo.refl [b] U) ?_; refine aet 5 rfl (fun _ hS => aX rfl bD (bI (hS.blk (a4.blk0 hb3) (B.symm.nmem1)) rfl)) (Evo.refl [b] U) ?_; refine cA [3] (by kernel_rfl) rfl ⟨?_, trivial⟩; refine cG rfl ?_; refine aB (aX rfl bD (bI (a4.blk0 D.blk) rfl)) (aR (bV (.inl (Evo.refl [b] U)) ?_)); refine aet 6 rfl (fun _ hS => aI rfl rfl (by omega) (by omega)) (Evo.refl [b] U) ?_; refine aet 7 rfl (fun _ hS => aH rfl) (Evo.refl [b] U) ?_; refine aet 8 rfl (fun _ hS => aD rfl bP) (Evo.refl [b] U) ?_; refine cA [9] (by kernel_rfl) rfl ⟨?_, trivial⟩; refine cG rfl ?_; refine bJ rfl rfl (rfl) bY (a4.blk0 D.blk) rfl fun C0 l6 g2 => ?_
  have w7 := (J.then a4).step g2 (fun y hy => .inl (by rw [List.mem_singleton.1 hy]; simp))
  try simp only [cH, Nat.reduceAdd] at l6
  refine aR (bV (.inl ((Evo.refl [b] U).step g2 (fun y hy => .inl hy))) ?_); refine dB (by kernel_rfl) (aC ?_); refine csr (aA (aB (aH rfl) (wfl rfl iZ rfl bD l6 rfl ?_))); refine aB (aI rfl rfl (by omega) (by omega)) ?_; refine aB (aH rfl) (aB (aD rfl iZ) (bJ rfl rfl (rfl) bY l6 rfl fun C1 r1 j0 => ?_))
  have w8 := w7.step j0 (fun y hy => .inl (by rw [List.mem_singleton.1 hy]; simp))
  have r5 := j0.blk (g2.blk (a4.blk0 hb3) B.symm.nmem1) B.symm.nmem1
  try simp only [cH, Nat.reduceAdd] at r1
  refine wnn (csr (aA (aB (aD rfl jU) (aB (eB (o := 2) rfl lZ eX (vs := [.bool o.thn.fold, .bool o.thn.lines, .bool o.thn.dots, .bool o.thn.lazy]) rfl (wO r5)) ?_)))); refine aB (aH rfl) (aB (aD rfl fS) (qL (f1 := .bool o.thn.fold) (f2 := .bool o.thn.lines) (f3 := .bool o.thn.dots) (f4 := .bool o.thn.lazy) rfl rfl eX ⟨rfl, rfl, rfl, rfl, trivial⟩ r1 fun C2 w9 j1 => ?_))
  have j2 := w8.step j1 (fun y hy => .inl (by rw [List.mem_singleton.1 hy]; simp))
  have r6 := j1.blk r5 B.symm.nmem1; have r7 := j1.blk (j0.blk (g2.blk (a4.blk0 hb4) G.symm.nmem1) G.symm.nmem1) G.symm.nmem1; refine wnn (csr (aA ?_)); refine cT (vs := [_]) sV rfl (hex (by omega) (st := ⟨st.pos + o.size, o.thn, st.opn + 1, st.names⟩) ⟨w9, ((((D.own.evo0 a4).evo g2 D.ap.symm.own1).evo j0 D.ap.symm.own1).evo j1 D.ap.symm.own1), D.ne⟩ rfl hz2 hnl (hG.evo j2 hgw) hGo) rfl ?_ ?_
  ·intro pv wp hpp; obtain ⟨e9, hpe, rfl, hpw⟩ := hpp; exact And.intro rfl ⟨_, rfl, _, (xP ho hno hne250 M (fun h => hnc h.1)).trans (by rw [if_neg hnc, hpe]), rfl, (j2).step hpw (oB (show NB w ob ob from .inl rfl))⟩
  rintro rv C3 ⟨x, st2, hx, l7, hmv, a3, c3, ob3, vs, bs, rfl, hOT, hFr, V, hnb3⟩; have m0 := j2; have y5 := gX o8.symm (Lt.blk r6) hnb3; have y6 := gX o9.symm (Lt.blk r7) hnb3; have hnb4 := (show NB w ob ob from .inl rfl).older hnb3 m0.size; have hFr9 : Fr w bs := hFr.older m0.size; have r8 := j2.step l7 (oB (show NB w ob ob from .inl rfl)); have r9 := l7.blk r6 (sA B.symm o8.symm); have s0 := l7.blk r7 (sA G.symm o9.symm); obtain ⟨ra, rc, ka, kc, rfl⟩ := id hOT.nine; have hltx := hOT.lt; refine cO rfl dC fun b6 C4 x0 d1 d2 => ?_; have t8 := d1; have g3 := Apart.new (Lt.blk V.blk) d1; refine aV rfl rfl aJ x0 rfl rfl ⟨rfl, rfl, rfl, rfl, rfl, rfl, rfl, rfl, rfl, trivial⟩ fun C5 s1 d3 => ?_
  have x1 := (hOT.evo0 d2).evo d3 (fun q hq h => by have h8 := hltx q hq; have h9 := List.mem_singleton.1 h; omega)
  try simp only [cH, Nat.reduceAdd] at s1
  refine wnn (aM (csr (aA ?_))); refine aG (vs := [_, _]) jO rfl (oK ⟨(d3.blk (d2.blk0 V.blk) g3.nmem1), ((V.own.evo0 d2).evo d3 (Apart.new (Lt.own V.own) d1).own1), V.ne⟩ (by omega) 41 (by decide)) rfl ?_; rintro _ C6 ⟨rfl, g4, W⟩
  have s2 := ((r8.then d2).step d3 (Ge.new r8 d1).mem1).step g4 (fun y hy => .inl (by rw [List.mem_singleton.1 hy]; simp))
  have x2 := g4.blk (d3.blk (d2.blk0 r9) (Apart.new (Lt.blk r9) d1).nmem1) ((by first | exact B.symm.own1 | exact B.symm.nmem1)); have x3 := g4.blk (d3.blk (d2.blk0 s0) (Apart.new (Lt.blk s0) d1).nmem1) ((by first | exact G.symm.own1 | exact G.symm.nmem1)); have x4 := x1.evo g4 (QQ hFr9 hbw (Nat.le_refl _)); have x5 := g4.blk s1 ((by first | exact g3.symm.own1 | exact g3.symm.nmem1)); refine aB (mS rfl) ?_; refine wnn (aZ rfl (fun d7 => ?_) (fun d7 => ?_))
  ·refine aF (cT (vs := [_]) dJ rfl (fU 80) rfl ?_ ?_)
   ·intro pv wp hpp; obtain ⟨rfl, hpw⟩ := hpp
    exact And.intro rfl ⟨_, rfl, _, (xP ho hno hne250 M (fun h => hnc h.1)).trans (by rw [if_neg hnc, hx]; exact if_neg d7), rfl, (s2).then hpw⟩
   intro _ _ hF; exact hF.elim
  have h41 : isB s st2.pos 41 := Classical.not_not.1 d7; rw [if_pos h41] at W; have ho2 : st2.opn = st.opn + 1 := hmv.opn; have hle2 : st.pos + o.size ≤ st2.pos := hmv.le
  have ho3 : ((adv st2 1).opn : Int) - 1 = ((st2.opn - 1 : Nat) : Int) := by show ((st2.opn : Nat) : Int) - 1 = _; omega
  refine aN (aC (csr (aA (aB (aH rfl) (wfl rfl iZ rfl bD W.blk rfl ?_))))); refine aB (dX rfl rfl (by omega) (by omega)) ?_; rw [ho3]; refine aB (aH rfl) (aB (aD rfl iZ) (bJ rfl rfl (rfl) bY W.blk rfl fun C7 s3 d4 => ?_))
  have x6 := s2.step d4 (fun y hy => .inl (by rw [List.mem_singleton.1 hy]; simp))
  try simp only [cH, Nat.reduceAdd] at s3
  refine wnn (csr (aA (aB (bX rfl lZ eX (d4.blk x3 G.symm.nmem1) rfl) (aB (aH rfl) (aB (aD rfl fS) (qL (f1 := .bool st.now.fold) (f2 := .bool st.now.lines) (f3 := .bool st.now.dots) (f4 := .bool st.now.lazy) rfl rfl eX ⟨rfl, rfl, rfl, rfl, trivial⟩ s3 fun u1 x7 g5 => ?_))))))
  have s4 := x6.step g5 (fun y hy => .inl (by rw [List.mem_singleton.1 hy]; simp))
  refine wnn (aM (csr (wfl rfl jA rfl fI (g5.blk (d4.blk x2 B.symm.nmem1) B.symm.nmem1) rfl (wnn (eO rfl (fun d8 => ?_) (fun d8 => ?_))))))
  ·rw [a0] at d8; cases d8
  refine aN (aC (aM ?_)); have hgr : OT x _ _ bs ∧ Fr w bs := ⟨((x4.evo d4 (QQ hFr9 hbw (Nat.le_refl _))).evo g5 (QQ hFr9 hbw (Nat.le_refl _))), hFr9⟩; obtain ⟨hgT, hgF⟩ := hgr; have m4 := s4; refine aF (aB (bX rfl bF aJ (g5.blk (d4.blk x5 g3.symm.nmem1) g3.symm.nmem1) rfl) (bL (vs := [_]) rfl cY rfl rfl rfl rfl fun y8 C8 x8 x9 j3 => ?_)); refine wan (aK (cU (br1 ?_))); have hK := jM x8 hgT hgF ((Ge.new (Evo.refl ([]) u1) x9) _ rfl) ((Evo.refl ([]) u1).then j3) (fun _ _ h => by cases h) m4.size; obtain ⟨ka9, kc9, ko9, cs9, bs9, hv9, hk1, hk2, hk3⟩ := hK
  refine ⟨[x], { st2 with pos := st2.pos + 1, opn := st2.opn - 1, now := st.now }, (xP ho hno hne250 M (fun h => hnc h.1)).trans (by rw [if_neg hnc, hx]; exact (if_pos h41).trans (by rw [if_neg hnc])), (s4.then j3), ⟨(by show st2.opn - 1 = st.opn; omega), (by show st.pos ≤ st2.pos + 1; omega), h41.asc (by decide) hmv.bd, hmv.nm⟩, (by show st.pos < st2.pos + 1; omega), (by show 1 + st.pos ≤ st2.pos + 1; omega), a3, c3, ob3, ka9, kc9, ko9, cs9, bs9, hv9, hk1, hk2, hk3, ⟨(j3.blk0 x7), (((W.own.evo d4 W.ap.symm.own1).evo g5 W.ap.symm.own1).evo0 j3), V.ne⟩, hnb4⟩
theorem GR : dW Tryz.prog 109 := ⟨_, Tryz.func109, by kernel_rfl, by kernel_rfl⟩
theorem GQ : dW Tryz.prog 110 := ⟨_, Tryz.func110, by kernel_rfl, by kernel_rfl⟩
theorem GP : dW Tryz.prog 111 := ⟨_, Tryz.func111, by kernel_rfl, by kernel_rfl⟩
theorem vX : dW Tryz.prog 115 := ⟨_, Tryz.func115, by kernel_rfl, by kernel_rfl⟩
theorem zZ {s : ByteArray} : ∀ {f i j : Nat} {fst : Bool} {S T : Int → Prop}, gB s f fst S i = .ok (T, j) → Bd s i → Bd s j ∧ i < j
  | 0, i, j, fst, S, T, h, _ => by cases h
  | f + 1, i, j, fst, S, T, h, hb => by
    rw [gB] at h
    split at h
    · cases h
    · rename_i h0
      split at h
      · rename_i h1
        cases h
        exact ⟨(hb.asc (by omega) (by omega)).1, by omega⟩
      · cases h2 : jD s i with
        | error e => rw [h2] at h; cases h
        | ok x =>
          obtain ⟨U, k⟩ := x
          rw [h2] at h
          obtain ⟨h3, h4⟩ := yN h2 hb (by omega)
          obtain ⟨h5, h6⟩ := zZ h h3
          exact ⟨h5, by omega⟩
theorem TW {s : ByteArray} {fl : Fl} {i j : Nat} {x : Rx} (h : lE s fl i = .ok (x, j)) (hb : Bd s i) : Bd s j ∧ i < j := by
  unfold lE at h
  cases h1 : gB s (s.size + 1) true (fun _ => False) (if isB s i 94 then i + 1 else i) with
  | error e => rw [h1] at h; cases h
  | ok y =>
    obtain ⟨S, k⟩ := y
    rw [h1] at h
    cases h
    by_cases h2 : isB s i 94
    · rw [if_pos h2] at h1
      obtain ⟨h3, h4⟩ := zZ h1 (h2.asc (by decide) hb)
      exact ⟨h3, by omega⟩
    · rw [if_neg h2] at h1
      exact zZ h1 hb
section
variable {s : ByteArray} {ex : PS → PX Rx} {st : PS} {x : Rx} {j : Nat} {e : Int}
theorem HR (h : sb s st.pos = 40) : fQ s ex st = mZ s ex st := by unfold fQ; rw [if_pos h]
theorem TM (h : sb s st.pos = 91) (h2 : lE s st.now (st.pos + 1) = .ok (x, j)) : fQ s ex st = .ok ([x], jY st j) := by unfold fQ; rw [if_neg (by omega), if_pos h, h2]; rfl
theorem TL (h : sb s st.pos = 91) (h2 : lE s st.now (st.pos + 1) = .error e) : fQ s ex st = .error e := by unfold fQ; rw [if_neg (by omega), if_pos h, h2]
theorem NG (h : sb s st.pos = 92) : fQ s ex st = gJ s st := by unfold fQ; rw [if_neg (by omega), if_neg (by omega), if_pos h]
theorem uL (h1 : ¬ sb s st.pos = 40) (h2 : ¬ sb s st.pos = 91) (h3 : ¬ sb s st.pos = 92) : fQ s ex st = jR s st := by unfold fQ; rw [if_neg h1, if_neg h2, if_neg h3]
theorem pl_all (h : (cL s st.pos).1 = 46) (h2 : st.now.dots = true) : jR s st = .ok ([jX (rs [(0, 1114111)])], jY st (st.pos + (cL s st.pos).2)) := by unfold jR; rw [if_pos h, if_pos h2]; rfl
theorem pl_dot (h : (cL s st.pos).1 = 46) (h2 : ¬ st.now.dots = true) : jR s st = .ok ([jX (rs [(0, 9), (11, 1114111)])], jY st (st.pos + (cL s st.pos).2)) := by unfold jR; rw [if_pos h, if_neg h2]; rfl
theorem pl_hat (h : (cL s st.pos).1 = 94) : jR s st = .ok ([rxK (if st.now.lines = true then 10 else 8)], jY st (st.pos + (cL s st.pos).2)) := by unfold jR; rw [if_neg (by omega), if_pos h]; rfl
theorem pl_dol (h : (cL s st.pos).1 = 36) : jR s st = .ok ([rxK (if st.now.lines = true then 11 else 9)], jY st (st.pos + (cL s st.pos).2)) := by unfold jR; rw [if_neg (by omega), if_neg (by omega), if_pos h]; rfl
theorem TJ (h : ¬ (cL s st.pos).1 = 46) (h1 : ¬ (cL s st.pos).1 = 94) (h2 : ¬ (cL s st.pos).1 = 36) : jR s st = .ok ([lP st.now (cL s st.pos).1], jY st (st.pos + (cL s st.pos).2)) := by unfold jR; rw [if_neg h, if_neg h1, if_neg h2]; rfl
end
theorem PcPost.congr {b : Nat} {s : ByteArray} {pp qq : PS → PL} {st : PS} {ob : Option Nat} {w w' : World} {v : Value} (h : PcPost b s pp st ob w v w') (e : qq st = pp st) : PcPost b s qq st ob w v w' := by
  obtain ⟨l, st', h1, h2⟩ := h
  exact ⟨l, st', e.trans h1, h2⟩
theorem ExPan.congr {b : Nat} {α : Type} {pp qq : PS → PX α} {st : PS} {ob : Option Nat} {w w' : World} {v : Value} (h : ExPan b pp st ob w v w') (e : qq st = pp st) : ExPan b qq st ob w v w' := by
  obtain ⟨x, h1, h2⟩ := h
  exact ⟨x, e.trans h1, h2⟩
theorem PcPost.older {b : Nat} {s : ByteArray} {pp : PS → PL} {st : PS} {ob : Option Nat} {w w1 w' : World} {v : Value} (h : PcPost b s pp st ob w1 v w') (he : Evo [] w w1) : PcPost b s pp st ob w v w' := by
  obtain ⟨l, st', h1, h2, h3, h4, h5, a, c, o, ka, kc, ko, cs, bs, h6, h7, h8, h9, h10, h11⟩ := h
  exact ⟨l, st', h1, (he.any _).step h2 (fun y hy => .inl hy), h3, h4, h5, a, c, o, ka, kc, ko, cs, bs, h6, h7, h8, h9.older he.size, h10, (show NB w ob ob from .inl rfl).older h11 he.size⟩
theorem ExPan.older {b : Nat} {α : Type} {pp : PS → PX α} {st : PS} {ob : Option Nat} {w w1 w' : World} {v : Value} (h : ExPan b pp st ob w1 v w') (he : Evo [] w w1) : ExPan b pp st ob w v w' := by
  obtain ⟨e, h1, h2, h3⟩ := h
  exact ⟨e, h1, h2, (he.any _).step h3 (fun y hy => .inl hy)⟩
theorem PcPost.evo {b : Nat} {s : ByteArray} {pp : PS → PL} {st : PS} {ob : Option Nat} {w w' : World} {v : Value} (h : PcPost b s pp st ob w v w') : Evo (b :: ob.toList) w w' := by obtain ⟨l, st', h1, h2, _⟩ := h; exact h2
theorem TK {ex : PS → PX Rx} {w : World} {b : Nat} {s : ByteArray} {st : PS} {a : Option Addr} {c : Nat} {ob : Option Nat} (hex : st.opn < 250 → tO b s ex (st.opn + 1)) (hR : RdAt w b s st a c ob) (hs : s.size ≤ 4096) (hlt : st.pos < s.size) (hop : st.opn ≤ 250) (hb : Bd s st.pos) (hnl : st.names.length ≤ 100) (hG : Glb w) (hGo : Apart (some pR) ob) :
    Calls Tryz.prog 87 #[.pointer (some ⟨b, 0, none⟩)] w (RetP (PcPost b s (fQ s ex) st ob w) (ExPan b (fQ s ex) st ob w)) := by
  have hap := hR.ap; have hgb : pR ∉ [b] := fun h => hR.glb hG (List.mem_singleton.1 h).symm; obtain ⟨g8, g9, a0, hr0, hr1⟩ := hb.next hlt; refine bE (N := 71) Tryz.func87 rfl rfl rfl ?_; refine csr (wan (aM (aM ?_))); refine eK (by kernel_rfl) (by kernel_rfl) ?_; refine bG (fun _ E => bC rfl) ?_; refine bG (fun _ E => aH rfl) ?_; refine bG (fun _ E => aD rfl eA) ?_; refine bG (fun _ E => aX rfl dG (bI (E.blk0 hR.blk) rfl)) ?_; refine bG (fun _ E => bC rfl) ?_; refine bG (fun _ E => aH rfl) ?_; refine bG (fun _ E => aD rfl bP) ?_; refine bG (fun _ E => aX rfl bD (bI (E.blk0 hR.blk) rfl)) ?_; refine bG (fun _ E => fN (n := st.pos) rfl rfl Tryz.underlying9 rfl hlt) ?_; refine eN (fun h0 E => aC ?_); have H := (Evo.refl [b] w).then E; have d4 := (Evo.refl [] w).then E; have a2 := E.blk0 hR.blk; have a7 := hR.own.evo0 E; refine bK (csr (wel ?_)); refine wan (aZ rfl (fun d7 => ?_) (fun d7 => ?_))
  ·refine csr (aA ?_); refine cT (vs := [_]) GR rfl (MG hex ⟨a2, a7, hR.ne⟩ hs ⟨hlt, by omega⟩ hop hb hnl (hG.evo H hgb) hGo) rfl ?_ ?_
   ·intro pv wp hpp; exact And.intro rfl ⟨_, rfl, (ExPan.older hpp d4).congr (HR (by omega))⟩
   rintro rv w7 hpc; have h3 := hpc.evo; have D := H; refine wan (aK (aO (aE (cU (br1 ?_))))); exact (PcPost.older hpc d4).congr (HR (by omega))
  refine csr (wel ?_); refine wan (aZ rfl (fun d8 => ?_) (fun d8 => ?_))
  ·refine csr (aA (aB (aH rfl) (wfl rfl bP rfl bD a2 rfl ?_))); refine aB (aI rfl rfl (by omega) (by omega)) ?_; refine aB (aH rfl) (aB (aD rfl bP) (bJ rfl rfl (rfl) bY a2 rfl fun w9 a8 a9 => ?_)); have O := H.step a9 (fun y hy => .inl hy)
   try simp only [cH, Nat.reduceAdd] at a8
   refine wnn (csr (aA ?_)); refine cT (vs := [_]) GQ rfl (WS (st := jY st (st.pos + 1)) ⟨a8, (a7.evo a9 hap.symm.own1), hR.ne⟩ (by omega) (hb.asc hlt (by omega)).1 (hG.evo O hgb)) rfl ?_ ?_
   ·intro pv wp hpp; obtain ⟨e9, hpe, rfl, hpw⟩ := hpp; exact And.intro rfl ⟨_, rfl, TO (TL (by omega) hpe) ((O).step hpw (fun y hy => .inl hy))⟩
   rintro rv d5 ⟨x, j, hx, hT, b4, b5⟩; have hcall9 := b4; have D := O; obtain ⟨hbj, hij⟩ := TW hx (hb.asc hlt (by omega)).1; have hij2 : st.pos + 1 < j := hij; obtain ⟨vs, bx, rfl, hOT, hFx⟩ := hT; obtain ⟨ra, rc, ka, kc, rfl⟩ := id hOT.nine; refine bL (vs := [_]) rfl cY rfl rfl rfl rfl fun h4 h5 d9 e0 U => ?_; have e1 := (O.step b4 (fun y hy => .inl hy)).then U; have e2 := U.blk0 b5.blk; have e3 := b5.own.evo0 U; refine wan (aK (aO (aE (cU (br1 ?_)))))
   exact zT (pp := fQ s ex) hR (TM (by omega) hx) (jM d9 hOT (hFx.older D.size) ((Ge.new (Evo.refl [] d5) e0) _ rfl) ((Evo.refl [] d5).then U) (fun b hb h => by cases h) (Nat.le_trans D.size hcall9.size)) e1 ⟨e2, e3, b5.ne⟩ rfl rfl hnl (by show st.pos < j; omega) hbj (by show 1 + st.pos ≤ j; omega)
  refine csr (wel ?_); refine wan (aZ rfl (fun e4 => ?_) (fun e4 => ?_))
  ·refine csr (aA ?_); refine cT (vs := [_]) GP rfl (QW ⟨a2, a7, hR.ne⟩ (by omega) hlt (by omega) hb (hG.evo H hgb)) rfl ?_ ?_
   ·intro pv wp hpp; obtain ⟨e9, hpe, rfl, hpw⟩ := hpp; exact And.intro rfl ⟨_, rfl, TO ((NG (by omega)).trans hpe) ((H).step hpw (fun y hy => .inl hy))⟩
   rintro rv h6 ⟨l, st', hx, hK, e5, b6, ho, hnm, hp, hbd, hll⟩; have D := H; refine wan (aK (aO (aE (cU (br1 ?_))))); exact zT (pp := fQ s ex) hR ((NG (by omega)).trans hx) (hK.older D.size) (H.step e5 (fun y hy => .inl hy)) ⟨b6.blk, b6.own, b6.ne⟩ ho hnm hnl hp hbd hll
  refine aN (aQ (aC (aM ?_))); have hpl : fQ s ex st = jR s st := uL (by omega) (by omega) (by omega); refine aF (aA ?_); refine aG (vs := [_]) oV rfl (yK ⟨a2, a7, hR.ne⟩ (by omega) hb) rfl ?_; rintro _ h7 ⟨rfl, e6, B⟩; have F := H.step e6 (fun y hy => .inl hy); refine wan (csr (aA (wnn (bK (csr (wel ?_)))))); refine wan (aZ rfl (fun e7 => ?_) (fun e7 => ?_))
  ·refine aM (csr (aA (aB (aH rfl) (aB (aD rfl fS) (wfl rfl wD rfl fI B.blk rfl (wnn (eO rfl (fun G => ?_) (fun G => ?_))))))))
   ·replace G : st.now.dots = true := G; refine csr (bL (vs := [_, _]) rfl dT rfl rfl rfl rfl fun h8 h9 e8 g2 a3 => ?_); refine aG (vs := [_]) dZ rfl (iB (es := [0, 1114111]) e8 (by decide)) rfl ?_; rintro _ i0 ⟨a1, c1, ob1, rfl, b7, hg1, a4⟩; have b8 := (F.then a3).then a4; refine aG (vs := [_]) iW rfl (oM (l := [(0, 1114111)]) (S := rs [(0, 1114111)]) b7 (jC (by kernel_rfl)) (by decide) (fun c => Iff.rfl)) rfl ?_; rintro rv d6 ⟨hT, V⟩; have hcall9 := V; have D := b8; obtain ⟨vs, bx, rfl, hOT, hFx⟩ := hT; obtain ⟨ra, rc, ka, kc, rfl⟩ := id hOT.nine; refine bL (vs := [_]) rfl cY rfl rfl rfl rfl fun i1 i2 f0 f5 W => ?_; have f6 := (b8.then V).then W; have f7 := W.blk0 (V.blk0 (a4.blk0 (a3.blk0 B.blk))); have f8 := (((B.own.evo0 a3).evo0 a4).evo0 V).evo0 W; refine wan (aK (aE (aO (cU (br1 ?_)))))
    exact zT (pp := fQ s ex) hR (hpl.trans (pl_all (by omega) G)) (jM f0 hOT (hFx.older D.size) ((Ge.new (Evo.refl ([]) d6) f5) _ rfl) ((Evo.refl ([]) d6).then W) (fun b hb h => by cases h) (Nat.le_trans D.size hcall9.size)) f6 ⟨f7, f8, B.ne⟩ rfl rfl hnl (by show st.pos < st.pos + _; omega) a0 (by show 1 + st.pos ≤ st.pos + _; omega)
   replace G : st.now.dots = false := G; refine aN (aC (csr (bL (vs := [_, _, _, _]) rfl dT rfl rfl rfl rfl fun i3 i4 f9 g3 a5 => ?_))); refine aG (vs := [_]) dZ rfl (iB (es := [0, 9, 11, 1114111]) f9 (by decide)) rfl ?_; rintro _ i5 ⟨a1, c1, ob1, rfl, b7, hg1, a6⟩; have b9 := (F.then a5).then a6; refine aG (vs := [_]) iW rfl (oM (l := [(0, 9), (11, 1114111)]) (S := rs [(0, 9), (11, 1114111)]) b7 (jC (by kernel_rfl)) (by decide) (fun c => Iff.rfl)) rfl ?_; rintro rv c0 ⟨hT, I⟩; have hcall9 := I; have D := b9; obtain ⟨vs, bx, rfl, hOT, hFx⟩ := hT; obtain ⟨ra, rc, ka, kc, rfl⟩ := id hOT.nine; refine bL (vs := [_]) rfl cY rfl rfl rfl rfl fun i6 g4 c4 c5 J => ?_; have c6 := (b9.then I).then J; have c7 := J.blk0 (I.blk0 (a6.blk0 (a5.blk0 B.blk))); have c8 := (((B.own.evo0 a5).evo0 a6).evo0 I).evo0 J; refine wan (aK (aO (cU (br1 ?_))))
   exact zT (pp := fQ s ex) hR (hpl.trans (pl_dot (by omega) (by simp [G]))) (jM c4 hOT (hFx.older D.size) ((Ge.new (Evo.refl ([]) c0) c5) _ rfl) ((Evo.refl ([]) c0).then J) (fun b hb h => by cases h) (Nat.le_trans D.size hcall9.size)) c6 ⟨c7, c8, B.ne⟩ rfl rfl hnl (by show st.pos < st.pos + _; omega) a0 (by show 1 + st.pos ≤ st.pos + _; omega)
  refine csr (wel ?_); refine wan (aZ rfl (fun g0 => ?_) (fun g0 => ?_))
  ·refine csr (aA (aB (aH rfl) (aB (aD rfl fS) (wfl rfl rQ rfl fI B.blk rfl (aG (vs := [_, _, _]) vX rfl (UD 8 10 st.now.lines) rfl ?_))))); rintro rv g5 ⟨hK, Y⟩; have D := F; refine wan (aK (aO (cU (br1 ?_))))
   exact zT (pp := fQ s ex) hR (hpl.trans (pl_hat (by omega))) (hK.older D.size) (F.then Y) ⟨(Y.blk0 B.blk), (B.own.evo0 Y), B.ne⟩ rfl rfl hnl (by show st.pos < st.pos + _; omega) a0 (by show 1 + st.pos ≤ st.pos + _; omega)
  refine csr (wel ?_); refine wan (aZ rfl (fun g1 => ?_) (fun g1 => ?_))
  ·refine csr (aA (aB (aH rfl) (aB (aD rfl fS) (wfl rfl rQ rfl fI B.blk rfl (aG (vs := [_, _, _]) vX rfl (UD 9 11 st.now.lines) rfl ?_))))); rintro rv g6 ⟨hK, Z⟩; have D := F; refine wan (aK (aO (cU (br1 ?_))))
   exact zT (pp := fQ s ex) hR (hpl.trans (pl_dol (by omega))) (hK.older D.size) (F.then Z) ⟨(Z.blk0 B.blk), (B.own.evo0 Z), B.ne⟩ rfl rfl hnl (by show st.pos < st.pos + _; omega) a0 (by show 1 + st.pos ≤ st.pos + _; omega)
  refine csr (aA (aA (aG (vs := [_, _]) oU rfl (EQ ⟨B.blk, B.own, B.ne⟩ (cL s st.pos).1 hr0 hr1) rfl ?_))); rintro rv c3 ⟨hT, L⟩; have hcall9 := L; have D := F; obtain ⟨vs, bx, rfl, hOT, hFx⟩ := hT; obtain ⟨ra, rc, ka, kc, rfl⟩ := id hOT.nine; refine bL (vs := [_]) rfl cY rfl rfl rfl rfl fun i7 g7 c9 d0 M => ?_; have d1 := (F.then L).then M; have d2 := M.blk0 (L.blk0 B.blk); have d3 := (B.own.evo0 L).evo0 M; refine wan (aK (aO (cU (br1 ?_))))
  exact zT (pp := fQ s ex) hR (hpl.trans (TJ (by omega) (by omega) (by omega))) (jM c9 hOT (hFx.older D.size) ((Ge.new (Evo.refl ([]) c3) d0) _ rfl) ((Evo.refl ([]) c3).then M) (fun b hb h => by cases h) (Nat.le_trans D.size hcall9.size)) d1 ⟨d2, d3, B.ne⟩ rfl rfl hnl (by show st.pos < st.pos + _; omega) a0 (by show 1 + st.pos ≤ st.pos + _; omega)
end Go.Proofs.YtljadkcojnlioaaGreatDoor
namespace Go.Proofs.YtljadkcojnlioaaGreatDoor
open Go.RowKit Go.W
theorem pRep_b {s : ByteArray} {i nn : Nat} {lo hi : Int} (hb : Bd s i) (hi0 : i < s.size) (h : kY (s.extract i s.size) = (lo, hi, nn)) : 0 ≤ lo ∧ lo ≤ 1001 ∧ -1 ≤ hi ∧ hi ≤ 1001 ∧ (nn ≠ 0 → i + nn ≤ s.size ∧ Bd s (i + nn)) := by
  have hrs := gF (s := s) (a := i) (Nat.le_refl s.size)
  have e0 : sb (s.extract i s.size) 0 = sb s i := iU (by omega)
  have one : sb s i < 128 → i + 1 ≤ s.size ∧ Bd s (i + 1) := fun h => ⟨hi0, (hb.asc hi0 h).1⟩
  by_cases h1 : sb (s.extract i s.size) 0 = 42
  · rw [EE h1] at h; cases h
    exact ⟨by omega, by omega, by omega, by omega, fun _ => one (by omega)⟩
  · by_cases h2 : sb (s.extract i s.size) 0 = 43
    · rw [EF h2] at h; cases h
      exact ⟨by omega, by omega, by omega, by omega, fun _ => one (by omega)⟩
    · by_cases h3 : sb (s.extract i s.size) 0 = 63
      · rw [TF h3] at h; cases h
        exact ⟨by omega, by omega, by omega, by omega, fun _ => one (by omega)⟩
      · by_cases h4 : sb (s.extract i s.size) 0 = 123
        · have close : ∀ {k : Nat}, isB (s.extract i s.size) k 125 → i + (k + 1) ≤ s.size ∧ Bd s (i + (k + 1)) := fun {k} hk => by
            have hk1 := hk.1
            have h6 : sb s (i + k) = 125 := by rw [← iU (by omega)]; exact hk.2
            exact ⟨by omega, by rw [← Nat.add_assoc]; exact isB.asc (b := 125) ⟨by omega, h6⟩ (by decide) (nH hb (by omega) (by omega) (by omega))⟩
          obtain ⟨lo1, j, hp1⟩ : ∃ lo1 j, iK (s.extract i s.size) (s.extract i s.size).size 1 0 = (lo1, j) := ⟨_, _, rfl⟩
          have hb1 := zW (r := s.extract i s.size) (f := (s.extract i s.size).size) (i := 1) (n := 0) (by omega) (by omega) (by omega)
          have hbr := zS h4 hp1
          rw [hp1] at hb1
          rw [h] at hbr
          replace hb1 : 0 ≤ lo1 ∧ lo1 ≤ 1001 ∧ 1 ≤ j ∧ j ≤ (s.extract i s.size).size := hb1
          split at hbr
          · rename_i hc
            have hb2 := zW (r := s.extract i s.size) (f := (s.extract i s.size).size) (i := j + 1) (n := 0) (by omega) (by omega) (by have := hc.2.1; omega)
            split at hbr
            · rename_i hd
              obtain ⟨rfl, hx⟩ := Prod.mk.inj hbr
              obtain ⟨rfl, rfl⟩ := Prod.mk.inj hx
              refine ⟨hb1.1, hb1.2.1, ?_, ?_, fun _ => close hd⟩
              · split <;> omega
              · split <;> omega
            · cases hbr; exact ⟨by omega, by omega, by omega, by omega, fun h => absurd rfl h⟩
          · split at hbr
            · cases hbr; exact ⟨by omega, by omega, by omega, by omega, fun h => absurd rfl h⟩
            · rename_i hc
              obtain ⟨rfl, hx⟩ := Prod.mk.inj hbr
              obtain ⟨rfl, rfl⟩ := Prod.mk.inj hx
              have hd : isB (s.extract i s.size) j 125 := Classical.not_not.1 (fun h => hc (.inr h))
              exact ⟨hb1.1, hb1.2.1, by omega, by omega, fun _ => close hd⟩
        · rw [NA h1 h2 h3 h4] at h; cases h
          exact ⟨by omega, by omega, by omega, by omega, fun h => absurd rfl h⟩
section
variable {s : ByteArray} {ex : PS → PX Rx} {f : Nat} {l g : List Rx} {ah : Bool} {st st2 : PS} {e lo hi : Int} {nn : Nat}
theorem qB (h : s.size ≤ st.pos ∨ sb s st.pos = 124 ∨ sb s st.pos = 41) : iR s ex f l ah st = .ok (oA 4 l, st) := by
  cases f with
  | zero => rfl
  | succ f => rw [iR, if_pos h]
theorem FM (h : ¬ (s.size ≤ st.pos ∨ sb s st.pos = 124 ∨ sb s st.pos = 41)) (hr : kY (s.extract st.pos s.size) = (lo, hi, 0)) (hp : fQ s ex st = .error e) : iR s ex (f + 1) l ah st = .error e := by
  rw [iR, if_neg h, hr]; simp only; rw [if_pos trivial, hp]
theorem BD (h : ¬ (s.size ≤ st.pos ∨ sb s st.pos = 124 ∨ sb s st.pos = 41)) (hr : kY (s.extract st.pos s.size) = (lo, hi, 0)) (hp : fQ s ex st = .ok (g, st2)) : iR s ex (f + 1) l ah st = iR s ex f (l ++ g) (decide (0 < g.length)) st2 := by
  rw [iR, if_neg h, hr]; simp only; rw [if_pos trivial, hp]
theorem qA (h : ¬ (s.size ≤ st.pos ∨ sb s st.pos = 124 ∨ sb s st.pos = 41)) (hr : kY (s.extract st.pos s.size) = (lo, hi, nn)) (hn : nn ≠ 0) (hc : ah = false ∨ 1000 < lo ∨ 1000 < hi ∨ (0 ≤ hi ∧ hi < lo)) : iR s ex (f + 1) l ah st = .error 82 := by
  rw [iR, if_neg h, hr]; simp only; rw [if_neg hn, if_pos hc]
theorem zB (h : ¬ (s.size ≤ st.pos ∨ sb s st.pos = 124 ∨ sb s st.pos = 41)) (hr : kY (s.extract st.pos s.size) = (lo, hi, nn)) (hn : nn ≠ 0) (hc : ¬ (ah = false ∨ 1000 < lo ∨ 1000 < hi ∨ (0 ≤ hi ∧ hi < lo))) (hq : isB s (st.pos + nn) 63) :
    iR s ex (f + 1) l ah st = iR s ex f (l.dropLast ++ [lM lo hi (!st.now.lazy) (l.getLastD (rxK 1))]) false { st with pos := st.pos + nn + 1 } := by
  rw [iR, if_neg h, hr]; simp only; rw [if_neg hn, if_neg hc, if_pos hq]
theorem FL (h : ¬ (s.size ≤ st.pos ∨ sb s st.pos = 124 ∨ sb s st.pos = 41)) (hr : kY (s.extract st.pos s.size) = (lo, hi, nn)) (hn : nn ≠ 0) (hc : ¬ (ah = false ∨ 1000 < lo ∨ 1000 < hi ∨ (0 ≤ hi ∧ hi < lo))) (hq : ¬ isB s (st.pos + nn) 63) :
    iR s ex (f + 1) l ah st = iR s ex f (l.dropLast ++ [lM lo hi st.now.lazy (l.getLastD (rxK 1))]) false { st with pos := st.pos + nn } := by
  rw [iR, if_neg h, hr]; simp only; rw [if_neg hn, if_neg hc, if_neg hq]
theorem vG (h : ¬ isB s st.pos 124) : pJ s ex f l st = .ok (oA 5 l, st) := by
  cases f with
  | zero => rfl
  | succ f => rw [pJ, if_neg h]
theorem JF (h : isB s st.pos 124) (hp : iR s ex (s.size + 1) [] false (adv st 1) = .error e) : pJ s ex (f + 1) l st = .error e := by
  rw [pJ, if_pos h]; show (match iR s ex (s.size + 1) [] false (adv st 1) with | .error e => _ | .ok (x, st2) => _) = _; rw [hp]
theorem FK {x : Rx} (h : isB s st.pos 124) (hp : iR s ex (s.size + 1) [] false (adv st 1) = .ok (x, st2)) : pJ s ex (f + 1) l st = pJ s ex f (l ++ [x]) st2 := by
  rw [pJ, if_pos h]; show (match iR s ex (s.size + 1) [] false (adv st 1) with | .error e => _ | .ok (x, st2) => _) = _; rw [hp]
end
theorem Fr.right {w : World} {b1 b2 : List Nat} (h : Fr w (b1 ++ b2)) : Fr w b2 := ⟨(List.nodup_append.1 h.nd).2.1, fun b hb => h.ge b (List.mem_append_right _ hb)⟩
theorem Fr.sub {w : World} {b1 b2 : List Nat} (h : Fr w b2) (hs : b1.Sublist b2) : Fr w b1 := ⟨h.nd.sublist hs, fun b hb => h.ge b (hs.subset hb)⟩
theorem Fr.insert {w w1 : World} {b0 b1 b2 : List Nat} {g : Nat} (h : Fr w (b0 ++ (b1 ++ b2))) (hl : ∀ b, b ∈ b0 ++ (b1 ++ b2) → b < w1.heap.size) (hg : w1.heap.size ≤ g) (hw : w.heap.size ≤ w1.heap.size) : Fr w (b0 ++ (b1 ++ (g :: b2))) := by
  have hp : (b0 ++ (b1 ++ (g :: b2))).Perm (g :: (b0 ++ (b1 ++ b2))) := by
    rw [← List.append_assoc, ← List.append_assoc]
    exact List.perm_middle
  refine ⟨hp.nodup_iff.2 (List.nodup_cons.2 ⟨fun hm => ?_, h.nd⟩), fun b hb => ?_⟩
  · have := hl g hm; omega
  · rcases List.mem_cons.1 (hp.mem_iff.1 hb) with rfl | hb
    · omega
    · exact h.ge b hb
theorem gZ {w : World} {e e2 : TypeId} {sz sz2 : Nat} {a a2 : Option Addr} {n n2 c c2 : Nat} {xs xs2 : List Value} {o o2 : Option Nat} (h : OwnS w e sz a n c xs o) (h2 : OwnS w e2 sz2 a2 n2 c2 xs2 o2) (hne : e ≠ e2) : Apart o o2 := fun g h3 h4 => by
  rcases h.2 with ⟨_, _, h5⟩ | ⟨g', _, cur, hg, _, hb, _⟩
  · rw [h5] at h3; cases h3
  · rcases h2.2 with ⟨_, _, h5⟩ | ⟨g2, _, cur2, hg2, _, hb2, _⟩
    · rw [h5] at h4; cases h4
    · rw [h3] at hg; cases hg
      rw [h4] at hg2; cases hg2
      rw [hb] at hb2
      injection hb2 with hb2
      injection hb2 with _ hb2
      exact hne hb2
theorem fO {w : World} {e e2 : TypeId} {sz2 : Nat} {a2 : Option Addr} {n2 c2 : Nat} {xs2 : List Value} {o2 : Option Nat} {b : Nat} {cs : Array Value} (h : w.heap[b]? = some (.cells cs e (0, 0))) (h2 : OwnS w e2 sz2 a2 n2 c2 xs2 o2) (hne : e ≠ e2) : Apart (some b) o2 := fun g h3 h4 => by
  cases h3
  rcases h2.2 with ⟨_, _, h5⟩ | ⟨g2, _, cur2, hg2, _, hb2, _⟩
  · rw [h5] at h4; cases h4
  · rw [h4] at hg2; cases hg2
    rw [h] at hb2
    injection hb2 with hb2
    injection hb2 with _ hb2
    exact hne hb2
theorem put_end {c1 c2 vs : List Value} (h : vs.length = c2.length) : rZ (c1 ++ c2) c1.length vs = c1 ++ vs := by
  unfold rZ
  rw [List.take_left, List.drop_append, h]
  simp
theorem nG {w : World} {g : Nat} {c1 c2 : List Value} (h : CellsAt w g 0 (c1 ++ c2)) : CellsAt w g (0 + c1.length) c2 := fun j v hj => by
  have h1 := h (c1.length + j) v (by rw [List.getElem?_append_right (by omega)]; simpa using hj)
  rw [← Nat.add_assoc] at h1
  exact h1
theorem yJ {l : List Rx} (h : l ≠ []) : ∃ l' x, l = l' ++ [x] ∧ l.dropLast = l' ∧ (∀ d, l.getLastD d = x) := by
  rcases List.eq_nil_or_concat l with rfl | ⟨l', x, rfl⟩
  · exact (h rfl).elim
  · exact ⟨l', x, by simp, by simp, fun d => by simp⟩
theorem wN {X : List Nat} {w1 w2 : World} {x : Rx} {vs : List Value} {bs : List Nat} {g : Nat} {lo hi : Int} {z : Bool} (hO : OwnS w2 27 9 (some ⟨g, 0, none⟩) 1 1 vs (some g)) (hT : OT x w1 vs bs) (he : Evo X w1 w2) (hx : ∀ b, b ∈ bs → b ∉ X) :
    OT (lM lo hi z x) w2 [iv 6, .int .i32 0, .slice none 0 0, iv lo, iv hi, .bool z, iv 0, .string ByteArray.empty, .slice (some ⟨g, 0, none⟩) 1 1] (g :: bs) := by
  unfold lM
  rw [OT]
  exact ⟨none, 0, none, _, 1, some g, vs, bs, rfl, OwnS.nil _ _ _, hO, OTs.single (hT.evo he hx), rfl, by simp, by show (0 : Nat) ≤ 1000000; omega, by simp⟩
end Go.Proofs.YtljadkcojnlioaaGreatDoor
namespace Go.Proofs.YtljadkcojnlioaaGreatDoor
open Go.RowKit Go.W
attribute [local irreducible] Decidable.decide
theorem qD : dW Tryz.prog 61 := ⟨_, Tryz.func61, by kernel_rfl, by kernel_rfl⟩
theorem JQ : dW Tryz.prog 86 := ⟨_, Tryz.func86, by kernel_rfl, by kernel_rfl⟩
theorem JP : dW Tryz.prog 87 := ⟨_, Tryz.func87, by kernel_rfl, by kernel_rfl⟩
noncomputable def tK (s : ByteArray) (ex : PS → PX Rx) (st : PS) : PX Rx := iR s ex (s.size + 1) [] false st
structure AtG where
  f : Nat
  sx : PS
  l : List Rx
  ah : Bool
  n : Nat
  qa : Option Addr
  qc : Nat
  qo : Option Nat
  bs : List Nat
  na : Option Addr
  nc : Nat
  no : Option Nat
structure AtI (w wr : World) (b : Nat) (s : ByteArray) (ex : PS → PX Rx) (st : PS) (ob : Option Nat) (b2 : Nat) (x : AtG) : Prop where
  hr : RdAt wr b s x.sx x.na x.nc x.no
  mv : Mv s st x.sx
  eq : tK s ex st = iR s ex x.f x.l x.ah x.sx
  hf : s.size + 1 ≤ x.f + x.sx.pos
  kt : ∃ cs, OwnS wr 27 9 x.qa x.n x.qc cs x.qo ∧ OTs x.l wr cs x.bs
  fr : Fr w (x.qo.toList ++ x.bs)
  len : x.l.length + st.pos ≤ x.sx.pos
  ahl : x.ah = true → x.l ≠ []
  nb : NB w ob x.no
  hb2 : wr.heap[b2]? = some (.cells #[iv 0, .int .i32 0, .slice none 0 0, iv 0, iv 0, .bool false, iv 0, .string ByteArray.empty, .slice none 0 0] 27 (0, 0))
  g2 : Ge w (some b2)
  a2 : b2 ∉ x.qo.toList ++ x.bs
theorem wL {w : World} {e : TypeId} {sz : Nat} {a : Option Addr} {n c : Nat} {xs : List Value} {o : Option Nat} (h : OwnS w e sz a n c xs o) : ∀ g, g ∈ o.toList → ∃ cs, w.heap[g]? = some (.cells cs e (0, 0)) := fun g hg => by
  rcases h.2 with ⟨_, _, h5⟩ | ⟨g', _, cur, hg2, _, hb, _⟩
  · rw [h5] at hg; cases hg
  · rw [hg2] at hg
    rw [List.mem_singleton.1 hg]; exact ⟨_, hb⟩
mutual
theorem OT.types : ∀ {x : Rx} {w : World} {vs : List Value} {bs : List Nat}, OT x w vs bs → ∀ g, g ∈ bs → ∃ cs T, w.heap[g]? = some (.cells cs T (0, 0)) ∧ (T = 27 ∨ T = 56)
  | .mk k r rs mn mx lz cp nm ks, w, vs, bs, h => by
    rw [OT] at h
    obtain ⟨ra, rc, rb, ka, kc, kb, cs, bk, h1, h2, h3, h4, rfl, h5⟩ := h
    intro g hg
    rcases List.mem_append.1 hg with hg | hg
    · obtain ⟨c, hc⟩ := wL h2 g hg; exact ⟨c, _, hc, .inr rfl⟩
    · rcases List.mem_append.1 hg with hg | hg
      · obtain ⟨c, hc⟩ := wL h3 g hg; exact ⟨c, _, hc, .inl rfl⟩
      · exact OTs.types h4 g hg
theorem OTs.types : ∀ {l : List Rx} {w : World} {cs : List Value} {bs : List Nat}, OTs l w cs bs → ∀ g, g ∈ bs → ∃ cs T, w.heap[g]? = some (.cells cs T (0, 0)) ∧ (T = 27 ∨ T = 56)
  | [], w, cs, bs, h => by rw [OTs] at h; rw [h.2]; exact fun g hg => by cases hg
  | x :: l, w, cs, bs, h => by
    rw [OTs] at h
    obtain ⟨vs, cs', b1, b2, h1, rfl, h3, h4⟩ := h
    intro g hg
    rcases List.mem_append.1 hg with hg | hg
    · exact OT.types h3 g hg
    · exact OTs.types h4 g hg
end
theorem nm_rd {w : World} {b : Nat} {s : ByteArray} {st : PS} {a : Option Addr} {c : Nat} {ob : Option Nat} {qa : Option Addr} {n qc : Nat} {cs : List Value} {qo : Option Nat} {l : List Rx} {bs : List Nat} (hR : RdAt w b s st a c ob) (hO : OwnS w 27 9 qa n qc cs qo) (hT : OTs l w cs bs) : ∀ q, q ∈ qo.toList ++ bs → q ∉ b :: ob.toList := fun q hq hm => by
  have h1 : ∃ cs T, w.heap[q]? = some (.cells cs T (0, 0)) ∧ (T = 27 ∨ T = 56) := by
    rcases List.mem_append.1 hq with hq | hq
    · obtain ⟨c, hc⟩ := wL hO q hq; exact ⟨c, _, hc, .inl rfl⟩
    · exact hT.types q hq
  obtain ⟨c1, T, h1, hTT⟩ := h1
  rcases List.mem_cons.1 hm with rfl | hm
  · rw [hR.blk] at h1
    injection h1 with h1
    injection h1 with _ h1
    rw [← h1] at hTT
    exact absurd hTT (by decide +kernel)
  · obtain ⟨c2, h2⟩ := wL hR.own q hm
    rw [h2] at h1
    injection h1 with h1
    injection h1 with _ h1
    rw [← h1] at hTT
    exact absurd hTT (by decide +kernel)
theorem sB {w2 : World} {q : Nat} {o o2 : Option Nat} {bs bx : List Nat} (h : q ∉ o.toList ++ bs) (hq : q < w2.heap.size) (hx : ∀ b, b ∈ bx → q ≠ b) (hob : o2 = o ∨ ∃ g, o2 = some g ∧ w2.heap.size ≤ g) : q ∉ o2.toList ++ (bs ++ bx) := fun hm => by
  rcases List.mem_append.1 hm with hm | hm
  · rcases hob with rfl | ⟨g, rfl, hg⟩
    · exact h (List.mem_append_left _ hm)
    · rw [List.mem_singleton.1 hm] at hq; omega
  · rcases List.mem_append.1 hm with hm | hm
    · exact h (List.mem_append_right _ hm)
    · exact hx q hm rfl
theorem mF {w w' : World} {e : TypeId} {sz : Nat} {a : Option Addr} {n c k g : Nat} {c1 c2 vs : List Value} {ob : Option Nat} {cur : Array Value} {U : TypeId} (h : OwnS w e sz a n c (c1 ++ c2) ob) (hg : ob = some g) (hb : w.heap[g]? = some (.cells cur U (0, 0))) (hc1 : c1.length = k * sz) (hk : k < n) (hc2 : c2.length = sz) (hv : vs.length = sz)
    (hb' : w'.heap[g]? = some (.cells (cur.toList.take (0 + k * sz) ++ vs ++ cur.toList.drop (0 + k * sz + sz)).toArray U (0, 0))) : OwnS w' e sz a n c (c1 ++ vs) ob := by
  have h1 := OwnS.put h hg hb (o := 0 + k * sz) (by omega) hk hv hb'
  rw [Nat.zero_add, ← hc1, put_end (by omega)] at h1
  exact h1
theorem KX {w : World} {b : Nat} {s : ByteArray} {st : PS} {a : Option Addr} {c : Nat} {ob : Option Nat} {lo hi : Int} {nn : Nat} (hR : RdAt w b s st a c ob) (hs : s.size ≤ 1000000) (hlt : st.pos < s.size) (hrp : kY (s.extract st.pos s.size) = (lo, hi, nn)) :
    Calls Tryz.prog 86 #[.pointer (some ⟨b, 0, none⟩)] w (Ret fun v w' => v = .tuple #[iv lo, iv hi, iv (nn : Nat)] ∧ Evo [] w w') := by
  have h := KY hR hs hlt
  rw [hrp] at h
  exact h
theorem BC {q : Nat} {o : Option Nat} {l : List Nat} (h : q ∉ o.toList ++ l) : Apart (some q) o := fun g h1 h2 => by cases h1; exact h (List.mem_append_left _ (by simp [h2]))
theorem lR {b : Nat} {o : Option Nat} : ∀ y, y ∈ [b] → y ∈ b :: o.toList := fun y hy => by rw [List.mem_singleton.1 hy]; simp
theorem sL {ex : PS → PX Rx} {w : World} {b : Nat} {s : ByteArray} {st : PS} {a : Option Addr} {c : Nat} {ob : Option Nat} (hex : st.opn < 250 → tO b s ex (st.opn + 1)) (hR : RdAt w b s st a c ob) (hs : s.size ≤ 4096) (hop : st.opn ≤ 250) (hb : Bd s st.pos) (hnl : st.names.length ≤ 100) (hG : Glb w) (hGo : Apart (some pR) ob) :
    Calls Tryz.prog 59 #[.pointer (some ⟨b, 0, none⟩)] w (RetP (ML b s (tK s ex) st ob w) (ExPan b (tK s ex) st ob w)) := by
  have hap := hR.ap; have hgb : pR ∉ [b] := fun h => hR.glb hG (List.mem_singleton.1 h).symm; have hgw := VU hgb hGo; have hbw : Lt w (some b) := Lt.blk hR.blk; have how : Lt w ob := Lt.own hR.own; refine bE (N := 115) Tryz.func59 rfl rfl rfl ?_; refine csr (cO rfl dC fun b2 w1 l7 g8 h0 => ?_); have l8 := g8; have c9 := Apart.new (Lt.blk hR.blk) g8; have l9 := Ge.new (Evo.refl (b :: ob.toList) w) g8; refine wnn (csr (wan (csr (wan (aM (bK ?_))))))
  refine dL (α := AtG) (⟨s.size + 1, st, [], false, 0, none, 0, none, [], a, c, ob⟩) (fun x => [(3, .slice x.qa x.n x.qc), (4, .bool x.ah)]) [(0, _), (2, _)] (fun x wr => Evo (b :: ob.toList) w wr ∧ (AtI w wr b s ex st ob b2 x)) (fun x => x.f) ⟨rfl, rfl, trivial⟩ ⟨rfl, rfl, trivial⟩ ⟨((Evo.refl (b :: ob.toList) w).then h0), ⟨⟨(h0.blk0 hR.blk), (hR.own.evo0 h0), hR.ne⟩, ⟨rfl, Nat.le_refl _, hb, hnl⟩, rfl, Nat.le_add_right _ _, ⟨[], OwnS.nil _ _ _, OTs.nil _⟩, Fr.nil _, (by show 0 + st.pos ≤ st.pos; omega), (fun h => by cases h), .inl rfl, l7, l9, List.not_mem_nil⟩⟩ ?_
  rintro ⟨f, sx, l, ah, n, qa, qc, qo, bs, na, nc, no⟩ wr11 ⟨c5, ⟨D, hmv, heq, hfi, ⟨cs, hown, hts⟩, hfr, hlen, hahl, hnb, hb2, hg2, ha2⟩⟩; show CW _ _ _ _ [(3, .slice qa n qc), (4, .bool ah), (0, _), (2, _)] _
  try dsimp only at D hmv heq hfi cs hown hts hfr hlen hahl hnb hb2 hg2 ha2
  have U : Apart (some b) qo := jJ hbw (pW hfr); have f5 := gZ hown D.own (by decide +kernel); have a1 : Apart (some b) (some b2) := jJ hbw hg2; have f6 := fO hb2 D.own (by decide +kernel); have c9 := BC ha2; have hGo1 := gX hGo (LV hG) hnb; have hpl := hmv.bd.le; have hmle := hmv.le; have nmq := nm_rd D hown hts; refine aM (aM ?_); refine eK (by kernel_rfl) (by kernel_rfl) ?_; refine bG (fun _ B => bC rfl) ?_; refine bG (fun _ B => aH rfl) ?_; refine bG (fun _ B => aD rfl bP) ?_; refine bG (fun _ B => aX rfl bD (bI (B.blk0 D.blk) rfl)) ?_; refine bG (fun _ B => bC rfl) ?_; refine bG (fun _ B => aH rfl) ?_; refine bG (fun _ B => aD rfl eA) ?_; refine bG (fun _ B => aX rfl dG (bI (B.blk0 D.blk) rfl)) ?_; refine bG (fun _ B => cQ rfl Tryz.underlying9 rfl) ?_; refine bG (fun _ B => dA rfl rfl) ?_; refine bG (fun _ B => bC rfl) ?_; refine kC (t := 21) rfl (fun j7 => ?_) (fun j7 => ?_)
  ·refine qlg ?_; refine bG (fun _ B => bC rfl) ?_; refine qlg ?_; refine bG (fun _ B => aH rfl) ?_; refine qlg ?_; refine bG (fun _ B => aD rfl eA) ?_; refine qlg ?_; refine bG (fun _ B => aX rfl dG (bI (B.blk0 D.blk) rfl)) ?_; refine qlg ?_; refine bG (fun _ B => bC rfl) ?_; refine qlg ?_; refine bG (fun _ B => aH rfl) ?_; refine qlg ?_; refine bG (fun _ B => aD rfl bP) ?_; refine qlg ?_; refine bG (fun _ B => aX rfl bD (bI (B.blk0 D.blk) rfl)) ?_; refine qlg ?_; refine bG (fun _ B => fN (n := sx.pos) rfl rfl Tryz.underlying9 rfl (by omega)) ?_; refine qlg ?_; refine bG (fun _ B => fE rfl rfl) ?_; refine bG (fun _ B => eP rfl rfl) ?_; refine bG (fun _ B => bC rfl) ?_; refine kC (t := 33) rfl (fun j8 => ?_) (fun j8 => ?_)
   ·refine qlg ?_; refine bG (fun _ B => bC rfl) ?_; refine qlg ?_; refine bG (fun _ B => aH rfl) ?_; refine qlg ?_; refine bG (fun _ B => aD rfl eA) ?_; refine qlg ?_; refine bG (fun _ B => aX rfl dG (bI (B.blk0 D.blk) rfl)) ?_; refine qlg ?_; refine bG (fun _ B => bC rfl) ?_; refine qlg ?_; refine bG (fun _ B => aH rfl) ?_; refine qlg ?_; refine bG (fun _ B => aD rfl bP) ?_; refine qlg ?_; refine bG (fun _ B => aX rfl bD (bI (B.blk0 D.blk) rfl)) ?_; refine qlg ?_; refine bG (fun _ B => fN (n := sx.pos) rfl rfl Tryz.underlying9 rfl (by omega)) ?_; refine qlg ?_; refine bG (fun _ B => fE rfl rfl) ?_; refine bG (fun _ B => eP rfl rfl) ?_; refine eN (fun h5 B => aC ?_); have e3 := c5.then B; have e4 := B.blk0 D.blk; have e5 := D.own.evo0 B; have e6 := hts.evo0 B; refine aZ rfl (fun j9 => ?_) (fun j9 => ?_)
    ·have hng : ¬ (s.size ≤ sx.pos ∨ sb s sx.pos = 124 ∨ sb s sx.pos = 41) := by omega
     obtain ⟨f', rfl⟩ : ∃ f', f = f' + 1 := ⟨f - 1, by omega⟩; obtain ⟨lo, hi, nn, hrp⟩ : ∃ lo hi nn, kY (s.extract sx.pos s.size) = (lo, hi, nn) := ⟨_, _, _, rfl⟩; obtain ⟨hlo0, hlo1, hhi0, hhi1, hnn⟩ := pRep_b hmv.bd (by omega) hrp; have hopx : sx.opn = st.opn := hmv.opn
     have hex' : sx.opn < 250 → tO b s ex (sx.opn + 1) := by rw [hopx]; exact hex
     refine aN (aC (bK (csr (aA ?_)))); refine aG (vs := [_]) JQ rfl (KX ⟨e4, e5, D.ne⟩ (by omega) (by omega) hrp) rfl ?_; rintro _ n8 ⟨rfl, b5⟩; have L := e3.then b5; have c6 := b5.blk0 e4; have e7 := e5.evo0 b5; have d1 := (hown.evo0 B).evo0 b5; have d2 := e6.evo0 b5; have d3 := b5.blk0 (B.blk0 hb2); refine aA (aB (cC rfl rfl) ?_); refine aB (cC rfl rfl) ?_; refine aB (cC rfl rfl) ?_; refine bN (bN (wan (aM (csr (aA (wel ?_)))))); refine wnn (aZ rfl (fun k0 => ?_) (fun k0 => ?_))
     ·obtain rfl : nn = 0 := by omega
      refine csr (aA ?_); refine cT (vs := [_]) JP rfl (TK hex' ⟨c6, e7, D.ne⟩ hs (by omega) (by omega) hmv.bd hmv.nm (hG.evo L hgw) hGo1) rfl ?_ ?_
      ·intro pv wp hpp; obtain ⟨e9, hpe, rfl, hpw⟩ := hpp; exact And.intro rfl ⟨_, rfl, _, heq.trans (FM hng hrp hpe), rfl, (L).step hpw (oB hnb)⟩
      rintro rv m0 ⟨g, st2, hx, c7, hmv2, hp2, hl2, na3, nc3, no3, ka, kc, ko, cs2, bs2, rfl, hk1, hk2, hk3, f7, hnb3⟩; have hcall9 := c7; have e2 := L; have hl1 := jI d1 d2; have hnb4 := hnb.older hnb3 e2.size; have hkg : ∀ q, q ∈ ko.toList ++ bs2 → _ ≤ q := hk3.ge; have hb2l := fF d3
      have m6 : Apart ko qo := fun q h1 h2 => by have h3 := hkg q (List.mem_append_left _ (by simp [h1])); have h4 := hl1 q (List.mem_append_left _ (by simp [h2])); omega
      have m7 : Apart ko (some b2) := fun q h1 h2 => by cases h2; have h3 := hkg b2 (List.mem_append_left _ (by simp [h1])); omega
      have h6 := d1.evo c7 (fun q hq => nmq q (List.mem_append_left _ (by simp [hq]))); have i0 := c7.blk d3 (sA a1.symm f6); have k1 := gZ h6 f7.own (by decide +kernel); refine wan (csr (aA (aA ?_))); have k2 := hk2; have hVV := (Evo.refl [] m0); have hb29 := fF i0
      refine cM rfl rfl rfl rfl jB h6 (Src.ofOwn hk1 hk2.one) (by have h8 := lF hown hts; have h9 := hmv2.bd.le; omega) fun qa2 qc2 n9 qo2 m1 b6 hob41 => ?_
      have k3 := (d2.evo c7 (fun q hq => nmq q (List.mem_append_right _ hq))).evo b6 (pX hfr)
      have k4 := hk2.evo b6 (fun q hq h => by have h8 := hkg q (List.mem_append_right _ hq); have h9 := hl1 q (List.mem_append_left _ h); omega)
      have hob2 := hob41; have hFr9 := Fr.grow hfr hl1 hk3.right (OTs.lt k2) e2.size (Nat.le_trans hcall9.size hVV.size) hob2
      have hnin := sB ha2 hb29 (fun q hq e => by have h8 := hkg q (List.mem_append_right _ hq); omega) hob2
      refine wan (csr (aA (aB (bM rfl Tryz.underlying25 rfl) ?_))); refine aB (eW rfl rfl) ?_; refine wan (cW (bS (cV (aY ?_)))); refine ⟨⟨f', st2, l ++ g, decide (0 < (g.length : Int)), n + g.length, qa2, qc2, qo2, bs ++ bs2, na3, nc3, no3⟩, ?_, ⟨rfl, rfl, trivial⟩, ⟨rfl, rfl, trivial⟩, ((L.step c7 (oB hnb)).step b6 (pW hfr).mem), ?_⟩
      · (try dsimp only); show f' < f' + 1; omega
      try dsimp only
      refine ⟨⟨(b6.blk f7.blk U.nmem), (f7.own.evo b6 k1.symm.own), f7.ne⟩, ⟨hmv2.opn.trans hmv.opn, Nat.le_trans hmv.le hmv2.le, hmv2.bd, hmv2.nm⟩, heq.trans ((BD hng hrp hx).trans ?_), (by show s.size + 1 ≤ f' + st2.pos; omega), ⟨_, m1, OTs.app k3 k4⟩, hFr9, (by show (l ++ g).length + st.pos ≤ st2.pos; rw [List.length_append]; omega), ?_, hnb4, (b6.blk i0 c9.nmem), hg2, hnin⟩
      · rw [show decide (0 < (g.length : Int)) = decide (0 < g.length) from decide_eq_decide.2 (by omega)]
      · intro h h9; have h8 : 0 < (g.length : Int) := of_decide_eq_true h; have h7 := (List.append_eq_nil_iff.1 h9).2; rw [h7] at h8; exact absurd h8 (by decide +kernel)
     have hnn0 : nn ≠ 0 := by omega
     refine aN (aC (aM (csr (aA (aB (fV rfl) ?_))))); refine aA (nD (t := 63) rfl (fun M => ?_) (fun M => ?_))
     ·replace M := congrArg Bool.not M; simp only [Bool.not_not, Bool.not_true, Bool.not_false] at M; subst M
      refine aP (aP (bW (aA (aP (aP (bW (aA (aP (aP (aP (eS ?_))))))))))); refine eS ?_; refine eS ?_; refine aP (bW (wnn (cZ rfl ?_))); refine aF (cT (vs := [_]) dJ rfl (fU 82) rfl ?_ ?_)
      ·intro pv wp hpp; obtain ⟨rfl, hpw⟩ := hpp; exact And.intro rfl ⟨_, rfl, _, heq.trans (qA hng hrp hnn0 (.inl rfl)), rfl, (L).then hpw⟩
      intro _ _ hF; exact hF.elim
     replace M := congrArg Bool.not M; simp only [Bool.not_not, Bool.not_true, Bool.not_false] at M; subst M
     refine aW (aA (aW (aB (eW rfl rfl) ?_))); refine bR (aA (bH (t := 67) rfl (fun k5 => ?_) (fun k5 => ?_)))
     ·refine aP (aP (bW (aA (aP (aP (aP (eS ?_))))))); refine eS ?_; refine eS ?_; refine aP (bW (wnn (cZ rfl ?_))); refine aF (cT (vs := [_]) dJ rfl (fU 82) rfl ?_ ?_)
      ·intro pv wp hpp; obtain ⟨rfl, hpw⟩ := hpp; exact And.intro rfl ⟨_, rfl, _, heq.trans (qA hng hrp hnn0 (.inr (by omega))), rfl, (L).then hpw⟩
      intro _ _ hF; exact hF.elim
     refine aW (aA (aW (aB (eW rfl rfl) ?_))); refine bR (aA (bH (t := 71) rfl (fun k6 => ?_) (fun k6 => ?_)))
     ·refine aP (aP (aP (eS ?_))); refine eS ?_; refine eS ?_; refine aP (bW (wnn (cZ rfl ?_))); refine aF (cT (vs := [_]) dJ rfl (fU 82) rfl ?_ ?_)
      ·intro pv wp hpp; obtain ⟨rfl, hpw⟩ := hpp; exact And.intro rfl ⟨_, rfl, _, heq.trans (qA hng hrp hnn0 (.inr (by omega))), rfl, (L).then hpw⟩
      intro _ _ hF; exact hF.elim
     refine aW (aA (aW (aB (dQ rfl rfl) ?_))); refine aW (aA (bH (t := 74) rfl (fun k7 => ?_) (fun k7 => ?_)))
     ·refine aW (aA (aW (aA (aW (aB (dA rfl rfl) ?_))))); refine aW (bW (bR (wnn (aZ rfl (fun k8 => ?_) (fun k8 => ?_)))))
      ·refine aF (cT (vs := [_]) dJ rfl (fU 82) rfl ?_ ?_)
       ·intro pv wp hpp; obtain ⟨rfl, hpw⟩ := hpp; exact And.intro rfl ⟨_, rfl, _, heq.trans (qA hng hrp hnn0 (.inr (by omega))), rfl, (L).then hpw⟩
       intro _ _ hF; exact hF.elim
      refine aN (aC (aM ?_)); obtain ⟨hnb1, hnb2⟩ := hnn hnn0
      have hcc : ¬ (true = false ∨ 1000 < lo ∨ 1000 < hi ∨ (0 ≤ hi ∧ hi < lo)) := by rintro (h | h | h | ⟨h, h'⟩); cases h; omega; omega; omega
      obtain ⟨l', x, hlx, hdl, hgl⟩ := yJ (hahl rfl); have hne := lF hown hts
      have m2 : n = l'.length + 1 := by rw [hne, hlx]; simp
      refine aF (aA (aB (aH rfl) (wfl rfl bP rfl bD c6 rfl (aA ?_)))); refine aB (aI rfl rfl (by omega) (by omega)) ?_; refine aB (aH rfl) (aB (aD rfl bP) (bJ rfl rfl (rfl) bY c6 rfl fun o0 e8 c8 => ?_))
      have k9 := L.step c8 (fun y hy => .inl (by rw [List.mem_singleton.1 hy]; simp))
      have l0 := d2.evo c8 (fun q hq h => nmq q (List.mem_append_right _ hq) (lR q h))
      try simp only [cH, Nat.reduceAdd] at e8
      refine wnn (csr (aA (aB (aH rfl) (aB (aD rfl fS) (wfl rfl rP rfl fI e8 rfl (wan (aM (csr (aA ?_))))))))); refine aG (vs := [_, _]) jO rfl (oK (st := jY sx (sx.pos + nn)) ⟨e8, (e7.evo c8 D.ap.symm.own1), D.ne⟩ (by omega) 63 (by decide)) rfl ?_; rintro _ d0 ⟨rfl, d4, F⟩
      have d5 := k9.step d4 (fun y hy => .inl (by rw [List.mem_singleton.1 hy]; simp))
      have V := (d1.evo c8 U.symm.own1).evo d4 ((by first | exact U.symm.own1 | exact U.symm.nmem1)); have d6 := l0.evo d4 (fun q hq h => nmq q (List.mem_append_right _ hq) (lR q h)); have d7 := d4.blk (c8.blk d3 a1.symm.nmem1) ((by first | exact a1.symm.own1 | exact a1.symm.nmem1)); refine wnn (aZ rfl (fun E => ?_) (fun E => ?_))
      ·rw [if_pos E] at F; refine aF (aA (aB (fV rfl) ?_)); refine wan (csr (aA (aB (bM rfl Tryz.underlying25 rfl) ?_))); refine aB (dX rfl rfl (by omega) (by omega)) ?_; refine wan (aM ?_); have hts16 := d6; rw [hlx] at hts16; obtain ⟨c1, c2, b1, bx, hcs, hbs, ht1, ht2⟩ := OTs.parts hts16; have hl16 := jI V d6; have a2 := d5; have hb216 := fF d7; subst hcs; subst hbs; have hX := ht2.one'; obtain ⟨ra, rc, ka, kc, rfl⟩ := id hX.nine; obtain ⟨gq, hgq, haq, hcq⟩ := (V).cells (by omega); have hcl := nG hcq; have hc1l := ht1.len; rw [hc1l] at hcl; refine aF (aA (aA (aA (aA (aA (aA (aA ?_))))))); refine aB (bZ (n := l'.length) rfl rfl haq (by omega) dO (by omega)) ?_; refine aB (eB rfl bF aJ (vs := [_, _, _, _, _, _, _, _, _]) rfl (hcl.evo (Evo.refl [] d0) (by simp))) ?_; refine bL (vs := [_]) rfl cY rfl rfl rfl rfl fun a3 o1 l1 i1 b7 => ?_; have f0 := V.evo0 b7; refine aB (cI (vs := [(0, _), (3, _), (4, _), (5, _), (8, _)]) cB rfl (cells := [_, _, _, _, _, _, _, _, _]) rfl) ?_; have O := (Ge.new (Evo.refl [] d0) i1); refine aB (bZ (n := l'.length) rfl rfl haq (by omega) dO (by omega)) ?_
       obtain ⟨g9, cur9, hg9, hx9, hcu9, hcs9, -⟩ := f0.at (by omega)
       rw [haq] at hx9; cases hx9
       refine kB rfl rfl aJ rfl (fun u hu => AllOne.mem (l := [_, _, _, _, _, _, _, _, _]) ⟨rfl, rfl, rfl, rfl, rfl, rfl, rfl, rfl, rfl, trivial⟩ u hu) hcu9 (by have h8 := (f0).le; rw [hcs9]; omega) fun o2 l2 W => ?_
       replace W := oC hg9 W; have l3 := mF f0 hg9 hcu9 hc1l (by omega) rfl rfl l2; have f8 := ((Evo.refl qo.toList d0).then b7).step W (fun y hy => .inl hy); have i2 := W.blk (b7.blk0 d7) c9.nmem; refine wnn (aF (bN (aR (aQ (aY ?_))))); refine ⟨⟨f', jY sx (sx.pos + nn + 1), l' ++ [lM lo hi (!sx.now.lazy) x], false, n, qa, qc, qo, b1 ++ (a3 :: bx), na, nc, no⟩, ?_, ⟨rfl, rfl, trivial⟩, ⟨rfl, rfl, trivial⟩, ((d5.then b7).step W (pW hfr).mem), ?_⟩
       · (try dsimp only); show f' < f' + 1; omega
       try dsimp only
       have hRp := wN (lo := lo) (hi := hi) (z := !sx.now.lazy) (l1.evo W (Apart.new (Lt.own V) i1).symm.own) hX f8 (fun q hq => pX hfr q (List.mem_append_right _ hq)); have hge110 := O _ rfl
       refine ⟨⟨(W.blk (b7.blk0 F.blk) U.nmem), ((F.own.evo0 b7).evo W f5.symm.own), F.ne⟩, ⟨hmv.opn, (by show st.pos ≤ sx.pos + nn + 1; omega), E.asc (by decide) hnb2, hmv.nm⟩, heq.trans ((zB hng hrp hnn0 hcc E).trans (by rw [hdl, hgl]; rfl)), (by show s.size + 1 ≤ f' + (sx.pos + nn + 1); omega), ⟨_, l3, OTs.app (ht1.evo f8 (fun q hq => pX hfr q (List.mem_append_left _ hq))) (OTs.single hRp)⟩, Fr.insert hfr hl16 hge110 a2.size, ?_, (fun h => by cases h), hnb, i2, hg2, ?_⟩
       · show (l' ++ [_]).length + st.pos ≤ sx.pos + nn + 1; rw [hlx] at hlen; rw [List.length_append] at hlen ⊢; simp at hlen ⊢; omega
       · intro hm; rcases List.mem_append.1 hm with hm | hm
         · exact ha2 (List.mem_append_left _ hm)
         · rcases List.mem_append.1 hm with hm | hm
           · exact ha2 (List.mem_append_right _ (List.mem_append_left _ hm))
           · rcases List.mem_cons.1 hm with hm | hm
             · omega
             · exact ha2 (List.mem_append_right _ (List.mem_append_right _ hm))
      rw [if_neg E] at F; refine aN (aC (csr (aA (aB (bM rfl Tryz.underlying25 rfl) ?_)))); refine aB (dX rfl rfl (by omega) (by omega)) ?_; refine wan (aM ?_); have hts16 := d6; rw [hlx] at hts16; obtain ⟨c1, c2, b1, bx, hcs, hbs, ht1, ht2⟩ := OTs.parts hts16; have hl16 := jI V d6; have a2 := d5; have hb216 := fF d7; subst hcs; subst hbs; have hX := ht2.one'; obtain ⟨ra, rc, ka, kc, rfl⟩ := id hX.nine; obtain ⟨gq, hgq, haq, hcq⟩ := (V).cells (by omega); have hcl := nG hcq; have hc1l := ht1.len; rw [hc1l] at hcl; refine aF (aA (aA (aA (aA (aA (aA (aA ?_))))))); refine aB (bZ (n := l'.length) rfl rfl haq (by omega) dO (by omega)) ?_; refine aB (eB rfl bF aJ (vs := [_, _, _, _, _, _, _, _, _]) rfl (hcl.evo (Evo.refl [] d0) (by simp))) ?_; refine bL (vs := [_]) rfl cY rfl rfl rfl rfl fun a3 m8 i3 f9 Y => ?_; have d8 := V.evo0 Y; refine aB (cI (vs := [(0, _), (3, _), (4, _), (5, _), (8, _)]) cB rfl (cells := [_, _, _, _, _, _, _, _, _]) rfl) ?_; have O := (Ge.new (Evo.refl [] d0) f9); refine aB (bZ (n := l'.length) rfl rfl haq (by omega) dO (by omega)) ?_
      obtain ⟨g9, cur9, hg9, hx9, hcu9, hcs9, -⟩ := d8.at (by omega)
      rw [haq] at hx9; cases hx9
      refine kB rfl rfl aJ rfl (fun u hu => AllOne.mem (l := [_, _, _, _, _, _, _, _, _]) ⟨rfl, rfl, rfl, rfl, rfl, rfl, rfl, rfl, rfl, trivial⟩ u hu) hcu9 (by have h8 := (d8).le; rw [hcs9]; omega) fun m9 i4 G => ?_
      replace G := oC hg9 G; have i5 := mF d8 hg9 hcu9 hc1l (by omega) rfl rfl i4; have g0 := ((Evo.refl qo.toList d0).then Y).step G (fun y hy => .inl hy); have i6 := G.blk (Y.blk0 d7) c9.nmem; refine wnn (aF (bN (aR (aQ (aY ?_))))); refine ⟨⟨f', jY sx (sx.pos + nn), l' ++ [lM lo hi (sx.now.lazy) x], false, n, qa, qc, qo, b1 ++ (a3 :: bx), na, nc, no⟩, ?_, ⟨rfl, rfl, trivial⟩, ⟨rfl, rfl, trivial⟩, ((d5.then Y).step G (pW hfr).mem), ?_⟩
      · (try dsimp only); show f' < f' + 1; omega
      try dsimp only
      have hRp := wN (lo := lo) (hi := hi) (z := sx.now.lazy) (i3.evo G (Apart.new (Lt.own V) f9).symm.own) hX g0 (fun q hq => pX hfr q (List.mem_append_right _ hq)); have hge110 := O _ rfl
      refine ⟨⟨(G.blk (Y.blk0 F.blk) U.nmem), ((F.own.evo0 Y).evo G f5.symm.own), F.ne⟩, ⟨hmv.opn, (by show st.pos ≤ sx.pos + nn; omega), hnb2, hmv.nm⟩, heq.trans ((FL hng hrp hnn0 hcc E).trans (by rw [hdl, hgl]; rfl)), (by show s.size + 1 ≤ f' + (sx.pos + nn); omega), ⟨_, i5, OTs.app (ht1.evo g0 (fun q hq => pX hfr q (List.mem_append_left _ hq))) (OTs.single hRp)⟩, Fr.insert hfr hl16 hge110 a2.size, ?_, (fun h => by cases h), hnb, i6, hg2, ?_⟩
      · show (l' ++ [_]).length + st.pos ≤ sx.pos + nn; rw [hlx] at hlen; rw [List.length_append] at hlen ⊢; simp at hlen ⊢; omega
      · intro hm; rcases List.mem_append.1 hm with hm | hm
        · exact ha2 (List.mem_append_left _ hm)
        · rcases List.mem_append.1 hm with hm | hm
          · exact ha2 (List.mem_append_right _ (List.mem_append_left _ hm))
          · rcases List.mem_cons.1 hm with hm | hm
            · omega
            · exact ha2 (List.mem_append_right _ (List.mem_append_right _ hm))
     refine aP (aP (aP (aW (bR (bR (wnn (cF rfl ?_))))))); refine aN (aC (aM ?_)); obtain ⟨hnb1, hnb2⟩ := hnn hnn0
     have hcc : ¬ (true = false ∨ 1000 < lo ∨ 1000 < hi ∨ (0 ≤ hi ∧ hi < lo)) := by rintro (h | h | h | ⟨h, h'⟩); cases h; omega; omega; omega
     obtain ⟨l', x, hlx, hdl, hgl⟩ := yJ (hahl rfl); have hne := lF hown hts
     have m2 : n = l'.length + 1 := by rw [hne, hlx]; simp
     refine aF (aA (aB (aH rfl) (wfl rfl bP rfl bD c6 rfl (aA ?_)))); refine aB (aI rfl rfl (by omega) (by omega)) ?_; refine aB (aH rfl) (aB (aD rfl bP) (bJ rfl rfl (rfl) bY c6 rfl fun n0 d9 a4 => ?_))
     have i7 := L.step a4 (fun y hy => .inl (by rw [List.mem_singleton.1 hy]; simp))
     have i8 := d2.evo a4 (fun q hq h => nmq q (List.mem_append_right _ hq) (lR q h))
     try simp only [cH, Nat.reduceAdd] at d9
     refine wnn (csr (aA (aB (aH rfl) (aB (aD rfl fS) (wfl rfl rP rfl fI d9 rfl (wan (aM (csr (aA ?_))))))))); refine aG (vs := [_, _]) jO rfl (oK (st := jY sx (sx.pos + nn)) ⟨d9, (e7.evo a4 D.ap.symm.own1), D.ne⟩ (by omega) 63 (by decide)) rfl ?_; rintro _ b8 ⟨rfl, b9, F⟩
     have c0 := i7.step b9 (fun y hy => .inl (by rw [List.mem_singleton.1 hy]; simp))
     have H := (d1.evo a4 U.symm.own1).evo b9 ((by first | exact U.symm.own1 | exact U.symm.nmem1)); have c3 := i8.evo b9 (fun q hq h => nmq q (List.mem_append_right _ hq) (lR q h)); have c4 := b9.blk (a4.blk d3 a1.symm.nmem1) ((by first | exact a1.symm.own1 | exact a1.symm.nmem1)); refine wnn (aZ rfl (fun E => ?_) (fun E => ?_))
     ·rw [if_pos E] at F; refine aF (aA (aB (fV rfl) ?_)); refine wan (csr (aA (aB (bM rfl Tryz.underlying25 rfl) ?_))); refine aB (dX rfl rfl (by omega) (by omega)) ?_; refine wan (aM ?_); have hts16 := c3; rw [hlx] at hts16; obtain ⟨c1, c2, b1, bx, hcs, hbs, ht1, ht2⟩ := OTs.parts hts16; have hl16 := jI H c3; have a2 := c0; have hb216 := fF c4; subst hcs; subst hbs; have hX := ht2.one'; obtain ⟨ra, rc, ka, kc, rfl⟩ := id hX.nine; obtain ⟨gq, hgq, haq, hcq⟩ := (H).cells (by omega); have hcl := nG hcq; have hc1l := ht1.len; rw [hc1l] at hcl; refine aF (aA (aA (aA (aA (aA (aA (aA ?_))))))); refine aB (bZ (n := l'.length) rfl rfl haq (by omega) dO (by omega)) ?_; refine aB (eB rfl bF aJ (vs := [_, _, _, _, _, _, _, _, _]) rfl (hcl.evo (Evo.refl [] b8) (by simp))) ?_; refine bL (vs := [_]) rfl cY rfl rfl rfl rfl fun a3 n1 i9 g1 Z => ?_; have e0 := H.evo0 Z; refine aB (cI (vs := [(0, _), (3, _), (4, _), (5, _), (8, _)]) cB rfl (cells := [_, _, _, _, _, _, _, _, _]) rfl) ?_; have O := (Ge.new (Evo.refl [] b8) g1); refine aB (bZ (n := l'.length) rfl rfl haq (by omega) dO (by omega)) ?_
      obtain ⟨g9, cur9, hg9, hx9, hcu9, hcs9, -⟩ := e0.at (by omega)
      rw [haq] at hx9; cases hx9
      refine kB rfl rfl aJ rfl (fun u hu => AllOne.mem (l := [_, _, _, _, _, _, _, _, _]) ⟨rfl, rfl, rfl, rfl, rfl, rfl, rfl, rfl, rfl, trivial⟩ u hu) hcu9 (by have h8 := (e0).le; rw [hcs9]; omega) fun n2 j0 I => ?_
      replace I := oC hg9 I; have j1 := mF e0 hg9 hcu9 hc1l (by omega) rfl rfl j0; have g2 := ((Evo.refl qo.toList b8).then Z).step I (fun y hy => .inl hy); have j2 := I.blk (Z.blk0 c4) c9.nmem; refine wnn (aF (bN (aR (aQ (aY ?_))))); refine ⟨⟨f', jY sx (sx.pos + nn + 1), l' ++ [lM lo hi (!sx.now.lazy) x], false, n, qa, qc, qo, b1 ++ (a3 :: bx), na, nc, no⟩, ?_, ⟨rfl, rfl, trivial⟩, ⟨rfl, rfl, trivial⟩, ((c0.then Z).step I (pW hfr).mem), ?_⟩
      · (try dsimp only); show f' < f' + 1; omega
      try dsimp only
      have hRp := wN (lo := lo) (hi := hi) (z := !sx.now.lazy) (i9.evo I (Apart.new (Lt.own H) g1).symm.own) hX g2 (fun q hq => pX hfr q (List.mem_append_right _ hq)); have hge110 := O _ rfl
      refine ⟨⟨(I.blk (Z.blk0 F.blk) U.nmem), ((F.own.evo0 Z).evo I f5.symm.own), F.ne⟩, ⟨hmv.opn, (by show st.pos ≤ sx.pos + nn + 1; omega), E.asc (by decide) hnb2, hmv.nm⟩, heq.trans ((zB hng hrp hnn0 hcc E).trans (by rw [hdl, hgl]; rfl)), (by show s.size + 1 ≤ f' + (sx.pos + nn + 1); omega), ⟨_, j1, OTs.app (ht1.evo g2 (fun q hq => pX hfr q (List.mem_append_left _ hq))) (OTs.single hRp)⟩, Fr.insert hfr hl16 hge110 a2.size, ?_, (fun h => by cases h), hnb, j2, hg2, ?_⟩
      · show (l' ++ [_]).length + st.pos ≤ sx.pos + nn + 1; rw [hlx] at hlen; rw [List.length_append] at hlen ⊢; simp at hlen ⊢; omega
      · intro hm; rcases List.mem_append.1 hm with hm | hm
        · exact ha2 (List.mem_append_left _ hm)
        · rcases List.mem_append.1 hm with hm | hm
          · exact ha2 (List.mem_append_right _ (List.mem_append_left _ hm))
          · rcases List.mem_cons.1 hm with hm | hm
            · omega
            · exact ha2 (List.mem_append_right _ (List.mem_append_right _ hm))
     rw [if_neg E] at F; refine aN (aC (csr (aA (aB (bM rfl Tryz.underlying25 rfl) ?_)))); refine aB (dX rfl rfl (by omega) (by omega)) ?_; refine wan (aM ?_); have hts16 := c3; rw [hlx] at hts16; obtain ⟨c1, c2, b1, bx, hcs, hbs, ht1, ht2⟩ := OTs.parts hts16; have hl16 := jI H c3; have a2 := c0; have hb216 := fF c4; subst hcs; subst hbs; have hX := ht2.one'; obtain ⟨ra, rc, ka, kc, rfl⟩ := id hX.nine; obtain ⟨gq, hgq, haq, hcq⟩ := (H).cells (by omega); have hcl := nG hcq; have hc1l := ht1.len; rw [hc1l] at hcl; refine aF (aA (aA (aA (aA (aA (aA (aA ?_))))))); refine aB (bZ (n := l'.length) rfl rfl haq (by omega) dO (by omega)) ?_; refine aB (eB rfl bF aJ (vs := [_, _, _, _, _, _, _, _, _]) rfl (hcl.evo (Evo.refl [] b8) (by simp))) ?_; refine bL (vs := [_]) rfl cY rfl rfl rfl rfl fun a3 n3 j3 g3 a0 => ?_; have e1 := H.evo0 a0; refine aB (cI (vs := [(0, _), (3, _), (4, _), (5, _), (8, _)]) cB rfl (cells := [_, _, _, _, _, _, _, _, _]) rfl) ?_; have O := (Ge.new (Evo.refl [] b8) g3); refine aB (bZ (n := l'.length) rfl rfl haq (by omega) dO (by omega)) ?_
     obtain ⟨g9, cur9, hg9, hx9, hcu9, hcs9, -⟩ := e1.at (by omega)
     rw [haq] at hx9; cases hx9
     refine kB rfl rfl aJ rfl (fun u hu => AllOne.mem (l := [_, _, _, _, _, _, _, _, _]) ⟨rfl, rfl, rfl, rfl, rfl, rfl, rfl, rfl, rfl, trivial⟩ u hu) hcu9 (by have h8 := (e1).le; rw [hcs9]; omega) fun n4 j4 J => ?_
     replace J := oC hg9 J; have j5 := mF e1 hg9 hcu9 hc1l (by omega) rfl rfl j4; have g4 := ((Evo.refl qo.toList b8).then a0).step J (fun y hy => .inl hy); have j6 := J.blk (a0.blk0 c4) c9.nmem; refine wnn (aF (bN (aR (aQ (aY ?_))))); refine ⟨⟨f', jY sx (sx.pos + nn), l' ++ [lM lo hi (sx.now.lazy) x], false, n, qa, qc, qo, b1 ++ (a3 :: bx), na, nc, no⟩, ?_, ⟨rfl, rfl, trivial⟩, ⟨rfl, rfl, trivial⟩, ((c0.then a0).step J (pW hfr).mem), ?_⟩
     · (try dsimp only); show f' < f' + 1; omega
     try dsimp only
     have hRp := wN (lo := lo) (hi := hi) (z := sx.now.lazy) (j3.evo J (Apart.new (Lt.own H) g3).symm.own) hX g4 (fun q hq => pX hfr q (List.mem_append_right _ hq)); have hge110 := O _ rfl
     refine ⟨⟨(J.blk (a0.blk0 F.blk) U.nmem), ((F.own.evo0 a0).evo J f5.symm.own), F.ne⟩, ⟨hmv.opn, (by show st.pos ≤ sx.pos + nn; omega), hnb2, hmv.nm⟩, heq.trans ((FL hng hrp hnn0 hcc E).trans (by rw [hdl, hgl]; rfl)), (by show s.size + 1 ≤ f' + (sx.pos + nn); omega), ⟨_, j5, OTs.app (ht1.evo g4 (fun q hq => pX hfr q (List.mem_append_left _ hq))) (OTs.single hRp)⟩, Fr.insert hfr hl16 hge110 a2.size, ?_, (fun h => by cases h), hnb, j6, hg2, ?_⟩
     · show (l' ++ [_]).length + st.pos ≤ sx.pos + nn; rw [hlx] at hlen; rw [List.length_append] at hlen ⊢; simp at hlen ⊢; omega
     · intro hm; rcases List.mem_append.1 hm with hm | hm
       · exact ha2 (List.mem_append_left _ hm)
       · rcases List.mem_append.1 hm with hm | hm
         · exact ha2 (List.mem_append_right _ (List.mem_append_left _ hm))
         · rcases List.mem_cons.1 hm with hm | hm
           · omega
           · exact ha2 (List.mem_append_right _ (List.mem_append_right _ hm))
    refine cW (bS (bS (cV (aC ?_)))); refine csr (aA ?_); refine aG (vs := [_, _]) qD rfl (DV 4 (hown.evo0 B) e6 (by omega)) rfl ?_; rintro rv l4 ⟨⟨vs, bs', rfl, hOT, hsub⟩, a5⟩; have e2 := e3; obtain ⟨ra, rc, ka, kc, rfl⟩ := id hOT.nine; refine aV rfl rfl aJ (a5.blk0 (B.blk0 hb2)) rfl rfl ⟨rfl, rfl, rfl, rfl, rfl, rfl, rfl, rfl, rfl, trivial⟩ fun n5 g5 a6 => ?_
    have m3 := (e6.evo0 a5).evo a6 (fun q hq h => ha2 (List.mem_append_right _ (by rw [← List.mem_singleton.1 h]; exact hq)))
    try simp only [cH, Nat.reduceAdd] at g5
    refine wnn (aK (cU (bT rfl (ResOk.cellA rfl bF aJ g5 rfl) ?_)))
    exact ⟨oA 4 l, sx, heq.trans (qB (by omega)), ((e3.then a5).step a6 hg2.mem1), hmv, na, nc, no, _, bs', rfl, hOT.evo ((Evo.refl ([b2]) l4).step a6 (fun y hy => .inl hy)) (fun q hq h => ha2 (by rw [← List.mem_singleton.1 h]; exact hsub.subset hq)), hfr.sub hsub, ⟨(a6.blk (a5.blk0 e4) a1.nmem1), ((e5.evo0 a5).evo a6 f6.symm.own1), D.ne⟩, hnb⟩
   refine qln ?_; refine qln ?_; refine qln ?_; refine qln ?_; refine qln ?_; refine qln ?_; refine qln ?_; refine qln ?_; refine qln ?_; refine qln ?_; refine bG (fun _ B => eZ rfl rfl) ?_; refine eN (fun h5 B => aC ?_); refine cF rfl ?_; refine cW (bS (bS (cV (aC ?_)))); refine csr (aA ?_); refine aG (vs := [_, _]) qD rfl (DV 4 (hown.evo0 B) (hts.evo0 B) (by omega)) rfl ?_; rintro rv l5 ⟨⟨vs, bs', rfl, hOT, hsub⟩, a7⟩; have e2 := (c5.then B); obtain ⟨ra, rc, ka, kc, rfl⟩ := id hOT.nine; refine aV rfl rfl aJ (a7.blk0 (B.blk0 hb2)) rfl rfl ⟨rfl, rfl, rfl, rfl, rfl, rfl, rfl, rfl, rfl, trivial⟩ fun n6 g6 a8 => ?_
   have m4 := ((hts.evo0 B).evo0 a7).evo a8 (fun q hq h => ha2 (List.mem_append_right _ (by rw [← List.mem_singleton.1 h]; exact hq)))
   try simp only [cH, Nat.reduceAdd] at g6
   refine wnn (aK (cU (bT rfl (ResOk.cellA rfl bF aJ g6 rfl) ?_)))
   exact ⟨oA 4 l, sx, heq.trans (qB (by omega)), (((c5.then B).then a7).step a8 hg2.mem1), hmv, na, nc, no, _, bs', rfl, hOT.evo ((Evo.refl ([b2]) l5).step a8 (fun y hy => .inl hy)) (fun q hq h => ha2 (by rw [← List.mem_singleton.1 h]; exact hsub.subset hq)), hfr.sub hsub, ⟨(a8.blk (a7.blk0 (B.blk0 D.blk)) a1.nmem1), (((D.own.evo0 B).evo0 a7).evo a8 f6.symm.own1), D.ne⟩, hnb⟩
  refine qln ?_; refine qln ?_; refine qln ?_; refine qln ?_; refine qln ?_; refine qln ?_; refine qln ?_; refine qln ?_; refine qln ?_; refine qln ?_; refine bG (fun _ B => eZ rfl rfl) ?_; refine bG (fun _ B => bC rfl) ?_; refine qln ?_; refine qln ?_; refine qln ?_; refine qln ?_; refine qln ?_; refine qln ?_; refine qln ?_; refine qln ?_; refine qln ?_; refine qln ?_; refine bG (fun _ B => eZ rfl rfl) ?_; refine eN (fun h5 B => aC ?_); refine cF rfl ?_; refine cW (bS (bS (cV (aC ?_)))); refine csr (aA ?_); refine aG (vs := [_, _]) qD rfl (DV 4 (hown.evo0 B) (hts.evo0 B) (by omega)) rfl ?_; rintro rv l6 ⟨⟨vs, bs', rfl, hOT, hsub⟩, a9⟩; have e2 := (c5.then B); obtain ⟨ra, rc, ka, kc, rfl⟩ := id hOT.nine; refine aV rfl rfl aJ (a9.blk0 (B.blk0 hb2)) rfl rfl ⟨rfl, rfl, rfl, rfl, rfl, rfl, rfl, rfl, rfl, trivial⟩ fun n7 g7 b4 => ?_
  have m5 := ((hts.evo0 B).evo0 a9).evo b4 (fun q hq h => ha2 (List.mem_append_right _ (by rw [← List.mem_singleton.1 h]; exact hq)))
  try simp only [cH, Nat.reduceAdd] at g7
  refine wnn (aK (cU (bT rfl (ResOk.cellA rfl bF aJ g7 rfl) ?_)))
  exact ⟨oA 4 l, sx, heq.trans (qB (by omega)), (((c5.then B).then a9).step b4 hg2.mem1), hmv, na, nc, no, _, bs', rfl, hOT.evo ((Evo.refl ([b2]) l6).step b4 (fun y hy => .inl hy)) (fun q hq h => ha2 (by rw [← List.mem_singleton.1 h]; exact hsub.subset hq)), hfr.sub hsub, ⟨(b4.blk (a9.blk0 (B.blk0 D.blk)) a1.nmem1), (((D.own.evo0 B).evo0 a9).evo b4 f6.symm.own1), D.ne⟩, hnb⟩
theorem xV : dW Tryz.prog 59 := ⟨_, Tryz.func59, by kernel_rfl, by kernel_rfl⟩
structure EtG where
  f : Nat
  sx : PS
  l : List Rx
  n : Nat
  qa : Option Addr
  qc : Nat
  qo : Option Nat
  bs : List Nat
  na : Option Addr
  nc : Nat
  no : Option Nat
structure EtI (w wr : World) (b : Nat) (s : ByteArray) (ex : PS → PX Rx) (st : PS) (ob : Option Nat) (b2 : Nat) (x : EtG) : Prop where
  hr : RdAt wr b s x.sx x.na x.nc x.no
  mv : Mv s st x.sx
  eq : nC s ex st = pJ s ex x.f x.l x.sx
  hf : s.size + 1 ≤ x.f + x.sx.pos
  kt : ∃ cs, OwnS wr 27 9 x.qa x.n x.qc cs x.qo ∧ OTs x.l wr cs x.bs
  fr : Fr w (x.qo.toList ++ x.bs)
  len : x.l.length + st.pos ≤ x.sx.pos + 1
  nb : NB w ob x.no
  hb2 : wr.heap[b2]? = some (.cells #[iv 0, .int .i32 0, .slice none 0 0, iv 0, iv 0, .bool false, iv 0, .string ByteArray.empty, .slice none 0 0] 27 (0, 0))
  g2 : Ge w (some b2)
  a2 : b2 ∉ x.qo.toList ++ x.bs
theorem OM {s : ByteArray} {ex : PS → PX Rx} {st : PS} {e : Int} (h : tK s ex st = .error e) : nC s ex st = .error e := by
  unfold nC; unfold tK at h; rw [h]
theorem LZ {s : ByteArray} {ex : PS → PX Rx} {st st2 : PS} {x : Rx} (h : tK s ex st = .ok (x, st2)) : nC s ex st = pJ s ex (s.size + 1) [x] st2 := by
  unfold nC; unfold tK at h; rw [h]
theorem rT {ex : PS → PX Rx} {w : World} {b : Nat} {s : ByteArray} {st : PS} {a : Option Addr} {c : Nat} {ob : Option Nat} (hex : st.opn < 250 → tO b s ex (st.opn + 1)) (hR : RdAt w b s st a c ob) (hs : s.size ≤ 4096) (hop : st.opn ≤ 250) (hb : Bd s st.pos) (hnl : st.names.length ≤ 100) (hG : Glb w) (hGo : Apart (some pR) ob) :
    Calls Tryz.prog 36 #[.pointer (some ⟨b, 0, none⟩)] w (RetP (ML b s (nC s ex) st ob w) (ExPan b (nC s ex) st ob w)) := by
  have hap := hR.ap; have hgb : pR ∉ [b] := fun h => hR.glb hG (List.mem_singleton.1 h).symm; have hgw := VU hgb hGo; have hbw : Lt w (some b) := Lt.blk hR.blk; have how : Lt w ob := Lt.own hR.own; refine bE (N := 16) Tryz.func36 rfl rfl rfl ?_; refine csr (cO rfl dC fun b2 w1 b9 a0 a4 => ?_); have d0 := a0; have a5 := Apart.new (Lt.blk hR.blk) a0; have d1 := Ge.new (Evo.refl (b :: ob.toList) w) a0; have a1 := (Evo.refl (b :: ob.toList) w).then a4; refine wnn (csr (aA (cT (vs := [_]) xV rfl (sL hex ⟨(a4.blk0 hR.blk), (hR.own.evo0 a4), hR.ne⟩ hs hop hb hnl (hG.evo a1 hgw) hGo) rfl ?_ ?_)))
  ·intro pv wp hpp; obtain ⟨e9, hpe, rfl, hpw⟩ := hpp; exact And.intro rfl ⟨_, rfl, _, OM hpe, rfl, (a1).step hpw (oB (show NB w ob ob from .inl rfl))⟩
  rintro rv d2 ⟨x, st1, hx, W, hmv1, na1, nc1, no1, vs, bx, rfl, hOT, hFx, a6, hnb1⟩; have hcall9 := W; have M := a1; have hnb9 := (show NB w ob ob from .inl rfl).older hnb1 M.size; have hb2l := fF b9; have hxg : ∀ q, q ∈ bx → _ ≤ q := hFx.ge; have a7 := a1.step W (oB (show NB w ob ob from .inl rfl)); obtain ⟨ra, rc, ka, kc, rfl⟩ := id hOT.nine; refine bL (vs := [_]) rfl cY rfl rfl rfl rfl fun b6 d8 c1 a8 H => ?_; have c3 := Ge.new a7 a8; have a9 := Ge.new (Evo.refl [] d2) a8; refine wan (aM (bK ?_))
  refine dL (α := EtG) (⟨s.size + 1, st1, [x], 1, some ⟨b6, 0, none⟩, 1, some b6, bx, na1, nc1, no1⟩) (fun x => [(3, .slice x.qa x.n x.qc)]) [(0, _), (2, _)] (fun x wr => Evo (b :: ob.toList) w wr ∧ (EtI w wr b s ex st ob b2 x)) (fun x => x.f) ⟨rfl, trivial⟩ ⟨rfl, rfl, trivial⟩ ⟨(a7.then H), ⟨⟨(H.blk0 a6.blk), (a6.own.evo0 H), a6.ne⟩, hmv1, LZ hx, Nat.le_add_right _ _, ⟨_, c1, OTs.single (hOT.evo0 H)⟩, ⟨List.nodup_cons.2 ⟨fun h => (by have h8 := hOT.lt b6 h; have h9 := a9 _ rfl; omega), hFx.nd⟩, fun q hq => by rcases List.mem_cons.1 hq with rfl | hq; (exact c3 _ rfl); (have h8 := hxg q hq; have h7 := M.size; omega)⟩, (by show 1 + st.pos ≤ st1.pos + 1; have := hmv1.le; omega), hnb9, (H.blk0 (W.blk b9 (sA a5.symm (Apart.new (Lt.own hR.own) a0).symm))), d1, (fun h => by rcases List.mem_cons.1 h with h | h; (have h9 := a9 _ rfl; have h7 := hcall9.size; omega); (have h8 := hxg b2 h; omega))⟩⟩ ?_
  rintro ⟨f, sx, l, n, qa, qc, qo, bs, na, nc, no⟩ wr30 ⟨c4, ⟨O, hmv, heq, hfi, ⟨cs, hown, hts⟩, hfr, hlen, hnb, hb2, hg2, ha2⟩⟩; show CW _ _ _ _ [(3, .slice qa n qc), (0, _), (2, _)] _
  try dsimp only at O hmv heq hfi cs hown hts hfr hlen hnb hb2 hg2 ha2
  have b4 : Apart (some b) qo := jJ hbw (pW hfr); have a2 : Apart (some b) (some b2) := jJ hbw hg2; have c0 := fO hb2 O.own (by decide +kernel); have a5 := BC ha2; have hGo1 := gX hGo (LV hG) hnb; have hpl := hmv.bd.le; have hmle := hmv.le; have nmq := nm_rd O hown hts; refine aM (csr (aA ?_)); refine aG (vs := [_, _]) jO rfl (oK ⟨O.blk, O.own, O.ne⟩ (by omega) 124 (by decide)) rfl ?_; rintro _ d9 ⟨rfl, U, F⟩
  have D := c4.step U (fun y hy => .inl (by rw [List.mem_singleton.1 hy]; simp))
  have Y := hown.evo U ((by first | exact b4.symm.own1 | exact b4.symm.nmem1)); have V := hts.evo U (fun q hq h => nmq q (List.mem_append_right _ hq) (lR q h)); have Z := U.blk hb2 ((by first | exact a2.symm.own1 | exact a2.symm.nmem1)); refine wnn (aZ rfl (fun G => ?_) (fun G => ?_))
  ·rw [if_pos G] at F
   obtain ⟨f', rfl⟩ : ∃ f', f = f' + 1 := ⟨f - 1, by have := G.1; omega⟩
   have hopx : sx.opn = st.opn := hmv.opn
   have hex' : (adv sx 1).opn < 250 → tO b s ex ((adv sx 1).opn + 1) := by show sx.opn < 250 → tO b s ex (sx.opn + 1); rw [hopx]; exact hex
   have hbd1 : Bd s (adv sx 1).pos := G.asc (by decide) hmv.bd; refine aN (aC (bK (aF (aA (aA ?_)))))
   refine cT (vs := [_]) xV rfl (sL hex' ⟨F.blk, F.own, F.ne⟩ hs (by show sx.opn ≤ 250; omega) hbd1 hmv.nm (hG.evo D hgw) hGo1) rfl ?_ ?_
   ·intro pv wp hpp; obtain ⟨e9, hpe, rfl, hpw⟩ := hpp; exact And.intro rfl ⟨_, rfl, _, heq.trans (JF G hpe), rfl, (D).step hpw (oB hnb)⟩
   rintro rv d3 ⟨x, st3, hx, I, hmv3, na3, nc3, no3, vs, bx, rfl, hOT, hFx, a3, hnb3⟩; have hcall9 := I; have M := D; have hnb9 := hnb.older hnb3 M.size; have hb2l := fF Z; have hxg : ∀ q, q ∈ bx → _ ≤ q := hFx.ge; have hl1 := jI Y V; have b5 := Y.evo I (fun q hq => nmq q (List.mem_append_left _ (by simp [hq]))); obtain ⟨ra, rc, ka, kc, rfl⟩ := id hOT.nine; have c5 := gZ b5 a3.own (by decide +kernel); refine bL (vs := [_]) rfl cY rfl rfl rfl rfl fun e0 e1 c6 d6 B => ?_; have b7 := B.blk0 (I.blk Z (sA a2.symm c0)); have c7 := (hOT.evo0 B); have hVV := ((Evo.refl [] d3).then B); have hb29 := fF b7
   refine cM rfl rfl rfl rfl jB (b5.evo0 B) (Src.ofOwn c6 ⟨rfl, rfl, rfl, rfl, rfl, rfl, rfl, rfl, rfl, trivial⟩) (by have h8 := lF hown hts; omega) fun qa2 qc2 e2 qo2 d4 E hob69 => ?_
   have c8 := ((V.evo I (fun q hq => nmq q (List.mem_append_right _ hq))).evo0 B).evo E (pX hfr)
   have c9 := (hOT.evo0 B).evo E (fun q hq h => by have h8 := hxg q hq; have h9 := hl1 q (List.mem_append_left _ h); omega)
   have hob2 := hob69; have hFr9 := Fr.grow hfr hl1 hFx (OT.lt c7) M.size (Nat.le_trans hcall9.size hVV.size) hob2
   have hnin := sB ha2 hb29 (fun q hq e => by have h8 := hxg q hq; omega) hob2
   refine bN (aR (aQ (aY ?_))); refine ⟨⟨f', st3, l ++ [x], n + 1, qa2, qc2, qo2, bs ++ bx, na3, nc3, no3⟩, ?_, ⟨rfl, trivial⟩, ⟨rfl, rfl, trivial⟩, (((D.step I (oB hnb)).then B).step E (pW hfr).mem), ?_⟩
   · (try dsimp only); show f' < f' + 1; omega
   try dsimp only
   have hle3 : sx.pos + 1 ≤ st3.pos := hmv3.le
   refine ⟨⟨(E.blk (B.blk0 a3.blk) b4.nmem), ((a3.own.evo0 B).evo E c5.symm.own), a3.ne⟩, ⟨hmv3.opn.trans hmv.opn, (by show st.pos ≤ st3.pos; omega), hmv3.bd, hmv3.nm⟩, heq.trans (FK G hx), (by show s.size + 1 ≤ f' + st3.pos; omega), ⟨_, d4, OTs.app c8 (OTs.single c9)⟩, hFr9, ?_, hnb9, (E.blk b7 a5.nmem), hg2, hnin⟩
   show (l ++ [x]).length + st.pos ≤ st3.pos + 1; rw [List.length_append]; simp; omega
  rw [if_neg G] at F; refine cW (bS (bS (cV (aC ?_)))); refine csr (aA ?_); refine aG (vs := [_, _]) qD rfl (DV 5 Y V (by omega)) rfl ?_; rintro rv d5 ⟨⟨vs, bs', rfl, hOT, hsub⟩, J⟩; have M := D; obtain ⟨ra, rc, ka, kc, rfl⟩ := id hOT.nine; refine aV rfl rfl aJ (J.blk0 Z) rfl rfl ⟨rfl, rfl, rfl, rfl, rfl, rfl, rfl, rfl, rfl, trivial⟩ fun e3 b8 L => ?_
  have d7 := (V.evo0 J).evo L (fun q hq h => ha2 (List.mem_append_right _ (by rw [← List.mem_singleton.1 h]; exact hq)))
  try simp only [cH, Nat.reduceAdd] at b8
  refine wnn (aK (cU (bT rfl (ResOk.cellA rfl bF aJ b8 rfl) ?_)))
  exact ⟨oA 5 l, sx, heq.trans (vG G), ((D.then J).step L hg2.mem1), hmv, na, nc, no, _, bs', rfl, hOT.evo ((Evo.refl ([b2]) d5).step L (fun y hy => .inl hy)) (fun q hq h => ha2 (by rw [← List.mem_singleton.1 h]; exact hsub.subset hq)), hfr.sub hsub, ⟨(L.blk (J.blk0 F.blk) a2.nmem1), ((F.own.evo0 J).evo L c0.symm.own1), F.ne⟩, hnb⟩
theorem BN {b : Nat} {s : ByteArray} (hs : s.size ≤ 4096) : ∀ (n m : Nat), m + n = 250 → tO b s (oL s n) m := by
  intro n
  induction n with
  | zero =>
    intro m hm
    unfold tO
    intro w st a c ob hR ho hb hnl hG hGo
    exact rT (ex := fun _ => .error 3) (fun h => by omega) hR hs (by omega) hb hnl hG hGo
  | succ n ih =>
    intro m hm
    unfold tO
    intro w st a c ob hR ho hb hnl hG hGo
    exact rT (ex := oL s n) (fun h => by rw [ho]; exact ih (m + 1) (by omega)) hR hs (by omega) hb hnl hG hGo
end Go.Proofs.YtljadkcojnlioaaGreatDoor
namespace Go.W
open Go.RowKit
section
variable {P : Program} {σ : Env} {w : World}
def RecAs (u : FrameMode) (v : Value) (u' : FrameMode) : Prop :=
  ∀ (c₀ : Frame) (cs : List Frame), c₀.mode = u → (recoverD (c₀ :: cs) = some (v, { c₀ with mode := u' } :: cs)) ∨ (recoverD (c₀ :: cs) = none ∧ v = .nilIface ∧ u' = u)
theorem RecAs.ret : RecAs .returning .nilIface .returning := fun c cs h => .inr ⟨by simp [recoverD, h], rfl, rfl⟩
theorem RecAs.pan (v : Value) : RecAs (.panicking (pan v)) v (.panicking [{ v := v, recovered := true }]) := fun c cs h => .inl (by simp [recoverD, h])
theorem wpS_rec {Q : Exit → Act → List Frame → World → Prop} {id d d2 : Nat} {T T2 : TypeId} {p p2 : String} {e e2 : Array Edge} {a : Act} {c₀ : Frame} {cs : List Frame} {v : Value} {u u' : FrameMode}
    (hu : c₀.mode = u) (hr : RecAs u v u') (hd : d < a.tmps.size) (h : Q .normal ((a.put (some d) v).put (some d2) v) ({ c₀ with mode := u' } :: cs) w) :
    (Code.region id #[⟨some d, .call ⟨.builtin .recover, #[], #[]⟩, T, p, e, none⟩, ⟨some d2, .assign (.tmp d), T2, p2, e2, none⟩] false).wpS P Q a (c₀ :: cs) w := by
  refine wpS_region ?_
  have hget : ∀ v : Value, (a.put (some d) v).eval (.tmp d) = v := fun v => by
    simp [Act.put, Act.eval, hd]
  have hrun : (execOp a.eval ⟨some d, .call ⟨.builtin .recover, #[], #[]⟩, T, p, e, none⟩).run P w = .ok .recover w := by
    simp [execOp, resolve, builtin, invoke]
  have hrun2 : ∀ v : Value, (execOp (a.put (some d) v).eval ⟨some d2, .assign (.tmp d), T2, p2, e2, none⟩).run P w = .ok (.value v) w := fun v => by
    simp [execOp, hget]
  show wpOpsS P _ Q [0, 1] a (c₀ :: cs) w
  have hstep : ∀ (v : Value) (cs' : List Frame), Q .normal ((a.put (some d) v).put (some d2) v) cs' w → wpOpsS P #[⟨some d, .call ⟨.builtin .recover, #[], #[]⟩, T, p, e, none⟩, ⟨some d2, .assign (.tmp d), T2, p2, e2, none⟩] Q [1] (a.put (some d) v) cs' w := fun v cs' h => by
    simp only [wpOpsS]
    simp [Region.wanted, hrun2, Oper.upon, wpOpsS, h]
  rw [wpOpsS]
  simp only [Region.wanted, List.getElem?_toArray, List.getElem?_cons_zero, hrun, if_true]
  rcases hr c₀ cs hu with h1 | ⟨h1, rfl, rfl⟩
  · rw [h1]; exact hstep _ _ h
  · rw [h1]; subst hu; exact hstep _ _ h
theorem AX {f : FuncId} {fn : Func} {y : Code} {cap : List Value} {Φ : Value → World → Prop} {N id d d2 : Nat} {T T2 : TypeId} {p p2 : String} {e e2 : Array Edge} {v : Value} {u u' : FrameMode} (hr : RecAs u v u')
    (hf : P.funcs[f]? = some fn) (hb : fn.body = some (.seq (.region id #[⟨some d, .call ⟨.builtin .recover, #[], #[]⟩, T, p, e, none⟩, ⟨some d2, .assign (.tmp d), T2, p2, e2, none⟩] false) y)) (hN : fn.ntmps = N)
    (hle' : Nat.ble cap.length N = true) (hd : Nat.blt d N = true) (hd2 : Nat.blt d2 N = true)
    (h : CW P (N, []) y (pP P fn (Ret Φ)) ((d2, v) :: (d, v) :: pG 0 cap) w) :
    CallsD P f cap.toArray u w (fun e u2 w' => (∃ vv, e = .returned vv ∧ Φ vv w') ∧ u2 = u') := by
  have hle : cap.length ≤ N := Nat.le_of_ble_eq_true hle'
  have hdN : d < N := of_decide_eq_true (by simpa using hd)
  have hdN2 : d2 < N := of_decide_eq_true (by simpa using hd2)
  have hfit : Fits (N, []) (pG 0 cap) { tmps := cap.toArray ++ Array.replicate (fn.ntmps - cap.toArray.size) undef, defers := [] } := by
    refine ⟨?_, rfl, ?_⟩
    · simp [hN]; omega
    · intro t v hv
      obtain ⟨_, h2⟩ := rC cap 0 t v hv
      simp only [Nat.sub_zero] at h2
      have hlt : t < cap.length := (List.getElem?_eq_some_iff.1 h2).1
      have h3 : cap[t] = v := by rw [List.getElem?_eq_getElem hlt] at h2; exact Option.some.inj h2
      simp [Array.getElem?_append, hlt, h3]
  refine callsD_of_wpS hf hb fun c₀ cs hu => wpS_seq (wpS_rec hu hr (by rw [hfit.1]; exact hdN) ?_)
  refine wpS_of_wp (wp_mono (h _ ((hfit.put hdN v).put hdN2 v)) ?_)
  intro ex a' w' hq
  cases ex with
  | normal => obtain ⟨N', σ', hf', hn, hk⟩ := hq; obtain ⟨v', h1, h2⟩ := hk a' (by rw [hf'.1, hf'.2.1]; exact hf'); exact ⟨hf'.2.1.trans hn, u', rfl, v', h1, h2, rfl⟩
  | ret => obtain ⟨N', σ', hf', hn, hk⟩ := hq; obtain ⟨v', h1, h2⟩ := hk a' (by rw [hf'.1, hf'.2.1]; exact hf'); exact ⟨hf'.2.1.trans hn, u', rfl, v', h1, h2, rfl⟩
  | panic ch => obtain ⟨N', σ', hf', hn, v', h1, h2⟩ := hq; cases h1
  | outgrown => obtain ⟨_, v', h1, h2⟩ := hq; cases h1
  | exit i => obtain ⟨_, _, _, hk⟩ := hq; exact hk
  | goto l => obtain ⟨_, _, _, hk⟩ := hq; exact hk
theorem tX {n : Nat} {fn : Func} {r r' : ResultVar} {Φ : Value → World → Prop} {f : FuncId} {g : Func} {cap : Array Value} {u : FrameMode} (hr : fn.results = #[r, r']) (hg : P.funcs[f]? = some g) (hn : (g.name == "runtime.NumGoroutine") = false) (hb : g.body.isNone = false) (hu : u ≠ .run)
    (h : CallsD P f cap u w fun e u' w' => (∃ vv, e = .returned vv) ∧ settle u' = .returning ∧ ∃ v v', ResOk P σ w' r v ∧ ResOk P σ w' r' v' ∧ Φ (.tuple #[v, v']) w') :
    ∀ a, Fits (n, [dfr f cap]) σ a → Leaves P fn a.tmps (Ret Φ) [dfr f cap] u w := fun a ha => by
  refine LS hg hn hb hu (h.mono ?_)
  rintro e u' w' ⟨⟨vv, rfl⟩, hs, v, v', h1, h2, h3⟩
  show Leaves P fn a.tmps (Ret Φ) [] (settle u') w'
  rw [hs]
  refine ⟨.tuple #[v, v'], ?_, _, rfl, h3⟩
  have ha' : Fits (a.tmps.size, a.defers) σ a := ⟨rfl, rfl, ha.2.2⟩
  rw [rA, hr]
  simp [h1 a ha', h2 a ha']
theorem AZ {n : Nat} {fn : Func} {Φ : Value → World → Prop} (h : pP P fn (Ret Φ) .ret (n, []) σ w) : WY P fn (Ret Φ) .ret (n, []) σ w := fun a ha => h.2 a (by rw [ha.1, ha.2.1]; exact ha)
end
end Go.W
namespace Go.Proofs.YtljadkcojnlioaaGreatDoor
open Go.RowKit Go.W
attribute [local irreducible] Decidable.decide
theorem sY {s : ByteArray} {a : Nat} (ha : a < s.size) (h : (Utf8.decode s a).1 = 65533 → a + 3 ≤ s.size ∧ s.extract a (a + 3) = bstr [239, 191, 189]) :
    (cL s a).1 = ((Utf8.decode s a).1 : Nat) ∧ (cL s a).2 = (Utf8.decode s a).2 := by
  have h1 : ¬ ((Utf8.decode s a).1 = 65533 ∧ (Utf8.decode s a).2 = 1) := fun ⟨h1, h2⟩ => by
    have := (sH s a h1 ha).2 (h h1)
    omega
  unfold cL
  rw [if_pos ⟨ha, h1⟩]
  exact ⟨rfl, rfl⟩
theorem pS {s : ByteArray} {a : Nat} (ha : a < s.size) : 0 < (Utf8.decode s a).2 := by
  rcases gW s a ha with ⟨w, h1, h2, h3, hh, hd, h4, h5, -⟩ | ⟨h1, hd⟩ <;> rw [hd] <;> simp <;> omega
theorem PG {s : ByteArray} {k : Nat} (hw : ∀ j, j < k → 0 < (cL s (aU s j)).2) (h : ¬ aU s k < s.size) : Utf s k := ⟨Nat.le_antisymm (jF s k) (by omega), hw⟩
theorem RL {s : ByteArray} {k : Nat} (hw : ∀ j, j < k → 0 < (cL s (aU s j)).2) (h1 : aU s k < s.size) (h2 : (cL s (aU s k)).2 = 0) : ¬ ∃ N, Utf s N := by
  rintro ⟨N, hN⟩
  rcases Nat.lt_or_ge k N with h | h
  · have := hN.2 k h; omega
  · have h3 : aU s N ≤ aU s k := by
      rcases Nat.lt_or_ge N k with h' | h'
      · exact Nat.le_of_lt (mP hw h' (Nat.le_refl _))
      · rw [Nat.le_antisymm h h']; exact Nat.le_refl _
    rw [hN.1] at h3; omega
structure VaI (w wr : World) (s : ByteArray) (it k : Nat) : Prop where
  hw : ∀ j, j < k → 0 < (cL s (aU s j)).2
  hit : wr.heap[it]? = some (.stringIter s (aU s k))
  hge : Ge w (some it)
theorem PH {w : World} (s : ByteArray) (hs : s.size ≤ 140737488355320) : Calls Tryz.prog 34 #[.string s] w (Ret fun v w' => ∃ b, v = .bool b ∧ (b = true ↔ ∃ N, Utf s N) ∧ Evo [] w w') := by
  refine bE (N := 19) Tryz.func34 rfl rfl rfl ?_; refine csr (wan (aM (csr (aA (CC rfl rfl Tryz.underlying9 fun it w1 M O U => ?_))))); have V := Ge.new (Evo.refl [] w) O; refine wnn (bK ?_); refine dL (α := Nat) (0) (fun k => []) [(0, _), (6, _)] (fun k wr => Evo [] w wr ∧ (VaI w wr s it k)) (fun k => s.size - aU s k) trivial ⟨rfl, rfl, trivial⟩ ⟨((Evo.refl [] w).then U), ⟨fun j h => (by cases h), M, V⟩⟩ ?_; rintro k wr7 ⟨G, ⟨hw, hIt, hIg⟩⟩; show CW _ _ _ _ [(0, _), (6, _)] _; refine csr ?_
  by_cases H : aU s k < s.size
  ·refine HE rfl rfl hIt H fun W F I => ?_; have D := G.step I hIg.mem1
   have hlt : aU s k < s.size := by omega
   refine aB (cC rfl rfl) ?_; refine wnn (aM (cZ rfl ?_)); refine aN (aC (bK (csr (aB (cC rfl rfl) ?_)))); refine aB (cC rfl rfl) ?_; refine bN (wan (csr (aA (wel ?_)))); refine aA (bH (t := 13) rfl (fun J => ?_) (fun J => ?_))
   ·refine aW (aA (aW (aA (aW ?_)))); refine aG (vs := [_, _]) xW rfl (xK s (aU s k) (jF s k) (by omega)) rfl ?_; rintro _ Y ⟨rfl, E⟩; have L := E.blk0 F; refine aW (aB (mS rfl) ?_); refine bW (wnn (aZ rfl (fun B => ?_) (fun B => ?_)))
    ·refine csr (wan (aK (aO (aE (aO (aE (br1 ?_)))))))
     exact ⟨false, rfl, by simp only [Bool.false_eq_true, false_iff]; exact RL hw hlt (by rw [CM hlt (by omega) (by simpa using B)]), (D.then E)⟩
    refine aN (aQ (aY ?_)); refine ⟨(k + 1), ?_, trivial, ⟨rfl, rfl, trivial⟩, (D.then E), ?_⟩
    · (have hnd : (cL s (aU s k)).1 = ((Utf8.decode s (aU s k)).1 : Nat) ∧ (cL s (aU s k)).2 = (Utf8.decode s (aU s k)).2 := sY hlt (fun h => by first | (exfalso; omega) | simpa using B); have hdw := pS hlt; have e0 : aU s (k + 1) = aU s k + (cL s (aU s k)).2 := rfl; rw [e0, hnd.2]; omega)
    have hnd : (cL s (aU s k)).1 = ((Utf8.decode s (aU s k)).1 : Nat) ∧ (cL s (aU s k)).2 = (Utf8.decode s (aU s k)).2 := sY hlt (fun h => by first | (exfalso; omega) | simpa using B)
    have hdw := pS hlt; have e0 : aU s (k + 1) = aU s k + (cL s (aU s k)).2 := rfl; refine ⟨fun j hj => ?_, ?_, hIg⟩
    · by_cases e : j < k; exact hw j e; (obtain rfl : j = k := by omega); rw [hnd.2]; exact hdw
    · rw [e0, hnd.2]; exact L
   refine aP (aP (aP (aP (bR (wnn (cF rfl ?_)))))); refine aN (aQ (aY ?_)); refine ⟨(k + 1), ?_, trivial, ⟨rfl, rfl, trivial⟩, D, ?_⟩
   · (have hnd : (cL s (aU s k)).1 = ((Utf8.decode s (aU s k)).1 : Nat) ∧ (cL s (aU s k)).2 = (Utf8.decode s (aU s k)).2 := sY hlt (fun h => by first | (exfalso; omega) | simpa using B); have hdw := pS hlt; have e0 : aU s (k + 1) = aU s k + (cL s (aU s k)).2 := rfl; rw [e0, hnd.2]; omega)
   have hnd : (cL s (aU s k)).1 = ((Utf8.decode s (aU s k)).1 : Nat) ∧ (cL s (aU s k)).2 = (Utf8.decode s (aU s k)).2 := sY hlt (fun h => by first | (exfalso; omega) | simpa using B)
   have hdw := pS hlt; have e0 : aU s (k + 1) = aU s k + (cL s (aU s k)).2 := rfl; refine ⟨fun j hj => ?_, ?_, hIg⟩
   · by_cases e : j < k; exact hw j e; (obtain rfl : j = k := by omega); rw [hnd.2]; exact hdw
   · rw [e0, hnd.2]; exact F
  refine RG rfl rfl hIt H ?_; refine aB (cC rfl rfl) ?_; refine wnn (aM (cF rfl ?_)); refine cW (bS (bS (cV (aC ?_)))); refine csr (wan (aK (br1 ?_)))
  exact ⟨true, rfl, by simp only [true_iff]; exact ⟨k, PG hw (by omega)⟩, G⟩
theorem GV : eU Tryz.prog 58 0 = some 0 := by kernel_rfl
theorem JJ : iJ Tryz.prog 58 = some 1 := by kernel_rfl
theorem JH : pF Tryz.prog 58 = some #[.int .i64 0] := by kernel_rfl
theorem OO {P : Program} {σ : Env} {w : World} {T : TypeId} {pos : String} {after : Array Edge} {dst : Option Nat} {g : Option (Nat × Bool)} {op : BinOp} {xt yt : TypeId} {x y : Operand} {a b r : Value} (hx : σ.ev x = some a) (hy : σ.ev y = some b) (h : ∀ w, (do eqGuard op xt x y a b; binOp op xt a b : Sem Value).run P w = .ok r w) : Ex P σ ⟨dst, .binOp op xt x y yt, T, pos, after, g⟩ w r w := fun ρ ha => by
  have h1 := h w
  simp only [Sem.run_bind] at h1
  simp only [execOp, ha _ _ hx, ha _ _ hy, Sem.run_bind, h1, Result.andThen_ok, Sem.run_pure]
theorem MA {P : Program} {σ : Env} {w : World} {T : TypeId} {pos : String} {after : Array Edge} {dst : Option Nat} {g : Option (Nat × Bool)} {xt ast : TypeId} {ok : Bool} {x : Operand} {a r : Value} (hx : σ.ev x = some a) (h : ∀ w, (Instr.typeAssert a xt ast ok).run P w = .ok r w) : Ex P σ ⟨dst, .typeAssert x xt ast ok, T, pos, after, g⟩ w r w := fun ρ ha => by
  simp [execOp, ha _ _ hx, h]
theorem recov_none {w : World} {x e : Value} : CallsD Tryz.prog 35 #[x, e] .returning w (fun e u2 w' => (∃ vv, e = .returned vv ∧ Evo [] w w') ∧ u2 = .returning) := by
  refine AX (N := 19) (RecAs.ret) Tryz.func35 rfl rfl rfl rfl rfl ?_
  refine aM ?_
  refine aF ?_
  refine aA ?_
  refine iT rfl (OO (r := .bool false) rfl rfl (fun w => by kernel_rfl)) ?_
  refine aR (aC ?_)
  refine cF rfl ?_
  refine aN (dD rfl ?_)
  exact (Evo.refl [] w)
theorem zP {w : World} {bx be : Nat} {c0 c1 c2 c3 c4 c5 c6 c7 c8 v0 : Value} {k : Int} (hx : w.heap[bx]? = some (.cells #[c0, c1, c2, c3, c4, c5, c6, c7, c8] 27 (0, 0))) (he : w.heap[be]? = some (.cells #[v0] 28 (0, 0))) (hne : Apart (some bx) (some be)) :
    CallsD Tryz.prog 35 #[.pointer (some ⟨bx, 0, none⟩), .pointer (some ⟨be, 0, none⟩)] (.panicking (pan (flt k))) w (fun e u2 w' => (∃ vv, e = .returned vv ∧ Evo [bx, be] w w' ∧ w'.heap[bx]? = some (.cells #[iv 0, .int .i32 0, .slice none 0 0, iv 0, iv 0, .bool false, iv 0, .string ByteArray.empty, .slice none 0 0] 27 (0, 0)) ∧ w'.heap[be]? = some (.cells #[iv k] 28 (0, 0))) ∧ u2 = .panicking [{ v := flt k, recovered := true }]) := by
  refine AX (N := 19) (RecAs.pan _) Tryz.func35 rfl rfl rfl rfl rfl ?_
  refine aM ?_
  refine aF ?_
  refine aA ?_
  refine iT rfl (OO (r := .bool true) rfl rfl (fun w => by kernel_rfl)) ?_
  refine aR (aC ?_)
  refine cZ rfl ?_
  refine aM ?_
  refine aF ?_
  refine aA ?_
  refine iT rfl (MA (r := .tuple #[.agg #[iv k], .bool true]) rfl (fun w => by kernel_rfl)) ?_
  refine aA ?_
  refine iT rfl (cC rfl rfl) ?_
  refine iT rfl (cC rfl rfl) ?_
  refine cO rfl JH fun bf w1 hB2 hs3 hw4 => ?_
  have hsz_bf := hs3
  have hA5 := Apart.new (Lt.blk hx) hs3
  have hA6 := Apart.new (Lt.blk he) hs3
  have hG7 := Ge.new (Evo.refl [bx, be] w) hs3
  have hE8 := (Evo.refl [bx, be] w).then hw4
  have hB9 := hw4.blk0 hx
  have hB10 := hw4.blk0 he
  refine aV rfl rfl JJ hB2 rfl rfl ⟨by first | rfl | assumption, trivial⟩ fun w11 hB12 hw13 => ?_
  have hE14 := hE8.step hw13 hG7.mem1
  have hB15 := hw13.blk hB9 hA5.nmem1
  have hB16 := hw13.blk hB10 hA6.nmem1
  refine bN ?_
  refine aR (aC ?_)
  refine aM ?_
  refine aM ?_
  refine aF ?_
  refine aA ?_
  refine iT rfl (fV rfl) ?_
  refine aR (aC ?_)
  refine cF rfl ?_
  refine aN (aC ?_)
  refine fR (fun w0 w' => Evo [bx, be] w0 w') (by kernel_rfl) (fun w17 hw18 => ?_)
  have hE19 := hE14.then hw18
  have hB20 := hw18.blk0 hB15
  have hB21 := hw18.blk0 hB16
  have hB22 := hw18.blk0 hB12
  refine zC 0 rfl (by kernel_rfl) (by kernel_rfl) (by kernel_rfl) rfl (fun _ hS => cI (vs := []) cB rfl (cells := [_, _, _, _, _, _, _, _, _]) rfl) (Evo.refl [bx, be] w17) ?_
  refine zC 1 rfl (by kernel_rfl) (by kernel_rfl) (by kernel_rfl) rfl (fun _ hS => aD rfl GV) (Evo.refl [bx, be] w17) ?_
  refine zC 2 rfl (by kernel_rfl) (by kernel_rfl) (by kernel_rfl) rfl (fun _ hS => aX rfl kR (bI (hS.blk hB22 ((sA hA5.symm hA6.symm))) rfl)) (Evo.refl [bx, be] w17) ?_
  refine cA [3] (by kernel_rfl) rfl ⟨?_, trivial⟩
  refine cG rfl ?_
  refine aV rfl rfl aJ hB20 rfl rfl ⟨by first | rfl | assumption, by first | rfl | assumption, by first | rfl | assumption, by first | rfl | assumption, by first | rfl | assumption, by first | rfl | assumption, by first | rfl | assumption, by first | rfl | assumption, by first | rfl | assumption, trivial⟩ fun w23 hB24 hw25 => ?_
  have hE26 := hE19.step hw25 (fun y hy => .inl (by rw [List.mem_singleton.1 hy]; simp))
  have hE27 := (Evo.refl [bx, be] w17).step hw25 (fun y hy => .inl (by rw [List.mem_singleton.1 hy]; simp))
  have hB28 := hw25.blk hB21 hne.symm.nmem1
  have hB29 := hw25.blk hB22 hA5.symm.nmem1
  refine aR (bV (.inl hE27) ?_)
  refine cA [4] (by kernel_rfl) rfl ⟨?_, trivial⟩
  refine cG rfl ?_
  refine bJ rfl rfl (by first | rfl | assumption) fZ hB28 rfl fun w30 hB31 hw32 => ?_
  have hE33 := hE26.step hw32 (fun y hy => .inl (by rw [List.mem_singleton.1 hy]; simp))
  have hE34 := hE27.step hw32 (fun y hy => .inl (by rw [List.mem_singleton.1 hy]; simp))
  have hB35 := hw32.blk hB24 hne.nmem1
  have hB36 := hw32.blk hB29 hA6.symm.nmem1
  refine aR (bV (.inl hE34) ?_)
  refine dB (by kernel_rfl) (dD rfl ?_)
  exact ⟨hE33, hB35, hB31⟩
theorem GY : Build Tryz.prog 64 #[(0, 1), (1, 1), (2, 4), (6, 1), (7, 1)] #[.string ByteArray.empty, .int .i64 0, .bool false, .bool false, .bool false, .bool false, .int .i64 0, .slice none 0 0] := ⟨_, .agg #[.string ByteArray.empty, .int .i64 0, .bool false, .bool false, .bool false, .bool false, .int .i64 0, .slice none 0 0], Tryz.underlying64, by kernel_rfl, rfl, fun w => by kernel_rfl⟩
theorem KE : dW Tryz.prog 34 := ⟨_, Tryz.func34, by kernel_rfl, by kernel_rfl⟩
theorem JI : pF Tryz.prog 28 = some #[.int .i64 0] := by kernel_rfl
abbrev st0 : PS := ⟨0, ⟨false, false, false, false⟩, 0, []⟩
abbrev zRx : Value := .agg #[iv 0, .int .i32 0, .slice none 0 0, iv 0, iv 0, .bool false, iv 0, .string ByteArray.empty, .slice none 0 0]
section
variable {s : ByteArray} {e : Int} {x : Rx} {st : PS}
theorem NF (h : 4096 < s.size) : iV s = .error 1 := by unfold iV; rw [if_pos h]
theorem TG (h : ¬ 4096 < s.size) (hU : ¬ ∃ N, Utf s N) : iV s = .error 4 := by unfold iV; rw [if_neg h, if_pos hU]
theorem EG (h : ¬ 4096 < s.size) (hU : ∃ N, Utf s N) (he : oL s 250 st0 = .error e) : iV s = .error e := by unfold iV; rw [if_neg h, if_neg (not_not_intro hU), he]
theorem NE (h : ¬ 4096 < s.size) (hU : ∃ N, Utf s N) (he : oL s 250 st0 = .ok (x, st)) (hp : st.pos < s.size) : iV s = .error 80 := by unfold iV; rw [if_neg h, if_neg (not_not_intro hU), he]; simp only [if_pos hp]
theorem TH (h : ¬ 4096 < s.size) (hU : ∃ N, Utf s N) (he : oL s 250 st0 = .ok (x, st)) (hp : ¬ st.pos < s.size) : iV s = .ok x := by unfold iV; rw [if_neg h, if_neg (not_not_intro hU), he]; simp only [if_neg hp]
end
def XM (s : ByteArray) (w : World) (v : Value) (w' : World) : Prop :=
  Evo [] w w' ∧ ((∃ e, iV s = .error e ∧ v = .tuple #[zRx, iv e]) ∨ ∃ x vs bs, iV s = .ok x ∧ v = .tuple #[.agg vs.toArray, iv 0] ∧ OT x w' vs bs ∧ Fr w bs)
theorem zU {w : World} (s : ByteArray) (hG : Glb w) : Calls Tryz.prog 11 #[.string s] w (Ret (XM s w)) := by
  refine FG (N := 31) Tryz.func11 rfl rfl rfl ?_; refine csr (cO rfl dC fun bx w1 a4 c1 d6 => ?_); have d7 := c1; have G := Ge.new (Evo.refl [] w) c1; have a5 := (Evo.refl [] w).then d6; refine cO rfl JI fun be w7 c3 a6 H => ?_; have d8 := a6; have D := Apart.new (Lt.blk a4) a6; have E := Ge.new a5 a6; refine wnn (aM (csr (aA (aB (cQ rfl Tryz.underlying9 rfl) ?_)))); refine aB (eW rfl rfl) ?_; refine wnn (aZ rfl (fun d9 => ?_) (fun d9 => ?_))
  ·refine csr (aB (cI (vs := []) cB rfl (cells := [_, _, _, _, _, _, _, _, _]) rfl) ?_); refine aV rfl rfl aJ (H.blk0 a4) rfl rfl ⟨rfl, rfl, rfl, rfl, rfl, rfl, rfl, rfl, rfl, trivial⟩ fun e2 c4 a7 => ?_; refine bJ rfl rfl (rfl) fZ (a7.blk c3 D.symm.nmem1) rfl fun e3 c5 a8 => ?_; refine wnn (aK (aE (AZ (gC rfl (ResOk.cellA rfl bF aJ (a8.blk c4 D.nmem1) rfl) (ResOk.cell1 rfl kR c5 rfl) ?_)))); exact ⟨(((a5.then H).step a7 G.mem1).step a8 E.mem1), .inl ⟨1, NF (by omega), rfl⟩⟩
  have hlen : ¬ 4096 < s.size := by omega
  refine aN (aC (aM (csr (aA ?_)))); refine aG (vs := [_]) KE rfl (PH s (by omega)) rfl ?_; rintro _ e4 ⟨bU, rfl, hbU, M⟩; have I := (a5.then H).then M; have O := M.blk0 (H.blk0 a4); have U := M.blk0 c3; refine aB (fV rfl) ?_; refine wnn (eO rfl (fun a9 => ?_) (fun a9 => ?_))
  ·refine csr (aB (cI (vs := []) cB rfl (cells := [_, _, _, _, _, _, _, _, _]) rfl) ?_); refine aV rfl rfl aJ O rfl rfl ⟨rfl, rfl, rfl, rfl, rfl, rfl, rfl, rfl, rfl, trivial⟩ fun e5 c6 b4 => ?_; refine bJ rfl rfl (rfl) fZ (b4.blk U D.symm.nmem1) rfl fun e6 c7 b5 => ?_; refine wnn (aK (aE (AZ (gC rfl (ResOk.cellA rfl bF aJ (b5.blk c6 D.nmem1) rfl) (ResOk.cell1 rfl kR c7 rfl) ?_))))
   exact ⟨((I.step b4 G.mem1).step b5 E.mem1), .inl ⟨4, TG hlen (fun h => by have := hbU.2 h; simp_all), rfl⟩⟩
  have hU : ∃ N, Utf s N := hbU.1 (by simpa using a9); refine aN (aC (csr (aB (IU (vs := [_, _]) rfl) ?_))); refine RH rfl ?_; refine wnn (csr (aA (aB (cI (vs := [(0, _)]) GY rfl (cells := [_, _, _, _, _, _, _, _]) rfl) ?_))); refine iM rfl rfl fun br e7 c8 F V => ?_; have e0 := F; have W := Apart.new (Lt.blk O) F; have b6 := Apart.new (Lt.blk U) F; have J := I.then V; have Y := V.blk0 O; have Z := V.blk0 U; refine wan (csr (aA ?_))
  refine cT (vs := [_]) sV rfl (BN (by omega) 250 0 rfl (a := none) (c := 0) (ob := none) (st := st0) ⟨c8, OwnS.nil _ _ _, fun g h => by cases h⟩ rfl (by obtain ⟨N, hN⟩ := hU; exact Bd.zero hN) (by show 0 ≤ 100; omega) (hG.evo J (by simp)) (Apart.nil _)) rfl ?_ ?_
  ·intro pv wp hpp; obtain ⟨e9, hpe, rfl, hpw⟩ := hpp; refine tX rfl Tryz.func35 (by kernel_rfl) rfl (by simp) ((zP (hpw.blk Y (by simpa using W.nmem1)) (hpw.blk Z (by simpa using b6.nmem1)) D).mono ?_); rintro e9 u9 w9 ⟨⟨vv, rfl, hv9, hb9, b7⟩, rfl⟩
   exact ⟨⟨vv, rfl⟩, rfl, _, _, ResOk.cellA rfl bF aJ hb9 rfl, ResOk.cell1 rfl kR b7 rfl, ((J).step hpw (fun y hy => (Ge.new I F).mem1 y (by simpa using hy))).step hv9 (fun y hy => by rcases List.mem_cons.1 hy with rfl | hy; exact G.mem1 _ (by simp); exact E.mem1 _ hy), .inl ⟨_, EG hlen hU hpe, rfl⟩⟩
  rintro _ e8 ⟨x, st1, hx, h0w, hmv, na, nc, no, vs, bs, rfl, hOT, hFx, hR, hnb⟩; have a0 : Evo [br] _ _ := h0w; obtain ⟨ra, rc, ka, kc, rfl⟩ := id hOT.nine; have hbxl := fF Y; have hbel := fF Z; refine aV rfl rfl aJ (a0.blk Y W.nmem1) rfl rfl ⟨rfl, rfl, rfl, rfl, rfl, rfl, rfl, rfl, rfl, trivial⟩ fun f0 c9 L => ?_; have b8 := L.blk hR.blk W.symm.nmem1
  have d0 := hOT.evo L (fun q hq h => by rw [List.mem_singleton.1 h] at hq; have h8 := hFx.ge _ hq; omega)
  refine wnn (aM (aM ?_)); refine eK (by kernel_rfl) (by kernel_rfl) ?_; refine bG (fun _ B => bC rfl) ?_; refine bG (fun _ B => aH rfl) ?_; refine bG (fun _ B => aD rfl bP) ?_; refine bG (fun _ B => aX rfl bD (bI (B.blk0 b8) rfl)) ?_; refine bG (fun _ B => bC rfl) ?_; refine bG (fun _ B => aH rfl) ?_; refine bG (fun _ B => aD rfl eA) ?_; refine bG (fun _ B => aX rfl dG (bI (B.blk0 b8) rfl)) ?_; refine bG (fun _ B => cQ rfl Tryz.underlying9 rfl) ?_; refine bG (fun _ B => dA rfl rfl) ?_; refine eN (fun e1 B => aC ?_); have b9 := ((J.step a0 (Ge.new I F).mem1).step L G.mem1).then B; have a1 := B.blk0 c9; have c0 := B.blk0 (L.blk (a0.blk Z b6.nmem1) D.symm.nmem1); refine aZ rfl (fun d1 => ?_) (fun d1 => ?_)
  ·refine aF (cT (vs := [_]) dJ rfl (fU 80) rfl ?_ ?_)
   ·intro pv wp hpp; obtain ⟨rfl, hpw⟩ := hpp; refine tX rfl Tryz.func35 (by kernel_rfl) rfl (by simp) ((zP (hpw.blk a1 (by simp)) (hpw.blk c0 (by simp)) D).mono ?_); rintro e9 u9 w9 ⟨⟨vv, rfl, hv9, hb9, b7⟩, rfl⟩
    exact ⟨⟨vv, rfl⟩, rfl, _, _, ResOk.cellA rfl bF aJ hb9 rfl, ResOk.cell1 rfl kR b7 rfl, ((b9).then hpw).step hv9 (fun y hy => by rcases List.mem_cons.1 hy with rfl | hy; exact G.mem1 _ (by simp); exact E.mem1 _ hy), .inl ⟨_, NE hlen hU hx (by omega), rfl⟩⟩
   intro _ _ hF; exact hF.elim
  refine aN (aC (csr (aB (bX rfl bF aJ a1 rfl) (aV rfl rfl aJ a1 rfl rfl ⟨rfl, rfl, rfl, rfl, rfl, rfl, rfl, rfl, rfl, trivial⟩ fun f5 d2 a2 => ?_))))
  have d3 := (d0.evo0 B).evo a2 (fun q hq h => by rw [List.mem_singleton.1 h] at hq; have h8 := hFx.ge _ hq; omega)
  refine bJ rfl rfl (rfl) fZ (a2.blk c0 D.symm.nmem1) rfl fun f6 d4 a3 => ?_
  have d5 := d3.evo a3 (fun q hq h => by rw [List.mem_singleton.1 h] at hq; have h8 := hFx.ge _ hq; omega)
  refine wnn (aK (?_)); refine tX rfl Tryz.func35 (by kernel_rfl) rfl (by simp) (recov_none.mono ?_); rintro e9 u9 w9 ⟨⟨vv, rfl, hv9⟩, rfl⟩; exact ⟨⟨vv, rfl⟩, rfl, _, _, ResOk.cellA rfl bF aJ (hv9.blk0 (a3.blk d2 D.nmem1)) rfl, ResOk.cell1 rfl kR (hv9.blk0 d4) rfl, (((b9.step a2 G.mem1).step a3 E.mem1)).then hv9, .inr ⟨x, _, bs, TH hlen hU hx (by omega), rfl, d5.evo0 hv9, hFx.older J.size⟩⟩
theorem gD : nU Tryz.prog 67 = some false := by kernel_rfl
theorem BX : BS Tryz.prog 67 67 = some (21, 1, 4) := by kernel_rfl
theorem KG : dW Tryz.prog 16 := ⟨_, Tryz.func16, by kernel_rfl, by kernel_rfl⟩
theorem KA : dW Tryz.prog 62 := ⟨_, Tryz.func62, by kernel_rfl, by kernel_rfl⟩
theorem yA : dW Tryz.prog 17 := ⟨_, Tryz.func17, by kernel_rfl, by kernel_rfl⟩
theorem BH : rV Tryz.prog 111 = some (3, 1) := by kernel_rfl
theorem RP {s : ByteArray} {k : Nat} (hw : ∀ j, j < k → 0 < (cL s (aU s j)).2) (h : aU s k < s.size) (h0 : (cL s (aU s k)).2 = 0) : ¬ ∃ N, Utf s N := by
  rintro ⟨N, h1, h2⟩
  by_cases e : N ≤ k
  · have := mG s e; omega
  · have := h2 k (by omega); omega
theorem HA : BS Tryz.prog 111 111 = some (3, 1, 8) := by kernel_rfl
abbrev wS (l : List Int) : List Value := l.map fun c => Value.int .i32 c
theorem EN {s : ByteArray} {k : Nat} (h : ∀ j, j < k → 0 < (cL s (aU s j)).2) : k ≤ aU s k := by
  induction k with
  | zero => exact Nat.zero_le _
  | succ k ih =>
    have h1 := ih (fun j hj => h j (by omega))
    have h2 := h k (by omega)
    rw [aU]; omega
theorem RO {s : ByteArray} {k : Nat} (hw : ∀ j, j < k → 0 < (cL s (aU s j)).2) (h : ¬ aU s k < s.size) : Utf s k := ⟨Nat.le_antisymm (jF s k) (by omega), hw⟩
theorem RN {s : ByteArray} {K N : Nat} (hw : ∀ j, j < K → 0 < (cL s (aU s j)).2) (he : aU s K = s.size ∨ (cL s (aU s K)).2 = 0) (hU : Utf s N) : K = N := by
  rcases Nat.lt_trichotomy K N with h | h | h
  · have h1 := hU.2 K h
    have h2 := mP hU.2 h (Nat.le_refl _)
    rw [hU.1] at h2
    omega
  · exact h
  · have h1 := hw N h
    rw [hU.1, pL (Nat.le_refl _)] at h1
    cases h1
theorem OE {s : ByteArray} {k : Nat} (hw : ∀ j, j < k → 0 < (cL s (aU s j)).2) (h : ¬ (((cL s (aU s k)).2 : Nat) : Int) = 0) : ∀ j, j < k + 1 → 0 < (cL s (aU s j)).2 := fun j hj => by
  by_cases e : j < k
  · exact hw j e
  · obtain rfl : j = k := by omega
    omega
theorem xI (s : ByteArray) (k : Nat) : jH s (k + 1) = jH s k ++ [(cL s (aU s k)).1] := by
  unfold jH; rw [List.range_succ, List.map_append]; rfl
structure AlG where
  k : Nat
  pa : Option Addr
  pc : Nat
  po : Option Nat
  ra : Option Addr
  rc : Nat
  ro : Option Nat
structure AlI (w wr : World) (s : ByteArray) (x : AlG) : Prop where
  hw : ∀ j, j < x.k → 0 < (cL s (aU s j)).2
  p : OwnS wr 3 1 x.pa x.k x.pc ((List.range x.k).map fun j => iv (aU s j : Nat)) x.po
  r : OwnS wr 21 1 x.ra x.k x.rc (wS (jH s x.k)) x.ro
  gp : Ge w x.po
  gr : Ge w x.ro
  ap : Apart x.po x.ro
theorem PV {w : World} (s : ByteArray) (hs : s.size ≤ 1000000) : Calls Tryz.prog 16 #[.string s] w (Ret fun v w' => ∃ b, v = .bool b ∧ (b = true ↔ ∃ N, Utf s N) ∧ Evo [] w w') := by
  refine bE (N := 21) Tryz.func16 rfl rfl rfl ?_; refine csr (wan (csr (wan (aM (bK ?_))))); refine dL (α := Nat) (0) (fun k => [(3, .int .i64 (aU s k : Nat))]) [(0, _)] (fun k wr => Evo [] w wr ∧ (∀ j, j < k → 0 < (cL s (aU s j)).2)) (fun k => s.size - aU s k) ⟨rfl, trivial⟩ ⟨rfl, trivial⟩ ⟨Evo.refl _ _, fun j h => by cases h⟩ ?_; rintro k wr1 ⟨D, hw⟩; show CW _ _ _ _ [(3, _), (0, _)] _; have E := (Evo.refl [] w).then D; refine aM (csr (aA (aA (aB (cQ rfl Tryz.underlying9 rfl) ?_)))); refine aB (dA rfl rfl) ?_; refine wnn (aZ rfl (fun G => ?_) (fun G => ?_))
  ·refine aN (aC (bK (csr (aA (aA ?_))))); refine aG (vs := [_, _]) yA rfl (zO s (aU s k) (jF s k) (by omega)) rfl ?_; rintro _ w4 ⟨rfl, F⟩; refine aA (aB (cC rfl rfl) ?_); refine aB (cC rfl rfl) ?_; refine bN (wan (aM (csr (aA (wel ?_))))); refine wnn (aZ rfl (fun B => ?_) (fun B => ?_))
   ·refine csr (wan (aK (aE (aO (aE (aO (aE (br1 ?_))))))))
    exact ⟨false, rfl, by simp only [Bool.false_eq_true, false_iff]; exact RP hw (by omega) (by omega), (E.then F)⟩
   refine aN (aC (aF (aA (aA ?_)))); have hnb := jF s (k + 1); have hof : aU s (k + 1) = aU s k + (cL s (aU s k)).2 := rfl; refine aB (aI rfl rfl (by omega) (by omega)) ?_; rw [show ((aU s k : Nat) : Int) + ((cL s (aU s k)).2 : Nat) = ((aU s (k + 1) : Nat) : Int) from by omega]; refine bN (aR (aQ (aY ?_))); refine ⟨k + 1, ?_, ⟨rfl, trivial⟩, ⟨rfl, trivial⟩, (D.then F), ?_⟩
   · omega
   exact OE hw B
  refine cW (bS (bS (cV (aC ?_)))); refine csr (wan (aK (br1 ?_)))
  exact ⟨true, rfl, by simp only [true_iff]; exact ⟨k, RO hw (by omega)⟩, E⟩
theorem PW {w : World} (s : ByteArray) (hs : s.size ≤ 1000000) : Calls Tryz.prog 62 #[.string s] w (Ret fun v w' => Evo [] w w' ∧ ∃ K pa pn pc ra rc ro, v = .tuple #[.slice pa pn pc, .slice ra K rc] ∧ (∀ j, j < K → 0 < (cL s (aU s j)).2) ∧ (aU s K = s.size ∨ (cL s (aU s K)).2 = 0) ∧ OwnS w' 21 1 ra K rc (wS (jH s K)) ro ∧ Ge w ro) := by
  refine bE (N := 34) Tryz.func62 rfl rfl rfl ?_; refine csr (bN (wan (csr (wan (csr (wan (csr ?_))))))); refine wan (aM (bK ?_)); refine dL (α := AlG) (⟨0, none, 0, none, none, 0, none⟩) (fun x => [(6, .int .i64 (aU s x.k : Nat)), (4, .slice x.pa x.k x.pc), (5, .slice x.ra x.k x.rc)]) [(0, _), (2, _), (3, _)] (fun x wr => Evo [] w wr ∧ (AlI w wr s x)) (fun x => s.size - aU s x.k) ⟨rfl, rfl, rfl, trivial⟩ ⟨rfl, rfl, rfl, trivial⟩ ⟨(Evo.refl [] w), ⟨(fun j h => (by cases h)), OwnS.nil _ _ _, OwnS.nil _ _ _, Ge.nil _, Ge.nil _, Apart.nil _⟩⟩ ?_; rintro ⟨k, pa, pc, po, ra, rc, ro⟩ wr1 ⟨F, ⟨hw, hp, hr, hgp, hgr, hap⟩⟩; show CW _ _ _ _ [(6, .int .i64 (aU s k : Nat)), (4, .slice pa k pc), (5, .slice ra k rc), (0, _), (2, _), (3, _)] _
  try dsimp only at hw hp hr hgp hgr hap
  refine aM (csr (aA (aA (aB (cQ rfl Tryz.underlying9 rfl) ?_)))); refine aB (dA rfl rfl) ?_; refine wnn (aZ rfl (fun V => ?_) (fun V => ?_))
  ·have hkk := EN hw; refine aN (aC (bK (csr (aA (aA ?_))))); refine aG (vs := [_, _]) yA rfl (zO s (aU s k) (jF s k) (by omega)) rfl ?_; rintro _ w3 ⟨rfl, D⟩; refine aA (aB (cC rfl rfl) ?_); refine aB (cC rfl rfl) ?_; refine bN (wan (aM (csr (aA (wel ?_))))); refine wnn (aZ rfl (fun G => ?_) (fun G => ?_))
   ·refine cW (bS (yV rfl (bS (cV (aC ?_))))); refine csr (aA (aA (bN (wan (aK (cE rfl rfl rfl ?_)))))); exact ⟨(F.then D), k, _, _, _, _, _, _, rfl, hw, .inr (by omega), (hr.evo0 D), hgr⟩
   refine aN (aC (csr (aA (aA (bL (vs := [_]) rfl BH rfl rfl rfl rfl fun b8 w9 W a1 E => ?_))))); have H := (F.then D).then E; have I := (hr.evo0 D).evo0 E; refine cM rfl rfl rfl rfl HA ((hp.evo0 D).evo0 E) (Src.ofOwn W ⟨rfl, trivial⟩) (by omega) fun pa2 pc2 a3 po2 U J hob25 => ?_; have L := hap.symm.app (Lt.own I) hob25; refine wan (csr (aA (aA (bL (vs := [_]) rfl dT rfl rfl rfl rfl fun a4 a5 Y a2 B => ?_)))); have M := (H.step J hgp.mem).then B; refine cM rfl rfl rfl rfl BX ((I.evo J hap.symm.own).evo0 B) (Src.ofOwn Y ⟨rfl, trivial⟩) (by omega) fun ra2 rc2 a6 ro2 a0 O hob49 => ?_; have Z := (U.evo0 B).evo O L.symm.own; refine wan (aF (aA (aA ?_))); have hnb := jF s (k + 1); have hof : aU s (k + 1) = aU s k + (cL s (aU s k)).2 := rfl; refine aB (aI rfl rfl (by omega) (by omega)) ?_; rw [show ((aU s k : Nat) : Int) + ((cL s (aU s k)).2 : Nat) = ((aU s (k + 1) : Nat) : Int) from by omega]; refine bN (aR (aQ (aY ?_))); refine ⟨⟨k + 1, pa2, pc2, po2, ra2, rc2, ro2⟩, ?_, ⟨rfl, rfl, rfl, trivial⟩, ⟨rfl, rfl, rfl, trivial⟩, (M.step O hgr.mem), ?_⟩
   · (try dsimp only); omega
   try dsimp only
   refine ⟨OE hw G, ?_, ?_, (hgp.app H hob25), (hgr.app M hob49), (L.symm.app (Lt.own (U.evo0 B)) hob49)⟩
   · rw [List.range_succ, List.map_append]; exact Z
   · rw [xI, show wS (jH s k ++ [(cL s (aU s k)).1]) = wS (jH s k) ++ [Value.int .i32 (cL s (aU s k)).1] from List.map_append]; exact a0
  refine cW (bS (bS (cV (aC ?_)))); refine csr (aA (aA (bN (wan (aK (cE rfl rfl rfl ?_)))))); exact ⟨F, k, _, _, _, _, _, _, rfl, hw, .inl (Nat.le_antisymm (jF s k) (by omega)), hr, hgr⟩
theorem HO {w : World} (s : ByteArray) (hs : s.size ≤ 1000000) : Calls Tryz.prog 38 #[.string s] w (Ret fun v w' => Evo [] w w' ∧ ∃ a n c e, v = .tuple #[.slice a n c, iv e] ∧ ((e = 4 ∧ ¬ ∃ N, Utf s N) ∨ (e = 0 ∧ Utf s n ∧ ∃ ro, OwnS w' 21 1 a n c (wS (jH s n)) ro ∧ Ge w ro))) := by
  refine bE (N := 15) Tryz.func38 rfl rfl rfl ?_; refine csr (bN (wan (aM (csr (aA (aG (vs := [_]) KG rfl (PV s hs) rfl ?_)))))); rintro _ w1 ⟨b, rfl, hb, E⟩; have D := (Evo.refl [] w).then E; refine aB (fV rfl) ?_; refine wnn (eO rfl (fun B => ?_) (fun B => ?_))
  ·refine csr (bN (wan (aK (aE (cE rfl rfl rfl ?_)))))
   exact ⟨D, none, 0, 0, 4, rfl, .inl ⟨rfl, fun h => by rw [hb.2 h] at B; cases B⟩⟩
  refine aN (aC (csr (aA (aG (vs := [_]) KA rfl (PW s hs) rfl ?_)))); rintro _ w4 ⟨F, K, pa, pn, pc, ra, rc, ro, rfl, hK, hKe, hO, hgO⟩; have hev := D; refine aA (aB (cC rfl rfl) ?_); refine aB (cC rfl rfl) ?_; refine bN (wan (csr (aA (bN (wan (aK (cE rfl rfl rfl ?_))))))); obtain ⟨N, hU⟩ := hb.1 (by simpa using B); have hKN := RN hK hKe hU; subst hKN; exact ⟨(D.then F), _, _, _, 0, rfl, .inr ⟨rfl, hU, ro, hO, Ge.fresh hev hgO⟩⟩
end Go.Proofs.YtljadkcojnlioaaGreatDoor
namespace Go.Proofs.YtljadkcojnlioaaGreatDoor
open Go.RowKit Go.W
instance (c : Int) : Decidable (wordI c) := by unfold wordI; infer_instance
end Go.Proofs.YtljadkcojnlioaaGreatDoor
namespace Go.Proofs.YtljadkcojnlioaaGreatDoor
open Go.RowKit Go.W
attribute [local irreducible] Decidable.decide
section
variable {P : Program} {σ : Env} {w : World} {dst : Option Nat} {T : TypeId} {pos : String} {after : Array Edge} {g : Option (Nat × Bool)}
end
def frm (rs : List Int) : List Nat := rs.flatMap eJ
theorem HZ {s : ByteArray} {a : Nat} (h : 0 < (cL s a).2) : s.extract a (a + (cL s a).2) = bstr (eJ (cL s a).1) ∧ (eJ (cL s a).1).length = (cL s a).2 ∧ IsR (cL s a).1 := by
  by_cases ha : a < s.size
  · rcases gW s a ha with ⟨w, h1, h2, h3, hh, hd, h4, h5, -⟩ | ⟨h1, hd⟩
    · have hn := (pM h1 h2 h3 hh).1
      rw [hn]
      exact ⟨(AL h3).1 hh, uY hh, hit_isR h1 hh⟩
    · unfold cL at h
      rw [if_neg (fun e => e.2 (by rw [hd]; exact ⟨rfl, rfl⟩))] at h
      cases h
  · rw [pL (by omega)] at h; cases h
theorem OL {s : ByteArray} {a b c : Nat} (h1 : a ≤ b) (h2 : b ≤ c) : s.extract a c = s.extract a b ++ s.extract b c := by
  rw [ByteArray.extract_append_extract]
  congr 1 <;> omega
end Go.Proofs.YtljadkcojnlioaaGreatDoor
namespace Go.Proofs.YtljadkcojnlioaaGreatDoor
open Go.RowKit Go.W
theorem toList_inj {a b : ByteArray} (h : a.toList = b.toList) : a = b := by
  rw [Go.ByteArray.toList_eq, Go.ByteArray.toList_eq] at h
  cases a; cases b
  simpa [Array.toList_inj] using h
section
variable {α : Type} [Inhabited α] (enc : α → Value)
end
abbrev nob : ByteArray := ByteArray.mk #[]
variable {s : ByteArray} {N : Nat} {R S : Nat → Nat → Prop} {t u : ByteArray} {ex fx : Bool}
end Go.Proofs.YtljadkcojnlioaaGreatDoor
namespace Go.Proofs.YtljadkcojnlioaaGreatDoor
open Go.RowKit Go.W
def VR (rs : List Int) : Prop := ∀ r, r ∈ rs → IsR r
abbrev txt (rs : List Int) : ByteArray := bstr (frm rs)
theorem frm_app (a b : List Int) : frm (a ++ b) = frm a ++ frm b := by unfold frm; rw [List.flatMap_append]
theorem WU (a b : List Nat) : bstr (a ++ b) = bstr a ++ bstr b := by
  apply ByteArray.ext
  simp [bstr]
theorem DJ (a b : List Int) : txt (a ++ b) = txt a ++ txt b := by unfold txt; rw [frm_app, WU]
theorem txt_nil : txt [] = nob := rfl
theorem QR {r : Int} (h : IsR r) : 1 ≤ (eJ r).length := by
  rw [eJ, if_pos h]; unfold iN; repeat' split
  all_goals simp
theorem QK {s : ByteArray} {a : Nat} {r : Int} (hr : IsR r) (hs : a + (eJ r).length ≤ s.size) (h : ∀ k (hk : k < (eJ r).length), sb s (a + k) = (eJ r)[k]) : cL s a = (r, (eJ r).length) := by
  have hb : jG s a (eJ r).length = eJ r := by
    apply List.ext_getElem
    · simp [jG]
    · intro k h1 h2
      simp only [jG, List.getElem_map, List.getElem_range]
      exact h k h2
  have hg : eI s a (eJ r).length = r := by
    obtain ⟨m, rfl⟩ := Int.eq_ofNat_of_zero_le hr.1
    have e : eJ (m : Int) = iN m := by rw [eJ, if_pos hr]; rfl
    rw [e] at h ⊢
    have hm : (m : Int) ≤ 1114111 := hr.2.1
    unfold iN at h ⊢
    by_cases c1 : m < 128
    · simp only [if_pos c1] at h ⊢
      have h0 := h 0 (by simp)
      simp at h0
      simp [eI, h0]
    by_cases c2 : m < 2048
    · simp only [if_neg c1, if_pos c2] at h ⊢
      have h0 := h 0 (by simp); have h1 := h 1 (by simp)
      simp at h0 h1
      simp [eI, h0, h1]; omega
    by_cases c3 : m < 65536
    · simp only [if_neg c1, if_neg c2, if_pos c3] at h ⊢
      have h0 := h 0 (by simp); have h1 := h 1 (by simp); have h2 := h 2 (by simp)
      simp at h0 h1 h2
      simp [eI, h0, h1, h2]; omega
    · simp only [if_neg c1, if_neg c2, if_neg c3] at h ⊢
      have h0 := h 0 (by simp); have h1 := h 1 (by simp); have h2 := h 2 (by simp); have h3 := h 3 (by simp)
      simp at h0 h1 h2 h3
      simp [eI, h0, h1, h2, h3]; omega
  have hh : Hit s a (eJ r).length := by unfold Hit; rw [hg, hb]
  have := (pM (QR hr) (tC r) hs hh).1
  rw [this, hg]
theorem SF {s : ByteArray} {N : Nat} (hU : Utf s N) : VR (jH s N) := fun r hr => by
  obtain ⟨k, hk, rfl⟩ := List.mem_map.1 hr
  exact (HZ (hU.2 k (List.mem_range.1 hk))).2.2
theorem isB.ne {s : ByteArray} {i a b : Nat} (h : isB s i a) (hab : a ≠ b) : ¬ isB s i b := fun h2 => hab (h.2.symm.trans h2.2)
theorem EO {s : ByteArray} {i : Nat} (hi : i < s.size) (h : sb s i < 128) : cL s i = (((sb s i : Nat) : Int), 1) := by
  have hr : IsR (sb s i : Nat) := ⟨by omega, by omega, by omega⟩
  have hf : eJ (sb s i : Nat) = [sb s i] := by
    unfold eJ
    rw [if_pos hr]
    unfold iN
    rw [if_pos (by omega)]
    simp
  have := QK (s := s) (a := i) hr (by rw [hf]; simp; omega) (fun k hk => by
    have hk0 : k = 0 := by rw [hf] at hk; simp at hk; exact hk
    subst hk0
    simp [hf])
  rw [this, hf]
  rfl
theorem AC {s : ByteArray} (h : ∀ k, k < s.size → sb s k < 128) : ∀ {k : Nat}, k ≤ s.size → aU s k = k
  | 0, _ => rfl
  | k + 1, hk => by
    have h1 := AC h (k := k) (by omega)
    show aU s k + (cL s (aU s k)).2 = k + 1
    rw [h1, EO (by omega) (h k (by omega))]
theorem MQ {s : ByteArray} (h : ∀ k, k < s.size → sb s k < 128) : Utf s s.size := by
  refine ⟨AC h (Nat.le_refl _), fun k hk => ?_⟩
  rw [AC h (by omega), EO hk (h k hk)]
  exact Nat.one_pos
theorem SE {s : ByteArray} {i : Nat} (h : i < s.size) : sb (s.extract i s.size) 0 = sb s i := by
  have := iU (s := s) (i := i) (k := 0) (by omega)
  simpa using this
theorem SY {s : ByteArray} {i : Nat} (h : i < s.size) (h1 : sb s i ≠ 42) (h2 : sb s i ≠ 43) (h3 : sb s i ≠ 63) (h4 : sb s i ≠ 123) : kY (s.extract i s.size) = (0, 0, 0) := by
  have e := SE h
  exact NA (by rw [e]; exact h1) (by rw [e]; exact h2) (by rw [e]; exact h3) (by rw [e]; exact h4)
def PE (c : Nat) : Prop := c < 128 ∧ c ≠ 36 ∧ c ≠ 40 ∧ c ≠ 41 ∧ c ≠ 42 ∧ c ≠ 43 ∧ c ≠ 46 ∧ c ≠ 63 ∧ c ≠ 91 ∧ c ≠ 92 ∧ c ≠ 94 ∧ c ≠ 123 ∧ c ≠ 124
instance (c : Nat) : Decidable (PE c) := by unfold PE; infer_instance
section
variable {s : ByteArray} {ex : PS → PX Rx} {f : Nat} {l g : List Rx} {ah : Bool} {st st2 : PS} {e : Int} {c : Nat}
theorem LD (h : isB s st.pos c) (hc : PE c) : fQ s ex st = .ok ([lP st.now c], jY st (st.pos + 1)) := by
  obtain ⟨h1, h2⟩ := h
  obtain ⟨c1, c2, c3, c4, c5, c6, c7, c8, c9, c10, c11, c12, c13⟩ := hc
  have hn := EO h1 (by omega)
  rw [h2] at hn
  rw [uL (by omega) (by omega) (by omega), TJ (by rw [hn]; show ¬ ((c : Nat) : Int) = 46; omega) (by rw [hn]; show ¬ ((c : Nat) : Int) = 94; omega) (by rw [hn]; show ¬ ((c : Nat) : Int) = 36; omega), hn]
theorem DG (h : isB s st.pos c) (hc : c ≠ 41 ∧ c ≠ 42 ∧ c ≠ 43 ∧ c ≠ 63 ∧ c ≠ 123 ∧ c ≠ 124) (hp : fQ s ex st = .ok (g, st2)) : iR s ex (f + 1) l ah st = iR s ex f (l ++ g) (decide (0 < g.length)) st2 := by
  obtain ⟨h1, h2⟩ := h
  exact BD (lo := 0) (hi := 0) (by omega) (SY h1 (by omega) (by omega) (by omega) (by omega)) hp
theorem MI (h : isB s st.pos c) (hc : c ≠ 41 ∧ c ≠ 42 ∧ c ≠ 43 ∧ c ≠ 63 ∧ c ≠ 123 ∧ c ≠ 124) (hp : fQ s ex st = .error e) : iR s ex (f + 1) l ah st = .error e := by
  obtain ⟨h1, h2⟩ := h
  exact FM (lo := 0) (hi := 0) (by omega) (SY h1 (by omega) (by omega) (by omega) (by omega)) hp
theorem XD (h : isB s st.pos c) (hc : PE c) : iR s ex (f + 1) l ah st = iR s ex f (l ++ [lP st.now c]) true (jY st (st.pos + 1)) := by
  have hc' := hc
  obtain ⟨c1, c2, c3, c4, c5, c6, c7, c8, c9, c10, c11, c12, c13⟩ := hc
  rw [DG h ⟨by omega, by omega, by omega, by omega, by omega, by omega⟩ (LD h hc')]
  rfl
theorem br_open (h : isB s st.pos 40) : fQ s ex st = mZ s ex st := HR h.2
theorem pExp_ex (s : ByteArray) : ∀ n, ∃ ex, ∀ st, oL s n st = nC s ex st
  | 0 => ⟨_, fun st => rfl⟩
  | n + 1 => ⟨oL s n, fun st => rfl⟩
theorem WF {x : Rx} (h : iR s ex (s.size + 1) [] false st = .ok (x, st2)) (h2 : ¬ isB s st2.pos 124) : nC s ex st = .ok (x, st2) := by
  rw [LZ (show tK s ex st = _ from h), vG h2]
  rfl
theorem WG (h : iR s ex (s.size + 1) [] false st = .error e) : nC s ex st = .error e := OM (show tK s ex st = _ from h)
end
end Go.Proofs.YtljadkcojnlioaaGreatDoor
namespace Go.Proofs.YtljadkcojnlioaaGreatDoor
open Go.RowKit Go.W
attribute [local irreducible] Decidable.decide
theorem xY : dW Tryz.prog 48 := ⟨_, Tryz.func48, by kernel_rfl, by kernel_rfl⟩
theorem mM : dW Tryz.prog 50 := ⟨_, Tryz.func50, by kernel_rfl, by kernel_rfl⟩
theorem JV : dW Tryz.prog 72 := ⟨_, Tryz.func72, by kernel_rfl, by kernel_rfl⟩
theorem JU : dW Tryz.prog 73 := ⟨_, Tryz.func73, by kernel_rfl, by kernel_rfl⟩
theorem qC : dW Tryz.prog 74 := ⟨_, Tryz.func74, by kernel_rfl, by kernel_rfl⟩
theorem JS : dW Tryz.prog 75 := ⟨_, Tryz.func75, by kernel_rfl, by kernel_rfl⟩
structure WcG where
  k : Nat
  o : Option Nat
structure WcI (w0 w wr : World) (b : Nat) (L : List Nat) (ob o : Option Nat) : Prop where
  bd : BdN wr b L o
  e0 : Evo [] w0 wr
  nb : o = ob ∨ ∃ g, o = some g ∧ w.heap.size ≤ g
  hu : Ge w0 o
theorem BL {w0 w : World} {b : Nat} {l : List Nat} {ob : Option Nat} {v : Value} {rs : List (Int × Int)} (hG : Gw w0) (a2 : Evo [] w0 w) (hub : w0.heap.size ≤ b) (huo : Ge w0 ob) (h : BdN w b l ob) (hr : RSl 2 RRg [] w0 v rs) (hrg : RgB rs) (hl : l.length + 26 * rs.length ≤ 80000000) :
    Calls Tryz.prog 73 #[.pointer (some ⟨b, 0, none⟩), v] w (Ret fun v w' => Wr w b (l ++ BP rs) ob w') := by
  obtain ⟨ka, kc, rfl, hkc, e1⟩ := hr; refine bE (N := 37) Tryz.func73 rfl rfl rfl ?_; refine aM (csr (aA (aB (bM rfl Tryz.underlying24 rfl) ?_))); refine wel ?_; refine wnn (aZ rfl (fun a8 => ?_) (fun a8 => ?_))
  ·refine csr (aA ?_)
   refine aG (vs := [_, _]) dI rfl (eV h (m := WR) (by decide +kernel) (dV (by decide +kernel)) (by first | omega | simp only [List.length_append, List.length_cons, List.length_nil]; omega) (by decide)) rfl ?_
   rintro _ w1 ⟨obw1, hBDw1, c1, hnb1⟩; have D := (Evo.refl (b :: ob.toList) w); have B := a2; have a3 := eF (Or.inl rfl) hnb1 D.size; have a9 := fG huo B.size hnb1; refine wnn (aK (aE (xA rfl ?_))); exact gT hBDw1 (by rw [BP, if_pos (List.length_eq_zero_iff.1 (by omega))]) ((Evo.refl (b :: ob.toList) w).step c1 (eG (Or.inl rfl))) a3
  refine aN (aC (csr (aA ?_)))
  refine aG (vs := [_, _]) dI rfl (eV h (m := [91]) (by decide +kernel) (dV (by decide +kernel)) (by first | omega | simp only [List.length_append, List.length_cons, List.length_nil]; omega) (by decide)) rfl ?_
  rintro _ w5 ⟨obw1, hBDw1, b4, hnb1⟩; have D := (Evo.refl (b :: ob.toList) w); have B := a2; have a3 := eF (Or.inl rfl) hnb1 D.size; have a9 := fG huo B.size hnb1; refine wnn (aM (csr (aA (aB (bM rfl Tryz.underlying24 rfl) ?_)))); refine aA (wnn (bK ?_)); refine dL (α := WcG) (⟨0, obw1⟩) (fun x => [(15, .int .i64 (x.k : Nat))]) [(0, _), (13, _), (14, _)] (fun x wr => Evo (b :: ob.toList) w wr ∧ (x.k ≤ rs.length ∧ WcI w0 w wr b (l ++ ([91] ++ (rs.take x.k).flatMap wJ)) ob x.o)) (fun x => rs.length - x.k) ⟨rfl, trivial⟩ ⟨rfl, rfl, rfl, trivial⟩ ⟨((Evo.refl (b :: ob.toList) w).step b4 (eG (Or.inl rfl))), ⟨Nat.zero_le _, by simpa using hBDw1, (a2.step b4 (iI hub huo)), a3, a9⟩⟩ ?_; rintro ⟨k, o1⟩ wr9 ⟨E, ⟨hk, hBDl, hE0l, hNl, hUl⟩⟩; show CW _ _ _ _ [(15, .int .i64 (k : Nat)), (0, _), (13, _), (14, _)] _
  try dsimp only at hk hBDl hE0l hNl hUl
  refine csr (aB (dA rfl rfl) ?_); refine wnn (aM (aZ rfl (fun b7 => ?_) (fun b7 => ?_)))
  ·have hk' : k < rs.length := by omega
   obtain ⟨b1, o1', vs1, ha1, hb1, hvl1, c3, hrk⟩ := e1 k hk'; obtain rfl := hrk; obtain ⟨hr0, hr1, hr2⟩ := hrg _ (List.getElem_mem hk'); have hfl := yL (l := rs.take k) (fun g hg => hrg g (List.mem_of_mem_take hg)); rw [List.length_take] at hfl; have hb26 := (FC hr0 (show rs[k].1 ≤ 1114111 by omega)).1; refine aN (aC (aM (bK (csr ?_))))
   refine aB (iE (n := k) (by rw [ha1]; rfl) rfl cK (by omega)) ?_
   refine aB (eB rfl gK eH (vs := [_, _]) rfl (c3.evo hE0l (by simp))) ?_; refine cO rfl nX fun b5 c4 b8 H I => ?_; have F := H; have b9 := hBDl.evo0 I
   have hAJ_b5 : Apart (some b5) (some b) := (Apart.new (fun g hg => by cases hg; exact hBDl.lt) F).symm
   have hAO_b5 : Apart (some b5) o1 := (Apart.new hBDl.ltO F).symm; refine aV rfl rfl eH b8 rfl rfl ⟨rfl, rfl, trivial⟩ fun c5 J L => ?_; have a4 := (E.then I).step L (Ge.new E H).mem1; have M := (hE0l.then I).step L (Ge.new hE0l H).mem1; refine wnn (csr (aA (wfl rfl dP rfl cD J rfl ?_)))
   refine aG (vs := [_, _]) wA rfl (xF hG M hub hUl (b9.evo L (hAJ_b5).symm.nmem1 (hAO_b5).symm.own1) (by simp only [List.length_append, List.length_cons, List.length_nil]; omega) hr0 (by omega)) rfl ?_
   rintro _ c6 ⟨obw2, hBDw2, O, hnb2⟩; have D := a4; have B := M; have G := eF hNl hnb2 D.size; have a1 := fG hUl B.size hnb2; have hAO2_b5 := gX hAO_b5 (Lt.blk J) hnb2; have U := a4.step O (eG hNl); have V := M.step O (iI hub hUl); have W := O.blk J (oE hAJ_b5 hAO_b5); refine wnn (csr (wfl rfl dF rfl cD W rfl (wfl rfl dP rfl cD W rfl (aB (eW rfl rfl) ?_)))); refine wnn (aZ rfl (fun Y => ?_) (fun Y => ?_))
   ·refine csr (aA ?_)
    refine aG (vs := [_, _]) dI rfl (eV hBDw2 (m := [45]) (by decide +kernel) (dV (by decide +kernel)) (by first | omega | simp only [List.length_append, List.length_cons, List.length_nil]; omega) (by decide)) rfl ?_
    rintro _ c7 ⟨obw3, hBDw3, Z, hnb3⟩; have D := U; have B := V; have b6 := eF G hnb3 D.size; have a5 := fG a1 B.size hnb3; have a6 := U.step Z (eG G); have a0 := V.step Z (iI hub a1); refine wnn (aF (aA (wfl rfl dF rfl cD (Z.blk W (oE hAJ_b5 hAO2_b5)) rfl ?_)))
    refine aG (vs := [_, _]) wA rfl (xF hG a0 hub a5 hBDw3 (by simp only [List.length_append, List.length_cons, List.length_nil]; omega) (by omega) hr2) rfl ?_
    rintro _ c8 ⟨obw4, hBDw4, a7, hnb4⟩; have D := a6; have B := a0; refine aR (aQ (aC (aF ?_))); refine aB (aI rfl rfl (by omega) (by omega)) ?_; refine aA (aR (aY ?_)); refine ⟨⟨k + 1, obw4⟩, ?_, ⟨rfl, trivial⟩, ⟨rfl, rfl, rfl, trivial⟩, (a6.step a7 (eG b6)), ?_⟩
    · (try dsimp only); omega
    try dsimp only
    refine ⟨by omega, ?_, (a0.step a7 (iI hub a5)), (eF b6 hnb4 D.size), (fG a5 B.size hnb4)⟩; have hfin := hBDw4
    rw [HL hk', wJ, if_pos Y]; simpa [List.append_assoc] using hfin
   refine aN (aQ (aC (aF ?_))); refine aB (aI rfl rfl (by omega) (by omega)) ?_; refine aA (aR (aY ?_)); refine ⟨⟨k + 1, obw2⟩, ?_, ⟨rfl, trivial⟩, ⟨rfl, rfl, rfl, trivial⟩, U, ?_⟩
   · (try dsimp only); omega
   try dsimp only
   refine ⟨by omega, ?_, V, G, a1⟩; have hfin := hBDw2
   rw [HL hk', wJ, if_neg Y]; simpa [List.append_assoc] using hfin
  have hfl := yL (l := rs.take k) (fun g hg => hrg g (List.mem_of_mem_take hg)); rw [List.length_take] at hfl; refine cW (bS (bS (cV (aC ?_)))); refine aF (aA ?_)
  refine aG (vs := [_, _]) dI rfl (eV hBDl (m := [93]) (by decide +kernel) (dV (by decide +kernel)) (by first | omega | simp only [List.length_append, List.length_cons, List.length_nil]; omega) (by decide)) rfl ?_
  rintro _ c9 ⟨obw2, hBDw2, c0, hnb2⟩; have D := E; have B := hE0l; have G := eF hNl hnb2 D.size; have a1 := fG hUl B.size hnb2; refine aR (dD rfl ?_)
  exact gT hBDw2 (by rw [BP, if_neg (fun h9 => a8 (by rw [h9]; rfl))]; obtain rfl : k = rs.length := (by omega); rw [List.take_length]; simp) (E.step c0 (eG hNl)) G
theorem brW_len (p : Prop) [Decidable p] (l : List Nat) : (brW p l).length ≤ l.length + 4 := by unfold brW; split <;> simp
theorem XA (k : Int) (f : Bool) : (BA k f).length ≤ 1 := by unfold BA; split <;> simp
theorem HG {lo hi : Int} (h0 : 0 ≤ lo) (h1 : lo ≤ 1000) (h2 : hi = -1 ∨ (lo ≤ hi ∧ hi ≤ 1000)) : (wF lo hi).length ≤ 12 := by
  have h3 := yY lo.toNat (by omega)
  unfold wF
  split
  · simp
  · split
    · simp
    · split
      · simp
      · split
        · simp; omega
        · have h4 := yY hi.toNat (by omega)
          split
          · simp; omega
          · simp; omega
mutual
theorem MP : ∀ (x : Rx), Good x → x.w.length + 5 ≤ x.ms
  | .mk k r rs mn mx lz cp nm ks, hg => by
    have hn := (pD _).1 hg.node
    have h1 := nR ks k true (fun y hy => hg.kid y hy)
    rw [Rx.w, Rx.ms, List.length_append, List.length_append]
    have h2 : (ED k r rs nm).length ≤ 20 + nm.size + 26 * rs.length := by
      unfold ED
      split
      · have := (NW (hn.lit1 (by assumption)) (hn.lit2 (by assumption))).1
        simp only [Rx.r] at this; omega
      · split
        · have := yL (RangesOk.b (hn.cls (by assumption)))
          simp only [Rx.ranges] at this
          unfold BP
          split
          · show 19 ≤ _; omega
          · rw [List.length_append, List.length_append]; simp only [List.length_cons, List.length_nil]; omega
        · split
          · split
            · simp; omega
            · simp [NT]; omega
          · split
            · simp; omega
            · split
              · simp; omega
              · split
                · simp; omega
                · split
                  · simp; omega
                  · split
                    · simp; omega
                    · split
                      · simp; omega
                      · simp
    have h3 : (DK k mn mx lz).length ≤ 13 := by
      unfold DK
      split
      · have := HG (hn.rep1 (by assumption)) (hn.rep2 (by assumption)) (hn.rep3 (by assumption))
        simp only [Rx.min, Rx.max] at this
        rw [List.length_append]
        split <;> simp <;> omega
      · split <;> simp
    omega
theorem nR : ∀ (l : List Rx) (k : Int) (f : Bool), (∀ x, x ∈ l → Good x) → (gO k f l).length ≤ kms l
  | [], k, f, _ => by rw [gO, kms]; simp
  | x :: xs, k, f, h => by
    rw [gO, kms, List.length_append, List.length_append]
    have h1 := MP x (h x (List.mem_cons_self ..))
    have h2 := nR xs k false (fun y hy => h y (List.mem_cons_of_mem _ hy))
    have h3 := brW_len (Brk x.kind k) x.w
    have h4 := XA k f
    omega
end
theorem qZ {t : Rx} (hg : Good t) (h : ¬ (t.kind = 4 ∨ t.kind = 5 ∨ t.kind = 6 ∨ t.kind = 7)) : t.w = ED t.kind t.r t.ranges t.name := by
  rw [Rx.w_eq, hg.node.leaf h, gO, DK, if_neg (by omega), if_neg (by omega)]; simp
theorem RJ {t : Rx} (h : t.kind = 4 ∨ t.kind = 5) : t.w = gO t.kind true t.kids := by
  rw [Rx.w_eq, DK, if_neg (by omega), if_neg (by omega)]
  rcases h with h | h <;> rw [h] <;> simp [ED]
theorem w_rep {t : Rx} (h : t.kind = 6) : t.w = gO t.kind true t.kids ++ wF t.min t.max ++ (if t.lazy = true then [63] else []) := by
  rw [Rx.w_eq, DK, if_pos h, h]; simp [ED]
theorem w_grp {t : Rx} (h : t.kind = 7) : t.w = [40] ++ (if t.name = ByteArray.mk #[] then [] else [63, 80, 60] ++ nmL t.name ++ [62]) ++ gO t.kind true t.kids ++ [41] := by
  rw [Rx.w_eq, h, DK, if_neg (by decide), if_pos rfl]; rfl
def WOK (n : Nat) : Prop := ∀ {w0 w : World} {b : Nat} {l : List Nat} {ob : Option Nat} {vs : List Value} {t : Rx} (hG : Gw w0) (B : Evo [] w0 w) (hub : w0.heap.size ≤ b) (huo : Ge w0 ob) (h : BdN w b l ob) (hx : RRx n [] w0 vs t) (hg : Good t) (hl : l.length + t.ms ≤ 70000000),
    Calls Tryz.prog 50 #[.pointer (some ⟨b, 0, none⟩), .agg vs.toArray] w (Ret fun v w' => Wr w b (l ++ t.w) ob w')
theorem nK {n : Nat} (ih : WOK n) {w0 w : World} {b : Nat} {l : List Nat} {ob : Option Nat} {vs : List Value} {t : Rx} {k : Int} (hG : Gw w0) (a5 : Evo [] w0 w) (hub : w0.heap.size ≤ b) (huo : Ge w0 ob) (h : BdN w b l ob) (hx : RRx n [] w0 vs t) (hg : Good t) (hl : l.length + t.ms + 3 ≤ 70000000) :
    Calls Tryz.prog 74 #[.pointer (some ⟨b, 0, none⟩), .agg vs.toArray, .int .i64 k] w (Ret fun v w' => Wr w b (l ++ brW (Brk t.kind k) t.w) ob w') := by
  have hx0 := hx; obtain ⟨m, ra, rc, ka, kc, hm, rfl, hrg, hk, bl1, bl2, bl3⟩ := hx.get; have hwl := MP t hg; refine bE (N := 21) Tryz.func74 rfl rfl rfl ?_; refine csr (iM rfl rfl fun b4 w1 a0 a6 U => ?_); have I := a6; have a1 := h.evo0 U
  have hAJ_b4 : Apart (some b4) (some b) := (Apart.new (fun g hg => by cases hg; exact h.lt) I).symm
  have hAO_b4 : Apart (some b4) ob := (Apart.new h.ltO I).symm; refine wnn (aM (csr (wfl rfl eR rfl bD a0 rfl (aA (aG (vs := [_, _]) xU rfl (vF t.kind k) rfl ?_))))); rintro _ a7 ⟨rfl, B⟩; have F := ((Evo.refl (b :: ob.toList) w).then U).then B; have G := (a5.then U).then B; have H := B.blk0 a0; refine aB (fV rfl) ?_; refine wnn (eO rfl (fun J => ?_) (fun J => ?_))
  ·refine csr (aA (aB (bX rfl bF aJ H rfl) ?_)); refine aG (vs := [_, _]) mM rfl (ih hG G hub huo (a1.evo0 B) hx0 hg (by omega)) rfl ?_; rintro _ a8 ⟨obw1, hBDw1, a3, hnb1⟩; have D := F; have E := G; have O := eF (Or.inl rfl) hnb1 D.size; have V := fG huo E.size hnb1; have hAO1_b4 := gX hAO_b4 (Lt.blk H) hnb1; refine wnn (aK (aE (xA rfl ?_))); exact gT hBDw1 (by rw [brW, if_neg (by simpa using J)]) (F.step a3 (eG (Or.inl rfl))) O
  refine aN (aC (csr (aA ?_)))
  refine aG (vs := [_, _]) dI rfl (eV (a1.evo0 B) (m := [40, 63, 58]) (by decide +kernel) (dV (by decide +kernel)) (by first | omega | simp only [List.length_append, List.length_cons, List.length_nil]; omega) (by decide)) rfl ?_
  rintro _ a9 ⟨obw1, hBDw1, L, hnb1⟩; have D := F; have E := G; have O := eF (Or.inl rfl) hnb1 D.size; have V := fG huo E.size hnb1; have hAO1_b4 := gX hAO_b4 (Lt.blk H) hnb1; have W := F.step L (eG (Or.inl rfl)); have M := G.step L (iI hub huo); refine wnn (csr (aA (aB (bX rfl bF aJ (L.blk H (oE hAJ_b4 hAO_b4)) rfl) ?_)))
  refine aG (vs := [_, _]) mM rfl (ih hG M hub V hBDw1 hx0 hg (by simp only [List.length_append, List.length_cons, List.length_nil]; omega)) rfl ?_
  rintro _ b5 ⟨obw2, hBDw2, Y, hnb2⟩; have D := W; have E := M; have a2 := eF O hnb2 D.size; have Z := W.step Y (eG O); refine wnn (aF (aA ?_))
  refine aG (vs := [_, _]) dI rfl (eV hBDw2 (m := [41]) (by decide +kernel) (dV (by decide +kernel)) (by first | omega | simp only [List.length_append, List.length_cons, List.length_nil]; omega) (by decide)) rfl ?_
  rintro _ b6 ⟨obw3, hBDw3, a4, hnb3⟩; have D := Z; have E := (M.step Y (iI hub V)); refine aR (dD rfl ?_)
  exact gT hBDw3 (by rw [brW, if_pos (by simpa using J)]; simp) (Z.step a4 (eG a2)) (eF a2 hnb3 D.size)
structure WkI (w0 w wr : World) (b b3 : Nat) (C : Array Value) (L : List Nat) (ob o : Option Nat) : Prop where
  bd : BdN wr b L o
  e0 : Evo [] w0 wr
  nb : o = ob ∨ ∃ g, o = some g ∧ w.heap.size ≤ g
  hu : Ge w0 o
  h3 : wr.heap[b3]? = some (.cells C 27 (0, 0))
  ao : Apart (some b3) o
set_option maxHeartbeats 8000000 in
theorem KO {n : Nat} (ih : WOK n) {w0 w : World} {b : Nat} {l : List Nat} {ob : Option Nat} {vs : List Value} {t : Rx} (hG : Gw w0) (j7 : Evo [] w0 w) (hub : w0.heap.size ≤ b) (huo : Ge w0 ob) (h : BdN w b l ob) (hx : RRx (n + 1) [] w0 vs t) (hg : Good t) (hl : l.length + t.ms ≤ 70000000) :
    Calls Tryz.prog 50 #[.pointer (some ⟨b, 0, none⟩), .agg vs.toArray] w (Ret fun v w' => Wr w b (l ++ t.w) ob w') := by
  have hx0 := hx; obtain ⟨m, ra, rc, ka, kc, hm, rfl, hrg, hk, bl1, bl2, bl3⟩ := hx.get
  obtain rfl : m = n := by omega
  have hwl := MP t hg; have hn := (pD t).1 hg.node; have hms := Rx.ms_eq t; have hk' := hk; obtain ⟨_, _, hke, hkc, e1⟩ := hk'; cases hke; refine bE (N := 122) Tryz.func50 rfl rfl rfl ?_; refine csr (iM rfl rfl fun b3 w1 H j8 f8 => ?_); have d4 := j8; have G := (Evo.refl (b :: ob.toList) w).then f8; have I := j7.then f8; have J := h.evo0 f8
  have hAJ_b3 : Apart (some b3) (some b) := (Apart.new (fun g hg => by cases hg; exact h.lt) d4).symm
  have hAO_b3 : Apart (some b3) ob := (Apart.new h.ltO d4).symm; refine wnn (csr (wfl rfl eR rfl bD H rfl (wnn (bK (csr (wel ?_)))))); refine wan (aZ rfl (fun g6 => ?_) (fun g6 => ?_))
  ·refine aF (aA ?_)
   refine aG (vs := [_, _]) dI rfl (eV J (m := [92, 65]) (by decide +kernel) (dV (by decide +kernel)) (by first | omega | simp only [List.length_append, List.length_cons, List.length_nil]; omega) (by decide)) rfl ?_
   rintro _ l0 ⟨obw1, hBDw1, g7, hnb1⟩; have D := G; have B := I; have E := eF (Or.inl rfl) hnb1 D.size; have F := fG huo B.size hnb1; have hAO1_b3 := gX hAO_b3 (Lt.blk H) hnb1; refine aR (aQ (dD rfl ?_))
   exact gT hBDw1 (by rw [qZ hg (by omega), show t.kind = 8 by omega]; rfl) (G.step g7 (eG (Or.inl rfl))) E
  refine csr (wel ?_); refine wan (aZ rfl (fun g8 => ?_) (fun g8 => ?_))
  ·refine aF (aA ?_)
   refine aG (vs := [_, _]) dI rfl (eV J (m := [92, 122]) (by decide +kernel) (dV (by decide +kernel)) (by first | omega | simp only [List.length_append, List.length_cons, List.length_nil]; omega) (by decide)) rfl ?_
   rintro _ l1 ⟨obw1, hBDw1, g9, hnb1⟩; have D := G; have B := I; have E := eF (Or.inl rfl) hnb1 D.size; have F := fG huo B.size hnb1; have hAO1_b3 := gX hAO_b3 (Lt.blk H) hnb1; refine aR (aQ (dD rfl ?_))
   exact gT hBDw1 (by rw [qZ hg (by omega), show t.kind = 9 by omega]; rfl) (G.step g9 (eG (Or.inl rfl))) E
  refine csr (wel ?_); refine wan (aZ rfl (fun h0 => ?_) (fun h0 => ?_))
  ·refine aF (aA ?_)
   refine aG (vs := [_, _]) dI rfl (eV J (m := [94]) (by decide +kernel) (dV (by decide +kernel)) (by first | omega | simp only [List.length_append, List.length_cons, List.length_nil]; omega) (by decide)) rfl ?_
   rintro _ l2 ⟨obw1, hBDw1, h3, hnb1⟩; have D := G; have B := I; have E := eF (Or.inl rfl) hnb1 D.size; have F := fG huo B.size hnb1; have hAO1_b3 := gX hAO_b3 (Lt.blk H) hnb1; refine aR (aQ (dD rfl ?_))
   exact gT hBDw1 (by rw [qZ hg (by omega), show t.kind = 10 by omega]; rfl) (G.step h3 (eG (Or.inl rfl))) E
  refine csr (wel ?_); refine wan (aZ rfl (fun h4 => ?_) (fun h4 => ?_))
  ·refine aF (aA ?_)
   refine aG (vs := [_, _]) dI rfl (eV J (m := [36]) (by decide +kernel) (dV (by decide +kernel)) (by first | omega | simp only [List.length_append, List.length_cons, List.length_nil]; omega) (by decide)) rfl ?_
   rintro _ l3 ⟨obw1, hBDw1, h5, hnb1⟩; have D := G; have B := I; have E := eF (Or.inl rfl) hnb1 D.size; have F := fG huo B.size hnb1; have hAO1_b3 := gX hAO_b3 (Lt.blk H) hnb1; refine aR (aQ (dD rfl ?_))
   exact gT hBDw1 (by rw [qZ hg (by omega), show t.kind = 11 by omega]; rfl) (G.step h5 (eG (Or.inl rfl))) E
  refine csr (wel ?_); refine wan (aZ rfl (fun h6 => ?_) (fun h6 => ?_))
  ·refine aF (aA ?_)
   refine aG (vs := [_, _]) dI rfl (eV J (m := [92, 98]) (by decide +kernel) (dV (by decide +kernel)) (by first | omega | simp only [List.length_append, List.length_cons, List.length_nil]; omega) (by decide)) rfl ?_
   rintro _ l4 ⟨obw1, hBDw1, i0, hnb1⟩; have D := G; have B := I; have E := eF (Or.inl rfl) hnb1 D.size; have F := fG huo B.size hnb1; have hAO1_b3 := gX hAO_b3 (Lt.blk H) hnb1; refine aR (aQ (dD rfl ?_))
   exact gT hBDw1 (by rw [qZ hg (by omega), show t.kind = 12 by omega]; rfl) (G.step i0 (eG (Or.inl rfl))) E
  refine csr (wel ?_); refine wan (aZ rfl (fun i1 => ?_) (fun i1 => ?_))
  ·refine aF (aA ?_)
   refine aG (vs := [_, _]) dI rfl (eV J (m := [92, 66]) (by decide +kernel) (dV (by decide +kernel)) (by first | omega | simp only [List.length_append, List.length_cons, List.length_nil]; omega) (by decide)) rfl ?_
   rintro _ l5 ⟨obw1, hBDw1, i2, hnb1⟩; have D := G; have B := I; have E := eF (Or.inl rfl) hnb1 D.size; have F := fG huo B.size hnb1; have hAO1_b3 := gX hAO_b3 (Lt.blk H) hnb1; refine aR (aQ (dD rfl ?_))
   exact gT hBDw1 (by rw [qZ hg (by omega), show t.kind = 13 by omega]; rfl) (G.step i2 (eG (Or.inl rfl))) E
  refine csr (wel ?_); refine wan (aZ rfl (fun i3 => ?_) (fun i3 => ?_))
  ·refine aF (aA (wfl rfl jP rfl cD H rfl ?_)); refine aG (vs := [_, _]) JV rfl (HD hG I hub huo J (by omega) (hn.lit1 (by omega)) (hn.lit2 (by omega))) rfl ?_; rintro _ l6 ⟨obw1, hBDw1, i4, hnb1⟩; have D := G; have B := I; have E := eF (Or.inl rfl) hnb1 D.size; have F := fG huo B.size hnb1; have hAO1_b3 := gX hAO_b3 (Lt.blk H) hnb1; refine aR (aQ (dD rfl ?_))
   exact gT hBDw1 (by rw [qZ hg (by omega), show t.kind = 2 by omega]; rfl) (G.step i4 (eG (Or.inl rfl))) E
  refine csr (wel ?_); refine wan (aZ rfl (fun i5 => ?_) (fun i5 => ?_))
  ·refine aF (aA (wfl rfl gY rfl jV H rfl ?_)); refine aG (vs := [_, _]) JU rfl (BL hG I hub huo J hrg (RangesOk.b (hn.cls (by omega))) (by omega)) rfl ?_; rintro _ l7 ⟨obw1, hBDw1, i6, hnb1⟩; have D := G; have B := I; have E := eF (Or.inl rfl) hnb1 D.size; have F := fG huo B.size hnb1; have hAO1_b3 := gX hAO_b3 (Lt.blk H) hnb1; refine aR (aQ (dD rfl ?_))
   exact gT hBDw1 (by rw [qZ hg (by omega), show t.kind = 3 by omega]; rfl) (G.step i6 (eG (Or.inl rfl))) E
  refine csr (wel ?_); refine wan (aZ rfl (fun i7 => ?_) (fun i7 => ?_))
  ·refine csr (wfl rfl eD rfl fB H rfl (aB (bM rfl Tryz.underlying25 rfl) ?_)); refine aA (wnn (bK ?_)); refine dL (α := WcG) (⟨0, ob⟩) (fun x => [(51, .int .i64 (x.k : Nat))]) [(0, _), (3, _), (49, _), (50, _)] (fun x wr => Evo (b :: ob.toList) w wr ∧ (x.k ≤ t.kids.length ∧ WkI w0 w wr b b3 _ (l ++ gO t.kind true (t.kids.take x.k)) ob x.o)) (fun x => t.kids.length - x.k) ⟨rfl, trivial⟩ ⟨rfl, rfl, rfl, rfl, trivial⟩ ⟨G, ⟨Nat.zero_le _, by simpa [gO] using J, I, Or.inl rfl, huo, H, hAO_b3⟩⟩ ?_; rintro ⟨k, o1⟩ wr50 ⟨d7, ⟨hkj, hBDl, hE0l, hNl, hUl, hB3l, hA3l⟩⟩; show CW _ _ _ _ [(51, .int .i64 (k : Nat)), (0, _), (3, _), (49, _), (50, _)] _
   try dsimp only at hkj hBDl hE0l hNl hUl hB3l hA3l
   refine csr (aB (dA rfl rfl) ?_); refine wnn (aM (aZ rfl (fun i8 => ?_) (fun i8 => ?_)))
   ·have hj' : k < t.kids.length := by omega
    obtain ⟨b1, o1', vs1, ha1, hb1, hvl1, Y, hrk⟩ := e1 k hj'; obtain ⟨m1, ra1, rc1, ka1, kc1, rfl, rfl, -⟩ := id hrk.get; have hkt := uV hj'; have hkl := VC (l := t.kids) (k + 1); have hwl := nR (t.kids.take k) t.kind true (fun k hk => hg.kid k (List.mem_of_mem_take hk)); refine aN (aC (aM (bK (csr (aA ?_)))))
    refine aB (iE (n := k) (by rw [ha1]; rfl) rfl dO (by omega)) ?_
    refine aB (eB rfl bF aJ (vs := [_, _, _, _, _, _, _, _, _]) rfl (Y.evo hE0l (by simp))) ?_; refine cO rfl dC fun b5 l8 i9 b4 b6 => ?_; have d5 := b4; have j0 := hBDl.evo0 b6
    have hAJ_b5 : Apart (some b5) (some b) := (Apart.new (fun g hg => by cases hg; exact hBDl.lt) d5).symm
    have hAO_b5 : Apart (some b5) o1 := (Apart.new hBDl.ltO d5).symm; refine bN (aV rfl rfl aJ i9 rfl rfl ⟨rfl, rfl, rfl, rfl, rfl, rfl, rfl, rfl, rfl, trivial⟩ fun l9 a6 b8 => ?_); have b9 := (d7.then b6).step b8 (Ge.new d7 b4).mem1; have a7 := (hE0l.then b6).step b8 (Ge.new hE0l b4).mem1; have f9 := j0.evo b8 (hAJ_b5).symm.nmem1 (hAO_b5).symm.own1; have a8 := b8.blk (b6.blk0 hB3l) (Apart.new (Lt.blk hB3l) b4).nmem1
    try simp only [cH, Nat.reduceAdd] at a6
    refine wnn (aM (csr (aA (aB (eW rfl rfl) ?_)))); refine wnn (aZ rfl (fun j1 => ?_) (fun j1 => ?_))
    ·refine aF (aA ?_)
     refine aG (vs := [_, _]) dI rfl (eV f9 (m := [124]) (by decide +kernel) (dV (by decide +kernel)) (by first | omega | simp only [List.length_append, List.length_cons, List.length_nil]; omega) (by decide)) rfl ?_
     rintro _ m0 ⟨obw1, hBDw1, c0, hnb1⟩; have D := b9; have B := a7; have E := eF hNl hnb1 D.size; have F := fG hUl B.size hnb1; have hAO1_b3 := gX hA3l (Lt.blk a8) hnb1; have hAO1_b5 := gX hAO_b5 (Lt.blk a6) hnb1; have g0 := b9.step c0 (eG hNl); have d8 := a7.step c0 (iI hub hUl); have d9 := c0.blk a8 (oE hAJ_b3 hA3l); refine wnn (aF (aA (aB (bX rfl bF aJ (c0.blk a6 (oE hAJ_b5 hAO_b5)) rfl) (wfl rfl eR rfl bD d9 rfl ?_))))
     refine aG (vs := [_, _, _]) qC rfl (nK (k := t.kind) ih hG d8 hub F hBDw1 hrk (hg.kid _ (List.getElem_mem hj')) (by simp only [List.length_append, List.length_cons, List.length_nil]; omega)) rfl ?_
     rintro _ m2 ⟨obw2, hBDw2, e0, hnb2⟩; have D := g0; have B := d8; have M := eF E hnb2 D.size; have V := fG F B.size hnb2; have hAO2_b3 := gX hAO1_b3 (Lt.blk d9) hnb2; refine aR (aQ (aC (aF ?_))); refine aB (aI rfl rfl (by omega) (by omega)) ?_; refine aA (aR (aY ?_)); refine ⟨⟨k + 1, obw2⟩, ?_, ⟨rfl, trivial⟩, ⟨rfl, rfl, rfl, rfl, trivial⟩, (g0.step e0 (eG E)), ?_⟩
     · (try dsimp only); omega
     try dsimp only
     refine ⟨by omega, ?_, (d8.step e0 (iI hub F)), M, V, (e0.blk d9 (oE hAJ_b3 hAO1_b3)), hAO2_b3⟩; have hfin := hBDw2
     rw [pN hj', BA, if_pos ⟨by omega, decide_eq_false (by omega)⟩]; simpa [List.append_assoc] using hfin
    refine aN (aC (aF (aA (aB (bX rfl bF aJ a6 rfl) (wfl rfl eR rfl bD a8 rfl ?_)))))
    refine aG (vs := [_, _, _]) qC rfl (nK (k := t.kind) ih hG a7 hub hUl f9 hrk (hg.kid _ (List.getElem_mem hj')) (by simp only [List.length_append, List.length_cons, List.length_nil]; omega)) rfl ?_
    rintro _ m3 ⟨obw1, hBDw1, e2, hnb1⟩; have D := b9; have B := a7; have E := eF hNl hnb1 D.size; have F := fG hUl B.size hnb1; have hAO1_b3 := gX hA3l (Lt.blk a8) hnb1; have hAO1_b5 := gX hAO_b5 (Lt.blk a6) hnb1; refine aR (aQ (aC (aF ?_))); refine aB (aI rfl rfl (by omega) (by omega)) ?_; refine aA (aR (aY ?_)); refine ⟨⟨k + 1, obw1⟩, ?_, ⟨rfl, trivial⟩, ⟨rfl, rfl, rfl, rfl, trivial⟩, (b9.step e2 (eG hNl)), ?_⟩
    · (try dsimp only); omega
    try dsimp only
    refine ⟨by omega, ?_, (a7.step e2 (iI hub hUl)), E, F, (e2.blk a8 (oE hAJ_b3 hA3l)), hAO1_b3⟩; have hfin := hBDw1
    rw [pN hj', BA, if_neg (fun h9 => by have h8 := of_decide_eq_false h9.2; omega)]; simpa [List.append_assoc] using hfin
   refine cW (bS (bS (cV (aQ (dD rfl ?_))))); exact gT hBDl (by rw [RJ (t := t) (by omega), List.take_of_length_le (by omega)]) d7 hNl
  refine csr (wel ?_); refine wan (aZ rfl (fun j2 => ?_) (fun j2 => ?_))
  ·refine csr (wfl rfl eD rfl fB H rfl (aB (bM rfl Tryz.underlying25 rfl) ?_)); refine aA (wnn (bK ?_)); refine dL (α := WcG) (⟨0, ob⟩) (fun x => [(71, .int .i64 (x.k : Nat))]) [(0, _), (3, _), (69, _), (70, _)] (fun x wr => Evo (b :: ob.toList) w wr ∧ (x.k ≤ t.kids.length ∧ WkI w0 w wr b b3 _ (l ++ gO t.kind true (t.kids.take x.k)) ob x.o)) (fun x => t.kids.length - x.k) ⟨rfl, trivial⟩ ⟨rfl, rfl, rfl, rfl, trivial⟩ ⟨G, ⟨Nat.zero_le _, by simpa [gO] using J, I, Or.inl rfl, huo, H, hAO_b3⟩⟩ ?_; rintro ⟨k, o1⟩ wr88 ⟨e3, ⟨hkj, hBDl, hE0l, hNl, hUl, hB3l, hA3l⟩⟩; show CW _ _ _ _ [(71, .int .i64 (k : Nat)), (0, _), (3, _), (69, _), (70, _)] _
   try dsimp only at hkj hBDl hE0l hNl hUl hB3l hA3l
   refine csr (aB (dA rfl rfl) ?_); refine wnn (aM (aZ rfl (fun j3 => ?_) (fun j3 => ?_)))
   ·have hj' : k < t.kids.length := by omega
    obtain ⟨b1, o1', vs1, ha1, hb1, hvl1, Y, hrk⟩ := e1 k hj'; obtain ⟨m1, ra1, rc1, ka1, kc1, rfl, rfl, -⟩ := id hrk.get; have hkt := uV hj'; have hkl := VC (l := t.kids) (k + 1); have hwl := nR (t.kids.take k) t.kind true (fun k hk => hg.kid k (List.mem_of_mem_take hk)); refine aN (aC (aM (bK (csr ?_))))
    refine aB (iE (n := k) (by rw [ha1]; rfl) rfl dO (by omega)) ?_
    refine aB (eB rfl bF aJ (vs := [_, _, _, _, _, _, _, _, _]) rfl (Y.evo hE0l (by simp))) ?_; refine cO rfl dC fun b7 m4 j4 c1 c3 => ?_; have d6 := c1; have j5 := hBDl.evo0 c3
    have hAJ_b7 : Apart (some b7) (some b) := (Apart.new (fun g hg => by cases hg; exact hBDl.lt) d6).symm
    have hAO_b7 : Apart (some b7) o1 := (Apart.new hBDl.ltO d6).symm; refine aV rfl rfl aJ j4 rfl rfl ⟨rfl, rfl, rfl, rfl, rfl, rfl, rfl, rfl, rfl, trivial⟩ fun j9 e5 Z => ?_; have e6 := (e3.then c3).step Z (Ge.new e3 c1).mem1; have c4 := (hE0l.then c3).step Z (Ge.new hE0l c1).mem1; have c5 := Z.blk (c3.blk0 hB3l) (Apart.new (Lt.blk hB3l) c1).nmem1
    try simp only [cH, Nat.reduceAdd] at e5
    refine wnn (aF (aA (aB (bX rfl bF aJ e5 rfl) (wfl rfl eR rfl bD c5 rfl ?_))))
    refine aG (vs := [_, _, _]) qC rfl (nK (k := t.kind) ih hG c4 hub hUl (j5.evo Z (hAJ_b7).symm.nmem1 (hAO_b7).symm.own1) hrk (hg.kid _ (List.getElem_mem hj')) (by simp only [List.length_append, List.length_cons, List.length_nil]; omega)) rfl ?_
    rintro _ k0 ⟨obw1, hBDw1, c6, hnb1⟩; have D := e6; have B := c4; have E := eF hNl hnb1 D.size; have F := fG hUl B.size hnb1; have hAO1_b3 := gX hA3l (Lt.blk c5) hnb1; refine aR (aQ (aC (aF ?_))); refine aB (aI rfl rfl (by omega) (by omega)) ?_; refine aA (aR (aY ?_)); refine ⟨⟨k + 1, obw1⟩, ?_, ⟨rfl, trivial⟩, ⟨rfl, rfl, rfl, rfl, trivial⟩, (e6.step c6 (eG hNl)), ?_⟩
    · (try dsimp only); omega
    try dsimp only
    refine ⟨by omega, ?_, (c4.step c6 (iI hub hUl)), E, F, (c6.blk c5 (oE hAJ_b3 hA3l)), hAO1_b3⟩; have hfin := hBDw1
    rw [pN hj', BA, if_neg (fun h9 => by omega)]; simpa [List.append_assoc] using hfin
   refine cW (bS (bS (cV (aQ (dD rfl ?_))))); exact gT hBDl (by rw [RJ (t := t) (by omega), List.take_of_length_le (by omega)]) e3 hNl
  refine csr (wel ?_); refine wan (aZ rfl (fun j6 => ?_) (fun j6 => ?_))
  ·have hl1 : t.kids.length = 1 := by have h1 := hn.rep4; have h2 := hn.grp; omega
   have hj' : 0 < t.kids.length := by omega
   obtain ⟨b1, o1', vs1, ha1, hb1, hvl1, Y, hrk⟩ := e1 0 hj'; obtain ⟨m1, ra1, rc1, ka1, kc1, rfl, rfl, -⟩ := id hrk.get
   have hkw : gO t.kind true t.kids = brW (Brk t.kids[0].kind t.kind) t.kids[0].w := by have h1 := pN (k := t.kind) (l := t.kids) hj'; rw [List.take_of_length_le (by omega), List.take_zero, gO, List.nil_append] at h1; rw [h1]; simp [BA]
   have hms1 : kms t.kids = t.kids[0].ms := by have h1 := uV hj'; rw [List.take_of_length_le (by omega), List.take_zero, kms, Nat.zero_add] at h1; exact h1
   refine aM ?_; refine fR (fun w0 w' => Evo (b :: ob.toList) w0 w') (by kernel_rfl) (fun O W => ?_); have a0 := I.then W; have a1 := W.blk0 H; refine aet 0 rfl (fun _ hS => bC rfl) (Evo.refl (b :: ob.toList) O) ?_; refine aet 1 rfl (fun _ hS => aD rfl eD) (Evo.refl (b :: ob.toList) O) ?_; refine aet 2 rfl (fun _ hS => aX rfl fB (bI (hS.blk a1 (oE hAJ_b3 hAO_b3)) rfl)) (Evo.refl (b :: ob.toList) O) ?_
   refine aet 3 rfl (fun _ hS => gH (n := 0) (by rw [ha1]; rfl) rfl rfl dO (by omega)) (Evo.refl (b :: ob.toList) O) ?_
   refine aet 4 rfl (fun _ hS => eB rfl bF aJ (vs := [_, _, _, _, _, _, _, _, _]) rfl (Y.evo (a0.step hS (iI hub huo)) (by simp))) (Evo.refl (b :: ob.toList) O) ?_; refine aet 5 rfl (fun _ hS => aD rfl eR) (Evo.refl (b :: ob.toList) O) ?_; refine aet 6 rfl (fun _ hS => aX rfl bD (bI (hS.blk a1 (oE hAJ_b3 hAO_b3)) rfl)) (Evo.refl (b :: ob.toList) O) ?_; refine cA [7] (by kernel_rfl) rfl ⟨?_, trivial⟩; refine cG rfl ?_; refine aG (vs := [_, _, _]) qC rfl (nK (k := t.kind) ih hG a0 hub huo (J.evo0 W) hrk (hg.kid _ (List.getElem_mem hj')) (by omega)) rfl ?_; rintro _ k1 ⟨obw1, hBDw1, a2, hnb1⟩; have D := (G.then W); have B := a0; have E := eF (Or.inl rfl) hnb1 D.size; have F := fG huo B.size hnb1; have hAO1_b3 := gX hAO_b3 (Lt.blk a1) hnb1; have e7 := (G.then W).step a2 (eG (Or.inl rfl)); have c7 := a0.step a2 (iI hub huo); have a3 := a2.blk a1 (oE hAJ_b3 hAO_b3); refine aR (bV (.inl ((Evo.refl (b :: ob.toList) O).step a2 (fun y hy => .inl hy))) ?_); refine dB (by kernel_rfl) (aC ?_); refine csr (aA (wfl rfl iG rfl bD a3 rfl (wfl rfl iF rfl bD a3 rfl ?_)))
   refine aG (vs := [_, _, _]) JS rfl (BK hG c7 hub F hBDw1 (by rw [← hkw]; have h8 := nR t.kids t.kind true (fun k hk => hg.kid k hk); simp only [List.length_append]; omega) (hn.rep1 (by omega)) (hn.rep2 (by omega)) (hn.rep3 (by omega))) rfl ?_
   rintro _ k2 ⟨obw2, hBDw2, c8, hnb2⟩; have D := e7; have B := c7; have M := eF E hnb2 D.size; have V := fG F B.size hnb2; have hAO2_b3 := gX hAO1_b3 (Lt.blk a3) hnb2; have c9 := e7.step c8 (eG E); have e8 := c8.blk a3 (oE hAJ_b3 hAO1_b3); refine wnn (csr (wfl rfl kQ rfl fI e8 rfl (wnn (eO rfl (fun e4 => ?_) (fun e4 => ?_)))))
   ·refine aF (aA ?_)
    refine aG (vs := [_, _]) dI rfl (eV hBDw2 (m := [63]) (by decide +kernel) (dV (by decide +kernel)) (by rw [← hkw]; have h8 := nR t.kids t.kind true (fun k hk => hg.kid k hk); have h7 := HG (hn.rep1 (by omega)) (hn.rep2 (by omega)) (hn.rep3 (by omega)); simp only [List.length_append]; omega) (by decide)) rfl ?_
    rintro _ k3 ⟨obw3, hBDw3, g1, hnb3⟩; have D := c9; have B := (c7.step c8 (iI hub F)); have a9 := eF M hnb3 D.size; have g5 := fG V B.size hnb3; have hAO3_b3 := gX hAO2_b3 (Lt.blk e8) hnb3; refine aR (aQ (dD rfl ?_))
    exact gT hBDw3 (by rw [w_rep (t := t) (by omega), hkw, if_pos e4]; simp) (c9.step g1 (eG M)) a9
   refine aN (aQ (dD rfl ?_))
   exact gT hBDw2 (by rw [w_rep (t := t) (by omega), hkw, if_neg (by rw [e4]; simp)]; simp) c9 M
  refine csr (wel ?_); refine wan (aZ rfl (fun g2 => ?_) (fun g2 => ?_))
  ·have hl1 : t.kids.length = 1 := by have h1 := hn.rep4; have h2 := hn.grp; omega
   have hj' : 0 < t.kids.length := by omega
   obtain ⟨b1, o1', vs1, ha1, hb1, hvl1, Y, hrk⟩ := e1 0 hj'; obtain ⟨m1, ra1, rc1, ka1, kc1, rfl, rfl, -⟩ := id hrk.get
   have hkw : gO t.kind true t.kids = brW (Brk t.kids[0].kind t.kind) t.kids[0].w := by have h1 := pN (k := t.kind) (l := t.kids) hj'; rw [List.take_of_length_le (by omega), List.take_zero, gO, List.nil_append] at h1; rw [h1]; simp [BA]
   have hms1 : kms t.kids = t.kids[0].ms := by have h1 := uV hj'; rw [List.take_of_length_le (by omega), List.take_zero, kms, Nat.zero_add] at h1; exact h1
   have hkw7 := hkw
   rw [brW, if_neg (show ¬ Brk t.kids[0].kind t.kind by unfold Brk; omega)] at hkw7
   have hnl := NT t.name; refine csr (aA ?_)
   refine aG (vs := [_, _]) dI rfl (eV J (m := [40]) (by decide +kernel) (dV (by decide +kernel)) (by first | omega | simp only [List.length_append, List.length_cons, List.length_nil]; omega) (by decide)) rfl ?_
   rintro _ k4 ⟨obw1, hBDw1, d0, hnb1⟩; have D := G; have B := I; have E := eF (Or.inl rfl) hnb1 D.size; have F := fG huo B.size hnb1; have hAO1_b3 := gX hAO_b3 (Lt.blk H) hnb1; have a4 := G.step d0 (eG (Or.inl rfl)); have U := I.step d0 (iI hub huo); have L := d0.blk H (oE hAJ_b3 hAO_b3); refine wnn (aM (csr (wfl rfl kP rfl dG L rfl (aB (vC rfl rfl) ?_)))); refine wnn (aZ rfl (fun d1 => ?_) (fun d1 => ?_))
   ·refine aF (aA (wfl rfl kP rfl dG L rfl ?_))
    refine aB (lC rfl rfl (by show 3 + _ ≤ _; omega)) ?_
    refine aB (lC rfl rfl (by rw [ByteArray.size_append]; show 3 + _ + 1 ≤ _; omega)) ?_
    refine aG (vs := [_, _]) dI rfl (eV hBDw1 (m := [63, 80, 60] ++ nmL t.name ++ [62]) (by rw [← bap, ← bap, UQ]; rfl) (((dV (by decide +kernel)).app (RQ _)).app (dV (by decide +kernel))) (by simp only [List.length_append, List.length_cons, List.length_nil]; omega) (by simp only [List.length_append, List.length_cons, List.length_nil]; omega)) rfl ?_
    rintro _ k5 ⟨obw2, hBDw2, d2, hnb2⟩; have D := a4; have B := U; have M := eF E hnb2 D.size; have V := fG F B.size hnb2; have hAO2_b3 := gX hAO1_b3 (Lt.blk L) hnb2; have e9 := a4.step d2 (eG E); have a5 := U.step d2 (iI hub F); have f0 := d2.blk L (oE hAJ_b3 hAO1_b3); refine wnn (csr (aA (wfl rfl eD rfl fB f0 rfl ?_)))
    refine aB (gH (n := 0) (by rw [ha1]; rfl) rfl rfl dO (by omega)) ?_
    refine aB (eB rfl bF aJ (vs := [_, _, _, _, _, _, _, _, _]) rfl (Y.evo a5 (by simp))) ?_
    refine aG (vs := [_, _]) mM rfl (ih hG a5 hub V hBDw2 hrk (hg.kid _ (List.getElem_mem hj')) (by simp only [List.length_append, List.length_cons, List.length_nil]; omega)) rfl ?_
    rintro _ k6 ⟨obw3, hBDw3, f5, hnb3⟩; have D := e9; have B := a5; have a9 := eF M hnb3 D.size; have g5 := fG V B.size hnb3; have hAO3_b3 := gX hAO2_b3 (Lt.blk f0) hnb3; have f6 := e9.step f5 (eG M); refine wnn (aF (aA ?_))
    refine aG (vs := [_, _]) dI rfl (eV hBDw3 (m := [41]) (by decide +kernel) (dV (by decide +kernel)) (by have h8 := nR t.kids t.kind true (fun k hk => hg.kid k hk); rw [hkw7] at h8; simp only [List.length_append, List.length_cons, List.length_nil]; omega) (by decide)) rfl ?_
    rintro _ k7 ⟨obw4, hBDw4, g3, hnb4⟩; have D := f6; have B := (a5.step f5 (iI hub V)); refine aR (aQ (dD rfl ?_))
    exact gT hBDw4 (by rw [w_grp (t := t) (by omega), hkw7, if_neg (fun h9 => d1 h9)]; simp) (f6.step g3 (eG a9)) (eF a9 hnb4 D.size)
   refine aN (aC (csr (aA (wfl rfl eD rfl fB L rfl ?_))))
   refine aB (gH (n := 0) (by rw [ha1]; rfl) rfl rfl dO (by omega)) ?_
   refine aB (eB rfl bF aJ (vs := [_, _, _, _, _, _, _, _, _]) rfl (Y.evo U (by simp))) ?_
   refine aG (vs := [_, _]) mM rfl (ih hG U hub F hBDw1 hrk (hg.kid _ (List.getElem_mem hj')) (by simp only [List.length_append, List.length_cons, List.length_nil]; omega)) rfl ?_
   rintro _ k8 ⟨obw2, hBDw2, d3, hnb2⟩; have D := a4; have B := U; have M := eF E hnb2 D.size; have V := fG F B.size hnb2; have hAO2_b3 := gX hAO1_b3 (Lt.blk L) hnb2; have f7 := a4.step d3 (eG E); refine wnn (aF (aA ?_))
   refine aG (vs := [_, _]) dI rfl (eV hBDw2 (m := [41]) (by decide +kernel) (dV (by decide +kernel)) (by have h8 := nR t.kids t.kind true (fun k hk => hg.kid k hk); rw [hkw7] at h8; simp only [List.length_append, List.length_cons, List.length_nil]; omega) (by decide)) rfl ?_
   rintro _ k9 ⟨obw3, hBDw3, g4, hnb3⟩; have D := f7; have B := (U.step d3 (iI hub F)); have a9 := eF M hnb3 D.size; have g5 := fG V B.size hnb3; have hAO3_b3 := gX hAO2_b3 (Lt.blk (d3.blk L (oE hAJ_b3 hAO1_b3))) hnb3; refine aR (aQ (dD rfl ?_))
   exact gT hBDw3 (by rw [w_grp (t := t) (by omega), hkw7, if_pos (Classical.not_not.1 d1)]; simp) (f7.step g4 (eG M)) a9
  refine aN (aQ (dD rfl ?_))
  exact gT J (by rw [qZ hg (by omega), show t.kind = 1 by have := hn.kind1; have := hn.kind2; omega]; simp [ED]) G (Or.inl rfl)
theorem CB (n : Nat) : WOK n := by
  induction n with
  | zero => unfold WOK; intro w0 w b l ob vs t _ _ _ _ _ hx; exact hx.elim
  | succ n ih => unfold WOK; intro w0 w b l ob vs t hG hE0 hub huo h hx hg hl; exact KO ih hG hE0 hub huo h hx hg hl
end Go.Proofs.YtljadkcojnlioaaGreatDoor
namespace Go.Proofs.YtljadkcojnlioaaGreatDoor
open Go.RowKit Go.W
mutual
def Rx.ln : Rx → Bool
  | .mk k r rs mn mx lz cp nm ks => decide (k = 10 ∨ k = 11) || lns ks
def lns : List Rx → Bool
  | [] => false
  | x :: xs => x.ln || lns xs
end
theorem Rx.ln_eq (x : Rx) : x.ln = (decide (x.kind = 10 ∨ x.kind = 11) || lns x.kids) := by cases x; rw [Rx.ln]; rfl
theorem UZ {l : List Rx} {j : Nat} (hj : j < l.length) : lns (l.take (j + 1)) = (lns (l.take j) || l[j].ln) := by
  induction l generalizing j with
  | nil => cases hj
  | cons x l ih => cases j with
    | zero => simp [lns]
    | succ j => simp only [List.take_succ_cons, lns, List.getElem_cons_succ, ih (by simpa using hj), Bool.or_assoc]
theorem lns_yes {l : List Rx} {j : Nat} (hj : j < l.length) (h : l[j].ln = true) : lns l = true := by
  induction l generalizing j with
  | nil => cases hj
  | cons x l ih => cases j with
    | zero => rw [lns]; simp at h; simp [h]
    | succ j => rw [lns, ih (by simpa using hj) (by simpa using h)]; simp
def wE (t : Rx) : List Nat := (if t.ln = true then [40, 63, 109, 41] else []) ++ t.w
def ShowIs (t : Rx) (s : List Nat) (e : Int) : Prop := (¬ t.Ok ∧ s = [] ∧ e = 2) ∨ (t.Ok ∧ ((4096 < (wE t).length ∧ s = [] ∧ e = 1) ∨ ((wE t).length ≤ 4096 ∧ s = wE t ∧ e = 0)))
theorem ShowIs.uniq {t : Rx} {s s' : List Nat} {e e' : Int} (h : ShowIs t s e) (k : ShowIs t s' e') : s = s' ∧ e = e' := by
  rcases h with ⟨h1, rfl, rfl⟩ | ⟨h1, ⟨h2, rfl, rfl⟩ | ⟨h2, rfl, rfl⟩⟩ <;> rcases k with ⟨k1, rfl, rfl⟩ | ⟨k1, ⟨k2, rfl, rfl⟩ | ⟨k2, rfl, rfl⟩⟩ <;> first | exact ⟨rfl, rfl⟩ | exact absurd k1 h1 | exact absurd h1 k1 | omega
theorem CN : ∀ {l : List Rx}, (∀ x, x ∈ l → Lo x.w) → ∀ (k : Int) (f : Bool), Lo (gO k f l)
  | [], _, k, f => by rw [gO]; intro b hb; cases hb
  | x :: xs, h, k, f => by
    rw [gO]
    refine (Lo.app ?_ ?_).app (CN (fun y hy => h y (List.mem_cons_of_mem _ hy)) k false)
    · unfold BA; split
      · exact dV (by decide +kernel)
      · intro b hb; cases hb
    · unfold brW; split
      · exact ((dV (by decide +kernel)).app (h x (List.mem_cons_self ..))).app (dV (by decide +kernel))
      · exact h x (List.mem_cons_self ..)
theorem timW_lo (lo hi : Int) : Lo (wF lo hi) := by
  have h1 := yZ lo.toNat
  have h2 := yZ hi.toNat
  unfold wF
  split
  · exact dV (by decide +kernel)
  · split
    · exact dV (by decide +kernel)
    · split
      · exact dV (by decide +kernel)
      · split
        · exact ((dV (by decide +kernel)).app h1).app (dV (by decide +kernel))
        · split
          · exact ((dV (by decide +kernel)).app h1).app (dV (by decide +kernel))
          · exact ((((dV (by decide +kernel)).app h1).app (dV (by decide +kernel))).app h2).app (dV (by decide +kernel))
theorem SQ : ∀ {l : List (Int × Int)}, RgB l → Lo (l.flatMap wJ)
  | [], _ => by intro b hb; cases hb
  | g :: l, h => by
    obtain ⟨h1, h2, h3⟩ := h g (List.mem_cons_self ..)
    rw [List.flatMap_cons]
    exact (MZ h1 h2 h3).2.app (SQ fun g hg => h g (List.mem_cons_of_mem _ hg))
theorem clsW_lo {l : List (Int × Int)} (h : RgB l) : Lo (BP l) := by
  unfold BP
  split
  · exact dV (by decide +kernel)
  · exact ((dV (by decide +kernel)).app (SQ h)).app (dV (by decide +kernel))
theorem QP {x : Rx} (hg : Good x) : Lo x.w := by
  induction hg with
  | @mk x h1 h2 h3 ih =>
    have hn := (pD _).1 h1
    rw [Rx.w_eq]
    refine (Lo.app ?_ (CN ih _ _)).app ?_
    · unfold ED
      split
      · exact (NW (hn.lit1 (by assumption)) (hn.lit2 (by assumption))).2
      · split
        · exact clsW_lo (RangesOk.b (hn.cls (by assumption)))
        · split
          · refine Lo.app (dV (by decide +kernel)) ?_
            split
            · intro b hb; cases hb
            · exact ((dV (by decide +kernel)).app (RQ _)).app (dV (by decide +kernel))
          · split
            · exact dV (by decide +kernel)
            · split
              · exact dV (by decide +kernel)
              · split
                · exact dV (by decide +kernel)
                · split
                  · exact dV (by decide +kernel)
                  · split
                    · exact dV (by decide +kernel)
                    · split
                      · exact dV (by decide +kernel)
                      · intro b hb; cases hb
    · unfold DK
      split
      · refine (timW_lo _ _).app ?_
        split
        · exact dV (by decide +kernel)
        · intro b hb; cases hb
      · split
        · exact dV (by decide +kernel)
        · intro b hb; cases hb
theorem MS {t : Rx} (hg : Good t) : Lo (wE t) := by
  unfold wE
  refine Lo.app ?_ (QP hg)
  split
  · exact dV (by decide +kernel)
  · intro b hb; cases hb
end Go.Proofs.YtljadkcojnlioaaGreatDoor
namespace Go.Proofs.YtljadkcojnlioaaGreatDoor
open Go.RowKit Go.W
attribute [local irreducible] Decidable.decide
theorem sW : dW Tryz.prog 24 := ⟨_, Tryz.func24, by kernel_rfl, by kernel_rfl⟩
theorem sT : dW Tryz.prog 43 := ⟨_, Tryz.func43, by kernel_rfl, by kernel_rfl⟩
theorem xX : dW Tryz.prog 51 := ⟨_, Tryz.func51, by kernel_rfl, by kernel_rfl⟩
theorem xQ : pF Tryz.prog 80 = some #[.pointer none, .slice none 0 0] := by kernel_rfl
theorem LR {n : Nat} (ih : ∀ {w : World} {vs : List Value} {t : Rx} (hx : RRx n [] w vs t), Calls Tryz.prog 48 #[.agg vs.toArray] w (Ret fun v w' => v = .bool t.ln ∧ Evo [] w w')) {w : World} {vs : List Value} {t : Rx} (hx : RRx (n + 1) [] w vs t) :
    Calls Tryz.prog 48 #[.agg vs.toArray] w (Ret fun v w' => v = .bool t.ln ∧ Evo [] w w') := by
  have hx0 := hx; obtain ⟨m, ra, rc, ka, kc, hm, rfl, hrg, hk, bl1, bl2, bl3⟩ := hx.get
  obtain rfl : m = n := by omega
  obtain ⟨_, _, hke, hkc, e1⟩ := hk; cases hke; refine bE (N := 23) Tryz.func48 rfl rfl rfl ?_; refine csr (iM rfl rfl fun b1x w1 F Z a0 => ?_); have Y := Z; have G := (Evo.refl [] w).then a0; refine wan (aM (csr (wfl rfl eR rfl bD F rfl (wel ?_)))); refine aA (bH (t := 8) rfl (fun a1 => ?_) (fun a1 => ?_))
  ·refine aP (aP (aP (bW (wnn (cZ rfl ?_))))); refine csr (wan (aK (aE (br1 ?_))))
   exact ⟨by rw [Rx.ln_eq, decide_eq_true (by omega)]; rfl, G⟩
  refine aW (aB (aD rfl eR) (aW (aB (aX rfl bD (bI F rfl)) (aW (wel ?_))))); refine bR (wnn (aZ rfl (fun U => ?_) (fun U => ?_)))
  ·refine csr (wan (aK (aE (br1 ?_))))
   exact ⟨by rw [Rx.ln_eq, decide_eq_true (by omega)]; rfl, G⟩
  refine aN (aC (aM (csr (wfl rfl eD rfl fB F rfl (aB (bM rfl Tryz.underlying25 rfl) ?_))))); refine aA (wnn (bK (dL (α := Nat) (0) (fun k => [(16, .int .i64 (k : Nat))]) [(14, _), (15, _)] (fun k wr => Evo [] w1 wr ∧ (k ≤ t.kids.length ∧ lns (t.kids.take k) = false)) (fun k => t.kids.length - k) ⟨rfl, trivial⟩ ⟨rfl, rfl, trivial⟩ ⟨Evo.refl _ _, ⟨Nat.zero_le _, rfl⟩⟩ ?_))); rintro k wr7 ⟨H, ⟨hk0, hln⟩⟩; show CW _ _ _ _ [(16, _), (14, _), (15, _)] _; have E := G.then H; refine csr (aB (dA rfl rfl) ?_); refine wnn (aM (aZ rfl (fun V => ?_) (fun V => ?_)))
  ·have hj' : k < t.kids.length := by omega
   obtain ⟨b1, o1', vs1, ha1, hb1, hvl1, a2, hrk⟩ := e1 k hj'; obtain ⟨m1, ra1, rc1, ka1, kc1, rfl, rfl, -⟩ := id hrk.get; refine aN (aC (aM (bK (csr ?_))))
   refine aB (iE (n := k) (by rw [ha1]; rfl) rfl dO (by omega)) ?_
   refine aB (eB rfl bF aJ (vs := [_, _, _, _, _, _, _, _, _]) rfl (a2.evo E hb1)) ?_; refine cO rfl dC fun b4 a4 W B I => ?_; have a3 := B; refine aV rfl rfl aJ W rfl rfl ⟨rfl, rfl, rfl, rfl, rfl, rfl, rfl, rfl, rfl, trivial⟩ fun a5 J L => ?_; have M := (E.then I).step L (Ge.new E B).mem1
   try simp only [cH, Nat.reduceAdd] at J
   refine wnn (csr (aB (bX rfl bF aJ J rfl) (aG (vs := [_]) xY rfl (ih (RRx.pers _ _ _ _ _ _ M hrk)) rfl ?_))); rintro _ a6 ⟨rfl, O⟩; refine wnn (eO rfl (fun D => ?_) (fun D => ?_))
   ·refine csr (wan (aK (aO (aE (aE (aO (aE (br1 ?_)))))))); exact ⟨by rw [Rx.ln_eq, lns_yes hj' D, Bool.or_true], (M.then O)⟩
   refine aN (aQ (aC (aF ?_))); refine aB (aI rfl rfl (by omega) (by omega)) ?_; refine aA (aR (aY ?_)); refine ⟨k + 1, ?_, ⟨rfl, trivial⟩, ⟨rfl, rfl, trivial⟩, (((H.then I).step L (Ge.new H B).mem1).then O), ?_⟩
   · omega
   exact ⟨by omega, by rw [UZ hj', hln, D]; rfl⟩
  refine cW (bS (bS (cV (aC ?_)))); refine csr (wan (aK (br1 ?_))); rw [List.take_of_length_le (by omega)] at hln
  exact ⟨by rw [Rx.ln_eq, hln, decide_eq_false (by omega)]; rfl, E⟩
theorem ID : ∀ {n : Nat} {w : World} {vs : List Value} {t : Rx} (hx : RRx n [] w vs t), Calls Tryz.prog 48 #[.agg vs.toArray] w (Ret fun v w' => v = .bool t.ln ∧ Evo [] w w')
  | 0, w, vs, t, hx => hx.elim
  | n + 1, w, vs, t, hx => LR (n := n) (fun hx => ID hx) hx
theorem Show_ok {n : Nat} {w : World} {vs : List Value} {t : Rx} (hG : Gw w) (hx : RRx n [] w vs t) (hms : t.ms ≤ 60000000) :
    Calls Tryz.prog 19 #[.agg vs.toArray] w (Ret fun v w' => ∃ s e, ShowIs t s e ∧ v = .tuple #[.string (bstr s), iv e] ∧ Evo [] w w') := by
  have hx0 := hx; obtain ⟨m, ra, rc, ka, kc, hm, rfl, hrg, hk, bl1, bl2, bl3⟩ := hx.get; refine bE (N := 16) Tryz.func19 rfl rfl rfl ?_; refine csr (iM rfl rfl fun b1x w1 W c3 c4 => ?_); have c1 := c3; have b5 := (Evo.refl [] w).then c4; refine bN (wan (aM (csr (aB (bX rfl bF aJ W rfl) (aG (vs := [_]) sW rfl (zE (RRx.pers _ _ _ _ _ _ b5 hx0)) rfl ?_))))); rintro _ w7 ⟨r, rfl, hvr, Y⟩; have V := b5.then Y; refine aB (fV rfl) ?_; refine wnn (eO rfl (fun Z => ?_) (fun Z => ?_))
  ·refine csr (bN (wan (aK (aE (cE rfl rfl rfl ?_))))); exact ⟨[], 2, .inl ⟨fun h => (by simp [hvr.2 h] at Z), rfl, rfl⟩, rfl, V⟩
  refine aN (aC (csr ?_)); have hVs := V; have hok : t.Ok := hvr.1 (by simpa using Z); have hgd := hok.good; have hwl := MP t hgd; have hxa := RRx.pers _ _ _ _ _ _ hVs hx0; have hGa := hG.evo0 hVs; refine cO rfl xQ fun bb c5 b6 a0 G => ?_; have a1 := a0; have a2 := G.blk0 (Y.blk0 W); have hub := Nat.le_of_eq a1; refine wnn (aM (csr (aB (bX rfl bF aJ a2 rfl) (aG (vs := [_]) xY rfl (ID (RRx.pers _ _ _ _ _ _ (V.then G) hx0)) rfl ?_)))); rintro _ c6 ⟨rfl, H⟩; have I := (V.then G).then H; have D := ((Evo.refl [] w7).then G).then H; have J := H.blk0 a2; have a3 := (BdN.new b6).evo0 H; refine wnn (eO rfl (fun a4 => ?_) (fun a4 => ?_))
  ·refine aF ?_; refine aG (vs := [_, _]) dI rfl (eV a3 (m := [40, 63, 109, 41]) (by decide +kernel) (dV (by decide +kernel)) (Nat.zero_le _) (by decide)) rfl ?_; rintro _ c7 ⟨obw1, hBDw1, M, hnb1⟩; have E := D; have a5 := I; have F := fG (Ge.nil _) E.size hnb1; have b7 := gX (Apart.nil _) (Lt.blk J) hnb1; have a6 := I.step M (fun y hy => (iI hub (Ge.nil _) y hy).imp id (fun h9 => Nat.le_trans hVs.size h9)); have O := D.step M (iI hub (Ge.nil _)); refine wnn (aM ?_)
   have hln9 : ([] ++ [40, 63, 109, 41] ++ t.w : List Nat) = wE t := by rw [wE, if_pos a4]; rfl
   refine aF (aB (bX rfl bF aJ (M.blk J (oE (Apart.new (Lt.blk (Y.blk0 W)) a0) (Apart.nil _))) rfl) ?_)
   refine aG (vs := [_, _]) mM rfl (CB _ hGa O hub F hBDw1 hxa hgd (by first | (show 0 + t.ms ≤ _; omega) | (show ([40, 63, 109, 41] : List Nat).length + t.ms ≤ _; simp; omega))) rfl ?_
   rintro _ c8 ⟨obw2, hBDw2, a7, hnb2⟩; have E := O; have a5 := a6; refine wnn (aM (csr (aG (vs := [_]) xX rfl (OZ hBDw2) rfl ?_))); rintro _ c9 ⟨rfl, U⟩; have a8 := (a6.step a7 (fun y hy => (iI hub F y hy).imp id (fun h9 => Nat.le_trans hVs.size h9))).then U; refine aB (eW rfl rfl) ?_; refine wnn (aZ rfl (fun B => ?_) (fun B => ?_))
   ·refine csr (bN (wan (aK (aE (cE rfl rfl rfl ?_))))); refine ⟨[], 1, .inr ⟨hok, .inl ⟨?_, rfl, rfl⟩⟩, rfl, a8⟩
    rw [hln9] at B; omega
   refine aN (aC (csr ?_))
   refine aG (vs := [_]) sT rfl (uD (hBDw2.evo0 U) (by rw [hln9]; exact MS hgd) (fun g hg => by have h9 := (fG F E.size hnb2) g hg; omega)) rfl ?_
   rintro _ d0 ⟨rfl, b8⟩; have hle9 := ((O.step a7 (iI hub F)).then U).size; refine bN (wan (aK (cE rfl rfl rfl ?_))); refine ⟨wE t, 0, .inr ⟨hok, .inr ⟨?_, rfl, rfl⟩⟩, (by rw [hln9]), (a8.step b8 (fun y hy => .inr (Nat.le_trans hVs.size (Nat.le_trans hub (EP.1 hy).2))))⟩
   rw [hln9] at B; omega
  refine aN (aC (aM ?_))
  have hln9 : ([] ++ t.w : List Nat) = wE t := by rw [wE, if_neg (by rw [a4]; simp)]
  refine aF (aB (bX rfl bF aJ J rfl) ?_)
  refine aG (vs := [_, _]) mM rfl (CB _ hGa D hub (Ge.nil _) a3 hxa hgd (by first | (show 0 + t.ms ≤ _; omega) | (show ([40, 63, 109, 41] : List Nat).length + t.ms ≤ _; simp; omega))) rfl ?_
  rintro _ d1 ⟨obw1, hBDw1, a9, hnb1⟩; have E := D; have a5 := I; have F := fG (Ge.nil _) E.size hnb1; have b7 := gX (Apart.nil _) (Lt.blk J) hnb1; have b4 := I.step a9 (fun y hy => (iI hub (Ge.nil _) y hy).imp id (fun h9 => Nat.le_trans hVs.size h9)); have b9 := D.step a9 (iI hub (Ge.nil _)); refine wnn (aM (csr (aG (vs := [_]) xX rfl (OZ hBDw1) rfl ?_))); rintro _ d2 ⟨rfl, L⟩; refine aB (eW rfl rfl) ?_; refine wnn (aZ rfl (fun B => ?_) (fun B => ?_))
  ·refine csr (bN (wan (aK (aE (cE rfl rfl rfl ?_))))); refine ⟨[], 1, .inr ⟨hok, .inl ⟨?_, rfl, rfl⟩⟩, rfl, (b4.then L)⟩
   rw [hln9] at B; omega
  refine aN (aC (csr ?_))
  refine aG (vs := [_]) sT rfl (uD (hBDw1.evo0 L) (by rw [hln9]; exact MS hgd) (fun g hg => by have h9 := F g hg; omega)) rfl ?_
  rintro _ d3 ⟨rfl, c0⟩; have hle9 := (b9.then L).size; refine bN (wan (aK (cE rfl rfl rfl ?_))); refine ⟨wE t, 0, .inr ⟨hok, .inr ⟨?_, rfl, rfl⟩⟩, (by rw [hln9]), ((b4.then L).step c0 (fun y hy => .inr (Nat.le_trans hVs.size (Nat.le_trans hub (EP.1 hy).2))))⟩
  rw [hln9] at B; omega
theorem vZ : dW Tryz.prog 103 := ⟨_, Tryz.func103, by kernel_rfl, by kernel_rfl⟩
theorem sU : dW Tryz.prog 42 := ⟨_, Tryz.func42, by kernel_rfl, by kernel_rfl⟩
def qc (c : Nat) : List Nat := if c ∈ PN then [92, c] else [c]
def qK (s : ByteArray) : Nat → List Nat
  | 0 => []
  | k + 1 => qK s k ++ qc (sb s k)
theorem EB (s : ByteArray) : ∀ k, (qK s k).length ≤ 2 * k
  | 0 => by simp [qK]
  | k + 1 => by have := EB s k; rw [qK, List.length_append]; unfold qc; split <;> simp <;> omega
theorem qK_lo (s : ByteArray) : ∀ k, Lo (qK s k)
  | 0 => fun b hb => by cases hb
  | k + 1 => by
    have h1 := iC s k
    rw [qK]
    refine (qK_lo s k).app ?_
    unfold qc
    split
    · intro b hb; simp at hb; omega
    · intro b hb; simp at hb; omega
theorem PK : ∀ m, m < 256 → (0 ≤ Lib.indexByte (ByteArray.mk #[92, 46, 43, 42, 63, 40, 41, 124, 91, 93, 123, 125, 94, 36]).data.toList (UInt8.ofNat m) ↔ m ∈ PN) := by decide +kernel
theorem PM {w : World} (m : Nat) (hm : m < 256) : Calls Tryz.prog 41 #[.string (ByteArray.mk #[92, 46, 43, 42, 63, 40, 41, 124, 91, 93, 123, 125, 94, 36]), .int .u8 (m : Nat)] w (Ret fun v w' => ∃ z, v = .int .i64 z ∧ (0 ≤ z ↔ m ∈ PN) ∧ Evo [] w w') := by
  refine (kN _ _ w).mono ?_
  rintro e w' ⟨rfl, rfl⟩
  refine ⟨_, rfl, _, rfl, ?_, Evo.refl _ _⟩
  rw [← PK m hm]
  simp
structure QgG where
  k : Nat
  o : Option Nat
theorem XL {w : World} (s : ByteArray) (hs : s.size ≤ 30000000) :
    Calls Tryz.prog 14 #[.string s] w (Ret fun v w' => v = .string (bstr (qK s s.size)) ∧ Evo [] w w') := by
  refine bE (N := 22) Tryz.func14 rfl rfl rfl ?_; refine csr (wan (csr (cO rfl xQ fun bb w1 V W Y => ?_))); have G := W; have hub := Nat.le_of_eq G; refine wnn (aM (csr (aA (aB (cQ rfl Tryz.underlying9 rfl) ?_)))); refine aA (wnn (bK (dL (α := QgG) (⟨0, none⟩) (fun x => [(7, .int .i64 (x.k : Nat))]) [(0, _), (2, _), (3, _), (6, _)] (fun x wr => Evo [] w wr ∧ (x.k ≤ s.size ∧ BdN wr bb (qK s x.k) x.o ∧ Ge w x.o)) (fun x => s.size - x.k) ⟨rfl, trivial⟩ ⟨rfl, rfl, rfl, rfl, trivial⟩ ⟨((Evo.refl [] w).then Y), ⟨Nat.zero_le _, (BdN.new V), Ge.nil _⟩⟩ ?_))); rintro ⟨k, o⟩ wr7 ⟨I, ⟨hk, hBDl, hul⟩⟩; show CW _ _ _ _ [(7, .int .i64 (k : Nat)), (0, _), (2, _), (3, _), (6, _)] _
  try dsimp only at hk hBDl hul
  refine csr (aB (dA rfl rfl) ?_); refine wnn (aM (aZ rfl (fun Z => ?_) (fun Z => ?_)))
  ·have hk' : k < s.size := by omega
   refine aN (aC (aM (bK (csr (aA (wan (aM (csr (aA (aA (aB (fN (n := k) rfl rfl Tryz.underlying9 rfl hk') ?_))))))))))); refine aG (vs := [_, _]) qE rfl (PM (sb s k) (iC s k)) rfl ?_; rintro _ w9 ⟨z, rfl, hz, E⟩; have D := I.then E; refine aB (dQ rfl rfl) ?_; refine wnn (aZ rfl (fun J => ?_) (fun J => ?_))
   ·refine aF ?_
    refine aG (vs := [_, _]) sU rfl (qW 92 (hBDl.evo0 E) (by have h9 := EB s k; omega)) rfl ?_
    rintro _ a0 ⟨obw1, hBDw1, L, hnb1⟩; have B := D; have F := fG hul B.size hnb1; have H := D.step L (iI hub hul); refine wnn (aF (aA (aA (aB (fN (n := k) rfl rfl Tryz.underlying9 rfl hk') ?_))))
    refine aG (vs := [_, _]) sU rfl (qW (sb s k) hBDw1 (by have h9 := EB s k; first | omega | (rw [List.length_append]; simp; omega))) rfl ?_
    rintro _ a1 ⟨obw2, hBDw2, M, hnb2⟩; have B := H; refine aR (aQ (aC (aF ?_))); refine aB (aI rfl rfl (by omega) (by omega)) ?_; refine aA (aR (aY ?_)); refine ⟨⟨k + 1, obw2⟩, ?_, ⟨rfl, trivial⟩, ⟨rfl, rfl, rfl, rfl, trivial⟩, (H.step M (iI hub F)), ?_⟩
    · (try dsimp only); omega
    try dsimp only
    have hfin := hBDw2; refine ⟨by omega, ?_, (fG F B.size hnb2)⟩
    rw [qK, qc, if_pos (hz.1 (by omega))]; simpa [List.append_assoc] using hfin
   refine aN (aC (aF (aA (aA (aB (fN (n := k) rfl rfl Tryz.underlying9 rfl hk') ?_)))))
   refine aG (vs := [_, _]) sU rfl (qW (sb s k) (hBDl.evo0 E) (by have h9 := EB s k; first | omega | (rw [List.length_append]; simp; omega))) rfl ?_
   rintro _ a2 ⟨obw1, hBDw1, O, hnb1⟩; have B := D; have F := fG hul B.size hnb1; refine aR (aQ (aC (aF ?_))); refine aB (aI rfl rfl (by omega) (by omega)) ?_; refine aA (aR (aY ?_)); refine ⟨⟨k + 1, obw1⟩, ?_, ⟨rfl, trivial⟩, ⟨rfl, rfl, rfl, rfl, trivial⟩, (D.step O (iI hub hul)), ?_⟩
   · (try dsimp only); omega
   try dsimp only
   have hfin := hBDw1; refine ⟨by omega, ?_, F⟩
   rw [qK, qc, if_neg (fun h9 => by have := hz.2 h9; omega)]; simpa [List.append_assoc] using hfin
  obtain rfl : k = s.size := by omega
  refine cW (bS (bS (cV (aC ?_)))); refine csr ?_
  refine aG (vs := [_]) sT rfl (uD hBDl (qK_lo s _) (fun g hg => by have h9 := hul g hg; omega)) rfl ?_
  rintro _ a3 ⟨rfl, U⟩; refine wan (aK (br1 ?_)); exact ⟨rfl, (I.step U (fun y hy => .inr (Nat.le_trans hub (EP.1 hy).2)))⟩
end Go.Proofs.YtljadkcojnlioaaGreatDoor
namespace Go.Proofs.YtljadkcojnlioaaGreatDoor
open Go.RowKit Go.W
abbrev flz : Fl := ⟨false, false, false, false⟩
theorem AH {f : Fl} {c : Int} (hf : f.fold = false) (h0 : 0 ≤ c) (h1 : c ≤ 1114111) : lP f c = nA c := by
  rw [lP, if_neg (by rw [hf]; simp)]
  exact uR (m := [(c, c)]) (QX h0 h1) rfl rfl
theorem UO {a b : Int} (h0 : 0 ≤ a) (h1 : a < b) (h2 : b ≤ 1114111) {S : Int → Prop} (hS : ∀ c, S c ↔ a ≤ c ∧ c ≤ b) : jX S = kS [(a, b)] :=
  qN (nT (sJ h0 (by omega) h2) fun c => by rw [lB, hS]) fun _ => by show ¬ a = b; omega
abbrev aL : List Nat := [97, 124, 91, 99, 45, 101, 93, 43, 63]
def aS : ByteArray := ByteArray.mk #[97, 124, 91, 99, 45, 101, 93, 43, 63]
def aT : Rx := zH 5 [nA 97, lM 1 (-1) true (kS [(99, 101)])]
theorem aS_size : aS.size = 9 := rfl
theorem XJ : ∀ k, k < aS.size → sb aS k < 128 := by rw [aS_size]; decide +kernel
theorem nxA {k : Nat} (hk : k < 9) : cL aS k = (((sb aS k : Nat) : Int), 1) := EO hk (XJ k hk)
theorem XI : lE aS flz 3 = .ok (kS [(99, 101)], 7) := by
  have h1 : kZ aS 3 = .ok (99, 4) := by rw [uM (by decide +kernel), nxA (by decide)]; exact congrArg Except.ok (Prod.ext (show ((sb aS 3 : Nat) : Int) = 99 by decide +kernel) rfl)
  have h2 : kZ aS 5 = .ok (101, 6) := by rw [uM (by decide +kernel), nxA (by decide)]; exact congrArg Except.ok (Prod.ext (show ((sb aS 5 : Nat) : Int) = 101 by decide +kernel) rfl)
  have h3 : iP aS 3 = .ok (rgS 99 101, 6) := by
    unfold iP
    rw [h1]
    simp only
    rw [if_pos (by decide +kernel), h2]
    simp only
    rw [if_neg (by decide)]
  have h4 : jD aS 3 = .ok (rgS 99 101, 6) := by
    unfold jD
    rw [if_neg (by decide +kernel)]
    unfold lD
    rw [if_neg (by decide +kernel), h3]
  have h5 : gB aS (aS.size + 1) true (fun _ => False) 3 = .ok (unS (fun _ => False) (rgS 99 101), 7) := by
    show gB aS 10 true (fun _ => False) 3 = _
    rw [gB, if_neg (by decide +kernel), if_neg (by decide), h4]
    simp only
    rw [gB, if_neg (by decide +kernel), if_pos (by decide +kernel)]
  unfold lE
  rw [if_neg (show ¬ isB aS 3 94 by decide +kernel), h5]
  simp only
  rw [if_neg (show ¬ isB aS 3 94 by decide +kernel), if_neg (by decide)]
  exact congrArg Except.ok (Prod.ext (UO (by decide) (by decide) (by decide) fun c => by unfold unS rgS; simp) rfl)
theorem XH : iV aS = .ok aT := by
  have e1 : iR aS (oL aS 249) (aS.size + 1) [] false st0 = .ok (nA 97, ⟨1, flz, 0, []⟩) := by
    show iR aS (oL aS 249) 10 [] false st0 = _
    rw [XD (c := 97) (by decide +kernel) (by decide), qB (st := jY st0 1) (.inr (.inl (by decide +kernel)))]
    show Except.ok (lP flz 97, _) = _
    rw [AH rfl (by decide) (by decide)]
    rfl
  have e2 : iR aS (oL aS 249) (aS.size + 1) [] false (adv ⟨1, flz, 0, []⟩ 1) = .ok (lM 1 (-1) true (kS [(99, 101)]), ⟨9, flz, 0, []⟩) := by
    show iR aS (oL aS 249) 10 [] false ⟨2, flz, 0, []⟩ = _
    rw [DG (c := 91) (st := ⟨2, flz, 0, []⟩) (by decide +kernel) (by decide) (TM (by decide +kernel) XI)]
    have hr : kY (aS.extract 7 aS.size) = (1, -1, 1) := by decide +kernel
    rw [zB (lo := 1) (hi := -1) (nn := 1) (st := jY ⟨2, flz, 0, []⟩ 7) (by decide +kernel) hr (by decide) (by decide) (by decide +kernel), qB (.inl (by decide +kernel))]
    rfl
  have e3 : oL aS 250 st0 = .ok (aT, ⟨9, flz, 0, []⟩) := by
    show nC aS (oL aS 249) st0 = _
    rw [LZ (show tK aS (oL aS 249) st0 = _ from e1), FK (st := ⟨1, flz, 0, []⟩) (by decide +kernel) e2, vG (by decide +kernel)]
    rfl
  exact TH (by decide +kernel) ⟨_, MQ XJ⟩ e3 (by decide +kernel)
def oS : ByteArray := ByteArray.mk #[40]
theorem VS {s : ByteArray} {ex : PS → PX Rx} {st st2 : PS} {x : Rx} (h : isB s st.pos 40) (hq : ¬ isB s (st.pos + 1) 63) (ho : st.opn ≠ 250) (hl : ¬ yG emp st.names) (hx : ex ⟨st.pos + 1, st.now, st.opn + 1, st.names ++ [emp]⟩ = .ok (x, st2)) (hc : ¬ isB s st2.pos 41) : fQ s ex st = .error 80 := by
  rw [br_open h, xP (uQ (fun h2 => hq h2.2)) (by simp) ho (by simp) (fun h3 => hl h3.2)]
  show (match ex ⟨st.pos + 1, st.now, st.opn + 1, if true = true then st.names ++ [emp] else st.names⟩ with | .error e => _ | .ok (x, st2) => _) = _
  rw [if_pos rfl, hx]
  simp only
  rw [if_neg hc]
theorem UE : iV oS = .error 80 := by
  obtain ⟨ex, he⟩ := pExp_ex oS 249
  have e0 : oL oS 249 ⟨1, flz, 1, [emp]⟩ = .ok (rxK 1, ⟨1, flz, 1, [emp]⟩) := by
    rw [he]; exact WF (qB (.inl (by decide +kernel))) (by decide +kernel)
  have e1 : fQ oS (oL oS 249) st0 = .error 80 := VS (st := st0) (st2 := ⟨1, flz, 1, [emp]⟩) (by decide +kernel) (by decide +kernel) (by decide) (fun h => h.elim (by decide) (fun h3 => h3.1 rfl)) e0 (by decide +kernel)
  have e2 : oL oS 250 st0 = .error 80 := by
    show nC oS (oL oS 249) st0 = _
    exact WG (MI (c := 40) (by decide +kernel) (by decide) e1)
  exact EG (by decide +kernel) ⟨_, MQ (by decide +kernel)⟩ e2
theorem np_lit {c : Int} (h0 : 0 ≤ c) (h1 : c ≤ 1114111) : NodeP (nA c) := ⟨by show (1 : Int) ≤ 2; decide, by show (2 : Int) ≤ 13; decide, .inl rfl, .inr rfl, .inr ⟨rfl, rfl, rfl⟩, .inr ⟨rfl, rfl⟩, fun _ => ⟨h0, h1⟩, fun h => absurd (show (2 : Int) = 3 from h) (by decide), fun h => absurd (show (2 : Int) = 4 ∨ (2 : Int) = 5 from h) (by decide), fun h => absurd (show (2 : Int) = 6 from h) (by decide), fun h => absurd (show (2 : Int) = 7 from h) (by decide), fun _ => rfl⟩
theorem np_cls {l : List (Int × Int)} (h : RangesOk l) : NodeP (kS l) := ⟨by show (1 : Int) ≤ 3; decide, by show (3 : Int) ≤ 13; decide, .inr rfl, .inl rfl, .inr ⟨rfl, rfl, rfl⟩, .inr ⟨rfl, rfl⟩, fun h => absurd (show (3 : Int) = 2 from h) (by decide), fun _ => h, fun h => absurd (show (3 : Int) = 4 ∨ (3 : Int) = 5 from h) (by decide), fun h => absurd (show (3 : Int) = 6 from h) (by decide), fun h => absurd (show (3 : Int) = 7 from h) (by decide), fun _ => rfl⟩
theorem np_row {k : Int} {l : List Rx} (hk : k = 4 ∨ k = 5) (hl : 2 ≤ l.length) : NodeP (zH k l) := ⟨by show (1 : Int) ≤ k; omega, by show k ≤ 13; omega, .inr rfl, .inr rfl, .inr ⟨rfl, rfl, rfl⟩, .inr ⟨rfl, rfl⟩, fun h => by have : k = 2 := h; omega, fun h => by have : k = 3 := h; omega, fun _ => hl, fun h => by have : k = 6 := h; omega, fun h => by have : k = 7 := h; omega, fun h => (h (by show k = 4 ∨ k = 5 ∨ k = 6 ∨ k = 7; omega)).elim⟩
theorem np_rep {lo hi : Int} {z : Bool} {x : Rx} (h0 : 0 ≤ lo) (h1 : lo ≤ 1000) (h2 : hi = -1 ∨ (lo ≤ hi ∧ hi ≤ 1000)) : NodeP (lM lo hi z x) := ⟨by show (1 : Int) ≤ 6; decide, by show (6 : Int) ≤ 13; decide, .inr rfl, .inr rfl, .inl rfl, .inr ⟨rfl, rfl⟩, fun h => absurd (show (6 : Int) = 2 from h) (by decide), fun h => absurd (show (6 : Int) = 3 from h) (by decide), fun h => absurd (show (6 : Int) = 4 ∨ (6 : Int) = 5 from h) (by decide), fun _ => ⟨h0, h1, h2, rfl⟩, fun h => absurd (show (6 : Int) = 7 from h) (by decide), fun h => (h (.inr (.inr (.inl rfl)))).elim⟩
theorem rok_one {a b : Int} (h0 : 0 ≤ a) (h1 : a < b) (h2 : b ≤ 1114111) : RangesOk [(a, b)] := by
  refine ⟨fun i hi => ?_, fun _ => by show a ≠ b; omega⟩
  have hi0 : i = 0 := by simpa using hi
  subst hi0
  exact ⟨h0, by show a ≤ b; omega, h2, fun j hj e => by omega⟩
theorem CU {x : Rx} {b : Int} {st : St} (hp : NodeP x) (hk : BJ x.kind) (h7 : x.kind ≠ 7) (h1 : st.1 + 1 ≤ 8194) (hb : b ≤ 250) : x.fine b st = some (st.1 + 1, st.2) := by
  rw [sF ⟨h1, by rw [if_neg h7]; exact hb, hp, fun h => absurd h h7⟩, hp.leaf hk, gG, if_neg h7]
theorem aT_ok : aT.Ok := by
  have hl : ∀ b : Int, b ≤ 250 → ∀ st : St, st.1 + 1 ≤ 8194 → (nA 97).fine b st = some (st.1 + 1, st.2) := fun b hb st h => CU (np_lit (by decide) (by decide)) (by unfold BJ; decide) (by decide) h hb
  have hc : ∀ b : Int, b ≤ 250 → ∀ st : St, st.1 + 1 ≤ 8194 → (kS [(99, 101)]).fine b st = some (st.1 + 1, st.2) := fun b hb st h => CU (np_cls (rok_one (by decide) (by decide) (by decide))) (by unfold BJ; decide) (by decide) h hb
  refine ⟨(4, []), ?_⟩
  show (zH 5 [nA 97, lM 1 (-1) true (kS [(99, 101)])]).fine 0 (0, []) = _
  rw [sF ⟨by decide, by decide, np_row (.inr rfl) (by decide), fun h => absurd (show (5 : Int) = 7 from h) (by decide)⟩]
  show gG [nA 97, lM 1 (-1) true (kS [(99, 101)])] 5 0 (1, []) = _
  rw [gG, if_neg (show ¬ Brk (nA 97).kind 5 by decide), hl _ (by decide) _ (by decide)]
  simp only
  rw [gG, if_neg (show ¬ Brk (lM 1 (-1) true (kS [(99, 101)])).kind 5 by decide), sF ⟨by decide, by decide, np_rep (by decide) (by decide) (.inl rfl), fun h => absurd (show (6 : Int) = 7 from h) (by decide)⟩]
  show (match gG [kS [(99, 101)]] 6 0 (3, []) with | none => none | some st' => gG [] 5 0 st') = _
  rw [gG, if_neg (show ¬ Brk (kS [(99, 101)]).kind 6 by decide), hc _ (by decide) _ (by decide)]
  simp only
  rw [gG]
  simp only
  rw [gG]
theorem aT_txt : wE aT = aL := by
  have h1 : vD 99 = [99] := by rw [vD, if_pos (by decide), show (99 : Int) = ((99 : Nat) : Int) from rfl, lT (by decide)]; rfl
  have h2 : vD 101 = [101] := by rw [vD, if_pos (by decide), show (101 : Int) = ((101 : Nat) : Int) from rfl, lT (by decide)]; rfl
  have h3 : sC 97 = [97] := by rw [sC, if_neg (by decide), if_neg (by decide), show (97 : Int) = ((97 : Nat) : Int) from rfl, lT (by decide)]; rfl
  have h4 : BP [(99, 101)] = [91, 99, 45, 101, 93] := by rw [BP, if_neg (by simp)]; simp [wJ, h1, h2]
  have h5 : (nA 97).w = [97] := by rw [Rx.w_eq]; show sC 97 ++ gO 2 true [] ++ [] = _; rw [h3, gO]; rfl
  have h6 : (kS [(99, 101)]).w = [91, 99, 45, 101, 93] := by rw [Rx.w_eq]; show BP [(99, 101)] ++ gO 3 true [] ++ [] = _; rw [h4, gO]; rfl
  have h7 : (lM 1 (-1) true (kS [(99, 101)])).w = [91, 99, 45, 101, 93, 43, 63] := by
    rw [Rx.w_eq]
    show [] ++ gO 6 true [kS [(99, 101)]] ++ ([43] ++ [63]) = _
    rw [gO, gO, h6]; rfl
  have h8 : aT.w = aL := by
    rw [Rx.w_eq]
    show [] ++ gO 5 true [nA 97, lM 1 (-1) true (kS [(99, 101)])] ++ [] = _
    rw [gO, gO, gO, h5, h7]; rfl
  have h9 : aT.ln = false := by
    rw [Rx.ln_eq]
    show (decide ((5 : Int) = 10 ∨ (5 : Int) = 11) || lns [nA 97, lM 1 (-1) true (kS [(99, 101)])]) = false
    rw [lns, lns, lns, Rx.ln_eq, Rx.ln_eq]
    show (_ || (decide ((2 : Int) = 10 ∨ (2 : Int) = 11) || lns [] || (decide ((6 : Int) = 10 ∨ (6 : Int) = 11) || lns [kS [(99, 101)]] || false))) = false
    rw [lns, lns, Rx.ln_eq]
    show (_ || (_ || false || (_ || (decide ((3 : Int) = 10 ∨ (3 : Int) = 11) || lns [] || lns []) || false))) = false
    rw [lns]; decide
  rw [wE, if_neg (by rw [h9]; simp), h8]; rfl
theorem zero_no {x : Rx} (h : x.kind = 0) : ¬ x.Ok := by
  rintro ⟨st, hs⟩
  rw [vA (fun h2 => by have := h2.2.2.1.kind1; omega)] at hs
  cases hs
theorem aT_show {s : List Nat} {e : Int} (h : ShowIs aT s e) : s = aL ∧ e = 0 := by
  have h2 : ShowIs aT aL 0 := .inr ⟨aT_ok, .inr ⟨by rw [aT_txt]; decide, aT_txt.symm, rfl⟩⟩
  exact h.uniq h2
theorem rrx_up : ∀ {n : Nat} {X : List Nat} {w : World} {vs : List Value} {x : Rx}, RRx n X w vs x → RRx (n + 1) X w vs x := by
  intro n
  induction n with
  | zero => intro X w vs x h; exact h.elim
  | succ n ih =>
    rintro X w vs x ⟨vr, vk, h1, h2, ⟨a, c, hv, hc, h3⟩, h4⟩
    exact ⟨vr, vk, h1, h2, ⟨a, c, hv, hc, fun k hk => by obtain ⟨b, o, us, ha, hb, hl, hcs, hr⟩ := h3 k hk; exact ⟨b, o, us, ha, hb, hl, hcs, ih hr⟩⟩, h4⟩
theorem SI {n m : Nat} {X : List Nat} {w : World} {vs : List Value} {x : Rx} (h : RRx n X w vs x) (hm : n ≤ m) : RRx m X w vs x := by
  induction hm with
  | refl => exact h
  | step _ ih => exact rrx_up ih
mutual
theorem OT.rrx : ∀ {x : Rx} {w : World} {vs : List Value} {bs X : List Nat}, OT x w vs bs → (∀ b, b ∈ bs → b ∉ X) → ∃ n, RRx n X w vs x
  | .mk k r rs mn mx lz cp nm ks, w, vs, bs, X, h, hX => by
    rw [OT] at h
    obtain ⟨ra, rc, rb, ka, kc, kb, cs, bk, h1, h2, h3, h4, rfl, h5, h6, h7⟩ := h
    obtain ⟨n, hn⟩ := OTs.rrx h4 (X := X) (fun b hb => hX b (List.mem_append_right _ (List.mem_append_right _ hb)))
    refine ⟨n + 1, _, _, h1, own_rrg h2 (fun g hg => hX g (by simp [hg])), ⟨ka, kc, rfl, h3.le, fun j hj => ?_⟩, by show rs.length ≤ _; omega, by show nm.size ≤ _; omega, by show ks.length ≤ _; omega⟩
    obtain ⟨us, hul, huc, hur⟩ := hn j hj
    have hj' : j < ks.length := hj
    obtain ⟨g, hg, ha, hc⟩ := h3.cells (by omega)
    refine ⟨g, 0, us, ha, hX g (by simp [hg]), hul, fun i v hi => ?_, hur⟩
    have := hc _ _ (huc i v hi)
    rw [← Nat.add_assoc] at this
    exact this
theorem OTs.rrx : ∀ {l : List Rx} {w : World} {cs : List Value} {bs X : List Nat}, OTs l w cs bs → (∀ b, b ∈ bs → b ∉ X) → ∃ n, ∀ k (hk : k < l.length), ∃ us, us.length = 9 ∧ (∀ j v, us[j]? = some v → cs[k * 9 + j]? = some v) ∧ RRx n X w us l[k]
  | [], w, cs, bs, X, h, hX => ⟨0, fun k hk => by cases hk⟩
  | x :: l, w, cs, bs, X, h, hX => by
    rw [OTs] at h
    obtain ⟨vs, cs', b1, b2, rfl, rfl, h3, h4⟩ := h
    obtain ⟨n1, hn1⟩ := OT.rrx h3 (X := X) (fun b hb => hX b (List.mem_append_left _ hb))
    obtain ⟨n2, hn2⟩ := OTs.rrx h4 (X := X) (fun b hb => hX b (List.mem_append_right _ hb))
    have hl9 : vs.length = 9 := by obtain ⟨ra, rc, ka, kc, rfl⟩ := h3.nine; rfl
    refine ⟨max n1 n2, fun k hk => ?_⟩
    cases k with
    | zero => exact ⟨vs, hl9, fun j v hj => by rw [Nat.zero_mul, Nat.zero_add, List.getElem?_append_left (List.getElem?_eq_some_iff.1 hj).1]; exact hj, SI hn1 (Nat.le_max_left _ _)⟩
    | succ k =>
      obtain ⟨us, hu1, hu2, hu3⟩ := hn2 k (by simpa using hk)
      refine ⟨us, hu1, fun j v hj => ?_, SI hu3 (Nat.le_max_right _ _)⟩
      rw [List.getElem?_append_right (by omega), show (k + 1) * 9 + j - vs.length = k * 9 + j by omega]
      exact hu2 j v hj
end
end Go.Proofs.YtljadkcojnlioaaGreatDoor
namespace Go.Proofs.YtljadkcojnlioaaGreatDoor
open Go.RowKit Go.W
attribute [local irreducible] Decidable.decide
theorem sX : dW Tryz.prog 11 := ⟨_, Tryz.func11, by kernel_rfl, by kernel_rfl⟩
theorem KH : dW Tryz.prog 14 := ⟨_, Tryz.func14, by kernel_rfl, by kernel_rfl⟩
theorem KF : dW Tryz.prog 19 := ⟨_, Tryz.func19, by kernel_rfl, by kernel_rfl⟩
theorem TN {w : World} {s : ByteArray} {x : Rx} (hG : Glb w) (h : iV s = .ok x) : Calls Tryz.prog 11 #[.string s] w (Ret fun v w' => ∃ vs bs, v = .tuple #[.agg vs.toArray, iv 0] ∧ OT x w' vs bs ∧ Fr w bs ∧ Evo [] w w') := by
  refine (zU s hG).mono ?_
  rintro e w' ⟨v, rfl, hv, h1 | ⟨x2, vs, bs, h2, rfl, h4, h5⟩⟩
  · obtain ⟨e, h1, -⟩ := h1
    rw [h] at h1; cases h1
  · rw [h] at h2; cases h2
    exact ⟨_, rfl, vs, bs, rfl, h4, h5, hv⟩
theorem QC {w : World} {s : ByteArray} {e : Int} (hG : Glb w) (h : iV s = .error e) : Calls Tryz.prog 11 #[.string s] w (Ret fun v w' => v = .tuple #[zRx, iv e] ∧ Evo [] w w') := by
  refine (zU s hG).mono ?_
  rintro e9 w' ⟨v, rfl, hv, h1 | ⟨x2, vs, bs, h2, rfl, h4, h5⟩⟩
  · obtain ⟨e2, h1, h3⟩ := h1
    rw [h] at h1; cases h1
    exact ⟨_, rfl, h3, hv⟩
  · rw [h] at h2; cases h2
def zX : Rx := .mk 0 0 [] 0 0 false 0 emp []
theorem RD (X : List Nat) (w : World) : RRx 1 X w [iv 0, .int .i32 0, .slice none 0 0, iv 0, iv 0, .bool false, iv 0, .string ByteArray.empty, .slice none 0 0] zX := ⟨_, _, rfl, rnil0, rnil0, Nat.zero_le _, Nat.zero_le _, Nat.zero_le _⟩
set_option maxHeartbeats 4000000 in
theorem XE {w : World} (hG : Gw w) : Calls Tryz.prog 10 #[] w (Ret fun v w' => v = .bool true ∧ Evo [] w w') := by
  refine bE (N := 113) Tryz.func10 rfl rfl rfl ?_; refine csr (wan (csr (aG (vs := [_]) sX rfl (TN (s := aS) (hG.evo0 (Evo.refl [] w)).glb XH) rfl ?_))); rintro _ w1 ⟨vs, bs, rfl, hOT, hFr, b9⟩; have a5 := (Evo.refl [] w).then b9; obtain ⟨n1, hx1⟩ := hOT.rrx (X := []) (fun b _ h => by cases h); have hx1' := hx1; obtain ⟨m1, ra1, rc1, ka1, kc1, hm1, rfl, hrg1, hk1, -⟩ := hx1.get; obtain ⟨_, _, hke, -, e1⟩ := hk1; cases hke; obtain ⟨b1, o1, vs1, ha1, -, -, c0, hr1⟩ := e1 0 (by decide); obtain ⟨m2, ra2, rc2, ka2, kc2, -, rfl, -⟩ := hr1.get; obtain ⟨b2, o2, vs2, ha2, -, -, c1, hr2⟩ := e1 1 (by decide); obtain ⟨m3, ra3, rc3, ka3, kc3, -, rfl, -, hk3, -⟩ := hr2.get; obtain ⟨_, _, hke3, -, e3⟩ := hk3; cases hke3; obtain ⟨b4, o4, vs4, ha4, -, -, a6, hr4⟩ := e3 0 (by decide); obtain ⟨m5, ra5, rc5, ka5, kc5, -, rfl, hrg5, -⟩ := hr4.get; obtain ⟨_, _, hke5, -, e5⟩ := hrg5; cases hke5; obtain ⟨b6, o6, vs6, ha6, -, -, c3, hr6⟩ := e5 0 (by decide); obtain rfl := hr6; refine aA (aB (cC rfl rfl) ?_); refine aB (cC rfl rfl) ?_; refine cO rfl dC fun bx w4 c4 Y a7 => ?_; have c5 := Y; refine aV rfl rfl aJ c4 rfl rfl ⟨rfl, rfl, rfl, rfl, rfl, rfl, rfl, rfl, rfl, trivial⟩ fun c7 D Z => ?_; have a0 := (a5.then a7).step Z (Ge.new a5 Y).mem1; have F := ((Evo.refl [] w1).then a7).step Z (Ge.new (Evo.refl [] w1) Y).mem1
  try simp only [cH, Nat.reduceAdd] at D
  refine wan (aM (csr (aA ?_))); refine aB (fJ (r := .bool false) rfl rfl (fun w => by kernel_rfl)) ?_; refine aA (aW (aB (aD rfl eR) (aW (aB (aX rfl bD (bI D rfl)) (aW ?_))))); refine aB (fJ (r := .bool false) rfl rfl (fun w => by kernel_rfl)) ?_; refine bR (aA (aW (aB (aD rfl eD) (aW (aB (aX rfl fB (bI D rfl)) (aW (aB (bM rfl Tryz.underlying25 rfl) ?_))))))); refine aW ?_; refine aB (fJ (r := .bool false) rfl rfl (fun w => by kernel_rfl)) ?_; refine bR (aA (aW (aB (aD rfl eD) (aW (aB (aX rfl fB (bI D rfl)) (aW ?_))))))
  refine aB (gH (n := 0) (by rw [ha1]; rfl) rfl rfl dO (by decide)) ?_
  refine aW (aB (aD rfl jP) (aW ?_)); refine aB (aX rfl cD ((F).cell (c0 1 _ rfl) (by simp))) ?_; refine aW ?_; refine aB (fJ (r := .bool false) rfl rfl (fun w => by kernel_rfl)) ?_; refine bR (wnn (cF rfl ?_)); refine aN (aC (csr (wfl rfl eD rfl fB D rfl ?_)))
  refine aB (iE (n := 1) (by rw [ha2]; rfl) rfl dO (by decide)) ?_
  refine aB (eB rfl bF aJ (vs := [_, _, _, _, _, _, _, _, _]) rfl (c1.evo F (by simp))) ?_; refine cO rfl dC fun by9 c8 a8 G I => ?_; have b8 := G; refine aV rfl rfl aJ a8 rfl rfl ⟨rfl, rfl, rfl, rfl, rfl, rfl, rfl, rfl, rfl, trivial⟩ fun c9 B J => ?_; have L := (a0.then I).step J (Ge.new a0 G).mem1; have E := (F.then I).step J (Ge.new F G).mem1; have a1 := J.blk (I.blk0 D) (Apart.new (Lt.blk D) G).nmem1
  try simp only [cH, Nat.reduceAdd] at B
  refine wnn (aM (csr (wfl rfl eR rfl bD B rfl ?_))); refine aB (fJ (r := .bool false) rfl rfl (fun w => by kernel_rfl)) ?_; refine aA (aW (aB (aD rfl iG) (aW (aB (aX rfl bD (bI B rfl)) (aW ?_))))); refine aB (fJ (r := .bool false) rfl rfl (fun w => by kernel_rfl)) ?_; refine bR (aA (aW (aB (aD rfl iF) (aW (aB (aX rfl bD (bI B rfl)) (aW ?_)))))); refine aB (fJ (r := .bool false) rfl rfl (fun w => by kernel_rfl)) ?_; refine bR (aA (aW (aB (aD rfl kQ) (aW (aB (aX rfl fI (bI B rfl)) (aW (aB (fV rfl) ?_))))))); refine bR (aA (aW (aB (aD rfl eD) (aW (aB (aX rfl fB (bI B rfl)) (aW (aB (bM rfl Tryz.underlying25 rfl) ?_))))))); refine aW ?_; refine aB (fJ (r := .bool false) rfl rfl (fun w => by kernel_rfl)) ?_; refine bR (aA (aW (aB (aD rfl eD) (aW (aB (aX rfl fB (bI B rfl)) (aW ?_))))))
  refine aB (gH (n := 0) (by rw [ha4]; rfl) rfl rfl dO (by decide)) ?_
  refine aW (aB (aD rfl gY) (aW ?_)); refine aB (aX rfl jV ((E).cell (a6 2 _ rfl) (by simp))) ?_; refine aW (aB (bM rfl Tryz.underlying24 rfl) ?_); refine aW ?_; refine aB (fJ (r := .bool false) rfl rfl (fun w => by kernel_rfl)) ?_; refine bR (aA (aW (aB (aD rfl eD) (aW (aB (aX rfl fB (bI B rfl)) (aW ?_))))))
  refine aB (gH (n := 0) (by rw [ha4]; rfl) rfl rfl dO (by decide)) ?_
  refine aW (aB (aD rfl gY) (aW ?_)); refine aB (aX rfl jV ((E).cell (a6 2 _ rfl) (by simp))) ?_; refine aW ?_
  refine aB (gH (n := 0) (by rw [ha6]; rfl) rfl rfl cK (by decide)) ?_
  refine aW (aB (aD rfl dF) (aW ?_)); refine aB (aX rfl cD ((E).cell (c3 1 _ rfl) (by simp))) ?_; refine aW ?_; refine aB (fJ (r := .bool false) rfl rfl (fun w => by kernel_rfl)) ?_; refine bR (wnn (cF rfl ?_)); refine aN (aC (csr (aB (bX rfl bF aJ a1 rfl) ?_))); refine aG (vs := [_]) KF rfl (Show_ok (hG.evo0 L) (RRx.pers _ _ _ _ _ _ E hx1') (by decide +kernel)) rfl ?_; rintro _ d0 ⟨s, e, hsh, rfl, H⟩; obtain ⟨rfl, rfl⟩ := aT_show hsh; refine aA (aB (cC rfl rfl) ?_); refine aB (cC rfl rfl) ?_; refine bN (wan (csr (aG (vs := [_]) sX rfl (QC (s := oS) (hG.evo0 (L.then H)).glb UE) rfl ?_))); rintro _ d1 ⟨rfl, M⟩; have a2 := (L.then H).then M; have a3 := (E.then H).then M; have a4 := M.blk0 (H.blk0 a1); refine aA (aB (cC rfl rfl) ?_); refine aB (cC rfl rfl) ?_; refine cO rfl dC fun d2 d3 a9 O U => ?_; refine aV rfl rfl aJ a9 rfl rfl ⟨rfl, rfl, rfl, rfl, rfl, rfl, rfl, rfl, rfl, trivial⟩ fun d4 c6 V => ?_; refine wan (csr (aA ?_)); refine aB (fJ (r := .bool true) rfl rfl (fun w => by kernel_rfl)) ?_; refine aA (aW (aA (aW ?_))); refine aB (fJ (r := .bool true) rfl rfl (fun w => by kernel_rfl)) ?_; refine bW ?_
  refine aA (aW (aA (aW ?_))); refine aB (fJ (r := .bool true) rfl rfl (fun w => by kernel_rfl)) ?_; refine bW (aA (aW ?_)); refine aG (vs := [_]) KH rfl (XL _ (by decide +kernel)) rfl ?_; rintro _ d5 ⟨rfl, W⟩; refine aW ?_; refine aB (fJ (r := .bool true) rfl rfl (fun w => by kernel_rfl)) ?_; refine bW (aA (aW (aB (bX rfl bF aJ (W.blk0 (V.blk (U.blk0 a4) (Apart.new (Lt.blk a4) O).nmem1)) rfl) (aW (aG (vs := [_]) sW rfl (zE (RRx.pers _ _ _ _ _ _ (((a3.then U).step V (Ge.new a3 O).mem1).then W) hx1')) rfl ?_))))); rintro _ d6 ⟨r, rfl, hr, b5⟩; obtain rfl : r = true := hr.2 aT_ok; refine bW (aA (aW (aB (cI (vs := []) cB rfl (cells := [_, _, _, _, _, _, _, _, _]) rfl) ?_))); refine aW (aG (vs := [_]) sW rfl (zE (RD [] _)) rfl ?_); rintro _ d7 ⟨r2, rfl, hr2, b7⟩
  obtain rfl : r2 = false := by cases r2 with | false => rfl | true => exact (zero_no rfl (hr2.1 rfl)).elim
  refine aW (aB (fV rfl) ?_); refine bW (wan (aK (br1 ?_))); exact ⟨rfl, (((((a2.then U).step V (Ge.new a2 O).mem1).then W).then b5).then b7)⟩
theorem yB : dW Tryz.prog 13 := ⟨_, Tryz.func13, by kernel_rfl, by kernel_rfl⟩
theorem MK : Tryz.prog.eqGuardType Tryz.prog.depth 56 = false := by kernel_rfl
theorem BV : Tryz.prog.underlying 56 = some (.struct (Tryz.prog.fieldsOf 56)) := by kernel_rfl
theorem QZ (a b c d : Int) (w : World) : (Op.equal 56 (.agg #[.int .i32 a, .int .i32 b]) (.agg #[.int .i32 c, .int .i32 d])).run Tryz.prog w = .ok (decide (a = c ∧ b = d)) w := by
  unfold Op.equal Op.maxDepth
  rw [run_equalIn_struct w 9999 56 _ _ BV (by kernel_rfl)]
  by_cases h1 : a = c <;> by_cases h2 : b = d <;> simp [Op.eqFields, Program.fieldsOf, Tryz.underlying56, wG w cD, run_equalIn_int w _ 21 _ _ _ _ Tryz.underlying21, h1, h2]
theorem rx_ext : ∀ {a b : Rx}, a.kind = b.kind → a.r = b.r → a.ranges = b.ranges → a.min = b.min → a.max = b.max → a.lazy = b.lazy → a.cap = b.cap → a.name = b.name → a.kids = b.kids → a = b
  | .mk k r rs mn mx lz cp nm ks, .mk k' r' rs' mn' mx' lz' cp' nm' ks', h1, h2, h3, h4, h5, h6, h7, h8, h9 => by
    obtain rfl : k = k' := h1
    obtain rfl : r = r' := h2
    obtain rfl : rs = rs' := h3
    obtain rfl : mn = mn' := h4
    obtain rfl : mx = mx' := h5
    obtain rfl : lz = lz' := h6
    obtain rfl : cp = cp' := h7
    obtain rfl : nm = nm' := h8
    obtain rfl : ks = ks' := h9
    rfl
set_option maxHeartbeats 4000000 in
theorem MJ {n : Nat} (ih : ∀ {m : Nat} {w : World} {va vb : List Value} {a b : Rx} (ha : RRx n [] w va a) (hb : RRx m [] w vb b), Calls Tryz.prog 13 #[.agg va.toArray, .agg vb.toArray] w (Ret fun v w' => ∃ r, v = .bool r ∧ (r = true ↔ a = b) ∧ Evo [] w w')) {m : Nat} {w : World} {va vb : List Value} {a b : Rx} (ha : RRx (n + 1) [] w va a) (hb : RRx m [] w vb b) : Calls Tryz.prog 13 #[.agg va.toArray, .agg vb.toArray] w (Ret fun v w' => ∃ r, v = .bool r ∧ (r = true ↔ a = b) ∧ Evo [] w w') := by
  obtain ⟨n0, ra, rc, ka, kc, c7, rfl, hrg, hk, bl1, bl2, bl3⟩ := ha.get; obtain ⟨m0, ra', rc', ka', kc', hm0, rfl, hrg', hk', bl1', bl2', bl3'⟩ := hb.get
  obtain rfl : n0 = n := by omega
  obtain ⟨_, _, hre, -, er⟩ := hrg; cases hre; obtain ⟨_, _, hre', -, er'⟩ := hrg'; cases hre'; obtain ⟨_, _, hke, -, ek⟩ := hk; cases hke; obtain ⟨_, _, hke', -, ek'⟩ := hk'; cases hke'; refine bE (N := 107) Tryz.func13 rfl rfl rfl ?_; refine csr (iM rfl rfl fun bA w1 c0 c1 c3 => ?_); have c4 := c1; refine iM rfl rfl fun bB w7 E c5 a1 => ?_; have c6 := c5; have B := ((Evo.refl [] w).then c3).then a1; have D := a1.blk0 c0; refine wan (aM (csr (wfl rfl eR rfl bD D rfl (wfl rfl eR rfl bD E rfl (aB (fE rfl rfl) ?_))))); refine aA (bH (t := 12) rfl (fun a2 => ?_) (fun a2 => ?_))
  ·refine aP (aP (aP (aP (aP (bW (aA (aP (aP (aP (aP (aP (bW (aA (aP ?_)))))))))))))); refine aP (aP (aP (aP (bW (aA (aP (aP (aP (aP (aP (bW (aA (aP (aP ?_)))))))))))))); refine aP (aP (aP (bW (aA (aP (aP (aP (aP (aP (bW (wnn (cZ rfl ?_)))))))))))); refine csr (wan (aK (aE (br1 ?_))))
   exact ⟨false, rfl, (by simp only [Bool.false_eq_true, false_iff]; rintro rfl; exact a2 rfl), B⟩
  refine aW (aB (aD rfl jP) (aW (aB (aX rfl cD (bI D rfl)) (aW (aB (aD rfl jP) (aW (aB (aX rfl cD (bI E rfl)) (aW (aB (fE rfl rfl) ?_))))))))); refine bR (aA (bH (t := 19) rfl (fun a3 => ?_) (fun a3 => ?_)))
  ·refine aP (aP (aP (aP (aP (bW (aA (aP (aP (aP (aP (aP (bW (aA (aP ?_)))))))))))))); refine aP (aP (aP (aP (bW (aA (aP (aP (aP (aP (aP (bW (aA (aP (aP ?_)))))))))))))); refine aP (aP (aP (bW (wnn (cZ rfl ?_))))); refine csr (wan (aK (aE (br1 ?_))))
   exact ⟨false, rfl, (by simp only [Bool.false_eq_true, false_iff]; rintro rfl; exact a3 rfl), B⟩
  refine aW (aB (aD rfl iG) (aW (aB (aX rfl bD (bI D rfl)) (aW (aB (aD rfl iG) (aW (aB (aX rfl bD (bI E rfl)) (aW (aB (fE rfl rfl) ?_))))))))); refine bR (aA (bH (t := 26) rfl (fun a4 => ?_) (fun a4 => ?_)))
  ·refine aP (aP (aP (aP (aP (bW (aA (aP (aP (aP (aP (aP (bW (aA (aP ?_)))))))))))))); refine aP (aP (aP (aP (bW (aA (aP (aP (aP (aP (aP (bW (wnn (cZ rfl ?_))))))))))))); refine csr (wan (aK (aE (br1 ?_))))
   exact ⟨false, rfl, (by simp only [Bool.false_eq_true, false_iff]; rintro rfl; exact a4 rfl), B⟩
  refine aW (aB (aD rfl iF) (aW (aB (aX rfl bD (bI D rfl)) (aW (aB (aD rfl iF) (aW (aB (aX rfl bD (bI E rfl)) (aW (aB (fE rfl rfl) ?_))))))))); refine bR (aA (bH (t := 33) rfl (fun a5 => ?_) (fun a5 => ?_)))
  ·refine aP (aP (aP (aP (aP (bW (aA (aP (aP (aP (aP (aP (bW (aA (aP ?_)))))))))))))); refine aP (aP (aP (aP (bW (wnn (cZ rfl ?_)))))); refine csr (wan (aK (aE (br1 ?_))))
   exact ⟨false, rfl, (by simp only [Bool.false_eq_true, false_iff]; rintro rfl; exact a5 rfl), B⟩
  refine aW (aB (aD rfl kQ) (aW (aB (aX rfl fI (bI D rfl)) (aW (aB (aD rfl kQ) (aW (aB (aX rfl fI (bI E rfl)) (aW (aB (ex_neqB rfl rfl Tryz.underlying4) ?_))))))))); refine bR (aA (nD (t := 40) rfl (fun V => ?_) (fun V => ?_)))
  ·refine aP (aP (aP (aP (aP (bW (aA (aP (aP (aP (aP (aP (bW (wnn (cZ rfl ?_)))))))))))))); refine csr (wan (aK (aE (br1 ?_))))
   exact ⟨false, rfl, (by simp only [Bool.false_eq_true, false_iff]; rintro rfl; simp at V), B⟩
  refine aW (aB (aD rfl mY) (aW (aB (aX rfl bD (bI D rfl)) (aW (aB (aD rfl mY) (aW (aB (aX rfl bD (bI E rfl)) (aW (aB (fE rfl rfl) ?_))))))))); refine bR (aA (bH (t := 47) rfl (fun a6 => ?_) (fun a6 => ?_)))
  ·refine aP (aP (aP (aP (aP (bW (wnn (cZ rfl ?_))))))); refine csr (wan (aK (aE (br1 ?_))))
   exact ⟨false, rfl, (by simp only [Bool.false_eq_true, false_iff]; rintro rfl; exact a6 rfl), B⟩
  refine aW (aB (aD rfl kP) (aW (aB (aX rfl dG (bI D rfl)) (aW (aB (aD rfl kP) (aW (aB (aX rfl dG (bI E rfl)) (aW (aB (vC rfl rfl) ?_))))))))); refine bR (wnn (aZ rfl (fun W => ?_) (fun W => ?_)))
  ·refine csr (wan (aK (aE (br1 ?_))))
   exact ⟨false, rfl, (by simp only [Bool.false_eq_true, false_iff]; rintro rfl; exact W rfl), B⟩
  refine aN (aC (aM (csr (wfl rfl gY rfl jV D rfl (aB (bM rfl Tryz.underlying24 rfl) ?_))))); refine wfl rfl gY rfl jV E rfl (aB (bM rfl Tryz.underlying24 rfl) ?_); refine aB (fE rfl rfl) ?_; refine aA (bH (t := 61) rfl (fun a7 => ?_) (fun a7 => ?_))
  ·refine aP (aP (aP (aP (aP (aP (aP (bW (wnn (cZ rfl ?_))))))))); refine csr (wan (aK (aE (br1 ?_))))
   exact ⟨false, rfl, (by simp only [Bool.false_eq_true, false_iff]; rintro rfl; exact a7 rfl), B⟩
  refine aW (aB (aD rfl eD) (aW (aB (aX rfl fB (bI D rfl)) (aW (aB (bM rfl Tryz.underlying25 rfl) ?_))))); refine aW (aB (aD rfl eD) (aW (aB (aX rfl fB (bI E rfl)) (aW (aB (bM rfl Tryz.underlying25 rfl) ?_))))); refine aW (aB (fE rfl rfl) ?_); refine bR (wnn (aZ rfl (fun a8 => ?_) (fun a8 => ?_)))
  ·refine csr (wan (aK (aE (br1 ?_))))
   exact ⟨false, rfl, (by simp only [Bool.false_eq_true, false_iff]; rintro rfl; exact a8 rfl), B⟩
  refine aN (aC (aM (csr (wan (bK ?_))))); refine dL (α := Nat) (0) (fun k => [(5, .int .i64 (k : Nat))]) [(2, _), (3, _)] (fun k wr => Evo [] w7 wr ∧ (k ≤ a.ranges.length ∧ ∀ j (h : j < a.ranges.length) (h2 : j < b.ranges.length), j < k → a.ranges[j] = b.ranges[j])) (fun k => a.ranges.length - k) ⟨rfl, trivial⟩ ⟨rfl, rfl, trivial⟩ ⟨Evo.refl _ _, ⟨Nat.zero_le _, fun j h h2 h3 => by cases h3⟩⟩ ?_; rintro k wr15 ⟨H, ⟨hk0, hsm⟩⟩; show CW _ _ _ _ [(5, _), (2, _), (3, _)] _; have M := H.blk0 D; refine aM (csr (aA (wfl rfl gY rfl jV M rfl (aB (bM rfl Tryz.underlying24 rfl) ?_)))); refine aB (dA rfl rfl) ?_; refine wnn (aZ rfl (fun b7 => ?_) (fun b7 => ?_))
  ·have hk1 : k < a.ranges.length := by omega
   have hk2 : k < b.ranges.length := by omega
   obtain ⟨g1, o1, vs1, hg1, -, -, a9, hr1⟩ := er k hk1; obtain ⟨g2, o2, vs2, hg2, -, -, b4, hr2⟩ := er' k hk2; obtain rfl := hr1; obtain rfl := hr2; refine aN (aC (aM (bK (aM ?_)))); refine fR (fun w0 w' => Evo [] w0 w') (by kernel_rfl) (fun F O => ?_); have Y := (B.then H).then O; refine aet 0 rfl (fun _ hS => aD rfl gY) (Evo.refl [] F) ?_; refine aet 1 rfl (fun _ hS => aX rfl jV (bI (hS.blk0 (O.blk0 M)) rfl)) (Evo.refl [] F) ?_; refine aet 2 rfl (fun _ hS => bC rfl) (Evo.refl [] F) ?_; refine aet 3 rfl (fun _ hS => eC (n := k) rfl rfl hg1 cK hk1) (Evo.refl [] F) ?_; refine aet 4 rfl (fun _ hS => eB rfl gK eH (vs := [_, _]) rfl (a9.evo (Y.then hS) (by simp))) (Evo.refl [] F) ?_; refine aet 5 rfl (fun _ hS => aD rfl gY) (Evo.refl [] F) ?_; refine aet 6 rfl (fun _ hS => aX rfl jV (bI (hS.blk0 (O.blk0 (H.blk0 E))) rfl)) (Evo.refl [] F) ?_; refine aet 7 rfl (fun _ hS => bC rfl) (Evo.refl [] F) ?_; refine aet 8 rfl (fun _ hS => eC (n := k) rfl rfl hg2 cK hk2) (Evo.refl [] F) ?_
   refine aet 9 rfl (fun _ hS => eB rfl gK eH (vs := [_, _]) rfl (b4.evo (Y.then hS) (by simp))) (Evo.refl [] F) ?_; refine aet 10 rfl (fun _ hS => ex_neqA rfl rfl MK (QZ _ _ _ _)) (Evo.refl [] F) ?_; refine dB (by kernel_rfl) (aC ?_); refine aZ rfl (fun Z => ?_) (fun Z => ?_)
   ·refine csr (wan (aK (aO (aE (aE (aO (aE (br1 ?_))))))))
    exact ⟨false, rfl, (by simp only [Bool.false_eq_true, false_iff]; rintro rfl; exact Z ⟨rfl, rfl⟩), Y⟩
   refine aN (aQ (aC (aF (aA ?_)))); refine aB (aI rfl rfl (by omega) (by omega)) ?_; refine bN (aR (aY ?_)); refine ⟨k + 1, ?_, ⟨rfl, trivial⟩, ⟨rfl, rfl, trivial⟩, (H.then O), ?_⟩
   · omega
   refine ⟨by omega, fun j h3 h4 h5 => ?_⟩
   by_cases e : j < k
   · exact hsm j h3 h4 e
   · obtain rfl : j = k := by omega
     have h9 := Classical.not_not.1 Z; exact Prod.ext h9.1 h9.2
  refine cW (bS (bS (cV (aC ?_)))); refine aM (csr (wan (bK ?_))); refine dL (α := Nat) (0) (fun j => [(6, .int .i64 (j : Nat))]) [(2, _), (3, _)] (fun j wr => Evo [] wr15 wr ∧ (j ≤ a.kids.length ∧ ∀ i (h : i < a.kids.length) (h2 : i < b.kids.length), i < j → a.kids[i] = b.kids[i])) (fun j => a.kids.length - j) ⟨rfl, trivial⟩ ⟨rfl, rfl, trivial⟩ ⟨Evo.refl _ _, ⟨Nat.zero_le _, fun j h h2 h3 => by cases h3⟩⟩ ?_; rintro j wr26 ⟨J, ⟨hj0, hsk⟩⟩; show CW _ _ _ _ [(6, _), (2, _), (3, _)] _; have b5 := (B.then H).then J; refine aM (csr (aA (wfl rfl eD rfl fB (J.blk0 M) rfl (aB (bM rfl Tryz.underlying25 rfl) ?_)))); refine aB (dA rfl rfl) ?_; refine wnn (aZ rfl (fun b8 => ?_) (fun b8 => ?_))
  ·have hj1 : j < a.kids.length := by omega
   have hj2 : j < b.kids.length := by omega
   obtain ⟨g1, o1, vs1, hg1, -, -, a9, hr1⟩ := ek j hj1; obtain ⟨g2, o2, vs2, hg2, -, -, b4, hr2⟩ := ek' j hj2; obtain ⟨m1, ra1, rc1, ka1, kc1, rfl, rfl, -⟩ := id hr1.get; obtain ⟨m2, ra2, rc2, ka2, kc2, -, rfl, -⟩ := id hr2.get; refine aN (aC (aM (bK (aM ?_)))); refine fR (fun w0 w' => Evo [] w0 w') (by kernel_rfl) (fun G U => ?_); have L := b5.then U; refine aet 0 rfl (fun _ hS => aD rfl eD) (Evo.refl [] G) ?_; refine aet 1 rfl (fun _ hS => aX rfl fB (bI (hS.blk0 (U.blk0 (J.blk0 M))) rfl)) (Evo.refl [] G) ?_; refine aet 2 rfl (fun _ hS => bC rfl) (Evo.refl [] G) ?_; refine aet 3 rfl (fun _ hS => eC (n := j) rfl rfl hg1 dO hj1) (Evo.refl [] G) ?_; refine aet 4 rfl (fun _ hS => eB rfl bF aJ (vs := [_, _, _, _, _, _, _, _, _]) rfl (a9.evo (L.then hS) (by simp))) (Evo.refl [] G) ?_; refine aet 5 rfl (fun _ hS => aD rfl eD) (Evo.refl [] G) ?_; refine aet 6 rfl (fun _ hS => aX rfl fB (bI (hS.blk0 (U.blk0 (J.blk0 (H.blk0 E)))) rfl)) (Evo.refl [] G) ?_; refine aet 7 rfl (fun _ hS => bC rfl) (Evo.refl [] G) ?_
   refine aet 8 rfl (fun _ hS => eC (n := j) rfl rfl hg2 dO hj2) (Evo.refl [] G) ?_; refine aet 9 rfl (fun _ hS => eB rfl bF aJ (vs := [_, _, _, _, _, _, _, _, _]) rfl (b4.evo (L.then hS) (by simp))) (Evo.refl [] G) ?_; refine cA [10] (by kernel_rfl) rfl ⟨?_, trivial⟩; refine cG rfl ?_; refine aG (vs := [_, _]) yB rfl (ih (RRx.pers _ _ _ _ _ _ L hr1) (RRx.pers _ _ _ _ _ _ L hr2)) rfl ?_; rintro _ c8 ⟨r, rfl, hr, a0⟩; have b9 := L.then a0; have b6 := (Evo.refl [] G).then a0; refine aR (bV (.inl b6) ?_); refine aet 11 rfl (fun _ hS => fV rfl) b6 ?_; refine dB (by kernel_rfl) (aC ?_); refine eO rfl (fun I => ?_) (fun I => ?_)
   ·refine csr (wan (aK (aO (aE (aE (aO (aE (br1 ?_))))))))
    exact ⟨false, rfl, (by simp only [Bool.false_eq_true, false_iff]; rintro rfl; rw [hr.2 rfl] at I; cases I), b9⟩
   refine aN (aQ (aC (aF (aA ?_)))); refine aB (aI rfl rfl (by omega) (by omega)) ?_; refine bN (aR (aY ?_)); refine ⟨(j + 1), ?_, ⟨rfl, trivial⟩, ⟨rfl, rfl, trivial⟩, ((J.then U).then a0), ?_⟩
   · omega
   refine ⟨by omega, fun i h3 h4 h5 => ?_⟩
   by_cases e : i < j
   · exact hsk i h3 h4 e
   · obtain rfl : i = j := by omega
     exact hr.1 (by simpa using I)
  refine cW (bS (bS (cV (aC ?_)))); refine csr (wan (aK (br1 ?_)))
  refine ⟨true, rfl, by simp only [true_iff]; exact rx_ext (by omega) (by omega) (List.ext_getElem (by omega) fun i h3 h4 => hsm i h3 h4 (by omega)) (by omega) (by omega) (by simpa using V) (by omega) (Classical.not_not.1 W) (List.ext_getElem (by omega) fun i h3 h4 => hsk i h3 h4 (by omega)), b5⟩
theorem JG : ∀ {n : Nat} {m : Nat} {w : World} {va vb : List Value} {a b : Rx} (ha : RRx n [] w va a) (hb : RRx m [] w vb b), Calls Tryz.prog 13 #[.agg va.toArray, .agg vb.toArray] w (Ret fun v w' => ∃ r, v = .bool r ∧ (r = true ↔ a = b) ∧ Evo [] w w')
  | 0, m, w, va, vb, a, b, ha, hb => ha.elim
  | n + 1, m, w, va, vb, a, b, ha, hb => MJ (n := n) (fun ha hb => JG ha hb) ha hb
end Go.Proofs.YtljadkcojnlioaaGreatDoor
namespace Go.Proofs.YtljadkcojnlioaaGreatDoor
open Go.RowKit Go.W
section
variable {o : Int} {ns ns' : List ByteArray} {q : Nat} {x : Rx}
end
section
variable {K : Int → Prop} {o : Int}
end
section
variable {s t : ByteArray} {i i' : Nat}
end
section
variable {s : ByteArray} {ex : PS → PX Rx} {st : PS}
end
section
variable {s : ByteArray} {ex : PS → PX Rx}
end
def ExOk (s : ByteArray) (ex : PS → PX Rx) (n : Nat) : Prop := ∀ st x st', st.opn = n → Bd s st.pos → st.names.length ≤ 100 → ex st = .ok (x, st') →
  ∃ q, (∀ (b : Int) (c : Nat), b ≤ n → c + q ≤ 8194 → x.fine b (c, st.names) = some (c + q, st'.names)) ∧ q + 2 * st.pos ≤ 2 * st'.pos + 1 ∧ st.pos ≤ st'.pos ∧ Bd s st'.pos ∧ st'.opn = n ∧ st'.names.length ≤ 100
section
variable {s : ByteArray} {ex : PS → PX Rx} {st : PS}
end
section
variable {s : ByteArray} {ex : PS → PX Rx} {o : Nat} {ns0 : List ByteArray} {p0 : Nat}
end
section
variable {s : ByteArray}
end
section
variable {s : ByteArray}
end
section
variable {s : ByteArray}
end
section
variable {s : ByteArray} {ex : PS → PX Rx} {bb : Bool} {o : Nat} {ns : List ByteArray} {i : Nat}
end
def Fb (b : Nat) : Prop := b ≠ 63 ∧ b ≠ 42 ∧ b ≠ 43 ∧ b ≠ 123 ∧ b ≠ 124 ∧ b ≠ 41
instance (b : Nat) : Decidable (Fb b) := by unfold Fb; infer_instance
section
variable {s : ByteArray} {o : Nat} {bb : Bool} {i n : Nat} {y : Rx} {ns ns' : List ByteArray}
end
section
variable {s : ByteArray} {bb : Bool}
end
section
variable {s : ByteArray} {bb : Bool}
end
section
variable {s : ByteArray} {bb : Bool}
end
def NZ {α : Type} (r : Except Int α) : Prop := ∀ e, r = .error e → e ≠ 0
theorem mH {α : Type} (a : α) : NZ (.ok a : Except Int α) := fun e h => by cases h
theorem gU {α : Type} {e : Int} (h : e ≠ 0) : NZ (.error e : Except Int α) := fun e' h' => by cases h'; exact h
theorem NZ.ne {α : Type} {r : Except Int α} {e : Int} (h : NZ r) (k : r = .error e) : e ≠ 0 := h e k
theorem NL (s : ByteArray) (i : Nat) : NZ (gL s i) := by
  unfold gL
  repeat' split
  all_goals first | exact mH _ | exact gU (by decide)
theorem NK (s : ByteArray) : ∀ f n i, NZ (kG s f n i)
  | 0, n, i => gU (by decide)
  | f + 1, n, i => by
    unfold kG
    repeat' split
    all_goals first | exact mH _ | exact NK s f _ _ | exact gU (by decide) | exact gU ((NL _ _).ne (by assumption))
theorem nz_hex (s : ByteArray) (i : Nat) : NZ (kT s i) := by
  unfold kT
  repeat' split
  all_goals first | exact mH _ | exact NK _ _ _ _ | exact gU (by decide) | exact gU ((NL _ _).ne (by assumption))
theorem UL (s : ByteArray) (i : Nat) : NZ (lN s i) := by
  unfold lN
  repeat' split
  all_goals first | exact mH _ | exact nz_hex _ _ | exact gU (by decide)
theorem nz_one (s : ByteArray) (i : Nat) : NZ (kZ s i) := by
  unfold kZ
  repeat' split
  all_goals first | exact mH _ | exact gU (by decide) | exact gU ((UL _ _).ne (by assumption))
theorem UF (s : ByteArray) (i : Nat) : NZ (iP s i) := by
  unfold iP
  repeat' split
  all_goals first | exact mH _ | exact gU (by decide) | exact gU ((nz_one _ _).ne (by assumption))
theorem UJ (s : ByteArray) (i : Nat) : NZ (lD s i) := by
  unfold lD
  repeat' split
  all_goals first | exact mH _ | exact UF _ _
theorem nz_item (s : ByteArray) (i : Nat) : NZ (jD s i) := by
  unfold jD
  repeat' split
  all_goals first | exact mH _ | exact UJ _ _ | exact gU (by decide)
theorem HX (s : ByteArray) : ∀ f b S i, NZ (gB s f b S i)
  | 0, b, S, i => gU (by decide)
  | f + 1, b, S, i => by
    unfold gB
    repeat' split
    all_goals first | exact mH _ | exact HX s f _ _ _ | exact gU (by decide) | exact gU ((nz_item _ _).ne (by assumption))
theorem UM (s : ByteArray) (fl : Fl) (i : Nat) : NZ (lE s fl i) := by
  unfold lE
  split
  · exact gU ((HX _ _ _ _ _).ne (by assumption))
  · exact mH _
theorem nz_brk {s : ByteArray} {ex : PS → PX Rx} (h : ∀ st, NZ (ex st)) (st : PS) : NZ (mZ s ex st) := by
  unfold mZ
  dsimp only
  repeat' split
  all_goals first | exact mH _ | exact gU (by decide) | exact gU (by assumption) | exact gU ((h _).ne (by assumption))
theorem UG (s : ByteArray) (st : PS) : NZ (qG s st) := by
  unfold qG
  split <;> exact mH _
theorem QI (s : ByteArray) (st : PS) : NZ (gJ s st) := by
  unfold gJ
  repeat' split
  all_goals first | exact mH _ | exact UG _ _ | exact gU (by decide) | exact gU ((UL _ _).ne (by assumption))
theorem UH {s : ByteArray} {ex : PS → PX Rx} (h : ∀ st, NZ (ex st)) (st : PS) : NZ (fQ s ex st) := by
  unfold fQ
  repeat' split
  all_goals first | exact mH _ | exact nz_brk h _ | exact QI _ _ | exact gU ((UM _ _ _).ne (by assumption)) | (unfold jR; exact mH _)
theorem LO {s : ByteArray} {ex : PS → PX Rx} (h : ∀ st, NZ (ex st)) : ∀ f l ah st, NZ (iR s ex f l ah st)
  | 0, l, ah, st => mH _
  | f + 1, l, ah, st => by
    unfold iR
    dsimp only
    repeat' split
    all_goals first | exact mH _ | exact LO h f _ _ _ | exact gU (by decide) | exact gU ((UH h _).ne (by assumption))
theorem NO {s : ByteArray} {ex : PS → PX Rx} (h : ∀ st, NZ (ex st)) : ∀ f l st, NZ (pJ s ex f l st)
  | 0, l, st => mH _
  | f + 1, l, st => by
    unfold pJ
    repeat' split
    all_goals first | exact mH _ | exact NO h f _ _ | exact gU ((LO h _ _ _ _).ne (by assumption))
theorem NM {s : ByteArray} {ex : PS → PX Rx} (h : ∀ st, NZ (ex st)) (st : PS) : NZ (nC s ex st) := by
  unfold nC
  split
  · exact gU ((LO h _ _ _ _).ne (by assumption))
  · exact NO h _ _ _
theorem UK (s : ByteArray) : ∀ n st, NZ (oL s n st)
  | 0, st => NM (fun _ => gU (by decide)) st
  | n + 1, st => NM (UK s n) st
theorem UI (s : ByteArray) : NZ (iV s) := by
  unfold iV
  repeat' split
  all_goals first | exact mH _ | exact gU (by decide) | exact gU ((UK _ _ _).ne (by assumption))
end Go.Proofs.YtljadkcojnlioaaGreatDoor
