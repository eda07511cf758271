/- IndexKeeps holds of every list of label sets and any two texts whose values and letters are together at most 1048576 (the form Upto): the index keeps copies: sets written over behind New, and answers written over and grown, change no other answer. Condition: the variable internal/bytealg.MaxLen holds a whole number, as the program's text lays it. -/
import Derived.Test.YtidpigbinpaaeaaGreatZkA
set_option linter.unusedSectionVars false
set_option linter.unusedSimpArgs false
set_option linter.unusedVariables false
namespace Go.Proofs.YtidpigbinpaaeaaGreat
open Go.RowKit Go.W
attribute [local irreducible] Decidable.decide
theorem dJ : iY Tryz.prog 49 = some false := by kernel_rfl
theorem cT : pR Tryz.prog 37 37 = some (3, 1, 8) := by kernel_rfl
theorem lH : Build Tryz.prog 88 #[(0, 1), (1, 1)] #[.int .i64 0, .map none] := ⟨_, .agg #[.int .i64 0, .map none], Tryz.underlying88, by kernel_rfl, rfl, fun w => by kernel_rfl⟩
theorem cJ : jL Tryz.prog 32 = some 1 := by kernel_rfl
theorem dB : gT Tryz.prog 88 1 = some 1 := by kernel_rfl
theorem nN : cS Tryz.prog 35 := ⟨_, Tryz.func35, by kernel_rfl, by kernel_rfl⟩
theorem mY : fO Tryz.prog 49 = some 1 := by kernel_rfl
theorem cL : iQ Tryz.prog 37 = some (3, 1) := by kernel_rfl
set_option maxHeartbeats 4000000 in
theorem sO {w : World} {v : Value} {sets : List (List LB)} (hs : RSl 1 (RSlice 2 RLB) [] w v sets) (hl1 : sets.length ≤ 2000000) (hl2 : ∀ i (h : i < sets.length), sets[i].length ≤ 2000000) (hl3 : (bL sets sets.length).length ≤ 100000000) :
    Calls Tryz.prog 14 #[v] w (Ret fun r w' => (r = .tuple #[.pointer none, .int .i64 160] ∧ (∃ i, ∃ h : i < sets.length, ¬ jS sets[i]) ∧ Evo [] w w') ∨
      ∃ bx mb D, r = .tuple #[.pointer (some ⟨bx, 0, none⟩), .int .i64 0] ∧ (∀ i (h : i < sets.length), jS sets[i]) ∧ IxAt w' w.heap.size bx sets.length mb D ∧ Knows D (bL sets sets.length) ∧ Evo [] w w') := by
  obtain ⟨sa, sc, rfl, hlc, e1⟩ := hs; refine aR (N := 61) Tryz.func14 rfl rfl rfl ?_; refine csr (bY (wan (csr (aD (aI (aO rfl Tryz.underlying32 rfl) ?_))))); refine jY rfl fun mb w1 f2 f3 g2 => ?_; have g3 := f3; have f4 := (Evo.refl [] w).then g2; refine aI (eT (vs := [(0, _), (1, _)]) lH rfl (cells := [_, _]) rfl) ?_; refine qB rfl rfl fun bx w7 g4 c9 d0 => ?_; have g5 := c9; have g6 : IxAt w7 w.heap.size bx sets.length mb [] := IxAt.nil g4 (f2.evo0 d0) ((Ge.new (Evo.refl [] w) f3) _ rfl) ((Ge.new f4 c9) _ rfl) (fun e => (Apart.new (Lt.map f2) c9) mb rfl (congrArg some e)); refine wan (aE (csr (aD (aI (aO rfl Tryz.underlying32 rfl) ?_)))); refine aD (wnn (aL (bQ (α := Nat × List En) ((0, [])) (fun x => [(17, .int .i64 (x.1 : Nat))]) [(4, _), (15, _), (16, _)] (fun x wr => Evo [] w wr ∧ (x.1 ≤ sets.length ∧ (∀ j (h : j < sets.length), j < x.1 → jS sets[j]) ∧ IxAt wr w.heap.size bx sets.length mb x.2 ∧ Knows x.2 (bL sets x.1))) (fun x => sets.length - x.1) ⟨rfl, trivial⟩ ⟨rfl, rfl, rfl, trivial⟩ ⟨(f4.then d0), ⟨Nat.zero_le _, fun j h h2 => absurd h2 (Nat.not_lt_zero _), g6, Knows.nil⟩⟩ ?_))); rintro ⟨i, D⟩ wr15 ⟨W, ⟨hi, hvd, hI, hKn⟩⟩; show CW _ _ _ _ [(17, .int .i64 (i : Nat)), (4, _), (15, _), (16, _)] _
  try dsimp only at hi hvd hI hKn
  refine csr (aI (cE rfl rfl) ?_); refine wnn (aE (cC rfl (fun f5 => ?_) (fun f5 => ?_)))
  ·have hi' : i < sets.length := by omega
   obtain ⟨b1, o1, vs1, ha1, -, -, g7, va, rfl, hrs0⟩ := e1 i hi'; obtain ⟨ls, hls⟩ : ∃ l, l = sets[i] := ⟨_, rfl⟩; have hrs := RSl.evo RLB.pers W hrs0; rw [← hls] at hrs hrs0
   have hll : ls.length ≤ 2000000 := by rw [hls]; exact hl2 i hi'
   obtain ⟨la, lc, rfl, hlc2, e2⟩ := id hrs0; refine aZ (aC (aE (aL (csr (aD ?_)))))
   refine aI (aS (n := i) (by rw [ha1]; rfl) rfl cJ (by omega)) ?_
   refine aI (bE rfl dJ ((g7.evo W (by simp)) 0 _ rfl)) ?_; refine bY (wan (aE (csr (aD ?_)))); refine aJ (vs := [_]) nN rfl (qO hrs (by omega)) rfl ?_; rintro _ h8 ⟨bv, rfl, hbv, d3⟩; have d4 := W.then d3; refine aI (eM rfl) ?_; refine wnn (tG rfl (fun Y => ?_) (fun Y => ?_))
   ·refine csr (bY (wan (bA (aX (bG (aX (aX (bG (aX (iX rfl rfl rfl ?_))))))))))
    exact .inl ⟨rfl, ⟨i, hi', fun h => by rw [← hls] at h; rw [hbv.2 h] at Y; cases Y⟩, d4⟩
   refine aZ (aC (csr (aD (aI (aO rfl Tryz.underlying49 rfl) ?_)))); refine aD (wnn (aL ?_)); refine bQ (α := Nat × List En) ((0, D)) (fun x => [(27, .int .i64 (x.1 : Nat))]) [(4, _), (5, _), (15, _), (16, _), (17, _), (25, _), (26, _)] (fun x wr => Evo [] w wr ∧ (x.1 ≤ ls.length ∧ IxAt wr w.heap.size bx sets.length mb x.2 ∧ Knows x.2 (bL sets i ++ cZ (ls.take x.1) i))) (fun x => ls.length - x.1) ⟨rfl, trivial⟩ ⟨rfl, rfl, rfl, rfl, rfl, rfl, rfl, trivial⟩ ⟨d4, ⟨Nat.zero_le _, (hI.evo0 d3), by simpa [cZ] using hKn⟩⟩ ?_; rintro ⟨k, D⟩ wr21 ⟨Z, ⟨hk, hI, hKn⟩⟩; show CW _ _ _ _ [(27, .int .i64 (k : Nat)), (4, _), (5, _), (15, _), (16, _), (17, _), (25, _), (26, _)] _
   try dsimp only at hk hI hKn
   refine csr (aI (cE rfl rfl) ?_); refine wnn (aE (cC rfl (fun f6 => ?_) (fun f6 => ?_)))
   ·have hk' : k < ls.length := by omega
    obtain ⟨b2, o2, vs2, ha2, -, -, g8, rfl, hz1, hz2⟩ := e2 k hk'; refine aZ (aC (aE (aL (csr ?_))))
    refine aI (aS (n := k) (by rw [ha2]; rfl) rfl cU (by omega)) ?_
    refine aI (iG rfl eN cI (vs := [_, _]) rfl (g8.evo Z (by simp))) ?_; have hIlt9 := (hI).lt; refine nT rfl iJ fun b8 h9 f7 d5 d6 => ?_; have d7 := d5
    have hb8I : b8 ∉ Ixl bx mb D := fun hb => by have := hIlt9 b8 hb; have := d7; omega
    refine jA rfl rfl cI f7 rfl rfl ⟨by first | rfl | assumption, by first | rfl | assumption, trivial⟩ fun i0 b6 d8 => ?_; have b7 := (Z.then d6).step d8 (Ge.new Z d5).mem1
    have d9 := (hI.evo0 d6).evo d8 (fun b hb hm => by simp at hm; subst hm; exact hb8I hb)
    refine wnn (aE ?_)
    rcases hlk : bU (D.map En.kv) ls[k].1 with _ | vv
    ·refine gV (fun w0 w' => Evo [] w0 w') (by kernel_rfl) (fun M a0 => ?_); have a1 := d9.evo0 a0; have b9 := a0.blk0 b6; refine aet 0 rfl (fun _ hS => bD rfl) (Evo.refl [] M) ?_; refine aet 1 rfl (fun _ hS => dG rfl) (Evo.refl [] M) ?_; refine aet 2 rfl (fun _ hS => bH rfl dB) (Evo.refl [] M) ?_; refine aet 3 rfl (fun _ hS => bE rfl dI (bR ((a1.evo0 hS)).box rfl)) (Evo.refl [] M) ?_; refine aet 4 rfl (fun _ hS => bH rfl cR) (Evo.refl [] M) ?_; refine aet 5 rfl (fun _ hS => bE rfl bM (bR (hS.blk0 b9) rfl)) (Evo.refl [] M) ?_
     refine aet 6 rfl (fun _ hS => dL rfl rfl Tryz.underlying86 Tryz.underlying9 (z := .map none) (by kernel_rfl) ((a1.evo0 hS)).map (r := .map none) (by rw [hlk]; rfl)) (Evo.refl [] M) ?_
     refine aet 7 rfl (fun _ hS => iW rfl) (Evo.refl [] M) ?_; refine dO (by kernel_rfl) (aC ?_); refine aE (csr (aD (aI (oI rfl rfl Tryz.underlying89) ?_))); refine wnn (dD rfl ?_); refine csr ?_; have hIlt := (a1).lt; refine jY rfl fun nb i1 f8 c0 c1 => ?_; have g9 := c0
     have hnbI : nb ∉ Ixl bx mb D := fun hb => by have := hIlt nb hb; omega
     have hnbg : w.heap.size ≤ nb := (Ge.new (b7.then a0) c0) _ rfl; have hb8n : b8 ≠ nb := fun e => (Apart.new (Lt.blk b9) c0) _ (congrArg some e) rfl; refine wan ?_; refine gV (fun w0 w' => Evo [] w0 w') (by kernel_rfl) (fun V a2 => ?_); have a3 := (a1.evo0 c1).evo0 a2; have e0 := a2.blk0 (c1.blk0 b9); refine aet 0 rfl (fun _ hS => bD rfl) (Evo.refl [] V) ?_; refine aet 1 rfl (fun _ hS => dG rfl) (Evo.refl [] V) ?_; refine aet 2 rfl (fun _ hS => bH rfl dB) (Evo.refl [] V) ?_; refine aet 3 rfl (fun _ hS => bE rfl dI (bR ((a3.evo0 hS)).box rfl)) (Evo.refl [] V) ?_; refine aet 4 rfl (fun _ hS => bH rfl cR) (Evo.refl [] V) ?_; refine aet 5 rfl (fun _ hS => bE rfl bM (bR (hS.blk0 e0) rfl)) (Evo.refl [] V) ?_; refine aet 6 rfl (fun _ hS => bD rfl) (Evo.refl [] V) ?_; refine dN [7] (by kernel_rfl) rfl ⟨?_, trivial⟩; refine eG rfl ?_; refine eV rfl rfl rfl Tryz.underlying86 Tryz.underlying9 (a3).map fun w7 a9 J => ?_; have c4 := IxAt.addName a3 hnbg hnbI (f8.evo0 a2) a9 J hlk
     have e3 := (((b7.then a0).then c1).then a2).step J (by intro y hy; simp at hy; subst hy; exact .inr (a3).ge)
     have e4 := J.blk e0 (by simp; exact fun e => hb8I (by rw [e]; simp [Ixl]))
     refine bF (dM (.inr (by kernel_rfl)) ?_); refine dO (by kernel_rfl) (aC ?_); have hem := (c4).ent (e := (⟨ls[k].1, nb, []⟩ : En)) (by simp); obtain ⟨V1, o, V2, va, vn, vc, ids, ob, hvs, hgv, hown, hfo, hput, hcase⟩ := hem.find ls[k].2; obtain ⟨hemo, hobI⟩ := (c4).obs (e := (⟨ls[k].1, nb, []⟩ : En)) (by simp) hvs hfo; have hemI := (c4).gee (e := (⟨ls[k].1, nb, []⟩ : En)) (by simp); have b4 := hem.1
     have hb8J : b8 ∉ Ixl bx mb (D ++ [(⟨ls[k].1, nb, []⟩ : En)]) := by intro hb; simp only [Ixl, List.flatMap_append, List.flatMap_cons, List.flatMap_nil, List.append_nil, En.bl, List.mem_append, List.mem_cons, List.not_mem_nil, or_false] at hb hb8I; simp only [not_or] at hb8I; rcases hb with h | h | h | h; exact hb8I.1 h; exact hb8I.2.1 h; exact hb8I.2.2 h; exact hb8n h
     have hb8o : b8 ∉ ob.toList := fun hb => hb8J (hobI b8 hb).2
     have h0 : Apart (some b8) ob := fun g h1 h2 => by cases h1; exact hb8o (by simp [h2])
     have e5 : Apart (some (⟨ls[k].1, nb, []⟩ : En).mb) ob := fun g h1 h2 => by cases h1; exact hemo (by simp [h2])
     have hGob : Ge w ob := fun g hg => (hobI g (by simp [hg])).1
     have hidl : ids.length ≤ (bL sets i ++ cZ (ls.take k) i).length := by rcases hcase with ⟨_, _, rfl⟩ | ⟨x, hx, _⟩; exact Nat.zero_le _; have := (lQ hvs).2.1; rw [this] at hx; cases hx
     have hrl : (bL sets i ++ cZ (ls.take k) i).length ≤ 100000000 := by have := mN (k := k) hi'; rw [← hls] at this; omega
     have hvn := jH hown; refine gV (fun w0 w' => Evo ob.toList w0 w') (by kernel_rfl) (fun I E => ?_); refine aet 0 rfl (fun _ hS => bD rfl) (Evo.refl ob.toList I) ?_; refine aet 1 rfl (fun _ hS => bH rfl cO) (Evo.refl ob.toList I) ?_; refine aet 2 rfl (fun _ hS => bE rfl bM (bR (hS.blk (E.blk0 e4) (hb8o)) rfl)) (Evo.refl ob.toList I) ?_; refine aet 3 rfl (fun _ hS => bD rfl) (Evo.refl ob.toList I) ?_; refine aet 4 rfl (fun _ hS => bH rfl cO) (Evo.refl ob.toList I) ?_; refine aet 5 rfl (fun _ hS => bE rfl bM (bR (hS.blk (E.blk0 e4) (hb8o)) rfl)) (Evo.refl ob.toList I) ?_; refine aet 6 rfl (fun _ hS => dL rfl rfl Tryz.underlying89 Tryz.underlying9 (z := .slice none 0 0) (by kernel_rfl) ((b4.evo0 E).evo hS (hemo)) (r := .slice va vn vc) hgv) (Evo.refl ob.toList I) ?_; refine aet 7 rfl (fun _ hS => bD rfl) (Evo.refl ob.toList I) ?_; refine dN [8] (by kernel_rfl) rfl ⟨?_, trivial⟩; refine eG rfl ?_; refine bS (vs := [_]) rfl cL rfl rfl rfl rfl fun i2 i3 f9 h5 a4 => ?_; have c2 := (Evo.refl ob.toList I).then a4; refine bF (dM (.inl c2) ?_); refine dN [9] (by kernel_rfl) rfl ⟨?_, trivial⟩; refine eG rfl ?_
     have hsz14 := (c2).size; refine cK rfl rfl rfl rfl cT ((hown.evo0 E).evo0 a4) (Src.ofOwn f9 ⟨by first | rfl | assumption, trivial⟩) (by omega) fun a7 c7 h3 ob7 e6 c3 hob85 => ?_; have e7 := c2.step c3 (fun y hy => .inl hy); have hob7 : ob7 = ob ∨ ∃ g, ob7 = some g ∧ I.heap.size ≤ g := hob85.imp id (fun ⟨g, h1, h2⟩ => ⟨g, h1, Nat.le_trans hsz14 h2⟩); refine bF (dM (.inl e7) ?_); refine dN [10] (by kernel_rfl) rfl ⟨?_, trivial⟩; refine eG rfl ?_; refine eV rfl rfl rfl Tryz.underlying89 Tryz.underlying9 (((b4.evo0 E).evo0 a4).evo c3 e5.nmem) fun w7 a9 J => ?_; obtain ⟨x7, hx7⟩ : ∃ x : Vl, x = ⟨ls[k].2, a7, vn + 1, c7, ids ++ [(i : Int)], ob7⟩ := ⟨_, rfl⟩
     have hx7a : x7.At h3 := by subst hx7; unfold Vl.At; rw [List.map_append]; exact e6
     have e8 : MapAt w7 (⟨ls[k].1, nb, []⟩ : En).mb ((V1 ++ x7 :: V2).map Vl.kv) := by rw [← hput x7 (by subst hx7; rfl)]; subst hx7; exact a9
     have e9 := IxAt.put (c4.evo0 E) hvs hfo (Evo.size (e3.then E)) hx7a e7 (by subst hx7; exact hob7) e8 J
     obtain ⟨rfl, rfl, rfl⟩ := lQ hvs
     have hids0 : ids = [] := by rcases hcase with ⟨_, _, h⟩ | ⟨x, h, _⟩; exact h; cases h
     have b5 := hKn.newName (n := ls[k].1) (v := ls[k].2) (i := (i : Int)) (e := { (⟨ls[k].1, nb, []⟩ : En) with vs := [] ++ x7 :: [] }) (x := x7) (sS hlk) rfl (by subst hx7; rfl) (by subst hx7; subst hids0; rfl) rfl
     rw [List.append_assoc, ← jG hk'] at b5
     have g0 := (((e3.then E).then a4).step c3 hGob.mem).step J (by intro y hy; simp at hy; subst hy; exact .inr hemI.1)
     refine bF (dM (.inr (by kernel_rfl)) ?_); refine dO (by kernel_rfl) (bC (aC ?_)); refine aK ?_; refine aI (bB rfl rfl (by omega) (by omega)) ?_; refine aD (bF (bJ ?_)); refine ⟨(k + 1, D ++ [{ (⟨ls[k].1, nb, []⟩ : En) with vs := [] ++ x7 :: [] }]), ?_, ⟨rfl, trivial⟩, ⟨rfl, rfl, rfl, rfl, rfl, rfl, rfl, trivial⟩, g0, ?_⟩
     · (try dsimp only); omega
     try dsimp only
     exact ⟨by omega, e9, b5⟩
    obtain ⟨D1, e, D2, rfl, hen, hnn⟩ := eZ hlk; obtain ⟨hnm, hvv⟩ := Prod.mk.inj (show (e.nm, Value.map (some e.mb)) = (ls[k].1, vv) from hen); subst hvv; refine gV (fun w0 w' => Evo [] w0 w') (by kernel_rfl) (fun O a5 => ?_); have L := d9.evo0 a5; refine aet 0 rfl (fun _ hS => bD rfl) (Evo.refl [] O) ?_; refine aet 1 rfl (fun _ hS => dG rfl) (Evo.refl [] O) ?_; refine aet 2 rfl (fun _ hS => bH rfl dB) (Evo.refl [] O) ?_; refine aet 3 rfl (fun _ hS => bE rfl dI (bR ((L.evo0 hS)).box rfl)) (Evo.refl [] O) ?_; refine aet 4 rfl (fun _ hS => bH rfl cR) (Evo.refl [] O) ?_; refine aet 5 rfl (fun _ hS => bE rfl bM (bR (hS.blk0 (a5.blk0 b6)) rfl)) (Evo.refl [] O) ?_
    refine aet 6 rfl (fun _ hS => dL rfl rfl Tryz.underlying86 Tryz.underlying9 (z := .map none) (by kernel_rfl) ((L.evo0 hS)).map (r := .map (some e.mb)) (by rw [hlk]; rfl)) (Evo.refl [] O) ?_
    refine aet 7 rfl (fun _ hS => iW rfl) (Evo.refl [] O) ?_; refine dO (by kernel_rfl) (aC ?_); refine aE (csr (aD (aI (oI rfl rfl Tryz.underlying89) ?_))); refine wnn (bV rfl ?_); refine aZ (aC ?_); have hem := (L).ent (e := e) (by simp); obtain ⟨V1, o, V2, va, vn, vc, ids, ob, hvs, hgv, hown, hfo, hput, hcase⟩ := hem.find ls[k].2; obtain ⟨hemo, hobI⟩ := (L).obs (e := e) (by simp) hvs hfo; have hemI := (L).gee (e := e) (by simp); have b4 := hem.1; have hb8J := hb8I; have hb8o : b8 ∉ ob.toList := fun hb => hb8J (hobI b8 hb).2
    have h0 : Apart (some b8) ob := fun g h1 h2 => by cases h1; exact hb8o (by simp [h2])
    have e5 : Apart (some e.mb) ob := fun g h1 h2 => by cases h1; exact hemo (by simp [h2])
    have hGob : Ge w ob := fun g hg => (hobI g (by simp [hg])).1; have hidl := hKn.ids_le (e := e) (by simp) hvs hcase
    have hrl : (bL sets i ++ cZ (ls.take k) i).length ≤ 100000000 := by have := mN (k := k) hi'; rw [← hls] at this; omega
    have hvn := jH hown; refine gV (fun w0 w' => Evo ob.toList w0 w') (by kernel_rfl) (fun A H => ?_); have c5 := (b7.then a5).then H; have c6 := H.blk0 (a5.blk0 b6); refine aet 0 rfl (fun _ hS => bD rfl) (Evo.refl ob.toList A) ?_; refine aet 1 rfl (fun _ hS => bH rfl cO) (Evo.refl ob.toList A) ?_; refine aet 2 rfl (fun _ hS => bE rfl bM (bR (hS.blk c6 (hb8o)) rfl)) (Evo.refl ob.toList A) ?_; refine aet 3 rfl (fun _ hS => bD rfl) (Evo.refl ob.toList A) ?_; refine aet 4 rfl (fun _ hS => bH rfl cO) (Evo.refl ob.toList A) ?_; refine aet 5 rfl (fun _ hS => bE rfl bM (bR (hS.blk c6 (hb8o)) rfl)) (Evo.refl ob.toList A) ?_; refine aet 6 rfl (fun _ hS => dL rfl rfl Tryz.underlying89 Tryz.underlying9 (z := .slice none 0 0) (by kernel_rfl) ((b4.evo0 H).evo hS (hemo)) (r := .slice va vn vc) hgv) (Evo.refl ob.toList A) ?_; refine aet 7 rfl (fun _ hS => bD rfl) (Evo.refl ob.toList A) ?_; refine dN [8] (by kernel_rfl) rfl ⟨?_, trivial⟩; refine eG rfl ?_; refine bS (vs := [_]) rfl cL rfl rfl rfl rfl fun h6 h7 f0 h4 U => ?_; have a6 := (Evo.refl ob.toList A).then U; refine bF (dM (.inl a6) ?_)
    refine dN [9] (by kernel_rfl) rfl ⟨?_, trivial⟩; refine eG rfl ?_; have hsz14 := (a6).size; refine cK rfl rfl rfl rfl cT ((hown.evo0 H).evo0 U) (Src.ofOwn f0 ⟨by first | rfl | assumption, trivial⟩) (by omega) fun a7 c7 g1 ob7 e6 a8 hob129 => ?_; have c8 := a6.step a8 (fun y hy => .inl hy); have hob7 : ob7 = ob ∨ ∃ g, ob7 = some g ∧ A.heap.size ≤ g := hob129.imp id (fun ⟨g, h1, h2⟩ => ⟨g, h1, Nat.le_trans hsz14 h2⟩); refine bF (dM (.inl c8) ?_); refine dN [10] (by kernel_rfl) rfl ⟨?_, trivial⟩; refine eG rfl ?_; refine eV rfl rfl rfl Tryz.underlying89 Tryz.underlying9 (((b4.evo0 H).evo0 U).evo a8 e5.nmem) fun w7 a9 J => ?_; obtain ⟨x7, hx7⟩ : ∃ x : Vl, x = ⟨ls[k].2, a7, vn + 1, c7, ids ++ [(i : Int)], ob7⟩ := ⟨_, rfl⟩
    have hx7a : x7.At g1 := by subst hx7; unfold Vl.At; rw [List.map_append]; exact e6
    have e8 : MapAt w7 e.mb ((V1 ++ x7 :: V2).map Vl.kv) := by rw [← hput x7 (by subst hx7; rfl)]; subst hx7; exact a9
    have e9 := IxAt.put (L.evo0 H) hvs hfo (Evo.size c5) hx7a c8 (by subst hx7; exact hob7) e8 J
    have b5 := hKn.put' hvs hnm (x' := x7) (ids := ids) (i := (i : Int)) (v := ls[k].2) (by subst hx7; rfl) (by subst hx7; rfl) hcase
    rw [List.append_assoc, ← jG hk'] at b5
    have f1 := ((c5.then U).step a8 hGob.mem).step J (by intro y hy; simp at hy; subst hy; exact .inr hemI.1)
    refine bF (dM (.inr (by kernel_rfl)) ?_); refine dO (by kernel_rfl) (bC (aC ?_)); refine aK ?_; refine aI (bB rfl rfl (by omega) (by omega)) ?_; refine aD (bF (bJ ?_)); refine ⟨(k + 1, D1 ++ { e with vs := V1 ++ x7 :: V2 } :: D2), ?_, ⟨rfl, trivial⟩, ⟨rfl, rfl, rfl, rfl, rfl, rfl, rfl, trivial⟩, f1, ?_⟩
    · (try dsimp only); omega
    try dsimp only
    exact ⟨by omega, e9, b5⟩
   refine bP (aT (aT (bO (bC (aC ?_))))); refine aK ?_; refine aI (bB rfl rfl (by omega) (by omega)) ?_; refine aD (bF (bJ ?_)); refine ⟨(i + 1, D), ?_, ⟨rfl, trivial⟩, ⟨rfl, rfl, rfl, trivial⟩, Z, ?_⟩
   · (try dsimp only); omega
   try dsimp only
   refine ⟨by omega, fun j h hj => ?_, hI, ?_⟩
   · by_cases e : j = i
     · subst e; rw [← hls]; exact hbv.1 (by simpa using Y)
     · exact hvd j h (by omega)
   · rw [List.take_of_length_le (by omega)] at hKn; rw [fS hi', ← hls]; exact hKn
  refine bP (aT (aT (bO (aC ?_)))); refine csr (aD (bY (wan (bA (iX rfl rfl rfl ?_)))))
  obtain rfl : i = sets.length := by omega
  exact .inr ⟨bx, mb, D, rfl, fun j h => hvd j h h, hI, hKn, W⟩
end Go.Proofs.YtidpigbinpaaeaaGreat
namespace Go.Proofs.YtidpigbinpaaeaaGreat
open Go.RowKit Go.W
theorem nm_inj {D : List En} {e e2 : En} (h : (D.map En.nm).Nodup) (h1 : e ∈ D) (h2 : e2 ∈ D) (he : e.nm = e2.nm) : e = e2 := by
  induction D with
  | nil => simp at h1
  | cons x D ih =>
    simp only [List.map_cons, List.nodup_cons] at h
    rcases List.mem_cons.1 h1 with k1 | k1 <;> rcases List.mem_cons.1 h2 with k2 | k2
    · rw [k1, k2]
    · exact absurd (by rw [← k1, he]; exact List.mem_map.2 ⟨e2, k2, rfl⟩) h.1
    · exact absurd (by rw [← k2, ← he]; exact List.mem_map.2 ⟨e, k1, rfl⟩) h.1
    · exact ih h.2 k1 k2
theorem sA {α : Type} {l : List α} {f : α → Nat} (h : ∀ x, x ∈ l → 1 ≤ f x) : l.length ≤ (l.map f).sum := by
  induction l with
  | nil => simp
  | cons x l ih =>
    have h1 := h x (by simp)
    have h2 := ih (fun y hy => h y (by simp [hy]))
    simp only [List.length_cons, List.map_cons, List.sum_cons]; omega
theorem sum_mem {α : Type} {l : List α} {f : α → Nat} {x : α} (h : x ∈ l) : f x ≤ (l.map f).sum := by
  induction l with
  | nil => simp at h
  | cons y l ih =>
    simp only [List.map_cons, List.sum_cons]
    rcases List.mem_cons.1 h with rfl | h
    · omega
    · have := ih h; omega
def En.cnt (e : En) : Nat := (e.vs.map fun x => x.ids.length).sum
theorem Knows.vs_le {D : List En} {T : List Tr} {e : En} (h : Knows D T) (he : e ∈ D) : e.vs.length ≤ e.cnt := by
  refine sA fun x hx => ?_
  have := (h.ids e he x hx).2
  exact List.length_pos_iff.2 this
theorem Knows.cnt_le {D : List En} {T : List Tr} {e : En} (h : Knows D T) (he : e ∈ D) : e.cnt ≤ T.length := by
  rw [← h.sum]; exact sum_mem (f := En.cnt) he
theorem Knows.len_le {D : List En} {T : List Tr} (h : Knows D T) : D.length ≤ T.length := by
  rw [← h.sum]
  refine sA (f := En.cnt) fun e he => ?_
  have h1 := h.vs_le he
  have h2 := List.length_pos_iff.2 (h.ne e he)
  omega
theorem gE {T : List Tr} {n v : ByteArray} {i : Int} : i ∈ cY T n v ↔ (n, v, i) ∈ T := by
  unfold cY
  rw [List.mem_map]
  constructor
  · rintro ⟨t, ht, rfl⟩
    have := List.mem_filter.1 ht
    have h2 := of_decide_eq_true this.2
    obtain ⟨a, b, c⟩ := t
    simp only at h2
    obtain ⟨rfl, rfl⟩ := h2
    exact this.1
  · intro h
    exact ⟨_, List.mem_filter.2 ⟨h, by simp⟩, rfl⟩
theorem rD {sets : List (List LB)} {m : Nat} {t : Tr} (h : t ∈ bL sets m) : ∃ i, ∃ h : i < sets.length, i < m ∧ t.2.2 = (i : Int) ∧ (t.1, t.2.1) ∈ sets[i] := by
  unfold bL at h
  obtain ⟨j, hj, h⟩ := List.mem_flatMap.1 h
  unfold cZ at h
  obtain ⟨l, hl, rfl⟩ := List.mem_map.1 h
  have hjm := List.mem_range.1 hj
  by_cases hjl : j < sets.length
  · exact ⟨j, hjl, hjm, rfl, by simpa [hjl] using hl⟩
  · simp [Nat.not_lt.1 hjl] at hl
end Go.Proofs.YtidpigbinpaaeaaGreat
namespace Go.Proofs.YtidpigbinpaaeaaGreat
open Go.W
theorem own_at {w : World} {e : TypeId} {a : Option Addr} {n c k : Nat} {zs : List Int} {ob : Option Nat} (h : OwnS w e 1 a n c (zs.map iv3) ob) (hk : k < zs.length) : ∃ gb, ob = some gb ∧ a = some ⟨gb, 0, none⟩ ∧ w.cell? ⟨gb, 0 + k * 1, none⟩ = some (iv3 zs[k]) := by
  have hn := jH h
  obtain ⟨g, hg, ha, hc⟩ := h.cells (by omega)
  refine ⟨g, hg, ha, ?_⟩
  have := hc k (iv3 zs[k]) (by simp [hk])
  rwa [Nat.mul_one]
end Go.Proofs.YtidpigbinpaaeaaGreat
namespace Go.Proofs.YtidpigbinpaaeaaGreat
open Go.W
attribute [local irreducible] Decidable.decide
theorem fJ : iY Tryz.prog 3 = some false := by kernel_rfl
theorem cX : jL Tryz.prog 37 = some 1 := by kernel_rfl
theorem gA : fO Tryz.prog 3 = some 1 := by kernel_rfl
theorem same_ok {X Y : List Nat} {w : World} {v1 v2 : Value} {d1 d2 : List Int} (h1 : RSl 1 RZ X w v1 d1) (h2 : RSl 1 RZ Y w v2 d2) (hl : d1.length ≤ 140737488355328) (hl' : d2.length ≤ 140737488355328) :
    Calls Tryz.prog 16 #[v1, v2] w (Ret fun v w' => v = .bool (decide (d1 = d2)) ∧ Evo [] w w') := by
  obtain ⟨a1, c1, rfl, hlc1, e1⟩ := h1; obtain ⟨a2, c2, rfl, hlc2, e2⟩ := h2; refine aR (N := 26) Tryz.func16 rfl rfl rfl ?_; refine csr (wan (aE (csr (aD (aI (aO rfl Tryz.underlying37 rfl) ?_))))); refine aD (aI (aO rfl Tryz.underlying37 rfl) ?_); refine aI (kM rfl rfl) ?_; refine wnn (cC rfl (fun I => ?_) (fun I => ?_))
  ·refine csr (wan (bA (aX (br1 ?_)))); exact ⟨congrArg Value.bool (decide_eq_false (fun h => I (by rw [h]))).symm, (Evo.refl [] w)⟩
  refine aZ (aC (aE (csr (wan (aL (bQ (α := Nat) (0) (fun k => [(5, .int .i64 (k : Nat))]) [(0, _), (1, _)] (fun k wr => Evo [] w wr ∧ (k ≤ d1.length ∧ d1.take k = d2.take k)) (fun k => d1.length - k) ⟨rfl, trivial⟩ ⟨rfl, rfl, trivial⟩ ⟨Evo.refl _ _, ⟨Nat.zero_le _, rfl⟩⟩ ?_)))))); rintro k wr1 ⟨J, ⟨hk, hpre⟩⟩; show CW _ _ _ _ [(5, _), (0, _), (1, _)] _; have H := (Evo.refl [] w).then J; refine aE (csr (aD (aD (aI (aO rfl Tryz.underlying37 rfl) ?_)))); refine aI (cE rfl rfl) ?_; refine wnn (cC rfl (fun L => ?_) (fun L => ?_))
  ·obtain ⟨b1, o1, vs1, ha1, hb1, -, M, rfl⟩ := e1 k (by omega); obtain ⟨b2, o2, vs2, ha2, hb2, -, O, rfl⟩ := e2 k (by omega); refine aZ (aC (aE (aL (aE ?_)))); refine oM (by kernel_rfl) (by kernel_rfl) ?_; refine fM (fun _ A => bD rfl) ?_; refine fM (fun _ A => bD rfl) ?_
   refine fM (fun _ A => aS (n := k) (by rw [ha1]; rfl) rfl cX (by omega)) ?_
   refine fM (fun _ A => bE rfl fJ ((M.evo (((H.then A)).any X) hb1) 0 _ rfl)) ?_; refine fM (fun _ A => bD rfl) ?_; refine fM (fun _ A => bD rfl) ?_
   refine fM (fun _ A => aS (n := k) (by rw [ha2]; rfl) rfl cX (by omega)) ?_
   refine fM (fun _ A => bE rfl fJ ((O.evo (((H.then A)).any Y) hb2) 0 _ rfl)) ?_; refine fM (fun _ A => kM rfl rfl) ?_; refine sF (fun U A => aC ?_); refine cC rfl (fun E => ?_) (fun E => ?_)
   ·refine csr (wan (bA (bG (aX (aX (bG (aX (br1 ?_))))))))
    exact ⟨congrArg Value.bool (decide_eq_false (fun h => E (by subst h; rfl))).symm, (H.then A)⟩
   refine aZ (bC (aC (aK (aD ?_)))); refine aI (bB rfl rfl (by omega) (by omega)) ?_; refine bY (bF (bJ ?_)); refine ⟨k + 1, ?_, ⟨rfl, trivial⟩, ⟨rfl, rfl, trivial⟩, (J.then A), ?_⟩
   · omega
   have h3 : d1[k] = d2[k] := by simpa using E
   exact ⟨by omega, by rw [List.take_succ_eq_append_getElem (by omega), List.take_succ_eq_append_getElem (by omega), hpre, h3]⟩
  refine bP (aT (aT (bO (aC ?_)))); refine csr (wan (bA (br1 ?_)))
  exact ⟨congrArg Value.bool (decide_eq_true (by rw [List.take_of_length_le (by omega), List.take_of_length_le (by omega)] at hpre; exact hpre)).symm, H⟩
theorem dZ : cS Tryz.prog 16 := ⟨_, Tryz.func16, by kernel_rfl, by kernel_rfl⟩
theorem jV {X Y : List Nat} {w : World} {v1 v2 : Value} {d1 d2 : List Int} (h1 : RSl 1 RZ X w v1 d1) (h2 : RSl 1 RZ Y w v2 d2) (hl : d1.length ≤ 140737488355328) (he : d1 = d2) : Calls Tryz.prog 16 #[v1, v2] w (Ret fun v w' => v = .bool true ∧ Evo [] w w') := by
  subst he
  exact (same_ok h1 h2 hl hl).mono fun _ _ ⟨v, he, hv, hw⟩ => ⟨v, he, by rw [hv, decide_eq_true rfl], hw⟩
end Go.Proofs.YtidpigbinpaaeaaGreat
namespace Go.Proofs.YtidpigbinpaaeaaGreat
open Go.RowKit Go.W
def kK (N : Nat) (S : List Int) : List Value := (List.range N).map fun (i : Nat) => .bool (decide ((i : Int) ∈ S))
theorem iF (N : Nat) (S : List Int) : (kK N S).length = N := by simp [kK]
theorem fV {N : Nat} {S : List Int} {i : Nat} (h : i < N) : (kK N S)[i]? = some (.bool (decide ((i : Int) ∈ S))) := by simp [kK, h]
theorem sY {N : Nat} {S : List Int} {i : Nat} (h : i < N) : (kK N S).set i (.bool true) = kK N (S ++ [(i : Int)]) := by
  apply List.ext_getElem?
  intro k
  rw [List.getElem?_set, iF]
  by_cases e : i = k
  · subst e; rw [if_pos rfl, if_pos h, fV h]; simp
  · rw [if_neg e]
    by_cases hk : k < N
    · rw [fV hk, fV hk]
      have : ((k : Int) = (i : Int)) = False := by apply eq_false; omega
      simp [this]
    · rw [List.getElem?_eq_none (by rw [iF]; omega), List.getElem?_eq_none (by rw [iF]; omega)]
theorem rJ (N : Nat) : kK N [] = List.replicate N (.bool false) := by
  apply List.ext_getElem?
  intro k
  by_cases hk : k < N
  · rw [fV hk]; simp [hk]
  · rw [List.getElem?_eq_none (by rw [iF]; omega), List.getElem?_eq_none (by simp; omega)]
def cD (S : List Int) (k : Nat) : List Int := ((List.range k).filter fun (i : Nat) => !decide ((i : Int) ∈ S)).map fun (i : Nat) => (i : Int)
theorem gS (S : List Int) (k : Nat) : cD S (k + 1) = if (k : Int) ∈ S then cD S k else cD S k ++ [(k : Int)] := by
  unfold cD
  rw [List.range_succ, List.filter_append, List.map_append]
  by_cases h : (k : Int) ∈ S
  · rw [if_pos h]; simp [h]
  · rw [if_neg h]; simp [h]
theorem kH {S : List Int} {k : Nat} {x : Int} : x ∈ cD S k ↔ (0 ≤ x ∧ x < k) ∧ ¬ x ∈ S := by
  unfold cD
  rw [List.mem_map]
  constructor
  · rintro ⟨i, hi, rfl⟩
    rw [List.mem_filter, List.mem_range] at hi
    exact ⟨⟨by omega, by omega⟩, by simpa using hi.2⟩
  · rintro ⟨⟨h1, h2⟩, h3⟩
    have e : ((x.toNat : Nat) : Int) = x := Int.toNat_of_nonneg h1
    exact ⟨x.toNat, List.mem_filter.2 ⟨List.mem_range.2 (by omega), by rw [e]; simpa using h3⟩, e⟩
theorem qG (S : List Int) (k : Nat) : SR3 (cD S k) := by
  induction k with
  | zero => simp [cD, SR3]
  | succ k ih =>
    rw [gS]
    split
    · exact ih
    · refine List.pairwise_append.2 ⟨ih, by simp, fun a ha b hb => ?_⟩
      have := (kH.1 ha).1
      simp at hb; subst hb; omega
theorem oD (S : List Int) (k : Nat) : (cD S k).length ≤ k := by
  unfold cD; rw [List.length_map]; exact Nat.le_trans (List.length_filter_le _ _) (by simp)
def fD (T : List Tr) (N : Nat) (n : ByteArray) : List Int := cD ((T.filter fun t => decide (t.1 = n)).map (·.2.2)) N
theorem sV {T : List Tr} {N : Nat} {n : ByteArray} {x : Int} : x ∈ fD T N n ↔ (0 ≤ x ∧ x < N) ∧ ∀ v, ¬ (n, v, x) ∈ T := by
  unfold fD
  rw [kH]
  refine and_congr Iff.rfl ?_
  rw [List.mem_map]
  constructor
  · intro h v hv
    exact h ⟨_, List.mem_filter.2 ⟨hv, by simp⟩, rfl⟩
  · rintro h ⟨⟨a, b, c⟩, ht, rfl⟩
    have := List.mem_filter.1 ht
    obtain rfl : a = n := by simpa using this.2
    exact h b this.1
def eD (T : List Tr) (N : Nat) (n v : ByteArray) : List Int := if v = ByteArray.mk #[] then fD T N n else cY T n v
theorem rI {T : List Tr} {N : Nat} {n v : ByteArray} : (eD T N n v).length ≤ T.length + N := by
  unfold eD
  split
  · have := oD ((T.filter fun t => decide (t.1 = n)).map (·.2.2)) N; unfold fD; omega
  · have := iE T n v; omega
def dQ (N k : Nat) : List Int := (List.range N).map fun (i : Nat) => if i < k then (i : Int) else 0
theorem eS (N k : Nat) : (dQ N k).length = N := by simp [dQ]
theorem pJ (N : Nat) : dQ N 0 = List.replicate N 0 := by
  apply List.ext_getElem?
  intro i
  by_cases h : i < N
  · simp [dQ, h]
  · rw [List.getElem?_eq_none (by rw [eS]; omega), List.getElem?_eq_none (by simp; omega)]
theorem pK {N k : Nat} (h : k < N) : (dQ N k).set k (k : Int) = dQ N (k + 1) := by
  apply List.ext_getElem?
  intro i
  rw [List.getElem?_set, eS]
  by_cases e : k = i
  · subst e; simp [dQ, h]
  · rw [if_neg e]
    by_cases hi : i < N
    · simp only [dQ, List.getElem?_map, List.getElem?_range hi, Option.map_some]
      by_cases h2 : i < k
      · rw [if_pos h2, if_pos (by omega)]
      · rw [if_neg h2, if_neg (by omega)]
    · rw [List.getElem?_eq_none (by rw [eS]; omega), List.getElem?_eq_none (by rw [eS]; omega)]
theorem lY (N : Nat) : dQ N N = cD [] N := by
  unfold dQ cD
  rw [List.filter_eq_self.2 (by simp)]
  exact List.map_congr_left fun i hi => by rw [if_pos (List.mem_range.1 hi)]
theorem fC (N : Nat) : (cD [] N).length = N := by rw [← lY, eS]
theorem SRs3.ext : ∀ {l r : List ByteArray}, SRs3 l → SRs3 r → (∀ x, x ∈ l ↔ x ∈ r) → l = r
  | [], [], _, _, _ => rfl
  | [], y :: r, _, _, h => absurd ((h y).2 (by simp)) (by simp)
  | x :: l, [], _, _, h => absurd ((h x).1 (by simp)) (by simp)
  | x :: l, y :: r, h1, h2, h => by
    have a1 := List.pairwise_cons.1 h1
    have a2 := List.pairwise_cons.1 h2
    have hxy : x = y := by
      rcases List.mem_cons.1 ((h x).1 (by simp)) with e | e
      · exact e
      rcases List.mem_cons.1 ((h y).2 (by simp)) with e2 | e2
      · exact e2.symm
      exact absurd (List.lt_trans (a1.1 y e2) (a2.1 x e)) (List.lt_irrefl _)
    subst hxy
    congr 1
    refine SRs3.ext a1.2 a2.2 fun z => ?_
    constructor
    · intro hz
      rcases List.mem_cons.1 ((h z).1 (List.mem_cons_of_mem _ hz)) with e | e
      · subst e; exact absurd (a1.1 z hz) (List.lt_irrefl _)
      · exact e
    · intro hz
      rcases List.mem_cons.1 ((h z).2 (List.mem_cons_of_mem _ hz)) with e | e
      · subst e; exact absurd (a2.1 z hz) (List.lt_irrefl _)
      · exact e
theorem Knows.mem_nm {D : List En} {T : List Tr} (h : Knows D T) {n : ByteArray} : n ∈ D.map En.nm ↔ ∃ v i, (n, v, i) ∈ T := by
  rw [List.mem_map]
  constructor
  · rintro ⟨e, he, rfl⟩
    obtain ⟨x, hx⟩ := List.exists_mem_of_ne_nil _ (h.ne e he)
    obtain ⟨h1, h2⟩ := h.ids e he x hx
    obtain ⟨i, hi⟩ := List.exists_mem_of_ne_nil _ h2
    exact ⟨x.v, i, gE.1 (h1 ▸ hi)⟩
  · rintro ⟨v, i, ht⟩
    obtain ⟨e, h1, h2, -⟩ := h.has _ ht
    exact ⟨e, h1, h2⟩
theorem Knows.mem_vs {D : List En} {T : List Tr} (h : Knows D T) {e : En} (he : e ∈ D) {v : ByteArray} : v ∈ e.vs.map Vl.v ↔ ∃ i, (e.nm, v, i) ∈ T := by
  rw [List.mem_map]
  constructor
  · rintro ⟨x, hx, rfl⟩
    obtain ⟨h1, h2⟩ := h.ids e he x hx
    obtain ⟨i, hi⟩ := List.exists_mem_of_ne_nil _ h2
    exact ⟨i, gE.1 (h1 ▸ hi)⟩
  · rintro ⟨i, ht⟩
    obtain ⟨e2, h1, h2, x, h3, h4⟩ := h.has _ ht
    obtain rfl := nm_inj h.nmN h1 he h2
    exact ⟨x, h3, h4⟩
theorem sR {D : List En} {n : ByteArray} (h : ¬ n ∈ D.map En.nm) : bU (D.map En.kv) n = none := by
  induction D with
  | nil => rfl
  | cons e D ih =>
    simp only [List.map_cons, List.mem_cons, not_or] at h
    simp only [List.map_cons, bU, En.kv, if_neg (fun e2 => h.1 e2.symm : ¬ e.nm = n)]
    exact ih h.2
def OfAt (D : List En) (n : ByteArray) (m : Option Nat) (vs : List Vl) : Prop := (m = none ∧ vs = [] ∧ ¬ n ∈ D.map En.nm) ∨ ∃ e, e ∈ D ∧ e.nm = n ∧ m = some e.mb ∧ vs = e.vs
section
variable {w : World} {n0 bx N mb : Nat} {D : List En} {T : List Tr} {n : ByteArray} {m : Option Nat} {vs : List Vl}
theorem OfAt.map (h : OfAt D n m vs) (hI : IxAt w n0 bx N mb D) : MapN w m (vs.map Vl.kv) := by
  rcases h with ⟨rfl, rfl, _⟩ | ⟨e, he, rfl, rfl, rfl⟩
  · exact .inl ⟨rfl, rfl⟩
  · exact .inr ⟨_, rfl, (hI.ent he).1⟩
theorem OfAt.at (h : OfAt D n m vs) (hI : IxAt w n0 bx N mb D) {x : Vl} (hx : x ∈ vs) : x.At w := by
  rcases h with ⟨rfl, rfl, _⟩ | ⟨e, he, rfl, rfl, rfl⟩
  · simp at hx
  · exact (hI.ent he).2 x hx
theorem OfAt.ids (h : OfAt D n m vs) (hK : Knows D T) {x : Vl} (hx : x ∈ vs) : x.ids = cY T n x.v := by
  rcases h with ⟨rfl, rfl, _⟩ | ⟨e, he, rfl, rfl, rfl⟩
  · simp at hx
  · exact (hK.ids e he x hx).1
theorem OfAt.nodup (h : OfAt D n m vs) (hK : Knows D T) : (vs.map Vl.v).Nodup := by
  rcases h with ⟨rfl, rfl, _⟩ | ⟨e, he, rfl, rfl, rfl⟩
  · simp
  · exact hK.vsN e he
theorem OfAt.mem (h : OfAt D n m vs) (hK : Knows D T) {v : ByteArray} : v ∈ vs.map Vl.v ↔ ∃ i, (n, v, i) ∈ T := by
  rcases h with ⟨rfl, rfl, hn⟩ | ⟨e, he, rfl, rfl, rfl⟩
  · constructor
    · intro hx; simp at hx
    · rintro ⟨i, ht⟩; exact absurd (hK.mem_nm.2 ⟨v, i, ht⟩) hn
  · exact hK.mem_vs he
theorem OfAt.has (h : OfAt D n m vs) (hK : Knows D T) {v : ByteArray} {i : Int} (ht : (n, v, i) ∈ T) : ∃ x, x ∈ vs ∧ x.v = v ∧ i ∈ x.ids := by
  obtain ⟨x, hx, hv⟩ := List.mem_map.1 ((h.mem hK).2 ⟨i, ht⟩)
  exact ⟨x, hx, hv, by rw [h.ids hK hx, hv]; exact gE.2 ht⟩
theorem OfAt.len (h : OfAt D n m vs) (hK : Knows D T) : vs.length ≤ T.length := by
  rcases h with ⟨rfl, rfl, _⟩ | ⟨e, he, rfl, rfl, rfl⟩
  · simp
  · exact Nat.le_trans (hK.vs_le he) (hK.cnt_le he)
theorem OfAt.find (h : OfAt D n m vs) (hI : IxAt w n0 bx N mb D) (hK : Knows D T) (v : ByteArray) :
    ∃ x : Vl, (bU (vs.map Vl.kv) v).getD (.slice none 0 0) = .slice x.a x.n x.c ∧ x.At w ∧ x.ids = cY T n v := by
  cases hl : bU (vs.map Vl.kv) v with
  | some u =>
    obtain ⟨V1, x, V2, rfl, hx, -⟩ := eZ hl
    have hm : x ∈ V1 ++ x :: V2 := by simp
    obtain ⟨rfl, rfl⟩ := Prod.mk.inj (show (x.v, Value.slice x.a x.n x.c) = (v, u) from hx)
    exact ⟨x, rfl, h.at hI hm, h.ids hK hm⟩
  | none =>
    have hn := gR hl
    rw [List.map_map] at hn
    refine ⟨⟨v, none, 0, 0, [], none⟩, rfl, OwnS.nil _ _ _, ?_⟩
    have : ∀ i, ¬ i ∈ cY T n v := fun i hi => hn ((h.mem hK).2 ⟨i, gE.1 hi⟩)
    exact (List.eq_nil_iff_forall_not_mem.2 this).symm
end
def SeenIds (vs : List Vl) (seen : List Nat) (S : List Int) : Prop := ∀ i, i ∈ S ↔ ∃ k, k ∈ seen ∧ ∃ x, vs[k]? = some x ∧ i ∈ x.ids
theorem SeenIds.nil (vs : List Vl) : SeenIds vs [] [] := fun i => by simp
theorem SeenIds.step {vs : List Vl} {seen : List Nat} {S : List Int} (h : SeenIds vs seen S) {k : Nat} {x : Vl} (hx : vs[k]? = some x) : SeenIds vs (seen ++ [k]) (S ++ x.ids) := fun i => by
  rw [List.mem_append, h i]
  constructor
  · rintro (⟨j, hj, hr⟩ | hi)
    · exact ⟨j, by simp [hj], hr⟩
    · exact ⟨k, by simp, x, hx, hi⟩
  · rintro ⟨j, hj, y, hy, hi⟩
    rcases List.mem_append.1 hj with hj | hj
    · exact .inl ⟨j, hj, y, hy, hi⟩
    · obtain rfl : j = k := by simpa using hj
      rw [hx] at hy; cases hy; exact .inr hi
theorem SeenIds.all {D : List En} {T : List Tr} {n : ByteArray} {m : Option Nat} {vs : List Vl} {seen : List Nat} {S : List Int} (h : SeenIds vs seen S) (hO : OfAt D n m vs) (hK : Knows D T) (hall : ∀ i, i < vs.length → i ∈ seen) {i : Int} : i ∈ S ↔ ∃ v, (n, v, i) ∈ T := by
  rw [h i]
  constructor
  · rintro ⟨k, _, x, hx, hi⟩
    rw [hO.ids hK (List.mem_of_getElem? hx)] at hi
    exact ⟨x.v, gE.1 hi⟩
  · rintro ⟨v, ht⟩
    obtain ⟨x, hx, _, hi⟩ := hO.has hK ht
    obtain ⟨k, hk, rfl⟩ := List.getElem_of_mem hx
    exact ⟨k, hall k hk, _, List.getElem?_eq_getElem hk, hi⟩
theorem SeenIds.bare {D : List En} {T : List Tr} {n : ByteArray} {m : Option Nat} {vs : List Vl} {seen : List Nat} {S : List Int} (h : SeenIds vs seen S) (hO : OfAt D n m vs) (hK : Knows D T) (hall : ∀ i, i < vs.length → i ∈ seen) (N : Nat) : cD S N = fD T N n :=
  SR3.ext (qG _ _) (qG _ _) fun x => by
    rw [kH, sV, h.all hO hK hall]
    exact and_congr Iff.rfl ⟨fun h v hv => h ⟨v, hv⟩, fun h ⟨v, hv⟩ => h v hv⟩
end Go.Proofs.YtidpigbinpaaeaaGreat
namespace Go.Proofs.YtidpigbinpaaeaaGreat
open Go.RowKit Go.W
attribute [local irreducible] Decidable.decide
theorem pS : iY Tryz.prog 4 = some false := by kernel_rfl
theorem gN : jL Tryz.prog 145 = some 1 := by kernel_rfl
theorem lF : gT Tryz.prog 88 0 = some 0 := by kernel_rfl
theorem fG : cS Tryz.prog 34 := ⟨_, Tryz.func34, by kernel_rfl, by kernel_rfl⟩
theorem nL : cS Tryz.prog 42 := ⟨_, Tryz.func42, by kernel_rfl, by kernel_rfl⟩
theorem nK : cS Tryz.prog 43 := ⟨_, Tryz.func43, by kernel_rfl, by kernel_rfl⟩
theorem fF : cS Tryz.prog 44 := ⟨_, Tryz.func44, by kernel_rfl, by kernel_rfl⟩
theorem iL : cS Tryz.prog 45 := ⟨_, Tryz.func45, by kernel_rfl, by kernel_rfl⟩
theorem nJ : cS Tryz.prog 46 := ⟨_, Tryz.func46, by kernel_rfl, by kernel_rfl⟩
theorem nI : cS Tryz.prog 47 := ⟨_, Tryz.func47, by kernel_rfl, by kernel_rfl⟩
theorem lD : qF Tryz.prog 145 = some (4, 1, 1, #[.bool false]) := by kernel_rfl
theorem nA : qF Tryz.prog 37 = some (3, 1, 8, #[.int .i64 0]) := by kernel_rfl
theorem oQ : fO Tryz.prog 4 = some 1 := by kernel_rfl
section
variable {P : Program} {σ : Env} {w : World} {dst : Option Nat} {T : TypeId} {pos : String} {after : Array Edge} {g : Option (Nat × Bool)}
theorem mU {x y : Operand} {t t' : TypeId} {a : Addr} (hx : σ.ev x = some (.pointer (some a))) (hy : σ.ev y = some (.pointer none)) (h : P.underlying t = some (.pointer (P.pointee t))) : Ex P σ ⟨dst, .binOp .eql t x y t', T, pos, after, g⟩ w (.bool false) w := fun ρ hρ => by
  have := Go.run_eql_pointer_nil (P := P) (w := w) t (some a) h
  simp [execOp, hρ x _ hx, hρ y _ hy, eqGuard, this]
theorem qI {x y : Operand} {t t' : TypeId} {k : IntKind} {m n : Int} (hx : σ.ev x = some (.int k m)) (hy : σ.ev y = some (.int k n)) (h : m = n) : Ex P σ ⟨dst, .binOp .eql t x y t', T, pos, after, g⟩ w (.bool true) w := by
  have := tB (P := P) (σ := σ) (dst := dst) (T := T) (pos := pos) (after := after) (g := g) (w := w) (t := t) (t' := t') hx hy
  rwa [decide_eq_true h] at this
end
theorem lI (v : Value) (n : Nat) : gH #[v] n = List.replicate n v := by unfold gH; simp
theorem gB : Tryz.prog.underlying 34 = some (.pointer (Tryz.prog.pointee 34)) := by kernel_rfl
theorem pF {w : World} {n0 bx N mb : Nat} {D : List En} (h : IxAt w n0 bx N mb D) : Calls Tryz.prog 34 #[.pointer (some ⟨bx, 0, none⟩)] w (Ret fun v w' => v = .int .i64 (N : Nat) ∧ Evo [] w w') := by
  refine aR (N := 9) Tryz.func34 rfl rfl rfl ?_; refine csr (wan (aE (csr (aD (aI (mU rfl rfl gB) ?_))))); refine wnn (bV rfl ?_); refine aZ (aC (csr (aD (aI (dG rfl) (wfl rfl lF rfl fJ (((Evo.refl [] w)).blk0 h.box) rfl (wan (bA (br1 ?_)))))))); exact ⟨rfl, (Evo.refl [] w)⟩
theorem sL {w : World} {n0 bx N mb : Nat} {D : List En} (h : IxAt w n0 bx N mb D) (hn : (D.map En.nm).Nodup) (n : ByteArray) : Calls Tryz.prog 44 #[.pointer (some ⟨bx, 0, none⟩), .string n] w (Ret fun v w' => ∃ m vs, v = .map m ∧ OfAt D n m vs ∧ Evo [] w w') := by
  have hmv : ∃ m vs, (bU (D.map En.kv) n).getD (.map none) = .map m ∧ OfAt D n m vs := by
    by_cases hd : n ∈ D.map En.nm
    · obtain ⟨e, he, rfl⟩ := List.mem_map.1 hd
      exact ⟨some e.mb, e.vs, by rw [show bU (D.map En.kv) e.nm = some (.map (some e.mb)) from mR (f := En.kv) (by rw [List.map_map]; exact hn) he]; rfl, .inr ⟨e, he, rfl, rfl, rfl⟩⟩
    · exact ⟨none, [], by rw [sR hd]; rfl, .inl ⟨rfl, rfl, hd⟩⟩
  obtain ⟨m, vs, hmv, hO⟩ := hmv; refine aR (N := 13) Tryz.func44 rfl rfl rfl ?_; refine csr (wan (aE (csr (aD (aI (mU rfl rfl gB) ?_))))); refine wnn (bV rfl ?_); refine aZ (aC (csr (aD (aI (dG rfl) (wfl rfl dB rfl dI (((Evo.refl [] w)).blk0 h.box) rfl (aD ?_)))))); refine aI (dL rfl rfl Tryz.underlying86 Tryz.underlying9 (z := .map none) (by kernel_rfl) (h.evo0 (Evo.refl [] w)).map (r := .map m) hmv) ?_; refine wan (bA (br1 ?_)); exact ⟨m, vs, rfl, hO, (Evo.refl [] w)⟩
theorem all_ok {w : World} {n0 bx N mb : Nat} {D : List En} (h : IxAt w n0 bx N mb D) (hN : N ≤ 100000000) : Calls Tryz.prog 36 #[.pointer (some ⟨bx, 0, none⟩)] w (Ret fun v w' => ∃ a c ob, v = .slice a (cD [] N).length c ∧ OwnS w' 3 1 a (cD [] N).length c ((cD [] N).map iv3) ob ∧ Ge w ob ∧ Evo [] w w') := by
  have hNl := fC N; refine aR (N := 19) Tryz.func36 rfl rfl rfl ?_; refine csr (wan (csr (aD (aJ (vs := [_]) fG rfl (pF h) rfl ?_)))); rintro _ w1 ⟨rfl, M⟩; have E := (Evo.refl [] w).then M; refine qA (len := N) (c := N) rfl rfl rfl nA (by omega) (by omega) (by omega) (by decide) (by omega) (by omega) fun gb w5 O I U => ?_; refine wan (aE (aE ?_))
  have V : OwnS w5 3 1 (some ⟨gb, 0, none⟩) N N ((dQ N 0).map iv3) (some gb) := by rw [pJ, List.map_replicate]; have h9 := O; rw [lI] at h9; exact h9
  refine aK (aD (aI (aO rfl Tryz.underlying37 rfl) ?_)); refine aD (wnn (aL (bQ (α := Nat) (0) (fun k => [(10, .int .i64 (k : Nat))]) [(2, _), (3, _), (9, _)] (fun k wr => Evo [] w wr ∧ (k ≤ N ∧ OwnS wr 3 1 (some ⟨gb, 0, none⟩) N N ((dQ N k).map iv3) (some gb))) (fun k => N - k) ⟨rfl, trivial⟩ ⟨rfl, rfl, rfl, trivial⟩ ⟨(E.then U), ⟨Nat.zero_le _, V⟩⟩ ?_))); rintro k wr11 ⟨H, ⟨hk, hL⟩⟩; show CW _ _ _ _ [(10, _), (2, _), (3, _), (9, _)] _; refine csr (aI (cE rfl rfl) ?_); refine wnn (aE (cC rfl (fun J => ?_) (fun J => ?_)))
  ·have hk' : k < N := by omega
   refine aZ (aC (aE (aL (csr (aD (wan (aK (aD (aD (aD ?_)))))))))); refine aI (aS (n := k) rfl rfl cX (by omega)) ?_
   obtain ⟨g22, cur13, hg14, hx15, hcu16, hcs17, -⟩ := hL.at (by omega)
   cases hx15; refine dE rfl rfl (rfl) gA hcu16 (hL.inb hcs17 (k := k) (j := 0) (by omega) (by omega) (by omega)) fun W L A => ?_; replace A := fX hg14 A; refine bF (bC (aC (aK ?_))); refine aI (bB rfl rfl (by omega) (by omega)) ?_; refine aD (bF (bJ ?_)); refine ⟨k + 1, ?_, ⟨rfl, trivial⟩, ⟨rfl, rfl, rfl, trivial⟩, (H.step A (Ge.new E I).mem), ?_⟩
   · omega
   have h9 := (hL.set' hg14 hcu16 L); rw [show 0 + k * 1 = k by omega, ← List.map_set, pK hk'] at h9; exact ⟨by omega, h9⟩
  obtain rfl : k = N := by omega
  refine bP (aT (aT (bO (aC ?_)))); refine csr (aD (wan (bA (br1 ?_)))); have h9 := hL; rw [lY] at h9; rw [hNl]; exact ⟨_, _, _, rfl, h9, (Ge.new E I), H⟩
theorem sW {α β : Type} {l : List α} {h : α → β} {i : Nat} {y : β} (e : (l.map h)[i]? = some y) : ∃ x, l[i]? = some x ∧ h x = y := by
  rw [List.getElem?_map] at e
  exact Option.map_eq_some_iff.1 e
theorem eR {w : World} {e : TypeId} {a : Option Addr} {n c : Nat} {ys : List Value} {ob : Option Nat} (h : OwnS w e 1 a n c ys ob) {k : Nat} {v : Value} (hk : ys[k]? = some v) : ∃ g, ob = some g ∧ a = some ⟨g, 0, none⟩ ∧ w.cell? ⟨g, 0 + k * 1, none⟩ = some v := by
  have hl : k < n := by have h1 := (List.getElem?_eq_some_iff.1 hk).1; have h2 := h.length; omega
  obtain ⟨g, hg, ha, hc⟩ := h.cells (by omega)
  exact ⟨g, hg, ha, by have := hc k v hk; rw [show 0 + k * 1 = 0 + k by omega]; exact this⟩
theorem bare_ok {w : World} {n0 bx N mb : Nat} {D : List En} {T : List Tr} (h : IxAt w n0 bx N mb D) (hK : Knows D T) (hTN : ∀ t, t ∈ T → 0 ≤ t.2.2 ∧ t.2.2 < N) (hN : N ≤ 100000000) (hT : T.length ≤ 100000000) (n : ByteArray) : Calls Tryz.prog 42 #[.pointer (some ⟨bx, 0, none⟩), .string n] w (Ret fun v w' => ∃ a c ob, v = .slice a (fD T N n).length c ∧ OwnS w' 3 1 a (fD T N n).length c ((fD T N n).map iv3) ob ∧ Ge w ob ∧ Evo [] w w') := by
  refine aR (N := 49) Tryz.func42 rfl rfl rfl ?_; refine csr (wan (csr (aD (aJ (vs := [_]) fG rfl (pF h) rfl ?_)))); rintro _ w1 ⟨rfl, b5⟩; have V := (Evo.refl [] w).then b5; refine qA (len := N) (c := N) rfl rfl rfl lD (by omega) (by omega) (by omega) (by decide) (by omega) (by omega) fun hb w5 b6 b7 a3 => ?_; refine wan (aE (aE ?_))
  have a4 : OwnS w5 4 1 (some ⟨hb, 0, none⟩) N N (kK N []) (some hb) := by rw [rJ]; have h9 := b6; rw [lI] at h9; exact h9
  refine aK (aD (aD (aJ (vs := [_, _]) fF rfl (sL (h.evo0 (V.then a3)) hK.nmN n) rfl ?_))); rintro _ c0 ⟨m, vs, rfl, hO, I⟩; have J := (V.then a3).then I; refine gP rfl rfl Tryz.underlying89 (hO.map (h.evo0 J)) fun it c1 a5 W Y => ?_; have Z := Apart.new (Lt.own (a4.evo0 I)) W; refine wnn (aL ?_); refine bQ (α := List Nat × List Int) (([], [])) (fun x => []) [(4, _), (5, _), (19, _)] (fun x wr => Evo [] w wr ∧ (x.1.Nodup ∧ (∀ i, i ∈ x.1 → i < vs.length) ∧ SeenIds vs x.1 x.2 ∧ OwnS wr 4 1 (some ⟨hb, 0, none⟩) N N (kK N x.2) (some hb) ∧ IterN wr it m (vs.map Vl.kv).length x.1)) (fun x => vs.length - x.1.length) trivial ⟨rfl, rfl, rfl, trivial⟩ ⟨(J.then Y), ⟨List.nodup_nil, by simp, SeenIds.nil _, ((a4.evo0 I).evo0 Y), a5⟩⟩ ?_; rintro ⟨seen, S⟩ wr23 ⟨L, ⟨hsn, hsl, hSn, hB, hIt⟩⟩; show CW _ _ _ _ [(4, _), (5, _), (19, _)] _
  try dsimp only at hsn hsl hSn hB hIt
  refine csr (iN rfl rfl hIt (hO.map (h.evo0 L)) (fun hall => ?_) (fun ni nkv c2 hnkv hns a0 a1 => ?_))
  ·refine aI (aU rfl rfl) ?_; refine wnn (aE (bV rfl ?_)); refine bP (aT (aT (bO (aC ?_)))); refine csr (wan (aE (aE ?_)))
   have hbare := hSn.bare hO hK (fun i hi => hall i (by rw [List.length_map]; exact hi)) N
   refine aK (aD (aI (aO rfl Tryz.underlying145 rfl) ?_)); refine aD (wnn (aL (bQ (α := Nat × Nat × Option Addr × Nat × Option Nat) ((0, 0, none, 0, none)) (fun y => [(36, .int .i64 (y.1 : Nat)), (10, .slice y.2.2.1 y.2.1 y.2.2.2.1)]) [(4, _), (34, _), (35, _)] (fun y wr => Evo [] w wr ∧ (y.1 ≤ N ∧ y.2.1 = (cD S y.1).length ∧ OwnS wr 4 1 (some ⟨hb, 0, none⟩) N N (kK N S) (some hb) ∧ OwnS wr 3 1 y.2.2.1 y.2.1 y.2.2.2.1 ((cD S y.1).map iv3) y.2.2.2.2 ∧ Ge w y.2.2.2.2 ∧ Apart (some hb) y.2.2.2.2)) (fun y => N - y.1) ⟨rfl, rfl, trivial⟩ ⟨rfl, rfl, rfl, trivial⟩ ⟨L, ⟨Nat.zero_le _, rfl, hB, OwnS.nil _ _ _, Ge.nil _, Apart.nil _⟩⟩ ?_))); rintro ⟨k, nl, la, lc, lob⟩ wr29 ⟨E, ⟨hk, hnl, hB, hL, hGL, hAL⟩⟩; show CW _ _ _ _ [(36, .int .i64 (k : Nat)), (10, .slice la nl lc), (4, _), (34, _), (35, _)] _
   try dsimp only at hk hnl hB hL hGL hAL
   refine csr (aI (cE rfl rfl) ?_); refine wnn (aE (cC rfl (fun a6 => ?_) (fun a6 => ?_)))
   ·have hk' : k < N := by omega
    have hfl := oD S k; obtain ⟨g7, hg7, -, hcb⟩ := eR hB (fV (S := S) hk'); cases hg7; refine aZ (aC (aE (aL (csr (aD ?_))))); refine aI (aS (n := k) rfl rfl gN (by omega)) ?_; refine aI (bE rfl pS hcb) (bY (wan (csr (aD (aI (eM rfl) ?_))))); refine wnn (tG rfl (fun M => ?_) (fun M => ?_))
    ·have hnot : ¬ (k : Int) ∈ S := by simpa using M
     refine aK (aD (aD (bS (vs := [_]) rfl cL rfl rfl rfl rfl fun c3 c4 a7 b9 A => ?_))); refine cK rfl rfl rfl rfl cT (hL.evo0 A) (Src.ofOwn a7 ⟨by first | rfl | assumption, trivial⟩) (by omega) fun a9 c9 c5 ob9 b8 a2 hob48 => ?_; refine bY (bF (bC (aC (aK ?_)))); refine aI (bB rfl rfl (by omega) (by omega)) ?_; refine aD (bF (bJ ?_)); refine ⟨⟨k + 1, nl + 1, a9, c9, ob9⟩, ?_, ⟨rfl, rfl, trivial⟩, ⟨rfl, rfl, rfl, trivial⟩, ((E.then A).step a2 hGL.mem), ?_⟩
     · (try dsimp only); omega
     try dsimp only
     have h9 := b8
     have hfs : cD S (k + 1) = cD S k ++ [(k : Int)] := by rw [gS, if_neg hnot]
     rw [hfs, List.length_append, List.map_append]
     exact ⟨by omega, by simp; omega, ((hB.evo0 A).evo a2 hAL.own), h9, (hGL.app (E.then A) hob48), (hAL.app (Lt.own (hB.evo0 A)) hob48)⟩
    have hyes : (k : Int) ∈ S := by simpa using M
    refine aZ (bC (aC (aK ?_))); refine aI (bB rfl rfl (by omega) (by omega)) ?_; refine aD (bF (bJ ?_)); refine ⟨⟨k + 1, nl, la, lc, lob⟩, ?_, ⟨rfl, rfl, trivial⟩, ⟨rfl, rfl, rfl, trivial⟩, E, ?_⟩
    · (try dsimp only); omega
    try dsimp only
    have hfs : cD S (k + 1) = cD S k := by rw [gS, if_pos hyes]
    rw [hfs]; exact ⟨by omega, hnl, hB, hL, hGL, hAL⟩
   obtain rfl : k = N := by omega
   refine bP (aT (aT (bO (aC ?_)))); refine csr (aD (wan (bA (br1 ?_)))); have h9 := hL; rw [← hbare, ← hnl]; exact ⟨la, lc, lob, rfl, h9, hGL, E⟩
  skip
  have O := L.step a1 (Ge.new J W).mem; obtain ⟨x, hxv, hxk⟩ := sW hnkv; subst hxk; have hnk := (List.getElem?_eq_some_iff.1 hxv).1; have hxn : x.n = x.ids.length := jH (hO.at (h.evo0 O) (List.mem_of_getElem? hxv)); have hxi := hO.ids hK (List.mem_of_getElem? hxv)
  have hxl : x.ids.length ≤ T.length := by rw [hxi]; exact iE T n x.v
  refine aI (aU rfl rfl) ?_; refine wnn (aE (dD rfl ?_)); refine aZ (aC (aL (csr (aI ((show Ex _ _ _ _ (.tuple #[.string x.v, .slice x.a x.n x.c]) _ from iV rfl a0 (hO.map (h.evo0 O)) hnkv)) ?_)))); refine aI (aU rfl rfl) ?_; refine wan (csr (aD (aI (aO rfl Tryz.underlying37 rfl) ?_))); refine aD (wnn (aL ?_)); refine bQ (α := Nat) (0) (fun k => [(26, .int .i64 (k : Nat))]) [(4, _), (5, _), (19, _), (24, _), (25, _)] (fun k wr => Evo [] w wr ∧ (k ≤ x.ids.length ∧ OwnS wr 4 1 (some ⟨hb, 0, none⟩) N N (kK N (S ++ x.ids.take k)) (some hb) ∧ IterN wr it m (vs.map Vl.kv).length (seen ++ [ni]))) (fun k => x.ids.length - k) ⟨rfl, trivial⟩ ⟨rfl, rfl, rfl, rfl, rfl, trivial⟩ ⟨O, ⟨Nat.zero_le _, by simpa using (hB.evo a1 Z.own), a0⟩⟩ ?_; rintro k wr57 ⟨U, ⟨hk, hB, hIt⟩⟩; show CW _ _ _ _ [(26, _), (4, _), (5, _), (19, _), (24, _), (25, _)] _; refine csr (aI (cE rfl rfl) ?_); refine wnn (aE (cC rfl (fun a8 => ?_) (fun a8 => ?_)))
  ·have hk' : k < x.ids.length := by omega
   obtain ⟨gx, hgx, hax, hcx⟩ := own_at (hO.at (h.evo0 U) (List.mem_of_getElem? hxv)) hk'
   have hmx : x.ids[k] ∈ cY T n x.v := by rw [← hxi]; exact List.getElem_mem hk'
   have hid := hTN _ (gE.1 hmx)
   dsimp only at hid
   obtain ⟨di, hdi⟩ := Int.eq_ofNat_of_zero_le hid.1; rw [hdi] at hcx
   have hdN : di < N := by omega
   refine aZ (aC (aE (aL (csr ?_))))
   refine aI (aS (n := k) (by rw [hax]; rfl) rfl cX (by omega)) ?_
   refine aI (bE rfl fJ hcx) (wan (aK (aD (aD ?_)))); refine aI (aS (n := di) rfl rfl gN (by omega)) ?_
   obtain ⟨g68, cur59, hg60, hx61, hcu62, hcs63, -⟩ := hB.at (by omega)
   cases hx61; refine dE rfl rfl (rfl) oQ hcu62 (hB.inb hcs63 (k := di) (j := 0) (by omega) (by omega) (by omega)) fun c6 b4 H => ?_; replace H := fX hg60 H; refine bF (bC (aC (aK ?_))); refine aI (bB rfl rfl (by omega) (by omega)) ?_; refine aD (bF (bJ ?_)); refine ⟨k + 1, ?_, ⟨rfl, trivial⟩, ⟨rfl, rfl, rfl, rfl, rfl, trivial⟩, (U.step H (Ge.new V b7).mem), ?_⟩
   · omega
   have h9 := (hB.set' hg60 hcu62 b4); rw [show 0 + di * 1 = di by omega, sY hdN, List.append_assoc] at h9; rw [show x.ids.take (k + 1) = x.ids.take k ++ [(di : Int)] from by rw [List.take_succ_eq_append_getElem hk', hdi]]; exact ⟨by omega, h9, (hIt.evo H Z.symm.own)⟩
  obtain rfl : k = x.ids.length := by omega
  refine bP (aT (aT (bO (bC (bJ ?_))))); refine ⟨⟨seen ++ [ni], S ++ x.ids⟩, ?_, trivial, ⟨rfl, rfl, rfl, trivial⟩, U, ?_⟩
  · (try dsimp only); (have h9 := gZ hsn hsl hnk hns; rw [List.length_append]; simp; omega)
  try dsimp only
  refine ⟨List.nodup_append.2 ⟨hsn, by simp, fun a ha b hb2 e => by simp at hb2; subst hb2; exact hns (e ▸ ha)⟩, fun i hi => ?_, hSn.step hxv, ?_, hIt⟩
  · rcases List.mem_append.1 hi with hi | hi; exact hsl i hi; simp at hi; subst hi; exact hnk
  · have h9 := hB; rw [List.take_length] at h9; exact h9
theorem lX {w : World} {n0 bx N mb : Nat} {D : List En} {T : List Tr} (h : IxAt w n0 bx N mb D) (hK : Knows D T) (hTN : ∀ t, t ∈ T → 0 ≤ t.2.2 ∧ t.2.2 < N) (hN : N ≤ 100000000) (hT : T.length ≤ 100000000) (n u : ByteArray) : Calls Tryz.prog 20 #[.pointer (some ⟨bx, 0, none⟩), .string n, .string u] w (Ret fun v w' => ∃ a c ob, v = .slice a (eD T N n u).length c ∧ OwnS w' 3 1 a (eD T N n u).length c ((eD T N n u).map iv3) ob ∧ Ge w ob ∧ Evo [] w w') := by
  have hlen := iE T n u; refine aR (N := 18) Tryz.func20 rfl rfl rfl ?_; refine csr (wan (aE (csr (aD (aI (pN rfl rfl) ?_))))); refine wnn (cC rfl (fun E => ?_) (fun E => ?_))
  ·refine csr (aD (aD (aJ (vs := [_, _]) nL rfl (bare_ok h hK hTN hN hT n) rfl ?_))); rintro _ w1 ⟨a, c, ob, rfl, hOb, hGb, H⟩; refine wan (bA (aX (br1 ?_)))
   have e1 : eD T N n u = fD T N n := by unfold eD; rw [if_pos E]
   rw [e1]; exact ⟨a, c, ob, rfl, hOb, hGb, ((Evo.refl [] w).then H)⟩
  refine aZ (aC (csr (aD (aD (aJ (vs := [_, _]) fF rfl (sL h hK.nmN n) rfl ?_))))); rintro _ w4 ⟨m, vs, rfl, hO, I⟩; have A := (Evo.refl [] w).then I; obtain ⟨x, hxg, hxA, hxi⟩ := hO.find (h.evo0 A) hK u; have hxn : x.n = x.ids.length := jH hxA; refine aD ?_; refine aI (pM rfl rfl Tryz.underlying89 Tryz.underlying9 (z := .slice none 0 0) (by kernel_rfl) (hO.map (h.evo0 A)) (r := .slice x.a x.n x.c) hxg) ?_
  refine aJ (vs := [_]) nK rfl (rO hxA (by rw [hxn, hxi]; omega)) rfl ?_
  rintro _ w7 ⟨a, c, ob, rfl, J, L, M⟩; refine wan (bA (br1 ?_))
  have e1 : eD T N n u = x.ids := by unfold eD; rw [if_neg E, hxi]
  rw [e1]; exact ⟨a, c, ob, rfl, J, (Ge.fresh A L), (A.then M)⟩
theorem pE {w : World} {m : Option Nat} : Calls Tryz.prog 46 #[.map m] w (Ret fun v w' => ∃ b, v = .func (.func 72) #[] #[.pointer (some ⟨b, 0, none⟩)] ∧ w'.heap[b]? = some (.cells #[.map m] 86 (0, 0)) ∧ Evo [] w w') := by
  refine aR (N := 4) Tryz.func46 rfl rfl rfl ?_; refine csr (mI rfl rfl rfl fun bs w1 A E H => ?_); have I := E; refine wan (csr (aI (jK (vs := [_]) rfl) ?_)); refine wan (bA (br1 ?_)); exact ⟨bs, rfl, A, ((Evo.refl [] w).then H)⟩
theorem pD {w : World} {m : Option Nat} : Calls Tryz.prog 47 #[.map m] w (Ret fun v w' => ∃ b, v = .func (.func 73) #[] #[.pointer (some ⟨b, 0, none⟩)] ∧ w'.heap[b]? = some (.cells #[.map m] 89 (0, 0)) ∧ Evo [] w w') := by
  refine aR (N := 4) Tryz.func47 rfl rfl rfl ?_; refine csr (mI rfl rfl rfl fun bs w1 A E H => ?_); have I := E; refine wan (csr (aI (jK (vs := [_]) rfl) ?_)); refine wan (bA (br1 ?_)); exact ⟨bs, rfl, A, ((Evo.refl [] w).then H)⟩
theorem sP {w : World} {n0 bx N mb : Nat} {D : List En} {T : List Tr} (h : IxAt w n0 bx N mb D) (hK : Knows D T) (hT : T.length ≤ 100000000) : Calls Tryz.prog 21 #[.pointer (some ⟨bx, 0, none⟩)] w (Ret fun v w' => ∃ (ys : List ByteArray) (a : Option Addr) (c : Nat) (ob : Option Nat), v = .slice a ys.length c ∧ ys.Perm (D.map En.nm) ∧ SRs3 ys ∧ OwnS w' 9 1 a ys.length c (ys.map sv3) ob ∧ Ge w ob ∧ Evo [] w w') := by
  have hDl := hK.len_le; refine aR (N := 11) Tryz.func21 rfl rfl rfl ?_; refine csr (wan (aE (csr (aD (aI (mU rfl rfl gB) ?_))))); refine wnn (bV rfl ?_); refine aZ (aC (csr (aD (aI (dG rfl) (wfl rfl dB rfl dI (((Evo.refl [] w)).blk0 h.box) rfl (aJ (vs := [_]) nJ rfl (pE) rfl ?_)))))); rintro _ w1 ⟨bs, rfl, hbs, E⟩; have A := (Evo.refl [] w).then E; have hMM : MapN w1 (some mb) (D.map En.kv) := .inr ⟨mb, rfl, (h.evo0 A).map⟩
  refine aJ (vs := [_]) iL rfl (jZ (keys := D.map En.nm) nE (by rw [List.length_map]; omega) (hK.nmN) (fun w1 h1 => by have h2 := (hMM).evo0 h1; have h3 := seq46 (w := w1) (w0 := w1) h1.size (h1.blk0 hbs) h2; rw [List.map_map] at h3; rw [List.length_map] at h3 ⊢; exact h3)) rfl ?_
  rintro _ w4 ⟨ys, a, c, ob, rfl, hP, hS, H, hG, I⟩; refine wan (bA (br1 ?_)); exact ⟨ys, a, c, ob, rfl, hP, hS, H, (Ge.fresh A hG), (A.then I)⟩
theorem mJ {w : World} {n0 bx N mb : Nat} {D : List En} {T : List Tr} (h : IxAt w n0 bx N mb D) (hK : Knows D T) (hT : T.length ≤ 100000000) (n : ByteArray) : Calls Tryz.prog 22 #[.pointer (some ⟨bx, 0, none⟩), .string n] w (Ret fun v w' => ∃ vs m, OfAt D n m vs ∧ ∃ (ys : List ByteArray) (a : Option Addr) (c : Nat) (ob : Option Nat), v = .slice a ys.length c ∧ ys.Perm (vs.map Vl.v) ∧ SRs3 ys ∧ OwnS w' 9 1 a ys.length c (ys.map sv3) ob ∧ Ge w ob ∧ Evo [] w w') := by
  refine aR (N := 10) Tryz.func22 rfl rfl rfl ?_; refine csr (wan (csr (aD (aD (aJ (vs := [_, _]) fF rfl (sL h hK.nmN n) rfl ?_))))); rintro _ w1 ⟨m, vs, rfl, hO, E⟩; have hvl := hO.len hK; refine aJ (vs := [_]) nI rfl (pD) rfl ?_; rintro _ w4 ⟨bs, rfl, hbs, H⟩; have A := ((Evo.refl [] w).then E).then H; have hMM := hO.map (h.evo0 A)
  refine aJ (vs := [_]) iL rfl (jZ (keys := vs.map Vl.v) nD (by rw [List.length_map]; omega) (hO.nodup hK) (fun w1 h1 => by have h2 := (hMM).evo0 h1; have h3 := seq47 (w := w1) (w0 := w1) h1.size (h1.blk0 hbs) h2; rw [List.map_map] at h3; rw [List.length_map] at h3 ⊢; exact h3)) rfl ?_
  rintro _ w7 ⟨ys, a, c, ob, rfl, hP, hS, I, hG, J⟩; refine wan (bA (br1 ?_)); exact ⟨vs, m, hO, ys, a, c, ob, rfl, hP, hS, I, (Ge.fresh A hG), (A.then J)⟩
theorem dS : Build Tryz.prog 52 #[(0, 1), (1, 1)] #[.string ByteArray.empty, .string ByteArray.empty] := ⟨_, .agg #[.string ByteArray.empty, .string ByteArray.empty], Tryz.underlying52, by kernel_rfl, rfl, fun w => by kernel_rfl⟩
theorem eA : jL Tryz.prog 22 = some 1 := by kernel_rfl
theorem fI : cS Tryz.prog 14 := ⟨_, Tryz.func14, by kernel_rfl, by kernel_rfl⟩
theorem dP : cS Tryz.prog 20 := ⟨_, Tryz.func20, by kernel_rfl, by kernel_rfl⟩
theorem nO : cS Tryz.prog 33 := ⟨_, Tryz.func33, by kernel_rfl, by kernel_rfl⟩
theorem gM : iQ Tryz.prog 32 = some (49, 1) := by kernel_rfl
theorem eP : iQ Tryz.prog 49 = some (52, 2) := by kernel_rfl
def few0 : List (List LB) := [[(ByteArray.mk #[95, 95, 110, 97, 109, 101, 95, 95], ByteArray.mk #[117, 112]), (ByteArray.mk #[106, 111, 98], ByteArray.mk #[97])], [(ByteArray.mk #[106, 111, 98], ByteArray.mk #[98])], []]
def oB (l : LB) : List Value := [.string l.1, .string l.2]
theorem mQ {X : List Nat} {w : World} {e : TypeId} {a : Option Addr} {m c : Nat} {l : List LB} {ob : Option Nat} (h : OwnS w e 2 a m c (l.map oB).flatten ob) (hl : l.length = m) (hz : ∀ d, d ∈ l → d.1.size ≤ 1000000000 ∧ d.2.size ≤ 1000000000) (hx : ∀ g, ob = some g → g ∉ X) : RSl 2 RLB X w (.slice a m c) l :=
  RSl.ofOwn (rows := l.map oB) h ⟨by simp, fun k h1 h2 => by simp only [List.getElem_map]; exact ⟨rfl, rfl, hz _ (List.getElem_mem h1)⟩⟩ hl hx
theorem pG {l : List LB} (h1 : ∀ i (h : i < l.length), dT l[i].1 ∧ ¬ l[i].2 = ByteArray.empty ∧ lO l[i].2 = true) (h2 : ∀ i (h : i < l.length) j (hj : j < l.length), i = j + 1 → l[j].1.toList < l[i].1.toList) : jS l := fun i hi => ⟨(h1 i hi).1, (h1 i hi).2.1, (h1 i hi).2.2, fun j hj e => h2 i hi j hj e⟩
theorem few_ok {w : World} : Calls Tryz.prog 33 #[] w (Ret fun v w' => RSl 1 (RSlice 2 RLB) [] w' v few0 ∧ Evo [] w w') := by
  refine aR (N := 7) Tryz.func33 rfl rfl rfl ?_; refine csr (wan (csr (aI (eT (vs := [(0, _), (1, _)]) dS rfl (cells := [_, _]) rfl) ?_))); refine aI (eT (vs := [(0, _), (1, _)]) dS rfl (cells := [_, _]) rfl) ?_; refine bS (vs := [_, _]) rfl eP rfl rfl rfl rfl fun b1 w2 J V L => ?_; refine aI (eT (vs := [(0, _), (1, _)]) dS rfl (cells := [_, _]) rfl) ?_; refine bS (vs := [_]) rfl eP rfl rfl rfl rfl fun b8 w9 H O E => ?_; refine bS (vs := [_, _, _]) rfl gM rfl rfl rfl rfl fun W M I U A => ?_; refine wan (bA (br1 ?_)); have h1 := mQ (X := []) (l := [(ByteArray.mk #[95, 95, 110, 97, 109, 101, 95, 95], ByteArray.mk #[117, 112]), (ByteArray.mk #[106, 111, 98], ByteArray.mk #[97])]) ((J.evo0 E).evo0 A) rfl (by decide) (by simp); have h2 := mQ (X := []) (l := [(ByteArray.mk #[106, 111, 98], ByteArray.mk #[98])]) (H.evo0 A) rfl (by decide) (by simp); have h3 : RSl 2 RLB [] M (.slice none 0 0) [] := ⟨none, 0, rfl, by simp, fun k hk => by simp at hk⟩; refine ⟨RSl.ofOwn (rows := [[_], [_], [_]]) I ⟨rfl, fun k hk hk2 => ?_⟩ rfl (by simp), ((((Evo.refl [] w).then L).then E).then A)⟩
  match k, hk, hk2 with
  | 0, _, _ => exact ⟨rfl, _, rfl, h1⟩
  | 1, _, _ => exact ⟨rfl, _, rfl, h2⟩
  | 2, _, _ => exact ⟨rfl, _, rfl, h3⟩
theorem few_va : jS [(ByteArray.mk #[95, 95, 110, 97, 109, 101, 95, 95], ByteArray.mk #[117, 112]), (ByteArray.mk #[106, 111, 98], ByteArray.mk #[97])] := pG (by decide +kernel) (by decide +kernel)
theorem few_vb : jS [(ByteArray.mk #[106, 111, 98], ByteArray.mk #[98])] := pG (by decide +kernel) (by decide +kernel)
theorem few_vc : jS [] := pG (by decide +kernel) (by decide +kernel)
theorem rL : ∀ i (h : i < few0.length), jS few0[i] := by
  intro i hi
  match i, hi with
  | 0, _ => exact few_va
  | 1, _ => exact few_vb
  | 2, _ => exact few_vc
theorem rB {w : World} {v : Value} {sets : List (List LB)} (hs : RSl 1 (RSlice 2 RLB) [] w v sets) (hl1 : sets.length ≤ 2000000) (hl2 : ∀ i (h : i < sets.length), sets[i].length ≤ 2000000) (hl3 : (bL sets sets.length).length ≤ 100000000) (hv : ∀ i (h : i < sets.length), jS sets[i]) :
    Calls Tryz.prog 14 #[v] w (Ret fun r w' => ∃ bx mb D, r = .tuple #[.pointer (some ⟨bx, 0, none⟩), .int .i64 0] ∧ IxAt w' w.heap.size bx sets.length mb D ∧ Knows D (bL sets sets.length) ∧ Evo [] w w') := by
  refine (sO hs hl1 hl2 hl3).mono ?_
  rintro e w' ⟨r, rfl, ⟨_, ⟨i, hi, hbad⟩, _⟩ | ⟨bx, mb, D, h1, _, h2, h3, h4⟩⟩
  · exact absurd (hv i hi) hbad
  · exact ⟨_, rfl, bx, mb, D, h1, h2, h3, h4⟩
theorem few_ids : eD (bL few0 few0.length) few0.length (ByteArray.mk #[106, 111, 98]) (ByteArray.mk #[98]) = [1] := by decide +kernel
theorem sC {sets : List (List LB)} : ∀ t, t ∈ bL sets sets.length → 0 ≤ t.2.2 ∧ t.2.2 < sets.length := fun t ht => by
  obtain ⟨i, hi, _, e, _⟩ := rD ht
  omega
theorem oG : (bL few0 few0.length).length = 3 := by decide +kernel
theorem tO {w : World} : Calls Tryz.prog 13 #[] w (Ret fun v w' => v = .bool true ∧ Evo [] w w') := by
  refine aR (N := 21) Tryz.func13 rfl rfl rfl ?_; refine csr (wan (csr (aJ (vs := []) nO rfl (few_ok) rfl ?_))); rintro _ w1 ⟨hF, L⟩
  refine aJ (vs := [_]) fI rfl (rB hF (by decide) (by decide) (by rw [oG]; decide) rL) rfl ?_
  rintro _ w4 ⟨bx, mb, D, rfl, hI, hK, M⟩; have U := hI; refine aD (aI (aU rfl rfl) ?_); refine aI (aU rfl rfl) ?_; refine bY (wan (csr (aD (aI (qI rfl rfl rfl) ?_)))); refine aD (aY (aD (aY (aJ (vs := [_]) fG rfl (pF hI) rfl ?_)))); rintro _ w8 ⟨rfl, E⟩; refine aY (aI (qI rfl rfl rfl) ?_); refine bZ (aD (aY (aD (aY ?_))))
  refine aJ (vs := [_, _, _]) dP rfl (lX (hI.evo0 E) hK sC (by decide) (by rw [oG]; decide) (ByteArray.mk #[106, 111, 98]) (ByteArray.mk #[98])) rfl ?_
  rintro _ V ⟨la, lc, lob, rfl, hO, hG, H⟩; refine aY (bS (vs := [_]) rfl cL rfl rfl rfl rfl fun W Y I O A => ?_); refine aY ?_
  refine aJ (vs := [_, _]) dZ rfl (jV (d1 := [1]) (d2 := [1]) (by have h := (hO.evo0 A); rw [few_ids] at h ⊢; exact eK (X := []) h (fun _ _ => by simp)) (eK (X := []) (l := [1]) I (fun _ _ => by simp)) (by simp) rfl) rfl ?_
  rintro _ Z ⟨rfl, J⟩; refine bZ (wan (bA (br1 ?_))); exact ⟨rfl, (((((((Evo.refl [] w).then L).then M).then E).then H).then A).then J)⟩
theorem mM {X Y : List Nat} {w : World} {v1 v2 : Value} {d1 d2 : List ByteArray} (h1 : RSl 1 tS X w v1 d1) (h2 : RSl 1 tS Y w v2 d2) (hl : d1.length ≤ 140737488355328) (hl' : d2.length ≤ 140737488355328) :
    Calls Tryz.prog 23 #[v1, v2] w (Ret fun v w' => v = .bool (decide (d1 = d2)) ∧ Evo [] w w') := by
  obtain ⟨a1, c1, rfl, hlc1, e1⟩ := h1; obtain ⟨a2, c2, rfl, hlc2, e2⟩ := h2; refine aR (N := 26) Tryz.func23 rfl rfl rfl ?_; refine csr (wan (aE (csr (aD (aI (aO rfl Tryz.underlying22 rfl) ?_))))); refine aD (aI (aO rfl Tryz.underlying22 rfl) ?_); refine aI (kM rfl rfl) ?_; refine wnn (cC rfl (fun I => ?_) (fun I => ?_))
  ·refine csr (wan (bA (aX (br1 ?_)))); exact ⟨congrArg Value.bool (decide_eq_false (fun h => I (by rw [h]))).symm, (Evo.refl [] w)⟩
  refine aZ (aC (aE (csr (wan (aL (bQ (α := Nat) (0) (fun k => [(5, .int .i64 (k : Nat))]) [(0, _), (1, _)] (fun k wr => Evo [] w wr ∧ (k ≤ d1.length ∧ d1.take k = d2.take k)) (fun k => d1.length - k) ⟨rfl, trivial⟩ ⟨rfl, rfl, trivial⟩ ⟨Evo.refl _ _, ⟨Nat.zero_le _, rfl⟩⟩ ?_)))))); rintro k wr1 ⟨J, ⟨hk, hpre⟩⟩; show CW _ _ _ _ [(5, _), (0, _), (1, _)] _; have H := (Evo.refl [] w).then J; refine aE (csr (aD (aD (aI (aO rfl Tryz.underlying22 rfl) ?_)))); refine aI (cE rfl rfl) ?_; refine wnn (cC rfl (fun L => ?_) (fun L => ?_))
  ·obtain ⟨b1, o1, vs1, ha1, hb1, -, M, hz1⟩ := e1 k (by omega); obtain ⟨b2, o2, vs2, ha2, hb2, -, O, hz2⟩ := e2 k (by omega); cases hz1; cases hz2; refine aZ (aC (aE (aL (aE ?_)))); refine oM (by kernel_rfl) (by kernel_rfl) ?_; refine fM (fun _ A => bD rfl) ?_; refine fM (fun _ A => bD rfl) ?_
   refine fM (fun _ A => aS (n := k) (by rw [ha1]; rfl) rfl eA (by omega)) ?_
   refine fM (fun _ A => bE rfl bM ((M.evo (((H.then A)).any X) hb1) 0 _ rfl)) ?_; refine fM (fun _ A => bD rfl) ?_; refine fM (fun _ A => bD rfl) ?_
   refine fM (fun _ A => aS (n := k) (by rw [ha2]; rfl) rfl eA (by omega)) ?_
   refine fM (fun _ A => bE rfl bM ((O.evo (((H.then A)).any Y) hb2) 0 _ rfl)) ?_; refine fM (fun _ A => qH rfl rfl) ?_; refine sF (fun U A => aC ?_); refine cC rfl (fun E => ?_) (fun E => ?_)
   ·refine csr (wan (bA (bG (aX (aX (bG (aX (br1 ?_))))))))
    exact ⟨congrArg Value.bool (decide_eq_false (fun h => E (by subst h; rfl))).symm, (H.then A)⟩
   refine aZ (bC (aC (aK (aD ?_)))); refine aI (bB rfl rfl (by omega) (by omega)) ?_; refine bY (bF (bJ ?_)); refine ⟨k + 1, ?_, ⟨rfl, trivial⟩, ⟨rfl, rfl, trivial⟩, (J.then A), ?_⟩
   · omega
   have h3 : d1[k] = d2[k] := by simpa using E
   exact ⟨by omega, by rw [List.take_succ_eq_append_getElem (by omega), List.take_succ_eq_append_getElem (by omega), hpre, h3]⟩
  refine bP (aT (aT (bO (aC ?_)))); refine csr (wan (bA (br1 ?_)))
  exact ⟨congrArg Value.bool (decide_eq_true (by rw [List.take_of_length_le (by omega), List.take_of_length_le (by omega)] at hpre; exact hpre)).symm, H⟩
end Go.Proofs.YtidpigbinpaaeaaGreat
namespace Go.Proofs.YtidpigbinpaaeaaGreat
open Go.RowKit Go.W
abbrev sv (s : ByteArray) : Value := .string s
inductive Rx where
  | mk (kind r : Int) (ranges : List (Int × Int)) (min max : Int) (lazy : Bool) (cap : Int) (name : ByteArray) (kids : List Rx)
def pZ (c : Nat) : Prop := (48 ≤ c ∧ c ≤ 57) ∨ (65 ≤ c ∧ c ≤ 90) ∨ (97 ≤ c ∧ c ≤ 122) ∨ c = 95
instance (c : Nat) : Decidable (pZ c) := by unfold pZ; infer_instance
def Brk (a k : Int) : Prop := (k = 5 ∧ a = 5) ∨ (k = 4 ∧ (a = 5 ∨ a = 4 ∨ a = 1)) ∨ (k = 6 ∧ (a = 5 ∨ a = 4 ∨ a = 1 ∨ a = 6))
instance (a k : Int) : Decidable (Brk a k) := by unfold Brk; infer_instance
structure In where
  op : Int
  out : Int
  alt : Int
  arg : Int
  rs : List (Int × Int)
def InR (c : Int) (l : List (Int × Int)) : Prop := ∃ g, g ∈ l ∧ g.1 ≤ c ∧ c ≤ g.2
def wordI (c : Int) : Prop := (48 ≤ c ∧ c ≤ 57) ∨ (65 ≤ c ∧ c ≤ 90) ∨ (97 ≤ c ∧ c ≤ 122) ∨ c = 95
variable {l : List In} {rs : List Int}
end Go.Proofs.YtidpigbinpaaeaaGreat
namespace Go.Proofs.YtidpigbinpaaeaaGreat
open Go.Lib Go.W
def IsR (n : Int) : Prop := 0 ≤ n ∧ n ≤ 1114111 ∧ (n < 55296 ∨ 57343 < n)
instance (n : Int) : Decidable (IsR n) := by unfold IsR; infer_instance
section
variable {b0 b1 b2 b3 : Nat}
end
end Go.Proofs.YtidpigbinpaaeaaGreat
namespace Go.Proofs.YtidpigbinpaaeaaGreat
open Go.RowKit Go.W
def qJ (s : ByteArray) (j : Int) : Prop := 0 ≤ j ∧ j < s.size ∧ pZ (sb s j.toNat)
instance (s : ByteArray) (j : Int) : Decidable (qJ s j) := by unfold qJ; infer_instance
def GoesB (s : ByteArray) (c : In) (i : Nat) : Prop := c.op = 3 ∨ c.op = 4 ∨ c.op = 10 ∨ (c.op = 5 ∧ i = 0) ∨ (c.op = 6 ∧ i = s.size) ∨ (c.op = 7 ∧ (i = 0 ∨ sb s (i - 1) = 10)) ∨ (c.op = 8 ∧ (i = s.size ∨ sb s i = 10)) ∨
  (c.op = 9 ∧ (¬ (qJ s ((i : Int) - 1) ↔ qJ s i) ↔ c.arg = 0))
section
variable {x : Rx} {l : List In} {n : Nat}
end
section
variable {l : List In} {s : ByteArray} {i : Nat} {init ls out : List Nat} {k : Nat}
end
end Go.Proofs.YtidpigbinpaaeaaGreat
namespace Go.W
open Go.RowKit
section
variable {P : Program} {σ : Env} {w : World} {dst : Option Nat} {T : TypeId} {pos : String} {after : Array Edge} {g : Option (Nat × Bool)}
end
end Go.W
namespace Go.Proofs.YtidpigbinpaaeaaGreat
open Go.RowKit Go.W
section
variable {x y : Rx} {a : Nat} {k kx : List In}
end
end Go.Proofs.YtidpigbinpaaeaaGreat
namespace Go.W
open Go.RowKit
section
variable {P : Program} {N : NN} {R : bT} {σ : Env} {w w' : World} {ops : Array Oper} {rest : List Oper} {n d : Nat} {op : Op} {T : TypeId} {pos : String} {after : Array Edge}
end
section
variable {P : Program} {N : NN} {R : bT} {σ : Env} {w : World} {ops : Array Oper} {rest : List Oper} {T : TypeId} {pos : String} {after : Array Edge} {d : Nat}
end
section
variable {P : Program} {σ : Env} {w : World}
end
section
variable {P : Program} {σ : Env} {w : World} {dst : Option Nat} {T : TypeId} {pos : String} {after : Array Edge} {g : Option (Nat × Bool)}
end
section
variable {P : Program} {N : NN} {R : bT} {σ : Env} {w : World} {ops : Array Oper} {rest : List Oper} {T : TypeId} {pos : String} {after : Array Edge}
end
end Go.W
namespace Go.W
section
variable {P : Program} {σ : Env} {w : World} {dst : Option Nat} {T : TypeId} {pos : String} {after : Array Edge} {g : Option (Nat × Bool)}
end
end Go.W
namespace Go.Proofs.YtidpigbinpaaeaaGreat
open Go.RowKit Go.W
attribute [local irreducible] Decidable.decide
theorem orb192 : ∀ x, x < 32 → 192 ||| x = 192 + x := by decide
theorem r2 {m : Nat} (h : m < 2048) : 192 ||| (m / 2 ^ 6 % 256) = 192 + m / 64 := by
  rw [show (2 : Nat) ^ 6 = 64 from rfl, Nat.mod_eq_of_lt (show m / 64 < 256 by omega), orb192 _ (by omega)]
section
variable {P : Program} {σ : Env} {w : World} {dst : Option Nat} {T : TypeId} {pos : String} {after : Array Edge} {g : Option (Nat × Bool)}
end
def hx (d : Nat) : Nat := if d < 10 then 48 + d else 87 + d
end Go.Proofs.YtidpigbinpaaeaaGreat
namespace Go.Proofs.YtidpigbinpaaeaaGreat
open Go.RowKit Go.W
structure Fl where
  fold : Bool
  lines : Bool
  dots : Bool
  lazy : Bool
structure PS where
  pos : Nat
  now : Fl
  opn : Nat
  names : List ByteArray
abbrev PX (α : Type) := Except Int (α × PS)
def isB (s : ByteArray) (i b : Nat) : Prop := i < s.size ∧ sb s i = b
instance (s : ByteArray) (i b : Nat) : Decidable (isB s i b) := by unfold isB; infer_instance
def digN (c : Nat) : Prop := 48 ≤ c ∧ c ≤ 57
instance (c : Nat) : Decidable (digN c) := by unfold digN; infer_instance
def rs (l : List (Int × Int)) : Int → Prop := fun c => InR c l
structure Opn where
  size : Nat
  name : ByteArray
  thn : Fl
  capt : Bool
  sett : Bool
  err : Int
section
variable {w : World} {e : TypeId} {a : Option Addr} {n c : Nat} {l : List (Int × Int)} {ob : Option Nat}
end
end Go.Proofs.YtidpigbinpaaeaaGreat
namespace Go.Proofs.YtidpigbinpaaeaaGreat
open Go.RowKit Go.W
attribute [local irreducible] Decidable.decide
open Go.Shelf Go.Lib Go.Sort in
section
end
section
variable {m : List (Int × Int)} {k : Nat} {o : List (Int × Int)}
end
end Go.Proofs.YtidpigbinpaaeaaGreat
namespace Go.Proofs.YtidpigbinpaaeaaGreat
open Go.RowKit Go.W
instance (s : ByteArray) (c : In) (i : Nat) : Decidable (GoesB s c i) := by unfold GoesB; infer_instance
def Occ (s : ByteArray) (a b k : Nat) : Prop := k + 1 < s.size ∧ sb s k = a ∧ sb s (k + 1) = b
instance (s : ByteArray) (a b k : Nat) : Decidable (Occ s a b k) := by unfold Occ; infer_instance
end Go.Proofs.YtidpigbinpaaeaaGreat
namespace Go.Proofs.YtidpigbinpaaeaaGreat
open Go.RowKit Go.W
attribute [local irreducible] Decidable.decide
def Pre (t p : ByteArray) : Prop := p.size ≤ t.size ∧ t.extract 0 p.size = p
instance (t p : ByteArray) : Decidable (Pre t p) := by unfold Pre; infer_instance
def GMax : Nat := 0
def Glb (w : World) : Prop := ∃ m : Int, w.cell? ⟨GMax, 0, none⟩ = some (.int .i64 m)
end Go.Proofs.YtidpigbinpaaeaaGreat
namespace Go.Proofs.YtidpigbinpaaeaaGreat
open Go.RowKit Go.W
def Odd (c : Int) : Prop := c < 32 ∨ c = 127 ∨ (55296 ≤ c ∧ c ≤ 57343)
instance (c : Int) : Decidable (Odd c) := by unfold Odd; infer_instance
def EndC (c : Int) : Prop := c < 128 ∧ pZ c.toNat ∧ c ≠ 95
instance (c : Int) : Decidable (EndC c) := by unfold EndC; infer_instance
end Go.Proofs.YtidpigbinpaaeaaGreat
namespace Go.Proofs.YtidpigbinpaaeaaGreat
abbrev Notes := List (Nat × Nat)
abbrev Th := Nat × Notes
inductive Mov where
  | rune (out : Option Nat)
  | mat
  | go (o : Nat)
  | split (o a : Nat)
  | save (s o : Nat)
  | dead
abbrev Vis := Nat → Bool
section
variable (mv : Nat → Nat → Mov) (nxt : Nat → Option Nat) (len : Nat)
def first (at' : Nat) (L : List Th) : Option Notes := (L.find? fun x => match mv at' x.1 with | .mat => true | _ => false).map (·.2)
variable {mv nxt len}
end
end Go.Proofs.YtidpigbinpaaeaaGreat
namespace Go.Proofs.YtidpigbinpaaeaaGreat
open Go.RowKit Go.W
abbrev Inst := In
def NumOk (c : Inst) (n g : Int) : Prop := 1 ≤ c.op ∧ c.op ≤ 11 ∧ ((c.op = 1 ∨ c.op = 11) → c.out = 0) ∧ (¬ (c.op = 1 ∨ c.op = 11) → 0 ≤ c.out ∧ c.out < n) ∧ (c.op = 3 → 0 ≤ c.alt ∧ c.alt < n) ∧ (c.op ≠ 3 → c.alt = 0) ∧
  (c.op = 4 → 2 ≤ c.arg ∧ c.arg ≤ 2 * g + 1) ∧ (c.op = 9 → c.arg = 0 ∨ c.arg = 1) ∧ (c.op ≠ 4 ∧ c.op ≠ 9 → c.arg = 0) ∧ (c.op = 2 ↔ 0 < (c.rs.length : Int))
def RsUp (rs : List (Int × Int)) (k : Nat) : Prop := ∀ i (h : i < rs.length), i < k → 0 ≤ rs[i].1 ∧ rs[i].1 ≤ rs[i].2 ∧ rs[i].2 ≤ 1114111 ∧ ∀ _h0 : 0 < i, rs[i - 1].2 < rs[i].1
def SoundI (c : Inst) (n g : Int) : Prop := NumOk c n g ∧ RsUp c.rs c.rs.length
structure Prg where
  insts : List Inst
  start : Int
  groups : Int
  names : List ByteArray
def HeadOk (p : Prg) : Prop := 1 ≤ (p.insts.length : Int) ∧ (p.insts.length : Int) ≤ 10000 ∧ 0 ≤ p.start ∧ p.start < (p.insts.length : Int) ∧ 0 ≤ p.groups ∧ p.groups ≤ 100 ∧ (p.names.length : Int) = p.groups
def SoundUp (p : Prg) (k : Nat) : Prop := ∀ i (h : i < p.insts.length), i < k → SoundI p.insts[i] p.insts.length p.groups
def SoundP (p : Prg) : Prop := HeadOk p ∧ SoundUp p p.insts.length
end Go.Proofs.YtidpigbinpaaeaaGreat
namespace Go.Proofs.YtidpigbinpaaeaaGreat
open Go.RowKit Go.W
attribute [local irreducible] Decidable.decide
def tQ (c : Int) : Prop := c = 95 ∨ (48 ≤ c ∧ c ≤ 57) ∨ (97 ≤ c ∧ c ≤ 122) ∨ (65 ≤ c ∧ c ≤ 90)
instance (c : Int) : Decidable (tQ c) := by unfold tQ; infer_instance
def mX (s : ByteArray) (i : Int) : Prop := 0 ≤ i ∧ i < s.size ∧ tQ (sb s i.toNat)
instance (s : ByteArray) (i : Int) : Decidable (mX s i) := by unfold mX; infer_instance
def tR (op arg : Int) (s : ByteArray) (a : Nat) : Prop :=
  (op = 5 ∧ a = 0) ∨ (op = 6 ∧ a = s.size) ∨ (op = 7 ∧ (a = 0 ∨ sb s (a - 1) = 10)) ∨ (op = 8 ∧ (a = s.size ∨ sb s a = 10)) ∨ (op = 9 ∧ (¬ (mX s ((a : Int) - 1) ↔ mX s a) ↔ arg = 0)) ∨ op = 10
instance (op arg : Int) (s : ByteArray) (a : Nat) : Decidable (tR op arg s a) := by unfold tR; infer_instance
def tU (r : Int) (rs : List (Int × Int)) : Prop := ∃ q, q ∈ rs ∧ q.1 ≤ r ∧ r ≤ q.2
instance (r : Int) (rs : List (Int × Int)) : Decidable (tU r rs) := by unfold tU; infer_instance
end Go.Proofs.YtidpigbinpaaeaaGreat
namespace Go.Proofs.YtidpigbinpaaeaaGreat
open Go.W
def seenV (a : Nat) (sv : Nat → Nat) : Vis := fun j => decide (sv j = a + 1)
def oA (sv : Nat → Nat) (i v : Nat) : Nat → Nat := fun j => if j = i then v else sv j
def us (n a : Nat) (sv : Nat → Nat) : Nat := (List.range n).countP fun j => !(seenV a sv j)
end Go.Proofs.YtidpigbinpaaeaaGreat
namespace Go.Proofs.YtidpigbinpaaeaaGreat
section
variable (mv : Nat → Nat → Mov) (nxt : Nat → Option Nat) (len : Nat)
end
variable {mv : Nat → Nat → Mov} {nxt : Nat → Option Nat} {len : Nat}
end Go.Proofs.YtidpigbinpaaeaaGreat
namespace Go.Proofs.YtidpigbinpaaeaaGreat
variable {l : List In} {G : Int}
end Go.Proofs.YtidpigbinpaaeaaGreat
namespace Go.Proofs.YtidpigbinpaaeaaGreat
open Go.RowKit Go.W
section
variable {p : Prg} {s : ByteArray} {a i o : Nat}
end
section
variable {p : Prg} {s : ByteArray} (hs : SoundP p)
include hs
end
end Go.Proofs.YtidpigbinpaaeaaGreat
namespace Go.Proofs.YtidpigbinpaaeaaGreat
open Go.RowKit Go.W
attribute [local irreducible] Decidable.decide
section
variable {s : ByteArray} {i k j m : Nat} {S : Int → Prop} {r q : Int} {e : Int}
end
section
variable {s : ByteArray} {f i j : Nat} {fst : Bool} {S T : Int → Prop} {e : Int} {fl : Fl}
end
section
variable {r : ByteArray}
end
section
variable {s : ByteArray} {i f j : Nat} {b m : Bool} {n : Int} {fl : Fl}
end
def hd (k : Nat) : ByteArray := if k = 0 then ByteArray.mk #[40, 63, 80, 60] else ByteArray.mk #[40, 63, 60]
section
variable {s : ByteArray} {st : PS} {S : Int → Prop} {v j : Nat} {e : Int}
end
section
variable {s : ByteArray} {ex : PS → PX Rx} {st : PS} {o : Opn} {e : Int} {x : Rx} {st2 : PS}
end
section
variable {s : ByteArray} {ex : PS → PX Rx} {st : PS} {x : Rx} {j : Nat} {e : Int}
end
end Go.Proofs.YtidpigbinpaaeaaGreat
namespace Go.Proofs.YtidpigbinpaaeaaGreat
open Go.RowKit Go.W
section
variable {s : ByteArray} {ex : PS → PX Rx} {f : Nat} {l g : List Rx} {ah : Bool} {st st2 : PS} {e lo hi : Int} {nn : Nat}
end
end Go.Proofs.YtidpigbinpaaeaaGreat
namespace Go.W
open Go.RowKit
section
variable {P : Program} {σ : Env} {w : World}
end
end Go.W
namespace Go.Proofs.YtidpigbinpaaeaaGreat
open Go.RowKit Go.W
attribute [local irreducible] Decidable.decide
section
variable {s : ByteArray} {e : Int} {x : Rx} {st : PS}
end
end Go.Proofs.YtidpigbinpaaeaaGreat
namespace Go.Proofs.YtidpigbinpaaeaaGreat
open Go.RowKit Go.W
open Classical in
noncomputable def tf (p : Prop) : Bool := decide p
noncomputable def bl (n : Nat) (f : Nat → Prop) : List Bool := (List.range n).map fun j => tf (f j)
instance (c : Int) : Decidable (wordI c) := by unfold wordI; infer_instance
end Go.Proofs.YtidpigbinpaaeaaGreat
namespace Go.Proofs.YtidpigbinpaaeaaGreat
open Go.RowKit Go.W
attribute [local irreducible] Decidable.decide
section
variable {P : Program} {σ : Env} {w : World} {dst : Option Nat} {T : TypeId} {pos : String} {after : Array Edge} {g : Option (Nat × Bool)}
end
end Go.Proofs.YtidpigbinpaaeaaGreat
namespace Go.Proofs.YtidpigbinpaaeaaGreat
open Go.RowKit Go.W
theorem toList_inj {a b : ByteArray} (h : a.toList = b.toList) : a = b := by
  rw [Go.ByteArray.toList_eq, Go.ByteArray.toList_eq] at h
  cases a; cases b
  simpa [Array.toList_inj] using h
theorem kD {w : World} {e : TypeId} {a : Option Addr} {n c : Nat} {xs : List Value} {g : Nat} (h : OwnS w e 1 a n c xs (some g)) : a = some ⟨g, 0, none⟩ := by
  rcases h.2 with ⟨_, _, h3⟩ | ⟨g', _, _, hg, hv, _⟩
  · cases h3
  · cases hg; cases hv; rfl
section
variable {α : Type} [Inhabited α] (enc : α → Value)
end
variable {s : ByteArray} {N : Nat} {R S : Nat → Nat → Prop} {t u : ByteArray} {ex fx : Bool}
end Go.Proofs.YtidpigbinpaaeaaGreat
namespace Go.Proofs.YtidpigbinpaaeaaGreat
open Go.RowKit Go.W
def At (s : ByteArray) : Nat → List Nat → Prop
  | _, [] => True
  | i, b :: l => isB s i b ∧ At s (i + 1) l
def Plain (c : Nat) : Prop := c < 128 ∧ c ≠ 36 ∧ c ≠ 40 ∧ c ≠ 41 ∧ c ≠ 42 ∧ c ≠ 43 ∧ c ≠ 46 ∧ c ≠ 63 ∧ c ≠ 91 ∧ c ≠ 92 ∧ c ≠ 94 ∧ c ≠ 123 ∧ c ≠ 124
instance (c : Nat) : Decidable (Plain c) := by unfold Plain; infer_instance
section
variable {s : ByteArray} {ex : PS → PX Rx} {f : Nat} {l g : List Rx} {ah : Bool} {st st2 : PS} {e : Int} {c : Nat}
end
section
variable {o : Int} {ns ns' : List ByteArray} {q : Nat} {x : Rx}
end
section
variable {K : Int → Prop} {o : Int}
end
section
variable {s t : ByteArray} {i i' : Nat}
end
section
variable {s : ByteArray} {ex : PS → PX Rx} {st : PS}
end
section
variable {s : ByteArray} {ex : PS → PX Rx}
end
section
variable {s : ByteArray} {ex : PS → PX Rx} {st : PS}
end
section
variable {s : ByteArray} {ex : PS → PX Rx} {o : Nat} {ns0 : List ByteArray} {p0 : Nat}
end
end Go.Proofs.YtidpigbinpaaeaaGreat
namespace Go.Proofs.YtidpigbinpaaeaaGreat
open Go.RowKit Go.W
attribute [local irreducible] Decidable.decide
theorem lG : Build Tryz.prog 98 #[(0, 1)] #[.slice none 0 0] := ⟨_, .agg #[.slice none 0 0], Tryz.underlying98, by kernel_rfl, rfl, fun w => by kernel_rfl⟩
end Go.Proofs.YtidpigbinpaaeaaGreat
namespace Go.Proofs.YtidpigbinpaaeaaGreat
open Go.RowKit Go.W
section
variable {D : List En} {n : ByteArray} {m : Option Nat} {vs : List Vl} {sets : List (List LB)}
end
end Go.Proofs.YtidpigbinpaaeaaGreat
namespace Go.Proofs.YtidpigbinpaaeaaGreat
open Go.RowKit Go.W
attribute [local irreducible] Decidable.decide
theorem nQ : cS Tryz.prog 18 := ⟨_, Tryz.func18, by kernel_rfl, by kernel_rfl⟩
theorem nM : cS Tryz.prog 36 := ⟨_, Tryz.func36, by kernel_rfl, by kernel_rfl⟩
theorem nR : cS Tryz.prog 13 := ⟨_, Tryz.func13, by kernel_rfl, by kernel_rfl⟩
theorem fH : cS Tryz.prog 15 := ⟨_, Tryz.func15, by kernel_rfl, by kernel_rfl⟩
section
variable {P : Program} {σ : Env} {w : World} {dst : Option Nat} {T : TypeId} {pos : String} {after : Array Edge} {g : Option (Nat × Bool)}
end
end Go.Proofs.YtidpigbinpaaeaaGreat
namespace Go.Proofs.YtidpigbinpaaeaaGreat
open Go.ChangeAt Go.ChangeShapes Go.RowKit Go.W Go.WideShapes
def RLBU : Rel LB := fun _ _ vs d => vs = [.string d.1, .string d.2] ∧ d.1.size ≤ 1048576 ∧ d.2.size ≤ 1048576
theorem openLab (F : Nat) : fK F 52 RLBU (fun _ => 0) := fun H enc w fuel cs x hfu h hw hbk => by
  obtain ⟨a, pa, ⟨ea, ha⟩, -, -⟩ := gL (F := F) (T := 9) (off := 0) (m := 1) Tryz.underlying52 (by omega) h hw hbk 0 rfl rfl rfl (by kernel_rfl) (eY F Tryz.underlying9)
  obtain ⟨b, pb, ⟨eb, hb⟩, -, -⟩ := gL (F := F) (T := 9) (off := 1) (m := 1) Tryz.underlying52 (by omega) h hw hbk 1 rfl rfl rfl (by kernel_rfl) (eY F Tryz.underlying9)
  have hl := qY Tryz.underlying52 h
  rw [show Tryz.prog.cellsOf 52 = 2 from by kernel_rfl] at hl
  have := tJ x.1
  match cs, hl with
  | [c0, c1], _ =>
    simp at ea eb
    subst ea eb
    exact ⟨(a, b), ⟨rfl, ha, hb⟩, by simp only; omega⟩
theorem sK (F : Nat) : fK F 49 (tT 2 32 RLBU) (fun ds => (ds.map fun _ => 0).sum + 26 * ds.length) := iB Tryz.underlying49 (by kernel_rfl) (by kernel_rfl) (by decide) (openLab F)
theorem sJ (F : Nat) : fK F 32 (tT 1 24 (tT 2 32 RLBU)) (fun ds => (ds.map fun ls => (ls.map fun _ => 0).sum + 26 * ls.length).sum + 26 * ds.length) := iB Tryz.underlying32 (by kernel_rfl) (by kernel_rfl) (by decide) (sK F)
theorem unSets {X : List Nat} {w : World} {v : Value} {ds : List (List LB)} (h : RSl 1 (tT 2 32 RLBU) X w v ds) : RSl 1 (RSlice 2 RLB) X w v ds ∧ ∀ i (h : i < ds.length) l, l ∈ ds[i] → l.1.size ≤ 1048576 ∧ l.2.size ≤ 1048576 := by
  obtain ⟨a, c, he, hc, hk⟩ := h
  refine ⟨⟨a, c, he, hc, fun k hk' => ?_⟩, fun k hk' l hl => ?_⟩
  · obtain ⟨b, o, vs, h1, h2, h3, h4, u, h5, ⟨a', c', h6, h7, h8⟩, h9⟩ := hk k hk'
    exact ⟨b, o, vs, h1, h2, h3, h4, u, h5, a', c', h6, h7, fun j hj => by obtain ⟨b', o', vs', q1, q2, q3, q4, q5, q6, q7⟩ := h8 j hj; exact ⟨b', o', vs', q1, q2, q3, q4, q5, by omega, by omega⟩⟩
  · obtain ⟨b, o, vs, h1, h2, h3, h4, u, h5, ⟨a', c', h6, h7, h8⟩, h9⟩ := hk k hk'
    obtain ⟨j, hj, rfl⟩ := List.getElem_of_mem hl
    obtain ⟨b', o', vs', q1, q2, q3, q4, q5, q6, q7⟩ := h8 j hj
    exact ⟨q6, q7⟩
theorem zsum {α : Type} (l : List α) : (l.map fun _ => 0).sum = 0 := by induction l with | nil => rfl | cons x l ih => simp only [List.map_cons, List.sum_cons, ih]
theorem qS (sets : List (List LB)) : ∀ m, m ≤ sets.length → 26 * (bL sets m).length = ((sets.take m).map fun ls => (ls.map fun _ => 0).sum + 26 * ls.length).sum := by
  intro m
  induction m with
  | zero => intro _; rfl
  | succ m ih =>
    intro hm
    rw [fS (by omega), List.length_append, Nat.mul_add, ih (by omega), List.take_succ_eq_append_getElem (by omega), List.map_append, List.sum_append]
    simp only [cZ, List.length_map, List.map_cons, List.map_nil, List.sum_cons, List.sum_nil, zsum]; omega
theorem oX {sets : List (List LB)} {B : Nat} (h : (sets.map fun ls => (ls.map fun _ => 0).sum + 26 * ls.length).sum + 26 * sets.length + 26 ≤ 26 * B) : sets.length ≤ B ∧ (bL sets sets.length).length ≤ B ∧ ∀ i (h : i < sets.length), sets[i].length ≤ B := by
  have h1 := qS sets sets.length (Nat.le_refl _)
  rw [List.take_length] at h1
  refine ⟨by omega, by omega, fun i hi => ?_⟩
  have h2 := mN (sets := sets) (k := sets[i].length) hi
  rw [List.take_length, List.length_append] at h2
  simp only [cZ, List.length_map] at h2
  omega
end Go.Proofs.YtidpigbinpaaeaaGreat
namespace Go.Proofs.YtidpigbinpaaeaaGreat
open Go.RowKit Go.W
attribute [local irreducible] Decidable.decide
structure IxN (n0 s1 : Nat) (w : World) (bx : Nat) (sets : List (List LB)) : Prop where
  ex : ∃ mb D, IxAt w n0 bx sets.length mb D ∧ Knows D (bL sets sets.length) ∧ ∀ b, b ∈ Ixl bx mb D → b < s1
  few : sets.length ≤ 2000000
  rows : (bL sets sets.length).length ≤ 2000000
section
variable {n0 s1 bx : Nat} {w w' : World} {sets : List (List LB)}
theorem IxN.evo {X : List Nat} (h : IxN n0 s1 w bx sets) (he : Evo X w w') (hx : ∀ y, y ∈ X → y < n0 ∨ s1 ≤ y) : IxN n0 s1 w' bx sets := by
  obtain ⟨⟨mb, D, h1, h2, h3⟩, a, b⟩ := h
  exact ⟨⟨mb, D, h1.evo he (fun b hb hm => by have g1 := h1.2.2.2.2 b hb; have g2 := h3 b hb; have := hx b hm; omega), h2, h3⟩, a, b⟩
theorem IxN.evo0 (h : IxN n0 s1 w bx sets) (he : Evo [] w w') : IxN n0 s1 w' bx sets := h.evo he (by simp)
theorem qD {v : Value} (hs : RSl 1 (RSlice 2 RLB) [] w v sets) (hl1 : sets.length ≤ 2000000) (hl2 : ∀ i (h : i < sets.length), sets[i].length ≤ 2000000) (hl3 : (bL sets sets.length).length ≤ 2000000) :
    Calls Tryz.prog 14 #[v] w (Ret fun r w' => ∃ (q : Option Addr) (c : Int), r = .tuple #[.pointer q, iv3 c] ∧ ((q = none ∧ c ≠ 0 ∧ ∃ i, ∃ h : i < sets.length, ¬ jS sets[i]) ∨ ∃ bx, q = some ⟨bx, 0, none⟩ ∧ c = 0 ∧ (∀ i (h : i < sets.length), jS sets[i]) ∧ IxN w.heap.size w'.heap.size w' bx sets) ∧ Evo [] w w') := by
  refine (sO hs hl1 hl2 (by omega)).mono ?_
  rintro e w' ⟨r, rfl, ⟨h1, h2, h3⟩ | ⟨bx, mb, D, h1, h2, h3, h4, h5⟩⟩
  · exact ⟨_, rfl, none, 160, h1, .inl ⟨rfl, by decide, h2⟩, h3⟩
  · exact ⟨_, rfl, _, 0, h1, .inr ⟨bx, rfl, rfl, h2, ⟨mb, D, h3, h4, h3.lt⟩, hl1, hl3⟩, h5⟩
abbrev XI (sets : List (List LB)) (n u : ByteArray) : List Int := eD (bL sets sets.length) sets.length n u
theorem jX (h : IxN n0 s1 w bx sets) (n u : ByteArray) : Calls Tryz.prog 20 #[.pointer (some ⟨bx, 0, none⟩), .string n, .string u] w (Ret fun v w' => ∃ a c ob, v = .slice a (XI sets n u).length c ∧ OwnS w' 3 1 a (XI sets n u).length c ((XI sets n u).map iv3) ob ∧ Ge w ob ∧ Evo [] w w') := by
  obtain ⟨⟨mb, D, h1, h2, -⟩, a, b⟩ := h
  exact lX h1 h2 sC (by omega) (by omega) n u
def NamesIs (sets : List (List LB)) (ys : List ByteArray) : Prop := SRs3 ys ∧ ∀ y, y ∈ ys ↔ ∃ v i, (y, v, i) ∈ bL sets sets.length
def ValuesIs (sets : List (List LB)) (n : ByteArray) (ys : List ByteArray) : Prop := SRs3 ys ∧ ∀ y, y ∈ ys ↔ ∃ i, (n, y, i) ∈ bL sets sets.length
theorem NamesIs.uniq {ys zs : List ByteArray} (h : NamesIs sets ys) (k : NamesIs sets zs) : ys = zs := SRs3.ext h.1 k.1 fun x => (h.2 x).trans (k.2 x).symm
theorem ValuesIs.uniq {n : ByteArray} {ys zs : List ByteArray} (h : ValuesIs sets n ys) (k : ValuesIs sets n zs) : ys = zs := SRs3.ext h.1 k.1 fun x => (h.2 x).trans (k.2 x).symm
def Txt (w w' : World) (v : Value) (ys : List ByteArray) : Prop := ∃ a c ob, v = .slice a ys.length c ∧ OwnS w' 9 1 a ys.length c (ys.map sv3) ob ∧ Ge w ob ∧ ys.length ≤ 2000000
theorem gD (h : IxN n0 s1 w bx sets) : Calls Tryz.prog 21 #[.pointer (some ⟨bx, 0, none⟩)] w (Ret fun v w' => ∃ ys, NamesIs sets ys ∧ Txt w w' v ys ∧ Evo [] w w') := by
  obtain ⟨⟨mb, D, h1, h2, -⟩, a, b⟩ := h
  refine (sP h1 h2 (by omega)).mono ?_
  rintro e w' ⟨v, rfl, ys, a, c, ob, rfl, hP, hS, hO, hG, hw⟩
  have hl := hP.length_eq
  rw [List.length_map] at hl
  have hl2 := h2.len_le
  exact ⟨_, rfl, ys, ⟨hS, fun y => (hP.mem_iff).trans h2.mem_nm⟩, ⟨a, c, ob, rfl, hO, hG, by omega⟩, hw⟩
theorem eW (h : IxN n0 s1 w bx sets) (n : ByteArray) : Calls Tryz.prog 22 #[.pointer (some ⟨bx, 0, none⟩), .string n] w (Ret fun v w' => ∃ ys, ValuesIs sets n ys ∧ Txt w w' v ys ∧ Evo [] w w') := by
  obtain ⟨⟨mb, D, h1, h2, -⟩, a, b⟩ := h
  refine (mJ h1 h2 (by omega) n).mono ?_
  rintro e w' ⟨v, rfl, vs, m, A, ys, a, c, ob, rfl, hP, hS, hO, hG, hw⟩
  have hl := hP.length_eq
  rw [List.length_map] at hl
  have hl2 := A.len h2
  exact ⟨_, rfl, ys, ⟨hS, fun y => (hP.mem_iff).trans (A.mem h2)⟩, ⟨a, c, ob, rfl, hO, hG, by omega⟩, hw⟩
end
theorem jF {w : World} {e : TypeId} {a : Option Addr} {n c : Nat} {l : List ByteArray} {ob : Option Nat} (h : OwnS w e 1 a n c (l.map sv3) ob) : RSl 1 tS [] w (.slice a n c) l := by
  have e1 : (l.map fun z => [sv3 z]).flatten = l.map sv3 := by clear h; induction l with | nil => rfl | cons z l ih => simpa using ih
  have hl := h.length
  rw [← e1] at h
  exact RSl.ofOwn h ⟨by simp, fun k h1 h2 => by simp only [List.getElem_map]; exact ⟨rfl, rfl⟩⟩ (by simpa using hl) (fun _ _ => by simp)
theorem dV {w : World} {v1 v2 : Value} {d1 d2 : List ByteArray} (h1 : RSl 1 tS [] w v1 d1) (h2 : RSl 1 tS [] w v2 d2) (hl : d1.length ≤ 2000000) (he : d1 = d2) : Calls Tryz.prog 23 #[v1, v2] w (Ret fun v w' => v = .bool true ∧ Evo [] w w') := by
  subst he
  exact (mM h1 h2 (by omega) (by omega)).mono fun _ _ ⟨v, he, hv, hw⟩ => ⟨v, he, by rw [hv, decide_eq_true rfl], hw⟩
theorem oN {w : World} : Calls Tryz.prog 18 #[.slice none 0 0] w (Ret fun r w' => ∃ p i, r = .tuple #[.pointer p, i, iv3 0] ∧ Evo [] w w') := by
  refine aR (N := 40) Tryz.func18 rfl rfl rfl ?_; refine csr (bY (bY (wan (csr (aI (eT (vs := []) lG rfl (cells := [_]) rfl) ?_))))); refine qB rfl rfl fun bf w1 L E H => ?_; have I := E; refine wan (aE (csr (aD (aI (aO rfl Tryz.underlying33 rfl) ?_)))); refine aD (wnn (aL (bQ (α := Unit) (()) (fun x => [(14, .int .i64 0)]) [(5, _), (12, _), (13, _)] (fun x wr => Evo [] w1 wr ∧ (True)) (fun x => 0) ⟨rfl, trivial⟩ ⟨rfl, rfl, rfl, trivial⟩ ⟨Evo.refl _ _, trivial⟩ ?_))); rintro x wr7 ⟨J, -⟩; show CW _ _ _ _ [(14, _), (5, _), (12, _), (13, _)] _; refine csr (aI (cE rfl rfl) ?_); refine wnn (aE (cC rfl (fun A => ?_) (fun A => ?_)))
  ·exact absurd A (by decide)
  refine bP (aT (aT (bO (aC ?_)))); refine csr (aD (bY (bY (wan (bA (rS rfl rfl rfl rfl ?_)))))); exact ⟨_, _, rfl, (((Evo.refl [] w).then H).then J)⟩
theorem kL {n0 s1 bx : Nat} {w : World} {sets : List (List LB)} (h : IxN n0 s1 w bx sets) : Calls Tryz.prog 15 #[.pointer (some ⟨bx, 0, none⟩), .slice none 0 0] w (Ret fun r w' => ∃ a c ob, r = .tuple #[.slice a sets.length c, iv3 0] ∧ OwnS w' 3 1 a sets.length c ((cD [] sets.length).map iv3) ob ∧ Ge w ob ∧ Evo [] w w') := by
  obtain ⟨⟨mb, D, hI, hK, -⟩, hfew, -⟩ := h; have hfl := fC sets.length; refine aR (N := 36) Tryz.func15 rfl rfl rfl ?_; refine csr (bY (wan (aE (csr (aD (aJ (vs := [_]) nQ rfl (oN) rfl ?_)))))); rintro _ w1 ⟨p, i0, rfl, J⟩; have A := (Evo.refl [] w).then J; refine aD (aI (aU rfl rfl) ?_); refine aI (aU rfl rfl) ?_; refine aI (aU rfl rfl) ?_; refine bY (bY (wan (csr (aD (aI (kM rfl rfl) ?_))))); refine wnn (cC rfl (fun E => ?_) (fun E => ?_))
  ·exact absurd rfl E
  refine aZ (aC (csr (aD ?_))); refine aJ (vs := [_]) nM rfl (all_ok (hI.evo0 A) (by omega)) rfl ?_; rintro _ w4 ⟨a0, c0, ob0, rfl, L, M, O⟩; refine wan (aE (csr (aD (aI (aO rfl Tryz.underlying33 rfl) ?_)))); refine aD (wnn (aL (bQ (α := Unit) (()) (fun x => [(25, .int .i64 0), (9, .slice a0 (cD [] sets.length).length c0)]) [(0, _), (4, _), (5, _), (23, _), (24, _)] (fun x wr => Evo [] w4 wr ∧ (True)) (fun x => 0) ⟨rfl, rfl, trivial⟩ ⟨rfl, rfl, rfl, rfl, rfl, trivial⟩ ⟨Evo.refl _ _, trivial⟩ ?_))); rintro x wr8 ⟨I, -⟩; show CW _ _ _ _ [(25, _), (9, _), (0, _), (4, _), (5, _), (23, _), (24, _)] _; refine csr (aI (cE rfl rfl) ?_); refine wnn (aE (cC rfl (fun H => ?_) (fun H => ?_)))
  ·exact absurd H (by decide)
  refine bP (aT (aT (bO (aC ?_)))); refine csr (aD (bY (wan (bA (iX rfl rfl rfl ?_))))); have h9 := (L.evo0 I); rw [hfl] at h9 ⊢; exact ⟨a0, c0, ob0, rfl, h9, (Ge.fresh A M), ((A.then O).then I)⟩
theorem oS : Tryz.prog.eqGuardType Tryz.prog.depth 52 = false := by kernel_rfl
theorem kX : Tryz.prog.underlying 52 = some (.struct (Tryz.prog.fieldsOf 52)) := by kernel_rfl
theorem pT (a b : ByteArray) (w : World) : (Op.equal 52 (.agg #[.string a, .string b]) (.agg #[.string a, .string b])).run Tryz.prog w = .ok (decide (True : Prop)) w := by
  unfold Op.equal Op.maxDepth
  rw [run_equalIn_struct w 9999 52 _ _ kX (by kernel_rfl)]
  have h1 : (a == a) = true := by rw [kT]; simp
  have h2 : (b == b) = true := by rw [kT]; simp
  simp [Op.eqFields, Program.fieldsOf, Tryz.underlying52, qQ w bM, run_equalIn_string w _ 9 _ _ Tryz.underlying9, h1, h2]
def sOf (sets : List (List LB)) (j : Nat) : List LB := (sets[j]?).getD []
theorem kA {sets : List (List LB)} {j : Nat} (h : j < sets.length) : sOf sets j = sets[j] := by simp [sOf, h]
def eL (ls : List LB) : List Value := (ls.map oB).flatten
theorem lT (ls : List LB) : (eL ls).length = ls.length * 2 := by
  unfold eL
  induction ls with
  | nil => rfl
  | cons l r ih => simp only [List.map_cons, List.flatten_cons, List.length_append, ih, List.length_cons, oB, List.length_nil]; omega
theorem sI {w : World} {e : TypeId} {a : Option Addr} {n c : Nat} {ls : List LB} {ob : Option Nat} (h : OwnS w e 2 a n c (eL ls) ob) : n = ls.length := by
  have := h.length; rw [lT] at this; omega
theorem RLB.one : ∀ X w vs d, RLB X w vs d → ∀ u, u ∈ vs → u.oneCell' = true := fun _ _ _ _ h u hu => by
  obtain ⟨rfl, _⟩ := h
  simp at hu; rcases hu with rfl | rfl <;> rfl
theorem src_lab {P : Program} {X : List Nat} {w : World} {v : Value} {l : List LB} (h : RSl 2 RLB X w v l) : Src P w 2 v l.length (eL l) := by
  obtain ⟨rows, hr, hs⟩ := RSl.rows (P := P) h (Evo.refl _ _) RLB.one
  have : rows = l.map oB := by
    apply List.ext_getElem (by simpa using hr.1)
    intro k h1 h2
    have := (hr.2 k (by rw [← hr.1]; exact h1) h1).2.1
    rw [List.getElem_map]; exact this
  rw [this] at hs
  exact hs
structure OwnSets (w0 w : World) (sets : List (List LB)) (k : Nat) (S : Nat → Sl) (a : Option Addr) (c : Nat) (ob : Option Nat) : Prop where
  out : OwnS w 49 1 a k c ((List.range k).map fun j => (S j).v) ob
  fam : Fam w 52 2 k S (fun j => eL (sOf sets j))
  geo : Ge w0 ob
  gef : ∀ j, j < k → Ge w0 (S j).ob
  ap : ∀ j, j < k → Apart ob (S j).ob
theorem OwnSets.evo0 {w0 w w' : World} {sets : List (List LB)} {k : Nat} {S : Nat → Sl} {a : Option Addr} {c : Nat} {ob : Option Nat} (h : OwnSets w0 w sets k S a c ob) (he : Evo [] w w') : OwnSets w0 w' sets k S a c ob := ⟨h.out.evo0 he, h.fam.evo0 he, h.geo, h.gef, h.ap⟩
theorem OwnSets.nil (w0 w : World) (sets : List (List LB)) (S : Nat → Sl) : OwnSets w0 w sets 0 S none 0 none := ⟨OwnS.nil _ _ _, ⟨fun i hi => by omega, fun i j hi => by omega⟩, Ge.nil _, fun j hj => by omega, fun j hj => by omega⟩
theorem OwnSets.snoc {w0 w w1 w2 : World} {sets : List (List LB)} {k : Nat} {S : Nat → Sl} {a : Option Addr} {c : Nat} {ob : Option Nat} (h : OwnSets w0 w sets k S a c ob) (e1 : Evo [] w w1) {s : Sl} (hs : OwnS w1 52 2 s.a s.n s.c (eL (sOf sets k)) s.ob) (hg : Ge w s.ob) {a' : Option Addr} {c' : Nat} {ob' : Option Nat}
    (ho : OwnS w2 49 1 a' (k + 1) c' (((List.range k).map fun j => (S j).v) ++ [s.v]) ob') (e2 : Evo ob.toList w1 w2) (hob : ob' = ob ∨ ∃ g, ob' = some g ∧ w1.heap.size ≤ g) (hw : w0.heap.size ≤ w.heap.size) :
    OwnSets w0 w2 sets (k + 1) (fun j => if j = k then s else S j) a' c' ob' := by
  have hlo := Lt.own h.out
  have hls := Lt.own hs
  have hsz := e1.size
  have hap : Apart ob s.ob := Apart.fresh hlo hg
  have hap' : ∀ o, Lt w1 o → Apart ob o → Apart ob' o := fun o h1 h2 => by
    rcases hob with e | ⟨g, e, h3⟩
    · rw [e]; exact h2
    · intro g' h4 h5; rw [e] at h4; cases h4; have := h1 g h5; omega
  have hin : ∀ j, j < k → Lt w (S j).ob := fun j hj => Lt.own (h.fam.own j hj)
  refine ⟨?_, ⟨fun i hi => ?_, fun i j hi hj hij => ?_⟩, ?_, fun j hj => ?_, fun j hj => ?_⟩
  · have e : ((List.range (k + 1)).map fun j => (if j = k then s else S j).v) = ((List.range k).map fun j => (S j).v) ++ [s.v] := by
      rw [List.range_succ, List.map_append]
      congr 1
      · exact List.map_congr_left fun j hj => by rw [if_neg (by have := List.mem_range.1 hj; omega)]
      · simp
    rw [e]; exact ho
  · by_cases e : i = k
    · subst e; simp only [if_true]; exact hs.evo e2 (fun g hg => hap.symm.own g hg)
    · simp only [if_neg e]; exact ((h.fam.own i (by omega)).evo0 e1).evo e2 (fun g hg => (h.ap i (by omega)).symm.own g hg)
  · by_cases e : i = k
    · by_cases e' : j = k
      · omega
      · simp only [if_pos e, if_neg e']; exact (Apart.fresh (hin j (by omega)) hg).symm
    · by_cases e' : j = k
      · simp only [if_neg e, if_pos e']; exact Apart.fresh (hin i (by omega)) hg
      · simp only [if_neg e, if_neg e']; exact h.fam.ap i j (by omega) (by omega) hij
  · rcases hob with e | ⟨g, e, h3⟩
    · rw [e]; exact h.geo
    · intro g' h4; rw [e] at h4; cases h4; omega
  · by_cases e : j = k
    · simp only [if_pos e]; exact fun g h1 => Nat.le_trans hw (hg g h1)
    · simp only [if_neg e]; exact h.gef j (by omega)
  · by_cases e : j = k
    · simp only [if_pos e]; exact hap' _ hls hap
    · simp only [if_neg e]; exact hap' _ (fun g h1 => Nat.lt_of_lt_of_le (hin j (by omega) g h1) hsz) (h.ap j (by omega))
theorem OwnSets.rsl {w0 w : World} {sets : List (List LB)} {S : Nat → Sl} {a : Option Addr} {c : Nat} {ob : Option Nat} (h : OwnSets w0 w sets sets.length S a c ob) (hz : ∀ i (h : i < sets.length) l, l ∈ sets[i] → l.1.size ≤ 1000000000 ∧ l.2.size ≤ 1000000000) : RSl 1 (RSlice 2 RLB) [] w (.slice a sets.length c) sets := by
  have e1 : ((List.range sets.length).map fun j => [(S j).v]).flatten = (List.range sets.length).map fun j => (S j).v := by
    generalize List.range sets.length = l
    induction l with | nil => rfl | cons z l ih => simpa using ih
  have ho := h.out
  rw [← e1] at ho
  refine RSl.ofOwn ho ⟨by simp, fun k h2 h1 => ?_⟩ rfl (fun _ _ => by simp)
  have hf := h.fam.own k h2
  rw [kA h2] at hf
  simp only [List.getElem_map, List.getElem_range]
  exact ⟨rfl, _, rfl, mQ hf (sI hf).symm (hz k h2) (fun _ _ => by simp)⟩
def tL (N : Nat) (S : Nat → Sl) (ob : Option Nat) : List Nat := ob.toList ++ (List.range N).flatMap fun j => (S j).ob.toList
theorem blks_in {N : Nat} {S : Nat → Sl} {ob : Option Nat} {j : Nat} (h : j < N) : ∀ y, y ∈ (S j).ob.toList → y ∈ tL N S ob := fun y hy => List.mem_append_right _ (List.mem_flatMap.2 ⟨j, List.mem_range.2 h, hy⟩)
theorem blks_lt {w0 w : World} {sets : List (List LB)} {S : Nat → Sl} {a : Option Addr} {c : Nat} {ob : Option Nat} {N : Nat} (h : OwnSets w0 w sets N S a c ob) : ∀ y, y ∈ tL N S ob → y < w.heap.size := fun y hy => by
  rcases List.mem_append.1 hy with hy | hy
  · exact Lt.own h.out y (by simpa using hy)
  · obtain ⟨j, hj, hy⟩ := List.mem_flatMap.1 hy
    exact Lt.own (h.fam.own j (List.mem_range.1 hj)) y (by simpa using hy)
def mkB : ByteArray := ByteArray.mk #[109, 97, 114, 107, 101, 100]
def mkR : List Value := [.string mkB, .string mkB]
def kG (ls : List LB) (k : Nat) : List Value := (List.replicate k mkR).flatten ++ eL (ls.drop k)
theorem rC (ls : List LB) : kG ls 0 = eL ls := by simp [kG]
theorem nW (k : Nat) : (List.replicate k mkR).flatten.length = k * 2 := by simp [mkR]
theorem qE {ls : List LB} {k : Nat} (h : k < ls.length) : kG ls k = (List.replicate k mkR).flatten ++ (oB ls[k] ++ eL (ls.drop (k + 1))) := by
  unfold kG eL
  rw [List.drop_eq_getElem_cons h, List.map_cons, List.flatten_cons]
theorem sT {ls : List LB} {k : Nat} (h : k < ls.length) : hZ (kG ls k) (k * 2) mkR = kG ls (k + 1) := by
  rw [qE h]
  unfold hZ
  have h1 := nW k
  rw [List.take_left' h1, show k * 2 + mkR.length = (List.replicate k mkR).flatten.length + 2 by rw [h1]; rfl, ← List.drop_drop, List.drop_left' rfl]
  rw [show List.drop 2 (oB ls[k] ++ eL (ls.drop (k + 1))) = eL (ls.drop (k + 1)) from rfl]
  unfold kG
  rw [List.replicate_succ', List.flatten_append, List.flatten_singleton]
theorem kF {ls : List LB} {k : Nat} (h : k < ls.length) {w : World} {e : TypeId} {a : Option Addr} {n c : Nat} {ob : Option Nat} (ho : OwnS w e 2 a n c (kG ls k) ob) : ∃ g, ob = some g ∧ a = some ⟨g, 0, none⟩ ∧ CellsAt w g (0 + k * 2) [.string ls[k].1, .string ls[k].2] := by
  have h1 := nW k
  have hl : (kG ls k).length = ls.length * 2 := by
    unfold kG; rw [List.length_append, h1, lT, List.length_drop]; omega
  have hn := ho.length
  obtain ⟨g, hg, ha, hc⟩ := ho.cells (by omega)
  refine ⟨g, hg, ha, fun i v hv => ?_⟩
  have hi : i < 2 := (List.getElem?_eq_some_iff.1 hv).1
  have := hc (k * 2 + i) v (by
    rw [qE h, List.getElem?_append_right (by omega), h1, show k * 2 + i - k * 2 = i by omega, List.getElem?_append_left (by simpa [oB] using hi)]
    exact hv)
  rw [show 0 + k * 2 + i = 0 + (k * 2 + i) by omega]; exact this
def nilV : Value := .slice none 0 0
def iS (N : Nat) (S : Nat → Sl) (i : Nat) : List Value := (List.range N).map fun j => if j < i then nilV else (S j).v
theorem qU (N : Nat) (S : Nat → Sl) : iS N S 0 = (List.range N).map fun j => (S j).v := by simp [iS]
theorem jW {N : Nat} {S : Nat → Sl} {i : Nat} (h : i < N) : (iS N S i)[i]? = some (S i).v := by simp [iS, h]
theorem sD {N : Nat} {S : Nat → Sl} {i : Nat} (h : i < N) : (iS N S i).set i nilV = iS N S (i + 1) := by
  apply List.ext_getElem?
  intro k
  rw [List.getElem?_set]
  have hl : (iS N S i).length = N := by simp [iS]
  rw [hl]
  by_cases e : i = k
  · subst e; simp [iS, h]
  · rw [if_neg e]
    by_cases hk : k < N
    · simp only [iS, List.getElem?_map, List.getElem?_range hk, Option.map_some]
      by_cases h2 : k < i
      · rw [if_pos h2, if_pos (by omega)]
      · rw [if_neg h2, if_neg (by omega)]
    · rw [List.getElem?_eq_none (by rw [hl]; omega), List.getElem?_eq_none (by simp [iS]; omega)]
structure Wiped (sets : List (List LB)) (S : Nat → Sl) (a : Option Addr) (c : Nat) (ob : Option Nat) (w : World) (i : Nat) : Prop where
  out : OwnS w 49 1 a sets.length c (iS sets.length S i) ob
  rest : ∀ j, i ≤ j → j < sets.length → OwnS w 52 2 (S j).a (S j).n (S j).c (eL (sOf sets j)) (S j).ob
theorem Wiped.start {w0 w : World} {sets : List (List LB)} {S : Nat → Sl} {a : Option Addr} {c : Nat} {ob : Option Nat} (h : OwnSets w0 w sets sets.length S a c ob) : Wiped sets S a c ob w 0 := ⟨by rw [qU]; exact h.out, fun j _ hj => h.fam.own j hj⟩
structure Wip (sets : List (List LB)) (S : Nat → Sl) (a : Option Addr) (c : Nat) (ob : Option Nat) (w : World) (i k : Nat) : Prop where
  out : OwnS w 49 1 a sets.length c (iS sets.length S i) ob
  rest : ∀ j, i < j → j < sets.length → OwnS w 52 2 (S j).a (S j).n (S j).c (eL (sOf sets j)) (S j).ob
  cur : OwnS w 52 2 (S i).a (S i).n (S i).c (kG (sOf sets i) k) (S i).ob
theorem Wip.start {sets : List (List LB)} {S : Nat → Sl} {a : Option Addr} {c : Nat} {ob : Option Nat} {w : World} {i : Nat} (h : Wiped sets S a c ob w i) (hi : i < sets.length) : Wip sets S a c ob w i 0 := ⟨h.out, fun j h1 h2 => h.rest j (by omega) h2, by rw [rC]; exact h.rest i (Nat.le_refl _) hi⟩
theorem notz {o o1 o2 o3 o4 : Option Nat} (h1 : Apart o o1) (h2 : Apart o o2) (h3 : Apart o o3) (h4 : Apart o o4) : ∀ g, o = some g → g ∉ o1.toList ++ (o2.toList ++ (o3.toList ++ o4.toList)) := fun g hg hm => by
  simp only [List.mem_append] at hm
  rcases hm with hm | hm | hm | hm
  · exact h1.own g hg hm
  · exact h2.own g hg hm
  · exact h3.own g hg hm
  · exact h4.own g hg hm
theorem kW : pR Tryz.prog 32 32 = some (49, 1, 24) := by kernel_rfl
theorem kV : pR Tryz.prog 49 49 = some (52, 2, 32) := by kernel_rfl
theorem dY : cS Tryz.prog 21 := ⟨_, Tryz.func21, by kernel_rfl, by kernel_rfl⟩
theorem dX : cS Tryz.prog 22 := ⟨_, Tryz.func22, by kernel_rfl, by kernel_rfl⟩
theorem dW : cS Tryz.prog 23 := ⟨_, Tryz.func23, by kernel_rfl, by kernel_rfl⟩
theorem jO : fO Tryz.prog 9 = some 1 := by kernel_rfl
structure GK where
  k : Nat
  n1 : Nat
  a1 : Option Addr
  c1 : Nat
  o1 : Option Nat
  x1 : List Value
  n2 : Nat
  a2 : Option Addr
  c2 : Nat
  o2 : Option Nat
  x2 : List Value
  n3 : Nat
  a3 : Option Addr
  c3 : Nat
  o3 : Option Nat
  x3 : List Value
  n4 : Nat
  a4 : Option Addr
  c4 : Nat
  o4 : Option Nat
  x4 : List Value
theorem oH {P : Program} {σ : Env} {w : World} {dst : Option Nat} {T : TypeId} {pos : String} {after : Array Edge} {g : Option (Nat × Bool)} {x y : Operand} {t t' : TypeId} {k : IntKind} {m n : Int} (hx : σ.ev x = some (.int k m)) (hy : σ.ev y = some (.int k n)) (h : n ≤ m) : Ex P σ ⟨dst, .binOp .geq t x y t', T, pos, after, g⟩ w (.bool true) w := by
  have := kO (P := P) (σ := σ) (dst := dst) (T := T) (pos := pos) (after := after) (g := g) (w := w) (t := t) (t' := t') hx hy
  rwa [decide_eq_true h] at this
theorem oT {a b c d : ByteArray} (h : a = c) (h2 : b = d) (w : World) : (Op.equal 52 (.agg #[.string a, .string b]) (.agg #[.string c, .string d])).run Tryz.prog w = .ok (decide (True : Prop)) w := by
  subst h h2; exact pT a b w
def grB : ByteArray := ByteArray.mk #[103, 114, 111, 119, 110]
theorem mkR_one : ∀ u, u ∈ mkR → u.oneCell' = true := fun u hu => by
  simp [mkR] at hu; subst hu; rfl
theorem gC {w : World} {e : TypeId} {a : Option Addr} {n c k : Nat} {xs : List Value} {ob : Option Nat} (h : OwnS w e 1 a n c xs ob) (hk : k < n) : ∃ g, ob = some g ∧ a = some ⟨g, 0, none⟩ := by
  obtain ⟨g, hg, ha, -⟩ := h.cells (by omega)
  exact ⟨g, hg, ha⟩
theorem gF {o ob : Option Nat} {w : World} (h : ob = o ∨ ∃ g, ob = some g ∧ w.heap.size ≤ g) {Z : List Nat} {w5 : World} (h5 : w5.heap.size ≤ w.heap.size) (hz : ∀ y, y ∈ o.toList → y ∈ Z ∨ w5.heap.size ≤ y) : ∀ y, y ∈ ob.toList → y ∈ Z ∨ w5.heap.size ≤ y := fun y hy => by
  rcases h with e | ⟨g, e, h⟩
  · rw [e] at hy; exact hz y hy
  · rw [e] at hy; have e2 : y = g := by simpa using hy
    subst e2; exact .inr (by omega)
set_option maxHeartbeats 2000000 in
theorem rH {w : World} {v : Value} {sets : List (List LB)} (name value : ByteArray) (hs : RSl 1 (RSlice 2 RLB) [] w v sets) (hl1 : sets.length ≤ 1048576) (hl2 : ∀ i (h : i < sets.length), sets[i].length ≤ 1048576) (hl3 : (bL sets sets.length).length ≤ 1048576) (hsh : ∀ i (h : i < sets.length) l, l ∈ sets[i] → l.1.size ≤ 1000000000 ∧ l.2.size ≤ 1000000000) : Calls Tryz.prog 6 #[v, .string name, .string value] w (Ret fun r w' => r = .bool true ∧ Evo [] w w') := by
  have t3 := hs; have hfl := fC sets.length; obtain ⟨sa, sc, rfl, hlc, e1⟩ := hs; refine aR (N := 247) Tryz.func6 rfl rfl rfl ?_; refine csr (wan (aE (csr (aJ (vs := []) nR rfl (tO) rfl ?_)))); rintro _ w1 ⟨rfl, t4⟩; refine aI (eM rfl) ?_; refine wnn (bV rfl ?_); refine aZ (aC (csr (wan (aE (csr (wan (aL (bQ (α := Nat × (Nat → Sl) × Option Addr × Nat × Option Nat) ((0, fun _ => ⟨none, 0, 0, none⟩, none, 0, none)) (fun y => [(8, .int .i64 (y.1 : Nat)), (7, .slice y.2.2.1 y.1 y.2.2.2.1)]) [(0, _), (1, _), (2, _), (6, _)] (fun y wr => Evo [] w wr ∧ (y.1 ≤ sets.length ∧ OwnSets w wr sets y.1 y.2.1 y.2.2.1 y.2.2.2.1 y.2.2.2.2)) (fun y => sets.length - y.1) ⟨rfl, rfl, trivial⟩ ⟨rfl, rfl, rfl, rfl, trivial⟩ ⟨((Evo.refl [] w).then t4), ⟨Nat.zero_le _, OwnSets.nil _ _ _ _⟩⟩ ?_)))))))); rintro ⟨i, S, oa, oc, oob⟩ wr4 ⟨h5, ⟨hi, hOS⟩⟩; show CW _ _ _ _ [(8, .int .i64 (i : Nat)), (7, .slice oa i oc), (0, _), (1, _), (2, _), (6, _)] _
  try dsimp only at hi hOS
  have i8 := Evo.refl ([]) wr4; have hsz0 := (h5).size; refine aE (csr (aD (aD (aI (aO rfl Tryz.underlying32 rfl) ?_)))); refine aI (cE rfl rfl) ?_; refine wnn (cC rfl (fun r9 => ?_) (fun r9 => ?_))
  ·have hi' : i < sets.length := by omega
   obtain ⟨b1, o1, vs1, ha1, -, -, m6, va, rfl, hrs0⟩ := e1 i hi'; obtain ⟨la, lc, rfl, hlc2, e2⟩ := id hrs0; have hll := hl2 i hi'; refine aZ (aC (aE (aL (aK (aD (bS (vs := []) rfl eP rfl rfl rfl rfl fun b7 w8 m7 e9 f0 => ?_)))))); have e3 := Apart.new (Lt.own hOS.out) e9; have h6 := h5.then f0; refine aD (aD ?_)
   refine aI (aS (n := i) (by rw [ha1]; rfl) rfl cJ (by omega)) ?_
   refine aI (bE rfl dJ ((m6.evo h6 (by simp)) 0 _ rfl)) ?_; refine cK rfl rfl rfl rfl kV m7 (src_lab (RSl.evo RLB.pers h6 hrs0)) (by omega) fun ai ci z9 oi hOi h7 hob24 => ?_; refine bS (vs := [_]) rfl gM rfl rfl rfl rfl fun A0 A1 s0 v2 f1 => ?_; have hEi := (((i8.then f0).step h7 (Ge.new i8 e9).mem).then f1); have hOi1 := (hOi.evo0 f1); have hGi := ((Ge.new i8 e9).app (i8.then f0) hob24); refine cK rfl rfl rfl rfl kW (((hOS.out.evo0 f0).evo h7 e3.own).evo0 f1) (Src.ofOwn s0 ⟨by first | rfl | assumption, trivial⟩) (by omega) fun a9 c9 A2 ob9 m7 m8 hob50 => ?_; have hEa := m8; have hobx := hob50; refine bY (bF (bC (aC (aK (aD ?_))))); refine aI (bB rfl rfl (by omega) (by omega)) ?_; refine bY (bF (bJ ?_)); refine ⟨⟨i + 1, fun j => if j = i then ⟨ai, 0 + sets[i].length, ci, oi⟩ else S j, a9, c9, ob9⟩, ?_, ⟨rfl, rfl, trivial⟩, ⟨rfl, rfl, rfl, rfl, trivial⟩, (((h6.step h7 (Ge.new h5 e9).mem).then f1).step m8 hOS.geo.mem), ?_⟩
   · (try dsimp only); omega
   try dsimp only
   exact ⟨by omega, hOS.snoc (s := ⟨ai, 0 + sets[i].length, ci, oi⟩) hEi (by rw [kA hi']; exact hOi1) hGi m7 hEa hobx hsz0⟩
  obtain rfl : i = sets.length := by omega
  refine bP (aT (aT (bO (aC ?_)))); refine csr (aD ?_)
  refine aJ (vs := [_]) fI rfl (qD (hOS.rsl hsh) (by omega) (fun i h => by have := hl2 i h; omega) (by omega)) rfl ?_
  rintro _ e4 ⟨q, c, rfl, hN, h8⟩; refine aD (aI (aU rfl rfl) ?_); refine aI (aU rfl rfl) ?_; refine bY (wan (aE (csr (aD (aI (kM rfl rfl) ?_))))); refine wnn (cC rfl (fun s2 => ?_) (fun s2 => ?_))
  ·refine csr (wan (bA (aX (br1 ?_)))); exact ⟨rfl, (h5.then h8)⟩
  obtain ⟨bx, rfl, -, hval, hX⟩ := hN.resolve_left (fun h9 => h9.2.1 (by omega)); have s3 := hOS.evo0 ((Evo.refl [] wr4).then h8); have hXlt := blks_lt hOS; refine aZ (aC (aE (csr (wan (aL (bQ (α := Nat) (0) (fun i => [(11, .int .i64 (i : Nat))]) [(0, _), (1, _), (2, _), (7, _), (9, _)] (fun i wr => Evo [] w wr ∧ (i ≤ sets.length ∧ Wiped sets S oa oc oob wr i ∧ Evo (tL sets.length S oob) e4 wr)) (fun i => sets.length - i) ⟨rfl, trivial⟩ ⟨rfl, rfl, rfl, rfl, rfl, trivial⟩ ⟨(h5.then h8), ⟨Nat.zero_le _, Wiped.start s3, Evo.refl _ _⟩⟩ ?_)))))); rintro i wr64 ⟨i0, ⟨hi, hWp, hEx⟩⟩; show CW _ _ _ _ [(11, _), (0, _), (1, _), (2, _), (7, _), (9, _)] _; refine aE (csr (aD (aD (aI (aO rfl Tryz.underlying32 rfl) ?_)))); refine aI (cE rfl rfl) ?_; refine wnn (cC rfl (fun s4 => ?_) (fun s4 => ?_))
  ·have hi' : i < sets.length := by omega
   have hni := sI (hWp.rest i (Nat.le_refl _) hi'); rw [kA hi'] at hni; have hll := hl2 i hi'; have hAOI := hOS.ap i hi'; have hGeI := hOS.gef i hi'; refine aZ (aC (aE (aL (aE (csr (wan (aL (bQ (α := Nat) (0) (fun k => [(12, .int .i64 (k : Nat))]) [(0, _), (1, _), (2, _), (7, _), (9, _), (11, _)] (fun k wr => Evo [] w wr ∧ (k ≤ sets[i].length ∧ Wip sets S oa oc oob wr i k ∧ Evo (tL sets.length S oob) e4 wr)) (fun k => sets[i].length - k) ⟨rfl, trivial⟩ ⟨rfl, rfl, rfl, rfl, rfl, rfl, trivial⟩ ⟨i0, ⟨Nat.zero_le _, Wip.start ⟨hWp.out, fun j h1 h2 => (hWp.rest j h1 h2).evo0 (Evo.refl [] _)⟩ hi', hEx⟩⟩ ?_)))))))); rintro k wr66 ⟨m9, ⟨hk, hWq, hEx⟩⟩; show CW _ _ _ _ [(12, _), (0, _), (1, _), (2, _), (7, _), (9, _), (11, _)] _; have n5 := Evo.refl (oob.toList ++ (S i).ob.toList) wr66; refine aE (aE ?_); obtain ⟨gO, hgO, haO, hcO⟩ := eR hWq.out (jW hi'); refine aK (aD (aD (aD ?_)))
   refine aI (aS (n := i) (by rw [haO]; rfl) rfl cJ (by omega)) ?_
   refine aI ((show Ex _ _ _ _ (.slice (S i).a (S i).n (S i).c) _ from bE rfl dJ hcO)) ?_; refine aI (aO rfl Tryz.underlying49 rfl) ?_; refine aI (cE rfl rfl) ?_; refine wnn (cC rfl (fun s5 => ?_) (fun s5 => ?_))
   ·have hk' : k < (sOf sets i).length := by rw [kA hi']; omega
    have hk2 : k < sets[i].length := by omega
    obtain ⟨b1, o1, vs1, ha1, -, -, m6, va, rfl, hrs0⟩ := e1 i hi'; obtain ⟨la, lc, rfl, hlc2, e2⟩ := id hrs0; obtain ⟨b2, o2, vs2, ha2, -, -, t5, rfl, hz1, hz2⟩ := e2 k hk2
    have hpk : (sOf sets i)[k]'hk' = sets[i][k]'hk2 := by simp only [kA hi']
    refine aZ (aC (aE (aL (aE (aE ?_))))); obtain ⟨gO, hgO, haO, hcO⟩ := eR hWq.out (jW hi'); obtain ⟨gI, hgI, haI, hcI⟩ := kF hk' hWq.cur; refine gV (fun w0 w' => Evo [] w0 w') (by kernel_rfl) (fun O d4 => ?_); have i1 := m9.then d4; have n6 := (Evo.refl [] wr66).then d4; have n7 := hWq.out.evo0 d4; have f2 := hWq.cur.evo0 d4; refine aet 0 rfl (fun _ hS => bD rfl) (Evo.refl [] O) ?_; refine aet 1 rfl (fun _ hS => bD rfl) (Evo.refl [] O) ?_
    refine aet 2 rfl (fun _ hS => aS (n := i) (by rw [haO]; rfl) rfl cJ (by omega)) (Evo.refl [] O) ?_
    refine aet 3 rfl (fun _ hS => (show Ex _ _ _ _ (.slice (S i).a (S i).n (S i).c) _ from bE rfl dJ (((n6.then hS)).cell hcO (by simp)))) (Evo.refl [] O) ?_; refine aet 4 rfl (fun _ hS => bD rfl) (Evo.refl [] O) ?_
    refine aet 5 rfl (fun _ hS => aS (n := k) (by rw [haI]; rfl) rfl cU (by omega)) (Evo.refl [] O) ?_
    refine aet 6 rfl (fun _ hS => iG rfl eN cI (vs := [_, _]) rfl (hcI.evo (n6.then hS) (by simp))) (Evo.refl [] O) ?_; refine aet 7 rfl (fun _ hS => bD rfl) (Evo.refl [] O) ?_; refine aet 8 rfl (fun _ hS => bD rfl) (Evo.refl [] O) ?_
    refine aet 9 rfl (fun _ hS => aS (n := i) (by rw [ha1]; rfl) rfl cJ (by omega)) (Evo.refl [] O) ?_
    refine aet 10 rfl (fun _ hS => bE rfl dJ ((m6.evo (i1.then hS) (by simp)) 0 _ rfl)) (Evo.refl [] O) ?_; refine aet 11 rfl (fun _ hS => bD rfl) (Evo.refl [] O) ?_
    refine aet 12 rfl (fun _ hS => aS (n := k) (by rw [ha2]; rfl) rfl cU (by omega)) (Evo.refl [] O) ?_
    refine aet 13 rfl (fun _ hS => iG rfl eN cI (vs := [_, _]) rfl (t5.evo (i1.then hS) (by simp))) (Evo.refl [] O) ?_; refine aet 14 rfl (fun _ hS => ex_neqA rfl rfl oS (oT (congrArg Prod.fst hpk) (congrArg Prod.snd hpk))) (Evo.refl [] O) ?_; refine dO (by kernel_rfl) (aC ?_); refine cC rfl (fun n8 => ?_) (fun n8 => ?_)
    ·refine csr (wan (bA (aX (bG (aX (aX (bG (aX (bG (aX (aX (bG (aX (br1 ?_)))))))))))))); exact absurd trivial n8
    refine aZ (aC ?_); obtain ⟨gO, hgO, haO, hcO⟩ := eR n7 (jW hi'); obtain ⟨gI, hgI, haI, hcI⟩ := kF hk' f2; refine aK (aD (aD ?_))
    refine aI (aS (n := i) (by rw [haO]; rfl) rfl cJ (by omega)) ?_
    refine aI ((show Ex _ _ _ _ (.slice (S i).a (S i).n (S i).c) _ from bE rfl dJ hcO)) ?_; refine aD (aI (eT (vs := [(0, _), (1, _)]) dS rfl (cells := [_, _]) rfl) ?_)
    refine aI (aS (n := k) (by rw [haI]; rfl) rfl cU (by omega)) ?_
    obtain ⟨g6, cu6, hg6, ha6, hcu6, hcs6, -⟩ := f2.at (by omega)
    obtain rfl : g6 = gI := Option.some.inj (hg6.symm.trans hgI)
    refine iM (n := 2) rfl rfl cI rfl (fun u hu => mkR_one u hu) hcu6 (by have := f2.le; omega) fun w7 hb7 e8 => ?_
    replace e8 := fX hg6 e8; have r7 := OwnS.put (k := k) (vs := mkR) f2 hg6 hcu6 (by omega) (by omega) rfl hb7; rw [Nat.zero_add, sT hk'] at r7; have s6 := (n5.then d4).step e8 (fun y hy => .inl (List.mem_append_right _ hy)); have s7 := (hEx.then d4).step e8 (fun y hy => .inl (blks_in hi' y hy)); have s8 := n7.evo e8 hAOI.own; refine bF (bC (aC (aK (aD ?_)))); refine aI (bB rfl rfl (by omega) (by omega)) ?_; refine bY (bF (bJ ?_)); refine ⟨k + 1, ?_, ⟨rfl, trivial⟩, ⟨rfl, rfl, rfl, rfl, rfl, rfl, trivial⟩, (i1.step e8 hGeI.mem), ?_⟩
    · omega
    have hnot : ∀ j, i < j → j < sets.length → ∀ g, (S j).ob = some g → g ∉ oob.toList ++ (S i).ob.toList := fun j h1 h2 g hg hm => by rcases List.mem_append.1 hm with hm | hm; exact (hOS.ap j h2).symm.own g hg hm; exact (hOS.fam.ap j i h2 hi' (by omega)).own g hg hm
    exact ⟨by omega, ⟨s8, fun j h1 h2 => (hWq.rest j h1 h2).evo s6 (hnot j h1 h2), r7⟩, s7⟩
   refine bP (aT (aT (bO (aC ?_)))); obtain ⟨gO, hgO, haO, hcO⟩ := eR hWq.out (jW hi'); refine aK (aD (aD ?_))
   refine aI (aS (n := i) (by rw [haO]; rfl) rfl cJ (by omega)) ?_
   obtain ⟨g91, cur82, hg83, hx84, hcu85, hcs86, -⟩ := hWq.out.at (by omega)
   rw [haO] at hx84; cases hx84
   refine dE rfl rfl (rfl) mY hcu85 (hWq.out.inb hcs86 (k := i) (j := 0) (by omega) (by omega) (by omega)) fun A3 s9 e5 => ?_; replace e5 := fX hg83 e5; have t0 := n5.step e5 (fun y hy => .inl (List.mem_append_left _ hy)); have t1 := hEx.step e5 (fun y hy => .inl (List.mem_append_left _ hy)); refine bF (bC (aC (aK (aD ?_)))); refine aI (bB rfl rfl (by omega) (by omega)) ?_; refine bY (bF (bJ ?_)); refine ⟨i + 1, ?_, ⟨rfl, trivial⟩, ⟨rfl, rfl, rfl, rfl, rfl, trivial⟩, (m9.step e5 hOS.geo.mem), ?_⟩
   · omega
   have hnot : ∀ j, i < j → j < sets.length → ∀ g, (S j).ob = some g → g ∉ oob.toList ++ (S i).ob.toList := fun j h1 h2 g hg hm => by rcases List.mem_append.1 hm with hm | hm; exact (hOS.ap j h2).symm.own g hg hm; exact (hOS.fam.ap j i h2 hi' (by omega)).own g hg hm
   have h9 := (hWq.out.set' hg83 hcu85 s9); rw [show 0 + i * 1 = i by omega] at h9
   exact ⟨by omega, ⟨by rw [← sD hi']; exact h9, fun j h1 h2 => (hWq.rest j (by omega) h2).evo t0 (hnot j (by omega) h2)⟩, t1⟩
  obtain rfl : i = sets.length := by omega
  refine bP (aT (aT (bO (aC ?_)))); refine csr (aD ?_)
  refine aJ (vs := [_]) fI rfl (qD (RSl.evo (RSlice.pers RLB.pers) i0 t3) (by omega) (fun i h => by have := hl2 i h; omega) (by omega)) rfl ?_
  rintro _ e6 ⟨qy, cy, rfl, hNy, n9⟩; have i2 := i0.then n9; have e7 := hEx.then n9
  obtain ⟨by2, rfl, -, -, hY⟩ := hNy.resolve_left (fun h9 => by obtain ⟨_, _, i, hi, hb⟩ := h9; exact hb (hval i hi))
  have f3 := (e7).size; have f4 := (i2).size; refine aD (aI (aU rfl rfl) ?_); refine aI (aU rfl rfl) ?_; refine bY (wan (csr (aD (aD (aD (aJ (vs := [_, _, _]) dP rfl (jX (hX.evo e7 (fun y hy => .inl (hXlt y hy))) name value) rfl ?_)))))); rintro _ v3 ⟨aA, cA, obA, rfl, hOA, hGA, d5⟩; have i9 := Ge.fresh (Evo.refl [] e6) hGA; refine aD (aD (aD (aJ (vs := [_, _, _]) dP rfl (jX (hX.evo (e7.then d5) (fun y hy => .inl (hXlt y hy))) name value) rfl ?_))); rintro _ v4 ⟨aB, cB, obB, rfl, hOB, hGB, c8⟩; have j0 := (i2.then d5).then c8; have d6 := (e7.then d5).then c8; have f5 := ((Evo.refl [] e6).then d5).then c8; refine bY (wan (csr (aD (aJ (vs := [_]) dY rfl (gD (hX.evo d6 (fun y hy => .inl (hXlt y hy)))) rfl ?_)))); rintro _ v5 ⟨ysN, hYsN, ⟨aN, cN, obN, rfl, hON, hGN, hYlN⟩, c6⟩; have f6 := Apart.fresh (Lt.own (hOA.evo0 c8)) hGN; have f7 := (hOA.evo0 c8).evo0 c6; refine aD (aJ (vs := [_]) dY rfl (gD (hX.evo (d6.then c6) (fun y hy => .inl (hXlt y hy)))) rfl ?_); rintro _ v6 ⟨ysM, hYsM, ⟨aM, cM, obM, rfl, hOM, hGM, hYlM⟩, U⟩; have j1 := (j0.then c6).then U; have d7 := (d6.then c6).then U; have f8 := (f5.then c6).then U; have j2 := (hOB.evo0 c6).evo0 U; refine bY (wan (csr ?_))
  refine aD (aD (aJ (vs := [_, _]) dX rfl (eW (hX.evo d7 (fun y hy => .inl (hXlt y hy))) name) rfl ?_)); rintro _ v7 ⟨ysV, hYsV, ⟨aV, cV, obV, rfl, hOV, hGV, hYlV⟩, V⟩; have f9 := Apart.fresh (Lt.own (f7.evo0 U)) hGV; have g0 := Apart.fresh (Lt.own (hON.evo0 U)) hGV; have g1 := (f7.evo0 U).evo0 V; have g2 := (hON.evo0 U).evo0 V; refine aD (aD (aJ (vs := [_, _]) dX rfl (eW (hX.evo (d7.then V) (fun y hy => .inl (hXlt y hy))) name) rfl ?_)); rintro _ v8 ⟨ysW, hYsW, ⟨aW, cW, obW, rfl, hOW, hGW, hYlW⟩, E⟩; have j3 := (j1.then V).then E; have d8 := (d7.then V).then E; have g3 := (f8.then V).then E; have j4 := (j2.evo0 V).evo0 E; have j5 := (hOM.evo0 V).evo0 E; refine bY (wan (csr (aD (aJ (vs := [_, _]) fH rfl (kL (hX.evo d8 (fun y hy => .inl (hXlt y hy)))) rfl ?_)))); rintro _ v9 ⟨aF, cF, obF, rfl, hOF, hGF, H⟩; have g4 := Apart.fresh (Lt.own (g1.evo0 E)) hGF; have g5 := Apart.fresh (Lt.own (g2.evo0 E)) hGF; have g7 := Apart.fresh (Lt.own (hOV.evo0 E)) hGF; have j6 := (g1.evo0 E).evo0 H; have j7 := (g2.evo0 E).evo0 H; have j8 := (hOV.evo0 E).evo0 H; refine aD (aI (aU rfl rfl) ?_); refine aI (aU rfl rfl) ?_; refine bY (wan (csr (aD ?_)))
  refine aJ (vs := [_, _]) fH rfl (kL (hX.evo (d8.then H) (fun y hy => .inl (hXlt y hy)))) rfl ?_; rintro _ c7 ⟨aG, cG, obG, rfl, hOG, hGG, I⟩; have j9 := (g3.then H).then I; refine aD (aI (aU rfl rfl) ?_); refine aI (aU rfl rfl) ?_; refine bY (wan (aE (aE ?_))); have hBz := notz (Apart.fresh (Lt.own hOA) hGB).symm (Apart.fresh (Lt.own hOB) hGN) (Apart.fresh (Lt.own j2) hGV) (Apart.fresh (Lt.own j4) hGF); have t6 := ((j5.evo0 H).evo0 I); have hMz := notz (Apart.fresh (Lt.own f7) hGM).symm (Apart.fresh (Lt.own hON) hGM).symm (Apart.fresh (Lt.own hOM) hGV) (Apart.fresh (Lt.own j5) hGF); have t7 := ((hOW.evo0 H).evo0 I); have hWz := notz (Apart.fresh (Lt.own g1) hGW).symm (Apart.fresh (Lt.own g2) hGW).symm (Apart.fresh (Lt.own hOV) hGW).symm (Apart.fresh (Lt.own hOW) hGF); have hG9z := notz (Apart.fresh (Lt.own j6) hGG).symm (Apart.fresh (Lt.own j7) hGG).symm (Apart.fresh (Lt.own j8) hGG).symm (Apart.fresh (Lt.own hOF) hGG).symm; have w2 := (j9).size; have hXL : (XI sets name value).length ≤ (bL sets sets.length).length + sets.length := rI; refine aK (wan (aL ?_))
  refine bQ (α := Nat × List Value) ((0, (XI sets name value).map iv3)) (fun y => [(25, .int .i64 (y.1 : Nat))]) [(1, _), (2, _), (9, _), (13, _), (15, _), (16, _), (17, _), (18, _), (19, _), (20, _), (21, _), (23, _)] (fun y wr => Evo obA.toList c7 wr ∧ (y.1 ≤ (XI sets name value).length ∧ OwnS wr 3 1 aA (XI sets name value).length cA y.2 obA)) (fun y => (XI sets name value).length - y.1) ⟨rfl, trivial⟩ ⟨rfl, rfl, rfl, rfl, rfl, rfl, rfl, rfl, rfl, rfl, rfl, rfl, trivial⟩ ⟨Evo.refl _ _, ⟨Nat.zero_le _, (j6.evo0 I)⟩⟩ ?_; rintro ⟨k, xs⟩ wr237 ⟨W, ⟨hk, hLA⟩⟩; show CW _ _ _ _ [(25, .int .i64 (k : Nat)), (1, _), (2, _), (9, _), (13, _), (15, _), (16, _), (17, _), (18, _), (19, _), (20, _), (21, _), (23, _)] _
  try dsimp only at hk hLA
  have p1 := (Evo.refl (obA.toList ++ (obN.toList ++ (obV.toList ++ obF.toList))) c7).step W (fun y hy => .inl (List.mem_append_left _ hy)); refine aE (csr (aD (aD (aI (aO rfl Tryz.underlying37 rfl) ?_)))); refine aI (cE rfl rfl) ?_; refine wnn (cC rfl (fun p2 => ?_) (fun p2 => ?_))
  ·obtain ⟨gW9, hgW9, haW9⟩ := gC hLA (k := k) (by omega); refine aZ (aC (aE (aL (aK (aD (aD ?_))))))
   refine aI (aS (n := k) (by rw [haW9]; rfl) rfl cX (by omega)) ?_
   obtain ⟨g256, cur247, hg248, hx249, hcu250, hcs251, -⟩ := hLA.at (by omega)
   rw [haW9] at hx249; cases hx249
   refine dE rfl rfl (rfl) gA hcu250 (hLA.inb hcs251 (k := k) (j := 0) (by omega) (by omega) (by omega)) fun w3 p3 g8 => ?_; replace g8 := fX hg248 g8
   have p4 := W.step g8 (by intro y hy; left; simpa using hy)
   refine bF (bC (aC (aK (aD ?_)))); refine aI (bB rfl rfl (by omega) (by omega)) ?_; refine bY (bF (bJ ?_)); refine ⟨⟨k + 1, xs.set (0 + k * 1) (.int .i64 (-1))⟩, ?_, ⟨rfl, trivial⟩, ⟨rfl, rfl, rfl, rfl, rfl, rfl, rfl, rfl, rfl, rfl, rfl, rfl, trivial⟩, p4, ?_⟩
   · (try dsimp only); omega
   try dsimp only
   exact ⟨by omega, (hLA.set' hg248 hcu250 p3)⟩
  refine bP (aT (aT (bO (aC ?_)))); refine aE (csr (wan (aL (bQ (α := Nat × List Value) ((0, (ysN).map sv3)) (fun y => [(26, .int .i64 (y.1 : Nat))]) [(1, _), (2, _), (9, _), (13, _), (15, _), (16, _), (17, _), (18, _), (19, _), (20, _), (21, _), (23, _)] (fun y wr => Evo obN.toList wr237 wr ∧ (y.1 ≤ ysN.length ∧ OwnS wr 9 1 aN ysN.length cN y.2 obN)) (fun y => ysN.length - y.1) ⟨rfl, trivial⟩ ⟨rfl, rfl, rfl, rfl, rfl, rfl, rfl, rfl, rfl, rfl, rfl, rfl, trivial⟩ ⟨Evo.refl _ _, ⟨Nat.zero_le _, ((j7.evo0 I).evo W (f6.symm.own))⟩⟩ ?_)))); rintro ⟨k, xs⟩ wr266 ⟨Y, ⟨hk, hLN⟩⟩; show CW _ _ _ _ [(26, .int .i64 (k : Nat)), (1, _), (2, _), (9, _), (13, _), (15, _), (16, _), (17, _), (18, _), (19, _), (20, _), (21, _), (23, _)] _
  try dsimp only at hk hLN
  have p5 := p1.step Y (fun y hy => .inl (List.mem_append_right _ (List.mem_append_left _ hy))); refine aE (csr (aD (aD (aI (aO rfl Tryz.underlying22 rfl) ?_)))); refine aI (cE rfl rfl) ?_; refine wnn (cC rfl (fun p6 => ?_) (fun p6 => ?_))
  ·obtain ⟨gW9, hgW9, haW9⟩ := gC hLN (k := k) (by omega); refine aZ (aC (aE (aL (aK (aD (aD ?_))))))
   refine aI (aS (n := k) (by rw [haW9]; rfl) rfl eA (by omega)) ?_
   obtain ⟨g285, cur276, hg277, hx278, hcu279, hcs280, -⟩ := hLN.at (by omega)
   rw [haW9] at hx278; cases hx278
   refine dE rfl rfl (rfl) jO hcu279 (hLN.inb hcs280 (k := k) (j := 0) (by omega) (by omega) (by omega)) fun w4 p7 g9 => ?_; replace g9 := fX hg277 g9
   have p8 := Y.step g9 (by intro y hy; left; simpa using hy)
   refine bF (bC (aC (aK (aD ?_)))); refine aI (bB rfl rfl (by omega) (by omega)) ?_; refine bY (bF (bJ ?_)); refine ⟨⟨k + 1, xs.set (0 + k * 1) (.string mkB)⟩, ?_, ⟨rfl, trivial⟩, ⟨rfl, rfl, rfl, rfl, rfl, rfl, rfl, rfl, rfl, rfl, rfl, rfl, trivial⟩, p8, ?_⟩
   · (try dsimp only); omega
   try dsimp only
   exact ⟨by omega, (hLN.set' hg277 hcu279 p7)⟩
  refine bP (aT (aT (bO (aC ?_)))); refine aE (csr (wan (aL (bQ (α := Nat × List Value) ((0, (ysV).map sv3)) (fun y => [(27, .int .i64 (y.1 : Nat))]) [(1, _), (2, _), (9, _), (13, _), (15, _), (16, _), (17, _), (18, _), (19, _), (20, _), (21, _), (23, _)] (fun y wr => Evo obV.toList wr266 wr ∧ (y.1 ≤ ysV.length ∧ OwnS wr 9 1 aV ysV.length cV y.2 obV)) (fun y => ysV.length - y.1) ⟨rfl, trivial⟩ ⟨rfl, rfl, rfl, rfl, rfl, rfl, rfl, rfl, rfl, rfl, rfl, rfl, trivial⟩ ⟨Evo.refl _ _, ⟨Nat.zero_le _, (((j8.evo0 I).evo W (f9.symm.own)).evo Y (g0.symm.own))⟩⟩ ?_)))); rintro ⟨k, xs⟩ wr295 ⟨Z, ⟨hk, hLV⟩⟩; show CW _ _ _ _ [(27, .int .i64 (k : Nat)), (1, _), (2, _), (9, _), (13, _), (15, _), (16, _), (17, _), (18, _), (19, _), (20, _), (21, _), (23, _)] _
  try dsimp only at hk hLV
  have p9 := p5.step Z (fun y hy => .inl (List.mem_append_right _ (List.mem_append_right _ (List.mem_append_left _ hy)))); refine aE (csr (aD (aD (aI (aO rfl Tryz.underlying22 rfl) ?_)))); refine aI (cE rfl rfl) ?_; refine wnn (cC rfl (fun q0 => ?_) (fun q0 => ?_))
  ·obtain ⟨gW9, hgW9, haW9⟩ := gC hLV (k := k) (by omega); refine aZ (aC (aE (aL (aK (aD (aD ?_))))))
   refine aI (aS (n := k) (by rw [haW9]; rfl) rfl eA (by omega)) ?_
   obtain ⟨g314, cur305, hg306, hx307, hcu308, hcs309, -⟩ := hLV.at (by omega)
   rw [haW9] at hx307; cases hx307
   refine dE rfl rfl (rfl) jO hcu308 (hLV.inb hcs309 (k := k) (j := 0) (by omega) (by omega) (by omega)) fun w5 q1 h0 => ?_; replace h0 := fX hg306 h0
   have q2 := Z.step h0 (by intro y hy; left; simpa using hy)
   refine bF (bC (aC (aK (aD ?_)))); refine aI (bB rfl rfl (by omega) (by omega)) ?_; refine bY (bF (bJ ?_)); refine ⟨⟨k + 1, xs.set (0 + k * 1) (.string mkB)⟩, ?_, ⟨rfl, trivial⟩, ⟨rfl, rfl, rfl, rfl, rfl, rfl, rfl, rfl, rfl, rfl, rfl, rfl, trivial⟩, q2, ?_⟩
   · (try dsimp only); omega
   try dsimp only
   exact ⟨by omega, (hLV.set' hg306 hcu308 q1)⟩
  refine bP (aT (aT (bO (aC ?_)))); refine aE (csr (wan (aL (bQ (α := Nat × List Value) ((0, (cD [] sets.length).map iv3)) (fun y => [(28, .int .i64 (y.1 : Nat))]) [(1, _), (2, _), (9, _), (13, _), (15, _), (16, _), (17, _), (18, _), (19, _), (20, _), (21, _), (23, _)] (fun y wr => Evo obF.toList wr295 wr ∧ (y.1 ≤ sets.length ∧ OwnS wr 3 1 aF sets.length cF y.2 obF)) (fun y => sets.length - y.1) ⟨rfl, trivial⟩ ⟨rfl, rfl, rfl, rfl, rfl, rfl, rfl, rfl, rfl, rfl, rfl, rfl, trivial⟩ ⟨Evo.refl _ _, ⟨Nat.zero_le _, ((((hOF.evo0 I).evo W (g4.symm.own)).evo Y (g5.symm.own)).evo Z (g7.symm.own))⟩⟩ ?_)))); rintro ⟨k, xs⟩ wr324 ⟨a0, ⟨hk, hLF⟩⟩; show CW _ _ _ _ [(28, .int .i64 (k : Nat)), (1, _), (2, _), (9, _), (13, _), (15, _), (16, _), (17, _), (18, _), (19, _), (20, _), (21, _), (23, _)] _
  try dsimp only at hk hLF
  have q3 := p9.step a0 (fun y hy => .inl (List.mem_append_right _ (List.mem_append_right _ (List.mem_append_right _ hy)))); have q4 := ((hLA.evo Y (f6.own)).evo Z (f9.own)).evo a0 (g4.own); have q5 := (hLN.evo Z (g0.own)).evo a0 (g5.own); have q6 := hLV.evo a0 (g7.own); refine aE (csr (aD (aD (aI (aO rfl Tryz.underlying37 rfl) ?_)))); refine aI (cE rfl rfl) ?_; refine wnn (cC rfl (fun q7 => ?_) (fun q7 => ?_))
  ·obtain ⟨gW9, hgW9, haW9⟩ := gC hLF (k := k) (by omega); refine aZ (aC (aE (aL (aK (aD (aD ?_))))))
   refine aI (aS (n := k) (by rw [haW9]; rfl) rfl cX (by omega)) ?_
   obtain ⟨g343, cur334, hg335, hx336, hcu337, hcs338, -⟩ := hLF.at (by omega)
   rw [haW9] at hx336; cases hx336
   refine dE rfl rfl (rfl) gA hcu337 (hLF.inb hcs338 (k := k) (j := 0) (by omega) (by omega) (by omega)) fun w6 q8 h3 => ?_; replace h3 := fX hg335 h3
   have q9 := a0.step h3 (by intro y hy; left; simpa using hy)
   refine bF (bC (aC (aK (aD ?_)))); refine aI (bB rfl rfl (by omega) (by omega)) ?_; refine bY (bF (bJ ?_)); refine ⟨⟨k + 1, xs.set (0 + k * 1) (.int .i64 (-2))⟩, ?_, ⟨rfl, trivial⟩, ⟨rfl, rfl, rfl, rfl, rfl, rfl, rfl, rfl, rfl, rfl, rfl, rfl, trivial⟩, q9, ?_⟩
   · (try dsimp only); omega
   try dsimp only
   exact ⟨by omega, (hLF.set' hg335 hcu337 q8)⟩
  refine bP (aT (aT (bO (aC ?_)))); refine aE (aE ?_); obtain ⟨xA, hxA⟩ : ∃ x, OwnS wr324 3 1 aA (XI sets name value).length cA x obA := ⟨_, q4⟩; obtain ⟨xN, hxN⟩ : ∃ x, OwnS wr324 9 1 aN ysN.length cN x obN := ⟨_, q5⟩; obtain ⟨xV, hxV⟩ : ∃ x, OwnS wr324 9 1 aV ysV.length cV x obV := ⟨_, q6⟩; obtain ⟨xF, hxF⟩ : ∃ x, OwnS wr324 3 1 aF sets.length cF x obF := ⟨_, hLF⟩; refine aK (wan (aL ?_))
  refine bQ (α := GK) (⟨0, (XI sets name value).length, aA, cA, obA, xA, ysN.length, aN, cN, obN, xN, ysV.length, aV, cV, obV, xV, sets.length, aF, cF, obF, xF⟩) (fun x => [(29, .int .i64 (x.k : Nat)), (15, .slice x.a1 x.n1 x.c1), (17, .slice x.a2 x.n2 x.c2), (19, .slice x.a3 x.n3 x.c3), (21, .slice x.a4 x.n4 x.c4)]) [(1, _), (2, _), (9, _), (13, _), (16, _), (18, _), (20, _), (23, _)] (fun x wr => Evo [] w wr ∧ (x.k ≤ 16 ∧ (x.k ≤ x.n1 ∧ x.k ≤ x.n2 ∧ x.k ≤ x.n3 ∧ x.k ≤ x.n4) ∧ (x.n1 ≤ 5000000 + x.k ∧ x.n2 ≤ 5000000 + x.k ∧ x.n3 ≤ 5000000 + x.k ∧ x.n4 ≤ 5000000 + x.k) ∧ OwnS wr 3 1 x.a1 x.n1 x.c1 x.x1 x.o1 ∧ OwnS wr 9 1 x.a2 x.n2 x.c2 x.x2 x.o2 ∧ OwnS wr 9 1 x.a3 x.n3 x.c3 x.x3 x.o3 ∧ OwnS wr 3 1 x.a4 x.n4 x.c4 x.x4 x.o4 ∧ Ge e6 x.o1 ∧ Ge e6 x.o2 ∧ Ge e6 x.o3 ∧ Ge e6 x.o4 ∧ (∀ y, y ∈ x.o1.toList → y ∈ obA.toList ++ (obN.toList ++ (obV.toList ++ obF.toList)) ∨ c7.heap.size ≤ y) ∧ (∀ y, y ∈ x.o2.toList → y ∈ obA.toList ++ (obN.toList ++ (obV.toList ++ obF.toList)) ∨ c7.heap.size ≤ y) ∧ (∀ y, y ∈ x.o3.toList → y ∈ obA.toList ++ (obN.toList ++ (obV.toList ++ obF.toList)) ∨ c7.heap.size ≤ y) ∧ (∀ y, y ∈ x.o4.toList → y ∈ obA.toList ++ (obN.toList ++ (obV.toList ++ obF.toList)) ∨ c7.heap.size ≤ y) ∧ Apart x.o1 x.o2 ∧ Apart x.o1 x.o3 ∧ Apart x.o1 x.o4 ∧ Apart x.o2 x.o3 ∧ Apart x.o2 x.o4 ∧ Apart x.o3 x.o4 ∧ Evo (tL sets.length S oob) e4 wr ∧ Evo [] e6 wr ∧ Evo (obA.toList ++ (obN.toList ++ (obV.toList ++ obF.toList))) c7 wr)) (fun x => 16 - x.k) ⟨rfl, rfl, rfl, rfl, rfl, trivial⟩ ⟨rfl, rfl, rfl, rfl, rfl, rfl, rfl, rfl, trivial⟩ ⟨((((((j3.then H).then I).step W ((Ge.fresh i2 hGA).mem)).step Y ((Ge.fresh j0 hGN).mem)).step Z ((Ge.fresh j1 hGV).mem)).step a0 ((Ge.fresh j3 hGF).mem)), ⟨Nat.zero_le _, ⟨Nat.zero_le _, Nat.zero_le _, Nat.zero_le _, Nat.zero_le _⟩, ⟨by dsimp only; omega, by dsimp only; omega, by dsimp only; omega, by dsimp only; omega⟩, hxA, hxN, hxV, hxF, i9, (Ge.fresh f5 hGN), (Ge.fresh f8 hGV), (Ge.fresh g3 hGF), fun y hy => .inl (List.mem_append_left _ hy), fun y hy => .inl (List.mem_append_right _ (List.mem_append_left _ hy)), fun y hy => .inl (List.mem_append_right _ (List.mem_append_right _ (List.mem_append_left _ hy))), fun y hy => .inl (List.mem_append_right _ (List.mem_append_right _ (List.mem_append_right _ hy))), f6, f9, g4, g0, g5, g7, ((((((d8.then H).then I).step W ((Ge.fresh e7 hGA).mem)).step Y ((Ge.fresh d6 hGN).mem)).step Z ((Ge.fresh d7 hGV).mem)).step a0 ((Ge.fresh d8 hGF).mem)), ((((j9.step W (i9.mem)).step Y ((Ge.fresh f5 hGN).mem)).step Z ((Ge.fresh f8 hGV).mem)).step a0 ((Ge.fresh g3 hGF).mem)), q3⟩⟩ ?_
  rintro ⟨k, n1, a1, c1, o1, x1, n2, a2, c2, o2, x2, n3, a3, c3, o3, x3, n4, a4, c4, o4, x4⟩ wr353 ⟨k0, ⟨hk, ⟨t8, t9, u0, u1⟩, ⟨hm1, hm2, hm3, hm4⟩, r8, o0, o5, o6, hg1, hg2, hg3, hg4, hz1, hz2, hz3, hz4, e3, i3, i4, i5, i6, i7, hEx, hEy, hEz⟩⟩; show CW _ _ _ _ [(29, .int .i64 (k : Nat)), (15, .slice a1 n1 c1), (17, .slice a2 n2 c2), (19, .slice a3 n3 c3), (21, .slice a4 n4 c4), (1, _), (2, _), (9, _), (13, _), (16, _), (18, _), (20, _), (23, _)] _
  try dsimp only at hk t8 t9 u0 u1 hm1 hm2 hm3 hm4 r8 o0 o5 o6 hg1 hg2 hg3 hg4 hz1 hz2 hz3 hz4 e3 i3 i4 i5 i6 i7 hEx hEy hEz
  have hgy41 := hg1; have hgx21 : Ge e4 o1 := fun g h => Nat.le_trans f3 (hg1 g h); have hgw1 : Ge w o1 := fun g h => Nat.le_trans f4 (hg1 g h); have hgy42 := hg2; have hgx22 : Ge e4 o2 := fun g h => Nat.le_trans f3 (hg2 g h); have hgw2 : Ge w o2 := fun g h => Nat.le_trans f4 (hg2 g h); have hgy43 := hg3; have hgx23 : Ge e4 o3 := fun g h => Nat.le_trans f3 (hg3 g h); have hgw3 : Ge w o3 := fun g h => Nat.le_trans f4 (hg3 g h); have hgy44 := hg4; have hgx24 : Ge e4 o4 := fun g h => Nat.le_trans f3 (hg4 g h); have hgw4 : Ge w o4 := fun g h => Nat.le_trans f4 (hg4 g h); refine aE (csr (aD (aI (cE rfl rfl) ?_))); refine wnn (cC rfl (fun r0 => ?_) (fun r0 => ?_))
  ·refine aZ (aC (aE (aL (aK (aD (bS (vs := [_]) rfl cL rfl rfl rfl rfl fun w9 x0 r1 u8 A => ?_)))))); have hszz1 := ((hEz.then A)).size; refine cK rfl rfl rfl rfl cT (r8.evo0 A) (Src.ofOwn r1 ⟨by first | rfl | assumption, trivial⟩) (by omega) fun a91 c91 x5 ob91 o7 b5 hob382 => ?_; have k1 := e3.symm.app (Lt.own (o0.evo0 A)) hob382; have k2 := i3.symm.app (Lt.own (o5.evo0 A)) hob382; have k3 := i4.symm.app (Lt.own (o6.evo0 A)) hob382; have hzz1 := gF hob382 hszz1 hz1; refine aD (bS (vs := [_]) rfl eQ rfl rfl rfl rfl fun x6 x7 r3 u9 J => ?_); have k4 := ((hEy.then A).step b5 hgy41.mem).then J; have k5 := ((hEz.then A).step b5 (hz1)).then J; have k6 := ((o5.evo0 A).evo b5 i3.symm.own).evo0 J; have k7 := ((o6.evo0 A).evo b5 i4.symm.own).evo0 J; have hszz2 := (k5).size; refine cK rfl rfl rfl rfl eH (((o0.evo0 A).evo b5 e3.symm.own).evo0 J) (Src.ofOwn r3 ⟨by first | rfl | assumption, trivial⟩) (by omega) fun a92 c92 x8 ob92 o8 b6 hob427 => ?_; have k8 := i5.symm.app (Lt.own k6) hob427; have k9 := i6.symm.app (Lt.own k7) hob427; have hzz2 := gF hob427 hszz2 hz2; refine aD (bS (vs := [_]) rfl eQ rfl rfl rfl rfl fun x9 y0 r4 v0 L => ?_); have l0 := (k4.step b6 hgy42.mem).then L; have l1 := (k5.step b6 (hz2)).then L; have l2 := (k7.evo b6 i6.symm.own).evo0 L; have l3 := ((o7.evo0 J).evo b6 k1.symm.own).evo0 L
   have hszz3 := (l1).size; refine cK rfl rfl rfl rfl eH ((k6.evo b6 i5.symm.own).evo0 L) (Src.ofOwn r4 ⟨by first | rfl | assumption, trivial⟩) (by omega) fun a93 c93 y1 ob93 o9 b8 hob476 => ?_; have l4 := i7.symm.app (Lt.own l2) hob476; have hzz3 := gF hob476 hszz3 hz3; refine aD (bS (vs := [_]) rfl cL rfl rfl rfl rfl fun y2 y3 r5 v1 M => ?_); have l5 := (l0.step b8 hgy43.mem).then M; have l6 := (l1.step b8 (hz3)).then M; have l7 := (l3.evo b8 k2.symm.own).evo0 M; have l8 := ((o8.evo0 L).evo b8 k8.symm.own).evo0 M; have hszz4 := (l6).size; refine cK rfl rfl rfl rfl cT ((l2.evo b8 i7.symm.own).evo0 M) (Src.ofOwn r5 ⟨by first | rfl | assumption, trivial⟩) (by omega) fun a94 c94 y4 ob94 t2 b9 hob529 => ?_; have hzz4 := gF hob529 hszz4 hz4; refine bY (bY (bY (bY (bF (bC (aC (aK (aD ?_)))))))); refine aI (bB rfl rfl (by omega) (by omega)) ?_; refine bY (bF (bJ ?_)); refine ⟨⟨k + 1, n1 + 1, a91, c91, ob91, x1 ++ [.int .i64 (-3)], n2 + 1, a92, c92, ob92, x2 ++ [.string grB], n3 + 1, a93, c93, ob93, x3 ++ [.string grB], n4 + 1, a94, c94, ob94, x4 ++ [.int .i64 (-4)]⟩, ?_, ⟨rfl, rfl, rfl, rfl, rfl, trivial⟩, ⟨rfl, rfl, rfl, rfl, rfl, rfl, rfl, rfl, trivial⟩, ((((((((k0.then A).step b5 hgw1.mem).then J).step b6 hgw2.mem).then L).step b8 hgw3.mem).then M).step b9 hgw4.mem), ?_⟩
   · (try dsimp only); omega
   try dsimp only
   refine ⟨by omega, ⟨by omega, by omega, by omega, by omega⟩, ⟨by omega, by omega, by omega, by omega⟩, (l7.evo b9 k3.symm.own), (l8.evo b9 k9.symm.own), ((o9.evo0 M).evo b9 l4.symm.own), t2, (hgy41.app (hEy.then A) hob382), (hgy42.app k4 hob427), (hgy43.app l0 hob476), (hgy44.app l5 hob529), hzz1, hzz2, hzz3, hzz4, (k1.symm.app (Lt.own (o7.evo0 J)) hob427), (k2.symm.app (Lt.own l3) hob476), (k3.symm.app (Lt.own l7) hob529), (k8.symm.app (Lt.own (o8.evo0 L)) hob476), (k9.symm.app (Lt.own l8) hob529), (l4.symm.app (Lt.own (o9.evo0 M)) hob529), ((((((((hEx.then A).step b5 hgx21.mem).then J).step b6 hgx22.mem).then L).step b8 hgx23.mem).then M).step b9 hgx24.mem), (l5.step b9 hgy44.mem), (l6.step b9 (hz4))⟩
  refine bP (aT (aT (bO (aC ?_)))); refine aE ?_; have u2 := t6.evo hEz hMz; have u3 := t7.evo hEz hWz; refine aK (aD (aJ (vs := [_, _]) fH rfl (kL (hY.evo0 hEy)) rfl ?_)); rintro _ y5 ⟨aH, cH, obH, rfl, hOH, hGH, a5⟩; refine aD (aI (aU rfl rfl) ?_); refine aI (aU rfl rfl) ?_; refine bY (wan (csr (aD (aD (aD (aD (aJ (vs := [_, _, _]) dP rfl (jX (hY.evo0 (hEy.then a5)) name value) rfl ?_))))))); rintro _ y6 ⟨aP, cP, obP, rfl, hOP, hGP, a6⟩; have l9 := (((((j4.evo0 H).evo0 I)).evo hEz hBz).evo0 a5).evo0 a6; refine aJ (vs := [_, _]) dZ rfl (jV (eK (X := []) l9 (by simp)) (eK (X := []) hOP (by simp)) (by omega) rfl) rfl ?_; rintro _ y7 ⟨rfl, a7⟩; have m0 := ((hEy.then a5).then a6).then a7; refine aD (aY (aD (aY (aD (aY (aJ (vs := [_]) dY rfl (gD (hY.evo0 m0)) rfl ?_)))))); rintro _ y8 ⟨ys1, hYs1, ⟨a1, c1, ob1, rfl, u4, A4, hYl1⟩, a8⟩; have m1 := (((u2.evo0 a5).evo0 a6).evo0 a7).evo0 a8; refine aY ?_; refine aJ (vs := [_, _]) dW rfl (dV (jF m1) (jF u4) (by omega) (hYsM.uniq hYs1)) rfl ?_; rintro _ y9 ⟨rfl, b4⟩; refine bZ (aD (aY (aD (aY (aD (aY (aD (aY (aJ (vs := [_, _]) dX rfl (eW (hY.evo0 ((m0.then a8).then b4)) name) rfl ?_)))))))))
  rintro _ z0 ⟨ys2, hYs2, ⟨a2, c2, ob2, rfl, u5, A5, hYl2⟩, c0⟩; have m2 := (((((u3.evo0 a5).evo0 a6).evo0 a7).evo0 a8).evo0 b4).evo0 c0; refine aY ?_; refine aJ (vs := [_, _]) dW rfl (dV (jF m2) (jF u5) (by omega) (hYsW.uniq hYs2)) rfl ?_; rintro _ z1 ⟨rfl, c5⟩; refine bZ (aD (aY (aD (aY (aD (aY ?_)))))); refine aJ (vs := [_, _]) dZ rfl (jV (eK (X := []) ((((((((hOG.evo hEz hG9z).evo0 a5).evo0 a6).evo0 a7).evo0 a8).evo0 b4).evo0 c0).evo0 c5) (by simp)) (eK (X := []) ((((((hOH.evo0 a6).evo0 a7).evo0 a8).evo0 b4).evo0 c0).evo0 c5) (by simp)) (by omega) rfl) rfl ?_; rintro _ z2 ⟨rfl, d0⟩; have m3 := (((((((hEx.then a5).then a6).then a7).then a8).then b4).then c0).then c5).then d0; refine bZ (aD (aY (aD (aY (aD (aY (aD (aY (aJ (vs := [_, _, _]) dP rfl (jX (hX.evo m3 (fun y hy => .inl (hXlt y hy))) name value) rfl ?_))))))))); rintro _ z3 ⟨aQ, cQ, obQ, rfl, hOQ, hGQ, d3⟩; refine aY (aD (aY ?_)); refine aJ (vs := [_, _]) dZ rfl (jV (eK (X := []) hOQ (by simp)) (eK (X := []) (((((((l9.evo0 a7).evo0 a8).evo0 b4).evo0 c0).evo0 c5).evo0 d0).evo0 d3) (by simp)) (by omega) rfl) rfl ?_; rintro _ z4 ⟨rfl, d9⟩; have m4 := (m3.then d3).then d9; refine bZ (aD (aY (aD (aY ?_))))
  refine aJ (vs := [_]) dY rfl (gD (hX.evo m4 (fun y hy => .inl (hXlt y hy)))) rfl ?_; rintro _ z5 ⟨ys3, hYs3, ⟨a3, c3, ob3, rfl, u6, A6, hYl3⟩, e0⟩; refine aY (aD (aY ?_)); refine aJ (vs := [_, _]) dW rfl (dV (jF u6) (jF (((((((m1.evo0 b4).evo0 c0).evo0 c5).evo0 d0).evo0 d3).evo0 d9).evo0 e0)) (by omega) (hYs3.uniq hYsM)) rfl ?_; rintro _ z6 ⟨rfl, h4⟩; refine bZ (aD (aY (aD (aY (aD (aY (aJ (vs := [_, _]) dX rfl (eW (hX.evo ((m4.then e0).then h4) (fun y hy => .inl (hXlt y hy))) name) rfl ?_))))))); rintro _ z7 ⟨ys4, hYs4, ⟨a4, c4, ob4, rfl, u7, A7, hYl4⟩, m5⟩; refine aY (aD (aY ?_)); refine aJ (vs := [_, _]) dW rfl (dV (jF u7) (jF (((((((m2.evo0 c5).evo0 d0).evo0 d3).evo0 d9).evo0 e0).evo0 h4).evo0 m5)) (by omega) (hYs4.uniq hYsW)) rfl ?_; rintro _ z8 ⟨rfl, r6⟩; refine bZ (aD (aY (aD (aY (aI (aO rfl Tryz.underlying37 rfl) ?_))))); refine aY ?_; refine aI (oH rfl rfl (by omega)) ?_; refine bZ (aD (aY (aD (aY (aI (aO rfl Tryz.underlying22 rfl) ?_))))); refine aY (aD (aY (aI (aO rfl Tryz.underlying22 rfl) ?_))); refine aY ?_; refine aI (bB rfl rfl (by omega) (by omega)) ?_; refine aY (aD (aY (aI (aO rfl Tryz.underlying37 rfl) ?_))); refine aY ?_
  refine aI (bB rfl rfl (by omega) (by omega)) ?_; refine aY ?_; refine aI (oH rfl rfl (by omega)) ?_; refine bZ (wan (bA (br1 ?_))); exact ⟨rfl, ((((((((((((((k0.then a5).then a6).then a7).then a8).then b4).then c0).then c5).then d0).then d3).then d9).then e0).then h4).then m5).then r6)⟩
end Go.Proofs.YtidpigbinpaaeaaGreat
namespace Go.Proofs.YtidpigbinpaaeaaGreat
open Go.ChangeAt Go.ChangeShapes Go.RowKit Go.W Go.WideShapes
set_option maxRecDepth 100000 in
theorem tH (H : Type) (enc : TypeId × Value → H) (W : World) (base : Nat) (args : Array Value) (ds gs : List (DataW H)) (before : List MemPlace)
    (hval : ∀ (j : Nat) t v, Tryz.f6.params[j]? = some t → args[j]? = some v → Value.okWide Tryz.prog W .any base t v)
    (hW : DataW.Whole enc Tryz.prog Tryz.f6.params.toList Rows.indexKeepsSpec.vars false W args.toList ds gs before) (hk : Rows.uptoSmall H (ds ++ gs) = true)
    (hsz : (DataW.weightsEach Tryz.prog (Tryz.f6.params.toList ++ Rows.indexKeepsSpec.plain.varTypes Tryz.prog) (ds ++ gs)).all (· ≤ reachBytes) = true) (hG : Glb W) :
    Calls Tryz.prog 6 args W fun e W' => ∃ v, e = .returned v ∧ Rows.indexKeepsSpec.post enc Tryz.prog Tryz.f6 false true false false W args v W' := by
  have hW' := hW
  obtain ⟨p, q, I, hV, rfl, hfz, hnd⟩ := hW
  have hA : DataW.TrodAll enc Tryz.prog W 0 (fun _ => true) true Tryz.f6.params.toList args.toList ds p := I
  rw [Tryz.params6] at hA hval hsz
  obtain ⟨v0, vs0, d0, ds0, p0, q0, hargs0, rfl, rfl, h0, r0⟩ := trodAll_cons hA
  obtain ⟨v1, vs1, d1, ds1, p1, q1, hargs1, rfl, rfl, h1, r1⟩ := trodAll_cons r0
  obtain ⟨v2, vs2, d2, ds2, p2, q2, hargs2, rfl, rfl, h2, r2⟩ := trodAll_cons r1
  obtain ⟨J, rfl, rfl⟩ := trodAll_nil r2
  subst J
  subst hargs2
  subst hargs1
  obtain rfl : args = #[v0, v1, v2] := by cases args; simp_all
  obtain ⟨rfl, rfl⟩ := trodVars_none hV
  have hbk := of_decide_eq_true hk
  simp only [List.append_nil, List.cons_append, List.nil_append, Rows.uptoBulkAll] at hbk
  have k0 := h0
  have lt0 : ∀ x ∈ p0, x.block < W.heap.size := by obtain ⟨m, hm⟩ := k0; exact DataW.trod_lt m _ _ _ hm
  obtain ⟨f0, hf0⟩ := h0
  obtain ⟨l0, ⟨u0, hu0, hsl0, hb0⟩, hmu0⟩ := sJ f0 H enc W f0 _ _ (Nat.le_refl _) hf0 (fun n hn => by have := List.all_eq_true.1 hsz n (DataW.weights_mem_each (j := 0) rfl rfl n hn); simpa using this) (by simp only; omega)
  obtain ⟨a0, n0, c0, rfl⟩ := okWide_slice Tryz.underlying32 (hval 0 32 _ rfl rfl)
  simp [Value.cells] at hu0
  subst hu0
  obtain ⟨L, hz0⟩ := unSets hsl0
  obtain ⟨O, U, M⟩ := oX (B := Rows.uptoBulk d0) hmu0
  have k1 := h1
  have lt1 : ∀ x ∈ p1, x.block < W.heap.size := by obtain ⟨m, hm⟩ := k1; exact DataW.trod_lt m _ _ _ hm
  obtain ⟨f1, hf1⟩ := h1
  obtain ⟨s1, ⟨A, V⟩, -⟩ := eY f1 Tryz.underlying9 H enc W f1 _ _ (Nat.le_refl _) hf1 (fun n hn => by have := List.all_eq_true.1 hsz n (DataW.weights_mem_each (j := 1) rfl rfl n hn); simpa using this) (by simp only; omega)
  obtain ⟨z1, rfl⟩ := okWide_string Tryz.underlying9 (hval 1 9 _ rfl rfl)
  simp [Value.cells] at A
  subst A
  have k2 := h2
  have lt2 : ∀ x ∈ p2, x.block < W.heap.size := by obtain ⟨m, hm⟩ := k2; exact DataW.trod_lt m _ _ _ hm
  obtain ⟨f2, hf2⟩ := h2
  obtain ⟨s2, ⟨E, Y⟩, -⟩ := eY f2 Tryz.underlying9 H enc W f2 _ _ (Nat.le_refl _) hf2 (fun n hn => by have := List.all_eq_true.1 hsz n (DataW.weights_mem_each (j := 2) rfl rfl n hn); simpa using this) (by simp only; omega)
  obtain ⟨z2, rfl⟩ := okWide_string Tryz.underlying9 (hval 2 9 _ rfl rfl)
  simp [Value.cells] at E
  subst E
  refine (rH z1 z2 L (by omega) (fun i h => by have := M i h; omega) (by omega) (fun i h l hl => by have := hz0 i h l hl; omega)).mono fun e W' ⟨v, he, hv, bel⟩ => ?_
  subst he hv
  exact ⟨_, rfl, _, _, _, [], _, [], hW', trodAll_mk1 (shut_bool Tryz.underlying4 _), (trodAll_cons_mk (Below.trod mS (by kernel_rfl) (of_decide_eq_true (by kernel_rfl)) k0 bel.below lt0) (trodAll_cons_mk (Below.trod mS (by kernel_rfl) (of_decide_eq_true (by kernel_rfl)) k1 bel.below lt1) (trodAll_cons_mk (Below.trod mS (by kernel_rfl) (of_decide_eq_true (by kernel_rfl)) k2 bel.below lt2) trodAll_mk0))), rfl, bel.below.frame _, fun h => by cases h⟩
noncomputable def iP (os : Os) : World := World.holding Tryz.prog os ⟨#[], #[], []⟩
theorem sX (os : Os) : laidMet Tryz.prog Rows.indexKeepsUptoRow.laid ((iP os).forCall (fun _ _ => 0) ⟨#[], #[.slice none 0 0, .string ByteArray.empty, .string ByteArray.empty], []⟩).memory :=
  laidMet_of_run' 8 (by kernel_rfl) (by kernel_rfl)
theorem reads (os : Os) {H : Type} (enc : TypeId × Value → H) : ∃ places, DataW.whole enc Tryz.prog ((iP os).forCall (fun _ _ => 0) ⟨#[], #[.slice none 0 0, .string ByteArray.empty, .string ByteArray.empty], []⟩).memory Tryz.f6.params.toList Rows.indexKeepsSpec.vars false (#[.slice none 0 0, .string ByteArray.empty, .string ByteArray.empty] : Array Value).toList 8 = some ([.nil, .lit (.string []), .lit (.string [])], [], places) :=
  ⟨[], by kernel_rfl⟩
set_option maxRecDepth 100000 in
theorem lifted (os : Os) (started : os.Started) (H : Type) (enc : TypeId × Value → H) (F : Stop.Interp) :
    ReturnsInHanded {} Tryz.checked os 6 .any ((Rows.OpenSpec.upto Rows.indexKeepsSpec).preRow enc Tryz.prog Tryz.f6 Rows.indexKeepsUptoRow.domain false Rows.indexKeepsUptoRow.laid) (((Rows.OpenSpec.upto Rows.indexKeepsSpec).at F).post enc Tryz.prog Tryz.f6 false true false false) := by
  obtain ⟨places, hx⟩ := reads os enc
  refine returnsInHanded_of_row (C := Tryz.checked) (s := (Rows.OpenSpec.upto Rows.indexKeepsSpec)) own started (by kernel_rfl) Tryz.func6
    (witness_row_at (enc := enc) (C := Tryz.checked) false (iP os) #[.slice none 0 0, .string ByteArray.empty, .string ByteArray.empty] rfl (by kernel_rfl) (by kernel_rfl) (by kernel_rfl)
      (OpenSpec.preRow_of_cond 8 hx (by kernel_rfl) (fun k hk => by cases hk; kernel_rfl) (by kernel_rfl) (sX os))) ?_
  intro W base args ds gs before hval hW _ hk hsz hL hsh _
  exact tH H enc W base args ds gs before hval hW (hk _ rfl) hsz (Tryz.laysM143.s1_3 W hsh)
theorem indexKeeps_holds : Rows.IndexKeepsUptoSaid :=
  OpenClaim.holds_of_cond 6 Tryz.f6 rfl rfl rfl rfl rfl rfl rfl ⟨rfl, rfl, rfl, rfl, rfl⟩ rfl rfl rfl rfl rfl (by kernel_rfl) Tryz.func6 (by kernel_rfl)
    (of_decide_eq_true (by kernel_rfl)) (by unfold Func.isWrapper; first | (rw [if_pos (by decide +kernel)]; kernel_rfl) | (rw [if_neg (by decide +kernel)]; exact ⟨rfl, rfl⟩))
    (fun os started H enc _ F => by rw [OpenClaim.pre_eq_preRow]; exact lifted os started H enc F)
#print axioms indexKeeps_holds
end Go.Proofs.YtidpigbinpaaeaaGreat
