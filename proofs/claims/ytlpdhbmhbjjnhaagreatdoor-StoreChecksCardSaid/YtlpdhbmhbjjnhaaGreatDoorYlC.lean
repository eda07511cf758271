/- Checks: part 3 of 4 of what the law rests on. -/
import Derived.Test.YtlpdhbmhbjjnhaaGreatDoorYlB
set_option linter.unusedSectionVars false
set_option linter.unusedSimpArgs false
set_option linter.unusedVariables false
namespace Go.Proofs.YtlpdhbmhbjjnhaaGreatDoor
open Go.RowKit Go.W
attribute [local irreducible] Decidable.decide
theorem lR : hD Tryz.prog 118 = some false := by kernel_rfl
theorem cG : hD Tryz.prog 42 = some false := by kernel_rfl
theorem gM : oU Tryz.prog 96 96 = some (3, 1, 8) := by kernel_rfl
theorem tS : Build Tryz.prog 120 #[(0, 1), (1, 1)] #[.int .i64 0, .map none] := ⟨_, .agg #[.int .i64 0, .map none], Tryz.underlying120, by kernel_rfl, rfl, fun w => by kernel_rfl⟩
theorem zA : jE Tryz.prog 82 = some 1 := by kernel_rfl
theorem jV : dV Tryz.prog 120 1 = some 1 := by kernel_rfl
theorem pE : dC Tryz.prog 45 := ⟨_, Tryz.func45, by kernel_rfl, by kernel_rfl⟩
theorem fY : iF Tryz.prog 96 = some (3, 1) := by kernel_rfl
set_option maxHeartbeats 4000000 in
theorem new_ok {w : World} {v : Value} {sets : List (List LB)} (hs : RSl 1 (EI 2 RLB) [] w v sets) (hl1 : sets.length ≤ 2000000) (hl2 : ∀ i (h : i < sets.length), sets[i].length ≤ 2000000) (hl3 : (fQ sets sets.length).length ≤ 100000000) :
    Calls Tryz.prog 33 #[v] w (Ret fun r w' => (r = .tuple #[.pointer none, .int .i64 160] ∧ (∃ i, ∃ h : i < sets.length, ¬ kY sets[i]) ∧ Evo [] w w') ∨
      ∃ bx mb D, r = .tuple #[.pointer (some ⟨bx, 0, none⟩), .int .i64 0] ∧ (∀ i (h : i < sets.length), kY sets[i]) ∧ IxAt w' w.heap.size bx sets.length mb D ∧ Knows D (fQ sets sets.length) ∧ Evo [] w w') := by
  obtain ⟨sa, sc, rfl, hlc, e1⟩ := hs; refine aU (N := 61) Tryz.func33 rfl rfl rfl ?_; refine csr (cL (wan (csr (aD (aC (aP rfl Tryz.underlying82 rfl) ?_))))); refine sA rfl fun mb w1 e8 e9 f8 => ?_; have f9 := e9; have f0 := (Evo.refl [] w).then f8; refine aC (dR (vs := [(0, _), (1, _)]) tS rfl (cells := [_, _]) rfl) ?_; refine dZ rfl rfl fun bx w7 g0 c6 c8 => ?_; have g1 := c6; have g2 : IxAt w7 w.heap.size bx sets.length mb [] := IxAt.nil g0 (e8.evo0 c8) ((Ge.new (Evo.refl [] w) e9) _ rfl) ((Ge.new f0 c6) _ rfl) (fun e => (Apart.new (Lt.map e8) c6) mb rfl (congrArg some e)); refine wan (aL (csr (aD (aC (aP rfl Tryz.underlying82 rfl) ?_)))); refine aD (wnn (aZ (cH (α := Nat × List En) ((0, [])) (fun x => [(17, .int .i64 (x.1 : Nat))]) [(4, _), (15, _), (16, _)] (fun x wr => Evo [] w wr ∧ (x.1 ≤ sets.length ∧ (∀ j (h : j < sets.length), j < x.1 → kY sets[j]) ∧ IxAt wr w.heap.size bx sets.length mb x.2 ∧ Knows x.2 (fQ sets x.1))) (fun x => sets.length - x.1) ⟨rfl, trivial⟩ ⟨rfl, rfl, rfl, trivial⟩ ⟨(f0.then c8), ⟨Nat.zero_le _, fun j h h2 => absurd h2 (Nat.not_lt_zero _), g2, Knows.nil⟩⟩ ?_))); rintro ⟨i, D⟩ wr15 ⟨O, ⟨hi, hvd, hI, hKn⟩⟩; show CW _ _ _ _ [(17, .int .i64 (i : Nat)), (4, _), (15, _), (16, _)] _
  try dsimp only at hi hvd hI hKn
  refine csr (aC (cE rfl rfl) ?_); refine wnn (aL (bP rfl (fun f1 => ?_) (fun f1 => ?_)))
  ·have hi' : i < sets.length := by omega
   obtain ⟨b1, o1, vs1, ha1, -, -, g3, va, rfl, hrs0⟩ := e1 i hi'; obtain ⟨ls, hls⟩ : ∃ l, l = sets[i] := ⟨_, rfl⟩; have hrs := RSl.evo RLB.pers O hrs0; rw [← hls] at hrs hrs0
   have hll : ls.length ≤ 2000000 := by rw [hls]; exact hl2 i hi'
   obtain ⟨la, lc, rfl, hlc2, e2⟩ := id hrs0; refine aR (aB (aL (aZ (csr (aD ?_)))))
   refine aC (cS (n := i) (by rw [ha1]; rfl) rfl zA (by omega)) ?_
   refine aC (aF rfl cG ((g3.evo O (by simp)) 0 _ rfl)) ?_; refine cL (wan (aL (csr (aD ?_)))); refine aG (vs := [_]) pE rfl (uX hrs (by omega)) rfl ?_; rintro _ h4 ⟨bv, rfl, hbv, c9⟩; have d0 := O.then c9; refine aC (eI rfl) ?_; refine wnn (dX rfl (fun U => ?_) (fun U => ?_))
   ·refine csr (cL (wan (aS (aI (bA (aI (aI (bA (aI (cQ rfl rfl rfl ?_))))))))))
    exact .inl ⟨rfl, ⟨i, hi', fun h => by rw [← hls] at h; rw [hbv.2 h] at U; cases U⟩, d0⟩
   refine aR (aB (csr (aD (aC (aP rfl Tryz.underlying42 rfl) ?_)))); refine aD (wnn (aZ ?_)); refine cH (α := Nat × List En) ((0, D)) (fun x => [(27, .int .i64 (x.1 : Nat))]) [(4, _), (5, _), (15, _), (16, _), (17, _), (25, _), (26, _)] (fun x wr => Evo [] w wr ∧ (x.1 ≤ ls.length ∧ IxAt wr w.heap.size bx sets.length mb x.2 ∧ Knows x.2 (fQ sets i ++ gU (ls.take x.1) i))) (fun x => ls.length - x.1) ⟨rfl, trivial⟩ ⟨rfl, rfl, rfl, rfl, rfl, rfl, rfl, trivial⟩ ⟨d0, ⟨Nat.zero_le _, (hI.evo0 c9), by simpa [gU] using hKn⟩⟩ ?_; rintro ⟨k, D⟩ wr21 ⟨V, ⟨hk, hI, hKn⟩⟩; show CW _ _ _ _ [(27, .int .i64 (k : Nat)), (4, _), (5, _), (15, _), (16, _), (17, _), (25, _), (26, _)] _
   try dsimp only at hk hI hKn
   refine csr (aC (cE rfl rfl) ?_); refine wnn (aL (bP rfl (fun f2 => ?_) (fun f2 => ?_)))
   ·have hk' : k < ls.length := by omega
    obtain ⟨b2, o2, vs2, ha2, -, -, g4, rfl, hz1, hz2⟩ := e2 k hk'; refine aR (aB (aL (aZ (csr ?_))))
    refine aC (cS (n := k) (by rw [ha2]; rfl) rfl bZ (by omega)) ?_
    refine aC (dQ rfl eE cI (vs := [_, _]) rfl (g4.evo V (by simp))) ?_; have hIlt9 := (hI).lt; refine dE rfl fH fun b8 h5 f3 d1 d2 => ?_; have d3 := d1
    have hb8I : b8 ∉ Ixl bx mb D := fun hb => by have := hIlt9 b8 hb; have := d3; omega
    refine bT rfl rfl cI f3 rfl rfl ⟨by first | rfl | assumption, by first | rfl | assumption, trivial⟩ fun h6 b4 d4 => ?_; have b5 := (V.then d2).step d4 (Ge.new V d1).mem1
    have d5 := (hI.evo0 d2).evo d4 (fun b hb hm => by simp at hm; subst hm; exact hb8I hb)
    refine wnn (aL ?_)
    rcases hlk : eU (D.map En.kv) ls[k].1 with _ | vv
    ·refine eG (fun w0 w' => Evo [] w0 w') (by kernel_rfl) (fun J W => ?_); have Y := d5.evo0 W; have b6 := W.blk0 b4; refine aet 0 rfl (fun _ hS => aV rfl) (Evo.refl [] J) ?_; refine aet 1 rfl (fun _ hS => aH rfl) (Evo.refl [] J) ?_; refine aet 2 rfl (fun _ hS => aA rfl jV) (Evo.refl [] J) ?_; refine aet 3 rfl (fun _ hS => aF rfl lR (aK ((Y.evo0 hS)).box rfl)) (Evo.refl [] J) ?_; refine aet 4 rfl (fun _ hS => aA rfl cD) (Evo.refl [] J) ?_; refine aet 5 rfl (fun _ hS => aF rfl bR (aK (hS.blk0 b6) rfl)) (Evo.refl [] J) ?_
     refine aet 6 rfl (fun _ hS => jG rfl rfl Tryz.underlying118 Tryz.underlying9 (z := .map none) (by kernel_rfl) ((Y.evo0 hS)).map (r := .map none) (by rw [hlk]; rfl)) (Evo.refl [] J) ?_
     refine aet 7 rfl (fun _ hS => fB rfl) (Evo.refl [] J) ?_; refine bN (by kernel_rfl) (aB ?_); refine aL (csr (aD (aC (AY rfl rfl Tryz.underlying121) ?_))); refine wnn (eX rfl ?_); refine csr ?_; have hIlt := (Y).lt; refine sA rfl fun nb h7 f4 b7 b9 => ?_; have g5 := b7
     have hnbI : nb ∉ Ixl bx mb D := fun hb => by have := hIlt nb hb; omega
     have hnbg : w.heap.size ≤ nb := (Ge.new (b5.then W) b7) _ rfl; have hb8n : b8 ≠ nb := fun e => (Apart.new (Lt.blk b6) b7) _ (congrArg some e) rfl; refine wan ?_; refine eG (fun w0 w' => Evo [] w0 w') (by kernel_rfl) (fun M a0 => ?_); have a1 := (Y.evo0 b9).evo0 a0; have d6 := a0.blk0 (b9.blk0 b6); refine aet 0 rfl (fun _ hS => aV rfl) (Evo.refl [] M) ?_; refine aet 1 rfl (fun _ hS => aH rfl) (Evo.refl [] M) ?_; refine aet 2 rfl (fun _ hS => aA rfl jV) (Evo.refl [] M) ?_; refine aet 3 rfl (fun _ hS => aF rfl lR (aK ((a1.evo0 hS)).box rfl)) (Evo.refl [] M) ?_; refine aet 4 rfl (fun _ hS => aA rfl cD) (Evo.refl [] M) ?_; refine aet 5 rfl (fun _ hS => aF rfl bR (aK (hS.blk0 d6) rfl)) (Evo.refl [] M) ?_; refine aet 6 rfl (fun _ hS => aV rfl) (Evo.refl [] M) ?_; refine aN [7] (by kernel_rfl) rfl ⟨?_, trivial⟩; refine aO rfl ?_; refine jF rfl rfl rfl Tryz.underlying118 Tryz.underlying9 (a1).map fun w7 a6 H => ?_; have c2 := IxAt.addName a1 hnbg hnbI (f4.evo0 a0) a6 H hlk
     have d7 := (((b5.then W).then b9).then a0).step H (by intro y hy; simp at hy; subst hy; exact .inr (a1).ge)
     have d8 := H.blk d6 (by simp; exact fun e => hb8I (by rw [e]; simp [Ixl]))
     refine aE (aJ (.inr (by kernel_rfl)) ?_); refine bN (by kernel_rfl) (aB ?_); have hem := (c2).ent (e := (⟨ls[k].1, nb, []⟩ : En)) (by simp); obtain ⟨V1, o, V2, va, vn, vc, ids, ob, hvs, hgv, hown, hfo, hput, hcase⟩ := hem.find ls[k].2; obtain ⟨hemo, hobI⟩ := (c2).obs (e := (⟨ls[k].1, nb, []⟩ : En)) (by simp) hvs hfo; have hemI := (c2).gee (e := (⟨ls[k].1, nb, []⟩ : En)) (by simp); have a8 := hem.1
     have hb8J : b8 ∉ Ixl bx mb (D ++ [(⟨ls[k].1, nb, []⟩ : En)]) := by intro hb; simp only [Ixl, List.flatMap_append, List.flatMap_cons, List.flatMap_nil, List.append_nil, En.bl, List.mem_append, List.mem_cons, List.not_mem_nil, or_false] at hb hb8I; simp only [not_or] at hb8I; rcases hb with h | h | h | h; exact hb8I.1 h; exact hb8I.2.1 h; exact hb8I.2.2 h; exact hb8n h
     have hb8o : b8 ∉ ob.toList := fun hb => hb8J (hobI b8 hb).2
     have g6 : Apart (some b8) ob := fun g h1 h2 => by cases h1; exact hb8o (by simp [h2])
     have d9 : Apart (some (⟨ls[k].1, nb, []⟩ : En).mb) ob := fun g h1 h2 => by cases h1; exact hemo (by simp [h2])
     have hGob : Ge w ob := fun g hg => (hobI g (by simp [hg])).1
     have hidl : ids.length ≤ (fQ sets i ++ gU (ls.take k) i).length := by rcases hcase with ⟨_, _, rfl⟩ | ⟨x, hx, _⟩; exact Nat.zero_le _; have := (vG hvs).2.1; rw [this] at hx; cases hx
     have hrl : (fQ sets i ++ gU (ls.take k) i).length ≤ 100000000 := by have := EX (k := k) hi'; rw [← hls] at this; omega
     have hvn := own_n hown; refine eG (fun w0 w' => Evo ob.toList w0 w') (by kernel_rfl) (fun G E => ?_); refine aet 0 rfl (fun _ hS => aV rfl) (Evo.refl ob.toList G) ?_; refine aet 1 rfl (fun _ hS => aA rfl cT) (Evo.refl ob.toList G) ?_; refine aet 2 rfl (fun _ hS => aF rfl bR (aK (hS.blk (E.blk0 d8) (hb8o)) rfl)) (Evo.refl ob.toList G) ?_; refine aet 3 rfl (fun _ hS => aV rfl) (Evo.refl ob.toList G) ?_; refine aet 4 rfl (fun _ hS => aA rfl cT) (Evo.refl ob.toList G) ?_; refine aet 5 rfl (fun _ hS => aF rfl bR (aK (hS.blk (E.blk0 d8) (hb8o)) rfl)) (Evo.refl ob.toList G) ?_; refine aet 6 rfl (fun _ hS => jG rfl rfl Tryz.underlying121 Tryz.underlying9 (z := .slice none 0 0) (by kernel_rfl) ((a8.evo0 E).evo hS (hemo)) (r := .slice va vn vc) hgv) (Evo.refl ob.toList G) ?_; refine aet 7 rfl (fun _ hS => aV rfl) (Evo.refl ob.toList G) ?_; refine aN [8] (by kernel_rfl) rfl ⟨?_, trivial⟩; refine aO rfl ?_; refine cK (vs := [_]) rfl fY rfl rfl rfl rfl fun h8 h9 f5 g9 a2 => ?_; have c0 := (Evo.refl ob.toList G).then a2; refine aE (aJ (.inl c0) ?_); refine aN [9] (by kernel_rfl) rfl ⟨?_, trivial⟩; refine aO rfl ?_
     have hsz14 := (c0).size; refine dB rfl rfl rfl rfl gM ((hown.evo0 E).evo0 a2) (Src.ofOwn f5 ⟨by first | rfl | assumption, trivial⟩) (by omega) fun a7 c7 g7 ob7 e0 c1 hob85 => ?_; have e3 := c0.step c1 (fun y hy => .inl hy); have hob7 : ob7 = ob ∨ ∃ g, ob7 = some g ∧ G.heap.size ≤ g := hob85.imp id (fun ⟨g, h1, h2⟩ => ⟨g, h1, Nat.le_trans hsz14 h2⟩); refine aE (aJ (.inl e3) ?_); refine aN [10] (by kernel_rfl) rfl ⟨?_, trivial⟩; refine aO rfl ?_; refine jF rfl rfl rfl Tryz.underlying121 Tryz.underlying9 (((a8.evo0 E).evo0 a2).evo c1 d9.nmem) fun w7 a6 H => ?_; obtain ⟨x7, hx7⟩ : ∃ x : Vl, x = ⟨ls[k].2, a7, vn + 1, c7, ids ++ [(i : Int)], ob7⟩ := ⟨_, rfl⟩
     have hx7a : x7.At g7 := by subst hx7; unfold Vl.At; rw [List.map_append]; exact e0
     have e4 : MapAt w7 (⟨ls[k].1, nb, []⟩ : En).mb ((V1 ++ x7 :: V2).map Vl.kv) := by rw [← hput x7 (by subst hx7; rfl)]; subst hx7; exact a6
     have e5 := IxAt.put (c2.evo0 E) hvs hfo (Evo.size (d7.then E)) hx7a e3 (by subst hx7; exact hob7) e4 H
     obtain ⟨rfl, rfl, rfl⟩ := vG hvs
     have hids0 : ids = [] := by rcases hcase with ⟨_, _, h⟩ | ⟨x, h, _⟩; exact h; cases h
     have a9 := hKn.newName (n := ls[k].1) (v := ls[k].2) (i := (i : Int)) (e := { (⟨ls[k].1, nb, []⟩ : En) with vs := [] ++ x7 :: [] }) (x := x7) (KH hlk) rfl (by subst hx7; rfl) (by subst hx7; subst hids0; rfl) rfl
     rw [List.append_assoc, ← qR hk'] at a9
     have f6 := (((d7.then E).then a2).step c1 hGob.mem).step H (by intro y hy; simp at hy; subst hy; exact .inr hemI.1)
     refine aE (aJ (.inr (by kernel_rfl)) ?_); refine bN (by kernel_rfl) (bC (aB ?_)); refine aQ ?_; refine aC (aT rfl rfl (by omega) (by omega)) ?_; refine aD (aE (aM ?_)); refine ⟨(k + 1, D ++ [{ (⟨ls[k].1, nb, []⟩ : En) with vs := [] ++ x7 :: [] }]), ?_, ⟨rfl, trivial⟩, ⟨rfl, rfl, rfl, rfl, rfl, rfl, rfl, trivial⟩, f6, ?_⟩
     · (try dsimp only); omega
     try dsimp only
     exact ⟨by omega, e5, a9⟩
    obtain ⟨D1, e, D2, rfl, hen, hnn⟩ := nT hlk; obtain ⟨hnm, hvv⟩ := Prod.mk.inj (show (e.nm, Value.map (some e.mb)) = (ls[k].1, vv) from hen); subst hvv; refine eG (fun w0 w' => Evo [] w0 w') (by kernel_rfl) (fun K a3 => ?_); have I := d5.evo0 a3; refine aet 0 rfl (fun _ hS => aV rfl) (Evo.refl [] K) ?_; refine aet 1 rfl (fun _ hS => aH rfl) (Evo.refl [] K) ?_; refine aet 2 rfl (fun _ hS => aA rfl jV) (Evo.refl [] K) ?_; refine aet 3 rfl (fun _ hS => aF rfl lR (aK ((I.evo0 hS)).box rfl)) (Evo.refl [] K) ?_; refine aet 4 rfl (fun _ hS => aA rfl cD) (Evo.refl [] K) ?_; refine aet 5 rfl (fun _ hS => aF rfl bR (aK (hS.blk0 (a3.blk0 b4)) rfl)) (Evo.refl [] K) ?_
    refine aet 6 rfl (fun _ hS => jG rfl rfl Tryz.underlying118 Tryz.underlying9 (z := .map none) (by kernel_rfl) ((I.evo0 hS)).map (r := .map (some e.mb)) (by rw [hlk]; rfl)) (Evo.refl [] K) ?_
    refine aet 7 rfl (fun _ hS => fB rfl) (Evo.refl [] K) ?_; refine bN (by kernel_rfl) (aB ?_); refine aL (csr (aD (aC (AY rfl rfl Tryz.underlying121) ?_))); refine wnn (cY rfl ?_); refine aR (aB ?_); have hem := (I).ent (e := e) (by simp); obtain ⟨V1, o, V2, va, vn, vc, ids, ob, hvs, hgv, hown, hfo, hput, hcase⟩ := hem.find ls[k].2; obtain ⟨hemo, hobI⟩ := (I).obs (e := e) (by simp) hvs hfo; have hemI := (I).gee (e := e) (by simp); have a8 := hem.1; have hb8J := hb8I; have hb8o : b8 ∉ ob.toList := fun hb => hb8J (hobI b8 hb).2
    have g6 : Apart (some b8) ob := fun g h1 h2 => by cases h1; exact hb8o (by simp [h2])
    have d9 : Apart (some e.mb) ob := fun g h1 h2 => by cases h1; exact hemo (by simp [h2])
    have hGob : Ge w ob := fun g hg => (hobI g (by simp [hg])).1; have hidl := hKn.ids_le (e := e) (by simp) hvs hcase
    have hrl : (fQ sets i ++ gU (ls.take k) i).length ≤ 100000000 := by have := EX (k := k) hi'; rw [← hls] at this; omega
    have hvn := own_n hown; refine eG (fun w0 w' => Evo ob.toList w0 w') (by kernel_rfl) (fun A F => ?_); have c3 := (b5.then a3).then F; have c4 := F.blk0 (a3.blk0 b4); refine aet 0 rfl (fun _ hS => aV rfl) (Evo.refl ob.toList A) ?_; refine aet 1 rfl (fun _ hS => aA rfl cT) (Evo.refl ob.toList A) ?_; refine aet 2 rfl (fun _ hS => aF rfl bR (aK (hS.blk c4 (hb8o)) rfl)) (Evo.refl ob.toList A) ?_; refine aet 3 rfl (fun _ hS => aV rfl) (Evo.refl ob.toList A) ?_; refine aet 4 rfl (fun _ hS => aA rfl cT) (Evo.refl ob.toList A) ?_; refine aet 5 rfl (fun _ hS => aF rfl bR (aK (hS.blk c4 (hb8o)) rfl)) (Evo.refl ob.toList A) ?_; refine aet 6 rfl (fun _ hS => jG rfl rfl Tryz.underlying121 Tryz.underlying9 (z := .slice none 0 0) (by kernel_rfl) ((a8.evo0 F).evo hS (hemo)) (r := .slice va vn vc) hgv) (Evo.refl ob.toList A) ?_; refine aet 7 rfl (fun _ hS => aV rfl) (Evo.refl ob.toList A) ?_; refine aN [8] (by kernel_rfl) rfl ⟨?_, trivial⟩; refine aO rfl ?_; refine cK (vs := [_]) rfl fY rfl rfl rfl rfl fun h0 h3 e6 g8 L => ?_; have a4 := (Evo.refl ob.toList A).then L; refine aE (aJ (.inl a4) ?_)
    refine aN [9] (by kernel_rfl) rfl ⟨?_, trivial⟩; refine aO rfl ?_; have hsz14 := (a4).size; refine dB rfl rfl rfl rfl gM ((hown.evo0 F).evo0 L) (Src.ofOwn e6 ⟨by first | rfl | assumption, trivial⟩) (by omega) fun a7 c7 f7 ob7 e0 a5 hob129 => ?_; have c5 := a4.step a5 (fun y hy => .inl hy); have hob7 : ob7 = ob ∨ ∃ g, ob7 = some g ∧ A.heap.size ≤ g := hob129.imp id (fun ⟨g, h1, h2⟩ => ⟨g, h1, Nat.le_trans hsz14 h2⟩); refine aE (aJ (.inl c5) ?_); refine aN [10] (by kernel_rfl) rfl ⟨?_, trivial⟩; refine aO rfl ?_; refine jF rfl rfl rfl Tryz.underlying121 Tryz.underlying9 (((a8.evo0 F).evo0 L).evo a5 d9.nmem) fun w7 a6 H => ?_; obtain ⟨x7, hx7⟩ : ∃ x : Vl, x = ⟨ls[k].2, a7, vn + 1, c7, ids ++ [(i : Int)], ob7⟩ := ⟨_, rfl⟩
    have hx7a : x7.At f7 := by subst hx7; unfold Vl.At; rw [List.map_append]; exact e0
    have e4 : MapAt w7 e.mb ((V1 ++ x7 :: V2).map Vl.kv) := by rw [← hput x7 (by subst hx7; rfl)]; subst hx7; exact a6
    have e5 := IxAt.put (I.evo0 F) hvs hfo (Evo.size c3) hx7a c5 (by subst hx7; exact hob7) e4 H
    have a9 := hKn.put' hvs hnm (x' := x7) (ids := ids) (i := (i : Int)) (v := ls[k].2) (by subst hx7; rfl) (by subst hx7; rfl) hcase
    rw [List.append_assoc, ← qR hk'] at a9
    have e7 := ((c3.then L).step a5 hGob.mem).step H (by intro y hy; simp at hy; subst hy; exact .inr hemI.1)
    refine aE (aJ (.inr (by kernel_rfl)) ?_); refine bN (by kernel_rfl) (bC (aB ?_)); refine aQ ?_; refine aC (aT rfl rfl (by omega) (by omega)) ?_; refine aD (aE (aM ?_)); refine ⟨(k + 1, D1 ++ { e with vs := V1 ++ x7 :: V2 } :: D2), ?_, ⟨rfl, trivial⟩, ⟨rfl, rfl, rfl, rfl, rfl, rfl, rfl, trivial⟩, e7, ?_⟩
    · (try dsimp only); omega
    try dsimp only
    exact ⟨by omega, e5, a9⟩
   refine bJ (bD (bD (bI (bC (aB ?_))))); refine aQ ?_; refine aC (aT rfl rfl (by omega) (by omega)) ?_; refine aD (aE (aM ?_)); refine ⟨(i + 1, D), ?_, ⟨rfl, trivial⟩, ⟨rfl, rfl, rfl, trivial⟩, V, ?_⟩
   · (try dsimp only); omega
   try dsimp only
   refine ⟨by omega, fun j h hj => ?_, hI, ?_⟩
   · by_cases e : j = i
     · subst e; rw [← hls]; exact hbv.1 (by simpa using U)
     · exact hvd j h (by omega)
   · rw [List.take_of_length_le (by omega)] at hKn; rw [mA hi', ← hls]; exact hKn
  refine bJ (bD (bD (bI (aB ?_)))); refine csr (aD (cL (wan (aS (cQ rfl rfl rfl ?_)))))
  obtain rfl : i = sets.length := by omega
  exact .inr ⟨bx, mb, D, rfl, fun j h => hvd j h h, hI, hKn, O⟩
end Go.Proofs.YtlpdhbmhbjjnhaaGreatDoor
namespace Go.Proofs.YtlpdhbmhbjjnhaaGreatDoor
open Go.RowKit Go.W
def iX (a b : ByteArray) : Int := if a.toList < b.toList then -1 else if b.toList < a.toList then 1 else 0
def kA (x y : LB) : Int := if iX x.1 y.1 ≠ 0 then iX x.1 y.1 else iX x.2 y.2
def dI : List LB → List LB → Int
  | [], [] => 0
  | [], _ :: _ => -1
  | _ :: _, [] => 1
  | x :: a, y :: b => if kA x y ≠ 0 then kA x y else dI a b
structure Ord3 {α : Type} (c : α → α → Int) : Prop where
  zero : ∀ a b, c a b = 0 ↔ a = b
  flip : ∀ a b, c a b < 0 ↔ 0 < c b a
  trans : ∀ a b d, c a b < 0 → c b d < 0 → c a d < 0
theorem Ord3.le {α : Type} {c : α → α → Int} (h : Ord3 c) {a b : α} (h1 : ¬ c a b < 0) (h2 : ¬ c b a < 0) : a = b := by
  have h3 := h.flip b a
  exact (h.zero a b).1 (by omega)
theorem ord_s : Ord3 iX where
  zero a b := by
    unfold iX
    by_cases h1 : a.toList < b.toList
    · rw [if_pos h1]
      constructor
      · intro h; omega
      · rintro rfl; exact absurd h1 (List.lt_irrefl _)
    · rw [if_neg h1]
      by_cases h2 : b.toList < a.toList
      · rw [if_pos h2]
        constructor
        · intro h; omega
        · rintro rfl; exact absurd h2 (List.lt_irrefl _)
      · rw [if_neg h2]
        exact ⟨fun _ => zL (List.le_antisymm (List.not_lt.1 h2) (List.not_lt.1 h1)), fun _ => rfl⟩
  flip a b := by
    unfold iX
    by_cases h1 : a.toList < b.toList
    · have h2 : ¬ b.toList < a.toList := fun h => List.lt_irrefl _ (List.lt_trans h1 h)
      rw [if_pos h1, if_neg h2, if_pos h1] <;> omega
    · rw [if_neg h1]
      by_cases h2 : b.toList < a.toList
      · rw [if_pos h2, if_pos h2] <;> omega
      · rw [if_neg h2, if_neg h2, if_neg h1] <;> omega
  trans a b d := by
    unfold iX
    intro h1 h2
    have k1 : a.toList < b.toList := by
      by_cases h : a.toList < b.toList
      · exact h
      · rw [if_neg h] at h1; split at h1 <;> omega
    have k2 : b.toList < d.toList := by
      by_cases h : b.toList < d.toList
      · exact h
      · rw [if_neg h] at h2; split at h2 <;> omega
    rw [if_pos (List.lt_trans k1 k2)]; omega
theorem ord_l : Ord3 kA where
  zero a b := by
    have h1 := ord_s.zero a.1 b.1
    have h2 := ord_s.zero a.2 b.2
    unfold kA
    by_cases h : iX a.1 b.1 ≠ 0
    · rw [if_pos h]
      exact ⟨fun e => absurd e h, fun e => absurd (h1.2 (by rw [e])) h⟩
    · rw [if_neg h]
      have h3 := h1.1 (Classical.not_not.1 h)
      exact ⟨fun e => Prod.ext h3 (h2.1 e), fun e => h2.2 (by rw [e])⟩
  flip a b := by
    have f1 := ord_s.flip a.1 b.1
    have f2 := ord_s.flip b.1 a.1
    have f3 := ord_s.flip a.2 b.2
    unfold kA
    by_cases h : iX a.1 b.1 ≠ 0
    · have h' : iX b.1 a.1 ≠ 0 := by omega
      rw [if_pos h, if_pos h']; exact f1
    · have h' : ¬ iX b.1 a.1 ≠ 0 := by omega
      rw [if_neg h, if_neg h']; exact f3
  trans a b d := by
    have z1 := ord_s.zero a.1 b.1
    have z2 := ord_s.zero b.1 d.1
    have t1 := ord_s.trans a.1 b.1 d.1
    have t2 := ord_s.trans a.2 b.2 d.2
    unfold kA
    intro h1 h2
    by_cases e1 : iX a.1 b.1 ≠ 0
    · rw [if_pos e1] at h1
      by_cases e2 : iX b.1 d.1 ≠ 0
      · rw [if_pos e2] at h2
        have := t1 h1 h2
        rw [if_pos (by omega)]; exact this
      · have e3 := z2.1 (Classical.not_not.1 e2)
        rw [e3] at h1
        rw [if_pos (by omega)]; exact h1
    · rw [if_neg e1] at h1
      have e3 := z1.1 (Classical.not_not.1 e1)
      rw [e3]
      by_cases e2 : iX b.1 d.1 ≠ 0
      · rw [if_pos e2] at h2 ⊢; exact h2
      · rw [if_neg e2] at h2 ⊢; exact t2 h1 h2
theorem gI : ∀ a b : List LB, dI a b = 0 ↔ a = b
  | [], [] => by simp [dI]
  | [], y :: b => by simp [dI]
  | x :: a, [] => by simp [dI]
  | x :: a, y :: b => by
    have h1 := ord_l.zero x y
    have h2 := gI a b
    unfold dI
    by_cases h : kA x y ≠ 0
    · rw [if_pos h]
      exact ⟨fun e => absurd e h, fun e => absurd (h1.2 (List.cons.inj e).1) h⟩
    · rw [if_neg h]
      have h3 := h1.1 (Classical.not_not.1 h)
      exact ⟨fun e => by rw [h3, h2.1 e], fun e => h2.2 (List.cons.inj e).2⟩
theorem oI : ∀ a b : List LB, dI a b < 0 ↔ 0 < dI b a
  | [], [] => by simp [dI]
  | [], y :: b => by simp [dI]
  | x :: a, [] => by simp [dI]
  | x :: a, y :: b => by
    have f1 := ord_l.flip x y
    have f2 := ord_l.flip y x
    have f3 := oI a b
    unfold dI
    by_cases h : kA x y ≠ 0
    · have h' : kA y x ≠ 0 := by omega
      rw [if_pos h, if_pos h']; exact f1
    · have h' : ¬ kA y x ≠ 0 := by omega
      rw [if_neg h, if_neg h']; exact f3
theorem mS : ∀ a b d : List LB, dI a b < 0 → dI b d < 0 → dI a d < 0
  | [], _, [] => fun h1 h2 => by
    have h3 := (oI _ _).1 h2
    omega
  | [], _, _ :: _ => fun _ _ => by simp [dI]
  | _ :: _, [], _ => fun h1 _ => by simp [dI] at h1
  | _ :: _, _ :: _, [] => fun _ h2 => by simp [dI] at h2
  | x :: a, y :: b, z :: d => fun h1 h2 => by
    have z1 := ord_l.zero x y
    have z2 := ord_l.zero y z
    have t1 := ord_l.trans x y z
    have t2 := mS a b d
    unfold dI at h1 h2 ⊢
    by_cases e1 : kA x y ≠ 0
    · rw [if_pos e1] at h1
      by_cases e2 : kA y z ≠ 0
      · rw [if_pos e2] at h2
        have := t1 h1 h2
        rw [if_pos (by omega)]; exact this
      · have e3 := z2.1 (Classical.not_not.1 e2)
        rw [e3] at h1
        rw [if_pos (by omega)]; exact h1
    · rw [if_neg e1] at h1
      have e3 := z1.1 (Classical.not_not.1 e1)
      rw [e3]
      by_cases e2 : kA y z ≠ 0
      · rw [if_pos e2] at h2 ⊢; exact h2
      · rw [if_neg e2] at h2 ⊢; exact t2 h1 h2
theorem ord_ls : Ord3 dI := ⟨gI, oI, mS⟩
end Go.Proofs.YtlpdhbmhbjjnhaaGreatDoor
namespace Go.Proofs.YtlpdhbmhbjjnhaaGreatDoor
open Go.RowKit Go.W
attribute [local irreducible] Decidable.decide
theorem gQ : hD Tryz.prog 3 = some false := by kernel_rfl
theorem fI : jE Tryz.prog 96 = some 1 := by kernel_rfl
theorem xY : dC Tryz.prog 52 := ⟨_, Tryz.func52, by kernel_rfl, by kernel_rfl⟩
theorem oY : dC Tryz.prog 81 := ⟨_, Tryz.func81, by kernel_rfl, by kernel_rfl⟩
section
variable {P : Program} {σ : Env} {w : World} {dst : Option Nat} {T : TypeId} {pos : String} {after : Array Edge} {g : Option (Nat × Bool)}
theorem AU {x y : Operand} {t t' : TypeId} {a b : ByteArray} (hx : σ.ev x = some (.string a)) (hy : σ.ev y = some (.string b)) : Ex P σ ⟨dst, .binOp .lss t x y t', T, pos, after, g⟩ w (.bool (decide (a.toList < b.toList))) w := fun ρ h => by
  have : Op.bytesLess a.toList b.toList = decide (a.toList < b.toList) := by rw [Go.Proofs.bytesLess_eq]
  simp [execOp, h x _ hx, h y _ hy, eqGuard, Go.binOp_string_lss, this]
theorem AV {x y : Operand} {t t' : TypeId} {a b : ByteArray} (hx : σ.ev x = some (.string a)) (hy : σ.ev y = some (.string b)) : Ex P σ ⟨dst, .binOp .gtr t x y t', T, pos, after, g⟩ w (.bool (decide (b.toList < a.toList))) w := fun ρ h => by
  have : (!(Op.bytesLess a.toList b.toList || a.toList == b.toList)) = decide (b.toList < a.toList) := by
    rw [Go.Proofs.bytesLess_eq, Bool.eq_iff_iff]
    simp only [Bool.not_eq_true', Bool.or_eq_false_iff, decide_eq_false_iff_not, beq_eq_false_iff_ne, decide_eq_true_eq]
    constructor
    · rintro ⟨h1, h2⟩
      exact Classical.byContradiction fun h3 => h2 (List.le_antisymm (List.not_lt.1 h3) (List.not_lt.1 h1))
    · intro h1
      exact ⟨fun h2 => List.lt_irrefl _ (List.lt_trans h1 h2), fun h2 => by rw [h2] at h1; exact List.lt_irrefl _ h1⟩
  simp [execOp, h x _ hx, h y _ hy, eqGuard, Go.binOp_string_gtr, this]
end
theorem vM {w : World} (a : ByteArray) : Calls Tryz.prog 81 #[.string a] w (Ret fun r w' => r = .bool false ∧ Evo [] w w') := by
  refine aU (N := 6) Tryz.func81 rfl rfl rfl ?_; refine csr (wan (csr (aD (aD (aC (iP rfl rfl) ?_))))); refine wan (aS (br1 ?_)); exact ⟨by simp, (Evo.refl [] w)⟩
theorem GA {w : World} (a b : ByteArray) : Calls Tryz.prog 54 #[.string a, .string b] w (Ret fun r w' => r = iv3 (iX a b) ∧ Evo [] w w') := by
  refine aU (N := 20) Tryz.func54 rfl rfl rfl ?_; refine csr (wan (csr (aD (aG (vs := [_]) oY rfl (vM a) rfl ?_)))); rintro _ w1 ⟨rfl, E⟩; refine wan (csr (aD (aG (vs := [_]) oY rfl (vM b) rfl ?_))); rintro _ w4 ⟨rfl, F⟩; have D := ((Evo.refl [] w).then E).then F; refine wan (aL (csr (aD (wnn (cY rfl ?_))))); refine aR (aB (aL (csr (aD (wnn (cY rfl ?_)))))); refine aR (aB (aL (csr (aD (aD (aC (AU rfl rfl) ?_)))))); refine wnn (bP rfl (fun y => ?_) (fun y => ?_))
  ·refine csr (wan (aS (aI (br1 ?_))))
   exact ⟨by unfold iX; rw [if_pos y], D⟩
  refine aR (aB (aL (csr (aD (aD (aC (AV rfl rfl) ?_)))))); refine wnn (bP rfl (fun A => ?_) (fun A => ?_))
  ·refine csr (wan (aS (aI (br1 ?_))))
   exact ⟨by unfold iX; rw [if_neg y, if_pos A], D⟩
  refine aR (aB (csr (wan (aS (br1 ?_)))))
  exact ⟨by unfold iX; rw [if_neg y, if_neg A], D⟩
theorem or_ok2 {w : World} {a : Option Addr} {c : Nat} {ob : Option Nat} (x y : Int) (h : OwnS w 3 1 a 2 c [iv3 x, iv3 y] ob) : Calls Tryz.prog 53 #[.slice a 2 c] w (Ret fun r w' => r = iv3 (if x ≠ 0 then x else y) ∧ Evo [] w w') := by
  refine aU (N := 18) Tryz.func53 rfl rfl rfl ?_; refine csr (wan (csr (wan (aL (csr (aD (aC (aP rfl Tryz.underlying96 rfl) ?_))))))); refine aD (wnn (aZ ?_)); refine cH (α := Nat) (0) (fun k => [(8, .int .i64 (k : Nat))]) [(3, _), (6, _), (7, _)] (fun k wr => Evo [] w wr ∧ (k ≤ 2 ∧ (k = 2 → y = 0) ∧ (0 < k → x = 0))) (fun k => 2 - k) ⟨rfl, trivial⟩ ⟨rfl, rfl, rfl, trivial⟩ ⟨Evo.refl _ _, ⟨by omega, by omega, by omega⟩⟩ ?_; rintro k wr1 ⟨E, ⟨hk, hy, hx⟩⟩; show CW _ _ _ _ [(8, _), (3, _), (6, _), (7, _)] _; have D := (Evo.refl [] w).then E; refine csr (aC (cE rfl rfl) ?_); refine wnn (aL (bP rfl (fun F => ?_) (fun F => ?_)))
  ·have hk' : k < 2 := by omega
   obtain ⟨gO, hgO, haO, hcO⟩ := h.cells (by omega)
   have hcO := (hcO.evo D (by simp)) k _ (show ([iv3 x, iv3 y] : List Value)[k]? = some (iv3 (if k = 0 then x else y)) by rcases (show k = 0 ∨ k = 1 by omega) with rfl | rfl <;> rfl)
   refine aR (aB (aL (aZ (csr ?_))))
   refine aC (cS (n := k) (by rw [haO]; rfl) rfl fI (by omega)) ?_
   refine aC (aF rfl gQ (by rw [Nat.mul_one]; exact hcO)) ?_
   refine wan (csr (aD (aD (aC (eO rfl rfl) ?_)))); refine wnn (bP rfl (fun A => ?_) (fun A => ?_))
   ·refine csr (aD (wan (aS (bA (aI (aI (bA (aI (br1 ?_))))))))); refine ⟨?_, D⟩
    rcases (show k = 0 ∨ k = 1 by omega) with rfl | rfl
    · simp only [if_true] at A ⊢; rw [if_pos A]
    · have hx0 := hx (by omega); rw [if_neg (by decide), if_neg (fun h9 => h9 hx0)]
   refine aR (bC (aB (aQ ?_))); refine aC (aT rfl rfl (by omega) (by omega)) ?_; refine aD (aE (aM ?_)); refine ⟨k + 1, ?_, ⟨rfl, trivial⟩, ⟨rfl, rfl, rfl, trivial⟩, E, ?_⟩
   · omega
   have h9 : (if k = 0 then x else y) = 0 := (by simpa using A)
   rcases (show k = 0 ∨ k = 1 by omega) with rfl | rfl
   · exact ⟨by omega, fun e => by omega, fun _ => h9⟩
   · exact ⟨by omega, fun _ => h9, fun _ => hx (by omega)⟩
  refine bJ (bD (bD (bI (aB ?_)))); refine csr (aD (wan (aS (br1 ?_)))); have hx0 := hx (by omega); have hy0 := hy (by omega); exact ⟨by rw [if_neg (fun h9 => h9 hx0), hy0], D⟩
theorem bX : dV Tryz.prog 45 0 = some 0 := by kernel_rfl
theorem yN : dC Tryz.prog 30 := ⟨_, Tryz.func30, by kernel_rfl, by kernel_rfl⟩
theorem xZ : dC Tryz.prog 51 := ⟨_, Tryz.func51, by kernel_rfl, by kernel_rfl⟩
theorem xX : dC Tryz.prog 53 := ⟨_, Tryz.func53, by kernel_rfl, by kernel_rfl⟩
theorem pD : dC Tryz.prog 54 := ⟨_, Tryz.func54, by kernel_rfl, by kernel_rfl⟩
theorem nY {a b : List LB} {k : Nat} (h : k < a.length) (h2 : k < b.length) : dI (a.drop k) (b.drop k) = if kA a[k] b[k] ≠ 0 then kA a[k] b[k] else dI (a.drop (k + 1)) (b.drop (k + 1)) := by
  rw [List.drop_eq_getElem_cons h, List.drop_eq_getElem_cons h2]; rfl
theorem tC {a b : List LB} {k : Nat} (h : k < a.length) (h2 : b.length ≤ k) : dI (a.drop k) (b.drop k) = 1 := by
  rw [List.drop_eq_getElem_cons h, List.drop_eq_nil_of_le h2]; rfl
theorem rB {a b : List LB} {k : Nat} (h : a.length ≤ k) (h2 : k < b.length) : dI (a.drop k) (b.drop k) = -1 := by
  rw [List.drop_eq_nil_of_le h, List.drop_eq_getElem_cons h2]; rfl
theorem tD {a b : List LB} {k : Nat} (h : a.length ≤ k) (h2 : b.length ≤ k) : dI (a.drop k) (b.drop k) = 0 := by
  rw [List.drop_eq_nil_of_le h, List.drop_eq_nil_of_le h2]; rfl
theorem cmpL_ok {w : World} (x y : LB) : Calls Tryz.prog 52 #[.agg #[.string x.1, .string x.2], .agg #[.string y.1, .string y.2]] w (Ret fun r w' => r = iv3 (kA x y) ∧ Evo [] w w') := by
  refine aU (N := 17) Tryz.func52 rfl rfl rfl ?_; refine csr (dZ rfl rfl fun bx w1 U V W => ?_); have Y := V; refine dZ rfl rfl fun bb w7 M a0 I => ?_; have a1 := a0; refine wan (aL ?_); refine eG (fun w0 w' => Evo [] w0 w') (by kernel_rfl) (fun A D => ?_); have J := D.blk0 (I.blk0 U); refine aet 0 rfl (fun _ hS => aA rfl cD) (Evo.refl [] A) ?_; refine aet 1 rfl (fun _ hS => aF rfl bR (aK (hS.blk0 J) rfl)) (Evo.refl [] A) ?_; refine aet 2 rfl (fun _ hS => aA rfl cD) (Evo.refl [] A) ?_; refine aet 3 rfl (fun _ hS => aF rfl bR (aK (hS.blk0 (D.blk0 M)) rfl)) (Evo.refl [] A) ?_; refine aet 5 rfl (fun _ hS => aA rfl cT) (Evo.refl [] A) ?_; refine aet 6 rfl (fun _ hS => aF rfl bR (aK (hS.blk0 J) rfl)) (Evo.refl [] A) ?_; refine aet 7 rfl (fun _ hS => aA rfl cT) (Evo.refl [] A) ?_; refine aet 8 rfl (fun _ hS => aF rfl bR (aK (hS.blk0 (D.blk0 M)) rfl)) (Evo.refl [] A) ?_; refine aN [4] (by kernel_rfl) rfl ⟨?_, trivial⟩; refine aO rfl ?_
  refine aG (vs := [_, _]) pD rfl (GA x.1 y.1) rfl ?_; rintro _ a3 ⟨rfl, K⟩; have E := (Evo.refl [] A).then K; refine aE (aJ (.inl E) ?_); refine aN [9] (by kernel_rfl) rfl ⟨?_, trivial⟩; refine aO rfl ?_; refine aG (vs := [_, _]) pD rfl (GA x.2 y.2) rfl ?_; rintro _ a4 ⟨rfl, F⟩; refine aE (aJ (.inl (E.then F)) ?_); refine aN [10] (by kernel_rfl) rfl ⟨?_, trivial⟩; refine aO rfl ?_; refine cK (vs := [_, _]) rfl fY rfl rfl rfl rfl fun a5 a6 O a2 L => ?_; have G := (E.then F).then L; refine aE (aJ (.inl G) ?_); refine aN [11] (by kernel_rfl) rfl ⟨?_, trivial⟩; refine aO rfl ?_; refine aG (vs := [_]) xX rfl (or_ok2 (iX x.1 y.1) (iX x.2 y.2) O) rfl ?_; rintro _ a7 ⟨rfl, H⟩; refine aE (aJ (.inl (G.then H)) ?_); refine aet 12 rfl (fun _ hS => fB rfl) (G.then H) ?_; refine bN (by kernel_rfl) (aB ?_); refine aS (br1 ?_); exact ⟨rfl, ((((((((Evo.refl [] w).then W).then I).then D).then K).then F).then L).then H)⟩
theorem cmpF_ok {X Y : List Nat} {w : World} {v1 v2 : Value} {a b : List LB} (h1 : RSl 2 RLB X w v1 a) (h2 : RSl 2 RLB Y w v2 b) (hl1 : a.length ≤ 1000000000) (hl2 : b.length ≤ 1000000000) :
    Calls Tryz.prog 51 #[v1, v2, .func (.func 52) #[] #[]] w (Ret fun r w' => r = iv3 (dI a b) ∧ Evo [] w w') := by
  obtain ⟨a1, c1, rfl, hlc1, e1⟩ := h1; obtain ⟨a2, c2, rfl, hlc2, e2⟩ := h2; refine aU (N := 39) Tryz.func51 rfl rfl rfl ?_; refine csr (wan (aL (csr (aD (aC (aP rfl Tryz.underlying42 rfl) ?_))))); refine aD (wnn (aZ (cH (α := Nat) (0) (fun k => [(13, .int .i64 (k : Nat))]) [(0, _), (1, _), (2, _), (11, _), (12, _)] (fun k wr => Evo [] w wr ∧ (k ≤ a.length ∧ k ≤ b.length ∧ dI a b = dI (a.drop k) (b.drop k))) (fun k => a.length - k) ⟨rfl, trivial⟩ ⟨rfl, rfl, rfl, rfl, rfl, trivial⟩ ⟨Evo.refl _ _, ⟨Nat.zero_le _, Nat.zero_le _, rfl⟩⟩ ?_))); rintro k wr1 ⟨H, ⟨hk, hkb, hc⟩⟩; show CW _ _ _ _ [(13, _), (0, _), (1, _), (2, _), (11, _), (12, _)] _; have A := (Evo.refl [] w).then H; refine csr (aC (cE rfl rfl) ?_); refine wnn (aL (bP rfl (fun U => ?_) (fun U => ?_)))
  ·have hk1 : k < a.length := by omega
   obtain ⟨b1, o1, vs1, ha1, hb1, -, a4, rfl, hz1, hz2⟩ := e1 k hk1; refine aR (aB (aL (aZ (csr (aD ?_)))))
   refine aC (cS (n := k) (by rw [ha1]; rfl) rfl bZ (by omega)) ?_
   refine aC (dQ rfl eE cI (vs := [_, _]) rfl (a4.evo ((A).any X) hb1)) ?_; refine dE rfl fH fun b4 w5 a5 M O => ?_; refine cL ?_; refine bT rfl rfl cI a5 rfl rfl ⟨by first | rfl | assumption, by first | rfl | assumption, trivial⟩ fun a7 I J => ?_; have y := (A.then O).step J (Ge.new A M).mem1; have K := (H.then O).step J (Ge.new H M).mem1; refine wnn (aL (csr (aD (aD (aC (aP rfl Tryz.underlying42 rfl) ?_))))); refine aC (fF rfl rfl) ?_; refine wnn (bP rfl (fun V => ?_) (fun V => ?_))
   ·refine csr (wan (aS (aI (bA (aI (aI (bA (aI (br1 ?_))))))))); exact ⟨by rw [hc, tC hk1 (by omega)], y⟩
   have hk2 : k < b.length := by omega
   obtain ⟨b2, o2, vs2, ha2, hb2, -, a6, rfl, hz3, hz4⟩ := e2 k hk2; refine aR (aB (csr (aD (aD ?_))))
   refine aC (cS (n := k) (by rw [ha2]; rfl) rfl bZ (by omega)) ?_
   refine aC (dQ rfl eE cI (vs := [_, _]) rfl (a6.evo ((y).any Y) hb2)) ?_; refine dE rfl fH fun a8 a9 W D E => ?_; refine bT rfl rfl cI W rfl rfl ⟨by first | rfl | assumption, by first | rfl | assumption, trivial⟩ fun b5 a0 F => ?_; refine wnn (csr (aD (aC (cV rfl eE cI (F.blk (E.blk0 I) (Apart.new (Lt.blk I) D).nmem1) rfl) (aC (cV rfl eE cI a0 rfl) (GI (vs := [_, _]) xY rfl rfl (cmpL_ok a[k] b[k]) rfl ?_))))); rintro _ b6 ⟨rfl, L⟩; refine wan (csr (aD (aC (eO rfl rfl) ?_))); refine wnn (bP rfl (fun G => ?_) (fun G => ?_))
   ·refine csr (aD (wan (aS (bA (aI (aI (bA (aI (br1 ?_))))))))); exact ⟨by rw [hc, nY hk1 hk2, if_pos G], (((y.then E).step F (Ge.new y D).mem1).then L)⟩
   refine aR (bC (aB (aQ ?_))); refine aC (aT rfl rfl (by omega) (by omega)) ?_; refine aD (aE (aM ?_)); refine ⟨k + 1, ?_, ⟨rfl, trivial⟩, ⟨rfl, rfl, rfl, rfl, rfl, trivial⟩, (((K.then E).step F (Ge.new K D).mem1).then L), ?_⟩
   · omega
   exact ⟨by omega, by omega, by rw [hc, nY hk1 hk2, if_neg (fun h9 => h9 (Classical.not_not.1 G))]⟩
  refine bJ (bD (bD (bI (aB ?_)))); refine aL (csr (aD (aC (aP rfl Tryz.underlying42 rfl) ?_))); refine aD (aC (aP rfl Tryz.underlying42 rfl) ?_); refine aC (cE rfl rfl) ?_; refine wnn (bP rfl (fun a3 => ?_) (fun a3 => ?_))
  ·refine csr (wan (aS (aI (br1 ?_)))); exact ⟨by rw [hc, rB (by omega) (by omega)], A⟩
  refine aR (aB (csr (wan (aS (br1 ?_))))); exact ⟨by rw [hc, tD (by omega) (by omega)], A⟩
theorem BF {X Y : List Nat} {w : World} {v1 v2 : Value} {a b : List LB} (h1 : RSl 2 RLB X w v1 a) (h2 : RSl 2 RLB Y w v2 b) (hl1 : a.length ≤ 1000000000) (hl2 : b.length ≤ 1000000000) :
    Calls Tryz.prog 30 #[v1, v2] w (Ret fun r w' => r = iv3 (dI a b) ∧ Evo [] w w') := by
  refine aU (N := 8) Tryz.func30 rfl rfl rfl ?_; refine csr (wan (csr (aD (aD (aG (vs := [_, _, _]) xZ rfl (cmpF_ok h1 h2 hl1 hl2) rfl ?_))))); rintro _ w1 ⟨rfl, y⟩; refine wan (aS (br1 ?_)); exact ⟨rfl, ((Evo.refl [] w).then y)⟩
theorem IH {X Y : List Nat} {w : World} {v1 v2 p1 p2 : Value} {a b : List LB} (h1 : RSl 2 RLB X w v1 a) (h2 : RSl 2 RLB Y w v2 b) (hl1 : a.length ≤ 1000000000) (hl2 : b.length ≤ 1000000000) :
    Calls Tryz.prog 29 #[.agg #[v1, p1], .agg #[v2, p2]] w (Ret fun r w' => r = iv3 (dI a b) ∧ Evo [] w w') := by
  refine aU (N := 10) Tryz.func29 rfl rfl rfl ?_; refine csr (dZ rfl rfl fun bx w1 E F G => ?_); have H := F; refine dZ rfl rfl fun bb w7 I J A => ?_; have K := J; have y := ((Evo.refl [] w).then G).then A; refine wan (csr (wfl rfl bX rfl cG (A.blk0 E) rfl (wfl rfl bX rfl cG I rfl (aG (vs := [_, _]) yN rfl (BF (RSl.evo RLB.pers ((y).any X) h1) (RSl.evo RLB.pers ((y).any Y) h2) hl1 hl2) rfl ?_)))); rintro _ L ⟨rfl, D⟩; refine wan (aS (br1 ?_)); exact ⟨rfl, (y.then D)⟩
theorem wS {w w' : World} (h : Evo [] w w') : ∃ q os, w' = Go.Sort.grow (w.drewN q) os := by
  refine ⟨w'.drawn - w.drawn, w'.heap.extract w.heap.size w'.heap.size, ?_⟩
  have h1 := h.os; have h2 := h.tape; have h3 := h.output; have h4 := h.drawn; have h5 := h.size; have h6 := h.block
  have hh : w'.heap = w.heap ++ w'.heap.extract w.heap.size w'.heap.size := by
    apply Array.ext'
    apply List.ext_getElem?
    intro k
    simp only [Array.getElem?_toList]
    by_cases hk : k < w.heap.size
    · rw [Array.getElem?_append_left hk]; exact h6 k hk (by simp)
    · rw [Array.getElem?_append_right (by omega), Array.getElem?_extract]
      by_cases hk2 : k < w'.heap.size
      · rw [if_pos (by omega)]; congr 1; omega
      · rw [if_neg (by omega), Array.getElem?_eq_none (by omega)]
  cases w; cases w'
  simp only [Go.Sort.grow, World.drewN] at *
  subst h1 h2 h3
  congr 1
  omega
end Go.Proofs.YtlpdhbmhbjjnhaaGreatDoor
namespace Go.Proofs.YtlpdhbmhbjjnhaaGreatDoor
open Go.Shelf
def qF : Go.Shelf.Ren := ⟨fun | 6 => 28 | 15 => 50 | 14 => 49 | 28 => 79 | 29 => 80 | 20 => 71 | 21 => 72 | 22 => 73 | 23 => 74 | 24 => 75 | 25 => 76 | 26 => 77 | 27 => 78 | 46 => 95 | 47 => 96 | 48 => 97 | 49 => 98 | 50 => 99 | 57 => 116 | n => n, fun | 22 => 24 | 24 => 45 | 25 => 81 | 3 => 3 | 39 => 105 | 0 => 0 | 53 => 71 | 55 => 95 | 4 => 4 | 46 => 132 | 45 => 131 | 50 => 65 | 5 => 5 | 9 => 9 | 66 => 151 | 70 => 155 | 76 => 172 | 77 => 29 | n => n, fun | n => n⟩
theorem oW : Go.Proofs.SlLaysF0.n6 Tryz.prog qF := {
  mixed := by kernel_rfl
  f6 := ⟨Tryz.f28.name, by decide, Tryz.func28.trans (congrArg some (by kernel_rfl))⟩
  f14 := ⟨Tryz.f49.name, by decide, Tryz.func49.trans (congrArg some (by kernel_rfl))⟩
  f15 := Tryz.func50.trans (congrArg some (by kernel_rfl))
  f20 := ⟨Tryz.f71.name, by decide, Tryz.func71.trans (congrArg some (by kernel_rfl))⟩
  f21 := ⟨Tryz.f72.name, by decide, Tryz.func72.trans (congrArg some (by kernel_rfl))⟩
  f22 := ⟨Tryz.f73.name, by decide, Tryz.func73.trans (congrArg some (by kernel_rfl))⟩
  f23 := ⟨Tryz.f74.name, by decide, Tryz.func74.trans (congrArg some (by kernel_rfl))⟩
  f24 := ⟨Tryz.f75.name, by decide, Tryz.func75.trans (congrArg some (by kernel_rfl))⟩
  f25 := ⟨Tryz.f76.name, by decide, Tryz.func76.trans (congrArg some (by kernel_rfl))⟩
  f26 := ⟨Tryz.f77.name, by decide, Tryz.func77.trans (congrArg some (by kernel_rfl))⟩
  f27 := ⟨Tryz.f78.name, by decide, Tryz.func78.trans (congrArg some (by kernel_rfl))⟩
  f28 := Tryz.func79.trans (congrArg some (by kernel_rfl))
  f29 := Tryz.func80.trans (congrArg some (by kernel_rfl))
  f46 := ⟨Tryz.f95.name, by decide, Tryz.func95.trans (congrArg some (by kernel_rfl))⟩
  f47 := Tryz.func96.trans (congrArg some (by kernel_rfl))
  f48 := Tryz.func97.trans (congrArg some (by kernel_rfl))
  f49 := ⟨Tryz.f98.name, by decide, Tryz.func98.trans (congrArg some (by kernel_rfl))⟩
  f50 := ⟨Tryz.f99.name, by decide, Tryz.func99.trans (congrArg some (by kernel_rfl))⟩
  f57 := ⟨Tryz.f116.name, by decide, Tryz.func116.trans (congrArg some (by kernel_rfl))⟩
  t0 := Tryz.underlying0
  a0 := Tryz.isAgg0
  z0 := Tryz.sizeOf0
  v0 := Tryz.zeroValue0
  t3 := Tryz.underlying3
  a3 := Tryz.isAgg3
  z3 := Tryz.sizeOf3
  v3 := Tryz.zeroValue3
  t4 := Tryz.underlying4
  a4 := Tryz.isAgg4
  z4 := Tryz.sizeOf4
  v4 := Tryz.zeroValue4
  t5 := Tryz.underlying5
  a5 := Tryz.isAgg5
  z5 := Tryz.sizeOf5
  v5 := Tryz.zeroValue5
  t9 := Tryz.underlying9
  a9 := Tryz.isAgg9
  z9 := Tryz.sizeOf9
  v9 := Tryz.zeroValue9
  t22 := Tryz.underlying24
  a22 := Tryz.isAgg24
  z22 := Tryz.sizeOf24
  v22 := Tryz.zeroValue24
  t25 := Tryz.underlying81
  a25 := Tryz.isAgg81
  z25 := Tryz.sizeOf81
  v25 := Tryz.zeroValue81
  t39 := Tryz.underlying105
  a39 := Tryz.isAgg105
  z39 := Tryz.sizeOf105
  v39 := Tryz.zeroValue105
  t45 := Tryz.underlying131
  a45 := Tryz.isAgg131
  z45 := Tryz.sizeOf131
  v45 := Tryz.zeroValue131
  t46 := Tryz.underlying132
  a46 := Tryz.isAgg132
  z46 := Tryz.sizeOf132
  v46 := Tryz.zeroValue132
  t50 := Tryz.underlying65
  a50 := Tryz.isAgg65
  z50 := Tryz.sizeOf65
  v50 := Tryz.zeroValue65
  t53 := Tryz.underlying71
  a53 := Tryz.isAgg71
  z53 := Tryz.sizeOf71
  v53 := Tryz.zeroValue71
  t55 := Tryz.underlying95
  a55 := Tryz.isAgg95
  z55 := Tryz.sizeOf95
  v55 := Tryz.zeroValue95
  t66 := Tryz.underlying151
  a66 := Tryz.isAgg151
  z66 := Tryz.sizeOf151
  v66 := Tryz.zeroValue151
  t70 := Tryz.underlying155
  a70 := Tryz.isAgg155
  z70 := Tryz.sizeOf155
  v70 := Tryz.zeroValue155
  t76 := Tryz.underlying172
  a76 := Tryz.isAgg172
  z76 := Tryz.sizeOf172
  v76 := Tryz.zeroValue172
  t77 := Tryz.underlying29
  a77 := Tryz.isAgg29
  z77 := Tryz.sizeOf29
  v77 := Tryz.zeroValue29 }
end Go.Proofs.YtlpdhbmhbjjnhaaGreatDoor
namespace Go.Proofs.YtlpdhbmhbjjnhaaGreatDoor
open Go.RowKit Go.W
attribute [local irreducible] Decidable.decide
open Go.Shelf Go.Lib Go.Sort in
section
variable {α : Type} [Inhabited α] (enc : α → List Value)
theorem vP (henc : ∀ x, (enc x).length = 2) (l : List α) : (l.flatMap enc).length = l.length * 2 := by
  induction l with
  | nil => rfl
  | cons x l ih => simp only [List.flatMap_cons, List.length_append, henc, ih, List.length_cons]; omega
theorem vQ (henc : ∀ x, (enc x).length = 2) : ∀ (l : List α) (k i : Nat) (hk : k < l.length) (hi : i < 2), (l.flatMap enc)[k * 2 + i]? = (enc l[k])[i]?
  | [], k, i, hk, hi => by simp at hk
  | x :: l, 0, i, hk, hi => by
    rw [List.flatMap_cons, List.getElem?_append_left (by rw [henc]; omega)]; simp
  | x :: l, k + 1, i, hk, hi => by
    rw [List.flatMap_cons, List.getElem?_append_right (by rw [henc]; omega), henc, show (k + 1) * 2 + i - 2 = k * 2 + i by omega, vQ henc l k i (by simpa using hk) hi]; simp
theorem sZ (henc : ∀ x, (enc x).length = 2) (l : List α) : Sort.flatK enc 2 l.toArray = (l.flatMap enc).toArray := by
  have hlen := vP enc henc l
  apply Array.ext
  · simp [hlen]
  · intro t h1 h2
    have h3 : t < l.length * 2 := by simpa [hlen] using h2
    have h4 := Sort.get_flatK enc 2 l.toArray t (by simpa using h3)
    rw [getElem!_pos _ t h1] at h4
    rw [h4]
    have h5 : t / 2 < l.length := by omega
    have h6 : (l.toArray)[t / 2]! = l[t / 2] := by simp [h5]
    rw [h6]
    have h7 := vQ enc henc l (t / 2) (t % 2) h5 (by omega)
    rw [show t / 2 * 2 + t % 2 = t by omega] at h7
    have h8 : t % 2 < (enc l[t / 2]).length := by rw [henc]; omega
    rw [List.getElem?_eq_getElem (by rw [hlen]; exact h3), List.getElem?_eq_getElem h8] at h7
    rw [getElem!_pos (enc l[t / 2]) (t % 2) h8]
    exact (Option.some.inj h7).symm
end
theorem BB (w : World) (g n : Nat) (d : Array Value) (os : Array Obj) : Evo [g] w (Sort.grow (Sort.putRow id (Sort.ahead w n) g 0 d) os) := by
  refine ⟨rfl, rfl, rfl, ?_, fun b hb hx => ?_, ?_⟩
  · simp [Sort.grow, Sort.putRow, Sort.mapBlock, Sort.ahead]
  · have hne : g ≠ b := fun e => hx (by simp [e])
    simp only [Sort.grow, Sort.putRow, Sort.mapBlock, Sort.ahead]
    rw [Array.getElem?_append_left (by simpa using hb), Array.getElem?_modify, if_neg hne]
  · simp [Sort.grow, Sort.putRow, Sort.mapBlock, Sort.ahead]
theorem JN {w : World} {g : Nat} {cur : Array Value} {e : TypeId} (hb : w.heap[g]? = some (.cells cur e (0, 0))) (n : Nat) (d : Array Value) (os : Array Obj) :
    (Sort.grow (Sort.putRow id (Sort.ahead w n) g 0 d) os).heap[g]? = some (.cells (Sort.putCells id 0 d cur) e (0, 0)) := by
  have hlt := iJ hb
  simp only [Sort.grow, Sort.putRow, Sort.mapBlock, Sort.ahead]
  rw [Array.getElem?_append_left (by simpa using hlt), Array.getElem?_modify, if_pos rfl, hb]
  rfl
theorem sP (cur : Array Value) (ds : List Value) (hc : ds.length ≤ cur.size) : (Sort.putCells id 0 ds.toArray cur).toList.take ds.length = ds := by
  apply List.ext_getElem?
  intro k
  by_cases hk : k < ds.length
  · rw [List.getElem?_take, if_pos hk]
    simp only [Sort.putCells, Array.getElem?_toList, Array.getElem?_mapIdx, List.getElem?_map]
    have h1 : k < cur.size := by omega
    simp [h1, hk]
  · rw [List.getElem?_eq_none (by simp; omega), List.getElem?_eq_none (by omega)]
theorem HF {w : World} {e : TypeId} {g n c sz : Nat} {xs ds : List Value} (h : OwnS w e sz (some ⟨g, 0, none⟩) n c xs (some g)) (hd : ds.length = n * sz) (q : Nat) (os : Array Obj) :
    OwnS (Sort.grow (Sort.putRow id (Sort.ahead w q) g 0 ds.toArray) os) e sz (some ⟨g, 0, none⟩) n c ds (some g) := by
  refine ⟨hd, ?_⟩
  rcases h.2 with ⟨h1, _⟩ | ⟨g', cap, cur, hg, hv, hb, hn, hc, hs, ht⟩
  · cases h1
  · cases hg; cases hv
    have hle : n * sz ≤ c * sz := Nat.mul_le_mul_right sz hn
    refine .inr ⟨g, c, _, rfl, rfl, JN hb q ds.toArray os, hn, hc, by simpa [Sort.putCells] using hs, ?_⟩
    rw [← hd]
    exact sP cur ds (by omega)
theorem DF {α : Type} [Inhabited α] (enc : α → List Value) (henc : ∀ x, (enc x).length = 2) {w : World} {e : TypeId} {g n c : Nat} {l : List α} (h : OwnS w e 2 (some ⟨g, 0, none⟩) n c (l.flatMap enc) (some g)) : Sort.HoldsK enc 2 w g 0 l.toArray := fun j hj => by
  rw [sZ enc henc] at hj ⊢
  have hj' : j < (l.flatMap enc).length := by simpa using hj
  have hl := h.length
  rcases h.2 with ⟨h1, _⟩ | ⟨g', cap, cur, hg, hv, hb, hn, hc, hs, ht⟩
  · cases h1
  · cases hg; cases hv
    constructor
    · refine jS hb ?_
      have h1 : (cur.toList.take (n * 2))[j]? = some (l.flatMap enc)[j] := by rw [ht]; exact List.getElem?_eq_getElem hj'
      rw [List.getElem?_take, if_pos (by omega)] at h1
      rw [Nat.zero_add]
      simpa [hj', List.getElem?_eq_getElem hj'] using h1
    · simp [World.frozen?, hb]
structure SerD where
  lv : Value
  pv : Value
  ls : List LB
  ps : List Smp
def SerD.enc (x : SerD) : List Value := [x.lv, x.pv]
def SerD.Good (X : List Nat) (w : World) (x : SerD) : Prop := RSl 2 RLB X w x.lv x.ls ∧ x.ls.length ≤ 1000000000 ∧ x.lv.oneCell' = true ∧ x.pv.oneCell' = true
abbrev nZ (g : Nat) (w : World) := { x : SerD // x.Good [g] w }
instance (g : Nat) (w : World) : Inhabited (nZ g w) := ⟨⟨⟨.slice none 0 0, .slice none 0 0, [], []⟩, ⟨none, 0, rfl, by simp, fun k hk => by simp at hk⟩, by simp, rfl, rfl⟩⟩
def cmpG {g : Nat} {w : World} (x y : nZ g w) : Int := dI x.1.ls y.1.ls
theorem rV {g : Nat} {w : World} (x y : nZ g w) : Go.Proofs.ltOf cmpG x y = decide (dI x.1.ls y.1.ls < 0) := rfl
theorem JA (g : Nat) (w : World) : Sort.SWO (Go.Proofs.ltOf (cmpG (g := g) (w := w))) where
  irrefl x := by
    rw [rV, (ord_ls.zero _ _).2 rfl]; simp
  trans x y z h1 h2 := by
    rw [rV] at *
    exact decide_eq_true (ord_ls.trans _ _ _ (of_decide_eq_true h1) (of_decide_eq_true h2))
  ntrans x y z h1 h2 := by
    rw [rV] at *
    have h3 := of_decide_eq_false h1
    have h4 := of_decide_eq_false h2
    refine decide_eq_false fun h5 => ?_
    by_cases h6 : dI y.1.ls x.1.ls < 0
    · exact h4 (ord_ls.trans _ _ _ h6 h5)
    · rw [ord_ls.le h3 h6] at h5; exact h4 h5
theorem mJ {g : Nat} {w : World} : ∀ (m : List (nZ g w)), m.flatMap (fun x => SerD.enc x.1) = (m.map (·.1)).flatMap SerD.enc
  | [] => rfl
  | x :: m => by rw [List.flatMap_cons, List.map_cons, List.flatMap_cons, mJ m]
theorem CN {w : World} {a : Option Addr} {c : Nat} {l : List SerD} {ob : Option Nat} (hO : OwnS w 45 2 a l.length c (l.flatMap SerD.enc) ob) (hR : ∀ x, x ∈ l → x.Good ob.toList w) (hl : l.length ≤ 1000000) :
    Calls Tryz.prog 28 #[.slice a l.length c, .func (.func 29) #[] #[]] w (Ret fun v w' => v = .tuple #[] ∧ ∃ m : List SerD, m.Perm l ∧ (∀ i j (hij : i < j) (hj : j < m.length), ¬ dI m[j].ls m[i].ls < 0) ∧ OwnS w' 45 2 a l.length c (m.flatMap SerD.enc) ob ∧ Evo ob.toList w w') := by
  have hcase : (a = none ∧ l = [] ∧ c = 0 ∧ ob = none) ∨ ∃ g, a = some ⟨g, 0, none⟩ ∧ ob = some g := by
    rcases hO.2 with ⟨h1, h2, h3⟩ | ⟨g, cap, cur, hg, hv, _⟩
    · injection h1 with e1 e2 e3; exact .inl ⟨e1, List.length_eq_zero_iff.1 e2, e3, h3⟩
    · cases hv; exact .inr ⟨g, rfl, hg⟩
  rcases hcase with ⟨rfl, rfl, rfl, rfl⟩ | ⟨g, rfl, rfl⟩
  · refine (Go.Proofs.AnyF.slices_SortFunc_none { oW with } none 0 (.func (.func 29) #[] #[]) w).mono ?_
    rintro e w' ⟨rfl, rfl⟩
    exact ⟨_, rfl, rfl, [], .refl _, (fun i j hij hj => by cases hj), hO, Evo.refl _ _⟩
  · obtain ⟨lg, hlg⟩ : ∃ lg : List (nZ g w), lg.map (·.1) = l := ⟨l.attach.map (fun (x : { x // x ∈ l }) => (⟨x.val, hR x.val x.property⟩ : nZ g w)), by rw [List.map_map]; exact List.attach_map_subtype_val l⟩
    have henc : ∀ x : nZ g w, (SerD.enc x.1).length = 2 := fun _ => rfl
    have hlen : lg.length = l.length := by rw [← hlg, List.length_map]
    have A : OwnS w 45 2 (some ⟨g, 0, none⟩) l.length c (lg.flatMap fun x => SerD.enc x.1) (some g) := by rw [mJ, hlg]; exact hO
    have eg : ∀ args w, (callFunc 29 args).run Tryz.prog w = .ok (.enter 29 args) w := enters_of Tryz.func29 (by kernel_rfl) rfl
    have hH := DF (fun x : nZ g w => SerD.enc x.1) henc A
    have hcmp : Go.Proofs.CmpLays Tryz.prog 29 #[] (fun x : nZ g w => SerD.enc x.1) 2 cmpG g 0 lg.toArray.size w := fun q os dk hdk x y => by
      have hev := BB w g q (Sort.flatK (fun x : nZ g w => SerD.enc x.1) 2 dk) os
      refine (IH (p1 := x.1.pv) (p2 := y.1.pv) (RSl.evo RLB.pers hev x.2.1) (RSl.evo RLB.pers hev y.2.1) x.2.2.1 y.2.2.1).mono ?_
      rintro e w' ⟨v, rfl, rfl, hw⟩
      exact ⟨rfl, wS hw⟩
    have hcon := Go.Proofs.AnyQ.slices_SortFunc oW 2 Tryz.isAgg45 Tryz.sizeOf45 (fun x : nZ g w => SerD.enc x.1) henc (fun x v hv => by simp [SerD.enc] at hv; rcases hv with rfl | rfl; exact x.2.2.2.1; exact x.2.2.2.2) cmpG (JA g w) 29 #[] g 0 c lg.toArray w eg hcmp hH hO.lt (by simp; omega)
    rw [show lg.toArray.size = l.length by simp [hlen]] at hcon
    refine Calls.mono hcon ?_
    rintro e w' ⟨rfl, d', q, os, hp, hs, rfl⟩
    obtain ⟨h1, h2, h3⟩ := hp
    have hd1 : d'.size = l.length := by rw [h1]; simp [hlen]
    have hperm : d'.toList.Perm lg := by
      have e1 : d'.extract 0 l.length = d' := by rw [← hd1, Array.extract_size]
      have e2 : lg.toArray.extract 0 l.length = lg.toArray := by rw [← hlen, show lg.length = lg.toArray.size by simp, Array.extract_size]
      rw [e1, e2] at h3
      simpa using h3
    refine ⟨_, rfl, rfl, d'.toList.map (·.1), by rw [← hlg]; exact hperm.map _, fun i j hij hj => ?_, ?_, ?_⟩
    · have hjs : j < d'.size := by simpa using hj
      have h5 := hs i j (Nat.zero_le _) hij (by omega)
      rw [rV] at h5
      have h6 := of_decide_eq_false h5
      rw [getElem!_pos d' j hjs, getElem!_pos d' i (by omega)] at h6
      simpa using h6
    · have hfl : (d'.toList.flatMap fun x => SerD.enc x.1).length = l.length * 2 := by rw [vP (fun x : nZ g w => SerD.enc x.1) henc]; simp [hd1]
      have h8 := HF hO (ds := d'.toList.flatMap fun x => SerD.enc x.1) hfl q os
      have e3 := sZ (fun x : nZ g w => SerD.enc x.1) henc d'.toList
      rw [← mJ]
      show OwnS (Sort.grow (Sort.putRow id (Sort.ahead w q) g 0 (Sort.flatK (fun x : nZ g w => SerD.enc x.1) 2 d')) os) _ _ _ _ _ _ _
      rw [show Sort.flatK (fun x : nZ g w => SerD.enc x.1) 2 d' = (d'.toList.flatMap fun x => SerD.enc x.1).toArray from by simpa using e3]
      exact h8
    · exact BB w g q _ os
theorem eD : hD Tryz.prog 2 = some false := by kernel_rfl
theorem fT : hD Tryz.prog 50 = some true := by kernel_rfl
theorem uQ : jE Tryz.prog 101 = some 1 := by kernel_rfl
theorem eA : jE Tryz.prog 43 = some 3 := by kernel_rfl
theorem uN : dC Tryz.prog 114 := ⟨_, Tryz.func114, by kernel_rfl, by kernel_rfl⟩
theorem xM : dC Tryz.prog 93 := ⟨_, Tryz.func93, by kernel_rfl, by kernel_rfl⟩
theorem dD : eS Tryz.prog 50 = some 3 := by kernel_rfl
def iV : List LB → ByteArray → ByteArray
  | [], _ => ByteArray.mk #[]
  | l :: r, n => if l.1 = n then l.2 else iV r n
theorem FK {ls : List LB} {n : ByteArray} : ∀ {k : Nat} (hk : k < ls.length), ls[k].1 = n → (∀ j (hj : j < ls.length), j < k → ¬ ls[j].1 = n) → iV ls n = ls[k].2 := by
  induction ls with
  | nil => intro k hk; simp at hk
  | cons l r ih =>
    intro k hk h1 h2
    cases k with
    | zero => simp only [List.getElem_cons_zero] at h1 ⊢; simp only [iV, if_pos h1]
    | succ k =>
      have h3 := h2 0 (by simp) (by omega)
      simp only [List.getElem_cons_zero] at h3
      simp only [iV, if_neg h3, List.getElem_cons_succ] at h1 ⊢
      exact ih (by simpa using hk) h1 (fun j hj hjk => by have := h2 (j + 1) (by simpa using hj) (by omega); simpa using this)
theorem FL {ls : List LB} {n : ByteArray} (h : ∀ j (hj : j < ls.length), ¬ ls[j].1 = n) : iV ls n = ByteArray.mk #[] := by
  induction ls with
  | nil => rfl
  | cons l r ih =>
    have h3 := h 0 (by simp)
    simp only [List.getElem_cons_zero] at h3
    simp only [iV, if_neg h3]
    exact ih (fun j hj => by have := h (j + 1) (by simpa using hj); simpa using this)
theorem getL_ok {X : List Nat} {w : World} {v : Value} {ls : List LB} (hs : RSl 2 RLB X w v ls) (hl : ls.length ≤ 1000000000) (n : ByteArray) : Calls Tryz.prog 46 #[v, .string n] w (Ret fun r w' => r = .string (iV ls n) ∧ Evo [] w w') := by
  obtain ⟨sa, sc, rfl, hlc, e1⟩ := hs; refine aU (N := 20) Tryz.func46 rfl rfl rfl ?_; refine csr (wan (aL (csr (aD (aC (aP rfl Tryz.underlying42 rfl) ?_))))); refine aD (wnn (aZ ?_)); refine cH (α := Nat) (0) (fun k => [(9, .int .i64 (k : Nat))]) [(1, _), (7, _), (8, _)] (fun k wr => Evo [] w wr ∧ (k ≤ ls.length ∧ ∀ j (h : j < ls.length), j < k → ¬ ls[j].1 = n)) (fun k => ls.length - k) ⟨rfl, trivial⟩ ⟨rfl, rfl, rfl, trivial⟩ ⟨Evo.refl _ _, ⟨Nat.zero_le _, fun j _ h => by omega⟩⟩ ?_; rintro k wr1 ⟨D, ⟨hk, hno⟩⟩; show CW _ _ _ _ [(9, _), (1, _), (7, _), (8, _)] _; have A := (Evo.refl [] w).then D; refine csr (aC (cE rfl rfl) ?_); refine wnn (aL (bP rfl (fun I => ?_) (fun I => ?_)))
  ·have hk' : k < ls.length := by omega
   obtain ⟨b1, o1, vs1, ha1, hb1, -, J, rfl, hz1, hz2⟩ := e1 k hk'; refine aR (aB (aL (aZ (csr ?_))))
   refine aC (cS (n := k) (by rw [ha1]; rfl) rfl bZ (by omega)) ?_
   refine aC (dQ rfl eE cI (vs := [_, _]) rfl (J.evo ((A).any X) hb1)) ?_; refine dE rfl fH fun b4 w5 K G H => ?_; refine bT rfl rfl cI K rfl rfl ⟨by first | rfl | assumption, by first | rfl | assumption, trivial⟩ fun L E F => ?_; refine wnn (csr (wfl rfl cD rfl bR E rfl (aD (aC (nW rfl rfl) ?_)))); refine wnn (bP rfl (fun y => ?_) (fun y => ?_))
   ·refine csr (wfl rfl cT rfl bR E rfl (wan (aS (bA (aI (aI (bA (aI (br1 ?_))))))))); exact ⟨by rw [FK hk' y (fun j hj h => hno j hj h)], ((A.then H).step F (Ge.new A G).mem1)⟩
   refine aR (bC (aB (aQ ?_))); refine aC (aT rfl rfl (by omega) (by omega)) ?_; refine aD (aE (aM ?_)); refine ⟨k + 1, ?_, ⟨rfl, trivial⟩, ⟨rfl, rfl, rfl, trivial⟩, ((D.then H).step F (Ge.new D G).mem1), ?_⟩
   · omega
   exact ⟨by omega, fun j hj h => by by_cases e : j = k; (subst e; exact y); exact hno j hj (by omega)⟩
  refine bJ (bD (bD (bI (aB ?_)))); refine csr (wan (aS (br1 ?_))); exact ⟨by rw [FL (fun j hj => hno j hj (by omega))], A⟩
def AK (c : Nat) : Prop := nE c ∨ c = 58
instance (c : Nat) : Decidable (AK c) := by unfold AK; infer_instance
def MA (s : ByteArray) (k : Nat) : Prop := k ≤ s.size ∧ (∀ j, j < k → AK (sb s j)) ∧ (k < s.size → ¬ AK (sb s k))
def eV (s : ByteArray) : Prop := 0 < s.size ∧ ¬ (48 ≤ sb s 0 ∧ sb s 0 ≤ 57) ∧ ∀ j, j < s.size → AK (sb s j)
instance (s : ByteArray) : Decidable (eV s) := by unfold eV; infer_instance
theorem wO {s : ByteArray} {k : Nat} (h : MA s k) : (k = s.size ↔ ∀ j, j < s.size → AK (sb s j)) := by
  constructor
  · rintro rfl; exact h.2.1
  · intro ha
    by_cases hk : k < s.size
    · exact absurd (ha k hk) (h.2.2 hk)
    · have := h.1; omega
theorem HQ {w : World} (s : ByteArray) (hl : s.size ≤ 140737488355328) : Calls Tryz.prog 68 #[.string s, .int .i64 (0 : Nat), .bool true] w (Ret fun v w' => ∃ k : Nat, v = .int .i64 k ∧ MA s k ∧ Evo [] w w') := by
  refine aU (N := 35) Tryz.func68 rfl rfl rfl ?_; refine csr (wan (aL (aZ ?_))); refine cH (α := Nat) (0) (fun k => [(1, .int .i64 (k : Nat))]) [(0, _), (2, _), (6, _)] (fun k wr => Evo [] w wr ∧ (k ≤ s.size ∧ ∀ j, j < k → AK (sb s j))) (fun k => s.size - k) ⟨rfl, trivial⟩ ⟨rfl, rfl, rfl, trivial⟩ ⟨Evo.refl _ _, ⟨Nat.zero_le _, fun j h => by omega⟩⟩ ?_; rintro k wr1 ⟨D, ⟨hk, hn⟩⟩; show CW _ _ _ _ [(1, _), (0, _), (2, _), (6, _)] _; have G := (Evo.refl [] w).then D; refine aL (csr (aD (aD (aC (dW rfl Tryz.underlying9 rfl) ?_)))); refine aC (cE rfl rfl) ?_; refine aD (bQ (t := 11) rfl (fun I => ?_) (fun I => ?_))
  ·refine aW (aD (aW (aD (aW ?_)))); refine aC (gG (n := k) rfl rfl Tryz.underlying9 rfl (by omega)) ?_; refine aW (aG (vs := [_]) lO rfl (pV (sb s k)) rfl ?_); rintro _ w4 ⟨rfl, E⟩; refine aW (aD (bQ (t := 16) rfl (fun y => ?_) (fun y => ?_)))
   ·refine bB (bB (bB (bB (aW (cF (aW (aD (bB (bB (dY ?_)))))))))); refine dY ?_; refine dY ?_; refine dY ?_; refine bB (aW (cF (cF (wnn (eX rfl ?_))))); refine aR (aB (aZ (aQ (aD ?_)))); refine aC (aT rfl rfl (by omega) (by omega)) ?_; refine cL (aE (bC (aM ?_))); refine ⟨k + 1, ?_, ⟨rfl, trivial⟩, ⟨rfl, rfl, rfl, trivial⟩, (D.then E), ?_⟩
    · omega
    refine ⟨by omega, fun j hj => ?_⟩
    by_cases e : j < k
    · exact hn j e
    · obtain rfl : j = k := by omega
      first | exact .inl (.inl y) | exact .inl (.inr A) | exact .inl (.inl (by assumption)) | exact .inl (.inr (by assumption)) | exact .inr (by omega)
   refine aW (aD (aW (aD (aW ?_)))); refine aC (gG (n := k) rfl rfl Tryz.underlying9 rfl (by omega)) ?_; refine aW (aG (vs := [_]) lP rfl (tB (sb s k)) rfl ?_); rintro _ w8 ⟨rfl, H⟩; have F := (D.then E).then H; refine aW (bY (aW (aD (bQ (t := 22) rfl (fun A => ?_) (fun A => ?_)))))
   ·refine bB (bB (dY ?_)); refine dY ?_; refine dY ?_; refine dY ?_; refine bB (aW (cF (cF (wnn (eX rfl ?_))))); refine aR (aB (aZ (aQ (aD ?_)))); refine aC (aT rfl rfl (by omega) (by omega)) ?_; refine cL (aE (bC (aM ?_))); refine ⟨k + 1, ?_, ⟨rfl, trivial⟩, ⟨rfl, rfl, rfl, trivial⟩, F, ?_⟩
    · omega
    refine ⟨by omega, fun j hj => ?_⟩
    by_cases e : j < k
    · exact hn j e
    · obtain rfl : j = k := by omega
      first | exact .inl (.inl y) | exact .inl (.inr A) | exact .inl (.inl (by assumption)) | exact .inl (.inr (by assumption)) | exact .inr (by omega)
   refine aW (aD (aW (aD (aW (aD (aW (aD (aW ?_)))))))); refine aC (gG (n := k) rfl rfl Tryz.underlying9 rfl (by omega)) ?_; refine aW (wel ?_); refine aW (cF (aW (bY (cF (wnn (bP rfl (fun J => ?_) (fun J => ?_)))))))
   ·refine aR (aB (aZ (aQ (aD ?_)))); refine aC (aT rfl rfl (by omega) (by omega)) ?_; refine cL (aE (bC (aM ?_))); refine ⟨k + 1, ?_, ⟨rfl, trivial⟩, ⟨rfl, rfl, rfl, trivial⟩, F, ?_⟩
    · omega
    refine ⟨by omega, fun j hj => ?_⟩
    by_cases e : j < k
    · exact hn j e
    · obtain rfl : j = k := by omega
      first | exact .inl (.inl y) | exact .inl (.inr A) | exact .inl (.inl (by assumption)) | exact .inl (.inr (by assumption)) | exact .inr (by omega)
   refine bJ (bD (bD (bI (aB ?_)))); refine csr (aD (wan (aS (br1 ?_)))); refine ⟨k, rfl, ⟨hk, hn, fun h hx => ?_⟩, ((G.then E).then H)⟩
   first | omega | (rcases hx with (hx | hx) | hx <;> first | contradiction | omega)
  refine bB (bB (bB (bB (bB (dY ?_))))); refine dY ?_; refine dY ?_; refine dY ?_; refine bB (bB (dY ?_)); refine dY ?_; refine dY ?_; refine dY ?_; refine dY ?_; refine dY ?_; refine dY ?_; refine bB (bY (wnn (cY rfl ?_))); refine bJ (bD (bD (bI (aB ?_)))); refine csr (aD (wan (aS (br1 ?_)))); refine ⟨k, rfl, ⟨hk, hn, fun h hx => ?_⟩, G⟩
  first | omega | (rcases hx with (hx | hx) | hx <;> first | contradiction | omega)
theorem AP {w : World} (s : ByteArray) (hl : s.size ≤ 140737488355328) : Calls Tryz.prog 47 #[.string s] w (Ret fun v w' => v = .bool (decide (eV s)) ∧ Evo [] w w') := by
  refine aU (N := 18) Tryz.func47 rfl rfl rfl ?_; refine csr (wan (csr (aD (aC (iP rfl rfl) ?_)))); refine aD (bQ (t := 5) rfl (fun y => ?_) (fun y => ?_))
  ·refine aW (aD (aW ?_))
   refine aC (gG (n := 0) rfl rfl Tryz.underlying9 rfl (by have := lU y; omega)) ?_
   refine aW (aG (vs := [_]) lP rfl (tB (sb s 0)) rfl ?_); rintro _ w1 ⟨rfl, E⟩; have A := (Evo.refl [] w).then E; refine aW (aC (lK rfl) ?_); refine cF (aD (bQ (t := 11) rfl (fun D => ?_) (fun D => ?_)))
   ·refine aW (aD (aW (aG (vs := [_, _, _]) oZ rfl (HQ s hl) rfl ?_))); rintro _ w4 ⟨k, rfl, hk, F⟩; refine aW (aD (aW (aC (dW rfl Tryz.underlying9 rfl) ?_))); refine aW (wel ?_); refine cF (wan (aS (br1 ?_))); refine ⟨congrArg Value.bool (Bool.eq_iff_iff.2 ?_), (A.then F)⟩; simp only [decide_eq_true_eq, Bool.false_eq_true, Bool.true_eq_false, true_iff, false_iff, eq_self, iff_true]; unfold eV
    first
      | (have h0 := lU y; have h1 := wO hk; constructor; exact fun h => ⟨h0, by assumption, h1.1 (by omega)⟩; exact fun h => by have := h1.2 h.2.2; omega)
      | exact fun h => absurd h.2.1 (by assumption)
      | exact fun h => h.2.1 (by omega)
      | exact fun h => absurd h.1 (by have := mP y; omega)
   refine bB (bB (bB (bB (bB (bY (wan (aS (br1 ?_)))))))); refine ⟨congrArg Value.bool (Bool.eq_iff_iff.2 ?_), A⟩; simp only [decide_eq_true_eq, Bool.false_eq_true, Bool.true_eq_false, true_iff, false_iff, eq_self, iff_true]; unfold eV
   first
     | (have h0 := lU y; have h1 := wO hk; constructor; exact fun h => ⟨h0, by assumption, h1.1 (by omega)⟩; exact fun h => by have := h1.2 h.2.2; omega)
     | exact fun h => absurd h.2.1 (by assumption)
     | exact fun h => h.2.1 (by omega)
     | exact fun h => absurd h.1 (by have := mP y; omega)
  refine bB (bB (bB (bB (bY (aD (bB (bB (bB (bB (bB (bY (wan (aS (br1 ?_)))))))))))))); refine ⟨congrArg Value.bool (Bool.eq_iff_iff.2 ?_), (Evo.refl [] w)⟩; simp only [decide_eq_true_eq, Bool.false_eq_true, Bool.true_eq_false, true_iff, false_iff, eq_self, iff_true]; unfold eV
  first
    | (have h0 := lU y; have h1 := wO hk; constructor; exact fun h => ⟨h0, by assumption, h1.1 (by omega)⟩; exact fun h => by have := h1.2 h.2.2; omega)
    | exact fun h => absurd h.2.1 (by assumption)
    | exact fun h => h.2.1 (by omega)
    | exact fun h => absurd h.1 (by have := mP y; omega)
theorem HV {X : List Nat} {w : World} {v : Value} {l : List ByteArray} (hs : RSl 1 RStr X w v l) (hl : l.length ≤ 1000000000) (x : ByteArray) : Calls Tryz.prog 114 #[v, .string x] w (Ret fun r w' => ∃ i : Int, r = iv3 i ∧ (0 ≤ i ↔ x ∈ l) ∧ Evo [] w w') := by
  obtain ⟨sa, sc, rfl, hlc, e1⟩ := hs; refine aU (N := 19) Tryz.func114 rfl rfl rfl ?_; refine csr (wan (aL (csr (aD (aC (aP rfl Tryz.underlying101 rfl) ?_))))); refine aD (wnn (aZ ?_)); refine cH (α := Nat) (0) (fun k => [(8, .int .i64 (k : Nat))]) [(0, _), (1, _), (7, _)] (fun k wr => Evo [] w wr ∧ (k ≤ l.length ∧ ∀ j (h : j < l.length), j < k → ¬ x = l[j])) (fun k => l.length - k) ⟨rfl, trivial⟩ ⟨rfl, rfl, rfl, trivial⟩ ⟨Evo.refl _ _, ⟨Nat.zero_le _, fun j _ h => by omega⟩⟩ ?_; rintro k wr1 ⟨D, ⟨hk, hno⟩⟩; show CW _ _ _ _ [(8, _), (0, _), (1, _), (7, _)] _; have A := (Evo.refl [] w).then D; refine csr (aC (cE rfl rfl) ?_); refine wnn (aL (bP rfl (fun E => ?_) (fun E => ?_)))
  ·have hk' : k < l.length := by omega
   obtain ⟨b1, o1, vs1, ha1, hb1, -, F, hz1⟩ := e1 k hk'; cases hz1; refine aR (aB (aL (aZ (csr (aD (wan (csr (aD (aD (aD ?_))))))))))
   refine aC (cS (n := k) (by rw [ha1]; rfl) rfl uQ (by omega)) ?_
   refine aC (aF rfl bR ((F.evo ((A).any X) hb1) 0 _ rfl)) (aC (nW rfl rfl) ?_); refine wnn (bP rfl (fun y => ?_) (fun y => ?_))
   ·refine csr (aD (wan (aS (bA (aI (aI (bA (aI (br1 ?_))))))))); exact ⟨k, rfl, ⟨fun _ => y ▸ List.getElem_mem hk', fun _ => by omega⟩, A⟩
   refine aR (bC (aB (aQ ?_))); refine aC (aT rfl rfl (by omega) (by omega)) ?_; refine aD (aE (aM ?_)); refine ⟨k + 1, ?_, ⟨rfl, trivial⟩, ⟨rfl, rfl, rfl, trivial⟩, D, ?_⟩
   · omega
   exact ⟨by omega, fun j hj h => by by_cases e : j = k; (subst e; exact y); exact hno j hj (by omega)⟩
  refine bJ (bD (bD (bI (aB ?_)))); refine csr (wan (aS (br1 ?_)))
  exact ⟨-1, rfl, ⟨fun h => by omega, fun h => by obtain ⟨j, hj, e⟩ := List.getElem_of_mem h; exact absurd e.symm (hno j hj (by omega))⟩, A⟩
theorem BE {X : List Nat} {w : World} {v : Value} {l : List ByteArray} (hs : RSl 1 RStr X w v l) (hl : l.length ≤ 1000000000) (x : ByteArray) : Calls Tryz.prog 93 #[v, .string x] w (Ret fun r w' => ∃ b, r = .bool b ∧ (b = true ↔ x ∈ l) ∧ Evo [] w w') := by
  refine aU (N := 9) Tryz.func93 rfl rfl rfl ?_; refine csr (wan (csr (aD (aD (aG (vs := [_, _]) uN rfl (HV hs hl x) rfl ?_))))); rintro _ w1 ⟨i, rfl, hi, y⟩; refine aC (fF rfl rfl) ?_; refine wan (aS (br1 ?_))
  exact ⟨_, rfl, by rw [decide_eq_true_eq]; exact hi, ((Evo.refl [] w).then y)⟩
theorem JD {X : List Nat} {w : World} {v : Value} {l : List ByteArray} (hs : RSl 1 RStr X w v l) (hl : l.length ≤ 1000000000) (x : ByteArray) : Calls Tryz.prog 69 #[.string x, v, .bool false] w (Ret fun r w' => ∃ b, r = .bool b ∧ (b = true ↔ x ∈ l) ∧ Evo [] w w') := by
  refine aU (N := 20) Tryz.func69 rfl rfl rfl ?_; refine csr (wan (aL (csr (aD (aC (eI rfl) ?_))))); refine wnn (eX rfl ?_); refine csr (aD (aD (aG (vs := [_, _]) xM rfl (BE (RSl.evo RStr.pers (((Evo.refl [] w)).any X) hs) hl x) rfl ?_))); rintro _ w1 ⟨b, rfl, hb, y⟩; refine wan (aS (aI (br1 ?_))); exact ⟨b, rfl, hb, ((Evo.refl [] w).then y)⟩
theorem dG : dV Tryz.prog 50 0 = some 0 := by kernel_rfl
theorem yC : dC Tryz.prog 46 := ⟨_, Tryz.func46, by kernel_rfl, by kernel_rfl⟩
theorem yB : dC Tryz.prog 47 := ⟨_, Tryz.func47, by kernel_rfl, by kernel_rfl⟩
theorem jI : oA Tryz.prog 50 = some #[.int .i64 0, .float .f64 0, .bool false] := by kernel_rfl
def CV (l : List Smp) (i : Nat) (h : i < l.length) : Prop := (-62167219200000 ≤ l[i].t ∧ l[i].t ≤ 253402300799999) ∧ ∀ j (hj : j < l.length), i = j + 1 → l[j].t < l[i].t
def fU (l : List Smp) : Prop := ∀ i (h : i < l.length), CV l i h
def kX : ByteArray := ByteArray.mk #[95, 95, 110, 97, 109, 101, 95, 95]
open Classical in
noncomputable def eF (ls : List LB) : Int := if kY ls ∧ ls.length ≤ 32 then (if ∃ l, l ∈ ls ∧ (128 < l.1.size ∨ 512 < l.2.size) then 1 else if ¬ iV ls kX = ByteArray.mk #[] ∧ ¬ eV (iV ls kX) then 191 else 0) else 190
theorem sH {ls : List LB} (h : ¬ (kY ls ∧ ls.length ≤ 32)) : eF ls = 190 := by unfold eF; rw [if_neg h]
theorem zQ {ls : List LB} (h : kY ls ∧ ls.length ≤ 32) (h2 : ∃ l, l ∈ ls ∧ (128 < l.1.size ∨ 512 < l.2.size)) : eF ls = 1 := by unfold eF; rw [if_pos h, if_pos h2]
theorem sG {ls : List LB} (h : kY ls ∧ ls.length ≤ 32) (h2 : ¬ ∃ l, l ∈ ls ∧ (128 < l.1.size ∨ 512 < l.2.size)) (h3 : ¬ iV ls kX = ByteArray.mk #[] ∧ ¬ eV (iV ls kX)) : eF ls = 191 := by unfold eF; rw [if_pos h, if_neg h2, if_pos h3]
theorem oE {ls : List LB} (h : kY ls ∧ ls.length ≤ 32) (h2 : ¬ ∃ l, l ∈ ls ∧ (128 < l.1.size ∨ 512 < l.2.size)) (h3 : ¬ (¬ iV ls kX = ByteArray.mk #[] ∧ ¬ eV (iV ls kX))) : eF ls = 0 := by unfold eF; rw [if_pos h, if_neg h2, if_neg h3]
theorem vN {ls : List LB} {B : Nat} (h : ∀ l, l ∈ ls → l.2.size ≤ B) (n : ByteArray) : (iV ls n).size ≤ B := by
  induction ls with
  | nil => exact Nat.zero_le _
  | cons l r ih =>
    simp only [iV]
    split
    · exact h l (by simp)
    · exact ih (fun l hl => h l (by simp [hl]))
theorem zY {X : List Nat} {w : World} {v : Value} {l : List LB} (h : RSl 2 RLB X w v l) : ∀ m, m ∈ l → m.1.size ≤ 140737488355328 ∧ m.2.size ≤ 140737488355328 := fun m hm => by
  obtain ⟨a, c, _, _, e⟩ := h
  obtain ⟨k, hk, rfl⟩ := List.getElem_of_mem hm
  obtain ⟨_, _, _, _, _, _, _, h⟩ := e k hk
  exact h.2
theorem rise_ok {X : List Nat} {w : World} {v : Value} {l : List Smp} (hs : RSl 3 RSmp X w v l) (hl : l.length ≤ 1000000000) : Calls Tryz.prog 26 #[v] w (Ret fun r w' => ∃ b, r = .bool b ∧ (b = true ↔ fU l) ∧ Evo [] w w') := by
  obtain ⟨sa, sc, rfl, hlc, e1⟩ := hs; refine aU (N := 36) Tryz.func26 rfl rfl rfl ?_; refine csr (wan (aL (csr (aD (aC (aP rfl Tryz.underlying43 rfl) ?_))))); refine aD (wnn (aZ ?_)); refine cH (α := Nat) (0) (fun k => [(7, .int .i64 (k : Nat))]) [(0, _), (5, _), (6, _)] (fun k wr => Evo [] w wr ∧ (k ≤ l.length ∧ ∀ i (h : i < l.length), i < k → CV l i h)) (fun k => l.length - k) ⟨rfl, trivial⟩ ⟨rfl, rfl, rfl, trivial⟩ ⟨Evo.refl _ _, ⟨Nat.zero_le _, fun i _ h => by omega⟩⟩ ?_; rintro k wr1 ⟨H, ⟨hk, hok⟩⟩; show CW _ _ _ _ [(7, _), (0, _), (5, _), (6, _)] _; have G := (Evo.refl [] w).then H; refine csr (aC (cE rfl rfl) ?_); refine wnn (aL (bP rfl (fun W => ?_) (fun W => ?_)))
  ·have hk' : k < l.length := by omega
   obtain ⟨b1, o1, vs1, ha1, hb1, -, Y, rfl, hz1⟩ := e1 k hk'; obtain ⟨b2, o2, vs2, ha2, hb2, -, a0, rfl, hz2⟩ := e1 (k - 1) (by omega); refine aR (aB (aL (aZ (csr (aD ?_)))))
   refine aC (cS (n := k) (by rw [ha1]; rfl) rfl eA (by omega)) ?_
   refine aC (dQ rfl fT dD (vs := [_, _, _]) rfl (Y.evo ((G).any X) hb1)) ?_; refine dE rfl jI fun bp w4 a1 I L => ?_; have a2 := I; refine cL ?_; refine bT rfl rfl dD a1 rfl rfl ⟨by first | rfl | assumption, by first | rfl | assumption, by first | rfl | assumption, trivial⟩ fun a3 M J => ?_; refine wnn (aL ?_); refine eG (fun w0 w' => Evo [] w0 w') (by kernel_rfl) (fun y D => ?_); have A := ((G.then L).step J (Ge.new G I).mem1).then D; have K := ((H.then L).step J (Ge.new H I).mem1).then D; have E := D.blk0 M; refine aet 0 rfl (fun _ hS => aA rfl dG) (Evo.refl [] y) ?_; refine aet 1 rfl (fun _ hS => aF rfl eD (aK (hS.blk0 E) rfl)) (Evo.refl [] y) ?_; refine aet 2 rfl (fun _ hS => cE rfl rfl) (Evo.refl [] y) ?_; refine aet 3 rfl (fun _ hS => aV rfl) (Evo.refl [] y) ?_; refine iZ (t := 15) rfl (fun O => ?_) (fun O => ?_)
   ·refine dF 4 rfl (Evo.refl [] y) ?_; refine dF 5 rfl (Evo.refl [] y) ?_; refine dF 6 rfl (Evo.refl [] y) ?_; refine aet 7 rfl (fun _ hS => dN rfl rfl) (Evo.refl [] y) ?_; refine aet 8 rfl (fun _ hS => aV rfl) (Evo.refl [] y) ?_; refine dF 9 rfl (Evo.refl [] y) ?_; refine dF 10 rfl (Evo.refl [] y) ?_; refine dF 11 rfl (Evo.refl [] y) ?_; refine bO 12 rfl rfl rfl rfl rfl (by kernel_rfl) (by kernel_rfl) (by kernel_rfl) rfl (Evo.refl [] y) ?_; refine bO 13 rfl rfl rfl rfl rfl (by kernel_rfl) (by kernel_rfl) (by kernel_rfl) rfl (Evo.refl [] y) ?_; refine bO 14 rfl rfl rfl rfl rfl (by kernel_rfl) (by kernel_rfl) (by kernel_rfl) rfl (Evo.refl [] y) ?_; refine bO 15 rfl rfl rfl rfl rfl (by kernel_rfl) (by kernel_rfl) (by kernel_rfl) rfl (Evo.refl [] y) ?_; refine bO 16 rfl rfl rfl rfl rfl (by kernel_rfl) (by kernel_rfl) (by kernel_rfl) rfl (Evo.refl [] y) ?_; refine bO 17 rfl rfl rfl rfl rfl (by kernel_rfl) (by kernel_rfl) (by kernel_rfl) rfl (Evo.refl [] y) ?_; refine bO 18 rfl rfl rfl rfl rfl (by kernel_rfl) (by kernel_rfl) (by kernel_rfl) rfl (Evo.refl [] y) ?_
    refine bO 19 rfl rfl rfl rfl rfl (by kernel_rfl) (by kernel_rfl) (by kernel_rfl) rfl (Evo.refl [] y) ?_; refine bO 20 rfl rfl rfl rfl rfl (by kernel_rfl) (by kernel_rfl) (by kernel_rfl) rfl (Evo.refl [] y) ?_; refine dF 21 rfl (Evo.refl [] y) ?_; refine aet 22 rfl (fun _ hS => dN rfl rfl) (Evo.refl [] y) ?_; refine bN (by kernel_rfl) (aB ?_); refine eX rfl ?_; refine csr (wan (aS (bA (aI (aI (bA (aI (br1 ?_)))))))); refine ⟨false, rfl, ?_, A⟩; simp only [Bool.false_eq_true, false_iff]; intro h; have h9 := h k hk'
    first | (have := h9.1; omega) | (have h8 := h9.2 (k - 1) (by omega) (by omega); omega)
   refine bH 4 rfl rfl rfl rfl rfl (by kernel_rfl) (by kernel_rfl) (by kernel_rfl) rfl (fun _ hS => aA rfl dG) (Evo.refl [] y) ?_; refine bH 5 rfl rfl rfl rfl rfl (by kernel_rfl) (by kernel_rfl) (by kernel_rfl) rfl (fun _ hS => aF rfl eD (aK (hS.blk0 E) rfl)) (Evo.refl [] y) ?_; refine bH 6 rfl rfl rfl rfl rfl (by kernel_rfl) (by kernel_rfl) (by kernel_rfl) rfl (fun _ hS => eQ rfl rfl) (Evo.refl [] y) ?_; refine aet 7 rfl (fun _ hS => dO rfl rfl) (Evo.refl [] y) ?_; refine aet 8 rfl (fun _ hS => aV rfl) (Evo.refl [] y) ?_; refine iZ (t := 20) rfl (fun U => ?_) (fun U => ?_)
   ·refine dF 9 rfl (Evo.refl [] y) ?_; refine dF 10 rfl (Evo.refl [] y) ?_; refine dF 11 rfl (Evo.refl [] y) ?_; refine bO 12 rfl rfl rfl rfl rfl (by kernel_rfl) (by kernel_rfl) (by kernel_rfl) rfl (Evo.refl [] y) ?_; refine bO 13 rfl rfl rfl rfl rfl (by kernel_rfl) (by kernel_rfl) (by kernel_rfl) rfl (Evo.refl [] y) ?_; refine bO 14 rfl rfl rfl rfl rfl (by kernel_rfl) (by kernel_rfl) (by kernel_rfl) rfl (Evo.refl [] y) ?_; refine bO 15 rfl rfl rfl rfl rfl (by kernel_rfl) (by kernel_rfl) (by kernel_rfl) rfl (Evo.refl [] y) ?_; refine bO 16 rfl rfl rfl rfl rfl (by kernel_rfl) (by kernel_rfl) (by kernel_rfl) rfl (Evo.refl [] y) ?_; refine bO 17 rfl rfl rfl rfl rfl (by kernel_rfl) (by kernel_rfl) (by kernel_rfl) rfl (Evo.refl [] y) ?_; refine bO 18 rfl rfl rfl rfl rfl (by kernel_rfl) (by kernel_rfl) (by kernel_rfl) rfl (Evo.refl [] y) ?_; refine bO 19 rfl rfl rfl rfl rfl (by kernel_rfl) (by kernel_rfl) (by kernel_rfl) rfl (Evo.refl [] y) ?_; refine bO 20 rfl rfl rfl rfl rfl (by kernel_rfl) (by kernel_rfl) (by kernel_rfl) rfl (Evo.refl [] y) ?_; refine dF 21 rfl (Evo.refl [] y) ?_; refine aet 22 rfl (fun _ hS => dN rfl rfl) (Evo.refl [] y) ?_; refine bN (by kernel_rfl) (aB ?_); refine eX rfl ?_; refine csr (wan ?_)
    refine aS (bA (aI (aI (bA (aI (br1 ?_)))))); refine ⟨false, rfl, ?_, A⟩; simp only [Bool.false_eq_true, false_iff]; intro h; have h9 := h k hk'
    first | (have := h9.1; omega) | (have h8 := h9.2 (k - 1) (by omega) (by omega); omega)
   refine bH 9 rfl rfl rfl rfl rfl (by kernel_rfl) (by kernel_rfl) (by kernel_rfl) rfl (fun _ hS => aV rfl) (Evo.refl [] y) ?_; refine bH 10 rfl rfl rfl rfl rfl (by kernel_rfl) (by kernel_rfl) (by kernel_rfl) rfl (fun _ hS => eQ rfl rfl) (Evo.refl [] y) ?_; refine bH 11 rfl rfl rfl rfl rfl (by kernel_rfl) (by kernel_rfl) (by kernel_rfl) rfl (fun _ hS => aV rfl) (Evo.refl [] y) ?_; refine iZ (t := 23) rfl (fun V => ?_) (fun V => ?_)
   ·refine bH 12 rfl rfl rfl rfl rfl (by kernel_rfl) (by kernel_rfl) (by kernel_rfl) rfl (fun _ hS => aA rfl dG) (Evo.refl [] y) ?_; refine bH 13 rfl rfl rfl rfl rfl (by kernel_rfl) (by kernel_rfl) (by kernel_rfl) rfl (fun _ hS => aF rfl eD (aK (hS.blk0 E) rfl)) (Evo.refl [] y) ?_; refine bH 14 rfl rfl rfl rfl rfl (by kernel_rfl) (by kernel_rfl) (by kernel_rfl) rfl (fun _ hS => aV rfl) (Evo.refl [] y) ?_; refine bH 15 rfl rfl rfl rfl rfl (by kernel_rfl) (by kernel_rfl) (by kernel_rfl) rfl (fun _ hS => aV rfl) (Evo.refl [] y) ?_; refine bH 16 rfl rfl rfl rfl rfl (by kernel_rfl) (by kernel_rfl) (by kernel_rfl) rfl (fun _ hS => aX rfl rfl (by omega) (by omega)) (Evo.refl [] y) ?_
    refine bH 17 rfl rfl rfl rfl rfl (by kernel_rfl) (by kernel_rfl) (by kernel_rfl) rfl (fun _ hS => fK (n := k - 1) (by rw [ha2]; rfl) rfl (by omega) eA (by omega)) (Evo.refl [] y) ?_
    refine bH 18 rfl rfl rfl rfl rfl (by kernel_rfl) (by kernel_rfl) (by kernel_rfl) rfl (fun _ hS => aA rfl dG) (Evo.refl [] y) ?_; refine bH 19 rfl rfl rfl rfl rfl (by kernel_rfl) (by kernel_rfl) (by kernel_rfl) rfl (fun _ hS => aF rfl eD ((a0.evo (((A.then hS)).any X) hb2) 0 _ rfl)) (Evo.refl [] y) ?_; refine bH 20 rfl rfl rfl rfl rfl (by kernel_rfl) (by kernel_rfl) (by kernel_rfl) rfl (fun _ hS => eP rfl rfl) (Evo.refl [] y) ?_; refine bH 21 rfl rfl rfl rfl rfl (by kernel_rfl) (by kernel_rfl) (by kernel_rfl) rfl (fun _ hS => dN rfl rfl) (Evo.refl [] y) ?_; refine aet 22 rfl (fun _ hS => dO rfl rfl) (Evo.refl [] y) ?_; refine bN (by kernel_rfl) (aB ?_); refine bP rfl (fun F => ?_) (fun F => ?_)
    ·refine csr (wan (aS (bA (aI (aI (bA (aI (br1 ?_)))))))); refine ⟨false, rfl, ?_, A⟩; simp only [Bool.false_eq_true, false_iff]; intro h; have h9 := h k hk'
     first | (have := h9.1; omega) | (have h8 := h9.2 (k - 1) (by omega) (by omega); omega)
    refine aR (bC (aB (aQ ?_))); refine aC (aT rfl rfl (by omega) (by omega)) ?_; refine aD (aE (aM ?_)); refine ⟨k + 1, ?_, ⟨rfl, trivial⟩, ⟨rfl, rfl, rfl, trivial⟩, K, ?_⟩
    · omega
    refine ⟨by omega, fun i hi hik => ?_⟩
    by_cases e : i < k
    · exact hok i hi e
    · obtain rfl : i = k := by omega
      first | exact ⟨⟨by omega, by omega⟩, fun j hj e2 => by omega⟩ | exact ⟨⟨by omega, by omega⟩, fun j hj e2 => by subst e2; have h9 := Classical.not_not.1 F; omega⟩ | exact ⟨⟨by omega, by omega⟩, fun j hj e2 => by subst e2; simp only [Nat.add_sub_cancel] at *; omega⟩
   refine dF 12 rfl (Evo.refl [] y) ?_; refine dF 13 rfl (Evo.refl [] y) ?_; refine dF 14 rfl (Evo.refl [] y) ?_; refine dF 15 rfl (Evo.refl [] y) ?_; refine dF 16 rfl (Evo.refl [] y) ?_; refine dF 17 rfl (Evo.refl [] y) ?_; refine dF 18 rfl (Evo.refl [] y) ?_; refine dF 19 rfl (Evo.refl [] y) ?_; refine dF 20 rfl (Evo.refl [] y) ?_; refine bH 21 rfl rfl rfl rfl rfl (by kernel_rfl) (by kernel_rfl) (by kernel_rfl) rfl (fun _ hS => dO rfl rfl) (Evo.refl [] y) ?_; refine aet 22 rfl (fun _ hS => dO rfl rfl) (Evo.refl [] y) ?_; refine bN (by kernel_rfl) (aB ?_); refine cY rfl ?_; refine aR (bC (aB (aQ ?_))); refine aC (aT rfl rfl (by omega) (by omega)) ?_; refine aD (aE (aM ?_)); refine ⟨k + 1, ?_, ⟨rfl, trivial⟩, ⟨rfl, rfl, rfl, trivial⟩, K, ?_⟩
   · omega
   refine ⟨by omega, fun i hi hik => ?_⟩
   by_cases e : i < k
   · exact hok i hi e
   · obtain rfl : i = k := by omega
     first | exact ⟨⟨by omega, by omega⟩, fun j hj e2 => by omega⟩ | exact ⟨⟨by omega, by omega⟩, fun j hj e2 => by subst e2; have h9 := Classical.not_not.1 F; omega⟩ | exact ⟨⟨by omega, by omega⟩, fun j hj e2 => by subst e2; simp only [Nat.add_sub_cancel] at *; omega⟩
  refine bJ (bD (bD (bI (aB ?_)))); refine csr (wan (aS (br1 ?_)))
  exact ⟨true, rfl, by simp only [true_iff]; exact fun i hi => hok i hi (by omega), G⟩
theorem tF {X : List Nat} {w : World} {v : Value} {ls : List LB} (hs : RSl 2 RLB X w v ls) (hl : ls.length ≤ 1000000000) : Calls Tryz.prog 24 #[v] w (Ret fun r w' => r = iv3 (eF ls) ∧ Evo [] w w') := by
  have O := hs; have hsz := zY hs; obtain ⟨sa, sc, rfl, hlc, e1⟩ := hs; refine aU (N := 40) Tryz.func24 rfl rfl rfl ?_; refine csr (wan (aL (aL (eY (α := Bool) (fun z13 => [(13, .bool z13)]) [(0, _), (2, _)] (fun z13 wr => Evo [] w wr ∧ (z13 = true ↔ (¬ (kY ls ∧ ls.length ≤ 32)))) ⟨rfl, rfl, trivial⟩ ?_ ?_))))
  ·refine aQ (aD (aG (vs := [_]) pE rfl (uX O hl) rfl ?_)); rintro _ w1 ⟨bv, rfl, hbv, a5⟩; have U := (Evo.refl [] w).then a5; refine aC (eI rfl) ?_; refine aD (hX (t := 9) rfl (fun y => ?_) (fun y => ?_))
   ·refine bB (bB (bB (cF (aE (aM ?_))))); refine ⟨_, ⟨rfl, trivial⟩, ⟨rfl, rfl, trivial⟩, U, ?_⟩
    rw [← hbv]; first | (simp at y; simp [y]; done) | (simp at y; simp [y]; omega)
   refine aW (aD (aW (aC (aP rfl Tryz.underlying42 rfl) ?_))); refine aW (aC (eQ rfl rfl) ?_); refine bY (aE (aM ?_)); refine ⟨_, ⟨rfl, trivial⟩, ⟨rfl, rfl, trivial⟩, U, ?_⟩
   rw [← hbv]; first | (simp at y; simp [y]; done) | (simp at y; simp [y]; omega)
  rintro z13 w5 ⟨a6, hz13⟩; refine aB ?_; show CW _ _ _ _ [(13, _), (0, _), (2, _)] _; have V := (Evo.refl [] w).then a6; refine dX rfl (fun D => ?_) (fun D => ?_)
  ·subst D; have hj13 := hz13.1 rfl; refine csr (wan (aS (aI (br1 ?_)))); exact ⟨congrArg iv3 (sH hj13).symm, V⟩
  subst D
  have hj13 : ¬ (¬ (kY ls ∧ ls.length ≤ 32)) := fun h9 => by have := hz13.2 h9; cases this
  refine aR (aB (aL (csr (aD (aC (aP rfl Tryz.underlying42 rfl) ?_))))); refine aD (wnn (aZ ?_)); refine cH (α := Nat) (0) (fun k => [(16, .int .i64 (k : Nat))]) [(0, _), (14, _), (15, _)] (fun k wr => Evo [] w5 wr ∧ (k ≤ ls.length ∧ ∀ j (h : j < ls.length), j < k → ¬ (128 < ls[j].1.size ∨ 512 < ls[j].2.size))) (fun k => ls.length - k) ⟨rfl, trivial⟩ ⟨rfl, rfl, rfl, trivial⟩ ⟨Evo.refl _ _, ⟨Nat.zero_le _, fun j _ h => by omega⟩⟩ ?_; rintro k wr8 ⟨H, ⟨hk, hno⟩⟩; show CW _ _ _ _ [(16, _), (0, _), (14, _), (15, _)] _; have A := V.then H; refine csr (aC (cE rfl rfl) ?_); refine wnn (aL (bP rfl (fun W => ?_) (fun W => ?_)))
  ·have hk' : k < ls.length := by omega
   obtain ⟨b1, o1, vs1, ha1, hb1, -, a7, rfl, hz1, hz2⟩ := e1 k hk'; refine aR (aB (aL (aZ (csr ?_))))
   refine aC (cS (n := k) (by rw [ha1]; rfl) rfl bZ (by omega)) ?_
   refine aC (dQ rfl eE cI (vs := [_, _]) rfl (a7.evo ((A).any X) hb1)) ?_; refine dE rfl fH fun bp b4 Y E I => ?_; have a8 := E; refine bT rfl rfl cI Y rfl rfl ⟨by first | rfl | assumption, by first | rfl | assumption, trivial⟩ fun a9 J K => ?_; refine wnn (aL (eY (α := Bool) (fun z29 => [(29, .bool z29)]) [(0, _), (14, _), (15, _), (16, _)] (fun z29 wr => a9 = wr ∧ (z29 = true ↔ (128 < (ls[k]).1.size ∨ 512 < (ls[k]).2.size))) ⟨rfl, rfl, rfl, rfl, trivial⟩ ?_ ?_))
   ·refine aQ (wfl rfl cD rfl bR J rfl (aC (dW rfl Tryz.underlying9 rfl) ?_)); refine aC (eQ rfl rfl) ?_; refine aD (bQ (t := 24) rfl (fun a0 => ?_) (fun a0 => ?_))
    ·refine bB (bB (bB (bB (cF (aE (aM ?_)))))); refine ⟨_, ⟨rfl, trivial⟩, ⟨rfl, rfl, rfl, rfl, trivial⟩, rfl, ?_⟩
     simp only [decide_eq_true_eq, Bool.false_eq_true, Bool.true_eq_false, true_iff, false_iff, eq_self, iff_true]; omega
    refine aW (aC (aA rfl cT) (aW (aC (aF rfl bR (aK J rfl)) (aW (aC (dW rfl Tryz.underlying9 rfl) ?_))))); refine aW (aC (eQ rfl rfl) ?_); refine bY (aE (aM ?_)); refine ⟨_, ⟨rfl, trivial⟩, ⟨rfl, rfl, rfl, rfl, trivial⟩, rfl, ?_⟩
    simp only [decide_eq_true_eq, Bool.false_eq_true, Bool.true_eq_false, true_iff, false_iff, eq_self, iff_true]; omega
   rintro z29 _ ⟨rfl, hz29⟩; refine aB ?_; show CW _ _ _ _ [(29, _), (0, _), (14, _), (15, _), (16, _)] _; refine dX rfl (fun F => ?_) (fun F => ?_)
   ·subst F; have hj29 := hz29.1 rfl; refine csr (wan (aS (bA (aI (aI (bA (aI (br1 ?_)))))))); exact ⟨congrArg iv3 (zQ (Classical.not_not.1 hj13) ⟨_, List.getElem_mem hk', hj29⟩).symm, ((A.then I).step K (Ge.new A E).mem1)⟩
   subst F
   have hj29 : ¬ (128 < (ls[k]).1.size ∨ 512 < (ls[k]).2.size) := fun h9 => by have := hz29.2 h9; cases this
   refine aR (bC (aB (aQ ?_))); refine aC (aT rfl rfl (by omega) (by omega)) ?_; refine aD (aE (aM ?_)); refine ⟨k + 1, ?_, ⟨rfl, trivial⟩, ⟨rfl, rfl, rfl, trivial⟩, ((H.then I).step K (Ge.new H E).mem1), ?_⟩
   · omega
   exact ⟨by omega, fun j hj h => by by_cases e : j = k; (subst e; exact hj29); exact hno j hj (by omega)⟩
  have hgood : kY ls ∧ ls.length ≤ 32 := Classical.not_not.1 hj13
  have hshort : ¬ ∃ l, l ∈ ls ∧ (128 < l.1.size ∨ 512 < l.2.size) := fun ⟨l, h1, h2⟩ => by obtain ⟨j, hj, rfl⟩ := List.getElem_of_mem h1; exact hno j hj (by have : (ls.length : Int) = ls.length := rfl; omega) h2
  refine bJ (bD (bD (bI (aB ?_)))); refine aL (csr (aD (aG (vs := [_, _]) yC rfl (getL_ok (RSl.evo RLB.pers ((A).any X) O) hl kX) rfl ?_))); rintro _ L ⟨rfl, a1⟩; refine wan (aL (eY (α := Bool) (fun z39 => [(39, .bool z39)]) [] (fun z39 wr => Evo [] L wr ∧ (z39 = true ↔ (¬ iV ls kX = ByteArray.mk #[] ∧ ¬ eV (iV ls kX)))) trivial ?_ ?_))
  ·refine aQ (aD (aC (iP rfl rfl) ?_)); refine aD (bQ (t := 35) rfl (fun a2 => ?_) (fun a2 => ?_))
   ·refine aW (aD (aW ?_))
    refine aG (vs := [_]) yB rfl (AP (iV ls kX) (by have := vN (fun l h => (hsz l h).2) kX; omega)) rfl ?_
    rintro _ b5 ⟨rfl, a3⟩; refine aW (aC (eI rfl) ?_); refine cF (aE (aM ?_)); refine ⟨_, ⟨rfl, trivial⟩, trivial, ((Evo.refl [] L).then a3), ?_⟩
    first | (simp; assumption) | simp_all
   refine bB (bB (bB (bY (aE (aM ?_))))); refine ⟨_, ⟨rfl, trivial⟩, trivial, (Evo.refl [] L), ?_⟩
   first | (simp; assumption) | simp_all
  rintro z39 b6 ⟨a4, hz39⟩; refine aB ?_; show CW _ _ _ _ [(39, _)] _; have M := (A.then a1).then a4; refine dX rfl (fun G => ?_) (fun G => ?_)
  ·subst G; have hj39 := hz39.1 rfl; refine csr (wan (aS (aI (br1 ?_)))); exact ⟨congrArg iv3 (sG hgood hshort hj39).symm, M⟩
  subst G
  have hj39 : ¬ (¬ iV ls kX = ByteArray.mk #[] ∧ ¬ eV (iV ls kX)) := fun h9 => by have := hz39.2 h9; cases this
  refine aR (aB (csr (wan (aS (br1 ?_))))); exact ⟨congrArg iv3 (oE hgood hshort hj39).symm, M⟩
end Go.Proofs.YtlpdhbmhbjjnhaaGreatDoor
namespace Go.Proofs.YtlpdhbmhbjjnhaaGreatDoor
open Go.Shelf
def qH : Go.Shelf.Ren := ⟨fun | 283 => 126 | n => n, fun | 3 => 3 | 9 => 9 | 4 => 4 | n => n, fun | n => n⟩
theorem xE : Go.Proofs.Lays.n283 Tryz.prog qH := {
  mixed := by kernel_rfl
  f283 := Tryz.func126.trans (congrArg some (by kernel_rfl))
  t3 := Tryz.underlying3
  a3 := Tryz.isAgg3
  z3 := Tryz.sizeOf3
  v3 := Tryz.zeroValue3
  t4 := Tryz.underlying4
  a4 := Tryz.isAgg4
  z4 := Tryz.sizeOf4
  v4 := Tryz.zeroValue4
  t9 := Tryz.underlying9
  a9 := Tryz.isAgg9
  z9 := Tryz.sizeOf9
  v9 := Tryz.zeroValue9 }
open Go.Lib in
theorem jJ (i : Nat) (h : i < 100) (w : World) :
    Calls Tryz.prog 126 #[.int .i64 i] w fun e w' => e = .returned (.string ⟨(Lib.decDigits i).toArray⟩) ∧ w' = w := Any.internal_strconv_small xE i h w
def oX : Go.Shelf.Ren := ⟨fun | 284 => 127 | 129 => 80 | 317 => 130 | 318 => 131 | n => n, fun | 53 => 95 | 3 => 3 | 212 => 184 | 0 => 0 | 4 => 4 | 46 => 105 | 5 => 5 | 9 => 9 | n => n, fun | 17 => 2 | n => n⟩
theorem uE : Go.Proofs.LaysM.n284 Tryz.prog oX := {
  mixed := by kernel_rfl
  f129 := Tryz.func80.trans (congrArg some (by kernel_rfl))
  f284 := Tryz.func127.trans (congrArg some (by kernel_rfl))
  f317 := Tryz.func130.trans (congrArg some (by kernel_rfl))
  f318 := Tryz.func131.trans (congrArg some (by kernel_rfl))
  t0 := Tryz.underlying0
  a0 := Tryz.isAgg0
  z0 := Tryz.sizeOf0
  v0 := Tryz.zeroValue0
  t3 := Tryz.underlying3
  a3 := Tryz.isAgg3
  z3 := Tryz.sizeOf3
  v3 := Tryz.zeroValue3
  t4 := Tryz.underlying4
  a4 := Tryz.isAgg4
  z4 := Tryz.sizeOf4
  v4 := Tryz.zeroValue4
  t5 := Tryz.underlying5
  a5 := Tryz.isAgg5
  z5 := Tryz.sizeOf5
  v5 := Tryz.zeroValue5
  t9 := Tryz.underlying9
  a9 := Tryz.isAgg9
  z9 := Tryz.sizeOf9
  v9 := Tryz.zeroValue9
  t46 := Tryz.underlying105
  a46 := Tryz.isAgg105
  z46 := Tryz.sizeOf105
  v46 := Tryz.zeroValue105
  t53 := Tryz.underlying95
  a53 := Tryz.isAgg95
  z53 := Tryz.sizeOf95
  v53 := Tryz.zeroValue95
  t212 := Tryz.underlying184
  a212 := Tryz.isAgg184
  z212 := Tryz.sizeOf184
  v212 := Tryz.zeroValue184
  g17 := by kernel_rfl
  i0 := by kernel_rfl
  i3 := by kernel_rfl
  i4 := by kernel_rfl
  i5 := by kernel_rfl
  i9 := by kernel_rfl
  i46 := by kernel_rfl
  i53 := by kernel_rfl
  i212 := by kernel_rfl
  m17 := by kernel_rfl }
open Go.Lib in
theorem iE (u : Nat) (h1 : 1 ≤ u) (h2 : u < 18446744073709551616) (w : World) (htab : Lib.TabIs Tryz.prog w "internal/strconv.uint64pow10" .u64 Lib.pow10Tab) :
    Calls Tryz.prog 127 #[.int .u64 u] w fun e w' => e = .returned (.int .i64 (Lib.nDigits u)) ∧ w' = w := Any.internal_strconv_numDigits uE u h1 h2 w htab
def qG : Go.Shelf.Ren := ⟨fun | 285 => 128 | n => n, fun | 37 => 83 | 53 => 95 | 3 => 3 | 4 => 4 | 51 => 71 | 9 => 9 | 5 => 5 | 0 => 0 | n => n, fun | n => n⟩
theorem xD : Go.Proofs.Lays.n285 Tryz.prog qG := {
  mixed := by kernel_rfl
  f285 := Tryz.func128.trans (congrArg some (by kernel_rfl))
  t0 := Tryz.underlying0
  a0 := Tryz.isAgg0
  z0 := Tryz.sizeOf0
  v0 := Tryz.zeroValue0
  t3 := Tryz.underlying3
  a3 := Tryz.isAgg3
  z3 := Tryz.sizeOf3
  v3 := Tryz.zeroValue3
  t4 := Tryz.underlying4
  a4 := Tryz.isAgg4
  z4 := Tryz.sizeOf4
  v4 := Tryz.zeroValue4
  t5 := Tryz.underlying5
  a5 := Tryz.isAgg5
  z5 := Tryz.sizeOf5
  v5 := Tryz.zeroValue5
  t9 := Tryz.underlying9
  a9 := Tryz.isAgg9
  z9 := Tryz.sizeOf9
  v9 := Tryz.zeroValue9
  t37 := Tryz.underlying83
  a37 := Tryz.isAgg83
  z37 := Tryz.sizeOf83
  v37 := Tryz.zeroValue83
  t51 := Tryz.underlying71
  a51 := Tryz.isAgg71
  z51 := Tryz.sizeOf71
  v51 := Tryz.zeroValue71
  t53 := Tryz.underlying95
  a53 := Tryz.isAgg95
  z53 := Tryz.sizeOf95
  v53 := Tryz.zeroValue95 }
open Go.RowKit Go.Sort Go.Lib in
theorem hJ (blk off cap : Nat) (u : Nat) (d : Array UInt8) (w : World) (hH : Holds (fun (b : UInt8) => Value.int .u8 (b.toNat : Int)) w blk off d) (hu : u < 10 ^ d.size) (hu64 : u < 18446744073709551616) (hsz : d.size < 4611686018427387904) :
    Calls Tryz.prog 128 #[.slice (some ⟨blk, off, none⟩) d.size cap, .int .u64 u] w fun e w' =>
      e = .returned (.tuple #[]) ∧ ∃ (n v' : Nat) (dk : Array UInt8), w' = (putRow (fun (b : UInt8) => Value.int .u8 (b.toNat : Int)) w blk off dk).drewN n ∧ FmtInv d.size u 0 v' dk := Any.internal_strconv_formatBase10 xD blk off cap u d w hH hu hu64 hsz
end Go.Proofs.YtlpdhbmhbjjnhaaGreatDoor
namespace Go.W
open Go.RowKit
section
variable {P : Program} {N : NN} {R : fJ} {σ : Env} {w w' : World} {ops : Array Oper} {rest : List Oper} {n d : Nat} {op : Op} {T : TypeId} {pos : String} {after : Array Edge}
end
section
variable {P : Program} {N : NN} {R : fJ} {σ : Env} {w : World} {ops : Array Oper} {rest : List Oper} {T : TypeId} {pos : String} {after : Array Edge} {d : Nat}
end
section
variable {P : Program} {σ : Env} {w : World}
def EC (P : Program) (fn : Func) (E : Ending → World → Prop) : fJ
  | .normal, N, σ, w => ∀ a, Fits N σ a → Leaves P fn a.tmps E N.2 .returning w
  | .ret, N, σ, w => ∀ a, Fits N σ a → Leaves P fn a.tmps E N.2 .returning w
  | .panic chain, N, σ, w => ∀ a, Fits N σ a → Leaves P fn a.tmps E N.2 (.panicking chain) w
  | .outgrown, _, _, w => E .outgrown w
  | .exit _, _, _, _ => False
  | .goto _, _, _, _ => False
theorem wY {f : FuncId} {fn : Func} {c : Code} {args : List Value} {E : Ending → World → Prop} {N : Nat}
    (hf : P.funcs[f]? = some fn) (hb : fn.body = some c) (hN : fn.ntmps = N) (hle' : Nat.ble args.length N = true)
    (h : CW P (N, []) c (EC P fn E) (mC 0 args) w) : Calls P f args.toArray w E := by
  have hle : args.length ≤ N := Nat.le_of_ble_eq_true hle'; refine calls_of_wp_defers hf hb (wp_mono (h _ ⟨?_, rfl, ?_⟩) ?_)
  · simp [hN]; omega
  · intro t v hv
    obtain ⟨_, h2⟩ := oG args 0 t v hv; simp only [Nat.sub_zero] at h2; have hlt : t < args.length := (List.getElem?_eq_some_iff.1 h2).1
    have h3 : args[t] = v := by rw [List.getElem?_eq_getElem hlt] at h2; exact Option.some.inj h2
    simp [Array.getElem?_append, hlt, h3]
  · intro e a' w' hq
    cases e with
    | normal => obtain ⟨N', σ', hf', hk⟩ := hq; show Leaves _ _ _ _ _ _ _; rw [hf'.2.1]; exact hk a' hf'
    | ret => obtain ⟨N', σ', hf', hk⟩ := hq; show Leaves _ _ _ _ _ _ _; rw [hf'.2.1]; exact hk a' hf'
    | panic ch => obtain ⟨N', σ', hf', hk⟩ := hq; show Leaves _ _ _ _ _ _ _; rw [hf'.2.1]; exact hk a' hf'
    | outgrown => obtain ⟨_, hk⟩ := hq; exact hk
    | exit i => obtain ⟨_, _, _, hk⟩ := hq; exact hk
    | goto l => obtain ⟨_, _, _, hk⟩ := hq; exact hk
end
section
variable {P : Program} {σ : Env} {w : World} {dst : Option Nat} {T : TypeId} {pos : String} {after : Array Edge} {g : Option (Nat × Bool)}
theorem JL (n : Nat) {t e : TypeId} {a : Option Addr} {k c : Nat} (ht : P.underlying t = some (.slice e)) : (Op.equalIn (n + 1) t (.slice a k c) (.slice none 0 0)).run P w = .ok a.isNone w := by
  cases a <;> simp [Op.equalIn, run_underlying ht]
theorem FU {x y : Operand} {t e t' : TypeId} {a : Option Addr} {k c : Nat} (hx : σ.ev x = some (.slice a k c)) (hy : σ.ev y = some (.slice none 0 0)) (ht : P.underlying t = some (.slice e)) :
    Ex P σ ⟨dst, .binOp .eql t x y t', T, pos, after, g⟩ w (.bool a.isNone) w := fun ρ hρ => by
  have h1 : (Op.equal t (.slice a k c) (.slice none 0 0)).run P w = .ok a.isNone w := JL 9999 ht
  simp [execOp, hρ x _ hx, hρ y _ hy, eqGuard, Go.binOp, h1]
theorem nH {x i : Operand} {t : TypeId} {k : IntKind} {n sz b o len c : Nat} {a : Option Addr} (hx : σ.ev x = some (.slice a len c)) (hi : σ.ev i = some (.int k (n : Nat))) (ha : a = some ⟨b, o, none⟩) (he : jE P t = some sz) (hlt : n < len) :
    Ex P σ ⟨dst, .indexAddr t x i, T, pos, after, g⟩ w (.pointer (some ⟨b, o + n * sz, none⟩)) w := by
  subst ha; exact cS hx hi he hlt
end
section
variable {P : Program} {σ : Env} {w : World} {dst : Option Nat} {T : TypeId} {pos : String} {after : Array Edge} {g : Option (Nat × Bool)}
theorem aY {x i : Operand} {t : TypeId} {k : IntKind} {z : Int} {n sz b o len c : Nat} {a : Option Addr} (hx : σ.ev x = some (.slice a len c)) (hi : σ.ev i = some (.int k z)) (ha : a = some ⟨b, o, none⟩) (hz : z = n) (he : jE P t = some sz) (hlt : n < len) :
    Ex P σ ⟨dst, .indexAddr t x i, T, pos, after, g⟩ w (.pointer (some ⟨b, o + n * sz, none⟩)) w := by subst ha; exact fK hx hi hz he hlt
theorem pT {t : TypeId} {m : Nat} (hs : eS P t = some m) (w : World) : (sizeOf t).run P w = .ok m w := by
  simp only [eS] at hs
  cases hi : P.info? t with
  | none => rw [hi] at hs; cases hs
  | some i => rw [hi] at hs; simp at hs; subst hs; simp [sizeOf, typeInfo, hi, go_sem]
theorem IB {t e : TypeId} {len sz : Nat} {parts : Array (Nat × Operand)} {vs : List (Nat × Value)} {zero cells : Array Value} (ht : P.underlying t = some (.array len e)) (hz : oA P t = some zero) (hs : eS P e = some sz)
    (hp : parts.toList.map (fun p => (p.1, σ.ev p.2)) = vs.map (fun q => (q.1, some q.2))) (hf : Instr.fill (fun i => some (i * sz, sz)) zero vs = some cells) : Ex P σ ⟨dst, .build t parts, T, pos, after, g⟩ w (.agg cells) w := fun ρ ha => by
  obtain ⟨z, hz1, hz2⟩ := Option.map_eq_some_iff.1 hz
  obtain ⟨i, hi, hz'⟩ := Option.bind_eq_some_iff.1 hz1
  have hparts : (parts.map fun p => (p.1, ρ p.2)).toList = vs := by
    rw [Array.toList_map]
    clear hf
    revert hp
    generalize parts.toList = l
    intro hp
    induction l generalizing vs with
    | nil => cases vs with | nil => rfl | cons _ _ => simp at hp
    | cons p l ih =>
      cases vs with
      | nil => simp at hp
      | cons q vs =>
        simp only [List.map_cons, List.cons.injEq, Prod.mk.injEq] at hp
        obtain ⟨⟨h1, h2⟩, h3⟩ := hp
        rw [List.map_cons, ih h3, h1, ha _ _ h2]
  have hzero : (zeroValue t).run P w = .ok z w := by simp [zeroValue, typeInfo, hi, hz', go_sem]
  subst hz2
  rw [Array.toList_map] at hparts
  simp only [execOp, Instr.build, hzero, Sem.run_bind, Result.andThen_ok, run_underlying ht, pT hs, Array.toList_map, hparts, hf, Sem.run_pure]
end
section
variable {P : Program} {N : NN} {R : fJ} {σ : Env} {w : World} {ops : Array Oper} {rest : List Oper} {T : TypeId} {pos : String} {after : Array Edge}
end
end Go.W
namespace Go.W
section
variable {P : Program} {σ : Env} {w : World} {dst : Option Nat} {T : TypeId} {pos : String} {after : Array Edge} {g : Option (Nat × Bool)}
theorem sJ {b o : Nat} {vs : List Value} (h : ∀ j v, vs[j]? = some v → w.cell? ⟨b, o + j, none⟩ = some v) : (loadCells ⟨b, o, none⟩ vs.length).run P w = .ok vs.toArray w := by
  have := gF (P := P) (w := w) b o vs.length 0 #[] vs rfl (fun j v hj => by rw [Nat.zero_add]; exact h j v hj)
  simpa [loadCells] using this
def fC (l : List Nat) : List Value := l.map fun c => Value.int .u8 (c : Nat)
theorem nC : ∀ (l : List Nat) (s : ByteArray), l.foldl (fun r (n : Nat) => r.push (UInt8.ofNat ((n : Int)).toNat)) s = s ++ bstr l
  | [], s => by
    show s = s ++ ⟨#[]⟩
    apply ByteArray.ext; simp
  | c :: l, s => by
    rw [List.foldl_cons, nC l]
    apply ByteArray.ext
    simp [bstr, ByteArray.data_push]
theorem AZ {x : Operand} {t t' e : TypeId} {a : Option Addr} {n c : Nat} {l : List Nat} {ob : Option Nat} (hx : σ.ev x = some (.slice a n c)) (hs : P.underlying t = some (.slice e)) (he : P.underlying e = some (.int .u8)) (hd : P.underlying t' = some .string)
    (hO : ∃ ty, OwnS w ty 1 a n c (fC l) ob) : Ex P σ ⟨dst, .convert t t' x, T, pos, after, g⟩ w (.string (bstr l)) w := fun ρ h => by
  obtain ⟨ty, hO⟩ := hO
  have hn : n = l.length := by have := hO.length; simp [fC] at this; omega
  have h1 := run_convert_bytes_string (P := P) w t t' e a n c hs he hd
  have h2 : (Conv.bytesToString (.slice a n c)).run P w = .ok (.string (bstr l)) w := by
    rcases Nat.eq_zero_or_pos n with h0 | h0
    · have hl : l = [] := List.eq_nil_of_length_eq_zero (by omega)
      subst hl
      cases a with
      | none => rfl
      | some a =>
        have h3 := run_bytesToString (P := P) w a n c [] (by rw [h0]; simp [loadCells, loadCellsFrom])
        rw [h3]; rfl
    · obtain ⟨b, hb, ha, hc⟩ := hO.cells h0
      subst ha
      have h3 : (loadCells ⟨b, 0, none⟩ n).run P w = .ok ((l.map fun (c : Nat) => (c : Int)).map (Value.int .u8)).toArray w := by
        have h4 : fC l = (l.map fun (c : Nat) => (c : Int)).map (Value.int .u8) := by simp [fC, Function.comp_def]
        rw [← h4]
        have := sJ (P := P) (w := w) (b := b) (o := 0) (vs := fC l) (fun j v hj => hc j v hj)
        rw [show (fC l).length = n by simp [fC, hn]] at this
        exact this
      rw [run_bytesToString (P := P) w _ n c _ h3, List.foldl_map, nC]
      congr 2
  simp only [execOp, h x _ hx, Sem.run_bind, h1, h2, Result.andThen_ok, Sem.run_pure]
end
theorem tJ {l : List Nat} (h : ∀ b, b ∈ l → b < 256) : Lib.byteCells (bstr l).data.toList = fC l := by
  simp only [Lib.byteCells, bstr, fC, List.map_map]
  refine List.map_congr_left fun b hb => ?_
  have := h b hb
  simp [Nat.mod_eq_of_lt this]
theorem Src.strB {P : Program} {w : World} (s : ByteArray) : Src P w 1 (.string s) s.size (Lib.byteCells s.data.toList) :=
  ⟨fun _ => by simp [Builtin.lenOf], fun w2 _ => Lib.run_firstCells_string (P := P) (w := w2) 1 s, by rw [Lib.byteCells_length, Nat.mul_one]; rfl, fun u hu => by simp only [Lib.byteCells, List.mem_map] at hu; obtain ⟨b, _, rfl⟩ := hu; rfl⟩
theorem Src.bstr {P : Program} {w : World} {l : List Nat} (h : ∀ b, b ∈ l → b < 256) : Src P w 1 (.string (bstr l)) l.length (fC l) := by
  have hsz : (Go.W.bstr l).size = l.length := by simp [Go.W.bstr, ByteArray.size]
  have h1 := Src.strB (P := P) (w := w) (Go.W.bstr l)
  rw [tJ h, hsz] at h1
  exact h1
end Go.W
namespace Go.Proofs.YtlpdhbmhbjjnhaaGreatDoor
open Go.Lib Go.RowKit Go.Sort Go.W
attribute [local irreducible] Decidable.decide
theorem mK : oU Tryz.prog 83 83 = some (5, 1, 1) := by kernel_rfl
theorem nN : oU Tryz.prog 83 9 = some (5, 1, 1) := by kernel_rfl
theorem uM : dC Tryz.prog 115 := ⟨_, Tryz.func115, by kernel_rfl, by kernel_rfl⟩
theorem uL : dC Tryz.prog 126 := ⟨_, Tryz.func126, by kernel_rfl, by kernel_rfl⟩
theorem uK : dC Tryz.prog 127 := ⟨_, Tryz.func127, by kernel_rfl, by kernel_rfl⟩
theorem uJ : dC Tryz.prog 128 := ⟨_, Tryz.func128, by kernel_rfl, by kernel_rfl⟩
theorem xL : dC Tryz.prog 94 := ⟨_, Tryz.func94, by kernel_rfl, by kernel_rfl⟩
theorem rG : eS Tryz.prog 5 = some 1 := by kernel_rfl
theorem uF : oA Tryz.prog 179 = some #[.int .u8 0, .int .u8 0, .int .u8 0, .int .u8 0, .int .u8 0, .int .u8 0, .int .u8 0, .int .u8 0, .int .u8 0, .int .u8 0, .int .u8 0, .int .u8 0, .int .u8 0, .int .u8 0, .int .u8 0, .int .u8 0, .int .u8 0, .int .u8 0, .int .u8 0, .int .u8 0, .int .u8 0, .int .u8 0, .int .u8 0, .int .u8 0] := by kernel_rfl
def gP : Nat := 2
def P10 (w : World) : Prop := Lib.TabIs Tryz.prog w "internal/strconv.uint64pow10" .u64 Lib.pow10Tab
theorem gP_is : Tryz.prog.globalNamed "internal/strconv.uint64pow10" = some gP := by kernel_rfl
theorem P10.evo {X : List Nat} {w w' : World} (h : P10 w) (he : Evo X w w') (hx : gP ∉ X) : P10 w' := by
  unfold P10 Lib.TabIs World.var? at h ⊢
  rw [gP_is] at h ⊢
  simp only [Option.bind_eq_bind, Option.bind_some] at h ⊢
  cases hb : w.heap[gP]? with
  | none => rw [hb] at h; exact absurd h (by simp)
  | some o => rw [he.block gP (iJ hb) hx]; exact h
theorem P10.lt {w : World} (h : P10 w) : gP < w.heap.size := by
  unfold P10 Lib.TabIs World.var? at h
  rw [gP_is] at h
  simp only [Option.bind_eq_bind, Option.bind_some] at h
  cases hb : w.heap[gP]? with
  | none => rw [hb] at h; exact absurd h (by simp)
  | some o => exact iJ hb
def iI (u : Nat) : List Nat := (Lib.decDigits u).map UInt8.toNat
theorem FZ (u : Nat) : ∀ b, b ∈ iI u → b < 256 := fun b hb => by
  obtain ⟨x, _, rfl⟩ := List.mem_map.1 hb
  exact UInt8.toNat_lt x
theorem tI (u : Nat) : Lib.byteCells (Lib.decDigits u) = fC (iI u) := by
  simp only [Lib.byteCells, fC, iI, List.map_map]
  rfl
theorem IF (u : Nat) : bstr (iI u) = ⟨(Lib.decDigits u).toArray⟩ := by
  simp only [bstr, iI, List.map_map]
  congr 2
  conv => rhs; rw [← List.map_id (Lib.decDigits u)]
  refine List.map_congr_left fun b _ => ?_
  simp
theorem BD {u : Nat} (h : u < 18446744073709551616) : (iI u).length ≤ 20 := by
  rw [iI, List.length_map, Lib.decDigits_length]
  exact Lib.nDigits_le20 u h
theorem LI {u : Nat} : (iI u).length = Lib.nDigits u := by rw [iI, List.length_map, Lib.decDigits_length]
theorem HW {w : World} {b : Nat} {U : TypeId} (hB : w.heap[b]? = some (.cells Lib.zeros24 U (0, 0))) (nd : Nat) (h : nd ≤ 24) : Holds (fun (b : UInt8) => Value.int .u8 (b.toNat : Int)) w b 0 (Array.replicate nd (0 : UInt8)) := fun j hj => by
  have hj' : j < nd := by simpa using hj
  refine ⟨?_, by simp [World.frozen?, hB]⟩
  have h1 : w.cell? ⟨b, 0 + j, none⟩ = some (.int .u8 0) := by
    have h2 := Lib.zeros24_at j (by omega)
    rw [World.cell?, hB]
    simpa using h2
  rw [h1, getElem!_pos _ j hj]
  simp
theorem DV {w : World} {b : Nat} (dk : Array UInt8) (hb : b < w.heap.size) (k : Nat) : Evo [b] w ((putRow (fun (b : UInt8) => Value.int .u8 (b.toNat : Int)) w b 0 dk).drewN k) := by
  refine ⟨rfl, rfl, rfl, ?_, fun i hi hx => ?_, Nat.le_add_right _ _⟩
  · simp [putRow, mapBlock, World.drewN]
  · have : ¬ b = i := fun e => hx (by simp [e])
    simp [putRow, mapBlock, World.drewN, Array.getElem?_modify, this]
theorem BA {P : Program} {σ : Env} {w : World} {dst : Option Nat} {T : TypeId} {pos : String} {after : Array Edge} {g : Option (Nat × Bool)} {x hi : Operand} {t e : TypeId} {len sz b h : Nat} {hv : Int} (hx : σ.ev x = some (.pointer (some ⟨b, 0, none⟩))) (hh : σ.ev hi = some (.int .i64 hv)) (ht : P.underlying t = some (.array len e)) (hs : eS P e = some sz) (hl : hv = (h : Int)) (hle : h ≤ len) (hp : 0 < len) :
    Ex P σ ⟨dst, .slice t x none (some hi) none, T, pos, after, g⟩ w (.slice (some ⟨b, 0, none⟩) h len) w := fun ρ hρ => by
  subst hl
  have hb : (Instr.sliceBounds false len len none (some (.int .i64 (h : Int))) none).run P w = .ok (0, h, len) w := by
    simp [Instr.sliceBounds, Instr.sliceBound, asIntOf, hle]
  simp only [execOp, hρ x _ hx, Option.map_some, Option.map_none, hρ hi _ hh, Instr.sliceAt, run_underlying ht, Sem.run_bind, Result.andThen_ok, Instr.sureAddr, Sem.run_pure, hb, pT hs]
  rw [if_neg (by omega)]
  simp [Addr.add]
  try exact fun h => h.symm
theorem fmt_ok {w : World} {b : Nat} {U : TypeId} (hB : w.heap[b]? = some (.cells Lib.zeros24 U (0, 0))) (u : Nat) (hu : u < 18446744073709551616) :
    Calls Tryz.prog 128 #[.slice (some ⟨b, 0, none⟩) (Lib.nDigits u) 24, .int .u64 u] w (Ret fun v w' => v = .tuple #[] ∧ CellsAt w' b 0 (fC (iI u)) ∧ Evo [b] w w') := by
  have h20 := Lib.nDigits_le20 u hu
  have hH := HW hB (Lib.nDigits u) (by omega)
  have h1 := hJ b 0 24 u (Array.replicate (Lib.nDigits u) 0) w hH (by rw [Array.size_replicate]; exact Lib.lt_pow_nDigits u) hu (by rw [Array.size_replicate]; omega)
  rw [Array.size_replicate] at h1
  refine h1.mono ?_
  rintro e w' ⟨rfl, k, v', dk, rfl, hF⟩
  refine ⟨_, rfl, rfl, ?_, DV dk (iJ hB) k⟩
  rw [← tI]
  intro j v hj
  have hjl : j < (Lib.decDigits u).length := by
    have h5 := (List.getElem?_eq_some_iff.1 hj).1
    rwa [Lib.byteCells_length] at h5
  have e5 : (Lib.byteCells (Lib.decDigits u))[j]? = some (Value.int .u8 ((Lib.decDigits u)[j].toNat : Int)) := by simp [Lib.byteCells, hjl]
  rw [e5] at hj
  cases hj
  rw [Lib.row_is_numeral hF j hjl, World.cell?_drewN]
  exact cell?_putRow (fun (b : UInt8) => Value.int .u8 (b.toNat : Int)) _ b 0 _ dk hH (by rw [hF.size, Array.size_replicate]) j (by rw [hF.size]; rw [Lib.decDigits_length] at hjl; exact hjl)
theorem DU {P : Program} {σ : Env} {o : Oper} {w : World} {b : Bool} (h : Ex P σ o w (.bool b) w) (hb : b = true) : Ex P σ o w (.bool true) w := hb ▸ h
theorem jP {P : Program} {σ : Env} {o : Oper} {w : World} {b : Bool} (h : Ex P σ o w (.bool b) w) (hb : b = false) : Ex P σ o w (.bool false) w := hb ▸ h
theorem JE {w : World} (u : Nat) (h : u < 100) : Calls Tryz.prog 126 #[.int .i64 u] w (Ret fun v w' => v = .string (bstr (iI u)) ∧ Evo [] w w') := by
  refine (jJ u h w).mono ?_
  rintro e w' ⟨rfl, rfl⟩
  exact ⟨_, rfl, by rw [IF], Evo.refl _ _⟩
theorem ndig_ok {w : World} (hP : P10 w) (u : Nat) (h1 : 1 ≤ u) (h2 : u < 18446744073709551616) : Calls Tryz.prog 127 #[.int .u64 u] w (Ret fun v w' => v = .int .i64 (Lib.nDigits u) ∧ Evo [] w w') := by
  refine (iE u h1 h2 w hP).mono ?_
  rintro e w' ⟨rfl, rfl⟩
  exact ⟨_, rfl, rfl, Evo.refl _ _⟩
theorem EF {w : World} {a : Option Addr} {n c : Nat} {xs : List Value} {ob : Option Nat} (hO : OwnS w 5 1 a n c xs ob) (hn : n ≤ 1000000000) (hP : P10 w) (hg : gP ∉ ob.toList) (u : Nat) (hu : u < 18446744073709551616) :
    Calls Tryz.prog 115 #[.slice a n c, .int .u64 u, .int .i64 10] w (Ret fun v w' => ∃ a' c' ob', v = .slice a' (n + (iI u).length) c' ∧ OwnS w' 5 1 a' (n + (iI u).length) c' (xs ++ fC (iI u)) ob' ∧ Evo ob.toList w w' ∧ (ob' = ob ∨ ∃ g, ob' = some g ∧ w.heap.size ≤ g)) := by
  have h20 := Lib.nDigits_le20 u hu; have hdl := LI (u := u); have h1d := Lib.nDigits_pos u; refine aU (N := 36) Tryz.func115 rfl rfl rfl ?_; refine csr (wan (aL (csr (aD (aC (DU (qA rfl rfl) (decide_eq_true rfl)) ?_))))); refine wnn (eX rfl ?_); refine aL (csr (aD (aC (cE rfl rfl) ?_))); refine wnn (bP rfl (fun O => ?_) (fun O => ?_))
  ·refine csr (aD (aD ?_))
   refine aC (jQ rfl Tryz.underlying95 Tryz.underlying3 (by simp [IntKind.min, IntKind.signed, IntKind.bits] <;> omega) (by simp [IntKind.max, IntKind.signed, IntKind.bits] <;> omega)) ?_
   refine aG (vs := [_]) uL rfl (JE u (by omega)) rfl ?_; rintro _ w1 ⟨rfl, L⟩; have M := (Evo.refl ob.toList w).then L; have hsz0 := (M).size; refine dB rfl rfl rfl rfl nN (hO.evo0 L) (Src.bstr (FZ u)) (by omega) fun a2 c2 w7 ob2 A U hob11 => ?_
   have F := M.step U (by intro y hy; left; simpa using hy)
   have hob2 : ob2 = ob ∨ ∃ g, ob2 = some g ∧ w.heap.size ≤ g := (hob11).imp id fun ⟨g, h1, h2⟩ => ⟨g, h1, Nat.le_trans hsz0 h2⟩; refine wan (aS (aI (aI (br1 ?_))))
   first | exact ⟨_, _, _, rfl, A, F, hob2⟩ | (rw [← hdl] at *; exact ⟨_, _, _, rfl, A, F, hob2⟩)
  refine aR (aB (csr (dE rfl uF fun b7 a0 V D G => ?_))); have Y := D; have H := (Evo.refl ob.toList w).then G; refine wnn (csr (aD ?_)); refine aG (vs := [_]) uK rfl (ndig_ok (hP.evo H hg) u (by omega) hu) rfl ?_; rintro _ a1 ⟨rfl, E⟩; refine wan (csr (aD ?_)); refine aC (BA rfl rfl Tryz.underlying179 rG rfl (by omega) (by decide)) ?_; refine aD (aG (vs := [_, _]) uJ rfl (fmt_ok (E.blk0 V) u hu) rfl ?_); rintro _ a3 ⟨rfl, hcs, I⟩; have J := (H.then E).step I (Ge.new (Evo.refl ob.toList w) D).mem1; have hsz0 := (J).size; refine wnn (csr (aD (aD ?_))); refine aC (BA rfl rfl Tryz.underlying179 rG rfl (by omega) (by decide)) ?_
  refine dB rfl rfl rfl rfl mK (((hO.evo0 G).evo0 E).evo I (Apart.new (Lt.own hO) D).own1) (Src.slice (by simp [fC, hdl]) hcs (fun v hv => by obtain ⟨x, _, rfl⟩ := List.mem_map.1 hv; rfl)) (by omega) fun a2 c2 a4 ob2 A W hob36 => ?_
  have K := J.step W (by intro y hy; left; simpa using hy)
  have hob2 : ob2 = ob ∨ ∃ g, ob2 = some g ∧ w.heap.size ≤ g := (hob36).imp id fun ⟨g, h1, h2⟩ => ⟨g, h1, Nat.le_trans hsz0 h2⟩; refine wan (aS (aI (br1 ?_)))
  first | exact ⟨_, _, _, rfl, A, K, hob2⟩ | (rw [← hdl] at *; exact ⟨_, _, _, rfl, A, K, hob2⟩)
theorem IL {w : World} {a : Option Addr} {n c : Nat} {xs : List Value} {ob : Option Nat} (hO : OwnS w 5 1 a n c xs ob) (hn : n ≤ 1000000000) (hP : P10 w) (hg : gP ∉ ob.toList) (u : Nat) (hu : u < 1000000000000000) :
    Calls Tryz.prog 94 #[.slice a n c, .int .i64 u, .int .i64 10] w (Ret fun v w' => ∃ a' c' ob', v = .slice a' (n + (iI u).length) c' ∧ OwnS w' 5 1 a' (n + (iI u).length) c' (xs ++ fC (iI u)) ob' ∧ Evo ob.toList w w' ∧ (ob' = ob ∨ ∃ g, ob' = some g ∧ w.heap.size ≤ g)) := by
  refine aU (N := 21) Tryz.func94 rfl rfl rfl ?_; refine csr (wan (csr (aD ?_)))
  refine aC (jQ rfl Tryz.underlying2 Tryz.underlying95 (by simp [IntKind.min, IntKind.signed, IntKind.bits]) (by simp [IntKind.max, IntKind.signed, IntKind.bits]; omega)) ?_
  refine wan (aL (csr (aD ?_))); refine aC (jP (cE rfl rfl) (decide_eq_false (by omega))) ?_; refine wnn (cY rfl ?_); refine aR (aB (csr (aD (aD (aD ?_))))); refine aG (vs := [_, _, _]) uM rfl (EF hO hn hP hg u (by omega)) rfl ?_; rintro _ w1 ⟨a2, c2, ob2, rfl, A, D, hob2⟩
  have E := (Evo.refl ob.toList w).step D (by intro y hy; left; simpa using hy)
  refine wan (aS (br1 ?_)); exact ⟨a2, c2, ob2, rfl, A, E, hob2⟩
theorem appI_ok {w : World} {a : Option Addr} {n c : Nat} {xs : List Value} {ob : Option Nat} (hO : OwnS w 5 1 a n c xs ob) (hn : n ≤ 1000000000) (hP : P10 w) (hg : gP ∉ ob.toList) (u : Nat) (hu : u < 1000000000000000) :
    Calls Tryz.prog 70 #[.slice a n c, .int .i64 u, .int .i64 10] w (Ret fun v w' => ∃ a' c' ob', v = .slice a' (n + (iI u).length) c' ∧ OwnS w' 5 1 a' (n + (iI u).length) c' (xs ++ fC (iI u)) ob' ∧ Evo ob.toList w w' ∧ (ob' = ob ∨ ∃ g, ob' = some g ∧ w.heap.size ≤ g)) := by
  refine aU (N := 11) Tryz.func70 rfl rfl rfl ?_; refine csr (wan (csr (aD (aD (aD (aG (vs := [_, _, _]) xL rfl (IL hO hn hP hg u hu) rfl ?_)))))); rintro _ w1 ⟨a2, c2, ob2, rfl, A, D, hob2⟩
  have E := (Evo.refl ob.toList w).step D (by intro y hy; left; simpa using hy)
  refine wan (aS (br1 ?_)); exact ⟨a2, c2, ob2, rfl, A, E, hob2⟩
theorem qJ : oU Tryz.prog 101 101 = some (9, 1, 16) := by kernel_rfl
theorem yA : dC Tryz.prog 48 := ⟨_, Tryz.func48, by kernel_rfl, by kernel_rfl⟩
theorem xQ : dC Tryz.prog 69 := ⟨_, Tryz.func69, by kernel_rfl, by kernel_rfl⟩
theorem xP : dC Tryz.prog 70 := ⟨_, Tryz.func70, by kernel_rfl, by kernel_rfl⟩
theorem uI : vJ Tryz.prog 101 = some (9, 1, 16, #[.string ByteArray.empty]) := by kernel_rfl
theorem rF : eS Tryz.prog 9 = some 1 := by kernel_rfl
theorem tR : iF Tryz.prog 101 = some (9, 1) := by kernel_rfl
theorem uH : iF Tryz.prog 83 = some (5, 1) := by kernel_rfl
theorem uG : oA Tryz.prog 128 = some #[.string ByteArray.empty, .string ByteArray.empty] := by kernel_rfl
def wC (s : ByteArray) : List Nat := s.data.toList.map UInt8.toNat
theorem oC (s : ByteArray) : (wC s).length = s.size := by
  rw [wC, List.length_map]
  exact Array.length_toList
theorem ES (s : ByteArray) : ∀ b, b ∈ wC s → b < 256 := fun b hb => by
  obtain ⟨x, _, rfl⟩ := List.mem_map.1 hb
  exact UInt8.toNat_lt x
theorem qC (s : ByteArray) : bstr (wC s) = s := by
  have h : (s.data.toList.map UInt8.toNat).map UInt8.ofNat = s.data.toList := by
    rw [List.map_map]
    conv => rhs; rw [← List.map_id s.data.toList]
    refine List.map_congr_left fun b _ => ?_
    simp
  simp [bstr, wC, h]
def gV (s : ByteArray) : List Nat := iI s.size ++ (58 :: wC s)
def oL (l : LB) (j : Nat) : List Nat := if j = 0 then [] else if j = 1 then gV l.1 else gV l.1 ++ gV l.2
def mG (l : LB) (j : Nat) : ByteArray := if j = 0 then l.1 else l.2
def fE : List LB → List Nat
  | [] => []
  | l :: r => gV l.1 ++ gV l.2 ++ fE r
theorem KP (a b : List LB) : fE (a ++ b) = fE a ++ fE b := by
  induction a with
  | nil => rfl
  | cons l r ih => simp only [List.cons_append, fE, ih, List.append_assoc]
theorem vL {ls : List LB} {k : Nat} (hk : k < ls.length) : fE (ls.take (k + 1)) = fE (ls.take k) ++ oL ls[k] 2 := by
  rw [List.take_succ_eq_append_getElem hk, KP]
  simp only [fE, List.append_nil]
  rfl
theorem KR (l : LB) {j : Nat} (hj : j < 2) : (#[Value.string l.1, Value.string l.2] : Array Value)[j]? = some (.string (mG l j)) := by
  obtain rfl | rfl : j = 0 ∨ j = 1 := by omega
  · rfl
  · rfl
theorem gP_own {w : World} {ob : Option Nat} (hP : P10 w) (hg : Ge w ob) : gP ∉ ob.toList := fun h => by
  cases ob with
  | none => simp at h
  | some g => simp at h; have h1 := hg g rfl; have h2 := hP.lt; omega
theorem KX {w : World} {ob : Option Nat} (h : ∃ g, ob = some g ∧ w.heap.size ≤ g) : Ge w ob := fun g e => by
  obtain ⟨g', e', h⟩ := h
  rw [e'] at e; cases e; exact h
theorem nS (a b : List Nat) : fC (a ++ b) = fC a ++ fC b := List.map_append
theorem sX {l : LB} {j : Nat} (hj : j < 2) : oL l (j + 1) = oL l j ++ gV (mG l j) := by
  obtain rfl | rfl : j = 0 ∨ j = 1 := by omega
  · rfl
  · rfl
theorem lH {s : ByteArray} (h : s.size ≤ 1000) : (gV s).length ≤ 1021 := by
  have := BD (u := s.size) (by omega)
  simp only [gV, List.length_append, List.length_cons, oC]
  omega
theorem HX {l : LB} {j : Nat} (h1 : l.1.size ≤ 1000) (h2 : l.2.size ≤ 1000) : (oL l j).length ≤ 2042 := by
  have k1 := lH h1
  have k2 := lH h2
  unfold oL
  split
  · simp
  · split
    · omega
    · rw [List.length_append]; omega
theorem KO {ls : List LB} (h : ∀ l, l ∈ ls → l.1.size ≤ 1000 ∧ l.2.size ≤ 1000) : (fE ls).length ≤ ls.length * 2042 := by
  induction ls with
  | nil => simp [fE]
  | cons l r ih =>
    have h1 := lH (h l (by simp)).1
    have h2 := lH (h l (by simp)).2
    have h3 := ih (fun m hm => h m (by simp [hm]))
    simp only [fE, List.length_append, List.length_cons]
    omega
theorem IC {P : Program} {σ : Env} {w : World} {dst : Option Nat} {T : TypeId} {pos : String} {after : Array Edge} {g : Option (Nat × Bool)} {x i : Operand} {t e : TypeId} {k : IntKind} {len j : Nat} {cs : Array Value} {v : Value} (hx : σ.ev x = some (.agg cs)) (hi : σ.ev i = some (.int k (j : Nat))) (ht : P.underlying t = some (.array len e)) (hs : eS P e = some 1) (ha : hD P e = some false) (hj : j < len) (hv : cs[j]? = some v) :
    Ex P σ ⟨dst, .index t x i, T, pos, after, g⟩ w v w := fun ρ h => by
  have h1 : 0 ≤ (j : Int) ∧ (j : Int) < len := ⟨by omega, by omega⟩
  simp only [execOp, h x _ hx, h i _ hi, Instr.index, asIntOf, run_underlying ht, Sem.run_bind, Result.andThen_ok, Sem.run_pure, if_pos h1, pT hs, part, kW ha]
  simp [hv]
theorem key_ok {X : List Nat} {w : World} {v nv : Value} {ls : List LB} {nms : List ByteArray} (hs : RSl 2 RLB X w v ls) (hl : ls.length ≤ 1000) (hn : RSl 1 RStr [] w nv nms) (hnl : nms.length ≤ 1000000) (hall : ∀ l, l ∈ ls → l.1 ∈ nms) (hb : ∀ l, l ∈ ls → l.1.size ≤ 1000 ∧ l.2.size ≤ 1000) (hP : P10 w) :
    Calls Tryz.prog 48 #[v, nv, .bool false] w (Ret fun r w' => r = .string (bstr (fE ls)) ∧ Evo [] w w') := by
  have c6 := hs; obtain ⟨sa, sc, rfl, hlc, e1⟩ := hs; refine aU (N := 45) Tryz.func48 rfl rfl rfl ?_; refine csr (wan (csr (wan (aL (csr (aD (aC (aP rfl Tryz.underlying42 rfl) ?_))))))); refine aD (wnn (aZ (cH (α := Nat × Nat × Option Addr × Nat × Option Nat) ((0, 0, none, 0, none)) (fun y => [(14, .int .i64 (y.1 : Nat)), (7, .slice y.2.2.1 y.2.1 y.2.2.2.1)]) [(1, _), (2, _), (6, _), (12, _), (13, _)] (fun y wr => Evo [] w wr ∧ (y.1 ≤ ls.length ∧ y.2.1 = (fE (ls.take y.1)).length ∧ OwnS wr 5 1 y.2.2.1 y.2.1 y.2.2.2.1 (fC (fE (ls.take y.1))) y.2.2.2.2 ∧ Ge w y.2.2.2.2)) (fun y => ls.length - y.1) ⟨rfl, rfl, trivial⟩ ⟨rfl, rfl, rfl, rfl, rfl, trivial⟩ ⟨(Evo.refl [] w), ⟨Nat.zero_le _, rfl, OwnS.nil _ _ _, Ge.nil _⟩⟩ ?_))); rintro ⟨k, n, a, c, ob⟩ wr1 ⟨H, ⟨hk, a0, E, a1⟩⟩; show CW _ _ _ _ [(14, .int .i64 (k : Nat)), (7, .slice a n c), (1, _), (2, _), (6, _), (12, _), (13, _)] _
  try dsimp only at hk a0 E a1
  refine csr (aC (cE rfl rfl) ?_); refine wnn (aL (bP rfl (fun a6 => ?_) (fun a6 => ?_)))
  ·have hk' : k < ls.length := by omega
   obtain ⟨b1, o1, vs1, ha1, hb1, -, b6, rfl, hz1, hz2⟩ := e1 k hk'; have hlb := hb _ (List.getElem_mem hk'); have hkl := KO (ls := ls.take k) (fun l hl => hb l (List.mem_of_mem_take hl)); rw [List.length_take] at hkl
   have hnb : (fE (ls.take k)).length ≤ 2042000 := by omega
   refine aR (aB (aL (aZ (csr ?_))))
   refine aC (cS (n := k) (by rw [ha1]; rfl) rfl bZ (by omega)) ?_
   refine aC (dQ rfl eE cI (vs := [_, _]) rfl (b6.evo ((H).any X) hb1)) ?_; refine dE rfl fH fun bp w3 b7 I a5 => ?_; have b8 := I; refine bT rfl rfl cI b7 rfl rfl ⟨by first | rfl | assumption, by first | rfl | assumption, trivial⟩ fun c7 G J => ?_; have K := (H.then a5).step J (Ge.new H I).mem1; refine wnn (csr (wfl rfl cD rfl bR G rfl (aD (aD ?_)))); refine aG (vs := [_, _, _]) xQ rfl (JD (RSl.evo RStr.pers K hn) (by omega) (ls[k]).1) rfl ?_; rintro _ c8 ⟨b, rfl, hbs, A⟩; obtain rfl : b = true := hbs.2 (hall _ (List.getElem_mem hk')); refine wnn (eX rfl ?_); refine csr (wfl rfl cD rfl bR (A.blk0 G) rfl (wfl rfl cT rfl bR (A.blk0 G) rfl ?_)); refine aC (IB (vs := [(0, _), (1, _)]) Tryz.underlying128 uG rF rfl (cells := #[.string ls[k].1, .string ls[k].2]) (by kernel_rfl)) ?_; refine aD (wnn (aZ ?_))
   refine cH (α := Nat × Nat × Option Addr × Nat × Option Nat) ((0, n, a, c, ob)) (fun x => [(28, .int .i64 (x.1 : Nat)), (7, .slice x.2.2.1 x.2.1 x.2.2.2.1)]) [(1, _), (2, _), (6, _), (12, _), (13, _), (14, _), (27, _)] (fun x wr => Evo [] w wr ∧ (x.1 ≤ 2 ∧ x.2.1 = (fE (ls.take k) ++ oL ls[k] x.1).length ∧ OwnS wr 5 1 x.2.2.1 x.2.1 x.2.2.2.1 (fC (fE (ls.take k) ++ oL ls[k] x.1)) x.2.2.2.2 ∧ Ge w x.2.2.2.2)) (fun x => 2 - x.1) ⟨rfl, rfl, trivial⟩ ⟨rfl, rfl, rfl, rfl, rfl, rfl, rfl, trivial⟩ ⟨(K.then A), ⟨Nat.zero_le _, by rw [a0]; simp [oL], by simpa [oL] using (((E.evo0 a5).evo J (Apart.new (Lt.own E) I).own1).evo0 A), a1⟩⟩ ?_
   rintro ⟨j, n, a, c, ob⟩ wr21 ⟨D, ⟨hj, L, M, F⟩⟩; show CW _ _ _ _ [(28, .int .i64 (j : Nat)), (7, .slice a n c), (1, _), (2, _), (6, _), (12, _), (13, _), (14, _), (27, _)] _
   try dsimp only at hj L M F
   refine csr (aC (cE rfl rfl) ?_); refine wnn (aL (bP rfl (fun a7 => ?_) (fun a7 => ?_)))
   ·have hj' : j < 2 := by omega
    have hhl := HX (j := j) hlb.1 hlb.2
    have hht : (mG ls[k] j).size ≤ 1000 := by unfold mG; split; exact hlb.1; exact hlb.2
    have hdl := BD (u := (mG ls[k] j).size) (by omega); have htl := oC (mG ls[k] j); rw [List.length_append] at L; refine aR (aB (aL (aZ (csr (aC (IC (v := .string (mG ls[k] j)) rfl rfl Tryz.underlying128 rF bR hj' (KR ls[k] hj')) ?_))))); refine wan (csr (aD (aD (aC (dW rfl Tryz.underlying9 rfl) ?_)))); refine aG (vs := [_, _, _]) xP rfl (appI_ok M (by omega) (hP.evo D (by simp)) (gP_own hP F) (mG ls[k] j).size (by omega)) rfl ?_; rintro _ c9 ⟨a2, c2, ob2, rfl, b9, a8, hob2⟩; replace hob2 := hob2.imp id KX; have O := KY F D hob2; refine wan (csr (aD (cK (vs := [_]) rfl uH rfl rfl rfl rfl fun d0 d1 a9 c5 U => ?_))); have V := (D.step a8 F.mem).then U; refine dB rfl rfl rfl rfl mK (b9.evo0 U) (Src.ofOwn a9 ⟨rfl, trivial⟩) (by omega) fun a3 c3 d2 ob3 c0 b4 hob42 => ?_; have W := O.app V hob42; have Y := V.step b4 O.mem; refine wan (aQ (aD (aD ?_)))
    refine dB rfl rfl rfl rfl nN c0 (by rw [← qC (mG ls[k] j)]; exact Src.bstr (ES _)) (by omega) fun a4 c4 d3 ob4 c1 b5 hob53 => ?_
    refine cL (aE (bC (aB (aQ ?_)))); refine aC (aT rfl rfl (by omega) (by omega)) ?_; refine aD (aE (aM ?_)); refine ⟨⟨j + 1, n + (iI (mG ls[k] j).size).length + 1 + (wC (mG ls[k] j)).length, a4, c4, ob4⟩, ?_, ⟨rfl, rfl, trivial⟩, ⟨rfl, rfl, rfl, rfl, rfl, rfl, rfl, trivial⟩, (Y.step b5 W.mem), ?_⟩
    · (try dsimp only); omega
    try dsimp only
    have hfin := c1; refine ⟨by omega, ?_, ?_, (W.app Y hob53)⟩
    · rw [sX hj']; simp only [gV, List.length_append, List.length_cons]; omega
    · rw [sX hj', gV, nS, nS, nS]; simpa [fC, List.append_assoc, show (Value.int IntKind.u8 58).cells.toList = [Value.int IntKind.u8 58] from rfl] using hfin
   obtain rfl : j = 2 := by omega
   refine bJ (bD (bD (bI (bC (aB ?_))))); refine aQ ?_; refine aC (aT rfl rfl (by omega) (by omega)) ?_; refine aD (aE (aM ?_)); refine ⟨⟨k + 1, n, a, c, ob⟩, ?_, ⟨rfl, rfl, trivial⟩, ⟨rfl, rfl, rfl, rfl, rfl, trivial⟩, D, ?_⟩
   · (try dsimp only); omega
   try dsimp only
   exact ⟨by omega, by rw [vL hk']; exact L, by rw [vL hk']; exact M, F⟩
  obtain rfl : k = ls.length := by omega
  rw [List.take_length] at E; refine bJ (bD (bD (bI (aB ?_)))); refine csr (aD (aC (AZ (l := fE ls) (ob := ob) rfl Tryz.underlying83 Tryz.underlying5 Tryz.underlying9 ⟨_, E⟩) ?_)); refine wan (aS (br1 ?_)); exact ⟨rfl, H⟩
theorem JS {X : List Nat} {w : World} {e : TypeId} {a : Option Addr} {n c : Nat} {l : List ByteArray} {ob : Option Nat} (h : OwnS w e 1 a n c (l.map Value.string) ob) (hl : l.length = n) (hx : ∀ g, ob = some g → g ∉ X) : RSl 1 RStr X w (.slice a n c) l := by
  subst hl
  refine ⟨a, c, rfl, h.le, fun k hk => ?_⟩
  obtain ⟨g, hob, ha, hc⟩ := h.cells (by omega)
  refine ⟨g, 0, [.string l[k]], ha, hx g hob, rfl, ?_, rfl⟩
  intro j v hj
  obtain rfl : j = 0 := by
    have := (List.getElem?_eq_some_iff.1 hj).1
    simp at this; omega
  have := hc k (.string l[k]) (by simp [hk])
  simp at hj; subst hj
  simpa using this
theorem zG {X : List Nat} {w : World} {v : Value} {ls : List LB} (hs : RSl 2 RLB X w v ls) (hl : ls.length ≤ 1000) (hb : ∀ l, l ∈ ls → l.1.size ≤ 1000 ∧ l.2.size ≤ 1000) (hP : P10 w) :
    Calls Tryz.prog 25 #[v] w (Ret fun r w' => r = .string (bstr (fE ls)) ∧ Evo [] w w') := by
  have Y := hs; obtain ⟨sa, sc, rfl, hlc, e1⟩ := hs; refine aU (N := 24) Tryz.func25 rfl rfl rfl ?_; refine csr (wan (csr (aD (aC (aP rfl Tryz.underlying42 rfl) ?_)))); refine rN (len := 0) (c := ls.length) rfl rfl rfl uI (by rfl) (by omega) (by omega) (by decide) (by omega) (by omega) fun b0 w2 a0 a1 a2 => ?_; refine wan (aL (csr (aD (aC (aP rfl Tryz.underlying42 rfl) ?_)))); refine aD (wnn (aZ ?_)); refine cH (α := Nat × Nat × Option Addr × Nat × Option Nat) ((0, 0, some ⟨b0, 0, none⟩, ls.length, some b0)) (fun y => [(11, .int .i64 (y.1 : Nat)), (3, .slice y.2.2.1 y.2.1 y.2.2.2.1)]) [(0, _), (2, _), (9, _), (10, _)] (fun y wr => Evo [] w wr ∧ (y.1 ≤ ls.length ∧ y.2.1 = y.1 ∧ OwnS wr 9 1 y.2.2.1 y.2.1 y.2.2.2.1 (((ls.take y.1).map (·.1)).map Value.string) y.2.2.2.2 ∧ Ge w y.2.2.2.2)) (fun y => ls.length - y.1) ⟨rfl, rfl, trivial⟩ ⟨rfl, rfl, rfl, rfl, trivial⟩ ⟨((Evo.refl [] w).then a2), ⟨Nat.zero_le _, rfl, by simpa [gW] using a0, (Ge.new (Evo.refl [] w) a1)⟩⟩ ?_; rintro ⟨k, n, a, c, ob⟩ wr8 ⟨A, ⟨hk, K, D, F⟩⟩; show CW _ _ _ _ [(11, .int .i64 (k : Nat)), (3, .slice a n c), (0, _), (2, _), (9, _), (10, _)] _
  try dsimp only at hk K D F
  refine csr (aC (cE rfl rfl) ?_); refine wnn (aL (bP rfl (fun L => ?_) (fun L => ?_)))
  ·have hk' : k < ls.length := by omega
   obtain ⟨b1, o1, vs1, ha1, hb1, -, a4, rfl, hz1, hz2⟩ := e1 k hk'; refine aR (aB (aL (aZ (csr ?_))))
   refine aC (cS (n := k) (by rw [ha1]; rfl) rfl bZ (by omega)) ?_
   refine aC (dQ rfl eE cI (vs := [_, _]) rfl (a4.evo ((A).any X) hb1)) ?_; refine dE rfl fH fun bp a8 M E G => ?_; have a5 := E; refine bT rfl rfl cI M rfl rfl ⟨by first | rfl | assumption, by first | rfl | assumption, trivial⟩ fun a9 O H => ?_; refine wnn (aQ (aD (wfl rfl cD rfl bR O rfl (cK (vs := [_]) rfl tR rfl rfl rfl rfl fun b4 b5 U a7 I => ?_)))); have J := ((A.then G).step H (Ge.new A E).mem1).then I; refine dB rfl rfl rfl rfl qJ (((D.evo0 G).evo H (Apart.new (Lt.own D) E).own1).evo0 I) (Src.ofOwn U ⟨rfl, trivial⟩) (by omega) fun a3 c3 b6 ob3 a6 V hob40 => ?_; refine cL (aE (bC (aB (aQ ?_)))); refine aC (aT rfl rfl (by omega) (by omega)) ?_; refine aD (aE (aM ?_)); refine ⟨⟨k + 1, n + 1, a3, c3, ob3⟩, ?_, ⟨rfl, rfl, trivial⟩, ⟨rfl, rfl, rfl, rfl, trivial⟩, (J.step V F.mem), ?_⟩
   · (try dsimp only); omega
   try dsimp only
   have hfin := a6; refine ⟨by omega, by omega, ?_, (F.app J hob40)⟩
   rw [List.take_succ_eq_append_getElem hk', List.map_append, List.map_append]; exact hfin
  obtain rfl : k = ls.length := by omega
  rw [List.take_length] at D; subst K; refine bJ (bD (bD (bI (aB ?_)))); refine csr (aD (aD ?_))
  refine aG (vs := [_, _, _]) yA rfl (key_ok (RSl.evo RLB.pers ((A).any X) Y) hl (JS (X := []) D (by simp) (by simp)) (by simp; omega) (fun l hl => List.mem_map.2 ⟨l, hl, rfl⟩) hb (hP.evo A (by simp))) rfl ?_
  rintro _ b7 ⟨rfl, W⟩; refine wan (aS (br1 ?_)); exact ⟨rfl, (A.then W)⟩
theorem tT : oU Tryz.prog 24 24 = some (45, 2, 48) := by kernel_rfl
theorem jY : oU Tryz.prog 42 42 = some (58, 2, 32) := by kernel_rfl
theorem mL : oU Tryz.prog 43 43 = some (50, 3, 24) := by kernel_rfl
theorem dU : eS Tryz.prog 45 = some 2 := by kernel_rfl
theorem nI : iF Tryz.prog 24 = some (45, 2) := by kernel_rfl
theorem gY : iF Tryz.prog 42 = some (58, 2) := by kernel_rfl
theorem iR : iF Tryz.prog 43 = some (50, 3) := by kernel_rfl
def MC {α : Type} (e : TypeId) (sz : Nat) (R : Rel α) (X : List Nat) (w w' : World) (r : Value) (ds : List α) : Prop :=
  ∃ a c ob rows, r = .slice a ds.length c ∧ OwnS w' e sz a ds.length c (List.flatten rows) ob ∧ RowsOk sz R X w rows ds ∧ Ge w ob ∧ Evo [] w w'
theorem BG {α : Type} {R : Rel α} {X : List Nat} {w : World} {v : Value} {ds : List α} (hs : RSl 2 R X w v ds) (h1 : ∀ X w vs d, R X w vs d → ∀ u, u ∈ vs → u.oneCell' = true) (hl : ds.length ≤ 10000000) :
    Calls Tryz.prog 27 #[v] w (Ret fun r w' => MC 45 2 R X w w' r ds) := by
  have F := hs; obtain ⟨sa, sc, rfl, hlc, e1⟩ := hs
  have hnil : sa = none → ds = [] := fun h => by
    cases hd : ds with
    | nil => rfl
    | cons x r => obtain ⟨b, o, vs, ha, -⟩ := e1 0 (by simp [hd]); rw [h] at ha; cases ha
  refine aU (N := 8) Tryz.func27 rfl rfl rfl ?_; refine csr (wan (aL (csr (aD (aC (FU rfl rfl Tryz.underlying24) ?_))))); refine wnn (dX rfl (fun A => ?_) (fun A => ?_))
  ·refine csr (wan (aS (aI (br1 ?_)))); obtain rfl : ds = [] := hnil (by simpa using A); exact ⟨none, 0, none, [], rfl, OwnS.nil _ _ _, ⟨rfl, fun k h => by simp at h⟩, Ge.nil _, (Evo.refl [] w)⟩
  refine aR (aB (csr (cK (vs := []) rfl nI rfl rfl rfl rfl fun b1 w2 G H I => ?_))); have D := Ge.new (Evo.refl [] w) H; have y := (Evo.refl [] w).then I; refine aD ?_; obtain ⟨rows, hrows, hsrc⟩ := RSl.rows (P := Tryz.prog) F ((y).any X) h1; refine dB rfl rfl rfl rfl tT G hsrc (by omega) fun a2 c2 K ob2 J E hob14 => ?_; refine wan (aS (br1 ?_)); have hfin := J; rw [Nat.zero_add] at hfin; exact ⟨a2, c2, ob2, rows, by rw [Nat.zero_add], by simpa using hfin, hrows, (D.app y hob14), (y.step E D.mem)⟩
theorem tE {α : Type} {R : Rel α} {X : List Nat} {w : World} {v : Value} {ds : List α} (hs : RSl 2 R X w v ds) (h1 : ∀ X w vs d, R X w vs d → ∀ u, u ∈ vs → u.oneCell' = true) (hl : ds.length ≤ 10000000) :
    Calls Tryz.prog 32 #[v] w (Ret fun r w' => MC 58 2 R X w w' r ds) := by
  have F := hs; obtain ⟨sa, sc, rfl, hlc, e1⟩ := hs
  have hnil : sa = none → ds = [] := fun h => by
    cases hd : ds with
    | nil => rfl
    | cons x r => obtain ⟨b, o, vs, ha, -⟩ := e1 0 (by simp [hd]); rw [h] at ha; cases ha
  refine aU (N := 8) Tryz.func32 rfl rfl rfl ?_; refine csr (wan (aL (csr (aD (aC (FU rfl rfl Tryz.underlying42) ?_))))); refine wnn (dX rfl (fun A => ?_) (fun A => ?_))
  ·refine csr (wan (aS (aI (br1 ?_)))); obtain rfl : ds = [] := hnil (by simpa using A); exact ⟨none, 0, none, [], rfl, OwnS.nil _ _ _, ⟨rfl, fun k h => by simp at h⟩, Ge.nil _, (Evo.refl [] w)⟩
  refine aR (aB (csr (cK (vs := []) rfl gY rfl rfl rfl rfl fun b1 w2 G H I => ?_))); have D := Ge.new (Evo.refl [] w) H; have y := (Evo.refl [] w).then I; refine aD ?_; obtain ⟨rows, hrows, hsrc⟩ := RSl.rows (P := Tryz.prog) F ((y).any X) h1; refine dB rfl rfl rfl rfl jY G hsrc (by omega) fun a2 c2 K ob2 J E hob14 => ?_; refine wan (aS (br1 ?_)); have hfin := J; rw [Nat.zero_add] at hfin; exact ⟨a2, c2, ob2, rows, by rw [Nat.zero_add], by simpa using hfin, hrows, (D.app y hob14), (y.step E D.mem)⟩
theorem cA : hD Tryz.prog 24 = some false := by kernel_rfl
theorem dJ : hD Tryz.prog 26 = some true := by kernel_rfl
theorem dT : hD Tryz.prog 43 = some false := by kernel_rfl
theorem gN : hD Tryz.prog 45 = some true := by kernel_rfl
theorem dA : jE Tryz.prog 24 = some 2 := by kernel_rfl
theorem bS : dV Tryz.prog 26 0 = some 0 := by kernel_rfl
theorem dP : dV Tryz.prog 45 1 = some 1 := by kernel_rfl
theorem yS : dC Tryz.prog 24 := ⟨_, Tryz.func24, by kernel_rfl, by kernel_rfl⟩
theorem yR : dC Tryz.prog 25 := ⟨_, Tryz.func25, by kernel_rfl, by kernel_rfl⟩
theorem yQ : dC Tryz.prog 26 := ⟨_, Tryz.func26, by kernel_rfl, by kernel_rfl⟩
theorem cJ : eS Tryz.prog 26 = some 1 := by kernel_rfl
theorem iC : oA Tryz.prog 45 = some #[.slice none 0 0, .slice none 0 0] := by kernel_rfl
abbrev SD := List LB × List Smp
def RSer : Rel SD := fun X w vs d => ∃ lv pv, vs = [lv, pv] ∧ RSl 2 RLB X w lv d.1 ∧ RSl 3 RSmp X w pv d.2
theorem RSer.pers : RSer.Pers := fun _ _ _ _ _ he ⟨lv, pv, h, h1, h2⟩ => ⟨lv, pv, h, h1.evo RLB.pers he, h2.evo RSmp.pers he⟩
theorem RSer.one : ∀ X w vs d, RSer X w vs d → ∀ u, u ∈ vs → u.oneCell' = true := fun _ _ _ _ ⟨lv, pv, h, h1, h2⟩ u hu => by
  subst h
  simp at hu
  rcases hu with rfl | rfl
  · exact h1.one
  · exact h2.one
def iL (ds : List SD) : Prop := ds.length ≤ 1048577 ∧ ∀ s, s ∈ ds → s.1.length ≤ 1048577 ∧ s.2.length ≤ 1048577
open Classical in
noncomputable def eN (seen : List ByteArray) (n i : Nat) : List SD → Nat × Int
  | [] => (0, 0)
  | s :: r => if eF s.1 ≠ 0 then (i, eF s.1) else if bstr (fE s.1) ∈ seen then (i, 6) else if ¬ fU s.2 then (i, 192) else if 100000 < n + s.2.length then (i, 193) else eN (bstr (fE s.1) :: seen) (n + s.2.length) (i + 1) r
noncomputable def chk (ds : List SD) : Nat × Int := if 1000 < ds.length then (1000, 193) else eN [] 0 0 ds
theorem rC (seen : List ByteArray) (n i : Nat) : eN seen n i [] = (0, 0) := rfl
theorem gT {seen : List ByteArray} {n i : Nat} {s : SD} {r : List SD} (h1 : ¬ eF s.1 ≠ 0) (h2 : ¬ bstr (fE s.1) ∈ seen) (h3 : fU s.2) (h4 : ¬ 100000 < n + s.2.length) : eN seen n i (s :: r) = eN (bstr (fE s.1) :: seen) (n + s.2.length) (i + 1) r := by
  rw [eN, if_neg h1, if_neg h2, if_neg (fun h => h h3), if_neg h4]
theorem kG {seen : List ByteArray} {n i : Nat} {s : SD} {r : List SD} (h1 : eF s.1 ≠ 0) : eN seen n i (s :: r) = (i, eF s.1) := by
  rw [eN, if_pos h1]
theorem kH {seen : List ByteArray} {n i : Nat} {s : SD} {r : List SD} (h1 : ¬ eF s.1 ≠ 0) (h2 : bstr (fE s.1) ∈ seen) : eN seen n i (s :: r) = (i, 6) := by
  rw [eN, if_neg h1, if_pos h2]
theorem kF {seen : List ByteArray} {n i : Nat} {s : SD} {r : List SD} (h1 : ¬ eF s.1 ≠ 0) (h2 : ¬ bstr (fE s.1) ∈ seen) (h3 : ¬ fU s.2) : eN seen n i (s :: r) = (i, 192) := by
  rw [eN, if_neg h1, if_neg h2, if_pos h3]
theorem jH {seen : List ByteArray} {n i : Nat} {s : SD} {r : List SD} (h1 : ¬ eF s.1 ≠ 0) (h2 : ¬ bstr (fE s.1) ∈ seen) (h3 : fU s.2) (h4 : 100000 < n + s.2.length) : eN seen n i (s :: r) = (i, 193) := by
  rw [eN, if_neg h1, if_neg h2, if_neg (fun h => h h3), if_pos h4]
theorem oQ {ds : List SD} (h : ¬ 1000 < ds.length) : chk ds = eN [] 0 0 ds := if_neg h
theorem oP {ds : List SD} (h : 1000 < ds.length) : chk ds = (1000, 193) := if_pos h
theorem mQ {ls : List LB} (h : ¬ eF ls ≠ 0) : (kY ls ∧ ls.length ≤ 32) ∧ (∀ l, l ∈ ls → l.1.size ≤ 128 ∧ l.2.size ≤ 512) := by
  have h0 := Classical.not_not.1 h
  unfold eF at h0
  split at h0
  · rename_i h1
    split at h0
    · cases h0
    · rename_i h2
      exact ⟨h1, fun l hl => by have h3 : ¬ (128 < l.1.size ∨ 512 < l.2.size) := fun hx => h2 ⟨l, hl, hx⟩; omega⟩
  · cases h0
theorem HO (kvs : KV) (s t : ByteArray) (v : Value) : (eU (mD kvs s v) t).isSome = true ↔ t = s ∨ (eU kvs t).isSome = true := by
  induction kvs with
  | nil => simp only [mD, eU]; split <;> simp_all [eq_comm]
  | cons kv r ih =>
    simp only [mD]
    split
    · rename_i h
      simp only [eU]
      split
      · rename_i h2; simp [h2]
      · rename_i h2
        rw [if_neg (h ▸ h2)]
        constructor
        · exact .inr
        · rintro (h3 | h3)
          · exact absurd h3.symm h2
          · exact h3
    · simp only [eU]
      split
      · simp
      · exact ih
section
variable {P : Program} {N : NN} {ops : Array Oper} {R : fJ} {rest : List Oper} {σ : Env} {w w' : World} {d : Nat} {dst : Option Nat} {T : TypeId} {pos : String} {after : Array Edge} {g : Option (Nat × Bool)}
theorem zF {t k e : TypeId} {x : Operand} {z : Int} (hd : Nat.blt d N.1 = true) (hx : σ.ev x = some (.int .i64 z)) (ht : P.underlying t = some (.map k e)) (h : ∀ b w', MapAt w' b [] → w.heap.size = b → Evo [] w w' → WL P N ops R rest ((d, .map (some b)) :: σ) w') :
    WL P N ops R (⟨some d, .makeMap t (some x), T, pos, after, none⟩ :: rest) σ w := by
  refine gD (r := .map (some w.heap.size)) (w' := w.alloc (.map #[] 0)) hd (fun ρ ha => ?_) (h _ _ ⟨#[], by simpa using lA w (.map #[] 0), rfl, fun i h => by simp at h⟩ rfl (iH w _))
  have hr : (Instr.makeMap t none).run P w = .ok (.map (some w.heap.size)) (w.alloc (.map #[] 0)) := rfl
  have hr2 : (Instr.makeMap t (some (.int .i64 z))).run P w = .ok (.map (some w.heap.size)) (w.alloc (.map #[] 0)) := by
    simp only [Instr.makeMap, Sem.run_bind, run_underlying ht, Result.andThen_ok] at hr ⊢
    simp [asInt, asIntOf]
  simp [execOp, ha x _ hx, hr2]
theorem AX {t k e : TypeId} {x i : Operand} {b : Nat} {kvs : KV} {s : ByteArray} {z : Value} {p : Prop} (inst : Decidable p) (hx : σ.ev x = some (.map (some b))) (hi : σ.ev i = some (.string s)) (ht : P.underlying t = some (.map k e)) (hk : P.underlying k = some .string) (hz : IP P e = some z) (hm : MapAt w b kvs) (hp : (eU kvs s).isSome = true ↔ p) :
    Ex P σ ⟨dst, .lookup t x i true, T, pos, after, g⟩ w (.tuple #[(eU kvs s).getD z, .bool (decide p)]) w := fun ρ ha => by
  obtain ⟨es, hb, hes, _⟩ := hm
  obtain ⟨inf, hin, hz'⟩ := Option.bind_eq_some_iff.1 hz
  have h1 := lF (P := P) (w := w) k s es.isEmpty 9999 hk
  have h2 := lY (P := P) (w := w) (s := s) hk hes
  have hd : decide p = (eU kvs s).isSome := by
    cases hv : (eU kvs s).isSome with
    | true => exact decide_eq_true (hp.1 hv)
    | false => exact decide_eq_false (fun h => by have := hp.2 h; rw [hv] at this; cases this)
  rw [hd]
  simp only [execOp, ha x _ hx, ha i _ hi, Instr.lookup, Sem.run_bind, run_underlying ht, Result.andThen_ok, getObj, Sem.run, hb]
  cases hj : nA kvs s with
  | none =>
    rw [hj] at h2
    have h3 := pY hj
    simp only [Sem.run, Result.andThen, h1, h2, h3, Option.bind_none, Option.getD_none, zeroValue, typeInfo]
    simp [h1, h2, zeroValue, typeInfo, hin, hz']
  | some j =>
    rw [hj] at h2
    obtain ⟨v, h3, h4⟩ := oK hj
    rw [h4] at h2 ⊢
    simp [h1, h2]
end
theorem BH {X : List Nat} {w : World} {v : Value} {ds : List SD} (hs : RSl 2 RSer X w v ds) (hsm : iL ds) (hP : P10 w) :
    Calls Tryz.prog 9 #[.agg #[v]] w (Ret fun r w' => r = .tuple #[.int .i64 ((chk ds).1 : Nat), iv3 (chk ds).2] ∧ Evo [] w w') := by
  have c4 := hs; have hone := hs.one; have hl := hsm.1; obtain ⟨sa, sc, rfl, hlc, e1⟩ := hs; refine aU (N := 63) Tryz.func9 rfl rfl rfl ?_; refine csr (dZ rfl rfl fun b0 w1 O b5 b6 => ?_); have b8 := b5; have U := (Evo.refl [] w).then b6; refine cL (wan (aL (csr (wfl rfl bS rfl cA O rfl (aC (aP rfl Tryz.underlying24 rfl) ?_))))); refine aC (eQ rfl rfl) ?_; refine wnn (bP rfl (fun a7 => ?_) (fun a7 => ?_))
  ·refine csr (cL (wan (aS (aI (cQ rfl rfl rfl ?_)))))
   exact ⟨by rw [oP (by omega)] <;> rfl, U⟩
  refine aR (aB (csr (wfl rfl bS rfl cA O rfl (aC (aP rfl Tryz.underlying24 rfl) ?_)))); refine zF rfl rfl Tryz.underlying62 fun bm w8 b9 c0 a5 => ?_; refine wan (csr (wan (aL (csr (wfl rfl bS rfl cA (a5.blk0 O) rfl (aC (aP rfl Tryz.underlying24 rfl) ?_)))))); refine aD (wnn (aZ ?_)); refine cH (α := Nat × KV × List ByteArray × Nat) ((0, [], [], 0)) (fun y => [(23, .int .i64 (y.1 : Nat)), (5, .int .i64 (y.2.2.2 : Nat))]) [(4, _), (21, _), (22, _)] (fun y wr => Evo [] w wr ∧ (y.1 ≤ ds.length ∧ MapAt wr bm y.2.1 ∧ (∀ s, (eU y.2.1 s).isSome = true ↔ s ∈ y.2.2.1) ∧ y.2.2.2 ≤ 100000 ∧ chk ds = eN y.2.2.1 y.2.2.2 y.1 (ds.drop y.1) ∧ Ge w (some bm))) (fun y => ds.length - y.1) ⟨rfl, rfl, trivial⟩ ⟨rfl, rfl, rfl, trivial⟩ ⟨(U.then a5), ⟨Nat.zero_le _, b9, fun s => by simp [eU], Nat.zero_le _, oQ (by omega), (Ge.new U c0)⟩⟩ ?_; rintro ⟨k, kvs, seen, n⟩ wr11 ⟨G, ⟨hk, hM, hseen, hn, hchk, V⟩⟩; show CW _ _ _ _ [(23, .int .i64 (k : Nat)), (5, .int .i64 (n : Nat)), (4, _), (21, _), (22, _)] _
  try dsimp only at hk hM hseen hn hchk V
  refine csr (aC (cE rfl rfl) ?_); refine wnn (aL (bP rfl (fun a8 => ?_) (fun a8 => ?_)))
  ·have hk' : k < ds.length := by omega
   obtain ⟨b1, o1, vs1, ha1, hb1, -, c1, lv, pv, rfl, hlv, hpv⟩ := e1 k hk'; have hdk : Decidable (bstr (fE ds[k].1) ∈ seen) := Classical.propDecidable _; have hlv1 := hlv.one; have hpv1 := hpv.one; have hpv0 := hpv; have hsk := (hsm.2 _ (List.getElem_mem hk')).2; obtain ⟨pa, pc, rfl, hpc, -⟩ := hpv; have hdr := List.drop_eq_getElem_cons hk'; refine aR (aB (aL (aZ (csr (aD ?_)))))
   refine aC (cS (n := k) (by rw [ha1]; rfl) rfl dA (by omega)) ?_
   refine aC (dQ rfl gN dU (vs := [_, _]) rfl (c1.evo ((G).any X) hb1)) ?_; refine dE rfl iC fun b7 c5 a9 J W => ?_; have c2 := J; have Y := Apart.new (Lt.map hM) J; refine cL ?_; refine bT rfl rfl dU a9 rfl rfl ⟨by first | rfl | assumption, by first | rfl | assumption, trivial⟩ fun c6 K a0 => ?_; have a1 := (G.then W).step a0 (Ge.new G J).mem1; refine wnn (aL (csr (wfl rfl bX rfl cG K rfl ?_)))
   refine aG (vs := [_]) yS rfl (tF (hlv.evo RLB.pers ((a1).any X)) (by have := (hsm.2 _ (List.getElem_mem hk')).1; omega)) rfl ?_
   rintro _ c7 ⟨rfl, H⟩; have D := a1.then H; refine wan (csr (aD (aC (eO rfl rfl) ?_))); refine wnn (bP rfl (fun A => ?_) (fun A => ?_))
   ·refine csr (aD (aD (cL (wan (aS (aI (bA (aI (aI (bA (aI (cQ rfl rfl rfl ?_))))))))))))
    exact ⟨by rw [hchk, hdr, kG A] <;> rfl, D⟩
   refine aR (aB (csr (wfl rfl bX rfl cG (H.blk0 K) rfl ?_)))
   refine aG (vs := [_]) yR rfl (zG (hlv.evo RLB.pers ((D).any X)) (by have := (mQ A).1.2; omega) (fun l hl => by have := (mQ A).2 l hl; omega) (hP.evo D (by simp))) rfl ?_
   rintro _ c8 ⟨rfl, I⟩; have a2 := (((hM.evo0 W).evo a0 Y.nmem1).evo0 H).evo0 I; refine wan (aL (csr (aD (aD ?_)))); refine aC (AX (z := .int .i64 0) hdk rfl rfl Tryz.underlying62 Tryz.underlying9 (by kernel_rfl) a2 (hseen _)) ?_; refine aD (aC (cB rfl rfl) ?_); refine aC (cB rfl rfl) ?_; refine cL (wan (csr (aD (wnn (bP rfl (fun E => ?_) (fun E => ?_))))))
   ·refine csr (aD (cL (wan (aS (aI (bA (aI (aI (bA (aI (cQ rfl rfl rfl ?_)))))))))))
    exact ⟨by rw [hchk, hdr, kH A E] <;> rfl, (D.then I)⟩
   refine aR (aB (csr (aD (aD (aD (jF rfl rfl rfl Tryz.underlying62 Tryz.underlying9 a2 fun w7 c3 a6 => ?_)))))); have a3 := (D.then I).step a6 V.mem1; have a4 := a6.blk (I.blk0 (H.blk0 K)) Y.symm.nmem1; refine wnn (aL (csr (wfl rfl dP rfl dT a4 rfl ?_)))
   refine aG (vs := [_]) yQ rfl (rise_ok (hpv0.evo RSmp.pers ((a3).any X)) (by have := (hsm.2 _ (List.getElem_mem hk')).2; omega)) rfl ?_
   rintro _ c9 ⟨b, rfl, hrise, L⟩; have M := a3.then L; refine aC (eI rfl) ?_; refine wnn (dX rfl (fun F => ?_) (fun F => ?_))
   ·refine csr (aD (cL (wan (aS (aI (bA (aI (aI (bA (aI (cQ rfl rfl rfl ?_)))))))))))
    exact ⟨by rw [hchk, hdr, kF A E (fun h => by have := hrise.2 h; rw [this] at F; cases F)] <;> rfl, M⟩
   refine aR (aB (csr (aD (wfl rfl dP rfl dT (L.blk0 a4) rfl (aC (aP rfl Tryz.underlying43 rfl) ?_))))); refine aC (aT rfl rfl (by omega) (by omega)) ?_; refine wan (csr (aD (aC (eQ rfl rfl) ?_))); refine wnn (bP rfl (fun b4 => ?_) (fun b4 => ?_))
   ·refine csr (aD (cL (wan (aS (bA (aI (aI (bA (aI (cQ rfl rfl rfl ?_))))))))))
    exact ⟨by rw [hchk, hdr, jH A E (hrise.1 (by simpa using F)) (by omega)] <;> rfl, M⟩
   refine aR (bC (aB (aQ ?_))); refine aC (aT rfl rfl (by omega) (by omega)) ?_; refine aD (aE (aM ?_)); refine ⟨⟨k + 1, mD kvs (bstr (fE ds[k].1)) (.int .i64 (k : Nat)), bstr (fE ds[k].1) :: seen, n + ds[k].2.length⟩, ?_, ⟨rfl, rfl, trivial⟩, ⟨rfl, rfl, rfl, trivial⟩, M, ?_⟩
   · (try dsimp only); omega
   try dsimp only
   refine ⟨by omega, (c3.evo0 L), fun s => by rw [HO, hseen, List.mem_cons], by omega, ?_, V⟩; rw [hchk, List.drop_eq_getElem_cons hk', gT A E (hrise.1 (by simpa using F)) (by omega)]
  obtain rfl : k = ds.length := by omega
  rw [List.drop_length, rC] at hchk; refine bJ (bD (bD (bI (aB ?_)))); refine csr (cL (wan (aS (cQ rfl rfl rfl ?_))))
  exact ⟨by rw [hchk] <;> rfl, G⟩
structure Ent where
  ls : List LB
  bs : List Nat
  ps : List Smp
  op : Bool
def Ent.out (e : Ent) : List Smp := List.map fO e.ps
def Ent.Good (e : Ent) : Prop := Valid e.ps ∧ Packs e.bs (iW e.ps) ∧ e.ls.length ≤ 32
def REnt : Rel Ent := fun X w vs e => ∃ lv pv qv, vs = [lv, pv, qv, .bool e.op] ∧ RSl 2 RLB X w lv e.ls ∧ RSl 1 RB X w pv e.bs ∧ qv.oneCell' = true ∧ (e.op = true → RSl 3 RSmp X w qv e.out) ∧ e.Good
theorem Ent.Good.bytes {e : Ent} (h : e.Good) : e.bs.length ≤ 140737488355328 := by
  have h1 := KZ e.ps
  have h2 := h.1.len
  have h3 := h.2.1.len
  omega
theorem Ent.Good.few {e : Ent} (h : e.Good) : e.out.length ≤ 100000 := by
  rw [Ent.out, List.length_map]; exact h.1.len
theorem REnt.pers : REnt.Pers := fun _ _ _ _ _ he ⟨lv, pv, qv, h, h1, h2, h3, h4, h5⟩ => ⟨lv, pv, qv, h, h1.evo RLB.pers he, h2.evo RB.pers he, h3, fun ho => (h4 ho).evo RSmp.pers he, h5⟩
theorem REnt.fresh : REnt.Fresh := fun _ _ _ _ _ hy ⟨lv, pv, qv, h, h1, h2, h3, h4, h5⟩ => ⟨lv, pv, qv, h, h1.fresh (by decide) RLB.fresh hy, h2.fresh (by decide) RB.fresh hy, h3, fun ho => (h4 ho).fresh (by decide) RSmp.fresh hy, h5⟩
theorem mR {X Y : List Nat} {w w' : World} {rows : List (List Value)} {es : List Ent} (h : RowsOk 4 REnt X w rows es) (he : Evo X w w') (hy : ∀ y, y ∈ Y → y ∈ X ∨ w.heap.size ≤ y) : RowsOk 4 REnt Y w' rows es := by
  refine ⟨h.1, fun k hk hk' => ?_⟩
  obtain ⟨h1, h2⟩ := h.2 k hk hk'
  refine ⟨h1, ?_⟩
  have h3 : REnt (X ++ Y) w rows[k] es[k] := REnt.fresh _ _ _ _ _ (fun y hy' => (List.mem_append.1 hy').elim .inl (hy y)) h2
  have h4 := REnt.pers _ _ _ _ _ (he.mono (fun b hb => List.mem_append_left Y hb)) h3
  exact REnt.fresh _ _ _ _ _ (fun y hy' => .inl (List.mem_append_right X hy')) h4
theorem hY {sz : Nat} {α : Type} {R : Rel α} {X : List Nat} {w : World} {rows : List (List Value)} {es : List α} {r : List Value} {e : α} (h : RowsOk sz R X w rows es) (h1 : r.length = sz) (h2 : R X w r e) : RowsOk sz R X w (rows ++ [r]) (es ++ [e]) := by
  refine ⟨by simp [h.1], fun k hk hk' => ?_⟩
  have hl := h.1
  by_cases e1 : k < es.length
  · rw [List.getElem_append_left (by omega), List.getElem_append_left e1]
    exact h.2 k e1 (by omega)
  · simp at hk
    obtain rfl : k = es.length := by omega
    rw [List.getElem_append_right (by omega), List.getElem_append_right (by omega)]
    simp only [hl, Nat.sub_self, List.getElem_cons_zero]
    exact ⟨h1, h2⟩
def StAt (w : World) (b : Nat) (ob : Option Nat) (es : List Ent) : Prop :=
  ∃ ix a c rows, w.heap[b]? = some (.cells #[.pointer ix, .slice a es.length c, .int .i32 0, .int .u32 0] 77 (0, 0)) ∧ OwnS w 88 4 a es.length c (List.flatten rows) ob ∧ RowsOk 4 REnt (b :: ob.toList) w rows es ∧ Apart (some b) ob
def MB (ds : List SD) (es : List Ent) : Prop :=
  ∃ l : List SD, l.Perm ds ∧ (∀ i j (hij : i < j) (hj : j < l.length), ¬ dI l[j].1 l[i].1 < 0) ∧ es.map (fun e => (e.ls, e.ps)) = l ∧ ∀ e, e ∈ es → e.op = false
theorem zP {X : List Nat} {w : World} : ∀ {rows : List (List Value)} {ds : List SD}, RowsOk 2 RSer X w rows ds → ∃ l : List SerD, rows.flatten = l.flatMap SerD.enc ∧ l.map (fun x => (x.ls, x.ps)) = ds ∧ ∀ x, x ∈ l → RSl 2 RLB X w x.lv x.ls ∧ RSl 3 RSmp X w x.pv x.ps
  | [], [], _ => ⟨[], rfl, rfl, fun x h => by simp at h⟩
  | [], d :: ds, h => by have := h.1; simp at this
  | r :: rows, [], h => by have := h.1; simp at this
  | r :: rows, d :: ds, h => by
    obtain ⟨-, lv, pv, h1, h2, h3⟩ := h.2 0 (by simp) (by simp)
    obtain ⟨l, e1, e2, e3⟩ := zP (rows := rows) (ds := ds) ⟨by have := h.1; simpa using this, fun k hk hk' => by have := h.2 (k + 1) (by simpa using hk) (by simpa using hk'); simpa using this⟩
    refine ⟨⟨lv, pv, d.1, d.2⟩ :: l, ?_, ?_, ?_⟩
    · simp only [List.getElem_cons_zero] at h1
      rw [List.flatten_cons, e1, h1]; rfl
    · rw [List.map_cons, e2]
    · intro x hx
      rcases List.mem_cons.1 hx with rfl | hx
      · exact ⟨h2, h3⟩
      · exact e3 x hx
def RRaw : Rel SerD := fun _ _ vs x => vs = x.enc
theorem own_ser {w : World} {e : TypeId} {a : Option Addr} {n c : Nat} {l : List SerD} {ob : Option Nat} (h : OwnS w e 2 a n c (l.flatMap SerD.enc) ob) (hn : l.length = n) : RSl 2 RRaw [] w (.slice a n c) l :=
  RSl.ofOwn (rows := l.map SerD.enc) (by rw [← List.flatMap_def]; exact h) ⟨by simp, fun k h1 h2 => by rw [List.getElem_map]; exact ⟨rfl, rfl⟩⟩ hn (fun _ _ => by simp)
theorem oS : ∀ {ds : List SD} {seen : List ByteArray} {n i : Nat}, (eN seen n i ds).2 = 0 → ∀ s, s ∈ ds → ¬ eF s.1 ≠ 0 ∧ fU s.2 ∧ s.2.length ≤ 100000
  | [], _, _, _, _, s, h => by simp at h
  | d :: ds, seen, n, i, h, s, hs => by
    by_cases h1 : eF d.1 ≠ 0
    · rw [kG h1] at h; exact absurd h h1
    by_cases h2 : bstr (fE d.1) ∈ seen
    · rw [kH h1 h2] at h; cases h
    by_cases h3 : fU d.2
    · by_cases h4 : 100000 < n + d.2.length
      · rw [jH h1 h2 h3 h4] at h; cases h
      · rw [gT h1 h2 h3 h4] at h
        rcases List.mem_cons.1 hs with rfl | hs
        · exact ⟨h1, h3, by omega⟩
        · exact oS h s hs
    · rw [kF h1 h2 h3] at h; cases h
theorem LO {ds : List SD} (h : (chk ds).2 = 0) : ds.length ≤ 1000 ∧ ∀ s, s ∈ ds → ¬ eF s.1 ≠ 0 ∧ fU s.2 ∧ s.2.length ≤ 100000 := by
  by_cases h1 : 1000 < ds.length
  · rw [oP h1] at h; cases h
  · rw [oQ h1] at h
    exact ⟨by omega, oS h⟩
theorem lG {l : List Smp} (h : fU l) : lC l := fun k hk => (h (k + 1) hk).2 k (by omega) rfl
theorem HD {l : List Smp} {bs : List Nat} {e : Int} (h : qL l bs e) (hl : l.length ≤ 100000) (hr : fU l) : e = 0 ∧ Packs bs (iW l) := by
  rcases h with ⟨h1, -, -⟩ | ⟨-, h1, -, -⟩ | ⟨-, -, h1, h2⟩
  · omega
  · exact absurd (lG hr) h1
  · exact ⟨h2, h1⟩
theorem zM {w : World} {a : Option Addr} {n c : Nat} {l : List SerD} {ob : Option Nat} (hn : l.length = n) (hO : OwnS w 45 2 a n c (l.flatMap SerD.enc) ob) (hR : ∀ x, x ∈ l → x.Good ob.toList w) (hl : n ≤ 1000000) :
    Calls Tryz.prog 28 #[.slice a n c, .func (.func 29) #[] #[]] w (Ret fun v w' => v = .tuple #[] ∧ ∃ m : List SerD, m.Perm l ∧ (∀ i j (hij : i < j) (hj : j < m.length), ¬ dI m[j].ls m[i].ls < 0) ∧ OwnS w' 45 2 a n c (m.flatMap SerD.enc) ob ∧ Evo ob.toList w w') := by
  subst hn; exact CN hO hR hl
theorem jA : hD Tryz.prog 68 = some false := by kernel_rfl
theorem jX : oU Tryz.prog 68 68 = some (88, 4, 80) := by kernel_rfl
theorem jW : oU Tryz.prog 82 82 = some (42, 1, 24) := by kernel_rfl
theorem uR : Build Tryz.prog 77 #[(0, 1), (1, 1), (2, 2)] #[.pointer none, .slice none 0 0, .int .i32 0, .int .u32 0] := ⟨_, .agg #[.pointer none, .slice none 0 0, .int .i32 0, .int .u32 0], Tryz.underlying77, by kernel_rfl, rfl, fun w => by kernel_rfl⟩
theorem nL : Build Tryz.prog 88 #[(0, 1), (1, 1), (2, 1), (3, 1)] #[.slice none 0 0, .slice none 0 0, .slice none 0 0, .bool false] := ⟨_, .agg #[.slice none 0 0, .slice none 0 0, .slice none 0 0, .bool false], Tryz.underlying88, by kernel_rfl, rfl, fun w => by kernel_rfl⟩
theorem uP : dV Tryz.prog 77 0 = some 0 := by kernel_rfl
theorem fZ : dV Tryz.prog 77 1 = some 1 := by kernel_rfl
theorem yP : dC Tryz.prog 27 := ⟨_, Tryz.func27, by kernel_rfl, by kernel_rfl⟩
theorem yO : dC Tryz.prog 28 := ⟨_, Tryz.func28, by kernel_rfl, by kernel_rfl⟩
theorem yM : dC Tryz.prog 31 := ⟨_, Tryz.func31, by kernel_rfl, by kernel_rfl⟩
theorem pG : dC Tryz.prog 32 := ⟨_, Tryz.func32, by kernel_rfl, by kernel_rfl⟩
theorem yL : dC Tryz.prog 33 := ⟨_, Tryz.func33, by kernel_rfl, by kernel_rfl⟩
theorem rI : dC Tryz.prog 9 := ⟨_, Tryz.func9, by kernel_rfl, by kernel_rfl⟩
theorem xI : vJ Tryz.prog 82 = some (42, 1, 24, #[.slice none 0 0]) := by kernel_rfl
theorem xG : eS Tryz.prog 67 = some 1 := by kernel_rfl
theorem lN : eS Tryz.prog 68 = some 1 := by kernel_rfl
theorem kN : iF Tryz.prog 68 = some (88, 4) := by kernel_rfl
theorem kM : iF Tryz.prog 82 = some (42, 1) := by kernel_rfl
theorem RSer.fresh : RSer.Fresh := fun _ _ _ _ _ hy ⟨lv, pv, h, h1, h2⟩ => ⟨lv, pv, h, h1.fresh (by decide) RLB.fresh hy, h2.fresh (by decide) RSmp.fresh hy⟩
theorem RLB.one : ∀ X w vs d, RLB X w vs d → ∀ u, u ∈ vs → u.oneCell' = true := fun _ _ _ _ h u hu => by
  obtain ⟨rfl, -⟩ := h
  simp at hu
  rcases hu with rfl | rfl <;> rfl
structure LdG where
  k : Nat
  es : List Ent
  n : Nat
  sa : Option Addr
  sc : Nat
  so : Option Nat
  mm : Nat
  ta : Option Addr
  tc : Nat
  tob : Option Nat
def LdI (W wc wr : World) (b : Nat) (a8 : Option Addr) (n8 c8 : Nat) (ob8 : Option Nat) (l : List SerD) (x : LdG) : Prop :=
  x.k ≤ n8 ∧ wr.heap[b]? = some (.cells #[.pointer none, .slice x.sa x.n x.sc, .int .i32 0, .int .u32 0] 77 (0, 0)) ∧ (∃ rows, OwnS wr 88 4 x.sa x.n x.sc (List.flatten rows) x.so ∧ RowsOk 4 REnt (b :: (x.so.toList ++ x.tob.toList)) wr rows x.es) ∧ OwnS wr 42 1 x.ta x.mm x.tc ((l.take x.k).map (·.lv)) x.tob ∧ OwnS wr 45 2 a8 n8 c8 (l.flatMap SerD.enc) ob8 ∧
  x.n = x.k ∧ x.mm = x.k ∧ x.es.map (fun e => (e.ls, e.ps)) = (l.take x.k).map (fun x => (x.ls, x.ps)) ∧ (∀ e, e ∈ x.es → e.op = false) ∧ Apart (some b) x.so ∧ Apart (some b) x.tob ∧ Apart x.so x.tob ∧ Apart ob8 x.so ∧ Apart ob8 x.tob ∧ Apart ob8 (some b) ∧ Ge W (some b) ∧ Ge W x.so ∧ Ge W x.tob ∧ Ge W ob8 ∧ Evo (b :: ob8.toList) wc wr ∧ Ge wc x.so ∧ Ge wc x.tob
theorem wX {X : List Nat} {w wc : World} {la : Option Addr} {lc : Nat} {ob57 : Option Nat} {lrows : List (List Value)} {ls : List LB} {Z : List Nat} {pa : Option Addr} {pn pc : Nat} {bs9 : List Nat} {ob44 : Option Nat} {ps : List Smp} (h1 : OwnS w 58 2 la ls.length lc lrows.flatten ob57) (h2 : RowsOk 2 RLB Z wc lrows ls) (h3 : OwnS w 5 1 pa pn pc (bs9.map bv) ob44) (h4 : ∀ b, b ∈ bs9 → b < 256)
    (hx1 : ∀ g, ob57 = some g → g ∉ X) (hx2 : ∀ g, ob44 = some g → g ∉ X) (hg : Ent.Good ⟨ls, bs9, ps, false⟩) : REnt X w [.slice la ls.length lc, .slice pa pn pc, .slice none 0 0, .bool false] ⟨ls, bs9, ps, false⟩ :=
  ⟨_, _, _, rfl, RSl.ofOwn h1 ⟨h2.1, fun k hk hk' => h2.2 k hk hk'⟩ rfl hx1, FA h3 h4 hx2, rfl, (fun h => by cases h), hg⟩
theorem HN {b : Nat} {o so tob : Option Nat} (h1 : Apart o (some b)) (h2 : Apart o so) (h3 : Apart o tob) : ∀ g, o = some g → g ∉ b :: (so.toList ++ tob.toList) := fun g hg h => by
  rcases List.mem_cons.1 h with h | h
  · exact h1 g hg (by rw [h])
  · rcases List.mem_append.1 h with h | h
    · exact h2 g hg (by simpa using h)
    · exact h3 g hg (by simpa using h)
theorem KT {w : World} {b : Nat} {so so2 tob to2 : Option Nat} (h1 : so2 = so ∨ ∃ g, so2 = some g ∧ w.heap.size ≤ g) (h2 : to2 = tob ∨ ∃ g, to2 = some g ∧ w.heap.size ≤ g) : ∀ y, y ∈ b :: (so2.toList ++ to2.toList) → y ∈ b :: (so.toList ++ tob.toList) ∨ w.heap.size ≤ y := fun y hy => by
  rcases List.mem_cons.1 hy with h | h
  · exact .inl (by simp [h])
  · rcases List.mem_append.1 h with h | h
    · rcases h1 with rfl | ⟨g, rfl, hg⟩
      · exact .inl (by simp [h])
      · right; simp at h; rw [h]; exact hg
    · rcases h2 with rfl | ⟨g, rfl, hg⟩
      · exact .inl (by simp [h])
      · right; simp at h; rw [h]; exact hg
theorem sub2 {b y : Nat} {o so : Option Nat} (hy : y ∈ b :: so.toList) : y ∈ b :: (so.toList ++ o.toList) := by
  rcases List.mem_cons.1 hy with h | h
  · simp [h]
  · simp [h]
theorem pZ {w w1 : World} {o o2 : Option Nat} (h : o2 = o ∨ ∃ g, o2 = some g ∧ w1.heap.size ≤ g) (hs : w.heap.size ≤ w1.heap.size) : o2 = o ∨ ∃ g, o2 = some g ∧ w.heap.size ≤ g := by
  rcases h with h | ⟨g, h, hg⟩
  · exact .inl h
  · exact .inr ⟨g, h, Nat.le_trans hs hg⟩
theorem JI {wc : World} {b : Nat} {ob8 : Option Nat} {l : List SerD} (h : ∀ x, x ∈ l → RSl 2 RLB [b] wc x.lv x.ls ∧ RSl 3 RSmp [b] wc x.pv x.ps) (hG : Ge wc ob8) : ∀ x, x ∈ l → RSl 2 RLB (b :: ob8.toList) wc x.lv x.ls ∧ RSl 3 RSmp (b :: ob8.toList) wc x.pv x.ps := fun x hx => by
  have hy : ∀ y, y ∈ b :: ob8.toList → y ∈ [b] ∨ wc.heap.size ≤ y := fun y hy => by
    rcases List.mem_cons.1 hy with h | h
    · exact .inl (by simp [h])
    · exact .inr (hG y (by simpa using h))
  exact ⟨(h x hx).1.fresh (by decide) RLB.fresh hy, (h x hx).2.fresh (by decide) RSmp.fresh hy⟩
theorem JH {wc w2 : World} {b : Nat} {ob8 : Option Nat} {l : List SerD} {ds : List SD} (h : ∀ x, x ∈ l → RSl 2 RLB (b :: ob8.toList) wc x.lv x.ls ∧ RSl 3 RSmp (b :: ob8.toList) wc x.pv x.ps) (he : Evo [] wc w2) (hd : l.map (fun x => (x.ls, x.ps)) = ds) (hsm : iL ds) : ∀ x, x ∈ l → x.Good ob8.toList w2 := fun x hx => by
  have hm : (x.ls, x.ps) ∈ ds := by rw [← hd]; exact List.mem_map.2 ⟨x, hx, rfl⟩
  exact ⟨((h x hx).1.evo RLB.pers (he.any _)).fresh (by decide) RLB.fresh (fun y hy => .inl (List.mem_cons_of_mem _ hy)), by have := (hsm.2 _ hm).1; simp only at this; omega, (h x hx).1.one, (h x hx).2.one⟩
theorem JU {X : List Nat} {w : World} {e : TypeId} {a : Option Addr} {n c : Nat} {l : List SerD} {ob : Option Nat} (h : OwnS w e 1 a n c (l.map (·.lv)) ob) (hn : l.length = n) (hd : ∀ x, x ∈ l → RSl 2 RLB X w x.lv x.ls) : RSl 1 (EI 2 RLB) [] w (.slice a n c) (l.map (·.ls)) :=
  RSl.ofOwn (rows := l.map fun x => [x.lv]) (by rw [show (l.map fun x => [x.lv]).flatten = l.map (·.lv) from by clear h hn hd; induction l with | nil => rfl | cons x l ih => simp [ih]]; exact h)
    ⟨by simp, fun k h1 h2 => by simp only [List.getElem_map]; exact ⟨rfl, _, rfl, (hd _ (List.getElem_mem _)).fresh (by decide) RLB.fresh (fun y hy => by simp at hy)⟩⟩ (by simpa using hn) (fun _ _ => by simp)
theorem sL {sets : List (List LB)} (h : ∀ s, s ∈ sets → s.length ≤ 32) : ∀ i, (fQ sets i).length ≤ i * 32
  | 0 => by simp [fQ]
  | i + 1 => by
    have h1 := sL h i
    by_cases hi : i < sets.length
    · rw [mA hi, List.length_append]
      have h2 := h _ (List.getElem_mem hi)
      have h3 : (gU sets[i] i).length = sets[i].length := by simp [gU]
      omega
    · have h2 : fQ sets (i + 1) = fQ sets i := by
        simp only [fQ, List.range_succ, List.flatMap_append]
        simp [List.getElem?_eq_none (Nat.le_of_not_lt hi), gU]
      rw [h2]; omega
theorem KF {w : World} {v : Value} {sets : List (List LB)} (hs : RSl 1 (EI 2 RLB) [] w v sets) (hl1 : sets.length ≤ 1000) (hl2 : ∀ s, s ∈ sets → kY s ∧ s.length ≤ 32) :
    Calls Tryz.prog 33 #[v] w (Ret fun r w' => ∃ bx, r = .tuple #[.pointer (some ⟨bx, 0, none⟩), iv3 0] ∧ Evo [] w w') := by
  have h1 := sL (fun s h => (hl2 s h).2) sets.length
  refine (new_ok hs (by omega) (fun i h => by have := (hl2 _ (List.getElem_mem h)).2; omega) (by omega)).mono ?_
  rintro e w' ⟨r, rfl, h | h⟩
  · obtain ⟨-, ⟨i, h, hn⟩, -⟩ := h
    exact absurd (hl2 _ (List.getElem_mem h)).1 hn
  · obtain ⟨bx, mb, D, rfl, -, -, -, hE⟩ := h
    exact ⟨_, rfl, bx, rfl, hE⟩
theorem FG {w : World} {v : Value} {ds : List SD} (hs : RSl 2 RSer [] w v ds) (hsm : iL ds) (hP : P10 w) (hT : Tab w) :
    Calls Tryz.prog 10 #[.agg #[v]] w (Ret fun r w' => Evo [] w w' ∧ (((chk ds).2 ≠ 0 ∧ r = .tuple #[.pointer none, .int .i64 ((chk ds).1 : Nat), iv3 (chk ds).2]) ∨ ((chk ds).2 = 0 ∧ ∃ b ob es, r = .tuple #[.pointer (some ⟨b, 0, none⟩), .int .i64 0, iv3 0] ∧ StAt w' b ob es ∧ Ge w (some b) ∧ Ge w ob ∧ MB ds es))) := by
  have p5 := hs; have hone := hs.one; refine aU (N := 83) Tryz.func10 rfl rfl rfl ?_; refine csr (dZ rfl rfl fun b1 w1 p6 r2 r3 => ?_); have r4 := r2; have l9 := (Evo.refl [] w).then r3; refine cL (cL (wan (aL (csr (aC (cV rfl dJ cJ p6 rfl) ?_))))); refine aG (vs := [_]) rI rfl (BH (p5.evo RSer.pers l9) hsm (hP.evo l9 (by simp))) rfl ?_; rintro _ w7 ⟨rfl, p7⟩; have m0 := l9.then p7; refine aD (aC (cB rfl rfl) ?_); refine aC (cB rfl rfl) ?_; refine cL (wan (csr (aD (aC (eO rfl rfl) ?_)))); refine wnn (bP rfl (fun g0 => ?_) (fun g0 => ?_))
  ·refine csr (aD (aD (cL (cL (wan (aS (aI (vX rfl rfl rfl rfl ?_)))))))); exact ⟨m0, .inl ⟨g0, rfl⟩⟩
  have p8 : (chk ds).2 = 0 := Classical.not_not.1 g0; have hcg := LO p8; refine aR (aB (csr (aC (dR (vs := []) uR rfl (cells := [_, _, _, _]) rfl) ?_))); refine dZ rfl rfl fun bs m1 m2 m3 m4 => ?_; have r5 := m3; have m5 := Ge.new m0 m3; have g1 := m0.then m4; refine wan (csr (wfl rfl bS rfl cA (m4.blk0 (p7.blk0 p6)) rfl ?_))
  refine aG (vs := [_]) yP rfl (BG ((p5.fresh (by decide) RSer.fresh (fun y hy => .inr (by rw [List.mem_singleton.1 hy]; exact m5 _ rfl))).evo RSer.pers ((g1).any [bs])) RSer.one (by omega)) rfl ?_
  rintro _ u9 ⟨a8, c8, ob8, rows, rfl, p9, hrows, g9, e9⟩; have m6 := Apart.fresh (Lt.blk m2) g9; have m7 := Ge.fresh g1 g9; obtain ⟨l, hfl, hlds, hlx⟩ := zP hrows; rw [hfl] at p9
  have hll : l.length = ds.length := by rw [← hlds, List.length_map]
  have hdat := JI hlx g9; have hgood := JH hdat e9 hlds hsm; refine wan (csr (aD ?_)); refine aG (vs := [_, _]) yO rfl (zM hll p9 hgood (by omega)) rfl ?_; rintro _ v0 ⟨rfl, m, hperm, hsort, q0, g2⟩; have m8 := (g1.then e9).step g2 m7.mem; have m9 := ((Evo.refl (bs :: ob8.toList) m1).then e9).step g2 (Ge.fresh (Evo.refl (bs :: ob8.toList) m1) g9).mem; have n0 := g2.blk (e9.blk0 m2) m6.nmem
  have hml : m.length = ds.length := by rw [hperm.length_eq, hll]
  have hdm : (m.map (fun x => (x.ls, x.ps))).Perm ds := hlds ▸ hperm.map _; have hdat2 := fun x (hx : x ∈ m) => hdat x (hperm.mem_iff.1 hx); have hchk2 := fun x (hx : x ∈ m) => hcg.2 (x.ls, x.ps) (hdm.mem_iff.1 (List.mem_map.2 ⟨x, hx, rfl⟩)); refine wnn (csr (aD (aC (aP rfl Tryz.underlying24 rfl) ?_))); refine rN (len := 0) (c := ds.length) rfl rfl rfl xI (by rfl) (by omega) (by omega) (by decide) (by omega) (by omega) fun q1 v1 r6 f0 f1 => ?_; have q3 := Apart.new (Lt.blk n0) f0; have q4 := Apart.new (Lt.own q0) f0; have q5 := Ge.new m8 f0; have q6 := Ge.new m9 f0; have q7 := m9.then f1; have q8 := q0.evo0 f1; refine wan (aL (csr (aD (aC (aP rfl Tryz.underlying24 rfl) ?_)))); refine aD (wnn (aZ ?_)); refine cH (α := LdG) (⟨0, [], 0, none, 0, none, 0, some ⟨q1, 0, none⟩, ds.length, some q1⟩) (fun x => [(37, .int .i64 (x.k : Nat)), (9, .slice x.ta x.mm x.tc)]) [(7, _), (35, _), (36, _)] (fun x wr => Evo [] w wr ∧ (LdI w m1 wr bs a8 ds.length c8 ob8 m x)) (fun x => ds.length - x.k) ⟨rfl, rfl, trivial⟩ ⟨rfl, rfl, rfl, trivial⟩ ⟨(m8.then f1), ⟨Nat.zero_le _, (f1.blk0 n0), ⟨[], OwnS.nil _ _ _, rfl, fun k h => by simp at h⟩, by simpa [gW] using r6, q8, rfl, rfl, rfl, fun e h => by simp at h, Apart.nil _, q3, (Apart.nil _).symm, Apart.nil _, q4, m6.symm, m5, Ge.nil _, q5, m7, q7, Ge.nil _, q6⟩⟩ ?_
  rintro ⟨k, es, n, sa, sc, so, mm, ta, tc, tob⟩ wr47 ⟨g3, ⟨hk, hBS, ⟨rows9, hS, hrk⟩, f8, hSO, hn, hm, hes, hop, b6, a5, d9, e0, e2, e3, b7, c6, e4, h0, hVc, hGc2, hGc3⟩⟩; show CW _ _ _ _ [(37, .int .i64 (k : Nat)), (9, .slice ta mm tc), (7, _), (35, _), (36, _)] _
  try dsimp only at hk hBS rows9 hS hrk f8 hSO hn hm hes hop b6 a5 d9 e0 e2 e3 b7 c6 e4 h0 hVc hGc2 hGc3
  have g4 := Evo.refl (bs :: (so.toList ++ tob.toList)) wr47; replace hn : k = n := Eq.symm hn; subst hn; replace hm : k = mm := Eq.symm hm; subst hm; refine csr (aC (cE rfl rfl) ?_); refine wnn (aL (bP rfl (fun q9 => ?_) (fun q9 => ?_)))
  ·have hk' : k < m.length := by omega
   obtain ⟨a8', c8', he8, hcl8, e1⟩ := own_ser hSO hml; simp only [Value.slice.injEq] at he8; obtain ⟨rfl, -, rfl⟩ := he8; obtain ⟨b1', o1, vs1, ha1, hb1, -, q2, hv1⟩ := e1 k hk'; replace hv1 : vs1 = [m[k].lv, m[k].pv] := hv1; subst hv1; have hmem := List.getElem_mem hk'; have hck : ¬ eF m[k].ls ≠ 0 ∧ fU m[k].ps ∧ m[k].ps.length ≤ 100000 := hchk2 _ hmem; have hck32 := (mQ hck.1).1.2; obtain ⟨qa, qc, hq, -⟩ := id (hdat2 _ hmem).1; have hd1 := (hdat2 _ hmem).1; rw [hq] at hd1 q2; have hpo1 := (hdat2 _ hmem).2.one; refine aR (aB (aL (aZ (csr ?_))))
   refine aC (cS (n := k) (by rw [ha1]; rfl) rfl dA (by omega)) ?_
   refine aC (dQ rfl gN dU (vs := [_, _]) rfl q2) ?_; refine dE rfl iC fun v2 v3 r0 a2 a7 => ?_; have r1 := a2; have e5 := Apart.new (Lt.blk hBS) a2; have e6 := Apart.new (Lt.own hS) a2; refine bT rfl rfl dU r0 rfl rfl ⟨by first | rfl | assumption, by first | rfl | assumption, trivial⟩ fun v4 g5 a9 => ?_; have n1 := (g3.then a7).step a9 (Ge.new g3 a2).mem1; have n2 := (hVc.then a7).step a9 (Ge.new hVc a2).mem1; have n3 := a9.blk (a7.blk0 hBS) e5.nmem1; have n4 := (hS.evo0 a7).evo a9 e6.own1; have n5 := (f8.evo0 a7).evo a9 (Apart.new (Lt.own f8) a2).own1
   try simp only [dH, Nat.reduceAdd] at g5
   refine wnn (csr (wfl rfl dP rfl dT g5 rfl ?_))
   refine aG (vs := [_]) yM rfl (AF ((hdat2 _ hmem).2.evo RSmp.pers n2) (by have := hck.2.2; omega) (hT.evo n1 (by simp))) rfl ?_
   rintro _ v5 ⟨pa, pn, pc, bs9, e, ob44, rfl, n6, hb44, g6, hPk, a3⟩; have c3 := Apart.fresh (Lt.blk n3) g6; have c4 := Apart.fresh (Lt.own n4) g6; have c5 := Apart.fresh (Lt.own n5) g6; obtain ⟨rfl, hpk⟩ := HD hPk hck.2.2 hck.2.1; refine aD (aC (cB rfl rfl) ?_); refine aC (cB rfl rfl) ?_; refine cL (wan (aL (csr (aD (aC (eO rfl rfl) ?_))))); refine wnn (bP rfl (fun n7 => ?_) (fun n7 => ?_))
   ·exact absurd rfl n7
   refine aR (aB (aL ?_)); refine eG (fun w0 w' => Evo (bs :: so.toList) w0 w') (by kernel_rfl) (fun a6 a1 => ?_); have g7 := (n1.then a3).then a1; have g8 := (((g4.then a7).step a9 (Ge.new g4 a2).mem1).then a3).then a1; have b8 := (n2.then a3).then a1; have b9 := a1.blk0 (a3.blk0 n3); have c0 := (n4.evo0 a3).evo0 a1; have c1 := (n5.evo0 a3).evo0 a1; have f2 := (((hSO.evo0 a7).evo a9 (Apart.new (Lt.own hSO) a2).own1).evo0 a3).evo0 a1; have c7 := a1.blk0 (a3.blk0 g5); refine aet 0 rfl (fun _ hS => aV rfl) (Evo.refl (bs :: so.toList) a6) ?_; refine aet 1 rfl (fun _ hS => aV rfl) (Evo.refl (bs :: so.toList) a6) ?_; refine aet 2 rfl (fun _ hS => aH rfl) (Evo.refl (bs :: so.toList) a6) ?_; refine aet 3 rfl (fun _ hS => aA rfl fZ) (Evo.refl (bs :: so.toList) a6) ?_; refine aet 5 rfl (fun _ hS => aA rfl bX) (Evo.refl (bs :: so.toList) a6) ?_; refine aet 6 rfl (fun _ hS => aF rfl cG (aK (hS.blk c7 (nm2 e5.symm e6.symm)) rfl)) (Evo.refl (bs :: so.toList) a6) ?_; refine aet 8 rfl (fun _ hS => aV rfl) (Evo.refl (bs :: so.toList) a6) ?_; refine aN [4, 7] (by kernel_rfl) rfl ⟨?_, ?_, trivial⟩
   ·refine aO rfl ?_; refine aC (aF rfl jA (aK b9 rfl)) (aE (aJ (.inl (Evo.refl (bs :: so.toList) a6)) ?_)); refine aN [7] (by kernel_rfl) rfl ⟨?_, trivial⟩; refine aO rfl ?_; refine aG (vs := [_]) pG rfl (tE (hd1.evo RLB.pers b8) RLB.one (by omega)) rfl ?_; rintro _ s4 ⟨la, lc, ob57, lrows, rfl, b4, hlr, b5, J⟩; have h1 := Apart.fresh (Lt.blk b9) b5; have h2 := Apart.fresh (Lt.own c0) b5; have h3 := Apart.fresh (Lt.own c1) b5; have c9 := (Evo.refl (bs :: so.toList) a6).then J; refine aE (aJ (.inl c9) ?_); refine aet 9 rfl (fun _ hS => dR (vs := [(0, _), (1, _)]) nL rfl (cells := [_, _, _, _]) rfl) c9 ?_; refine aN [10] (by kernel_rfl) rfl ⟨?_, trivial⟩; refine aO rfl ?_; refine cK (vs := [_]) rfl kN rfl rfl rfl rfl fun s5 s6 n9 r7 E => ?_; have h4 := (g7.then J).then E; have h5 := (g8.then J).then E; have h6 := (b8.then J).then E; have h7 := E.blk0 (J.blk0 b9); have h8 := (c1.evo0 J).evo0 E; have h9 := (f2.evo0 J).evo0 E; have i0 := ((n6.evo0 a1).evo0 J).evo0 E; refine aE (aJ (.inl (c9.then E)) ?_); refine aN [11] (by kernel_rfl) rfl ⟨?_, trivial⟩; refine aO rfl ?_; have hsz61 := (h5).size; refine dB rfl rfl rfl rfl jX ((c0.evo0 J).evo0 E) (Src.ofOwn n9 ⟨by first | rfl | assumption, by first | rfl | assumption, by first | rfl | assumption, by first | rfl | assumption, trivial⟩) (by omega) fun a61 c61 s7 ob61 e7 K hob162 => ?_
    have i1 := b6.app (Lt.blk h7) hob162; have i2 := d9.symm.app (Lt.own h8) hob162; have o0 := h5.step K (fun y hy => .inl (List.mem_cons_of_mem _ (List.mem_append_left _ hy))); have d0 := (c9.then E).step K (fun y hy => .inl (List.mem_cons_of_mem _ hy)); have hso61 := pZ hob162 hsz61; refine aE (aJ (.inl d0) ?_); refine aet 12 rfl (fun _ hS => aH rfl) d0 ?_; refine aet 13 rfl (fun _ hS => aA rfl fZ) d0 ?_; refine aN [14] (by kernel_rfl) rfl ⟨?_, trivial⟩; refine aO rfl ?_; refine bE rfl rfl (by first | rfl | assumption) lN (K.blk h7 b6.nmem) rfl fun s8 f3 L => ?_
    have i3 := o0.step L (fun y hy => .inl (by rw [List.mem_singleton.1 hy]; simp))
    have i4 := (h6.step K hGc2.mem).step L (fun y hy => .inl (by rw [List.mem_singleton.1 hy]; simp))
    have o2 := d0.step L (fun y hy => .inl (by rw [List.mem_singleton.1 hy]; simp))
    try simp only [dH, Nat.reduceAdd] at f3
    refine aE (aJ (.inl o2) ?_); refine bN (by kernel_rfl) (aB ?_); refine aQ (aD (aC (aA rfl bX) (aC (aF rfl cG (aK (L.blk (K.blk (E.blk0 (J.blk0 c7)) e6.symm.nmem) e5.symm.nmem1) rfl)) (cK (vs := [_]) rfl kM rfl rfl rfl rfl fun s9 t0 o3 r8 G => ?_)))); have i5 := ((h4.step K c6.mem).step L b7.mem1).then G; have i6 := ((h9.evo K e0.own).evo L e3.own1).evo0 G; have i7 := ((i0.evo K c4.symm.own).evo L c3.symm.own1).evo0 G; have i8 := (((b4.evo0 E).evo K h2.symm.own).evo L h1.symm.own1).evo0 G; have i9 := (e7.evo L i1.symm.own1).evo0 G; have hsz68 := ((i3.then G)).size; refine dB rfl rfl rfl rfl jW (((h8.evo K d9.symm.own).evo L a5.symm.own1).evo0 G) (Src.ofOwn o3 ⟨by first | rfl | assumption, trivial⟩) (by omega) fun a68 c68 t1 ob68 e8 W hob228 => ?_; have hso68 := pZ hob228 hsz68; refine cL (aE (bC (aB (aQ ?_)))); refine aC (aT rfl rfl (by omega) (by omega)) ?_; refine aD (aE (aM ?_)); refine ⟨⟨k + 1, es ++ [⟨m[k].ls, bs9, m[k].ps, false⟩], k + 1, a61, c61, ob61, k + 1, a68, c68, ob68⟩, ?_, ⟨rfl, rfl, trivial⟩, ⟨rfl, rfl, rfl, trivial⟩, (i5.step W e4.mem), ?_⟩
    · (try dsimp only); omega
    try dsimp only
    have hrs := mR hrk ((i3.then G).step W (fun y hy => .inl (List.mem_cons_of_mem _ (List.mem_append_right _ hy)))) (KT hso61 hso68); have hg9 : Ent.Good ⟨m[k].ls, bs9, m[k].ps, false⟩ := ⟨⟨hck.2.2, lG hck.2.1, wH (hdat2 _ hmem).2⟩, hpk, hck32⟩; have hr9 := wX (i8.evo W h3.symm.own) hlr (i7.evo W c5.symm.own) hb44 (HN h1.symm (h2.symm.app (Lt.own (b4.evo0 E)) hob162) (h3.symm.app (Lt.own i8) hob228)) (HN c3.symm (c4.symm.app (Lt.own i0) hob162) (c5.symm.app (Lt.own i7) hob228)) hg9; unfold LdI; dsimp only; have f9 := (i9.evo W i2.symm.own); have ht9 := e8; refine ⟨by omega, (W.blk (G.blk0 f3) a5.nmem), ⟨rows9 ++ [_], ?_, hY hrs rfl hr9⟩, ?_, (i6.evo W e2.own), rfl, rfl, ?_, ?_, i1, (a5.app (Lt.blk (G.blk0 f3)) hob228), (i2.symm.app (Lt.own i9) hob228), (e0.app (Lt.own h9) hob162), (e2.app (Lt.own i6) hob228), e3, b7, (c6.app h4 hob162), (e4.app i5 hob228), h0, ((i4.then G).step W hGc3.mem), (hGc2.app h6 hob162), (hGc3.app (i4.then G) hob228)⟩
    · rw [List.flatten_append, List.flatten_singleton]; exact f9
    · rw [List.take_succ_eq_append_getElem hk', List.map_append, List.map_singleton, hq]; exact ht9
    · rw [List.take_succ_eq_append_getElem hk', List.map_append, List.map_append, hes]; rfl
    · intro e he
      rcases List.mem_append.1 he with he | he
      · exact hop e he
      · rw [List.mem_singleton.1 he]
   refine aO rfl ?_; refine aG (vs := [_]) pG rfl (tE (hd1.evo RLB.pers b8) RLB.one (by omega)) rfl ?_; rintro _ t2 ⟨la, lc, ob57, lrows, rfl, b4, hlr, b5, A⟩; have d1 := Apart.fresh (Lt.blk b9) b5; have d2 := Apart.fresh (Lt.own c0) b5; have d3 := Apart.fresh (Lt.own c1) b5; have a4 := (Evo.refl (bs :: so.toList) a6).then A; have d4 := A.blk0 b9; have d5 := (n6.evo0 a1).evo0 A; refine aE (aJ (.inl a4) ?_); refine aet 9 rfl (fun _ hS => dR (vs := [(0, _), (1, _)]) nL rfl (cells := [_, _, _, _]) rfl) a4 ?_; refine aN [4, 10] (by kernel_rfl) rfl ⟨?_, ?_, trivial⟩
   ·refine aO rfl ?_; refine aC (aF rfl jA (aK d4 rfl)) (aE (aJ (.inl a4) ?_)); refine aN [10] (by kernel_rfl) rfl ⟨?_, trivial⟩; refine aO rfl ?_; refine cK (vs := [_]) rfl kN rfl rfl rfl rfl fun t3 t4 o4 r9 D => ?_; have j0 := (g7.then A).then D; have j1 := (g8.then A).then D; have j2 := (b8.then A).then D; have j3 := (c1.evo0 A).evo0 D; have j4 := (f2.evo0 A).evo0 D; refine aE (aJ (.inl (a4.then D)) ?_); refine aN [11] (by kernel_rfl) rfl ⟨?_, trivial⟩; refine aO rfl ?_; have hsz61 := (j1).size; refine dB rfl rfl rfl rfl jX ((c0.evo0 A).evo0 D) (Src.ofOwn o4 ⟨by first | rfl | assumption, by first | rfl | assumption, by first | rfl | assumption, by first | rfl | assumption, trivial⟩) (by omega) fun a61 c61 t5 ob61 e7 M hob303 => ?_; have j5 := b6.app (Lt.blk (D.blk0 d4)) hob303; have j6 := d9.symm.app (Lt.own j3) hob303; have o5 := j1.step M (fun y hy => .inl (List.mem_cons_of_mem _ (List.mem_append_left _ hy))); have d6 := (a4.then D).step M (fun y hy => .inl (List.mem_cons_of_mem _ hy)); have hso61 := pZ hob303 hsz61; refine aE (aJ (.inl d6) ?_); refine aet 12 rfl (fun _ hS => aH rfl) d6 ?_; refine aet 13 rfl (fun _ hS => aA rfl fZ) d6 ?_; refine aN [14] (by kernel_rfl) rfl ⟨?_, trivial⟩; refine aO rfl ?_
    refine bE rfl rfl (by first | rfl | assumption) lN (M.blk (D.blk0 d4) b6.nmem) rfl fun t6 f4 O => ?_
    have j7 := o5.step O (fun y hy => .inl (by rw [List.mem_singleton.1 hy]; simp))
    have j8 := (j2.step M hGc2.mem).step O (fun y hy => .inl (by rw [List.mem_singleton.1 hy]; simp))
    have o6 := d6.step O (fun y hy => .inl (by rw [List.mem_singleton.1 hy]; simp))
    try simp only [dH, Nat.reduceAdd] at f4
    refine aE (aJ (.inl o6) ?_); refine bN (by kernel_rfl) (aB ?_); refine aQ (aD (aC (aA rfl bX) (aC (aF rfl cG (aK (O.blk (M.blk (D.blk0 (A.blk0 c7)) e6.symm.nmem) e5.symm.nmem1) rfl)) (cK (vs := [_]) rfl kM rfl rfl rfl rfl fun t7 t8 o7 s0 H => ?_)))); have j9 := ((j0.step M c6.mem).step O b7.mem1).then H; have k0 := ((j4.evo M e0.own).evo O e3.own1).evo0 H; have k1 := (((d5.evo0 D).evo M c4.symm.own).evo O c3.symm.own1).evo0 H; have k2 := (((b4.evo0 D).evo M d2.symm.own).evo O d1.symm.own1).evo0 H; have k3 := (e7.evo O j5.symm.own1).evo0 H; have hsz68 := ((j7.then H)).size; refine dB rfl rfl rfl rfl jW (((j3.evo M d9.symm.own).evo O a5.symm.own1).evo0 H) (Src.ofOwn o7 ⟨by first | rfl | assumption, trivial⟩) (by omega) fun a68 c68 t9 ob68 e8 Y hob369 => ?_; have hso68 := pZ hob369 hsz68; refine cL (aE (bC (aB (aQ ?_)))); refine aC (aT rfl rfl (by omega) (by omega)) ?_; refine aD (aE (aM ?_)); refine ⟨⟨k + 1, es ++ [⟨m[k].ls, bs9, m[k].ps, false⟩], k + 1, a61, c61, ob61, k + 1, a68, c68, ob68⟩, ?_, ⟨rfl, rfl, trivial⟩, ⟨rfl, rfl, rfl, trivial⟩, (j9.step Y e4.mem), ?_⟩
    · (try dsimp only); omega
    try dsimp only
    have hrs := mR hrk ((j7.then H).step Y (fun y hy => .inl (List.mem_cons_of_mem _ (List.mem_append_right _ hy)))) (KT hso61 hso68); have hg9 : Ent.Good ⟨m[k].ls, bs9, m[k].ps, false⟩ := ⟨⟨hck.2.2, lG hck.2.1, wH (hdat2 _ hmem).2⟩, hpk, hck32⟩; have hr9 := wX (k2.evo Y d3.symm.own) hlr (k1.evo Y c5.symm.own) hb44 (HN d1.symm (d2.symm.app (Lt.own (b4.evo0 D)) hob303) (d3.symm.app (Lt.own k2) hob369)) (HN c3.symm (c4.symm.app (Lt.own (d5.evo0 D)) hob303) (c5.symm.app (Lt.own k1) hob369)) hg9; unfold LdI; dsimp only; have f9 := (k3.evo Y j6.symm.own); have ht9 := e8; refine ⟨by omega, (Y.blk (H.blk0 f4) a5.nmem), ⟨rows9 ++ [_], ?_, hY hrs rfl hr9⟩, ?_, (k0.evo Y e2.own), rfl, rfl, ?_, ?_, j5, (a5.app (Lt.blk (H.blk0 f4)) hob369), (j6.symm.app (Lt.own k3) hob369), (e0.app (Lt.own j4) hob303), (e2.app (Lt.own k0) hob369), e3, b7, (c6.app j0 hob303), (e4.app j9 hob369), h0, ((j8.then H).step Y hGc3.mem), (hGc2.app j2 hob303), (hGc3.app (j8.then H) hob369)⟩
    · rw [List.flatten_append, List.flatten_singleton]; exact f9
    · rw [List.take_succ_eq_append_getElem hk', List.map_append, List.map_singleton, hq]; exact ht9
    · rw [List.take_succ_eq_append_getElem hk', List.map_append, List.map_append, hes]; rfl
    · intro e he
      rcases List.mem_append.1 he with he | he
      · exact hop e he
      · rw [List.mem_singleton.1 he]
   refine aO rfl ?_; refine cK (vs := [_]) rfl kN rfl rfl rfl rfl fun u0 u1 o8 s1 F => ?_; have k4 := (g7.then A).then F; have k5 := (g8.then A).then F; have k6 := (b8.then A).then F; have f5 := a4.then F; have f6 := F.blk0 d4; have k7 := (c1.evo0 A).evo0 F; have k8 := (f2.evo0 A).evo0 F; refine aE (aJ (.inl f5) ?_); refine aN [4] (by kernel_rfl) rfl ⟨?_, trivial⟩; refine aO rfl ?_; refine aC (aF rfl jA (aK f6 rfl)) (aE (aJ (.inl f5) ?_)); refine aN [11] (by kernel_rfl) rfl ⟨?_, trivial⟩; refine aO rfl ?_; have hsz61 := (k5).size; refine dB rfl rfl rfl rfl jX ((c0.evo0 A).evo0 F) (Src.ofOwn o8 ⟨by first | rfl | assumption, by first | rfl | assumption, by first | rfl | assumption, by first | rfl | assumption, trivial⟩) (by omega) fun a61 c61 u2 ob61 e7 U hob422 => ?_; have k9 := b6.app (Lt.blk f6) hob422; have l0 := d9.symm.app (Lt.own k7) hob422; have o9 := k5.step U (fun y hy => .inl (List.mem_cons_of_mem _ (List.mem_append_left _ hy))); have d7 := f5.step U (fun y hy => .inl (List.mem_cons_of_mem _ hy)); have hso61 := pZ hob422 hsz61; refine aE (aJ (.inl d7) ?_); refine aet 12 rfl (fun _ hS => aH rfl) d7 ?_; refine aet 13 rfl (fun _ hS => aA rfl fZ) d7 ?_; refine aN [14] (by kernel_rfl) rfl ⟨?_, trivial⟩; refine aO rfl ?_
   refine bE rfl rfl (by first | rfl | assumption) lN (U.blk f6 b6.nmem) rfl fun u3 f7 V => ?_
   have l1 := o9.step V (fun y hy => .inl (by rw [List.mem_singleton.1 hy]; simp))
   have l2 := (k6.step U hGc2.mem).step V (fun y hy => .inl (by rw [List.mem_singleton.1 hy]; simp))
   have p0 := d7.step V (fun y hy => .inl (by rw [List.mem_singleton.1 hy]; simp))
   try simp only [dH, Nat.reduceAdd] at f7
   refine aE (aJ (.inl p0) ?_); refine bN (by kernel_rfl) (aB ?_); refine aQ (aD (aC (aA rfl bX) (aC (aF rfl cG (aK (V.blk (U.blk (F.blk0 (A.blk0 c7)) e6.symm.nmem) e5.symm.nmem1) rfl)) (cK (vs := [_]) rfl kM rfl rfl rfl rfl fun u4 u5 p3 s2 I => ?_)))); have l3 := ((k4.step U c6.mem).step V b7.mem1).then I; have l4 := ((k8.evo U e0.own).evo V e3.own1).evo0 I; have l5 := (((d5.evo0 F).evo U c4.symm.own).evo V c3.symm.own1).evo0 I; have l6 := (((b4.evo0 F).evo U d2.symm.own).evo V d1.symm.own1).evo0 I; have l7 := (e7.evo V k9.symm.own1).evo0 I; have hsz68 := ((l1.then I)).size; refine dB rfl rfl rfl rfl jW (((k7.evo U d9.symm.own).evo V a5.symm.own1).evo0 I) (Src.ofOwn p3 ⟨by first | rfl | assumption, trivial⟩) (by omega) fun a68 c68 u6 ob68 e8 a0 hob488 => ?_; have hso68 := pZ hob488 hsz68; refine cL (aE (bC (aB (aQ ?_)))); refine aC (aT rfl rfl (by omega) (by omega)) ?_; refine aD (aE (aM ?_)); refine ⟨⟨k + 1, es ++ [⟨m[k].ls, bs9, m[k].ps, false⟩], k + 1, a61, c61, ob61, k + 1, a68, c68, ob68⟩, ?_, ⟨rfl, rfl, trivial⟩, ⟨rfl, rfl, rfl, trivial⟩, (l3.step a0 e4.mem), ?_⟩
   · (try dsimp only); omega
   try dsimp only
   have hrs := mR hrk ((l1.then I).step a0 (fun y hy => .inl (List.mem_cons_of_mem _ (List.mem_append_right _ hy)))) (KT hso61 hso68); have hg9 : Ent.Good ⟨m[k].ls, bs9, m[k].ps, false⟩ := ⟨⟨hck.2.2, lG hck.2.1, wH (hdat2 _ hmem).2⟩, hpk, hck32⟩; have hr9 := wX (l6.evo a0 d3.symm.own) hlr (l5.evo a0 c5.symm.own) hb44 (HN d1.symm (d2.symm.app (Lt.own (b4.evo0 F)) hob422) (d3.symm.app (Lt.own l6) hob488)) (HN c3.symm (c4.symm.app (Lt.own (d5.evo0 F)) hob422) (c5.symm.app (Lt.own l5) hob488)) hg9; unfold LdI; dsimp only; have f9 := (l7.evo a0 l0.symm.own); have ht9 := e8; refine ⟨by omega, (a0.blk (I.blk0 f7) a5.nmem), ⟨rows9 ++ [_], ?_, hY hrs rfl hr9⟩, ?_, (l4.evo a0 e2.own), rfl, rfl, ?_, ?_, k9, (a5.app (Lt.blk (I.blk0 f7)) hob488), (l0.symm.app (Lt.own l7) hob488), (e0.app (Lt.own k8) hob422), (e2.app (Lt.own l4) hob488), e3, b7, (c6.app k4 hob422), (e4.app l3 hob488), h0, ((l2.then I).step a0 hGc3.mem), (hGc2.app k6 hob422), (hGc3.app (l2.then I) hob488)⟩
   · rw [List.flatten_append, List.flatten_singleton]; exact f9
   · rw [List.take_succ_eq_append_getElem hk', List.map_append, List.map_singleton, hq]; exact ht9
   · rw [List.take_succ_eq_append_getElem hk', List.map_append, List.map_append, hes]; rfl
   · intro e he
     rcases List.mem_append.1 he with he | he
     · exact hop e he
     · rw [List.mem_singleton.1 he]
  obtain rfl : k = m.length := by omega
  rw [List.take_length] at f8 hes
  have hel : es.length = m.length := by have := congrArg List.length hes; simpa using this
  refine bJ (bD (bD (bI (aB ?_)))); refine csr (aD ?_)
  refine aG (vs := [_]) yL rfl (KF (JU f8 rfl (fun x hx => (hdat2 x hx).1.evo RLB.pers hVc)) (by simp; omega) (fun s hs => by obtain ⟨x, hx, rfl⟩ := List.mem_map.1 hs; exact (mQ (hchk2 x hx).1).1)) rfl ?_
  rintro _ u7 ⟨bx, rfl, c2⟩; refine aD (aC (cB rfl rfl) ?_); refine aC (cB rfl rfl) ?_; refine cL (wan (aL (csr (aD (aC (eO rfl rfl) ?_))))); refine wnn (bP rfl (fun n8 => ?_) (fun n8 => ?_))
  ·exact absurd rfl n8
  refine aR (aB (csr (aD (aD (aC (aH rfl) (aC (aA rfl uP) ?_)))))); refine bE rfl rfl (by first | rfl | assumption) xG (c2.blk0 hBS) rfl fun u8 l8 d8 => ?_
  have p4 := (g4.then c2).step d8 (fun y hy => .inl (by rw [List.mem_singleton.1 hy]; simp))
  have s3 := (hVc.then c2).step d8 (fun y hy => .inl (by rw [List.mem_singleton.1 hy]; simp))
  try simp only [dH, Nat.reduceAdd] at l8
  refine wnn (csr (aD (cL (cL (wan (aS (vX rfl rfl rfl rfl ?_)))))))
  exact ⟨((g3.then c2).step d8 b7.mem1), .inr ⟨p8, bs, so, es, rfl, ⟨_, sa, sc, rows9, by rw [hel]; exact l8, by rw [hel]; exact ((hS.evo0 c2).evo d8 b6.symm.own1), mR hrk p4 (fun y hy => .inl (sub2 hy)), b6⟩, b7, c6, m.map (fun x => (x.ls, x.ps)), hdm, fun i j hij hj => by simpa using hsort i j hij (by simpa using hj), hes, hop⟩⟩
end Go.Proofs.YtlpdhbmhbjjnhaaGreatDoor
namespace Go.Proofs.YtlpdhbmhbjjnhaaGreatDoor
open Go.RowKit Go.W
attribute [local irreducible] Decidable.decide
def Ent.row (e : Ent) : SD := (e.ls, e.out)
def Sto (X : List Nat) (w : World) (b : Nat) (ob : Option Nat) (l : List SD) : Prop :=
  ∃ ix a c rows, ∃ es : List Ent, w.heap[b]? = some (.cells #[.pointer ix, .slice a es.length c, .int .i32 0, .int .u32 0] 77 (0, 0)) ∧ OwnS w 88 4 a es.length c (List.flatten rows) ob ∧ RowsOk 4 REnt X w rows es ∧ Apart (some b) ob ∧
    (∀ y, y ∈ b :: ob.toList → y ∈ X) ∧ es.map Ent.row = l ∧ Tab w ∧ nU ∉ b :: ob.toList ∧ (∀ y, y ∈ X → y < w.heap.size)
theorem nQ {X Y Z : List Nat} {w w' : World} {rows : List (List Value)} {es : List Ent} (h : RowsOk 4 REnt X w rows es) (he : Evo Z w w') (hz : ∀ z, z ∈ Z → z ∈ Y) (hy : ∀ y, y ∈ Y → y ∈ X ∨ w.heap.size ≤ y) : RowsOk 4 REnt Y w' rows es := by
  refine ⟨h.1, fun k hk hk' => ?_⟩
  obtain ⟨h1, h2⟩ := h.2 k hk hk'
  refine ⟨h1, ?_⟩
  have h3 : REnt Y w rows[k] es[k] := REnt.fresh _ _ _ _ _ hy h2
  exact REnt.pers _ _ _ _ _ (he.mono hz) h3
theorem Sto.step {X Y Z : List Nat} {w w' : World} {b : Nat} {ob : Option Nat} {l : List SD} (h : Sto X w b ob l) (he : Evo Z w w') (hz : ∀ z, z ∈ Z → z ∈ Y ∧ z ∉ b :: ob.toList ∧ z ≠ nU) (hy : ∀ y, y ∈ Y → (y ∈ X ∨ w.heap.size ≤ y) ∧ y < w'.heap.size) (hb : ∀ y, y ∈ b :: ob.toList → y ∈ Y) : Sto Y w' b ob l := by
  obtain ⟨ix, a, c, rows, es, h1, h2, h3, h4, h5, h6, h7, h8, h9⟩ := h
  refine ⟨ix, a, c, rows, es, he.blk h1 (fun hm => (hz b hm).2.1 (by simp)), h2.evo he (fun g hg hm => (hz g hm).2.1 (by simp [hg])), nQ h3 he (fun z h => (hz z h).1) (fun y h => (hy y h).1), h4, hb, h6, h7.evo he (fun hm => (hz nU hm).2.2 rfl), h8, fun y h => (hy y h).2⟩
theorem Sto.evo {X : List Nat} {w w' : World} {b : Nat} {ob : Option Nat} {l : List SD} (h : Sto X w b ob l) (he : Evo [] w w') : Sto X w' b ob l := by
  obtain ⟨_, _, _, _, _, _, _, _, _, h5, _, _, _, h9⟩ := id h
  exact h.step he (fun z hz => by cases hz) (fun y hy => ⟨.inl hy, Nat.lt_of_lt_of_le (h9 y hy) he.size⟩) h5
theorem Sto.ser {X : List Nat} {w : World} {b : Nat} {ob : Option Nat} {l : List SD} (h : Sto X w b ob l) : ∀ s, s ∈ l → s.1.length ≤ 32 ∧ s.2.length ≤ 100000 ∧ lC s.2 ∧ ∀ x, x ∈ s.2 → x.Ok ∧ kJ x := by
  obtain ⟨ix, a, c, rows, es, h1, h2, h3, h4, h5, rfl, h7, h8, h9⟩ := h
  intro s hs
  obtain ⟨e, he, rfl⟩ := List.mem_map.1 hs
  obtain ⟨k, hk, rfl⟩ := List.getElem_of_mem he
  have hk' : k < rows.length := by rw [h3.1]; exact hk
  obtain ⟨-, lv, pv, qv, -, -, -, -, -, hg⟩ := h3.2 k hk hk'
  refine ⟨hg.2.2, hg.few, fun i hi => ?_, fun x hx => ?_⟩
  · simp only [Ent.row, Ent.out, List.length_map] at hi
    have := hg.1.up i hi
    simpa only [Ent.row, Ent.out, List.getElem_map, rY] using this
  · obtain ⟨y, hy, rfl⟩ := List.mem_map.1 hx
    exact ⟨LP (hg.1.ok y hy), BJ y⟩
theorem sto_of {w : World} {b : Nat} {ob : Option Nat} {es : List Ent} (h : StAt w b ob es) (hT : Tab w) (hg : nU ∉ b :: ob.toList) : Sto (b :: ob.toList) w b ob (es.map Ent.row) := by
  obtain ⟨ix, a, c, rows, h1, h2, h3, h4⟩ := h
  refine ⟨ix, a, c, rows, es, h1, h2, h3, h4, fun y hy => hy, rfl, hT, hg, fun y hy => ?_⟩
  rcases List.mem_cons.1 hy with rfl | hy
  · exact iJ h1
  · cases ob with
    | none => cases hy
    | some g => rw [show y = g from by simpa using hy]; exact h2.lt
def lT (l : List SD) (i : Int) : SD := if 0 ≤ i ∧ i < l.length then l.getD i.toNat ([], []) else ([], [])
theorem zR {l : List SD} {i : Int} (h : i < 0 ∨ (l.length : Int) ≤ i) : lT l i = ([], []) := if_neg (by omega)
theorem sI {l : List SD} {k : Nat} (h : k < l.length) : lT l (k : Int) = l[k] := by
  unfold lT; rw [if_pos (by omega)]; simp [h]
def cnt (ps : List Smp) (t : Int) : Nat := ps.countP fun p => decide (p.t ≤ t)
theorem sN {ps : List Smp} (h : lC ps) : ∀ {i j : Nat} (hij : i < j) (hj : j < ps.length), (ps[i]'(by omega)).t < ps[j].t := by
  intro i j hij
  induction j with
  | zero => omega
  | succ j ih =>
    intro hj
    have h1 := h j hj
    by_cases e : i = j
    · subst e; exact h1
    · have := ih (by omega) (by omega); omega
theorem LM {ps : List Smp} (h : lC ps) {t : Int} {n : Nat} (hn : n ≤ ps.length) (h1 : ∀ k (hk : k < ps.length), k < n → ps[k].t ≤ t) (h2 : ∀ k (hk : k < ps.length), n ≤ k → t < ps[k].t) : cnt ps t = n := by
  unfold cnt
  rw [← List.take_append_drop n ps, List.countP_append]
  have e1 : (ps.take n).countP (fun p => decide (p.t ≤ t)) = (ps.take n).length := by
    rw [List.countP_eq_length]
    intro p hp
    obtain ⟨k, hk, rfl⟩ := List.getElem_of_mem hp
    simp only [List.length_take] at hk
    simp only [List.getElem_take, decide_eq_true_eq]
    exact h1 k (by omega) (by omega)
  have e2 : (ps.drop n).countP (fun p => decide (p.t ≤ t)) = 0 := by
    rw [List.countP_eq_zero]
    intro p hp
    obtain ⟨k, hk, rfl⟩ := List.getElem_of_mem hp
    simp only [List.length_drop] at hk
    simp only [List.getElem_drop, decide_eq_true_eq]
    have := h2 (n + k) (by omega) (by omega)
    omega
  rw [e1, e2, List.length_take]; omega
theorem cnt_le (ps : List Smp) (t : Int) : cnt ps t ≤ ps.length := List.countP_le_length
theorem cnt_is {ps : List Smp} (h : lC ps) (t : Int) : (∀ k (hk : k < ps.length), k < cnt ps t → ps[k].t ≤ t) ∧ ∀ k (hk : k < ps.length), cnt ps t ≤ k → t < ps[k].t := by
  have key : ∃ n, n ≤ ps.length ∧ (∀ k (hk : k < ps.length), k < n → ps[k].t ≤ t) ∧ ∀ k (hk : k < ps.length), n ≤ k → t < ps[k].t := by
    have go : ∀ m, m ≤ ps.length → ∃ n, n ≤ m ∧ (∀ k (hk : k < ps.length), k < n → ps[k].t ≤ t) ∧ ∀ k (hk : k < ps.length), n ≤ k → k < m → t < ps[k].t := by
      intro m
      induction m with
      | zero => exact fun _ => ⟨0, Nat.le_refl _, fun k _ h => by omega, fun k _ h h2 => by omega⟩
      | succ m ih =>
        intro hm
        obtain ⟨n, hn, h1, h2⟩ := ih (by omega)
        by_cases e : ps[m].t ≤ t
        · refine ⟨m + 1, Nat.le_refl _, fun k hk hkm => ?_, fun k _ h3 h4 => by omega⟩
          by_cases e2 : k = m
          · subst e2; exact e
          · have := sN h (show k < m by omega) (by omega); omega
        · refine ⟨n, by omega, h1, fun k hk h3 h4 => ?_⟩
          by_cases e2 : k = m
          · subst e2; omega
          · exact h2 k hk h3 (by omega)
    obtain ⟨n, hn, h1, h2⟩ := go ps.length (Nat.le_refl _)
    exact ⟨n, hn, h1, fun k hk h3 => h2 k hk h3 hk⟩
  obtain ⟨n, hn, h1, h2⟩ := key
  rw [LM h hn h1 h2]
  exact ⟨h1, h2⟩
end Go.Proofs.YtlpdhbmhbjjnhaaGreatDoor
namespace Go.W
open Go.RowKit
section
variable {P : Program} {σ : Env} {w : World}
theorem EA {n : Nat} {fn : Func} {Φ : Value → World → Prop} (h : mI P fn (Ret Φ) .ret (n, []) σ w) : EC P fn (Ret Φ) .ret (n, []) σ w := fun a ha => h.2 a (by rw [ha.1, ha.2.1]; exact ha)
end
end Go.W
namespace Go.Proofs.YtlpdhbmhbjjnhaaGreatDoor
open Go.RowKit Go.W
attribute [local irreducible] Decidable.decide
abbrev muLk : Go.Conc.Locks.MuLink := { lock := 57, unlock := 58, ilock := 86, iunlock := 87, lockSlow := 105, unlockSlow := 108, disable := 101, enable := 103, acquire := 104, relMerge := 106, cas32 := 102, add32 := 107, tMutex := 75, tIMutex := 73, tPMutex := 141, tPIMutex := 158, tPI32 := 160, tUP := 162, tNoCopy := 70, tU32 := 71 }
theorem muLb : Go.Conc.Locks.MuLib Tryz.prog muLk where
  f_lock := Tryz.func57
  f_unlock := Tryz.func58
  f_ilock := Tryz.func86
  f_iunlock := Tryz.func87
  f_disable := Tryz.func101
  f_enable := Tryz.func103
  f_acquire := Tryz.func104
  f_relMerge := Tryz.func106
  f_cas32 := Tryz.func102
  f_add32 := Tryz.func107
  underlying_tIMutex := Tryz.underlying73
  runUnderlying_tIMutex := fun w => by kernel_rfl
  sizeOf_tIMutex := fun w => by kernel_rfl
  isAgg_tIMutex := fun w => by kernel_rfl
  zeroValue_tIMutex := fun w => by kernel_rfl
  underlying_tMutex := Tryz.underlying75
  runUnderlying_tMutex := fun w => by kernel_rfl
  sizeOf_tMutex := fun w => by kernel_rfl
  isAgg_tMutex := fun w => by kernel_rfl
  zeroValue_tMutex := fun w => by kernel_rfl
  underlying_tPMutex := Tryz.underlying141
  runUnderlying_tPMutex := fun w => by kernel_rfl
  sizeOf_tPMutex := fun w => by kernel_rfl
  isAgg_tPMutex := fun w => by kernel_rfl
  zeroValue_tPMutex := fun w => by kernel_rfl
  underlying_tPIMutex := Tryz.underlying158
  runUnderlying_tPIMutex := fun w => by kernel_rfl
  sizeOf_tPIMutex := fun w => by kernel_rfl
  isAgg_tPIMutex := fun w => by kernel_rfl
  zeroValue_tPIMutex := fun w => by kernel_rfl
  underlying_tPI32 := Tryz.underlying160
  runUnderlying_tPI32 := fun w => by kernel_rfl
  sizeOf_tPI32 := fun w => by kernel_rfl
  isAgg_tPI32 := fun w => by kernel_rfl
  zeroValue_tPI32 := fun w => by kernel_rfl
  underlying_tUP := Tryz.underlying162
  runUnderlying_tUP := fun w => by kernel_rfl
  sizeOf_tUP := fun w => by kernel_rfl
  isAgg_tUP := fun w => by kernel_rfl
  zeroValue_tUP := fun w => by kernel_rfl
  underlying_tNoCopy := Tryz.underlying70
  runUnderlying_tNoCopy := fun w => by kernel_rfl
  sizeOf_tNoCopy := fun w => by kernel_rfl
  isAgg_tNoCopy := fun w => by kernel_rfl
  zeroValue_tNoCopy := fun w => by kernel_rfl
  underlying_t21 := Tryz.underlying21
  runUnderlying_t21 := fun w => by kernel_rfl
  sizeOf_t21 := fun w => by kernel_rfl
  isAgg_t21 := fun w => by kernel_rfl
  zeroValue_t21 := fun w => by kernel_rfl
  room_tIMutex := by kernel_rfl
section
variable {P : Program} {N : NN} {R : fJ} {σ : Env} {w : World} {ops : Array Oper} {rest : List Oper} {T : TypeId} {pos : String} {after : Array Edge} {d : Nat}
abbrev dfm (f : FuncId) (v : Value) : Deferred := { target := .fn (.func f) #[], args := #[v] }
theorem GH {x : Operand} {ats : Array TypeId} {f : FuncId} {v : Value} (hx : σ.ev x = some v) (h : WL P (N.1, dfm f v :: N.2) ops R rest σ w) :
    WL P N ops R (⟨none, .defer ⟨.value (.func f), #[x], ats⟩, T, pos, after, none⟩ :: rest) σ w := fun a ha => wpList_plain rfl fun K hK => by
  unfold Oper.wp
  have hrun : (execOp a.eval ⟨none, .defer ⟨.value (.func f), #[x], ats⟩, T, pos, after, none⟩).run P w = .ok (.defer (dfm f v)) w := by
    have hf : a.eval (.func f) = .func (.func f) #[] #[] := rfl
    simp [execOp, resolve, ha.agrees x _ hx, hf, Deferred.ofValue]
  rw [hrun]
  exact hK _ _ (h _ ⟨ha.1, by show dfm f v :: a.defers = _; rw [ha.2.1], ha.2.2⟩)
theorem tK {n : Nat} {fn g : Func} {f : FuncId} {r : Value} {Φ : Value → World → Prop} {t : Tmp} {v : Value} (hr : fn.results = #[.tmp t]) (hv : σ.get t = some v) (hg : P.funcs[f]? = some g) (hn : (g.name == "runtime.NumGoroutine") = false) (hb : g.body.isNone = false)
    (h : CallsD P f #[r] .returning w fun e u' w' => u' = .returning ∧ e = .returned (.tuple #[]) ∧ Φ v w') : EC P fn (Ret Φ) .ret (n, [dfm f r]) σ w := fun a ha => by
  refine leaves_cons (by simp) ?_ (h.mono ?_)
  · have hn' : ¬ g.name = "runtime.NumGoroutine" := by simpa using hn
    have hb' : ¬ g.body = none := by intro hh; simp [hh] at hb
    simp [invoke, callFunc, hg, hn', hb']
  · rintro e u' w' ⟨rfl, rfl, hΦ⟩
    have h1 := (vY (P := P) (n := n) (fn := fn) (Φ := fun v _ => Φ v w') (w := w') hr hv hΦ).2 { a with defers := [] } ⟨rfl, rfl, ha.2.2⟩
    obtain ⟨u, hu, v1, hv1, hΦ1⟩ := h1
    exact ⟨u, hu, v1, hv1, hΦ1⟩
end
theorem qQ {w : World} {b : Nat} {cs : Array Value} {U : TypeId} {fz : Nat × Nat} (hb : w.heap[b]? = some (.cells cs U fz)) (o : Nat) (v : Value) : (w.setCell ⟨b, o, none⟩ v).heap[b]? = some (.cells (cs.setIfInBounds o v) U fz) := by
  simp only [World.setCell, Array.getElem?_modify, if_true, hb, Option.map_some]; rfl
open Go.MuLone in
theorem KJ {w : World} {b : Nat} {x y u : Value} {U : TypeId} (hb : w.heap[b]? = some (.cells #[x, y, .int .i32 0, u] U (0, 0))) :
    Calls Tryz.prog 57 #[.pointer (some ⟨b, 2, none⟩)] w (Ret fun v w' => v = .tuple #[] ∧ w'.heap[b]? = some (.cells #[x, y, .int .i32 1, u] U (0, 0)) ∧ Evo [b] w w') := by
  refine (lock_free muLb ⟨b, 2, none⟩ w (aK hb rfl) ?_).mono ?_
  · simp [World.frozen?, hb]
  · rintro e w' ⟨rfl, rfl⟩
    exact ⟨_, rfl, rfl, by simpa using qQ hb 2 (.int .i32 1), mH w ⟨b, 2, none⟩ _⟩
open Go.MuLone in
theorem sC {w : World} {b : Nat} {x y u : Value} {U : TypeId} {Φ : World → Prop} (hb : w.heap[b]? = some (.cells #[x, y, .int .i32 1, u] U (0, 0))) (hΦ : ∀ w', w'.heap[b]? = some (.cells #[x, y, .int .i32 0, u] U (0, 0)) → Evo [b] w w' → Φ w') :
    CallsD Tryz.prog 58 #[.pointer (some ⟨b, 2, none⟩)] .returning w fun e u' w' => u' = .returning ∧ e = .returned (.tuple #[]) ∧ Φ w' := by
  refine (unlock_deferred muLb ⟨b, 2, none⟩ .returning w (aK hb rfl) ?_).mono ?_
  · simp [World.frozen?, hb]
  · rintro e u' w' ⟨rfl, rfl, rfl⟩
    exact ⟨rfl, rfl, hΦ _ (by simpa using qQ hb 2 (.int .i32 0)) (mH w ⟨b, 2, none⟩ _)⟩
end Go.Proofs.YtlpdhbmhbjjnhaaGreatDoor
namespace Go.Proofs.YtlpdhbmhbjjnhaaGreatDoor
open Go.Lib Go.RowKit Go.Sort Go.W
attribute [local irreducible] Decidable.decide
theorem jZ : hD Tryz.prog 4 = some false := by kernel_rfl
theorem BV : hD Tryz.prog 83 = some false := by kernel_rfl
theorem zB : jE Tryz.prog 68 = some 4 := by kernel_rfl
theorem nK : dV Tryz.prog 77 2 = some 2 := by kernel_rfl
theorem uO : dV Tryz.prog 88 1 = some 1 := by kernel_rfl
theorem kO : dV Tryz.prog 88 2 = some 2 := by kernel_rfl
theorem nJ : dV Tryz.prog 88 3 = some 3 := by kernel_rfl
theorem pI : dC Tryz.prog 14 := ⟨_, Tryz.func14, by kernel_rfl, by kernel_rfl⟩
theorem xW : dC Tryz.prog 57 := ⟨_, Tryz.func57, by kernel_rfl, by kernel_rfl⟩
theorem xV : dC Tryz.prog 59 := ⟨_, Tryz.func59, by kernel_rfl, by kernel_rfl⟩
theorem rH : eS Tryz.prog 4 = some 1 := by kernel_rfl
theorem xH : eS Tryz.prog 43 = some 1 := by kernel_rfl
section
variable {P : Program} {σ : Env} {w : World} {dst : Option Nat} {T : TypeId} {pos : String} {after : Array Edge} {g : Option (Nat × Bool)}
theorem wU {x y : Operand} {t t' : TypeId} {a : Addr} (hx : σ.ev x = some (.pointer (some a))) (hy : σ.ev y = some (.pointer none)) (h : P.underlying t = some (.pointer (P.pointee t))) : Ex P σ ⟨dst, .binOp .eql t x y t', T, pos, after, g⟩ w (.bool false) w := fun ρ hρ => by
  have := Go.run_eql_pointer_nil (P := P) (w := w) t (some a) h
  simp [execOp, hρ x _ hx, hρ y _ hy, eqGuard, this]
theorem ex_eqPn {x y : Operand} {t t' : TypeId} (hx : σ.ev x = some (.pointer none)) (hy : σ.ev y = some (.pointer none)) (h : P.underlying t = some (.pointer (P.pointee t))) : Ex P σ ⟨dst, .binOp .eql t x y t', T, pos, after, g⟩ w (.bool true) w := fun ρ hρ => by
  have := Go.run_eql_pointer_nil (P := P) (w := w) t none h
  simp [execOp, hρ x _ hx, hρ y _ hy, eqGuard, this]
end
theorem FB {α : Type} {R : Rel α} {X : List Nat} {w w' : World} {e : TypeId} {sz : Nat} {a : Option Addr} {n c k : Nat} {rows : List (List Value)} {es : List α} {ob : Option Nat} (h : OwnS w e sz a n c rows.flatten ob) (hr : RowsOk sz R X w' rows es) (hk : k < rows.length) (hz : 0 < n) : ∃ g, ob = some g ∧ a = some ⟨g, 0, none⟩ ∧ ∀ j v, rows[k][j]? = some v → w.cell? ⟨g, 0 + k * sz + j, none⟩ = some v := by
  obtain ⟨g, hg, ha, hc⟩ := h.cells hz
  refine ⟨g, hg, ha, fun j v hv => ?_⟩
  have hj : j < sz := by rw [← hr.flen _ (List.getElem_mem hk)]; exact (List.getElem?_eq_some_iff.1 hv).1
  have := hc (k * sz + j) v (by rw [qX hr.flen hk hj]; exact hv)
  rw [show 0 + k * sz + j = 0 + (k * sz + j) by omega]
  exact this
theorem wI {r : List Value} {vs : List Value} (h : r = vs) {j : Nat} {v : Value} (hv : vs[j]? = some v) : r[j]? = some v := by rw [h]; exact hv
theorem tQ : Tryz.prog.underlying 34 = some (.pointer (Tryz.prog.pointee 34)) := by kernel_rfl
theorem upto_ok {X : List Nat} {w : World} {v : Value} {ps : List Smp} (hs : RSl 3 RSmp X w v ps) (hr : lC ps) (hl : ps.length ≤ 1000000000) (t : Int) : Calls Tryz.prog 37 #[v, .int .i64 t] w (Ret fun r w' => r = .int .i64 (cnt ps t : Nat) ∧ Evo [] w w') := by
  obtain ⟨sa, sc, rfl, hlc, e1⟩ := hs; refine aU (N := 28) Tryz.func37 rfl rfl rfl ?_; refine csr (wan (csr (aD (aC (aP rfl Tryz.underlying43 rfl) ?_)))); refine cL (wan (aL (aZ ?_)))
  refine cH (α := Nat × Nat) ((0, ps.length)) (fun x => [(5, .int .i64 (x.1 : Nat)), (6, .int .i64 (x.2 : Nat))]) [(0, _), (1, _), (4, _)] (fun x wr => Evo [] w wr ∧ (x.1 ≤ x.2 ∧ x.2 ≤ ps.length ∧ (∀ k (hk : k < ps.length), k < x.1 → ps[k].t ≤ t) ∧ ∀ k (hk : k < ps.length), x.2 ≤ k → t < ps[k].t)) (fun x => x.2 - x.1) ⟨rfl, rfl, trivial⟩ ⟨rfl, rfl, rfl, trivial⟩ ⟨(Evo.refl [] w), ⟨Nat.zero_le _, Nat.le_refl _, fun k _ h => by simp at h, fun k _ h => by simp at h; omega⟩⟩ ?_
  rintro ⟨lo, hi⟩ wr1 ⟨y, ⟨h1, h2, h3, h4⟩⟩; show CW _ _ _ _ [(5, .int .i64 (lo : Nat)), (6, .int .i64 (hi : Nat)), (0, _), (1, _), (4, _)] _
  try dsimp only at h1 h2 h3 h4
  refine aL (csr (aD (aD (aC (cE rfl rfl) ?_)))); refine wnn (bP rfl (fun D => ?_) (fun D => ?_))
  ·have hk' : (lo + hi) / 2 < ps.length := by omega
   obtain ⟨b1, o1, vs1, ha1, hb1, -, E, rfl, hz1⟩ := e1 _ hk'; refine aR (aB (aZ (csr (aD (aD ?_))))); refine aC (aT rfl rfl (by omega) (by omega)) ?_
   refine aC (kE (m := lo + hi) (n := 2) rfl rfl (by omega) (by omega) (by omega) (by simp [IntKind.max, IntKind.signed, IntKind.bits]; omega)) ?_
   refine wan (csr (aD (aD ?_)))
   refine aC (cS (n := (lo + hi) / 2) (by rw [ha1]; rfl) rfl eA (by omega)) ?_
   refine aC (aA rfl dG) (aC (aF rfl eD ((E.evo ((y).any X) hb1) 0 _ rfl)) (aD (aC (eP rfl rfl) ?_))); refine wnn (bP rfl (fun A => ?_) (fun A => ?_))
   ·refine aQ (aD ?_); refine aC (aT rfl rfl (by omega) (by omega)) ?_; refine cL (aE (bC (aM ?_))); refine ⟨⟨(lo + hi) / 2 + 1, hi⟩, ?_, ⟨rfl, rfl, trivial⟩, ⟨rfl, rfl, rfl, trivial⟩, y, ?_⟩
    · (try dsimp only); omega
    try dsimp only
    refine ⟨by omega, h2, fun k hk hlt => ?_, h4⟩
    by_cases e : k = (lo + hi) / 2
    · subst e; exact A
    · have := sN hr (show k < (lo + hi) / 2 by omega) hk'; omega
   refine aQ (aD (cL (aE (bC (aM ?_))))); refine ⟨⟨lo, (lo + hi) / 2⟩, ?_, ⟨rfl, rfl, trivial⟩, ⟨rfl, rfl, rfl, trivial⟩, y, ?_⟩
   · (try dsimp only); omega
   try dsimp only
   refine ⟨by omega, by omega, h3, fun k hk hle => ?_⟩
   by_cases e : k = (lo + hi) / 2
   · subst e; omega
   · have := sN hr (show (lo + hi) / 2 < k by omega) hk; omega
  obtain rfl : lo = hi := by omega
  refine bJ (bD (bD (bI (aB ?_)))); refine csr (aD (wan (aS (br1 ?_)))); exact ⟨by rw [LM hr h2 h3 h4], y⟩
theorem KL {X : List Nat} {w : World} {b : Nat} {ob : Option Nat} {l : List SD} (h : Sto X w b ob l) : Calls Tryz.prog 14 #[.pointer (some ⟨b, 0, none⟩)] w (Ret fun r w' => r = .int .i64 (l.length : Nat) ∧ Evo [] w w') := by
  obtain ⟨ix, a, c, rows, es, h1, h2, h3, h4, h5, rfl, h7, h8, h9⟩ := h; refine aU (N := 10) Tryz.func14 rfl rfl rfl ?_; refine csr (wan (aL (csr (aD (aC (wU rfl rfl tQ) ?_))))); refine wnn (dX rfl (fun y => ?_) (fun y => ?_))
  ·cases y
  refine aR (aB (csr (aD (aC (aH rfl) (wfl rfl fZ rfl jA h1 rfl (aC (aP rfl Tryz.underlying68 rfl) ?_)))))); refine wan (aS (br1 ?_)); exact ⟨by rw [List.length_map], (Evo.refl [] w)⟩
theorem CU {X : List Nat} {w : World} {rows : List (List Value)} {es : List Ent} {k : Nat} {r : List Value} {e : Ent} (h : RowsOk 4 REnt X w rows es) (hk : k < es.length) (h1 : r.length = 4) (h2 : REnt X w r e) : RowsOk 4 REnt X w (rows.set k r) (es.set k e) := by
  refine ⟨by simp [h.1], fun i hi hi' => ?_⟩
  simp only [List.getElem_set]
  simp only [List.length_set] at hi hi'
  by_cases e1 : k = i
  · rw [if_pos e1]
    subst e1
    exact ⟨by simpa using h1, by simpa using h2⟩
  · rw [if_neg e1, if_neg e1]
    exact h.2 i hi hi'
theorem AL {es : List Ent} {k : Nat} (hk : k < es.length) {e : Ent} (he : e.row = es[k].row) : (es.set k e).map Ent.row = es.map Ent.row := by
  apply List.ext_getElem
  · simp
  · intro i h1 h2
    simp only [List.getElem_map, List.getElem_set]
    split
    · rename_i h; subst h; exact he
    · rfl
def Ent.opened (e : Ent) : Ent := { e with op := true }
theorem unp_out {e : Ent} (hg : e.Good) {out : List Smp} {z : Int} (h : oV e.bs out z) : out = e.out := by
  rcases h with ⟨-, h1, h2, h3⟩ | ⟨-, -, h⟩
  · have h4 := LA h1 hg.1 h3 hg.2.1
    rw [wP h2] at h4; exact h4
  · exact absurd ⟨e.ps, hg.1, hg.2.1⟩ h
theorem HY {rows : List (List Value)} (h : ∀ r, r ∈ rows → r.length = 4) {k : Nat} (hk : k < rows.length) {x y z u : Value} (hr : rows[k] = [x, y, z, u]) (V U : Value) : (rows.flatten.set (k * 4 + 2) V).set (k * 4 + 3) U = (rows.set k [x, y, V, U]).flatten := by
  rw [qW h hk (by decide), hr, show [x, y, z, u].set 2 V = [x, y, V, u] from rfl, qW (sz := 4) (rows := rows.set k [x, y, V, u]) (fun r hm => ?_) (by simpa using hk) (by decide)]
  · simp only [List.getElem_set_self, List.set_set]; rfl
  · rcases List.mem_or_eq_of_mem_set hm with h1 | rfl
    · exact h r h1
    · rfl
theorem rsl_nil {α : Type} {sz : Nat} {R : Rel α} {X : List Nat} {w : World} : RSl sz R X w (.slice none 0 0) [] := ⟨none, 0, rfl, Nat.le_refl _, fun k h => by simp at h⟩
theorem sE {b : Nat} {ob : Option Nat} {X : List Nat} (h : ∀ y, y ∈ b :: ob.toList → y ∈ X) {w w' : World} (he : Evo (b :: ob.toList) w w') : Evo X w w' := he.mono h
theorem HC {X : List Nat} {w : World} {b : Nat} {ob : Option Nat} {l : List SD} (h : Sto X w b ob l) (i : Int) : Calls Tryz.prog 35 #[.pointer (some ⟨b, 0, none⟩), .int .i64 i] w (Ret fun r w' => Sto X w' b ob l ∧ RSl 3 RSmp X w' r (lT l i).2 ∧ Evo (b :: ob.toList) w w') := by
  have h0 := h; obtain ⟨ix, a, c, rows, es, h1, h2, h3, h4, h5, rfl, h7, h8, h9⟩ := h; refine wY (N := 50) Tryz.func35 rfl rfl rfl ?_; refine csr (wan (aL (aL (eY (α := Bool) (fun z13 => [(13, .bool z13)]) [(0, _), (1, _), (4, _)] (fun z13 wr => Evo [] w wr ∧ (z13 = true ↔ (i < 0 ∨ ((es.map Ent.row).length : Int) ≤ i))) ⟨rfl, rfl, rfl, trivial⟩ ?_ ?_))))
  ·refine aQ (aD (aC (cE rfl rfl) ?_)); refine aD (bQ (t := 8) rfl (fun a8 => ?_) (fun a8 => ?_))
   ·refine bB (bB (bB (bB (cF (aE (aM ?_)))))); refine ⟨_, ⟨rfl, trivial⟩, ⟨rfl, rfl, rfl, trivial⟩, (Evo.refl [] w), ?_⟩
    simp only [decide_eq_true_eq, Bool.false_eq_true, Bool.true_eq_false, true_iff, false_iff, eq_self, iff_true]; omega
   refine aW (aD (aW (aD (aW (aG (vs := [_]) pI rfl (KL (h0.evo (Evo.refl [] w))) rfl ?_))))); rintro _ w1 ⟨rfl, a9⟩; refine aW (aC (fF rfl rfl) ?_); refine bY (aE (aM ?_)); refine ⟨_, ⟨rfl, trivial⟩, ⟨rfl, rfl, rfl, trivial⟩, ((Evo.refl [] w).then a9), ?_⟩
   simp only [decide_eq_true_eq, Bool.false_eq_true, Bool.true_eq_false, true_iff, false_iff, eq_self, iff_true]; omega
  rintro z13 w8 ⟨F, hz13⟩; refine aB ?_; show CW _ _ _ _ [(13, _), (0, _), (1, _), (4, _)] _; have M := (Evo.refl (b :: ob.toList) w).then F; refine dX rfl (fun H => ?_) (fun H => ?_)
  ·subst H; have hj13 := hz13.1 rfl; refine csr (wan (aS (aI (EA (br1 ?_)))))
   exact ⟨h0.evo ((Evo.refl [] w).then F), by rw [zR hj13]; exact rsl_nil, M⟩
  subst H
  have hj13 : ¬ (i < 0 ∨ ((es.map Ent.row).length : Int) ≤ i) := fun h9 => by have := hz13.2 h9; cases this
  obtain ⟨k, rfl⟩ := Int.eq_ofNat_of_zero_le (show 0 ≤ i by omega)
  have hk : k < es.length := by rw [List.length_map] at hj13; omega
  have hk' : k < rows.length := by rw [h3.1]; exact hk
  obtain ⟨hr4, lv, pv, qv, hrow, hlv, hpv, b6, hqv, hg5⟩ := h3.2 k hk hk'; refine aR (aB (csr (aD (aC (aH rfl) (aC (aA rfl nK) (aG (vs := [_]) xW rfl (KJ (F.blk0 h1)) rfl ?_)))))); rintro _ b7 ⟨rfl, hBL, O⟩
  have A := M.step O (fun y hy => .inl (by rw [List.mem_singleton.1 hy]; simp))
  have I := (h2.evo0 F).evo O h4.symm.own1; refine wnn (csr (aD (aC (aH rfl) (aC (aA rfl nK) (GH rfl ?_))))); refine wnn (aL ?_); obtain ⟨g5, hgo5, hga5, hgc5⟩ := FB I h3 hk' (by omega); refine aQ (aD (aC (aH rfl) (wfl rfl fZ rfl jA hBL rfl (aD (aC (aY (n := k) rfl rfl hga5 rfl zB hk) ?_))))); refine wan (aL (csr (aD (aC (aH rfl) (aC (aA rfl nJ) (aC (aF rfl jZ (hgc5 3 _ (wI hrow rfl))) (aC (eI rfl) ?_))))))); refine wnn (dX rfl (fun U => ?_) (fun U => ?_))
  ·refine csr (aD (aD (aC (aH rfl) (aC (aA rfl uO) (aC (aF rfl BV (hgc5 1 _ (wI hrow rfl))) (aG (vs := [_]) xV rfl (CI (hpv.evo RB.pers (sE h5 A)) hg5.bytes (h7.evo A h8)) rfl ?_)))))); rintro _ Y ⟨ua, un, uc, out, ue, uob, rfl, a0, hln59, hok59, a1, hUn, J⟩; have b4 := A; have K := I.evo0 J; have hu9 := unp_out hg5 hUn; subst hu9
   have F : RSl 3 RSmp X Y (.slice ua un uc) es[k].out := rS a0 hln59 hok59 (fun g hg hm => by have h8 := a1 g hg; have h6 := h9 g hm; have h5 := b4.size; omega)
   refine aD (aC (cB rfl rfl) ?_); refine aC (cB rfl rfl) ?_; refine aC (aH rfl) (aC (aA rfl kO) ?_)
   obtain ⟨g33, cur24, hg25, hx26, hcu27, hcs28, -⟩ := K.at (by omega)
   rw [hga5] at hx26; cases hx26
   refine lD rfl rfl (rfl) xH hcu27 (K.inb hcs28 (k := k) (j := 2) (by omega) (by omega) (by omega)) fun b8 a2 D => ?_; replace D := tA hg25 D; have L := K.set' hg25 hcu27 a2; have a3 := (A.then J).step D (fun y hy => .inl (List.mem_cons_of_mem _ hy)); have a4 := (Evo.refl (b :: ob.toList) Y).step D (fun y hy => .inl (List.mem_cons_of_mem _ hy)); refine wnn (aQ (aD (aC (aH rfl) (aC (aA rfl nJ) ?_))))
   obtain ⟨g46, cur37, hg38, hx39, hcu40, hcs41, -⟩ := L.at (by omega)
   rw [hga5] at hx39; cases hx39
   refine lD rfl rfl (rfl) rH hcu40 (L.inb hcs41 (k := k) (j := 3) (by omega) (by omega) (by omega)) fun b5 a5 E => ?_; replace E := tA hg38 E; have a6 := a3.step E (fun y hy => .inl (List.mem_cons_of_mem _ hy)); have a7 := a4.step E (fun y hy => .inl (List.mem_cons_of_mem _ hy)); refine wnn (csr (aD (aC (aH rfl) (aC (aA rfl kO) ?_)))); have hfl := HY h3.flen hk' hrow (.slice ua un uc) (.bool true)
   have V : OwnS b5 88 4 a es.length c ((rows.flatten.set (k * 4 + 2) (.slice ua un uc)).set (k * 4 + 3) (.bool true)) ob := by have h8 := (L.set' hg38 hcu40 a5); simp only [Nat.zero_add] at h8; exact h8
   rw [hfl] at V
   obtain ⟨g8, hgo8, hga8, hgc8⟩ := FB (X := []) (w' := w) (rows := rows.set k [lv, pv, .slice ua un uc, .bool true]) V (es := es) (R := fun _ _ _ _ => True) ⟨by simp [h3.1], fun i h1 h2 => ⟨by simp only [List.getElem_set]; split; rfl; exact h3.flen _ (List.getElem_mem _), trivial⟩⟩ (by simpa using hk') (by omega)
   rw [hga5] at hga8; cases hga8; refine aC (aF rfl dT (hgc8 2 (.slice ua un uc) (by simp))) ?_; refine wan (aS (?_)); refine tK rfl rfl Tryz.func58 (by kernel_rfl) (by kernel_rfl) (sC (E.blk (D.blk (J.blk0 hBL) h4.nmem) h4.nmem) (fun w9 hb9 G => ?_))
   have hEw : Evo (b :: ob.toList) w w9 := (a6).step G (fun y hy => .inl (by rw [List.mem_singleton.1 hy]; simp))
   have hr9 := nQ h3 hEw h5 (fun y hy => .inl hy); have W := (V).evo G (h4.symm.own1)
   have hVe := F.evo RSmp.pers (sE h5 ((a7).step G (fun y hy => .inl (by rw [List.mem_singleton.1 hy]; simp))))
   have hro := CU hr9 hk (r := [lv, pv, .slice ua un uc, .bool true]) (e := es[k].opened) rfl ⟨lv, pv, _, rfl, hlv.evo RLB.pers (sE h5 hEw), hpv.evo RB.pers (sE h5 hEw), rfl, fun _ => hVe, hg5⟩
   refine ⟨⟨ix, a, c, _, es.set k es[k].opened, by rw [List.length_set]; exact hb9, by rw [List.length_set]; exact W, hro, h4, h5, AL hk rfl, h7.evo hEw h8, h8, fun y hy => Nat.lt_of_lt_of_le (h9 y hy) hEw.size⟩, ?_, hEw⟩
   rw [sI (by rw [List.length_map]; exact hk), List.getElem_map]
   exact hVe
  refine aR (aB (csr (aD (aC (aH rfl) (aC (aA rfl kO) (aC (aF rfl dT (hgc5 2 _ (wI hrow rfl))) (wan (aS (?_))))))))); refine tK rfl rfl Tryz.func58 (by kernel_rfl) (by kernel_rfl) (sC hBL (fun w9 hb9 G => ?_))
  have hEw : Evo (b :: ob.toList) w w9 := (A).step G (fun y hy => .inl (by rw [List.mem_singleton.1 hy]; simp))
  have hr9 := nQ h3 hEw h5 (fun y hy => .inl hy); have W := (I).evo G (h4.symm.own1)
  have hop : es[k].op = true := by simpa using U
  refine ⟨⟨ix, a, c, rows, es, hb9, W, hr9, h4, h5, rfl, h7.evo hEw h8, h8, fun y hy => Nat.lt_of_lt_of_le (h9 y hy) hEw.size⟩, ?_, hEw⟩
  rw [sI (by rw [List.length_map]; exact hk), List.getElem_map]
  exact (hqv hop).evo RSmp.pers (sE h5 hEw)
theorem fL : Build Tryz.prog 50 #[(0, 1), (1, 1), (2, 1)] #[.int .i64 0, .float .f64 0, .bool false] := ⟨_, .agg #[.int .i64 0, .float .f64 0, .bool false], Tryz.underlying50, by kernel_rfl, rfl, fun w => by kernel_rfl⟩
theorem kP : dV Tryz.prog 50 2 = some 2 := by kernel_rfl
theorem yK : dC Tryz.prog 35 := ⟨_, Tryz.func35, by kernel_rfl, by kernel_rfl⟩
theorem yI : dC Tryz.prog 37 := ⟨_, Tryz.func37, by kernel_rfl, by kernel_rfl⟩
theorem JJ {X : List Nat} {w : World} {b : Nat} {ob : Option Nat} {l : List SD} (h : Sto X w b ob l) (i : Int) : (lT l i).2.length ≤ 100000 ∧ lC (lT l i).2 ∧ ∀ x, x ∈ (lT l i).2 → x.Ok ∧ kJ x := by
  by_cases e : 0 ≤ i ∧ i < l.length
  · obtain ⟨k, rfl⟩ := Int.eq_ofNat_of_zero_le e.1
    have hk : k < l.length := by omega
    rw [sI hk]
    exact (h.ser _ (List.getElem_mem hk)).2
  · rw [zR (by omega)]
    exact ⟨Nat.zero_le _, fun k hk => by simp at hk, fun x hx => by simp at hx⟩
theorem Sto.out {X : List Nat} {w : World} {b : Nat} {ob : Option Nat} {l : List SD} (h : Sto X w b ob l) {o : Option Nat} (hg : Ge w o) : ∀ y, y ∈ o.toList → y ∉ b :: ob.toList ∧ y ≠ nU := fun y hy => by
  obtain ⟨ix, a, c, rows, es, h1, h2, h3, h4, h5, h6, h7, h8, h9⟩ := h
  have hy' := hg y (by simpa using hy)
  exact ⟨fun hm => by have := h9 y (h5 y hm); omega, fun e => by have := h7.lt; omega⟩
theorem Sto.more {X Z : List Nat} {w w' : World} {b : Nat} {ob : Option Nat} {l : List SD} (h : Sto X w b ob l) (he : Evo [] w w') (hz : ∀ z, z ∈ Z → w.heap.size ≤ z ∧ z < w'.heap.size) : Sto (Z ++ X) w' b ob l := by
  obtain ⟨_, _, _, _, _, _, _, _, _, h5, _, _, _, h9⟩ := id h
  refine h.step he (fun z hz => by cases hz) (fun y hy => ?_) (fun y hy => List.mem_append_right _ (h5 y hy))
  rcases List.mem_append.1 hy with hy | hy
  · exact ⟨.inr (hz y hy).1, (hz y hy).2⟩
  · exact ⟨.inl hy, Nat.lt_of_lt_of_le (h9 y hy) he.size⟩
theorem Sto.less {X Y : List Nat} {w : World} {b : Nat} {ob : Option Nat} {l : List SD} (h : Sto Y w b ob l) (hxy : ∀ x, x ∈ X → x ∈ Y) (hb : ∀ y, y ∈ b :: ob.toList → y ∈ X) : Sto X w b ob l := by
  obtain ⟨_, _, _, _, _, _, _, _, _, h5, _, _, _, h9⟩ := id h
  exact h.step (Evo.refl [] w) (fun z hz => by cases hz) (fun y hy => ⟨.inl (hxy y hy), h9 y (hxy y hy)⟩) hb
theorem Sto.put {X Z : List Nat} {w w' : World} {b : Nat} {ob : Option Nat} {l : List SD} (h : Sto X w b ob l) (he : Evo Z w w') (hz : ∀ z, z ∈ Z → z ∈ X ∧ z ∉ b :: ob.toList ∧ z ≠ nU) : Sto X w' b ob l := by
  obtain ⟨_, _, _, _, _, _, _, _, _, h5, _, _, _, h9⟩ := id h
  exact h.step he hz (fun y hy => ⟨.inl hy, Nat.lt_of_lt_of_le (h9 y hy) he.size⟩) h5
theorem Sto.own {X : List Nat} {w : World} {b : Nat} {ob : Option Nat} {l : List SD} (h : Sto X w b ob l) : ∀ y, y ∈ b :: ob.toList → y ∈ X := by
  obtain ⟨_, _, _, _, _, _, _, _, _, h5, _, _, _, h9⟩ := h; exact h5
def wZ (ps : List Smp) (t : Int) : Smp × Bool := if cnt ps t = 0 then (⟨0, 0, false⟩, false) else
  if (ps.getD (cnt ps t - 1) ⟨0, 0, false⟩).st = true ∨ 300000 ≤ t - (ps.getD (cnt ps t - 1) ⟨0, 0, false⟩).t then (⟨0, 0, false⟩, false) else (ps.getD (cnt ps t - 1) ⟨0, 0, false⟩, true)
theorem IK {ps : List Smp} {t : Int} (h : cnt ps t = 0) : wZ ps t = (⟨0, 0, false⟩, false) := if_pos h
theorem atOf_no {ps : List Smp} {t : Int} {k : Nat} (h : cnt ps t = k + 1) (hk : k < ps.length) (h2 : ps[k].st = true ∨ 300000 ≤ t - ps[k].t) : wZ ps t = (⟨0, 0, false⟩, false) := by
  have e : ps.getD (cnt ps t - 1) ⟨0, 0, false⟩ = ps[k] := by rw [h]; simp [hk]
  unfold wZ; rw [if_neg (by omega), e, if_pos h2]
theorem LW {ps : List Smp} {t : Int} {k : Nat} (h : cnt ps t = k + 1) (hk : k < ps.length) (h2 : ¬ (ps[k].st = true ∨ 300000 ≤ t - ps[k].t)) : wZ ps t = (ps[k], true) := by
  have e : ps.getD (cnt ps t - 1) ⟨0, 0, false⟩ = ps[k] := by rw [h]; simp [hk]
  unfold wZ; rw [if_neg (by omega), e, if_neg h2]
theorem diff_u {a b : Int} (h : b ≤ a) (h1 : -9223372036854775808 ≤ b) (h2 : a ≤ 9223372036854775807) : IntKind.u64.wrap (((u64 a : Nat) : Int) - ((u64 b : Nat) : Int)) = a - b := by
  rw [pR]; unfold u64; omega
theorem at_ok {X : List Nat} {w : World} {b : Nat} {ob : Option Nat} {l : List SD} (h : Sto X w b ob l) (i t : Int) (ht : -9223372036854775808 ≤ t ∧ t ≤ 9223372036854775807) : Calls Tryz.prog 21 #[.pointer (some ⟨b, 0, none⟩), .int .i64 i, .int .i64 t] w (Ret fun r w' => r = .tuple #[.agg (GO (wZ (lT l i).2 t).1).toArray, .bool (wZ (lT l i).2 t).2] ∧ Sto X w' b ob l ∧ Evo (b :: ob.toList) w w') := by
  have hser := JJ h i
  generalize hps : (lT l i).2 = ps at hser ⊢
  refine aU (N := 38) Tryz.func21 rfl rfl rfl ?_; refine csr (dE rfl jI fun b6 w1 M a3 a4 => ?_); have c1 := a3; have A := Ge.new (Evo.refl (b :: ob.toList) w) a3; have a5 := (Evo.refl [] w).then a4; refine wan (csr (aD (aD ?_)))
  refine aG (vs := [_, _]) yK rfl (HC (h.more (Z := [b6]) a5 (fun z hz => by rw [List.mem_singleton.1 hz]; exact ⟨A _ rfl, iJ M⟩)) i) rfl ?_
  rintro pv w9 ⟨O, hv2, U⟩
  have c4 := h.more (Z := [b6]) a5 (fun z hz => by rw [List.mem_singleton.1 hz]; exact ⟨A _ rfl, iJ M⟩)
  have ho6 := h.out A b6 (by simp); rw [hps] at hv2; obtain ⟨qa, qc, rfl, hlc, e1⟩ := id hv2; refine wan (csr (aD (aD ?_))); refine aG (vs := [_, _]) yI rfl (upto_ok (hv2.evo RSmp.pers (((Evo.refl [b6] w9)).mono (by simp))) hser.2.1 (by omega) t) rfl ?_; rintro _ c5 ⟨rfl, F⟩; have G := (((Evo.refl (b :: ob.toList) w).then a4).step U (fun y hy => .inl hy)).then F; have D := (Evo.refl [b6] w9).then F; have H := F.blk0 (U.blk M (ho6.1)); refine wan (aL (csr (aD (wel ?_)))); refine wnn (bP rfl (fun a6 => ?_) (fun a6 => ?_))
  ·refine csr (aC (dR (vs := []) fL rfl (cells := [_, _, _]) rfl) ?_); refine bT rfl rfl dD H rfl rfl ⟨by first | rfl | assumption, by first | rfl | assumption, by first | rfl | assumption, trivial⟩ fun c6 a7 V => ?_
   have a8 := D.step V (by intro y hy; left; simpa using hy)
   refine wan (aS (aI (gK rfl (ResOk.cellA rfl fT dD a7 rfl) (ResOk.tmp rfl) ?_)))
   refine ⟨by rw [IK (by omega)]; rfl, (O.put a8 (fun z hz => by rw [List.mem_singleton.1 hz]; exact ⟨by simp, ho6⟩)).less (fun x hx => List.mem_append_right _ hx) h.own, (G.step V A.mem1)⟩
  obtain ⟨k, hkc⟩ : ∃ k, cnt ps t = k + 1 := ⟨cnt ps t - 1, by omega⟩
  have hk : k < ps.length := by have := cnt_le ps t; omega
  have hkt := (cnt_is hser.2.1 t).1 k hk (by omega); have hko := (hser.2.2 _ (List.getElem_mem hk)).1.t; obtain ⟨b1, o1, vs1, ha1, hb1, -, c2, hv1, hz1⟩ := e1 k hk; subst hv1; refine aR (aB (csr (aD (aD ?_)))); refine aC (aX rfl rfl (by omega) (by omega)) ?_; refine aC (aY (n := k) rfl rfl ha1 (by omega) eA hk) ?_; refine aC (dQ rfl fT dD (vs := [_, _, _]) rfl (c2.evo ((D).mono (by simp)) hb1)) ?_; refine dE rfl jI fun c7 c8 a9 E I => ?_; have c0 := E; refine bT rfl rfl dD a9 rfl rfl ⟨by first | rfl | assumption, by first | rfl | assumption, by first | rfl | assumption, trivial⟩ fun c3 J K => ?_; have W := (G.then I).step K (Ge.new G E).mem1; have Y := (D.then I).step K (Ge.new D E).mem1; have a0 := K.blk (I.blk0 H) (Apart.new (Lt.blk H) E).nmem1; refine wnn (aL (aL (eY (α := Bool) (fun z35 => [(35, .bool z35)]) [(6, _), (7, _), (10, _)] (fun z35 wr => c3 = wr ∧ (z35 = true ↔ (ps[k].st = true ∨ 300000 ≤ t - ps[k].t))) ⟨rfl, rfl, rfl, trivial⟩ ?_ ?_)))
  ·refine aQ (wfl rfl kP rfl jZ J rfl (aD (hX (t := 27) rfl (fun b4 => ?_) (fun b4 => ?_))))
   ·refine bB (bB (bB (bB (bB (bB (bB (cF (aE (aM ?_))))))))); refine ⟨_, ⟨rfl, trivial⟩, ⟨rfl, rfl, rfl, trivial⟩, rfl, ?_⟩
    first | (simp_all; done) | (simp_all; omega)
   refine aW (aD (aW (aC (cX rfl Tryz.underlying2 Tryz.underlying95) ?_))); refine aW (aC (aA rfl dG) (aW (aC (aF rfl eD (aK J rfl)) (aW (aC (cX rfl Tryz.underlying2 Tryz.underlying95) ?_))))); refine aW (aC (wT rfl rfl) ?_); rw [diff_u hkt hko.1 ht.2]; refine aW (aC (fF rfl rfl) ?_); refine bY (aE (aM ?_)); refine ⟨_, ⟨rfl, trivial⟩, ⟨rfl, rfl, rfl, trivial⟩, rfl, ?_⟩
   first | (simp_all; done) | (simp_all; omega)
  rintro z35 _ ⟨rfl, hz35⟩; refine aB ?_; show CW _ _ _ _ [(35, _), (6, _), (7, _), (10, _)] _; refine dX rfl (fun L => ?_) (fun L => ?_)
  ·subst L; have hj35 := hz35.1 rfl; refine csr (aC (dR (vs := []) fL rfl (cells := [_, _, _]) rfl) ?_); refine bT rfl rfl dD a0 rfl rfl ⟨by first | rfl | assumption, by first | rfl | assumption, by first | rfl | assumption, trivial⟩ fun c9 b5 a1 => ?_
   have b7 := Y.step a1 (by intro y hy; left; simpa using hy)
   refine wan (aS (aI (gK rfl (ResOk.cellA rfl fT dD b5 rfl) (ResOk.tmp rfl) ?_)))
   refine ⟨by rw [atOf_no hkc hk hj35]; rfl, (O.put b7 (fun z hz => by rw [List.mem_singleton.1 hz]; exact ⟨by simp, ho6⟩)).less (fun x hx => List.mem_append_right _ hx) h.own, (W.step a1 A.mem1)⟩
  subst L
  have hj35 : ¬ (ps[k].st = true ∨ 300000 ≤ t - ps[k].t) := fun h9 => by have := hz35.2 h9; cases this
  refine aR (aB (csr (aC (cV rfl fT dD J rfl) ?_))); refine bT rfl rfl dD a0 rfl rfl ⟨by first | rfl | assumption, by first | rfl | assumption, by first | rfl | assumption, trivial⟩ fun d0 b8 a2 => ?_
  have b9 := Y.step a2 (by intro y hy; left; simpa using hy)
  refine wan (aS (gK rfl (ResOk.cellA rfl fT dD b8 rfl) (ResOk.tmp rfl) ?_))
  refine ⟨by rw [LW hkc hk hj35]; rfl, (O.put b9 (fun z hz => by rw [List.mem_singleton.1 hz]; exact ⟨by simp, ho6⟩)).less (fun x hx => List.mem_append_right _ hx) h.own, (W.step a2 A.mem1)⟩
theorem kQ : Build Tryz.prog 45 #[(0, 1), (1, 1)] #[.slice none 0 0, .slice none 0 0] := ⟨_, .agg #[.slice none 0 0, .slice none 0 0], Tryz.underlying45, by kernel_rfl, rfl, fun w => by kernel_rfl⟩
theorem iD : oA Tryz.prog 26 = some #[.slice none 0 0] := by kernel_rfl
theorem vB {α : Type} {sz : Nat} {R : Rel α} (hp : R.Pers) (hf : R.Fresh) {X Y : List Nat} {w w' : World} {rows : List (List Value)} {ds : List α} (h : RowsOk sz R X w rows ds) (he : Evo X w w') (hy : ∀ y, y ∈ Y → y ∈ X ∨ w.heap.size ≤ y) : RowsOk sz R Y w' rows ds := by
  refine ⟨h.1, fun k hk hk' => ?_⟩
  obtain ⟨h1, h2⟩ := h.2 k hk hk'
  refine ⟨h1, ?_⟩
  have h3 : R (X ++ Y) w rows[k] ds[k] := hf _ _ _ _ _ (fun y hy' => (List.mem_append.1 hy').elim .inl (hy y)) h2
  have h4 := hp _ _ _ _ _ (he.mono (fun b hb => List.mem_append_left Y hb)) h3
  exact hf _ _ _ _ _ (fun y hy' => .inl (List.mem_append_right X hy')) h4
theorem fA : hD Tryz.prog 48 = some false := by kernel_rfl
theorem eC : dV Tryz.prog 50 1 = some 1 := by kernel_rfl
theorem DG {v : Nat} (hv : v < 18446744073709551616) (h : (FloatKind.f64.format.order v 0 != some .eq) = false) : v = 0 ∨ v = 9223372036854775808 := by
  have h1 : (FloatKind.f64.format.read v).order (FloatKind.f64.format.read 0) = some .eq := by
    have h2 : ((FloatKind.f64.format.read v).order (FloatKind.f64.format.read 0) != some .eq) = false := h
    simpa using h2
  have e0 : FloatKind.f64.format.read 0 = .number false 0 FloatKind.f64.format.leastPlace := by kernel_rfl
  rw [e0] at h1
  have e1 : FloatKind.f64.format.signWeight = 9223372036854775808 := rfl
  have e2 : FloatKind.f64.format.binade = 4503599627370496 := rfl
  have e3 : FloatKind.f64.format.infRung = 9218868437227405312 := rfl
  have key : ∀ s m i j, (Ieee.Datum.number s m i).order (.number false 0 j) = some .eq → m = 0 := fun s m i j h => by
    simp only [Ieee.Datum.order, Ieee.signed] at h
    have hz : ∀ {a : Nat} {k : Nat}, a <<< k = 0 → a = 0 := fun {a k} h => by
      rw [Nat.shiftLeft_eq] at h
      rcases Nat.mul_eq_zero.1 h with h5 | h5
      · exact h5
      · exact absurd h5 (Nat.ne_of_gt (Nat.two_pow_pos _))
    cases s with
    | true =>
      simp only [Option.some.injEq, Nat.zero_shiftLeft, if_true, Bool.false_eq_true, if_false] at h
      have h4 := Int.compare_eq_eq.1 h
      exact hz (k := (i - min i j).toNat) (by omega)
    | false =>
      simp only [Option.some.injEq, Nat.zero_shiftLeft, Bool.false_eq_true, if_false] at h
      have h4 := Int.compare_eq_eq.1 h
      exact hz (k := (i - min i j).toNat) (by omega)
  simp only [Ieee.Format.read, e1, e2, e3] at h1
  by_cases h2 : v % 9223372036854775808 < 4503599627370496
  · rw [if_pos h2] at h1
    have := key _ _ _ _ h1
    omega
  · rw [if_neg h2] at h1
    by_cases h3 : v % 9223372036854775808 < 9218868437227405312
    · rw [if_pos h3] at h1
      have := key _ _ _ _ h1
      omega
    · rw [if_neg h3] at h1
      by_cases h4 : v % 9223372036854775808 = 9218868437227405312
      · rw [if_pos h4] at h1
        simp only [Ieee.Datum.order] at h1
        split at h1 <;> cases h1
      · rw [if_neg h4] at h1
        simp only [Ieee.Datum.order] at h1
        cases h1
section
variable {P : Program} {σ : Env} {w : World} {dst : Option Nat} {T : TypeId} {pos : String} {after : Array Edge} {g : Option (Nat × Bool)}
theorem FS {x y : Operand} {t t' : TypeId} {k : FloatKind} {m n : Nat} (hx : σ.ev x = some (.float k m)) (hy : σ.ev y = some (.float k n)) :
    Ex P σ ⟨dst, .binOp .eql t x y t', T, pos, after, g⟩ w (.bool (k.format.order m n == some .eq)) w := FT (.inl rfl) hx hy (fun w => by simp [Op.floatCmp])
theorem FR {x y : Operand} {t t' : TypeId} {k : FloatKind} {m n r : Nat} (hx : σ.ev x = some (.float k m)) (hy : σ.ev y = some (.float k n)) (h : floatBits .quo k m n = some r) : Ex P σ ⟨dst, .binOp .quo t x y t', T, pos, after, g⟩ w (.float k r) w := fun ρ hρ => by
  have := run_float_arith (P := P) w .quo t k m n r h
  simp [execOp, hρ x _ hx, hρ y _ hy, eqGuard, this]
end
theorem one_0 : floatBits .quo .f64 4607182418800017408 0 = some 9218868437227405312 := by kernel_rfl
theorem one_m0 : floatBits .quo .f64 4607182418800017408 9223372036854775808 = some 18442240474082181120 := by kernel_rfl
theorem inf_inf : (FloatKind.f64.format.order 9218868437227405312 9218868437227405312 == some .eq) = true := by kernel_rfl
theorem HP : (FloatKind.f64.format.order 18442240474082181120 18442240474082181120 == some .eq) = true := by kernel_rfl
theorem JQ {v : Nat} (h : v = 0 ∨ v = 9223372036854775808) : ∃ r, floatBits .quo .f64 4607182418800017408 v = some r ∧ (FloatKind.f64.format.order r r == some .eq) = true := by
  rcases h with rfl | rfl
  · exact ⟨_, one_0, inf_inf⟩
  · exact ⟨_, one_m0, HP⟩
theorem LX {w : World} (s : Smp) (hs : s.v < 18446744073709551616) : Calls Tryz.prog 36 #[.agg (GO s).toArray, .agg (GO s).toArray] w (Ret fun r w' => r = .bool true ∧ Evo [] w w') := by
  refine aU (N := 46) Tryz.func36 rfl rfl rfl ?_; refine csr (dZ rfl rfl fun b2 w1 L M O => ?_); have U := M; refine dZ rfl rfl fun b3 w7 A V E => ?_; have W := V; have D := ((Evo.refl [] w).then O).then E; have y := E.blk0 L; refine wan (aL (csr (wfl rfl dG rfl eD y rfl (wfl rfl dG rfl eD A rfl (aC (eO rfl rfl) ?_))))); refine aD (bQ (t := 10) rfl (fun F => ?_) (fun F => ?_))
  ·exact absurd rfl F
  refine aW (aC (aA rfl kP) (aW (aC (aF rfl jZ (aK y rfl)) (aW (aC (aA rfl kP) (aW (aC (aF rfl jZ (aK A rfl)) (aW ?_)))))))); refine aC (jP (FQ rfl rfl Tryz.underlying4) (by simp)) ?_; refine bY (wnn (dX rfl (fun G => ?_) (fun G => ?_)))
  ·cases G
  refine aR (aB (aL (csr (wfl rfl eC rfl fA y rfl (wfl rfl eC rfl fA A rfl (aC (oO rfl rfl) ?_)))))); refine wnn (dX rfl (fun J => ?_) (fun J => ?_))
  ·refine csr (wfl rfl eC rfl fA y rfl (wfl rfl eC rfl fA y rfl (aC (oO rfl rfl) ?_))); refine aD (hX (t := 27) rfl (fun K => ?_) (fun K => ?_))
   ·refine aW (aC (aA rfl eC) (aW (aC (aF rfl fA (aK A rfl)) (aW (aC (aA rfl eC) (aW (aC (aF rfl fA (aK A rfl)) (aW (aC (oO rfl rfl) ?_))))))))); refine cF (wan (aS (aI (br1 ?_)))); exact ⟨by first | rfl | simp_all, D⟩
   refine bB (bB (bB (bB (bB (bY (wan (aS (aI (br1 ?_))))))))); exact ⟨by first | rfl | simp_all, D⟩
  refine aR (aB (csr (wfl rfl eC rfl fA y rfl (aC (oO rfl rfl) ?_)))); refine aD (hX (t := 37) rfl (fun H => ?_) (fun H => ?_))
  ·refine bB (bB (bB (bB (bB (bB (bB (cF (wan (aS (br1 ?_)))))))))); exact ⟨by first | rfl | simp_all, D⟩
  have hz := DG hs (by simpa using H); obtain ⟨r9, I, Y⟩ := JQ hz; refine aW (aC (aA rfl eC) (aW (aC (aF rfl fA (aK y rfl)) (aW (aC (FR (r := r9) rfl rfl I) ?_))))); refine aW (aC (aA rfl eC) (aW (aC (aF rfl fA (aK A rfl)) (aW (aC (FR (r := r9) rfl rfl I) ?_))))); refine aW (aC (DU (FS rfl rfl) Y) ?_); refine bY (wan (aS (br1 ?_))); exact ⟨by first | rfl | simp_all, D⟩
theorem yJ : dC Tryz.prog 36 := ⟨_, Tryz.func36, by kernel_rfl, by kernel_rfl⟩
theorem CE : Tryz.prog.eqGuardType Tryz.prog.depth 58 = false := by kernel_rfl
theorem tU : Tryz.prog.underlying 58 = some (.struct (Tryz.prog.fieldsOf 58)) := by kernel_rfl
theorem EH (a b : ByteArray) (w : World) : (Op.equal 58 (.agg #[.string a, .string b]) (.agg #[.string a, .string b])).run Tryz.prog w = .ok (decide (True : Prop)) w := by
  unfold Op.equal Op.maxDepth
  rw [run_equalIn_struct w 9999 58 _ _ tU (by kernel_rfl)]
  have h1 : (a == a) = true := by rw [tP]; simp
  have h2 : (b == b) = true := by rw [tP]; simp
  simp [Op.eqFields, Program.fieldsOf, Tryz.underlying58, GQ w bR, run_equalIn_string w _ 9 _ _ Tryz.underlying9, h1, h2]
theorem tY {X Y : List Nat} {w : World} {v1 v2 : Value} {ds : List LB} (h1 : RSl 2 RLB X w v1 ds) (h2 : RSl 2 RLB Y w v2 ds) (hl : ds.length ≤ 1000000000) : Calls Tryz.prog 15 #[v1, v2] w (Ret fun r w' => r = .bool true ∧ Evo [] w w') := by
  obtain ⟨a1, c1, rfl, hlc1, e1⟩ := h1; obtain ⟨a2, c2, rfl, hlc2, e2⟩ := h2; refine aU (N := 26) Tryz.func15 rfl rfl rfl ?_; refine csr (wan (aL (csr (aD (aC (aP rfl Tryz.underlying42 rfl) ?_))))); refine aD (aC (aP rfl Tryz.underlying42 rfl) ?_); refine aC (eO rfl rfl) ?_; refine wnn (bP rfl (fun A => ?_) (fun A => ?_))
  ·exact absurd rfl A
  refine aR (aB (aL (csr (aD (aC (aP rfl Tryz.underlying42 rfl) ?_))))); refine aD (wnn (aZ (cH (α := Nat) (0) (fun k => [(13, .int .i64 (k : Nat))]) [(0, _), (1, _), (12, _)] (fun k wr => Evo [] w wr ∧ (k ≤ ds.length)) (fun k => ds.length - k) ⟨rfl, trivial⟩ ⟨rfl, rfl, rfl, trivial⟩ ⟨Evo.refl _ _, Nat.zero_le _⟩ ?_))); rintro k wr1 ⟨F, hk⟩; show CW _ _ _ _ [(13, _), (0, _), (1, _), (12, _)] _; have D := (Evo.refl [] w).then F; refine csr (aC (cE rfl rfl) ?_); refine wnn (aL (bP rfl (fun G => ?_) (fun G => ?_)))
  ·have hk' : k < ds.length := by omega
   obtain ⟨b1, o1, vs1, ha1, hb1, -, H, hz1⟩ := e1 k hk'; obtain ⟨b2, o2, vs2, ha2, hb2, -, I, hz2⟩ := e2 k hk'; obtain ⟨rfl, -⟩ := hz1; obtain ⟨rfl, -⟩ := hz2; refine aR (aB (aL (aZ (csr (aD (wan (aL ?_))))))); refine jR (by kernel_rfl) (by kernel_rfl) ?_; refine cC (fun _ y => aV rfl) ?_; refine cC (fun _ y => aV rfl) ?_; refine cC (fun _ y => aY (n := k) rfl rfl ha1 rfl bZ hk') ?_; refine cC (fun _ y => dQ rfl eE cI (vs := [_, _]) rfl (H.evo (((D.then y)).any X) hb1)) ?_; refine cC (fun _ y => aV rfl) ?_; refine cC (fun _ y => aV rfl) ?_; refine cC (fun _ y => aY (n := k) rfl rfl ha2 rfl bZ hk') ?_; refine cC (fun _ y => dQ rfl eE cI (vs := [_, _]) rfl (I.evo (((D.then y)).any Y) hb2)) ?_; refine cC (fun _ y => ex_neqA rfl rfl CE (EH _ _)) ?_; refine jC (fun J y => aB ?_); refine bP rfl (fun E => ?_) (fun E => ?_)
   ·exact absurd trivial E
   refine aR (bC (aB (aQ ?_))); refine aC (aT rfl rfl (by omega) (by omega)) ?_; refine aD (aE (aM ?_)); refine ⟨k + 1, ?_, ⟨rfl, trivial⟩, ⟨rfl, rfl, rfl, trivial⟩, (F.then y), ?_⟩
   · omega
   omega
  refine bJ (bD (bD (bI (aB ?_)))); refine csr (wan (aS (br1 ?_))); exact ⟨rfl, D⟩
theorem tX {X Y : List Nat} {w : World} {v1 v2 : Value} {ds : List Smp} (h1 : RSl 3 RSmp X w v1 ds) (h2 : RSl 3 RSmp Y w v2 ds) (hl : ds.length ≤ 1000000000) : Calls Tryz.prog 17 #[v1, v2] w (Ret fun r w' => r = .bool true ∧ Evo [] w w') := by
  obtain ⟨a1, c1, rfl, hlc1, e1⟩ := h1; obtain ⟨a2, c2, rfl, hlc2, e2⟩ := h2; refine aU (N := 27) Tryz.func17 rfl rfl rfl ?_; refine csr (wan (aL (csr (aD (aC (aP rfl Tryz.underlying43 rfl) ?_))))); refine aD (aC (aP rfl Tryz.underlying43 rfl) ?_); refine aC (eO rfl rfl) ?_; refine wnn (bP rfl (fun y => ?_) (fun y => ?_))
  ·exact absurd rfl y
  refine aR (aB (aL (csr (aD (aC (aP rfl Tryz.underlying43 rfl) ?_))))); refine aD (wnn (aZ (cH (α := Nat) (0) (fun k => [(13, .int .i64 (k : Nat))]) [(0, _), (1, _), (12, _)] (fun k wr => Evo [] w wr ∧ (k ≤ ds.length)) (fun k => ds.length - k) ⟨rfl, trivial⟩ ⟨rfl, rfl, rfl, trivial⟩ ⟨Evo.refl _ _, Nat.zero_le _⟩ ?_))); rintro k wr1 ⟨G, hk⟩; show CW _ _ _ _ [(13, _), (0, _), (1, _), (12, _)] _; have A := (Evo.refl [] w).then G; refine csr (aC (cE rfl rfl) ?_); refine wnn (aL (bP rfl (fun I => ?_) (fun I => ?_)))
  ·have hk' : k < ds.length := by omega
   obtain ⟨b1, o1, vs1, ha1, hb1, -, J, hz1⟩ := e1 k hk'; obtain ⟨b2, o2, vs2, ha2, hb2, -, K, hz2⟩ := e2 k hk'; obtain ⟨rfl, hok⟩ := hz1; obtain ⟨rfl, -⟩ := hz2; refine aR (aB (aL (aZ (csr (aD (wan (aL ?_))))))); refine eG (fun w0 w' => Evo [] w0 w') (by kernel_rfl) (fun w4 D => ?_); refine aet 0 rfl (fun _ hS => aV rfl) (Evo.refl [] w4) ?_; refine aet 1 rfl (fun _ hS => aV rfl) (Evo.refl [] w4) ?_; refine aet 2 rfl (fun _ hS => aY (n := k) rfl rfl ha1 rfl eA hk') (Evo.refl [] w4) ?_; refine aet 3 rfl (fun _ hS => dQ rfl fT dD (vs := [_, _, _]) rfl (J.evo ((((A.then D).then hS)).any X) hb1)) (Evo.refl [] w4) ?_; refine aet 4 rfl (fun _ hS => aV rfl) (Evo.refl [] w4) ?_; refine aet 5 rfl (fun _ hS => aV rfl) (Evo.refl [] w4) ?_; refine aet 6 rfl (fun _ hS => aY (n := k) rfl rfl ha2 rfl eA hk') (Evo.refl [] w4) ?_; refine aet 7 rfl (fun _ hS => dQ rfl fT dD (vs := [_, _, _]) rfl (K.evo ((((A.then D).then hS)).any Y) hb2)) (Evo.refl [] w4) ?_; refine aN [8] (by kernel_rfl) rfl ⟨?_, trivial⟩; refine aO rfl ?_
   refine aG (vs := [_, _]) yJ rfl (LX ds[k] hok.v) rfl ?_; rintro _ w8 ⟨rfl, H⟩; have E := (Evo.refl [] w4).then H; refine aE (aJ (.inl E) ?_); refine aet 9 rfl (fun _ hS => eI rfl) E ?_; refine bN (by kernel_rfl) (aB ?_); refine dX rfl (fun F => ?_) (fun F => ?_)
   ·cases F
   refine aR (bC (aB (aQ ?_))); refine aC (aT rfl rfl (by omega) (by omega)) ?_; refine aD (aE (aM ?_)); refine ⟨k + 1, ?_, ⟨rfl, trivial⟩, ⟨rfl, rfl, rfl, trivial⟩, ((G.then D).then H), ?_⟩
   · omega
   omega
  refine bJ (bD (bD (bI (aB ?_)))); refine csr (wan (aS (br1 ?_))); exact ⟨rfl, A⟩
theorem KU {X : List Nat} {w : World} {v : Value} {ds : List SD} (hs : RSl 2 RSer X w v ds) (hl : ds.length ≤ 140737488355328) (hl2 : ∀ s, s ∈ ds → s.1.length ≤ 140737488355328 ∧ s.2.length ≤ 140737488355328) : Calls Tryz.prog 6 #[.agg #[v]] w (Ret fun r w' => ∃ b, r = .bool b ∧ (b = false → iL ds) ∧ Evo [] w w') := by
  have hone := hs.one; obtain ⟨sa, sc, rfl, hlc, e1⟩ := hs; refine aU (N := 30) Tryz.func6 rfl rfl rfl ?_; refine csr (dZ rfl rfl fun b1 w1 F L M => ?_); have O := L; refine wan (csr (wfl rfl bS rfl cA F rfl (aC (aP rfl Tryz.underlying24 rfl) ?_))); refine wan (aL (csr (wfl rfl bS rfl cA F rfl (aC (aP rfl Tryz.underlying24 rfl) ?_)))); refine aD (wnn (aZ ?_)); refine cH (α := Nat × Nat) ((0, ds.length)) (fun x => [(12, .int .i64 (x.1 : Nat)), (3, .int .i64 (x.2 : Nat))]) [(10, _), (11, _)] (fun x wr => Evo [] w wr ∧ (x.1 ≤ ds.length ∧ ds.length ≤ x.2 ∧ x.2 ≤ 140737488355328 ∧ ∀ j (h : j < ds.length), j < x.1 → ds[j].1.length ≤ 1048576 ∧ ds[j].2.length ≤ 1048576)) (fun x => ds.length - x.1) ⟨rfl, rfl, trivial⟩ ⟨rfl, rfl, trivial⟩ ⟨((Evo.refl [] w).then M), ⟨Nat.zero_le _, Nat.le_refl _, hl, fun j _ h => by simp at h⟩⟩ ?_; rintro ⟨k, n⟩ wr7 ⟨y, ⟨hk, h1, h2, h3⟩⟩; show CW _ _ _ _ [(12, .int .i64 (k : Nat)), (3, .int .i64 (n : Nat)), (10, _), (11, _)] _
  try dsimp only at hk h1 h2 h3
  refine csr (aC (cE rfl rfl) ?_); refine wnn (aL (bP rfl (fun G => ?_) (fun G => ?_)))
  ·have hk' : k < ds.length := by omega
   have hlk := hl2 _ (List.getElem_mem hk'); obtain ⟨b2, o2, vs2, ha2, hb2, -, U, lv, pv, rfl, hlv, hpv⟩ := e1 k hk'; have hlv1 := hlv.one; have hpv1 := hpv.one; obtain ⟨la, lc, rfl, -, -⟩ := hlv; obtain ⟨pa, pc, rfl, -, -⟩ := hpv; refine aR (aB (aL (aZ (csr (aC (aY (n := k) rfl rfl ha2 rfl dA hk') ?_))))); refine aC (dQ rfl gN dU (vs := [_, _]) rfl (U.evo ((y).any X) hb2)) ?_; refine dE rfl iC fun b5 w9 H A I => ?_; have V := A; refine bT rfl rfl dU H rfl rfl ⟨by first | rfl | assumption, by first | rfl | assumption, trivial⟩ fun W D J => ?_; have E := (y.then I).step J (Ge.new y A).mem1; refine wnn (csr (aD (wfl rfl bX rfl cG D rfl (aC (aP rfl Tryz.underlying42 rfl) ?_)))); refine wfl rfl dP rfl dT D rfl (aC (aP rfl Tryz.underlying43 rfl) ?_); refine aC (aT rfl rfl (by omega) (by omega)) ?_; refine aC (aT rfl rfl (by omega) (by omega)) ?_; refine wan (csr (aD (aC (eQ rfl rfl) ?_))); refine wnn (bP rfl (fun K => ?_) (fun K => ?_))
   ·refine csr (wan (aS (bA (aI (aI (bA (aI (br1 ?_)))))))); exact ⟨true, rfl, (fun h => by cases h), E⟩
   refine aR (bC (aB (aQ ?_))); refine aC (aT rfl rfl (by omega) (by omega)) ?_; refine aD (aE (aM ?_)); refine ⟨⟨k + 1, n + (ds[k].1.length + ds[k].2.length)⟩, ?_, ⟨rfl, rfl, trivial⟩, ⟨rfl, rfl, trivial⟩, E, ?_⟩
   · (try dsimp only); omega
   try dsimp only
   refine ⟨by omega, by omega, by omega, fun j hj hjk => ?_⟩
   by_cases e : j = k
   · subst e; omega
   · exact h3 j hj (by omega)
  refine bJ (bD (bD (bI (aB ?_)))); refine csr (aD (aC (eQ rfl rfl) ?_)); refine wan (aS (br1 ?_)); refine ⟨_, rfl, fun h => ?_, y⟩; have h9 := of_decide_eq_false h; refine ⟨by omega, fun s hs => ?_⟩; obtain ⟨j, hj, rfl⟩ := List.getElem_of_mem hs; have := h3 j hj (by omega); omega
theorem nM : Build Tryz.prog 26 #[(0, 1)] #[.slice none 0 0] := ⟨_, .agg #[.slice none 0 0], Tryz.underlying26, by kernel_rfl, rfl, fun w => by kernel_rfl⟩
theorem iS : Build Tryz.prog 58 #[(0, 1), (1, 1)] #[.string ByteArray.empty, .string ByteArray.empty] := ⟨_, .agg #[.string ByteArray.empty, .string ByteArray.empty], Tryz.underlying58, by kernel_rfl, rfl, fun w => by kernel_rfl⟩
def DW (l : List UInt8) : Nat := l.foldl (fun a d => a * 10 + (d.toNat - 48)) 0
theorem FY : ∀ u : Nat, DW (Lib.decDigits u) = u := by
  intro u
  induction u using Nat.strongRecOn with
  | _ u ih =>
    rw [Lib.decDigits]
    split
    · rename_i h
      simp only [DW, List.foldl_cons, List.foldl_nil, UInt8.toNat_ofNat']
      omega
    · rename_i h
      have h1 := ih (u / 10) (by omega)
      simp only [DW, List.foldl_append, List.foldl_cons, List.foldl_nil, UInt8.toNat_ofNat'] at h1 ⊢
      rw [h1]
      omega
theorem dec_lo : ∀ u : Nat, ∀ d, d ∈ Lib.decDigits u → d.toNat < 58 := by
  intro u
  induction u using Nat.strongRecOn with
  | _ u ih =>
    intro d hd
    rw [Lib.decDigits] at hd
    split at hd
    · rw [List.mem_singleton.1 hd, UInt8.toNat_ofNat']; omega
    · rename_i h
      rcases List.mem_append.1 hd with hd | hd
      · exact ih (u / 10) (by omega) d hd
      · rw [List.mem_singleton.1 hd, UInt8.toNat_ofNat']; omega
theorem LJ {u v : Nat} (h : iI u = iI v) : u = v := by
  have h1 : Lib.decDigits u = Lib.decDigits v := by
    unfold iI at h
    exact (List.map_inj_right (fun a b e => UInt8.toNat.inj e)).1 h
  rw [← FY u, ← FY v, h1]
theorem EU : ∀ {a b x y : List Nat}, (∀ d, d ∈ a → d < 58) → (∀ d, d ∈ b → d < 58) → a ++ (58 :: x) = b ++ (58 :: y) → a = b ∧ x = y
  | [], [], _, _, _, _, h => ⟨rfl, by simpa using h⟩
  | [], d :: b, _, _, _, hb, h => by
    have h1 : 58 = d := by simpa using (List.cons.inj h).1
    have := hb d (by simp)
    omega
  | d :: a, [], _, _, ha, _, h => by
    have h1 : d = 58 := by simpa using (List.cons.inj h).1
    have := ha d (by simp)
    omega
  | d :: a, e :: b, _, _, ha, hb, h => by
    obtain ⟨h1, h2⟩ := List.cons.inj h
    obtain ⟨h3, h4⟩ := EU (fun x hx => ha x (by simp [hx])) (fun x hx => hb x (by simp [hx])) h2
    exact ⟨by rw [h1, h3], h4⟩
theorem IV {s t : ByteArray} (h : wC s = wC t) : s = t := by rw [← qC s, ← qC t, h]
theorem vE {s t : ByteArray} {x y : List Nat} (h : gV s ++ x = gV t ++ y) : s = t ∧ x = y := by
  unfold gV at h
  rw [List.append_assoc, List.append_assoc, List.cons_append, List.cons_append] at h
  have hlo : ∀ u d, d ∈ iI u → d < 58 := fun u d hd => by
    unfold iI at hd
    obtain ⟨z, hz, rfl⟩ := List.mem_map.1 hd
    exact dec_lo u z hz
  obtain ⟨h1, h2⟩ := EU (hlo _) (hlo _) h
  have h3 := LJ h1
  obtain ⟨h4, h5⟩ := List.append_inj h2 (by rw [oC, oC, h3])
  exact ⟨IV h4, h5⟩
theorem AO : ∀ {a b : List LB}, fE a = fE b → a = b
  | [], [], _ => rfl
  | [], l :: r, h => by
    have := congrArg List.length h
    simp [fE, gV] at this
  | l :: r, [], h => by
    have := congrArg List.length h
    simp [fE, gV] at this
  | l :: r, m :: s, h => by
    simp only [fE, List.append_assoc] at h
    obtain ⟨h1, h2⟩ := vE h
    obtain ⟨h3, h4⟩ := vE h2
    rw [AO h4, show l = m from Prod.ext h1 h3]
theorem wQ : ∀ (a : List LB), ∀ b, b ∈ fE a → b < 256
  | [], b, h => by cases h
  | l :: r, b, h => by
    have hp : ∀ s : ByteArray, ∀ b, b ∈ gV s → b < 256 := fun s b hb => by
      rcases List.mem_append.1 hb with hb | hb
      · exact FZ _ b hb
      · rcases List.mem_cons.1 hb with rfl | hb
        · decide
        · exact ES s b hb
    simp only [fE, List.mem_append] at h
    rcases h with (h | h) | h
    · exact hp _ b h
    · exact hp _ b h
    · exact wQ r b h
theorem FH {a b : List LB} : bstr (fE a) = bstr (fE b) ↔ a = b := by
  rw [oT (wQ a) (wQ b)]
  exact ⟨AO, fun h => by rw [h]⟩
abbrev jobB : ByteArray := ByteArray.mk #[106, 111, 98]
abbrev wF : List LB := [(jobB, ByteArray.mk #[97])]
abbrev wE : List LB := [(jobB, ByteArray.mk #[98])]
abbrev AD : List Smp := [⟨0, 4611686018427387904, false⟩]
abbrev AC : List Smp := [⟨0, 4607182418800017408, false⟩, ⟨60000, 0, true⟩]
abbrev sQ : List SD := [(wE, AC), (wF, AD)]
theorem KM {l : List LB} (h1 : ∀ i (h : i < l.length), eZ l[i].1 ∧ ¬ l[i].2 = ByteArray.empty ∧ kB l[i].2 = true) (h2 : ∀ i (h : i < l.length) j (hj : j < l.length), i = j + 1 → l[j].1.toList < l[i].1.toList) : kY l := fun i hi => ⟨(h1 i hi).1, (h1 i hi).2.1, (h1 i hi).2.2, fun j hj e => h2 i hi j hj e⟩
theorem okA : kY wF := KM (by decide +kernel) (by decide +kernel)
theorem okB : kY wE := KM (by decide +kernel) (by decide +kernel)
theorem serA : eF wF = 0 := oE ⟨okA, by decide⟩ (by decide +kernel) (fun h => h.1 (by decide +kernel))
theorem serB : eF wE = 0 := oE ⟨okB, by decide⟩ (by decide +kernel) (fun h => h.1 (by decide +kernel))
theorem riseA : fU AD := fun i h => by
  match i, h with
  | 0, _ => exact ⟨⟨by simp, by simp⟩, fun j _ e => by omega⟩
theorem riseB : fU AC := fun i h => by
  match i, h with
  | 0, _ => exact ⟨⟨by simp, by simp⟩, fun j _ e => by omega⟩
  | 1, _ =>
    refine ⟨⟨by simp, by simp⟩, fun j _ e => ?_⟩
    obtain rfl : j = 0 := by omega
    simp
theorem II : chk sQ = (0, 0) := by
  rw [oQ (by decide), gT (by rw [serB]; simp) (by simp) riseB (by decide), gT (by rw [serA]; simp) (fun h => by
    rw [List.mem_singleton] at h
    exact absurd (FH.1 h) (by decide +kernel)) riseA (by decide)]
  rfl
theorem cmp_ab : dI wF wE < 0 := by decide +kernel
theorem wL {l : List SD} (hp : l.Perm sQ) (hs : ∀ i j (hij : i < j) (hj : j < l.length), ¬ dI l[j].1 l[i].1 < 0) : l = [(wF, AD), (wE, AC)] := by
  have hl := hp.length_eq
  match l, hl with
  | [x, y], _ =>
    have hx : x = (wE, AC) ∨ x = (wF, AD) := by simpa using hp.mem_iff.1 (show x ∈ [x, y] by simp)
    rcases hx with rfl | rfl
    · have h1 := (List.perm_cons _).1 hp
      have hy : y = (wF, AD) := by simpa using h1.mem_iff.1 (show y ∈ [y] by simp)
      subst hy
      exact absurd cmp_ab (hs 0 1 (by decide) (by decide))
    · have h1 := (List.perm_cons _).1 (hp.trans (List.Perm.swap _ _ _))
      have hy : y = (wE, AC) := by simpa using h1.mem_iff.1 (show y ∈ [y] by simp)
      subst hy
      rfl
theorem sdA_ok : ∀ x, x ∈ AD → x.Ok := fun x h => by rw [List.mem_singleton.1 h]; exact ⟨by decide, by decide⟩
theorem sdB_ok : ∀ x, x ∈ AC → x.Ok := fun x h => by
  rcases List.mem_cons.1 h with rfl | h
  · exact ⟨by decide, by decide⟩
  · rw [List.mem_singleton.1 h]; exact ⟨by decide, by decide⟩
theorem FC {X : List Nat} {w : World} {e : TypeId} {a : Option Addr} {m c : Nat} {l : List LB} {ob : Option Nat} (h : OwnS w e 2 a m c (l.map fun d => [.string d.1, .string d.2]).flatten ob) (hl : l.length = m) (hz : ∀ d, d ∈ l → d.1.size ≤ 140737488355328 ∧ d.2.size ≤ 140737488355328) (hx : ∀ g, ob = some g → g ∉ X) : RSl 2 RLB X w (.slice a m c) l :=
  RSl.ofOwn (rows := l.map fun d => [.string d.1, .string d.2]) h ⟨by simp, fun k h1 h2 => by simp only [List.getElem_map]; exact ⟨rfl, rfl, hz _ (List.getElem_mem h1)⟩⟩ hl hx
theorem JR {w : World} : Calls Tryz.prog 20 #[] w (Ret fun r w' => ∃ v, r = .agg #[v] ∧ RSl 2 RSer [] w' v sQ ∧ Evo [] w w') := by
  refine aU (N := 14) Tryz.func20 rfl rfl rfl ?_; refine csr (dE rfl iD fun b0 w1 I K a2 => ?_); have a3 := K; refine wnn (csr (aC (dR (vs := [(0, _), (1, _)]) iS rfl (cells := [_, _]) rfl) ?_)); refine cK (vs := [_]) rfl gY rfl rfl rfl rfl fun L1 w7 a4 a5 F => ?_; refine aC (dR (vs := [(0, _), (1, _)]) fL rfl (cells := [_, _, _]) rfl) ?_; refine aC (dR (vs := [(0, _), (2, _)]) fL rfl (cells := [_, _, _]) rfl) ?_; refine cK (vs := [_, _]) rfl iR rfl rfl rfl rfl fun P1 a6 L M G => ?_; have H := G.blk0 (F.blk0 I); refine aC (dR (vs := [(0, _), (1, _)]) kQ rfl (cells := [_, _]) rfl) ?_; refine aC (dR (vs := [(0, _), (1, _)]) iS rfl (cells := [_, _]) rfl) ?_; refine cK (vs := [_]) rfl gY rfl rfl rfl rfl fun L2 a7 O U D => ?_; refine aC (dR (vs := [(0, _), (1, _)]) fL rfl (cells := [_, _, _]) rfl) ?_; refine cK (vs := [_]) rfl iR rfl rfl rfl rfl fun P2 a8 V W E => ?_; have J := E.blk0 (D.blk0 H); refine aC (dR (vs := [(0, _), (1, _)]) kQ rfl (cells := [_, _]) rfl) ?_; refine cK (vs := [_, _]) rfl nI rfl rfl rfl rfl fun SS a9 Y a0 y => ?_; refine aC (dR (vs := [(0, _)]) nM rfl (cells := [_]) rfl) ?_; refine bT rfl rfl cJ (y.blk0 J) rfl rfl ⟨by first | rfl | assumption, trivial⟩ fun b4 a1 A => ?_; refine wnn ?_
  refine aS (tL rfl (ResOk.cellA rfl dJ cJ a1 rfl) ?_); have h1 := FC (X := []) (l := wE) (((((a4.evo0 G).evo0 D).evo0 E).evo0 y).evo A (Apart.new (Lt.blk I) a5).symm.own1) rfl (by decide) (by simp); have h2 := rS (X := []) (l := AC) ((((L.evo0 D).evo0 E).evo0 y).evo A (Apart.new (Lt.blk (F.blk0 I)) M).symm.own1) rfl sdB_ok (by simp); have h3 := FC (X := []) (l := wF) (((O.evo0 E).evo0 y).evo A (Apart.new (Lt.blk H) U).symm.own1) rfl (by decide) (by simp); have h4 := rS (X := []) (l := AD) ((V.evo0 y).evo A (Apart.new (Lt.blk (D.blk0 H)) W).symm.own1) rfl sdA_ok (by simp); refine ⟨_, rfl, RSl.ofOwn (rows := [[_, _], [_, _]]) (Y.evo A (Apart.new (Lt.blk J) a0).symm.own1) ⟨rfl, fun k hk hk2 => ?_⟩ rfl (by simp), ((((((((Evo.refl [] w).then a2).then F).then G).then D).then E).then y).step A (Ge.new (Evo.refl [] w) K).mem1)⟩
  match k, hk, hk2 with
  | 0, _, _ => exact ⟨rfl, _, _, rfl, h1, h2⟩
  | 1, _, _ => exact ⟨rfl, _, _, rfl, h3, h4⟩
theorem pJ : dC Tryz.prog 10 := ⟨_, Tryz.func10, by kernel_rfl, by kernel_rfl⟩
theorem yV : dC Tryz.prog 20 := ⟨_, Tryz.func20, by kernel_rfl, by kernel_rfl⟩
theorem yU : dC Tryz.prog 21 := ⟨_, Tryz.func21, by kernel_rfl, by kernel_rfl⟩
def LR (s : SD) : SD := (s.1, s.2.map fO)
theorem AM {ds : List SD} {es : List Ent} (h : MB ds es) : ∃ l : List SD, l.Perm ds ∧ (∀ i j (hij : i < j) (hj : j < l.length), ¬ dI l[j].1 l[i].1 < 0) ∧ es.map Ent.row = l.map LR := by
  obtain ⟨l, h1, h2, h3, -⟩ := h
  refine ⟨l, h1, h2, ?_⟩
  rw [← h3, List.map_map]
  rfl
theorem JB {w w' : World} {b : Nat} {ob : Option Nat} {es : List Ent} (h : StAt w' b ob es) (hT : Tab w) (he : Evo [] w w') (h1 : Ge w (some b)) (h2 : Ge w ob) : Sto (b :: ob.toList) w' b ob (es.map Ent.row) :=
  sto_of h (hT.evo he (by simp)) (fun hm => by
    have := hT.lt
    rcases List.mem_cons.1 hm with e | hm
    · have := h1 b rfl; omega
    · have := h2 nU (by simpa using hm); omega)
theorem ge_own {X : List Nat} {w : World} {b : Nat} {ob : Option Nat} (h1 : Ge w (some b)) (h2 : Ge w ob) : ∀ y, y ∈ b :: ob.toList → y ∈ X ∨ w.heap.size ≤ y := fun y hy => by
  rcases List.mem_cons.1 hy with rfl | hy
  · exact .inr (h1 _ rfl)
  · exact .inr (h2 y (by simpa using hy))
theorem at_ok2 {X : List Nat} {w : World} {b : Nat} {ob : Option Nat} {l : List SD} (h : Sto X w b ob l) (i t : Int) (ht : -9223372036854775808 ≤ t ∧ t ≤ 9223372036854775807) : Calls Tryz.prog 21 #[.pointer (some ⟨b, 0, none⟩), .int .i64 i, .int .i64 t] w (Ret fun r w' => ∃ x ok, r = .tuple #[.agg #[.int .i64 (Smp.t x), .float .f64 x.v, .bool x.st], .bool ok] ∧ wZ (lT l i).2 t = (x, ok) ∧ Sto X w' b ob l ∧ Evo (b :: ob.toList) w w') :=
  (at_ok h i t ht).mono fun e w' ⟨v, he, hv, h1, h2⟩ => ⟨v, he, _, _, hv, rfl, h1, h2⟩
def wD : List SD := [(wF, AD), (wE, AC)].map LR
theorem LV : wZ (lT wD 0).2 10 = (⟨0, 4611686018427387904, false⟩, true) := by kernel_rfl
theorem BL {X : List Nat} {w : World} {b : Nat} {ob : Option Nat} (h : Sto X w b ob wD) : Calls Tryz.prog 21 #[.pointer (some ⟨b, 0, none⟩), .int .i64 0, .int .i64 10] w (Ret fun r w' => r = .tuple #[.agg #[.int .i64 0, .float .f64 4611686018427387904, .bool false], .bool true] ∧ Evo (b :: ob.toList) w w') :=
  (at_ok2 h 0 10 (by decide)).mono fun e w' ⟨v, he, x, ok, hv, ha, h1, h2⟩ => ⟨v, he, by rw [LV] at ha; cases ha; exact hv, h2⟩
theorem zN : iL sQ := ⟨by decide, fun s hs => by
  rcases List.mem_cons.1 hs with rfl | hs
  · exact ⟨by decide, by decide⟩
  · rw [List.mem_singleton.1 hs]; exact ⟨by decide, by decide⟩⟩
theorem DL {w : World} {v : Value} (hs : RSl 2 RSer [] w v sQ) (hP : P10 w) (hT : Tab w) :
    Calls Tryz.prog 10 #[.agg #[v]] w (Ret fun r w' => Evo [] w w' ∧ ∃ b ob, r = .tuple #[.pointer (some ⟨b, 0, none⟩), .int .i64 0, iv3 0] ∧ Sto (b :: ob.toList) w' b ob wD ∧ Ge w (some b) ∧ Ge w ob) := by
  refine (FG hs zN hP hT).mono ?_
  rintro e w' ⟨v, rfl, hE, ⟨h1, -⟩ | ⟨-, b, ob, es, rfl, hSA, y, A, hL⟩⟩
  · rw [II] at h1; exact absurd rfl h1
  · obtain ⟨l, hp, hsrt, hrow⟩ := AM hL
    have hl := wL hp hsrt
    subst hl
    have hS := JB hSA hT hE y A
    rw [hrow] at hS
    exact ⟨_, rfl, hE, b, ob, rfl, hS, y, A⟩
theorem LU {w : World} (hP : P10 w) (hT : Tab w) : Calls Tryz.prog 5 #[] w (Ret fun r w' => r = .bool true ∧ Evo [] w w') := by
  refine aU (N := 34) Tryz.func5 rfl rfl rfl ?_; refine csr (wan (csr (aG (vs := []) yV rfl (JR) rfl ?_))); rintro _ w1 ⟨v0, rfl, hsp, O⟩; have y := (Evo.refl [] w).then O; refine aG (vs := [_]) pJ rfl (DL hsp (hP.evo y (by simp)) (hT.evo y (by simp))) rfl ?_; rintro _ w4 ⟨U, b, ob, rfl, G, hGb, hGo⟩; have hEl := y; have V : Ge w (some b) := fun g e => Nat.le_trans hEl.size (hGb g e); have W : Ge w ob := fun g e => Nat.le_trans hEl.size (hGo g e); refine aD (aC (cB rfl rfl) ?_); refine aC (cB rfl rfl) ?_; refine aC (cB rfl rfl) ?_; refine cL (cL (wan (aL (csr (aD (aC (eO rfl rfl) ?_)))))); refine aD (bQ (t := 14) rfl (fun A => ?_) (fun A => ?_))
  ·exact absurd rfl A
  refine aW (aD (aW (aC (wU rfl rfl tQ) ?_))); refine bY (aD (aW (aD (aW (aG (vs := [_]) pI rfl (KL (G.evo (Evo.refl [] w4))) rfl ?_))))); rintro _ w7 ⟨rfl, H⟩; refine aW (aC (eO rfl rfl) ?_); refine bY (wnn (bP rfl (fun D => ?_) (fun D => ?_)))
  ·exact absurd rfl D
  refine aR (aB (csr (aD (aG (vs := [_, _, _]) yU rfl (BL (G.evo ((Evo.refl [] w4).then H))) rfl ?_)))); rintro _ a0 ⟨rfl, I⟩; have E := ((y.then U).then H).step I (ge_own V W); refine aD (aC (cB rfl rfl) ?_); refine aC (cB rfl rfl) ?_; refine dE rfl jI fun b4 a1 J F K => ?_; have Y := F; refine bT rfl rfl dD J rfl rfl ⟨by first | rfl | assumption, by first | rfl | assumption, by first | rfl | assumption, trivial⟩ fun a2 L M => ?_; refine wan (csr (aD (aD (aW (aC (aA rfl eC) (aW (aC (aF rfl fA (aK L rfl)) (aW ?_)))))))); refine aC (DU (FS rfl rfl) (by kernel_rfl)) ?_; refine cF (wan (aS (br1 ?_))); exact ⟨rfl, ((E.then K).step M (Ge.new E F).mem1)⟩
end Go.Proofs.YtlpdhbmhbjjnhaaGreatDoor
