/- Times: part 3 of 4 of what the law rests on. -/
import Derived.Test.YtlpdhbmhbjjnhaaGreatDoorXlB
set_option linter.unusedSectionVars false
set_option linter.unusedSimpArgs false
set_option linter.unusedVariables false
namespace Go.Proofs.YtlpdhbmhbjjnhaaGreatDoor
open Go.RowKit Go.W
attribute [local irreducible] Decidable.decide
theorem kQ : gG Tryz.prog 118 = some false := by kernel_rfl
theorem dQ : gG Tryz.prog 42 = some false := by kernel_rfl
theorem lJ : nL Tryz.prog 96 96 = some (3, 1, 8) := by kernel_rfl
theorem sA : Build Tryz.prog 120 #[(0, 1), (1, 1)] #[.int .i64 0, .map none] := ⟨_, .agg #[.int .i64 0, .map none], Tryz.underlying120, by kernel_rfl, rfl, fun w => by kernel_rfl⟩
theorem wW : iS Tryz.prog 82 = some 1 := by kernel_rfl
theorem iW : cZ Tryz.prog 120 1 = some 1 := by kernel_rfl
theorem nS : dB Tryz.prog 45 := ⟨_, Tryz.func45, by kernel_rfl, by kernel_rfl⟩
theorem jI : iF Tryz.prog 96 = some (3, 1) := by kernel_rfl
set_option maxHeartbeats 4000000 in
theorem new_ok {w : World} {v : Value} {sets : List (List LB)} (hs : RSl 1 (BU 2 RLB) [] w v sets) (hl1 : sets.length ≤ 2000000) (hl2 : ∀ i (h : i < sets.length), sets[i].length ≤ 2000000) (hl3 : (eW sets sets.length).length ≤ 100000000) :
    Calls Tryz.prog 33 #[v] w (Ret fun r w' => (r = .tuple #[.pointer none, .int .i64 160] ∧ (∃ i, ∃ h : i < sets.length, ¬ lC sets[i]) ∧ Evo [] w w') ∨
      ∃ bx mb D, r = .tuple #[.pointer (some ⟨bx, 0, none⟩), .int .i64 0] ∧ (∀ i (h : i < sets.length), lC sets[i]) ∧ IxAt w' w.heap.size bx sets.length mb D ∧ Knows D (eW sets sets.length) ∧ Evo [] w w') := by
  obtain ⟨sa, sc, rfl, hlc, e1⟩ := hs; refine aU (N := 61) Tryz.func33 rfl rfl rfl ?_; refine csr (cS (wan (csr (aE (aC (aX rfl Tryz.underlying82 rfl) ?_))))); refine qN rfl fun mb w1 e4 e5 f4 => ?_; have f5 := e5; have e6 := (Evo.refl [] w).then f4; refine aC (dI (vs := [(0, _), (1, _)]) sA rfl (cells := [_, _]) rfl) ?_; refine eK rfl rfl fun bx w7 f6 c2 c3 => ?_; have f7 := c2; have f8 : IxAt w7 w.heap.size bx sets.length mb [] := IxAt.nil f6 (e4.evo0 c3) ((Ge.new (Evo.refl [] w) e5) _ rfl) ((Ge.new e6 c2) _ rfl) (fun e => (Apart.new (Lt.map e4) c2) mb rfl (congrArg some e)); refine wan (aM (csr (aE (aC (aX rfl Tryz.underlying82 rfl) ?_)))); refine aE (wnn (bB (cM (α := Nat × List En) ((0, [])) (fun x => [(17, .int .i64 (x.1 : Nat))]) [(4, _), (15, _), (16, _)] (fun x wr => Evo [] w wr ∧ (x.1 ≤ sets.length ∧ (∀ j (h : j < sets.length), j < x.1 → lC sets[j]) ∧ IxAt wr w.heap.size bx sets.length mb x.2 ∧ Knows x.2 (eW sets x.1))) (fun x => sets.length - x.1) ⟨rfl, trivial⟩ ⟨rfl, rfl, rfl, trivial⟩ ⟨(e6.then c3), ⟨Nat.zero_le _, fun j h h2 => absurd h2 (Nat.not_lt_zero _), f8, Knows.nil⟩⟩ ?_))); rintro ⟨i, D⟩ wr15 ⟨L, ⟨hi, hvd, hI, hKn⟩⟩; show CW _ _ _ _ [(17, .int .i64 (i : Nat)), (4, _), (15, _), (16, _)] _
  try dsimp only at hi hvd hI hKn
  refine csr (aC (cQ rfl rfl) ?_); refine wnn (aM (bS rfl (fun e7 => ?_) (fun e7 => ?_)))
  ·have hi' : i < sets.length := by omega
   obtain ⟨b1, o1, vs1, ha1, -, -, f9, va, rfl, hrs0⟩ := e1 i hi'; obtain ⟨ls, hls⟩ : ∃ l, l = sets[i] := ⟨_, rfl⟩; have hrs := RSl.evo RLB.pers L hrs0; rw [← hls] at hrs hrs0
   have hll : ls.length ≤ 2000000 := by rw [hls]; exact hl2 i hi'
   obtain ⟨la, lc, rfl, hlc2, e2⟩ := id hrs0; refine aQ (aB (aM (bB (csr (aE ?_)))))
   refine aC (cE (n := i) (by rw [ha1]; rfl) rfl wW (by omega)) ?_
   refine aC (aI rfl dQ ((f9.evo L (by simp)) 0 _ rfl)) ?_; refine cS (wan (aM (csr (aE ?_)))); refine aG (vs := [_]) nS rfl (tH hrs (by omega)) rfl ?_; rintro _ g8 ⟨bv, rfl, hbv, c4⟩; have c5 := L.then c4; refine aC (eE rfl) ?_; refine wnn (dZ rfl (fun M => ?_) (fun M => ?_))
   ·refine csr (cS (wan (aT (aN (bM (aN (aN (bM (aN (dE rfl rfl rfl ?_))))))))))
    exact .inl ⟨rfl, ⟨i, hi', fun h => by rw [← hls] at h; rw [hbv.2 h] at M; cases M⟩, c5⟩
   refine aQ (aB (csr (aE (aC (aX rfl Tryz.underlying42 rfl) ?_)))); refine aE (wnn (bB ?_)); refine cM (α := Nat × List En) ((0, D)) (fun x => [(27, .int .i64 (x.1 : Nat))]) [(4, _), (5, _), (15, _), (16, _), (17, _), (25, _), (26, _)] (fun x wr => Evo [] w wr ∧ (x.1 ≤ ls.length ∧ IxAt wr w.heap.size bx sets.length mb x.2 ∧ Knows x.2 (eW sets i ++ fZ (ls.take x.1) i))) (fun x => ls.length - x.1) ⟨rfl, trivial⟩ ⟨rfl, rfl, rfl, rfl, rfl, rfl, rfl, trivial⟩ ⟨c5, ⟨Nat.zero_le _, (hI.evo0 c4), by simpa [fZ] using hKn⟩⟩ ?_; rintro ⟨k, D⟩ wr21 ⟨O, ⟨hk, hI, hKn⟩⟩; show CW _ _ _ _ [(27, .int .i64 (k : Nat)), (4, _), (5, _), (15, _), (16, _), (17, _), (25, _), (26, _)] _
   try dsimp only at hk hI hKn
   refine csr (aC (cQ rfl rfl) ?_); refine wnn (aM (bS rfl (fun e8 => ?_) (fun e8 => ?_)))
   ·have hk' : k < ls.length := by omega
    obtain ⟨b2, o2, vs2, ha2, -, -, g0, rfl, hz1, hz2⟩ := e2 k hk'; refine aQ (aB (aM (bB (csr ?_))))
    refine aC (cE (n := k) (by rw [ha2]; rfl) rfl dN (by omega)) ?_
    refine aC (cX rfl dP cB (vs := [_, _]) rfl (g0.evo O (by simp))) ?_; have hIlt9 := (hI).lt; refine cO rfl eO fun b8 g9 e9 c6 c8 => ?_; have c9 := c6
    have hb8I : b8 ∉ Ixl bx mb D := fun hb => by have := hIlt9 b8 hb; have := c9; omega
    refine bQ rfl rfl cB e9 rfl rfl ⟨by first | rfl | assumption, by first | rfl | assumption, trivial⟩ fun h0 a8 d0 => ?_; have a9 := (O.then c8).step d0 (Ge.new O c6).mem1
    have d1 := (hI.evo0 c8).evo d0 (fun b hb hm => by simp at hm; subst hm; exact hb8I hb)
    refine wnn (aM ?_)
    rcases hlk : eD (D.map En.kv) ls[k].1 with _ | vv
    ·refine eA (fun w0 w' => Evo [] w0 w') (by kernel_rfl) (fun H U => ?_); have V := d1.evo0 U; have b0 := U.blk0 a8; refine aet 0 rfl (fun _ hS => aW rfl) (Evo.refl [] H) ?_; refine aet 1 rfl (fun _ hS => aF rfl) (Evo.refl [] H) ?_; refine aet 2 rfl (fun _ hS => aA rfl iW) (Evo.refl [] H) ?_; refine aet 3 rfl (fun _ hS => aI rfl kQ (aJ ((V.evo0 hS)).box rfl)) (Evo.refl [] H) ?_; refine aet 4 rfl (fun _ hS => aA rfl cU) (Evo.refl [] H) ?_; refine aet 5 rfl (fun _ hS => aI rfl bW (aJ (hS.blk0 b0) rfl)) (Evo.refl [] H) ?_
     refine aet 6 rfl (fun _ hS => iI rfl rfl Tryz.underlying118 Tryz.underlying9 (z := .map none) (by kernel_rfl) ((V.evo0 hS)).map (r := .map none) (by rw [hlk]; rfl)) (Evo.refl [] H) ?_
     refine aet 7 rfl (fun _ hS => eJ rfl) (Evo.refl [] H) ?_; refine bK (by kernel_rfl) (aB ?_); refine aM (csr (aE (aC (yN rfl rfl Tryz.underlying121) ?_))); refine wnn (eM rfl ?_); refine csr ?_; have hIlt := (V).lt; refine qN rfl fun nb h3 f0 b3 b4 => ?_; have g1 := b3
     have hnbI : nb ∉ Ixl bx mb D := fun hb => by have := hIlt nb hb; omega
     have hnbg : w.heap.size ≤ nb := (Ge.new (a9.then U) b3) _ rfl; have hb8n : b8 ≠ nb := fun e => (Apart.new (Lt.blk b0) b3) _ (congrArg some e) rfl; refine wan ?_; refine eA (fun w0 w' => Evo [] w0 w') (by kernel_rfl) (fun K W => ?_); have Y := (V.evo0 b4).evo0 W; have d2 := W.blk0 (b4.blk0 b0); refine aet 0 rfl (fun _ hS => aW rfl) (Evo.refl [] K) ?_; refine aet 1 rfl (fun _ hS => aF rfl) (Evo.refl [] K) ?_; refine aet 2 rfl (fun _ hS => aA rfl iW) (Evo.refl [] K) ?_; refine aet 3 rfl (fun _ hS => aI rfl kQ (aJ ((Y.evo0 hS)).box rfl)) (Evo.refl [] K) ?_; refine aet 4 rfl (fun _ hS => aA rfl cU) (Evo.refl [] K) ?_; refine aet 5 rfl (fun _ hS => aI rfl bW (aJ (hS.blk0 d2) rfl)) (Evo.refl [] K) ?_; refine aet 6 rfl (fun _ hS => aW rfl) (Evo.refl [] K) ?_; refine aK [7] (by kernel_rfl) rfl ⟨?_, trivial⟩; refine aL rfl ?_; refine iH rfl rfl rfl Tryz.underlying118 Tryz.underlying9 (Y).map fun w7 a4 F => ?_; have b7 := IxAt.addName Y hnbg hnbI (f0.evo0 W) a4 F hlk
     have d3 := (((a9.then U).then b4).then W).step F (by intro y hy; simp at hy; subst hy; exact .inr (Y).ge)
     have d4 := F.blk d2 (by simp; exact fun e => hb8I (by rw [e]; simp [Ixl]))
     refine aD (aH (.inr (by kernel_rfl)) ?_); refine bK (by kernel_rfl) (aB ?_); have hem := (b7).ent (e := (⟨ls[k].1, nb, []⟩ : En)) (by simp); obtain ⟨V1, o, V2, va, vn, vc, ids, ob, hvs, hgv, hown, hfo, hput, hcase⟩ := hem.find ls[k].2; obtain ⟨hemo, hobI⟩ := (b7).obs (e := (⟨ls[k].1, nb, []⟩ : En)) (by simp) hvs hfo; have hemI := (b7).gee (e := (⟨ls[k].1, nb, []⟩ : En)) (by simp); have a5 := hem.1
     have hb8J : b8 ∉ Ixl bx mb (D ++ [(⟨ls[k].1, nb, []⟩ : En)]) := by intro hb; simp only [Ixl, List.flatMap_append, List.flatMap_cons, List.flatMap_nil, List.append_nil, En.bl, List.mem_append, List.mem_cons, List.not_mem_nil, or_false] at hb hb8I; simp only [not_or] at hb8I; rcases hb with h | h | h | h; exact hb8I.1 h; exact hb8I.2.1 h; exact hb8I.2.2 h; exact hb8n h
     have hb8o : b8 ∉ ob.toList := fun hb => hb8J (hobI b8 hb).2
     have g2 : Apart (some b8) ob := fun g h1 h2 => by cases h1; exact hb8o (by simp [h2])
     have d5 : Apart (some (⟨ls[k].1, nb, []⟩ : En).mb) ob := fun g h1 h2 => by cases h1; exact hemo (by simp [h2])
     have hGob : Ge w ob := fun g hg => (hobI g (by simp [hg])).1
     have hidl : ids.length ≤ (eW sets i ++ fZ (ls.take k) i).length := by rcases hcase with ⟨_, _, rfl⟩ | ⟨x, hx, _⟩; exact Nat.zero_le _; have := (tQ hvs).2.1; rw [this] at hx; cases hx
     have hrl : (eW sets i ++ fZ (ls.take k) i).length ≤ 100000000 := by have := CK (k := k) hi'; rw [← hls] at this; omega
     have hvn := own_n hown; refine eA (fun w0 w' => Evo ob.toList w0 w') (by kernel_rfl) (fun E q => ?_); refine aet 0 rfl (fun _ hS => aW rfl) (Evo.refl ob.toList E) ?_; refine aet 1 rfl (fun _ hS => aA rfl dF) (Evo.refl ob.toList E) ?_; refine aet 2 rfl (fun _ hS => aI rfl bW (aJ (hS.blk (q.blk0 d4) (hb8o)) rfl)) (Evo.refl ob.toList E) ?_; refine aet 3 rfl (fun _ hS => aW rfl) (Evo.refl ob.toList E) ?_; refine aet 4 rfl (fun _ hS => aA rfl dF) (Evo.refl ob.toList E) ?_; refine aet 5 rfl (fun _ hS => aI rfl bW (aJ (hS.blk (q.blk0 d4) (hb8o)) rfl)) (Evo.refl ob.toList E) ?_; refine aet 6 rfl (fun _ hS => iI rfl rfl Tryz.underlying121 Tryz.underlying9 (z := .slice none 0 0) (by kernel_rfl) ((a5.evo0 q).evo hS (hemo)) (r := .slice va vn vc) hgv) (Evo.refl ob.toList E) ?_; refine aet 7 rfl (fun _ hS => aW rfl) (Evo.refl ob.toList E) ?_; refine aK [8] (by kernel_rfl) rfl ⟨?_, trivial⟩; refine aL rfl ?_; refine cH (vs := [_]) rfl jI rfl rfl rfl rfl fun h4 h5 f1 g5 a0 => ?_; have b5 := (Evo.refl ob.toList E).then a0; refine aD (aH (.inl b5) ?_); refine aK [9] (by kernel_rfl) rfl ⟨?_, trivial⟩; refine aL rfl ?_
     have hsz14 := (b5).size; refine cN rfl rfl rfl rfl lJ ((hown.evo0 q).evo0 a0) (Src.ofOwn f1 ⟨by first | rfl | assumption, trivial⟩) (by omega) fun a7 c7 g3 ob7 d6 b6 hob85 => ?_; have d7 := b5.step b6 (fun y hy => .inl hy); have hob7 : ob7 = ob ∨ ∃ g, ob7 = some g ∧ E.heap.size ≤ g := hob85.imp id (fun ⟨g, h1, h2⟩ => ⟨g, h1, Nat.le_trans hsz14 h2⟩); refine aD (aH (.inl d7) ?_); refine aK [10] (by kernel_rfl) rfl ⟨?_, trivial⟩; refine aL rfl ?_; refine iH rfl rfl rfl Tryz.underlying121 Tryz.underlying9 (((a5.evo0 q).evo0 a0).evo b6 d5.nmem) fun w7 a4 F => ?_; obtain ⟨x7, hx7⟩ : ∃ x : Vl, x = ⟨ls[k].2, a7, vn + 1, c7, ids ++ [(i : Int)], ob7⟩ := ⟨_, rfl⟩
     have hx7a : x7.At g3 := by subst hx7; unfold Vl.At; rw [List.map_append]; exact d6
     have d8 : MapAt w7 (⟨ls[k].1, nb, []⟩ : En).mb ((V1 ++ x7 :: V2).map Vl.kv) := by rw [← hput x7 (by subst hx7; rfl)]; subst hx7; exact a4
     have d9 := IxAt.put (b7.evo0 q) hvs hfo (Evo.size (d3.then q)) hx7a d7 (by subst hx7; exact hob7) d8 F
     obtain ⟨rfl, rfl, rfl⟩ := tQ hvs
     have hids0 : ids = [] := by rcases hcase with ⟨_, _, h⟩ | ⟨x, h, _⟩; exact h; cases h
     have a6 := hKn.newName (n := ls[k].1) (v := ls[k].2) (i := (i : Int)) (e := { (⟨ls[k].1, nb, []⟩ : En) with vs := [] ++ x7 :: [] }) (x := x7) (HQ hlk) rfl (by subst hx7; rfl) (by subst hx7; subst hids0; rfl) rfl
     rw [List.append_assoc, ← pI hk'] at a6
     have f2 := (((d3.then q).then a0).step b6 hGob.mem).step F (by intro y hy; simp at hy; subst hy; exact .inr hemI.1)
     refine aD (aH (.inr (by kernel_rfl)) ?_); refine bK (by kernel_rfl) (bA (aB ?_)); refine aP ?_; refine aC (aZ rfl rfl (by omega) (by omega)) ?_; refine aE (aD (aO ?_)); refine ⟨(k + 1, D ++ [{ (⟨ls[k].1, nb, []⟩ : En) with vs := [] ++ x7 :: [] }]), ?_, ⟨rfl, trivial⟩, ⟨rfl, rfl, rfl, rfl, rfl, rfl, rfl, trivial⟩, f2, ?_⟩
     · (try dsimp only); omega
     try dsimp only
     exact ⟨by omega, d9, a6⟩
    obtain ⟨D1, e, D2, rfl, hen, hnn⟩ := mR hlk; obtain ⟨hnm, hvv⟩ := Prod.mk.inj (show (e.nm, Value.map (some e.mb)) = (ls[k].1, vv) from hen); subst hvv; refine eA (fun w0 w' => Evo [] w0 w') (by kernel_rfl) (fun I a1 => ?_); have G := d1.evo0 a1; refine aet 0 rfl (fun _ hS => aW rfl) (Evo.refl [] I) ?_; refine aet 1 rfl (fun _ hS => aF rfl) (Evo.refl [] I) ?_; refine aet 2 rfl (fun _ hS => aA rfl iW) (Evo.refl [] I) ?_; refine aet 3 rfl (fun _ hS => aI rfl kQ (aJ ((G.evo0 hS)).box rfl)) (Evo.refl [] I) ?_; refine aet 4 rfl (fun _ hS => aA rfl cU) (Evo.refl [] I) ?_; refine aet 5 rfl (fun _ hS => aI rfl bW (aJ (hS.blk0 (a1.blk0 a8)) rfl)) (Evo.refl [] I) ?_
    refine aet 6 rfl (fun _ hS => iI rfl rfl Tryz.underlying118 Tryz.underlying9 (z := .map none) (by kernel_rfl) ((G.evo0 hS)).map (r := .map (some e.mb)) (by rw [hlk]; rfl)) (Evo.refl [] I) ?_
    refine aet 7 rfl (fun _ hS => eJ rfl) (Evo.refl [] I) ?_; refine bK (by kernel_rfl) (aB ?_); refine aM (csr (aE (aC (yN rfl rfl Tryz.underlying121) ?_))); refine wnn (cL rfl ?_); refine aQ (aB ?_); have hem := (G).ent (e := e) (by simp); obtain ⟨V1, o, V2, va, vn, vc, ids, ob, hvs, hgv, hown, hfo, hput, hcase⟩ := hem.find ls[k].2; obtain ⟨hemo, hobI⟩ := (G).obs (e := e) (by simp) hvs hfo; have hemI := (G).gee (e := e) (by simp); have a5 := hem.1; have hb8J := hb8I; have hb8o : b8 ∉ ob.toList := fun hb => hb8J (hobI b8 hb).2
    have g2 : Apart (some b8) ob := fun g h1 h2 => by cases h1; exact hb8o (by simp [h2])
    have d5 : Apart (some e.mb) ob := fun g h1 h2 => by cases h1; exact hemo (by simp [h2])
    have hGob : Ge w ob := fun g hg => (hobI g (by simp [hg])).1; have hidl := hKn.ids_le (e := e) (by simp) hvs hcase
    have hrl : (eW sets i ++ fZ (ls.take k) i).length ≤ 100000000 := by have := CK (k := k) hi'; rw [← hls] at this; omega
    have hvn := own_n hown; refine eA (fun w0 w' => Evo ob.toList w0 w') (by kernel_rfl) (fun p A => ?_); have b9 := (a9.then a1).then A; have c0 := A.blk0 (a1.blk0 a8); refine aet 0 rfl (fun _ hS => aW rfl) (Evo.refl ob.toList p) ?_; refine aet 1 rfl (fun _ hS => aA rfl dF) (Evo.refl ob.toList p) ?_; refine aet 2 rfl (fun _ hS => aI rfl bW (aJ (hS.blk c0 (hb8o)) rfl)) (Evo.refl ob.toList p) ?_; refine aet 3 rfl (fun _ hS => aW rfl) (Evo.refl ob.toList p) ?_; refine aet 4 rfl (fun _ hS => aA rfl dF) (Evo.refl ob.toList p) ?_; refine aet 5 rfl (fun _ hS => aI rfl bW (aJ (hS.blk c0 (hb8o)) rfl)) (Evo.refl ob.toList p) ?_; refine aet 6 rfl (fun _ hS => iI rfl rfl Tryz.underlying121 Tryz.underlying9 (z := .slice none 0 0) (by kernel_rfl) ((a5.evo0 A).evo hS (hemo)) (r := .slice va vn vc) hgv) (Evo.refl ob.toList p) ?_; refine aet 7 rfl (fun _ hS => aW rfl) (Evo.refl ob.toList p) ?_; refine aK [8] (by kernel_rfl) rfl ⟨?_, trivial⟩; refine aL rfl ?_; refine cH (vs := [_]) rfl jI rfl rfl rfl rfl fun g6 g7 e0 g4 J => ?_; have a2 := (Evo.refl ob.toList p).then J; refine aD (aH (.inl a2) ?_)
    refine aK [9] (by kernel_rfl) rfl ⟨?_, trivial⟩; refine aL rfl ?_; have hsz14 := (a2).size; refine cN rfl rfl rfl rfl lJ ((hown.evo0 A).evo0 J) (Src.ofOwn e0 ⟨by first | rfl | assumption, trivial⟩) (by omega) fun a7 c7 f3 ob7 d6 a3 hob129 => ?_; have c1 := a2.step a3 (fun y hy => .inl hy); have hob7 : ob7 = ob ∨ ∃ g, ob7 = some g ∧ p.heap.size ≤ g := hob129.imp id (fun ⟨g, h1, h2⟩ => ⟨g, h1, Nat.le_trans hsz14 h2⟩); refine aD (aH (.inl c1) ?_); refine aK [10] (by kernel_rfl) rfl ⟨?_, trivial⟩; refine aL rfl ?_; refine iH rfl rfl rfl Tryz.underlying121 Tryz.underlying9 (((a5.evo0 A).evo0 J).evo a3 d5.nmem) fun w7 a4 F => ?_; obtain ⟨x7, hx7⟩ : ∃ x : Vl, x = ⟨ls[k].2, a7, vn + 1, c7, ids ++ [(i : Int)], ob7⟩ := ⟨_, rfl⟩
    have hx7a : x7.At f3 := by subst hx7; unfold Vl.At; rw [List.map_append]; exact d6
    have d8 : MapAt w7 e.mb ((V1 ++ x7 :: V2).map Vl.kv) := by rw [← hput x7 (by subst hx7; rfl)]; subst hx7; exact a4
    have d9 := IxAt.put (G.evo0 A) hvs hfo (Evo.size b9) hx7a c1 (by subst hx7; exact hob7) d8 F
    have a6 := hKn.put' hvs hnm (x' := x7) (ids := ids) (i := (i : Int)) (v := ls[k].2) (by subst hx7; rfl) (by subst hx7; rfl) hcase
    rw [List.append_assoc, ← pI hk'] at a6
    have e3 := ((b9.then J).step a3 hGob.mem).step F (by intro y hy; simp at hy; subst hy; exact .inr hemI.1)
    refine aD (aH (.inr (by kernel_rfl)) ?_); refine bK (by kernel_rfl) (bA (aB ?_)); refine aP ?_; refine aC (aZ rfl rfl (by omega) (by omega)) ?_; refine aE (aD (aO ?_)); refine ⟨(k + 1, D1 ++ { e with vs := V1 ++ x7 :: V2 } :: D2), ?_, ⟨rfl, trivial⟩, ⟨rfl, rfl, rfl, rfl, rfl, rfl, rfl, trivial⟩, e3, ?_⟩
    · (try dsimp only); omega
    try dsimp only
    exact ⟨by omega, d9, a6⟩
   refine bI (bE (bE (bH (bA (aB ?_))))); refine aP ?_; refine aC (aZ rfl rfl (by omega) (by omega)) ?_; refine aE (aD (aO ?_)); refine ⟨(i + 1, D), ?_, ⟨rfl, trivial⟩, ⟨rfl, rfl, rfl, trivial⟩, O, ?_⟩
   · (try dsimp only); omega
   try dsimp only
   refine ⟨by omega, fun j h hj => ?_, hI, ?_⟩
   · by_cases e : j = i
     · subst e; rw [← hls]; exact hbv.1 (by simpa using M)
     · exact hvd j h (by omega)
   · rw [List.take_of_length_le (by omega)] at hKn; rw [kY hi', ← hls]; exact hKn
  refine bI (bE (bE (bH (aB ?_)))); refine csr (aE (cS (wan (aT (dE rfl rfl rfl ?_)))))
  obtain rfl : i = sets.length := by omega
  exact .inr ⟨bx, mb, D, rfl, fun j h => hvd j h h, hI, hKn, L⟩
end Go.Proofs.YtlpdhbmhbjjnhaaGreatDoor
namespace Go.Proofs.YtlpdhbmhbjjnhaaGreatDoor
open Go.RowKit Go.W
def jZ (a b : ByteArray) : Int := if a.toList < b.toList then -1 else if b.toList < a.toList then 1 else 0
def lY (x y : LB) : Int := if jZ x.1 y.1 ≠ 0 then jZ x.1 y.1 else jZ x.2 y.2
def dL : List LB → List LB → Int
  | [], [] => 0
  | [], _ :: _ => -1
  | _ :: _, [] => 1
  | x :: a, y :: b => if lY x y ≠ 0 then lY x y else dL a b
structure Ord3 {α : Type} (c : α → α → Int) : Prop where
  zero : ∀ a b, c a b = 0 ↔ a = b
  flip : ∀ a b, c a b < 0 ↔ 0 < c b a
  trans : ∀ a b d, c a b < 0 → c b d < 0 → c a d < 0
theorem Ord3.le {α : Type} {c : α → α → Int} (h : Ord3 c) {a b : α} (h1 : ¬ c a b < 0) (h2 : ¬ c b a < 0) : a = b := by
  have h3 := h.flip b a
  exact (h.zero a b).1 (by omega)
theorem ord_s : Ord3 jZ where
  zero a b := by
    unfold jZ
    by_cases h1 : a.toList < b.toList
    · rw [if_pos h1]
      constructor
      · intro h; omega
      · rintro rfl; exact absurd h1 (List.lt_irrefl _)
    · rw [if_neg h1]
      by_cases h2 : b.toList < a.toList
      · rw [if_pos h2]
        constructor
        · intro h; omega
        · rintro rfl; exact absurd h2 (List.lt_irrefl _)
      · rw [if_neg h2]
        exact ⟨fun _ => xI (List.le_antisymm (List.not_lt.1 h2) (List.not_lt.1 h1)), fun _ => rfl⟩
  flip a b := by
    unfold jZ
    by_cases h1 : a.toList < b.toList
    · have h2 : ¬ b.toList < a.toList := fun h => List.lt_irrefl _ (List.lt_trans h1 h)
      rw [if_pos h1, if_neg h2, if_pos h1] <;> omega
    · rw [if_neg h1]
      by_cases h2 : b.toList < a.toList
      · rw [if_pos h2, if_pos h2] <;> omega
      · rw [if_neg h2, if_neg h2, if_neg h1] <;> omega
  trans a b d := by
    unfold jZ
    intro h1 h2
    have k1 : a.toList < b.toList := by
      by_cases h : a.toList < b.toList
      · exact h
      · rw [if_neg h] at h1; split at h1 <;> omega
    have k2 : b.toList < d.toList := by
      by_cases h : b.toList < d.toList
      · exact h
      · rw [if_neg h] at h2; split at h2 <;> omega
    rw [if_pos (List.lt_trans k1 k2)]; omega
theorem ord_l : Ord3 lY where
  zero a b := by
    have h1 := ord_s.zero a.1 b.1
    have h2 := ord_s.zero a.2 b.2
    unfold lY
    by_cases h : jZ a.1 b.1 ≠ 0
    · rw [if_pos h]
      exact ⟨fun e => absurd e h, fun e => absurd (h1.2 (by rw [e])) h⟩
    · rw [if_neg h]
      have h3 := h1.1 (Classical.not_not.1 h)
      exact ⟨fun e => Prod.ext h3 (h2.1 e), fun e => h2.2 (by rw [e])⟩
  flip a b := by
    have f1 := ord_s.flip a.1 b.1
    have f2 := ord_s.flip b.1 a.1
    have f3 := ord_s.flip a.2 b.2
    unfold lY
    by_cases h : jZ a.1 b.1 ≠ 0
    · have h' : jZ b.1 a.1 ≠ 0 := by omega
      rw [if_pos h, if_pos h']; exact f1
    · have h' : ¬ jZ b.1 a.1 ≠ 0 := by omega
      rw [if_neg h, if_neg h']; exact f3
  trans a b d := by
    have z1 := ord_s.zero a.1 b.1
    have z2 := ord_s.zero b.1 d.1
    have t1 := ord_s.trans a.1 b.1 d.1
    have t2 := ord_s.trans a.2 b.2 d.2
    unfold lY
    intro h1 h2
    by_cases e1 : jZ a.1 b.1 ≠ 0
    · rw [if_pos e1] at h1
      by_cases e2 : jZ b.1 d.1 ≠ 0
      · rw [if_pos e2] at h2
        have := t1 h1 h2
        rw [if_pos (by omega)]; exact this
      · have e3 := z2.1 (Classical.not_not.1 e2)
        rw [e3] at h1
        rw [if_pos (by omega)]; exact h1
    · rw [if_neg e1] at h1
      have e3 := z1.1 (Classical.not_not.1 e1)
      rw [e3]
      by_cases e2 : jZ b.1 d.1 ≠ 0
      · rw [if_pos e2] at h2 ⊢; exact h2
      · rw [if_neg e2] at h2 ⊢; exact t2 h1 h2
theorem yB : ∀ a b : List LB, dL a b = 0 ↔ a = b
  | [], [] => by simp [dL]
  | [], y :: b => by simp [dL]
  | x :: a, [] => by simp [dL]
  | x :: a, y :: b => by
    have h1 := ord_l.zero x y
    have h2 := yB a b
    unfold dL
    by_cases h : lY x y ≠ 0
    · rw [if_pos h]
      exact ⟨fun e => absurd e h, fun e => absurd (h1.2 (List.cons.inj e).1) h⟩
    · rw [if_neg h]
      have h3 := h1.1 (Classical.not_not.1 h)
      exact ⟨fun e => by rw [h3, h2.1 e], fun e => h2.2 (List.cons.inj e).2⟩
theorem rB : ∀ a b : List LB, dL a b < 0 ↔ 0 < dL b a
  | [], [] => by simp [dL]
  | [], y :: b => by simp [dL]
  | x :: a, [] => by simp [dL]
  | x :: a, y :: b => by
    have f1 := ord_l.flip x y
    have f2 := ord_l.flip y x
    have f3 := rB a b
    unfold dL
    by_cases h : lY x y ≠ 0
    · have h' : lY y x ≠ 0 := by omega
      rw [if_pos h, if_pos h']; exact f1
    · have h' : ¬ lY y x ≠ 0 := by omega
      rw [if_neg h, if_neg h']; exact f3
theorem tN : ∀ a b d : List LB, dL a b < 0 → dL b d < 0 → dL a d < 0
  | [], _, [] => fun h1 h2 => by
    have h3 := (rB _ _).1 h2
    omega
  | [], _, _ :: _ => fun _ _ => by simp [dL]
  | _ :: _, [], _ => fun h1 _ => by simp [dL] at h1
  | _ :: _, _ :: _, [] => fun _ h2 => by simp [dL] at h2
  | x :: a, y :: b, z :: d => fun h1 h2 => by
    have z1 := ord_l.zero x y
    have z2 := ord_l.zero y z
    have t1 := ord_l.trans x y z
    have t2 := tN a b d
    unfold dL at h1 h2 ⊢
    by_cases e1 : lY x y ≠ 0
    · rw [if_pos e1] at h1
      by_cases e2 : lY y z ≠ 0
      · rw [if_pos e2] at h2
        have := t1 h1 h2
        rw [if_pos (by omega)]; exact this
      · have e3 := z2.1 (Classical.not_not.1 e2)
        rw [e3] at h1
        rw [if_pos (by omega)]; exact h1
    · rw [if_neg e1] at h1
      have e3 := z1.1 (Classical.not_not.1 e1)
      rw [e3]
      by_cases e2 : lY y z ≠ 0
      · rw [if_pos e2] at h2 ⊢; exact h2
      · rw [if_neg e2] at h2 ⊢; exact t2 h1 h2
theorem ord_ls : Ord3 dL := ⟨yB, rB, tN⟩
end Go.Proofs.YtlpdhbmhbjjnhaaGreatDoor
namespace Go.Proofs.YtlpdhbmhbjjnhaaGreatDoor
open Go.RowKit Go.W
attribute [local irreducible] Decidable.decide
theorem BR : gG Tryz.prog 3 = some false := by kernel_rfl
theorem wV : iS Tryz.prog 96 = some 1 := by kernel_rfl
theorem wD : dB Tryz.prog 52 := ⟨_, Tryz.func52, by kernel_rfl, by kernel_rfl⟩
theorem nP : dB Tryz.prog 81 := ⟨_, Tryz.func81, by kernel_rfl, by kernel_rfl⟩
section
variable {P : Program} {σ : Env} {w : World} {dst : Option Nat} {T : TypeId} {pos : String} {after : Array Edge} {g : Option (Nat × Bool)}
theorem IJ {x y : Operand} {t t' : TypeId} {a b : ByteArray} (hx : σ.ev x = some (.string a)) (hy : σ.ev y = some (.string b)) : Ex P σ ⟨dst, .binOp .lss t x y t', T, pos, after, g⟩ w (.bool (decide (a.toList < b.toList))) w := fun ρ h => by
  have : Op.bytesLess a.toList b.toList = decide (a.toList < b.toList) := by rw [Go.Proofs.bytesLess_eq]
  simp [execOp, h x _ hx, h y _ hy, eqGuard, Go.binOp_string_lss, this]
theorem IL {x y : Operand} {t t' : TypeId} {a b : ByteArray} (hx : σ.ev x = some (.string a)) (hy : σ.ev y = some (.string b)) : Ex P σ ⟨dst, .binOp .gtr t x y t', T, pos, after, g⟩ w (.bool (decide (b.toList < a.toList))) w := fun ρ h => by
  have : (!(Op.bytesLess a.toList b.toList || a.toList == b.toList)) = decide (b.toList < a.toList) := by
    rw [Go.Proofs.bytesLess_eq, Bool.eq_iff_iff]
    simp only [Bool.not_eq_true', Bool.or_eq_false_iff, decide_eq_false_iff_not, beq_eq_false_iff_ne, decide_eq_true_eq]
    constructor
    · rintro ⟨h1, h2⟩
      exact Classical.byContradiction fun h3 => h2 (List.le_antisymm (List.not_lt.1 h3) (List.not_lt.1 h1))
    · intro h1
      exact ⟨fun h2 => List.lt_irrefl _ (List.lt_trans h1 h2), fun h2 => by rw [h2] at h1; exact List.lt_irrefl _ h1⟩
  simp [execOp, h x _ hx, h y _ hy, eqGuard, Go.binOp_string_gtr, this]
end
theorem tW {w : World} (a : ByteArray) : Calls Tryz.prog 81 #[.string a] w (Ret fun r w' => r = .bool false ∧ Evo [] w w') := by
  refine aU (N := 6) Tryz.func81 rfl rfl rfl ?_; refine csr (wan (csr (aE (aE (aC (nG rfl rfl) ?_))))); refine wan (aT (br1 ?_)); exact ⟨by simp, (Evo.refl [] w)⟩
theorem DU {w : World} (a b : ByteArray) : Calls Tryz.prog 54 #[.string a, .string b] w (Ret fun r w' => r = iv3 (jZ a b) ∧ Evo [] w w') := by
  refine aU (N := 20) Tryz.func54 rfl rfl rfl ?_; refine csr (wan (csr (aE (aG (vs := [_]) nP rfl (tW a) rfl ?_)))); rintro _ w1 ⟨rfl, A⟩; refine wan (csr (aE (aG (vs := [_]) nP rfl (tW b) rfl ?_))); rintro _ w4 ⟨rfl, D⟩; have y := ((Evo.refl [] w).then A).then D; refine wan (aM (csr (aE (wnn (cL rfl ?_))))); refine aQ (aB (aM (csr (aE (wnn (cL rfl ?_)))))); refine aQ (aB (aM (csr (aE (aE (aC (IJ rfl rfl) ?_)))))); refine wnn (bS rfl (fun p => ?_) (fun p => ?_))
  ·refine csr (wan (aT (aN (br1 ?_))))
   exact ⟨by unfold jZ; rw [if_pos p], y⟩
  refine aQ (aB (aM (csr (aE (aE (aC (IL rfl rfl) ?_)))))); refine wnn (bS rfl (fun q => ?_) (fun q => ?_))
  ·refine csr (wan (aT (aN (br1 ?_))))
   exact ⟨by unfold jZ; rw [if_neg p, if_pos q], y⟩
  refine aQ (aB (csr (wan (aT (br1 ?_)))))
  exact ⟨by unfold jZ; rw [if_neg p, if_neg q], y⟩
theorem or_ok2 {w : World} {a : Option Addr} {c : Nat} {ob : Option Nat} (x y : Int) (h : OwnS w 3 1 a 2 c [iv3 x, iv3 y] ob) : Calls Tryz.prog 53 #[.slice a 2 c] w (Ret fun r w' => r = iv3 (if x ≠ 0 then x else y) ∧ Evo [] w w') := by
  refine aU (N := 18) Tryz.func53 rfl rfl rfl ?_; refine csr (wan (csr (wan (aM (csr (aE (aC (aX rfl Tryz.underlying96 rfl) ?_))))))); refine aE (wnn (bB ?_)); refine cM (α := Nat) (0) (fun k => [(8, .int .i64 (k : Nat))]) [(3, _), (6, _), (7, _)] (fun k wr => Evo [] w wr ∧ (k ≤ 2 ∧ (k = 2 → y = 0) ∧ (0 < k → x = 0))) (fun k => 2 - k) ⟨rfl, trivial⟩ ⟨rfl, rfl, rfl, trivial⟩ ⟨Evo.refl _ _, ⟨by omega, by omega, by omega⟩⟩ ?_; rintro k wr1 ⟨A, ⟨hk, hy, hx⟩⟩; show CW _ _ _ _ [(8, _), (3, _), (6, _), (7, _)] _; have q := (Evo.refl [] w).then A; refine csr (aC (cQ rfl rfl) ?_); refine wnn (aM (bS rfl (fun D => ?_) (fun D => ?_)))
  ·have hk' : k < 2 := by omega
   obtain ⟨gO, hgO, haO, hcO⟩ := h.cells (by omega)
   have hcO := (hcO.evo q (by simp)) k _ (show ([iv3 x, iv3 y] : List Value)[k]? = some (iv3 (if k = 0 then x else y)) by rcases (show k = 0 ∨ k = 1 by omega) with rfl | rfl <;> rfl)
   refine aQ (aB (aM (bB (csr ?_))))
   refine aC (cE (n := k) (by rw [haO]; rfl) rfl wV (by omega)) ?_
   refine aC (aI rfl BR (by rw [Nat.mul_one]; exact hcO)) ?_
   refine wan (csr (aE (aE (aC (gB rfl rfl) ?_)))); refine wnn (bS rfl (fun p => ?_) (fun p => ?_))
   ·refine csr (aE (wan (aT (bM (aN (aN (bM (aN (br1 ?_))))))))); refine ⟨?_, q⟩
    rcases (show k = 0 ∨ k = 1 by omega) with rfl | rfl
    · simp only [if_true] at p ⊢; rw [if_pos p]
    · have hx0 := hx (by omega); rw [if_neg (by decide), if_neg (fun h9 => h9 hx0)]
   refine aQ (bA (aB (aP ?_))); refine aC (aZ rfl rfl (by omega) (by omega)) ?_; refine aE (aD (aO ?_)); refine ⟨k + 1, ?_, ⟨rfl, trivial⟩, ⟨rfl, rfl, rfl, trivial⟩, A, ?_⟩
   · omega
   have h9 : (if k = 0 then x else y) = 0 := (by simpa using p)
   rcases (show k = 0 ∨ k = 1 by omega) with rfl | rfl
   · exact ⟨by omega, fun e => by omega, fun _ => h9⟩
   · exact ⟨by omega, fun _ => h9, fun _ => hx (by omega)⟩
  refine bI (bE (bE (bH (aB ?_)))); refine csr (aE (wan (aT (br1 ?_)))); have hx0 := hx (by omega); have hy0 := hy (by omega); exact ⟨by rw [if_neg (fun h9 => h9 hx0), hy0], q⟩
theorem dK : cZ Tryz.prog 45 0 = some 0 := by kernel_rfl
theorem wL : dB Tryz.prog 30 := ⟨_, Tryz.func30, by kernel_rfl, by kernel_rfl⟩
theorem wE : dB Tryz.prog 51 := ⟨_, Tryz.func51, by kernel_rfl, by kernel_rfl⟩
theorem wC : dB Tryz.prog 53 := ⟨_, Tryz.func53, by kernel_rfl, by kernel_rfl⟩
theorem nR : dB Tryz.prog 54 := ⟨_, Tryz.func54, by kernel_rfl, by kernel_rfl⟩
theorem rN {a b : List LB} {k : Nat} (h : k < a.length) (h2 : k < b.length) : dL (a.drop k) (b.drop k) = if lY a[k] b[k] ≠ 0 then lY a[k] b[k] else dL (a.drop (k + 1)) (b.drop (k + 1)) := by
  rw [List.drop_eq_getElem_cons h, List.drop_eq_getElem_cons h2]; rfl
theorem BI {a b : List LB} {k : Nat} (h : k < a.length) (h2 : b.length ≤ k) : dL (a.drop k) (b.drop k) = 1 := by
  rw [List.drop_eq_getElem_cons h, List.drop_eq_nil_of_le h2]; rfl
theorem yV {a b : List LB} {k : Nat} (h : a.length ≤ k) (h2 : k < b.length) : dL (a.drop k) (b.drop k) = -1 := by
  rw [List.drop_eq_nil_of_le h, List.drop_eq_getElem_cons h2]; rfl
theorem BJ {a b : List LB} {k : Nat} (h : a.length ≤ k) (h2 : b.length ≤ k) : dL (a.drop k) (b.drop k) = 0 := by
  rw [List.drop_eq_nil_of_le h, List.drop_eq_nil_of_le h2]; rfl
theorem cmpL_ok {w : World} (x y : LB) : Calls Tryz.prog 52 #[.agg #[.string x.1, .string x.2], .agg #[.string y.1, .string y.2]] w (Ret fun r w' => r = iv3 (lY x y) ∧ Evo [] w w') := by
  refine aU (N := 17) Tryz.func52 rfl rfl rfl ?_; refine csr (eK rfl rfl fun bx w1 M O U => ?_); have V := O; refine eK rfl rfl fun bb w7 K W G => ?_; have Y := W; refine wan (aM ?_); refine eA (fun w0 w' => Evo [] w0 w') (by kernel_rfl) (fun p q => ?_); have H := q.blk0 (G.blk0 M); refine aet 0 rfl (fun _ hS => aA rfl cU) (Evo.refl [] p) ?_; refine aet 1 rfl (fun _ hS => aI rfl bW (aJ (hS.blk0 H) rfl)) (Evo.refl [] p) ?_; refine aet 2 rfl (fun _ hS => aA rfl cU) (Evo.refl [] p) ?_; refine aet 3 rfl (fun _ hS => aI rfl bW (aJ (hS.blk0 (q.blk0 K)) rfl)) (Evo.refl [] p) ?_; refine aet 5 rfl (fun _ hS => aA rfl dF) (Evo.refl [] p) ?_; refine aet 6 rfl (fun _ hS => aI rfl bW (aJ (hS.blk0 H) rfl)) (Evo.refl [] p) ?_; refine aet 7 rfl (fun _ hS => aA rfl dF) (Evo.refl [] p) ?_; refine aet 8 rfl (fun _ hS => aI rfl bW (aJ (hS.blk0 (q.blk0 K)) rfl)) (Evo.refl [] p) ?_; refine aK [4] (by kernel_rfl) rfl ⟨?_, trivial⟩; refine aL rfl ?_
  refine aG (vs := [_, _]) nR rfl (DU x.1 y.1) rfl ?_; rintro _ a1 ⟨rfl, I⟩; have A := (Evo.refl [] p).then I; refine aD (aH (.inl A) ?_); refine aK [9] (by kernel_rfl) rfl ⟨?_, trivial⟩; refine aL rfl ?_; refine aG (vs := [_, _]) nR rfl (DU x.2 y.2) rfl ?_; rintro _ a2 ⟨rfl, D⟩; refine aD (aH (.inl (A.then D)) ?_); refine aK [10] (by kernel_rfl) rfl ⟨?_, trivial⟩; refine aL rfl ?_; refine cH (vs := [_, _]) rfl jI rfl rfl rfl rfl fun a3 a4 L a0 J => ?_; have E := (A.then D).then J; refine aD (aH (.inl E) ?_); refine aK [11] (by kernel_rfl) rfl ⟨?_, trivial⟩; refine aL rfl ?_; refine aG (vs := [_]) wC rfl (or_ok2 (jZ x.1 y.1) (jZ x.2 y.2) L) rfl ?_; rintro _ a5 ⟨rfl, F⟩; refine aD (aH (.inl (E.then F)) ?_); refine aet 12 rfl (fun _ hS => eJ rfl) (E.then F) ?_; refine bK (by kernel_rfl) (aB ?_); refine aT (br1 ?_); exact ⟨rfl, ((((((((Evo.refl [] w).then U).then G).then q).then I).then D).then J).then F)⟩
theorem cmpF_ok {X Y : List Nat} {w : World} {v1 v2 : Value} {a b : List LB} (h1 : RSl 2 RLB X w v1 a) (h2 : RSl 2 RLB Y w v2 b) (hl1 : a.length ≤ 1000000000) (hl2 : b.length ≤ 1000000000) :
    Calls Tryz.prog 51 #[v1, v2, .func (.func 52) #[] #[]] w (Ret fun r w' => r = iv3 (dL a b) ∧ Evo [] w w') := by
  obtain ⟨a1, c1, rfl, hlc1, e1⟩ := h1; obtain ⟨a2, c2, rfl, hlc2, e2⟩ := h2; refine aU (N := 39) Tryz.func51 rfl rfl rfl ?_; refine csr (wan (aM (csr (aE (aC (aX rfl Tryz.underlying42 rfl) ?_))))); refine aE (wnn (bB (cM (α := Nat) (0) (fun k => [(13, .int .i64 (k : Nat))]) [(0, _), (1, _), (2, _), (11, _), (12, _)] (fun k wr => Evo [] w wr ∧ (k ≤ a.length ∧ k ≤ b.length ∧ dL a b = dL (a.drop k) (b.drop k))) (fun k => a.length - k) ⟨rfl, trivial⟩ ⟨rfl, rfl, rfl, rfl, rfl, trivial⟩ ⟨Evo.refl _ _, ⟨Nat.zero_le _, Nat.zero_le _, rfl⟩⟩ ?_))); rintro k wr1 ⟨F, ⟨hk, hkb, hc⟩⟩; show CW _ _ _ _ [(13, _), (0, _), (1, _), (2, _), (11, _), (12, _)] _; have q := (Evo.refl [] w).then F; refine csr (aC (cQ rfl rfl) ?_); refine wnn (aM (bS rfl (fun M => ?_) (fun M => ?_)))
  ·have hk1 : k < a.length := by omega
   obtain ⟨b1, o1, vs1, ha1, hb1, -, a0, rfl, hz1, hz2⟩ := e1 k hk1; refine aQ (aB (aM (bB (csr (aE ?_)))))
   refine aC (cE (n := k) (by rw [ha1]; rfl) rfl dN (by omega)) ?_
   refine aC (cX rfl dP cB (vs := [_, _]) rfl (a0.evo ((q).any X) hb1)) ?_; refine cO rfl eO fun b4 w5 a3 K L => ?_; refine cS ?_; refine bQ rfl rfl cB a3 rfl rfl ⟨by first | rfl | assumption, by first | rfl | assumption, trivial⟩ fun a5 G H => ?_; have p := (q.then L).step H (Ge.new q K).mem1; have I := (F.then L).step H (Ge.new F K).mem1; refine wnn (aM (csr (aE (aE (aC (aX rfl Tryz.underlying42 rfl) ?_))))); refine aC (fR rfl rfl) ?_; refine wnn (bS rfl (fun O => ?_) (fun O => ?_))
   ·refine csr (wan (aT (aN (bM (aN (aN (bM (aN (br1 ?_))))))))); exact ⟨by rw [hc, BI hk1 (by omega)], p⟩
   have hk2 : k < b.length := by omega
   obtain ⟨b2, o2, vs2, ha2, hb2, -, a4, rfl, hz3, hz4⟩ := e2 k hk2; refine aQ (aB (csr (aE (aE ?_))))
   refine aC (cE (n := k) (by rw [ha2]; rfl) rfl dN (by omega)) ?_
   refine aC (cX rfl dP cB (vs := [_, _]) rfl (a4.evo ((p).any Y) hb2)) ?_; refine cO rfl eO fun a6 a7 U y A => ?_; refine bQ rfl rfl cB U rfl rfl ⟨by first | rfl | assumption, by first | rfl | assumption, trivial⟩ fun a8 V D => ?_; refine wnn (csr (aE (aC (dC rfl dP cB (D.blk (A.blk0 G) (Apart.new (Lt.blk G) y).nmem1) rfl) (aC (dC rfl dP cB V rfl) (EC (vs := [_, _]) wD rfl rfl (cmpL_ok a[k] b[k]) rfl ?_))))); rintro _ a9 ⟨rfl, J⟩; refine wan (csr (aE (aC (gB rfl rfl) ?_))); refine wnn (bS rfl (fun E => ?_) (fun E => ?_))
   ·refine csr (aE (wan (aT (bM (aN (aN (bM (aN (br1 ?_))))))))); exact ⟨by rw [hc, rN hk1 hk2, if_pos E], (((p.then A).step D (Ge.new p y).mem1).then J)⟩
   refine aQ (bA (aB (aP ?_))); refine aC (aZ rfl rfl (by omega) (by omega)) ?_; refine aE (aD (aO ?_)); refine ⟨k + 1, ?_, ⟨rfl, trivial⟩, ⟨rfl, rfl, rfl, rfl, rfl, trivial⟩, (((I.then A).step D (Ge.new I y).mem1).then J), ?_⟩
   · omega
   exact ⟨by omega, by omega, by rw [hc, rN hk1 hk2, if_neg (fun h9 => h9 (Classical.not_not.1 E))]⟩
  refine bI (bE (bE (bH (aB ?_)))); refine aM (csr (aE (aC (aX rfl Tryz.underlying42 rfl) ?_))); refine aE (aC (aX rfl Tryz.underlying42 rfl) ?_); refine aC (cQ rfl rfl) ?_; refine wnn (bS rfl (fun W => ?_) (fun W => ?_))
  ·refine csr (wan (aT (aN (br1 ?_)))); exact ⟨by rw [hc, yV (by omega) (by omega)], q⟩
  refine aQ (aB (csr (wan (aT (br1 ?_))))); exact ⟨by rw [hc, BJ (by omega) (by omega)], q⟩
theorem yT {X Y : List Nat} {w : World} {v1 v2 : Value} {a b : List LB} (h1 : RSl 2 RLB X w v1 a) (h2 : RSl 2 RLB Y w v2 b) (hl1 : a.length ≤ 1000000000) (hl2 : b.length ≤ 1000000000) :
    Calls Tryz.prog 30 #[v1, v2] w (Ret fun r w' => r = iv3 (dL a b) ∧ Evo [] w w') := by
  refine aU (N := 8) Tryz.func30 rfl rfl rfl ?_; refine csr (wan (csr (aE (aE (aG (vs := [_, _, _]) wE rfl (cmpF_ok h1 h2 hl1 hl2) rfl ?_))))); rintro _ w1 ⟨rfl, p⟩; refine wan (aT (br1 ?_)); exact ⟨rfl, ((Evo.refl [] w).then p)⟩
theorem FX {X Y : List Nat} {w : World} {v1 v2 p1 p2 : Value} {a b : List LB} (h1 : RSl 2 RLB X w v1 a) (h2 : RSl 2 RLB Y w v2 b) (hl1 : a.length ≤ 1000000000) (hl2 : b.length ≤ 1000000000) :
    Calls Tryz.prog 29 #[.agg #[v1, p1], .agg #[v2, p2]] w (Ret fun r w' => r = iv3 (dL a b) ∧ Evo [] w w') := by
  refine aU (N := 10) Tryz.func29 rfl rfl rfl ?_; refine csr (eK rfl rfl fun bx w1 A D E => ?_); have F := D; refine eK rfl rfl fun bb w7 G H q => ?_; have I := H; have p := ((Evo.refl [] w).then E).then q; refine wan (csr (wfl rfl dK rfl dQ (q.blk0 A) rfl (wfl rfl dK rfl dQ G rfl (aG (vs := [_, _]) wL rfl (yT (RSl.evo RLB.pers ((p).any X) h1) (RSl.evo RLB.pers ((p).any Y) h2) hl1 hl2) rfl ?_)))); rintro _ J ⟨rfl, y⟩; refine wan (aT (br1 ?_)); exact ⟨rfl, (p.then y)⟩
theorem uY {w w' : World} (h : Evo [] w w') : ∃ q os, w' = Go.Sort.grow (w.drewN q) os := by
  refine ⟨w'.drawn - w.drawn, w'.heap.extract w.heap.size w'.heap.size, ?_⟩
  have h1 := h.os; have h2 := h.tape; have h3 := h.output; have h4 := h.drawn; have h5 := h.size; have h6 := h.block
  have hh : w'.heap = w.heap ++ w'.heap.extract w.heap.size w'.heap.size := by
    apply Array.ext'
    apply List.ext_getElem?
    intro k
    simp only [Array.getElem?_toList]
    by_cases hk : k < w.heap.size
    · rw [Array.getElem?_append_left hk]; exact h6 k hk (by simp)
    · rw [Array.getElem?_append_right (by omega), Array.getElem?_extract]
      by_cases hk2 : k < w'.heap.size
      · rw [if_pos (by omega)]; congr 1; omega
      · rw [if_neg (by omega), Array.getElem?_eq_none (by omega)]
  cases w; cases w'
  simp only [Go.Sort.grow, World.drewN] at *
  subst h1 h2 h3
  congr 1
  omega
end Go.Proofs.YtlpdhbmhbjjnhaaGreatDoor
namespace Go.Proofs.YtlpdhbmhbjjnhaaGreatDoor
open Go.Shelf
def oV : Go.Shelf.Ren := ⟨fun | 6 => 28 | 15 => 50 | 14 => 49 | 28 => 79 | 29 => 80 | 20 => 71 | 21 => 72 | 22 => 73 | 23 => 74 | 24 => 75 | 25 => 76 | 26 => 77 | 27 => 78 | 46 => 95 | 47 => 96 | 48 => 97 | 49 => 98 | 50 => 99 | 57 => 116 | n => n, fun | 22 => 24 | 24 => 45 | 25 => 81 | 3 => 3 | 39 => 105 | 0 => 0 | 53 => 71 | 55 => 95 | 4 => 4 | 46 => 132 | 45 => 131 | 50 => 65 | 5 => 5 | 9 => 9 | 66 => 151 | 70 => 155 | 76 => 172 | 77 => 29 | n => n, fun | n => n⟩
theorem nN : Go.Proofs.SlLaysF0.n6 Tryz.prog oV := {
  mixed := by kernel_rfl
  f6 := ⟨Tryz.f28.name, by decide, Tryz.func28.trans (congrArg some (by kernel_rfl))⟩
  f14 := ⟨Tryz.f49.name, by decide, Tryz.func49.trans (congrArg some (by kernel_rfl))⟩
  f15 := Tryz.func50.trans (congrArg some (by kernel_rfl))
  f20 := ⟨Tryz.f71.name, by decide, Tryz.func71.trans (congrArg some (by kernel_rfl))⟩
  f21 := ⟨Tryz.f72.name, by decide, Tryz.func72.trans (congrArg some (by kernel_rfl))⟩
  f22 := ⟨Tryz.f73.name, by decide, Tryz.func73.trans (congrArg some (by kernel_rfl))⟩
  f23 := ⟨Tryz.f74.name, by decide, Tryz.func74.trans (congrArg some (by kernel_rfl))⟩
  f24 := ⟨Tryz.f75.name, by decide, Tryz.func75.trans (congrArg some (by kernel_rfl))⟩
  f25 := ⟨Tryz.f76.name, by decide, Tryz.func76.trans (congrArg some (by kernel_rfl))⟩
  f26 := ⟨Tryz.f77.name, by decide, Tryz.func77.trans (congrArg some (by kernel_rfl))⟩
  f27 := ⟨Tryz.f78.name, by decide, Tryz.func78.trans (congrArg some (by kernel_rfl))⟩
  f28 := Tryz.func79.trans (congrArg some (by kernel_rfl))
  f29 := Tryz.func80.trans (congrArg some (by kernel_rfl))
  f46 := ⟨Tryz.f95.name, by decide, Tryz.func95.trans (congrArg some (by kernel_rfl))⟩
  f47 := Tryz.func96.trans (congrArg some (by kernel_rfl))
  f48 := Tryz.func97.trans (congrArg some (by kernel_rfl))
  f49 := ⟨Tryz.f98.name, by decide, Tryz.func98.trans (congrArg some (by kernel_rfl))⟩
  f50 := ⟨Tryz.f99.name, by decide, Tryz.func99.trans (congrArg some (by kernel_rfl))⟩
  f57 := ⟨Tryz.f116.name, by decide, Tryz.func116.trans (congrArg some (by kernel_rfl))⟩
  t0 := Tryz.underlying0
  a0 := Tryz.isAgg0
  z0 := Tryz.sizeOf0
  v0 := Tryz.zeroValue0
  t3 := Tryz.underlying3
  a3 := Tryz.isAgg3
  z3 := Tryz.sizeOf3
  v3 := Tryz.zeroValue3
  t4 := Tryz.underlying4
  a4 := Tryz.isAgg4
  z4 := Tryz.sizeOf4
  v4 := Tryz.zeroValue4
  t5 := Tryz.underlying5
  a5 := Tryz.isAgg5
  z5 := Tryz.sizeOf5
  v5 := Tryz.zeroValue5
  t9 := Tryz.underlying9
  a9 := Tryz.isAgg9
  z9 := Tryz.sizeOf9
  v9 := Tryz.zeroValue9
  t22 := Tryz.underlying24
  a22 := Tryz.isAgg24
  z22 := Tryz.sizeOf24
  v22 := Tryz.zeroValue24
  t25 := Tryz.underlying81
  a25 := Tryz.isAgg81
  z25 := Tryz.sizeOf81
  v25 := Tryz.zeroValue81
  t39 := Tryz.underlying105
  a39 := Tryz.isAgg105
  z39 := Tryz.sizeOf105
  v39 := Tryz.zeroValue105
  t45 := Tryz.underlying131
  a45 := Tryz.isAgg131
  z45 := Tryz.sizeOf131
  v45 := Tryz.zeroValue131
  t46 := Tryz.underlying132
  a46 := Tryz.isAgg132
  z46 := Tryz.sizeOf132
  v46 := Tryz.zeroValue132
  t50 := Tryz.underlying65
  a50 := Tryz.isAgg65
  z50 := Tryz.sizeOf65
  v50 := Tryz.zeroValue65
  t53 := Tryz.underlying71
  a53 := Tryz.isAgg71
  z53 := Tryz.sizeOf71
  v53 := Tryz.zeroValue71
  t55 := Tryz.underlying95
  a55 := Tryz.isAgg95
  z55 := Tryz.sizeOf95
  v55 := Tryz.zeroValue95
  t66 := Tryz.underlying151
  a66 := Tryz.isAgg151
  z66 := Tryz.sizeOf151
  v66 := Tryz.zeroValue151
  t70 := Tryz.underlying155
  a70 := Tryz.isAgg155
  z70 := Tryz.sizeOf155
  v70 := Tryz.zeroValue155
  t76 := Tryz.underlying172
  a76 := Tryz.isAgg172
  z76 := Tryz.sizeOf172
  v76 := Tryz.zeroValue172
  t77 := Tryz.underlying29
  a77 := Tryz.isAgg29
  z77 := Tryz.sizeOf29
  v77 := Tryz.zeroValue29 }
end Go.Proofs.YtlpdhbmhbjjnhaaGreatDoor
namespace Go.Proofs.YtlpdhbmhbjjnhaaGreatDoor
open Go.RowKit Go.W
attribute [local irreducible] Decidable.decide
open Go.Shelf Go.Lib Go.Sort in
section
variable {α : Type} [Inhabited α] (enc : α → List Value)
theorem tY (henc : ∀ x, (enc x).length = 2) (l : List α) : (l.flatMap enc).length = l.length * 2 := by
  induction l with
  | nil => rfl
  | cons x l ih => simp only [List.flatMap_cons, List.length_append, henc, ih, List.length_cons]; omega
theorem tZ (henc : ∀ x, (enc x).length = 2) : ∀ (l : List α) (k i : Nat) (hk : k < l.length) (hi : i < 2), (l.flatMap enc)[k * 2 + i]? = (enc l[k])[i]?
  | [], k, i, hk, hi => by simp at hk
  | x :: l, 0, i, hk, hi => by
    rw [List.flatMap_cons, List.getElem?_append_left (by rw [henc]; omega)]; simp
  | x :: l, k + 1, i, hk, hi => by
    rw [List.flatMap_cons, List.getElem?_append_right (by rw [henc]; omega), henc, show (k + 1) * 2 + i - 2 = k * 2 + i by omega, tZ henc l k i (by simpa using hk) hi]; simp
theorem rI (henc : ∀ x, (enc x).length = 2) (l : List α) : Sort.flatK enc 2 l.toArray = (l.flatMap enc).toArray := by
  have hlen := tY enc henc l
  apply Array.ext
  · simp [hlen]
  · intro t h1 h2
    have h3 : t < l.length * 2 := by simpa [hlen] using h2
    have h4 := Sort.get_flatK enc 2 l.toArray t (by simpa using h3)
    rw [getElem!_pos _ t h1] at h4
    rw [h4]
    have h5 : t / 2 < l.length := by omega
    have h6 : (l.toArray)[t / 2]! = l[t / 2] := by simp [h5]
    rw [h6]
    have h7 := tZ enc henc l (t / 2) (t % 2) h5 (by omega)
    rw [show t / 2 * 2 + t % 2 = t by omega] at h7
    have h8 : t % 2 < (enc l[t / 2]).length := by rw [henc]; omega
    rw [List.getElem?_eq_getElem (by rw [hlen]; exact h3), List.getElem?_eq_getElem h8] at h7
    rw [getElem!_pos (enc l[t / 2]) (t % 2) h8]
    exact (Option.some.inj h7).symm
end
theorem yQ (w : World) (g n : Nat) (d : Array Value) (os : Array Obj) : Evo [g] w (Sort.grow (Sort.putRow id (Sort.ahead w n) g 0 d) os) := by
  refine ⟨rfl, rfl, rfl, ?_, fun b hb hx => ?_, ?_⟩
  · simp [Sort.grow, Sort.putRow, Sort.mapBlock, Sort.ahead]
  · have hne : g ≠ b := fun e => hx (by simp [e])
    simp only [Sort.grow, Sort.putRow, Sort.mapBlock, Sort.ahead]
    rw [Array.getElem?_append_left (by simpa using hb), Array.getElem?_modify, if_neg hne]
  · simp [Sort.grow, Sort.putRow, Sort.mapBlock, Sort.ahead]
theorem HA {w : World} {g : Nat} {cur : Array Value} {e : TypeId} (hb : w.heap[g]? = some (.cells cur e (0, 0))) (n : Nat) (d : Array Value) (os : Array Obj) :
    (Sort.grow (Sort.putRow id (Sort.ahead w n) g 0 d) os).heap[g]? = some (.cells (Sort.putCells id 0 d cur) e (0, 0)) := by
  have hlt := gC hb
  simp only [Sort.grow, Sort.putRow, Sort.mapBlock, Sort.ahead]
  rw [Array.getElem?_append_left (by simpa using hlt), Array.getElem?_modify, if_pos rfl, hb]
  rfl
theorem qZ (cur : Array Value) (ds : List Value) (hc : ds.length ≤ cur.size) : (Sort.putCells id 0 ds.toArray cur).toList.take ds.length = ds := by
  apply List.ext_getElem?
  intro k
  by_cases hk : k < ds.length
  · rw [List.getElem?_take, if_pos hk]
    simp only [Sort.putCells, Array.getElem?_toList, Array.getElem?_mapIdx, List.getElem?_map]
    have h1 : k < cur.size := by omega
    simp [h1, hk]
  · rw [List.getElem?_eq_none (by simp; omega), List.getElem?_eq_none (by omega)]
theorem EV {w : World} {e : TypeId} {g n c sz : Nat} {xs ds : List Value} (h : OwnS w e sz (some ⟨g, 0, none⟩) n c xs (some g)) (hd : ds.length = n * sz) (q : Nat) (os : Array Obj) :
    OwnS (Sort.grow (Sort.putRow id (Sort.ahead w q) g 0 ds.toArray) os) e sz (some ⟨g, 0, none⟩) n c ds (some g) := by
  refine ⟨hd, ?_⟩
  rcases h.2 with ⟨h1, _⟩ | ⟨g', cap, cur, hg, hv, hb, hn, hc, hs, ht⟩
  · cases h1
  · cases hg; cases hv
    have hle : n * sz ≤ c * sz := Nat.mul_le_mul_right sz hn
    refine .inr ⟨g, c, _, rfl, rfl, HA hb q ds.toArray os, hn, hc, by simpa [Sort.putCells] using hs, ?_⟩
    rw [← hd]
    exact qZ cur ds (by omega)
theorem AS {α : Type} [Inhabited α] (enc : α → List Value) (henc : ∀ x, (enc x).length = 2) {w : World} {e : TypeId} {g n c : Nat} {l : List α} (h : OwnS w e 2 (some ⟨g, 0, none⟩) n c (l.flatMap enc) (some g)) : Sort.HoldsK enc 2 w g 0 l.toArray := fun j hj => by
  rw [rI enc henc] at hj ⊢
  have hj' : j < (l.flatMap enc).length := by simpa using hj
  have hl := h.length
  rcases h.2 with ⟨h1, _⟩ | ⟨g', cap, cur, hg, hv, hb, hn, hc, hs, ht⟩
  · cases h1
  · cases hg; cases hv
    constructor
    · refine iT hb ?_
      have h1 : (cur.toList.take (n * 2))[j]? = some (l.flatMap enc)[j] := by rw [ht]; exact List.getElem?_eq_getElem hj'
      rw [List.getElem?_take, if_pos (by omega)] at h1
      rw [Nat.zero_add]
      simpa [hj', List.getElem?_eq_getElem hj'] using h1
    · simp [World.frozen?, hb]
structure SerD where
  lv : Value
  pv : Value
  ls : List LB
  ps : List Smp
def SerD.enc (x : SerD) : List Value := [x.lv, x.pv]
def SerD.Good (X : List Nat) (w : World) (x : SerD) : Prop := RSl 2 RLB X w x.lv x.ls ∧ x.ls.length ≤ 1000000000 ∧ x.lv.oneCell' = true ∧ x.pv.oneCell' = true
abbrev mV (g : Nat) (w : World) := { x : SerD // x.Good [g] w }
instance (g : Nat) (w : World) : Inhabited (mV g w) := ⟨⟨⟨.slice none 0 0, .slice none 0 0, [], []⟩, ⟨none, 0, rfl, by simp, fun k hk => by simp at hk⟩, by simp, rfl, rfl⟩⟩
def cmpG {g : Nat} {w : World} (x y : mV g w) : Int := dL x.1.ls y.1.ls
theorem qI {g : Nat} {w : World} (x y : mV g w) : Go.Proofs.ltOf cmpG x y = decide (dL x.1.ls y.1.ls < 0) := rfl
theorem GN (g : Nat) (w : World) : Sort.SWO (Go.Proofs.ltOf (cmpG (g := g) (w := w))) where
  irrefl x := by
    rw [qI, (ord_ls.zero _ _).2 rfl]; simp
  trans x y z h1 h2 := by
    rw [qI] at *
    exact decide_eq_true (ord_ls.trans _ _ _ (of_decide_eq_true h1) (of_decide_eq_true h2))
  ntrans x y z h1 h2 := by
    rw [qI] at *
    have h3 := of_decide_eq_false h1
    have h4 := of_decide_eq_false h2
    refine decide_eq_false fun h5 => ?_
    by_cases h6 : dL y.1.ls x.1.ls < 0
    · exact h4 (ord_ls.trans _ _ _ h6 h5)
    · rw [ord_ls.le h3 h6] at h5; exact h4 h5
theorem lI {g : Nat} {w : World} : ∀ (m : List (mV g w)), m.flatMap (fun x => SerD.enc x.1) = (m.map (·.1)).flatMap SerD.enc
  | [] => rfl
  | x :: m => by rw [List.flatMap_cons, List.map_cons, List.flatMap_cons, lI m]
theorem AI {w : World} {a : Option Addr} {c : Nat} {l : List SerD} {ob : Option Nat} (hO : OwnS w 45 2 a l.length c (l.flatMap SerD.enc) ob) (hR : ∀ x, x ∈ l → x.Good ob.toList w) (hl : l.length ≤ 1000000) :
    Calls Tryz.prog 28 #[.slice a l.length c, .func (.func 29) #[] #[]] w (Ret fun v w' => v = .tuple #[] ∧ ∃ m : List SerD, m.Perm l ∧ (∀ i j (hij : i < j) (hj : j < m.length), ¬ dL m[j].ls m[i].ls < 0) ∧ OwnS w' 45 2 a l.length c (m.flatMap SerD.enc) ob ∧ Evo ob.toList w w') := by
  have hcase : (a = none ∧ l = [] ∧ c = 0 ∧ ob = none) ∨ ∃ g, a = some ⟨g, 0, none⟩ ∧ ob = some g := by
    rcases hO.2 with ⟨h1, h2, h3⟩ | ⟨g, cap, cur, hg, hv, _⟩
    · injection h1 with e1 e2 e3; exact .inl ⟨e1, List.length_eq_zero_iff.1 e2, e3, h3⟩
    · cases hv; exact .inr ⟨g, rfl, hg⟩
  rcases hcase with ⟨rfl, rfl, rfl, rfl⟩ | ⟨g, rfl, rfl⟩
  · refine (Go.Proofs.AnyF.slices_SortFunc_none { nN with } none 0 (.func (.func 29) #[] #[]) w).mono ?_
    rintro e w' ⟨rfl, rfl⟩
    exact ⟨_, rfl, rfl, [], .refl _, (fun i j hij hj => by cases hj), hO, Evo.refl _ _⟩
  · obtain ⟨lg, hlg⟩ : ∃ lg : List (mV g w), lg.map (·.1) = l := ⟨l.attach.map (fun (x : { x // x ∈ l }) => (⟨x.val, hR x.val x.property⟩ : mV g w)), by rw [List.map_map]; exact List.attach_map_subtype_val l⟩
    have henc : ∀ x : mV g w, (SerD.enc x.1).length = 2 := fun _ => rfl
    have hlen : lg.length = l.length := by rw [← hlg, List.length_map]
    have p : OwnS w 45 2 (some ⟨g, 0, none⟩) l.length c (lg.flatMap fun x => SerD.enc x.1) (some g) := by rw [lI, hlg]; exact hO
    have eg : ∀ args w, (callFunc 29 args).run Tryz.prog w = .ok (.enter 29 args) w := enters_of Tryz.func29 (by kernel_rfl) rfl
    have hH := AS (fun x : mV g w => SerD.enc x.1) henc p
    have hcmp : Go.Proofs.CmpLays Tryz.prog 29 #[] (fun x : mV g w => SerD.enc x.1) 2 cmpG g 0 lg.toArray.size w := fun q os dk hdk x y => by
      have hev := yQ w g q (Sort.flatK (fun x : mV g w => SerD.enc x.1) 2 dk) os
      refine (FX (p1 := x.1.pv) (p2 := y.1.pv) (RSl.evo RLB.pers hev x.2.1) (RSl.evo RLB.pers hev y.2.1) x.2.2.1 y.2.2.1).mono ?_
      rintro e w' ⟨v, rfl, rfl, hw⟩
      exact ⟨rfl, uY hw⟩
    have hcon := Go.Proofs.AnyQ.slices_SortFunc nN 2 Tryz.isAgg45 Tryz.sizeOf45 (fun x : mV g w => SerD.enc x.1) henc (fun x v hv => by simp [SerD.enc] at hv; rcases hv with rfl | rfl; exact x.2.2.2.1; exact x.2.2.2.2) cmpG (GN g w) 29 #[] g 0 c lg.toArray w eg hcmp hH hO.lt (by simp; omega)
    rw [show lg.toArray.size = l.length by simp [hlen]] at hcon
    refine Calls.mono hcon ?_
    rintro e w' ⟨rfl, d', q, os, hp, hs, rfl⟩
    obtain ⟨h1, h2, h3⟩ := hp
    have hd1 : d'.size = l.length := by rw [h1]; simp [hlen]
    have hperm : d'.toList.Perm lg := by
      have e1 : d'.extract 0 l.length = d' := by rw [← hd1, Array.extract_size]
      have e2 : lg.toArray.extract 0 l.length = lg.toArray := by rw [← hlen, show lg.length = lg.toArray.size by simp, Array.extract_size]
      rw [e1, e2] at h3
      simpa using h3
    refine ⟨_, rfl, rfl, d'.toList.map (·.1), by rw [← hlg]; exact hperm.map _, fun i j hij hj => ?_, ?_, ?_⟩
    · have hjs : j < d'.size := by simpa using hj
      have h5 := hs i j (Nat.zero_le _) hij (by omega)
      rw [qI] at h5
      have h6 := of_decide_eq_false h5
      rw [getElem!_pos d' j hjs, getElem!_pos d' i (by omega)] at h6
      simpa using h6
    · have hfl : (d'.toList.flatMap fun x => SerD.enc x.1).length = l.length * 2 := by rw [tY (fun x : mV g w => SerD.enc x.1) henc]; simp [hd1]
      have h8 := EV hO (ds := d'.toList.flatMap fun x => SerD.enc x.1) hfl q os
      have e3 := rI (fun x : mV g w => SerD.enc x.1) henc d'.toList
      rw [← lI]
      show OwnS (Sort.grow (Sort.putRow id (Sort.ahead w q) g 0 (Sort.flatK (fun x : mV g w => SerD.enc x.1) 2 d')) os) _ _ _ _ _ _ _
      rw [show Sort.flatK (fun x : mV g w => SerD.enc x.1) 2 d' = (d'.toList.flatMap fun x => SerD.enc x.1).toArray from by simpa using e3]
      exact h8
    · exact yQ w g q _ os
theorem dO : gG Tryz.prog 2 = some false := by kernel_rfl
theorem dD : gG Tryz.prog 50 = some true := by kernel_rfl
theorem sW : iS Tryz.prog 101 = some 1 := by kernel_rfl
theorem dM : iS Tryz.prog 43 = some 3 := by kernel_rfl
theorem sS : dB Tryz.prog 114 := ⟨_, Tryz.func114, by kernel_rfl, by kernel_rfl⟩
theorem vU : dB Tryz.prog 93 := ⟨_, Tryz.func93, by kernel_rfl, by kernel_rfl⟩
theorem bU : dW Tryz.prog 50 = some 3 := by kernel_rfl
def jX : List LB → ByteArray → ByteArray
  | [], _ => ByteArray.mk #[]
  | l :: r, n => if l.1 = n then l.2 else jX r n
theorem getL_of {ls : List LB} {n : ByteArray} : ∀ {k : Nat} (hk : k < ls.length), ls[k].1 = n → (∀ j (hj : j < ls.length), j < k → ¬ ls[j].1 = n) → jX ls n = ls[k].2 := by
  induction ls with
  | nil => intro k hk; simp at hk
  | cons l r ih =>
    intro k hk h1 h2
    cases k with
    | zero => simp only [List.getElem_cons_zero] at h1 ⊢; simp only [jX, if_pos h1]
    | succ k =>
      have h3 := h2 0 (by simp) (by omega)
      simp only [List.getElem_cons_zero] at h3
      simp only [jX, if_neg h3, List.getElem_cons_succ] at h1 ⊢
      exact ih (by simpa using hk) h1 (fun j hj hjk => by have := h2 (j + 1) (by simpa using hj) (by omega); simpa using this)
theorem getL_no {ls : List LB} {n : ByteArray} (h : ∀ j (hj : j < ls.length), ¬ ls[j].1 = n) : jX ls n = ByteArray.mk #[] := by
  induction ls with
  | nil => rfl
  | cons l r ih =>
    have h3 := h 0 (by simp)
    simp only [List.getElem_cons_zero] at h3
    simp only [jX, if_neg h3]
    exact ih (fun j hj => by have := h (j + 1) (by simpa using hj); simpa using this)
theorem getL_ok {X : List Nat} {w : World} {v : Value} {ls : List LB} (hs : RSl 2 RLB X w v ls) (hl : ls.length ≤ 1000000000) (n : ByteArray) : Calls Tryz.prog 46 #[v, .string n] w (Ret fun r w' => r = .string (jX ls n) ∧ Evo [] w w') := by
  obtain ⟨sa, sc, rfl, hlc, e1⟩ := hs; refine aU (N := 20) Tryz.func46 rfl rfl rfl ?_; refine csr (wan (aM (csr (aE (aC (aX rfl Tryz.underlying42 rfl) ?_))))); refine aE (wnn (bB ?_)); refine cM (α := Nat) (0) (fun k => [(9, .int .i64 (k : Nat))]) [(1, _), (7, _), (8, _)] (fun k wr => Evo [] w wr ∧ (k ≤ ls.length ∧ ∀ j (h : j < ls.length), j < k → ¬ ls[j].1 = n)) (fun k => ls.length - k) ⟨rfl, trivial⟩ ⟨rfl, rfl, rfl, trivial⟩ ⟨Evo.refl _ _, ⟨Nat.zero_le _, fun j _ h => by omega⟩⟩ ?_; rintro k wr1 ⟨y, ⟨hk, hno⟩⟩; show CW _ _ _ _ [(9, _), (1, _), (7, _), (8, _)] _; have q := (Evo.refl [] w).then y; refine csr (aC (cQ rfl rfl) ?_); refine wnn (aM (bS rfl (fun G => ?_) (fun G => ?_)))
  ·have hk' : k < ls.length := by omega
   obtain ⟨b1, o1, vs1, ha1, hb1, -, H, rfl, hz1, hz2⟩ := e1 k hk'; refine aQ (aB (aM (bB (csr ?_))))
   refine aC (cE (n := k) (by rw [ha1]; rfl) rfl dN (by omega)) ?_
   refine aC (cX rfl dP cB (vs := [_, _]) rfl (H.evo ((q).any X) hb1)) ?_; refine cO rfl eO fun b4 w5 I E F => ?_; refine bQ rfl rfl cB I rfl rfl ⟨by first | rfl | assumption, by first | rfl | assumption, trivial⟩ fun J A D => ?_; refine wnn (csr (wfl rfl cU rfl bW A rfl (aE (aC (vA rfl rfl) ?_)))); refine wnn (bS rfl (fun p => ?_) (fun p => ?_))
   ·refine csr (wfl rfl dF rfl bW A rfl (wan (aT (bM (aN (aN (bM (aN (br1 ?_))))))))); exact ⟨by rw [getL_of hk' p (fun j hj h => hno j hj h)], ((q.then F).step D (Ge.new q E).mem1)⟩
   refine aQ (bA (aB (aP ?_))); refine aC (aZ rfl rfl (by omega) (by omega)) ?_; refine aE (aD (aO ?_)); refine ⟨k + 1, ?_, ⟨rfl, trivial⟩, ⟨rfl, rfl, rfl, trivial⟩, ((y.then F).step D (Ge.new y E).mem1), ?_⟩
   · omega
   exact ⟨by omega, fun j hj h => by by_cases e : j = k; (subst e; exact p); exact hno j hj (by omega)⟩
  refine bI (bE (bE (bH (aB ?_)))); refine csr (wan (aT (br1 ?_))); exact ⟨by rw [getL_no (fun j hj => hno j hj (by omega))], q⟩
def AX (c : Nat) : Prop := pK c ∨ c = 58
instance (c : Nat) : Decidable (AX c) := by unfold AX; infer_instance
def JF (s : ByteArray) (k : Nat) : Prop := k ≤ s.size ∧ (∀ j, j < k → AX (sb s j)) ∧ (k < s.size → ¬ AX (sb s k))
def fV (s : ByteArray) : Prop := 0 < s.size ∧ ¬ (48 ≤ sb s 0 ∧ sb s 0 ≤ 57) ∧ ∀ j, j < s.size → AX (sb s j)
instance (s : ByteArray) : Decidable (fV s) := by unfold fV; infer_instance
theorem uV {s : ByteArray} {k : Nat} (h : JF s k) : (k = s.size ↔ ∀ j, j < s.size → AX (sb s j)) := by
  constructor
  · rintro rfl; exact h.2.1
  · intro ha
    by_cases hk : k < s.size
    · exact absurd (ha k hk) (h.2.2 hk)
    · have := h.1; omega
theorem FG {w : World} (s : ByteArray) (hl : s.size ≤ 140737488355328) : Calls Tryz.prog 68 #[.string s, .int .i64 (0 : Nat), .bool true] w (Ret fun v w' => ∃ k : Nat, v = .int .i64 k ∧ JF s k ∧ Evo [] w w') := by
  refine aU (N := 35) Tryz.func68 rfl rfl rfl ?_; refine csr (wan (aM (bB ?_))); refine cM (α := Nat) (0) (fun k => [(1, .int .i64 (k : Nat))]) [(0, _), (2, _), (6, _)] (fun k wr => Evo [] w wr ∧ (k ≤ s.size ∧ ∀ j, j < k → AX (sb s j))) (fun k => s.size - k) ⟨rfl, trivial⟩ ⟨rfl, rfl, rfl, trivial⟩ ⟨Evo.refl _ _, ⟨Nat.zero_le _, fun j h => by omega⟩⟩ ?_; rintro k wr1 ⟨y, ⟨hk, hn⟩⟩; show CW _ _ _ _ [(1, _), (0, _), (2, _), (6, _)] _; have E := (Evo.refl [] w).then y; refine aM (csr (aE (aE (aC (fQ rfl Tryz.underlying9 rfl) ?_)))); refine aC (cQ rfl rfl) ?_; refine aE (bV (t := 11) rfl (fun G => ?_) (fun G => ?_))
  ·refine bJ (aE (bJ (aE (bJ ?_)))); refine aC (kG (n := k) rfl rfl Tryz.underlying9 rfl (by omega)) ?_; refine bJ (aG (vs := [_]) kL rfl (oK (sb s k)) rfl ?_); rintro _ w4 ⟨rfl, A⟩; refine bJ (aE (bV (t := 16) rfl (fun p => ?_) (fun p => ?_)))
   ·refine bL (bL (bL (bL (bJ (cV (bJ (aE (bL (bL (eY ?_)))))))))); refine eY ?_; refine eY ?_; refine eY ?_; refine bL (bJ (cV (cV (wnn (eM rfl ?_))))); refine aQ (aB (bB (aP (aE ?_)))); refine aC (aZ rfl rfl (by omega) (by omega)) ?_; refine cS (aD (bA (aO ?_))); refine ⟨k + 1, ?_, ⟨rfl, trivial⟩, ⟨rfl, rfl, rfl, trivial⟩, (y.then A), ?_⟩
    · omega
    refine ⟨by omega, fun j hj => ?_⟩
    by_cases e : j < k
    · exact hn j e
    · obtain rfl : j = k := by omega
      first | exact .inl (.inl p) | exact .inl (.inr q) | exact .inl (.inl (by assumption)) | exact .inl (.inr (by assumption)) | exact .inr (by omega)
   refine bJ (aE (bJ (aE (bJ ?_)))); refine aC (kG (n := k) rfl rfl Tryz.underlying9 rfl (by omega)) ?_; refine bJ (aG (vs := [_]) kM rfl (rL (sb s k)) rfl ?_); rintro _ w8 ⟨rfl, F⟩; have D := (y.then A).then F; refine bJ (cR (bJ (aE (bV (t := 22) rfl (fun q => ?_) (fun q => ?_)))))
   ·refine bL (bL (eY ?_)); refine eY ?_; refine eY ?_; refine eY ?_; refine bL (bJ (cV (cV (wnn (eM rfl ?_))))); refine aQ (aB (bB (aP (aE ?_)))); refine aC (aZ rfl rfl (by omega) (by omega)) ?_; refine cS (aD (bA (aO ?_))); refine ⟨k + 1, ?_, ⟨rfl, trivial⟩, ⟨rfl, rfl, rfl, trivial⟩, D, ?_⟩
    · omega
    refine ⟨by omega, fun j hj => ?_⟩
    by_cases e : j < k
    · exact hn j e
    · obtain rfl : j = k := by omega
      first | exact .inl (.inl p) | exact .inl (.inr q) | exact .inl (.inl (by assumption)) | exact .inl (.inr (by assumption)) | exact .inr (by omega)
   refine bJ (aE (bJ (aE (bJ (aE (bJ (aE (bJ ?_)))))))); refine aC (kG (n := k) rfl rfl Tryz.underlying9 rfl (by omega)) ?_; refine bJ (wel ?_); refine bJ (cV (bJ (cR (cV (wnn (bS rfl (fun H => ?_) (fun H => ?_)))))))
   ·refine aQ (aB (bB (aP (aE ?_)))); refine aC (aZ rfl rfl (by omega) (by omega)) ?_; refine cS (aD (bA (aO ?_))); refine ⟨k + 1, ?_, ⟨rfl, trivial⟩, ⟨rfl, rfl, rfl, trivial⟩, D, ?_⟩
    · omega
    refine ⟨by omega, fun j hj => ?_⟩
    by_cases e : j < k
    · exact hn j e
    · obtain rfl : j = k := by omega
      first | exact .inl (.inl p) | exact .inl (.inr q) | exact .inl (.inl (by assumption)) | exact .inl (.inr (by assumption)) | exact .inr (by omega)
   refine bI (bE (bE (bH (aB ?_)))); refine csr (aE (wan (aT (br1 ?_)))); refine ⟨k, rfl, ⟨hk, hn, fun h hx => ?_⟩, ((E.then A).then F)⟩
   first | omega | (rcases hx with (hx | hx) | hx <;> first | contradiction | omega)
  refine bL (bL (bL (bL (bL (eY ?_))))); refine eY ?_; refine eY ?_; refine eY ?_; refine bL (bL (eY ?_)); refine eY ?_; refine eY ?_; refine eY ?_; refine eY ?_; refine eY ?_; refine eY ?_; refine bL (cR (wnn (cL rfl ?_))); refine bI (bE (bE (bH (aB ?_)))); refine csr (aE (wan (aT (br1 ?_)))); refine ⟨k, rfl, ⟨hk, hn, fun h hx => ?_⟩, E⟩
  first | omega | (rcases hx with (hx | hx) | hx <;> first | contradiction | omega)
theorem yI {w : World} (s : ByteArray) (hl : s.size ≤ 140737488355328) : Calls Tryz.prog 47 #[.string s] w (Ret fun v w' => v = .bool (decide (fV s)) ∧ Evo [] w w') := by
  refine aU (N := 18) Tryz.func47 rfl rfl rfl ?_; refine csr (wan (csr (aE (aC (nG rfl rfl) ?_)))); refine aE (bV (t := 5) rfl (fun p => ?_) (fun p => ?_))
  ·refine bJ (aE (bJ ?_))
   refine aC (kG (n := 0) rfl rfl Tryz.underlying9 rfl (by have := kS p; omega)) ?_
   refine bJ (aG (vs := [_]) kM rfl (rL (sb s 0)) rfl ?_); rintro _ w1 ⟨rfl, A⟩; have q := (Evo.refl [] w).then A; refine bJ (aC (BE rfl) ?_); refine cV (aE (bV (t := 11) rfl (fun y => ?_) (fun y => ?_)))
   ·refine bJ (aE (bJ (aG (vs := [_, _, _]) nQ rfl (FG s hl) rfl ?_))); rintro _ w4 ⟨k, rfl, hk, D⟩; refine bJ (aE (bJ (aC (fQ rfl Tryz.underlying9 rfl) ?_))); refine bJ (wel ?_); refine cV (wan (aT (br1 ?_))); refine ⟨congrArg Value.bool (Bool.eq_iff_iff.2 ?_), (q.then D)⟩; simp only [decide_eq_true_eq, Bool.false_eq_true, Bool.true_eq_false, true_iff, false_iff, eq_self, iff_true]; unfold fV
    first
      | (have h0 := kS p; have h1 := uV hk; constructor; exact fun h => ⟨h0, by assumption, h1.1 (by omega)⟩; exact fun h => by have := h1.2 h.2.2; omega)
      | exact fun h => absurd h.2.1 (by assumption)
      | exact fun h => h.2.1 (by omega)
      | exact fun h => absurd h.1 (by have := lP p; omega)
   refine bL (bL (bL (bL (bL (cR (wan (aT (br1 ?_)))))))); refine ⟨congrArg Value.bool (Bool.eq_iff_iff.2 ?_), q⟩; simp only [decide_eq_true_eq, Bool.false_eq_true, Bool.true_eq_false, true_iff, false_iff, eq_self, iff_true]; unfold fV
   first
     | (have h0 := kS p; have h1 := uV hk; constructor; exact fun h => ⟨h0, by assumption, h1.1 (by omega)⟩; exact fun h => by have := h1.2 h.2.2; omega)
     | exact fun h => absurd h.2.1 (by assumption)
     | exact fun h => h.2.1 (by omega)
     | exact fun h => absurd h.1 (by have := lP p; omega)
  refine bL (bL (bL (bL (cR (aE (bL (bL (bL (bL (bL (cR (wan (aT (br1 ?_)))))))))))))); refine ⟨congrArg Value.bool (Bool.eq_iff_iff.2 ?_), (Evo.refl [] w)⟩; simp only [decide_eq_true_eq, Bool.false_eq_true, Bool.true_eq_false, true_iff, false_iff, eq_self, iff_true]; unfold fV
  first
    | (have h0 := kS p; have h1 := uV hk; constructor; exact fun h => ⟨h0, by assumption, h1.1 (by omega)⟩; exact fun h => by have := h1.2 h.2.2; omega)
    | exact fun h => absurd h.2.1 (by assumption)
    | exact fun h => h.2.1 (by omega)
    | exact fun h => absurd h.1 (by have := lP p; omega)
theorem FL {X : List Nat} {w : World} {v : Value} {l : List ByteArray} (hs : RSl 1 RStr X w v l) (hl : l.length ≤ 1000000000) (x : ByteArray) : Calls Tryz.prog 114 #[v, .string x] w (Ret fun r w' => ∃ i : Int, r = iv3 i ∧ (0 ≤ i ↔ x ∈ l) ∧ Evo [] w w') := by
  obtain ⟨sa, sc, rfl, hlc, e1⟩ := hs; refine aU (N := 19) Tryz.func114 rfl rfl rfl ?_; refine csr (wan (aM (csr (aE (aC (aX rfl Tryz.underlying101 rfl) ?_))))); refine aE (wnn (bB ?_)); refine cM (α := Nat) (0) (fun k => [(8, .int .i64 (k : Nat))]) [(0, _), (1, _), (7, _)] (fun k wr => Evo [] w wr ∧ (k ≤ l.length ∧ ∀ j (h : j < l.length), j < k → ¬ x = l[j])) (fun k => l.length - k) ⟨rfl, trivial⟩ ⟨rfl, rfl, rfl, trivial⟩ ⟨Evo.refl _ _, ⟨Nat.zero_le _, fun j _ h => by omega⟩⟩ ?_; rintro k wr1 ⟨y, ⟨hk, hno⟩⟩; show CW _ _ _ _ [(8, _), (0, _), (1, _), (7, _)] _; have q := (Evo.refl [] w).then y; refine csr (aC (cQ rfl rfl) ?_); refine wnn (aM (bS rfl (fun A => ?_) (fun A => ?_)))
  ·have hk' : k < l.length := by omega
   obtain ⟨b1, o1, vs1, ha1, hb1, -, D, hz1⟩ := e1 k hk'; cases hz1; refine aQ (aB (aM (bB (csr (aE (wan (csr (aE (aE (aE ?_))))))))))
   refine aC (cE (n := k) (by rw [ha1]; rfl) rfl sW (by omega)) ?_
   refine aC (aI rfl bW ((D.evo ((q).any X) hb1) 0 _ rfl)) (aC (vA rfl rfl) ?_); refine wnn (bS rfl (fun p => ?_) (fun p => ?_))
   ·refine csr (aE (wan (aT (bM (aN (aN (bM (aN (br1 ?_))))))))); exact ⟨k, rfl, ⟨fun _ => p ▸ List.getElem_mem hk', fun _ => by omega⟩, q⟩
   refine aQ (bA (aB (aP ?_))); refine aC (aZ rfl rfl (by omega) (by omega)) ?_; refine aE (aD (aO ?_)); refine ⟨k + 1, ?_, ⟨rfl, trivial⟩, ⟨rfl, rfl, rfl, trivial⟩, y, ?_⟩
   · omega
   exact ⟨by omega, fun j hj h => by by_cases e : j = k; (subst e; exact p); exact hno j hj (by omega)⟩
  refine bI (bE (bE (bH (aB ?_)))); refine csr (wan (aT (br1 ?_)))
  exact ⟨-1, rfl, ⟨fun h => by omega, fun h => by obtain ⟨j, hj, e⟩ := List.getElem_of_mem h; exact absurd e.symm (hno j hj (by omega))⟩, q⟩
theorem yS {X : List Nat} {w : World} {v : Value} {l : List ByteArray} (hs : RSl 1 RStr X w v l) (hl : l.length ≤ 1000000000) (x : ByteArray) : Calls Tryz.prog 93 #[v, .string x] w (Ret fun r w' => ∃ b, r = .bool b ∧ (b = true ↔ x ∈ l) ∧ Evo [] w w') := by
  refine aU (N := 9) Tryz.func93 rfl rfl rfl ?_; refine csr (wan (csr (aE (aE (aG (vs := [_, _]) sS rfl (FL hs hl x) rfl ?_))))); rintro _ w1 ⟨i, rfl, hi, p⟩; refine aC (fR rfl rfl) ?_; refine wan (aT (br1 ?_))
  exact ⟨_, rfl, by rw [decide_eq_true_eq]; exact hi, ((Evo.refl [] w).then p)⟩
theorem GP {X : List Nat} {w : World} {v : Value} {l : List ByteArray} (hs : RSl 1 RStr X w v l) (hl : l.length ≤ 1000000000) (x : ByteArray) : Calls Tryz.prog 69 #[.string x, v, .bool false] w (Ret fun r w' => ∃ b, r = .bool b ∧ (b = true ↔ x ∈ l) ∧ Evo [] w w') := by
  refine aU (N := 20) Tryz.func69 rfl rfl rfl ?_; refine csr (wan (aM (csr (aE (aC (eE rfl) ?_))))); refine wnn (eM rfl ?_); refine csr (aE (aE (aG (vs := [_, _]) vU rfl (yS (RSl.evo RStr.pers (((Evo.refl [] w)).any X) hs) hl x) rfl ?_))); rintro _ w1 ⟨b, rfl, hb, p⟩; refine wan (aT (aN (br1 ?_))); exact ⟨b, rfl, hb, ((Evo.refl [] w).then p)⟩
theorem cY : cZ Tryz.prog 50 0 = some 0 := by kernel_rfl
theorem wH : dB Tryz.prog 46 := ⟨_, Tryz.func46, by kernel_rfl, by kernel_rfl⟩
theorem wG : dB Tryz.prog 47 := ⟨_, Tryz.func47, by kernel_rfl, by kernel_rfl⟩
theorem fX : mW Tryz.prog 50 = some #[.int .i64 0, .float .f64 0, .bool false] := by kernel_rfl
def HC (l : List Smp) (i : Nat) (h : i < l.length) : Prop := (-62167219200000 ≤ l[i].t ∧ l[i].t ≤ 253402300799999) ∧ ∀ j (hj : j < l.length), i = j + 1 → l[j].t < l[i].t
def gK (l : List Smp) : Prop := ∀ i (h : i < l.length), HC l i h
def oI : ByteArray := ByteArray.mk #[95, 95, 110, 97, 109, 101, 95, 95]
open Classical in
noncomputable def dY (ls : List LB) : Int := if lC ls ∧ ls.length ≤ 32 then (if ∃ l, l ∈ ls ∧ (128 < l.1.size ∨ 512 < l.2.size) then 1 else if ¬ jX ls oI = ByteArray.mk #[] ∧ ¬ fV (jX ls oI) then 191 else 0) else 190
theorem AL {ls : List LB} (h : ¬ (lC ls ∧ ls.length ≤ 32)) : dY ls = 190 := by unfold dY; rw [if_neg h]
theorem GW {ls : List LB} (h : lC ls ∧ ls.length ≤ 32) (h2 : ∃ l, l ∈ ls ∧ (128 < l.1.size ∨ 512 < l.2.size)) : dY ls = 1 := by unfold dY; rw [if_pos h, if_pos h2]
theorem AK {ls : List LB} (h : lC ls ∧ ls.length ≤ 32) (h2 : ¬ ∃ l, l ∈ ls ∧ (128 < l.1.size ∨ 512 < l.2.size)) (h3 : ¬ jX ls oI = ByteArray.mk #[] ∧ ¬ fV (jX ls oI)) : dY ls = 191 := by unfold dY; rw [if_pos h, if_neg h2, if_pos h3]
theorem qT {ls : List LB} (h : lC ls ∧ ls.length ≤ 32) (h2 : ¬ ∃ l, l ∈ ls ∧ (128 < l.1.size ∨ 512 < l.2.size)) (h3 : ¬ (¬ jX ls oI = ByteArray.mk #[] ∧ ¬ fV (jX ls oI))) : dY ls = 0 := by unfold dY; rw [if_pos h, if_neg h2, if_neg h3]
theorem FO {ls : List LB} {B : Nat} (h : ∀ l, l ∈ ls → l.2.size ≤ B) (n : ByteArray) : (jX ls n).size ≤ B := by
  induction ls with
  | nil => exact Nat.zero_le _
  | cons l r ih =>
    simp only [jX]
    split
    · exact h l (by simp)
    · exact ih (fun l hl => h l (by simp [hl]))
theorem HB {X : List Nat} {w : World} {v : Value} {l : List LB} (h : RSl 2 RLB X w v l) : ∀ m, m ∈ l → m.1.size ≤ 140737488355328 ∧ m.2.size ≤ 140737488355328 := fun m hm => by
  obtain ⟨a, c, _, _, e⟩ := h
  obtain ⟨k, hk, rfl⟩ := List.getElem_of_mem hm
  obtain ⟨_, _, _, _, _, _, _, h⟩ := e k hk
  exact h.2
theorem rise_ok {X : List Nat} {w : World} {v : Value} {l : List Smp} (hs : RSl 3 RSmp X w v l) (hl : l.length ≤ 1000000000) : Calls Tryz.prog 26 #[v] w (Ret fun r w' => ∃ b, r = .bool b ∧ (b = true ↔ gK l) ∧ Evo [] w w') := by
  obtain ⟨sa, sc, rfl, hlc, e1⟩ := hs; refine aU (N := 36) Tryz.func26 rfl rfl rfl ?_; refine csr (wan (aM (csr (aE (aC (aX rfl Tryz.underlying43 rfl) ?_))))); refine aE (wnn (bB ?_)); refine cM (α := Nat) (0) (fun k => [(7, .int .i64 (k : Nat))]) [(0, _), (5, _), (6, _)] (fun k wr => Evo [] w wr ∧ (k ≤ l.length ∧ ∀ i (h : i < l.length), i < k → HC l i h)) (fun k => l.length - k) ⟨rfl, trivial⟩ ⟨rfl, rfl, rfl, trivial⟩ ⟨Evo.refl _ _, ⟨Nat.zero_le _, fun i _ h => by omega⟩⟩ ?_; rintro k wr1 ⟨F, ⟨hk, hok⟩⟩; show CW _ _ _ _ [(7, _), (0, _), (5, _), (6, _)] _; have E := (Evo.refl [] w).then F; refine csr (aC (cQ rfl rfl) ?_); refine wnn (aM (bS rfl (fun U => ?_) (fun U => ?_)))
  ·have hk' : k < l.length := by omega
   obtain ⟨b1, o1, vs1, ha1, hb1, -, V, rfl, hz1⟩ := e1 k hk'; obtain ⟨b2, o2, vs2, ha2, hb2, -, W, rfl, hz2⟩ := e1 (k - 1) (by omega); refine aQ (aB (aM (bB (csr (aE ?_)))))
   refine aC (cE (n := k) (by rw [ha1]; rfl) rfl dM (by omega)) ?_
   refine aC (cX rfl dD bU (vs := [_, _, _]) rfl (V.evo ((E).any X) hb1)) ?_; refine cO rfl fX fun bp w4 Y G J => ?_; have a0 := G; refine cS ?_; refine bQ rfl rfl bU Y rfl rfl ⟨by first | rfl | assumption, by first | rfl | assumption, by first | rfl | assumption, trivial⟩ fun a1 K H => ?_; refine wnn (aM ?_); refine eA (fun w0 w' => Evo [] w0 w') (by kernel_rfl) (fun p y => ?_); have q := ((E.then J).step H (Ge.new E G).mem1).then y; have I := ((F.then J).step H (Ge.new F G).mem1).then y; have A := y.blk0 K; refine aet 0 rfl (fun _ hS => aA rfl cY) (Evo.refl [] p) ?_; refine aet 1 rfl (fun _ hS => aI rfl dO (aJ (hS.blk0 A) rfl)) (Evo.refl [] p) ?_; refine aet 2 rfl (fun _ hS => cQ rfl rfl) (Evo.refl [] p) ?_; refine aet 3 rfl (fun _ hS => aW rfl) (Evo.refl [] p) ?_; refine kB (t := 15) rfl (fun L => ?_) (fun L => ?_)
   ·refine dR 4 rfl (Evo.refl [] p) ?_; refine dR 5 rfl (Evo.refl [] p) ?_; refine dR 6 rfl (Evo.refl [] p) ?_; refine aet 7 rfl (fun _ hS => dA rfl rfl) (Evo.refl [] p) ?_; refine aet 8 rfl (fun _ hS => aW rfl) (Evo.refl [] p) ?_; refine dR 9 rfl (Evo.refl [] p) ?_; refine dR 10 rfl (Evo.refl [] p) ?_; refine dR 11 rfl (Evo.refl [] p) ?_; refine bR 12 rfl rfl rfl rfl rfl (by kernel_rfl) (by kernel_rfl) (by kernel_rfl) rfl (Evo.refl [] p) ?_; refine bR 13 rfl rfl rfl rfl rfl (by kernel_rfl) (by kernel_rfl) (by kernel_rfl) rfl (Evo.refl [] p) ?_; refine bR 14 rfl rfl rfl rfl rfl (by kernel_rfl) (by kernel_rfl) (by kernel_rfl) rfl (Evo.refl [] p) ?_; refine bR 15 rfl rfl rfl rfl rfl (by kernel_rfl) (by kernel_rfl) (by kernel_rfl) rfl (Evo.refl [] p) ?_; refine bR 16 rfl rfl rfl rfl rfl (by kernel_rfl) (by kernel_rfl) (by kernel_rfl) rfl (Evo.refl [] p) ?_; refine bR 17 rfl rfl rfl rfl rfl (by kernel_rfl) (by kernel_rfl) (by kernel_rfl) rfl (Evo.refl [] p) ?_; refine bR 18 rfl rfl rfl rfl rfl (by kernel_rfl) (by kernel_rfl) (by kernel_rfl) rfl (Evo.refl [] p) ?_
    refine bR 19 rfl rfl rfl rfl rfl (by kernel_rfl) (by kernel_rfl) (by kernel_rfl) rfl (Evo.refl [] p) ?_; refine bR 20 rfl rfl rfl rfl rfl (by kernel_rfl) (by kernel_rfl) (by kernel_rfl) rfl (Evo.refl [] p) ?_; refine dR 21 rfl (Evo.refl [] p) ?_; refine aet 22 rfl (fun _ hS => dA rfl rfl) (Evo.refl [] p) ?_; refine bK (by kernel_rfl) (aB ?_); refine eM rfl ?_; refine csr (wan (aT (bM (aN (aN (bM (aN (br1 ?_)))))))); refine ⟨false, rfl, ?_, q⟩; simp only [Bool.false_eq_true, false_iff]; intro h; have h9 := h k hk'
    first | (have := h9.1; omega) | (have h8 := h9.2 (k - 1) (by omega) (by omega); omega)
   refine bG 4 rfl rfl rfl rfl rfl (by kernel_rfl) (by kernel_rfl) (by kernel_rfl) rfl (fun _ hS => aA rfl cY) (Evo.refl [] p) ?_; refine bG 5 rfl rfl rfl rfl rfl (by kernel_rfl) (by kernel_rfl) (by kernel_rfl) rfl (fun _ hS => aI rfl dO (aJ (hS.blk0 A) rfl)) (Evo.refl [] p) ?_; refine bG 6 rfl rfl rfl rfl rfl (by kernel_rfl) (by kernel_rfl) (by kernel_rfl) rfl (fun _ hS => fN rfl rfl) (Evo.refl [] p) ?_; refine aet 7 rfl (fun _ hS => dX rfl rfl) (Evo.refl [] p) ?_; refine aet 8 rfl (fun _ hS => aW rfl) (Evo.refl [] p) ?_; refine kB (t := 20) rfl (fun M => ?_) (fun M => ?_)
   ·refine dR 9 rfl (Evo.refl [] p) ?_; refine dR 10 rfl (Evo.refl [] p) ?_; refine dR 11 rfl (Evo.refl [] p) ?_; refine bR 12 rfl rfl rfl rfl rfl (by kernel_rfl) (by kernel_rfl) (by kernel_rfl) rfl (Evo.refl [] p) ?_; refine bR 13 rfl rfl rfl rfl rfl (by kernel_rfl) (by kernel_rfl) (by kernel_rfl) rfl (Evo.refl [] p) ?_; refine bR 14 rfl rfl rfl rfl rfl (by kernel_rfl) (by kernel_rfl) (by kernel_rfl) rfl (Evo.refl [] p) ?_; refine bR 15 rfl rfl rfl rfl rfl (by kernel_rfl) (by kernel_rfl) (by kernel_rfl) rfl (Evo.refl [] p) ?_; refine bR 16 rfl rfl rfl rfl rfl (by kernel_rfl) (by kernel_rfl) (by kernel_rfl) rfl (Evo.refl [] p) ?_; refine bR 17 rfl rfl rfl rfl rfl (by kernel_rfl) (by kernel_rfl) (by kernel_rfl) rfl (Evo.refl [] p) ?_; refine bR 18 rfl rfl rfl rfl rfl (by kernel_rfl) (by kernel_rfl) (by kernel_rfl) rfl (Evo.refl [] p) ?_; refine bR 19 rfl rfl rfl rfl rfl (by kernel_rfl) (by kernel_rfl) (by kernel_rfl) rfl (Evo.refl [] p) ?_; refine bR 20 rfl rfl rfl rfl rfl (by kernel_rfl) (by kernel_rfl) (by kernel_rfl) rfl (Evo.refl [] p) ?_; refine dR 21 rfl (Evo.refl [] p) ?_; refine aet 22 rfl (fun _ hS => dA rfl rfl) (Evo.refl [] p) ?_; refine bK (by kernel_rfl) (aB ?_); refine eM rfl ?_; refine csr (wan ?_)
    refine aT (bM (aN (aN (bM (aN (br1 ?_)))))); refine ⟨false, rfl, ?_, q⟩; simp only [Bool.false_eq_true, false_iff]; intro h; have h9 := h k hk'
    first | (have := h9.1; omega) | (have h8 := h9.2 (k - 1) (by omega) (by omega); omega)
   refine bG 9 rfl rfl rfl rfl rfl (by kernel_rfl) (by kernel_rfl) (by kernel_rfl) rfl (fun _ hS => aW rfl) (Evo.refl [] p) ?_; refine bG 10 rfl rfl rfl rfl rfl (by kernel_rfl) (by kernel_rfl) (by kernel_rfl) rfl (fun _ hS => fN rfl rfl) (Evo.refl [] p) ?_; refine bG 11 rfl rfl rfl rfl rfl (by kernel_rfl) (by kernel_rfl) (by kernel_rfl) rfl (fun _ hS => aW rfl) (Evo.refl [] p) ?_; refine kB (t := 23) rfl (fun O => ?_) (fun O => ?_)
   ·refine bG 12 rfl rfl rfl rfl rfl (by kernel_rfl) (by kernel_rfl) (by kernel_rfl) rfl (fun _ hS => aA rfl cY) (Evo.refl [] p) ?_; refine bG 13 rfl rfl rfl rfl rfl (by kernel_rfl) (by kernel_rfl) (by kernel_rfl) rfl (fun _ hS => aI rfl dO (aJ (hS.blk0 A) rfl)) (Evo.refl [] p) ?_; refine bG 14 rfl rfl rfl rfl rfl (by kernel_rfl) (by kernel_rfl) (by kernel_rfl) rfl (fun _ hS => aW rfl) (Evo.refl [] p) ?_; refine bG 15 rfl rfl rfl rfl rfl (by kernel_rfl) (by kernel_rfl) (by kernel_rfl) rfl (fun _ hS => aW rfl) (Evo.refl [] p) ?_; refine bG 16 rfl rfl rfl rfl rfl (by kernel_rfl) (by kernel_rfl) (by kernel_rfl) rfl (fun _ hS => aS rfl rfl (by omega) (by omega)) (Evo.refl [] p) ?_
    refine bG 17 rfl rfl rfl rfl rfl (by kernel_rfl) (by kernel_rfl) (by kernel_rfl) rfl (fun _ hS => eR (n := k - 1) (by rw [ha2]; rfl) rfl (by omega) dM (by omega)) (Evo.refl [] p) ?_
    refine bG 18 rfl rfl rfl rfl rfl (by kernel_rfl) (by kernel_rfl) (by kernel_rfl) rfl (fun _ hS => aA rfl cY) (Evo.refl [] p) ?_; refine bG 19 rfl rfl rfl rfl rfl (by kernel_rfl) (by kernel_rfl) (by kernel_rfl) rfl (fun _ hS => aI rfl dO ((W.evo (((q.then hS)).any X) hb2) 0 _ rfl)) (Evo.refl [] p) ?_; refine bG 20 rfl rfl rfl rfl rfl (by kernel_rfl) (by kernel_rfl) (by kernel_rfl) rfl (fun _ hS => fM rfl rfl) (Evo.refl [] p) ?_; refine bG 21 rfl rfl rfl rfl rfl (by kernel_rfl) (by kernel_rfl) (by kernel_rfl) rfl (fun _ hS => dA rfl rfl) (Evo.refl [] p) ?_; refine aet 22 rfl (fun _ hS => dX rfl rfl) (Evo.refl [] p) ?_; refine bK (by kernel_rfl) (aB ?_); refine bS rfl (fun D => ?_) (fun D => ?_)
    ·refine csr (wan (aT (bM (aN (aN (bM (aN (br1 ?_)))))))); refine ⟨false, rfl, ?_, q⟩; simp only [Bool.false_eq_true, false_iff]; intro h; have h9 := h k hk'
     first | (have := h9.1; omega) | (have h8 := h9.2 (k - 1) (by omega) (by omega); omega)
    refine aQ (bA (aB (aP ?_))); refine aC (aZ rfl rfl (by omega) (by omega)) ?_; refine aE (aD (aO ?_)); refine ⟨k + 1, ?_, ⟨rfl, trivial⟩, ⟨rfl, rfl, rfl, trivial⟩, I, ?_⟩
    · omega
    refine ⟨by omega, fun i hi hik => ?_⟩
    by_cases e : i < k
    · exact hok i hi e
    · obtain rfl : i = k := by omega
      first | exact ⟨⟨by omega, by omega⟩, fun j hj e2 => by omega⟩ | exact ⟨⟨by omega, by omega⟩, fun j hj e2 => by subst e2; have h9 := Classical.not_not.1 D; omega⟩ | exact ⟨⟨by omega, by omega⟩, fun j hj e2 => by subst e2; simp only [Nat.add_sub_cancel] at *; omega⟩
   refine dR 12 rfl (Evo.refl [] p) ?_; refine dR 13 rfl (Evo.refl [] p) ?_; refine dR 14 rfl (Evo.refl [] p) ?_; refine dR 15 rfl (Evo.refl [] p) ?_; refine dR 16 rfl (Evo.refl [] p) ?_; refine dR 17 rfl (Evo.refl [] p) ?_; refine dR 18 rfl (Evo.refl [] p) ?_; refine dR 19 rfl (Evo.refl [] p) ?_; refine dR 20 rfl (Evo.refl [] p) ?_; refine bG 21 rfl rfl rfl rfl rfl (by kernel_rfl) (by kernel_rfl) (by kernel_rfl) rfl (fun _ hS => dX rfl rfl) (Evo.refl [] p) ?_; refine aet 22 rfl (fun _ hS => dX rfl rfl) (Evo.refl [] p) ?_; refine bK (by kernel_rfl) (aB ?_); refine cL rfl ?_; refine aQ (bA (aB (aP ?_))); refine aC (aZ rfl rfl (by omega) (by omega)) ?_; refine aE (aD (aO ?_)); refine ⟨k + 1, ?_, ⟨rfl, trivial⟩, ⟨rfl, rfl, rfl, trivial⟩, I, ?_⟩
   · omega
   refine ⟨by omega, fun i hi hik => ?_⟩
   by_cases e : i < k
   · exact hok i hi e
   · obtain rfl : i = k := by omega
     first | exact ⟨⟨by omega, by omega⟩, fun j hj e2 => by omega⟩ | exact ⟨⟨by omega, by omega⟩, fun j hj e2 => by subst e2; have h9 := Classical.not_not.1 D; omega⟩ | exact ⟨⟨by omega, by omega⟩, fun j hj e2 => by subst e2; simp only [Nat.add_sub_cancel] at *; omega⟩
  refine bI (bE (bE (bH (aB ?_)))); refine csr (wan (aT (br1 ?_)))
  exact ⟨true, rfl, by simp only [true_iff]; exact fun i hi => hok i hi (by omega), E⟩
theorem rP {X : List Nat} {w : World} {v : Value} {ls : List LB} (hs : RSl 2 RLB X w v ls) (hl : ls.length ≤ 1000000000) : Calls Tryz.prog 24 #[v] w (Ret fun r w' => r = iv3 (dY ls) ∧ Evo [] w w') := by
  have L := hs; have hsz := HB hs; obtain ⟨sa, sc, rfl, hlc, e1⟩ := hs; refine aU (N := 40) Tryz.func24 rfl rfl rfl ?_; refine csr (wan (aM (aM (gQ (α := Bool) (fun z13 => [(13, .bool z13)]) [(0, _), (2, _)] (fun z13 wr => Evo [] w wr ∧ (z13 = true ↔ (¬ (lC ls ∧ ls.length ≤ 32)))) ⟨rfl, rfl, trivial⟩ ?_ ?_))))
  ·refine aP (aE (aG (vs := [_]) nS rfl (tH L hl) rfl ?_)); rintro _ w1 ⟨bv, rfl, hbv, a3⟩; have M := (Evo.refl [] w).then a3; refine aC (eE rfl) ?_; refine aE (gV (t := 9) rfl (fun p => ?_) (fun p => ?_))
   ·refine bL (bL (bL (cV (aD (aO ?_))))); refine ⟨_, ⟨rfl, trivial⟩, ⟨rfl, rfl, trivial⟩, M, ?_⟩
    rw [← hbv]; first | (simp at p; simp [p]; done) | (simp at p; simp [p]; omega)
   refine bJ (aE (bJ (aC (aX rfl Tryz.underlying42 rfl) ?_))); refine bJ (aC (fN rfl rfl) ?_); refine cR (aD (aO ?_)); refine ⟨_, ⟨rfl, trivial⟩, ⟨rfl, rfl, trivial⟩, M, ?_⟩
   rw [← hbv]; first | (simp at p; simp [p]; done) | (simp at p; simp [p]; omega)
  rintro z13 w5 ⟨a4, hz13⟩; refine aB ?_; show CW _ _ _ _ [(13, _), (0, _), (2, _)] _; have O := (Evo.refl [] w).then a4; refine dZ rfl (fun y => ?_) (fun y => ?_)
  ·subst y; have hj13 := hz13.1 rfl; refine csr (wan (aT (aN (br1 ?_)))); exact ⟨congrArg iv3 (AL hj13).symm, O⟩
  subst y
  have hj13 : ¬ (¬ (lC ls ∧ ls.length ≤ 32)) := fun h9 => by have := hz13.2 h9; cases this
  refine aQ (aB (aM (csr (aE (aC (aX rfl Tryz.underlying42 rfl) ?_))))); refine aE (wnn (bB ?_)); refine cM (α := Nat) (0) (fun k => [(16, .int .i64 (k : Nat))]) [(0, _), (14, _), (15, _)] (fun k wr => Evo [] w5 wr ∧ (k ≤ ls.length ∧ ∀ j (h : j < ls.length), j < k → ¬ (128 < ls[j].1.size ∨ 512 < ls[j].2.size))) (fun k => ls.length - k) ⟨rfl, trivial⟩ ⟨rfl, rfl, rfl, trivial⟩ ⟨Evo.refl _ _, ⟨Nat.zero_le _, fun j _ h => by omega⟩⟩ ?_; rintro k wr8 ⟨F, ⟨hk, hno⟩⟩; show CW _ _ _ _ [(16, _), (0, _), (14, _), (15, _)] _; have q := O.then F; refine csr (aC (cQ rfl rfl) ?_); refine wnn (aM (bS rfl (fun U => ?_) (fun U => ?_)))
  ·have hk' : k < ls.length := by omega
   obtain ⟨b1, o1, vs1, ha1, hb1, -, a5, rfl, hz1, hz2⟩ := e1 k hk'; refine aQ (aB (aM (bB (csr ?_))))
   refine aC (cE (n := k) (by rw [ha1]; rfl) rfl dN (by omega)) ?_
   refine aC (cX rfl dP cB (vs := [_, _]) rfl (a5.evo ((q).any X) hb1)) ?_; refine cO rfl eO fun bp a8 V A G => ?_; have a6 := A; refine bQ rfl rfl cB V rfl rfl ⟨by first | rfl | assumption, by first | rfl | assumption, trivial⟩ fun a7 H I => ?_; refine wnn (aM (gQ (α := Bool) (fun z29 => [(29, .bool z29)]) [(0, _), (14, _), (15, _), (16, _)] (fun z29 wr => a7 = wr ∧ (z29 = true ↔ (128 < (ls[k]).1.size ∨ 512 < (ls[k]).2.size))) ⟨rfl, rfl, rfl, rfl, trivial⟩ ?_ ?_))
   ·refine aP (wfl rfl cU rfl bW H rfl (aC (fQ rfl Tryz.underlying9 rfl) ?_)); refine aC (fN rfl rfl) ?_; refine aE (bV (t := 24) rfl (fun W => ?_) (fun W => ?_))
    ·refine bL (bL (bL (bL (cV (aD (aO ?_)))))); refine ⟨_, ⟨rfl, trivial⟩, ⟨rfl, rfl, rfl, rfl, trivial⟩, rfl, ?_⟩
     simp only [decide_eq_true_eq, Bool.false_eq_true, Bool.true_eq_false, true_iff, false_iff, eq_self, iff_true]; omega
    refine bJ (aC (aA rfl dF) (bJ (aC (aI rfl bW (aJ H rfl)) (bJ (aC (fQ rfl Tryz.underlying9 rfl) ?_))))); refine bJ (aC (fN rfl rfl) ?_); refine cR (aD (aO ?_)); refine ⟨_, ⟨rfl, trivial⟩, ⟨rfl, rfl, rfl, rfl, trivial⟩, rfl, ?_⟩
    simp only [decide_eq_true_eq, Bool.false_eq_true, Bool.true_eq_false, true_iff, false_iff, eq_self, iff_true]; omega
   rintro z29 _ ⟨rfl, hz29⟩; refine aB ?_; show CW _ _ _ _ [(29, _), (0, _), (14, _), (15, _), (16, _)] _; refine dZ rfl (fun D => ?_) (fun D => ?_)
   ·subst D; have hj29 := hz29.1 rfl; refine csr (wan (aT (bM (aN (aN (bM (aN (br1 ?_)))))))); exact ⟨congrArg iv3 (GW (Classical.not_not.1 hj13) ⟨_, List.getElem_mem hk', hj29⟩).symm, ((q.then G).step I (Ge.new q A).mem1)⟩
   subst D
   have hj29 : ¬ (128 < (ls[k]).1.size ∨ 512 < (ls[k]).2.size) := fun h9 => by have := hz29.2 h9; cases this
   refine aQ (bA (aB (aP ?_))); refine aC (aZ rfl rfl (by omega) (by omega)) ?_; refine aE (aD (aO ?_)); refine ⟨k + 1, ?_, ⟨rfl, trivial⟩, ⟨rfl, rfl, rfl, trivial⟩, ((F.then G).step I (Ge.new F A).mem1), ?_⟩
   · omega
   exact ⟨by omega, fun j hj h => by by_cases e : j = k; (subst e; exact hj29); exact hno j hj (by omega)⟩
  have hgood : lC ls ∧ ls.length ≤ 32 := Classical.not_not.1 hj13
  have hshort : ¬ ∃ l, l ∈ ls ∧ (128 < l.1.size ∨ 512 < l.2.size) := fun ⟨l, h1, h2⟩ => by obtain ⟨j, hj, rfl⟩ := List.getElem_of_mem h1; exact hno j hj (by have : (ls.length : Int) = ls.length := rfl; omega) h2
  refine bI (bE (bE (bH (aB ?_)))); refine aM (csr (aE (aG (vs := [_, _]) wH rfl (getL_ok (RSl.evo RLB.pers ((q).any X) L) hl oI) rfl ?_))); rintro _ J ⟨rfl, Y⟩; refine wan (aM (gQ (α := Bool) (fun z39 => [(39, .bool z39)]) [] (fun z39 wr => Evo [] J wr ∧ (z39 = true ↔ (¬ jX ls oI = ByteArray.mk #[] ∧ ¬ fV (jX ls oI)))) trivial ?_ ?_))
  ·refine aP (aE (aC (nG rfl rfl) ?_)); refine aE (bV (t := 35) rfl (fun a0 => ?_) (fun a0 => ?_))
   ·refine bJ (aE (bJ ?_))
    refine aG (vs := [_]) wG rfl (yI (jX ls oI) (by have := FO (fun l h => (hsz l h).2) oI; omega)) rfl ?_
    rintro _ a9 ⟨rfl, a1⟩; refine bJ (aC (eE rfl) ?_); refine cV (aD (aO ?_)); refine ⟨_, ⟨rfl, trivial⟩, trivial, ((Evo.refl [] J).then a1), ?_⟩
    first | (simp; assumption) | simp_all
   refine bL (bL (bL (cR (aD (aO ?_))))); refine ⟨_, ⟨rfl, trivial⟩, trivial, (Evo.refl [] J), ?_⟩
   first | (simp; assumption) | simp_all
  rintro z39 b0 ⟨a2, hz39⟩; refine aB ?_; show CW _ _ _ _ [(39, _)] _; have K := (q.then Y).then a2; refine dZ rfl (fun E => ?_) (fun E => ?_)
  ·subst E; have hj39 := hz39.1 rfl; refine csr (wan (aT (aN (br1 ?_)))); exact ⟨congrArg iv3 (AK hgood hshort hj39).symm, K⟩
  subst E
  have hj39 : ¬ (¬ jX ls oI = ByteArray.mk #[] ∧ ¬ fV (jX ls oI)) := fun h9 => by have := hz39.2 h9; cases this
  refine aQ (aB (csr (wan (aT (br1 ?_))))); exact ⟨congrArg iv3 (qT hgood hshort hj39).symm, K⟩
end Go.Proofs.YtlpdhbmhbjjnhaaGreatDoor
namespace Go.Proofs.YtlpdhbmhbjjnhaaGreatDoor
open Go.Shelf
def oX : Go.Shelf.Ren := ⟨fun | 283 => 126 | n => n, fun | 3 => 3 | 9 => 9 | 4 => 4 | n => n, fun | n => n⟩
theorem vN : Go.Proofs.Lays.n283 Tryz.prog oX := {
  mixed := by kernel_rfl
  f283 := Tryz.func126.trans (congrArg some (by kernel_rfl))
  t3 := Tryz.underlying3
  a3 := Tryz.isAgg3
  z3 := Tryz.sizeOf3
  v3 := Tryz.zeroValue3
  t4 := Tryz.underlying4
  a4 := Tryz.isAgg4
  z4 := Tryz.sizeOf4
  v4 := Tryz.zeroValue4
  t9 := Tryz.underlying9
  a9 := Tryz.isAgg9
  z9 := Tryz.sizeOf9
  v9 := Tryz.zeroValue9 }
open Go.Lib in
theorem iN (i : Nat) (h : i < 100) (w : World) :
    Calls Tryz.prog 126 #[.int .i64 i] w fun e w' => e = .returned (.string ⟨(Lib.decDigits i).toArray⟩) ∧ w' = w := Any.internal_strconv_small vN i h w
def nO : Go.Shelf.Ren := ⟨fun | 284 => 127 | 129 => 80 | 317 => 130 | 318 => 131 | n => n, fun | 53 => 95 | 3 => 3 | 212 => 184 | 0 => 0 | 4 => 4 | 46 => 105 | 5 => 5 | 9 => 9 | n => n, fun | 17 => 2 | n => n⟩
theorem sJ : Go.Proofs.LaysM.n284 Tryz.prog nO := {
  mixed := by kernel_rfl
  f129 := Tryz.func80.trans (congrArg some (by kernel_rfl))
  f284 := Tryz.func127.trans (congrArg some (by kernel_rfl))
  f317 := Tryz.func130.trans (congrArg some (by kernel_rfl))
  f318 := Tryz.func131.trans (congrArg some (by kernel_rfl))
  t0 := Tryz.underlying0
  a0 := Tryz.isAgg0
  z0 := Tryz.sizeOf0
  v0 := Tryz.zeroValue0
  t3 := Tryz.underlying3
  a3 := Tryz.isAgg3
  z3 := Tryz.sizeOf3
  v3 := Tryz.zeroValue3
  t4 := Tryz.underlying4
  a4 := Tryz.isAgg4
  z4 := Tryz.sizeOf4
  v4 := Tryz.zeroValue4
  t5 := Tryz.underlying5
  a5 := Tryz.isAgg5
  z5 := Tryz.sizeOf5
  v5 := Tryz.zeroValue5
  t9 := Tryz.underlying9
  a9 := Tryz.isAgg9
  z9 := Tryz.sizeOf9
  v9 := Tryz.zeroValue9
  t46 := Tryz.underlying105
  a46 := Tryz.isAgg105
  z46 := Tryz.sizeOf105
  v46 := Tryz.zeroValue105
  t53 := Tryz.underlying95
  a53 := Tryz.isAgg95
  z53 := Tryz.sizeOf95
  v53 := Tryz.zeroValue95
  t212 := Tryz.underlying184
  a212 := Tryz.isAgg184
  z212 := Tryz.sizeOf184
  v212 := Tryz.zeroValue184
  g17 := by kernel_rfl
  i0 := by kernel_rfl
  i3 := by kernel_rfl
  i4 := by kernel_rfl
  i5 := by kernel_rfl
  i9 := by kernel_rfl
  i46 := by kernel_rfl
  i53 := by kernel_rfl
  i212 := by kernel_rfl
  m17 := by kernel_rfl }
open Go.Lib in
theorem gS (u : Nat) (h1 : 1 ≤ u) (h2 : u < 18446744073709551616) (w : World) (htab : Lib.TabIs Tryz.prog w "internal/strconv.uint64pow10" .u64 Lib.pow10Tab) :
    Calls Tryz.prog 127 #[.int .u64 u] w fun e w' => e = .returned (.int .i64 (Lib.nDigits u)) ∧ w' = w := Any.internal_strconv_numDigits sJ u h1 h2 w htab
def oW : Go.Shelf.Ren := ⟨fun | 285 => 128 | n => n, fun | 37 => 83 | 53 => 95 | 3 => 3 | 4 => 4 | 51 => 71 | 9 => 9 | 5 => 5 | 0 => 0 | n => n, fun | n => n⟩
theorem vM : Go.Proofs.Lays.n285 Tryz.prog oW := {
  mixed := by kernel_rfl
  f285 := Tryz.func128.trans (congrArg some (by kernel_rfl))
  t0 := Tryz.underlying0
  a0 := Tryz.isAgg0
  z0 := Tryz.sizeOf0
  v0 := Tryz.zeroValue0
  t3 := Tryz.underlying3
  a3 := Tryz.isAgg3
  z3 := Tryz.sizeOf3
  v3 := Tryz.zeroValue3
  t4 := Tryz.underlying4
  a4 := Tryz.isAgg4
  z4 := Tryz.sizeOf4
  v4 := Tryz.zeroValue4
  t5 := Tryz.underlying5
  a5 := Tryz.isAgg5
  z5 := Tryz.sizeOf5
  v5 := Tryz.zeroValue5
  t9 := Tryz.underlying9
  a9 := Tryz.isAgg9
  z9 := Tryz.sizeOf9
  v9 := Tryz.zeroValue9
  t37 := Tryz.underlying83
  a37 := Tryz.isAgg83
  z37 := Tryz.sizeOf83
  v37 := Tryz.zeroValue83
  t51 := Tryz.underlying71
  a51 := Tryz.isAgg71
  z51 := Tryz.sizeOf71
  v51 := Tryz.zeroValue71
  t53 := Tryz.underlying95
  a53 := Tryz.isAgg95
  z53 := Tryz.sizeOf95
  v53 := Tryz.zeroValue95 }
open Go.RowKit Go.Sort Go.Lib in
theorem gI (blk off cap : Nat) (u : Nat) (d : Array UInt8) (w : World) (hH : Holds (fun (b : UInt8) => Value.int .u8 (b.toNat : Int)) w blk off d) (hu : u < 10 ^ d.size) (hu64 : u < 18446744073709551616) (hsz : d.size < 4611686018427387904) :
    Calls Tryz.prog 128 #[.slice (some ⟨blk, off, none⟩) d.size cap, .int .u64 u] w fun e w' =>
      e = .returned (.tuple #[]) ∧ ∃ (n v' : Nat) (dk : Array UInt8), w' = (putRow (fun (b : UInt8) => Value.int .u8 (b.toNat : Int)) w blk off dk).drewN n ∧ FmtInv d.size u 0 v' dk := Any.internal_strconv_formatBase10 vM blk off cap u d w hH hu hu64 hsz
end Go.Proofs.YtlpdhbmhbjjnhaaGreatDoor
namespace Go.W
open Go.RowKit
section
variable {P : Program} {N : NN} {R : eQ} {σ : Env} {w w' : World} {ops : Array Oper} {rest : List Oper} {n d : Nat} {op : Op} {T : TypeId} {pos : String} {after : Array Edge}
end
section
variable {P : Program} {N : NN} {R : eQ} {σ : Env} {w : World} {ops : Array Oper} {rest : List Oper} {T : TypeId} {pos : String} {after : Array Edge} {d : Nat}
end
section
variable {P : Program} {σ : Env} {w : World}
def BM (P : Program) (fn : Func) (E : Ending → World → Prop) : eQ
  | .normal, N, σ, w => ∀ a, Fits N σ a → Leaves P fn a.tmps E N.2 .returning w
  | .ret, N, σ, w => ∀ a, Fits N σ a → Leaves P fn a.tmps E N.2 .returning w
  | .panic chain, N, σ, w => ∀ a, Fits N σ a → Leaves P fn a.tmps E N.2 (.panicking chain) w
  | .outgrown, _, _, w => E .outgrown w
  | .exit _, _, _, _ => False
  | .goto _, _, _, _ => False
theorem vI {f : FuncId} {fn : Func} {c : Code} {args : List Value} {E : Ending → World → Prop} {N : Nat}
    (hf : P.funcs[f]? = some fn) (hb : fn.body = some c) (hN : fn.ntmps = N) (hle' : Nat.ble args.length N = true)
    (h : CW P (N, []) c (BM P fn E) (lA 0 args) w) : Calls P f args.toArray w E := by
  have hle : args.length ≤ N := Nat.le_of_ble_eq_true hle'; refine calls_of_wp_defers hf hb (wp_mono (h _ ⟨?_, rfl, ?_⟩) ?_)
  · simp [hN]; omega
  · intro t v hv
    obtain ⟨_, h2⟩ := nC args 0 t v hv; simp only [Nat.sub_zero] at h2; have hlt : t < args.length := (List.getElem?_eq_some_iff.1 h2).1
    have h3 : args[t] = v := by rw [List.getElem?_eq_getElem hlt] at h2; exact Option.some.inj h2
    simp [Array.getElem?_append, hlt, h3]
  · intro e a' w' hq
    cases e with
    | normal => obtain ⟨N', σ', hf', hk⟩ := hq; show Leaves _ _ _ _ _ _ _; rw [hf'.2.1]; exact hk a' hf'
    | ret => obtain ⟨N', σ', hf', hk⟩ := hq; show Leaves _ _ _ _ _ _ _; rw [hf'.2.1]; exact hk a' hf'
    | panic ch => obtain ⟨N', σ', hf', hk⟩ := hq; show Leaves _ _ _ _ _ _ _; rw [hf'.2.1]; exact hk a' hf'
    | outgrown => obtain ⟨_, hk⟩ := hq; exact hk
    | exit i => obtain ⟨_, _, _, hk⟩ := hq; exact hk
    | goto l => obtain ⟨_, _, _, hk⟩ := hq; exact hk
end
section
variable {P : Program} {σ : Env} {w : World} {dst : Option Nat} {T : TypeId} {pos : String} {after : Array Edge} {g : Option (Nat × Bool)}
theorem GX (n : Nat) {t e : TypeId} {a : Option Addr} {k c : Nat} (ht : P.underlying t = some (.slice e)) : (Op.equalIn (n + 1) t (.slice a k c) (.slice none 0 0)).run P w = .ok a.isNone w := by
  cases a <;> simp [Op.equalIn, run_underlying ht]
theorem vC {x y : Operand} {t e t' : TypeId} {a : Option Addr} {k c : Nat} (hx : σ.ev x = some (.slice a k c)) (hy : σ.ev y = some (.slice none 0 0)) (ht : P.underlying t = some (.slice e)) :
    Ex P σ ⟨dst, .binOp .eql t x y t', T, pos, after, g⟩ w (.bool a.isNone) w := fun ρ hρ => by
  have h1 : (Op.equal t (.slice a k c) (.slice none 0 0)).run P w = .ok a.isNone w := GX 9999 ht
  simp [execOp, hρ x _ hx, hρ y _ hy, eqGuard, Go.binOp, h1]
theorem mE {x i : Operand} {t : TypeId} {k : IntKind} {n sz b o len c : Nat} {a : Option Addr} (hx : σ.ev x = some (.slice a len c)) (hi : σ.ev i = some (.int k (n : Nat))) (ha : a = some ⟨b, o, none⟩) (he : iS P t = some sz) (hlt : n < len) :
    Ex P σ ⟨dst, .indexAddr t x i, T, pos, after, g⟩ w (.pointer (some ⟨b, o + n * sz, none⟩)) w := by
  subst ha; exact cE hx hi he hlt
end
section
variable {P : Program} {σ : Env} {w : World} {dst : Option Nat} {T : TypeId} {pos : String} {after : Array Edge} {g : Option (Nat × Bool)}
theorem cC {x i : Operand} {t : TypeId} {k : IntKind} {z : Int} {n sz b o len c : Nat} {a : Option Addr} (hx : σ.ev x = some (.slice a len c)) (hi : σ.ev i = some (.int k z)) (ha : a = some ⟨b, o, none⟩) (hz : z = n) (he : iS P t = some sz) (hlt : n < len) :
    Ex P σ ⟨dst, .indexAddr t x i, T, pos, after, g⟩ w (.pointer (some ⟨b, o + n * sz, none⟩)) w := by subst ha; exact eR hx hi hz he hlt
theorem oG {t : TypeId} {m : Nat} (hs : dW P t = some m) (w : World) : (sizeOf t).run P w = .ok m w := by
  simp only [dW] at hs
  cases hi : P.info? t with
  | none => rw [hi] at hs; cases hs
  | some i => rw [hi] at hs; simp at hs; subst hs; simp [sizeOf, typeInfo, hi, go_sem]
theorem FS {t e : TypeId} {len sz : Nat} {parts : Array (Nat × Operand)} {vs : List (Nat × Value)} {zero cells : Array Value} (ht : P.underlying t = some (.array len e)) (hz : mW P t = some zero) (hs : dW P e = some sz)
    (hp : parts.toList.map (fun p => (p.1, σ.ev p.2)) = vs.map (fun q => (q.1, some q.2))) (hf : Instr.fill (fun i => some (i * sz, sz)) zero vs = some cells) : Ex P σ ⟨dst, .build t parts, T, pos, after, g⟩ w (.agg cells) w := fun ρ ha => by
  obtain ⟨z, hz1, hz2⟩ := Option.map_eq_some_iff.1 hz
  obtain ⟨i, hi, hz'⟩ := Option.bind_eq_some_iff.1 hz1
  have hparts : (parts.map fun p => (p.1, ρ p.2)).toList = vs := by
    rw [Array.toList_map]
    clear hf
    revert hp
    generalize parts.toList = l
    intro hp
    induction l generalizing vs with
    | nil => cases vs with | nil => rfl | cons _ _ => simp at hp
    | cons p l ih =>
      cases vs with
      | nil => simp at hp
      | cons q vs =>
        simp only [List.map_cons, List.cons.injEq, Prod.mk.injEq] at hp
        obtain ⟨⟨h1, h2⟩, h3⟩ := hp
        rw [List.map_cons, ih h3, h1, ha _ _ h2]
  have hzero : (zeroValue t).run P w = .ok z w := by simp [zeroValue, typeInfo, hi, hz', go_sem]
  subst hz2
  rw [Array.toList_map] at hparts
  simp only [execOp, Instr.build, hzero, Sem.run_bind, Result.andThen_ok, run_underlying ht, oG hs, Array.toList_map, hparts, hf, Sem.run_pure]
end
section
variable {P : Program} {N : NN} {R : eQ} {σ : Env} {w : World} {ops : Array Oper} {rest : List Oper} {T : TypeId} {pos : String} {after : Array Edge}
end
end Go.W
namespace Go.W
section
variable {P : Program} {σ : Env} {w : World} {dst : Option Nat} {T : TypeId} {pos : String} {after : Array Edge} {g : Option (Nat × Bool)}
theorem qV {b o : Nat} {vs : List Value} (h : ∀ j v, vs[j]? = some v → w.cell? ⟨b, o + j, none⟩ = some v) : (loadCells ⟨b, o, none⟩ vs.length).run P w = .ok vs.toArray w := by
  have := fO (P := P) (w := w) b o vs.length 0 #[] vs rfl (fun j v hj => by rw [Nat.zero_add]; exact h j v hj)
  simpa [loadCells] using this
def eI (l : List Nat) : List Value := l.map fun c => Value.int .u8 (c : Nat)
theorem mC : ∀ (l : List Nat) (s : ByteArray), l.foldl (fun r (n : Nat) => r.push (UInt8.ofNat ((n : Int)).toNat)) s = s ++ bstr l
  | [], s => by
    show s = s ++ ⟨#[]⟩
    apply ByteArray.ext; simp
  | c :: l, s => by
    rw [List.foldl_cons, mC l]
    apply ByteArray.ext
    simp [bstr, ByteArray.data_push]
theorem yO {x : Operand} {t t' e : TypeId} {a : Option Addr} {n c : Nat} {l : List Nat} {ob : Option Nat} (hx : σ.ev x = some (.slice a n c)) (hs : P.underlying t = some (.slice e)) (he : P.underlying e = some (.int .u8)) (hd : P.underlying t' = some .string)
    (hO : ∃ ty, OwnS w ty 1 a n c (eI l) ob) : Ex P σ ⟨dst, .convert t t' x, T, pos, after, g⟩ w (.string (bstr l)) w := fun ρ h => by
  obtain ⟨ty, hO⟩ := hO
  have hn : n = l.length := by have := hO.length; simp [eI] at this; omega
  have h1 := run_convert_bytes_string (P := P) w t t' e a n c hs he hd
  have h2 : (Conv.bytesToString (.slice a n c)).run P w = .ok (.string (bstr l)) w := by
    rcases Nat.eq_zero_or_pos n with h0 | h0
    · have hl : l = [] := List.eq_nil_of_length_eq_zero (by omega)
      subst hl
      cases a with
      | none => rfl
      | some a =>
        have h3 := run_bytesToString (P := P) w a n c [] (by rw [h0]; simp [loadCells, loadCellsFrom])
        rw [h3]; rfl
    · obtain ⟨b, hb, ha, hc⟩ := hO.cells h0
      subst ha
      have h3 : (loadCells ⟨b, 0, none⟩ n).run P w = .ok ((l.map fun (c : Nat) => (c : Int)).map (Value.int .u8)).toArray w := by
        have h4 : eI l = (l.map fun (c : Nat) => (c : Int)).map (Value.int .u8) := by simp [eI, Function.comp_def]
        rw [← h4]
        have := qV (P := P) (w := w) (b := b) (o := 0) (vs := eI l) (fun j v hj => hc j v hj)
        rw [show (eI l).length = n by simp [eI, hn]] at this
        exact this
      rw [run_bytesToString (P := P) w _ n c _ h3, List.foldl_map, mC]
      congr 2
  simp only [execOp, h x _ hx, Sem.run_bind, h1, h2, Result.andThen_ok, Sem.run_pure]
end
theorem rS {l : List Nat} (h : ∀ b, b ∈ l → b < 256) : Lib.byteCells (bstr l).data.toList = eI l := by
  simp only [Lib.byteCells, bstr, eI, List.map_map]
  refine List.map_congr_left fun b hb => ?_
  have := h b hb
  simp [Nat.mod_eq_of_lt this]
theorem Src.strB {P : Program} {w : World} (s : ByteArray) : Src P w 1 (.string s) s.size (Lib.byteCells s.data.toList) :=
  ⟨fun _ => by simp [Builtin.lenOf], fun w2 _ => Lib.run_firstCells_string (P := P) (w := w2) 1 s, by rw [Lib.byteCells_length, Nat.mul_one]; rfl, fun u hu => by simp only [Lib.byteCells, List.mem_map] at hu; obtain ⟨b, _, rfl⟩ := hu; rfl⟩
theorem Src.bstr {P : Program} {w : World} {l : List Nat} (h : ∀ b, b ∈ l → b < 256) : Src P w 1 (.string (bstr l)) l.length (eI l) := by
  have hsz : (Go.W.bstr l).size = l.length := by simp [Go.W.bstr, ByteArray.size]
  have h1 := Src.strB (P := P) (w := w) (Go.W.bstr l)
  rw [rS h, hsz] at h1
  exact h1
end Go.W
namespace Go.Proofs.YtlpdhbmhbjjnhaaGreatDoor
open Go.Lib Go.RowKit Go.Sort Go.W
attribute [local irreducible] Decidable.decide
theorem lK : nL Tryz.prog 83 83 = some (5, 1, 1) := by kernel_rfl
theorem mJ : nL Tryz.prog 83 9 = some (5, 1, 1) := by kernel_rfl
theorem sR : dB Tryz.prog 115 := ⟨_, Tryz.func115, by kernel_rfl, by kernel_rfl⟩
theorem sQ : dB Tryz.prog 126 := ⟨_, Tryz.func126, by kernel_rfl, by kernel_rfl⟩
theorem sP : dB Tryz.prog 127 := ⟨_, Tryz.func127, by kernel_rfl, by kernel_rfl⟩
theorem sO : dB Tryz.prog 128 := ⟨_, Tryz.func128, by kernel_rfl, by kernel_rfl⟩
theorem vT : dB Tryz.prog 94 := ⟨_, Tryz.func94, by kernel_rfl, by kernel_rfl⟩
theorem pX : dW Tryz.prog 5 = some 1 := by kernel_rfl
theorem sK : mW Tryz.prog 179 = some #[.int .u8 0, .int .u8 0, .int .u8 0, .int .u8 0, .int .u8 0, .int .u8 0, .int .u8 0, .int .u8 0, .int .u8 0, .int .u8 0, .int .u8 0, .int .u8 0, .int .u8 0, .int .u8 0, .int .u8 0, .int .u8 0, .int .u8 0, .int .u8 0, .int .u8 0, .int .u8 0, .int .u8 0, .int .u8 0, .int .u8 0, .int .u8 0] := by kernel_rfl
def gP : Nat := 2
def P10 (w : World) : Prop := Lib.TabIs Tryz.prog w "internal/strconv.uint64pow10" .u64 Lib.pow10Tab
theorem gP_is : Tryz.prog.globalNamed "internal/strconv.uint64pow10" = some gP := by kernel_rfl
theorem P10.evo {X : List Nat} {w w' : World} (h : P10 w) (he : Evo X w w') (hx : gP ∉ X) : P10 w' := by
  unfold P10 Lib.TabIs World.var? at h ⊢
  rw [gP_is] at h ⊢
  simp only [Option.bind_eq_bind, Option.bind_some] at h ⊢
  cases hb : w.heap[gP]? with
  | none => rw [hb] at h; exact absurd h (by simp)
  | some o => rw [he.block gP (gC hb) hx]; exact h
theorem P10.lt {w : World} (h : P10 w) : gP < w.heap.size := by
  unfold P10 Lib.TabIs World.var? at h
  rw [gP_is] at h
  simp only [Option.bind_eq_bind, Option.bind_some] at h
  cases hb : w.heap[gP]? with
  | none => rw [hb] at h; exact absurd h (by simp)
  | some o => exact gC hb
def gY (u : Nat) : List Nat := (Lib.decDigits u).map UInt8.toNat
theorem DT (u : Nat) : ∀ b, b ∈ gY u → b < 256 := fun b hb => by
  obtain ⟨x, _, rfl⟩ := List.mem_map.1 hb
  exact UInt8.toNat_lt x
theorem rR (u : Nat) : Lib.byteCells (Lib.decDigits u) = eI (gY u) := by
  simp only [Lib.byteCells, eI, gY, List.map_map]
  rfl
theorem FW (u : Nat) : bstr (gY u) = ⟨(Lib.decDigits u).toArray⟩ := by
  simp only [bstr, gY, List.map_map]
  congr 2
  conv => rhs; rw [← List.map_id (Lib.decDigits u)]
  refine List.map_congr_left fun b _ => ?_
  simp
theorem yR {u : Nat} (h : u < 18446744073709551616) : (gY u).length ≤ 20 := by
  rw [gY, List.length_map, Lib.decDigits_length]
  exact Lib.nDigits_le20 u h
theorem IR {u : Nat} : (gY u).length = Lib.nDigits u := by rw [gY, List.length_map, Lib.decDigits_length]
theorem FM {w : World} {b : Nat} {U : TypeId} (hB : w.heap[b]? = some (.cells Lib.zeros24 U (0, 0))) (nd : Nat) (h : nd ≤ 24) : Holds (fun (b : UInt8) => Value.int .u8 (b.toNat : Int)) w b 0 (Array.replicate nd (0 : UInt8)) := fun j hj => by
  have hj' : j < nd := by simpa using hj
  refine ⟨?_, by simp [World.frozen?, hB]⟩
  have h1 : w.cell? ⟨b, 0 + j, none⟩ = some (.int .u8 0) := by
    have h2 := Lib.zeros24_at j (by omega)
    rw [World.cell?, hB]
    simpa using h2
  rw [h1, getElem!_pos _ j hj]
  simp
theorem BF {w : World} {b : Nat} (dk : Array UInt8) (hb : b < w.heap.size) (k : Nat) : Evo [b] w ((putRow (fun (b : UInt8) => Value.int .u8 (b.toNat : Int)) w b 0 dk).drewN k) := by
  refine ⟨rfl, rfl, rfl, ?_, fun i hi hx => ?_, Nat.le_add_right _ _⟩
  · simp [putRow, mapBlock, World.drewN]
  · have : ¬ b = i := fun e => hx (by simp [e])
    simp [putRow, mapBlock, World.drewN, Array.getElem?_modify, this]
theorem yP {P : Program} {σ : Env} {w : World} {dst : Option Nat} {T : TypeId} {pos : String} {after : Array Edge} {g : Option (Nat × Bool)} {x hi : Operand} {t e : TypeId} {len sz b h : Nat} {hv : Int} (hx : σ.ev x = some (.pointer (some ⟨b, 0, none⟩))) (hh : σ.ev hi = some (.int .i64 hv)) (ht : P.underlying t = some (.array len e)) (hs : dW P e = some sz) (hl : hv = (h : Int)) (hle : h ≤ len) (hp : 0 < len) :
    Ex P σ ⟨dst, .slice t x none (some hi) none, T, pos, after, g⟩ w (.slice (some ⟨b, 0, none⟩) h len) w := fun ρ hρ => by
  subst hl
  have hb : (Instr.sliceBounds false len len none (some (.int .i64 (h : Int))) none).run P w = .ok (0, h, len) w := by
    simp [Instr.sliceBounds, Instr.sliceBound, asIntOf, hle]
  simp only [execOp, hρ x _ hx, Option.map_some, Option.map_none, hρ hi _ hh, Instr.sliceAt, run_underlying ht, Sem.run_bind, Result.andThen_ok, Instr.sureAddr, Sem.run_pure, hb, oG hs]
  rw [if_neg (by omega)]
  simp [Addr.add]
  try exact fun h => h.symm
theorem fmt_ok {w : World} {b : Nat} {U : TypeId} (hB : w.heap[b]? = some (.cells Lib.zeros24 U (0, 0))) (u : Nat) (hu : u < 18446744073709551616) :
    Calls Tryz.prog 128 #[.slice (some ⟨b, 0, none⟩) (Lib.nDigits u) 24, .int .u64 u] w (Ret fun v w' => v = .tuple #[] ∧ CellsAt w' b 0 (eI (gY u)) ∧ Evo [b] w w') := by
  have h20 := Lib.nDigits_le20 u hu
  have hH := FM hB (Lib.nDigits u) (by omega)
  have h1 := gI b 0 24 u (Array.replicate (Lib.nDigits u) 0) w hH (by rw [Array.size_replicate]; exact Lib.lt_pow_nDigits u) hu (by rw [Array.size_replicate]; omega)
  rw [Array.size_replicate] at h1
  refine h1.mono ?_
  rintro e w' ⟨rfl, k, v', dk, rfl, hF⟩
  refine ⟨_, rfl, rfl, ?_, BF dk (gC hB) k⟩
  rw [← rR]
  intro j v hj
  have hjl : j < (Lib.decDigits u).length := by
    have h5 := (List.getElem?_eq_some_iff.1 hj).1
    rwa [Lib.byteCells_length] at h5
  have e5 : (Lib.byteCells (Lib.decDigits u))[j]? = some (Value.int .u8 ((Lib.decDigits u)[j].toNat : Int)) := by simp [Lib.byteCells, hjl]
  rw [e5] at hj
  cases hj
  rw [Lib.row_is_numeral hF j hjl, World.cell?_drewN]
  exact cell?_putRow (fun (b : UInt8) => Value.int .u8 (b.toNat : Int)) _ b 0 _ dk hH (by rw [hF.size, Array.size_replicate]) j (by rw [hF.size]; rw [Lib.decDigits_length] at hjl; exact hjl)
theorem lE {P : Program} {σ : Env} {o : Oper} {w : World} {b : Bool} (h : Ex P σ o w (.bool b) w) (hb : b = true) : Ex P σ o w (.bool true) w := hb ▸ h
theorem rJ {P : Program} {σ : Env} {o : Oper} {w : World} {b : Bool} (h : Ex P σ o w (.bool b) w) (hb : b = false) : Ex P σ o w (.bool false) w := hb ▸ h
theorem GQ {w : World} (u : Nat) (h : u < 100) : Calls Tryz.prog 126 #[.int .i64 u] w (Ret fun v w' => v = .string (bstr (gY u)) ∧ Evo [] w w') := by
  refine (iN u h w).mono ?_
  rintro e w' ⟨rfl, rfl⟩
  exact ⟨_, rfl, by rw [FW], Evo.refl _ _⟩
theorem ndig_ok {w : World} (hP : P10 w) (u : Nat) (h1 : 1 ≤ u) (h2 : u < 18446744073709551616) : Calls Tryz.prog 127 #[.int .u64 u] w (Ret fun v w' => v = .int .i64 (Lib.nDigits u) ∧ Evo [] w w') := by
  refine (gS u h1 h2 w hP).mono ?_
  rintro e w' ⟨rfl, rfl⟩
  exact ⟨_, rfl, rfl, Evo.refl _ _⟩
theorem BP {w : World} {a : Option Addr} {n c : Nat} {xs : List Value} {ob : Option Nat} (hO : OwnS w 5 1 a n c xs ob) (hn : n ≤ 1000000000) (hP : P10 w) (hg : gP ∉ ob.toList) (u : Nat) (hu : u < 18446744073709551616) :
    Calls Tryz.prog 115 #[.slice a n c, .int .u64 u, .int .i64 10] w (Ret fun v w' => ∃ a' c' ob', v = .slice a' (n + (gY u).length) c' ∧ OwnS w' 5 1 a' (n + (gY u).length) c' (xs ++ eI (gY u)) ob' ∧ Evo ob.toList w w' ∧ (ob' = ob ∨ ∃ g, ob' = some g ∧ w.heap.size ≤ g)) := by
  have h20 := Lib.nDigits_le20 u hu; have hdl := IR (u := u); have h1d := Lib.nDigits_pos u; refine aU (N := 36) Tryz.func115 rfl rfl rfl ?_; refine csr (wan (aM (csr (aE (aC (lE (vB rfl rfl) (decide_eq_true rfl)) ?_))))); refine wnn (eM rfl ?_); refine aM (csr (aE (aC (cQ rfl rfl) ?_))); refine wnn (bS rfl (fun L => ?_) (fun L => ?_))
  ·refine csr (aE (aE ?_))
   refine aC (lF rfl Tryz.underlying95 Tryz.underlying3 (by simp [IntKind.min, IntKind.signed, IntKind.bits] <;> omega) (by simp [IntKind.max, IntKind.signed, IntKind.bits] <;> omega)) ?_
   refine aG (vs := [_]) sQ rfl (GQ u (by omega)) rfl ?_; rintro _ w1 ⟨rfl, J⟩; have K := (Evo.refl ob.toList w).then J; have hsz0 := (K).size; refine cN rfl rfl rfl rfl mJ (hO.evo0 J) (Src.bstr (DT u)) (by omega) fun a2 c2 w7 ob2 p M hob11 => ?_
   have D := K.step M (by intro y hy; left; simpa using hy)
   have hob2 : ob2 = ob ∨ ∃ g, ob2 = some g ∧ w.heap.size ≤ g := (hob11).imp id fun ⟨g, h1, h2⟩ => ⟨g, h1, Nat.le_trans hsz0 h2⟩; refine wan (aT (aN (aN (br1 ?_))))
   first | exact ⟨_, _, _, rfl, p, D, hob2⟩ | (rw [← hdl] at *; exact ⟨_, _, _, rfl, p, D, hob2⟩)
  refine aQ (aB (csr (cO rfl sK fun b7 W O q E => ?_))); have V := q; have F := (Evo.refl ob.toList w).then E; refine wnn (csr (aE ?_)); refine aG (vs := [_]) sP rfl (ndig_ok (hP.evo F hg) u (by omega) hu) rfl ?_; rintro _ Y ⟨rfl, A⟩; refine wan (csr (aE ?_)); refine aC (yP rfl rfl Tryz.underlying179 pX rfl (by omega) (by decide)) ?_; refine aE (aG (vs := [_, _]) sO rfl (fmt_ok (A.blk0 O) u hu) rfl ?_); rintro _ a0 ⟨rfl, hcs, G⟩; have H := (F.then A).step G (Ge.new (Evo.refl ob.toList w) q).mem1; have hsz0 := (H).size; refine wnn (csr (aE (aE ?_))); refine aC (yP rfl rfl Tryz.underlying179 pX rfl (by omega) (by decide)) ?_
  refine cN rfl rfl rfl rfl lK (((hO.evo0 E).evo0 A).evo G (Apart.new (Lt.own hO) q).own1) (Src.slice (by simp [eI, hdl]) hcs (fun v hv => by obtain ⟨x, _, rfl⟩ := List.mem_map.1 hv; rfl)) (by omega) fun a2 c2 a1 ob2 p U hob36 => ?_
  have I := H.step U (by intro y hy; left; simpa using hy)
  have hob2 : ob2 = ob ∨ ∃ g, ob2 = some g ∧ w.heap.size ≤ g := (hob36).imp id fun ⟨g, h1, h2⟩ => ⟨g, h1, Nat.le_trans hsz0 h2⟩; refine wan (aT (aN (br1 ?_)))
  first | exact ⟨_, _, _, rfl, p, I, hob2⟩ | (rw [← hdl] at *; exact ⟨_, _, _, rfl, p, I, hob2⟩)
theorem GA {w : World} {a : Option Addr} {n c : Nat} {xs : List Value} {ob : Option Nat} (hO : OwnS w 5 1 a n c xs ob) (hn : n ≤ 1000000000) (hP : P10 w) (hg : gP ∉ ob.toList) (u : Nat) (hu : u < 1000000000000000) :
    Calls Tryz.prog 94 #[.slice a n c, .int .i64 u, .int .i64 10] w (Ret fun v w' => ∃ a' c' ob', v = .slice a' (n + (gY u).length) c' ∧ OwnS w' 5 1 a' (n + (gY u).length) c' (xs ++ eI (gY u)) ob' ∧ Evo ob.toList w w' ∧ (ob' = ob ∨ ∃ g, ob' = some g ∧ w.heap.size ≤ g)) := by
  refine aU (N := 21) Tryz.func94 rfl rfl rfl ?_; refine csr (wan (csr (aE ?_)))
  refine aC (lF rfl Tryz.underlying2 Tryz.underlying95 (by simp [IntKind.min, IntKind.signed, IntKind.bits]) (by simp [IntKind.max, IntKind.signed, IntKind.bits]; omega)) ?_
  refine wan (aM (csr (aE ?_))); refine aC (rJ (cQ rfl rfl) (decide_eq_false (by omega))) ?_; refine wnn (cL rfl ?_); refine aQ (aB (csr (aE (aE (aE ?_))))); refine aG (vs := [_, _, _]) sR rfl (BP hO hn hP hg u (by omega)) rfl ?_; rintro _ w1 ⟨a2, c2, ob2, rfl, p, q, hob2⟩
  have A := (Evo.refl ob.toList w).step q (by intro y hy; left; simpa using hy)
  refine wan (aT (br1 ?_)); exact ⟨a2, c2, ob2, rfl, p, A, hob2⟩
theorem appI_ok {w : World} {a : Option Addr} {n c : Nat} {xs : List Value} {ob : Option Nat} (hO : OwnS w 5 1 a n c xs ob) (hn : n ≤ 1000000000) (hP : P10 w) (hg : gP ∉ ob.toList) (u : Nat) (hu : u < 1000000000000000) :
    Calls Tryz.prog 70 #[.slice a n c, .int .i64 u, .int .i64 10] w (Ret fun v w' => ∃ a' c' ob', v = .slice a' (n + (gY u).length) c' ∧ OwnS w' 5 1 a' (n + (gY u).length) c' (xs ++ eI (gY u)) ob' ∧ Evo ob.toList w w' ∧ (ob' = ob ∨ ∃ g, ob' = some g ∧ w.heap.size ≤ g)) := by
  refine aU (N := 11) Tryz.func70 rfl rfl rfl ?_; refine csr (wan (csr (aE (aE (aE (aG (vs := [_, _, _]) vT rfl (GA hO hn hP hg u hu) rfl ?_)))))); rintro _ w1 ⟨a2, c2, ob2, rfl, p, q, hob2⟩
  have A := (Evo.refl ob.toList w).step q (by intro y hy; left; simpa using hy)
  refine wan (aT (br1 ?_)); exact ⟨a2, c2, ob2, rfl, p, A, hob2⟩
theorem oZ : nL Tryz.prog 101 101 = some (9, 1, 16) := by kernel_rfl
theorem wF : dB Tryz.prog 48 := ⟨_, Tryz.func48, by kernel_rfl, by kernel_rfl⟩
theorem vX : dB Tryz.prog 69 := ⟨_, Tryz.func69, by kernel_rfl, by kernel_rfl⟩
theorem vW : dB Tryz.prog 70 := ⟨_, Tryz.func70, by kernel_rfl, by kernel_rfl⟩
theorem sN : CR Tryz.prog 101 = some (9, 1, 16, #[.string ByteArray.empty]) := by kernel_rfl
theorem pW : dW Tryz.prog 9 = some 1 := by kernel_rfl
theorem rZ : iF Tryz.prog 101 = some (9, 1) := by kernel_rfl
theorem sM : iF Tryz.prog 83 = some (5, 1) := by kernel_rfl
theorem sL : mW Tryz.prog 128 = some #[.string ByteArray.empty, .string ByteArray.empty] := by kernel_rfl
def uM (s : ByteArray) : List Nat := s.data.toList.map UInt8.toNat
theorem mZ (s : ByteArray) : (uM s).length = s.size := by
  rw [uM, List.length_map]
  exact Array.length_toList
theorem CF (s : ByteArray) : ∀ b, b ∈ uM s → b < 256 := fun b hb => by
  obtain ⟨x, _, rfl⟩ := List.mem_map.1 hb
  exact UInt8.toNat_lt x
theorem oR (s : ByteArray) : bstr (uM s) = s := by
  have h : (s.data.toList.map UInt8.toNat).map UInt8.ofNat = s.data.toList := by
    rw [List.map_map]
    conv => rhs; rw [← List.map_id s.data.toList]
    refine List.map_congr_left fun b _ => ?_
    simp
  simp [bstr, uM, h]
def gA (s : ByteArray) : List Nat := gY s.size ++ (58 :: uM s)
def nE (l : LB) (j : Nat) : List Nat := if j = 0 then [] else if j = 1 then gA l.1 else gA l.1 ++ gA l.2
def lD (l : LB) (j : Nat) : ByteArray := if j = 0 then l.1 else l.2
def fB : List LB → List Nat
  | [] => []
  | l :: r => gA l.1 ++ gA l.2 ++ fB r
theorem HY (a b : List LB) : fB (a ++ b) = fB a ++ fB b := by
  induction a with
  | nil => rfl
  | cons l r ih => simp only [List.cons_append, fB, ih, List.append_assoc]
theorem tV {ls : List LB} {k : Nat} (hk : k < ls.length) : fB (ls.take (k + 1)) = fB (ls.take k) ++ nE ls[k] 2 := by
  rw [List.take_succ_eq_append_getElem hk, HY]
  simp only [fB, List.append_nil]
  rfl
theorem IA (l : LB) {j : Nat} (hj : j < 2) : (#[Value.string l.1, Value.string l.2] : Array Value)[j]? = some (.string (lD l j)) := by
  obtain rfl | rfl : j = 0 ∨ j = 1 := by omega
  · rfl
  · rfl
theorem gP_own {w : World} {ob : Option Nat} (hP : P10 w) (hg : Ge w ob) : gP ∉ ob.toList := fun h => by
  cases ob with
  | none => simp at h
  | some g => simp at h; have h1 := hg g rfl; have h2 := hP.lt; omega
theorem IE {w : World} {ob : Option Nat} (h : ∃ g, ob = some g ∧ w.heap.size ≤ g) : Ge w ob := fun g e => by
  obtain ⟨g', e', h⟩ := h
  rw [e'] at e; cases e; exact h
theorem mQ (a b : List Nat) : eI (a ++ b) = eI a ++ eI b := List.map_append
theorem rG {l : LB} {j : Nat} (hj : j < 2) : nE l (j + 1) = nE l j ++ gA (lD l j) := by
  obtain rfl | rfl : j = 0 ∨ j = 1 := by omega
  · rfl
  · rfl
theorem kF {s : ByteArray} (h : s.size ≤ 1000) : (gA s).length ≤ 1021 := by
  have := yR (u := s.size) (by omega)
  simp only [gA, List.length_append, List.length_cons, mZ]
  omega
theorem FN {l : LB} {j : Nat} (h1 : l.1.size ≤ 1000) (h2 : l.2.size ≤ 1000) : (nE l j).length ≤ 2042 := by
  have k1 := kF h1
  have k2 := kF h2
  unfold nE
  split
  · simp
  · split
    · omega
    · rw [List.length_append]; omega
theorem HX {ls : List LB} (h : ∀ l, l ∈ ls → l.1.size ≤ 1000 ∧ l.2.size ≤ 1000) : (fB ls).length ≤ ls.length * 2042 := by
  induction ls with
  | nil => simp [fB]
  | cons l r ih =>
    have h1 := kF (h l (by simp)).1
    have h2 := kF (h l (by simp)).2
    have h3 := ih (fun m hm => h m (by simp [hm]))
    simp only [fB, List.length_append, List.length_cons]
    omega
theorem FT {P : Program} {σ : Env} {w : World} {dst : Option Nat} {T : TypeId} {pos : String} {after : Array Edge} {g : Option (Nat × Bool)} {x i : Operand} {t e : TypeId} {k : IntKind} {len j : Nat} {cs : Array Value} {v : Value} (hx : σ.ev x = some (.agg cs)) (hi : σ.ev i = some (.int k (j : Nat))) (ht : P.underlying t = some (.array len e)) (hs : dW P e = some 1) (ha : gG P e = some false) (hj : j < len) (hv : cs[j]? = some v) :
    Ex P σ ⟨dst, .index t x i, T, pos, after, g⟩ w v w := fun ρ h => by
  have h1 : 0 ≤ (j : Int) ∧ (j : Int) < len := ⟨by omega, by omega⟩
  simp only [execOp, h x _ hx, h i _ hi, Instr.index, asIntOf, run_underlying ht, Sem.run_bind, Result.andThen_ok, Sem.run_pure, if_pos h1, oG hs, part, jV ha]
  simp [hv]
theorem key_ok {X : List Nat} {w : World} {v nv : Value} {ls : List LB} {nms : List ByteArray} (hs : RSl 2 RLB X w v ls) (hl : ls.length ≤ 1000) (hn : RSl 1 RStr [] w nv nms) (hnl : nms.length ≤ 1000000) (hall : ∀ l, l ∈ ls → l.1 ∈ nms) (hb : ∀ l, l ∈ ls → l.1.size ≤ 1000 ∧ l.2.size ≤ 1000) (hP : P10 w) :
    Calls Tryz.prog 48 #[v, nv, .bool false] w (Ret fun r w' => r = .string (bstr (fB ls)) ∧ Evo [] w w') := by
  have b8 := hs; obtain ⟨sa, sc, rfl, hlc, e1⟩ := hs; refine aU (N := 45) Tryz.func48 rfl rfl rfl ?_; refine csr (wan (csr (wan (aM (csr (aE (aC (aX rfl Tryz.underlying42 rfl) ?_))))))); refine aE (wnn (bB (cM (α := Nat × Nat × Option Addr × Nat × Option Nat) ((0, 0, none, 0, none)) (fun y => [(14, .int .i64 (y.1 : Nat)), (7, .slice y.2.2.1 y.2.1 y.2.2.2.1)]) [(1, _), (2, _), (6, _), (12, _), (13, _)] (fun y wr => Evo [] w wr ∧ (y.1 ≤ ls.length ∧ y.2.1 = (fB (ls.take y.1)).length ∧ OwnS wr 5 1 y.2.2.1 y.2.1 y.2.2.2.1 (eI (fB (ls.take y.1))) y.2.2.2.2 ∧ Ge w y.2.2.2.2)) (fun y => ls.length - y.1) ⟨rfl, rfl, trivial⟩ ⟨rfl, rfl, rfl, rfl, rfl, trivial⟩ ⟨(Evo.refl [] w), ⟨Nat.zero_le _, rfl, OwnS.nil _ _ _, Ge.nil _⟩⟩ ?_))); rintro ⟨k, n, a, c, ob⟩ wr1 ⟨F, ⟨hk, W, A, Y⟩⟩; show CW _ _ _ _ [(14, .int .i64 (k : Nat)), (7, .slice a n c), (1, _), (2, _), (6, _), (12, _), (13, _)] _
  try dsimp only at hk W A Y
  refine csr (aC (cQ rfl rfl) ?_); refine wnn (aM (bS rfl (fun a1 => ?_) (fun a1 => ?_)))
  ·have hk' : k < ls.length := by omega
   obtain ⟨b1, o1, vs1, ha1, hb1, -, b0, rfl, hz1, hz2⟩ := e1 k hk'; have hlb := hb _ (List.getElem_mem hk'); have hkl := HX (ls := ls.take k) (fun l hl => hb l (List.mem_of_mem_take hl)); rw [List.length_take] at hkl
   have hnb : (fB (ls.take k)).length ≤ 2042000 := by omega
   refine aQ (aB (aM (bB (csr ?_))))
   refine aC (cE (n := k) (by rw [ha1]; rfl) rfl dN (by omega)) ?_
   refine aC (cX rfl dP cB (vs := [_, _]) rfl (b0.evo ((F).any X) hb1)) ?_; refine cO rfl eO fun bp w3 b2 G a0 => ?_; have b3 := G; refine bQ rfl rfl cB b2 rfl rfl ⟨by first | rfl | assumption, by first | rfl | assumption, trivial⟩ fun b9 E H => ?_; have I := (F.then a0).step H (Ge.new F G).mem1; refine wnn (csr (wfl rfl cU rfl bW E rfl (aE (aE ?_)))); refine aG (vs := [_, _, _]) vX rfl (GP (RSl.evo RStr.pers I hn) (by omega) (ls[k]).1) rfl ?_; rintro _ c0 ⟨b, rfl, hbs, p⟩; obtain rfl : b = true := hbs.2 (hall _ (List.getElem_mem hk')); refine wnn (eM rfl ?_); refine csr (wfl rfl cU rfl bW (p.blk0 E) rfl (wfl rfl dF rfl bW (p.blk0 E) rfl ?_)); refine aC (FS (vs := [(0, _), (1, _)]) Tryz.underlying128 sL pW rfl (cells := #[.string ls[k].1, .string ls[k].2]) (by kernel_rfl)) ?_; refine aE (wnn (bB ?_))
   refine cM (α := Nat × Nat × Option Addr × Nat × Option Nat) ((0, n, a, c, ob)) (fun x => [(28, .int .i64 (x.1 : Nat)), (7, .slice x.2.2.1 x.2.1 x.2.2.2.1)]) [(1, _), (2, _), (6, _), (12, _), (13, _), (14, _), (27, _)] (fun x wr => Evo [] w wr ∧ (x.1 ≤ 2 ∧ x.2.1 = (fB (ls.take k) ++ nE ls[k] x.1).length ∧ OwnS wr 5 1 x.2.2.1 x.2.1 x.2.2.2.1 (eI (fB (ls.take k) ++ nE ls[k] x.1)) x.2.2.2.2 ∧ Ge w x.2.2.2.2)) (fun x => 2 - x.1) ⟨rfl, rfl, trivial⟩ ⟨rfl, rfl, rfl, rfl, rfl, rfl, rfl, trivial⟩ ⟨(I.then p), ⟨Nat.zero_le _, by rw [W]; simp [nE], by simpa [nE] using (((A.evo0 a0).evo H (Apart.new (Lt.own A) G).own1).evo0 p), Y⟩⟩ ?_
   rintro ⟨j, n, a, c, ob⟩ wr21 ⟨q, ⟨hj, J, K, D⟩⟩; show CW _ _ _ _ [(28, .int .i64 (j : Nat)), (7, .slice a n c), (1, _), (2, _), (6, _), (12, _), (13, _), (14, _), (27, _)] _
   try dsimp only at hj J K D
   refine csr (aC (cQ rfl rfl) ?_); refine wnn (aM (bS rfl (fun a5 => ?_) (fun a5 => ?_)))
   ·have hj' : j < 2 := by omega
    have hhl := FN (j := j) hlb.1 hlb.2
    have hht : (lD ls[k] j).size ≤ 1000 := by unfold lD; split; exact hlb.1; exact hlb.2
    have hdl := yR (u := (lD ls[k] j).size) (by omega); have htl := mZ (lD ls[k] j); rw [List.length_append] at J; refine aQ (aB (aM (bB (csr (aC (FT (v := .string (lD ls[k] j)) rfl rfl Tryz.underlying128 pW bW hj' (IA ls[k] hj')) ?_))))); refine wan (csr (aE (aE (aC (fQ rfl Tryz.underlying9 rfl) ?_)))); refine aG (vs := [_, _, _]) vW rfl (appI_ok K (by omega) (hP.evo q (by simp)) (gP_own hP D) (lD ls[k] j).size (by omega)) rfl ?_; rintro _ c1 ⟨a2, c2, ob2, rfl, b4, a6, hob2⟩; replace hob2 := hob2.imp id IE; have L := IF D q hob2; refine wan (csr (aE (cH (vs := [_]) rfl sM rfl rfl rfl rfl fun c5 c6 a7 b7 M => ?_))); have O := (q.step a6 D.mem).then M; refine cN rfl rfl rfl rfl lK (b4.evo0 M) (Src.ofOwn a7 ⟨rfl, trivial⟩) (by omega) fun a3 c3 c7 ob3 b5 a8 hob42 => ?_; have U := L.app O hob42; have V := O.step a8 L.mem; refine wan (aP (aE (aE ?_)))
    refine cN rfl rfl rfl rfl mJ b5 (by rw [← oR (lD ls[k] j)]; exact Src.bstr (CF _)) (by omega) fun a4 c4 c8 ob4 b6 a9 hob53 => ?_
    refine cS (aD (bA (aB (aP ?_)))); refine aC (aZ rfl rfl (by omega) (by omega)) ?_; refine aE (aD (aO ?_)); refine ⟨⟨j + 1, n + (gY (lD ls[k] j).size).length + 1 + (uM (lD ls[k] j)).length, a4, c4, ob4⟩, ?_, ⟨rfl, rfl, trivial⟩, ⟨rfl, rfl, rfl, rfl, rfl, rfl, rfl, trivial⟩, (V.step a9 U.mem), ?_⟩
    · (try dsimp only); omega
    try dsimp only
    have hfin := b6; refine ⟨by omega, ?_, ?_, (U.app V hob53)⟩
    · rw [rG hj']; simp only [gA, List.length_append, List.length_cons]; omega
    · rw [rG hj', gA, mQ, mQ, mQ]; simpa [eI, List.append_assoc, show (Value.int IntKind.u8 58).cells.toList = [Value.int IntKind.u8 58] from rfl] using hfin
   obtain rfl : j = 2 := by omega
   refine bI (bE (bE (bH (bA (aB ?_))))); refine aP ?_; refine aC (aZ rfl rfl (by omega) (by omega)) ?_; refine aE (aD (aO ?_)); refine ⟨⟨k + 1, n, a, c, ob⟩, ?_, ⟨rfl, rfl, trivial⟩, ⟨rfl, rfl, rfl, rfl, rfl, trivial⟩, q, ?_⟩
   · (try dsimp only); omega
   try dsimp only
   exact ⟨by omega, by rw [tV hk']; exact J, by rw [tV hk']; exact K, D⟩
  obtain rfl : k = ls.length := by omega
  rw [List.take_length] at A; refine bI (bE (bE (bH (aB ?_)))); refine csr (aE (aC (yO (l := fB ls) (ob := ob) rfl Tryz.underlying83 Tryz.underlying5 Tryz.underlying9 ⟨_, A⟩) ?_)); refine wan (aT (br1 ?_)); exact ⟨rfl, F⟩
theorem HG {X : List Nat} {w : World} {e : TypeId} {a : Option Addr} {n c : Nat} {l : List ByteArray} {ob : Option Nat} (h : OwnS w e 1 a n c (l.map Value.string) ob) (hl : l.length = n) (hx : ∀ g, ob = some g → g ∉ X) : RSl 1 RStr X w (.slice a n c) l := by
  subst hl
  refine ⟨a, c, rfl, h.le, fun k hk => ?_⟩
  obtain ⟨g, hob, ha, hc⟩ := h.cells (by omega)
  refine ⟨g, 0, [.string l[k]], ha, hx g hob, rfl, ?_, rfl⟩
  intro j v hj
  obtain rfl : j = 0 := by
    have := (List.getElem?_eq_some_iff.1 hj).1
    simp at this; omega
  have := hc k (.string l[k]) (by simp [hk])
  simp at hj; subst hj
  simpa using this
theorem xC {X : List Nat} {w : World} {v : Value} {ls : List LB} (hs : RSl 2 RLB X w v ls) (hl : ls.length ≤ 1000) (hb : ∀ l, l ∈ ls → l.1.size ≤ 1000 ∧ l.2.size ≤ 1000) (hP : P10 w) :
    Calls Tryz.prog 25 #[v] w (Ret fun r w' => r = .string (bstr (fB ls)) ∧ Evo [] w w') := by
  have V := hs; obtain ⟨sa, sc, rfl, hlc, e1⟩ := hs; refine aU (N := 24) Tryz.func25 rfl rfl rfl ?_; refine csr (wan (csr (aE (aC (aX rfl Tryz.underlying42 rfl) ?_)))); refine BY (len := 0) (c := ls.length) rfl rfl rfl sN (by rfl) (by omega) (by omega) (by decide) (by omega) (by omega) fun b0 w2 W Y a0 => ?_; refine wan (aM (csr (aE (aC (aX rfl Tryz.underlying42 rfl) ?_)))); refine aE (wnn (bB ?_)); refine cM (α := Nat × Nat × Option Addr × Nat × Option Nat) ((0, 0, some ⟨b0, 0, none⟩, ls.length, some b0)) (fun y => [(11, .int .i64 (y.1 : Nat)), (3, .slice y.2.2.1 y.2.1 y.2.2.2.1)]) [(0, _), (2, _), (9, _), (10, _)] (fun y wr => Evo [] w wr ∧ (y.1 ≤ ls.length ∧ y.2.1 = y.1 ∧ OwnS wr 9 1 y.2.2.1 y.2.1 y.2.2.2.1 (((ls.take y.1).map (·.1)).map Value.string) y.2.2.2.2 ∧ Ge w y.2.2.2.2)) (fun y => ls.length - y.1) ⟨rfl, rfl, trivial⟩ ⟨rfl, rfl, rfl, rfl, trivial⟩ ⟨((Evo.refl [] w).then a0), ⟨Nat.zero_le _, rfl, by simpa [lZ] using W, (Ge.new (Evo.refl [] w) Y)⟩⟩ ?_; rintro ⟨k, n, a, c, ob⟩ wr8 ⟨p, ⟨hk, I, q, D⟩⟩; show CW _ _ _ _ [(11, .int .i64 (k : Nat)), (3, .slice a n c), (0, _), (2, _), (9, _), (10, _)] _
  try dsimp only at hk I q D
  refine csr (aC (cQ rfl rfl) ?_); refine wnn (aM (bS rfl (fun J => ?_) (fun J => ?_)))
  ·have hk' : k < ls.length := by omega
   obtain ⟨b1, o1, vs1, ha1, hb1, -, a1, rfl, hz1, hz2⟩ := e1 k hk'; refine aQ (aB (aM (bB (csr ?_))))
   refine aC (cE (n := k) (by rw [ha1]; rfl) rfl dN (by omega)) ?_
   refine aC (cX rfl dP cB (vs := [_, _]) rfl (a1.evo ((p).any X) hb1)) ?_; refine cO rfl eO fun bp a6 K A E => ?_; have a2 := A; refine bQ rfl rfl cB K rfl rfl ⟨by first | rfl | assumption, by first | rfl | assumption, trivial⟩ fun a7 L F => ?_; refine wnn (aP (aE (wfl rfl cU rfl bW L rfl (cH (vs := [_]) rfl rZ rfl rfl rfl rfl fun a8 a9 M a5 G => ?_)))); have H := ((p.then E).step F (Ge.new p A).mem1).then G; refine cN rfl rfl rfl rfl oZ (((q.evo0 E).evo F (Apart.new (Lt.own q) A).own1).evo0 G) (Src.ofOwn M ⟨rfl, trivial⟩) (by omega) fun a3 c3 b2 ob3 a4 O hob40 => ?_; refine cS (aD (bA (aB (aP ?_)))); refine aC (aZ rfl rfl (by omega) (by omega)) ?_; refine aE (aD (aO ?_)); refine ⟨⟨k + 1, n + 1, a3, c3, ob3⟩, ?_, ⟨rfl, rfl, trivial⟩, ⟨rfl, rfl, rfl, rfl, trivial⟩, (H.step O D.mem), ?_⟩
   · (try dsimp only); omega
   try dsimp only
   have hfin := a4; refine ⟨by omega, by omega, ?_, (D.app H hob40)⟩
   rw [List.take_succ_eq_append_getElem hk', List.map_append, List.map_append]; exact hfin
  obtain rfl : k = ls.length := by omega
  rw [List.take_length] at q; subst I; refine bI (bE (bE (bH (aB ?_)))); refine csr (aE (aE ?_))
  refine aG (vs := [_, _, _]) wF rfl (key_ok (RSl.evo RLB.pers ((p).any X) V) hl (HG (X := []) q (by simp) (by simp)) (by simp; omega) (fun l hl => List.mem_map.2 ⟨l, hl, rfl⟩) hb (hP.evo p (by simp))) rfl ?_
  rintro _ b3 ⟨rfl, U⟩; refine wan (aT (br1 ?_)); exact ⟨rfl, (p.then U)⟩
theorem lL : nL Tryz.prog 24 24 = some (45, 2, 48) := by kernel_rfl
theorem sB : nL Tryz.prog 42 42 = some (58, 2, 32) := by kernel_rfl
theorem fU : nL Tryz.prog 43 43 = some (50, 3, 24) := by kernel_rfl
theorem eP : dW Tryz.prog 45 = some 2 := by kernel_rfl
theorem jM : iF Tryz.prog 24 = some (45, 2) := by kernel_rfl
theorem jL : iF Tryz.prog 42 = some (58, 2) := by kernel_rfl
theorem fD : iF Tryz.prog 43 = some (50, 3) := by kernel_rfl
def sE {α : Type} (e : TypeId) (sz : Nat) (R : Rel α) (X : List Nat) (w w' : World) (r : Value) (ds : List α) : Prop :=
  ∃ a c ob rows, r = .slice a ds.length c ∧ OwnS w' e sz a ds.length c (List.flatten rows) ob ∧ RowsOk sz R X w rows ds ∧ Ge w ob ∧ Evo [] w w'
theorem yX {α : Type} {R : Rel α} {X : List Nat} {w : World} {v : Value} {ds : List α} (hs : RSl 2 R X w v ds) (h1 : ∀ X w vs d, R X w vs d → ∀ u, u ∈ vs → u.oneCell' = true) (hl : ds.length ≤ 10000000) :
    Calls Tryz.prog 27 #[v] w (Ret fun r w' => sE 45 2 R X w w' r ds) := by
  have D := hs; obtain ⟨sa, sc, rfl, hlc, e1⟩ := hs
  have hnil : sa = none → ds = [] := fun h => by
    cases hd : ds with
    | nil => rfl
    | cons x r => obtain ⟨b, o, vs, ha, -⟩ := e1 0 (by simp [hd]); rw [h] at ha; cases ha
  refine aU (N := 8) Tryz.func27 rfl rfl rfl ?_; refine csr (wan (aM (csr (aE (aC (vC rfl rfl Tryz.underlying24) ?_))))); refine wnn (dZ rfl (fun q => ?_) (fun q => ?_))
  ·refine csr (wan (aT (aN (br1 ?_)))); obtain rfl : ds = [] := hnil (by simpa using q); exact ⟨none, 0, none, [], rfl, OwnS.nil _ _ _, ⟨rfl, fun k h => by simp at h⟩, Ge.nil _, (Evo.refl [] w)⟩
  refine aQ (aB (csr (cH (vs := []) rfl jM rfl rfl rfl rfl fun b1 w2 E F G => ?_))); have y := Ge.new (Evo.refl [] w) F; have p := (Evo.refl [] w).then G; refine aE ?_; obtain ⟨rows, hrows, hsrc⟩ := RSl.rows (P := Tryz.prog) D ((p).any X) h1; refine cN rfl rfl rfl rfl lL E hsrc (by omega) fun a2 c2 I ob2 H A hob14 => ?_; refine wan (aT (br1 ?_)); have hfin := H; rw [Nat.zero_add] at hfin; exact ⟨a2, c2, ob2, rows, by rw [Nat.zero_add], by simpa using hfin, hrows, (y.app p hob14), (p.step A y.mem)⟩
theorem mU {α : Type} {R : Rel α} {X : List Nat} {w : World} {v : Value} {ds : List α} (hs : RSl 2 R X w v ds) (h1 : ∀ X w vs d, R X w vs d → ∀ u, u ∈ vs → u.oneCell' = true) (hl : ds.length ≤ 10000000) :
    Calls Tryz.prog 32 #[v] w (Ret fun r w' => sE 58 2 R X w w' r ds) := by
  have D := hs; obtain ⟨sa, sc, rfl, hlc, e1⟩ := hs
  have hnil : sa = none → ds = [] := fun h => by
    cases hd : ds with
    | nil => rfl
    | cons x r => obtain ⟨b, o, vs, ha, -⟩ := e1 0 (by simp [hd]); rw [h] at ha; cases ha
  refine aU (N := 8) Tryz.func32 rfl rfl rfl ?_; refine csr (wan (aM (csr (aE (aC (vC rfl rfl Tryz.underlying42) ?_))))); refine wnn (dZ rfl (fun q => ?_) (fun q => ?_))
  ·refine csr (wan (aT (aN (br1 ?_)))); obtain rfl : ds = [] := hnil (by simpa using q); exact ⟨none, 0, none, [], rfl, OwnS.nil _ _ _, ⟨rfl, fun k h => by simp at h⟩, Ge.nil _, (Evo.refl [] w)⟩
  refine aQ (aB (csr (cH (vs := []) rfl jL rfl rfl rfl rfl fun b1 w2 E F G => ?_))); have y := Ge.new (Evo.refl [] w) F; have p := (Evo.refl [] w).then G; refine aE ?_; obtain ⟨rows, hrows, hsrc⟩ := RSl.rows (P := Tryz.prog) D ((p).any X) h1; refine cN rfl rfl rfl rfl sB E hsrc (by omega) fun a2 c2 I ob2 H A hob14 => ?_; refine wan (aT (br1 ?_)); have hfin := H; rw [Nat.zero_add] at hfin; exact ⟨a2, c2, ob2, rows, by rw [Nat.zero_add], by simpa using hfin, hrows, (y.app p hob14), (p.step A y.mem)⟩
theorem yW {α : Type} {R : Rel α} {X : List Nat} {w : World} {v : Value} {ds : List α} (hs : RSl 3 R X w v ds) (h1 : ∀ X w vs d, R X w vs d → ∀ u, u ∈ vs → u.oneCell' = true) (hl : ds.length ≤ 10000000) :
    Calls Tryz.prog 34 #[v] w (Ret fun r w' => sE 50 3 R X w w' r ds) := by
  have D := hs; obtain ⟨sa, sc, rfl, hlc, e1⟩ := hs
  have hnil : sa = none → ds = [] := fun h => by
    cases hd : ds with
    | nil => rfl
    | cons x r => obtain ⟨b, o, vs, ha, -⟩ := e1 0 (by simp [hd]); rw [h] at ha; cases ha
  refine aU (N := 8) Tryz.func34 rfl rfl rfl ?_; refine csr (wan (aM (csr (aE (aC (vC rfl rfl Tryz.underlying43) ?_))))); refine wnn (dZ rfl (fun q => ?_) (fun q => ?_))
  ·refine csr (wan (aT (aN (br1 ?_)))); obtain rfl : ds = [] := hnil (by simpa using q); exact ⟨none, 0, none, [], rfl, OwnS.nil _ _ _, ⟨rfl, fun k h => by simp at h⟩, Ge.nil _, (Evo.refl [] w)⟩
  refine aQ (aB (csr (cH (vs := []) rfl fD rfl rfl rfl rfl fun b1 w2 E F G => ?_))); have y := Ge.new (Evo.refl [] w) F; have p := (Evo.refl [] w).then G; refine aE ?_; obtain ⟨rows, hrows, hsrc⟩ := RSl.rows (P := Tryz.prog) D ((p).any X) h1; refine cN rfl rfl rfl rfl fU E hsrc (by omega) fun a2 c2 I ob2 H A hob14 => ?_; refine wan (aT (br1 ?_)); have hfin := H; rw [Nat.zero_add] at hfin; exact ⟨a2, c2, ob2, rows, by rw [Nat.zero_add], by simpa using hfin, hrows, (y.app p hob14), (p.step A y.mem)⟩
theorem eH : gG Tryz.prog 24 = some false := by kernel_rfl
theorem gM : gG Tryz.prog 26 = some true := by kernel_rfl
theorem fA : gG Tryz.prog 43 = some false := by kernel_rfl
theorem jD : gG Tryz.prog 45 = some true := by kernel_rfl
theorem iM : iS Tryz.prog 24 = some 2 := by kernel_rfl
theorem dG : cZ Tryz.prog 26 0 = some 0 := by kernel_rfl
theorem fF : cZ Tryz.prog 45 1 = some 1 := by kernel_rfl
theorem wQ : dB Tryz.prog 24 := ⟨_, Tryz.func24, by kernel_rfl, by kernel_rfl⟩
theorem wP : dB Tryz.prog 25 := ⟨_, Tryz.func25, by kernel_rfl, by kernel_rfl⟩
theorem wO : dB Tryz.prog 26 := ⟨_, Tryz.func26, by kernel_rfl, by kernel_rfl⟩
theorem eF : dW Tryz.prog 26 = some 1 := by kernel_rfl
theorem iK : mW Tryz.prog 45 = some #[.slice none 0 0, .slice none 0 0] := by kernel_rfl
abbrev SD := List LB × List Smp
def RSer : Rel SD := fun X w vs d => ∃ lv pv, vs = [lv, pv] ∧ RSl 2 RLB X w lv d.1 ∧ RSl 3 RSmp X w pv d.2
theorem RSer.pers : RSer.Pers := fun _ _ _ _ _ he ⟨lv, pv, h, h1, h2⟩ => ⟨lv, pv, h, h1.evo RLB.pers he, h2.evo RSmp.pers he⟩
theorem RSer.one : ∀ X w vs d, RSer X w vs d → ∀ u, u ∈ vs → u.oneCell' = true := fun _ _ _ _ ⟨lv, pv, h, h1, h2⟩ u hu => by
  subst h
  simp at hu
  rcases hu with rfl | rfl
  · exact h1.one
  · exact h2.one
def pB (ds : List SD) : Prop := ds.length ≤ 1048577 ∧ ∀ s, s ∈ ds → s.1.length ≤ 1048577 ∧ s.2.length ≤ 1048577
open Classical in
noncomputable def eN (seen : List ByteArray) (n i : Nat) : List SD → Nat × Int
  | [] => (0, 0)
  | s :: r => if dY s.1 ≠ 0 then (i, dY s.1) else if bstr (fB s.1) ∈ seen then (i, 6) else if ¬ gK s.2 then (i, 192) else if 100000 < n + s.2.length then (i, 193) else eN (bstr (fB s.1) :: seen) (n + s.2.length) (i + 1) r
noncomputable def chk (ds : List SD) : Nat × Int := if 1000 < ds.length then (1000, 193) else eN [] 0 0 ds
theorem yZ (seen : List ByteArray) (n i : Nat) : eN seen n i [] = (0, 0) := rfl
theorem iJ {seen : List ByteArray} {n i : Nat} {s : SD} {r : List SD} (h1 : ¬ dY s.1 ≠ 0) (h2 : ¬ bstr (fB s.1) ∈ seen) (h3 : gK s.2) (h4 : ¬ 100000 < n + s.2.length) : eN seen n i (s :: r) = eN (bstr (fB s.1) :: seen) (n + s.2.length) (i + 1) r := by
  rw [eN, if_neg h1, if_neg h2, if_neg (fun h => h h3), if_neg h4]
theorem pS {seen : List ByteArray} {n i : Nat} {s : SD} {r : List SD} (h1 : dY s.1 ≠ 0) : eN seen n i (s :: r) = (i, dY s.1) := by
  rw [eN, if_pos h1]
theorem pT {seen : List ByteArray} {n i : Nat} {s : SD} {r : List SD} (h1 : ¬ dY s.1 ≠ 0) (h2 : bstr (fB s.1) ∈ seen) : eN seen n i (s :: r) = (i, 6) := by
  rw [eN, if_neg h1, if_pos h2]
theorem pR {seen : List ByteArray} {n i : Nat} {s : SD} {r : List SD} (h1 : ¬ dY s.1 ≠ 0) (h2 : ¬ bstr (fB s.1) ∈ seen) (h3 : ¬ gK s.2) : eN seen n i (s :: r) = (i, 192) := by
  rw [eN, if_neg h1, if_neg h2, if_pos h3]
theorem nI {seen : List ByteArray} {n i : Nat} {s : SD} {r : List SD} (h1 : ¬ dY s.1 ≠ 0) (h2 : ¬ bstr (fB s.1) ∈ seen) (h3 : gK s.2) (h4 : 100000 < n + s.2.length) : eN seen n i (s :: r) = (i, 193) := by
  rw [eN, if_neg h1, if_neg h2, if_neg (fun h => h h3), if_pos h4]
theorem vH {ds : List SD} (h : ¬ 1000 < ds.length) : chk ds = eN [] 0 0 ds := if_neg h
theorem yY {ds : List SD} (h : 1000 < ds.length) : chk ds = (1000, 193) := if_pos h
theorem lQ {ls : List LB} (h : ¬ dY ls ≠ 0) : (lC ls ∧ ls.length ≤ 32) ∧ (∀ l, l ∈ ls → l.1.size ≤ 128 ∧ l.2.size ≤ 512) := by
  have h0 := Classical.not_not.1 h
  unfold dY at h0
  split at h0
  · rename_i h1
    split at h0
    · cases h0
    · rename_i h2
      exact ⟨h1, fun l hl => by have h3 : ¬ (128 < l.1.size ∨ 512 < l.2.size) := fun hx => h2 ⟨l, hl, hx⟩; omega⟩
  · cases h0
theorem FE (kvs : KV) (s t : ByteArray) (v : Value) : (eD (lB kvs s v) t).isSome = true ↔ t = s ∨ (eD kvs t).isSome = true := by
  induction kvs with
  | nil => simp only [lB, eD]; split <;> simp_all [eq_comm]
  | cons kv r ih =>
    simp only [lB]
    split
    · rename_i h
      simp only [eD]
      split
      · rename_i h2; simp [h2]
      · rename_i h2
        rw [if_neg (h ▸ h2)]
        constructor
        · exact .inr
        · rintro (h3 | h3)
          · exact absurd h3.symm h2
          · exact h3
    · simp only [eD]
      split
      · simp
      · exact ih
section
variable {P : Program} {N : NN} {ops : Array Oper} {R : eQ} {rest : List Oper} {σ : Env} {w w' : World} {d : Nat} {dst : Option Nat} {T : TypeId} {pos : String} {after : Array Edge} {g : Option (Nat × Bool)}
theorem wZ {t k e : TypeId} {x : Operand} {z : Int} (hd : Nat.blt d N.1 = true) (hx : σ.ev x = some (.int .i64 z)) (ht : P.underlying t = some (.map k e)) (h : ∀ b w', MapAt w' b [] → w.heap.size = b → Evo [] w w' → WL P N ops R rest ((d, .map (some b)) :: σ) w') :
    WL P N ops R (⟨some d, .makeMap t (some x), T, pos, after, none⟩ :: rest) σ w := by
  refine fK (r := .map (some w.heap.size)) (w' := w.alloc (.map #[] 0)) hd (fun ρ ha => ?_) (h _ _ ⟨#[], by simpa using kA w (.map #[] 0), rfl, fun i h => by simp at h⟩ rfl (gX w _))
  have hr : (Instr.makeMap t none).run P w = .ok (.map (some w.heap.size)) (w.alloc (.map #[] 0)) := rfl
  have hr2 : (Instr.makeMap t (some (.int .i64 z))).run P w = .ok (.map (some w.heap.size)) (w.alloc (.map #[] 0)) := by
    simp only [Instr.makeMap, Sem.run_bind, run_underlying ht, Result.andThen_ok] at hr ⊢
    simp [asInt, asIntOf]
  simp [execOp, ha x _ hx, hr2]
theorem yM {t k e : TypeId} {x i : Operand} {b : Nat} {kvs : KV} {s : ByteArray} {z : Value} {p : Prop} (inst : Decidable p) (hx : σ.ev x = some (.map (some b))) (hi : σ.ev i = some (.string s)) (ht : P.underlying t = some (.map k e)) (hk : P.underlying k = some .string) (hz : GC P e = some z) (hm : MapAt w b kvs) (hp : (eD kvs s).isSome = true ↔ p) :
    Ex P σ ⟨dst, .lookup t x i true, T, pos, after, g⟩ w (.tuple #[(eD kvs s).getD z, .bool (decide p)]) w := fun ρ ha => by
  obtain ⟨es, hb, hes, _⟩ := hm
  obtain ⟨inf, hin, hz'⟩ := Option.bind_eq_some_iff.1 hz
  have h1 := kD (P := P) (w := w) k s es.isEmpty 9999 hk
  have h2 := kW (P := P) (w := w) (s := s) hk hes
  have hd : decide p = (eD kvs s).isSome := by
    cases hv : (eD kvs s).isSome with
    | true => exact decide_eq_true (hp.1 hv)
    | false => exact decide_eq_false (fun h => by have := hp.2 h; rw [hv] at this; cases this)
  rw [hd]
  simp only [execOp, ha x _ hx, ha i _ hi, Instr.lookup, Sem.run_bind, run_underlying ht, Result.andThen_ok, getObj, Sem.run, hb]
  cases hj : lW kvs s with
  | none =>
    rw [hj] at h2
    have h3 := oO hj
    simp only [Sem.run, Result.andThen, h1, h2, h3, Option.bind_none, Option.getD_none, zeroValue, typeInfo]
    simp [h1, h2, zeroValue, typeInfo, hin, hz']
  | some j =>
    rw [hj] at h2
    obtain ⟨v, h3, h4⟩ := nD hj
    rw [h4] at h2 ⊢
    simp [h1, h2]
end
theorem IX {X : List Nat} {w : World} {v : Value} {ds : List SD} (hs : RSl 2 RSer X w v ds) (hsm : pB ds) (hP : P10 w) :
    Calls Tryz.prog 9 #[.agg #[v]] w (Ret fun r w' => r = .tuple #[.int .i64 ((chk ds).1 : Nat), iv3 (chk ds).2] ∧ Evo [] w w') := by
  have c0 := hs; have hone := hs.one; have hl := hsm.1; obtain ⟨sa, sc, rfl, hlc, e1⟩ := hs; refine aU (N := 63) Tryz.func9 rfl rfl rfl ?_; refine csr (eK rfl rfl fun b0 w1 L a9 b2 => ?_); have b3 := a9; have M := (Evo.refl [] w).then b2; refine cS (wan (aM (csr (wfl rfl dG rfl eH L rfl (aC (aX rfl Tryz.underlying24 rfl) ?_))))); refine aC (fN rfl rfl) ?_; refine wnn (bS rfl (fun a5 => ?_) (fun a5 => ?_))
  ·refine csr (cS (wan (aT (aN (dE rfl rfl rfl ?_)))))
   exact ⟨by rw [yY (by omega)] <;> rfl, M⟩
  refine aQ (aB (csr (wfl rfl dG rfl eH L rfl (aC (aX rfl Tryz.underlying24 rfl) ?_)))); refine wZ rfl rfl Tryz.underlying62 fun bm w8 b4 b5 a3 => ?_; refine wan (csr (wan (aM (csr (wfl rfl dG rfl eH (a3.blk0 L) rfl (aC (aX rfl Tryz.underlying24 rfl) ?_)))))); refine aE (wnn (bB ?_)); refine cM (α := Nat × KV × List ByteArray × Nat) ((0, [], [], 0)) (fun y => [(23, .int .i64 (y.1 : Nat)), (5, .int .i64 (y.2.2.2 : Nat))]) [(4, _), (21, _), (22, _)] (fun y wr => Evo [] w wr ∧ (y.1 ≤ ds.length ∧ MapAt wr bm y.2.1 ∧ (∀ s, (eD y.2.1 s).isSome = true ↔ s ∈ y.2.2.1) ∧ y.2.2.2 ≤ 100000 ∧ chk ds = eN y.2.2.1 y.2.2.2 y.1 (ds.drop y.1) ∧ Ge w (some bm))) (fun y => ds.length - y.1) ⟨rfl, rfl, trivial⟩ ⟨rfl, rfl, rfl, trivial⟩ ⟨(M.then a3), ⟨Nat.zero_le _, b4, fun s => by simp [eD], Nat.zero_le _, vH (by omega), (Ge.new M b5)⟩⟩ ?_; rintro ⟨k, kvs, seen, n⟩ wr11 ⟨E, ⟨hk, hM, hseen, hn, hchk, O⟩⟩; show CW _ _ _ _ [(23, .int .i64 (k : Nat)), (5, .int .i64 (n : Nat)), (4, _), (21, _), (22, _)] _
  try dsimp only at hk hM hseen hn hchk O
  refine csr (aC (cQ rfl rfl) ?_); refine wnn (aM (bS rfl (fun a6 => ?_) (fun a6 => ?_)))
  ·have hk' : k < ds.length := by omega
   obtain ⟨b1, o1, vs1, ha1, hb1, -, b6, lv, pv, rfl, hlv, hpv⟩ := e1 k hk'; have hdk : Decidable (bstr (fB ds[k].1) ∈ seen) := Classical.propDecidable _; have hlv1 := hlv.one; have hpv1 := hpv.one; have hpv0 := hpv; have hsk := (hsm.2 _ (List.getElem_mem hk')).2; obtain ⟨pa, pc, rfl, hpc, -⟩ := hpv; have hdr := List.drop_eq_getElem_cons hk'; refine aQ (aB (aM (bB (csr (aE ?_)))))
   refine aC (cE (n := k) (by rw [ha1]; rfl) rfl iM (by omega)) ?_
   refine aC (cX rfl jD eP (vs := [_, _]) rfl (b6.evo ((E).any X) hb1)) ?_; refine cO rfl iK fun b7 c1 a7 H U => ?_; have b8 := H; have V := Apart.new (Lt.map hM) H; refine cS ?_; refine bQ rfl rfl eP a7 rfl rfl ⟨by first | rfl | assumption, by first | rfl | assumption, trivial⟩ fun c2 I W => ?_; have Y := (E.then U).step W (Ge.new E H).mem1; refine wnn (aM (csr (wfl rfl dK rfl dQ I rfl ?_)))
   refine aG (vs := [_]) wQ rfl (rP (hlv.evo RLB.pers ((Y).any X)) (by have := (hsm.2 _ (List.getElem_mem hk')).1; omega)) rfl ?_
   rintro _ c3 ⟨rfl, F⟩; have q := Y.then F; refine wan (csr (aE (aC (gB rfl rfl) ?_))); refine wnn (bS rfl (fun p => ?_) (fun p => ?_))
   ·refine csr (aE (aE (cS (wan (aT (aN (bM (aN (aN (bM (aN (dE rfl rfl rfl ?_))))))))))))
    exact ⟨by rw [hchk, hdr, pS p] <;> rfl, q⟩
   refine aQ (aB (csr (wfl rfl dK rfl dQ (F.blk0 I) rfl ?_)))
   refine aG (vs := [_]) wP rfl (xC (hlv.evo RLB.pers ((q).any X)) (by have := (lQ p).1.2; omega) (fun l hl => by have := (lQ p).2 l hl; omega) (hP.evo q (by simp))) rfl ?_
   rintro _ c4 ⟨rfl, G⟩; have a0 := (((hM.evo0 U).evo W V.nmem1).evo0 F).evo0 G; refine wan (aM (csr (aE (aE ?_)))); refine aC (yM (z := .int .i64 0) hdk rfl rfl Tryz.underlying62 Tryz.underlying9 (by kernel_rfl) a0 (hseen _)) ?_; refine aE (aC (bT rfl rfl) ?_); refine aC (bT rfl rfl) ?_; refine cS (wan (csr (aE (wnn (bS rfl (fun A => ?_) (fun A => ?_))))))
   ·refine csr (aE (cS (wan (aT (aN (bM (aN (aN (bM (aN (dE rfl rfl rfl ?_)))))))))))
    exact ⟨by rw [hchk, hdr, pT p A] <;> rfl, (q.then G)⟩
   refine aQ (aB (csr (aE (aE (aE (iH rfl rfl rfl Tryz.underlying62 Tryz.underlying9 a0 fun w7 b9 a4 => ?_)))))); have a1 := (q.then G).step a4 O.mem1; have a2 := a4.blk (G.blk0 (F.blk0 I)) V.symm.nmem1; refine wnn (aM (csr (wfl rfl fF rfl fA a2 rfl ?_)))
   refine aG (vs := [_]) wO rfl (rise_ok (hpv0.evo RSmp.pers ((a1).any X)) (by have := (hsm.2 _ (List.getElem_mem hk')).2; omega)) rfl ?_
   rintro _ c5 ⟨b, rfl, hrise, J⟩; have K := a1.then J; refine aC (eE rfl) ?_; refine wnn (dZ rfl (fun D => ?_) (fun D => ?_))
   ·refine csr (aE (cS (wan (aT (aN (bM (aN (aN (bM (aN (dE rfl rfl rfl ?_)))))))))))
    exact ⟨by rw [hchk, hdr, pR p A (fun h => by have := hrise.2 h; rw [this] at D; cases D)] <;> rfl, K⟩
   refine aQ (aB (csr (aE (wfl rfl fF rfl fA (J.blk0 a2) rfl (aC (aX rfl Tryz.underlying43 rfl) ?_))))); refine aC (aZ rfl rfl (by omega) (by omega)) ?_; refine wan (csr (aE (aC (fN rfl rfl) ?_))); refine wnn (bS rfl (fun a8 => ?_) (fun a8 => ?_))
   ·refine csr (aE (cS (wan (aT (bM (aN (aN (bM (aN (dE rfl rfl rfl ?_))))))))))
    exact ⟨by rw [hchk, hdr, nI p A (hrise.1 (by simpa using D)) (by omega)] <;> rfl, K⟩
   refine aQ (bA (aB (aP ?_))); refine aC (aZ rfl rfl (by omega) (by omega)) ?_; refine aE (aD (aO ?_)); refine ⟨⟨k + 1, lB kvs (bstr (fB ds[k].1)) (.int .i64 (k : Nat)), bstr (fB ds[k].1) :: seen, n + ds[k].2.length⟩, ?_, ⟨rfl, rfl, trivial⟩, ⟨rfl, rfl, rfl, trivial⟩, K, ?_⟩
   · (try dsimp only); omega
   try dsimp only
   refine ⟨by omega, (b9.evo0 J), fun s => by rw [FE, hseen, List.mem_cons], by omega, ?_, O⟩; rw [hchk, List.drop_eq_getElem_cons hk', iJ p A (hrise.1 (by simpa using D)) (by omega)]
  obtain rfl : k = ds.length := by omega
  rw [List.drop_length, yZ] at hchk; refine bI (bE (bE (bH (aB ?_)))); refine csr (cS (wan (aT (dE rfl rfl rfl ?_))))
  exact ⟨by rw [hchk] <;> rfl, E⟩
structure Ent where
  ls : List LB
  bs : List Nat
  ps : List Smp
  op : Bool
def Ent.out (e : Ent) : List Smp := List.map eV e.ps
def Ent.Good (e : Ent) : Prop := Valid e.ps ∧ Packs e.bs (iC e.ps) ∧ e.ls.length ≤ 32
def REnt : Rel Ent := fun X w vs e => ∃ lv pv qv, vs = [lv, pv, qv, .bool e.op] ∧ RSl 2 RLB X w lv e.ls ∧ RSl 1 RB X w pv e.bs ∧ qv.oneCell' = true ∧ (e.op = true → RSl 3 RSmp X w qv e.out) ∧ e.Good
theorem Ent.Good.bytes {e : Ent} (h : e.Good) : e.bs.length ≤ 140737488355328 := by
  have h1 := IG e.ps
  have h2 := h.1.len
  have h3 := h.2.1.len
  omega
theorem Ent.Good.few {e : Ent} (h : e.Good) : e.out.length ≤ 100000 := by
  rw [Ent.out, List.length_map]; exact h.1.len
theorem REnt.pers : REnt.Pers := fun _ _ _ _ _ he ⟨lv, pv, qv, h, h1, h2, h3, h4, h5⟩ => ⟨lv, pv, qv, h, h1.evo RLB.pers he, h2.evo RB.pers he, h3, fun ho => (h4 ho).evo RSmp.pers he, h5⟩
theorem REnt.fresh : REnt.Fresh := fun _ _ _ _ _ hy ⟨lv, pv, qv, h, h1, h2, h3, h4, h5⟩ => ⟨lv, pv, qv, h, h1.fresh (by decide) RLB.fresh hy, h2.fresh (by decide) RB.fresh hy, h3, fun ho => (h4 ho).fresh (by decide) RSmp.fresh hy, h5⟩
theorem lR {X Y : List Nat} {w w' : World} {rows : List (List Value)} {es : List Ent} (h : RowsOk 4 REnt X w rows es) (he : Evo X w w') (hy : ∀ y, y ∈ Y → y ∈ X ∨ w.heap.size ≤ y) : RowsOk 4 REnt Y w' rows es := by
  refine ⟨h.1, fun k hk hk' => ?_⟩
  obtain ⟨h1, h2⟩ := h.2 k hk hk'
  refine ⟨h1, ?_⟩
  have h3 : REnt (X ++ Y) w rows[k] es[k] := REnt.fresh _ _ _ _ _ (fun y hy' => (List.mem_append.1 hy').elim .inl (hy y)) h2
  have h4 := REnt.pers _ _ _ _ _ (he.mono (fun b hb => List.mem_append_left Y hb)) h3
  exact REnt.fresh _ _ _ _ _ (fun y hy' => .inl (List.mem_append_right X hy')) h4
theorem lS {sz : Nat} {α : Type} {R : Rel α} {X : List Nat} {w : World} {rows : List (List Value)} {es : List α} {r : List Value} {e : α} (h : RowsOk sz R X w rows es) (h1 : r.length = sz) (h2 : R X w r e) : RowsOk sz R X w (rows ++ [r]) (es ++ [e]) := by
  refine ⟨by simp [h.1], fun k hk hk' => ?_⟩
  have hl := h.1
  by_cases e1 : k < es.length
  · rw [List.getElem_append_left (by omega), List.getElem_append_left e1]
    exact h.2 k e1 (by omega)
  · simp at hk
    obtain rfl : k = es.length := by omega
    rw [List.getElem_append_right (by omega), List.getElem_append_right (by omega)]
    simp only [hl, Nat.sub_self, List.getElem_cons_zero]
    exact ⟨h1, h2⟩
def StAt (w : World) (b : Nat) (ob : Option Nat) (es : List Ent) : Prop :=
  ∃ ix a c rows, w.heap[b]? = some (.cells #[.pointer ix, .slice a es.length c, .int .i32 0, .int .u32 0] 77 (0, 0)) ∧ OwnS w 88 4 a es.length c (List.flatten rows) ob ∧ RowsOk 4 REnt (b :: ob.toList) w rows es ∧ Apart (some b) ob
def JG (ds : List SD) (es : List Ent) : Prop :=
  ∃ l : List SD, l.Perm ds ∧ (∀ i j (hij : i < j) (hj : j < l.length), ¬ dL l[j].1 l[i].1 < 0) ∧ es.map (fun e => (e.ls, e.ps)) = l ∧ ∀ e, e ∈ es → e.op = false
theorem xO {X : List Nat} {w : World} : ∀ {rows : List (List Value)} {ds : List SD}, RowsOk 2 RSer X w rows ds → ∃ l : List SerD, rows.flatten = l.flatMap SerD.enc ∧ l.map (fun x => (x.ls, x.ps)) = ds ∧ ∀ x, x ∈ l → RSl 2 RLB X w x.lv x.ls ∧ RSl 3 RSmp X w x.pv x.ps
  | [], [], _ => ⟨[], rfl, rfl, fun x h => by simp at h⟩
  | [], d :: ds, h => by have := h.1; simp at this
  | r :: rows, [], h => by have := h.1; simp at this
  | r :: rows, d :: ds, h => by
    obtain ⟨-, lv, pv, h1, h2, h3⟩ := h.2 0 (by simp) (by simp)
    obtain ⟨l, e1, e2, e3⟩ := xO (rows := rows) (ds := ds) ⟨by have := h.1; simpa using this, fun k hk hk' => by have := h.2 (k + 1) (by simpa using hk) (by simpa using hk'); simpa using this⟩
    refine ⟨⟨lv, pv, d.1, d.2⟩ :: l, ?_, ?_, ?_⟩
    · simp only [List.getElem_cons_zero] at h1
      rw [List.flatten_cons, e1, h1]; rfl
    · rw [List.map_cons, e2]
    · intro x hx
      rcases List.mem_cons.1 hx with rfl | hx
      · exact ⟨h2, h3⟩
      · exact e3 x hx
def RRaw : Rel SerD := fun _ _ vs x => vs = x.enc
theorem own_ser {w : World} {e : TypeId} {a : Option Addr} {n c : Nat} {l : List SerD} {ob : Option Nat} (h : OwnS w e 2 a n c (l.flatMap SerD.enc) ob) (hn : l.length = n) : RSl 2 RRaw [] w (.slice a n c) l :=
  RSl.ofOwn (rows := l.map SerD.enc) (by rw [← List.flatMap_def]; exact h) ⟨by simp, fun k h1 h2 => by rw [List.getElem_map]; exact ⟨rfl, rfl⟩⟩ hn (fun _ _ => by simp)
theorem nJ : ∀ {ds : List SD} {seen : List ByteArray} {n i : Nat}, (eN seen n i ds).2 = 0 → ∀ s, s ∈ ds → ¬ dY s.1 ≠ 0 ∧ gK s.2 ∧ s.2.length ≤ 100000
  | [], _, _, _, _, s, h => by simp at h
  | d :: ds, seen, n, i, h, s, hs => by
    by_cases h1 : dY d.1 ≠ 0
    · rw [pS h1] at h; exact absurd h h1
    by_cases h2 : bstr (fB d.1) ∈ seen
    · rw [pT h1 h2] at h; cases h
    by_cases h3 : gK d.2
    · by_cases h4 : 100000 < n + d.2.length
      · rw [nI h1 h2 h3 h4] at h; cases h
      · rw [iJ h1 h2 h3 h4] at h
        rcases List.mem_cons.1 hs with rfl | hs
        · exact ⟨h1, h3, by omega⟩
        · exact nJ h s hs
    · rw [pR h1 h2 h3] at h; cases h
theorem rO {ds : List SD} (h : (chk ds).2 = 0) : ds.length ≤ 1000 ∧ ∀ s, s ∈ ds → ¬ dY s.1 ≠ 0 ∧ gK s.2 ∧ s.2.length ≤ 100000 := by
  by_cases h1 : 1000 < ds.length
  · rw [yY h1] at h; cases h
  · rw [vH h1] at h
    exact ⟨by omega, nJ h⟩
theorem kE {l : List Smp} (h : gK l) : jE l := fun k hk => (h (k + 1) hk).2 k (by omega) rfl
theorem ET {l : List Smp} {bs : List Nat} {e : Int} (h : pC l bs e) (hl : l.length ≤ 100000) (hr : gK l) : e = 0 ∧ Packs bs (iC l) := by
  rcases h with ⟨h1, -, -⟩ | ⟨-, h1, -, -⟩ | ⟨-, -, h1, h2⟩
  · omega
  · exact absurd (kE hr) h1
  · exact ⟨h2, h1⟩
theorem xL {w : World} {a : Option Addr} {n c : Nat} {l : List SerD} {ob : Option Nat} (hn : l.length = n) (hO : OwnS w 45 2 a n c (l.flatMap SerD.enc) ob) (hR : ∀ x, x ∈ l → x.Good ob.toList w) (hl : n ≤ 1000000) :
    Calls Tryz.prog 28 #[.slice a n c, .func (.func 29) #[] #[]] w (Ret fun v w' => v = .tuple #[] ∧ ∃ m : List SerD, m.Perm l ∧ (∀ i j (hij : i < j) (hj : j < m.length), ¬ dL m[j].ls m[i].ls < 0) ∧ OwnS w' 45 2 a n c (m.flatMap SerD.enc) ob ∧ Evo ob.toList w w') := by
  subst hn; exact AI hO hR hl
theorem gL : gG Tryz.prog 68 = some false := by kernel_rfl
theorem iY : nL Tryz.prog 68 68 = some (88, 4, 80) := by kernel_rfl
theorem iX : nL Tryz.prog 82 82 = some (42, 1, 24) := by kernel_rfl
theorem sX : Build Tryz.prog 77 #[(0, 1), (1, 1), (2, 2)] #[.pointer none, .slice none 0 0, .int .i32 0, .int .u32 0] := ⟨_, .agg #[.pointer none, .slice none 0 0, .int .i32 0, .int .u32 0], Tryz.underlying77, by kernel_rfl, rfl, fun w => by kernel_rfl⟩
theorem mH : Build Tryz.prog 88 #[(0, 1), (1, 1), (2, 1), (3, 1)] #[.slice none 0 0, .slice none 0 0, .slice none 0 0, .bool false] := ⟨_, .agg #[.slice none 0 0, .slice none 0 0, .slice none 0 0, .bool false], Tryz.underlying88, by kernel_rfl, rfl, fun w => by kernel_rfl⟩
theorem sV : cZ Tryz.prog 77 0 = some 0 := by kernel_rfl
theorem eS : cZ Tryz.prog 77 1 = some 1 := by kernel_rfl
theorem wN : dB Tryz.prog 27 := ⟨_, Tryz.func27, by kernel_rfl, by kernel_rfl⟩
theorem wM : dB Tryz.prog 28 := ⟨_, Tryz.func28, by kernel_rfl, by kernel_rfl⟩
theorem wK : dB Tryz.prog 31 := ⟨_, Tryz.func31, by kernel_rfl, by kernel_rfl⟩
theorem kP : dB Tryz.prog 32 := ⟨_, Tryz.func32, by kernel_rfl, by kernel_rfl⟩
theorem wJ : dB Tryz.prog 33 := ⟨_, Tryz.func33, by kernel_rfl, by kernel_rfl⟩
theorem zO : dB Tryz.prog 9 := ⟨_, Tryz.func9, by kernel_rfl, by kernel_rfl⟩
theorem vS : CR Tryz.prog 82 = some (42, 1, 24, #[.slice none 0 0]) := by kernel_rfl
theorem vP : dW Tryz.prog 67 = some 1 := by kernel_rfl
theorem kK : dW Tryz.prog 68 = some 1 := by kernel_rfl
theorem jK : iF Tryz.prog 68 = some (88, 4) := by kernel_rfl
theorem jJ : iF Tryz.prog 82 = some (42, 1) := by kernel_rfl
theorem RSer.fresh : RSer.Fresh := fun _ _ _ _ _ hy ⟨lv, pv, h, h1, h2⟩ => ⟨lv, pv, h, h1.fresh (by decide) RLB.fresh hy, h2.fresh (by decide) RSmp.fresh hy⟩
theorem RLB.one : ∀ X w vs d, RLB X w vs d → ∀ u, u ∈ vs → u.oneCell' = true := fun _ _ _ _ h u hu => by
  obtain ⟨rfl, -⟩ := h
  simp at hu
  rcases hu with rfl | rfl <;> rfl
structure LdG where
  k : Nat
  es : List Ent
  n : Nat
  sa : Option Addr
  sc : Nat
  so : Option Nat
  mm : Nat
  ta : Option Addr
  tc : Nat
  tob : Option Nat
def LdI (W wc wr : World) (b : Nat) (a8 : Option Addr) (n8 c8 : Nat) (ob8 : Option Nat) (l : List SerD) (x : LdG) : Prop :=
  x.k ≤ n8 ∧ wr.heap[b]? = some (.cells #[.pointer none, .slice x.sa x.n x.sc, .int .i32 0, .int .u32 0] 77 (0, 0)) ∧ (∃ rows, OwnS wr 88 4 x.sa x.n x.sc (List.flatten rows) x.so ∧ RowsOk 4 REnt (b :: (x.so.toList ++ x.tob.toList)) wr rows x.es) ∧ OwnS wr 42 1 x.ta x.mm x.tc ((l.take x.k).map (·.lv)) x.tob ∧ OwnS wr 45 2 a8 n8 c8 (l.flatMap SerD.enc) ob8 ∧
  x.n = x.k ∧ x.mm = x.k ∧ x.es.map (fun e => (e.ls, e.ps)) = (l.take x.k).map (fun x => (x.ls, x.ps)) ∧ (∀ e, e ∈ x.es → e.op = false) ∧ Apart (some b) x.so ∧ Apart (some b) x.tob ∧ Apart x.so x.tob ∧ Apart ob8 x.so ∧ Apart ob8 x.tob ∧ Apart ob8 (some b) ∧ Ge W (some b) ∧ Ge W x.so ∧ Ge W x.tob ∧ Ge W ob8 ∧ Evo (b :: ob8.toList) wc wr ∧ Ge wc x.so ∧ Ge wc x.tob
theorem vF {X : List Nat} {w wc : World} {la : Option Addr} {lc : Nat} {ob57 : Option Nat} {lrows : List (List Value)} {ls : List LB} {Z : List Nat} {pa : Option Addr} {pn pc : Nat} {bs9 : List Nat} {ob44 : Option Nat} {ps : List Smp} (h1 : OwnS w 58 2 la ls.length lc lrows.flatten ob57) (h2 : RowsOk 2 RLB Z wc lrows ls) (h3 : OwnS w 5 1 pa pn pc (bs9.map bv) ob44) (h4 : ∀ b, b ∈ bs9 → b < 256)
    (hx1 : ∀ g, ob57 = some g → g ∉ X) (hx2 : ∀ g, ob44 = some g → g ∉ X) (hg : Ent.Good ⟨ls, bs9, ps, false⟩) : REnt X w [.slice la ls.length lc, .slice pa pn pc, .slice none 0 0, .bool false] ⟨ls, bs9, ps, false⟩ :=
  ⟨_, _, _, rfl, RSl.ofOwn h1 ⟨h2.1, fun k hk hk' => h2.2 k hk hk'⟩ rfl hx1, CN h3 h4 hx2, rfl, (fun h => by cases h), hg⟩
theorem FD {b : Nat} {o so tob : Option Nat} (h1 : Apart o (some b)) (h2 : Apart o so) (h3 : Apart o tob) : ∀ g, o = some g → g ∉ b :: (so.toList ++ tob.toList) := fun g hg h => by
  rcases List.mem_cons.1 h with h | h
  · exact h1 g hg (by rw [h])
  · rcases List.mem_append.1 h with h | h
    · exact h2 g hg (by simpa using h)
    · exact h3 g hg (by simpa using h)
theorem IB {w : World} {b : Nat} {so so2 tob to2 : Option Nat} (h1 : so2 = so ∨ ∃ g, so2 = some g ∧ w.heap.size ≤ g) (h2 : to2 = tob ∨ ∃ g, to2 = some g ∧ w.heap.size ≤ g) : ∀ y, y ∈ b :: (so2.toList ++ to2.toList) → y ∈ b :: (so.toList ++ tob.toList) ∨ w.heap.size ≤ y := fun y hy => by
  rcases List.mem_cons.1 hy with h | h
  · exact .inl (by simp [h])
  · rcases List.mem_append.1 h with h | h
    · rcases h1 with rfl | ⟨g, rfl, hg⟩
      · exact .inl (by simp [h])
      · right; simp at h; rw [h]; exact hg
    · rcases h2 with rfl | ⟨g, rfl, hg⟩
      · exact .inl (by simp [h])
      · right; simp at h; rw [h]; exact hg
theorem sub2 {b y : Nat} {o so : Option Nat} (hy : y ∈ b :: so.toList) : y ∈ b :: (so.toList ++ o.toList) := by
  rcases List.mem_cons.1 hy with h | h
  · simp [h]
  · simp [h]
theorem mS {w w1 : World} {o o2 : Option Nat} (h : o2 = o ∨ ∃ g, o2 = some g ∧ w1.heap.size ≤ g) (hs : w.heap.size ≤ w1.heap.size) : o2 = o ∨ ∃ g, o2 = some g ∧ w.heap.size ≤ g := by
  rcases h with h | ⟨g, h, hg⟩
  · exact .inl h
  · exact .inr ⟨g, h, Nat.le_trans hs hg⟩
theorem GV {wc : World} {b : Nat} {ob8 : Option Nat} {l : List SerD} (h : ∀ x, x ∈ l → RSl 2 RLB [b] wc x.lv x.ls ∧ RSl 3 RSmp [b] wc x.pv x.ps) (hG : Ge wc ob8) : ∀ x, x ∈ l → RSl 2 RLB (b :: ob8.toList) wc x.lv x.ls ∧ RSl 3 RSmp (b :: ob8.toList) wc x.pv x.ps := fun x hx => by
  have hy : ∀ y, y ∈ b :: ob8.toList → y ∈ [b] ∨ wc.heap.size ≤ y := fun y hy => by
    rcases List.mem_cons.1 hy with h | h
    · exact .inl (by simp [h])
    · exact .inr (hG y (by simpa using h))
  exact ⟨(h x hx).1.fresh (by decide) RLB.fresh hy, (h x hx).2.fresh (by decide) RSmp.fresh hy⟩
theorem GU {wc w2 : World} {b : Nat} {ob8 : Option Nat} {l : List SerD} {ds : List SD} (h : ∀ x, x ∈ l → RSl 2 RLB (b :: ob8.toList) wc x.lv x.ls ∧ RSl 3 RSmp (b :: ob8.toList) wc x.pv x.ps) (he : Evo [] wc w2) (hd : l.map (fun x => (x.ls, x.ps)) = ds) (hsm : pB ds) : ∀ x, x ∈ l → x.Good ob8.toList w2 := fun x hx => by
  have hm : (x.ls, x.ps) ∈ ds := by rw [← hd]; exact List.mem_map.2 ⟨x, hx, rfl⟩
  exact ⟨((h x hx).1.evo RLB.pers (he.any _)).fresh (by decide) RLB.fresh (fun y hy => .inl (List.mem_cons_of_mem _ hy)), by have := (hsm.2 _ hm).1; simp only at this; omega, (h x hx).1.one, (h x hx).2.one⟩
theorem HH {X : List Nat} {w : World} {e : TypeId} {a : Option Addr} {n c : Nat} {l : List SerD} {ob : Option Nat} (h : OwnS w e 1 a n c (l.map (·.lv)) ob) (hn : l.length = n) (hd : ∀ x, x ∈ l → RSl 2 RLB X w x.lv x.ls) : RSl 1 (BU 2 RLB) [] w (.slice a n c) (l.map (·.ls)) :=
  RSl.ofOwn (rows := l.map fun x => [x.lv]) (by rw [show (l.map fun x => [x.lv]).flatten = l.map (·.lv) from by clear h hn hd; induction l with | nil => rfl | cons x l ih => simp [ih]]; exact h)
    ⟨by simp, fun k h1 h2 => by simp only [List.getElem_map]; exact ⟨rfl, _, rfl, (hd _ (List.getElem_mem _)).fresh (by decide) RLB.fresh (fun y hy => by simp at hy)⟩⟩ (by simpa using hn) (fun _ _ => by simp)
theorem qX {sets : List (List LB)} (h : ∀ s, s ∈ sets → s.length ≤ 32) : ∀ i, (eW sets i).length ≤ i * 32
  | 0 => by simp [eW]
  | i + 1 => by
    have h1 := qX h i
    by_cases hi : i < sets.length
    · rw [kY hi, List.length_append]
      have h2 := h _ (List.getElem_mem hi)
      have h3 : (fZ sets[i] i).length = sets[i].length := by simp [fZ]
      omega
    · have h2 : eW sets (i + 1) = eW sets i := by
        simp only [eW, List.range_succ, List.flatMap_append]
        simp [List.getElem?_eq_none (Nat.le_of_not_lt hi), fZ]
      rw [h2]; omega
theorem HO {w : World} {v : Value} {sets : List (List LB)} (hs : RSl 1 (BU 2 RLB) [] w v sets) (hl1 : sets.length ≤ 1000) (hl2 : ∀ s, s ∈ sets → lC s ∧ s.length ≤ 32) :
    Calls Tryz.prog 33 #[v] w (Ret fun r w' => ∃ bx, r = .tuple #[.pointer (some ⟨bx, 0, none⟩), iv3 0] ∧ Evo [] w w') := by
  have h1 := qX (fun s h => (hl2 s h).2) sets.length
  refine (new_ok hs (by omega) (fun i h => by have := (hl2 _ (List.getElem_mem h)).2; omega) (by omega)).mono ?_
  rintro e w' ⟨r, rfl, h | h⟩
  · obtain ⟨-, ⟨i, h, hn⟩, -⟩ := h
    exact absurd (hl2 _ (List.getElem_mem h)).1 hn
  · obtain ⟨bx, mb, D, rfl, -, -, -, hE⟩ := h
    exact ⟨_, rfl, bx, rfl, hE⟩
theorem CU {w : World} {v : Value} {ds : List SD} (hs : RSl 2 RSer [] w v ds) (hsm : pB ds) (hP : P10 w) (hT : Tab w) :
    Calls Tryz.prog 10 #[.agg #[v]] w (Ret fun r w' => Evo [] w w' ∧ (((chk ds).2 ≠ 0 ∧ r = .tuple #[.pointer none, .int .i64 ((chk ds).1 : Nat), iv3 (chk ds).2]) ∨ ((chk ds).2 = 0 ∧ ∃ b ob es, r = .tuple #[.pointer (some ⟨b, 0, none⟩), .int .i64 0, iv3 0] ∧ StAt w' b ob es ∧ Ge w (some b) ∧ Ge w ob ∧ JG ds es))) := by
  have o8 := hs; have hone := hs.one; refine aU (N := 83) Tryz.func10 rfl rfl rfl ?_; refine csr (eK rfl rfl fun b1 w1 o9 q7 q8 => ?_); have q9 := q7; have l4 := (Evo.refl [] w).then q8; refine cS (cS (wan (aM (csr (aC (dC rfl gM eF o9 rfl) ?_))))); refine aG (vs := [_]) zO rfl (IX (o8.evo RSer.pers l4) hsm (hP.evo l4 (by simp))) rfl ?_; rintro _ w7 ⟨rfl, p0⟩; have l5 := l4.then p0; refine aE (aC (bT rfl rfl) ?_); refine aC (bT rfl rfl) ?_; refine cS (wan (csr (aE (aC (gB rfl rfl) ?_)))); refine wnn (bS rfl (fun f5 => ?_) (fun f5 => ?_))
  ·refine csr (aE (aE (cS (cS (wan (aT (aN (uE rfl rfl rfl rfl ?_)))))))); exact ⟨l5, .inl ⟨f5, rfl⟩⟩
  have p3 : (chk ds).2 = 0 := Classical.not_not.1 f5; have hcg := rO p3; refine aQ (aB (csr (aC (dI (vs := []) sX rfl (cells := [_, _, _, _]) rfl) ?_))); refine eK rfl rfl fun bs l6 l7 l8 l9 => ?_; have r0 := l8; have m0 := Ge.new l5 l8; have f6 := l5.then l9; refine wan (csr (wfl rfl dG rfl eH (l9.blk0 (p0.blk0 o9)) rfl ?_))
  refine aG (vs := [_]) wN rfl (yX ((o8.fresh (by decide) RSer.fresh (fun y hy => .inr (by rw [List.mem_singleton.1 hy]; exact m0 _ rfl))).evo RSer.pers ((f6).any [bs])) RSer.one (by omega)) rfl ?_
  rintro _ u4 ⟨a8, c8, ob8, rows, rfl, p4, hrows, g4, e4⟩; have m1 := Apart.fresh (Lt.blk l7) g4; have m2 := Ge.fresh f6 g4; obtain ⟨l, hfl, hlds, hlx⟩ := xO hrows; rw [hfl] at p4
  have hll : l.length = ds.length := by rw [← hlds, List.length_map]
  have hdat := GV hlx g4; have hgood := GU hdat e4 hlds hsm; refine wan (csr (aE ?_)); refine aG (vs := [_, _]) wM rfl (xL hll p4 hgood (by omega)) rfl ?_; rintro _ u5 ⟨rfl, m, hperm, hsort, p5, f7⟩; have m3 := (f6.then e4).step f7 m2.mem; have m4 := ((Evo.refl (bs :: ob8.toList) l6).then e4).step f7 (Ge.fresh (Evo.refl (bs :: ob8.toList) l6) g4).mem; have m5 := f7.blk (e4.blk0 l7) m1.nmem
  have hml : m.length = ds.length := by rw [hperm.length_eq, hll]
  have hdm : (m.map (fun x => (x.ls, x.ps))).Perm ds := hlds ▸ hperm.map _; have hdat2 := fun x (hx : x ∈ m) => hdat x (hperm.mem_iff.1 hx); have hchk2 := fun x (hx : x ∈ m) => hcg.2 (x.ls, x.ps) (hdm.mem_iff.1 (List.mem_map.2 ⟨x, hx, rfl⟩)); refine wnn (csr (aE (aC (aX rfl Tryz.underlying24 rfl) ?_))); refine BY (len := 0) (c := ds.length) rfl rfl rfl vS (by rfl) (by omega) (by omega) (by decide) (by omega) (by omega) fun p6 u6 r1 e5 e6 => ?_; have p8 := Apart.new (Lt.blk m5) e5; have p9 := Apart.new (Lt.own p5) e5; have q0 := Ge.new m3 e5; have q1 := Ge.new m4 e5; have q2 := m4.then e6; have q3 := p5.evo0 e6; refine wan (aM (csr (aE (aC (aX rfl Tryz.underlying24 rfl) ?_)))); refine aE (wnn (bB ?_)); refine cM (α := LdG) (⟨0, [], 0, none, 0, none, 0, some ⟨p6, 0, none⟩, ds.length, some p6⟩) (fun x => [(37, .int .i64 (x.k : Nat)), (9, .slice x.ta x.mm x.tc)]) [(7, _), (35, _), (36, _)] (fun x wr => Evo [] w wr ∧ (LdI w l6 wr bs a8 ds.length c8 ob8 m x)) (fun x => ds.length - x.k) ⟨rfl, rfl, trivial⟩ ⟨rfl, rfl, rfl, trivial⟩ ⟨(m3.then e6), ⟨Nat.zero_le _, (e6.blk0 m5), ⟨[], OwnS.nil _ _ _, rfl, fun k h => by simp at h⟩, by simpa [lZ] using r1, q3, rfl, rfl, rfl, fun e h => by simp at h, Apart.nil _, p8, (Apart.nil _).symm, Apart.nil _, p9, m1.symm, m0, Ge.nil _, q0, m2, q2, Ge.nil _, q1⟩⟩ ?_
  rintro ⟨k, es, n, sa, sc, so, mm, ta, tc, tob⟩ wr47 ⟨f8, ⟨hk, hBS, ⟨rows9, hS, hrk⟩, f3, hSO, hn, hm, hes, hop, b0, a3, d4, d5, d6, d7, b2, c1, d8, g5, hVc, hGc2, hGc3⟩⟩; show CW _ _ _ _ [(37, .int .i64 (k : Nat)), (9, .slice ta mm tc), (7, _), (35, _), (36, _)] _
  try dsimp only at hk hBS rows9 hS hrk f3 hSO hn hm hes hop b0 a3 d4 d5 d6 d7 b2 c1 d8 g5 hVc hGc2 hGc3
  have f9 := Evo.refl (bs :: (so.toList ++ tob.toList)) wr47; replace hn : k = n := Eq.symm hn; subst hn; replace hm : k = mm := Eq.symm hm; subst hm; refine csr (aC (cQ rfl rfl) ?_); refine wnn (aM (bS rfl (fun q4 => ?_) (fun q4 => ?_)))
  ·have hk' : k < m.length := by omega
   obtain ⟨a8', c8', he8, hcl8, e1⟩ := own_ser hSO hml; simp only [Value.slice.injEq] at he8; obtain ⟨rfl, -, rfl⟩ := he8; obtain ⟨b1', o1, vs1, ha1, hb1, -, p7, hv1⟩ := e1 k hk'; replace hv1 : vs1 = [m[k].lv, m[k].pv] := hv1; subst hv1; have hmem := List.getElem_mem hk'; have hck : ¬ dY m[k].ls ≠ 0 ∧ gK m[k].ps ∧ m[k].ps.length ≤ 100000 := hchk2 _ hmem; have hck32 := (lQ hck.1).1.2; obtain ⟨qa, qc, hq, -⟩ := id (hdat2 _ hmem).1; have hd1 := (hdat2 _ hmem).1; rw [hq] at hd1 p7; have hpo1 := (hdat2 _ hmem).2.one; refine aQ (aB (aM (bB (csr ?_))))
   refine aC (cE (n := k) (by rw [ha1]; rfl) rfl iM (by omega)) ?_
   refine aC (cX rfl jD eP (vs := [_, _]) rfl p7) ?_; refine cO rfl iK fun u7 u8 q5 a0 a5 => ?_; have q6 := a0; have d9 := Apart.new (Lt.blk hBS) a0; have e0 := Apart.new (Lt.own hS) a0; refine bQ rfl rfl eP q5 rfl rfl ⟨by first | rfl | assumption, by first | rfl | assumption, trivial⟩ fun u9 g0 a6 => ?_; have m6 := (f8.then a5).step a6 (Ge.new f8 a0).mem1; have m7 := (hVc.then a5).step a6 (Ge.new hVc a0).mem1; have m8 := a6.blk (a5.blk0 hBS) d9.nmem1; have m9 := (hS.evo0 a5).evo a6 e0.own1; have n0 := (f3.evo0 a5).evo a6 (Apart.new (Lt.own f3) a0).own1
   try simp only [cP, Nat.reduceAdd] at g0
   refine wnn (csr (wfl rfl fF rfl fA g0 rfl ?_))
   refine aG (vs := [_]) wK rfl (yA ((hdat2 _ hmem).2.evo RSmp.pers m7) (by have := hck.2.2; omega) (hT.evo m6 (by simp))) rfl ?_
   rintro _ v0 ⟨pa, pn, pc, bs9, e, ob44, rfl, n1, hb44, g1, hPk, a1⟩; have b8 := Apart.fresh (Lt.blk m8) g1; have b9 := Apart.fresh (Lt.own m9) g1; have c0 := Apart.fresh (Lt.own n0) g1; obtain ⟨rfl, hpk⟩ := ET hPk hck.2.2 hck.2.1; refine aE (aC (bT rfl rfl) ?_); refine aC (bT rfl rfl) ?_; refine cS (wan (aM (csr (aE (aC (gB rfl rfl) ?_))))); refine wnn (bS rfl (fun n2 => ?_) (fun n2 => ?_))
   ·exact absurd rfl n2
   refine aQ (aB (aM ?_)); refine eA (fun w0 w' => Evo (bs :: so.toList) w0 w') (by kernel_rfl) (fun a4 Y => ?_); have g2 := (m6.then a1).then Y; have g3 := (((f9.then a5).step a6 (Ge.new f9 a0).mem1).then a1).then Y; have b3 := (m7.then a1).then Y; have b4 := Y.blk0 (a1.blk0 m8); have b5 := (m9.evo0 a1).evo0 Y; have b6 := (n0.evo0 a1).evo0 Y; have e7 := (((hSO.evo0 a5).evo a6 (Apart.new (Lt.own hSO) a0).own1).evo0 a1).evo0 Y; have c2 := Y.blk0 (a1.blk0 g0); refine aet 0 rfl (fun _ hS => aW rfl) (Evo.refl (bs :: so.toList) a4) ?_; refine aet 1 rfl (fun _ hS => aW rfl) (Evo.refl (bs :: so.toList) a4) ?_; refine aet 2 rfl (fun _ hS => aF rfl) (Evo.refl (bs :: so.toList) a4) ?_; refine aet 3 rfl (fun _ hS => aA rfl eS) (Evo.refl (bs :: so.toList) a4) ?_; refine aet 5 rfl (fun _ hS => aA rfl dK) (Evo.refl (bs :: so.toList) a4) ?_; refine aet 6 rfl (fun _ hS => aI rfl dQ (aJ (hS.blk c2 (nm2 d9.symm e0.symm)) rfl)) (Evo.refl (bs :: so.toList) a4) ?_; refine aet 8 rfl (fun _ hS => aW rfl) (Evo.refl (bs :: so.toList) a4) ?_; refine aK [4, 7] (by kernel_rfl) rfl ⟨?_, ?_, trivial⟩
   ·refine aL rfl ?_; refine aC (aI rfl gL (aJ b4 rfl)) (aD (aH (.inl (Evo.refl (bs :: so.toList) a4)) ?_)); refine aK [7] (by kernel_rfl) rfl ⟨?_, trivial⟩; refine aL rfl ?_; refine aG (vs := [_]) kP rfl (mU (hd1.evo RLB.pers b3) RLB.one (by omega)) rfl ?_; rintro _ r9 ⟨la, lc, ob57, lrows, rfl, a7, hlr, a9, H⟩; have g6 := Apart.fresh (Lt.blk b4) a9; have g7 := Apart.fresh (Lt.own b5) a9; have g8 := Apart.fresh (Lt.own b6) a9; have c3 := (Evo.refl (bs :: so.toList) a4).then H; refine aD (aH (.inl c3) ?_); refine aet 9 rfl (fun _ hS => dI (vs := [(0, _), (1, _)]) mH rfl (cells := [_, _, _, _]) rfl) c3 ?_; refine aK [10] (by kernel_rfl) rfl ⟨?_, trivial⟩; refine aL rfl ?_; refine cH (vs := [_]) rfl jK rfl rfl rfl rfl fun s0 s1 n4 r2 A => ?_; have g9 := (g2.then H).then A; have h0 := (g3.then H).then A; have h1 := (b3.then H).then A; have h2 := A.blk0 (H.blk0 b4); have h3 := (b6.evo0 H).evo0 A; have h4 := (e7.evo0 H).evo0 A; have h5 := ((n1.evo0 Y).evo0 H).evo0 A; refine aD (aH (.inl (c3.then A)) ?_); refine aK [11] (by kernel_rfl) rfl ⟨?_, trivial⟩; refine aL rfl ?_; have hsz61 := (h0).size; refine cN rfl rfl rfl rfl iY ((b5.evo0 H).evo0 A) (Src.ofOwn n4 ⟨by first | rfl | assumption, by first | rfl | assumption, by first | rfl | assumption, by first | rfl | assumption, trivial⟩) (by omega) fun a61 c61 s2 ob61 e2 I hob162 => ?_
    have h6 := b0.app (Lt.blk h2) hob162; have h7 := d4.symm.app (Lt.own h3) hob162; have n5 := h0.step I (fun y hy => .inl (List.mem_cons_of_mem _ (List.mem_append_left _ hy))); have c4 := (c3.then A).step I (fun y hy => .inl (List.mem_cons_of_mem _ hy)); have hso61 := mS hob162 hsz61; refine aD (aH (.inl c4) ?_); refine aet 12 rfl (fun _ hS => aF rfl) c4 ?_; refine aet 13 rfl (fun _ hS => aA rfl eS) c4 ?_; refine aK [14] (by kernel_rfl) rfl ⟨?_, trivial⟩; refine aL rfl ?_; refine aR rfl rfl (by first | rfl | assumption) kK (I.blk h2 b0.nmem) rfl fun s3 e8 J => ?_
    have h8 := n5.step J (fun y hy => .inl (by rw [List.mem_singleton.1 hy]; simp))
    have h9 := (h1.step I hGc2.mem).step J (fun y hy => .inl (by rw [List.mem_singleton.1 hy]; simp))
    have n6 := c4.step J (fun y hy => .inl (by rw [List.mem_singleton.1 hy]; simp))
    try simp only [cP, Nat.reduceAdd] at e8
    refine aD (aH (.inl n6) ?_); refine bK (by kernel_rfl) (aB ?_); refine aP (aE (aC (aA rfl dK) (aC (aI rfl dQ (aJ (J.blk (I.blk (A.blk0 (H.blk0 c2)) e0.symm.nmem) d9.symm.nmem1) rfl)) (cH (vs := [_]) rfl jJ rfl rfl rfl rfl fun s4 s5 n7 r3 E => ?_)))); have i0 := ((g9.step I c1.mem).step J b2.mem1).then E; have i1 := ((h4.evo I d5.own).evo J d7.own1).evo0 E; have i2 := ((h5.evo I b9.symm.own).evo J b8.symm.own1).evo0 E; have i3 := (((a7.evo0 A).evo I g7.symm.own).evo J g6.symm.own1).evo0 E; have i4 := (e2.evo J h6.symm.own1).evo0 E; have hsz68 := ((h8.then E)).size; refine cN rfl rfl rfl rfl iX (((h3.evo I d4.symm.own).evo J a3.symm.own1).evo0 E) (Src.ofOwn n7 ⟨by first | rfl | assumption, trivial⟩) (by omega) fun a68 c68 s6 ob68 e3 U hob228 => ?_; have hso68 := mS hob228 hsz68; refine cS (aD (bA (aB (aP ?_)))); refine aC (aZ rfl rfl (by omega) (by omega)) ?_; refine aE (aD (aO ?_)); refine ⟨⟨k + 1, es ++ [⟨m[k].ls, bs9, m[k].ps, false⟩], k + 1, a61, c61, ob61, k + 1, a68, c68, ob68⟩, ?_, ⟨rfl, rfl, trivial⟩, ⟨rfl, rfl, rfl, trivial⟩, (i0.step U d8.mem), ?_⟩
    · (try dsimp only); omega
    try dsimp only
    have hrs := lR hrk ((h8.then E).step U (fun y hy => .inl (List.mem_cons_of_mem _ (List.mem_append_right _ hy)))) (IB hso61 hso68); have hg9 : Ent.Good ⟨m[k].ls, bs9, m[k].ps, false⟩ := ⟨⟨hck.2.2, kE hck.2.1, uQ (hdat2 _ hmem).2⟩, hpk, hck32⟩; have hr9 := vF (i3.evo U g8.symm.own) hlr (i2.evo U c0.symm.own) hb44 (FD g6.symm (g7.symm.app (Lt.own (a7.evo0 A)) hob162) (g8.symm.app (Lt.own i3) hob228)) (FD b8.symm (b9.symm.app (Lt.own h5) hob162) (c0.symm.app (Lt.own i2) hob228)) hg9; unfold LdI; dsimp only; have f4 := (i4.evo U h7.symm.own); have ht9 := e3; refine ⟨by omega, (U.blk (E.blk0 e8) a3.nmem), ⟨rows9 ++ [_], ?_, lS hrs rfl hr9⟩, ?_, (i1.evo U d6.own), rfl, rfl, ?_, ?_, h6, (a3.app (Lt.blk (E.blk0 e8)) hob228), (h7.symm.app (Lt.own i4) hob228), (d5.app (Lt.own h4) hob162), (d6.app (Lt.own i1) hob228), d7, b2, (c1.app g9 hob162), (d8.app i0 hob228), g5, ((h9.then E).step U hGc3.mem), (hGc2.app h1 hob162), (hGc3.app (h9.then E) hob228)⟩
    · rw [List.flatten_append, List.flatten_singleton]; exact f4
    · rw [List.take_succ_eq_append_getElem hk', List.map_append, List.map_singleton, hq]; exact ht9
    · rw [List.take_succ_eq_append_getElem hk', List.map_append, List.map_append, hes]; rfl
    · intro e he
      rcases List.mem_append.1 he with he | he
      · exact hop e he
      · rw [List.mem_singleton.1 he]
   refine aL rfl ?_; refine aG (vs := [_]) kP rfl (mU (hd1.evo RLB.pers b3) RLB.one (by omega)) rfl ?_; rintro _ s7 ⟨la, lc, ob57, lrows, rfl, a7, hlr, a9, p⟩; have c5 := Apart.fresh (Lt.blk b4) a9; have c6 := Apart.fresh (Lt.own b5) a9; have c7 := Apart.fresh (Lt.own b6) a9; have a2 := (Evo.refl (bs :: so.toList) a4).then p; have c9 := p.blk0 b4; have d0 := (n1.evo0 Y).evo0 p; refine aD (aH (.inl a2) ?_); refine aet 9 rfl (fun _ hS => dI (vs := [(0, _), (1, _)]) mH rfl (cells := [_, _, _, _]) rfl) a2 ?_; refine aK [4, 10] (by kernel_rfl) rfl ⟨?_, ?_, trivial⟩
   ·refine aL rfl ?_; refine aC (aI rfl gL (aJ c9 rfl)) (aD (aH (.inl a2) ?_)); refine aK [10] (by kernel_rfl) rfl ⟨?_, trivial⟩; refine aL rfl ?_; refine cH (vs := [_]) rfl jK rfl rfl rfl rfl fun s8 s9 n8 r4 q => ?_; have i5 := (g2.then p).then q; have i6 := (g3.then p).then q; have i7 := (b3.then p).then q; have i8 := (b6.evo0 p).evo0 q; have i9 := (e7.evo0 p).evo0 q; refine aD (aH (.inl (a2.then q)) ?_); refine aK [11] (by kernel_rfl) rfl ⟨?_, trivial⟩; refine aL rfl ?_; have hsz61 := (i6).size; refine cN rfl rfl rfl rfl iY ((b5.evo0 p).evo0 q) (Src.ofOwn n8 ⟨by first | rfl | assumption, by first | rfl | assumption, by first | rfl | assumption, by first | rfl | assumption, trivial⟩) (by omega) fun a61 c61 t0 ob61 e2 K hob303 => ?_; have j0 := b0.app (Lt.blk (q.blk0 c9)) hob303; have j1 := d4.symm.app (Lt.own i8) hob303; have n9 := i6.step K (fun y hy => .inl (List.mem_cons_of_mem _ (List.mem_append_left _ hy))); have d1 := (a2.then q).step K (fun y hy => .inl (List.mem_cons_of_mem _ hy)); have hso61 := mS hob303 hsz61; refine aD (aH (.inl d1) ?_); refine aet 12 rfl (fun _ hS => aF rfl) d1 ?_; refine aet 13 rfl (fun _ hS => aA rfl eS) d1 ?_; refine aK [14] (by kernel_rfl) rfl ⟨?_, trivial⟩; refine aL rfl ?_
    refine aR rfl rfl (by first | rfl | assumption) kK (K.blk (q.blk0 c9) b0.nmem) rfl fun t1 e9 L => ?_
    have j2 := n9.step L (fun y hy => .inl (by rw [List.mem_singleton.1 hy]; simp))
    have j3 := (i7.step K hGc2.mem).step L (fun y hy => .inl (by rw [List.mem_singleton.1 hy]; simp))
    have o0 := d1.step L (fun y hy => .inl (by rw [List.mem_singleton.1 hy]; simp))
    try simp only [cP, Nat.reduceAdd] at e9
    refine aD (aH (.inl o0) ?_); refine bK (by kernel_rfl) (aB ?_); refine aP (aE (aC (aA rfl dK) (aC (aI rfl dQ (aJ (L.blk (K.blk (q.blk0 (p.blk0 c2)) e0.symm.nmem) d9.symm.nmem1) rfl)) (cH (vs := [_]) rfl jJ rfl rfl rfl rfl fun t2 t3 o2 r5 F => ?_)))); have j4 := ((i5.step K c1.mem).step L b2.mem1).then F; have j5 := ((i9.evo K d5.own).evo L d7.own1).evo0 F; have j6 := (((d0.evo0 q).evo K b9.symm.own).evo L b8.symm.own1).evo0 F; have j7 := (((a7.evo0 q).evo K c6.symm.own).evo L c5.symm.own1).evo0 F; have j8 := (e2.evo L j0.symm.own1).evo0 F; have hsz68 := ((j2.then F)).size; refine cN rfl rfl rfl rfl iX (((i8.evo K d4.symm.own).evo L a3.symm.own1).evo0 F) (Src.ofOwn o2 ⟨by first | rfl | assumption, trivial⟩) (by omega) fun a68 c68 t4 ob68 e3 V hob369 => ?_; have hso68 := mS hob369 hsz68; refine cS (aD (bA (aB (aP ?_)))); refine aC (aZ rfl rfl (by omega) (by omega)) ?_; refine aE (aD (aO ?_)); refine ⟨⟨k + 1, es ++ [⟨m[k].ls, bs9, m[k].ps, false⟩], k + 1, a61, c61, ob61, k + 1, a68, c68, ob68⟩, ?_, ⟨rfl, rfl, trivial⟩, ⟨rfl, rfl, rfl, trivial⟩, (j4.step V d8.mem), ?_⟩
    · (try dsimp only); omega
    try dsimp only
    have hrs := lR hrk ((j2.then F).step V (fun y hy => .inl (List.mem_cons_of_mem _ (List.mem_append_right _ hy)))) (IB hso61 hso68); have hg9 : Ent.Good ⟨m[k].ls, bs9, m[k].ps, false⟩ := ⟨⟨hck.2.2, kE hck.2.1, uQ (hdat2 _ hmem).2⟩, hpk, hck32⟩; have hr9 := vF (j7.evo V c7.symm.own) hlr (j6.evo V c0.symm.own) hb44 (FD c5.symm (c6.symm.app (Lt.own (a7.evo0 q)) hob303) (c7.symm.app (Lt.own j7) hob369)) (FD b8.symm (b9.symm.app (Lt.own (d0.evo0 q)) hob303) (c0.symm.app (Lt.own j6) hob369)) hg9; unfold LdI; dsimp only; have f4 := (j8.evo V j1.symm.own); have ht9 := e3; refine ⟨by omega, (V.blk (F.blk0 e9) a3.nmem), ⟨rows9 ++ [_], ?_, lS hrs rfl hr9⟩, ?_, (j5.evo V d6.own), rfl, rfl, ?_, ?_, j0, (a3.app (Lt.blk (F.blk0 e9)) hob369), (j1.symm.app (Lt.own j8) hob369), (d5.app (Lt.own i9) hob303), (d6.app (Lt.own j5) hob369), d7, b2, (c1.app i5 hob303), (d8.app j4 hob369), g5, ((j3.then F).step V hGc3.mem), (hGc2.app i7 hob303), (hGc3.app (j3.then F) hob369)⟩
    · rw [List.flatten_append, List.flatten_singleton]; exact f4
    · rw [List.take_succ_eq_append_getElem hk', List.map_append, List.map_singleton, hq]; exact ht9
    · rw [List.take_succ_eq_append_getElem hk', List.map_append, List.map_append, hes]; rfl
    · intro e he
      rcases List.mem_append.1 he with he | he
      · exact hop e he
      · rw [List.mem_singleton.1 he]
   refine aL rfl ?_; refine cH (vs := [_]) rfl jK rfl rfl rfl rfl fun t5 t6 o3 r6 D => ?_; have j9 := (g2.then p).then D; have k0 := (g3.then p).then D; have k1 := (b3.then p).then D; have f0 := a2.then D; have f1 := D.blk0 c9; have k2 := (b6.evo0 p).evo0 D; have k3 := (e7.evo0 p).evo0 D; refine aD (aH (.inl f0) ?_); refine aK [4] (by kernel_rfl) rfl ⟨?_, trivial⟩; refine aL rfl ?_; refine aC (aI rfl gL (aJ f1 rfl)) (aD (aH (.inl f0) ?_)); refine aK [11] (by kernel_rfl) rfl ⟨?_, trivial⟩; refine aL rfl ?_; have hsz61 := (k0).size; refine cN rfl rfl rfl rfl iY ((b5.evo0 p).evo0 D) (Src.ofOwn o3 ⟨by first | rfl | assumption, by first | rfl | assumption, by first | rfl | assumption, by first | rfl | assumption, trivial⟩) (by omega) fun a61 c61 t7 ob61 e2 M hob422 => ?_; have k4 := b0.app (Lt.blk f1) hob422; have k5 := d4.symm.app (Lt.own k2) hob422; have o4 := k0.step M (fun y hy => .inl (List.mem_cons_of_mem _ (List.mem_append_left _ hy))); have d2 := f0.step M (fun y hy => .inl (List.mem_cons_of_mem _ hy)); have hso61 := mS hob422 hsz61; refine aD (aH (.inl d2) ?_); refine aet 12 rfl (fun _ hS => aF rfl) d2 ?_; refine aet 13 rfl (fun _ hS => aA rfl eS) d2 ?_; refine aK [14] (by kernel_rfl) rfl ⟨?_, trivial⟩; refine aL rfl ?_
   refine aR rfl rfl (by first | rfl | assumption) kK (M.blk f1 b0.nmem) rfl fun t8 f2 O => ?_
   have k6 := o4.step O (fun y hy => .inl (by rw [List.mem_singleton.1 hy]; simp))
   have k7 := (k1.step M hGc2.mem).step O (fun y hy => .inl (by rw [List.mem_singleton.1 hy]; simp))
   have o5 := d2.step O (fun y hy => .inl (by rw [List.mem_singleton.1 hy]; simp))
   try simp only [cP, Nat.reduceAdd] at f2
   refine aD (aH (.inl o5) ?_); refine bK (by kernel_rfl) (aB ?_); refine aP (aE (aC (aA rfl dK) (aC (aI rfl dQ (aJ (O.blk (M.blk (D.blk0 (p.blk0 c2)) e0.symm.nmem) d9.symm.nmem1) rfl)) (cH (vs := [_]) rfl jJ rfl rfl rfl rfl fun t9 u0 o6 r7 G => ?_)))); have k8 := ((j9.step M c1.mem).step O b2.mem1).then G; have k9 := ((k3.evo M d5.own).evo O d7.own1).evo0 G; have l0 := (((d0.evo0 D).evo M b9.symm.own).evo O b8.symm.own1).evo0 G; have l1 := (((a7.evo0 D).evo M c6.symm.own).evo O c5.symm.own1).evo0 G; have l2 := (e2.evo O k4.symm.own1).evo0 G; have hsz68 := ((k6.then G)).size; refine cN rfl rfl rfl rfl iX (((k2.evo M d4.symm.own).evo O a3.symm.own1).evo0 G) (Src.ofOwn o6 ⟨by first | rfl | assumption, trivial⟩) (by omega) fun a68 c68 u1 ob68 e3 W hob488 => ?_; have hso68 := mS hob488 hsz68; refine cS (aD (bA (aB (aP ?_)))); refine aC (aZ rfl rfl (by omega) (by omega)) ?_; refine aE (aD (aO ?_)); refine ⟨⟨k + 1, es ++ [⟨m[k].ls, bs9, m[k].ps, false⟩], k + 1, a61, c61, ob61, k + 1, a68, c68, ob68⟩, ?_, ⟨rfl, rfl, trivial⟩, ⟨rfl, rfl, rfl, trivial⟩, (k8.step W d8.mem), ?_⟩
   · (try dsimp only); omega
   try dsimp only
   have hrs := lR hrk ((k6.then G).step W (fun y hy => .inl (List.mem_cons_of_mem _ (List.mem_append_right _ hy)))) (IB hso61 hso68); have hg9 : Ent.Good ⟨m[k].ls, bs9, m[k].ps, false⟩ := ⟨⟨hck.2.2, kE hck.2.1, uQ (hdat2 _ hmem).2⟩, hpk, hck32⟩; have hr9 := vF (l1.evo W c7.symm.own) hlr (l0.evo W c0.symm.own) hb44 (FD c5.symm (c6.symm.app (Lt.own (a7.evo0 D)) hob422) (c7.symm.app (Lt.own l1) hob488)) (FD b8.symm (b9.symm.app (Lt.own (d0.evo0 D)) hob422) (c0.symm.app (Lt.own l0) hob488)) hg9; unfold LdI; dsimp only; have f4 := (l2.evo W k5.symm.own); have ht9 := e3; refine ⟨by omega, (W.blk (G.blk0 f2) a3.nmem), ⟨rows9 ++ [_], ?_, lS hrs rfl hr9⟩, ?_, (k9.evo W d6.own), rfl, rfl, ?_, ?_, k4, (a3.app (Lt.blk (G.blk0 f2)) hob488), (k5.symm.app (Lt.own l2) hob488), (d5.app (Lt.own k3) hob422), (d6.app (Lt.own k9) hob488), d7, b2, (c1.app j9 hob422), (d8.app k8 hob488), g5, ((k7.then G).step W hGc3.mem), (hGc2.app k1 hob422), (hGc3.app (k7.then G) hob488)⟩
   · rw [List.flatten_append, List.flatten_singleton]; exact f4
   · rw [List.take_succ_eq_append_getElem hk', List.map_append, List.map_singleton, hq]; exact ht9
   · rw [List.take_succ_eq_append_getElem hk', List.map_append, List.map_append, hes]; rfl
   · intro e he
     rcases List.mem_append.1 he with he | he
     · exact hop e he
     · rw [List.mem_singleton.1 he]
  obtain rfl : k = m.length := by omega
  rw [List.take_length] at f3 hes
  have hel : es.length = m.length := by have := congrArg List.length hes; simpa using this
  refine bI (bE (bE (bH (aB ?_)))); refine csr (aE ?_)
  refine aG (vs := [_]) wJ rfl (HO (HH f3 rfl (fun x hx => (hdat2 x hx).1.evo RLB.pers hVc)) (by simp; omega) (fun s hs => by obtain ⟨x, hx, rfl⟩ := List.mem_map.1 hs; exact (lQ (hchk2 x hx).1).1)) rfl ?_
  rintro _ u2 ⟨bx, rfl, b7⟩; refine aE (aC (bT rfl rfl) ?_); refine aC (bT rfl rfl) ?_; refine cS (wan (aM (csr (aE (aC (gB rfl rfl) ?_))))); refine wnn (bS rfl (fun n3 => ?_) (fun n3 => ?_))
  ·exact absurd rfl n3
  refine aQ (aB (csr (aE (aE (aC (aF rfl) (aC (aA rfl sV) ?_)))))); refine aR rfl rfl (by first | rfl | assumption) vP (b7.blk0 hBS) rfl fun u3 l3 d3 => ?_
  have o7 := (f9.then b7).step d3 (fun y hy => .inl (by rw [List.mem_singleton.1 hy]; simp))
  have r8 := (hVc.then b7).step d3 (fun y hy => .inl (by rw [List.mem_singleton.1 hy]; simp))
  try simp only [cP, Nat.reduceAdd] at l3
  refine wnn (csr (aE (cS (cS (wan (aT (uE rfl rfl rfl rfl ?_)))))))
  exact ⟨((f8.then b7).step d3 b2.mem1), .inr ⟨p3, bs, so, es, rfl, ⟨_, sa, sc, rows9, by rw [hel]; exact l3, by rw [hel]; exact ((hS.evo0 b7).evo d3 b0.symm.own1), lR hrk o7 (fun y hy => .inl (sub2 hy)), b0⟩, b2, c1, m.map (fun x => (x.ls, x.ps)), hdm, fun i j hij hj => by simpa using hsort i j hij (by simpa using hj), hes, hop⟩⟩
end Go.Proofs.YtlpdhbmhbjjnhaaGreatDoor
namespace Go.Proofs.YtlpdhbmhbjjnhaaGreatDoor
open Go.RowKit Go.W
attribute [local irreducible] Decidable.decide
def Ent.row (e : Ent) : SD := (e.ls, e.out)
def Sto (X : List Nat) (w : World) (b : Nat) (ob : Option Nat) (l : List SD) : Prop :=
  ∃ ix a c rows, ∃ es : List Ent, w.heap[b]? = some (.cells #[.pointer ix, .slice a es.length c, .int .i32 0, .int .u32 0] 77 (0, 0)) ∧ OwnS w 88 4 a es.length c (List.flatten rows) ob ∧ RowsOk 4 REnt X w rows es ∧ Apart (some b) ob ∧
    (∀ y, y ∈ b :: ob.toList → y ∈ X) ∧ es.map Ent.row = l ∧ Tab w ∧ lX ∉ b :: ob.toList ∧ (∀ y, y ∈ X → y < w.heap.size)
theorem mO {X Y Z : List Nat} {w w' : World} {rows : List (List Value)} {es : List Ent} (h : RowsOk 4 REnt X w rows es) (he : Evo Z w w') (hz : ∀ z, z ∈ Z → z ∈ Y) (hy : ∀ y, y ∈ Y → y ∈ X ∨ w.heap.size ≤ y) : RowsOk 4 REnt Y w' rows es := by
  refine ⟨h.1, fun k hk hk' => ?_⟩
  obtain ⟨h1, h2⟩ := h.2 k hk hk'
  refine ⟨h1, ?_⟩
  have h3 : REnt Y w rows[k] es[k] := REnt.fresh _ _ _ _ _ hy h2
  exact REnt.pers _ _ _ _ _ (he.mono hz) h3
theorem Sto.step {X Y Z : List Nat} {w w' : World} {b : Nat} {ob : Option Nat} {l : List SD} (h : Sto X w b ob l) (he : Evo Z w w') (hz : ∀ z, z ∈ Z → z ∈ Y ∧ z ∉ b :: ob.toList ∧ z ≠ lX) (hy : ∀ y, y ∈ Y → (y ∈ X ∨ w.heap.size ≤ y) ∧ y < w'.heap.size) (hb : ∀ y, y ∈ b :: ob.toList → y ∈ Y) : Sto Y w' b ob l := by
  obtain ⟨ix, a, c, rows, es, h1, h2, h3, h4, h5, h6, h7, h8, h9⟩ := h
  refine ⟨ix, a, c, rows, es, he.blk h1 (fun hm => (hz b hm).2.1 (by simp)), h2.evo he (fun g hg hm => (hz g hm).2.1 (by simp [hg])), mO h3 he (fun z h => (hz z h).1) (fun y h => (hy y h).1), h4, hb, h6, h7.evo he (fun hm => (hz lX hm).2.2 rfl), h8, fun y h => (hy y h).2⟩
theorem Sto.evo {X : List Nat} {w w' : World} {b : Nat} {ob : Option Nat} {l : List SD} (h : Sto X w b ob l) (he : Evo [] w w') : Sto X w' b ob l := by
  obtain ⟨_, _, _, _, _, _, _, _, _, h5, _, _, _, h9⟩ := id h
  exact h.step he (fun z hz => by cases hz) (fun y hy => ⟨.inl hy, Nat.lt_of_lt_of_le (h9 y hy) he.size⟩) h5
theorem Sto.ser {X : List Nat} {w : World} {b : Nat} {ob : Option Nat} {l : List SD} (h : Sto X w b ob l) : ∀ s, s ∈ l → s.1.length ≤ 32 ∧ s.2.length ≤ 100000 ∧ jE s.2 ∧ ∀ x, x ∈ s.2 → x.Ok ∧ jF x := by
  obtain ⟨ix, a, c, rows, es, h1, h2, h3, h4, h5, rfl, h7, h8, h9⟩ := h
  intro s hs
  obtain ⟨e, he, rfl⟩ := List.mem_map.1 hs
  obtain ⟨k, hk, rfl⟩ := List.getElem_of_mem he
  have hk' : k < rows.length := by rw [h3.1]; exact hk
  obtain ⟨-, lv, pv, qv, -, -, -, -, -, hg⟩ := h3.2 k hk hk'
  refine ⟨hg.2.2, hg.few, fun i hi => ?_, fun x hx => ?_⟩
  · simp only [Ent.row, Ent.out, List.length_map] at hi
    have := hg.1.up i hi
    simpa only [Ent.row, Ent.out, List.getElem_map, nK] using this
  · obtain ⟨y, hy, rfl⟩ := List.mem_map.1 hx
    exact ⟨IY (hg.1.ok y hy), zB y⟩
theorem sto_of {w : World} {b : Nat} {ob : Option Nat} {es : List Ent} (h : StAt w b ob es) (hT : Tab w) (hg : lX ∉ b :: ob.toList) : Sto (b :: ob.toList) w b ob (es.map Ent.row) := by
  obtain ⟨ix, a, c, rows, h1, h2, h3, h4⟩ := h
  refine ⟨ix, a, c, rows, es, h1, h2, h3, h4, fun y hy => hy, rfl, hT, hg, fun y hy => ?_⟩
  rcases List.mem_cons.1 hy with rfl | hy
  · exact gC h1
  · cases ob with
    | none => cases hy
    | some g => rw [show y = g from by simpa using hy]; exact h2.lt
def gU (l : List SD) (i : Int) : SD := if 0 ≤ i ∧ i < l.length then l.getD i.toNat ([], []) else ([], [])
theorem qU {l : List SD} {i : Int} (h : i < 0 ∨ (l.length : Int) ≤ i) : gU l i = ([], []) := if_neg (by omega)
theorem iB {l : List SD} {k : Nat} (h : k < l.length) : gU l (k : Int) = l[k] := by
  unfold gU; rw [if_pos (by omega)]; simp [h]
def cnt (ps : List Smp) (t : Int) : Nat := ps.countP fun p => decide (p.t ≤ t)
theorem nB {ps : List Smp} (h : jE ps) : ∀ {i j : Nat} (hij : i < j) (hj : j < ps.length), (ps[i]'(by omega)).t < ps[j].t := by
  intro i j hij
  induction j with
  | zero => omega
  | succ j ih =>
    intro hj
    have h1 := h j hj
    by_cases e : i = j
    · subst e; exact h1
    · have := ih (by omega) (by omega); omega
theorem IV {ps : List Smp} (h : jE ps) {t : Int} {n : Nat} (hn : n ≤ ps.length) (h1 : ∀ k (hk : k < ps.length), k < n → ps[k].t ≤ t) (h2 : ∀ k (hk : k < ps.length), n ≤ k → t < ps[k].t) : cnt ps t = n := by
  unfold cnt
  rw [← List.take_append_drop n ps, List.countP_append]
  have e1 : (ps.take n).countP (fun p => decide (p.t ≤ t)) = (ps.take n).length := by
    rw [List.countP_eq_length]
    intro p hp
    obtain ⟨k, hk, rfl⟩ := List.getElem_of_mem hp
    simp only [List.length_take] at hk
    simp only [List.getElem_take, decide_eq_true_eq]
    exact h1 k (by omega) (by omega)
  have e2 : (ps.drop n).countP (fun p => decide (p.t ≤ t)) = 0 := by
    rw [List.countP_eq_zero]
    intro p hp
    obtain ⟨k, hk, rfl⟩ := List.getElem_of_mem hp
    simp only [List.length_drop] at hk
    simp only [List.getElem_drop, decide_eq_true_eq]
    have := h2 (n + k) (by omega) (by omega)
    omega
  rw [e1, e2, List.length_take]; omega
theorem vG (ps : List Smp) (t : Int) : cnt ps t ≤ ps.length := List.countP_le_length
theorem IW {ps : List Smp} (h : jE ps) (t : Int) : (∀ k (hk : k < ps.length), k < cnt ps t → ps[k].t ≤ t) ∧ ∀ k (hk : k < ps.length), cnt ps t ≤ k → t < ps[k].t := by
  have key : ∃ n, n ≤ ps.length ∧ (∀ k (hk : k < ps.length), k < n → ps[k].t ≤ t) ∧ ∀ k (hk : k < ps.length), n ≤ k → t < ps[k].t := by
    have go : ∀ m, m ≤ ps.length → ∃ n, n ≤ m ∧ (∀ k (hk : k < ps.length), k < n → ps[k].t ≤ t) ∧ ∀ k (hk : k < ps.length), n ≤ k → k < m → t < ps[k].t := by
      intro m
      induction m with
      | zero => exact fun _ => ⟨0, Nat.le_refl _, fun k _ h => by omega, fun k _ h h2 => by omega⟩
      | succ m ih =>
        intro hm
        obtain ⟨n, hn, h1, h2⟩ := ih (by omega)
        by_cases e : ps[m].t ≤ t
        · refine ⟨m + 1, Nat.le_refl _, fun k hk hkm => ?_, fun k _ h3 h4 => by omega⟩
          by_cases e2 : k = m
          · subst e2; exact e
          · have := nB h (show k < m by omega) (by omega); omega
        · refine ⟨n, by omega, h1, fun k hk h3 h4 => ?_⟩
          by_cases e2 : k = m
          · subst e2; omega
          · exact h2 k hk h3 (by omega)
    obtain ⟨n, hn, h1, h2⟩ := go ps.length (Nat.le_refl _)
    exact ⟨n, hn, h1, fun k hk h3 => h2 k hk h3 hk⟩
  obtain ⟨n, hn, h1, h2⟩ := key
  rw [IV h hn h1 h2]
  exact ⟨h1, h2⟩
def win (ps : List Smp) (fr to : Int) : List Smp := ((ps.take (cnt ps to)).drop (cnt ps fr)).filter fun p => !p.st
end Go.Proofs.YtlpdhbmhbjjnhaaGreatDoor
namespace Go.W
open Go.RowKit
section
variable {P : Program} {σ : Env} {w : World}
theorem BK {n : Nat} {fn : Func} {Φ : Value → World → Prop} (h : lH P fn (Ret Φ) .ret (n, []) σ w) : BM P fn (Ret Φ) .ret (n, []) σ w := fun a ha => h.2 a (by rw [ha.1, ha.2.1]; exact ha)
end
end Go.W
namespace Go.Proofs.YtlpdhbmhbjjnhaaGreatDoor
open Go.RowKit Go.W
attribute [local irreducible] Decidable.decide
abbrev muLk : Go.Conc.Locks.MuLink := { lock := 57, unlock := 58, ilock := 86, iunlock := 87, lockSlow := 105, unlockSlow := 108, disable := 101, enable := 103, acquire := 104, relMerge := 106, cas32 := 102, add32 := 107, tMutex := 75, tIMutex := 73, tPMutex := 141, tPIMutex := 158, tPI32 := 160, tUP := 162, tNoCopy := 70, tU32 := 71 }
theorem muLb : Go.Conc.Locks.MuLib Tryz.prog muLk where
  f_lock := Tryz.func57
  f_unlock := Tryz.func58
  f_ilock := Tryz.func86
  f_iunlock := Tryz.func87
  f_disable := Tryz.func101
  f_enable := Tryz.func103
  f_acquire := Tryz.func104
  f_relMerge := Tryz.func106
  f_cas32 := Tryz.func102
  f_add32 := Tryz.func107
  underlying_tIMutex := Tryz.underlying73
  runUnderlying_tIMutex := fun w => by kernel_rfl
  sizeOf_tIMutex := fun w => by kernel_rfl
  isAgg_tIMutex := fun w => by kernel_rfl
  zeroValue_tIMutex := fun w => by kernel_rfl
  underlying_tMutex := Tryz.underlying75
  runUnderlying_tMutex := fun w => by kernel_rfl
  sizeOf_tMutex := fun w => by kernel_rfl
  isAgg_tMutex := fun w => by kernel_rfl
  zeroValue_tMutex := fun w => by kernel_rfl
  underlying_tPMutex := Tryz.underlying141
  runUnderlying_tPMutex := fun w => by kernel_rfl
  sizeOf_tPMutex := fun w => by kernel_rfl
  isAgg_tPMutex := fun w => by kernel_rfl
  zeroValue_tPMutex := fun w => by kernel_rfl
  underlying_tPIMutex := Tryz.underlying158
  runUnderlying_tPIMutex := fun w => by kernel_rfl
  sizeOf_tPIMutex := fun w => by kernel_rfl
  isAgg_tPIMutex := fun w => by kernel_rfl
  zeroValue_tPIMutex := fun w => by kernel_rfl
  underlying_tPI32 := Tryz.underlying160
  runUnderlying_tPI32 := fun w => by kernel_rfl
  sizeOf_tPI32 := fun w => by kernel_rfl
  isAgg_tPI32 := fun w => by kernel_rfl
  zeroValue_tPI32 := fun w => by kernel_rfl
  underlying_tUP := Tryz.underlying162
  runUnderlying_tUP := fun w => by kernel_rfl
  sizeOf_tUP := fun w => by kernel_rfl
  isAgg_tUP := fun w => by kernel_rfl
  zeroValue_tUP := fun w => by kernel_rfl
  underlying_tNoCopy := Tryz.underlying70
  runUnderlying_tNoCopy := fun w => by kernel_rfl
  sizeOf_tNoCopy := fun w => by kernel_rfl
  isAgg_tNoCopy := fun w => by kernel_rfl
  zeroValue_tNoCopy := fun w => by kernel_rfl
  underlying_t21 := Tryz.underlying21
  runUnderlying_t21 := fun w => by kernel_rfl
  sizeOf_t21 := fun w => by kernel_rfl
  isAgg_t21 := fun w => by kernel_rfl
  zeroValue_t21 := fun w => by kernel_rfl
  room_tIMutex := by kernel_rfl
section
variable {P : Program} {N : NN} {R : eQ} {σ : Env} {w : World} {ops : Array Oper} {rest : List Oper} {T : TypeId} {pos : String} {after : Array Edge} {d : Nat}
abbrev dfm (f : FuncId) (v : Value) : Deferred := { target := .fn (.func f) #[], args := #[v] }
theorem EB {x : Operand} {ats : Array TypeId} {f : FuncId} {v : Value} (hx : σ.ev x = some v) (h : WL P (N.1, dfm f v :: N.2) ops R rest σ w) :
    WL P N ops R (⟨none, .defer ⟨.value (.func f), #[x], ats⟩, T, pos, after, none⟩ :: rest) σ w := fun a ha => wpList_plain rfl fun K hK => by
  unfold Oper.wp
  have hrun : (execOp a.eval ⟨none, .defer ⟨.value (.func f), #[x], ats⟩, T, pos, after, none⟩).run P w = .ok (.defer (dfm f v)) w := by
    have hf : a.eval (.func f) = .func (.func f) #[] #[] := rfl
    simp [execOp, resolve, ha.agrees x _ hx, hf, Deferred.ofValue]
  rw [hrun]
  exact hK _ _ (h _ ⟨ha.1, by show dfm f v :: a.defers = _; rw [ha.2.1], ha.2.2⟩)
theorem rT {n : Nat} {fn g : Func} {f : FuncId} {r : Value} {Φ : Value → World → Prop} {t : Tmp} {v : Value} (hr : fn.results = #[.tmp t]) (hv : σ.get t = some v) (hg : P.funcs[f]? = some g) (hn : (g.name == "runtime.NumGoroutine") = false) (hb : g.body.isNone = false)
    (h : CallsD P f #[r] .returning w fun e u' w' => u' = .returning ∧ e = .returned (.tuple #[]) ∧ Φ v w') : BM P fn (Ret Φ) .ret (n, [dfm f r]) σ w := fun a ha => by
  refine leaves_cons (by simp) ?_ (h.mono ?_)
  · have hn' : ¬ g.name = "runtime.NumGoroutine" := by simpa using hn
    have hb' : ¬ g.body = none := by intro hh; simp [hh] at hb
    simp [invoke, callFunc, hg, hn', hb']
  · rintro e u' w' ⟨rfl, rfl, hΦ⟩
    have h1 := (uF (P := P) (n := n) (fn := fn) (Φ := fun v _ => Φ v w') (w := w') hr hv hΦ).2 { a with defers := [] } ⟨rfl, rfl, ha.2.2⟩
    obtain ⟨u, hu, v1, hv1, hΦ1⟩ := h1
    exact ⟨u, hu, v1, hv1, hΦ1⟩
end
theorem pH {w : World} {b : Nat} {cs : Array Value} {U : TypeId} {fz : Nat × Nat} (hb : w.heap[b]? = some (.cells cs U fz)) (o : Nat) (v : Value) : (w.setCell ⟨b, o, none⟩ v).heap[b]? = some (.cells (cs.setIfInBounds o v) U fz) := by
  simp only [World.setCell, Array.getElem?_modify, if_true, hb, Option.map_some]; rfl
open Go.MuLone in
theorem HS {w : World} {b : Nat} {x y u : Value} {U : TypeId} (hb : w.heap[b]? = some (.cells #[x, y, .int .i32 0, u] U (0, 0))) :
    Calls Tryz.prog 57 #[.pointer (some ⟨b, 2, none⟩)] w (Ret fun v w' => v = .tuple #[] ∧ w'.heap[b]? = some (.cells #[x, y, .int .i32 1, u] U (0, 0)) ∧ Evo [b] w w') := by
  refine (lock_free muLb ⟨b, 2, none⟩ w (aJ hb rfl) ?_).mono ?_
  · simp [World.frozen?, hb]
  · rintro e w' ⟨rfl, rfl⟩
    exact ⟨_, rfl, rfl, by simpa using pH hb 2 (.int .i32 1), lG w ⟨b, 2, none⟩ _⟩
open Go.MuLone in
theorem qP {w : World} {b : Nat} {x y u : Value} {U : TypeId} {Φ : World → Prop} (hb : w.heap[b]? = some (.cells #[x, y, .int .i32 1, u] U (0, 0))) (hΦ : ∀ w', w'.heap[b]? = some (.cells #[x, y, .int .i32 0, u] U (0, 0)) → Evo [b] w w' → Φ w') :
    CallsD Tryz.prog 58 #[.pointer (some ⟨b, 2, none⟩)] .returning w fun e u' w' => u' = .returning ∧ e = .returned (.tuple #[]) ∧ Φ w' := by
  refine (unlock_deferred muLb ⟨b, 2, none⟩ .returning w (aJ hb rfl) ?_).mono ?_
  · simp [World.frozen?, hb]
  · rintro e u' w' ⟨rfl, rfl, rfl⟩
    exact ⟨rfl, rfl, hΦ _ (by simpa using pH hb 2 (.int .i32 0)) (lG w ⟨b, 2, none⟩ _)⟩
end Go.Proofs.YtlpdhbmhbjjnhaaGreatDoor
namespace Go.Proofs.YtlpdhbmhbjjnhaaGreatDoor
open Go.Lib Go.RowKit Go.Sort Go.W
attribute [local irreducible] Decidable.decide
theorem gH : gG Tryz.prog 4 = some false := by kernel_rfl
theorem zR : gG Tryz.prog 83 = some false := by kernel_rfl
theorem nY : iS Tryz.prog 68 = some 4 := by kernel_rfl
theorem mG : cZ Tryz.prog 77 2 = some 2 := by kernel_rfl
theorem sU : cZ Tryz.prog 88 0 = some 0 := by kernel_rfl
theorem sT : cZ Tryz.prog 88 1 = some 1 := by kernel_rfl
theorem jN : cZ Tryz.prog 88 2 = some 2 := by kernel_rfl
theorem mF : cZ Tryz.prog 88 3 = some 3 := by kernel_rfl
theorem fY : dB Tryz.prog 14 := ⟨_, Tryz.func14, by kernel_rfl, by kernel_rfl⟩
theorem wB : dB Tryz.prog 57 := ⟨_, Tryz.func57, by kernel_rfl, by kernel_rfl⟩
theorem wA : dB Tryz.prog 59 := ⟨_, Tryz.func59, by kernel_rfl, by kernel_rfl⟩
theorem zM : dW Tryz.prog 4 = some 1 := by kernel_rfl
theorem vQ : dW Tryz.prog 43 = some 1 := by kernel_rfl
section
variable {P : Program} {σ : Env} {w : World} {dst : Option Nat} {T : TypeId} {pos : String} {after : Array Edge} {g : Option (Nat × Bool)}
theorem DJ {x y : Operand} {t t' : TypeId} {a : Addr} (hx : σ.ev x = some (.pointer (some a))) (hy : σ.ev y = some (.pointer none)) (h : P.underlying t = some (.pointer (P.pointee t))) : Ex P σ ⟨dst, .binOp .eql t x y t', T, pos, after, g⟩ w (.bool false) w := fun ρ hρ => by
  have := Go.run_eql_pointer_nil (P := P) (w := w) t (some a) h
  simp [execOp, hρ x _ hx, hρ y _ hy, eqGuard, this]
end
theorem qF {α : Type} {R : Rel α} {X : List Nat} {w w' : World} {e : TypeId} {sz : Nat} {a : Option Addr} {n c k : Nat} {rows : List (List Value)} {es : List α} {ob : Option Nat} (h : OwnS w e sz a n c rows.flatten ob) (hr : RowsOk sz R X w' rows es) (hk : k < rows.length) (hz : 0 < n) : ∃ g, ob = some g ∧ a = some ⟨g, 0, none⟩ ∧ ∀ j v, rows[k][j]? = some v → w.cell? ⟨g, 0 + k * sz + j, none⟩ = some v := by
  obtain ⟨g, hg, ha, hc⟩ := h.cells hz
  refine ⟨g, hg, ha, fun j v hv => ?_⟩
  have hj : j < sz := by rw [← hr.flen _ (List.getElem_mem hk)]; exact (List.getElem?_eq_some_iff.1 hv).1
  have := hc (k * sz + j) v (by rw [pO hr.flen hk hj]; exact hv)
  rw [show 0 + k * sz + j = 0 + (k * sz + j) by omega]
  exact this
theorem qE {r : List Value} {vs : List Value} (h : r = vs) {j : Nat} {v : Value} (hv : vs[j]? = some v) : r[j]? = some v := by rw [h]; exact hv
theorem zL : Tryz.prog.underlying 34 = some (.pointer (Tryz.prog.pointee 34)) := by kernel_rfl
theorem uK {X : List Nat} {w : World} {v : Value} {ps : List Smp} (hs : RSl 3 RSmp X w v ps) (hr : jE ps) (hl : ps.length ≤ 1000000000) (t : Int) : Calls Tryz.prog 37 #[v, .int .i64 t] w (Ret fun r w' => r = .int .i64 (cnt ps t : Nat) ∧ Evo [] w w') := by
  obtain ⟨sa, sc, rfl, hlc, e1⟩ := hs; refine aU (N := 28) Tryz.func37 rfl rfl rfl ?_; refine csr (wan (csr (aE (aC (aX rfl Tryz.underlying43 rfl) ?_)))); refine cS (wan (aM (bB ?_)))
  refine cM (α := Nat × Nat) ((0, ps.length)) (fun x => [(5, .int .i64 (x.1 : Nat)), (6, .int .i64 (x.2 : Nat))]) [(0, _), (1, _), (4, _)] (fun x wr => Evo [] w wr ∧ (x.1 ≤ x.2 ∧ x.2 ≤ ps.length ∧ (∀ k (hk : k < ps.length), k < x.1 → ps[k].t ≤ t) ∧ ∀ k (hk : k < ps.length), x.2 ≤ k → t < ps[k].t)) (fun x => x.2 - x.1) ⟨rfl, rfl, trivial⟩ ⟨rfl, rfl, rfl, trivial⟩ ⟨(Evo.refl [] w), ⟨Nat.zero_le _, Nat.le_refl _, fun k _ h => by simp at h, fun k _ h => by simp at h; omega⟩⟩ ?_
  rintro ⟨lo, hi⟩ wr1 ⟨p, ⟨h1, h2, h3, h4⟩⟩; show CW _ _ _ _ [(5, .int .i64 (lo : Nat)), (6, .int .i64 (hi : Nat)), (0, _), (1, _), (4, _)] _
  try dsimp only at h1 h2 h3 h4
  refine aM (csr (aE (aE (aC (cQ rfl rfl) ?_)))); refine wnn (bS rfl (fun y => ?_) (fun y => ?_))
  ·have hk' : (lo + hi) / 2 < ps.length := by omega
   obtain ⟨b1, o1, vs1, ha1, hb1, -, A, rfl, hz1⟩ := e1 _ hk'; refine aQ (aB (bB (csr (aE (aE ?_))))); refine aC (aZ rfl rfl (by omega) (by omega)) ?_
   refine aC (DD (m := lo + hi) (n := 2) rfl rfl (by omega) (by omega) (by omega) (by simp [IntKind.max, IntKind.signed, IntKind.bits]; omega)) ?_
   refine wan (csr (aE (aE ?_)))
   refine aC (cE (n := (lo + hi) / 2) (by rw [ha1]; rfl) rfl dM (by omega)) ?_
   refine aC (aA rfl cY) (aC (aI rfl dO ((A.evo ((p).any X) hb1) 0 _ rfl)) (aE (aC (fM rfl rfl) ?_))); refine wnn (bS rfl (fun q => ?_) (fun q => ?_))
   ·refine aP (aE ?_); refine aC (aZ rfl rfl (by omega) (by omega)) ?_; refine cS (aD (bA (aO ?_))); refine ⟨⟨(lo + hi) / 2 + 1, hi⟩, ?_, ⟨rfl, rfl, trivial⟩, ⟨rfl, rfl, rfl, trivial⟩, p, ?_⟩
    · (try dsimp only); omega
    try dsimp only
    refine ⟨by omega, h2, fun k hk hlt => ?_, h4⟩
    by_cases e : k = (lo + hi) / 2
    · subst e; exact q
    · have := nB hr (show k < (lo + hi) / 2 by omega) hk'; omega
   refine aP (aE (cS (aD (bA (aO ?_))))); refine ⟨⟨lo, (lo + hi) / 2⟩, ?_, ⟨rfl, rfl, trivial⟩, ⟨rfl, rfl, rfl, trivial⟩, p, ?_⟩
   · (try dsimp only); omega
   try dsimp only
   refine ⟨by omega, by omega, h3, fun k hk hle => ?_⟩
   by_cases e : k = (lo + hi) / 2
   · subst e; omega
   · have := nB hr (show (lo + hi) / 2 < k by omega) hk; omega
  obtain rfl : lo = hi := by omega
  refine bI (bE (bE (bH (aB ?_)))); refine csr (aE (wan (aT (br1 ?_)))); exact ⟨by rw [IV hr h2 h3 h4], p⟩
theorem oL {X : List Nat} {w : World} {b : Nat} {ob : Option Nat} {l : List SD} (h : Sto X w b ob l) : Calls Tryz.prog 14 #[.pointer (some ⟨b, 0, none⟩)] w (Ret fun r w' => r = .int .i64 (l.length : Nat) ∧ Evo [] w w') := by
  obtain ⟨ix, a, c, rows, es, h1, h2, h3, h4, h5, rfl, h7, h8, h9⟩ := h; refine aU (N := 10) Tryz.func14 rfl rfl rfl ?_; refine csr (wan (aM (csr (aE (aC (DJ rfl rfl zL) ?_))))); refine wnn (dZ rfl (fun p => ?_) (fun p => ?_))
  ·cases p
  refine aQ (aB (csr (aE (aC (aF rfl) (wfl rfl eS rfl gL h1 rfl (aC (aX rfl Tryz.underlying68 rfl) ?_)))))); refine wan (aT (br1 ?_)); exact ⟨by rw [List.length_map], (Evo.refl [] w)⟩
theorem tU {X : List Nat} {w : World} {b : Nat} {ob : Option Nat} {l : List SD} (h : Sto X w b ob l) (i : Int) : Calls Tryz.prog 16 #[.pointer (some ⟨b, 0, none⟩), .int .i64 i] w (Ret fun r w' => sE 58 2 RLB X w w' r (gU l i).1) := by
  have h0 := h; obtain ⟨ix, a, c, rows, es, h1, h2, h3, h4, h5, rfl, h7, h8, h9⟩ := h; refine aU (N := 22) Tryz.func16 rfl rfl rfl ?_; refine csr (wan (aM (aM (gQ (α := Bool) (fun z12 => [(12, .bool z12)]) [(0, _), (1, _), (4, _)] (fun z12 wr => Evo [] w wr ∧ (z12 = true ↔ (i < 0 ∨ ((es.map Ent.row).length : Int) ≤ i))) ⟨rfl, rfl, rfl, trivial⟩ ?_ ?_))))
  ·refine aP (aE (aC (cQ rfl rfl) ?_)); refine aE (bV (t := 7) rfl (fun D => ?_) (fun D => ?_))
   ·refine bL (bL (bL (bL (cV (aD (aO ?_)))))); refine ⟨_, ⟨rfl, trivial⟩, ⟨rfl, rfl, rfl, trivial⟩, (Evo.refl [] w), ?_⟩
    simp only [decide_eq_true_eq, Bool.false_eq_true, Bool.true_eq_false, true_iff, false_iff, eq_self, iff_true]; omega
   refine bJ (aE (bJ (aE (bJ (aG (vs := [_]) fY rfl (oL (h0.evo (Evo.refl [] w))) rfl ?_))))); rintro _ w1 ⟨rfl, E⟩; refine bJ (aC (fR rfl rfl) ?_); refine cR (aD (aO ?_)); refine ⟨_, ⟨rfl, trivial⟩, ⟨rfl, rfl, rfl, trivial⟩, ((Evo.refl [] w).then E), ?_⟩
   simp only [decide_eq_true_eq, Bool.false_eq_true, Bool.true_eq_false, true_iff, false_iff, eq_self, iff_true]; omega
  rintro z12 w6 ⟨y, hz12⟩; refine aB ?_; show CW _ _ _ _ [(12, _), (0, _), (1, _), (4, _)] _; have p := (Evo.refl [] w).then y; refine dZ rfl (fun q => ?_) (fun q => ?_)
  ·subst q; have hj12 := hz12.1 rfl; refine csr (wan (aT (aN (br1 ?_)))); unfold sE; rw [qU hj12]; exact ⟨none, 0, none, [], rfl, OwnS.nil _ _ _, ⟨rfl, fun k h => by simp at h⟩, Ge.nil _, p⟩
  subst q
  have hj12 : ¬ (i < 0 ∨ ((es.map Ent.row).length : Int) ≤ i) := fun h9 => by have := hz12.2 h9; cases this
  obtain ⟨k, rfl⟩ := Int.eq_ofNat_of_zero_le (show 0 ≤ i by omega)
  have hk : k < es.length := by rw [List.length_map] at hj12; omega
  have hk' : k < rows.length := by rw [h3.1]; exact hk
  obtain ⟨hr4, lv, pv, qv, hrow, hlv, hpv, H, hqv, hg5⟩ := h3.2 k hk hk'; obtain ⟨g, hgo, hga, hgc⟩ := qF h2 h3 hk' (by omega); have hlv1 := hlv.one; refine aQ (aB (csr (aE (aC (aF rfl) (wfl rfl eS rfl gL (y.blk0 h1) rfl (aE (aC (cC (n := k) rfl rfl hga rfl nY hk) ?_))))))); refine aC (aA rfl sU) ?_; refine aC (aI rfl dQ ((p).cell (hgc 0 _ (qE hrow rfl)) (by simp))) ?_
  refine aG (vs := [_]) kP rfl (mU (hlv.evo RLB.pers ((p).any X)) RLB.one (by have := hg5.2.2; omega)) rfl ?_
  rintro _ I ⟨la, lc, ob9, lrows, rfl, F, hlr, G, A⟩; refine wan (aT (br1 ?_))
  rw [iB (by rw [List.length_map]; exact hk), List.getElem_map]
  exact ⟨la, lc, ob9, lrows, rfl, F, ⟨hlr.1, fun k h h' => hlr.2 k h h'⟩, fun g hg => Nat.le_trans p.size (G g hg), (p.then A)⟩
theorem AP {X : List Nat} {w : World} {rows : List (List Value)} {es : List Ent} {k : Nat} {r : List Value} {e : Ent} (h : RowsOk 4 REnt X w rows es) (hk : k < es.length) (h1 : r.length = 4) (h2 : REnt X w r e) : RowsOk 4 REnt X w (rows.set k r) (es.set k e) := by
  refine ⟨by simp [h.1], fun i hi hi' => ?_⟩
  simp only [List.getElem_set]
  simp only [List.length_set] at hi hi'
  by_cases e1 : k = i
  · rw [if_pos e1]
    subst e1
    exact ⟨by simpa using h1, by simpa using h2⟩
  · rw [if_neg e1, if_neg e1]
    exact h.2 i hi hi'
theorem yG {es : List Ent} {k : Nat} (hk : k < es.length) {e : Ent} (he : e.row = es[k].row) : (es.set k e).map Ent.row = es.map Ent.row := by
  apply List.ext_getElem
  · simp
  · intro i h1 h2
    simp only [List.getElem_map, List.getElem_set]
    split
    · rename_i h; subst h; exact he
    · rfl
def Ent.opened (e : Ent) : Ent := { e with op := true }
theorem unp_out {e : Ent} (hg : e.Good) {out : List Smp} {z : Int} (h : nM e.bs out z) : out = e.out := by
  rcases h with ⟨-, h1, h2, h3⟩ | ⟨-, -, h⟩
  · have h4 := IH h1 hg.1 h3 hg.2.1
    rw [uW h2] at h4; exact h4
  · exact absurd ⟨e.ps, hg.1, hg.2.1⟩ h
theorem FP {rows : List (List Value)} (h : ∀ r, r ∈ rows → r.length = 4) {k : Nat} (hk : k < rows.length) {x y z u : Value} (hr : rows[k] = [x, y, z, u]) (V U : Value) : (rows.flatten.set (k * 4 + 2) V).set (k * 4 + 3) U = (rows.set k [x, y, V, U]).flatten := by
  rw [pN h hk (by decide), hr, show [x, y, z, u].set 2 V = [x, y, V, u] from rfl, pN (sz := 4) (rows := rows.set k [x, y, V, u]) (fun r hm => ?_) (by simpa using hk) (by decide)]
  · simp only [List.getElem_set_self, List.set_set]; rfl
  · rcases List.mem_or_eq_of_mem_set hm with h1 | rfl
    · exact h r h1
    · rfl
theorem rsl_nil {α : Type} {sz : Nat} {R : Rel α} {X : List Nat} {w : World} : RSl sz R X w (.slice none 0 0) [] := ⟨none, 0, rfl, Nat.le_refl _, fun k h => by simp at h⟩
theorem qR {b : Nat} {ob : Option Nat} {X : List Nat} (h : ∀ y, y ∈ b :: ob.toList → y ∈ X) {w w' : World} (he : Evo (b :: ob.toList) w w') : Evo X w w' := he.mono h
theorem oH {X : List Nat} {w : World} {b : Nat} {ob : Option Nat} {l : List SD} (h : Sto X w b ob l) (i : Int) : Calls Tryz.prog 35 #[.pointer (some ⟨b, 0, none⟩), .int .i64 i] w (Ret fun r w' => Sto X w' b ob l ∧ RSl 3 RSmp X w' r (gU l i).2 ∧ Evo (b :: ob.toList) w w') := by
  have h0 := h; obtain ⟨ix, a, c, rows, es, h1, h2, h3, h4, h5, rfl, h7, h8, h9⟩ := h; refine vI (N := 50) Tryz.func35 rfl rfl rfl ?_; refine csr (wan (aM (aM (gQ (α := Bool) (fun z13 => [(13, .bool z13)]) [(0, _), (1, _), (4, _)] (fun z13 wr => Evo [] w wr ∧ (z13 = true ↔ (i < 0 ∨ ((es.map Ent.row).length : Int) ≤ i))) ⟨rfl, rfl, rfl, trivial⟩ ?_ ?_))))
  ·refine aP (aE (aC (cQ rfl rfl) ?_)); refine aE (bV (t := 8) rfl (fun a6 => ?_) (fun a6 => ?_))
   ·refine bL (bL (bL (bL (cV (aD (aO ?_)))))); refine ⟨_, ⟨rfl, trivial⟩, ⟨rfl, rfl, rfl, trivial⟩, (Evo.refl [] w), ?_⟩
    simp only [decide_eq_true_eq, Bool.false_eq_true, Bool.true_eq_false, true_iff, false_iff, eq_self, iff_true]; omega
   refine bJ (aE (bJ (aE (bJ (aG (vs := [_]) fY rfl (oL (h0.evo (Evo.refl [] w))) rfl ?_))))); rintro _ w1 ⟨rfl, a7⟩; refine bJ (aC (fR rfl rfl) ?_); refine cR (aD (aO ?_)); refine ⟨_, ⟨rfl, trivial⟩, ⟨rfl, rfl, rfl, trivial⟩, ((Evo.refl [] w).then a7), ?_⟩
   simp only [decide_eq_true_eq, Bool.false_eq_true, Bool.true_eq_false, true_iff, false_iff, eq_self, iff_true]; omega
  rintro z13 w8 ⟨D, hz13⟩; refine aB ?_; show CW _ _ _ _ [(13, _), (0, _), (1, _), (4, _)] _; have K := (Evo.refl (b :: ob.toList) w).then D; refine dZ rfl (fun F => ?_) (fun F => ?_)
  ·subst F; have hj13 := hz13.1 rfl; refine csr (wan (aT (aN (BK (br1 ?_)))))
   exact ⟨h0.evo ((Evo.refl [] w).then D), by rw [qU hj13]; exact rsl_nil, K⟩
  subst F
  have hj13 : ¬ (i < 0 ∨ ((es.map Ent.row).length : Int) ≤ i) := fun h9 => by have := hz13.2 h9; cases this
  obtain ⟨k, rfl⟩ := Int.eq_ofNat_of_zero_le (show 0 ≤ i by omega)
  have hk : k < es.length := by rw [List.length_map] at hj13; omega
  have hk' : k < rows.length := by rw [h3.1]; exact hk
  obtain ⟨hr4, lv, pv, qv, hrow, hlv, hpv, b0, hqv, hg5⟩ := h3.2 k hk hk'; refine aQ (aB (csr (aE (aC (aF rfl) (aC (aA rfl mG) (aG (vs := [_]) wB rfl (HS (D.blk0 h1)) rfl ?_)))))); rintro _ b1 ⟨rfl, hBL, L⟩
  have p := K.step L (fun y hy => .inl (by rw [List.mem_singleton.1 hy]; simp))
  have G := (h2.evo0 D).evo L h4.symm.own1; refine wnn (csr (aE (aC (aF rfl) (aC (aA rfl mG) (EB rfl ?_))))); refine wnn (aM ?_); obtain ⟨g5, hgo5, hga5, hgc5⟩ := qF G h3 hk' (by omega); refine aP (aE (aC (aF rfl) (wfl rfl eS rfl gL hBL rfl (aE (aC (cC (n := k) rfl rfl hga5 rfl nY hk) ?_))))); refine wan (aM (csr (aE (aC (aF rfl) (aC (aA rfl mF) (aC (aI rfl gH (hgc5 3 _ (qE hrow rfl))) (aC (eE rfl) ?_))))))); refine wnn (dZ rfl (fun M => ?_) (fun M => ?_))
  ·refine csr (aE (aE (aC (aF rfl) (aC (aA rfl sT) (aC (aI rfl zR (hgc5 1 _ (qE hrow rfl))) (aG (vs := [_]) wA rfl (AD (hpv.evo RB.pers (qR h5 p)) hg5.bytes (h7.evo p h8)) rfl ?_)))))); rintro _ V ⟨ua, un, uc, out, ue, uob, rfl, W, hln59, hok59, Y, hUn, H⟩; have a8 := p; have I := G.evo0 H; have hu9 := unp_out hg5 hUn; subst hu9
   have D : RSl 3 RSmp X V (.slice ua un uc) es[k].out := jA W hln59 hok59 (fun g hg hm => by have h8 := Y g hg; have h6 := h9 g hm; have h5 := a8.size; omega)
   refine aE (aC (bT rfl rfl) ?_); refine aC (bT rfl rfl) ?_; refine aC (aF rfl) (aC (aA rfl jN) ?_)
   obtain ⟨g33, cur24, hg25, hx26, hcu27, hcs28, -⟩ := I.at (by omega)
   rw [hga5] at hx26; cases hx26
   refine mL rfl rfl (rfl) vQ hcu27 (I.inb hcs28 (k := k) (j := 2) (by omega) (by omega) (by omega)) fun b2 a0 q => ?_; replace q := BG hg25 q; have J := I.set' hg25 hcu27 a0; have a1 := (p.then H).step q (fun y hy => .inl (List.mem_cons_of_mem _ hy)); have a2 := (Evo.refl (b :: ob.toList) V).step q (fun y hy => .inl (List.mem_cons_of_mem _ hy)); refine wnn (aP (aE (aC (aF rfl) (aC (aA rfl mF) ?_))))
   obtain ⟨g46, cur37, hg38, hx39, hcu40, hcs41, -⟩ := J.at (by omega)
   rw [hga5] at hx39; cases hx39
   refine mL rfl rfl (rfl) zM hcu40 (J.inb hcs41 (k := k) (j := 3) (by omega) (by omega) (by omega)) fun a9 a3 A => ?_; replace A := BG hg38 A; have a4 := a1.step A (fun y hy => .inl (List.mem_cons_of_mem _ hy)); have a5 := a2.step A (fun y hy => .inl (List.mem_cons_of_mem _ hy)); refine wnn (csr (aE (aC (aF rfl) (aC (aA rfl jN) ?_)))); have hfl := FP h3.flen hk' hrow (.slice ua un uc) (.bool true)
   have O : OwnS a9 88 4 a es.length c ((rows.flatten.set (k * 4 + 2) (.slice ua un uc)).set (k * 4 + 3) (.bool true)) ob := by have h8 := (J.set' hg38 hcu40 a3); simp only [Nat.zero_add] at h8; exact h8
   rw [hfl] at O
   obtain ⟨g8, hgo8, hga8, hgc8⟩ := qF (X := []) (w' := w) (rows := rows.set k [lv, pv, .slice ua un uc, .bool true]) O (es := es) (R := fun _ _ _ _ => True) ⟨by simp [h3.1], fun i h1 h2 => ⟨by simp only [List.getElem_set]; split; rfl; exact h3.flen _ (List.getElem_mem _), trivial⟩⟩ (by simpa using hk') (by omega)
   rw [hga5] at hga8; cases hga8; refine aC (aI rfl fA (hgc8 2 (.slice ua un uc) (by simp))) ?_; refine wan (aT (?_)); refine rT rfl rfl Tryz.func58 (by kernel_rfl) (by kernel_rfl) (qP (A.blk (q.blk (H.blk0 hBL) h4.nmem) h4.nmem) (fun w9 hb9 E => ?_))
   have hEw : Evo (b :: ob.toList) w w9 := (a4).step E (fun y hy => .inl (by rw [List.mem_singleton.1 hy]; simp))
   have hr9 := mO h3 hEw h5 (fun y hy => .inl hy); have U := (O).evo E (h4.symm.own1)
   have hVe := D.evo RSmp.pers (qR h5 ((a5).step E (fun y hy => .inl (by rw [List.mem_singleton.1 hy]; simp))))
   have hro := AP hr9 hk (r := [lv, pv, .slice ua un uc, .bool true]) (e := es[k].opened) rfl ⟨lv, pv, _, rfl, hlv.evo RLB.pers (qR h5 hEw), hpv.evo RB.pers (qR h5 hEw), rfl, fun _ => hVe, hg5⟩
   refine ⟨⟨ix, a, c, _, es.set k es[k].opened, by rw [List.length_set]; exact hb9, by rw [List.length_set]; exact U, hro, h4, h5, yG hk rfl, h7.evo hEw h8, h8, fun y hy => Nat.lt_of_lt_of_le (h9 y hy) hEw.size⟩, ?_, hEw⟩
   rw [iB (by rw [List.length_map]; exact hk), List.getElem_map]
   exact hVe
  refine aQ (aB (csr (aE (aC (aF rfl) (aC (aA rfl jN) (aC (aI rfl fA (hgc5 2 _ (qE hrow rfl))) (wan (aT (?_))))))))); refine rT rfl rfl Tryz.func58 (by kernel_rfl) (by kernel_rfl) (qP hBL (fun w9 hb9 E => ?_))
  have hEw : Evo (b :: ob.toList) w w9 := (p).step E (fun y hy => .inl (by rw [List.mem_singleton.1 hy]; simp))
  have hr9 := mO h3 hEw h5 (fun y hy => .inl hy); have U := (G).evo E (h4.symm.own1)
  have hop : es[k].op = true := by simpa using M
  refine ⟨⟨ix, a, c, rows, es, hb9, U, hr9, h4, h5, rfl, h7.evo hEw h8, h8, fun y hy => Nat.lt_of_lt_of_le (h9 y hy) hEw.size⟩, ?_, hEw⟩
  rw [iB (by rw [List.length_map]; exact hk), List.getElem_map]
  exact (hqv hop).evo RSmp.pers (qR h5 hEw)
theorem fG : Build Tryz.prog 50 #[(0, 1), (1, 1), (2, 1)] #[.int .i64 0, .float .f64 0, .bool false] := ⟨_, .agg #[.int .i64 0, .float .f64 0, .bool false], Tryz.underlying50, by kernel_rfl, rfl, fun w => by kernel_rfl⟩
theorem fE : cZ Tryz.prog 50 2 = some 2 := by kernel_rfl
theorem kO : dB Tryz.prog 35 := ⟨_, Tryz.func35, by kernel_rfl, by kernel_rfl⟩
theorem kN : dB Tryz.prog 37 := ⟨_, Tryz.func37, by kernel_rfl, by kernel_rfl⟩
theorem vR : dW Tryz.prog 24 = some 1 := by kernel_rfl
theorem xP {X : List Nat} {w : World} {b : Nat} {ob : Option Nat} {l : List SD} (h : Sto X w b ob l) (i : Int) : (gU l i).2.length ≤ 100000 ∧ jE (gU l i).2 ∧ ∀ x, x ∈ (gU l i).2 → x.Ok ∧ jF x := by
  by_cases e : 0 ≤ i ∧ i < l.length
  · obtain ⟨k, rfl⟩ := Int.eq_ofNat_of_zero_le e.1
    have hk : k < l.length := by omega
    rw [iB hk]
    exact (h.ser _ (List.getElem_mem hk)).2
  · rw [qU (by omega)]
    exact ⟨Nat.zero_le _, fun k hk => by simp at hk, fun x hx => by simp at hx⟩
theorem Sto.out {X : List Nat} {w : World} {b : Nat} {ob : Option Nat} {l : List SD} (h : Sto X w b ob l) {o : Option Nat} (hg : Ge w o) : ∀ y, y ∈ o.toList → y ∉ b :: ob.toList ∧ y ≠ lX := fun y hy => by
  obtain ⟨ix, a, c, rows, es, h1, h2, h3, h4, h5, h6, h7, h8, h9⟩ := h
  have hy' := hg y (by simpa using hy)
  exact ⟨fun hm => by have := h9 y (h5 y hm); omega, fun e => by have := h7.lt; omega⟩
theorem Sto.more {X Z : List Nat} {w w' : World} {b : Nat} {ob : Option Nat} {l : List SD} (h : Sto X w b ob l) (he : Evo [] w w') (hz : ∀ z, z ∈ Z → w.heap.size ≤ z ∧ z < w'.heap.size) : Sto (Z ++ X) w' b ob l := by
  obtain ⟨_, _, _, _, _, _, _, _, _, h5, _, _, _, h9⟩ := id h
  refine h.step he (fun z hz => by cases hz) (fun y hy => ?_) (fun y hy => List.mem_append_right _ (h5 y hy))
  rcases List.mem_append.1 hy with hy | hy
  · exact ⟨.inr (hz y hy).1, (hz y hy).2⟩
  · exact ⟨.inl hy, Nat.lt_of_lt_of_le (h9 y hy) he.size⟩
theorem Sto.less {X Y : List Nat} {w : World} {b : Nat} {ob : Option Nat} {l : List SD} (h : Sto Y w b ob l) (hxy : ∀ x, x ∈ X → x ∈ Y) (hb : ∀ y, y ∈ b :: ob.toList → y ∈ X) : Sto X w b ob l := by
  obtain ⟨_, _, _, _, _, _, _, _, _, h5, _, _, _, h9⟩ := id h
  exact h.step (Evo.refl [] w) (fun z hz => by cases hz) (fun y hy => ⟨.inl (hxy y hy), h9 y (hxy y hy)⟩) hb
theorem Sto.put {X Z : List Nat} {w w' : World} {b : Nat} {ob : Option Nat} {l : List SD} (h : Sto X w b ob l) (he : Evo Z w w') (hz : ∀ z, z ∈ Z → z ∈ X ∧ z ∉ b :: ob.toList ∧ z ≠ lX) : Sto X w' b ob l := by
  obtain ⟨_, _, _, _, _, _, _, _, _, h5, _, _, _, h9⟩ := id h
  exact h.step he hz (fun y hy => ⟨.inl hy, Nat.lt_of_lt_of_le (h9 y hy) he.size⟩) h5
theorem Sto.own {X : List Nat} {w : World} {b : Nat} {ob : Option Nat} {l : List SD} (h : Sto X w b ob l) : ∀ y, y ∈ b :: ob.toList → y ∈ X := by
  obtain ⟨_, _, _, _, _, _, _, _, _, h5, _, _, _, h9⟩ := h; exact h5
theorem Sto.cell {X : List Nat} {w : World} {b : Nat} {ob : Option Nat} {l : List SD} (h : Sto X w b ob l) : ∀ y, y ∈ X → y < w.heap.size := by
  obtain ⟨_, _, _, _, _, _, _, _, _, h5, _, _, _, h9⟩ := h; exact h9
def oU (ps : List Smp) (t : Int) : Smp × Bool := if cnt ps t = 0 then (⟨0, 0, false⟩, false) else
  if (ps.getD (cnt ps t - 1) ⟨0, 0, false⟩).st = true ∨ 300000 ≤ t - (ps.getD (cnt ps t - 1) ⟨0, 0, false⟩).t then (⟨0, 0, false⟩, false) else (ps.getD (cnt ps t - 1) ⟨0, 0, false⟩, true)
theorem uG {ps : List Smp} {t : Int} (h : cnt ps t = 0) : oU ps t = (⟨0, 0, false⟩, false) := if_pos h
theorem DW {ps : List Smp} {t : Int} {k : Nat} (h : cnt ps t = k + 1) (hk : k < ps.length) (h2 : ps[k].st = true ∨ 300000 ≤ t - ps[k].t) : oU ps t = (⟨0, 0, false⟩, false) := by
  have e : ps.getD (cnt ps t - 1) ⟨0, 0, false⟩ = ps[k] := by rw [h]; simp [hk]
  unfold oU; rw [if_neg (by omega), e, if_pos h2]
theorem zF {ps : List Smp} {t : Int} {k : Nat} (h : cnt ps t = k + 1) (hk : k < ps.length) (h2 : ¬ (ps[k].st = true ∨ 300000 ≤ t - ps[k].t)) : oU ps t = (ps[k], true) := by
  have e : ps.getD (cnt ps t - 1) ⟨0, 0, false⟩ = ps[k] := by rw [h]; simp [hk]
  unfold oU; rw [if_neg (by omega), e, if_neg h2]
theorem IP {a b : Int} (h : b ≤ a) (h1 : -9223372036854775808 ≤ b) (h2 : a ≤ 9223372036854775807) : IntKind.u64.wrap (((u64 a : Nat) : Int) - ((u64 b : Nat) : Int)) = a - b := by
  rw [oE]; unfold u64; omega
theorem at_ok {X : List Nat} {w : World} {b : Nat} {ob : Option Nat} {l : List SD} (h : Sto X w b ob l) (i t : Int) (ht : -9223372036854775808 ≤ t ∧ t ≤ 9223372036854775807) : Calls Tryz.prog 21 #[.pointer (some ⟨b, 0, none⟩), .int .i64 i, .int .i64 t] w (Ret fun r w' => r = .tuple #[.agg (xK (oU (gU l i).2 t).1).toArray, .bool (oU (gU l i).2 t).2] ∧ Sto X w' b ob l ∧ Evo (b :: ob.toList) w w') := by
  have hser := xP h i
  generalize hps : (gU l i).2 = ps at hser ⊢
  refine aU (N := 38) Tryz.func21 rfl rfl rfl ?_; refine csr (cO rfl fX fun b6 w1 K a1 a2 => ?_); have b5 := a1; have p := Ge.new (Evo.refl (b :: ob.toList) w) a1; have a3 := (Evo.refl [] w).then a2; refine wan (csr (aE (aE ?_)))
  refine aG (vs := [_, _]) kO rfl (oH (h.more (Z := [b6]) a3 (fun z hz => by rw [List.mem_singleton.1 hz]; exact ⟨p _ rfl, gC K⟩)) i) rfl ?_
  rintro pv w9 ⟨L, hv2, M⟩
  have b9 := h.more (Z := [b6]) a3 (fun z hz => by rw [List.mem_singleton.1 hz]; exact ⟨p _ rfl, gC K⟩)
  have ho6 := h.out p b6 (by simp); rw [hps] at hv2; obtain ⟨qa, qc, rfl, hlc, e1⟩ := id hv2; refine wan (csr (aE (aE ?_))); refine aG (vs := [_, _]) kN rfl (uK (hv2.evo RSmp.pers (((Evo.refl [b6] w9)).mono (by simp))) hser.2.1 (by omega) t) rfl ?_; rintro _ c0 ⟨rfl, D⟩; have E := (((Evo.refl (b :: ob.toList) w).then a2).step M (fun y hy => .inl hy)).then D; have q := (Evo.refl [b6] w9).then D; have F := D.blk0 (M.blk K (ho6.1)); refine wan (aM (csr (aE (wel ?_)))); refine wnn (bS rfl (fun a4 => ?_) (fun a4 => ?_))
  ·refine csr (aC (dI (vs := []) fG rfl (cells := [_, _, _]) rfl) ?_); refine bQ rfl rfl bU F rfl rfl ⟨by first | rfl | assumption, by first | rfl | assumption, by first | rfl | assumption, trivial⟩ fun c1 a5 O => ?_
   have a6 := q.step O (by intro y hy; left; simpa using hy)
   refine wan (aT (aN (fS rfl (ResOk.cellA rfl dD bU a5 rfl) (ResOk.tmp rfl) ?_)))
   refine ⟨by rw [uG (by omega)]; rfl, (L.put a6 (fun z hz => by rw [List.mem_singleton.1 hz]; exact ⟨by simp, ho6⟩)).less (fun x hx => List.mem_append_right _ hx) h.own, (E.step O p.mem1)⟩
  obtain ⟨k, hkc⟩ : ∃ k, cnt ps t = k + 1 := ⟨cnt ps t - 1, by omega⟩
  have hk : k < ps.length := by have := vG ps t; omega
  have hkt := (IW hser.2.1 t).1 k hk (by omega); have hko := (hser.2.2 _ (List.getElem_mem hk)).1.t; obtain ⟨b1, o1, vs1, ha1, hb1, -, b7, hv1, hz1⟩ := e1 k hk; subst hv1; refine aQ (aB (csr (aE (aE ?_)))); refine aC (aS rfl rfl (by omega) (by omega)) ?_; refine aC (cC (n := k) rfl rfl ha1 (by omega) dM hk) ?_; refine aC (cX rfl dD bU (vs := [_, _, _]) rfl (b7.evo ((q).mono (by simp)) hb1)) ?_; refine cO rfl fX fun c2 c3 a7 A G => ?_; have b4 := A; refine bQ rfl rfl bU a7 rfl rfl ⟨by first | rfl | assumption, by first | rfl | assumption, by first | rfl | assumption, trivial⟩ fun b8 H I => ?_; have U := (E.then G).step I (Ge.new E A).mem1; have V := (q.then G).step I (Ge.new q A).mem1; have W := I.blk (G.blk0 F) (Apart.new (Lt.blk F) A).nmem1; refine wnn (aM (aM (gQ (α := Bool) (fun z35 => [(35, .bool z35)]) [(6, _), (7, _), (10, _)] (fun z35 wr => b8 = wr ∧ (z35 = true ↔ (ps[k].st = true ∨ 300000 ≤ t - ps[k].t))) ⟨rfl, rfl, rfl, trivial⟩ ?_ ?_)))
  ·refine aP (wfl rfl fE rfl gH H rfl (aE (gV (t := 27) rfl (fun a8 => ?_) (fun a8 => ?_))))
   ·refine bL (bL (bL (bL (bL (bL (bL (cV (aD (aO ?_))))))))); refine ⟨_, ⟨rfl, trivial⟩, ⟨rfl, rfl, rfl, trivial⟩, rfl, ?_⟩
    first | (simp_all; done) | (simp_all; omega)
   refine bJ (aE (bJ (aC (cG rfl Tryz.underlying2 Tryz.underlying95) ?_))); refine bJ (aC (aA rfl cY) (bJ (aC (aI rfl dO (aJ H rfl)) (bJ (aC (cG rfl Tryz.underlying2 Tryz.underlying95) ?_))))); refine bJ (aC (qK rfl rfl) ?_); rw [IP hkt hko.1 ht.2]; refine bJ (aC (fR rfl rfl) ?_); refine cR (aD (aO ?_)); refine ⟨_, ⟨rfl, trivial⟩, ⟨rfl, rfl, rfl, trivial⟩, rfl, ?_⟩
   first | (simp_all; done) | (simp_all; omega)
  rintro z35 _ ⟨rfl, hz35⟩; refine aB ?_; show CW _ _ _ _ [(35, _), (6, _), (7, _), (10, _)] _; refine dZ rfl (fun J => ?_) (fun J => ?_)
  ·subst J; have hj35 := hz35.1 rfl; refine csr (aC (dI (vs := []) fG rfl (cells := [_, _, _]) rfl) ?_); refine bQ rfl rfl bU W rfl rfl ⟨by first | rfl | assumption, by first | rfl | assumption, by first | rfl | assumption, trivial⟩ fun c4 a9 Y => ?_
   have b0 := V.step Y (by intro y hy; left; simpa using hy)
   refine wan (aT (aN (fS rfl (ResOk.cellA rfl dD bU a9 rfl) (ResOk.tmp rfl) ?_)))
   refine ⟨by rw [DW hkc hk hj35]; rfl, (L.put b0 (fun z hz => by rw [List.mem_singleton.1 hz]; exact ⟨by simp, ho6⟩)).less (fun x hx => List.mem_append_right _ hx) h.own, (U.step Y p.mem1)⟩
  subst J
  have hj35 : ¬ (ps[k].st = true ∨ 300000 ≤ t - ps[k].t) := fun h9 => by have := hz35.2 h9; cases this
  refine aQ (aB (csr (aC (dC rfl dD bU H rfl) ?_))); refine bQ rfl rfl bU W rfl rfl ⟨by first | rfl | assumption, by first | rfl | assumption, by first | rfl | assumption, trivial⟩ fun c5 b2 a0 => ?_
  have b3 := V.step a0 (by intro y hy; left; simpa using hy)
  refine wan (aT (fS rfl (ResOk.cellA rfl dD bU b2 rfl) (ResOk.tmp rfl) ?_))
  refine ⟨by rw [zF hkc hk hj35]; rfl, (L.put b3 (fun z hz => by rw [List.mem_singleton.1 hz]; exact ⟨by simp, ho6⟩)).less (fun x hx => List.mem_append_right _ hx) h.own, (U.step a0 p.mem1)⟩
def JE (w w' : World) (r : Value) (out : List Smp) : Prop := ∃ a c o, r = .slice a out.length c ∧ OwnS w' 50 3 a out.length c (gT out) o ∧ Ge w o
def qO (ps : List Smp) (A k : Nat) : List Smp := ((ps.take k).drop A).filter fun p => !p.st
theorem xA (ps : List Smp) {A k : Nat} (h : k ≤ A) : qO ps A k = [] := by
  unfold qO; rw [List.drop_of_length_le (by rw [List.length_take]; omega)]; rfl
theorem tG {ps : List Smp} {A k : Nat} (h : A ≤ k) (hk : k < ps.length) : qO ps A (k + 1) = qO ps A k ++ (if ps[k].st = true then [] else [ps[k]]) := by
  unfold qO
  rw [List.take_succ_eq_append_getElem hk, List.drop_append_of_le_length (by rw [List.length_take]; omega), List.filter_append]
  congr 1
  cases e : ps[k].st <;> simp [e]
theorem xB (ps : List Smp) (A k : Nat) : (qO ps A k).length ≤ ps.length := by
  unfold qO
  refine Nat.le_trans (List.length_filter_le _ _) ?_
  rw [List.length_drop, List.length_take]; omega
structure WnG where
  k : Nat
  n : Nat
  a : Option Addr
  c : Nat
  o : Option Nat
theorem ED {X : List Nat} {w : World} {b : Nat} {ob : Option Nat} {l : List SD} (h : Sto X w b ob l) (i fr to : Int) : Calls Tryz.prog 18 #[.pointer (some ⟨b, 0, none⟩), .int .i64 i, .int .i64 fr, .int .i64 to] w (Ret fun r w' => JE w w' r (win (gU l i).2 fr to) ∧ Sto X w' b ob l ∧ Evo (b :: ob.toList) w w') := by
  have hser := xP h i
  generalize hps : (gU l i).2 = ps at hser ⊢
  refine aU (N := 41) Tryz.func18 rfl rfl rfl ?_; refine csr (wan (csr (aE (aE (aG (vs := [_, _]) kO rfl (oH h i) rfl ?_))))); rintro pv w1 ⟨M, hv2, O⟩; rw [hps] at hv2; obtain ⟨qa, qc, hpv, hlc, e1⟩ := id hv2; subst hpv; refine wan (csr (aE (aE ?_))); refine aG (vs := [_, _]) kN rfl (uK (hv2.evo RSmp.pers (((Evo.refl [] w1)).any X)) hser.2.1 (by omega) fr) rfl ?_; rintro _ w4 ⟨rfl, G⟩; have H := (Evo.refl [] w1).then G; refine aE (aE ?_); refine aG (vs := [_, _]) kN rfl (uK (hv2.evo RSmp.pers ((H).any X)) hser.2.1 (by omega) to) rfl ?_; rintro _ w8 ⟨rfl, I⟩; refine cS (wan (csr (wan (aM (bB ?_)))))
  refine cM (α := WnG) (⟨cnt ps fr, 0, none, 0, none⟩) (fun x => [(10, .int .i64 (x.k : Nat)), (12, .slice x.a x.n x.c)]) [(8, _), (9, _), (11, _)] (fun x wr => Evo (b :: ob.toList) w wr ∧ (cnt ps fr ≤ x.k ∧ (x.k ≤ cnt ps to ∨ x.k = cnt ps fr) ∧ (qO ps (cnt ps fr) x.k).length = x.n ∧ OwnS wr 50 3 x.a x.n x.c (gT (qO ps (cnt ps fr) x.k)) x.o ∧ Evo [] w1 wr ∧ Ge w x.o ∧ Ge w1 x.o)) (fun x => cnt ps to - x.k) ⟨rfl, rfl, trivial⟩ ⟨rfl, rfl, rfl, trivial⟩ ⟨((((Evo.refl (b :: ob.toList) w).step O (fun y hy => .inl hy)).then G).then I), ⟨Nat.le_refl _, .inr rfl, by rw [xA ps (Nat.le_refl _)]; rfl, by rw [xA ps (Nat.le_refl _)]; exact OwnS.nil _ _ _, (H.then I), Ge.nil _, Ge.nil _⟩⟩ ?_
  rintro ⟨k, n, a, c, o⟩ wr12 ⟨q, ⟨hk1, hk2, hn, hO, hP, A, E⟩⟩; show CW _ _ _ _ [(10, .int .i64 (k : Nat)), (12, .slice a n c), (8, _), (9, _), (11, _)] _
  try dsimp only at hk1 hk2 hn hO hP A E
  refine aM (csr (aE (aE (aC (cQ rfl rfl) ?_)))); refine wnn (bS rfl (fun K => ?_) (fun K => ?_))
  ·have hk' : k < ps.length := by have := vG ps to; omega
   obtain ⟨b1, o1, vs1, ha1, hb1, -, J, rfl, hz1⟩ := e1 k hk'; refine aQ (aB (aM (bB (csr (aE (aE (aC (cC (n := k) rfl rfl ha1 rfl dM hk') ?_))))))); refine aC (aA rfl fE) (aC (aI rfl gH ((J.evo ((hP).any X) hb1) 2 _ rfl)) (aC (eE rfl) ?_)); refine wnn (dZ rfl (fun D => ?_) (fun D => ?_))
   ·refine aP (aE (aE (aE (aC (cC (n := k) rfl rfl ha1 rfl dM hk') ?_)))); refine aC (cX rfl dD bU (vs := [_, _, _]) rfl (J.evo ((hP).any X) hb1)) ?_; refine cH (vs := [_]) rfl fD rfl rfl rfl rfl fun W Y L V p => ?_
    refine cN rfl rfl rfl rfl fU (hO.evo0 p) (Src.ofOwn L ⟨by first | rfl | assumption, by first | rfl | assumption, by first | rfl | assumption, trivial⟩) (by (have := xB ps (cnt ps fr) k; omega)) fun a9 c9 a0 o9 U F hob31 => ?_
    refine cS (aD (bA (aB (aP (aE ?_))))); refine aC (aZ rfl rfl (by omega) (by omega)) ?_; refine cS (aD (aO ?_)); refine ⟨⟨k + 1, n + 1, a9, c9, o9⟩, ?_, ⟨rfl, rfl, trivial⟩, ⟨rfl, rfl, rfl, trivial⟩, ((q.then p).step F A.mem), ?_⟩
    · (try dsimp only); omega
    try dsimp only
    have hst : ps[k].st = false := by simpa using D
    have hws := tG hk1 hk'; rw [hst, if_neg (by simp)] at hws
    refine ⟨by omega, by omega, by rw [hws, List.length_append, hn]; rfl, by rw [hws, mN]; exact U, ((hP.then p).step F E.mem), (A.app (q.then p) hob31), (E.app (hP.then p) hob31)⟩
   refine aQ (bA (aB (aP (aE ?_)))); refine aC (aZ rfl rfl (by omega) (by omega)) ?_; refine cS (aD (aO ?_)); refine ⟨⟨k + 1, n, a, c, o⟩, ?_, ⟨rfl, rfl, trivial⟩, ⟨rfl, rfl, rfl, trivial⟩, q, ?_⟩
   · (try dsimp only); omega
   try dsimp only
   have hst : ps[k].st = true := by simpa using D
   have hws := tG hk1 hk'; rw [hst, if_pos rfl, List.append_nil] at hws
   refine ⟨by omega, by omega, by rw [hws, hn], by rw [hws]; exact hO, hP, A, E⟩
  refine bI (bE (bE (bH (aB ?_)))); refine csr (aE (wan (aT (br1 ?_))))
  have hwl : qO ps (cnt ps fr) k = win ps fr to := by
    unfold win; rw [show qO ps (cnt ps fr) k = ((ps.take k).drop (cnt ps fr)).filter _ from rfl]
    by_cases e : k = cnt ps to
    · rw [e]
    · rw [List.drop_of_length_le (by rw [List.length_take]; omega), List.drop_of_length_le (by rw [List.length_take]; omega)]
  exact ⟨⟨a, c, o, by rw [← hwl, hn], by rw [← hwl, hn]; exact hO, A⟩, M.evo hP, q⟩
theorem jO : Build Tryz.prog 45 #[(0, 1), (1, 1)] #[.slice none 0 0, .slice none 0 0] := ⟨_, .agg #[.slice none 0 0, .slice none 0 0], Tryz.underlying45, by kernel_rfl, rfl, fun w => by kernel_rfl⟩
theorem nW : dB Tryz.prog 16 := ⟨_, Tryz.func16, by kernel_rfl, by kernel_rfl⟩
theorem wI : dB Tryz.prog 34 := ⟨_, Tryz.func34, by kernel_rfl, by kernel_rfl⟩
theorem iL : mW Tryz.prog 26 = some #[.slice none 0 0] := by kernel_rfl
theorem Sto.nin {X : List Nat} {w : World} {b : Nat} {ob : Option Nat} {l : List SD} (h : Sto X w b ob l) {o : Option Nat} (hg : Ge w o) : ∀ g, o = some g → g ∉ b :: ob.toList := fun g e => (h.out hg g (by simp [e])).1
theorem tL {α : Type} {sz : Nat} {R : Rel α} (hp : R.Pers) (hf : R.Fresh) {X Y : List Nat} {w w' : World} {rows : List (List Value)} {ds : List α} (h : RowsOk sz R X w rows ds) (he : Evo X w w') (hy : ∀ y, y ∈ Y → y ∈ X ∨ w.heap.size ≤ y) : RowsOk sz R Y w' rows ds := by
  refine ⟨h.1, fun k hk hk' => ?_⟩
  obtain ⟨h1, h2⟩ := h.2 k hk hk'
  refine ⟨h1, ?_⟩
  have h3 : R (X ++ Y) w rows[k] ds[k] := hf _ _ _ _ _ (fun y hy' => (List.mem_append.1 hy').elim .inl (hy y)) h2
  have h4 := hp _ _ _ _ _ (he.mono (fun b hb => List.mem_append_left Y hb)) h3
  exact hf _ _ _ _ _ (fun y hy' => .inl (List.mem_append_right X hy')) h4
theorem Sto.grow {X : List Nat} {w w' : World} {b : Nat} {ob so so2 : Option Nat} {l : List SD} (h : Sto X w b ob l) (he : Evo so.toList w w') (hs : ∀ z, z ∈ so.toList → z ∈ X ∧ z ∉ b :: ob.toList ∧ z ≠ lX) (hob : so2 = so ∨ ∃ g, so2 = some g ∧ w.heap.size ≤ g) (hl : Lt w' so2) : Sto (so2.toList ++ X) w' b ob l := by
  refine h.step he (fun z hz => ⟨List.mem_append_right _ (hs z hz).1, (hs z hz).2⟩) (fun y hy => ?_) (fun y hy => List.mem_append_right _ (h.own y hy))
  rcases List.mem_append.1 hy with hy | hy
  · have e : so2 = some y := by simpa using hy
    refine ⟨?_, hl y e⟩
    rcases hob with h1 | ⟨g, h1, h2⟩
    · exact .inl (hs y (by rw [← h1]; exact hy)).1
    · rw [e] at h1; cases h1; exact .inr h2
  · exact ⟨.inl hy, Nat.lt_of_lt_of_le (h.cell y hy) he.size⟩
theorem ser_row {X Z Z' : List Nat} {w wc wd : World} {la pa : Option Addr} {lc pc : Nat} {o1 o2 : Option Nat} {lrows prows : List (List Value)} {ls : List LB} {ps : List Smp} (h1 : OwnS w 58 2 la ls.length lc lrows.flatten o1) (h2 : RowsOk 2 RLB Z wc lrows ls) (h3 : OwnS w 50 3 pa ps.length pc prows.flatten o2) (h4 : RowsOk 3 RSmp Z' wd prows ps)
    (hx1 : ∀ g, o1 = some g → g ∉ X) (hx2 : ∀ g, o2 = some g → g ∉ X) : RSer X w [.slice la ls.length lc, .slice pa ps.length pc] (ls, ps) :=
  ⟨_, _, rfl, RSl.ofOwn h1 ⟨h2.1, fun k hk hk' => h2.2 k hk hk'⟩ rfl hx1, RSl.ofOwn h3 ⟨h4.1, fun k hk hk' => h4.2 k hk hk'⟩ rfl hx2⟩
theorem ninY {b2 b3 b : Nat} {o so ob : Option Nat} (h0 : Apart o (some b2)) (h1 : Apart o (some b3)) (h2 : Apart o so) (h3 : ∀ g, o = some g → g ∉ b :: ob.toList) : ∀ g, o = some g → g ∉ b2 :: b3 :: (so.toList ++ (b :: ob.toList)) := fun g hg h => by
  rcases List.mem_cons.1 h with h | h
  · exact h0 g hg (by rw [h])
  rcases List.mem_cons.1 h with h | h
  · exact h1 g hg (by rw [h])
  rcases List.mem_append.1 h with h | h
  · exact h2 g hg (by simpa using h)
  · exact h3 g hg h
theorem growY {w : World} {b2 b3 : Nat} {so so2 : Option Nat} {Z : List Nat} (h1 : so2 = so ∨ ∃ g, so2 = some g ∧ w.heap.size ≤ g) : ∀ y, y ∈ b2 :: b3 :: (so2.toList ++ Z) → y ∈ b2 :: b3 :: (so.toList ++ Z) ∨ w.heap.size ≤ y := fun y hy => by
  rcases List.mem_cons.1 hy with h | h
  · exact .inl (by simp [h])
  rcases List.mem_cons.1 h with h | h
  · exact .inl (by simp [h])
  rcases List.mem_append.1 h with h | h
  · rcases h1 with rfl | ⟨g, rfl, hg⟩
    · exact .inl (by simp only [List.mem_cons, List.mem_append]; exact .inr (.inr (.inl h)))
    · right; simp at h; rw [h]; exact hg
  · exact .inl (by simp only [List.mem_cons, List.mem_append] at h ⊢; exact .inr (.inr (.inr h)))
structure DtG where
  k : Nat
  n : Nat
  a : Option Addr
  c : Nat
  so : Option Nat
def DtI (X : List Nat) (w wr : World) (b2 b3 b : Nat) (ob : Option Nat) (l : List SD) (x : DtG) : Prop :=
  x.k ≤ l.length ∧ wr.heap[b3]? = some (.cells #[.slice x.a x.n x.c] 26 (0, 0)) ∧ wr.heap[b2]? = some (.cells #[.slice none 0 0] 26 (0, 0)) ∧ (∃ rows, OwnS wr 45 2 x.a x.n x.c (List.flatten rows) x.so ∧ RowsOk 2 RSer (b2 :: b3 :: (x.so.toList ++ (b :: ob.toList))) wr rows (l.take x.k)) ∧ x.n = x.k ∧ Sto (b2 :: b3 :: (x.so.toList ++ X)) wr b ob l ∧
  Apart (some b3) x.so ∧ Apart (some b2) x.so ∧ Apart (some b2) (some b3) ∧ Ge w (some b3) ∧ Ge w (some b2) ∧ Ge w x.so
theorem oJ {b2 b3 : Nat} {Z : List Nat} {y : Nat} (h : y ∈ Z) : y ∈ b2 :: b3 :: Z := List.mem_cons_of_mem _ (List.mem_cons_of_mem _ h)
theorem data_ok {X : List Nat} {w : World} {b : Nat} {ob : Option Nat} {l : List SD} (h : Sto X w b ob l) (hlen : l.length ≤ 1000) : Calls Tryz.prog 13 #[.pointer (some ⟨b, 0, none⟩)] w (Ret fun r w' => ∃ v, r = .agg #[v] ∧ RSl 2 RSer (b :: ob.toList) w' v l ∧ Sto X w' b ob l ∧ Evo (b :: ob.toList) w w') := by
  refine aU (N := 25) Tryz.func13 rfl rfl rfl ?_; refine csr (cO rfl iL fun b2 w1 J e1 e2 => ?_); have f2 := e1; have e3 := Ge.new (Evo.refl (b :: ob.toList) w) e1; have e4 := (Evo.refl (b :: ob.toList) w).then e2; refine wnn (csr (cO rfl iL fun b3 w9 e6 Y a0 => ?_)); have f3 := Y; have e7 := Apart.new (Lt.blk J) Y; have F := Ge.new e4 Y; have b0 := ((Evo.refl [] w).then e2).then a0; refine wnn (aM (csr (aE (aG (vs := [_]) fY rfl (oL (h.evo b0)) rfl ?_)))); rintro _ f4 ⟨rfl, O⟩; have b1 := O.blk0 (a0.blk0 J); have b4 := O.blk0 e6; refine aE (wnn ?_)
  have f5 : Sto (b2 :: b3 :: ((none : Option Nat).toList ++ X)) f4 b ob l := h.more (Z := [b2, b3]) (b0.then O) (fun z hz => by rcases List.mem_cons.1 hz with rfl | hz; exact ⟨e3 _ rfl, gC b1⟩; rw [List.mem_singleton.1 hz]; exact ⟨F _ rfl, gC b4⟩)
  refine bB ?_; refine cM (α := DtG) (⟨0, 0, none, 0, none⟩) (fun x => [(7, .int .i64 (x.k : Nat))]) [(0, _), (2, _), (3, _), (6, _)] (fun x wr => Evo (b :: ob.toList) w wr ∧ (DtI X w wr b2 b3 b ob l x)) (fun x => l.length - x.k) ⟨rfl, trivial⟩ ⟨rfl, rfl, rfl, rfl, trivial⟩ ⟨((e4.then a0).then O), ⟨Nat.zero_le _, b4, b1, ⟨[], OwnS.nil _ _ _, rfl, fun k h => by simp at h⟩, rfl, f5, Apart.nil _, Apart.nil _, e7, F, e3, Ge.nil _⟩⟩ ?_; rintro ⟨k, n, a, c, so⟩ wr25 ⟨a1, ⟨hk, b5, J, ⟨rows, hSO, hrk⟩, hn, hSt, a3, a4, b6, L, W, M⟩⟩; show CW _ _ _ _ [(7, .int .i64 (k : Nat)), (0, _), (2, _), (3, _), (6, _)] _
  try dsimp only at hk b5 J rows hSO hrk hn hSt a3 a4 b6 L W M
  have b7 := Evo.refl (b2 :: b3 :: (so.toList ++ (b :: ob.toList))) wr25; replace hn : k = n := Eq.symm hn; subst hn; refine csr (aC (cQ rfl rfl) ?_); refine wnn (aM (bS rfl (fun f6 => ?_) (fun f6 => ?_)))
  ·have hk' : k < l.length := by omega
   have hser : gU l (k : Int) = l[k] := iB hk'; have hlk := (h.ser _ (List.getElem_mem hk')).1; have hpk := (h.ser _ (List.getElem_mem hk')).2.1; refine aQ (aB (aM (bB (csr (aE (wan ?_)))))); refine eA (fun w0 w' => Evo (so.toList ++ (b :: ob.toList)) w0 w') (by kernel_rfl) (fun K A => ?_); have b8 := (Evo.refl [] wr25).then A; have a2 := A.blk0 b5; refine aet 0 rfl (fun _ hS => aA rfl dG) (Evo.refl (so.toList ++ (b :: ob.toList)) K) ?_; refine aet 1 rfl (fun _ hS => aI rfl eH (aJ (hS.blk a2 (fun hm => (List.mem_append.1 hm).elim (fun h9 => a3 b3 rfl (by simpa using h9)) (h.nin L _ rfl))) rfl)) (Evo.refl (so.toList ++ (b :: ob.toList)) K) ?_; refine aet 2 rfl (fun _ hS => aW rfl) (Evo.refl (so.toList ++ (b :: ob.toList)) K) ?_; refine aet 3 rfl (fun _ hS => aW rfl) (Evo.refl (so.toList ++ (b :: ob.toList)) K) ?_; refine aet 5 rfl (fun _ hS => aW rfl) (Evo.refl (so.toList ++ (b :: ob.toList)) K) ?_; refine aet 6 rfl (fun _ hS => aW rfl) (Evo.refl (so.toList ++ (b :: ob.toList)) K) ?_; refine aK [4] (by kernel_rfl) rfl ⟨?_, trivial⟩; refine aL rfl ?_; refine aG (vs := [_, _]) nW rfl (tU (hSt.evo b8) k) rfl ?_; rintro _ g4 ⟨la, lc, ob14, lrows, rfl, e8, hlr, F, G⟩
   have b9 := Apart.fresh (Lt.blk a2) F; have c0 := Apart.fresh (Lt.own (hSO.evo0 A)) F; have c1 := Ge.fresh (a1.then A) F; have c2 := (Evo.refl (so.toList ++ (b :: ob.toList)) K).then G; refine aD (aH (.inl c2) ?_); refine aK [7] (by kernel_rfl) rfl ⟨?_, trivial⟩; refine aL rfl ?_; refine aG (vs := [_, _]) kO rfl (oH (hSt.evo (b8.then G)) k) rfl ?_; rintro pv e5 ⟨f7, hv2, H⟩; have c3 := ((a1.then A).then G).step H (fun y hy => .inl hy); have e9 := ((b7.then A).then G).step H (fun y hy => .inl (oJ (List.mem_append_right _ hy))); have c4 := c2.step H (fun y hy => .inl (List.mem_append_right _ hy)); have c5 := H.blk (G.blk0 (A.blk0 J)) (h.nin W _ rfl); have c6 := H.blk (G.blk0 a2) (h.nin L _ rfl); have c7 := ((hSO.evo0 A).evo0 G).evo H (h.nin M); rw [hser] at hv2; refine aD (aH (.inl c4) ?_); refine aK [8] (by kernel_rfl) rfl ⟨?_, trivial⟩; refine aL rfl ?_; refine aG (vs := [_]) wI rfl (yW (hv2.evo RSmp.pers (((Evo.refl [] e5)).any _)) RSmp.one (by omega)) rfl ?_; rintro _ g5 ⟨pa, pc, ob18, prows, rfl, c8, hpr, U, E⟩; have c9 := Apart.fresh (Lt.blk c6) U; have d0 := Apart.fresh (Lt.own c7) U; have V := c4.then E; refine aD (aH (.inl V) ?_); refine aet 9 rfl (fun _ hS => dI (vs := [(0, _), (1, _)]) jO rfl (cells := [_, _]) rfl) V ?_; refine aK [10] (by kernel_rfl) rfl ⟨?_, trivial⟩; refine aL rfl ?_; refine cH (vs := [_]) rfl jM rfl rfl rfl rfl fun g6 g7 f0 g1 p => ?_; have d1 := (c3.then E).then p
   have d2 := (e9.then E).then p; have d3 := p.blk0 (E.blk0 c5); have d4 := p.blk0 (E.blk0 c6); have a5 := ((e8.evo H (h.nin c1)).evo0 E).evo0 p; refine aD (aH (.inl (V.then p)) ?_); refine aK [11] (by kernel_rfl) rfl ⟨?_, trivial⟩; refine aL rfl ?_; have hsz21 := (d2).size; refine cN rfl rfl rfl rfl lL ((c7.evo0 E).evo0 p) (Src.ofOwn f0 ⟨by first | rfl | assumption, by first | rfl | assumption, trivial⟩) (by omega) fun a21 c21 g2 ob21 d5 q hob108 => ?_; have a6 := a3.app (Lt.blk d4) hob108; have d6 := d2.step q (fun y hy => .inl (oJ (List.mem_append_left _ hy))); have a7 := (V.then p).step q (fun y hy => .inl (List.mem_append_left _ hy)); have f8 := Sto.grow (f7.evo (((Evo.refl [] e5).then E).then p)) q (fun z hz => ⟨oJ (List.mem_append_left _ hz), h.out M z hz⟩) hob108 (Lt.own d5); have hso21 := mS hob108 hsz21; refine aD (aH (.inl a7) ?_); refine aet 12 rfl (fun _ hS => aA rfl dG) a7 ?_; refine aK [13] (by kernel_rfl) rfl ⟨?_, trivial⟩; refine aL rfl ?_; refine aR rfl rfl (by first | rfl | assumption) vR (q.blk d4 a3.nmem) rfl fun f1 a8 D => ?_
   have d7 := d6.step D (fun y hy => .inl (by rw [List.mem_singleton.1 hy]; simp))
   try simp only [cP, Nat.reduceAdd] at a8
   refine aD (aH (.inr (by kernel_rfl)) ?_); refine bK (by kernel_rfl) (bA (aB ?_))
   have f9 := f8.put D (fun z hz => by rw [List.mem_singleton.1 hz]; exact ⟨List.mem_append_right _ (by simp), h.out L b3 (by simp)⟩)
   refine aP ?_; refine aC (aZ rfl rfl (by omega) (by omega)) ?_; refine aE (aD (aO ?_)); refine ⟨⟨k + 1, k + 1, a21, c21, ob21⟩, ?_, ⟨rfl, trivial⟩, ⟨rfl, rfl, rfl, rfl, trivial⟩, ((d1.step q M.mem).step D L.mem1), ?_⟩
   · (try dsimp only); omega
   try dsimp only
   unfold DtI; dsimp only; have g0 := (d5.evo D a6.symm.own1); have hmv := tL RSer.pers RSer.fresh hrk d7 (growY hso21)
   have hr9 : RSer (b2 :: b3 :: (ob21.toList ++ (b :: ob.toList))) f1 [.slice la (gU l (k : Int)).1.length lc, .slice pa l[k].2.length pc] l[k] := by have h9 := ser_row ((a5.evo q c0.symm.own).evo D b9.symm.own1) hlr (((c8.evo0 p).evo q d0.symm.own).evo D c9.symm.own1) hpr (ninY (Apart.fresh (Lt.blk (A.blk0 J)) F).symm b9.symm (c0.symm.app (Lt.own a5) hob108) (h.nin c1)) (ninY (Apart.fresh (Lt.blk c5) U).symm c9.symm (d0.symm.app (Lt.own (c8.evo0 p)) hob108) (h.nin (Ge.fresh c3 U))); rw [hser] at h9 ⊢; exact h9
   refine ⟨by omega, a8, (D.blk (q.blk d3 a4.nmem) b6.nmem1), ⟨rows ++ [[.slice la (gU l (k : Int)).1.length lc, .slice pa l[k].2.length pc]], ?_, ?_⟩, rfl, f9.less (fun x hx => ?_) (fun y hy => oJ (List.mem_append_right _ (h.own y hy))), a6, (a4.app (Lt.blk d3) hob108), b6, L, W, (M.app d1 hob108)⟩
   · rw [List.flatten_append, List.flatten_singleton]; exact g0
   · rw [List.take_succ_eq_append_getElem hk']; exact lS hmv rfl hr9
   · simp only [List.mem_cons, List.mem_append] at hx ⊢; rcases hx with h1 | h1 | h1 | h1
     · exact .inr (.inl h1)
     · exact .inr (.inr (.inl h1))
     · exact .inl h1
     · exact .inr (.inr (.inr (.inr h1)))
  obtain rfl : k = l.length := by omega
  rw [List.take_length] at hrk; refine bI (bE (bE (bH (aB ?_)))); refine csr (aC (dC rfl gM eF b5 rfl) ?_); refine bQ rfl rfl eF J rfl rfl ⟨by first | rfl | assumption, trivial⟩ fun g3 a9 I => ?_
  have d8 := b7.step I (fun y hy => .inl (by rw [List.mem_singleton.1 hy]; simp))
  have d9 := (Evo.refl [b2] wr25).step I (by intro y hy; left; simpa using hy)
  have e0 := hSO.evo I a4.symm.own1
  try simp only [cP, Nat.reduceAdd] at a9
  refine wnn (aT (rU rfl (ResOk.cellA rfl gM eF a9 rfl) ?_))
  skip
  refine ⟨_, rfl, ?_, ?_, (a1.step I W.mem1)⟩
  · exact RSl.ofOwn e0 (tL RSer.pers RSer.fresh hrk d8 (fun y hy => .inl (oJ (List.mem_append_right _ hy)))) rfl (h.nin M)
  · exact (hSt.put d9 (fun z hz => by rw [List.mem_singleton.1 hz]; exact ⟨by simp, h.out W b2 (by simp)⟩)).less (fun x hx => oJ (List.mem_append_right _ hx)) h.own
theorem eG : gG Tryz.prog 48 = some false := by kernel_rfl
theorem dJ : cZ Tryz.prog 50 1 = some 1 := by kernel_rfl
theorem AT {v : Nat} (hv : v < 18446744073709551616) (h : (FloatKind.f64.format.order v 0 != some .eq) = false) : v = 0 ∨ v = 9223372036854775808 := by
  have h1 : (FloatKind.f64.format.read v).order (FloatKind.f64.format.read 0) = some .eq := by
    have h2 : ((FloatKind.f64.format.read v).order (FloatKind.f64.format.read 0) != some .eq) = false := h
    simpa using h2
  have e0 : FloatKind.f64.format.read 0 = .number false 0 FloatKind.f64.format.leastPlace := by kernel_rfl
  rw [e0] at h1
  have e1 : FloatKind.f64.format.signWeight = 9223372036854775808 := rfl
  have e2 : FloatKind.f64.format.binade = 4503599627370496 := rfl
  have e3 : FloatKind.f64.format.infRung = 9218868437227405312 := rfl
  have key : ∀ s m i j, (Ieee.Datum.number s m i).order (.number false 0 j) = some .eq → m = 0 := fun s m i j h => by
    simp only [Ieee.Datum.order, Ieee.signed] at h
    have hz : ∀ {a : Nat} {k : Nat}, a <<< k = 0 → a = 0 := fun {a k} h => by
      rw [Nat.shiftLeft_eq] at h
      rcases Nat.mul_eq_zero.1 h with h5 | h5
      · exact h5
      · exact absurd h5 (Nat.ne_of_gt (Nat.two_pow_pos _))
    cases s with
    | true =>
      simp only [Option.some.injEq, Nat.zero_shiftLeft, if_true, Bool.false_eq_true, if_false] at h
      have h4 := Int.compare_eq_eq.1 h
      exact hz (k := (i - min i j).toNat) (by omega)
    | false =>
      simp only [Option.some.injEq, Nat.zero_shiftLeft, Bool.false_eq_true, if_false] at h
      have h4 := Int.compare_eq_eq.1 h
      exact hz (k := (i - min i j).toNat) (by omega)
  simp only [Ieee.Format.read, e1, e2, e3] at h1
  by_cases h2 : v % 9223372036854775808 < 4503599627370496
  · rw [if_pos h2] at h1
    have := key _ _ _ _ h1
    omega
  · rw [if_neg h2] at h1
    by_cases h3 : v % 9223372036854775808 < 9218868437227405312
    · rw [if_pos h3] at h1
      have := key _ _ _ _ h1
      omega
    · rw [if_neg h3] at h1
      by_cases h4 : v % 9223372036854775808 = 9218868437227405312
      · rw [if_pos h4] at h1
        simp only [Ieee.Datum.order] at h1
        split at h1 <;> cases h1
      · rw [if_neg h4] at h1
        simp only [Ieee.Datum.order] at h1
        cases h1
section
variable {P : Program} {σ : Env} {w : World} {dst : Option Nat} {T : TypeId} {pos : String} {after : Array Edge} {g : Option (Nat × Bool)}
theorem DG {x y : Operand} {t t' : TypeId} {k : FloatKind} {m n : Nat} (hx : σ.ev x = some (.float k m)) (hy : σ.ev y = some (.float k n)) :
    Ex P σ ⟨dst, .binOp .eql t x y t', T, pos, after, g⟩ w (.bool (k.format.order m n == some .eq)) w := DI (.inl rfl) hx hy (fun w => by simp [Op.floatCmp])
theorem DF {x y : Operand} {t t' : TypeId} {k : FloatKind} {m n r : Nat} (hx : σ.ev x = some (.float k m)) (hy : σ.ev y = some (.float k n)) (h : floatBits .quo k m n = some r) : Ex P σ ⟨dst, .binOp .quo t x y t', T, pos, after, g⟩ w (.float k r) w := fun ρ hρ => by
  have := run_float_arith (P := P) w .quo t k m n r h
  simp [execOp, hρ x _ hx, hρ y _ hy, eqGuard, this]
end
theorem one_0 : floatBits .quo .f64 4607182418800017408 0 = some 9218868437227405312 := by kernel_rfl
theorem one_m0 : floatBits .quo .f64 4607182418800017408 9223372036854775808 = some 18442240474082181120 := by kernel_rfl
theorem inf_inf : (FloatKind.f64.format.order 9218868437227405312 9218868437227405312 == some .eq) = true := by kernel_rfl
theorem FF : (FloatKind.f64.format.order 18442240474082181120 18442240474082181120 == some .eq) = true := by kernel_rfl
theorem HE {v : Nat} (h : v = 0 ∨ v = 9223372036854775808) : ∃ r, floatBits .quo .f64 4607182418800017408 v = some r ∧ (FloatKind.f64.format.order r r == some .eq) = true := by
  rcases h with rfl | rfl
  · exact ⟨_, one_0, inf_inf⟩
  · exact ⟨_, one_m0, FF⟩
theorem zH {w : World} (s : Smp) (hs : s.v < 18446744073709551616) : Calls Tryz.prog 36 #[.agg (xK s).toArray, .agg (xK s).toArray] w (Ret fun r w' => r = .bool true ∧ Evo [] w w') := by
  refine aU (N := 46) Tryz.func36 rfl rfl rfl ?_; refine csr (eK rfl rfl fun b2 w1 J K L => ?_); have M := K; refine eK rfl rfl fun b3 w7 q O A => ?_; have U := O; have y := ((Evo.refl [] w).then L).then A; have p := A.blk0 J; refine wan (aM (csr (wfl rfl cY rfl dO p rfl (wfl rfl cY rfl dO q rfl (aC (gB rfl rfl) ?_))))); refine aE (bV (t := 10) rfl (fun D => ?_) (fun D => ?_))
  ·exact absurd rfl D
  refine bJ (aC (aA rfl fE) (bJ (aC (aI rfl gH (aJ p rfl)) (bJ (aC (aA rfl fE) (bJ (aC (aI rfl gH (aJ q rfl)) (bJ ?_)))))))); refine aC (rJ (ex_neqB rfl rfl Tryz.underlying4) (by simp)) ?_; refine cR (wnn (dZ rfl (fun E => ?_) (fun E => ?_)))
  ·cases E
  refine aQ (aB (aM (csr (wfl rfl dJ rfl eG p rfl (wfl rfl dJ rfl eG q rfl (aC (nH rfl rfl) ?_)))))); refine wnn (dZ rfl (fun H => ?_) (fun H => ?_))
  ·refine csr (wfl rfl dJ rfl eG p rfl (wfl rfl dJ rfl eG p rfl (aC (nH rfl rfl) ?_))); refine aE (gV (t := 27) rfl (fun I => ?_) (fun I => ?_))
   ·refine bJ (aC (aA rfl dJ) (bJ (aC (aI rfl eG (aJ q rfl)) (bJ (aC (aA rfl dJ) (bJ (aC (aI rfl eG (aJ q rfl)) (bJ (aC (nH rfl rfl) ?_))))))))); refine cV (wan (aT (aN (br1 ?_)))); exact ⟨by first | rfl | simp_all, y⟩
   refine bL (bL (bL (bL (bL (cR (wan (aT (aN (br1 ?_))))))))); exact ⟨by first | rfl | simp_all, y⟩
  refine aQ (aB (csr (wfl rfl dJ rfl eG p rfl (aC (nH rfl rfl) ?_)))); refine aE (gV (t := 37) rfl (fun F => ?_) (fun F => ?_))
  ·refine bL (bL (bL (bL (bL (bL (bL (cV (wan (aT (br1 ?_)))))))))); exact ⟨by first | rfl | simp_all, y⟩
  have hz := AT hs (by simpa using F); obtain ⟨r9, G, V⟩ := HE hz; refine bJ (aC (aA rfl dJ) (bJ (aC (aI rfl eG (aJ p rfl)) (bJ (aC (DF (r := r9) rfl rfl G) ?_))))); refine bJ (aC (aA rfl dJ) (bJ (aC (aI rfl eG (aJ q rfl)) (bJ (aC (DF (r := r9) rfl rfl G) ?_))))); refine bJ (aC (lE (DG rfl rfl) V) ?_); refine cR (wan (aT (br1 ?_))); exact ⟨by first | rfl | simp_all, y⟩
end Go.Proofs.YtlpdhbmhbjjnhaaGreatDoor
