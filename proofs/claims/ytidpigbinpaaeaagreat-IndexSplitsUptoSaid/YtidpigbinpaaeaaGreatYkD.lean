/- Splits: part 4 of 6 of what the law rests on. -/
import Derived.Test.YtidpigbinpaaeaaGreatYkC
set_option linter.unusedSectionVars false
set_option linter.unusedSimpArgs false
set_option linter.unusedVariables false
namespace Go.Proofs.YtidpigbinpaaeaaGreat
open Go.RowKit Go.W
attribute [local irreducible] Decidable.decide
theorem QY : iN Tryz.prog 227 = some true := by kernel_rfl
theorem oD : eQ Tryz.prog 227 = some 2 := by kernel_rfl
theorem sB : kF Tryz.prog 227 = some #[.int .i32 0, .int .i32 0] := by kernel_rfl
theorem JZ : kF Tryz.prog 228 = some #[.int .i32 0, .int .i32 0, .int .i32 0, .int .i32 0] := by kernel_rfl
def rE (j : Nat) : Int × Int := if j = 0 then (65, 32) else (97, -32)
theorem halv_c (j : Nat) : (rE j).1 = 65 ∧ (rE j).2 = 32 ∨ (rE j).1 = 97 ∧ (rE j).2 = -32 := by
  unfold rE
  split
  · exact .inl ⟨rfl, rfl⟩
  · exact .inr ⟨rfl, rfl⟩
def nM (h x : Int × Int) : List (Int × Int) := if max x.1 h.1 ≤ min x.2 (h.1 + 25) then [(max x.1 h.1 + h.2, min x.2 (h.1 + 25) + h.2)] else []
def rF (x : Int × Int) : Nat → List (Int × Int)
  | 0 => []
  | j + 1 => rF x j ++ nM (rE j) x
def sX (l : List (Int × Int)) : List (Int × Int) := l.flatMap fun x => rF x 2
theorem OH {h x : Int × Int} {c : Int} : InR c (nM h x) ↔ (h.1 + h.2 ≤ c ∧ c ≤ h.1 + 25 + h.2 ∧ x.1 ≤ c - h.2 ∧ c - h.2 ≤ x.2) := by
  unfold nM
  split
  · rw [lW]; show max x.1 h.1 + h.2 ≤ c ∧ c ≤ min x.2 (h.1 + 25) + h.2 ↔ _; omega
  · refine ⟨fun h => (kR c h).elim, fun h => ?_⟩
    omega
theorem CR {x : Int × Int} {c : Int} : InR c (rF x 2) ↔ (97 ≤ c ∧ c ≤ 122 ∧ x.1 ≤ c - 32 ∧ c - 32 ≤ x.2) ∨ (65 ≤ c ∧ c ≤ 90 ∧ x.1 ≤ c + 32 ∧ c + 32 ≤ x.2) := by
  show InR c ((([] : List (Int × Int)) ++ nM (65, 32) x) ++ nM (97, -32) x) ↔ _
  rw [List.nil_append, oC, OH, OH]
  show (65 + 32 ≤ c ∧ c ≤ 65 + 25 + 32 ∧ x.1 ≤ c - 32 ∧ c - 32 ≤ x.2) ∨ (97 + -32 ≤ c ∧ c ≤ 97 + 25 + -32 ∧ x.1 ≤ c - -32 ∧ c - -32 ≤ x.2) ↔ _
  omega
theorem foldL_in {l : List (Int × Int)} {c : Int} : InR c (l ++ sX l) ↔ pW (fun c => InR c l) c := by
  rw [oC]
  unfold pW sX
  constructor
  · rintro (h | ⟨g, hg, h⟩)
    · exact .inl h
    · obtain ⟨x, hx, hgx⟩ := List.mem_flatMap.1 hg
      have h2 := CR.1 ⟨g, hgx, h⟩
      rcases h2 with h2 | h2
      · exact .inr (.inl ⟨h2.1, h2.2.1, x, hx, h2.2.2⟩)
      · exact .inr (.inr ⟨h2.1, h2.2.1, x, hx, h2.2.2⟩)
  · rintro (h | ⟨h1, h2, x, hx, h3⟩ | ⟨h1, h2, x, hx, h3⟩)
    · exact .inl h
    · obtain ⟨g, hg, h4⟩ := CR.2 (.inl ⟨h1, h2, h3⟩)
      exact .inr ⟨g, List.mem_flatMap.2 ⟨x, hx, hg⟩, h4⟩
    · obtain ⟨g, hg, h4⟩ := CR.2 (.inr ⟨h1, h2, h3⟩)
      exact .inr ⟨g, List.mem_flatMap.2 ⟨x, hx, hg⟩, h4⟩
theorem OF {j : Nat} {x : Int × Int} : Vr (nM (rE j) x) := fun g hg => by
  have hc := halv_c j
  unfold nM at hg
  split at hg
  · rw [List.mem_singleton.1 hg]
    show 0 ≤ max x.1 (rE j).1 + (rE j).2 ∧ max x.1 (rE j).1 + (rE j).2 ≤ min x.2 ((rE j).1 + 25) + (rE j).2 ∧ _ ≤ (1114111 : Int)
    omega
  · cases hg
theorem foldL_vr {l : List (Int × Int)} : Vr (sX l) := fun g hg => by
  obtain ⟨x, hx, hgx⟩ := List.mem_flatMap.1 hg
  have hgx' : g ∈ (([] : List (Int × Int)) ++ nM (rE 0) x) ++ nM (rE 1) x := hgx
  rw [List.nil_append] at hgx'
  rcases List.mem_append.1 hgx' with h | h
  · exact OF g h
  · exact OF g h
theorem TF {l : List (Int × Int)} {k : Nat} (h : k < l.length) : sX (l.take (k + 1)) = sX (l.take k) ++ rF l[k] 2 := by
  unfold sX
  rw [List.take_add_one, List.getElem?_eq_getElem h, List.flatMap_append]; simp
theorem YT (h x : Int × Int) : (nM h x).length ≤ 1 := by unfold nM; split <;> simp
theorem HA (x : Int × Int) : ∀ j, (rF x j).length ≤ j
  | 0 => Nat.le_refl _
  | j + 1 => by rw [rF, List.length_append]; have := HA x j; have := YT (rE j) x; omega
structure FoG where
  k : Nat
  n : Nat
  sa : Option Addr
  sc : Nat
  so : Option Nat
structure FoI (w wr : World) (l o : List (Int × Int)) (a : Option Addr) (c : Nat) (ob : Option Nat) (x : FoG) (m : Nat) : Prop where
  hk : x.k ≤ m
  cl : OwnS wr 135 2 a l.length c (dC l) ob
  own : OwnS wr 135 2 x.sa x.n x.sc (dC o) x.so
  ge : Ge w x.so
  ap : Apart ob x.so
structure FiG where
  j : Nat
  n2 : Nat
  sa2 : Option Addr
  sc2 : Nat
  so2 : Option Nat
structure FiI (w wr : World) (l o : List (Int × Int)) (a : Option Addr) (c : Nat) (ob : Option Nat) (q : Nat) (g : Int × Int) (x : FiG) : Prop where
  hj : x.j ≤ 2
  cl : OwnS wr 135 2 a l.length c (dC l) ob
  own : OwnS wr 135 2 x.sa2 x.n2 x.sc2 (dC o) x.so2
  ge : Ge w x.so2
  ap : Apart ob x.so2
  b5 : wr.heap[q]? = some (.cells #[.int .i32 g.1, .int .i32 g.2] 135 (0, 0))
  s5 : Ge w (some q)
  ap5 : Apart (some q) x.so2
theorem HB {h x : Int × Int} (hc : max x.1 h.1 ≤ min x.2 (h.1 + 25)) : nM h x = [(max x.1 h.1 + h.2, min x.2 (h.1 + 25) + h.2)] := by unfold nM; rw [if_pos hc]
theorem OG {h x : Int × Int} (hc : ¬ max x.1 h.1 ≤ min x.2 (h.1 + 25)) : nM h x = [] := by unfold nM; rw [if_neg hc]
theorem CI {a b : Int} : (if b < a then b else a) = min a b := by omega
theorem RE {l m : List (Int × Int)} (h : Vr l) (h2 : Vr m) : Vr (l ++ m) := fun g hg => (List.mem_append.1 hg).elim (h g) (h2 g)
theorem yL : ∀ l : List (Int × Int), (sX l).length ≤ 2 * l.length
  | [] => Nat.le_refl _
  | x :: l => by
    have h1 : sX (x :: l) = rF x 2 ++ sX l := List.flatMap_cons
    rw [h1, List.length_append, List.length_cons]; have := yL l; have := HA x 2; omega
theorem RsOut.evo {w w' : World} {v : Value} {S : Int → Prop} {n : Nat} (h : RsOut w w' v S n) : Evo [] w w' := by obtain ⟨_, _, _, _, _, _, _, _, _, h⟩ := h; exact h
theorem OD {S T : Int → Prop} (h : ∀ c, S c ↔ T c) (c : Int) : pW S c ↔ pW T c := by unfold pW; rw [h, h, h]
theorem XX {j : Nat} (hj : j < 2) (w : World) : (part 227 #[.int .i32 65, .int .i32 32, .int .i32 97, .int .i32 (-32)] (j * 2)).run Tryz.prog w = .ok (.agg #[.int .i32 (rE j).1, .int .i32 (rE j).2]) w := by
  rw [XP w QY oD]
  match j, hj with
  | 0, _ => rfl
  | 1, _ => rfl
theorem GZ {w : World} {a : Option Addr} {c : Nat} {l : List (Int × Int)} {ob : Option Nat} (hO : OwnS w 135 2 a l.length c (dC l) ob) (hv : Vr l) (hl : l.length ≤ 300000) {S : Int → Prop} (hS : ∀ c, InR c l ↔ S c) :
    Calls Tryz.prog 149 #[.slice a l.length c] w (Ret fun v w' => RsOut w w' v (pW S) (3 * l.length)) := by
  refine aT (N := 54) Tryz.func149 rfl rfl rfl ?_; refine csr (wan (csr (aB ?_))); refine aJ (vs := [_]) uH rfl (HL hO (by omega)) rfl ?_; rintro _ w1 ⟨a1, c1, ob1, rfl, d7, hg1, c7⟩; refine wan (aI (csr (aB (aC (bD rfl Tryz.underlying68 rfl) ?_)))); refine aB (wnn (bC ?_))
  refine cN (α := FoG) (⟨0, l.length, a1, c1, ob1⟩) (fun x => [(3, .slice x.sa x.n x.sc), (14, .int .i64 (x.k : Nat))]) [(2, _), (12, _), (13, _)] (fun x wr => Evo [] w wr ∧ (FoI w wr l (l ++ sX (l.take x.k)) a c ob x l.length ∧ x.n ≤ l.length + 2 * x.k)) (fun x => l.length - x.k) ⟨rfl, rfl, trivial⟩ ⟨rfl, rfl, rfl, trivial⟩ ⟨((Evo.refl [] w).then c7), ⟨⟨Nat.zero_le _, (hO.evo0 c7), by simp [sX]; exact d7, hg1, (Apart.fresh (Lt.own hO) hg1)⟩, Nat.le_refl _⟩⟩ ?_
  rintro ⟨k, n, sa, sc, so⟩ wr7 ⟨a8, ⟨⟨hk, hcl, hown, hge, hap⟩, hnl⟩⟩; show CW _ _ _ _ [(3, .slice sa n sc), (14, .int .i64 (k : Nat)), (2, _), (12, _), (13, _)] _
  try dsimp only at hk hcl hown hge hap hnl
  refine csr (aC (cP rfl rfl) ?_); refine wnn (aI (bA rfl (fun c8 => ?_) (fun c8 => ?_)))
  ·have hk' : k < l.length := by omega
   have hlk := hv _ (List.getElem_mem hk'); obtain ⟨g1, hg1', ha1, d8⟩ := rA hcl hk'; refine aL (aA (aI (bC (csr ?_)))); refine aC (fK (n := k) rfl rfl ha1 eT (by omega)) ?_; refine aC (cY rfl jX fC (vs := [_, _]) rfl (d8.evo (Evo.refl ([]) wr7) (by simp))) ?_; refine cF rfl mD fun b5 e6 d0 U b4 => ?_; have d9 := U; have c0 := Apart.new (Lt.own hown) U; refine aZ rfl rfl fC d0 rfl rfl ⟨by first | rfl | assumption, by first | rfl | assumption, trivial⟩ fun e7 c3 b6 => ?_
   try simp only [cG, Nat.reduceAdd] at c3
   refine wnn (csr ?_); refine aC (uU (vs := [(0, _), (1, _)]) Tryz.underlying227 sB gP rfl (cells := #[.int .i32 65, .int .i32 32]) (by kernel_rfl)) ?_; refine aC (uU (vs := [(0, _), (1, _)]) Tryz.underlying227 sB gP rfl (cells := #[.int .i32 97, .int .i32 (-32)]) (by kernel_rfl)) ?_; refine aC (uU (vs := [(0, _), (1, _)]) Tryz.underlying228 JZ oD rfl (cells := #[.int .i32 65, .int .i32 32, .int .i32 97, .int .i32 (-32)]) (by kernel_rfl)) ?_; refine aB (wnn (bC ?_))
   refine cN (α := FiG) (⟨0, n, sa, sc, so⟩) (fun x => [(3, .slice x.sa2 x.n2 x.sc2), (21, .int .i64 (x.j : Nat))]) [(2, _), (5, _), (12, _), (13, _), (14, _), (20, _)] (fun x wr => Evo [] w wr ∧ (FiI w wr l (l ++ sX (l.take k) ++ rF l[k] x.j) a c ob b5 l[k] x ∧ x.n2 ≤ n + x.j)) (fun x => 2 - x.j) ⟨rfl, rfl, trivial⟩ ⟨rfl, rfl, rfl, rfl, rfl, rfl, trivial⟩ ⟨((a8.then b4).step b6 (Ge.new a8 U).mem1), ⟨⟨Nat.zero_le _, ((hcl.evo0 b4).evo b6 (Apart.new (Lt.own hcl) U).own1), by simp [rF]; exact ((hown.evo0 b4).evo b6 c0.own1), hge, hap, c3, (Ge.new a8 U), c0.symm⟩, Nat.le_refl _⟩⟩ ?_
   rintro ⟨j, n2, sa2, sc2, so2⟩ wr29 ⟨b8, ⟨⟨hj, hcl2, hown2, hge2, hap2, hb52, V, hap5⟩, hnl2⟩⟩; show CW _ _ _ _ [(3, .slice sa2 n2 sc2), (21, .int .i64 (j : Nat)), (2, _), (5, _), (12, _), (13, _), (14, _), (20, _)] _
   try dsimp only at hj hcl2 hown2 hge2 hap2 hb52 V hap5 hnl2
   refine csr (aC (cP rfl rfl) ?_); refine wnn (aI (bA rfl (fun d3 => ?_) (fun d3 => ?_)))
   ·have hj' : j < 2 := by omega
    have hhc := halv_c j; refine aL (aA (aI (bC (csr ?_)))); refine aC (WF (n := j) rfl rfl Tryz.underlying228 rfl (by omega) oD (XX hj')) ?_; refine cF rfl sB fun b7 e8 d4 W a4 => ?_; have e0 := W; refine aZ rfl rfl oD d4 rfl rfl ⟨by first | rfl | assumption, by first | rfl | assumption, trivial⟩ fun e9 c4 a5 => ?_
    try simp only [cG, Nat.reduceAdd] at c4
    refine wnn (aI ?_); refine eX (fun w0 w' => Evo [] w0 w') (by kernel_rfl) (fun A a0 => ?_); have L := ((b8.then a4).step a5 (Ge.new b8 W).mem1).then a0; have a6 := ((hown2.evo0 a4).evo a5 (Apart.new (Lt.own hown2) W).own1).evo0 a0; have M := ((hcl2.evo0 a4).evo a5 (Apart.new (Lt.own hcl2) W).own1).evo0 a0; have H := a0.blk0 (a5.blk (a4.blk0 hb52) (Apart.new (Lt.blk hb52) W).nmem1); have O := a0.blk0 c4; refine aet 0 rfl (fun _ hS => aD rfl fA) (Evo.refl [] A) ?_; refine aet 1 rfl (fun _ hS => aQ rfl cL (aV (hS.blk0 H) rfl)) (Evo.refl [] A) ?_; refine aet 2 rfl (fun _ hS => mT (n := 0) rfl rfl Tryz.underlying227 rfl (by omega) gP) (Evo.refl [] A) ?_; refine aet 3 rfl (fun _ hS => aQ rfl cL (aV (hS.blk0 O) rfl)) (Evo.refl [] A) ?_; refine aet 5 rfl (fun _ hS => aD rfl dY) (Evo.refl [] A) ?_; refine aet 6 rfl (fun _ hS => aQ rfl cL (aV (hS.blk0 H) rfl)) (Evo.refl [] A) ?_; refine aet 7 rfl (fun _ hS => mT (n := 0) rfl rfl Tryz.underlying227 rfl (by omega) gP) (Evo.refl [] A) ?_; refine aet 8 rfl (fun _ hS => aQ rfl cL (aV (hS.blk0 O) rfl)) (Evo.refl [] A) ?_
    refine aet 9 rfl (fun _ hS => iX rfl rfl (by omega) (by omega)) (Evo.refl [] A) ?_; refine bS [4, 10] (by kernel_rfl) rfl ⟨?_, ?_, trivial⟩
    ·refine bY rfl ?_; refine aC (JK rfl rfl) ?_; refine aP (bN (.inl (Evo.refl [] A)) ?_); refine aet 11 rfl (fun _ hS => dU rfl) (Evo.refl [] A) ?_; refine bS [10] (by kernel_rfl) rfl ⟨?_, trivial⟩; refine bY rfl ?_; refine aC (jM rfl rfl) ?_; refine aP (bN (.inl (Evo.refl [] A)) ?_); refine aet 12 rfl (fun _ hS => dU rfl) (Evo.refl [] A) ?_; refine cV (by kernel_rfl) (aA ?_); refine csr (aB (aB (aC (eH rfl rfl) ?_))); refine wnn (bA rfl (fun E => ?_) (fun E => ?_))
     ·refine aF (aB (aB ?_)); refine aC (mT (n := 1) rfl rfl Tryz.underlying227 rfl (by omega) gP) ?_; refine aC (aQ rfl cL (aV O rfl)) ?_; refine aC (iX rfl rfl (by omega) (by omega)) ?_; refine aB ?_; refine aC (mT (n := 1) rfl rfl Tryz.underlying227 rfl (by omega) gP) ?_; refine aC (aQ rfl cL (aV O rfl)) ?_; refine aC (iX rfl rfl (by omega) (by omega)) ?_; refine aC (cA (vs := [(0, _), (1, _)]) jK rfl (cells := [_, _]) rfl) ?_; refine bL (vs := [_]) rfl fZ rfl rfl rfl rfl fun f0 f5 d5 e2 I => ?_; refine cT rfl rfl rfl rfl fB (a6.evo0 I) (Src.ofOwn d5 ⟨by first | rfl | assumption, by first | rfl | assumption, trivial⟩) (by omega) fun a2 c2 f6 ob2 c5 b9 hob78 => ?_; refine bR (aP (aO (aA (aF ?_)))); refine aC (aK rfl rfl (by omega) (by omega)) ?_; refine aB (aP (aW ?_)); refine ⟨⟨j + 1, n2 + 1, a2, c2, ob2⟩, ?_, ⟨rfl, rfl, trivial⟩, ⟨rfl, rfl, rfl, rfl, rfl, rfl, trivial⟩, ((L.then I).step b9 hge2.mem), ?_⟩
      · (try dsimp only); omega
      try dsimp only
      refine ⟨⟨hj', ((M.evo0 I).evo b9 hap2.own), ?_, (hge2.app (L.then I) hob78), (hap2.app (Lt.own (M.evo0 I)) hob78), (b9.blk (I.blk0 H) hap5.nmem), V, (hap5.app (Lt.blk (I.blk0 H)) hob78)⟩, (by show n2 + 1 ≤ n + (j + 1); omega)⟩
      simp only [CJ, CI] at E; rw [rF, ← List.append_assoc, jR _ (nM (rE j) l[k]), HB E]; have a3 := c5; simp only [CJ, CI] at a3; exact a3
     refine aL (aO (aA (aF ?_))); refine aC (aK rfl rfl (by omega) (by omega)) ?_; refine aB (aP (aW ?_)); refine ⟨⟨j + 1, n2, sa2, sc2, so2⟩, ?_, ⟨rfl, rfl, trivial⟩, ⟨rfl, rfl, rfl, rfl, rfl, rfl, trivial⟩, L, ?_⟩
     · (try dsimp only); omega
     try dsimp only
     simp only [CJ, CI] at E
     refine ⟨⟨hj', M, ?_, hge2, hap2, H, V, hap5⟩, (by show n2 ≤ n + (j + 1); omega)⟩
     rw [rF, OG E, List.append_nil]; exact a6
    refine bY rfl ?_; refine aC (jM rfl rfl) ?_; refine aP (bN (.inl (Evo.refl [] A)) ?_); refine bS [4] (by kernel_rfl) rfl ⟨?_, trivial⟩; refine bY rfl ?_; refine aC (JK rfl rfl) ?_; refine aP (bN (.inl (Evo.refl [] A)) ?_); refine aet 11 rfl (fun _ hS => dU rfl) (Evo.refl [] A) ?_; refine aet 12 rfl (fun _ hS => dU rfl) (Evo.refl [] A) ?_; refine cV (by kernel_rfl) (aA ?_); refine csr (aB (aB (aC (eH rfl rfl) ?_))); refine wnn (bA rfl (fun E => ?_) (fun E => ?_))
    ·refine aF (aB (aB ?_)); refine aC (mT (n := 1) rfl rfl Tryz.underlying227 rfl (by omega) gP) ?_; refine aC (aQ rfl cL (aV O rfl)) ?_; refine aC (iX rfl rfl (by omega) (by omega)) ?_; refine aB ?_; refine aC (mT (n := 1) rfl rfl Tryz.underlying227 rfl (by omega) gP) ?_; refine aC (aQ rfl cL (aV O rfl)) ?_; refine aC (iX rfl rfl (by omega) (by omega)) ?_; refine aC (cA (vs := [(0, _), (1, _)]) jK rfl (cells := [_, _]) rfl) ?_; refine bL (vs := [_]) rfl fZ rfl rfl rfl rfl fun f7 f8 d6 e3 J => ?_; refine cT rfl rfl rfl rfl fB (a6.evo0 J) (Src.ofOwn d6 ⟨by first | rfl | assumption, by first | rfl | assumption, trivial⟩) (by omega) fun a2 c2 e4 ob2 c5 a7 hob110 => ?_; refine bR (aP (aO (aA (aF ?_)))); refine aC (aK rfl rfl (by omega) (by omega)) ?_; refine aB (aP (aW ?_)); refine ⟨⟨j + 1, n2 + 1, a2, c2, ob2⟩, ?_, ⟨rfl, rfl, trivial⟩, ⟨rfl, rfl, rfl, rfl, rfl, rfl, trivial⟩, ((L.then J).step a7 hge2.mem), ?_⟩
     · (try dsimp only); omega
     try dsimp only
     refine ⟨⟨hj', ((M.evo0 J).evo a7 hap2.own), ?_, (hge2.app (L.then J) hob110), (hap2.app (Lt.own (M.evo0 J)) hob110), (a7.blk (J.blk0 H) hap5.nmem), V, (hap5.app (Lt.blk (J.blk0 H)) hob110)⟩, (by show n2 + 1 ≤ n + (j + 1); omega)⟩
     simp only [CJ, CI] at E; rw [rF, ← List.append_assoc, jR _ (nM (rE j) l[k]), HB E]; have a3 := c5; simp only [CJ, CI] at a3; exact a3
    refine aL (aO (aA (aF ?_))); refine aC (aK rfl rfl (by omega) (by omega)) ?_; refine aB (aP (aW ?_)); refine ⟨⟨j + 1, n2, sa2, sc2, so2⟩, ?_, ⟨rfl, rfl, trivial⟩, ⟨rfl, rfl, rfl, rfl, rfl, rfl, trivial⟩, L, ?_⟩
    · (try dsimp only); omega
    try dsimp only
    simp only [CJ, CI] at E
    refine ⟨⟨hj', M, ?_, hge2, hap2, H, V, hap5⟩, (by show n2 ≤ n + (j + 1); omega)⟩
    rw [rF, OG E, List.append_nil]; exact a6
   refine cJ (bH (bH (cI (aO (aA ?_))))); refine aF ?_; refine aC (aK rfl rfl (by omega) (by omega)) ?_; refine aB (aP (aW ?_)); refine ⟨⟨k + 1, n2, sa2, sc2, so2⟩, ?_, ⟨rfl, rfl, trivial⟩, ⟨rfl, rfl, rfl, trivial⟩, b8, ?_⟩
   · (try dsimp only); omega
   try dsimp only
   obtain rfl : j = 2 := by omega
   refine ⟨⟨hk', hcl2, ?_, hge2, hap2⟩, (by show n2 ≤ l.length + 2 * (k + 1); omega)⟩
   rw [TF hk', ← List.append_assoc]; exact hown2
  rw [List.take_of_length_le (show l.length ≤ k by omega)] at hown; have hfl := yL l; have e1 := rS hown; subst e1; refine cJ (bH (bH (cI (aA ?_)))); refine csr (aB ?_)
  refine aJ (vs := [_]) sN rfl (yH hown (RE hv foldL_vr) (by rw [List.length_append]; omega) (fun c => foldL_in.trans (OD hS c))) rfl ?_
  rintro rv e5 hR; have c6 := hR.evo; refine wan (aH (br1 ?_)); obtain ⟨a9, c9, ob9, rfl, a3, hg9, hl9, hcan9, heq9, hev9⟩ := hR
  exact ⟨a9, c9, ob9, rfl, a3, Ge.fresh a8 hg9, by rw [List.length_append] at hl9; have := yL l; omega, hcan9, heq9, (a8.then c6)⟩
theorem dE : Build Tryz.prog 71 #[(0, 1), (1, 1), (2, 1), (3, 1), (4, 1), (5, 1), (6, 1), (7, 1), (8, 1)] #[.int .i64 0, .int .i32 0, .slice none 0 0, .int .i64 0, .int .i64 0, .bool false, .int .i64 0, .string ByteArray.empty, .slice none 0 0] := ⟨_, .agg #[.int .i64 0, .int .i32 0, .slice none 0 0, .int .i64 0, .int .i64 0, .bool false, .int .i64 0, .string ByteArray.empty, .slice none 0 0], Tryz.underlying71, by kernel_rfl, rfl, fun w => by kernel_rfl⟩
theorem cW : cX Tryz.prog 132 := ⟨_, Tryz.func132, by kernel_rfl, by kernel_rfl⟩
theorem kB : cX Tryz.prog 150 := ⟨_, Tryz.func150, by kernel_rfl, by kernel_rfl⟩
theorem cQ : lS Tryz.prog 217 = some (21, 1) := by kernel_rfl
def EB (w w' : World) (v : Value) (S : Int → Prop) (n : Nat) : Prop := ∃ a c ob l, v = .slice a l.length c ∧ OwnS w' 135 2 a l.length c (dC l) ob ∧ Ge w ob ∧ Vr l ∧ (∀ c, InR c l ↔ S c) ∧ l.length ≤ n
theorem RsOut.set {X : List Nat} {w0 w w' : World} {v : Value} {S : Int → Prop} {n : Nat} (h : RsOut w w' v S n) (he : Evo X w0 w) : EB w0 w' v S n := by
  obtain ⟨a, c, ob, h1, h2, h3, h4, h5, h6, -⟩ := h
  exact ⟨a, c, ob, kI S, h1, h2, Ge.fresh he h3, yO h5, h6, h4⟩
theorem BZ {S : Int → Prop} {m : List (Int × Int)} (e : kI S = m) (h1 : m.length = 1) (h2 : (m[0]'(by omega)).1 = (m[0]'(by omega)).2) : kQ S = yX (m[0]'(by omega)).1 := by
  obtain ⟨⟨a, b⟩, rfl⟩ := List.length_eq_one_iff.1 h1
  have h2' : a = b := h2
  unfold kQ
  rw [e]
  show (if a = b then yX a else wF [(a, b)]) = _
  rw [if_pos h2']; rfl
theorem tO {S : Int → Prop} {m : List (Int × Int)} (e : kI S = m) (h : ∀ h1 : m.length = 1, ¬ (m[0]'(by omega)).1 = (m[0]'(by omega)).2) : kQ S = wF m := by
  unfold kQ
  rw [e]
  match m, h with
  | [], h => rfl
  | [(a, b)], h =>
    have h2 : ¬ a = b := h rfl
    show (if a = b then yX a else wF [(a, b)]) = _
    rw [if_neg h2]
  | a :: b :: l, h => rfl
theorem or_c : ∀ c : Nat, c < 256 → ((c ||| 32 = 100 → c = 68 ∨ c = 100) ∧ (c ||| 32 = 115 → c = 83 ∨ c = 115) ∧ (c ||| 32 = 119 → c = 87 ∨ c = 119)) ∧ (c ||| 32 ≠ 100 → c ≠ 68 ∧ c ≠ 100) ∧ (c ||| 32 ≠ 115 → c ≠ 83 ∧ c ≠ 115) ∧ (c ||| 32 ≠ 119 → c ≠ 87 ∧ c ≠ 119) := by
  have h : ∀ c : Fin 256, ((c.1 ||| 32 = 100 → c.1 = 68 ∨ c.1 = 100) ∧ (c.1 ||| 32 = 115 → c.1 = 83 ∨ c.1 = 115) ∧ (c.1 ||| 32 = 119 → c.1 = 87 ∨ c.1 = 119)) ∧ (c.1 ||| 32 ≠ 100 → c.1 ≠ 68 ∧ c.1 ≠ 100) ∧ (c.1 ||| 32 ≠ 115 → c.1 ≠ 83 ∧ c.1 ≠ 115) ∧ (c.1 ||| 32 ≠ 119 → c.1 ≠ 87 ∧ c.1 ≠ 119) := by decide +kernel
  exact fun c hc => h ⟨c, hc⟩
theorem gU {l : List (Int × Int)} (h : l.all (fun g => decide (0 ≤ g.1) && decide (g.1 ≤ g.2) && decide (g.2 ≤ 1114111)) = true) : Vr l := fun g hg => by
  have := List.all_eq_true.1 h g hg
  simp only [Bool.and_eq_true, decide_eq_true_eq] at this
  exact ⟨this.1.1, this.1.2, this.2⟩
theorem yI {c : Nat} (h : c ≠ 100 ∧ c ≠ 115 ∧ c ≠ 119 ∧ c ≠ 68 ∧ c ≠ 83 ∧ c ≠ 87) : zY c = none := by
  unfold zY; rw [if_neg h.1, if_neg h.2.1, if_neg h.2.2.1, if_neg h.2.2.2.1, if_neg h.2.2.2.2.1, if_neg h.2.2.2.2.2]
def LetOut (w w' : World) (v : Value) (o : Option (Int → Prop)) : Prop := (o = none ∧ v = .tuple #[.slice none 0 0, .bool false]) ∨ ∃ S v', o = some S ∧ v = .tuple #[v', .bool true] ∧ EB w w' v' S 8
theorem oB {w : World} {a : Option Addr} {c : Nat} {l : List (Int × Int)} {ob : Option Nat} (hO : OwnS w 135 2 a l.length c (dC l) ob) (hv : Vr l) (hl : l.length ≤ 1000000) {S : Int → Prop} (hS : ∀ c, InR c l ↔ S c) :
    Calls Tryz.prog 131 #[.slice a l.length c] w (Ret fun v w' => TOut w w' v (kQ S) ∧ Evo [] w w') := by
  refine aT (N := 26) Tryz.func131 rfl rfl rfl ?_; refine csr (cF rfl eJ fun b2 w1 J a5 a9 => ?_); have b4 := a5; have L := Ge.new (Evo.refl [] w) a5; have E := (Evo.refl [] w).then a9; refine wnn (csr (aB (aJ (vs := [_]) sN rfl (yH (hO.evo0 E) hv hl hS) rfl ?_))); rintro _ w7 ⟨a1, c1, ob1, rfl, M, hg1, hml, hcan, heqS, I⟩; have a6 := Apart.fresh (Lt.blk J) hg1
  generalize hm : kI S = m at *
  refine wan (aI (aI ?_)); refine eP (by kernel_rfl) (by kernel_rfl) ?_; refine bJ (fun _ A => aY rfl) ?_; refine bJ (fun _ A => bD rfl Tryz.underlying68 rfl) ?_; refine bJ (fun _ A => lZ rfl rfl) ?_; refine bJ (fun _ A => aY rfl) ?_; refine kN (t := 8) rfl (fun b5 => ?_) (fun b5 => ?_)
  ·have hm1 : m.length = 1 := by omega
   obtain ⟨g1, hg1', ha1, O⟩ := rA M (i := 0) (by omega); refine qlg ?_; refine bJ (fun _ A => aY rfl) ?_; refine qlg ?_; refine bJ (fun _ A => fK (n := 0) rfl rfl ha1 eT (by omega)) ?_; refine qlg ?_; refine bJ (fun _ A => aD rfl fA) ?_; refine qlg ?_; refine bJ (fun _ A => aQ rfl cL ((((Evo.refl ([]) w7).then A)).cell (O 0 _ rfl) (by simp))) ?_; refine qlg ?_; refine bJ (fun _ A => aY rfl) ?_; refine qlg ?_; refine bJ (fun _ A => fK (n := 0) rfl rfl ha1 eT (by omega)) ?_; refine qlg ?_; refine bJ (fun _ A => aD rfl dY) ?_; refine qlg ?_; refine bJ (fun _ A => aQ rfl cL ((((Evo.refl ([]) w7).then A)).cell (O 1 _ rfl) (by simp))) ?_; refine qlg ?_; refine bJ (fun _ A => lZ rfl rfl) ?_; refine bJ (fun _ A => dX rfl rfl) ?_; refine eV (fun a7 A => aA ?_); have U := (E.then I).then A; have V := A.blk0 (I.blk0 J); refine bA rfl (fun H => ?_) (fun H => ?_)
   ·refine csr (aB ?_); refine aC (fK (n := 0) rfl rfl ha1 eT (by omega)) ?_; refine aC (aD rfl fA) ?_; refine aC (aQ rfl cL ((((Evo.refl ([]) w7).then A)).cell (O 0 _ rfl) (by simp))) ?_; refine aC (cA (vs := [(0, _), (1, _)]) dE rfl (cells := [_, _, _, _, _, _, _, _, _]) rfl) ?_; refine aZ rfl rfl aU V rfl rfl ⟨by first | rfl | assumption, by first | rfl | assumption, by first | rfl | assumption, by first | rfl | assumption, by first | rfl | assumption, by first | rfl | assumption, by first | rfl | assumption, by first | rfl | assumption, by first | rfl | assumption, trivial⟩ fun b6 W a8 => ?_
    try simp only [cG, Nat.reduceAdd] at W
    refine wnn (aH (aE (cK rfl (ResOk.cellA rfl bV aU W rfl) ?_))); refine ⟨?_, (U.step a8 L.mem1)⟩; rw [BZ hm hm1 (by simpa using H)]; exact ⟨_, [], rfl, ot_lit _ _, Fr.nil _⟩
   refine aL (aA (csr (aB (aC (cA (vs := [(0, _), (2, _)]) dE rfl (cells := [_, _, _, _, _, _, _, _, _]) rfl) ?_)))); refine aZ rfl rfl aU V rfl rfl ⟨by first | rfl | assumption, by first | rfl | assumption, by first | rfl | assumption, by first | rfl | assumption, by first | rfl | assumption, by first | rfl | assumption, by first | rfl | assumption, by first | rfl | assumption, by first | rfl | assumption, trivial⟩ fun b7 a0 a2 => ?_
   try simp only [cG, Nat.reduceAdd] at a0
   refine wnn (aH (cK rfl (ResOk.cellA rfl bV aU a0 rfl) ?_)); refine ⟨?_, (U.step a2 L.mem1)⟩; rw [tO hm (fun h1 => by simpa using H)]; exact ⟨_, _, rfl, ot_cls ((M.evo0 A).evo a2 a6.symm.own1) (by omega), ge_fr (Ge.fresh E hg1)⟩
  refine qln ?_; refine qln ?_; refine qln ?_; refine qln ?_; refine qln ?_; refine qln ?_; refine qln ?_; refine qln ?_; refine qln ?_; refine bJ (fun _ A => eU rfl rfl) ?_; refine eV (fun a7 A => aA ?_); refine cM rfl ?_; refine aL (aA (csr (aB (aC (cA (vs := [(0, _), (2, _)]) dE rfl (cells := [_, _, _, _, _, _, _, _, _]) rfl) ?_)))); refine aZ rfl rfl aU (A.blk0 (I.blk0 J)) rfl rfl ⟨by first | rfl | assumption, by first | rfl | assumption, by first | rfl | assumption, by first | rfl | assumption, by first | rfl | assumption, by first | rfl | assumption, by first | rfl | assumption, by first | rfl | assumption, by first | rfl | assumption, trivial⟩ fun b8 a3 a4 => ?_
  try simp only [cG, Nat.reduceAdd] at a3
  refine wnn (aH (cK rfl (ResOk.cellA rfl bV aU a3 rfl) ?_)); refine ⟨?_, (((E.then I).then A).step a4 L.mem1)⟩; rw [tO hm (fun h1 => by omega)]; exact ⟨_, _, rfl, ot_cls ((M.evo0 A).evo a4 a6.symm.own1) (by omega), ge_fr (Ge.fresh E hg1)⟩
theorem uN {w w' : World} {v : Value} {S : Int → Prop} {n m : Nat} (h : EB w w' v S n) (hm : n ≤ m) : EB w w' v S m := by
  obtain ⟨a, c, ob, l, h1, h2, h3, h4, h5, h6⟩ := h
  exact ⟨a, c, ob, l, h1, h2, h3, h4, h5, Nat.le_trans h6 hm⟩
theorem wI {w : World} (c : Nat) (hc : c < 256) :
    Calls Tryz.prog 152 #[.int .u8 (c : Nat)] w (Ret fun v w' => LetOut w w' v (zY c) ∧ Evo [] w w') := by
  have hor := or_c c hc; refine aT (N := 31) Tryz.func152 rfl rfl rfl ?_; refine csr (bR (wan (csr (wan (aI (csr (aB ?_))))))); refine aC (ex_orN (m := c) (n := 32) rfl rfl rfl rfl rfl hc (by decide)) ?_; refine wnn (bC (csr (wel ?_))); refine wan (bA rfl (fun b5 => ?_) (fun b5 => ?_))
  ·have hcs := hor.1.1 (by omega); refine aF (bL (vs := [_, _]) rfl cQ rfl rfl rfl rfl fun b1 w2 b6 c2 b7 => ?_); have V := (Evo.refl [] w).then b7; refine aJ (vs := [_]) cW rfl (fU (es := [48, 57]) b6 (by decide)) rfl ?_; rintro _ w8 ⟨a1, c1, ob1, rfl, H, hg1, b8⟩; have J := V.then b8; refine bR (aP (aO (aA (aI (csr (aB (wnn (bC (aI (csr (wel ?_))))))))))); refine wan (bA rfl (fun A => ?_) (fun A => ?_))
   ·refine aL (aA (bA rfl (fun A => ?_) (fun A => ?_)))
    ·refine aF (aB ?_); refine aJ (vs := [_]) kB rfl (mQ (l := [(48, 57)]) H (gU (by kernel_rfl)) (by decide) (fun c => Iff.rfl)) rfl ?_; rintro rv c3 hR; have I := J; have W := hR.evo; refine bR (aP (aO (aA (csr (aB (bR (wan (aH (cB rfl rfl rfl ?_)))))))))
     obtain rfl : c = 68 := by omega
     exact ⟨.inr ⟨_, _, rfl, rfl, uN (hR.set I) (by decide)⟩, (J.then W)⟩
    exfalso; omega
   refine csr (wel ?_); refine wan (bA rfl (fun A => ?_) (fun A => ?_))
   ·exfalso; omega
   refine aF (wel ?_); refine wan (bA rfl (fun A => ?_) (fun A => ?_))
   ·exfalso; omega
   refine aI (csr (wel ?_)); refine wan (bA rfl (fun E => ?_) (fun E => ?_))
   ·refine aL (aA (bA rfl (fun E => ?_) (fun E => ?_)))
    ·refine aL (aO (aA (csr (aB (bR (wan (aH (cB rfl rfl rfl ?_))))))))
     obtain rfl : c = 100 := by omega
     exact ⟨.inr ⟨_, _, rfl, rfl, _, _, _, [(48, 57)], rfl, H, (Ge.fresh V hg1), gU (by kernel_rfl), fun c => Iff.rfl, by decide⟩, J⟩
    exfalso; omega
   exfalso; omega
  refine csr (wel ?_); refine wan (bA rfl (fun a0 => ?_) (fun a0 => ?_))
  ·have hcs := hor.1.2.1 (by omega); refine aF (bL (vs := [_, _, _, _, _, _]) rfl cQ rfl rfl rfl rfl fun c4 c5 a2 b9 a3 => ?_); have O := (Evo.refl [] w).then a3; refine aJ (vs := [_]) cW rfl (fU (es := [9, 10, 12, 13, 32, 32]) a2 (by decide)) rfl ?_; rintro _ c6 ⟨a1, c1, ob1, rfl, H, hg1, a4⟩; have L := O.then a4; refine bR (aP (aO (aA (aI (csr (aB (wnn (bC (aI (csr (wel ?_))))))))))); refine wan (bA rfl (fun A => ?_) (fun A => ?_))
   ·exfalso; omega
   refine csr (wel ?_); refine wan (bA rfl (fun A => ?_) (fun A => ?_))
   ·refine aL (aA (bA rfl (fun A => ?_) (fun A => ?_)))
    ·refine aF (aB ?_); refine aJ (vs := [_]) kB rfl (mQ (l := [(9, 10), (12, 13), (32, 32)]) H (gU (by kernel_rfl)) (by decide) (fun c => Iff.rfl)) rfl ?_; rintro rv c7 hR; have I := L; have a5 := hR.evo; refine bR (aP (aO (aA (csr (aB (bR (wan (aH (cB rfl rfl rfl ?_)))))))))
     obtain rfl : c = 83 := by omega
     exact ⟨.inr ⟨_, _, rfl, rfl, uN (hR.set I) (by decide)⟩, (L.then a5)⟩
    exfalso; omega
   refine aF (wel ?_); refine wan (bA rfl (fun A => ?_) (fun A => ?_))
   ·exfalso; omega
   refine aI (csr (wel ?_)); refine wan (bA rfl (fun E => ?_) (fun E => ?_))
   ·exfalso; omega
   refine csr (wel ?_); refine wan (bA rfl (fun E => ?_) (fun E => ?_))
   ·refine aL (aA (bA rfl (fun E => ?_) (fun E => ?_)))
    ·refine aL (aO (aA (csr (aB (bR (wan (aH (cB rfl rfl rfl ?_))))))))
     obtain rfl : c = 115 := by omega
     exact ⟨.inr ⟨_, _, rfl, rfl, _, _, _, [(9, 10), (12, 13), (32, 32)], rfl, H, (Ge.fresh O hg1), gU (by kernel_rfl), fun c => Iff.rfl, by decide⟩, L⟩
    exfalso; omega
   exfalso; omega
  refine csr (wel ?_); refine wan (bA rfl (fun a6 => ?_) (fun a6 => ?_))
  ·have hcs := hor.1.2.2 (by omega); refine aF (bL (vs := [_, _, _, _, _, _, _, _]) rfl cQ rfl rfl rfl rfl fun c8 c9 a7 c0 a8 => ?_); have U := (Evo.refl [] w).then a8; refine aJ (vs := [_]) cW rfl (fU (es := [48, 57, 65, 90, 95, 95, 97, 122]) a7 (by decide)) rfl ?_; rintro _ d0 ⟨a1, c1, ob1, rfl, H, hg1, a9⟩; have M := U.then a9; refine bR (aP (aO (aA (aI (csr (aB (wnn (bC (aI (csr (wel ?_))))))))))); refine wan (bA rfl (fun A => ?_) (fun A => ?_))
   ·exfalso; omega
   refine csr (wel ?_); refine wan (bA rfl (fun A => ?_) (fun A => ?_))
   ·exfalso; omega
   refine aF (wel ?_); refine wan (bA rfl (fun A => ?_) (fun A => ?_))
   ·refine aF (aB ?_); refine aJ (vs := [_]) kB rfl (mQ (l := [(48, 57), (65, 90), (95, 95), (97, 122)]) H (gU (by kernel_rfl)) (by decide) (fun c => Iff.rfl)) rfl ?_; rintro rv d3 hR; have I := M; have b4 := hR.evo; refine bR (aP (aO (aA (csr (aB (bR (wan (aH (cB rfl rfl rfl ?_)))))))))
    obtain rfl : c = 87 := by omega
    exact ⟨.inr ⟨_, _, rfl, rfl, uN (hR.set I) (by decide)⟩, (M.then b4)⟩
   refine aI (csr (wel ?_)); refine wan (bA rfl (fun E => ?_) (fun E => ?_))
   ·exfalso; omega
   refine csr (wel ?_); refine wan (bA rfl (fun E => ?_) (fun E => ?_))
   ·exfalso; omega
   refine aF (wel ?_); refine wan (bA rfl (fun E => ?_) (fun E => ?_))
   ·refine aL (aO (aA (csr (aB (bR (wan (aH (cB rfl rfl rfl ?_))))))))
    obtain rfl : c = 119 := by omega
    exact ⟨.inr ⟨_, _, rfl, rfl, _, _, _, [(48, 57), (65, 90), (95, 95), (97, 122)], rfl, H, (Ge.fresh U hg1), gU (by kernel_rfl), fun c => Iff.rfl, by decide⟩, M⟩
   exfalso; omega
  refine csr (bR (wan (aH (aM (aE (cB rfl rfl rfl ?_))))))
  exact ⟨.inl ⟨yI (by have := hor.2; omega), rfl⟩, (Evo.refl [] w)⟩
theorem qS : dA Tryz.prog 114 0 = some 0 := by kernel_rfl
theorem dS : dA Tryz.prog 116 2 = some 2 := by kernel_rfl
theorem gM : cX Tryz.prog 131 := ⟨_, Tryz.func131, by kernel_rfl, by kernel_rfl⟩
theorem xP : cX Tryz.prog 149 := ⟨_, Tryz.func149, by kernel_rfl, by kernel_rfl⟩
theorem nam0 {n : ByteArray} (h : n = asc [97, 108, 110, 117, 109]) : iR n = some (rs [(48, 57), (65, 90), (97, 122)]) := by unfold iR; rw [if_pos h]
theorem nam1 {n : ByteArray} (h0 : ¬ n = asc [97, 108, 110, 117, 109]) (h : n = asc [97, 108, 112, 104, 97]) : iR n = some (rs [(65, 90), (97, 122)]) := by unfold iR; rw [if_neg h0, if_pos h]
theorem nam2 {n : ByteArray} (h0 : ¬ n = asc [97, 108, 110, 117, 109]) (h1 : ¬ n = asc [97, 108, 112, 104, 97]) (h : n = asc [97, 115, 99, 105, 105]) : iR n = some (rs [(0, 127)]) := by unfold iR; rw [if_neg h0, if_neg h1, if_pos h]
theorem nam3 {n : ByteArray} (h0 : ¬ n = asc [97, 108, 110, 117, 109]) (h1 : ¬ n = asc [97, 108, 112, 104, 97]) (h2 : ¬ n = asc [97, 115, 99, 105, 105]) (h : n = asc [98, 108, 97, 110, 107]) : iR n = some (rs [(9, 9), (32, 32)]) := by unfold iR; rw [if_neg h0, if_neg h1, if_neg h2, if_pos h]
theorem nam4 {n : ByteArray} (h0 : ¬ n = asc [97, 108, 110, 117, 109]) (h1 : ¬ n = asc [97, 108, 112, 104, 97]) (h2 : ¬ n = asc [97, 115, 99, 105, 105]) (h3 : ¬ n = asc [98, 108, 97, 110, 107]) (h : n = asc [99, 110, 116, 114, 108]) : iR n = some (rs [(0, 31), (127, 127)]) := by unfold iR; rw [if_neg h0, if_neg h1, if_neg h2, if_neg h3, if_pos h]
theorem nam5 {n : ByteArray} (h0 : ¬ n = asc [97, 108, 110, 117, 109]) (h1 : ¬ n = asc [97, 108, 112, 104, 97]) (h2 : ¬ n = asc [97, 115, 99, 105, 105]) (h3 : ¬ n = asc [98, 108, 97, 110, 107]) (h4 : ¬ n = asc [99, 110, 116, 114, 108]) (h : n = asc [100, 105, 103, 105, 116]) : iR n = some (rs [(48, 57)]) := by unfold iR; rw [if_neg h0, if_neg h1, if_neg h2, if_neg h3, if_neg h4, if_pos h]
theorem nam6 {n : ByteArray} (h0 : ¬ n = asc [97, 108, 110, 117, 109]) (h1 : ¬ n = asc [97, 108, 112, 104, 97]) (h2 : ¬ n = asc [97, 115, 99, 105, 105]) (h3 : ¬ n = asc [98, 108, 97, 110, 107]) (h4 : ¬ n = asc [99, 110, 116, 114, 108]) (h5 : ¬ n = asc [100, 105, 103, 105, 116]) (h : n = asc [103, 114, 97, 112, 104]) : iR n = some (rs [(33, 126)]) := by unfold iR; rw [if_neg h0, if_neg h1, if_neg h2, if_neg h3, if_neg h4, if_neg h5, if_pos h]
theorem nam7 {n : ByteArray} (h0 : ¬ n = asc [97, 108, 110, 117, 109]) (h1 : ¬ n = asc [97, 108, 112, 104, 97]) (h2 : ¬ n = asc [97, 115, 99, 105, 105]) (h3 : ¬ n = asc [98, 108, 97, 110, 107]) (h4 : ¬ n = asc [99, 110, 116, 114, 108]) (h5 : ¬ n = asc [100, 105, 103, 105, 116]) (h6 : ¬ n = asc [103, 114, 97, 112, 104]) (h : n = asc [108, 111, 119, 101, 114]) : iR n = some (rs [(97, 122)]) := by unfold iR; rw [if_neg h0, if_neg h1, if_neg h2, if_neg h3, if_neg h4, if_neg h5, if_neg h6, if_pos h]
theorem nam8 {n : ByteArray} (h0 : ¬ n = asc [97, 108, 110, 117, 109]) (h1 : ¬ n = asc [97, 108, 112, 104, 97]) (h2 : ¬ n = asc [97, 115, 99, 105, 105]) (h3 : ¬ n = asc [98, 108, 97, 110, 107]) (h4 : ¬ n = asc [99, 110, 116, 114, 108]) (h5 : ¬ n = asc [100, 105, 103, 105, 116]) (h6 : ¬ n = asc [103, 114, 97, 112, 104]) (h7 : ¬ n = asc [108, 111, 119, 101, 114]) (h : n = asc [112, 114, 105, 110, 116]) : iR n = some (rs [(32, 126)]) := by unfold iR; rw [if_neg h0, if_neg h1, if_neg h2, if_neg h3, if_neg h4, if_neg h5, if_neg h6, if_neg h7, if_pos h]
theorem nam9 {n : ByteArray} (h0 : ¬ n = asc [97, 108, 110, 117, 109]) (h1 : ¬ n = asc [97, 108, 112, 104, 97]) (h2 : ¬ n = asc [97, 115, 99, 105, 105]) (h3 : ¬ n = asc [98, 108, 97, 110, 107]) (h4 : ¬ n = asc [99, 110, 116, 114, 108]) (h5 : ¬ n = asc [100, 105, 103, 105, 116]) (h6 : ¬ n = asc [103, 114, 97, 112, 104]) (h7 : ¬ n = asc [108, 111, 119, 101, 114]) (h8 : ¬ n = asc [112, 114, 105, 110, 116]) (h : n = asc [112, 117, 110, 99, 116]) : iR n = some (rs [(33, 47), (58, 64), (91, 96), (123, 126)]) := by unfold iR; rw [if_neg h0, if_neg h1, if_neg h2, if_neg h3, if_neg h4, if_neg h5, if_neg h6, if_neg h7, if_neg h8, if_pos h]
theorem nam10 {n : ByteArray} (h0 : ¬ n = asc [97, 108, 110, 117, 109]) (h1 : ¬ n = asc [97, 108, 112, 104, 97]) (h2 : ¬ n = asc [97, 115, 99, 105, 105]) (h3 : ¬ n = asc [98, 108, 97, 110, 107]) (h4 : ¬ n = asc [99, 110, 116, 114, 108]) (h5 : ¬ n = asc [100, 105, 103, 105, 116]) (h6 : ¬ n = asc [103, 114, 97, 112, 104]) (h7 : ¬ n = asc [108, 111, 119, 101, 114]) (h8 : ¬ n = asc [112, 114, 105, 110, 116]) (h9 : ¬ n = asc [112, 117, 110, 99, 116]) (h : n = asc [115, 112, 97, 99, 101]) : iR n = some (rs [(9, 13), (32, 32)]) := by unfold iR; rw [if_neg h0, if_neg h1, if_neg h2, if_neg h3, if_neg h4, if_neg h5, if_neg h6, if_neg h7, if_neg h8, if_neg h9, if_pos h]
theorem nam11 {n : ByteArray} (h0 : ¬ n = asc [97, 108, 110, 117, 109]) (h1 : ¬ n = asc [97, 108, 112, 104, 97]) (h2 : ¬ n = asc [97, 115, 99, 105, 105]) (h3 : ¬ n = asc [98, 108, 97, 110, 107]) (h4 : ¬ n = asc [99, 110, 116, 114, 108]) (h5 : ¬ n = asc [100, 105, 103, 105, 116]) (h6 : ¬ n = asc [103, 114, 97, 112, 104]) (h7 : ¬ n = asc [108, 111, 119, 101, 114]) (h8 : ¬ n = asc [112, 114, 105, 110, 116]) (h9 : ¬ n = asc [112, 117, 110, 99, 116]) (h10 : ¬ n = asc [115, 112, 97, 99, 101]) (h : n = asc [117, 112, 112, 101, 114]) : iR n = some (rs [(65, 90)]) := by unfold iR; rw [if_neg h0, if_neg h1, if_neg h2, if_neg h3, if_neg h4, if_neg h5, if_neg h6, if_neg h7, if_neg h8, if_neg h9, if_neg h10, if_pos h]
theorem nam12 {n : ByteArray} (h0 : ¬ n = asc [97, 108, 110, 117, 109]) (h1 : ¬ n = asc [97, 108, 112, 104, 97]) (h2 : ¬ n = asc [97, 115, 99, 105, 105]) (h3 : ¬ n = asc [98, 108, 97, 110, 107]) (h4 : ¬ n = asc [99, 110, 116, 114, 108]) (h5 : ¬ n = asc [100, 105, 103, 105, 116]) (h6 : ¬ n = asc [103, 114, 97, 112, 104]) (h7 : ¬ n = asc [108, 111, 119, 101, 114]) (h8 : ¬ n = asc [112, 114, 105, 110, 116]) (h9 : ¬ n = asc [112, 117, 110, 99, 116]) (h10 : ¬ n = asc [115, 112, 97, 99, 101]) (h11 : ¬ n = asc [117, 112, 112, 101, 114]) (h : n = asc [119, 111, 114, 100]) : iR n = some (rs [(48, 57), (65, 90), (95, 95), (97, 122)]) := by unfold iR; rw [if_neg h0, if_neg h1, if_neg h2, if_neg h3, if_neg h4, if_neg h5, if_neg h6, if_neg h7, if_neg h8, if_neg h9, if_neg h10, if_neg h11, if_pos h]
theorem nam13 {n : ByteArray} (h0 : ¬ n = asc [97, 108, 110, 117, 109]) (h1 : ¬ n = asc [97, 108, 112, 104, 97]) (h2 : ¬ n = asc [97, 115, 99, 105, 105]) (h3 : ¬ n = asc [98, 108, 97, 110, 107]) (h4 : ¬ n = asc [99, 110, 116, 114, 108]) (h5 : ¬ n = asc [100, 105, 103, 105, 116]) (h6 : ¬ n = asc [103, 114, 97, 112, 104]) (h7 : ¬ n = asc [108, 111, 119, 101, 114]) (h8 : ¬ n = asc [112, 114, 105, 110, 116]) (h9 : ¬ n = asc [112, 117, 110, 99, 116]) (h10 : ¬ n = asc [115, 112, 97, 99, 101]) (h11 : ¬ n = asc [117, 112, 112, 101, 114]) (h12 : ¬ n = asc [119, 111, 114, 100]) (h : n = asc [120, 100, 105, 103, 105, 116]) : iR n = some (rs [(48, 57), (65, 70), (97, 102)]) := by unfold iR; rw [if_neg h0, if_neg h1, if_neg h2, if_neg h3, if_neg h4, if_neg h5, if_neg h6, if_neg h7, if_neg h8, if_neg h9, if_neg h10, if_neg h11, if_neg h12, if_pos h]
theorem namN {n : ByteArray} (h0 : ¬ n = asc [97, 108, 110, 117, 109]) (h1 : ¬ n = asc [97, 108, 112, 104, 97]) (h2 : ¬ n = asc [97, 115, 99, 105, 105]) (h3 : ¬ n = asc [98, 108, 97, 110, 107]) (h4 : ¬ n = asc [99, 110, 116, 114, 108]) (h5 : ¬ n = asc [100, 105, 103, 105, 116]) (h6 : ¬ n = asc [103, 114, 97, 112, 104]) (h7 : ¬ n = asc [108, 111, 119, 101, 114]) (h8 : ¬ n = asc [112, 114, 105, 110, 116]) (h9 : ¬ n = asc [112, 117, 110, 99, 116]) (h10 : ¬ n = asc [115, 112, 97, 99, 101]) (h11 : ¬ n = asc [117, 112, 112, 101, 114]) (h12 : ¬ n = asc [119, 111, 114, 100]) (h13 : ¬ n = asc [120, 100, 105, 103, 105, 116])  : iR n = none := by unfold iR; rw [if_neg h0, if_neg h1, if_neg h2, if_neg h3, if_neg h4, if_neg h5, if_neg h6, if_neg h7, if_neg h8, if_neg h9, if_neg h10, if_neg h11, if_neg h12, if_neg h13]
theorem named_ok {w : World} (n : ByteArray) :
    Calls Tryz.prog 162 #[.string n] w (Ret fun v w' => LetOut w w' v (iR n) ∧ Evo [] w w') := by
  refine aT (N := 61) Tryz.func162 rfl rfl rfl ?_; refine csr (bR (wan (aI (csr (aB (wnn (bC (csr (aC (gK rfl rfl) ?_))))))))); refine wan (bA rfl (fun J => ?_) (fun J => ?_))
  ·refine csr (bL (vs := [_, _, _, _, _, _]) rfl cQ rfl rfl rfl rfl fun b1 w2 g9 k4 h0 => ?_); have e4 := (Evo.refl [] w).then h0; refine aJ (vs := [_]) cW rfl (fU (es := [48, 57, 65, 90, 97, 122]) g9 (by decide)) rfl ?_; rintro _ w8 ⟨a1, c1, ob1, rfl, A, hg1, h1⟩; refine bR (wan (aH (aM (aE (cB rfl rfl rfl ?_))))); exact ⟨.inr ⟨_, _, nam0  J, rfl, _, _, _, [(48, 57), (65, 90), (97, 122)], rfl, A, (Ge.fresh e4 hg1), gU (by kernel_rfl), fun c => Iff.rfl, by decide⟩, (e4.then h1)⟩
  refine csr (aC (gK rfl rfl) ?_); refine wan (bA rfl (fun L => ?_) (fun L => ?_))
  ·refine csr (bL (vs := [_, _, _, _]) rfl cQ rfl rfl rfl rfl fun k5 k6 e5 h8 e6 => ?_); have b5 := (Evo.refl [] w).then e6; refine aJ (vs := [_]) cW rfl (fU (es := [65, 90, 97, 122]) e5 (by decide)) rfl ?_; rintro _ k7 ⟨a1, c1, ob1, rfl, A, hg1, e7⟩; refine bR (wan (aH (aM (aE (cB rfl rfl rfl ?_))))); exact ⟨.inr ⟨_, _, nam1 J L, rfl, _, _, _, [(65, 90), (97, 122)], rfl, A, (Ge.fresh b5 hg1), gU (by kernel_rfl), fun c => Iff.rfl, by decide⟩, (b5.then e7)⟩
  refine csr (aC (gK rfl rfl) ?_); refine wan (bA rfl (fun E => ?_) (fun E => ?_))
  ·refine csr (bL (vs := [_, _]) rfl cQ rfl rfl rfl rfl fun k8 k9 e8 h9 e9 => ?_); have b6 := (Evo.refl [] w).then e9; refine aJ (vs := [_]) cW rfl (fU (es := [0, 127]) e8 (by decide)) rfl ?_; rintro _ l0 ⟨a1, c1, ob1, rfl, A, hg1, f0⟩; refine bR (wan (aH (aM (aE (cB rfl rfl rfl ?_))))); exact ⟨.inr ⟨_, _, nam2 J L E, rfl, _, _, _, [(0, 127)], rfl, A, (Ge.fresh b6 hg1), gU (by kernel_rfl), fun c => Iff.rfl, by decide⟩, (b6.then f0)⟩
  refine csr (aC (gK rfl rfl) ?_); refine wan (bA rfl (fun H => ?_) (fun H => ?_))
  ·refine csr (bL (vs := [_, _, _, _]) rfl cQ rfl rfl rfl rfl fun l1 l2 f5 i1 f6 => ?_); have b7 := (Evo.refl [] w).then f6; refine aJ (vs := [_]) cW rfl (fU (es := [9, 9, 32, 32]) f5 (by decide)) rfl ?_; rintro _ l3 ⟨a1, c1, ob1, rfl, A, hg1, f7⟩; refine bR (wan (aH (aM (aE (cB rfl rfl rfl ?_))))); exact ⟨.inr ⟨_, _, nam3 J L E H, rfl, _, _, _, [(9, 9), (32, 32)], rfl, A, (Ge.fresh b7 hg1), gU (by kernel_rfl), fun c => Iff.rfl, by decide⟩, (b7.then f7)⟩
  refine csr (aC (gK rfl rfl) ?_); refine wan (bA rfl (fun I => ?_) (fun I => ?_))
  ·refine csr (bL (vs := [_, _, _, _]) rfl cQ rfl rfl rfl rfl fun l4 l5 f8 i2 f9 => ?_); have b8 := (Evo.refl [] w).then f9; refine aJ (vs := [_]) cW rfl (fU (es := [0, 31, 127, 127]) f8 (by decide)) rfl ?_; rintro _ l6 ⟨a1, c1, ob1, rfl, A, hg1, g0⟩; refine bR (wan (aH (aM (aE (cB rfl rfl rfl ?_))))); exact ⟨.inr ⟨_, _, nam4 J L E H I, rfl, _, _, _, [(0, 31), (127, 127)], rfl, A, (Ge.fresh b8 hg1), gU (by kernel_rfl), fun c => Iff.rfl, by decide⟩, (b8.then g0)⟩
  refine csr (aC (gK rfl rfl) ?_); refine wan (bA rfl (fun M => ?_) (fun M => ?_))
  ·refine csr (bL (vs := [_, _]) rfl cQ rfl rfl rfl rfl fun l7 l8 g1 i3 g2 => ?_); have b9 := (Evo.refl [] w).then g2; refine aJ (vs := [_]) cW rfl (fU (es := [48, 57]) g1 (by decide)) rfl ?_; rintro _ l9 ⟨a1, c1, ob1, rfl, A, hg1, g3⟩; refine bR (wan (aH (aM (aE (cB rfl rfl rfl ?_))))); exact ⟨.inr ⟨_, _, nam5 J L E H I M, rfl, _, _, _, [(48, 57)], rfl, A, (Ge.fresh b9 hg1), gU (by kernel_rfl), fun c => Iff.rfl, by decide⟩, (b9.then g3)⟩
  refine csr (aC (gK rfl rfl) ?_); refine wan (bA rfl (fun O => ?_) (fun O => ?_))
  ·refine csr (bL (vs := [_, _]) rfl cQ rfl rfl rfl rfl fun m0 m1 g4 i4 g5 => ?_); have c0 := (Evo.refl [] w).then g5; refine aJ (vs := [_]) cW rfl (fU (es := [33, 126]) g4 (by decide)) rfl ?_; rintro _ m2 ⟨a1, c1, ob1, rfl, A, hg1, g6⟩; refine bR (wan (aH (aM (aE (cB rfl rfl rfl ?_))))); exact ⟨.inr ⟨_, _, nam6 J L E H I M O, rfl, _, _, _, [(33, 126)], rfl, A, (Ge.fresh c0 hg1), gU (by kernel_rfl), fun c => Iff.rfl, by decide⟩, (c0.then g6)⟩
  refine csr (aC (gK rfl rfl) ?_); refine wan (bA rfl (fun U => ?_) (fun U => ?_))
  ·refine csr (bL (vs := [_, _]) rfl cQ rfl rfl rfl rfl fun m3 m4 g7 i5 g8 => ?_); have c2 := (Evo.refl [] w).then g8; refine aJ (vs := [_]) cW rfl (fU (es := [97, 122]) g7 (by decide)) rfl ?_; rintro _ m5 ⟨a1, c1, ob1, rfl, A, hg1, c3⟩; refine bR (wan (aH (aM (aE (cB rfl rfl rfl ?_))))); exact ⟨.inr ⟨_, _, nam7 J L E H I M O U, rfl, _, _, _, [(97, 122)], rfl, A, (Ge.fresh c2 hg1), gU (by kernel_rfl), fun c => Iff.rfl, by decide⟩, (c2.then c3)⟩
  refine csr (aC (gK rfl rfl) ?_); refine wan (bA rfl (fun V => ?_) (fun V => ?_))
  ·refine csr (bL (vs := [_, _]) rfl cQ rfl rfl rfl rfl fun i6 i7 c4 h2 c5 => ?_); have a5 := (Evo.refl [] w).then c5; refine aJ (vs := [_]) cW rfl (fU (es := [32, 126]) c4 (by decide)) rfl ?_; rintro _ i8 ⟨a1, c1, ob1, rfl, A, hg1, c6⟩; refine bR (wan (aH (aM (aE (cB rfl rfl rfl ?_))))); exact ⟨.inr ⟨_, _, nam8 J L E H I M O U V, rfl, _, _, _, [(32, 126)], rfl, A, (Ge.fresh a5 hg1), gU (by kernel_rfl), fun c => Iff.rfl, by decide⟩, (a5.then c6)⟩
  refine csr (aC (gK rfl rfl) ?_); refine wan (bA rfl (fun W => ?_) (fun W => ?_))
  ·refine csr (bL (vs := [_, _, _, _, _, _, _, _]) rfl cQ rfl rfl rfl rfl fun i9 j0 c7 h3 c8 => ?_); have a6 := (Evo.refl [] w).then c8; refine aJ (vs := [_]) cW rfl (fU (es := [33, 47, 58, 64, 91, 96, 123, 126]) c7 (by decide)) rfl ?_; rintro _ j1 ⟨a1, c1, ob1, rfl, A, hg1, c9⟩; refine bR (wan (aH (aM (aE (cB rfl rfl rfl ?_))))); exact ⟨.inr ⟨_, _, nam9 J L E H I M O U V W, rfl, _, _, _, [(33, 47), (58, 64), (91, 96), (123, 126)], rfl, A, (Ge.fresh a6 hg1), gU (by kernel_rfl), fun c => Iff.rfl, by decide⟩, (a6.then c9)⟩
  refine csr (aC (gK rfl rfl) ?_); refine wan (bA rfl (fun a0 => ?_) (fun a0 => ?_))
  ·refine csr (bL (vs := [_, _, _, _]) rfl cQ rfl rfl rfl rfl fun j2 j3 d0 h4 d3 => ?_); have a7 := (Evo.refl [] w).then d3; refine aJ (vs := [_]) cW rfl (fU (es := [9, 13, 32, 32]) d0 (by decide)) rfl ?_; rintro _ j4 ⟨a1, c1, ob1, rfl, A, hg1, d4⟩; refine bR (wan (aH (aM (aE (cB rfl rfl rfl ?_))))); exact ⟨.inr ⟨_, _, nam10 J L E H I M O U V W a0, rfl, _, _, _, [(9, 13), (32, 32)], rfl, A, (Ge.fresh a7 hg1), gU (by kernel_rfl), fun c => Iff.rfl, by decide⟩, (a7.then d4)⟩
  refine csr (aC (gK rfl rfl) ?_); refine wan (bA rfl (fun a2 => ?_) (fun a2 => ?_))
  ·refine csr (bL (vs := [_, _]) rfl cQ rfl rfl rfl rfl fun j5 j6 d5 h5 d6 => ?_); have a8 := (Evo.refl [] w).then d6; refine aJ (vs := [_]) cW rfl (fU (es := [65, 90]) d5 (by decide)) rfl ?_; rintro _ j7 ⟨a1, c1, ob1, rfl, A, hg1, d7⟩; refine bR (wan (aH (aM (aE (cB rfl rfl rfl ?_))))); exact ⟨.inr ⟨_, _, nam11 J L E H I M O U V W a0 a2, rfl, _, _, _, [(65, 90)], rfl, A, (Ge.fresh a8 hg1), gU (by kernel_rfl), fun c => Iff.rfl, by decide⟩, (a8.then d7)⟩
  refine csr (aC (gK rfl rfl) ?_); refine wan (bA rfl (fun a3 => ?_) (fun a3 => ?_))
  ·refine csr (bL (vs := [_, _, _, _, _, _, _, _]) rfl cQ rfl rfl rfl rfl fun j8 j9 d8 h6 d9 => ?_); have a9 := (Evo.refl [] w).then d9; refine aJ (vs := [_]) cW rfl (fU (es := [48, 57, 65, 90, 95, 95, 97, 122]) d8 (by decide)) rfl ?_; rintro _ k0 ⟨a1, c1, ob1, rfl, A, hg1, e0⟩; refine bR (wan (aH (aM (aE (cB rfl rfl rfl ?_))))); exact ⟨.inr ⟨_, _, nam12 J L E H I M O U V W a0 a2 a3, rfl, _, _, _, [(48, 57), (65, 90), (95, 95), (97, 122)], rfl, A, (Ge.fresh a9 hg1), gU (by kernel_rfl), fun c => Iff.rfl, by decide⟩, (a9.then e0)⟩
  refine csr (aC (gK rfl rfl) ?_); refine wan (bA rfl (fun a4 => ?_) (fun a4 => ?_))
  ·refine csr (bL (vs := [_, _, _, _, _, _]) rfl cQ rfl rfl rfl rfl fun k1 k2 e1 h7 e2 => ?_); have b4 := (Evo.refl [] w).then e2; refine aJ (vs := [_]) cW rfl (fU (es := [48, 57, 65, 70, 97, 102]) e1 (by decide)) rfl ?_; rintro _ k3 ⟨a1, c1, ob1, rfl, A, hg1, e3⟩; refine bR (wan (aH (aM (aE (cB rfl rfl rfl ?_))))); exact ⟨.inr ⟨_, _, nam13 J L E H I M O U V W a0 a2 a3 a4, rfl, _, _, _, [(48, 57), (65, 70), (97, 102)], rfl, A, (Ge.fresh b4 hg1), gU (by kernel_rfl), fun c => Iff.rfl, by decide⟩, (b4.then e3)⟩
  refine aL (aO (aA (csr (bR (wan (aH (cB rfl rfl rfl ?_))))))); exact ⟨.inl ⟨namN J L E H I M O U V W a0 a2 a3 a4, rfl⟩, (Evo.refl [] w)⟩
theorem litS (f : Fl) (c : Int) : rD f c = kQ (if f.fold = true then pW (fun x => x = c) else fun x => x = c) := rfl
theorem rs_one (c x : Int) : InR x [(c, c)] ↔ x = c := by rw [lW]; show c ≤ x ∧ x ≤ c ↔ _; omega
theorem IZ {w : World} {b : Nat} {s : ByteArray} {st : PS} {a : Option Addr} {c : Nat} {ob : Option Nat} (hR : RdAt w b s st a c ob) (r : Int) (h0 : 0 ≤ r) (h1 : r ≤ 1114111) :
    Calls Tryz.prog 134 #[.pointer (some ⟨b, 0, none⟩), .int .i32 r] w (Ret fun v w' => TOut w w' v (rD st.now r) ∧ Evo [] w w') := by
  have hap := hR.ap
  have hvr : Vr [(r, r)] := fun g hg => by rw [List.mem_singleton.1 hg]; exact ⟨h0, Int.le_refl _, h1⟩
  refine aT (N := 19) Tryz.func134 rfl rfl rfl ?_; refine csr (cF rfl eJ fun b4 w1 a9 a4 a5 => ?_); have b5 := a4; have a6 := Ge.new (Evo.refl [] w) a4; refine wnn (csr (aB (aB (bL (vs := [_, _]) rfl cQ rfl rfl rfl rfl fun c0 c3 a8 b9 I => ?_)))); refine aJ (vs := [_]) cW rfl (fU (es := [r, r]) a8 (by simp)) rfl ?_; rintro _ c4 ⟨a1, c1, ob1, rfl, a7, hg1, J⟩; have A := (((Evo.refl [] w).then a5).then I).then J; have E := J.blk0 (I.blk0 a9); refine wan (aI (csr (aB (aC (aG rfl) (aC (aD rfl dS) (wfl rfl qS rfl gD (J.blk0 (I.blk0 (a5.blk0 hR.blk))) rfl (wnn (dW rfl (fun L => ?_) (fun L => ?_)))))))))
  ·have hl9 : rD st.now r = kQ (pW fun x => x = r) := by unfold rD; rw [if_pos L]
   refine aF (aB ?_); refine aJ (vs := [_]) xP rfl (GZ (l := [(r, r)]) a7 hvr (by simp) (rs_one r)) rfl ?_; rintro rv c5 ⟨a2, c2, ob2, rfl, b6, hg2, hl2, hcan2, heq2, H⟩; refine wan (csr (aB ?_))
   refine aJ (vs := [_]) gM rfl (oB b6 (yO hcan2) (by have : ([(r, r)] : List (Int × Int)).length = 1 := rfl; omega) heq2) rfl ?_
   rintro rv b7 ⟨hT, M⟩; have O := (A.then H); have hb49 := dK (H.blk0 E); obtain ⟨vs, bs, rfl, hOT, hFr⟩ := hT; obtain ⟨ra, rc, ka, kc, rfl⟩ := id hOT.nine; refine aZ rfl rfl aU (M.blk0 (H.blk0 E)) rfl rfl ⟨by first | rfl | assumption, by first | rfl | assumption, by first | rfl | assumption, by first | rfl | assumption, by first | rfl | assumption, by first | rfl | assumption, by first | rfl | assumption, by first | rfl | assumption, by first | rfl | assumption, trivial⟩ fun c6 U V => ?_
   try simp only [cG, Nat.reduceAdd] at U
   refine wnn (aH (cK rfl (ResOk.cellA rfl bV aU U rfl) ?_)); refine ⟨?_, (((A.then H).then M).step V a6.mem1)⟩; rw [hl9]; refine ⟨_, bs, rfl, hOT.evo ((Evo.refl ([b4]) b7).step V (fun y hy => .inl hy)) (fun b hb h => ?_), hFr.older O.size⟩
   have := hFr.ge b hb; rw [List.mem_singleton.1 h] at this; omega
  have hl9 : rD st.now r = kQ (fun x => x = r) := by unfold rD; rw [if_neg (by simp [L])]
  refine aL (aA (csr (aB ?_))); refine aJ (vs := [_]) gM rfl (oB (l := [(r, r)]) a7 hvr (by simp) (rs_one r)) rfl ?_; rintro rv b8 ⟨hT, W⟩; have O := A; have hb49 := dK E; obtain ⟨vs, bs, rfl, hOT, hFr⟩ := hT; obtain ⟨ra, rc, ka, kc, rfl⟩ := id hOT.nine; refine aZ rfl rfl aU (W.blk0 E) rfl rfl ⟨by first | rfl | assumption, by first | rfl | assumption, by first | rfl | assumption, by first | rfl | assumption, by first | rfl | assumption, by first | rfl | assumption, by first | rfl | assumption, by first | rfl | assumption, by first | rfl | assumption, trivial⟩ fun c7 a0 a3 => ?_
  try simp only [cG, Nat.reduceAdd] at a0
  refine wnn (aH (cK rfl (ResOk.cellA rfl bV aU a0 rfl) ?_)); refine ⟨?_, ((A.then W).step a3 a6.mem1)⟩; rw [hl9]; refine ⟨_, bs, rfl, hOT.evo ((Evo.refl ([b4]) b8).step a3 (fun y hy => .inl hy)) (fun b hb h => ?_), hFr.older O.size⟩
  have := hFr.ge b hb; rw [List.mem_singleton.1 h] at this; omega
end Go.Proofs.YtidpigbinpaaeaaGreat
namespace Go.Proofs.YtidpigbinpaaeaaGreat
open Go.RowKit Go.W
theorem hit_isR {s : ByteArray} {a w : Nat} (hw : 1 ≤ w) (h : Hit s a w) : IsR (eB s a w) := by
  by_cases e : IsR (eB s a w)
  · exact e
  · have := JD h
    rw [jP, if_neg e] at this
    simp at this; omega
instance (s : ByteArray) (c : In) (i : Nat) : Decidable (vM s c i) := by unfold vM; infer_instance
end Go.Proofs.YtidpigbinpaaeaaGreat
namespace Go.Proofs.YtidpigbinpaaeaaGreat
open Go.W
attribute [local irreducible] Decidable.decide
theorem zT : cX Tryz.prog 31 := ⟨_, Tryz.func31, by kernel_rfl, by kernel_rfl⟩
theorem zO : cX Tryz.prog 87 := ⟨_, Tryz.func87, by kernel_rfl, by kernel_rfl⟩
theorem ZP (l : List Nat) : (qJ l).size = l.length := by simp [qJ, ByteArray.size]
theorem MK {w : World} (r : Int) : Calls Tryz.prog 87 #[.int .i32 r] w (Ret fun v w' => v = .int .i64 (if r < 128 then 1 else if r < 2048 then 2 else if r < 65536 then 3 else 4) ∧ Evo [] w w') := by
  refine aT (N := 12) Tryz.func87 rfl rfl rfl ?_; refine csr (wan (aI (bC (csr (aB (aC (cP rfl rfl) ?_)))))); refine wan (bA rfl (fun A => ?_) (fun A => ?_))
  ·refine csr (wan (aH (aM (aE (br1 ?_)))))
   exact ⟨by congr 1; (repeat' split) <;> omega, (Evo.refl [] w)⟩
  refine csr (aB (aC (cP rfl rfl) ?_)); refine wan (bA rfl (fun E => ?_) (fun E => ?_))
  ·refine csr (wan (aH (aM (aE (br1 ?_)))))
   exact ⟨by congr 1; (repeat' split) <;> omega, (Evo.refl [] w)⟩
  refine csr (aB (aC (cP rfl rfl) ?_)); refine wan (bA rfl (fun H => ?_) (fun H => ?_))
  ·refine csr (wan (aH (aM (aE (br1 ?_)))))
   exact ⟨by congr 1; (repeat' split) <;> omega, (Evo.refl [] w)⟩
  refine aL (aO (aA (csr (wan (aH (br1 ?_))))))
  exact ⟨by congr 1; (repeat' split) <;> omega, (Evo.refl [] w)⟩
theorem zA {w : World} (s : ByteArray) (a : Nat) (ha : a ≤ s.size) (hl : s.size ≤ 140737488355328) : Calls Tryz.prog 31 #[.string s, .int .i64 (a : Nat)] w (Ret fun v w' => v = .bool (decide (a + 3 ≤ s.size ∧ s.extract a (a + 3) = qJ [239, 191, 189])) ∧ Evo [] w w') := by
  refine aT (N := 18) Tryz.func31 rfl rfl rfl ?_; refine csr (wan (csr (aB ?_))); refine aC (aK rfl rfl (by omega) (by omega)) ?_; refine aB (aC (cD rfl Tryz.underlying9 rfl) ?_); refine aC (eH rfl rfl) ?_; refine aB (bF (t := 10) rfl (fun A => ?_) (fun A => ?_))
  ·refine aS (aB (aS (aB (aS (aB (aS ?_)))))); refine aC (aK rfl rfl (by omega) (by omega)) ?_; refine aS ?_; refine aC (AP (l := a) (h := a + 3) rfl rfl rfl Tryz.underlying9 rfl (by omega) (by omega) (by omega)) ?_; refine aS (aC (gK rfl rfl) ?_); refine bW (wan (aH (br1 ?_))); refine ⟨congrArg Value.bool (decide_eq_decide.2 ?_), (Evo.refl [] w)⟩; constructor
   · exact fun h => ⟨by omega, h⟩
   · exact fun h => h.2
  refine aN (aN (aN (aN (aN (aN (bM (wan (aH (br1 ?_))))))))); exact ⟨congrArg Value.bool (decide_eq_false (by omega)).symm, (Evo.refl [] w)⟩
theorem GL {s : ByteArray} {a : Nat} (ha : a < s.size) (h : (Utf8.decode s a).1 = 65533) (hr : ¬ (a + 3 ≤ s.size ∧ s.extract a (a + 3) = qJ [239, 191, 189])) : bQ s a = (-1, 0) := by
  have h1 := PD s a h ha
  have h2 := tX s a h ha
  unfold bQ
  rw [if_neg]
  rintro ⟨_, h3⟩
  rcases h1 with h1 | h1
  · exact h3 ⟨h, h1⟩
  · exact hr (h2.1 h1)
theorem CE {s : ByteArray} {a : Nat} (ha : a < s.size) (h : ¬ (Utf8.decode s a).1 = 65533 ∨ (a + 3 ≤ s.size ∧ s.extract a (a + 3) = qJ [239, 191, 189])) :
    (bQ s a).1 = ((Utf8.decode s a).1 : Nat) ∧ (((bQ s a).2 : Nat) : Int) = if ((Utf8.decode s a).1 : Int) < 128 then 1 else if ((Utf8.decode s a).1 : Int) < 2048 then 2 else if ((Utf8.decode s a).1 : Int) < 65536 then 3 else 4 := by
  have hn : ¬ ((Utf8.decode s a).1 = 65533 ∧ (Utf8.decode s a).2 = 1) := fun ⟨h1, h2⟩ => by
    rcases h with h | h
    · exact h h1
    · rw [(tX s a h1 ha).2 h] at h2; cases h2
  have hw := JQ s a ha hn
  unfold bQ
  rw [if_pos ⟨ha, hn⟩]
  refine ⟨rfl, ?_⟩
  simp only
  rw [hw]
  repeat' split
  all_goals first | rfl | omega
theorem VG {w : World} (s : ByteArray) (a : Nat) (ha : a ≤ s.size) (hl : s.size ≤ 140737488355328) : Calls Tryz.prog 58 #[.string s, .int .i64 (a : Nat)] w (Ret fun v w' => v = .tuple #[.int .i32 (bQ s a).1, .int .i64 ((bQ s a).2 : Nat)] ∧ Evo [] w w') := by
  refine aT (N := 44) Tryz.func58 rfl rfl rfl ?_; refine csr (bR (wan (aI (csr (aB (aC (cP rfl rfl) ?_)))))); refine aB (bF (t := 10) rfl (fun L => ?_) (fun L => ?_))
  ·refine aN (aN (aN (aN (bW (wnn (dB rfl ?_)))))); refine csr (bR (wan (aH (aE (cB rfl rfl rfl ?_)))))
   exfalso; omega
  refine aS (aB (aS (aB (aS (aC (cD rfl Tryz.underlying9 rfl) ?_))))); refine aS (aC (dV rfl rfl) ?_); refine bM (wnn (bA rfl (fun M => ?_) (fun M => ?_)))
  ·refine csr (bR (wan (aH (aE (cB rfl rfl rfl ?_)))))
   exact ⟨by rw [tP (by omega)]; rfl, (Evo.refl [] w)⟩
  refine aL (aA (aI (csr ?_)))
  have hlt : a < s.size := by omega
  refine aB (aB (aB (aC (cD rfl Tryz.underlying9 rfl) ?_))); refine aB ?_; refine aC (aK rfl rfl (by omega) (by omega)) ?_; refine aC (jM rfl rfl) ?_
  refine aC (AP (l := a) (h := min s.size (a + 4)) rfl rfl rfl Tryz.underlying9 rfl (by split <;> omega) (by omega) (by omega)) ?_
  refine xV rfl rfl Tryz.underlying9 fun b1 w2 a0 a1 a2 => ?_; refine wnn (bC (cN (α := Nat) (0) (fun k => []) [(0, _), (1, _), (24, _)] (fun k wr => Evo [] w2 wr ∧ (True)) (fun k => 0) trivial ⟨rfl, rfl, rfl, trivial⟩ ⟨Evo.refl _ _, trivial⟩ ?_)); rintro k wr8 ⟨J, _⟩; show CW _ _ _ _ [(0, _), (1, _), (24, _)] _; refine csr ?_
  refine AZ rfl rfl (J.blk0 a0) (by simp; omega) fun a4 a3 O => ?_
  have E := (((Evo.refl [] w).then a2).then J).step O (Ge.new (Evo.refl [] w) a1).mem1; have hcut := TR s a hlt; refine aC (bK rfl rfl) ?_; refine wnn (aI (dB rfl ?_)); refine aL (aA (bC (csr (aC (bK rfl rfl) ?_)))); refine aC (bK rfl rfl) ?_; refine bR (wan (aI (csr (aB (aC (gF rfl rfl) ?_))))); refine aB (bF (t := 31) rfl (fun U => ?_) (fun U => ?_))
  ·refine aN (aN (aN (dT ?_))); refine dT ?_; refine dT ?_; refine dT ?_; refine aN (bW (wnn (dB rfl ?_))); refine cJ (bH (uT rfl (bH (cI (aA ?_))))); refine csr (bR (wan (aH (cB rfl rfl rfl ?_))))
   exfalso; omega
  refine aS (aB (aS (wel ?_))); refine aS (aB (bF (t := 34) rfl (fun A => ?_) (fun A => ?_)))
  ·refine aS (aB (aS (aB (aS ?_)))); refine aJ (vs := [_, _]) zT rfl (zA s a (by omega) hl) rfl ?_; rintro _ a5 ⟨rfl, I⟩; refine aS (aC (lX rfl) ?_); refine aS (bW (bM (wnn (bA rfl (fun H => ?_) (fun H => ?_)))))
   ·refine cJ (bH (uT rfl (bH (cI (aA ?_))))); refine csr (bR (wan (aH (cB rfl rfl rfl ?_)))); rw [hcut] at A
    exact ⟨by rw [GL hlt (by omega) H]; rfl, (E.then I)⟩
   refine aL (aA (csr (aB (aB (aJ (vs := [_]) zO rfl (MK _) rfl ?_))))); rintro _ a6 ⟨rfl, V⟩; refine bR (wan (aH (aM (aE (aM (aE (cB rfl rfl rfl ?_))))))); rw [hcut] at A ⊢; have hg := CE hlt (.inr (Decidable.not_not.1 H))
   exact ⟨by rw [hg.1, hg.2]; rfl, ((E.then I).then V)⟩
  refine aN (aN (aN (aN (aS (bM (bM (wnn (cM rfl ?_)))))))); refine aL (aA (csr (aB (aB (aJ (vs := [_]) zO rfl (MK _) rfl ?_))))); rintro _ a7 ⟨rfl, W⟩; refine bR (wan (aH (aM (aE (aM (aE (cB rfl rfl rfl ?_))))))); rw [hcut] at A ⊢; have hg := CE hlt (.inl (by omega))
  exact ⟨by rw [hg.1, hg.2]; rfl, (E.then W)⟩
end Go.Proofs.YtidpigbinpaaeaaGreat
namespace Go.Proofs.YtidpigbinpaaeaaGreat
open Go.RowKit Go.W
attribute [local irreducible] Decidable.decide
theorem LQ : cX Tryz.prog 164 := ⟨_, Tryz.func164, by kernel_rfl, by kernel_rfl⟩
theorem QW : cX Tryz.prog 26 := ⟨_, Tryz.func26, by kernel_rfl, by kernel_rfl⟩
theorem zR : cX Tryz.prog 58 := ⟨_, Tryz.func58, by kernel_rfl, by kernel_rfl⟩
def Bd (s : ByteArray) (i : Nat) : Prop := ∃ N k, Utf s N ∧ k ≤ N ∧ dJ s k = i
theorem Bd.le {s : ByteArray} {i : Nat} (h : Bd s i) : i ≤ s.size := by obtain ⟨N, k, _, _, rfl⟩ := h; exact wH s k
theorem Bd.zero {s : ByteArray} {N : Nat} (h : Utf s N) : Bd s 0 := ⟨N, 0, h, Nat.zero_le _, rfl⟩
theorem Bd.next {s : ByteArray} {i : Nat} (h : Bd s i) (hi : i < s.size) : 0 < (bQ s i).2 ∧ i + (bQ s i).2 ≤ s.size ∧ Bd s (i + (bQ s i).2) ∧ 0 ≤ (bQ s i).1 ∧ (bQ s i).1 ≤ 1114111 := by
  obtain ⟨N, k, hU, hk, rfl⟩ := h
  have hkN : k < N := by
    rcases Nat.lt_or_ge k N with h | h
    · exact h
    · obtain rfl : k = N := by omega
      rw [hU.1] at hi; omega
  have h0 := hU.2 k hkN
  have h1 : Bd s (dJ s k + (bQ s (dJ s k)).2) := ⟨N, k + 1, hU, hkN, rfl⟩
  rcases mP s (dJ s k) with h2 | h2
  · rw [h2] at h0; cases h0
  · exact ⟨h0, h1.le, h1, h2.1, h2.2.1⟩
theorem Bd.asc {s : ByteArray} {i : Nat} (h : Bd s i) (hi : i < s.size) (hb : sb s i < 128) : Bd s (i + 1) ∧ (bQ s i).1 = (sb s i : Int) ∧ (bQ s i).2 = 1 := by
  obtain ⟨h0, h1, h2, h3, h4⟩ := h.next hi
  obtain ⟨h5, h6, h7, h8⟩ := rB h0
  by_cases hc : (bQ s i).1 < 128
  · obtain ⟨h9, h10⟩ := h6 hc
    rw [h9] at h2
    exact ⟨h2, h10.symm, h9⟩
  · have := h7 (by omega); omega
theorem isB.asc {s : ByteArray} {i b : Nat} (h : isB s i b) (hb : b < 128) (hd : Bd s i) : Bd s (i + 1) := (hd.asc h.1 (by rw [h.2]; exact hb)).1
theorem AG {w : World} {b : Nat} {s : ByteArray} {st : PS} {a : Option Addr} {c : Nat} {ob : Option Nat} (hR : RdAt w b s st a c ob) (hs : s.size ≤ 1000000) (hb : Bd s st.pos) :
    Calls Tryz.prog 130 #[.pointer (some ⟨b, 0, none⟩)] w (Ret fun v w' => v = .int .i32 (bQ s st.pos).1 ∧ Evo [b] w w' ∧ RdAt w' b s (adv st (bQ s st.pos).2) a c ob) := by
  have hap := hR.ap; have hle := hb.le
  have hnx : st.pos + (bQ s st.pos).2 ≤ s.size + 4 := by rcases mP s st.pos with h | h; rw [h]; (show st.pos + 0 ≤ s.size + 4; omega); omega
  refine aT (N := 26) Tryz.func130 rfl rfl rfl ?_; refine csr (wan (aI ?_)); refine eX (fun w0 w' => Evo [] w0 w') (by kernel_rfl) (fun w1 I => ?_); have H := I.blk0 hR.blk; refine aet 0 rfl (fun _ hS => aY rfl) (Evo.refl [] w1) ?_; refine aet 1 rfl (fun _ hS => aG rfl) (Evo.refl [] w1) ?_; refine aet 2 rfl (fun _ hS => aD rfl cS) (Evo.refl [] w1) ?_; refine aet 3 rfl (fun _ hS => aQ rfl cZ (aV (hS.blk0 H) rfl)) (Evo.refl [] w1) ?_; refine aet 4 rfl (fun _ hS => aY rfl) (Evo.refl [] w1) ?_; refine aet 5 rfl (fun _ hS => aG rfl) (Evo.refl [] w1) ?_; refine aet 6 rfl (fun _ hS => aD rfl bB) (Evo.refl [] w1) ?_; refine aet 7 rfl (fun _ hS => aQ rfl aX (aV (hS.blk0 H) rfl)) (Evo.refl [] w1) ?_; refine bS [8] (by kernel_rfl) rfl ⟨?_, trivial⟩; refine bY rfl ?_; refine aJ (vs := [_, _]) zR rfl (VG s st.pos hle (by omega)) rfl ?_; rintro _ w6 ⟨rfl, E⟩; have A := (Evo.refl [] w1).then E; refine aP (bN (.inl A) ?_); refine aet 9 rfl (fun _ hS => aY rfl) A ?_
  refine aet 10 rfl (fun _ hS => bK rfl rfl) A ?_; refine aet 11 rfl (fun _ hS => bK rfl rfl) A ?_; refine aet 12 rfl (fun _ hS => dU rfl) A ?_; refine aet 13 rfl (fun _ hS => dU rfl) A ?_; refine cV (by kernel_rfl) (aA ?_); refine csr (aB (aC (aG rfl) (wfl rfl bB rfl aX (E.blk0 H) rfl (aB ?_)))); refine aC (aK rfl rfl (by omega) (by omega)) ?_; refine aC (aG rfl) (aC (aD rfl bB) ?_); refine bE rfl rfl (by first | rfl | assumption) bZ (E.blk0 H) rfl fun M J L => ?_
  try simp only [cG, Nat.reduceAdd] at J
  refine wnn (csr (aB (wan (aH (br1 ?_))))); exact ⟨rfl, ((((Evo.refl [b] w).then I).then E).step L (fun y hy => .inl hy)), J, (((hR.own.evo0 I).evo0 E).evo L hap.symm.own1), hR.ne⟩
theorem hexD_lo {c d : Nat} (h : qH c = some d) : c < 128 ∧ d < 16 := by
  unfold qH at h
  split at h
  · cases h; omega
  · split at h
    · cases h; omega
    · split at h
      · cases h; omega
      · cases h
theorem AK {s : ByteArray} {i d j : Nat} (h : gH s i = .ok (d, j)) (hb : Bd s i) : Bd s j ∧ j = i + 1 ∧ d < 16 := by
  unfold gH at h
  split at h
  · rename_i hi
    split at h
    · rename_i d' hd
      cases h
      obtain ⟨h1, h2⟩ := hexD_lo hd
      exact ⟨(hb.asc hi h1).1, rfl, h2⟩
    · cases h
  · cases h
theorem UV {s : ByteArray} : ∀ {f n i m j : Nat}, nK s f n i = .ok (m, j) → Bd s i → n ≤ 1114111 → Bd s j ∧ i < j ∧ m ≤ 1114111
  | 0, n, i, m, j, h, _, _ => by cases h
  | f + 1, n, i, m, j, h, hb, hn => by
    rw [nK] at h
    split at h
    · rename_i hi
      cases h
      exact ⟨hi.asc (by decide) hb, by omega, hn⟩
    · split at h
      · cases h
      · rename_i d k hd
        obtain ⟨h1, h2, h3⟩ := AK hd hb
        split at h
        · cases h
        · obtain ⟨h4, h5, h6⟩ := UV h h1 (by omega)
          exact ⟨h4, by omega, h6⟩
theorem pHex_b {s : ByteArray} {i m j : Nat} (h : rR s i = .ok (m, j)) (hb : Bd s i) : Bd s j ∧ i < j ∧ m ≤ 1114111 := by
  unfold rR at h
  split at h
  · rename_i hi
    split at h
    · cases h
    · rename_i d k hd
      obtain ⟨h1, h2, h3⟩ := AK hd (hi.asc (by decide) hb)
      obtain ⟨h4, h5, h6⟩ := UV h h1 (by omega)
      exact ⟨h4, by omega, h6⟩
  · split at h
    · cases h
    · rename_i d k hd
      obtain ⟨h1, h2, h3⟩ := AK hd hb
      split at h
      · cases h
      · rename_i e q he
        cases h
        obtain ⟨h4, h5, h6⟩ := AK he h1
        exact ⟨h4, by omega, by omega⟩
def OX (c : Nat) : Int := if c = 97 then 0 else if c = 102 then 1 else if c = 116 then 2 else if c = 110 then 3 else if c = 114 then 4 else if c = 118 then 5 else -1
def escT : ByteArray := ByteArray.mk #[7, 12, 9, 10, 13, 11]
theorem escI_yes {c : Nat} (h : 0 ≤ OX c) : ∃ k, OX c = ((k : Nat) : Int) ∧ k < escT.size ∧ zZ c = some (sb escT k) ∧ sb escT k < 128 := by
  unfold OX at *
  unfold zZ
  by_cases h1 : c = 97
  · subst h1; exact ⟨0, rfl, by decide, rfl, by decide⟩
  · by_cases h2 : c = 102
    · subst h2; exact ⟨1, rfl, by decide, rfl, by decide⟩
    · by_cases h3 : c = 116
      · subst h3; exact ⟨2, rfl, by decide, rfl, by decide⟩
      · by_cases h4 : c = 110
        · subst h4; exact ⟨3, rfl, by decide, rfl, by decide⟩
        · by_cases h5 : c = 114
          · subst h5; exact ⟨4, rfl, by decide, rfl, by decide⟩
          · by_cases h6 : c = 118
            · subst h6; exact ⟨5, rfl, by decide, rfl, by decide⟩
            · rw [if_neg h1, if_neg h2, if_neg h3, if_neg h4, if_neg h5, if_neg h6] at h; omega
theorem escI_no {c : Nat} (h : ¬ 0 ≤ OX c) : zZ c = none := by
  unfold OX at h
  unfold zZ
  by_cases h1 : c = 97
  · subst h1; exact (h (by decide)).elim
  · by_cases h2 : c = 102
    · subst h2; exact (h (by decide)).elim
    · by_cases h3 : c = 116
      · subst h3; exact (h (by decide)).elim
      · by_cases h4 : c = 110
        · subst h4; exact (h (by decide)).elim
        · by_cases h5 : c = 114
          · subst h5; exact (h (by decide)).elim
          · by_cases h6 : c = 118
            · subst h6; exact (h (by decide)).elim
            · rw [if_neg h1, if_neg h2, if_neg h3, if_neg h4, if_neg h5, if_neg h6]
theorem escIdx (c : Nat) (hc : c < 256) : Go.Lib.indexByte [97, 102, 116, 110, 114, 118] ((c : Int)).toNat.toUInt8 = OX c := by
  have h : ∀ c : Fin 256, Go.Lib.indexByte [97, 102, 116, 110, 114, 118] ((c.1 : Int)).toNat.toUInt8 = OX c.1 := by decide +kernel
  exact h ⟨c, hc⟩
theorem YN {w : World} (c : Nat) (hc : c < 256) : Calls Tryz.prog 26 #[.string (ByteArray.mk #[97, 102, 116, 110, 114, 118]), .int .u8 (c : Nat)] w (Ret fun v w' => v = iv (OX c) ∧ Evo [] w w') := by
  refine (sC _ _ w).mono ?_
  rintro e w' ⟨rfl, rfl⟩
  exact ⟨_, rfl, congrArg iv (escIdx c hc), Evo.refl _ _⟩
theorem NA {s : ByteArray} {i : Nat} (h : s.size ≤ i + 1) : pJ s i = .error 83 := by unfold pJ; rw [if_pos h]
theorem pEsc_c {s : ByteArray} {i v : Nat} (h : ¬ s.size ≤ i + 1) (h2 : zZ (sb s (i + 1)) = some v) : pJ s i = .ok (v, i + 2) := by unfold pJ; rw [if_neg h, h2]
theorem pEsc_x {s : ByteArray} {i : Nat} (h : ¬ s.size ≤ i + 1) (h2 : sb s (i + 1) = 120) : pJ s i = rR s (i + 2) := by
  unfold pJ; rw [if_neg h, h2, show zZ 120 = none from rfl]; rfl
theorem NC {s : ByteArray} {i : Nat} (h : ¬ s.size ≤ i + 1) (h2 : zZ (sb s (i + 1)) = none) (h3 : sb s (i + 1) ≠ 120) (h4 : 128 ≤ sb s (i + 1) ∨ (gC (sb s (i + 1)) ∧ sb s (i + 1) ≠ 95)) : pJ s i = .error 83 := by
  unfold pJ; rw [if_neg h, h2]; show (if sb s (i + 1) = 120 then _ else _) = _; rw [if_neg h3, if_pos h4]
theorem UW {s : ByteArray} {i : Nat} (h : ¬ s.size ≤ i + 1) (h2 : zZ (sb s (i + 1)) = none) (h3 : sb s (i + 1) ≠ 120) (h4 : ¬ (128 ≤ sb s (i + 1) ∨ (gC (sb s (i + 1)) ∧ sb s (i + 1) ≠ 95))) : pJ s i = .ok (sb s (i + 1), i + 2) := by
  unfold pJ; rw [if_neg h, h2]; show (if sb s (i + 1) = 120 then _ else _) = _; rw [if_neg h3, if_neg h4]
theorem escC_lo {c v : Nat} (h : zZ c = some v) : c < 128 := by
  unfold zZ at h
  by_cases h1 : c < 128
  · exact h1
  · rw [if_neg (by omega), if_neg (by omega), if_neg (by omega), if_neg (by omega), if_neg (by omega), if_neg (by omega)] at h; cases h
theorem SJ {s : ByteArray} {i n j : Nat} (h : pJ s i = .ok (n, j)) (hb : Bd s i) (h0 : sb s i = 92) : Bd s j ∧ i < j ∧ n ≤ 1114111 := by
  have hi : i < s.size := by
    rcases Nat.lt_or_ge i s.size with h1 | h1
    · exact h1
    · rw [NA (by omega)] at h; cases h
  have hb1 := (hb.asc hi (by omega)).1
  unfold pJ at h
  split at h
  · cases h
  · rename_i h1
    split at h
    · rename_i v hv
      cases h
      have hv2 : n < 128 := by
        unfold zZ at hv
        split at hv
        · cases hv; omega
        · split at hv
          · cases hv; omega
          · split at hv
            · cases hv; omega
            · split at hv
              · cases hv; omega
              · split at hv
                · cases hv; omega
                · split at hv
                  · cases hv; omega
                  · cases hv
      exact ⟨(hb1.asc (by omega) (escC_lo hv)).1, by omega, by omega⟩
    · split at h
      · rename_i hx
        obtain ⟨h2, h3, h4⟩ := pHex_b h ((hb1.asc (by omega) (by omega)).1)
        exact ⟨h2, by omega, h4⟩
      · split at h
        · cases h
        · rename_i h5
          cases h
          exact ⟨(hb1.asc (by omega) (by omega)).1, by omega, by omega⟩
theorem DC {w : World} {b : Nat} {s : ByteArray} {st : PS} {a : Option Addr} {c : Nat} {ob : Option Nat} (hR : RdAt w b s st a c ob) (hs : s.size ≤ 1000000) (hlt : st.pos < s.size) :
    Calls Tryz.prog 153 #[.pointer (some ⟨b, 0, none⟩)] w (RetP (fun v w' => ∃ n j, pJ s st.pos = .ok (n, j) ∧ v = .int .i32 (n : Nat) ∧ Evo [b] w w' ∧ RdAt w' b s (iP st j) a c ob) (fun v w' => pJ s st.pos = .error 83 ∧ v = flt 83 ∧ Evo [b] w w')) := by
  have hap := hR.ap; have hb9 := jN s (st.pos + 1); refine aT (N := 63) Tryz.func153 rfl rfl rfl ?_; refine csr (wan (csr (aB (aC (aG rfl) (wfl rfl bB rfl aX hR.blk rfl ?_))))); refine aC (aK rfl rfl (by omega) (by omega)) ?_; refine aC (aG rfl) (aC (aD rfl bB) ?_); refine bE rfl rfl (by first | rfl | assumption) bZ hR.blk rfl fun w1 a0 a6 => ?_
  try simp only [cG, Nat.reduceAdd] at a0
  refine wnn (aI (aI ?_)); refine eP (by kernel_rfl) (by kernel_rfl) ?_; refine bJ (fun _ E => aY rfl) ?_; refine bJ (fun _ E => aG rfl) ?_; refine bJ (fun _ E => aD rfl bB) ?_; refine bJ (fun _ E => aQ rfl aX (aV (E.blk0 a0) rfl)) ?_; refine bJ (fun _ E => aY rfl) ?_; refine bJ (fun _ E => aG rfl) ?_; refine bJ (fun _ E => aD rfl cS) ?_; refine bJ (fun _ E => aQ rfl cZ (aV (E.blk0 a0) rfl)) ?_; refine bJ (fun _ E => cD rfl Tryz.underlying9 rfl) ?_; refine bJ (fun _ E => lZ rfl rfl) ?_; refine eV (fun b8 E => aA ?_); have a7 := ((Evo.refl [b] w).step a6 (fun y hy => .inl hy)).then E; have a1 := E.blk0 a0; refine bA rfl (fun a8 => ?_) (fun a8 => ?_)
  ·refine aF (cE (vs := [_]) cO rfl (eG 83) rfl ?_ ?_)
   ·intro pv wp hpp; obtain ⟨rfl, hpw⟩ := hpp; exact And.intro rfl ⟨_, rfl, NA (by omega), rfl, (a7).then hpw⟩
   intro _ _ hF; exact hF.elim
  have hlt2 : st.pos + 1 < s.size := by omega
  have hle2 : ¬ s.size ≤ st.pos + 1 := by omega
  refine aL (aA (aI ?_)); refine eP (by kernel_rfl) (by kernel_rfl) ?_; refine bJ (fun _ A => aY rfl) ?_; refine bJ (fun _ A => aG rfl) ?_; refine bJ (fun _ A => aD rfl cS) ?_; refine bJ (fun _ A => aQ rfl cZ (aV (A.blk0 a1) rfl)) ?_; refine bJ (fun _ A => aY rfl) ?_; refine bJ (fun _ A => aG rfl) ?_; refine bJ (fun _ A => aD rfl bB) ?_; refine bJ (fun _ A => aQ rfl aX (aV (A.blk0 a1) rfl)) ?_; refine bJ (fun _ A => eD (n := st.pos + 1) rfl rfl Tryz.underlying9 rfl hlt2) ?_; refine bJ (fun _ A => dU rfl) ?_; refine eV (fun b7 A => aA ?_); refine csr (aB (aC (aG rfl) (wfl rfl bB rfl aX (A.blk0 a1) rfl ?_))); refine aC (aK rfl rfl (by omega) (by omega)) ?_; refine aC (aG rfl) (aC (aD rfl bB) ?_); refine bE rfl rfl (by first | rfl | assumption) bZ (A.blk0 a1) rfl fun b9 a2 a3 => ?_
  try simp only [cG, Nat.reduceAdd] at a2
  refine wnn (aI (csr (aB (aJ (vs := [_, _]) QW rfl (YN (sb s (st.pos + 1)) hb9) rfl ?_)))); rintro _ c0 ⟨rfl, J⟩; have H := ((a7.then A).step a3 (fun y hy => .inl hy)).then J; have L := J.blk0 a2; have M := ((((hR.own.evo a6 hap.symm.own1).evo0 E).evo0 A).evo a3 hap.symm.own1).evo0 J; refine wan (csr (aB (aC (dV rfl rfl) ?_))); refine wnn (bA rfl (fun O => ?_) (fun O => ?_))
  ·obtain ⟨k, hk1, hk2, hk3, hk4⟩ := escI_yes O; refine csr (aB (aC (eD (s := escT) (n := k) rfl rfl Tryz.underlying9 hk1 hk2) ?_)); refine aC (iM rfl Tryz.underlying5 Tryz.underlying21 (EK (by omega) (by omega)).1 (EK (by omega) (by omega)).2) ?_; refine wan (aH (aE (cH (br1 ?_)))); exact ⟨_, _, pEsc_c hle2 hk3, rfl, H, ⟨L, M, hR.ne⟩⟩
  have hno := escI_no O; refine aL (aA (aI (csr (aB (wel ?_))))); refine wnn (bA rfl (fun a9 => ?_) (fun a9 => ?_))
  ·refine csr (aB (cE (vs := [_]) LQ rfl (hex_ok (st := iP st (st.pos + 1 + 1)) ⟨L, M, hR.ne⟩ hs) rfl ?_ ?_))
   ·intro pv wp hpp; obtain ⟨hpe, rfl, hpw⟩ := hpp; exact And.intro rfl ⟨_, rfl, (pEsc_x hle2 (by omega)).trans hpe, rfl, (H).step hpw (fun y hy => .inl hy)⟩
   rintro _ c1 ⟨n, j, hx, rfl, b4, b6⟩; refine wan (aH (aE (cH (br1 ?_)))); exact ⟨_, _, (pEsc_x hle2 (by omega)).trans hx, rfl, (H.step b4 (fun y hy => .inl hy)), b6⟩
  have hnx : sb s (st.pos + 1) ≠ 120 := by omega
  refine aL (aA (aI (csr (aB (aC (dV rfl rfl) ?_))))); refine aB (bF (t := 52) rfl (fun b5 => ?_) (fun b5 => ?_))
  ·refine aN (aN (aN (dT ?_))); refine dT ?_; refine aN (bW (wnn (dB rfl ?_))); refine aF (cE (vs := [_]) cO rfl (eG 83) rfl ?_ ?_)
   ·intro pv wp hpp; obtain ⟨rfl, hpw⟩ := hpp; exact And.intro rfl ⟨_, rfl, NC hle2 hno hnx (by omega), rfl, (H).then hpw⟩
   intro _ _ hF; exact hF.elim
  refine aS (aB (aS (aJ (vs := [_]) sM rfl (HV (sb s (st.pos + 1))) rfl ?_))); rintro _ c2 ⟨rfl, U⟩; have V := H.then U; have a4 := U.blk0 L; have a5 := M.evo0 U; refine aS (aB (bF (t := 55) rfl (fun I => ?_) (fun I => ?_)))
  ·refine aS (aB (aS (aC (fJ rfl rfl) ?_))); refine aS (bW (bM (wnn (bA rfl (fun W => ?_) (fun W => ?_)))))
   ·refine aF (cE (vs := [_]) cO rfl (eG 83) rfl ?_ ?_)
    ·intro pv wp hpp; obtain ⟨rfl, hpw⟩ := hpp
     exact And.intro rfl ⟨_, rfl, NC hle2 hno hnx (by right; exact ⟨I, by omega⟩), rfl, (V).then hpw⟩
    intro _ _ hF; exact hF.elim
   refine aL (aA (csr (aB ?_))); refine aC (iM rfl Tryz.underlying5 Tryz.underlying21 (EK (by omega) (by omega)).1 (EK (by omega) (by omega)).2) ?_; refine wan (aH (cH (br1 ?_)))
   exact ⟨_, _, UW hle2 hno hnx (by rintro (h1 | ⟨h1, h2⟩); omega; first | exact I h1 | (exact W (by omega))), rfl, V, ⟨a4, a5, hR.ne⟩⟩
  refine aN (aN (aS (bM (bM (wnn (cM rfl ?_)))))); refine aL (aA (csr (aB ?_))); refine aC (iM rfl Tryz.underlying5 Tryz.underlying21 (EK (by omega) (by omega)).1 (EK (by omega) (by omega)).2) ?_; refine wan (aH (cH (br1 ?_)))
  exact ⟨_, _, UW hle2 hno hnx (by rintro (h1 | ⟨h1, h2⟩); omega; first | exact I h1 | (exact W (by omega))), rfl, V, ⟨a4, a5, hR.ne⟩⟩
end Go.Proofs.YtidpigbinpaaeaaGreat
namespace Go.Proofs.YtidpigbinpaaeaaGreat
open Go.RowKit Go.W
theorem fL {s : ByteArray} {a b : Nat} (h : b ≤ s.size) : (s.extract a b).size = b - a := by rw [ByteArray.size_extract]; omega
theorem PF (s : ByteArray) (j : Nat) : (s.extract j s.size).data.toList = s.data.toList.drop j := by
  rw [ByteArray.data_extract]
  have : s.size = s.data.size := rfl
  rw [this]
  simp only [Array.toList_extract, List.extract]
  exact List.take_of_length_le (by simp)
theorem UM (s : ByteArray) {n : Nat} (h : n < s.size) : s.data.toList[n]? = some (UInt8.ofNat (sb s n)) := by
  have h' : n < s.data.size := h
  rw [Array.getElem?_toList, Array.getElem?_eq_getElem h', tH s n h]
  show some s.data[n] = some (UInt8.ofNat (s.data[n]).toNat)
  rw [UInt8.ofNat_toNat]
def Occ (s : ByteArray) (a b k : Nat) : Prop := k + 1 < s.size ∧ sb s k = a ∧ sb s (k + 1) = b
instance (s : ByteArray) (a b k : Nat) : Decidable (Occ s a b k) := by unfold Occ; infer_instance
theorem u8_inj {a b : Nat} (ha : a < 256) (hb : b < 256) (h : UInt8.ofNat a = UInt8.ofNat b) : a = b := by
  have := congrArg UInt8.toNat h
  rw [UInt8.toNat_ofNat', UInt8.toNat_ofNat'] at this
  omega
theorem SN {s : ByteArray} {a b j i : Nat} (ha : a < 256) (hb : b < 256) (hj : j ≤ s.size) : Go.Lib.occAt (s.extract j s.size).data.toList [UInt8.ofNat a, UInt8.ofNat b] i = decide (Occ s a b (j + i)) := by
  unfold Go.Lib.occAt
  rw [PF, List.drop_drop]
  have hlen : s.data.toList.length = s.size := by simp
  by_cases h : j + i + 1 < s.size
  · have e : s.data.toList.drop (j + i) = UInt8.ofNat (sb s (j + i)) :: UInt8.ofNat (sb s (j + i + 1)) :: s.data.toList.drop (j + i + 2) := by
      have h0 := UM s (n := j + i) (by omega)
      have h1 := UM s (n := j + i + 1) h
      obtain ⟨h2, h3⟩ := List.getElem?_eq_some_iff.1 h0
      obtain ⟨h4, h5⟩ := List.getElem?_eq_some_iff.1 h1
      rw [List.drop_eq_getElem_cons h2, List.drop_eq_getElem_cons h4, h3, h5]
    rw [e]
    have l1 := jN s (j + i)
    have l2 := jN s (j + i + 1)
    simp only [List.isPrefixOf, Bool.and_true]
    rw [Bool.eq_iff_iff]
    simp only [Bool.and_eq_true, beq_iff_eq, decide_eq_true_eq]
    unfold Occ
    constructor
    · rintro ⟨h6, h7⟩; exact ⟨h, (u8_inj ha l1 h6).symm, (u8_inj hb l2 h7).symm⟩
    · rintro ⟨-, h6, h7⟩; rw [h6, h7]; exact ⟨rfl, rfl⟩
  · rw [decide_eq_false (fun h2 => h h2.1)]
    have hl : (s.data.toList.drop (j + i)).length < 2 := by rw [List.length_drop, hlen]; omega
    match s.data.toList.drop (j + i), hl with
    | [], _ => rfl
    | [x], _ => simp [List.isPrefixOf]
theorem rY (s : ByteArray) (a b : Nat) : ∀ (f j : Nat), s.size ≤ j + f → (∀ k, kO s a b f j = some k → j ≤ k ∧ Occ s a b k ∧ ∀ m, j ≤ m → m < k → ¬ Occ s a b m) ∧ (kO s a b f j = none → ∀ m, j ≤ m → ¬ Occ s a b m)
  | 0, j, hf => ⟨(fun k h => by cases h), fun _ m hm ho => by have := ho.1; omega⟩
  | f + 1, j, hf => by
    obtain ⟨i1, i2⟩ := rY s a b f (j + 1) (by omega)
    rw [kO]
    by_cases h : j + 1 < s.size ∧ sb s j = a ∧ sb s (j + 1) = b
    · rw [if_pos h]
      exact ⟨fun k hk => by cases hk; exact ⟨Nat.le_refl _, h, fun m h1 h2 => by omega⟩, fun h2 => by cases h2⟩
    · rw [if_neg h]
      refine ⟨fun k hk => ?_, fun hk m hm ho => ?_⟩
      · obtain ⟨h1, h2, h3⟩ := i1 k hk
        exact ⟨by omega, h2, fun m h4 h5 ho => by
          rcases Nat.eq_or_lt_of_le h4 with e | e
          · subst e; exact h ho
          · exact h3 m e h5 ho⟩
      · rcases Nat.eq_or_lt_of_le hm with e | e
        · subst e; exact h ho
        · exact i2 hk m e ho
def OI (s : ByteArray) (a b j : Nat) : Int := match kO s a b s.size j with | none => -1 | some k => (k : Int) - j
theorem idx_two {s : ByteArray} {a b j : Nat} (ha : a < 256) (hb : b < 256) (hj : j ≤ s.size) : Go.Lib.index (s.extract j s.size).data.toList [UInt8.ofNat a, UInt8.ofNat b] = OI s a b j := by
  obtain ⟨h1, h2⟩ := rY s a b s.size j (by omega)
  have hlen : (s.extract j s.size).data.toList.length = s.size - j := by rw [PF, List.length_drop]; simp
  unfold OI
  cases h : kO s a b s.size j with
  | none =>
    refine Go.Lib.index_none fun i _ => ?_
    rw [SN ha hb hj]
    exact decide_eq_false (h2 h _ (by omega))
  | some k =>
    obtain ⟨h3, h4, h5⟩ := h1 k h
    have e : (k : Int) - j = ((k - j : Nat) : Int) := by omega
    show _ = (k : Int) - j
    rw [e]
    refine Go.Lib.index_first (by rw [hlen]; have := h4.1; omega) ?_ fun i hi => ?_
    · rw [SN ha hb hj, show j + (k - j) = k by omega]; exact decide_eq_true h4
    · rw [SN ha hb hj]; exact decide_eq_false (h5 _ (by omega) (by omega))
theorem DR {s t : ByteArray} (h : s.size = t.size) (h2 : ∀ k, k < s.size → sb s k = sb t k) : s = t := by
  apply ByteArray.ext
  apply Array.ext h
  intro i h3 h4
  have h5 := h2 i h3
  rw [tH s i h3, tH t i h4] at h5
  have : (s.data[i]).toNat = (t.data[i]).toNat := h5
  exact UInt8.toNat_inj.1 this
theorem AH {t p : ByteArray} {i : Nat} (hi : i ≤ t.size) : (p.size ≤ (t.extract i t.size).size ∧ (t.extract i t.size).extract 0 p.size = p) ↔ ∀ k, k < p.size → isB t (i + k) (sb p k) := by
  have hs := fL (s := t) (a := i) (Nat.le_refl t.size)
  constructor
  · rintro ⟨h1, h2⟩ k hk
    refine ⟨by omega, ?_⟩
    have e : sb ((t.extract i t.size).extract 0 p.size) k = sb p k := by rw [h2]
    rw [dO h1 (by omega), Nat.zero_add, dO (Nat.le_refl _) (by omega)] at e
    exact e
  · intro h
    have h1 : p.size ≤ (t.extract i t.size).size := by
      rcases Nat.eq_zero_or_pos p.size with h0 | h0
      · omega
      · have := (h (p.size - 1) (by omega)).1; omega
    refine ⟨h1, DR (by rw [fL h1]; omega) fun k hk => ?_⟩
    rw [fL h1] at hk
    rw [dO h1 (by omega), Nat.zero_add, dO (Nat.le_refl _) (by omega)]
    exact (h k (by omega)).2
end Go.Proofs.YtidpigbinpaaeaaGreat
namespace Go.Proofs.YtidpigbinpaaeaaGreat
open Go.RowKit Go.W
attribute [local irreducible] Decidable.decide
theorem oJ : cX Tryz.prog 130 := ⟨_, Tryz.func130, by kernel_rfl, by kernel_rfl⟩
theorem xN : cX Tryz.prog 153 := ⟨_, Tryz.func153, by kernel_rfl, by kernel_rfl⟩
theorem xK : cX Tryz.prog 167 := ⟨_, Tryz.func167, by kernel_rfl, by kernel_rfl⟩
theorem LO : cX Tryz.prog 169 := ⟨_, Tryz.func169, by kernel_rfl, by kernel_rfl⟩
theorem ext_from {s : ByteArray} {i k : Nat} (h : i ≤ s.size) : (s.extract i s.size).extract k (s.extract i s.size).size = s.extract (i + k) s.size := by
  have hs := fL (s := s) (a := i) (Nat.le_refl s.size)
  rcases Nat.lt_or_ge s.size (i + k) with hk | hk
  · apply DR
    · rw [fL (Nat.le_refl _), fL (Nat.le_refl _), fL (Nat.le_refl _)]; omega
    · intro j hj; rw [fL (Nat.le_refl _), hs] at hj; omega
  · apply DR
    · rw [fL (Nat.le_refl _), fL (Nat.le_refl _), fL (Nat.le_refl _)]; omega
    · intro j hj
      rw [fL (Nat.le_refl _), hs] at hj
      rw [dO (Nat.le_refl _) (by rw [hs]; omega), dO (Nat.le_refl _) (by omega), dO (Nat.le_refl _) (by omega), Nat.add_assoc]
theorem CV {s : ByteArray} {i k m : Nat} (h : i + m ≤ s.size) (hk : k ≤ m) : (s.extract i s.size).extract k m = s.extract (i + k) (i + m) := by
  have hs := fL (s := s) (a := i) (Nat.le_refl s.size)
  apply DR
  · rw [fL (by rw [hs]; omega), fL h]; omega
  · intro j hj
    rw [fL (by rw [hs]; omega)] at hj
    rw [dO (by rw [hs]; omega) (by omega), dO (Nat.le_refl _) (by omega), dO h (by omega), Nat.add_assoc]
theorem mY {s : ByteArray} {i k : Nat} (h : i + k < s.size) : sb (s.extract i s.size) k = sb s (i + k) := dO (Nat.le_refl _) h
def Pre (t p : ByteArray) : Prop := p.size ≤ t.size ∧ t.extract 0 p.size = p
instance (t p : ByteArray) : Decidable (Pre t p) := by unfold Pre; infer_instance
theorem pre1 {t : ByteArray} {x : UInt8} {i : Nat} (hi : i ≤ t.size) : Pre (t.extract i t.size) (ByteArray.mk #[x]) ↔ isB t i x.toNat := by
  unfold Pre
  rw [AH hi]
  constructor
  · intro h; exact h 0 (by show 0 < 1; omega)
  · intro h k hk
    have hk' : k < 1 := hk
    obtain rfl : k = 0 := by omega
    exact h
theorem pre2 {t : ByteArray} {x y : UInt8} {i : Nat} (hi : i ≤ t.size) : Pre (t.extract i t.size) (ByteArray.mk #[x, y]) ↔ isB t i x.toNat ∧ isB t (i + 1) y.toNat := by
  unfold Pre
  rw [AH hi]
  constructor
  · intro h; exact ⟨h 0 (by show 0 < 2; omega), h 1 (by show 1 < 2; omega)⟩
  · rintro ⟨h0, h1⟩ k hk
    have hk' : k < 2 := hk
    match k, hk' with
    | 0, _ => exact h0
    | 1, _ => exact h1
theorem pre3 {t : ByteArray} {x y z : UInt8} {i : Nat} (hi : i ≤ t.size) : Pre (t.extract i t.size) (ByteArray.mk #[x, y, z]) ↔ isB t i x.toNat ∧ isB t (i + 1) y.toNat ∧ isB t (i + 2) z.toNat := by
  unfold Pre
  rw [AH hi]
  constructor
  · intro h; exact ⟨h 0 (by show 0 < 3; omega), h 1 (by show 1 < 3; omega), h 2 (by show 2 < 3; omega)⟩
  · rintro ⟨h0, h1, h2⟩ k hk
    have hk' : k < 3 := hk
    match k, hk' with
    | 0, _ => exact h0
    | 1, _ => exact h1
    | 2, _ => exact h2
theorem pre4 {t : ByteArray} {x y z u : UInt8} {i : Nat} (hi : i ≤ t.size) : Pre (t.extract i t.size) (ByteArray.mk #[x, y, z, u]) ↔ isB t i x.toNat ∧ isB t (i + 1) y.toNat ∧ isB t (i + 2) z.toNat ∧ isB t (i + 3) u.toNat := by
  unfold Pre
  rw [AH hi]
  constructor
  · intro h; exact ⟨h 0 (by show 0 < 4; omega), h 1 (by show 1 < 4; omega), h 2 (by show 2 < 4; omega), h 3 (by show 3 < 4; omega)⟩
  · rintro ⟨h0, h1, h2, h3⟩ k hk
    have hk' : k < 4 := hk
    match k, hk' with
    | 0, _ => exact h0
    | 1, _ => exact h1
    | 2, _ => exact h2
    | 3, _ => exact h3
theorem pre_self {t : ByteArray} {x : UInt8} : Pre t (ByteArray.mk #[x]) ↔ isB t 0 x.toNat := by
  have h := pre1 (t := t) (x := x) (i := 0) (Nat.zero_le _)
  rwa [ByteArray.extract_zero_size] at h
def pM : Nat := 0
def Glb (w : World) : Prop := ∃ m : Int, w.cell? ⟨pM, 0, none⟩ = some (.int .i64 m)
theorem Glb.evo {X : List Nat} {w w' : World} (h : Glb w) (he : Evo X w w') (hx : pM ∉ X) : Glb w' := by obtain ⟨m, h⟩ := h; exact ⟨m, he.cell h hx⟩
theorem RdAt.glb {w : World} {b : Nat} {s : ByteArray} {st : PS} {a : Option Addr} {c : Nat} {ob : Option Nat} (h : RdAt w b s st a c ob) (hg : Glb w) : b ≠ pM := fun e => by
  obtain ⟨m, hm⟩ := hg
  subst e
  have := eY (o := 0) h.blk (v := .string s) rfl
  rw [this] at hm; cases hm
theorem VV {w : World} (s : ByteArray) (x y : UInt8) (j : Nat) (hj : j ≤ s.size) (hs : s.size ≤ 1000000) (hg : Glb w) : Calls Tryz.prog 160 #[.string (s.extract j s.size), .string (ByteArray.mk #[x, y])] w (Ret fun v w' => v = iv (OI s x.toNat y.toNat j) ∧ Evo [] w w') := by
  obtain ⟨m, hm⟩ := hg
  refine (wA _ _ m w (by rw [fL (Nat.le_refl _)]; omega) hm).mono ?_
  rintro e w' ⟨rfl, rfl⟩
  have h := idx_two (s := s) (a := x.toNat) (b := y.toNat) (j := j) x.toNat_lt y.toNat_lt hj
  rw [UInt8.ofNat_toNat, UInt8.ofNat_toNat] at h
  exact ⟨_, rfl, congrArg iv h, Evo.refl _ _⟩
theorem OA {w : World} (s p : ByteArray) (hs : s.size ≤ 140737488355328) (hp : p.size ≤ 140737488355328) : Calls Tryz.prog 167 #[.string s, .string p] w (Ret fun v w' => v = .bool (decide (Pre s p)) ∧ Evo [] w w') := by
  refine aT (N := 18) Tryz.func167 rfl rfl rfl ?_; refine csr (wan (csr (aB (aC (cD rfl Tryz.underlying9 rfl) ?_)))); refine aB (aC (cD rfl Tryz.underlying9 rfl) ?_); refine aC (dV rfl rfl) ?_; refine aB (bF (t := 10) rfl (fun A => ?_) (fun A => ?_))
  ·refine aS (aB (aS (aB (aS (aC (cD rfl Tryz.underlying9 rfl) ?_))))); refine aS ?_; refine aC (ZC (h := p.size) rfl rfl Tryz.underlying9 rfl (by omega)) ?_; refine aS (aB (aS (aC (gK rfl rfl) ?_))); refine bW (wan (aH (br1 ?_))); refine ⟨congrArg Value.bool (decide_eq_decide.2 ?_), (Evo.refl [] w)⟩; exact ⟨fun h => ⟨by omega, h⟩, fun h => h.2⟩
  refine aN (aN (aN (aN (aN (aN (bM (wan (aH (br1 ?_)))))))))
  exact ⟨congrArg Value.bool (decide_eq_false (fun h => by have := h.1; omega)).symm, (Evo.refl [] w)⟩
theorem AM {w : World} (s p : ByteArray) (hs : s.size ≤ 140737488355328) (hp : p.size ≤ 140737488355328) : Calls Tryz.prog 158 #[.string s, .string p] w (Ret fun v w' => v = .bool (decide (Pre s p)) ∧ Evo [] w w') := by
  refine aT (N := 8) Tryz.func158 rfl rfl rfl ?_; refine csr (wan (csr (aB (aB (aJ (vs := [_, _]) xK rfl (OA s p hs hp) rfl ?_))))); rintro _ w1 ⟨rfl, A⟩; refine wan (aH (br1 ?_)); exact ⟨rfl, ((Evo.refl [] w).then A)⟩
theorem cutI_ok {w : World} (s p : ByteArray) (hs : s.size ≤ 140737488355328) (hp : p.size ≤ 140737488355328) : Calls Tryz.prog 169 #[.string s, .string p] w (Ret fun v w' => v = .tuple #[.string (if Pre s p then s.extract p.size s.size else s), .bool (decide (Pre s p))] ∧ Evo [] w w') := by
  refine aT (N := 15) Tryz.func169 rfl rfl rfl ?_; refine csr (bR (wan (aI (csr (aB (aB (aJ (vs := [_, _]) xK rfl (OA s p hs hp) rfl ?_))))))); rintro _ w1 ⟨rfl, H⟩; have E := (Evo.refl [] w).then H; refine aC (lX rfl) ?_; refine wnn (bA rfl (fun A => ?_) (fun A => ?_))
  ·refine csr (aB (bR (wan (aH (aE (cB rfl rfl rfl ?_)))))); exact ⟨by rw [if_neg A, decide_eq_false A], E⟩
  refine aL (aA (csr (aB (aB (aC (cD rfl Tryz.underlying9 rfl) ?_)))))
  refine aC (jU (l := p.size) rfl rfl Tryz.underlying9 rfl (by have := Classical.not_not.1 A; exact this.1)) ?_
  refine bR (wan (aH (cB rfl rfl rfl ?_))); have h9 := Classical.not_not.1 A; exact ⟨by rw [if_pos h9, decide_eq_true h9], E⟩
theorem cut_ok {w : World} (s p : ByteArray) (hs : s.size ≤ 140737488355328) (hp : p.size ≤ 140737488355328) : Calls Tryz.prog 161 #[.string s, .string p] w (Ret fun v w' => v = .tuple #[.string (if Pre s p then s.extract p.size s.size else s), .bool (decide (Pre s p))] ∧ Evo [] w w') := by
  refine aT (N := 11) Tryz.func161 rfl rfl rfl ?_; refine csr (bR (wan (csr (aB (aB (aJ (vs := [_, _]) LO rfl (cutI_ok s p hs hp) rfl ?_)))))); rintro _ w1 ⟨rfl, A⟩; refine aC (bK rfl rfl) ?_; refine aC (bK rfl rfl) ?_; refine bR (wan (aH (cB rfl rfl rfl ?_))); exact ⟨rfl, ((Evo.refl [] w).then A)⟩
theorem pOne_esc {s : ByteArray} {i v j : Nat} (h : sb s i = 92) (h2 : pJ s i = .ok (v, j)) : mO s i = .ok ((v : Int), j) := by unfold mO; rw [if_pos h, h2]
theorem pOne_err {s : ByteArray} {i : Nat} {e : Int} (h : sb s i = 92) (h2 : pJ s i = .error e) : mO s i = .error e := by unfold mO; rw [if_pos h, h2]
theorem MZ {s : ByteArray} {i : Nat} (h : ¬ sb s i = 92) : mO s i = .ok ((bQ s i).1, i + (bQ s i).2) := by unfold mO; rw [if_neg h]
theorem yA {s : ByteArray} {i j : Nat} {r : Int} (h : mO s i = .ok (r, j)) (hb : Bd s i) (hi : i < s.size) : Bd s j ∧ i < j ∧ 0 ≤ r ∧ r ≤ 1114111 := by
  by_cases h1 : sb s i = 92
  · unfold mO at h
    rw [if_pos h1] at h
    cases h2 : pJ s i with
    | error e => rw [h2] at h; cases h
    | ok x =>
      obtain ⟨n, k⟩ := x
      rw [h2] at h
      cases h
      obtain ⟨h3, h4, h5⟩ := SJ h2 hb h1
      exact ⟨h3, h4, by omega, by omega⟩
  · rw [MZ h1] at h
    cases h
    obtain ⟨h3, h4, h5, h6, h7⟩ := hb.next hi
    exact ⟨h5, by omega, h6, h7⟩
theorem FM {w : World} {b : Nat} {s : ByteArray} {st : PS} {a : Option Addr} {c : Nat} {ob : Option Nat} (hR : RdAt w b s st a c ob) (hs : s.size ≤ 1000000) (hlt : st.pos < s.size) (hb : Bd s st.pos) :
    Calls Tryz.prog 163 #[.pointer (some ⟨b, 0, none⟩)] w (RetP (fun v w' => ∃ r j, mO s st.pos = .ok (r, j) ∧ v = .int .i32 r ∧ Evo [b] w w' ∧ RdAt w' b s (iP st j) a c ob) (fun v w' => mO s st.pos = .error 83 ∧ v = flt 83 ∧ Evo [b] w w')) := by
  have hap := hR.ap; refine aT (N := 17) Tryz.func163 rfl rfl rfl ?_; refine csr (wan (aI (aI ?_))); refine eP (by kernel_rfl) (by kernel_rfl) ?_; refine bJ (fun _ A => aY rfl) ?_; refine bJ (fun _ A => aG rfl) ?_; refine bJ (fun _ A => aD rfl cS) ?_; refine bJ (fun _ A => aQ rfl cZ (aV (A.blk0 hR.blk) rfl)) ?_; refine bJ (fun _ A => aY rfl) ?_; refine bJ (fun _ A => aG rfl) ?_; refine bJ (fun _ A => aD rfl bB) ?_; refine bJ (fun _ A => aQ rfl aX (aV (A.blk0 hR.blk) rfl)) ?_; refine bJ (fun _ A => eD (n := st.pos) rfl rfl Tryz.underlying9 rfl hlt) ?_; refine bJ (fun _ A => lZ rfl rfl) ?_; refine eV (fun O A => aA ?_); have E := (Evo.refl [b] w).then A; refine bA rfl (fun H => ?_) (fun H => ?_)
  ·refine csr (aB (cE (vs := [_]) xN rfl (DC ⟨(A.blk0 hR.blk), (hR.own.evo0 A), hR.ne⟩ hs hlt) rfl ?_ ?_))
   ·intro pv wp hpp; obtain ⟨hpe, rfl, hpw⟩ := hpp; exact And.intro rfl ⟨_, rfl, pOne_err (by omega) hpe, rfl, (E).step hpw (fun y hy => .inl hy)⟩
   rintro _ w6 ⟨n, j, hx, rfl, J, L⟩; refine wan (aH (aE (cH (br1 ?_)))); exact ⟨_, _, pOne_esc (by omega) hx, rfl, (E.step J (fun y hy => .inl hy)), L⟩
  refine aL (aA (csr (aB (aJ (vs := [_]) oJ rfl (AG ⟨(A.blk0 hR.blk), (hR.own.evo0 A), hR.ne⟩ hs hb) rfl ?_)))); rintro _ w9 ⟨rfl, I, M⟩; refine wan (aH (cH (br1 ?_))); exact ⟨_, _, MZ (by omega), rfl, (E.step I (fun y hy => .inl hy)), M⟩
end Go.Proofs.YtidpigbinpaaeaaGreat
namespace Go.Proofs.YtidpigbinpaaeaaGreat
open Go.RowKit Go.W
def spec : List Nat := [92, 46, 43, 42, 63, 40, 41, 124, 91, 93, 123, 125, 94, 36]
def Odd (c : Int) : Prop := c < 32 ∨ c = 127 ∨ (55296 ≤ c ∧ c ≤ 57343)
instance (c : Int) : Decidable (Odd c) := by unfold Odd; infer_instance
def EndC (c : Int) : Prop := c < 128 ∧ gC c.toNat ∧ c ≠ 95
instance (c : Int) : Decidable (EndC c) := by unfold EndC; infer_instance
noncomputable def iL (t : Rx) : List ByteArray := match t.fine 0 (0, []) with
  | some st => st.2
  | none => []
end Go.Proofs.YtidpigbinpaaeaaGreat
namespace Go.Proofs.YtidpigbinpaaeaaGreat
open Go.RowKit Go.W
attribute [local irreducible] Decidable.decide
theorem ZU {n : Nat} {w : World} {vs : List Value} {t : Rx} (hx : RRx n [] w vs t) :
    Calls Tryz.prog 56 #[.agg vs.toArray] w (Ret fun v w' => ∃ a c ob, v = .slice a (iL t).length c ∧ OwnS w' 9 1 a (iL t).length c ((iL t).map sv) ob ∧ Ge w ob ∧ (iL t).length ≤ 100000 ∧ Evo [] w w') := by
  have hx0 := hx; obtain ⟨m, ra, rc, ka, kc, hm, rfl, hrg, hk, bl1, bl2, bl3⟩ := hx.get; refine aT (N := 13) Tryz.func56 rfl rfl rfl ?_; refine csr (fT rfl rfl fun b1x w1 V W a0 => ?_); have U := W; have I := (Evo.refl [] w).then a0; refine wan (csr (cF rfl wS fun jb w7 a1 A J => ?_)); have a3 := A; have E := I.then J; refine wan (aI (csr (aB (aC (bT rfl bV aU (J.blk0 V) rfl) ?_)))); refine aJ (vs := [_, _, _]) qB rfl (JG (st := (0, [])) (JAt.new a1) (RRx.step hx0 E (Ge.new I A).mem1 (fun b hb => by cases hb)) ⟨Nat.le_refl _, by decide⟩ (by decide) (by decide)) rfl ?_; rintro _ a4 ⟨r, rfl, hr, O, hst⟩; have hsz9 := E.size; have L := E.step O ((Ge.new I A).mem1); refine aC (fP rfl) ?_; refine wnn (dW rfl (fun H => ?_) (fun H => ?_))
  ·refine csr (wan (aH (aE (br1 ?_))))
   have hno : t.fine 0 (0, []) = none := by cases h9 : t.fine 0 (0, []) with | none => rfl | some z => rw [h9] at hr; rw [hr] at H; cases H
   have hgr : iL t = [] := by rw [iL, hno]
   rw [hgr]; exact ⟨none, 0, none, rfl, OwnS.nil _ _ _, Ge.nil _, Nat.zero_le _, L⟩
  obtain ⟨st', hst'⟩ := Option.isSome_iff_exists.1 (show (t.fine 0 (0, [])).isSome = true by rw [← hr]; simpa using H)
  obtain ⟨A, a2, c2, o2, M, ho2⟩ := hst st' hst'
  have hgr : iL t = st'.2 := by rw [iL, hst']
  refine aL (aA (csr (aB (aC (aG rfl) (wfl rfl kU rfl jW M.blk rfl (wan (aH (br1 ?_)))))))); rw [hgr]
  refine ⟨a2, c2, o2, rfl, M.own, fun g hg => ?_, by have := A.1; have := A.2; omega, L⟩
  rcases ho2 g hg with h9 | h9
  · cases h9
  · omega
theorem OK : ∀ l : List ByteArray, (l.map fun s => [sv s]).flatten = l.map sv
  | [] => rfl
  | x :: r => by rw [List.map_cons, List.flatten_cons, OK r]; rfl
theorem ap_older {w : World} {o p : Option Nat} (h : Lt w o) (hp : Ge w p) : Apart o p := fun g h1 h2 => by have := h g h1; have := hp g h2; omega
theorem rstr_own {X : List Nat} {w : World} {e : TypeId} {a : Option Addr} {c : Nat} {l : List ByteArray} {ob : Option Nat} (h : OwnS w e 1 a l.length c (l.map sv) ob) (hx : ∀ g, ob = some g → g ∉ X) : RSl 1 RStr X w (.slice a l.length c) l := by
  have e1 := OK l
  refine RSl.ofOwn (rows := l.map fun s => [sv s]) (by rw [e1]; exact h) ⟨by simp, fun k h1 h2 => ?_⟩ rfl hx
  simp only [List.getElem_map]
  exact ⟨rfl, rfl⟩
def Comp2 (X : List Nat) (t : Rx) (w' : World) (ps : List Value) (e : Int) : Prop := (e ≠ 0 ∧ (¬ t.Ok ∨ 10000 < t.esz + 1) ∧ Shp ps ∧ (t.Ok → e = 90)) ∨ (t.Ok ∧ t.esz + 1 ≤ 10000 ∧ e = 0 ∧ ∃ l n a c na nc, ps = [.slice a l.length c, iv 0, iv (iL t).length, .slice na (iL t).length nc] ∧ RSl 5 RIn X w' (.slice a l.length c) l ∧ RSl 1 RStr X w' (.slice na (iL t).length nc) (iL t) ∧ l.length ≤ 10000 ∧ ProgOk t l n)
set_option maxHeartbeats 4000000 in
theorem PH {X : List Nat} {n : Nat} {w : World} {vs : List Value} {t : Rx} (hX : ∀ b, b ∈ X → b < w.heap.size) (hx : RRx n [] w vs t) :
    Calls Tryz.prog 30 #[.agg vs.toArray] w (Ret fun v w' => Evo [] w w' ∧ ∃ ps e, v = .tuple #[.agg ps.toArray, iv e] ∧ Comp2 X t w' ps e) := by
  have hx0 := hx; obtain ⟨m, ra, rc, ka, kc, hm, rfl, hrg, hk, bl1, bl2, bl3⟩ := hx.get; refine aT (N := 28) Tryz.func30 rfl rfl rfl ?_; refine csr (fT rfl rfl fun b1 w1 d0 e2 e3 => ?_); have e4 := e2; have b5 := (Evo.refl [] w).then e3; refine cF rfl zK fun b2 w7 e5 d3 M => ?_; have e6 := d3; have a1 := Ge.new b5 d3; refine wan (csr (aC (bT rfl bV aU (M.blk0 d0) rfl) (aJ (vs := [_]) QS rfl (Size_ok (RRx.pers _ _ _ _ _ _ (b5.then M) hx0)) rfl ?_))); rintro _ f6 ⟨sz, rfl, hsz, a3⟩; have O := (b5.then M).then a3; have b6 := a3.blk0 (M.blk0 d0); have U := a3.blk0 e5; refine wan (aI (csr (aB (wel ?_)))); refine wnn (bA rfl (fun E => ?_) (fun E => ?_))
  ·refine csr (aC (cA (vs := []) sS rfl (cells := [_, _, _, _]) rfl) ?_); refine aZ rfl rfl gO U rfl rfl ⟨by first | rfl | assumption, by first | rfl | assumption, by first | rfl | assumption, by first | rfl | assumption, trivial⟩ fun f7 b7 d5 => ?_
   try simp only [cG, Nat.reduceAdd] at b7
   refine wan (aH (aE (pG rfl (ResOk.cellA rfl mW gO b7 rfl) (ResOk.tmp rfl) ?_))); exact ⟨(O.step d5 a1.mem1), [_, _, _, _], 2, rfl, .inl ⟨by decide, .inl (hsz.zero E), ⟨_, _, _, _, _, rfl, rfl, rfl⟩, fun h => absurd h (hsz.zero E)⟩⟩
  refine aL (aA (aI (csr (aB (aC (gF rfl rfl) ?_))))); refine wnn (bA rfl (fun a4 => ?_) (fun a4 => ?_))
  ·refine csr (aC (cA (vs := []) sS rfl (cells := [_, _, _, _]) rfl) ?_); refine aZ rfl rfl gO U rfl rfl ⟨by first | rfl | assumption, by first | rfl | assumption, by first | rfl | assumption, by first | rfl | assumption, trivial⟩ fun f8 b8 d6 => ?_
   try simp only [cG, Nat.reduceAdd] at b8
   refine wan (aH (aE (pG rfl (ResOk.cellA rfl mW gO b8 rfl) (ResOk.tmp rfl) ?_))); have hok : t.Ok := Classical.byContradiction fun h => E (hsz.2 h); exact ⟨(O.step d6 a1.mem1), [_, _, _, _], 90, rfl, .inl ⟨by decide, .inr (hsz.big hok a4), ⟨_, _, _, _, _, rfl, rfl, rfl⟩, fun _ => rfl⟩⟩
  have hok : t.Ok := Classical.byContradiction fun h => E (hsz.2 h); have hszE := hsz.fits hok a4; have hsz4 := size_lt hszE; refine aL (aA (csr (cF rfl KC fun cb f9 d7 V a5 => ?_))); have e7 := V; have b9 := Apart.new (Lt.blk b6) V; have c0 := Apart.new (Lt.blk U) V; have a6 := Ge.new O V; have W := O.then a5; have a7 := a5.blk0 b6; have a8 := a5.blk0 U; refine wnn (csr (aC (bT rfl bV aU a7 rfl) ?_))
  refine aJ (vs := [_, _]) iU rfl (WK (CdAt.new (Z := X ++ [b2]) d7) (RRx.step hx0 W a6.mem1 (fun b hb => by cases hb)) hok.good (size_lim hszE) (fun z hz => by rcases List.mem_append.1 hz with e | e; exact Nat.lt_of_lt_of_le (hX z e) (W).size; (rw [List.mem_singleton.1 e]; exact dK a8))) rfl ?_
  rintro _ e8 ⟨-, a9, new, hto, hcodes, hlen, hnice⟩; have hltb2 := (Lt.blk a8); have hltb1 := (Lt.blk a7); have hgcb := a6; have hev16 := W; obtain ⟨pa, pc, po, e9, hp1⟩ := hto; have L := e9.cast (List.nil_append _); have hgpo : Ge w po := ge_ob (Ge.nil _) hev16.size hp1; have hA2po := fW (Apart.nil (some b2)) hltb2 hp1; have hA1po := fW (Apart.nil (some b1)) hltb1 hp1
  have hAcN : Apart (some cb) po := fun g h1 h2 => by cases h1; exact L.ne cb h2 rfl
  refine wnn (csr (aC (aQ rfl dZ (aV L.blk rfl)) (aC (cA (vs := [(0, _)]) dF rfl (cells := [_, _, _, _, _]) rfl) ?_))); refine bL (vs := [_]) rfl qL rfl rfl rfl rfl fun g0 g1 d8 f5 A => ?_; have c1 := (W.step a9 (a6.mem1)).then A; have c3 := A.blk0 (a9.blk a8 (c0.nmem1)); refine cT rfl rfl rfl rfl nV (L.own.evo0 A) (Src.ofOwn d8 ⟨by first | rfl | assumption, by first | rfl | assumption, by first | rfl | assumption, by first | rfl | assumption, by first | rfl | assumption, trivial⟩) (by omega) fun a2 c2 g2 ob2 f0 H hob68 => ?_; have d9 := hgpo.app c1 hob68; have e0 := ((Evo.refl (cb :: (po.toList ++ (X ++ [b2]))) e8).then A).step H (fun y hy => .inl (List.mem_cons_of_mem _ (List.mem_append_left _ hy))); have hob2 := hob68; refine bE rfl rfl (by first | rfl | assumption) sE (H.blk (A.blk0 L.blk) hAcN.nmem) rfl fun g3 c4 I => ?_; have b4 := (c1.step H hgpo.mem).step I hgcb.mem1
  have e1 := e0.step I (fun y hy => .inl (by rw [List.mem_singleton.1 hy]; exact List.mem_cons_self ..))
  have c5 := I.blk (H.blk c3 hA2po.nmem) c0.nmem1
  try simp only [cG, Nat.reduceAdd] at c4
  refine wnn (csr (aC (bT rfl bV aU (I.blk (H.blk (A.blk0 (a9.blk a7 (b9.nmem1))) hA1po.nmem) b9.nmem1) rfl) (aJ (vs := [_]) QR rfl (ZU (RRx.pers _ _ _ _ _ _ b4 hx0)) rfl ?_))); rintro _ g4 ⟨na, nc, nob, rfl, hNm, hNg, hNl, J⟩; have hltb2n := (Lt.blk c5); have hevN := b4; have hA2ns : Apart (some b2) nob := ap_older hltb2n hNg; refine wan (csr (aC (aQ rfl dZ (aV (J.blk0 c4) rfl)) (aB (aC (bD rfl Tryz.underlying22 rfl) ?_)))); refine aB (aC (cA (vs := [(0, _), (2, _), (3, _)]) sS rfl (cells := [_, _, _, _]) rfl) ?_); refine aZ rfl rfl gO (J.blk0 c5) rfl rfl ⟨by first | rfl | assumption, by first | rfl | assumption, by first | rfl | assumption, by first | rfl | assumption, trivial⟩ fun d4 c6 a0 => ?_; have c7 := (e1.then J).step a0 (fun y hy => .inl (List.mem_cons_of_mem _ (List.mem_append_right _ (List.mem_append_right _ hy)))); have c8 := ((f0.evo I (hAcN.app (Lt.blk (A.blk0 L.blk)) hob68).symm.own1).evo0 J).evo a0 (hA2po.app (Lt.blk c3) hob68).symm.own1; have c9 := hNm.evo a0 hA2ns.symm.own1
  try simp only [cG, Nat.reduceAdd] at c6
  refine wan (aH (pG rfl (ResOk.cellA rfl mW gO c6 rfl) (ResOk.tmp rfl) ?_))
  have hnew : ∀ e, e ∈ new ++ [((⟨1, 0, 0, 0, []⟩ : In), Value.slice none 0 0)] → e.1.rs.length ≤ 1048576 := fun e he => by rcases List.mem_append.1 he with h | h; exact (hnice e h).2.2.2; rw [List.mem_singleton] at h; subst h; exact Nat.zero_le _
  have hrsA : ∀ e, e ∈ new ++ [((⟨1, 0, 0, 0, []⟩ : In), Value.slice none 0 0)] → RSl 2 RRg X d4 e.2 e.1.rs := fun e he => by rcases List.mem_append.1 he with h | h; exact qY (L.rs e h) c7 (fun y hy => .inl (List.mem_cons_of_mem _ (List.mem_append_right _ (List.mem_append_left _ hy)))); rw [List.mem_singleton] at h; subst h; exact nJ
  have hown : OwnS d4 123 5 a2 (new.length + 1) c2 (qI (new ++ [((⟨1, 0, 0, 0, []⟩ : In), Value.slice none 0 0)])) ob2 := by rw [tU]; exact c8
  have hlen0 := hsz4
  have hll : ((new ++ [((⟨1, 0, 0, 0, []⟩ : In), Value.slice none 0 0)]).map (·.1)).length = new.length + 1 := by simp
  refine ⟨((b4.then J).step a0 a1.mem1), [_, _, _, _], 0, rfl, .inr ⟨hok, hszE, rfl, (new ++ [((⟨1, 0, 0, 0, []⟩ : In), Value.slice none 0 0)]).map (·.1), new.length, a2, c2, na, nc, by rw [hll], ?_, ?_, ?_, ?_⟩⟩
  · rw [hll]; exact prog_of hown (fun g hg hm => by have h1 := d9 g hg; have h2 := hX g hm; omega) hrsA hnew
  · exact rstr_own c9 (fun g hg hm => by have h1 := hNg g hg; have h2 := hX g hm; have h3 := hevN.size; omega)
  · rw [hll]; exact Nat.le_trans (Nat.succ_le_succ (Nat.le_trans hlen hlen0)) (by decide)
  · exact XW hok.good hcodes hnice
end Go.Proofs.YtidpigbinpaaeaaGreat
namespace Go.Proofs.YtidpigbinpaaeaaGreat
abbrev nT := List (Nat × Nat)
abbrev Th := Nat × nT
inductive Mov where
  | rune (out : Option Nat)
  | mat
  | go (o : Nat)
  | split (o a : Nat)
  | save (s o : Nat)
  | dead
def Mov.leaf : Mov → Bool
  | .rune _ => true
  | .mat => true
  | _ => false
abbrev Vis := Nat → Bool
def Vis.add (V : Vis) (i : Nat) : Vis := fun j => if j = i then true else V j
abbrev Wt := Nat → Vis
def Wt.lay (W : Wt) (a : Nat) (V : Vis) : Wt := fun b => if b = a then V else W b
section
variable (mv : Nat → Nat → Mov) (nxt : Nat → Option Nat) (len : Nat)
inductive Ept (at' : Nat) : List Th → Vis → List Th → Vis → Prop
  | nil {V} : Ept at' [] V [] V
  | seen {i t st V L V'} (h : V i = true) (k : Ept at' st V L V') : Ept at' ((i, t) :: st) V L V'
  | leaf {i t st V L V'} (h : V i = false) (hl : (mv at' i).leaf = true) (k : Ept at' st (V.add i) L V') : Ept at' ((i, t) :: st) V ((i, t) :: L) V'
  | go {i t st V L V' o} (h : V i = false) (hm : mv at' i = .go o) (k : Ept at' ((o, t) :: st) (V.add i) L V') : Ept at' ((i, t) :: st) V L V'
  | split {i t st V L V' o a} (h : V i = false) (hm : mv at' i = .split o a) (k : Ept at' ((o, t) :: (a, t) :: st) (V.add i) L V') : Ept at' ((i, t) :: st) V L V'
  | save {i t st V L V' s o} (h : V i = false) (hm : mv at' i = .save s o) (k : Ept at' ((o, (s, at') :: t) :: st) (V.add i) L V') : Ept at' ((i, t) :: st) V L V'
  | dead {i t st V L V'} (h : V i = false) (hm : mv at' i = .dead) (k : Ept at' st (V.add i) L V') : Ept at' ((i, t) :: st) V L V'
def nL (at' : Nat) (L : List Th) : List Th := L.filterMap fun x => match mv at' x.1 with | .rune (some o) => some (o, x.2) | _ => none
def first (at' : Nat) (L : List Th) : Option nT := (L.find? fun x => match mv at' x.1 with | .mat => true | _ => false).map (·.2)
def Mov.isMat : Mov → Bool
  | .mat => true
  | _ => false
def Mov.outs : Mov → Option Nat
  | .rune o => o
  | _ => none
theorem CU (at' : Nat) (L : List Th) : first mv at' L = (L.find? fun x => (mv at' x.1).isMat).map (·.2) := by
  unfold first
  congr 2
theorem GJ (at' : Nat) (d : Th) : nL mv at' [d] = ((mv at' d.1).outs.map fun o => (o, d.2)).toList := by
  unfold nL
  simp only [List.filterMap_cons, List.filterMap_nil]
  cases h : mv at' d.1 with
  | rune o => cases o <;> simp [Mov.outs]
  | mat => simp [Mov.outs]
  | go o => simp [Mov.outs]
  | split o b => simp [Mov.outs]
  | save a o => simp [Mov.outs]
  | dead => simp [Mov.outs]
inductive Pk : Nat → List Th → Wt → Option nT → Wt → Prop
  | last {a E W L V'} (h : a = len) (k : Ept mv a E (W a) L V') : Pk a E W (first mv a L) (W.lay a V')
  | stop {a E W L V'} (h : a ≠ len) (hn : nxt a = none) (k : Ept mv a E (W a) L V') : Pk a E W none (W.lay a V')
  | next {a b E W L V' r W'} (h : a ≠ len) (hn : nxt a = some b) (k : Ept mv a E (W a) L V') (p : Pk b (nL mv a L) W r W') : Pk a E W r (W'.lay a V')
variable {mv nxt len}
theorem Ept.app {a : Nat} {s1 s2 L1 L2 : List Th} {V V1 V2 : Vis} (h : Ept mv a s1 V L1 V1) (k : Ept mv a s2 V1 L2 V2) : Ept mv a (s1 ++ s2) V (L1 ++ L2) V2 := by
  induction h with
  | nil => exact k
  | seen h _ ih => exact .seen h (ih k)
  | leaf h hl _ ih => exact .leaf h hl (ih k)
  | go h hm _ ih => exact .go h hm (ih k)
  | split h hm _ ih => exact .split h hm (ih k)
  | save h hm _ ih => exact .save h hm (ih k)
  | dead h hm _ ih => exact .dead h hm (ih k)
theorem YH (a : Nat) (L1 L2 : List Th) : nL mv a (L1 ++ L2) = nL mv a L1 ++ nL mv a L2 := by simp [nL]
end
end Go.Proofs.YtidpigbinpaaeaaGreat
namespace Go.Proofs.YtidpigbinpaaeaaGreat
open Go.RowKit Go.W
abbrev Inst := In
abbrev RRange : Rel (Int × Int) := RRg
theorem RRange.pers : RRange.Pers := RRg.pers
theorem RRange.fresh : RRange.Fresh := RRg.fresh
structure Inst.Ok (c : Inst) : Prop where
  op : -9223372036854775808 ≤ c.op ∧ c.op ≤ 9223372036854775807
  out : -9223372036854775808 ≤ c.out ∧ c.out ≤ 9223372036854775807
  alt : -9223372036854775808 ≤ c.alt ∧ c.alt ≤ 9223372036854775807
  arg : -9223372036854775808 ≤ c.arg ∧ c.arg ≤ 9223372036854775807
  len : c.rs.length * 8 ≤ 140737488355328
def RInst : Rel Inst := fun X w vs d => Inst.Ok d ∧ ∃ rv, vs = [.int .i64 d.op, .int .i64 d.out, .int .i64 d.alt, .int .i64 d.arg, rv] ∧ RSl 2 RRange X w rv d.rs
theorem RInst.fresh : RInst.Fresh := fun _ _ _ _ _ hy ⟨h0, rv, hv, h⟩ => ⟨h0, rv, hv, h.fresh (by decide) RRange.fresh hy⟩
theorem RInst.pers : RInst.Pers := fun _ _ _ _ _ he ⟨h0, rv, hv, h⟩ => ⟨h0, rv, hv, h.evo RRange.pers he⟩
def zV (c : Inst) (n g : Int) : Prop := 1 ≤ c.op ∧ c.op ≤ 11 ∧ ((c.op = 1 ∨ c.op = 11) → c.out = 0) ∧ (¬ (c.op = 1 ∨ c.op = 11) → 0 ≤ c.out ∧ c.out < n) ∧ (c.op = 3 → 0 ≤ c.alt ∧ c.alt < n) ∧ (c.op ≠ 3 → c.alt = 0) ∧
  (c.op = 4 → 2 ≤ c.arg ∧ c.arg ≤ 2 * g + 1) ∧ (c.op = 9 → c.arg = 0 ∨ c.arg = 1) ∧ (c.op ≠ 4 ∧ c.op ≠ 9 → c.arg = 0) ∧ (c.op = 2 ↔ 0 < (c.rs.length : Int))
def RsUp (rs : List (Int × Int)) (k : Nat) : Prop := ∀ i (h : i < rs.length), i < k → 0 ≤ rs[i].1 ∧ rs[i].1 ≤ rs[i].2 ∧ rs[i].2 ≤ 1114111 ∧ ∀ _h0 : 0 < i, rs[i - 1].2 < rs[i].1
def nW (c : Inst) (n g : Int) : Prop := zV c n g ∧ RsUp c.rs c.rs.length
structure Prg where
  insts : List Inst
  start : Int
  groups : Int
  names : List ByteArray
structure Prg.Ok (p : Prg) : Prop where
  start : -9223372036854775808 ≤ p.start ∧ p.start ≤ 9223372036854775807
  groups : -9223372036854775808 ≤ p.groups ∧ p.groups ≤ 9223372036854775807
  ilen : p.insts.length * 56 ≤ 140737488355328
  nlen : p.names.length * 16 ≤ 140737488355328
def RPrg : Rel Prg := fun X w vs d => d.Ok ∧ ∃ iv nv, vs = [iv, .int .i64 d.start, .int .i64 d.groups, nv] ∧ RSl 5 RInst X w iv d.insts ∧ RSl 1 RStr X w nv d.names
def HeadOk (p : Prg) : Prop := 1 ≤ (p.insts.length : Int) ∧ (p.insts.length : Int) ≤ 10000 ∧ 0 ≤ p.start ∧ p.start < (p.insts.length : Int) ∧ 0 ≤ p.groups ∧ p.groups ≤ 100 ∧ (p.names.length : Int) = p.groups
def SoundUp (p : Prg) (k : Nat) : Prop := ∀ i (h : i < p.insts.length), i < k → nW p.insts[i] p.insts.length p.groups
def sU (p : Prg) : Prop := HeadOk p ∧ SoundUp p p.insts.length
theorem rsup_of {l : List (Int × Int)} (h : RangesOk l) : RsUp l l.length := by
  obtain ⟨h1, -⟩ := h
  intro i hi _
  obtain ⟨a, b, c, d⟩ := h1 i hi
  exact ⟨a, b, c, fun h0 => by have := d (i - 1) (by omega) (by omega); omega⟩
theorem rinst_of {X : List Nat} {w : World} {vs : List Value} {c : In} {n g : Int} (h : RIn X w vs c) (hs : nW c n g) (hn : n ≤ 10000) (hg : 0 ≤ g ∧ g ≤ 100) : RInst X w vs c := by
  obtain ⟨vr, rfl, h1, h2⟩ := h
  obtain ⟨⟨n1, n2, n3, n4, n5, n6, n7, n8, n9, n10⟩, -⟩ := hs
  refine ⟨⟨by omega, ?_, ?_, ?_, by omega⟩, vr, rfl, h1⟩
  · by_cases e : c.op = 1 ∨ c.op = 11
    · rw [n3 e]; omega
    · have := n4 e; omega
  · by_cases e : c.op = 3
    · have := n5 e; omega
    · rw [n6 e]; omega
  · by_cases e : c.op = 4
    · have := n7 e; omega
    · by_cases e9 : c.op = 9
      · have := n8 e9; omega
      · rw [n9 ⟨e, e9⟩]; omega
end Go.Proofs.YtidpigbinpaaeaaGreat
namespace Go.Proofs.YtidpigbinpaaeaaGreat
open Go.RowKit Go.W
attribute [local irreducible] Decidable.decide
theorem nG : dA Tryz.prog 123 0 = some 0 := by kernel_rfl
theorem kW : dA Tryz.prog 123 3 = some 3 := by kernel_rfl
theorem EW : dA Tryz.prog 128 1 = some 4 := by kernel_rfl
theorem sO : cX Tryz.prog 103 := ⟨_, Tryz.func103, by kernel_rfl, by kernel_rfl⟩
def eS (c : Int) : Prop := c = 95 ∨ (48 ≤ c ∧ c ≤ 57) ∨ (97 ≤ c ∧ c ≤ 122) ∨ (65 ≤ c ∧ c ≤ 90)
instance (c : Int) : Decidable (eS c) := by unfold eS; infer_instance
def mC (s : ByteArray) (i : Int) : Prop := 0 ≤ i ∧ i < s.size ∧ eS (sb s i.toNat)
instance (s : ByteArray) (i : Int) : Decidable (mC s i) := by unfold mC; infer_instance
theorem oS {s : ByteArray} {a : Nat} (h : a < s.size) : mC s a ↔ eS (sb s a) := ⟨fun h => by have := h.2.2; simpa using this, fun k => ⟨by omega, by omega, by simpa using k⟩⟩
def gW (op arg : Int) (s : ByteArray) (a : Nat) : Prop :=
  (op = 5 ∧ a = 0) ∨ (op = 6 ∧ a = s.size) ∨ (op = 7 ∧ (a = 0 ∨ sb s (a - 1) = 10)) ∨ (op = 8 ∧ (a = s.size ∨ sb s a = 10)) ∨ (op = 9 ∧ (¬ (mC s ((a : Int) - 1) ↔ mC s a) ↔ arg = 0)) ∨ op = 10
instance (op arg : Int) (s : ByteArray) (a : Nat) : Decidable (gW op arg s a) := by unfold gW; infer_instance
def qT (r : Int) (rs : List (Int × Int)) : Prop := ∃ q, q ∈ rs ∧ q.1 ≤ r ∧ r ≤ q.2
instance (r : Int) (rs : List (Int × Int)) : Decidable (qT r rs) := by unfold qT; infer_instance
theorem stands_5 {arg : Int} {s : ByteArray} {a : Nat} : gW 5 arg s a ↔ a = 0 := by simp [gW]
theorem stands_6 {arg : Int} {s : ByteArray} {a : Nat} : gW 6 arg s a ↔ a = s.size := by simp [gW]
theorem MQ {arg : Int} {s : ByteArray} {a : Nat} : gW 7 arg s a ↔ (a = 0 ∨ sb s (a - 1) = 10) := by simp [gW]
theorem MP {arg : Int} {s : ByteArray} {a : Nat} : gW 8 arg s a ↔ (a = s.size ∨ sb s a = 10) := by simp [gW]
theorem stands_9 {arg : Int} {s : ByteArray} {a : Nat} : gW 9 arg s a ↔ (¬ (mC s ((a : Int) - 1) ↔ mC s a) ↔ arg = 0) := by simp only [gW]; simp
theorem stands_o {op arg : Int} {s : ByteArray} {a : Nat} (h5 : op ≠ 5) (h6 : op ≠ 6) (h7 : op ≠ 7) (h8 : op ≠ 8) (h9 : op ≠ 9) : gW op arg s a ↔ op = 10 := by simp [gW, h5, h6, h7, h8, h9]
theorem tD {w : World} (c : Int) : Calls Tryz.prog 103 #[.int .u8 c] w (Ret fun v w' => v = .bool (decide (eS c)) ∧ Evo [] w w') := by
  refine aT (N := 29) Tryz.func103 rfl rfl rfl ?_; refine csr (wan (csr (aB (wel ?_)))); refine aB (bF (t := 5) rfl (fun J => ?_) (fun J => ?_))
  ·refine aN (aN (aN (dT ?_))); refine dT ?_; refine aN (bW (aB (aN (aN (aN (dT ?_)))))); refine dT ?_; refine aN (bW (aB (aN (aN (aN (dT ?_)))))); refine dT ?_; refine aN (bW (wan (aH (br1 ?_))))
   exact ⟨congrArg Value.bool (by first | exact decide_eq_decide.2 (by unfold eS; omega) | exact (decide_eq_true (by unfold eS; omega)).symm | exact (decide_eq_false (by unfold eS; omega)).symm), (Evo.refl [] w)⟩
  refine aS (aB (aS (aC (dV rfl rfl) ?_))); refine aS (aB (bF (t := 8) rfl (fun L => ?_) (fun L => ?_)))
  ·refine aS (aB (aS (aC (eH rfl rfl) ?_))); refine aS (bW (bM (aB (bF (t := 13) rfl (fun I => ?_) (fun I => ?_)))))
   ·refine aN (aN (aN (dT ?_))); refine dT ?_; refine aN (bW (aB (aN (aN (aN (dT ?_)))))); refine dT ?_; refine aN (bW (wan (aH (br1 ?_))))
    exact ⟨congrArg Value.bool (by first | exact decide_eq_decide.2 (by unfold eS; omega) | exact (decide_eq_true (by unfold eS; omega)).symm | exact (decide_eq_false (by unfold eS; omega)).symm), (Evo.refl [] w)⟩
   refine aS (aB (aS (aC (dV rfl rfl) ?_))); refine aS (aB (bF (t := 16) rfl (fun E => ?_) (fun E => ?_)))
   ·refine aS (aB (aS (aC (eH rfl rfl) ?_))); refine aS (bW (bM (aB (bF (t := 21) rfl (fun H => ?_) (fun H => ?_)))))
    ·refine aN (aN (aN (dT ?_))); refine dT ?_; refine aN (bW (wan (aH (br1 ?_))))
     exact ⟨congrArg Value.bool (by first | exact decide_eq_decide.2 (by unfold eS; omega) | exact (decide_eq_true (by unfold eS; omega)).symm | exact (decide_eq_false (by unfold eS; omega)).symm), (Evo.refl [] w)⟩
    refine aS (aB (aS (aC (dV rfl rfl) ?_))); refine aS (aB (bF (t := 24) rfl (fun A => ?_) (fun A => ?_)))
    ·refine aS (aB (aS (aC (eH rfl rfl) ?_))); refine aS (bW (bM (wan (aH (br1 ?_)))))
     exact ⟨congrArg Value.bool (by first | exact decide_eq_decide.2 (by unfold eS; omega) | exact (decide_eq_true (by unfold eS; omega)).symm | exact (decide_eq_false (by unfold eS; omega)).symm), (Evo.refl [] w)⟩
    refine aN (aN (aS (bM (bM (wan (aH (br1 ?_)))))))
    exact ⟨congrArg Value.bool (by first | exact decide_eq_decide.2 (by unfold eS; omega) | exact (decide_eq_true (by unfold eS; omega)).symm | exact (decide_eq_false (by unfold eS; omega)).symm), (Evo.refl [] w)⟩
   refine aN (aN (aS (bM (bM (aB (aS (aB (aS (aC (dV rfl rfl) ?_))))))))); refine aS (aB (bF (t := 24) rfl (fun A => ?_) (fun A => ?_)))
   ·refine aS (aB (aS (aC (eH rfl rfl) ?_))); refine aS (bW (bM (wan (aH (br1 ?_)))))
    exact ⟨congrArg Value.bool (by first | exact decide_eq_decide.2 (by unfold eS; omega) | exact (decide_eq_true (by unfold eS; omega)).symm | exact (decide_eq_false (by unfold eS; omega)).symm), (Evo.refl [] w)⟩
   refine aN (aN (aS (bM (bM (wan (aH (br1 ?_)))))))
   exact ⟨congrArg Value.bool (by first | exact decide_eq_decide.2 (by unfold eS; omega) | exact (decide_eq_true (by unfold eS; omega)).symm | exact (decide_eq_false (by unfold eS; omega)).symm), (Evo.refl [] w)⟩
  refine aN (aN (aS (bM (bM (aB (aS (aB (aS (aC (dV rfl rfl) ?_))))))))); refine aS (aB (bF (t := 16) rfl (fun E => ?_) (fun E => ?_)))
  ·refine aS (aB (aS (aC (eH rfl rfl) ?_))); refine aS (bW (bM (aB (bF (t := 21) rfl (fun H => ?_) (fun H => ?_)))))
   ·refine aN (aN (aN (dT ?_))); refine dT ?_; refine aN (bW (wan (aH (br1 ?_))))
    exact ⟨congrArg Value.bool (by first | exact decide_eq_decide.2 (by unfold eS; omega) | exact (decide_eq_true (by unfold eS; omega)).symm | exact (decide_eq_false (by unfold eS; omega)).symm), (Evo.refl [] w)⟩
   refine aS (aB (aS (aC (dV rfl rfl) ?_))); refine aS (aB (bF (t := 24) rfl (fun A => ?_) (fun A => ?_)))
   ·refine aS (aB (aS (aC (eH rfl rfl) ?_))); refine aS (bW (bM (wan (aH (br1 ?_)))))
    exact ⟨congrArg Value.bool (by first | exact decide_eq_decide.2 (by unfold eS; omega) | exact (decide_eq_true (by unfold eS; omega)).symm | exact (decide_eq_false (by unfold eS; omega)).symm), (Evo.refl [] w)⟩
   refine aN (aN (aS (bM (bM (wan (aH (br1 ?_)))))))
   exact ⟨congrArg Value.bool (by first | exact decide_eq_decide.2 (by unfold eS; omega) | exact (decide_eq_true (by unfold eS; omega)).symm | exact (decide_eq_false (by unfold eS; omega)).symm), (Evo.refl [] w)⟩
  refine aN (aN (aS (bM (bM (aB (aS (aB (aS (aC (dV rfl rfl) ?_))))))))); refine aS (aB (bF (t := 24) rfl (fun A => ?_) (fun A => ?_)))
  ·refine aS (aB (aS (aC (eH rfl rfl) ?_))); refine aS (bW (bM (wan (aH (br1 ?_)))))
   exact ⟨congrArg Value.bool (by first | exact decide_eq_decide.2 (by unfold eS; omega) | exact (decide_eq_true (by unfold eS; omega)).symm | exact (decide_eq_false (by unfold eS; omega)).symm), (Evo.refl [] w)⟩
  refine aN (aN (aS (bM (bM (wan (aH (br1 ?_)))))))
  exact ⟨congrArg Value.bool (by first | exact decide_eq_decide.2 (by unfold eS; omega) | exact (decide_eq_true (by unfold eS; omega)).symm | exact (decide_eq_false (by unfold eS; omega)).symm), (Evo.refl [] w)⟩
theorem uL {s : ByteArray} {a : Nat} (h : 0 < a) (h2 : a ≤ s.size) : mC s ((a : Int) - 1) ↔ eS (sb s (a - 1)) := by
  have := oS (s := s) (a := a - 1) (by omega)
  rwa [show (((a - 1 : Nat) : Nat) : Int) = (a : Int) - 1 from by omega] at this
theorem st9 {s : ByteArray} {a : Nat} {arg : Int} (b1 b2 : Bool) (h1 : b1 = decide (mC s ((a : Int) - 1))) (h2 : b2 = decide (mC s a)) : ((!(b1 == b2)) == decide (arg = 0)) = decide (gW 9 arg s a) := by
  subst h1 h2
  have hst := stands_9 (arg := arg) (s := s) (a := a)
  by_cases h1 : mC s ((a : Int) - 1) <;> by_cases h2 : mC s a <;> by_cases h3 : arg = 0 <;> simp [h1, h2, h3] at hst ⊢ <;> simp [hst]
theorem holds_ok {w : World} {bm : Nat} {U : TypeId} {c0 c1 c2 c3 c5 c6 rv : Value} (op out alt arg : Int) (s : ByteArray) (a : Nat) (a6 : w.heap[bm]? = some (.cells #[c0, c1, c2, c3, .string s, c5, c6] U (0, 0))) (ha : a ≤ s.size) (hl : s.size ≤ 140737488355328) : Calls Tryz.prog 86 #[.pointer (some ⟨bm, 0, none⟩), .agg #[.int .i64 op, .int .i64 out, .int .i64 alt, .int .i64 arg, rv], .int .i64 (a : Nat)] w (Ret fun v w' => v = .bool (decide (gW op arg s a)) ∧ Evo [] w w') := by
  refine aT (N := 79) Tryz.func86 rfl rfl rfl ?_; refine csr (fT rfl rfl fun b1 w2 L a7 a2 => ?_); have A := (Evo.refl [] w).then a2; refine wan (csr (aB (aC (aG rfl) (wfl rfl EW rfl cZ (a2.blk0 a6) rfl (wan (aI (csr (wfl rfl nG rfl aX L rfl ?_)))))))); refine wnn (bC (csr (wel ?_))); refine wan (bA rfl (fun M => ?_) (fun M => ?_))
  ·refine csr (wan (aH (aM (aE (br1 ?_))))); subst M; exact ⟨congrArg Value.bool (decide_eq_true (by simp [gW])).symm, A⟩
  refine csr (wel ?_); refine wan (bA rfl (fun O => ?_) (fun O => ?_))
  ·refine csr (aB (wel ?_)); refine wan (aH (aM (aE (br1 ?_)))); subst O; have hst := stands_5 (arg := arg) (s := s) (a := a)
   exact ⟨congrArg Value.bool (by first | exact decide_eq_decide.2 (by rw [hst]; omega) | exact (decide_eq_true (by rw [hst]; omega)).symm | exact (decide_eq_false (by rw [hst]; omega)).symm), A⟩
  refine csr (wel ?_); refine wan (bA rfl (fun V => ?_) (fun V => ?_))
  ·refine csr (aB (aB (aC (cD rfl Tryz.underlying9 rfl) ?_))); refine wel ?_; refine wan (aH (aM (aE (br1 ?_)))); subst V; have hst := stands_6 (arg := arg) (s := s) (a := a)
   exact ⟨congrArg Value.bool (by first | exact decide_eq_decide.2 (by rw [hst]; omega) | exact (decide_eq_true (by rw [hst]; omega)).symm | exact (decide_eq_false (by rw [hst]; omega)).symm), A⟩
  refine csr (wel ?_); refine wan (bA rfl (fun H => ?_) (fun H => ?_))
  ·refine csr (aB (wel ?_)); refine aB (bF (t := 32) rfl (fun a3 => ?_) (fun a3 => ?_))
   ·refine aN (aN (aN (aN (aN (bW (wan (aH (aM (aE (br1 ?_)))))))))); subst H; have hst := MQ (arg := arg) (s := s) (a := a)
    exact ⟨congrArg Value.bool (by first | exact decide_eq_decide.2 (by rw [hst]; omega) | exact (decide_eq_true (by rw [hst]; omega)).symm | exact (decide_eq_false (by rw [hst]; omega)).symm), A⟩
   refine aS (aB (aS (aB (aS ?_)))); refine aC (dG rfl rfl (by omega) (by omega)) ?_; refine aS ?_; refine aC (eD (n := a - 1) rfl rfl Tryz.underlying9 (by omega) (by omega)) ?_; refine aS (wel ?_); refine bM (wan (aH (aM (aE (br1 ?_))))); subst H; have hst := MQ (arg := arg) (s := s) (a := a)
   exact ⟨congrArg Value.bool (by first | exact decide_eq_decide.2 (by rw [hst]; omega) | exact (decide_eq_true (by rw [hst]; omega)).symm | exact (decide_eq_false (by rw [hst]; omega)).symm), A⟩
  refine csr (wel ?_); refine wan (bA rfl (fun I => ?_) (fun I => ?_))
  ·refine csr (aB (aB (aC (cD rfl Tryz.underlying9 rfl) ?_))); refine wel ?_; refine aB (bF (t := 45) rfl (fun a4 => ?_) (fun a4 => ?_))
   ·refine aN (aN (aN (aN (bW (wan (aH (aM (aE (br1 ?_))))))))); subst I; have hst := MP (arg := arg) (s := s) (a := a)
    exact ⟨congrArg Value.bool (by first | exact decide_eq_decide.2 (by rw [hst]; omega) | exact (decide_eq_true (by rw [hst]; omega)).symm | exact (decide_eq_false (by rw [hst]; omega)).symm), A⟩
   refine aS (aB (aS (aB (aS ?_)))); refine aC (eD (n := a) rfl rfl Tryz.underlying9 rfl (by omega)) ?_; refine aS (wel ?_); refine bM (wan (aH (aM (aE (br1 ?_))))); subst I; have hst := MP (arg := arg) (s := s) (a := a)
   exact ⟨congrArg Value.bool (by first | exact decide_eq_decide.2 (by rw [hst]; omega) | exact (decide_eq_true (by rw [hst]; omega)).symm | exact (decide_eq_false (by rw [hst]; omega)).symm), A⟩
  refine csr (wel ?_); refine wan (bA rfl (fun E => ?_) (fun E => ?_))
  ·refine csr (aB (aC (gF rfl rfl) ?_)); refine aB (bF (t := 55) rfl (fun a5 => ?_) (fun a5 => ?_))
   ·refine aS (aB (aS (aB (aS ?_)))); refine aC (dG rfl rfl (by omega) (by omega)) ?_; refine aS ?_; refine aC (eD (n := a - 1) rfl rfl Tryz.underlying9 (by omega) (by omega)) ?_; refine aS (aJ (vs := [_]) sO rfl (tD _) rfl ?_); rintro _ a8 ⟨rfl, J⟩; refine bW (aB (aB (aC (cD rfl Tryz.underlying9 rfl) ?_))); refine aC (cP rfl rfl) ?_; refine aB (bF (t := 66) rfl (fun W => ?_) (fun W => ?_))
    ·refine aS (aB (aS (aB (aS ?_)))); refine aC (eD (n := a) rfl rfl Tryz.underlying9 rfl (by omega)) ?_; refine aS (aJ (vs := [_]) sO rfl (tD _) rfl ?_); rintro _ a9 ⟨rfl, a0⟩; refine bW (bR (wan (csr (aB (aB (aC (AQ rfl rfl Tryz.underlying4) ?_)))))); refine wfl rfl kW rfl aX (a0.blk0 (J.blk0 L)) rfl (wel ?_); refine aC (CY rfl rfl Tryz.underlying4) ?_; refine wan (aH (aM (aE (br1 ?_)))); subst E
     exact ⟨congrArg Value.bool (st9 _ _ (by first | exact decide_eq_decide.2 (uL (by omega) (by omega)).symm | exact (decide_eq_false (fun h => by have := h.1; omega)).symm) (by first | exact decide_eq_decide.2 (oS (by omega)).symm | exact (decide_eq_false (fun h => by have := h.2.1; omega)).symm)), ((A.then J).then a0)⟩
    refine aN (aN (aN (aN (bM (bR (wan (csr (aB (aB (aC (AQ rfl rfl Tryz.underlying4) ?_)))))))))); refine wfl rfl kW rfl aX (J.blk0 L) rfl (wel ?_); refine aC (CY rfl rfl Tryz.underlying4) ?_; refine wan (aH (aM (aE (br1 ?_)))); subst E
    exact ⟨congrArg Value.bool (st9 _ _ (by first | exact decide_eq_decide.2 (uL (by omega) (by omega)).symm | exact (decide_eq_false (fun h => by have := h.1; omega)).symm) (by first | exact decide_eq_decide.2 (oS (by omega)).symm | exact (decide_eq_false (fun h => by have := h.2.1; omega)).symm)), (A.then J)⟩
   refine aN (aN (aN (aN (aN (bM (aB (aB (aC (cD rfl Tryz.underlying9 rfl) ?_)))))))); refine aC (cP rfl rfl) ?_; refine aB (bF (t := 66) rfl (fun W => ?_) (fun W => ?_))
   ·refine aS (aB (aS (aB (aS ?_)))); refine aC (eD (n := a) rfl rfl Tryz.underlying9 rfl (by omega)) ?_; refine aS (aJ (vs := [_]) sO rfl (tD _) rfl ?_); rintro _ b4 ⟨rfl, a1⟩; refine bW (bR (wan (csr (aB (aB (aC (AQ rfl rfl Tryz.underlying4) ?_)))))); refine wfl rfl kW rfl aX (a1.blk0 L) rfl (wel ?_); refine aC (CY rfl rfl Tryz.underlying4) ?_; refine wan (aH (aM (aE (br1 ?_)))); subst E
    exact ⟨congrArg Value.bool (st9 _ _ (by first | exact decide_eq_decide.2 (uL (by omega) (by omega)).symm | exact (decide_eq_false (fun h => by have := h.1; omega)).symm) (by first | exact decide_eq_decide.2 (oS (by omega)).symm | exact (decide_eq_false (fun h => by have := h.2.1; omega)).symm)), (A.then a1)⟩
   refine aN (aN (aN (aN (bM (bR (wan (csr (aB (aB (aC (AQ rfl rfl Tryz.underlying4) ?_)))))))))); refine wfl rfl kW rfl aX L rfl (wel ?_); refine aC (CY rfl rfl Tryz.underlying4) ?_; refine wan (aH (aM (aE (br1 ?_)))); subst E
   exact ⟨congrArg Value.bool (st9 _ _ (by first | exact decide_eq_decide.2 (uL (by omega) (by omega)).symm | exact (decide_eq_false (fun h => by have := h.1; omega)).symm) (by first | exact decide_eq_decide.2 (oS (by omega)).symm | exact (decide_eq_false (fun h => by have := h.2.1; omega)).symm)), A⟩
  refine aL (aO (aA (csr (wan (aH (br1 ?_)))))); have hst := stands_o (arg := arg) (s := s) (a := a) O V H I E; exact ⟨congrArg Value.bool (decide_eq_false (fun h => M (hst.1 h))).symm, A⟩
end Go.Proofs.YtidpigbinpaaeaaGreat
namespace Go.Proofs.YtidpigbinpaaeaaGreat
open Go.W
def mvI (c : Inst) (s : ByteArray) (a : Nat) : Mov :=
  if c.op = 1 then .mat
  else if c.op = 2 then .rune (if qT (bQ s a).1 c.rs then some c.out.toNat else none)
  else if c.op = 3 then .split c.out.toNat c.alt.toNat
  else if c.op = 4 then .save c.arg.toNat c.out.toNat
  else if gW c.op c.arg s a then .go c.out.toNat else .dead
def fY (p : Prg) (s : ByteArray) (a i : Nat) : Mov := match p.insts[i]? with | none => .dead | some c => mvI c s a
theorem IT {p : Prg} {s : ByteArray} {a i : Nat} (h : i < p.insts.length) : fY p s a i = mvI p.insts[i] s a := by simp [fY, h]
def jT (s : ByteArray) (a : Nat) : Option Nat := if 0 < (bQ s a).2 then some (a + (bQ s a).2) else none
theorem nxt_up (s : ByteArray) : ∀ a b, jT s a = some b → a < b := fun a b h => by
  unfold jT at h
  split at h
  · cases h; omega
  · cases h
theorem nxt_le (s : ByteArray) : ∀ a b, jT s a = some b → b ≤ s.size := fun a b h => by
  unfold jT at h
  split at h
  · rename_i hp
    cases h
    rcases mP s a with h1 | h1
    · rw [h1] at hp; exact absurd hp (by simp)
    · omega
  · cases h
theorem next_w (s : ByteArray) (a : Nat) : (bQ s a).2 = 0 ∨ (1 ≤ (bQ s a).2 ∧ (bQ s a).2 ≤ 4 ∧ a + (bQ s a).2 ≤ s.size) := by
  rcases mP s a with h1 | h1
  · left; rw [h1]
  · exact .inr h1.2.2
theorem BX {s : ByteArray} {a : Nat} (h : 0 < (bQ s a).2) : jT s a = some (a + (bQ s a).2) := by unfold jT; rw [if_pos h]
theorem nxt_none {s : ByteArray} {a : Nat} (h : (bQ s a).2 = 0) : jT s a = none := by unfold jT; rw [if_neg (by omega)]
theorem TS {f g : Nat → Bool} {k : Nat} (hf : f k = true) (hg : g k = false) (he : ∀ j, j ≠ k → g j = f j) : ∀ {M : Nat}, k < M → (List.range M).countP g + 1 = (List.range M).countP f := by
  intro M
  induction M with
  | zero => intro h; omega
  | succ M ih =>
    intro h
    rw [List.range_succ, List.countP_append, List.countP_append]
    by_cases e : k = M
    · subst e
      have : (List.range k).countP g = (List.range k).countP f := List.countP_congr fun j hj => by rw [he j (by simp at hj; omega)]
      simp [this, hf, hg]
    · have := ih (by omega)
      rw [List.countP_singleton, List.countP_singleton, he M (by omega)]
      omega
inductive RNote (X : List Nat) (w : World) : Value → nT → Prop
  | nil : RNote X w (.pointer none) []
  | cons {b k a : Nat} {v : Value} {t : nT} (hx : b ∉ X) (hb : w.heap[b]? = some (.cells #[iv k, iv a, v] 148 (0, 0))) (h : RNote X w v t) : RNote X w (.pointer (some ⟨b, 0, none⟩)) ((k, a) :: t)
theorem RNote.evo {X : List Nat} {w w' : World} {v : Value} {t : nT} (h : RNote X w v t) (he : Evo X w w') : RNote X w' v t := by
  induction h with
  | nil => exact .nil
  | cons hx hb _ ih => exact .cons hx (he.blk hb hx) ih
theorem RNote.fresh {X Y : List Nat} {w : World} {v : Value} {t : nT} (h : RNote X w v t) (hy : ∀ y, y ∈ Y → y ∈ X ∨ w.heap.size ≤ y) : RNote Y w v t := by
  induction h with
  | nil => exact .nil
  | cons hx hb _ ih => exact .cons (fun hm => by rcases hy _ hm with h1 | h1; { exact hx h1 }; { have := dK hb; omega }) hb ih
theorem RNote.step {X X' : List Nat} {w w' : World} {v : Value} {t : nT} (h : RNote X w v t) (he : Evo X w w') (hx : ∀ y, y ∈ X' → y ∈ X ∨ w.heap.size ≤ y) : RNote X' w' v t :=
  ((h.fresh (Y := X ++ X') (fun y hy => by rcases List.mem_append.1 hy with h | h; { exact .inl h }; { exact hx y h })).evo (he.mono (fun b hb => List.mem_append_left _ hb))).fresh (fun y hy => .inl (List.mem_append_right _ hy))
theorem RNote.one {X : List Nat} {w : World} {v : Value} {t : nT} (h : RNote X w v t) : v.oneCell' = true := by cases h <;> rfl
theorem RNote.ptr {X : List Nat} {w : World} {v : Value} {t : nT} (h : RNote X w v t) : ∃ q, v = .pointer q := by cases h <;> exact ⟨_, rfl⟩
def RTh : Rel Th := fun X w vs d => ∃ v, vs = [iv d.1, v] ∧ RNote X w v d.2
theorem RTh.pers : RTh.Pers := fun _ _ _ _ _ he ⟨v, hv, h⟩ => ⟨v, hv, h.evo he⟩
theorem RTh.fresh : RTh.Fresh := fun _ _ _ _ _ hy ⟨v, hv, h⟩ => ⟨v, hv, h.fresh hy⟩
theorem dL {X X' : List Nat} {w w' : World} {rows : List (List Value)} {ds : List Th} (h : RowsOk 2 RTh X w rows ds) (he : Evo X w w') (hx : ∀ y, y ∈ X' → y ∈ X ∨ w.heap.size ≤ y) : RowsOk 2 RTh X' w' rows ds :=
  ((h.fresh RTh.fresh (Y := X ++ X') (fun y hy => by rcases List.mem_append.1 hy with h | h; { exact .inl h }; { exact hx y h })).evo RTh.pers (he.mono (fun b hb => List.mem_append_left _ hb))).fresh RTh.fresh (fun y hy => .inl (List.mem_append_right _ hy))
theorem XS {X : List Nat} {w : World} {rows : List (List Value)} {ds : List Th} {d : Th} (h : RowsOk 2 RTh X w rows (ds ++ [d])) : ∃ rows' v, rows = rows' ++ [[iv d.1, v]] ∧ RowsOk 2 RTh X w rows' ds ∧ RNote X w v d.2 := by
  obtain ⟨hl, hr⟩ := h
  simp only [List.length_append, List.length_cons, List.length_nil] at hl
  have h1 := (hr ds.length (by simp) (by omega)).2
  obtain ⟨v, hv, hn⟩ := h1
  simp only [List.getElem_append_right (Nat.le_refl ds.length), Nat.sub_self, List.getElem_cons_zero] at hv hn
  refine ⟨rows.take ds.length, v, ?_, ⟨by simp; omega, fun k h1 h2 => ?_⟩, hn⟩
  · rw [← hv]
    apply List.ext_getElem
    · simp; omega
    · intro j h1 h2
      by_cases hj : j < ds.length
      · rw [List.getElem_append_left (by simp; omega)]; simp
      · have : j = ds.length := by omega
        subst this
        rw [List.getElem_append_right (by simp; omega)]
        simp
  · have := hr k (by simp; omega) (by omega)
    simp only [List.getElem_take]
    rw [List.getElem_append_left h1] at this
    exact this
abbrev XM (bm sb b4 : Nat) (t k : Option Nat) : List Nat := bm :: sb :: b4 :: (t.toList ++ k.toList)
theorem HU {bm sb b4 : Nat} {t k : Option Nat} : ∀ y, y ∈ t.toList → y ∈ XM bm sb b4 t k := fun y hy => by simp [XM, Option.mem_toList] at hy ⊢; simp [hy]
theorem ED {bm sb b4 : Nat} {t k : Option Nat} : ∀ y, y ∈ k.toList → y ∈ XM bm sb b4 t k := fun y hy => by simp [XM, Option.mem_toList] at hy ⊢; simp [hy]
theorem xm_s {bm sb b4 : Nat} {t k : Option Nat} : ∀ y, y ∈ bm :: sb :: t.toList → y ∈ XM bm sb b4 t k := fun y hy => by
  simp only [XM, List.mem_cons, List.mem_append] at hy ⊢; rcases hy with h | h | h <;> simp [h]
theorem xm_to {bm sb b4 : Nat} {t k t' k' : Option Nat} {w : World} (ht : ∀ y, y ∈ t'.toList → y ∈ XM bm sb b4 t k ∨ w.heap.size ≤ y) (hk : ∀ y, y ∈ k'.toList → y ∈ XM bm sb b4 t k ∨ w.heap.size ≤ y) : ∀ y, y ∈ XM bm sb b4 t' k' → y ∈ XM bm sb b4 t k ∨ w.heap.size ≤ y := fun y hy => by
  rcases List.mem_cons.1 hy with rfl | hy
  · left; simp [XM]
  · rcases List.mem_cons.1 hy with rfl | hy
    · left; simp [XM]
    · rcases List.mem_cons.1 hy with rfl | hy
      · left; simp [XM]
      · rcases List.mem_append.1 hy with h | h
        · exact ht y h
        · exact hk y h
theorem vO {bm sb b4 : Nat} {t k : Option Nat} {w w' : World} (_he : Evo (XM bm sb b4 t k) w w') {t' k' : Option Nat} (ht : ∀ y, y ∈ t'.toList → y ∈ XM bm sb b4 t k ∨ w.heap.size ≤ y) (hk : ∀ y, y ∈ k'.toList → y ∈ XM bm sb b4 t k ∨ w.heap.size ≤ y) : ∀ y, y ∈ XM bm sb b4 t' k' → y ∈ XM bm sb b4 t k ∨ w.heap.size ≤ y := xm_to ht hk
theorem NL {X : List Nat} {w w1 : World} {ob ob' : Option Nat} (hob : ob' = ob ∨ ∃ g, ob' = some g ∧ w1.heap.size ≤ g) (he : Evo X w w1) (h : ∀ y, y ∈ ob.toList → y ∈ X) : ∀ y, y ∈ ob'.toList → y ∈ X ∨ w.heap.size ≤ y := fun y hy => by
  rcases hob with rfl | ⟨g, rfl, hg⟩
  · exact .inl (h y hy)
  · right
    simp at hy
    subst hy
    have := he.size
    omega
theorem ob_in2 {X : List Nat} {w w1 : World} {ob ob' : Option Nat} (hob : ob' = ob ∨ ∃ g, ob' = some g ∧ w1.heap.size ≤ g) (he : Evo X w w1) (h : ∀ y, y ∈ ob.toList → y ∈ X ∨ w.heap.size ≤ y) : ∀ y, y ∈ ob'.toList → y ∈ X ∨ w.heap.size ≤ y := fun y hy => by
  rcases hob with rfl | ⟨g, rfl, hg⟩
  · exact h y hy
  · right
    simp at hy
    subst hy
    have := he.size
    omega
theorem xm_nmem {b bm sb b4 : Nat} {t k : Option Nat} (h1 : Apart (some bm) (some b)) (h2 : Apart (some sb) (some b)) (h3 : Apart (some b4) (some b)) (h4 : Apart t (some b)) (h5 : Apart k (some b)) : b ∉ XM bm sb b4 t k := fun h => by
  rcases List.mem_cons.1 h with rfl | h
  · exact h1 _ rfl rfl
  · rcases List.mem_cons.1 h with rfl | h
    · exact h2 _ rfl rfl
    · rcases List.mem_cons.1 h with rfl | h
      · exact h3 _ rfl rfl
      · rcases List.mem_append.1 h with h | h
        · exact h4 b (by simpa using h) rfl
        · exact h5 b (by simpa using h) rfl
def kG (a : Nat) (sv : Nat → Nat) : Vis := fun j => decide (sv j = a + 1)
def vU (sv : Nat → Nat) (i v : Nat) : Nat → Nat := fun j => if j = i then v else sv j
theorem lK (a i : Nat) (sv : Nat → Nat) : kG a (vU sv i (a + 1)) = (kG a sv).add i := by
  funext j
  simp only [kG, vU, Vis.add]
  by_cases h : j = i <;> simp [h]
def svc (n : Nat) (sv : Nat → Nat) : List Value := (List.range n).map fun j => iv (sv j)
theorem svc_get {n i : Nat} {sv : Nat → Nat} (h : i < n) : (svc n sv)[i]? = some (iv (sv i)) := by simp [svc, h]
theorem svc_set {n i v : Nat} {sv : Nat → Nat} : (svc n sv).set i (iv v) = svc n (vU sv i v) := by
  apply List.ext_getElem?
  intro j
  simp only [svc, List.getElem?_set, List.length_map, List.length_range, List.getElem?_map]
  by_cases hj : j < n
  · by_cases e : i = j
    · subst e; simp [hj, vU]
    · simp [hj, e, vU, Ne.symm e]
  · by_cases e : i = j
    · subst e; simp [hj]
    · simp [hj, e]
theorem svc_zero (n : Nat) : sV #[.int .i64 0] n = svc n (fun _ => 0) := by
  simp only [sV, svc]
  induction n with
  | zero => rfl
  | succ n ih => rw [List.range_succ, List.map_append, ← ih, List.replicate_succ', List.flatten_append]; simp
def us (n a : Nat) (sv : Nat → Nat) : Nat := (List.range n).countP fun j => !(kG a sv j)
theorem us_le (n a : Nat) (sv : Nat → Nat) : us n a sv ≤ n := by
  have := List.countP_le_length (p := fun j => !(kG a sv j)) (l := List.range n)
  simpa [us] using this
theorem us_mark {n a i : Nat} {sv : Nat → Nat} (hi : i < n) (h : kG a sv i = false) : us n a (vU sv i (a + 1)) + 1 = us n a sv := by
  refine TS (k := i) (by simp [h]) (by rw [lK]; simp [Vis.add]) (fun j hj => ?_) hi
  rw [lK]
  simp [Vis.add, hj]
theorem uR {sv : Nat → Nat} {i v : Nat} (h : ∀ j, sv j ≤ v) : ∀ j, vU sv i v j ≤ v := fun j => by
  unfold vU; split
  · exact Nat.le_refl _
  · exact h j
end Go.Proofs.YtidpigbinpaaeaaGreat
namespace Go.Proofs.YtidpigbinpaaeaaGreat
open Go.RowKit Go.W
attribute [local irreducible] Decidable.decide
theorem nS : iN Tryz.prog 126 = some false := by kernel_rfl
theorem nR : iN Tryz.prog 131 = some true := by kernel_rfl
theorem DZ : iN Tryz.prog 37 = some false := by kernel_rfl
theorem sT : iN Tryz.prog 74 = some false := by kernel_rfl
theorem mV : iN Tryz.prog 82 = some false := by kernel_rfl
theorem jE : AA Tryz.prog 126 126 = some (131, 2, 16) := by kernel_rfl
theorem jL : Build Tryz.prog 131 #[(0, 1), (1, 1)] #[.int .i64 0, .pointer none] := ⟨_, .agg #[.int .i64 0, .pointer none], Tryz.underlying131, by kernel_rfl, rfl, fun w => by kernel_rfl⟩
theorem FB : Build Tryz.prog 148 #[(0, 1), (1, 1), (2, 1)] #[.int .i64 0, .int .i64 0, .pointer none] := ⟨_, .agg #[.int .i64 0, .int .i64 0, .pointer none], Tryz.underlying148, by kernel_rfl, rfl, fun w => by kernel_rfl⟩
theorem sR : mA Tryz.prog 126 = some 2 := by kernel_rfl
theorem uJ : mA Tryz.prog 74 = some 5 := by kernel_rfl
theorem EX : dA Tryz.prog 128 0 = some 0 := by kernel_rfl
theorem vI : dA Tryz.prog 128 2 = some 5 := by kernel_rfl
theorem iI : dA Tryz.prog 128 3 = some 6 := by kernel_rfl
theorem kV : dA Tryz.prog 131 0 = some 0 := by kernel_rfl
theorem jJ : dA Tryz.prog 131 1 = some 1 := by kernel_rfl
theorem oK : dA Tryz.prog 76 0 = some 0 := by kernel_rfl
theorem QN : cX Tryz.prog 86 := ⟨_, Tryz.func86, by kernel_rfl, by kernel_rfl⟩
theorem sD : eQ Tryz.prog 126 = some 1 := by kernel_rfl
theorem gL : eQ Tryz.prog 131 = some 2 := by kernel_rfl
theorem jG : lS Tryz.prog 126 = some (131, 2) := by kernel_rfl
theorem wU : kF Tryz.prog 123 = some #[.int .i64 0, .int .i64 0, .int .i64 0, .int .i64 0, .slice none 0 0] := by kernel_rfl
structure FG where
  stk : List Th
  kr : List (List Value)
  ka : Option Addr
  kc : Nat
  kob : Option Nat
  sv : Nat → Nat
  ls : List Th
  tr : List (List Value)
  ta : Option Addr
  tn : Nat
  tc : Nat
  tob : Option Nat
  va : Value
  vb : Value
theorem two_flat {kr : List (List Value)} {y z : Int} {v : Value} (hy : 0 ≤ y) (hz : 0 ≤ z) : (kr ++ [[iv (y.toNat : Nat), v]] ++ [[iv (z.toNat : Nat), v]]).flatten = kr.flatten ++ [iv y, v, iv z, v] := by
  rw [Int.toNat_of_nonneg hy, Int.toNat_of_nonneg hz]; simp
theorem NK {kr : List (List Value)} {z : Int} {v : Value} (hz : 0 ≤ z) : (kr ++ [[iv (z.toNat : Nat), v]]).flatten = kr.flatten ++ [iv z, v] := by
  rw [Int.toNat_of_nonneg hz]; simp
theorem AD {kr : List (List Value)} {i : Nat} {v : Value} : (kr ++ [[iv (i : Nat), v]]).flatten = kr.flatten ++ [iv i, v] := by simp
theorem WH {p : Prg} {s : ByteArray} {a i0 : Nat} {t0 : nT} {V0 : Vis} {ls stk : List Th} {V : Vis} {d : Th} {stk1 : List Th} {V1 : Vis} (h : ∀ Lx V', Ept (fY p s) a stk V Lx V' → Ept (fY p s) a [(i0, t0)] V0 (ls ++ Lx) V') (k : ∀ Lx V', Ept (fY p s) a stk1 V1 Lx V' → Ept (fY p s) a stk V (d :: Lx) V') :
    ∀ Lx V', Ept (fY p s) a stk1 V1 Lx V' → Ept (fY p s) a [(i0, t0)] V0 ((ls ++ [d]) ++ Lx) V' := fun Lx V' e => by
  rw [List.append_assoc]; exact h _ _ (k Lx V' e)
theorem nm2 {b bw : Nat} {ob : Option Nat} (h1 : Apart (some b) (some bw)) (h2 : Apart (some b) ob) : b ∉ bw :: ob.toList := fun h => by
  rcases List.mem_cons.1 h with h | h
  · exact h1 b rfl (by rw [h])
  · exact h2.nmem h
theorem ob_or {X : List Nat} {w w1 : World} {ob ob' ob0 : Option Nat} (hob : ob' = ob ∨ ∃ g, ob' = some g ∧ w1.heap.size ≤ g) (he : Evo X w w1) (h : ob = ob0 ∨ Ge w ob) : ob' = ob0 ∨ Ge w ob' := by
  rcases hob with rfl | ⟨g, rfl, hg⟩
  · exact h
  · right; intro g' e; cases e; have := he.size; omega
theorem y0 {w : World} {bm sb b4 kb : Nat} {tob0 : Option Nat} (h1 : Ge w (some b4)) (h2 : Ge w (some kb)) : ∀ y, y ∈ XM bm sb b4 tob0 (some kb) → y ∈ bm :: sb :: tob0.toList ∨ w.heap.size ≤ y := fun y hy => by
  rcases List.mem_cons.1 hy with rfl | hy
  · left; simp
  · rcases List.mem_cons.1 hy with rfl | hy
    · left; simp
    · rcases List.mem_cons.1 hy with rfl | hy
      · right; exact h1 _ rfl
      · rcases List.mem_append.1 hy with h | h
        · left; simp [h]
        · right; simp at h; subst h; exact h2 _ rfl
set_option maxHeartbeats 4000000 in
theorem GY {w : World} {bm sb cs i0 a tn0 tc0 : Nat} {iV v1 v2 v3 nv0 : Value} {t0 : nT} {tob0 : Option Nat} {ta0 : Option Addr} {p : Prg} {s : ByteArray} {sv0 : Nat → Nat} {tr0 : List (List Value)} {L0 : List Th}
    (hI : RSl 5 RInst (bm :: sb :: tob0.toList) w iV p.insts) (hsp : sU p) (z8 : w.heap[bm]? = some (.cells #[iV, v1, v2, v3, .string s, .slice (some ⟨sb, 0, none⟩) p.insts.length cs, .slice ta0 tn0 tc0] 128 (0, 0)))
    (hSe0 : OwnS w 3 1 (some ⟨sb, 0, none⟩) p.insts.length cs (svc p.insts.length sv0) (some sb)) (hTh0 : OwnS w 131 2 ta0 tn0 tc0 tr0.flatten tob0) (hTr : RowsOk 2 RTh (bm :: sb :: tob0.toList) w tr0 L0) (hN : RNote (bm :: sb :: tob0.toList) w nv0 t0)
    (hi0 : i0 < p.insts.length) (ha : a ≤ s.size) (hs : s.size ≤ 2097152) (hsv : ∀ j, sv0 j ≤ a + 1) (htn : tn0 + us p.insts.length a sv0 ≤ p.insts.length) (hms : Apart (some bm) (some sb)) (hmt0 : Apart (some bm) tob0) (hst0 : Apart (some sb) tob0) :
    Calls Tryz.prog 57 #[.pointer (some ⟨bm, 0, none⟩), .agg #[iv i0, nv0], iv a] w (Ret fun v w' => ∃ sv ta tn tc tr tob L, v = .tuple #[] ∧ Ept (fY p s) a [(i0, t0)] (kG a sv0) L (kG a sv) ∧ w'.heap[bm]? = some (.cells #[iV, v1, v2, v3, .string s, .slice (some ⟨sb, 0, none⟩) p.insts.length cs, .slice ta tn tc] 128 (0, 0)) ∧
      OwnS w' 3 1 (some ⟨sb, 0, none⟩) p.insts.length cs (svc p.insts.length sv) (some sb) ∧ OwnS w' 131 2 ta tn tc (List.flatten tr) tob ∧ RowsOk 2 RTh (bm :: sb :: tob.toList) w' tr (L0 ++ L) ∧ (∀ j, sv j ≤ a + 1) ∧ tn + us p.insts.length a sv ≤ p.insts.length ∧ Apart (some bm) tob ∧ Apart (some sb) tob ∧ (tob = tob0 ∨ Ge w tob) ∧ Evo (bm :: sb :: tob0.toList) w w') := by
  have H4 := hI; obtain ⟨a3, c3, rfl, hl3, e3⟩ := hI; obtain ⟨hh1, hh2, hh3, hh4, hh5, hh6, hh7⟩ := hsp.1; have hnv0 := hN.one; refine aT (N := 110) Tryz.func57 rfl rfl rfl ?_; refine csr (fT rfl rfl fun bt w1 m0 g0 g9 => ?_); have E2 := g0; have h0 := Apart.new (Lt.blk z8) g0; have z9 := Apart.new (Lt.own hSe0) g0; have E3 := Apart.new (Lt.own hTh0) g0; have m1 := Ge.new (Evo.refl (bm :: sb :: tob0.toList) w) g0; have A0 := (Evo.refl (bm :: sb :: tob0.toList) w).then g9; have m2 := g9.blk0 z8; have m3 := hSe0.evo0 g9; have m4 := hTh0.evo0 g9; refine wnn (csr (aC (bT rfl nR gL m0 rfl) (bL (vs := [_]) rfl jG rfl rfl rfl rfl fun A1 H5 A3 e4 e5 => ?_))); have A4 := Apart.new (Lt.blk m2) e4; have A5 := Apart.new (Lt.own m3) e4; have A6 := Apart.new (Lt.own m4) e4; have A7 := Apart.new (Lt.blk m0) e4; have g1 := Ge.new A0 e4; have g2 := A0.then e5; have A8 := e5.blk0 m2; have A9 := m3.evo0 e5; have B0 := m4.evo0 e5; have B1 := e5.blk0 m0; refine wan (bC ?_)
  refine cN (α := FG) (⟨[(i0, t0)], [[iv i0, nv0]], some ⟨A1, 0, none⟩, 1, some A1, sv0, [], tr0, ta0, tn0, tc0, tob0, iv i0, nv0⟩) (fun x => [(6, .slice x.ka x.stk.length x.kc)]) [(0, _), (2, _), (4, _)] (fun x wr => Evo (bm :: sb :: tob0.toList) w wr ∧ (OwnS wr 131 2 x.ka x.stk.length x.kc x.kr.flatten x.kob ∧ RowsOk 2 RTh (XM bm sb bt x.tob x.kob) wr x.kr x.stk.reverse ∧ OwnS wr 3 1 (some ⟨sb, 0, none⟩) p.insts.length cs (svc p.insts.length x.sv) (some sb) ∧ OwnS wr 131 2 x.ta x.tn x.tc x.tr.flatten x.tob ∧ RowsOk 2 RTh (XM bm sb bt x.tob x.kob) wr x.tr (L0 ++ x.ls) ∧ wr.heap[bm]? = some (.cells #[.slice a3 p.insts.length c3, v1, v2, v3, .string s, .slice (some ⟨sb, 0, none⟩) p.insts.length cs, .slice x.ta x.tn x.tc] 128 (0, 0)) ∧ wr.heap[bt]? = some (.cells #[x.va, x.vb] 131 (0, 0)) ∧ (∀ d, d ∈ x.stk → d.1 < p.insts.length) ∧ 3 * us p.insts.length a x.sv + x.stk.length ≤ 3 * p.insts.length + 1 ∧ x.tn + us p.insts.length a x.sv ≤ p.insts.length ∧ (∀ j, x.sv j ≤ a + 1) ∧ (∀ Lx V', Ept (fY p s) a x.stk (kG a x.sv) Lx V' → Ept (fY p s) a [(i0, t0)] (kG a sv0) (x.ls ++ Lx) V') ∧ Apart (some bm) x.tob ∧ Apart (some sb) x.tob ∧ Apart (some bt) x.tob ∧ Apart (some bm) x.kob ∧ Apart (some sb) x.kob ∧ Apart (some bt) x.kob ∧ Apart x.tob x.kob ∧ Ge w x.kob ∧ (∀ y, y ∈ x.tob.toList → y ∈ (bm :: sb :: tob0.toList) ∨ w.heap.size ≤ y) ∧ (x.tob = tob0 ∨ Ge w x.tob))) (fun x => 3 * us p.insts.length a x.sv + x.stk.length) ⟨rfl, trivial⟩ ⟨rfl, rfl, rfl, trivial⟩ ⟨g2, ⟨A3, RowsOk.snoc (rows := []) (ds := []) (RowsOk.nil _ _ _ _) rfl ⟨nv0, rfl, hN.step g2 (y0 m1 g1)⟩, A9, B0, by rw [List.append_nil]; exact dL hTr g2 (y0 m1 g1), A8, B1, by simpa using hi0, by have := us_le p.insts.length a sv0; simp only [List.length_cons, List.length_nil]; omega, htn, hsv, fun _ _ h => by simpa using h, hmt0, hst0, E3.symm, A4, A5, A7, A6, g1, fun y hy => .inl (List.mem_cons_of_mem _ (List.mem_cons_of_mem _ hy)), .inl rfl⟩⟩ ?_
  rintro ⟨stk, kr, ka, kc, kob, sv, ls, tr, ta, tn, tc, tob, va, vb⟩ wr28 ⟨m5, ⟨hK, hKr, hSe, hTh, hTr, hM, hB, hsn, hm, htn, hsv, hE, hmt, hst, hbt, hmk, hsk, hbk, htk, hgk, hto, hto2⟩⟩; show CW _ _ _ _ [(6, .slice ka stk.length kc), (0, _), (2, _), (4, _)] _
  try dsimp only at hK hKr hSe hTh hTr hM hB hsn hm htn hsv hE hmt hst hbt hmk hsk hbk htk hgk hto hto2
  have B2 := Evo.refl (XM bm sb bt tob kob) wr28; refine aI (csr (aB (aC (bD rfl Tryz.underlying126 rfl) ?_))); refine aC (gF rfl rfl) ?_; refine wnn (bA rfl (fun B3 => ?_) (fun B3 => ?_))
  ·obtain ⟨⟨i, t⟩, stk1, rfl⟩ := List.exists_cons_of_length_pos (by omega : 0 < stk.length); have hfl : ((i, t) :: stk1).length = stk1.length + 1 := rfl; have hi : i < p.insts.length := hsn (i, t) (by simp); rw [List.reverse_cons] at hKr; obtain ⟨kr1, nv, hkr, hKr1, hNv⟩ := XS hKr
   dsimp only at hkr hNv
   subst hkr; obtain ⟨q, rfl⟩ := hNv.ptr; have h2 := hK; rw [AD] at h2; obtain ⟨gk, ek, ek2, hck⟩ := OwnS.top (m := stk1.length) (r := [iv i, (.pointer q)]) h2 rfl; subst ek ek2; refine aL (aA (bC (csr (aB (aB (aC (bD rfl Tryz.underlying126 rfl) ?_)))))); refine aC (dG rfl rfl (by omega) (by omega)) ?_; refine aC (eW (n := stk1.length) rfl rfl (by omega) sR (by omega)) ?_; refine aC (cY rfl nR gL (vs := [iv i, .pointer q]) rfl hck) ?_; refine aZ rfl rfl gL hB rfl rfl ⟨by first | rfl | assumption, by first | rfl | assumption, trivial⟩ fun H6 g3 d0 => ?_; have B4 := m5.step d0 m1.mem1
   have B5 := B2.step d0 (fun y hy => .inl (by simp at hy; simp [XM, hy]))
   have m6 := d0.blk hM h0.nmem1; have m7 := hSe.evo d0 z9.own1; have B6 := hTh.evo d0 hbt.symm.own1; have B7 := hK.evo d0 hbk.symm.own1
   try simp only [cG, Nat.reduceAdd] at g3
   refine wnn (csr (aB (aB (aC (bD rfl Tryz.underlying126 rfl) ?_)))); refine aC (dG rfl rfl (by omega) (by omega)) ?_
   refine aC (OQ (h := stk1.length) h2 rfl rfl Tryz.underlying126 gL (by omega) (by have := h2.le; omega)) ?_
   have E4 := OwnS.pop (m := stk1.length) (xs := kr1.flatten) (r := [iv i, (.pointer q)]) (by rw [← AD]; exact B7) rfl
   refine wan (aI (aI ?_)); refine eP (by kernel_rfl) (by kernel_rfl) ?_; refine bJ (fun _ A => aY rfl) ?_; refine bJ (fun _ A => aG rfl) ?_; refine bJ (fun _ A => aD rfl vI) ?_; refine bJ (fun _ A => aQ rfl DZ (aV (A.blk0 m6) rfl)) ?_; refine bJ (fun _ A => aD rfl kV) ?_; refine bJ (fun _ A => aQ rfl aX (aV (A.blk0 g3) rfl)) ?_; refine bJ (fun _ A => bX (n := i) rfl rfl qD hi) ?_; refine bJ (fun _ A => aQ rfl aX ((m7.evo0 A).get1 (svc_get hi))) ?_; refine bJ (fun _ A => aY rfl) ?_; refine bJ (fun _ A => aK rfl rfl (by omega) (by omega)) ?_; refine bJ (fun _ A => lZ rfl rfl) ?_; refine eV (fun F3 A => aA ?_); have m8 := B4.then A; have e6 := B5.then A; have m9 := A.blk0 m6; have o0 := m7.evo0 A; have o1 := B6.evo0 A; have o2 := E4.evo0 A; have o3 := A.blk0 g3; refine bA rfl (fun B8 => ?_) (fun B8 => ?_)
   ·refine cJ (bH (cI (aW ?_))); refine ⟨⟨stk1, kr1, some ⟨gk, 0, none⟩, kc, some gk, sv, ls, tr, ta, tn, tc, tob, iv i, (.pointer q)⟩, ?_, ⟨rfl, trivial⟩, ⟨rfl, rfl, rfl, trivial⟩, m8, ?_⟩
    · (try dsimp only); first | omega | (simp only [List.length_cons]; omega) | (simp only [List.length_cons] at *; omega)
    try dsimp only
    have hxx := vO e6 (t' := tob) (k' := some gk) (fun y hy => .inl (HU y hy)) (fun y hy => .inl (ED y hy)); have hKr3 := dL hKr1 e6 hxx; have hTr3 := dL hTr e6 hxx; have hNv3 := hNv.step e6 hxx
    refine ⟨o2, hKr3, o0, o1, hTr3, m9, o3, fun d hd => hsn d (List.mem_cons_of_mem _ hd), by first | omega | (simp only [List.length_cons] at *; omega), by omega, hsv, fun Lx V' h => hE Lx V' (.seen (by simp only [kG, decide_eq_true_eq]; omega) h), hmt, hst, hbt, hmk, hsk, hbk, htk, hgk, hto, hto2⟩
   have hsn2 : kG a sv i = false := by simp only [kG, decide_eq_false_iff_not]; omega
   have hsi := hsp.2 i hi hi; have hmv := IT (p := p) (s := s) (a := a) hi; obtain ⟨bI, oI, vs1, ha1, hx1, -, E5, hr1⟩ := e3 i hi
   generalize p.insts[i] = ci at hsi hmv hr1
   obtain ⟨hi1, rv1, rfl, hr2⟩ := hr1; obtain ⟨n1, n2, n3, n4, n5, n6, n7, n8, n9, n10⟩ := hsi.1; have hci := hi1.len; have hrv := hr2.one; refine aL (aA (aI ?_)); refine eX (fun w0 w' => Evo [] w0 w') (by kernel_rfl) (fun c5 c1 => ?_); have B9 := m8.then c1; have C0 := e6.then c1; have o4 := c1.blk0 m9; have g4 := o0.evo0 c1; have C1 := o1.evo0 c1; have C2 := o2.evo0 c1; have o5 := c1.blk0 o3; refine aet 0 rfl (fun _ hS => aY rfl) (Evo.refl [] c5) ?_; refine aet 1 rfl (fun _ hS => aG rfl) (Evo.refl [] c5) ?_; refine aet 2 rfl (fun _ hS => aD rfl vI) (Evo.refl [] c5) ?_; refine aet 3 rfl (fun _ hS => aQ rfl DZ (aV (hS.blk0 o4) rfl)) (Evo.refl [] c5) ?_; refine aet 4 rfl (fun _ hS => aD rfl kV) (Evo.refl [] c5) ?_; refine aet 5 rfl (fun _ hS => aQ rfl aX (aV (hS.blk0 o5) rfl)) (Evo.refl [] c5) ?_; refine aet 6 rfl (fun _ hS => aY rfl) (Evo.refl [] c5) ?_; refine aet 7 rfl (fun _ hS => aK rfl rfl (by omega) (by omega)) (Evo.refl [] c5) ?_; refine aet 8 rfl (fun _ hS => bX (n := i) rfl rfl qD hi) (Evo.refl [] c5) ?_; refine bS [9] (by kernel_rfl) rfl ⟨?_, trivial⟩
   refine bY rfl ?_
   obtain ⟨g67, cur58, hg59, hx60, hcu61, hcs62, -⟩ := g4.at (by omega)
   cases hx60; refine gS rfl rfl (rfl) bZ hcu61 (g4.inb hcs62 (k := i) (j := 0) (by omega) (by omega) (by omega)) fun E6 C3 a8 => ?_; replace a8 := lF hg59 a8; have C4 := g4.set' hg59 hcu61 C3
   have C5 := B9.step a8 (fun y hy => .inl (by simp at hy; simp [hy]))
   have C6 := C0.step a8 (fun y hy => .inl (by simp at hy; simp [XM, hy]))
   have C7 := a8.blk o4 hms.nmem; have C8 := C1.evo a8 hst.symm.own; have C9 := C2.evo a8 hsk.symm.own; have D0 := a8.blk o5 z9.symm.nmem; have hSe2 : OwnS E6 3 1 (some ⟨sb, 0, none⟩) p.insts.length cs ((svc p.insts.length sv).set (0 + i * 1) (iv ((a + 1 : Nat) : Int))) (some sb) := C4; rw [show 0 + i * 1 = i by omega, svc_set] at hSe2; have hum := us_mark (a := a) hi hsn2; refine aP (bN (.inr (by kernel_rfl)) ?_); refine cV (by kernel_rfl) (aA ?_); refine aI ?_; refine eX (fun w0 w' => Evo [] w0 w') (by kernel_rfl) (fun c0 c2 => ?_); have g5 := C5.then c2; have o6 := C6.then c2; have g6 := c2.blk0 C7; have o7 := hSe2.evo0 c2; have o8 := C8.evo0 c2; have o9 := C9.evo0 c2; have g7 := c2.blk0 D0; refine aet 0 rfl (fun _ hS => aY rfl) (Evo.refl [] c0) ?_; refine aet 1 rfl (fun _ hS => aG rfl) (Evo.refl [] c0) ?_; refine aet 2 rfl (fun _ hS => aD rfl EX) (Evo.refl [] c0) ?_; refine aet 3 rfl (fun _ hS => aD rfl oK) (Evo.refl [] c0) ?_; refine aet 4 rfl (fun _ hS => aQ rfl sT (aV (hS.blk0 g6) rfl)) (Evo.refl [] c0) ?_; refine aet 5 rfl (fun _ hS => aD rfl kV) (Evo.refl [] c0) ?_; refine aet 6 rfl (fun _ hS => aQ rfl aX (aV (hS.blk0 g7) rfl)) (Evo.refl [] c0) ?_
   refine aet 7 rfl (fun _ hS => bX (n := i) (by rw [ha1]; rfl) rfl uJ hi) (Evo.refl [] c0) ?_
   refine aet 8 rfl (fun _ hS => cY rfl qE jZ (vs := [_, _, _, _, _]) rfl (E5.evo (g5.then hS) hx1)) (Evo.refl [] c0) ?_; refine bS [9] (by kernel_rfl) rfl ⟨?_, trivial⟩; refine bY rfl ?_; refine cF rfl wU fun H7 H8 D1 c4 a9 => ?_; have D2 := Apart.new (Lt.blk g6) c4; have D3 := Apart.new (Lt.own o7) c4; have D4 := Apart.new (Lt.own o8) c4; have D5 := Apart.new (Lt.own o9) c4; have D6 := Apart.new (Lt.blk g7) c4; have D7 := Ge.new g5 c4; have D8 := Ge.new o6 c4; have D9 := g5.then a9; have E0 := o6.then a9; have E1 := (Evo.refl [] c0).then a9; have p1 := a9.blk0 g6; have p2 := o7.evo0 a9; have p3 := o8.evo0 a9; have p4 := o9.evo0 a9; have p5 := a9.blk0 g7; refine aP (bN (.inl E1) ?_); refine bS [10] (by kernel_rfl) rfl ⟨?_, trivial⟩; refine bY rfl ?_; refine aZ rfl rfl jZ D1 rfl rfl ⟨by first | rfl | assumption, by first | rfl | assumption, by first | rfl | assumption, by first | rfl | assumption, by first | rfl | assumption, trivial⟩ fun g8 f0 U => ?_; have p6 := D9.step U D7.mem1; have p7 := E0.step U D8.mem1; have p8 := U.blk p1 D2.nmem1; have p9 := p2.evo U D3.own1; have q0 := p3.evo U D4.own1; have q1 := p4.evo U D5.own1; have q2 := U.blk p5 D6.nmem1
   try simp only [cG, Nat.reduceAdd] at f0
   refine aP (bN (.inr (by kernel_rfl)) ?_); refine cV (by kernel_rfl) (aA ?_); refine csr (wfl rfl nG rfl aX f0 rfl (wnn (bC (aI (mB (α := Bool) (fun x => [(67, .bool x)]) [(0, _), (2, _), (4, _), (6, _), (7, _), (54, _)] (fun x wr => Evo [] g8 wr ∧ (x = true ↔ (ci.op = 1 ∨ ci.op = 2))) ⟨rfl, rfl, rfl, rfl, rfl, rfl, trivial⟩ ?_ ?_)))))
   ·refine csr (wel ?_); refine wan (bA rfl (fun e7 => ?_) (fun e7 => ?_))
    ·refine aL (aW ?_); refine ⟨_, ⟨rfl, trivial⟩, ⟨rfl, rfl, rfl, rfl, rfl, rfl, trivial⟩, (Evo.refl [] g8), ?_⟩
     simp only [decide_eq_true_eq]; omega
    refine aF (wel ?_); refine bR (aP (aW ?_)); refine ⟨_, ⟨rfl, trivial⟩, ⟨rfl, rfl, rfl, rfl, rfl, rfl, trivial⟩, (Evo.refl [] g8), ?_⟩
    simp only [decide_eq_true_eq]; omega
   rintro lf F4 ⟨E, hlf2⟩; refine aA ?_; show CW _ _ _ _ [(67, _), (0, _), (2, _), (4, _), (6, _), (7, _), (54, _)] _; have d4 := p6.then E; have d5 := p7.then E; have b5 := E.blk0 p8; have c6 := p9.evo0 E; have c7 := q0.evo0 E; have c8 := q1.evo0 E; have H := E.blk0 q2; have b6 := E.blk0 f0; refine dW rfl (fun e7 => ?_) (fun e7 => ?_)
   ·subst e7; have hlf3 := hlf2.1 rfl; refine eX (fun w0 w' => Evo (bm :: tob.toList) w0 w') (by kernel_rfl) (fun b4 V => ?_); have h3 := d4.then V; have h4 := d5.then V; have f5 := V.blk0 b5; have h5 := c6.evo0 V; have h6 := c7.evo0 V; have h7 := c8.evo0 V; have f6 := V.blk0 H; refine aet 0 rfl (fun _ hS => aY rfl) (Evo.refl (bm :: tob.toList) b4) ?_; refine aet 1 rfl (fun _ hS => aY rfl) (Evo.refl (bm :: tob.toList) b4) ?_; refine aet 2 rfl (fun _ hS => aG rfl) (Evo.refl (bm :: tob.toList) b4) ?_; refine aet 3 rfl (fun _ hS => aD rfl iI) (Evo.refl (bm :: tob.toList) b4) ?_; refine aet 5 rfl (fun _ hS => bT rfl nR gL (hS.blk f6 (nm2 h0.symm hbt)) rfl) (Evo.refl (bm :: tob.toList) b4) ?_; refine bS [4, 6] (by kernel_rfl) rfl ⟨?_, ?_, trivial⟩
    ·refine bY rfl ?_; refine aC (aQ rfl nS (aV f5 rfl)) (aP (bN (.inl (Evo.refl (bm :: tob.toList) b4)) ?_)); refine bS [6] (by kernel_rfl) rfl ⟨?_, trivial⟩; refine bY rfl ?_; refine bL (vs := [_]) rfl jG rfl rfl rfl rfl fun F5 F6 q3 E8 I => ?_; have h8 := h3.then I; have h9 := h4.then I; have i1 := (Evo.refl (bm :: tob.toList) b4).then I; have i2 := I.blk0 f5; have i3 := h5.evo0 I; have q4 := h6.evo0 I; have i4 := h7.evo0 I; have i5 := I.blk0 f6; refine aP (bN (.inl i1) ?_); refine bS [7] (by kernel_rfl) rfl ⟨?_, trivial⟩; refine bY rfl ?_; refine cT rfl rfl rfl rfl jE q4 (Src.ofOwn q3 ⟨by first | rfl | assumption, by first | rfl | assumption, trivial⟩) (by omega) fun ta1 tc1 F7 obt hTa W hob165 => ?_; have i6 := hmt.app (Lt.blk i2) hob165; have q5 := hst.app (Lt.own i3) hob165; have q6 := htk.symm.app (Lt.own i4) hob165; have q7 := hbt.app (Lt.blk i5) hob165; have q8 := h8.step W (hto); have q9 := h9.step W (fun y hy => .inl (HU y hy)); have d6 := i1.step W (fun y hy => .inl (List.mem_cons_of_mem _ hy)); have r0 := W.blk i2 hmt.nmem; have r1 := i3.evo W hst.own; have r5 := i4.evo W htk.symm.own; have r6 := W.blk i5 hbt.nmem; have hobt := hob165; have hpreT := h9; have hpreW := h8; refine aP (bN (.inl d6) ?_); refine aet 8 rfl (fun _ hS => aG rfl) d6 ?_
     refine aet 9 rfl (fun _ hS => aD rfl iI) d6 ?_; refine bS [10] (by kernel_rfl) rfl ⟨?_, trivial⟩; refine bY rfl ?_; refine bE rfl rfl (by first | rfl | assumption) sD r0 rfl fun F8 i7 a0 => ?_
     have r7 := q8.step a0 (fun y hy => .inl (by simp at hy; simp [hy]))
     have d7 := q9.step a0 (fun y hy => .inl (by simp at hy; simp [XM, hy]))
     have r8 := d6.step a0 (fun y hy => .inl (by simp at hy; simp [hy]))
     have r9 := r1.evo a0 hms.symm.own1; have s0 := r5.evo a0 hmk.symm.own1; have s1 := a0.blk r6 h0.symm.nmem1; have s2 := hTa.evo a0 i6.symm.own1
     try simp only [cG, Nat.reduceAdd] at i7
     refine aP (bN (.inl r8) ?_); refine cV (by kernel_rfl) (aO (aO (aW ?_))); refine ⟨⟨stk1, kr1, some ⟨gk, 0, none⟩, kc, some gk, (vU sv i (a + 1)), ls ++ [(i, t)], tr ++ [[iv i, (.pointer q)]], ta1, tn + 1, tc1, obt, iv i, (.pointer q)⟩, ?_, ⟨rfl, trivial⟩, ⟨rfl, rfl, rfl, trivial⟩, r7, ?_⟩
     · (try dsimp only); first | omega | (simp only [List.length_cons]; omega) | (simp only [List.length_cons] at *; omega)
     try dsimp only
     have hxx := vO d7 (t' := obt) (k' := some gk) (NL hobt hpreT HU) (fun y hy => .inl (ED y hy)); have hKr3 := dL hKr1 d7 hxx; have hTr3 := dL hTr d7 hxx; have hNv3 := hNv.step d7 hxx
     refine ⟨s0, hKr3, r9, (by rw [AD]; exact s2), (by rw [← List.append_assoc]; exact hTr3.snoc rfl ⟨(.pointer q), rfl, hNv3⟩), i7, s1, fun d hd => hsn d (List.mem_cons_of_mem _ hd), by first | omega | (simp only [List.length_cons] at *; omega), by omega, (uR hsv), WH hE (fun Lx V' h => .leaf hsn2 (by rw [hmv]; unfold mvI; rcases hlf3 with h1 | h1 <;> simp [h1, Mov.leaf]) (by rw [← lK]; exact h)), i6, q5, q7, hmk, hsk, hbk, q6.symm, hgk, ob_in2 hobt hpreW hto, ob_or hobt hpreW hto2⟩
    refine bY rfl ?_; refine bL (vs := [_]) rfl jG rfl rfl rfl rfl fun F9 G0 s3 E9 J => ?_; have i8 := h3.then J; have i9 := h4.then J; have f7 := (Evo.refl (bm :: tob.toList) b4).then J; have f8 := J.blk0 f5; have j0 := h5.evo0 J; have s4 := h6.evo0 J; have j1 := h7.evo0 J; have j2 := J.blk0 f6; refine aP (bN (.inl f7) ?_); refine bS [4] (by kernel_rfl) rfl ⟨?_, trivial⟩; refine bY rfl ?_; refine aC (aQ rfl nS (aV f8 rfl)) (aP (bN (.inl f7) ?_)); refine bS [7] (by kernel_rfl) rfl ⟨?_, trivial⟩; refine bY rfl ?_; refine cT rfl rfl rfl rfl jE s4 (Src.ofOwn s3 ⟨by first | rfl | assumption, by first | rfl | assumption, trivial⟩) (by omega) fun ta1 tc1 G1 obt hTa a1 hob222 => ?_; have j3 := hmt.app (Lt.blk f8) hob222; have s5 := hst.app (Lt.own j0) hob222; have s6 := htk.symm.app (Lt.own j1) hob222; have s7 := hbt.app (Lt.blk j2) hob222; have s8 := i8.step a1 (hto); have s9 := i9.step a1 (fun y hy => .inl (HU y hy)); have d8 := f7.step a1 (fun y hy => .inl (List.mem_cons_of_mem _ hy)); have t1 := a1.blk f8 hmt.nmem; have t2 := j0.evo a1 hst.own; have t3 := j1.evo a1 htk.symm.own; have t4 := a1.blk j2 hbt.nmem; have hobt := hob222; have hpreT := i9; have hpreW := i8; refine aP (bN (.inl d8) ?_); refine aet 8 rfl (fun _ hS => aG rfl) d8 ?_; refine aet 9 rfl (fun _ hS => aD rfl iI) d8 ?_
    refine bS [10] (by kernel_rfl) rfl ⟨?_, trivial⟩; refine bY rfl ?_; refine bE rfl rfl (by first | rfl | assumption) sD t1 rfl fun G2 j4 a2 => ?_
    have t5 := s8.step a2 (fun y hy => .inl (by simp at hy; simp [hy]))
    have d9 := s9.step a2 (fun y hy => .inl (by simp at hy; simp [XM, hy]))
    have t6 := d8.step a2 (fun y hy => .inl (by simp at hy; simp [hy]))
    have t7 := t2.evo a2 hms.symm.own1; have t8 := t3.evo a2 hmk.symm.own1; have t9 := a2.blk t4 h0.symm.nmem1; have u0 := hTa.evo a2 j3.symm.own1
    try simp only [cG, Nat.reduceAdd] at j4
    refine aP (bN (.inl t6) ?_); refine cV (by kernel_rfl) (aO (aO (aW ?_))); refine ⟨⟨stk1, kr1, some ⟨gk, 0, none⟩, kc, some gk, (vU sv i (a + 1)), ls ++ [(i, t)], tr ++ [[iv i, (.pointer q)]], ta1, tn + 1, tc1, obt, iv i, (.pointer q)⟩, ?_, ⟨rfl, trivial⟩, ⟨rfl, rfl, rfl, trivial⟩, t5, ?_⟩
    · (try dsimp only); first | omega | (simp only [List.length_cons]; omega) | (simp only [List.length_cons] at *; omega)
    try dsimp only
    have hxx := vO d9 (t' := obt) (k' := some gk) (NL hobt hpreT HU) (fun y hy => .inl (ED y hy)); have hKr3 := dL hKr1 d9 hxx; have hTr3 := dL hTr d9 hxx; have hNv3 := hNv.step d9 hxx
    refine ⟨t8, hKr3, t7, (by rw [AD]; exact u0), (by rw [← List.append_assoc]; exact hTr3.snoc rfl ⟨(.pointer q), rfl, hNv3⟩), j4, t9, fun d hd => hsn d (List.mem_cons_of_mem _ hd), by first | omega | (simp only [List.length_cons] at *; omega), by omega, (uR hsv), WH hE (fun Lx V' h => .leaf hsn2 (by rw [hmv]; unfold mvI; rcases hlf3 with h1 | h1 <;> simp [h1, Mov.leaf]) (by rw [← lK]; exact h)), j3, s5, s7, hmk, hsk, hbk, s6.symm, hgk, ob_in2 hobt hpreW hto, ob_or hobt hpreW hto2⟩
   subst e7
   have hlf3 : ¬ (ci.op = 1 ∨ ci.op = 2) := fun h => by have := hlf2.2 h; cases this
   refine csr (wel ?_); refine wan (bA rfl (fun d3 => ?_) (fun d3 => ?_))
   ·have hout : 0 ≤ ci.out ∧ ci.out < p.insts.length := n4 (by omega); have halt := n5 d3; refine aF (aB (wfl rfl qP rfl aX b6 rfl (wfl rfl jJ rfl mV H rfl (aC (cA (vs := [(0, _), (1, _)]) jL rfl (cells := [_, _]) rfl) ?_)))); refine wfl rfl gA rfl aX b6 rfl (wfl rfl jJ rfl mV H rfl (aC (cA (vs := [(0, _), (1, _)]) jL rfl (cells := [_, _]) rfl) ?_)); refine bL (vs := [_, _]) rfl jG rfl rfl rfl rfl fun G3 G4 u1 F0 a4 => ?_; have j5 := d4.then a4; have j6 := d5.then a4; have j7 := a4.blk0 b5; have j8 := c6.evo0 a4; have j9 := c7.evo0 a4; have u2 := c8.evo0 a4; have k0 := a4.blk0 H; refine cT rfl rfl rfl rfl jE u2 (Src.ofOwn u1 ⟨rfl, rfl, rfl, rfl, trivial⟩) (by omega) fun ka1 kc1 G5 obk hKa b7 hob277 => ?_; have u3 := hmk.app (Lt.blk j7) hob277; have u4 := hsk.app (Lt.own j8) hob277; have u5 := htk.app (Lt.own j9) hob277; have u6 := hbk.app (Lt.blk k0) hob277; have u7 := hgk.app j5 hob277; have u8 := j5.step b7 hgk.mem; have e0 := j6.step b7 (fun y hy => .inl (ED y hy)); have u9 := b7.blk j7 hmk.nmem; have v0 := j8.evo b7 hsk.own; have v4 := j9.evo b7 htk.own; have v5 := b7.blk k0 hbk.nmem
    have hobk := hob277; have hpreK := j6; refine bR (aP (aO (aO (aW ?_)))); refine ⟨⟨(ci.out.toNat, t) :: (ci.alt.toNat, t) :: stk1, kr1 ++ [[iv (ci.alt.toNat : Nat), (.pointer q)]] ++ [[iv (ci.out.toNat : Nat), (.pointer q)]], ka1, kc1, obk, (vU sv i (a + 1)), ls, tr, ta, tn, tc, tob, iv i, (.pointer q)⟩, ?_, ⟨rfl, trivial⟩, ⟨rfl, rfl, rfl, trivial⟩, u8, ?_⟩
    · (try dsimp only); first | omega | (simp only [List.length_cons]; omega) | (simp only [List.length_cons] at *; omega)
    try dsimp only
    have hmv2 : fY p s a i = .split ci.out.toNat ci.alt.toNat := by rw [hmv]; unfold mvI; rw [if_neg (by omega), if_neg (by omega), if_pos d3]
    have hxx := vO e0 (t' := tob) (k' := obk) (fun y hy => .inl (HU y hy)) (NL hobk hpreK ED); have hKr3 := dL hKr1 e0 hxx; have hTr3 := dL hTr e0 hxx; have hNv3 := hNv.step e0 hxx; rw [show (List.reverse ((ci.out.toNat, t) :: (ci.alt.toNat, t) :: stk1)) = stk1.reverse ++ [(ci.alt.toNat, t)] ++ [(ci.out.toNat, t)] from by simp]
    refine ⟨(by rw [two_flat halt.1 hout.1]; exact hKa), (hKr3.snoc (d := (ci.alt.toNat, t)) rfl ⟨(.pointer q), rfl, hNv3⟩).snoc (d := (ci.out.toNat, t)) rfl ⟨(.pointer q), rfl, hNv3⟩, v0, v4, hTr3, u9, v5, fun d hd => by rcases List.mem_cons.1 hd with rfl | hd; { simp only; omega }; { rcases List.mem_cons.1 hd with rfl | hd; { simp only; omega }; { exact hsn d (List.mem_cons_of_mem _ hd) } }, by first | omega | (simp only [List.length_cons] at *; omega), by omega, (uR hsv), fun Lx V' h => hE Lx V' (.split hsn2 hmv2 (by rw [← lK]; exact h)), hmt, hst, hbt, u3, u4, u6, u5, u7, hto, hto2⟩
   refine csr (wel ?_); refine wan (bA rfl (fun e8 => ?_) (fun e8 => ?_))
   ·have hout : 0 ≤ ci.out ∧ ci.out < p.insts.length := n4 (by omega); have harg := n7 e8; refine aF (aB (wfl rfl gA rfl aX b6 rfl (wfl rfl kW rfl aX b6 rfl (aB (wfl rfl jJ rfl mV H rfl (aC (cA (vs := [(0, _), (1, _), (2, _)]) FB rfl (cells := [_, _, _]) rfl) ?_)))))); refine fT rfl rfl fun nb G6 v6 b8 a5 => ?_; have E7 := b8; have v7 := Apart.new (Lt.blk b5) b8; have v8 := Apart.new (Lt.own c6) b8; have v9 := Apart.new (Lt.own c7) b8; have k1 := Apart.new (Lt.own c8) b8; have w2 := Apart.new (Lt.blk H) b8; have w3 := d4.then a5; have w4 := d5.then a5; have w5 := a5.blk0 b5; have w6 := c6.evo0 a5; have w7 := c7.evo0 a5; have w8 := c8.evo0 a5; have w9 := a5.blk0 H; refine aC (cA (vs := [(0, _), (1, _)]) jL rfl (cells := [_, _]) rfl) ?_; refine bL (vs := [_]) rfl jG rfl rfl rfl rfl fun G7 G8 x0 F1 M => ?_; have k2 := w3.then M; have k3 := w4.then M; have k4 := M.blk0 w5; have k5 := w6.evo0 M; have k6 := w7.evo0 M; have x1 := w8.evo0 M; have k7 := M.blk0 w9; have k8 := M.blk0 v6
    refine cT rfl rfl rfl rfl jE x1 (Src.ofOwn x0 ⟨by first | rfl | assumption, by first | rfl | assumption, trivial⟩) (by omega) fun ka1 kc1 G9 obk hKa a6 hob342 => ?_; have x2 := hmk.app (Lt.blk k4) hob342; have x3 := hsk.app (Lt.own k5) hob342; have x4 := htk.app (Lt.own k6) hob342; have x5 := hbk.app (Lt.blk k7) hob342; have x6 := k1.symm.app (Lt.blk k8) hob342; have x7 := hgk.app k2 hob342; have x8 := k2.step a6 hgk.mem; have e1 := k3.step a6 (fun y hy => .inl (ED y hy)); have x9 := a6.blk k4 hmk.nmem; have y1 := k5.evo a6 hsk.own; have y2 := k6.evo a6 htk.own; have y3 := a6.blk k7 hbk.nmem; have y4 := a6.blk k8 k1.symm.nmem; have hobk := hob342; have hpreK := k3; refine bR (aP (aO (aO (aW ?_)))); refine ⟨⟨(ci.out.toNat, (ci.arg.toNat, a) :: t) :: stk1, kr1 ++ [[iv (ci.out.toNat : Nat), .pointer (some ⟨nb, 0, none⟩)]], ka1, kc1, obk, (vU sv i (a + 1)), ls, tr, ta, tn, tc, tob, iv i, (.pointer q)⟩, ?_, ⟨rfl, trivial⟩, ⟨rfl, rfl, rfl, trivial⟩, x8, ?_⟩
    · (try dsimp only); first | omega | (simp only [List.length_cons]; omega) | (simp only [List.length_cons] at *; omega)
    try dsimp only
    have hmv2 : fY p s a i = .save ci.arg.toNat ci.out.toNat := by rw [hmv]; unfold mvI; rw [if_neg (by omega), if_neg (by omega), if_neg d3, if_pos e8]
    have hxx := vO e1 (t' := tob) (k' := obk) (fun y hy => .inl (HU y hy)) (NL hobk hpreK ED); have hKr3 := dL hKr1 e1 hxx; have hTr3 := dL hTr e1 hxx; have hNv3 := hNv.step e1 hxx; rw [List.reverse_cons]
    refine ⟨(by rw [NK hout.1]; exact hKa), hKr3.snoc rfl ⟨_, rfl, .cons (xm_nmem v7 v8 w2 v9 x6.symm) (by rw [Int.toNat_of_nonneg (show 0 ≤ ci.arg by omega)]; exact y4) hNv3⟩, y1, y2, hTr3, x9, y3, fun d hd => by rcases List.mem_cons.1 hd with rfl | hd; { simp only; omega }; { exact hsn d (List.mem_cons_of_mem _ hd) }, by first | omega | (simp only [List.length_cons] at *; omega), by omega, (uR hsv), fun Lx V' h => hE Lx V' (.save hsn2 hmv2 (by rw [← lK]; exact h)), hmt, hst, hbt, x2, x3, x5, x4, x7, hto, hto2⟩
   refine csr (aB (aC (bT rfl qE jZ b6 rfl) (aB ?_))); refine aJ (vs := [_, _, _]) QN rfl (holds_ok _ _ _ _ s a b5 ha (by omega)) rfl ?_; rintro _ H0 ⟨rfl, O⟩; have k9 := d4.then O; have c9 := d5.then O; have l0 := O.blk0 b5; have l1 := c6.evo0 O; have l2 := c7.evo0 O; have l3 := c8.evo0 O; have f9 := O.blk0 H; have y5 := O.blk0 b6; refine wnn (bA rfl (fun e9 => ?_) (fun e9 => ?_))
   ·have hop2 : ¬ ci.op = 11 := fun e => by rw [e] at e9; simp [gW] at e9
    have hout : 0 ≤ ci.out ∧ ci.out < p.insts.length := n4 (by omega); refine aF (aB (wfl rfl gA rfl aX y5 rfl (wfl rfl jJ rfl mV f9 rfl (aC (cA (vs := [(0, _), (1, _)]) jL rfl (cells := [_, _]) rfl) ?_)))); refine bL (vs := [_]) rfl jG rfl rfl rfl rfl fun H1 H2 y6 F2 a7 => ?_; have l4 := k9.then a7; have l5 := c9.then a7; have l6 := a7.blk0 l0; have l7 := l1.evo0 a7; have l8 := l2.evo0 a7; have y7 := l3.evo0 a7; have l9 := a7.blk0 f9; refine cT rfl rfl rfl rfl jE y7 (Src.ofOwn y6 ⟨by first | rfl | assumption, by first | rfl | assumption, trivial⟩) (by omega) fun ka1 kc1 H3 obk hKa b9 hob397 => ?_; have y8 := hmk.app (Lt.blk l6) hob397; have y9 := hsk.app (Lt.own l7) hob397; have z0 := htk.app (Lt.own l8) hob397; have z1 := hbk.app (Lt.blk l9) hob397; have z2 := hgk.app l4 hob397; have z3 := l4.step b9 hgk.mem; have e2 := l5.step b9 (fun y hy => .inl (ED y hy)); have z4 := b9.blk l6 hmk.nmem; have z5 := l7.evo b9 hsk.own; have z6 := l8.evo b9 htk.own; have z7 := b9.blk l9 hbk.nmem; have hobk := hob397; have hpreK := l5; refine bR (aP (aO (aO (aW ?_)))); refine ⟨⟨(ci.out.toNat, t) :: stk1, kr1 ++ [[iv (ci.out.toNat : Nat), (.pointer q)]], ka1, kc1, obk, (vU sv i (a + 1)), ls, tr, ta, tn, tc, tob, iv i, (.pointer q)⟩, ?_, ⟨rfl, trivial⟩, ⟨rfl, rfl, rfl, trivial⟩, z3, ?_⟩
    · (try dsimp only); first | omega | (simp only [List.length_cons]; omega) | (simp only [List.length_cons] at *; omega)
    try dsimp only
    have hmv2 : fY p s a i = .go ci.out.toNat := by rw [hmv]; unfold mvI; rw [if_neg (by omega), if_neg (by omega), if_neg d3, if_neg e8, if_pos e9]
    have hxx := vO e2 (t' := tob) (k' := obk) (fun y hy => .inl (HU y hy)) (NL hobk hpreK ED); have hKr3 := dL hKr1 e2 hxx; have hTr3 := dL hTr e2 hxx; have hNv3 := hNv.step e2 hxx; rw [List.reverse_cons]
    refine ⟨(by rw [NK hout.1]; exact hKa), hKr3.snoc rfl ⟨(.pointer q), rfl, hNv3⟩, z5, z6, hTr3, z4, z7, fun d hd => by rcases List.mem_cons.1 hd with rfl | hd; { simp only; omega }; { exact hsn d (List.mem_cons_of_mem _ hd) }, by first | omega | (simp only [List.length_cons] at *; omega), by omega, (uR hsv), fun Lx V' h => hE Lx V' (.go hsn2 hmv2 (by rw [← lK]; exact h)), hmt, hst, hbt, y8, y9, z1, z0, z2, hto, hto2⟩
   refine aL (aO (aO (aW ?_))); refine ⟨⟨stk1, kr1, some ⟨gk, 0, none⟩, kc, some gk, (vU sv i (a + 1)), ls, tr, ta, tn, tc, tob, iv i, (.pointer q)⟩, ?_, ⟨rfl, trivial⟩, ⟨rfl, rfl, rfl, trivial⟩, k9, ?_⟩
   · (try dsimp only); first | omega | (simp only [List.length_cons]; omega) | (simp only [List.length_cons] at *; omega)
   try dsimp only
   have hmv2 : fY p s a i = .dead := by rw [hmv]; unfold mvI; rw [if_neg (by omega), if_neg (by omega), if_neg d3, if_neg e8, if_neg e9]
   have hxx := vO c9 (t' := tob) (k' := some gk) (fun y hy => .inl (HU y hy)) (fun y hy => .inl (ED y hy)); have hKr3 := dL hKr1 c9 hxx; have hTr3 := dL hTr c9 hxx; have hNv3 := hNv.step c9 hxx
   refine ⟨l3, hKr3, l1, l2, hTr3, l0, f9, fun d hd => hsn d (List.mem_cons_of_mem _ hd), by first | omega | (simp only [List.length_cons] at *; omega), by omega, (uR hsv), fun Lx V' h => hE Lx V' (.dead hsn2 hmv2 (by rw [← lK]; exact h)), hmt, hst, hbt, hmk, hsk, hbk, htk, hgk, hto, hto2⟩
  refine cJ (bH (bH (cI (eF rfl ?_)))); have hz : stk = [] := List.eq_nil_of_length_eq_zero (by omega); subst hz; have A2 := hE [] (kG a sv) .nil; rw [List.append_nil] at A2; exact ⟨sv, ta, tn, tc, tr, tob, ls, rfl, A2, hM, hSe, hTh, dL hTr (Evo.refl _ _) (fun y hy => .inl (xm_s y hy)), hsv, htn, hmt, hst, hto2, m5⟩
abbrev WZ : Wt := fun _ _ => false
def PkL (p : Prg) (s : ByteArray) (a : Nat) (L : List Th) (r : Option nT) (W' : Wt) : Prop :=
  (a = s.size ∧ r = first (fY p s) a L) ∨ (a ≠ s.size ∧ jT s a = none ∧ r = none) ∨ (a ≠ s.size ∧ ∃ b, jT s a = some b ∧ Pk (fY p s) (jT s) s.size b (nL (fY p s) a L) WZ r W')
theorem FU {p : Prg} {s : ByteArray} {a : Nat} {E L : List Th} {V' : Vis} {r : Option nT} {W' : Wt} (h : Ept (fY p s) a E (fun _ => false) L V') (k : PkL p s a L r W') : ∃ W2, Pk (fY p s) (jT s) s.size a E WZ r W2 := by
  rcases k with ⟨h1, rfl⟩ | ⟨h1, h2, rfl⟩ | ⟨h1, b, h2, h3⟩
  · exact ⟨_, .last h1 h⟩
  · exact ⟨_, .stop h1 h2 h⟩
  · exact ⟨_, .next h1 h2 h h3⟩
theorem pk_nil (p : Prg) (s : ByteArray) : ∀ (n a : Nat) (W : Wt), s.size + 1 - a = n → ∃ W', Pk (fY p s) (jT s) s.size a [] W none W' := by
  intro n
  induction n using Nat.strongRecOn with
  | _ n ih =>
    intro a W hn
    by_cases h : a = s.size
    · exact ⟨_, .last h .nil⟩
    · cases hx : jT s a with
      | none => exact ⟨_, .stop h hx .nil⟩
      | some b =>
        have h1 := nxt_up s a b hx
        have h2 := nxt_le s a b hx
        obtain ⟨W', hp⟩ := ih (s.size + 1 - b) (by omega) b W rfl
        exact ⟨_, .next h hx .nil hp⟩
theorem pkL_nil (p : Prg) (s : ByteArray) (a : Nat) : ∃ W', PkL p s a [] none W' := by
  by_cases h : a = s.size
  · exact ⟨WZ, .inl ⟨h, rfl⟩⟩
  · cases hx : jT s a with
    | none => exact ⟨WZ, .inr (.inl ⟨h, hx, rfl⟩)⟩
    | some b => obtain ⟨W', hp⟩ := pk_nil p s _ b WZ rfl; exact ⟨W', .inr (.inr ⟨h, b, hx, hp⟩)⟩
theorem OZ {p : Prg} {s : ByteArray} {a : Nat} {E L : List Th} {V V' : Vis} (h : Ept (fY p s) a E V L V') : ∀ d, d ∈ L → (fY p s a d.1).leaf = true := by
  induction h with
  | nil => intro d hd; cases hd
  | seen _ _ ih => exact ih
  | leaf _ hl _ ih => intro d hd; rcases List.mem_cons.1 hd with rfl | hd; { exact hl }; { exact ih d hd }
  | go _ _ _ ih => exact ih
  | split _ _ _ ih => exact ih
  | save _ _ _ ih => exact ih
  | dead _ _ _ ih => exact ih
theorem leaf_lt {p : Prg} {s : ByteArray} {a i : Nat} (h : (fY p s a i).leaf = true) : i < p.insts.length := by
  unfold fY at h
  by_cases hi : i < p.insts.length
  · exact hi
  · rw [List.getElem?_eq_none (by omega)] at h; cases h
theorem IY {p : Prg} {s : ByteArray} {a i : Nat} (hi : i < p.insts.length) : (fY p s a i).isMat = decide (p.insts[i].op = 1) := by
  rw [IT hi]
  unfold mvI
  by_cases h1 : p.insts[i].op = 1
  · rw [if_pos h1]; simp [h1, Mov.isMat]
  · rw [if_neg h1]
    repeat' split
    all_goals simp [h1, Mov.isMat]
theorem UY {p : Prg} {s : ByteArray} {a i : Nat} (hi : i < p.insts.length) : (fY p s a i).outs = if p.insts[i].op = 2 ∧ qT (bQ s a).1 p.insts[i].rs then some p.insts[i].out.toNat else none := by
  rw [IT hi]
  unfold mvI
  by_cases h1 : p.insts[i].op = 1
  · rw [if_pos h1, if_neg (fun h => by omega)]; rfl
  · rw [if_neg h1]
    by_cases h2 : p.insts[i].op = 2
    · rw [if_pos h2]
      by_cases h3 : qT (bQ s a).1 p.insts[i].rs
      · rw [if_pos h3, if_pos ⟨h2, h3⟩]; rfl
      · rw [if_neg h3, if_neg (fun h => h3 h.2)]; rfl
    · have hn : ¬ (p.insts[i].op = 2 ∧ qT (bQ s a).1 p.insts[i].rs) := fun h => h2 h.1
      rw [if_neg h2, if_neg hn]
      repeat' split
      all_goals rfl
theorem OM {p : Prg} {s : ByteArray} {a k : Nat} {L : List Th} (hk : k < L.length) (hL : ∀ d, d ∈ L → d.1 < p.insts.length) (h1 : ∀ j (hj : j < L.length), j < k → ∀ hi : L[j].1 < p.insts.length, ¬ p.insts[L[j].1].op = 1) (h2 : ∀ hi : L[k].1 < p.insts.length, p.insts[L[k].1].op = 1) : first (fY p s) a L = some L[k].2 := by
  rw [CU]
  have : L.find? (fun x => (fY p s a x.1).isMat) = some L[k] := by
    rw [List.find?_eq_some_iff_getElem]
    refine ⟨by rw [IY (hL _ (List.getElem_mem _))]; simpa using h2 (hL _ (List.getElem_mem _)), k, hk, rfl, fun j hj => ?_⟩
    rw [IY (hL _ (List.getElem_mem _))]
    simpa using h1 j (by omega) hj (hL _ (List.getElem_mem _))
  rw [this]; rfl
theorem YW {p : Prg} {s : ByteArray} {a : Nat} {L : List Th} (hL : ∀ d, d ∈ L → d.1 < p.insts.length) (h1 : ∀ j (hj : j < L.length), ∀ hi : L[j].1 < p.insts.length, ¬ p.insts[L[j].1].op = 1) : first (fY p s) a L = none := by
  rw [CU]
  have : L.find? (fun x => (fY p s a x.1).isMat) = none := by
    rw [List.find?_eq_none]
    intro d hd
    obtain ⟨j, hj, rfl⟩ := List.getElem_of_mem hd
    rw [IY (hL _ hd)]
    simpa using h1 j hj (hL _ hd)
  rw [this]; rfl
theorem vS {p : Prg} {s : ByteArray} {a k : Nat} {L : List Th} (hk : k < L.length) : nL (fY p s) a (L.take (k + 1)) = nL (fY p s) a (L.take k) ++ nL (fY p s) a [L[k]] := by
  rw [List.take_succ_eq_append_getElem hk, YH]
theorem CC {p : Prg} {s : ByteArray} {a : Nat} {d : Th} (hi : d.1 < p.insts.length) (h : ¬ (p.insts[d.1].op = 2 ∧ qT (bQ s a).1 p.insts[d.1].rs)) : nL (fY p s) a [d] = [] := by
  rw [GJ, UY hi, if_neg h]; rfl
theorem SR {p : Prg} {s : ByteArray} {a : Nat} {d : Th} (hi : d.1 < p.insts.length) (h1 : p.insts[d.1].op = 2) (h2 : qT (bQ s a).1 p.insts[d.1].rs) : nL (fY p s) a [d] = [(p.insts[d.1].out.toNat, d.2)] := by
  rw [GJ, UY hi, if_pos ⟨h1, h2⟩]; rfl
theorem row_at {X : List Nat} {w : World} {e : TypeId} {a : Option Addr} {n c : Nat} {rows : List (List Value)} {ob : Option Nat} {ds : List Th} (h : OwnS w e 2 a n c rows.flatten ob) (hr : RowsOk 2 RTh X w rows ds) {k : Nat} (hk : k < ds.length) :
    ∃ g q, ob = some g ∧ a = some ⟨g, 0, none⟩ ∧ CellsAt w g (0 + k * 2) [iv ds[k].1, .pointer q] ∧ RNote X w (.pointer q) ds[k].2 := by
  have hl := hr.flen
  have h1 := h.1
  rw [zE hl, hr.1] at h1
  obtain ⟨g, hg, ha, hc⟩ := h.cells (by omega)
  obtain ⟨_, v, hv, hn⟩ := hr.2 k hk (by rw [hr.1]; exact hk)
  obtain ⟨q, rfl⟩ := hn.ptr
  refine ⟨g, q, hg, ha, fun j v hj => ?_, hn⟩
  have hj2 : j < 2 := (List.getElem?_eq_some_iff.1 hj).1
  have := hc (k * 2 + j) v (by rw [zF hl (by rw [hr.1]; exact hk) hj2, hv]; exact hj)
  rw [show 0 + k * 2 + j = 0 + (k * 2 + j) by omega]
  exact this
theorem rows_len {X : List Nat} {w : World} {e : TypeId} {a : Option Addr} {n c : Nat} {rows : List (List Value)} {ob : Option Nat} {ds : List Th} (h : OwnS w e 2 a n c rows.flatten ob) (hr : RowsOk 2 RTh X w rows ds) : ds.length = n := by
  have h1 := h.1
  rw [zE hr.flen, hr.1] at h1
  omega
theorem XL {a b : Nat} {sv : Nat → Nat} (h : ∀ j, sv j ≤ a + 1) (hab : a < b) : kG b sv = fun _ => false := by
  funext j
  have := h j
  simp only [kG, decide_eq_false_iff_not]
  omega
structure SG where
  a : Nat
  sv : Nat → Nat
  ls : List Th
  tr : List (List Value)
  ta : Option Addr
  tn : Nat
  tc : Nat
  tob : Option Nat
structure SH where
  k : Nat
  sw : Nat → Nat
  ms : List Th
  ur : List (List Value)
  ua : Option Addr
  un : Nat
  uc : Nat
  uob : Option Nat
theorem nmk {b bm sb : Nat} {t : Option Nat} (h1 : Apart (some b) (some bm)) (h2 : Apart (some b) (some sb)) (h3 : Apart (some b) t) : b ∉ bm :: sb :: t.toList := fun h => by
  rcases List.mem_cons.1 h with rfl | h
  · exact h1 _ rfl rfl
  · rcases List.mem_cons.1 h with rfl | h
    · exact h2 _ rfl rfl
    · exact h3.nmem h
theorem nmo {o : Option Nat} {bm sb : Nat} {t : Option Nat} (h1 : Apart o (some bm)) (h2 : Apart o (some sb)) (h3 : Apart o t) : ∀ g, o = some g → g ∉ bm :: sb :: t.toList := fun g e => by subst e; exact nmk h1 h2 h3
theorem ge3 {X : List Nat} {w : World} {bm sb : Nat} {t : Option Nat} (h1 : Ge w (some bm)) (h2 : Ge w (some sb)) (h3 : Ge w t) : ∀ y, y ∈ bm :: sb :: t.toList → y ∈ X ∨ w.heap.size ≤ y := fun y hy => by
  right
  rcases List.mem_cons.1 hy with rfl | hy
  · exact h1 _ rfl
  · rcases List.mem_cons.1 hy with rfl | hy
    · exact h2 _ rfl
    · exact h3 _ (by simpa using hy)
theorem in3 {X : List Nat} {w w1 : World} {bm sb : Nat} {t t' : Option Nat} (he : Evo X w w1) (hm : bm ∈ X) (hs : sb ∈ X) (ht : ∀ y, y ∈ t.toList → y ∈ X) (h : t' = t ∨ Ge w1 t') : ∀ y, y ∈ bm :: sb :: t'.toList → y ∈ X ∨ w.heap.size ≤ y := fun y hy => by
  rcases List.mem_cons.1 hy with rfl | hy
  · exact .inl hm
  · rcases List.mem_cons.1 hy with rfl | hy
    · exact .inl hs
    · rcases h with rfl | h
      · exact .inl (ht y hy)
      · right; have := h y (by simpa using hy); have := he.size; omega
theorem FC : Build Tryz.prog 128 #[(0, 4), (4, 1), (5, 1), (6, 1)] #[.slice none 0 0, .int .i64 0, .int .i64 0, .slice none 0 0, .string ByteArray.empty, .slice none 0 0, .slice none 0 0] := ⟨_, .agg #[.slice none 0 0, .int .i64 0, .int .i64 0, .slice none 0 0, .string ByteArray.empty, .slice none 0 0, .slice none 0 0], Tryz.underlying128, by kernel_rfl, rfl, fun w => by kernel_rfl⟩
theorem EY : dA Tryz.prog 123 4 = some 4 := by kernel_rfl
theorem MF : dA Tryz.prog 76 1 = some 1 := by kernel_rfl
theorem zS : cX Tryz.prog 57 := ⟨_, Tryz.func57, by kernel_rfl, by kernel_rfl⟩
theorem QD : NV Tryz.prog 37 = some (3, 1, 8, #[.int .i64 0]) := by kernel_rfl
theorem wT : kF Tryz.prog 131 = some #[.int .i64 0, .pointer none] := by kernel_rfl
theorem in_none {bm sb : Nat} {t : Option Nat} : ∀ y, y ∈ bm :: sb :: (none : Option Nat).toList → y ∈ bm :: sb :: t.toList := fun y hy => by
  simp at hy; rcases hy with h | h <;> simp [h]
set_option maxHeartbeats 4000000 in
theorem XN {X : List Nat} {w : World} {vs : List Value} {p : Prg} (hp : RPrg X w vs p) (hsp : sU p) (s : ByteArray) (hs : s.size ≤ 2097152) :
    Calls Tryz.prog 32 #[.agg vs.toArray, .string s] w (Ret fun v w' => ∃ nv b r W', v = .tuple #[nv, .bool b] ∧ Pk (fY p s) (jT s) s.size 0 [(p.start.toNat, [])] WZ r W' ∧ ((r = none ∧ b = false) ∨ (∃ t, r = some t ∧ b = true ∧ RNote [] w' nv t)) ∧ Evo [] w w') := by
  obtain ⟨hok, pi0, pn0, rfl, hiv, hnv⟩ := hp; have hst0 := hok.start; have hgr := hok.groups; have hil := hok.ilen; have hnl := hok.nlen; have hiv0 := hiv; obtain ⟨a3, c3, rfl, hl3, e3⟩ := hiv; obtain ⟨a4, c4, rfl, hl4, e4⟩ := hnv; obtain ⟨hh1, hh2, hh3, hh4, hh5, hh6, hh7⟩ := hsp.1; refine aT (N := 121) Tryz.func32 rfl rfl rfl ?_; refine csr (fT rfl rfl fun bP w1 j8 i4 j9 => ?_); have k0 := i4; refine bR (wan (aI ?_)); refine eX (fun w0 w' => Evo [] w0 w') (by kernel_rfl) (fun w7 i5 => ?_); have g7 := ((Evo.refl [] w).then j9).then i5; have a8 := i5.blk0 j8; refine aet 0 rfl (fun _ hS => bT rfl mW gO (hS.blk0 a8) rfl) (Evo.refl [] w7) ?_; refine aet 1 rfl (fun _ hS => aY rfl) (Evo.refl [] w7) ?_; refine aet 2 rfl (fun _ hS => aD rfl oK) (Evo.refl [] w7) ?_; refine aet 3 rfl (fun _ hS => aQ rfl sT (aV (hS.blk0 a8) rfl)) (Evo.refl [] w7) ?_; refine aet 4 rfl (fun _ hS => bD rfl Tryz.underlying74 rfl) (Evo.refl [] w7) ?_; refine bS [5] (by kernel_rfl) rfl ⟨?_, trivial⟩; refine bY rfl ?_; refine HX (len := p.insts.length) (c := p.insts.length) rfl rfl rfl QD (by rfl) (by rfl) (by omega) (by decide) (by omega) (by omega) fun sb l5 hSe0 g8 a9 => ?_; have b6 := (Evo.refl [] w7).then a9; rw [svc_zero] at hSe0; refine aP (bN (.inl b6) ?_)
  refine aet 6 rfl (fun _ hS => cA (vs := [(0, .agg #[.slice a3 p.insts.length c3, iv p.start, iv p.groups, .slice a4 p.names.length c4]), (1, .string s), (2, .slice (some ⟨sb, 0, none⟩) p.insts.length p.insts.length)]) FC rfl (cells := [.slice a3 p.insts.length c3, iv p.start, iv p.groups, .slice a4 p.names.length c4, .string s, .slice (some ⟨sb, 0, none⟩) p.insts.length p.insts.length, .slice none 0 0]) rfl) b6 ?_; refine bS [7] (by kernel_rfl) rfl ⟨?_, trivial⟩; refine bY rfl ?_; refine fT rfl rfl fun bm l6 i7 b7 b4 => ?_; have k1 := b7; have d7 := (g7.then a9).then b4; have d8 := b4.blk0 (a9.blk0 a8); refine aP (bN (.inl (b6.then b4)) ?_); refine aet 8 rfl (fun _ hS => dU rfl) (b6.then b4) ?_; refine cV (by kernel_rfl) (aA ?_); refine aI ?_; have hpm : Apart (some bP) (some bm) := (Apart.new (Lt.blk (a9.blk0 a8)) b7); have hps : Apart (some bP) (some sb) := (Apart.new (Lt.blk a8) g8); have hms : Apart (some bm) (some sb) := (Apart.new (Lt.own hSe0) b7).symm; have hgp : Ge w (some bP) := (Ge.new (Evo.refl [] w) i4); have hgm : Ge w (some bm) := (Ge.new (g7.then a9) b7); have hgs : Ge w (some sb) := (Ge.new g7 g8); have i6 : ∀ (t : Option Nat), Ge w t → ∀ {w' : World}, Evo [] w w' → RSl 5 RInst (bm :: sb :: t.toList) w' (.slice a3 p.insts.length c3) p.insts := fun t ht w' he => (hiv0.fresh (by decide) RInst.fresh (ge3 hgm hgs ht)).evo RInst.pers (he.any _); refine aF (aB (wfl rfl MF rfl aX d8 rfl ?_))
  rw [show (Value.int .i64 p.start) = iv ((p.start.toNat : Nat) : Int) from by rw [Int.toNat_of_nonneg hh3]]; refine aC (cA (vs := [(0, _)]) jL rfl (cells := [_, _]) rfl) ?_
  refine aJ (vs := [_, _, _]) zS rfl (GY (tob0 := none) (tr0 := []) (L0 := []) (a := 0) (i0 := p.start.toNat) (sv0 := fun _ => 0) (nv0 := .pointer none) (i6 none (Ge.nil _) d7) hsp i7 (hSe0.evo0 b4) (OwnS.nil _ _ _) (RowsOk.nil _ _ _ _) .nil (by omega) (Nat.zero_le _) hs (fun _ => Nat.zero_le _) (by have := us_le p.insts.length 0 (fun _ => 0); omega) hms (Apart.nil _) (Apart.nil _)) rfl ?_
  rintro _ l7 ⟨sv1, ta1, tn1, tc1, tr1, tob1, L1, rfl, heps, k2, hSe1, hTh1, hTr1, hsv1, htn1, hmt1, hst1, hto1, g9⟩
  have hgt1 : Ge w tob1 := by rcases hto1 with h | h; { subst h; exact Ge.nil _ }; { exact Ge.fresh d7 h }
  have heps0 : Ept (fY p s) 0 [(p.start.toNat, [])] (fun _ => false) L1 (kG 0 sv1) := by have h := heps; rw [show kG 0 (fun _ => 0) = fun _ => false from by funext j; simp [kG]] at h; exact h
  have hpt1 : Apart (some bP) tob1 := by rcases hto1 with h | h; { subst h; exact Apart.nil _ }; { exact Apart.fresh (Lt.blk d8) h }
  refine wnn (aI (csr (wan (bC ?_)))); refine cN (α := SG) (⟨0, sv1, L1, tr1, ta1, tn1, tc1, tob1⟩) (fun x => [(7, .int .i64 (x.a : Nat))]) [(1, _), (2, _), (6, _)] (fun x wr => Evo [] w wr ∧ (x.a ≤ s.size ∧ wr.heap[bP]? = some (.cells #[.slice a3 p.insts.length c3, iv p.start, iv p.groups, .slice a4 p.names.length c4] 76 (0, 0)) ∧ wr.heap[bm]? = some (.cells #[.slice a3 p.insts.length c3, iv p.start, iv p.groups, .slice a4 p.names.length c4, .string s, .slice (some ⟨sb, 0, none⟩) p.insts.length p.insts.length, .slice x.ta x.tn x.tc] 128 (0, 0)) ∧ OwnS wr 3 1 (some ⟨sb, 0, none⟩) p.insts.length p.insts.length (svc p.insts.length x.sv) (some sb) ∧ OwnS wr 131 2 x.ta x.tn x.tc x.tr.flatten x.tob ∧ RowsOk 2 RTh (bm :: sb :: x.tob.toList) wr x.tr x.ls ∧ (∀ j, x.sv j ≤ x.a + 1) ∧ (∀ d, d ∈ x.ls → (fY p s x.a d.1).leaf = true) ∧ x.tn ≤ p.insts.length ∧ (∀ r W', PkL p s x.a x.ls r W' → ∃ W2, Pk (fY p s) (jT s) s.size 0 [(p.start.toNat, [])] WZ r W2) ∧ Apart (some bP) x.tob ∧ Apart (some bm) x.tob ∧ Apart (some sb) x.tob ∧ Ge w x.tob)) (fun x => s.size + 1 - x.a) ⟨rfl, trivial⟩ ⟨rfl, rfl, rfl, trivial⟩ ⟨(d7.step g9 (ge3 hgm hgs (Ge.nil _))), ⟨Nat.zero_le _, (g9.blk d8 (nmk hpm hps (Apart.nil _))), k2, hSe1, hTh1, hTr1, hsv1, fun d hd => OZ heps d hd, (show tn1 ≤ p.insts.length by omega), fun r W' h => FU heps0 h, hpt1, hmt1, hst1, hgt1⟩⟩ ?_; rintro ⟨a, sv, ls, tr, ta, tn, tc, tob⟩ wr38 ⟨b8, ⟨ha, hP, hM, hSe, hTh, hTr, hsv, hlf, htn, hPk, hpt, hmt, hst, hgt⟩⟩; show CW _ _ _ _ [(7, .int .i64 (a : Nat)), (1, _), (2, _), (6, _)] _
  try dsimp only at ha hP hM hSe hTh hTr hsv hlf htn hPk hpt hmt hst hgt
  have h0 := Evo.refl ((bm :: sb :: tob.toList)) wr38; have hll := rows_len hTh hTr; have hlt : ∀ d, d ∈ ls → d.1 < p.insts.length := fun d hd => leaf_lt (hlf d hd); have hnw := next_w s a; refine aI (csr (aB (aC (aG rfl) (wfl rfl iI rfl nS hM rfl (aC (bD rfl Tryz.underlying126 rfl) ?_))))); refine aC (gF rfl rfl) ?_; refine wnn (bA rfl (fun i8 => ?_) (fun i8 => ?_))
  ·refine aL (aA (bC (cw_scope (aI (csr (aB (aB (aC (cD rfl Tryz.underlying9 rfl) ?_)))))))); refine wel ?_; refine wnn (bA rfl (fun i9 => ?_) (fun i9 => ?_))
   ·refine aI (csr (aB (aC (aG rfl) (wfl rfl iI rfl nS hM rfl (aC (bD rfl Tryz.underlying126 rfl) ?_))))); refine aB (wnn (bC ?_)); refine cN (α := Nat) (0) (fun k => [(46, .int .i64 (k : Nat))]) [(1, _), (2, _), (6, _), (7, _), (44, _), (45, _)] (fun k wr => Evo [] wr38 wr ∧ (k ≤ tn ∧ ∀ j (hj : j < ls.length), j < k → ∀ hi : ls[j].1 < p.insts.length, ¬ p.insts[ls[j].1].op = 1)) (fun k => tn - k) ⟨rfl, trivial⟩ ⟨rfl, rfl, rfl, rfl, rfl, rfl, trivial⟩ ⟨Evo.refl _ _, ⟨Nat.zero_le _, fun j _ h => by omega⟩⟩ ?_; rintro k wr41 ⟨a0, ⟨hk, hno⟩⟩; show CW _ _ _ _ [(46, _), (1, _), (2, _), (6, _), (7, _), (44, _), (45, _)] _; have d9 := b8.then a0; have j0 := hTh.evo0 a0; refine csr (aC (cP rfl rfl) ?_); refine wnn (aI (bA rfl (fun j1 => ?_) (fun j1 => ?_)))
    ·refine aL (aA (aI (bC (csr ?_))))
     have hk' : k < ls.length := by omega
     have hi := hlt ls[k] (List.getElem_mem _); have hTrk := dL hTr (h0.then a0) (fun y hy => .inl hy); obtain ⟨gt, q, egt, eta, hck, hnk0⟩ := row_at j0 hTrk hk'; have hnk := hnk0; obtain ⟨bI, oI, vs1, ha1, hx1, -, h1, hr1⟩ := e3 ls[k].1 hi
     refine aC (bX (n := k) (by rw [eta]; rfl) rfl sR (by omega)) ?_
     refine aC (cY rfl nR gL (vs := [iv ls[k].1, .pointer q]) rfl hck) ?_; refine cF rfl wT fun l8 l9 j2 b9 c0 => ?_; refine aZ rfl rfl gL j2 rfl rfl ⟨by first | rfl | assumption, by first | rfl | assumption, trivial⟩ fun m0 e0 c1 => ?_; have h4 := (d9.then c0).step c1 (Ge.new d9 b9).mem1
     try simp only [cG, Nat.reduceAdd] at e0
     refine wnn (csr (aC (aD rfl oK) (aC (aQ rfl sT (aV (c1.blk (c0.blk0 (a0.blk0 hP)) (Apart.new (Lt.blk (a0.blk0 hP)) b9).nmem1) rfl)) (wfl rfl kV rfl aX e0 rfl ?_))))
     refine aC (bX (n := ls[k].1) (by rw [ha1]; rfl) rfl uJ hi) ?_
     refine aC (aD rfl nG) ?_; obtain ⟨hi1, rv1, hvs1, hr2⟩ := hr1; subst hvs1; refine aC (aQ rfl aX ((h1.evo h4 (by simp)) 0 _ rfl)) ?_; refine wel ?_; refine wnn (bA rfl (fun e1 => ?_) (fun e1 => ?_))
     ·refine csr (wfl rfl jJ rfl mV e0 rfl (bR (wan (aH (aM (aE (aE (aM (aE (aE (xZ (aM (aE (aM (aE (cB rfl rfl rfl ?_)))))))))))))))); obtain ⟨W3, h3⟩ := hPk (some ls[k].2) WZ (.inl ⟨by omega, (OM hk' hlt (fun j hj hjk => hno j hj hjk) (fun _ => e1)).symm⟩); exact ⟨_, true, some ls[k].2, W3, rfl, h3, .inr ⟨_, rfl, rfl, hnk.step (((Evo.refl (bm :: sb :: tob.toList) wr41).then c0).step c1 (Ge.new (Evo.refl (bm :: sb :: tob.toList) wr41) b9).mem1) (fun y hy => by cases hy)⟩, h4⟩
     refine aL (aO (aA (aF ?_))); refine aC (aK rfl rfl (by omega) (by omega)) ?_; refine aB (aP (aW ?_)); refine ⟨k + 1, ?_, ⟨rfl, trivial⟩, ⟨rfl, rfl, rfl, rfl, rfl, rfl, trivial⟩, ((a0.then c0).step c1 (Ge.new a0 b9).mem1), ?_⟩
     · omega
     refine ⟨by omega, fun j hj hjk => ?_⟩
     by_cases e : j < k
     · exact hno j hj e
     · obtain rfl : j = k := by omega
       exact fun _ => e1
    refine cJ (bH (bH (cI (aA ?_)))); refine csr (bR (wan (aH (aE (xZ (aM (aE (aM (aE (cB rfl rfl rfl ?_)))))))))); obtain ⟨W3, h3⟩ := hPk none WZ (.inl ⟨by omega, (YW hlt (fun j hj => hno j hj (by omega))).symm⟩); exact ⟨_, false, none, W3, rfl, h3, .inl ⟨rfl, rfl⟩, d9⟩
   refine aL (aA (csr (aB (aB ?_)))); refine aJ (vs := [_, _]) zR rfl (VG s a ha (by omega)) rfl ?_; rintro _ m1 ⟨rfl, W⟩; refine aB (aC (bK rfl rfl) ?_); refine aC (bK rfl rfl) ?_; refine bR (wan (aI (csr (aB (wel ?_))))); refine wnn (bA rfl (fun j3 => ?_) (fun j3 => ?_))
   ·refine csr (bR (wan (aH (aE (xZ (aM (aE (aM (aE (cB rfl rfl rfl ?_)))))))))); obtain ⟨W3, h3⟩ := hPk none WZ (.inr (.inl ⟨by omega, nxt_none (by omega), rfl⟩)); exact ⟨_, false, none, W3, rfl, h3, .inl ⟨rfl, rfl⟩, (b8.then W)⟩
   refine aL (aA (csr (aB (aB ?_)))); refine aC (aK rfl rfl (by omega) (by omega)) ?_; rw [show ((a : Nat) : Int) + (((bQ s a).2 : Nat) : Int) = ((a + (bQ s a).2 : Nat) : Int) from by omega]; refine wan (csr (aB (aC (aG rfl) (wfl rfl iI rfl nS (W.blk0 hM) rfl (wan (csr (aB (aC (aG rfl) (aC (aD rfl iI) ?_))))))))); refine bE rfl rfl (by first | rfl | assumption) sD (W.blk0 hM) rfl fun m2 h5 b5 => ?_
   have j4 := (h0.then W).step b5 (fun y hy => .inl (by simp at hy; simp [hy]))
   try simp only [cG, Nat.reduceAdd] at h5
   refine wnn (aI (cw_label (aA ?_))); refine csr (aB (aC (bD rfl Tryz.underlying126 rfl) ?_)); refine aB (wnn (bC ?_))
   refine cN (α := SH) (⟨0, sv, [], [], none, 0, 0, none⟩) (fun x => [(81, .int .i64 (x.k : Nat))]) [(1, _), (2, _), (6, _), (7, _), (10, _), (79, _), (80, _)] (fun x wr => Evo [] w wr ∧ (x.k ≤ tn ∧ wr.heap[bP]? = some (.cells #[.slice a3 p.insts.length c3, iv p.start, iv p.groups, .slice a4 p.names.length c4] 76 (0, 0)) ∧ wr.heap[bm]? = some (.cells #[.slice a3 p.insts.length c3, iv p.start, iv p.groups, .slice a4 p.names.length c4, .string s, .slice (some ⟨sb, 0, none⟩) p.insts.length p.insts.length, .slice x.ua x.un x.uc] 128 (0, 0)) ∧ OwnS wr 3 1 (some ⟨sb, 0, none⟩) p.insts.length p.insts.length (svc p.insts.length x.sw) (some sb) ∧ OwnS wr 131 2 x.ua x.un x.uc x.ur.flatten x.uob ∧ RowsOk 2 RTh (bm :: sb :: x.uob.toList) wr x.ur x.ms ∧ OwnS wr 131 2 ta tn tc tr.flatten tob ∧ RowsOk 2 RTh (bm :: sb :: x.uob.toList) wr tr ls ∧ (∀ j, x.sw j ≤ a + (bQ s a).2 + 1) ∧ x.un + us p.insts.length (a + (bQ s a).2) x.sw ≤ p.insts.length ∧ Ept (fY p s) (a + (bQ s a).2) (nL (fY p s) a (ls.take x.k)) (kG (a + (bQ s a).2) sv) x.ms (kG (a + (bQ s a).2) x.sw) ∧ Apart (some bP) x.uob ∧ Apart (some bm) x.uob ∧ Apart (some sb) x.uob ∧ Apart tob x.uob ∧ Ge w x.uob)) (fun x => tn - x.k) ⟨rfl, trivial⟩ ⟨rfl, rfl, rfl, rfl, rfl, rfl, rfl, trivial⟩ ⟨((b8.then W).step b5 hgm.mem1), ⟨Nat.zero_le _, (b5.blk (W.blk0 hP) hpm.nmem1), h5, ((hSe.evo0 W).evo b5 hms.symm.own1), OwnS.nil _ _ _, RowsOk.nil _ _ _ _, ((hTh.evo0 W).evo b5 hmt.symm.own1), dL hTr j4 (fun y hy => .inl (in_none y hy)), fun j => Nat.le_trans (hsv j) (by omega), (show 0 + us p.insts.length (a + (bQ s a).2) sv ≤ _ by have := us_le p.insts.length (a + (bQ s a).2) sv; omega), .nil, Apart.nil _, Apart.nil _, Apart.nil _, Apart.nil _, Ge.nil _⟩⟩ ?_
   rintro ⟨k, sw, ms, ur, ua, un, uc, uob⟩ wr97 ⟨e2, ⟨hk, hP, hM, hSe, hU, hUr, hTh, hTr, hsw, hun, hep, hpu, hmu, hsu, htu, hgu⟩⟩; show CW _ _ _ _ [(81, .int .i64 (k : Nat)), (1, _), (2, _), (6, _), (7, _), (10, _), (79, _), (80, _)] _
   try dsimp only at hk hP hM hSe hU hUr hTh hTr hsw hun hep hpu hmu hsu htu hgu
   have e5 := Evo.refl ((bm :: sb :: uob.toList)) wr97; refine csr (aC (cP rfl rfl) ?_); refine wnn (aI (bA rfl (fun j5 => ?_) (fun j5 => ?_)))
   ·refine aL (aA (aI (bC (csr ?_))))
    have hk' : k < ls.length := by omega
    have hi := hlt ls[k] (List.getElem_mem _); have hTrk := dL hTr e5 (fun y hy => .inl hy); obtain ⟨gt, q, egt, eta, hck, hnk0⟩ := row_at hTh hTrk hk'; have hnk := hnk0; obtain ⟨bI, oI, vs1, ha1, hx1, -, h1, hr1⟩ := e3 ls[k].1 hi
    refine aC (bX (n := k) (by rw [eta]; rfl) rfl sR (by omega)) ?_
    refine aC (cY rfl nR gL (vs := [iv ls[k].1, .pointer q]) rfl hck) ?_; refine cF rfl wT fun k6 k7 h7 O U => ?_; refine aZ rfl rfl gL h7 rfl rfl ⟨by first | rfl | assumption, by first | rfl | assumption, trivial⟩ fun k8 a2 V => ?_; have c2 := (e2.then U).step V (Ge.new e2 O).mem1; have e6 := (e5.then U).step V (Ge.new e5 O).mem1; have e7 := ((Evo.refl (bm :: sb :: uob.toList) wr97).then U).step V (Ge.new (Evo.refl (bm :: sb :: uob.toList) wr97) O).mem1; have c5 := V.blk (U.blk0 hP) (Apart.new (Lt.blk hP) O).nmem1; have e8 := V.blk (U.blk0 hM) (Apart.new (Lt.blk hM) O).nmem1; have e9 := (hSe.evo0 U).evo V (Apart.new (Lt.own hSe) O).own1; have f0 := (hTh.evo0 U).evo V (Apart.new (Lt.own hTh) O).own1; have f5 := (hU.evo0 U).evo V (Apart.new (Lt.own hU) O).own1
    try simp only [cG, Nat.reduceAdd] at a2
    refine wnn (csr (wfl rfl oK rfl sT c5 rfl (wfl rfl kV rfl aX a2 rfl ?_)))
    refine aC (bX (n := ls[k].1) (by rw [ha1]; rfl) rfl uJ hi) ?_
    obtain ⟨hi1, rv1, hvs1, hr2⟩ := hr1; subst hvs1; have hcc := h1; have hsi := hsp.2 ls[k].1 hi hi; obtain ⟨n1, n2, n3, n4, n5, n6, n7, n8, n9, n10⟩ := hsi.1; obtain ⟨ci, hci⟩ : ∃ c, c = p.insts[ls[k].1] := ⟨_, rfl⟩; rw [← hci] at hi1 hr2 n1 n2 n3 n4 n5 n6 n7 n8 n9 n10 hcc; have hcl := hi1.len; obtain ⟨aR, cR, rfl, hlR, eR⟩ := hr2; refine aC (cY rfl qE jZ (vs := [_, _, _, _, _]) rfl (hcc.evo c2 (by simp))) ?_; refine cF rfl wU fun k9 l0 h8 J L => ?_; refine aZ rfl rfl jZ h8 rfl rfl ⟨by first | rfl | assumption, by first | rfl | assumption, by first | rfl | assumption, by first | rfl | assumption, by first | rfl | assumption, trivial⟩ fun j6 a1 M => ?_; have f6 := (c2.then L).step M (Ge.new c2 J).mem1; have c6 := (e6.then L).step M (Ge.new e6 J).mem1; have f7 := M.blk (L.blk0 c5) (Apart.new (Lt.blk c5) J).nmem1; have f8 := M.blk (L.blk0 e8) (Apart.new (Lt.blk e8) J).nmem1; have f9 := (e9.evo0 L).evo M (Apart.new (Lt.own e9) J).own1; have g0 := (f0.evo0 L).evo M (Apart.new (Lt.own f0) J).own1; have g1 := (f5.evo0 L).evo M (Apart.new (Lt.own f5) J).own1
    try simp only [cG, Nat.reduceAdd] at a1
    refine wnn (aI (csr (wfl rfl nG rfl aX a1 rfl (aC (fJ rfl rfl) ?_)))); refine wnn (bA rfl (fun h6 => ?_) (fun h6 => ?_))
    ·refine cJ (bH (cI (aA ?_))); refine aF ?_; refine aC (aK rfl rfl (by omega) (by omega)) ?_; refine aB (aP (aW ?_)); refine ⟨⟨k + 1, sw, ms, ur, ua, un, uc, uob⟩, ?_, ⟨rfl, trivial⟩, ⟨rfl, rfl, rfl, rfl, rfl, rfl, rfl, trivial⟩, f6, ?_⟩
     · (try dsimp only); omega
     try dsimp only
     have hTr3 := dL hTr c6 (fun y hy => .inl hy); have hUr3 := dL hUr c6 (fun y hy => .inl hy)
     refine ⟨by omega, f7, f8, f9, g1, hUr3, g0, hTr3, hsw, hun, by rw [vS hk', CC hi (fun h => h6 (by rw [hci]; exact h.1)), List.append_nil]; exact hep, hpu, hmu, hsu, htu, hgu⟩
    refine aL (aA (csr (wfl rfl EY rfl pI a1 rfl (aC (bD rfl Tryz.underlying68 rfl) ?_)))); refine aB (wnn (bC ?_)); refine cN (α := Nat) (0) (fun j => [(97, .int .i64 (j : Nat))]) [(1, _), (2, _), (6, _), (7, _), (10, _), (14, _), (15, _), (79, _), (80, _), (81, _), (95, _), (96, _)] (fun j wr => Evo [] j6 wr ∧ (j ≤ ci.rs.length ∧ ∀ i (h : i < ci.rs.length), i < j → ¬ (ci.rs[i].1 ≤ (bQ s a).1 ∧ (bQ s a).1 ≤ ci.rs[i].2))) (fun j => ci.rs.length - j) ⟨rfl, trivial⟩ ⟨rfl, rfl, rfl, rfl, rfl, rfl, rfl, rfl, rfl, rfl, rfl, rfl, trivial⟩ ⟨Evo.refl _ _, ⟨Nat.zero_le _, fun i _ h => by omega⟩⟩ ?_; rintro j wr167 ⟨A, ⟨hj, hnr⟩⟩; show CW _ _ _ _ [(97, _), (1, _), (2, _), (6, _), (7, _), (10, _), (14, _), (15, _), (79, _), (80, _), (81, _), (95, _), (96, _)] _; have a5 := f6.then A; have a6 := c6.then A; have g2 := ((e7.then L).step M (Ge.new e7 J).mem1).then A; have c7 := A.blk0 f7; have c8 := A.blk0 f8; have c9 := f9.evo0 A; have d0 := g0.evo0 A; have d3 := g1.evo0 A; have g3 := A.blk0 (M.blk (L.blk0 a2) (Apart.new (Lt.blk a2) J).nmem1); refine csr (aC (cP rfl rfl) ?_); refine wnn (aI (bA rfl (fun j7 => ?_) (fun j7 => ?_)))
    ·refine aL (aA (aI (bC (csr ?_))))
     have hj' : j < ci.rs.length := by omega
     obtain ⟨b3, o3, vs3, ha3, -, -, k3, hr3⟩ := eR j hj'; cases hr3
     refine aC (bX (n := j) (by rw [ha3]; rfl) rfl eT hj') ?_
     refine aC (cY rfl jX fC (vs := [_, _]) rfl (k3.evo a5 (by simp))) ?_; refine cF rfl mD fun l1 l2 h9 E H => ?_; refine aZ rfl rfl fC h9 rfl rfl ⟨by first | rfl | assumption, by first | rfl | assumption, trivial⟩ fun l3 d4 I => ?_; have d5 := (a5.then H).step I (Ge.new a5 E).mem1; have d6 := (a6.then H).step I (Ge.new a6 E).mem1; have g4 := (A.then H).step I (Ge.new A E).mem1; have g5 := I.blk (H.blk0 c7) (Apart.new (Lt.blk c7) E).nmem1; have g6 := (d0.evo0 H).evo I (Apart.new (Lt.own d0) E).own1
     try simp only [cG, Nat.reduceAdd] at d4
     refine wnn (csr (wfl rfl fA rfl cL d4 rfl (aB (aC (eH rfl rfl) ?_)))); refine aB (bF (t := 105) rfl (fun i1 => ?_) (fun i1 => ?_))
     ·refine aS (aB (aS (aC (aD rfl dY) (aS (aC (aQ rfl cL (aV d4 rfl)) (aS (aC (eH rfl rfl) ?_))))))); refine bW (wnn (bA rfl (fun i2 => ?_) (fun i2 => ?_)))
      ·have hopc : ci.op = 2 := by omega
       have hop2 : p.insts[ls[k].1].op = 2 := by rw [← hci]; exact hopc
       have hout : 0 ≤ ci.out ∧ ci.out < p.insts.length := n4 (by omega)
       have hins : qT (bQ s a).1 p.insts[ls[k].1].rs := by rw [← hci]; exact ⟨ci.rs[j], List.getElem_mem _, by omega, by omega⟩
       refine csr (aB (aC (aD rfl gA) (aC (aQ rfl aX (aV (I.blk (H.blk0 (A.blk0 a1)) (Apart.new (Lt.blk (A.blk0 a1)) E).nmem1) rfl)) ?_))); rw [show (Value.int .i64 ci.out) = iv ((ci.out.toNat : Nat) : Int) from by rw [Int.toNat_of_nonneg hout.1]]; refine wfl rfl jJ rfl mV (I.blk (H.blk0 g3) (Apart.new (Lt.blk g3) E).nmem1) rfl (aC (cA (vs := [(0, _), (1, _)]) jL rfl (cells := [_, _]) rfl) ?_); refine aB ?_; refine aJ (vs := [_, _, _]) zS rfl (GY (tob0 := uob) (tr0 := ur) (L0 := ms) (a := a + (bQ s a).2) (i0 := ci.out.toNat) (t0 := ls[k].2) (sv0 := sw) (nv0 := .pointer q) (i6 uob hgu d5) hsp (I.blk (H.blk0 c8) (Apart.new (Lt.blk c8) E).nmem1) ((c9.evo0 H).evo I (Apart.new (Lt.own c9) E).own1) ((d3.evo0 H).evo I (Apart.new (Lt.own d3) E).own1) (dL hUr d6 (fun y hy => .inl hy)) (hnk.step ((g2.then H).step I (Ge.new g2 E).mem1) (fun y hy => .inl hy)) (by omega) (by omega) hs hsw hun hms hmu hsu) rfl ?_; rintro _ l4 ⟨sw2, ua2, un2, uc2, ur2, uob2, L2, rfl, heps2, k4, hSe2, k5, hUr2, hsw2, hun2, hmu2, hsu2, huo2, a7⟩; have hpre2 := d6
       have hgu2 : Ge w uob2 := by rcases huo2 with h | h; { subst h; exact hgu }; { exact Ge.fresh d5 h }
       have hpu2 : Apart (some bP) uob2 := by rcases huo2 with h | h; { subst h; exact hpu }; { exact Apart.fresh (Lt.blk g5) h }
       have htu2 : Apart tob uob2 := by rcases huo2 with h | h; { subst h; exact htu }; { exact Apart.fresh (Lt.own g6) h }
       have i3 := d6.step a7 (fun y hy => .inl hy); refine wnn (cJ (uT rfl (bH (bH (uT rfl (cI (aA ?_))))))); refine aF ?_; refine aC (aK rfl rfl (by omega) (by omega)) ?_; refine aB (aP (aW ?_)); refine ⟨⟨k + 1, sw2, ms ++ L2, ur2, ua2, un2, uc2, uob2⟩, ?_, ⟨rfl, trivial⟩, ⟨rfl, rfl, rfl, rfl, rfl, rfl, rfl, trivial⟩, (d5.step a7 (ge3 hgm hgs hgu)), ?_⟩
       · (try dsimp only); omega
       try dsimp only
       have hxx := in3 (X := bm :: sb :: uob.toList) (bm := bm) (sb := sb) (t := uob) (t' := uob2) hpre2 (by simp) (by simp) (fun y hy => List.mem_cons_of_mem _ (List.mem_cons_of_mem _ hy)) huo2; have hTr3 := dL hTr i3 hxx
       refine ⟨by omega, (a7.blk g5 (nmk hpm hps hpu)), k4, hSe2, k5, hUr2, (g6.evo a7 (nmo hmt.symm hst.symm htu)), hTr3, hsw2, hun2, by rw [vS hk', SR hi hop2 hins, ← hci]; exact hep.app heps2, hpu2, hmu2, hsu2, htu2, hgu2⟩
      refine aL (aO (aA (aF ?_))); refine aC (aK rfl rfl (by omega) (by omega)) ?_; refine aB (aP (aW ?_)); refine ⟨j + 1, ?_, ⟨rfl, trivial⟩, ⟨rfl, rfl, rfl, rfl, rfl, rfl, rfl, rfl, rfl, rfl, rfl, rfl, trivial⟩, g4, ?_⟩
      · omega
      refine ⟨by omega, fun i hi2 hik => ?_⟩
      by_cases e : i < j
      · exact hnr i hi2 e
      · obtain rfl : i = j := by omega
        omega
     refine aN (aN (aN (aN (bM (wnn (cM rfl ?_)))))); refine aL (aO (aA (aF ?_))); refine aC (aK rfl rfl (by omega) (by omega)) ?_; refine aB (aP (aW ?_)); refine ⟨j + 1, ?_, ⟨rfl, trivial⟩, ⟨rfl, rfl, rfl, rfl, rfl, rfl, rfl, rfl, rfl, rfl, rfl, rfl, trivial⟩, g4, ?_⟩
     · omega
     refine ⟨by omega, fun i hi2 hik => ?_⟩
     by_cases e : i < j
     · exact hnr i hi2 e
     · obtain rfl : i = j := by omega
       omega
    refine cJ (bH (bH (cI (aO (aA ?_))))); refine aF ?_; refine aC (aK rfl rfl (by omega) (by omega)) ?_; refine aB (aP (aW ?_)); refine ⟨⟨k + 1, sw, ms, ur, ua, un, uc, uob⟩, ?_, ⟨rfl, trivial⟩, ⟨rfl, rfl, rfl, rfl, rfl, rfl, rfl, trivial⟩, a5, ?_⟩
    · (try dsimp only); omega
    try dsimp only
    have hTr3 := dL hTr a6 (fun y hy => .inl hy); have hUr3 := dL hUr a6 (fun y hy => .inl hy)
    refine ⟨by omega, c7, c8, c9, d3, hUr3, d0, hTr3, hsw, hun, by rw [vS hk', CC hi (fun h => by rw [← hci] at h; obtain ⟨d, hd, h2⟩ := h.2; obtain ⟨j, hj, rfl⟩ := List.getElem_of_mem hd; exact hnr j hj (by omega) h2), List.append_nil]; exact hep, hpu, hmu, hsu, htu, hgu⟩
   refine cJ (bH (bH (cI (YF (aO (aW ?_)))))); refine ⟨⟨a + (bQ s a).2, sw, ms, ur, ua, un, uc, uob⟩, ?_, ⟨rfl, trivial⟩, ⟨rfl, rfl, rfl, trivial⟩, e2, ?_⟩
   · (try dsimp only); omega
   try dsimp only
   have hkn : k = ls.length := by omega
   have hep2 : Ept (fY p s) (a + (bQ s a).2) (nL (fY p s) a ls) (fun _ => false) ms (kG (a + (bQ s a).2) sw) := by have h := hep; rw [hkn, List.take_length, XL hsv (by omega)] at h; exact h
   refine ⟨by omega, hP, hM, hSe, hU, hUr, hsw, fun d hd => OZ hep2 d hd, by omega, fun r W' h => ?_, hpu, hmu, hsu, hgu⟩; obtain ⟨W3, h3⟩ := FU hep2 h; exact hPk r W3 (.inr (.inr ⟨by omega, _, BX (by omega), h3⟩))
  refine cJ (bH (bH (cI (aA ?_)))); refine csr (bR (wan (aH (cB rfl rfl rfl ?_)))); have hz : ls = [] := List.eq_nil_of_length_eq_zero (by omega); subst hz; obtain ⟨W2, h2⟩ := pkL_nil p s a; obtain ⟨W3, h3⟩ := hPk none W2 h2; exact ⟨_, false, none, W3, rfl, h3, .inl ⟨rfl, rfl⟩, b8⟩
end Go.Proofs.YtidpigbinpaaeaaGreat
namespace Go.Proofs.YtidpigbinpaaeaaGreat
def Mov.to : Mov → Nat → Prop
  | .go o, q => q = o
  | .split o a, q => q = o ∨ q = a
  | .save _ o, q => q = o
  | _, _ => False
theorem Mov.to_leaf {m : Mov} (h : m.leaf = true) {q : Nat} : ¬ m.to q := by
  cases m <;> simp [Mov.leaf] at h <;> exact id
section
variable (mv : Nat → Nat → Mov) (nxt : Nat → Option Nat) (len : Nat)
inductive Fn : Nat → Nat → Prop
  | mat {a i : Nat} (ha : a = len) (h : mv a i = .mat) : Fn a i
  | rune {a b i o : Nat} (ha : a ≠ len) (h : mv a i = .rune (some o)) (hn : nxt a = some b) (k : Fn b o) : Fn a i
  | eps {a i o : Nat} (h : (mv a i).to o) (k : Fn a o) : Fn a i
inductive EpsR (a : Nat) : Nat → Nat → Prop
  | refl {i : Nat} : EpsR a i i
  | step {i o j : Nat} (h : (mv a i).to o) (k : EpsR a o j) : EpsR a i j
structure EpsI (a : Nat) (st L : List Th) (V V' : Vis) : Prop where
  up : ∀ i, V i = true → V' i = true
  top : ∀ x, x ∈ st → V' x.1 = true
  cl : ∀ i, V' i = true → V i = true ∨ (((mv a i).leaf = true → ∃ t, (i, t) ∈ L) ∧ ∀ o, (mv a i).to o → V' o = true)
  fr : ∀ x, x ∈ L → (mv a x.1).leaf = true ∧ ∃ y, y ∈ st ∧ EpsR mv a y.1 x.1
end
variable {mv : Nat → Nat → Mov} {nxt : Nat → Option Nat} {len : Nat}
theorem add_or {V : Vis} {i j : Nat} (h : V.add i j = true) : j = i ∨ V j = true := by
  unfold Vis.add at h
  split at h
  · exact .inl (by assumption)
  · exact .inr h
theorem add_up {V : Vis} {i j : Nat} (h : V j = true) : V.add i j = true := by
  unfold Vis.add
  split
  · rfl
  · exact h
theorem PZ {V : Vis} {i : Nat} : V.add i i = true := by unfold Vis.add; rw [if_pos rfl]
theorem EpsI.cons {a i : Nat} {t : nT} {st st' L : List Th} {V V' : Vis} (h : EpsI mv a (st' ++ st) L (V.add i) V') (hl : (mv a i).leaf = false) (hto : ∀ o, (mv a i).to o ↔ ∃ x, x ∈ st' ∧ x.1 = o) : EpsI mv a ((i, t) :: st) L V V' := by
  refine ⟨fun j hj => h.up j (add_up hj), fun x hx => ?_, fun j hj => ?_, fun x hx => ?_⟩
  · rcases List.mem_cons.1 hx with rfl | hx
    · exact h.up _ PZ
    · exact h.top x (List.mem_append_right _ hx)
  · rcases h.cl j hj with h1 | h1
    · rcases add_or h1 with rfl | h2
      · refine .inr ⟨fun h3 => ?_, fun o ho => ?_⟩
        · rw [hl] at h3; cases h3
        · obtain ⟨x, hx, rfl⟩ := (hto o).1 ho
          exact h.top x (List.mem_append_left _ hx)
      · exact .inl h2
    · exact .inr h1
  · obtain ⟨h1, y, hy, h2⟩ := h.fr x hx
    refine ⟨h1, ?_⟩
    rcases List.mem_append.1 hy with hy | hy
    · exact ⟨_, List.mem_cons_self .., .step ((hto y.1).2 ⟨y, hy, rfl⟩) h2⟩
    · exact ⟨y, List.mem_cons_of_mem _ hy, h2⟩
theorem eps_i {a : Nat} {st L : List Th} {V V' : Vis} (h : Ept mv a st V L V') : EpsI mv a st L V V' := by
  induction h with
  | nil => exact ⟨fun _ h => h, fun _ h => (by cases h), fun _ h => .inl h, fun _ h => by cases h⟩
  | @seen i t st V L V' h _ ih =>
    refine ⟨ih.up, fun x hx => ?_, ih.cl, fun x hx => ?_⟩
    · rcases List.mem_cons.1 hx with rfl | hx
      · exact ih.up _ h
      · exact ih.top x hx
    · obtain ⟨h1, y, hy, h2⟩ := ih.fr x hx
      exact ⟨h1, y, List.mem_cons_of_mem _ hy, h2⟩
  | @leaf i t st V L V' h hl _ ih =>
    refine ⟨fun j hj => ih.up j (add_up hj), fun x hx => ?_, fun j hj => ?_, fun x hx => ?_⟩
    · rcases List.mem_cons.1 hx with rfl | hx
      · exact ih.up _ PZ
      · exact ih.top x hx
    · rcases ih.cl j hj with h1 | h1
      · rcases add_or h1 with rfl | h2
        · exact .inr ⟨fun _ => ⟨t, List.mem_cons_self ..⟩, fun o ho => (Mov.to_leaf hl ho).elim⟩
        · exact .inl h2
      · exact .inr ⟨fun h2 => by obtain ⟨t', h3⟩ := h1.1 h2; exact ⟨t', List.mem_cons_of_mem _ h3⟩, h1.2⟩
    · rcases List.mem_cons.1 hx with rfl | hx
      · exact ⟨hl, _, List.mem_cons_self .., .refl⟩
      · obtain ⟨h1, y, hy, h2⟩ := ih.fr x hx
        exact ⟨h1, y, List.mem_cons_of_mem _ hy, h2⟩
  | @go i t st V L V' o h hm _ ih => exact EpsI.cons (st' := [(o, t)]) ih (by rw [hm]; rfl) (fun q => by rw [hm]; simp [Mov.to, eq_comm])
  | @split i t st V L V' o b h hm _ ih => exact EpsI.cons (st' := [(o, t), (b, t)]) ih (by rw [hm]; rfl) (fun q => by rw [hm]; simp [Mov.to, eq_comm])
  | @save i t st V L V' k o h hm _ ih => exact EpsI.cons (st' := [(o, _)]) ih (by rw [hm]; rfl) (fun q => by rw [hm]; simp [Mov.to, eq_comm])
  | @dead i t st V L V' h hm _ ih => exact EpsI.cons (st' := []) ih (by rw [hm]; rfl) (fun q => by rw [hm]; simp [Mov.to])
theorem EpsR.fn {a i j : Nat} (h : EpsR mv a i j) (k : Fn mv nxt len a j) : Fn mv nxt len a i := by
  induction h with
  | refl => exact k
  | step h _ ih => exact .eps h (ih k)
theorem fn_in {a i : Nat} {st L : List Th} {V V' : Vis} (hI : EpsI mv a st L V V') (hV : ∀ i, V i = false) (h : Fn mv nxt len a i) : V' i = true → ∃ x, x ∈ L ∧ ((a = len ∧ mv a x.1 = .mat) ∨ (a ≠ len ∧ ∃ o b, mv a x.1 = .rune (some o) ∧ nxt a = some b ∧ Fn mv nxt len b o)) := by
  intro hi
  induction h with
  | @mat a i ha h =>
    rcases hI.cl i hi with h1 | h1
    · rw [hV] at h1; cases h1
    · obtain ⟨t, ht⟩ := h1.1 (by rw [h]; rfl)
      exact ⟨_, ht, .inl ⟨ha, h⟩⟩
  | @rune a b i o ha h hn k _ =>
    rcases hI.cl i hi with h1 | h1
    · rw [hV] at h1; cases h1
    · obtain ⟨t, ht⟩ := h1.1 (by rw [h]; rfl)
      exact ⟨_, ht, .inr ⟨ha, o, b, h, hn, k⟩⟩
  | @eps a i o h k ih =>
    rcases hI.cl i hi with h1 | h1
    · rw [hV] at h1; cases h1
    · exact ih hI (h1.2 o h)
theorem TG {a : Nat} {L : List Th} : (first mv a L).isSome = true ↔ ∃ x, x ∈ L ∧ mv a x.1 = .mat := by
  rw [CU, Option.isSome_map, List.find?_isSome]
  constructor
  · rintro ⟨x, hx, h⟩
    refine ⟨x, hx, ?_⟩
    cases hm : mv a x.1 <;> rw [hm] at h <;> first | rfl | cases h
  · rintro ⟨x, hx, h⟩
    exact ⟨x, hx, by rw [h]; rfl⟩
theorem GK {a : Nat} {L : List Th} {y : Th} : y ∈ nL mv a L ↔ ∃ x, x ∈ L ∧ mv a x.1 = .rune (some y.1) ∧ y.2 = x.2 := by
  unfold nL
  rw [List.mem_filterMap]
  constructor
  · rintro ⟨x, hx, h⟩
    refine ⟨x, hx, ?_⟩
    split at h
    · cases h; exact ⟨by assumption, rfl⟩
    · cases h
  · rintro ⟨x, hx, h, h2⟩
    refine ⟨x, hx, ?_⟩
    rw [h]
    simp only
    rw [← h2]
theorem pk_fn (hup : ∀ a b, nxt a = some b → a < b) {a : Nat} {E : List Th} {W W' : Wt} {r : Option nT} (h : Pk mv nxt len a E W r W') : (∀ c, a ≤ c → ∀ i, W c i = false) → (r.isSome = true ↔ ∃ x, x ∈ E ∧ Fn mv nxt len a x.1) := by
  induction h with
  | @last a E W L V' h k =>
    intro hW
    have hI := eps_i k
    rw [TG]
    constructor
    · rintro ⟨x, hx, hm⟩
      obtain ⟨-, y, hy, he⟩ := hI.fr x hx
      exact ⟨y, hy, he.fn (.mat h hm)⟩
    · rintro ⟨y, hy, hf⟩
      obtain ⟨x, hx, h1 | h1⟩ := fn_in hI (hW a (Nat.le_refl _)) hf (hI.top y hy)
      · exact ⟨x, hx, h1.2⟩
      · exact (h1.1 h).elim
  | @stop a E W L V' h hn k =>
    intro hW
    have hI := eps_i k
    refine ⟨fun h1 => (by cases h1), fun ⟨y, hy, hf⟩ => ?_⟩
    obtain ⟨x, hx, h1 | ⟨-, o, b, -, h2, -⟩⟩ := fn_in hI (hW a (Nat.le_refl _)) hf (hI.top y hy)
    · exact (h h1.1).elim
    · rw [hn] at h2; cases h2
  | @next a b E W L V' r W' h hn k p ih =>
    intro hW
    have hI := eps_i k
    rw [ih (fun c hc => hW c (by have := hup a b hn; omega))]
    constructor
    · rintro ⟨y, hy, hf⟩
      obtain ⟨x, hx, hm, -⟩ := GK.1 hy
      obtain ⟨-, z, hz, he⟩ := hI.fr x hx
      exact ⟨z, hz, he.fn (.rune h hm hn hf)⟩
    · rintro ⟨y, hy, hf⟩
      obtain ⟨x, hx, h1 | ⟨-, o, b', h2, h3, h4⟩⟩ := fn_in hI (hW a (Nat.le_refl _)) hf (hI.top y hy)
      · exact (h h1.1).elim
      · rw [hn] at h3; cases h3
        exact ⟨(o, x.2), GK.2 ⟨x, hx, h2, rfl⟩, h4⟩
end Go.Proofs.YtidpigbinpaaeaaGreat
namespace Go.Proofs.YtidpigbinpaaeaaGreat
inductive CapsB (G : Int) : Rx → Prop
  | mk {x : Rx} : (x.kind = 7 → x.cap ≤ G) → (∀ k, k ∈ x.kids → CapsB G k) → CapsB G x
def Snd (l : List In) (G : Int) (a b : Nat) : Prop := ∀ p, a ≤ p → p < b → ∃ c, l[p]? = some c ∧ nW c l.length G
variable {l : List In} {G : Int}
theorem AF (a : Nat) : Snd l G a a := fun p h1 h2 => by omega
theorem lR {a : Nat} {c : In} (h : l[a]? = some c) (hs : nW c l.length G) : Snd l G a (a + 1) := fun p h1 h2 => by
  obtain rfl : p = a := by omega
  exact ⟨c, h, hs⟩
theorem Snd.app {a m b : Nat} (h1 : Snd l G a m) (h2 : Snd l G m b) : Snd l G a b := fun p ha hb => by
  by_cases e : p < m
  · exact h1 p ha e
  · exact h2 p (by omega) hb
theorem RsUp.nil (k : Nat) : RsUp [] k := fun i h _ => by simp at h
theorem BG {op : Int} {o : Int} (h1 : 5 ≤ op ∧ op ≤ 10 ∧ op ≠ 9) (h2 : 0 ≤ o ∧ o < l.length) : nW ⟨op, o, 0, 0, []⟩ l.length G :=
  ⟨by unfold zV; simp; omega, RsUp.nil _⟩
theorem BD {o a : Int} (ha : a = 0 ∨ a = 1) (h2 : 0 ≤ o ∧ o < l.length) : nW ⟨9, o, 0, a, []⟩ l.length G :=
  ⟨by unfold zV; simp; omega, RsUp.nil _⟩
theorem tF {z : Bool} {a b : Nat} (ha : a < l.length) (hb : b < l.length) : nW (In.sp z a b) l.length G := by
  cases z <;> exact ⟨by unfold zV In.sp; simp; omega, RsUp.nil _⟩
theorem BE {a : Nat} {k : Int} (ha : a < l.length) (hk : 2 ≤ k ∧ k ≤ 2 * G + 1) : nW ⟨4, (a : Int), 0, k, []⟩ l.length G :=
  ⟨by unfold zV; simp; omega, RsUp.nil _⟩
theorem BF {a : Nat} {rs : List (Int × Int)} (ha : a < l.length) (hn : rs ≠ []) (hr : RsUp rs rs.length) : nW ⟨2, (a : Int), 0, 0, rs⟩ l.length G :=
  ⟨by have := List.length_pos_iff.2 hn; unfold zV; simp; omega, hr⟩
theorem RL : nW ⟨11, 0, 0, 0, []⟩ l.length G := ⟨by unfold zV; simp, RsUp.nil _⟩
theorem RJ {k : Int} {a : Nat} (h8 : 8 ≤ k) (h13 : k ≤ 13) (ha : a + 1 < l.length) : nW (lU k a) l.length G := by
  unfold lU
  by_cases e : k = 13
  · rw [if_pos e, if_pos e]; exact BD (.inr rfl) (by omega)
  · rw [if_neg e, if_neg e]
    by_cases e9 : k = 12
    · rw [show k - 3 = 9 by omega]; exact BD (.inl rfl) (by omega)
    · exact BG (by omega) (by omega)
theorem UO {B : Nat → Nat → Prop} (hle : ∀ a b, B a b → a ≤ b) (hB : ∀ a b, B a b → b < l.length → Snd l G a b) : ∀ (r a b : Nat), Rep B r a b → a ≤ b ∧ (b < l.length → Snd l G a b)
  | 0, a, b, h => by
    obtain rfl : a = b := h
    exact ⟨Nat.le_refl _, fun _ => AF a⟩
  | r + 1, a, b, ⟨m, h1, h2⟩ => by
    obtain ⟨h3, h4⟩ := UO hle hB r m b h2
    have h5 := hle a m h1
    exact ⟨by omega, fun hb => (hB a m h1 (by omega)).app (h4 hb)⟩
theorem UZ {z : Bool} {B : Nat → Nat → Prop} {e : Nat} (he : e < l.length) (hle : ∀ a b, B a b → a ≤ b) (hB : ∀ a b, B a b → b < l.length → Snd l G a b) : ∀ (r a : Nat), Opt l z B e r a → a ≤ e ∧ Snd l G a e
  | 0, a, h => by
    obtain rfl : a = e := h
    exact ⟨Nat.le_refl _, AF a⟩
  | r + 1, a, ⟨m, h1, h2, h3⟩ => by
    obtain ⟨h4, h5⟩ := UZ he hle hB r m h3
    have h6 := hle _ _ h2
    exact ⟨by omega, ((lR h1 (tF (by omega) he)).app (hB _ _ h2 (by omega))).app h5⟩
theorem JW {ks : List Rx} (hg : ∀ k, k ∈ ks → Good k) {a b : Nat} (h : kE l ks a b) : a ≤ b := (lH (rs := []) (fun k hk a b hb => uW (hg k hk) a b hb) h).le
theorem blka_le {ks : List Rx} (hg : ∀ k, k ∈ ks → Good k) {a b : Nat} (h : tB l ks a b) : a ≤ b := (vZ (rs := []) (fun k hk a b hb => uW (hg k hk) a b hb) h).le
theorem wR : ∀ {ks : List Rx}, (∀ k, k ∈ ks → Good k) → (∀ k, k ∈ ks → ∀ a b, Blk l k a b → b < l.length → Snd l G a b) → ∀ {a b}, kE l ks a b → b < l.length → Snd l G a b
  | [], _, _, a, b, h, _ => by rw [kE] at h; subst h; exact AF a
  | x :: xs, hg, hk, a, b, h, hb => by
    rw [kE] at h
    obtain ⟨m, h1, h2⟩ := h
    have := JW (fun k hk' => hg k (by simp [hk'])) h2
    exact (hk x (by simp) a m h1 (by omega)).app (wR (fun k hk' => hg k (by simp [hk'])) (fun k hk' => hk k (by simp [hk'])) h2 hb)
theorem PW : ∀ {ks : List Rx}, (∀ k, k ∈ ks → Good k) → (∀ k, k ∈ ks → ∀ a b, Blk l k a b → b < l.length → Snd l G a b) → ∀ {a b}, tB l ks a b → b < l.length → Snd l G a b
  | [], _, _, a, b, h, _ => by rw [tB] at h; exact h.elim
  | x :: xs, hg, hk, a, b, h, hb => by
    rw [tB] at h
    obtain ⟨h1, h2⟩ := h
    by_cases e : xs = []
    · subst e
      exact hk x (by simp) a b (h1 rfl) hb
    · obtain ⟨m, h3, h4, h5, h6⟩ := h2 e
      have hle := blka_le (fun k hk' => hg k (by simp [hk'])) h6
      have hle2 := (uW (rs := []) (hg x (by simp)) _ _ h4).le
      exact (((lR h3 (tF (by omega) (by omega))).app (hk x (by simp) _ _ h4 (by omega))).app (lR h5 (BG (by decide) (by omega)))).app (PW (fun k hk' => hg k (by simp [hk'])) (fun k hk' => hk k (by simp [hk'])) h6 hb)
theorem blk_snd {x : Rx} (hg : Good x) : CapsB G x → ∀ a b, Blk l x a b → b < l.length → Snd l G a b := by
  induction hg with
  | @mk x hn hc hkg ih =>
    intro hC a b hb hlt
    obtain ⟨hcap, hck⟩ := hC
    have hk2 : ∀ y, y ∈ x.kids → ∀ a b, Blk l y a b → b < l.length → Snd l G a b := fun y hy => ih y hy (hck y hy)
    have k1 := hn.kind1
    have k2 := hn.kind2
    have klit := hn.lit
    have kcls := hn.cls
    obtain ⟨k, r, g, mn, mx, lz, cp, nm, ks⟩ := x
    simp only [Rx.kind, Rx.kids, Rx.min, Rx.max, Rx.cap, Rx.r, Rx.ranges] at *
    rw [Blk] at hb
    obtain ⟨b1, b2, b3, b4, b5, b6, b7, b8⟩ := hb
    by_cases e1 : k = 1
    · rw [b1 e1]; exact AF a
    by_cases e2 : k = 2
    · obtain ⟨rfl, h⟩ := b2 e2
      have h3 := klit e2
      refine lR h (BF (a := a + 1) hlt (by simp) fun i hi _ => ?_)
      simp only [List.length_cons, List.length_nil] at hi
      obtain rfl : i = 0 := by omega
      exact ⟨h3.1, Int.le_refl _, h3.2, fun h0 => by omega⟩
    by_cases e3 : k = 3
    · obtain ⟨rfl, h⟩ := b3 e3
      by_cases eg : g = []
      · rw [if_pos eg] at h; exact lR h RL
      · rw [if_neg eg] at h
        exact lR h (BF (a := a + 1) hlt eg (rsup_of (kcls e3)))
    by_cases e4 : k = 4
    · exact wR hkg hk2 (b4 e4) hlt
    by_cases e5 : k = 5
    · exact PW hkg hk2 (b5 e5) hlt
    by_cases e6 : k = 6
    · obtain ⟨m, h1, h2, h3⟩ := b6 e6
      have hle : ∀ a b, kE l ks a b → a ≤ b := fun a b h => JW hkg h
      have hs : ∀ a b, kE l ks a b → b < l.length → Snd l G a b := fun a b h hb => wR hkg hk2 h hb
      obtain ⟨h4, h5⟩ := UO hle hs _ _ _ h1
      by_cases em : mx = -1
      · obtain ⟨m', q1, q2, q3, rfl⟩ := h2 em
        have h6 := hle _ _ q2
        exact (((h5 (by omega)).app (lR q1 (tF (by omega) (by omega)))).app (hs _ _ q2 (by omega))).app (lR q3 (BG (by decide) (by omega)))
      · obtain ⟨h6, h7⟩ := UZ hlt hle hs _ _ (h3 em)
        exact (h5 (by omega)).app h7
    by_cases e7 : k = 7
    · obtain ⟨m, h1, h2, h3, rfl⟩ := b7 e7
      have h4 := JW hkg h2
      have h5 := hc e7
      have h6 := hcap e7
      exact ((lR h1 (BE (a := a + 1) (by omega) (by omega))).app (wR hkg hk2 h2 (by omega))).app (lR h3 (BE (a := m + 1) (by omega) (by omega)))
    · have h8 : 8 ≤ k := num7 k1 e1 e2 e3 e4 e5 e6 e7
      obtain ⟨rfl, h⟩ := b8 h8
      exact lR h (RJ h8 k2 hlt)
theorem SD {x : Rx} {n : Nat} {ns : List ByteArray} (h : ProgOk x l n) (hc : CapsB (ns.length : Int) x) (hl : l.length ≤ 10000) (hn : ns.length ≤ 100) : sU ⟨l, 0, ns.length, ns⟩ := by
  have hlen := h.len
  have hs := blk_snd h.good hc 0 n h.blk (by omega)
  refine ⟨⟨by show 1 ≤ (l.length : Int); omega, by show (l.length : Int) ≤ 10000; omega, Int.le_refl _, by show (0 : Int) < (l.length : Int); omega, by show (0 : Int) ≤ (ns.length : Int); omega, by show (ns.length : Int) ≤ 100; omega, rfl⟩, fun i hi _ => ?_⟩
  show nW l[i] l.length (ns.length : Int)
  have hi' : i < l.length := hi
  by_cases e : i < n
  · obtain ⟨c, h1, h2⟩ := hs i (Nat.zero_le _) e
    rw [List.getElem?_eq_getElem hi'] at h1
    cases h1; exact h2
  · obtain rfl : i = n := by omega
    have h1 := h.last
    rw [List.getElem?_eq_getElem hi'] at h1
    rw [Option.some.inj h1]
    exact ⟨by unfold zV; simp, RsUp.nil _⟩
mutual
theorem HE : ∀ (x : Rx) (b : Int) (st st' : St), x.fine b st = some st' → st.2.length ≤ st'.2.length ∧ ∀ G : Int, (st'.2.length : Int) ≤ G → CapsB G x
  | .mk k r rs mn mx lz cp nm ks, b, st, st', h => by
    by_cases hc : st.1 + 1 ≤ 8194 ∧ (if (Rx.mk k r rs mn mx lz cp nm ks).kind = 7 then b + 1 else b) ≤ 250 ∧ NodeP (.mk k r rs mn mx lz cp nm ks) ∧ ((Rx.mk k r rs mn mx lz cp nm ks).kind = 7 → lB (Rx.mk k r rs mn mx lz cp nm ks).cap (Rx.mk k r rs mn mx lz cp nm ks).name st.2)
    · rw [nN hc] at h
      obtain ⟨h1, h2⟩ := vE ks _ _ _ _ h
      by_cases k7 : (Rx.mk k r rs mn mx lz cp nm ks).kind = 7
      · rw [if_pos k7] at h1
        have h3 : st.2.length + 1 ≤ st'.2.length := by simpa using h1
        obtain ⟨h4, -⟩ := hc.2.2.2 k7
        exact ⟨by omega, fun G hG => ⟨fun _ => by omega, fun y hy => h2 G hG y hy⟩⟩
      · rw [if_neg k7] at h1
        exact ⟨h1, fun G hG => ⟨fun h7 => (k7 h7).elim, fun y hy => h2 G hG y hy⟩⟩
    · rw [wO hc] at h; cases h
theorem vE : ∀ (l : List Rx) (k b : Int) (st st' : St), dP l k b st = some st' → st.2.length ≤ st'.2.length ∧ ∀ G : Int, (st'.2.length : Int) ≤ G → ∀ x, x ∈ l → CapsB G x
  | [], _, _, st, st', h => by
    rw [dP] at h
    cases h
    exact ⟨Nat.le_refl _, fun G hG x hx => by cases hx⟩
  | y :: ys, k, b, st, st', h => by
    rw [dP] at h
    cases hy : y.fine (b + if Brk y.kind k then 1 else 0) st with
    | none => rw [hy] at h; cases h
    | some s1 =>
      rw [hy] at h
      obtain ⟨h1, h2⟩ := HE y _ _ _ hy
      obtain ⟨h3, h4⟩ := vE ys _ _ _ _ h
      refine ⟨by omega, fun G hG x hx => ?_⟩
      rcases List.mem_cons.1 hx with rfl | hx
      · exact h2 G (by omega)
      · exact h4 G hG x hx
end
theorem ok_caps {x : Rx} (h : x.Ok) : CapsB ((iL x).length : Int) x := by
  obtain ⟨st, h⟩ := h
  have e : iL x = st.2 := by unfold iL; rw [h]
  rw [e]
  exact (HE x _ _ _ h).2 _ (Int.le_refl _)
end Go.Proofs.YtidpigbinpaaeaaGreat
namespace Go.Proofs.YtidpigbinpaaeaaGreat
open Go.RowKit Go.W
theorem WY {c : Nat} : eS (c : Int) ↔ gC c := by unfold eS gC; omega
theorem AX {s : ByteArray} {i : Int} : mC s i ↔ vG s i := by
  unfold mC vG
  rw [WY]
theorem BC {s : ByteArray} {c : In} {a : Nat} (h3 : c.op ≠ 3) (h4 : c.op ≠ 4) : gW c.op c.arg s a ↔ vM s c a := by
  unfold gW vM
  rw [AX, AX]
  constructor
  · rintro (h | h | h | h | h | h)
    · exact .inr (.inr (.inr (.inl h)))
    · exact .inr (.inr (.inr (.inr (.inl h))))
    · exact .inr (.inr (.inr (.inr (.inr (.inl h)))))
    · exact .inr (.inr (.inr (.inr (.inr (.inr (.inl h))))))
    · exact .inr (.inr (.inr (.inr (.inr (.inr (.inr h))))))
    · exact .inr (.inr (.inl h))
  · rintro (h | h | h | h | h | h | h | h)
    · exact (h3 h).elim
    · exact (h4 h).elim
    · exact .inr (.inr (.inr (.inr (.inr h))))
    · exact .inl h
    · exact .inr (.inl h)
    · exact .inr (.inr (.inl h))
    · exact .inr (.inr (.inr (.inl h)))
    · exact .inr (.inr (.inr (.inr (.inl h))))
section
variable {p : Prg} {s : ByteArray} {a i o : Nat}
theorem mv_mat : fY p s a i = .mat ↔ ∃ c, p.insts[i]? = some c ∧ c.op = 1 := by
  unfold fY
  cases h : p.insts[i]? with
  | none => simp
  | some c =>
    simp only [Option.some.injEq, exists_eq_left']
    unfold mvI
    by_cases h1 : c.op = 1
    · simp [h1]
    · rw [if_neg h1]
      simp only [h1, iff_false]
      split <;> (try split) <;> (try split) <;> (try split) <;> simp
theorem VI (hs : sU p) : fY p s a i = .rune (some o) ↔ ∃ c, p.insts[i]? = some c ∧ c.op = 2 ∧ (o : Int) = c.out ∧ InR (bQ s a).1 c.rs := by
  unfold fY
  cases h : p.insts[i]? with
  | none => simp
  | some c =>
    simp only [Option.some.injEq, exists_eq_left']
    have hi := (List.getElem?_eq_some_iff.1 h).1
    have hn := (hs.2 i hi hi).1
    rw [(List.getElem?_eq_some_iff.1 h).2] at hn
    obtain ⟨n1, n2, n3, n4, -⟩ := hn
    unfold mvI
    by_cases h1 : c.op = 1
    · simp [h1]
    by_cases h2 : c.op = 2
    · rw [if_neg h1, if_pos h2]
      have ho := n4 (by omega)
      by_cases hr : qT (bQ s a).1 c.rs
      · rw [if_pos hr]
        constructor
        · intro h; injection h with h; injection h with h; exact ⟨h2, by omega, hr⟩
        · rintro ⟨-, h, -⟩; rw [show c.out.toNat = o by omega]
      · rw [if_neg hr]
        constructor
        · intro h; cases h
        · rintro ⟨-, -, h⟩; exact (hr h).elim
    · rw [if_neg h1, if_neg h2]
      simp only [h2, false_and, iff_false]
      split <;> (try split) <;> (try split) <;> simp
theorem mv_to (hs : sU p) : (fY p s a i).to o ↔ EpsB p.insts s a i o := by
  unfold fY EpsB
  cases h : p.insts[i]? with
  | none => simp [Mov.to]
  | some c =>
    simp only [Option.some.injEq, exists_eq_left']
    have hi := (List.getElem?_eq_some_iff.1 h).1
    have hn := (hs.2 i hi hi).1
    rw [(List.getElem?_eq_some_iff.1 h).2] at hn
    obtain ⟨n1, n2, n3, n4, n5, -⟩ := hn
    unfold mvI
    by_cases h1 : c.op = 1
    · rw [if_pos h1]
      simp only [Mov.to, false_iff]
      rintro ⟨hg, -⟩
      unfold vM at hg; omega
    by_cases h2 : c.op = 2
    · rw [if_neg h1, if_pos h2]
      simp only [Mov.to, false_iff]
      rintro ⟨hg, -⟩
      unfold vM at hg; omega
    by_cases h3 : c.op = 3
    · rw [if_neg h1, if_neg h2, if_pos h3]
      have ho := n4 (by omega)
      have ha := n5 h3
      simp only [Mov.to]
      constructor
      · intro hq; exact ⟨.inl h3, by omega⟩
      · rintro ⟨-, hq⟩; omega
    by_cases h4 : c.op = 4
    · rw [if_neg h1, if_neg h2, if_neg h3, if_pos h4]
      have ho := n4 (by omega)
      simp only [Mov.to]
      constructor
      · intro hq; exact ⟨.inr (.inl h4), by omega⟩
      · rintro ⟨-, hq⟩; omega
    · rw [if_neg h1, if_neg h2, if_neg h3, if_neg h4]
      by_cases hst : gW c.op c.arg s a
      · rw [if_pos hst]
        have hg := (BC h3 h4).1 hst
        have ho := n4 (by unfold vM at hg; omega)
        simp only [Mov.to]
        constructor
        · intro hq; exact ⟨hg, by omega⟩
        · rintro ⟨-, hq⟩; omega
      · rw [if_neg hst]
        simp only [Mov.to, false_iff]
        rintro ⟨hg, -⟩
        exact hst ((BC h3 h4).2 hg)
end
section
variable {p : Prg} {s : ByteArray} (hs : sU p)
include hs
theorem fn_wb {a i : Nat} (h : Fn (fY p s) (jT s) s.size a i) : ∀ k, a = dJ s k → (∀ j, j < k → 0 < (bQ s (dJ s j)).2) → WB p.insts s i k → ∃ N q c, Utf s N ∧ WB p.insts s q N ∧ p.insts[q]? = some c ∧ c.op = 1 := by
  induction h with
  | @mat a i ha h =>
    intro k hk hw hb
    obtain ⟨c, h1, h2⟩ := mv_mat.1 h
    exact ⟨k, i, c, ⟨by rw [← hk, ha], hw⟩, hb, h1, h2⟩
  | @rune a b i o ha h hn _ ih =>
    intro k hk hw hb
    obtain ⟨c, h1, h2, h3, h4⟩ := (VI hs).1 h
    have hp : 0 < (bQ s a).2 := by
      unfold jT at hn; split at hn
      · assumption
      · cases hn
    rw [BX hp] at hn
    cases hn
    subst hk
    refine ih (k + 1) rfl (fun j hj => ?_) (.eat hb ⟨c, h1, h2, h3, hp, h4⟩)
    by_cases e : j < k
    · exact hw j e
    · rw [show j = k by omega]; exact hp
  | @eps a i o h _ ih =>
    intro k hk hw hb
    subst hk
    exact ih k rfl hw (.eps hb ((mv_to hs).1 h))
theorem wb_fn {N : Nat} (hU : Utf s N) {q k : Nat} (h : WB p.insts s q k) : k ≤ N → Fn (fY p s) (jT s) s.size (dJ s k) q → Fn (fY p s) (jT s) s.size 0 0 := by
  induction h with
  | init => exact fun _ h => h
  | eps _ he ih => exact fun hk hf => ih hk (.eps ((mv_to hs).2 he) hf)
  | @eat p' q' k _ he ih =>
    intro hk hf
    obtain ⟨c, h1, h2, h3, hp, h4⟩ := he
    have hlt := AL hU.2 (show k < k + 1 by omega) hk
    have hle := wH s (k + 1)
    exact ih (by omega) (.rune (b := dJ s (k + 1)) (by omega) ((VI hs).2 ⟨c, h1, h2, h3, h4⟩) (BX hp) hf)
theorem fn_iff {x : Rx} {n : Nat} (hP : ProgOk x p.insts n) : Fn (fY p s) (jT s) s.size 0 0 ↔ ∃ N, Utf s N ∧ Mt (iD s N) x 0 N := by
  constructor
  · intro h
    obtain ⟨N, q, c, hU, h1, h2, h3⟩ := fn_wb hs h 0 rfl (fun j hj => by omega) .init
    exact ⟨N, hU, (FL hP hU).1 ⟨q, c, h1, h2, h3⟩⟩
  · rintro ⟨N, hU, h⟩
    obtain ⟨q, c, h1, h2, h3⟩ := (FL hP hU).2 h
    exact wb_fn hs hU h1 (Nat.le_refl _) (.mat hU.1 (mv_mat.2 ⟨c, h2, h3⟩))
end
theorem RR {p : Prg} {s : ByteArray} {x : Rx} {n : Nat} {r : Option nT} {W' : Wt} (hs : sU p) (h0 : p.start = 0) (hP : ProgOk x p.insts n) (h : Pk (fY p s) (jT s) s.size 0 [(p.start.toNat, [])] (fun _ _ => false) r W') : r.isSome = true ↔ ∃ N, Utf s N ∧ Mt (iD s N) x 0 N := by
  rw [pk_fn (nxt_up s) h (fun _ _ _ => rfl), ← fn_iff hs hP, h0]
  simp
end Go.Proofs.YtidpigbinpaaeaaGreat
