/- Quo: part 3 of 5 of what the law rests on. -/
import Derived.Test.YtidpigbinpaaeaaGreatVkB
set_option linter.unusedSectionVars false
set_option linter.unusedSimpArgs false
set_option linter.unusedVariables false
namespace Go.Proofs.YtidpigbinpaaeaaGreat
open Go.RowKit Go.W
attribute [local irreducible] Decidable.decide
theorem FD : dU Tryz.prog 165 := ⟨_, Tryz.func165, by kernel_rfl, by kernel_rfl⟩
structure MgP (m : List (Int × Int)) (k : Nat) (o : List (Int × Int)) : Prop where
  hk : k ≤ m.length
  can : tB o
  eq : ∀ c, InR c o ↔ InR c (m.take k)
  le : ∀ g, g ∈ o → ∀ i (h : i < m.length), k ≤ i → g.1 ≤ m[i].1
  len : o.length ≤ k
theorem VL (m : List (Int × Int)) : MgP m 0 [] := ⟨Nat.zero_le _, trivial, fun c => by simp, (fun g h => by cases h), Nat.le_refl _⟩
theorem GY {m : List (Int × Int)} {k : Nat} (h : k < m.length) (c : Int) : InR c (m.take (k + 1)) ↔ InR c (m.take k) ∨ (m[k].1 ≤ c ∧ c ≤ m[k].2) := by
  rw [List.take_add_one, List.getElem?_eq_getElem h, Option.toList_some, mZ, kP]
section
variable {m : List (Int × Int)} {k : Nat} {o : List (Int × Int)}
theorem VM (h : MgP m k o) (hk : k < m.length) (hv : Vr m) (hs : ∀ i j (hij : i < j) (hj : j < m.length), m[i].1 ≤ m[j].1) (ho : o = [] ∨ ∃ o' g, o = o' ++ [g] ∧ ¬ m[k].1 ≤ g.2 + 1) : MgP m (k + 1) (o ++ [m[k]]) := by
  have hx := hv _ (List.getElem_mem hk)
  refine ⟨hk, ?_, fun c => ?_, fun g hg i hi hki => ?_, by rw [List.length_append]; have := h.len; simp; omega⟩
  · rcases ho with rfl | ⟨o', g, rfl, hn⟩
    · exact IK hx.1 hx.2.1 hx.2.2
    · exact ((II h.can (h.le g (by simp) k hk (Nat.le_refl _)) hx.2.1 hx.2.2).2 hn).1
  · rw [mZ, kP, GY hk, h.eq]
  · rcases List.mem_append.1 hg with hg | hg
    · exact h.le g hg i hi (by omega)
    · rw [List.mem_singleton.1 hg]; exact hs k i (by omega) hi
theorem mg_ext {o' : List (Int × Int)} {g : Int × Int} (h : MgP m k (o' ++ [g])) (hk : k < m.length) (hv : Vr m) (hn : m[k].1 ≤ g.2 + 1) : MgP m (k + 1) (o' ++ [(g.1, max g.2 m[k].2)]) := by
  have hx := hv _ (List.getElem_mem hk)
  have h1 := (II h.can (h.le g (by simp) k hk (Nat.le_refl _)) hx.2.1 hx.2.2).1 hn
  refine ⟨hk, h1.1, fun c => by rw [h1.2, GY hk, h.eq], fun g' hg i hi hki => ?_, by have := h.len; simp at this ⊢; omega⟩
  rcases List.mem_append.1 hg with hg | hg
  · exact h.le g' (by simp [hg]) i hi (by omega)
  · rw [List.mem_singleton.1 hg]; exact h.le g (by simp) i hi (by omega)
theorem mg_end (h : MgP m k o) (hk : m.length ≤ k) {l : List (Int × Int)} (hp : m.Perm l) {S : Int → Prop} (hS : ∀ c, InR c l ↔ S c) : o = jP S := by
  refine (uN h.can fun c => ?_).symm
  rw [h.eq, List.take_of_length_le hk, GZ hp, hS]
end
theorem KG (o : List (Int × Int)) (g : Int × Int) (z : Int) (j : Nat) (hj : j = 0 + o.length * 2 + 1) : (dA (o ++ [g])).set j (.int .i32 z) = dA (o ++ [(g.1, z)]) := by
  subst hj
  obtain ⟨a, b⟩ := g
  rw [oG, oG, List.set_append_right _ _ (by rw [iU]; omega), iU, show 0 + o.length * 2 + 1 - o.length * 2 = 1 by omega]
  rfl
theorem snoc_of {l : List (Int × Int)} (h : 0 < l.length) : ∃ o g, l = o ++ [g] ∧ o.length = l.length - 1 := by
  rcases List.eq_nil_or_concat l with rfl | ⟨o, g, rfl⟩
  · cases h
  · exact ⟨o, g, by simp, by simp⟩
structure MgG where
  k : Nat
  n : Nat
  o : List (Int × Int)
  sa : Option Addr
  sc : Nat
  so : Option Nat
structure MgI (w wr : World) (m : List (Int × Int)) (a1 : Option Addr) (c1 : Nat) (ob1 : Option Nat) (x : MgG) : Prop where
  p : MgP m x.k x.o
  cl : OwnS wr 135 2 a1 m.length c1 (dA m) ob1
  own : OwnS wr 135 2 x.sa x.n x.sc (dA x.o) x.so
  ge : Ge w x.so
  gc : Ge w ob1
  ap : Apart ob1 x.so
theorem yX {a b : Int} : (if a < b then b else a) = max a b := by omega
def RsOut (w w' : World) (v : Value) (S : Int → Prop) (n : Nat) : Prop := ∃ a c ob, v = .slice a (jP S).length c ∧ OwnS w' 135 2 a (jP S).length c (dA (jP S)) ob ∧ Ge w ob ∧ (jP S).length ≤ n ∧ tB (jP S) ∧ (∀ c, InR c (jP S) ↔ S c) ∧ Evo [] w w'
theorem vP {w : World} {a : Option Addr} {c : Nat} {l : List (Int × Int)} {ob : Option Nat} (hO : OwnS w 135 2 a l.length c (dA l) ob) (hv : Vr l) (hl : l.length ≤ 1000000) {S : Int → Prop} (hS : ∀ c, InR c l ↔ S c) :
    Calls Tryz.prog 154 #[.slice a l.length c] w (Ret fun v w' => RsOut w w' v S l.length) := by
  refine bD (N := 53) Tryz.func154 rfl rfl rfl ?_; refine csr (wan (csr (aD (aK (vs := [_]) sA rfl (CJ hO hl) rfl ?_)))); rintro _ w1 ⟨a1, c1, ob1, rfl, d1, hg1, d2⟩; refine wan (csr (aD (aK (vs := [_, _]) FD rfl (SV d1 hv hl) rfl ?_))); rintro _ w5 ⟨rfl, m, hpm, hsm, c0, d3⟩; have hml := hpm.length_eq; have hvm := ML hpm hv; rw [← hml] at c0; refine wnn (csr (wan (aI (csr (aD (aC (bH rfl Tryz.underlying68 rfl) ?_)))))); refine aD (wnn (bG (dC (α := MgG) (⟨0, 0, [], none, 0, none⟩) (fun x => [(3, .slice x.sa x.n x.sc), (13, .int .i64 (x.k : Nat))]) [(2, _), (11, _), (12, _)] (fun x wr => Evo [] w wr ∧ (MgI w wr m a1 c1 ob1 x)) (fun x => m.length - x.k) ⟨rfl, rfl, trivial⟩ ⟨rfl, rfl, rfl, trivial⟩ ⟨(((Evo.refl [] w).then d2).step d3 (Ge.fresh (Evo.refl [] w) hg1).mem), ⟨VL m, c0, OwnS.nil _ _ _, Ge.nil _, hg1, Apart.nil _⟩⟩ ?_))); rintro ⟨k, n, o, sa, sc, so⟩ wr8 ⟨a9, ⟨hp, hcl, hown, hge, hgc, hap⟩⟩; show CW _ _ _ _ [(3, .slice sa n sc), (13, .int .i64 (k : Nat)), (2, _), (11, _), (12, _)] _
  try dsimp only at hp hcl hown hge hgc hap
  have O := Evo.refl ([]) wr8; have hon := qF hown; have hpl := hp.len; have hpk := hp.hk
  try dsimp only at hpl hpk
  refine csr (aC (cX rfl rfl) ?_); refine wnn (aI (aX rfl (fun c4 => ?_) (fun c4 => ?_)))
  ·have hk' : k < m.length := by omega
   have hvk := hvm _ (List.getElem_mem hk'); obtain ⟨g1, hg1', ha1, d4⟩ := pL hcl hk'; refine aL (aB (aI (bG (csr ?_)))); refine aC (eT (n := k) rfl rfl ha1 eQ (by omega)) ?_; refine aC (dF rfl jU eX (vs := [_, _]) rfl (d4.evo O (by simp))) ?_; refine cK rfl lL fun d8 d9 c5 I J => ?_; have b4 := Apart.new (Lt.own hown) I; refine aW rfl rfl eX c5 rfl rfl ⟨by first | rfl | assumption, by first | rfl | assumption, trivial⟩ fun e0 D L => ?_; have U := (a9.then J).step L (Ge.new a9 I).mem1; have b5 := (O.then J).step L (Ge.new O I).mem1; have V := (hown.evo0 J).evo L b4.own1; have a0 := (hcl.evo0 J).evo L (Apart.new (Lt.own hcl) I).own1
   try simp only [cG, Nat.reduceAdd] at D
   refine wnn (aI (csr (aD (aC (bH rfl Tryz.underlying68 rfl) ?_)))); refine wan (aI ?_); refine eM (by kernel_rfl) (by kernel_rfl) ?_; refine bE (fun _ A => aY rfl) ?_; refine bE (fun _ A => gL rfl rfl) ?_; refine bE (fun _ A => aY rfl) ?_; refine kG (t := 21) rfl (fun c6 => ?_) (fun c6 => ?_)
   ·have h0 : 0 < o.length := by omega
    obtain ⟨o', q, hoq, hol⟩ := snoc_of h0; subst hoq
    have hol2 : (o' ++ [q]).length = o'.length + 1 := by simp
    have hqb := vY (x := q) hp.can; obtain ⟨gq, hgq, haq, hcq⟩ := pL hown (i := o'.length) (by omega); rw [List.getElem_concat_length (h := rfl)] at hcq; refine qlg ?_; refine bE (fun _ A => aA rfl eV) ?_; refine qlg ?_; refine bE (fun _ A => aU rfl cI (bA (A.blk0 D) rfl)) ?_; refine qlg ?_; refine bE (fun _ A => aY rfl) ?_; refine qlg ?_; refine bE (fun _ A => aY rfl) ?_; refine qlg ?_; refine bE (fun _ A => dL rfl rfl (by omega) (by omega)) ?_; refine qlg ?_; refine bE (fun _ A => eE (n := o'.length) rfl rfl haq (by omega) eQ (by omega)) ?_; refine qlg ?_; refine bE (fun _ A => aA rfl dW) ?_; refine qlg ?_; refine bE (fun _ A => aU rfl cI (((b5.then A)).cell (hcq 1 _ rfl) (by simp))) ?_; refine qlg ?_; refine bE (fun _ A => iW rfl rfl (by omega) (by omega)) ?_; refine qlg ?_; refine bE (fun _ A => fE rfl rfl) ?_; refine bE (fun _ A => gB rfl rfl) ?_; refine eS (fun c7 A => aB ?_); refine aX rfl (fun a3 => ?_) (fun a3 => ?_)
    ·refine aI ?_; refine fZ (fun w0 w' => Evo so.toList w0 w') (by kernel_rfl) (fun B F => ?_); have a4 := (V.evo0 A).evo0 F; refine aet 0 rfl (fun _ hS => aY rfl) (Evo.refl so.toList B) ?_; refine aet 1 rfl (fun _ hS => aY rfl) (Evo.refl so.toList B) ?_; refine aet 2 rfl (fun _ hS => dL rfl rfl (by omega) (by omega)) (Evo.refl so.toList B) ?_; refine aet 3 rfl (fun _ hS => aY rfl) (Evo.refl so.toList B) ?_; refine aet 4 rfl (fun _ hS => aY rfl) (Evo.refl so.toList B) ?_; refine aet 5 rfl (fun _ hS => dL rfl rfl (by omega) (by omega)) (Evo.refl so.toList B) ?_; refine aet 6 rfl (fun _ hS => eE (n := o'.length) rfl rfl haq (by omega) eQ (by omega)) (Evo.refl so.toList B) ?_; refine aet 7 rfl (fun _ hS => aA rfl dW) (Evo.refl so.toList B) ?_; refine aet 9 rfl (fun _ hS => aA rfl dW) (Evo.refl so.toList B) ?_; refine aet 10 rfl (fun _ hS => aU rfl cI (bA (hS.blk (F.blk0 (A.blk0 D)) (b4.symm.nmem)) rfl)) (Evo.refl so.toList B) ?_; refine bR [8] (by kernel_rfl) rfl ⟨?_, trivial⟩; refine bY rfl ?_
     refine aC (aU rfl cI ((((b5.then A).then F)).cell (hcq 1 _ rfl) (by simp))) ?_; refine aP (bN (.inl (Evo.refl so.toList B)) ?_); refine bR [11] (by kernel_rfl) rfl ⟨?_, trivial⟩; refine bY rfl ?_; refine aC (EH rfl rfl) ?_; refine aP (bN (.inl (Evo.refl so.toList B)) ?_); refine aet 12 rfl (fun _ hS => eE (n := o'.length) rfl rfl haq (by omega) eQ (by omega)) (Evo.refl so.toList B) ?_; refine aet 13 rfl (fun _ hS => aA rfl dW) (Evo.refl so.toList B) ?_; refine bR [14] (by kernel_rfl) rfl ⟨?_, trivial⟩; refine bY rfl ?_
     obtain ⟨g54, cur45, hg46, hx47, hcu48, hcs49, -⟩ := a4.at (by omega)
     rw [haq] at hx47; cases hx47
     refine gD rfl rfl (rfl) gP hcu48 (a4.inb hcs49 (k := o'.length) (j := 1) (by omega) (by omega) (by omega)) fun e1 c8 H => ?_; replace H := kD hg46 H; refine aP (bN (.inl ((Evo.refl so.toList B).step H (fun y hy => .inl hy))) ?_); refine dJ (by kernel_rfl) (aB ?_); refine cM (bK (cL (aB ?_))); refine aG ?_; refine aC (aJ rfl rfl (by omega) (by omega)) ?_; refine aD (aP (bB ?_)); refine ⟨⟨k + 1, n, o' ++ [(q.1, max q.2 m[k].2)], sa, sc, so⟩, ?_, ⟨rfl, rfl, trivial⟩, ⟨rfl, rfl, rfl, trivial⟩, (((U.then A).then F).step H hge.mem), ?_⟩
     · (try dsimp only); omega
     try dsimp only
     have c3 := (a4.set' hg46 hcu48 c8); rw [KG _ _ _ _ rfl, yX] at c3; exact ⟨mg_ext hp hk' hvm a3, (((a0.evo0 A).evo0 F).evo H hap.own), c3, hge, hgc, hap⟩
    refine aL (aB (aG (aD (aC (bV rfl jU eX (A.blk0 D) rfl) (bL (vs := [_]) rfl fV rfl rfl rfl rfl fun e2 e3 c9 d5 a5 => ?_))))); have b6 := (U.then A).then a5; have b7 := (a0.evo0 A).evo0 a5
    refine dB rfl rfl rfl rfl eW ((V.evo0 A).evo0 a5) (Src.ofOwn c9 ⟨by first | rfl | assumption, by first | rfl | assumption, trivial⟩) (by have := hp.len; omega) fun a2 c2 e4 ob2 b8 b9 hob81 => ?_
    refine bX (aP (aO (aB (aG ?_)))); refine aC (aJ rfl rfl (by omega) (by omega)) ?_; refine aD (aP (bB ?_)); refine ⟨⟨k + 1, n + 1, (o' ++ [q]) ++ [m[k]], a2, c2, ob2⟩, ?_, ⟨rfl, rfl, trivial⟩, ⟨rfl, rfl, rfl, trivial⟩, (b6.step b9 hge.mem), ?_⟩
    · (try dsimp only); omega
    try dsimp only
    refine ⟨VM hp hk' hvm hsm (.inr ⟨o', q, rfl, a3⟩), (b7.evo b9 hap.own), ?_, (hge.app b6 hob81), hgc, (hap.app (Lt.own b7) hob81)⟩
    rw [jL]; exact b8
   refine qln ?_; refine qln ?_; refine qln ?_; refine qln ?_; refine qln ?_; refine qln ?_; refine qln ?_; refine qln ?_; refine qln ?_; refine qln ?_; refine bE (fun _ A => gT rfl rfl) ?_; refine eS (fun c7 A => aB ?_); refine cS rfl ?_; refine aL (aB (aG (aD (aC (bV rfl jU eX (A.blk0 D) rfl) (bL (vs := [_]) rfl fV rfl rfl rfl rfl fun e5 e6 d0 d6 M => ?_))))); have a6 := (U.then A).then M; have a7 := (a0.evo0 A).evo0 M
   refine dB rfl rfl rfl rfl eW ((V.evo0 A).evo0 M) (Src.ofOwn d0 ⟨by first | rfl | assumption, by first | rfl | assumption, trivial⟩) (by have := hp.len; omega) fun a2 c2 d7 ob2 b8 a8 hob117 => ?_
   refine bX (aP (aO (aB (aG ?_)))); refine aC (aJ rfl rfl (by omega) (by omega)) ?_; refine aD (aP (bB ?_)); refine ⟨⟨k + 1, n + 1, o ++ [m[k]], a2, c2, ob2⟩, ?_, ⟨rfl, rfl, trivial⟩, ⟨rfl, rfl, rfl, trivial⟩, (a6.step a8 hge.mem), ?_⟩
   · (try dsimp only); omega
   try dsimp only
   refine ⟨VM hp hk' hvm hsm (.inl (List.length_eq_zero_iff.1 (by omega))), (a7.evo a8 hap.own), ?_, (hge.app a6 hob117), hgc, (hap.app (Lt.own a7) hob117)⟩
   rw [jL]; exact b8
  refine cM (bK (bK (cL (aB ?_)))); refine csr (aD (wan (aH (br1 ?_)))); have e := mg_end hp (by omega) hpm hS; subst e; subst hon; exact ⟨sa, sc, so, rfl, hown, hge, by omega, hp.can, fun c => by rw [hp.eq, List.take_of_length_le (by omega), GZ hpm, hS], a9⟩
theorem qT : dU Tryz.prog 154 := ⟨_, Tryz.func154, by kernel_rfl, by kernel_rfl⟩
structure NgG where
  k : Nat
  n : Nat
  o : List (Int × Int)
  nx : Int
  sa : Option Addr
  sc : Nat
  so : Option Nat
structure NgI (w wr : World) (m : List (Int × Int)) (a1 : Option Addr) (c1 : Nat) (ob1 : Option Nat) (x : NgG) : Prop where
  hk : x.k ≤ m.length
  eq : x.o ++ rS x.nx (m.drop x.k) = rS 0 m
  b0 : 0 ≤ x.nx
  b1 : x.nx ≤ 1114112
  len : x.n ≤ x.k
  cl : OwnS wr 135 2 a1 m.length c1 (dA m) ob1
  own : OwnS wr 135 2 x.sa x.n x.sc (dA x.o) x.so
  ge : Ge w x.so
  gc : Ge w ob1
  ap : Apart ob1 x.so
theorem QT (b : Int) {m : List (Int × Int)} {k : Nat} (h : k < m.length) : rS b (m.drop k) = (if b < m[k].1 then [(b, m[k].1 - 1)] else []) ++ rS (m[k].2 + 1) (m.drop (k + 1)) := by
  rw [List.drop_eq_getElem_cons h, rS]
theorem PD {m : List (Int × Int)} (h : tB m) : ∀ {k : Nat} (hk : k < m.length), 0 ≤ m[k].1 ∧ m[k].1 ≤ m[k].2 ∧ m[k].2 ≤ 1114111 := by
  have key : ∀ {m : List (Int × Int)} {b : Int}, 0 ≤ b → jA b m → ∀ {k : Nat} (hk : k < m.length), 0 ≤ m[k].1 ∧ m[k].1 ≤ m[k].2 ∧ m[k].2 ≤ 1114111 := by
    intro m
    induction m with
    | nil => intro b _ _ k hk; cases hk
    | cons g m ih =>
      intro b hb hc k hk
      rw [jA] at hc
      cases k with
      | zero => exact ⟨by show 0 ≤ g.1; omega, hc.2.1, hc.2.2.1⟩
      | succ k => exact ih (b := g.2 + 2) (by omega) hc.2.2.2 (by simpa using hk)
  intro k hk
  exact key (Int.le_refl _) h hk
theorem vW {m : List (Int × Int)} (h : tB m) : Vr m := fun g hg => by
  obtain ⟨k, hk, rfl⟩ := List.getElem_of_mem hg
  exact PD h hk
theorem BR {m : List (Int × Int)} {S : Int → Prop} (h : tB m) (hS : ∀ c, InR c m ↔ S c) : tB (rS 0 m) ∧ (∀ c, InR c (rS 0 m) ↔ vO S c) ∧ rS 0 m = jP (vO S) := by
  obtain ⟨h1, h2⟩ := EA (b := 0) (d := 0) (Int.le_refl _) (Int.le_refl _) h
  have h3 : ∀ c, InR c (rS 0 m) ↔ vO S c := fun c => by rw [h2, hS]; exact Iff.rfl
  exact ⟨h1, h3, (uN h1 h3).symm⟩
theorem lZ {w : World} {a : Option Addr} {c : Nat} {l : List (Int × Int)} {ob : Option Nat} (hO : OwnS w 135 2 a l.length c (dA l) ob) (hv : Vr l) (hl : l.length ≤ 1000000) {S : Int → Prop} (hS : ∀ c, InR c l ↔ S c) :
    Calls Tryz.prog 150 #[.slice a l.length c] w (Ret fun v w' => RsOut w w' v (vO S) (l.length + 1)) := by
  refine bD (N := 38) Tryz.func150 rfl rfl rfl ?_; refine csr (wan (csr (wan (csr (wan (aI (csr ?_))))))); refine aD (aK (vs := [_]) qT rfl (vP hO hv hl hS) rfl ?_); rintro _ w1 ⟨a1, c1, ob1, rfl, b6, hg1, hml, hcan, heqS, b7⟩
  generalize hm : jP S = m at *
  refine aC (bH rfl Tryz.underlying68 rfl) ?_; refine aD (wnn (bG ?_))
  refine dC (α := NgG) (⟨0, 0, [], 0, none, 0, none⟩) (fun x => [(3, .slice x.sa x.n x.sc), (10, .int .i64 (x.k : Nat)), (4, .int .i32 x.nx)]) [(2, _), (8, _), (9, _)] (fun x wr => Evo [] w wr ∧ (NgI w wr m a1 c1 ob1 x)) (fun x => m.length - x.k) ⟨rfl, rfl, rfl, trivial⟩ ⟨rfl, rfl, rfl, trivial⟩ ⟨((Evo.refl [] w).then b7), ⟨Nat.zero_le _, rfl, Int.le_refl _, (by show (0 : Int) ≤ 1114112; omega), Nat.le_refl _, b6, OwnS.nil _ _ _, Ge.nil _, hg1, Apart.nil _⟩⟩ ?_
  rintro ⟨k, n, o, nx, sa, sc, so⟩ wr5 ⟨H, ⟨hk, heq, hb0, hb1, hlen, hcl, hown, hge, hgc, hap⟩⟩; show CW _ _ _ _ [(3, .slice sa n sc), (10, .int .i64 (k : Nat)), (4, .int .i32 nx), (2, _), (8, _), (9, _)] _
  try dsimp only at hk heq hb0 hb1 hlen hcl hown hge hgc hap
  refine csr (aC (cX rfl rfl) ?_); refine wnn (aI (aX rfl (fun a5 => ?_) (fun a5 => ?_)))
  ·have hk' : k < m.length := by omega
   have hmk := PD hcan hk'; obtain ⟨g1, hg1', ha1, b9⟩ := pL hcl hk'; have hgc0 := QT nx hk'; refine aL (aB (aI (bG (csr ?_)))); refine aC (eT (n := k) rfl rfl ha1 eQ (by omega)) ?_; refine aC (dF rfl jU eX (vs := [_, _]) rfl (b9.evo (Evo.refl ([]) wr5) (by simp))) ?_; refine cK rfl lL fun b8 w9 a6 I J => ?_; have a0 := Apart.new (Lt.own hown) I; refine aW rfl rfl eX a6 rfl rfl ⟨by first | rfl | assumption, by first | rfl | assumption, trivial⟩ fun c4 D L => ?_; have M := (H.then J).step L (Ge.new H I).mem1; have a3 := (hown.evo0 J).evo L a0.own1; have O := (hcl.evo0 J).evo L (Apart.new (Lt.own hcl) I).own1
   try simp only [cG, Nat.reduceAdd] at D
   refine wnn (aI (csr (wfl rfl eV rfl cI D rfl (aD (aC (gL rfl rfl) ?_))))); refine wnn (aX rfl (fun a7 => ?_) (fun a7 => ?_))
   ·refine aG (aD (aD (wfl rfl eV rfl cI D rfl ?_))); refine aC (LP rfl rfl (by omega) (by omega)) ?_; refine aC (cC (vs := [(0, _), (1, _)]) jH rfl (cells := [_, _]) rfl) ?_; refine bL (vs := [_]) rfl fV rfl rfl rfl rfl fun c5 c6 a8 c0 B => ?_; refine dB rfl rfl rfl rfl eW (a3.evo0 B) (Src.ofOwn a8 ⟨by first | rfl | assumption, by first | rfl | assumption, trivial⟩) (by omega) fun a2 c2 c7 ob2 a4 U hob49 => ?_; refine wan (aG (wfl rfl dW rfl cI (U.blk (B.blk0 D) a0.symm.nmem) rfl ?_)); refine aC (iW rfl rfl (by omega) (by omega)) ?_; refine bX (aP (aO (aB (aG ?_)))); refine aC (aJ rfl rfl (by omega) (by omega)) ?_; refine aD (aP (bB ?_)); refine ⟨⟨k + 1, n + 1, o ++ [(nx, m[k].1 - 1)], m[k].2 + 1, a2, c2, ob2⟩, ?_, ⟨rfl, rfl, rfl, trivial⟩, ⟨rfl, rfl, rfl, trivial⟩, ((M.then B).step U hge.mem), ?_⟩
    · (try dsimp only); omega
    try dsimp only
    refine ⟨hk', ?_, (by show 0 ≤ m[k].2 + 1; omega), (by show m[k].2 + 1 ≤ 1114112; omega), (by show n + 1 ≤ k + 1; omega), ((O.evo0 B).evo U hap.own), ?_, (hge.app (M.then B) hob49), hgc, (hap.app (Lt.own (O.evo0 B)) hob49)⟩
    · rw [← heq, hgc0, if_pos (by omega), List.append_assoc]
    · rw [oG]; exact a4
   refine aL (aB (aG (wfl rfl dW rfl cI D rfl ?_))); refine aC (iW rfl rfl (by omega) (by omega)) ?_; refine bX (aP (aO (aB (aG ?_)))); refine aC (aJ rfl rfl (by omega) (by omega)) ?_; refine aD (aP (bB ?_)); refine ⟨⟨k + 1, n, o, m[k].2 + 1, sa, sc, so⟩, ?_, ⟨rfl, rfl, rfl, trivial⟩, ⟨rfl, rfl, rfl, trivial⟩, M, ?_⟩
   · (try dsimp only); omega
   try dsimp only
   refine ⟨hk', ?_, (by show 0 ≤ m[k].2 + 1; omega), (by show m[k].2 + 1 ≤ 1114112; omega), (by show n ≤ k + 1; omega), O, a3, hge, hgc, hap⟩
   rw [← heq, hgc0, if_neg (by omega), List.nil_append]
  refine cM (bK (bK (cL (aB ?_)))); refine aI (csr (aD (aC (fE rfl rfl) ?_))); refine wnn (aX rfl (fun a9 => ?_) (fun a9 => ?_))
  ·refine aG (aD (aD (aC (cC (vs := [(0, _), (1, _)]) jH rfl (cells := [_, _]) rfl) ?_))); refine bL (vs := [_]) rfl fV rfl rfl rfl rfl fun c8 c9 b4 c3 V => ?_; refine dB rfl rfl rfl rfl eW (hown.evo0 V) (Src.ofOwn b4 ⟨by first | rfl | assumption, by first | rfl | assumption, trivial⟩) (by omega) fun a2 c2 d0 ob2 a4 b5 hob78 => ?_; refine wan (csr (aD (wan (aH (br1 ?_))))); obtain ⟨h1, h2, h3⟩ := BR hcan heqS; rw [List.drop_eq_nil_of_le (by omega), rS, if_pos (by omega)] at heq; have A : OwnS _ _ 2 _ _ _ (dA o ++ dA [(nx, 1114111)]) _ := a4; rw [← jL, heq] at A; have F := qF A; rw [h3] at A F h1 h2
   exact ⟨a2, c2, ob2, by rw [F], by rw [← F]; exact A, (hge.app (H.then V) hob78), by omega, h1, h2, ((H.then V).step b5 hge.mem)⟩
  refine aL (aB (csr (aD (wan (aH (br1 ?_)))))); obtain ⟨h1, h2, h3⟩ := BR hcan heqS; rw [List.drop_eq_nil_of_le (by omega), rS, if_neg (by omega), List.append_nil] at heq; have A := hown; rw [heq] at A; have F := qF A; rw [h3] at A F h1 h2
  exact ⟨sa, sc, so, by rw [F], by rw [← F]; exact A, hge, by omega, h1, h2, H⟩
mutual
def OT : Rx → World → List Value → List Nat → Prop
  | .mk k r rs mn mx lz cp nm ks, w, vs, bs => ∃ (ra : Option Addr) (rc : Nat) (rb : Option Nat) (ka : Option Addr) (kc : Nat) (kb : Option Nat) (cs : List Value) (bk : List Nat),
    vs = [iv k, .int .i32 r, .slice ra rs.length rc, iv mn, iv mx, .bool lz, iv cp, .string nm, .slice ka ks.length kc] ∧ OwnS w 135 2 ra rs.length rc (dA rs) rb ∧ OwnS w 71 9 ka ks.length kc cs kb ∧ OTs ks w cs bk ∧
    bs = rb.toList ++ (kb.toList ++ bk) ∧ rs.length ≤ 1000000 ∧ nm.size ≤ 1000000 ∧ ks.length ≤ 1000000
def OTs : List Rx → World → List Value → List Nat → Prop
  | [], _, cs, bs => cs = [] ∧ bs = []
  | x :: l, w, cs, bs => ∃ (vs cs' : List Value) (b1 b2 : List Nat), cs = vs ++ cs' ∧ bs = b1 ++ b2 ∧ OT x w vs b1 ∧ OTs l w cs' b2
end
theorem DK {w : World} {e : TypeId} {sz : Nat} {a : Option Addr} {n c : Nat} {xs : List Value} {ob : Option Nat} (h : OwnS w e sz a n c xs ob) : ∀ b, b ∈ ob.toList → b < w.heap.size := fun b hb => by
  cases ob with
  | none => cases hb
  | some g => rw [List.mem_singleton.1 hb]; exact h.lt
mutual
theorem OT.evo : ∀ {x : Rx} {w w' : World} {vs : List Value} {bs X : List Nat}, OT x w vs bs → Evo X w w' → (∀ b, b ∈ bs → b ∉ X) → OT x w' vs bs
  | .mk k r rs mn mx lz cp nm ks, w, w', vs, bs, X, h, he, hx => by
    rw [OT] at h ⊢
    obtain ⟨ra, rc, rb, ka, kc, kb, cs, bk, h1, h2, h3, h4, rfl, h5⟩ := h
    exact ⟨ra, rc, rb, ka, kc, kb, cs, bk, h1, h2.evo he (fun g hg => hx g (by simp [hg])), h3.evo he (fun g hg => hx g (by simp [hg])), OTs.evo h4 he (fun b hb => hx b (by simp [hb])), rfl, h5⟩
theorem OTs.evo : ∀ {l : List Rx} {w w' : World} {cs : List Value} {bs X : List Nat}, OTs l w cs bs → Evo X w w' → (∀ b, b ∈ bs → b ∉ X) → OTs l w' cs bs
  | [], w, w', cs, bs, X, h, he, hx => by rw [OTs] at h ⊢; exact h
  | x :: l, w, w', cs, bs, X, h, he, hx => by
    rw [OTs] at h ⊢
    obtain ⟨vs, cs', b1, b2, h1, rfl, h3, h4⟩ := h
    exact ⟨vs, cs', b1, b2, h1, rfl, OT.evo h3 he (fun b hb => hx b (by simp [hb])), OTs.evo h4 he (fun b hb => hx b (by simp [hb]))⟩
end
mutual
theorem OT.lt : ∀ {x : Rx} {w : World} {vs : List Value} {bs : List Nat}, OT x w vs bs → ∀ b, b ∈ bs → b < w.heap.size
  | .mk k r rs mn mx lz cp nm ks, w, vs, bs, h => by
    rw [OT] at h
    obtain ⟨ra, rc, rb, ka, kc, kb, cs, bk, h1, h2, h3, h4, rfl, h5⟩ := h
    intro b hb
    rcases List.mem_append.1 hb with hb | hb
    · exact DK h2 b hb
    · rcases List.mem_append.1 hb with hb | hb
      · exact DK h3 b hb
      · exact OTs.lt h4 b hb
theorem OTs.lt : ∀ {l : List Rx} {w : World} {cs : List Value} {bs : List Nat}, OTs l w cs bs → ∀ b, b ∈ bs → b < w.heap.size
  | [], w, cs, bs, h => by rw [OTs] at h; rw [h.2]; exact fun b hb => by cases hb
  | x :: l, w, cs, bs, h => by
    rw [OTs] at h
    obtain ⟨vs, cs', b1, b2, h1, rfl, h3, h4⟩ := h
    intro b hb
    rcases List.mem_append.1 hb with hb | hb
    · exact OT.lt h3 b hb
    · exact OTs.lt h4 b hb
end
theorem OT.nine {x : Rx} {w : World} {vs : List Value} {bs : List Nat} (h : OT x w vs bs) : ∃ ra rc ka kc, vs = [iv x.kind, .int .i32 x.r, .slice ra x.ranges.length rc, iv x.min, iv x.max, .bool x.lazy, iv x.cap, .string x.name, .slice ka x.kids.length kc] := by
  cases x with
  | mk k r rs mn mx lz cp nm ks =>
    rw [OT] at h
    obtain ⟨ra, rc, rb, ka, kc, kb, cs, bk, h1, _⟩ := h
    exact ⟨ra, rc, ka, kc, h1⟩
theorem OT.len {x : Rx} {w : World} {vs : List Value} {bs : List Nat} (h : OT x w vs bs) : vs.length = 9 := by
  obtain ⟨ra, rc, ka, kc, rfl⟩ := h.nine; rfl
theorem OT.one {x : Rx} {w : World} {vs : List Value} {bs : List Nat} (h : OT x w vs bs) : AllOne vs := by
  obtain ⟨ra, rc, ka, kc, rfl⟩ := h.nine; exact ⟨rfl, rfl, rfl, rfl, rfl, rfl, rfl, rfl, rfl, trivial⟩
theorem zR : ∀ {l m : List Value}, AllOne l → AllOne m → AllOne (l ++ m)
  | [], m, _, h => h
  | v :: l, m, h, h2 => ⟨h.1, zR h.2 h2⟩
theorem OTs.len : ∀ {l : List Rx} {w : World} {cs : List Value} {bs : List Nat}, OTs l w cs bs → cs.length = l.length * 9
  | [], w, cs, bs, h => by rw [OTs] at h; rw [h.1]; rfl
  | x :: l, w, cs, bs, h => by
    rw [OTs] at h
    obtain ⟨vs, cs', b1, b2, rfl, rfl, h3, h4⟩ := h
    rw [List.length_append, h3.len, OTs.len h4, List.length_cons]; omega
theorem OTs.one : ∀ {l : List Rx} {w : World} {cs : List Value} {bs : List Nat}, OTs l w cs bs → AllOne cs
  | [], w, cs, bs, h => by rw [OTs] at h; rw [h.1]; trivial
  | x :: l, w, cs, bs, h => by
    rw [OTs] at h
    obtain ⟨vs, cs', b1, b2, rfl, rfl, h3, h4⟩ := h
    exact zR h3.one (OTs.one h4)
theorem OTs.nil (w : World) : OTs [] w [] [] := by rw [OTs]; exact ⟨rfl, rfl⟩
theorem OTs.single {x : Rx} {w : World} {vs : List Value} {bs : List Nat} (h : OT x w vs bs) : OTs [x] w vs bs := by
  rw [OTs]; exact ⟨vs, [], bs, [], by simp, by simp, h, OTs.nil w⟩
theorem OTs.app : ∀ {l m : List Rx} {w : World} {cs cs' : List Value} {bs bs' : List Nat}, OTs l w cs bs → OTs m w cs' bs' → OTs (l ++ m) w (cs ++ cs') (bs ++ bs')
  | [], m, w, cs, cs', bs, bs', h, h2 => by rw [OTs] at h; rw [h.1, h.2]; exact h2
  | x :: l, m, w, cs, cs', bs, bs', h, h2 => by
    rw [OTs] at h
    obtain ⟨vs, ct, b1, b2, rfl, rfl, h3, h4⟩ := h
    show OTs (x :: (l ++ m)) w _ _
    rw [OTs]
    exact ⟨vs, ct ++ cs', b1, b2 ++ bs', List.append_assoc .., List.append_assoc .., h3, OTs.app h4 h2⟩
theorem OTs.parts : ∀ {l m : List Rx} {w : World} {cs : List Value} {bs : List Nat}, OTs (l ++ m) w cs bs → ∃ c1 c2 b1 b2, cs = c1 ++ c2 ∧ bs = b1 ++ b2 ∧ OTs l w c1 b1 ∧ OTs m w c2 b2
  | [], m, w, cs, bs, h => ⟨[], cs, [], bs, rfl, rfl, OTs.nil w, h⟩
  | x :: l, m, w, cs, bs, h => by
    have h' : OTs (x :: (l ++ m)) w cs bs := h
    rw [OTs] at h'
    obtain ⟨vs, ct, b1, b2, rfl, rfl, h3, h4⟩ := h'
    obtain ⟨c1, c2, d1, d2, rfl, rfl, h5, h6⟩ := OTs.parts h4
    exact ⟨vs ++ c1, c2, b1 ++ d1, d2, (List.append_assoc ..).symm, (List.append_assoc ..).symm, by rw [OTs]; exact ⟨vs, c1, b1, d1, rfl, rfl, h3, h5⟩, h6⟩
theorem OTs.one' {x : Rx} {w : World} {cs : List Value} {bs : List Nat} (h : OTs [x] w cs bs) : OT x w cs bs := by
  rw [OTs] at h
  obtain ⟨vs, ct, b1, b2, rfl, rfl, h3, h4⟩ := h
  rw [OTs] at h4
  rw [h4.1, h4.2, List.append_nil, List.append_nil]; exact h3
structure Fr (w : World) (bs : List Nat) : Prop where
  nd : bs.Nodup
  ge : ∀ b, b ∈ bs → w.heap.size ≤ b
theorem Fr.nil (w : World) : Fr w [] := ⟨List.nodup_nil, fun b h => by cases h⟩
theorem Fr.app {w w1 : World} {b1 b2 : List Nat} (h1 : Fr w b1) (h2 : Fr w1 b2) (hw : w.heap.size ≤ w1.heap.size) (hl : ∀ b, b ∈ b1 → b < w1.heap.size) : Fr w (b1 ++ b2) where
  nd := List.nodup_append.2 ⟨h1.nd, h2.nd, fun a ha b hb e => by have := hl a ha; have := h2.ge b hb; omega⟩
  ge := fun b hb => by
    rcases List.mem_append.1 hb with hb | hb
    · exact h1.ge b hb
    · have := h2.ge b hb; omega
theorem Fr.older {w w1 : World} {bs : List Nat} (h : Fr w1 bs) (hw : w.heap.size ≤ w1.heap.size) : Fr w bs := ⟨h.nd, fun b hb => Nat.le_trans hw (h.ge b hb)⟩
def TOut (w w' : World) (v : Value) (x : Rx) : Prop := ∃ vs bs, v = .agg vs.toArray ∧ OT x w' vs bs ∧ Fr w bs
theorem ge_fr {w : World} {ob : Option Nat} (h : Ge w ob) : Fr w ob.toList := by
  cases ob with
  | none => exact Fr.nil w
  | some g => exact ⟨List.nodup_cons.2 ⟨by simp, List.nodup_nil⟩, fun b hb => by rw [List.mem_singleton.1 hb]; exact h g rfl⟩
theorem qG (k : Int) (w : World) : OT (rxK k) w [iv k, .int .i32 0, .slice none 0 0, iv 0, iv 0, .bool false, iv 0, .string ByteArray.empty, .slice none 0 0] [] := by
  unfold rxK
  rw [OT]
  exact ⟨none, 0, none, none, 0, none, [], [], rfl, OwnS.nil _ _ _, OwnS.nil _ _ _, OTs.nil w, rfl, by simp, by show (0 : Nat) ≤ 1000000; omega, by simp⟩
theorem ot_lit (c : Int) (w : World) : OT (dK c) w [iv 2, .int .i32 c, .slice none 0 0, iv 0, iv 0, .bool false, iv 0, .string ByteArray.empty, .slice none 0 0] [] := by
  unfold dK
  rw [OT]
  exact ⟨none, 0, none, none, 0, none, [], [], rfl, OwnS.nil _ _ _, OwnS.nil _ _ _, OTs.nil w, rfl, by simp, by show (0 : Nat) ≤ 1000000; omega, by simp⟩
theorem UN {l : List (Int × Int)} {w : World} {a : Option Addr} {n c : Nat} {ob : Option Nat} (h : OwnS w 135 2 a n c (dA l) ob) (hl : l.length ≤ 1000000) : OT (uD l) w [iv 3, .int .i32 0, .slice a n c, iv 0, iv 0, .bool false, iv 0, .string ByteArray.empty, .slice none 0 0] ob.toList := by
  obtain rfl := qF h
  unfold uD
  rw [OT]
  exact ⟨a, c, ob, none, 0, none, [], [], rfl, h, OwnS.nil _ _ _, OTs.nil w, by simp, hl, by show (0 : Nat) ≤ 1000000; omega, by simp⟩
theorem JM : kU Tryz.prog 227 = some true := by kernel_rfl
theorem nA : fR Tryz.prog 227 = some 2 := by kernel_rfl
theorem qN : mH Tryz.prog 227 = some #[.int .i32 0, .int .i32 0] := by kernel_rfl
theorem ET : mH Tryz.prog 228 = some #[.int .i32 0, .int .i32 0, .int .i32 0, .int .i32 0] := by kernel_rfl
def pP (j : Nat) : Int × Int := if j = 0 then (65, 32) else (97, -32)
theorem VY (j : Nat) : (pP j).1 = 65 ∧ (pP j).2 = 32 ∨ (pP j).1 = 97 ∧ (pP j).2 = -32 := by
  unfold pP
  split
  · exact .inl ⟨rfl, rfl⟩
  · exact .inr ⟨rfl, rfl⟩
def mM (h x : Int × Int) : List (Int × Int) := if max x.1 h.1 ≤ min x.2 (h.1 + 25) then [(max x.1 h.1 + h.2, min x.2 (h.1 + 25) + h.2)] else []
def pQ (x : Int × Int) : Nat → List (Int × Int)
  | 0 => []
  | j + 1 => pQ x j ++ mM (pP j) x
def rE (l : List (Int × Int)) : List (Int × Int) := l.flatMap fun x => pQ x 2
theorem HH {h x : Int × Int} {c : Int} : InR c (mM h x) ↔ (h.1 + h.2 ≤ c ∧ c ≤ h.1 + 25 + h.2 ∧ x.1 ≤ c - h.2 ∧ c - h.2 ≤ x.2) := by
  unfold mM
  split
  · rw [kP]; show max x.1 h.1 + h.2 ≤ c ∧ c ≤ min x.2 (h.1 + 25) + h.2 ↔ _; omega
  · refine ⟨fun h => (kJ c h).elim, fun h => ?_⟩
    omega
theorem zB {x : Int × Int} {c : Int} : InR c (pQ x 2) ↔ (97 ≤ c ∧ c ≤ 122 ∧ x.1 ≤ c - 32 ∧ c - 32 ≤ x.2) ∨ (65 ≤ c ∧ c ≤ 90 ∧ x.1 ≤ c + 32 ∧ c + 32 ≤ x.2) := by
  show InR c ((([] : List (Int × Int)) ++ mM (65, 32) x) ++ mM (97, -32) x) ↔ _
  rw [List.nil_append, mZ, HH, HH]
  show (65 + 32 ≤ c ∧ c ≤ 65 + 25 + 32 ∧ x.1 ≤ c - 32 ∧ c - 32 ≤ x.2) ∨ (97 + -32 ≤ c ∧ c ≤ 97 + 25 + -32 ∧ x.1 ≤ c - -32 ∧ c - -32 ≤ x.2) ↔ _
  omega
theorem foldL_in {l : List (Int × Int)} {c : Int} : InR c (l ++ rE l) ↔ oM (fun c => InR c l) c := by
  rw [mZ]
  unfold oM rE
  constructor
  · rintro (h | ⟨g, hg, h⟩)
    · exact .inl h
    · obtain ⟨x, hx, hgx⟩ := List.mem_flatMap.1 hg
      have h2 := zB.1 ⟨g, hgx, h⟩
      rcases h2 with h2 | h2
      · exact .inr (.inl ⟨h2.1, h2.2.1, x, hx, h2.2.2⟩)
      · exact .inr (.inr ⟨h2.1, h2.2.1, x, hx, h2.2.2⟩)
  · rintro (h | ⟨h1, h2, x, hx, h3⟩ | ⟨h1, h2, x, hx, h3⟩)
    · exact .inl h
    · obtain ⟨g, hg, h4⟩ := zB.2 (.inl ⟨h1, h2, h3⟩)
      exact .inr ⟨g, List.mem_flatMap.2 ⟨x, hx, hg⟩, h4⟩
    · obtain ⟨g, hg, h4⟩ := zB.2 (.inr ⟨h1, h2, h3⟩)
      exact .inr ⟨g, List.mem_flatMap.2 ⟨x, hx, hg⟩, h4⟩
theorem HF {j : Nat} {x : Int × Int} : Vr (mM (pP j) x) := fun g hg => by
  have hc := VY j
  unfold mM at hg
  split at hg
  · rw [List.mem_singleton.1 hg]
    show 0 ≤ max x.1 (pP j).1 + (pP j).2 ∧ max x.1 (pP j).1 + (pP j).2 ≤ min x.2 ((pP j).1 + 25) + (pP j).2 ∧ _ ≤ (1114111 : Int)
    omega
  · cases hg
theorem WF {l : List (Int × Int)} : Vr (rE l) := fun g hg => by
  obtain ⟨x, hx, hgx⟩ := List.mem_flatMap.1 hg
  have hgx' : g ∈ (([] : List (Int × Int)) ++ mM (pP 0) x) ++ mM (pP 1) x := hgx
  rw [List.nil_append] at hgx'
  rcases List.mem_append.1 hgx' with h | h
  · exact HF g h
  · exact HF g h
theorem LK {l : List (Int × Int)} {k : Nat} (h : k < l.length) : rE (l.take (k + 1)) = rE (l.take k) ++ pQ l[k] 2 := by
  unfold rE
  rw [List.take_add_one, List.getElem?_eq_getElem h, List.flatMap_append]; simp
theorem QW (h x : Int × Int) : (mM h x).length ≤ 1 := by unfold mM; split <;> simp
theorem BY (x : Int × Int) : ∀ j, (pQ x j).length ≤ j
  | 0 => Nat.le_refl _
  | j + 1 => by rw [pQ, List.length_append]; have := BY x j; have := QW (pP j) x; omega
structure FoG where
  k : Nat
  n : Nat
  sa : Option Addr
  sc : Nat
  so : Option Nat
structure FoI (w wr : World) (l o : List (Int × Int)) (a : Option Addr) (c : Nat) (ob : Option Nat) (x : FoG) (m : Nat) : Prop where
  hk : x.k ≤ m
  cl : OwnS wr 135 2 a l.length c (dA l) ob
  own : OwnS wr 135 2 x.sa x.n x.sc (dA o) x.so
  ge : Ge w x.so
  ap : Apart ob x.so
structure FiG where
  j : Nat
  n2 : Nat
  sa2 : Option Addr
  sc2 : Nat
  so2 : Option Nat
structure FiI (w wr : World) (l o : List (Int × Int)) (a : Option Addr) (c : Nat) (ob : Option Nat) (q : Nat) (g : Int × Int) (x : FiG) : Prop where
  hj : x.j ≤ 2
  cl : OwnS wr 135 2 a l.length c (dA l) ob
  own : OwnS wr 135 2 x.sa2 x.n2 x.sc2 (dA o) x.so2
  ge : Ge w x.so2
  ap : Apart ob x.so2
  b5 : wr.heap[q]? = some (.cells #[.int .i32 g.1, .int .i32 g.2] 135 (0, 0))
  s5 : Ge w (some q)
  ap5 : Apart (some q) x.so2
theorem BZ {h x : Int × Int} (hc : max x.1 h.1 ≤ min x.2 (h.1 + 25)) : mM h x = [(max x.1 h.1 + h.2, min x.2 (h.1 + 25) + h.2)] := by unfold mM; rw [if_pos hc]
theorem HG {h x : Int × Int} (hc : ¬ max x.1 h.1 ≤ min x.2 (h.1 + 25)) : mM h x = [] := by unfold mM; rw [if_neg hc]
theorem yW {a b : Int} : (if b < a then b else a) = min a b := by omega
theorem JQ {l m : List (Int × Int)} (h : Vr l) (h2 : Vr m) : Vr (l ++ m) := fun g hg => (List.mem_append.1 hg).elim (h g) (h2 g)
theorem vS : ∀ l : List (Int × Int), (rE l).length ≤ 2 * l.length
  | [] => Nat.le_refl _
  | x :: l => by
    have h1 : rE (x :: l) = pQ x 2 ++ rE l := List.flatMap_cons
    rw [h1, List.length_append, List.length_cons]; have := vS l; have := BY x 2; omega
theorem RsOut.evo {w w' : World} {v : Value} {S : Int → Prop} {n : Nat} (h : RsOut w w' v S n) : Evo [] w w' := by obtain ⟨_, _, _, _, _, _, _, _, _, h⟩ := h; exact h
theorem HD {S T : Int → Prop} (h : ∀ c, S c ↔ T c) (c : Int) : oM S c ↔ oM T c := by unfold oM; rw [h, h, h]
theorem QD {j : Nat} (hj : j < 2) (w : World) : (part 227 #[.int .i32 65, .int .i32 32, .int .i32 97, .int .i32 (-32)] (j * 2)).run Tryz.prog w = .ok (.agg #[.int .i32 (pP j).1, .int .i32 (pP j).2]) w := by
  rw [PT w JM nA]
  match j, hj with
  | 0, _ => rfl
  | 1, _ => rfl
theorem BX {w : World} {a : Option Addr} {c : Nat} {l : List (Int × Int)} {ob : Option Nat} (hO : OwnS w 135 2 a l.length c (dA l) ob) (hv : Vr l) (hl : l.length ≤ 300000) {S : Int → Prop} (hS : ∀ c, InR c l ↔ S c) :
    Calls Tryz.prog 149 #[.slice a l.length c] w (Ret fun v w' => RsOut w w' v (oM S) (3 * l.length)) := by
  refine bD (N := 54) Tryz.func149 rfl rfl rfl ?_; refine csr (wan (csr (aD ?_))); refine aK (vs := [_]) sA rfl (CJ hO (by omega)) rfl ?_; rintro _ w1 ⟨a1, c1, ob1, rfl, d4, hg1, c6⟩; refine wan (aI (csr (aD (aC (bH rfl Tryz.underlying68 rfl) ?_)))); refine aD (wnn (bG ?_))
  refine dC (α := FoG) (⟨0, l.length, a1, c1, ob1⟩) (fun x => [(3, .slice x.sa x.n x.sc), (14, .int .i64 (x.k : Nat))]) [(2, _), (12, _), (13, _)] (fun x wr => Evo [] w wr ∧ (FoI w wr l (l ++ rE (l.take x.k)) a c ob x l.length ∧ x.n ≤ l.length + 2 * x.k)) (fun x => l.length - x.k) ⟨rfl, rfl, trivial⟩ ⟨rfl, rfl, rfl, trivial⟩ ⟨((Evo.refl [] w).then c6), ⟨⟨Nat.zero_le _, (hO.evo0 c6), by simp [rE]; exact d4, hg1, (Apart.fresh (Lt.own hO) hg1)⟩, Nat.le_refl _⟩⟩ ?_
  rintro ⟨k, n, sa, sc, so⟩ wr7 ⟨a7, ⟨⟨hk, hcl, hown, hge, hap⟩, hnl⟩⟩; show CW _ _ _ _ [(3, .slice sa n sc), (14, .int .i64 (k : Nat)), (2, _), (12, _), (13, _)] _
  try dsimp only at hk hcl hown hge hap hnl
  refine csr (aC (cX rfl rfl) ?_); refine wnn (aI (aX rfl (fun c7 => ?_) (fun c7 => ?_)))
  ·have hk' : k < l.length := by omega
   have hlk := hv _ (List.getElem_mem hk'); obtain ⟨g1, hg1', ha1, d5⟩ := pL hcl hk'; refine aL (aB (aI (bG (csr ?_)))); refine aC (eT (n := k) rfl rfl ha1 eQ (by omega)) ?_; refine aC (dF rfl jU eX (vs := [_, _]) rfl (d5.evo (Evo.refl ([]) wr7) (by simp))) ?_; refine cK rfl lL fun b5 e3 c8 M a8 => ?_; have d6 := M; have b9 := Apart.new (Lt.own hown) M; refine aW rfl rfl eX c8 rfl rfl ⟨by first | rfl | assumption, by first | rfl | assumption, trivial⟩ fun e4 c0 b4 => ?_
   try simp only [cG, Nat.reduceAdd] at c0
   refine wnn (csr ?_); refine aC (sU (vs := [(0, _), (1, _)]) Tryz.underlying227 qN gP rfl (cells := #[.int .i32 65, .int .i32 32]) (by kernel_rfl)) ?_; refine aC (sU (vs := [(0, _), (1, _)]) Tryz.underlying227 qN gP rfl (cells := #[.int .i32 97, .int .i32 (-32)]) (by kernel_rfl)) ?_; refine aC (sU (vs := [(0, _), (1, _)]) Tryz.underlying228 ET nA rfl (cells := #[.int .i32 65, .int .i32 32, .int .i32 97, .int .i32 (-32)]) (by kernel_rfl)) ?_; refine aD (wnn (bG ?_))
   refine dC (α := FiG) (⟨0, n, sa, sc, so⟩) (fun x => [(3, .slice x.sa2 x.n2 x.sc2), (21, .int .i64 (x.j : Nat))]) [(2, _), (5, _), (12, _), (13, _), (14, _), (20, _)] (fun x wr => Evo [] w wr ∧ (FiI w wr l (l ++ rE (l.take k) ++ pQ l[k] x.j) a c ob b5 l[k] x ∧ x.n2 ≤ n + x.j)) (fun x => 2 - x.j) ⟨rfl, rfl, trivial⟩ ⟨rfl, rfl, rfl, rfl, rfl, rfl, trivial⟩ ⟨((a7.then a8).step b4 (Ge.new a7 M).mem1), ⟨⟨Nat.zero_le _, ((hcl.evo0 a8).evo b4 (Apart.new (Lt.own hcl) M).own1), by simp [pQ]; exact ((hown.evo0 a8).evo b4 b9.own1), hge, hap, c0, (Ge.new a7 M), b9.symm⟩, Nat.le_refl _⟩⟩ ?_
   rintro ⟨j, n2, sa2, sc2, so2⟩ wr29 ⟨b6, ⟨⟨hj, hcl2, hown2, hge2, hap2, hb52, O, hap5⟩, hnl2⟩⟩; show CW _ _ _ _ [(3, .slice sa2 n2 sc2), (21, .int .i64 (j : Nat)), (2, _), (5, _), (12, _), (13, _), (14, _), (20, _)] _
   try dsimp only at hj hcl2 hown2 hge2 hap2 hb52 O hap5 hnl2
   refine csr (aC (cX rfl rfl) ?_); refine wnn (aI (aX rfl (fun d0 => ?_) (fun d0 => ?_)))
   ·have hj' : j < 2 := by omega
    have hhc := VY j; refine aL (aB (aI (bG (csr ?_)))); refine aC (OR (n := j) rfl rfl Tryz.underlying228 rfl (by omega) nA (QD hj')) ?_; refine cK rfl qN fun b7 e5 d1 U a3 => ?_; have d7 := U; refine aW rfl rfl nA d1 rfl rfl ⟨by first | rfl | assumption, by first | rfl | assumption, trivial⟩ fun e6 c3 a4 => ?_
    try simp only [cG, Nat.reduceAdd] at c3
    refine wnn (aI ?_); refine fZ (fun w0 w' => Evo [] w0 w') (by kernel_rfl) (fun A V => ?_); have I := ((b6.then a3).step a4 (Ge.new b6 U).mem1).then V; have a5 := ((hown2.evo0 a3).evo a4 (Apart.new (Lt.own hown2) U).own1).evo0 V; have J := ((hcl2.evo0 a3).evo a4 (Apart.new (Lt.own hcl2) U).own1).evo0 V; have D := V.blk0 (a4.blk (a3.blk0 hb52) (Apart.new (Lt.blk hb52) U).nmem1); have L := V.blk0 c3; refine aet 0 rfl (fun _ hS => aA rfl eV) (Evo.refl [] A) ?_; refine aet 1 rfl (fun _ hS => aU rfl cI (bA (hS.blk0 D) rfl)) (Evo.refl [] A) ?_; refine aet 2 rfl (fun _ hS => mC (n := 0) rfl rfl Tryz.underlying227 rfl (by omega) gP) (Evo.refl [] A) ?_; refine aet 3 rfl (fun _ hS => aU rfl cI (bA (hS.blk0 L) rfl)) (Evo.refl [] A) ?_; refine aet 5 rfl (fun _ hS => aA rfl dW) (Evo.refl [] A) ?_; refine aet 6 rfl (fun _ hS => aU rfl cI (bA (hS.blk0 D) rfl)) (Evo.refl [] A) ?_; refine aet 7 rfl (fun _ hS => mC (n := 0) rfl rfl Tryz.underlying227 rfl (by omega) gP) (Evo.refl [] A) ?_; refine aet 8 rfl (fun _ hS => aU rfl cI (bA (hS.blk0 L) rfl)) (Evo.refl [] A) ?_
    refine aet 9 rfl (fun _ hS => iW rfl rfl (by omega) (by omega)) (Evo.refl [] A) ?_; refine bR [4, 10] (by kernel_rfl) rfl ⟨?_, ?_, trivial⟩
    ·refine bY rfl ?_; refine aC (EH rfl rfl) ?_; refine aP (bN (.inl (Evo.refl [] A)) ?_); refine aet 11 rfl (fun _ hS => eK rfl) (Evo.refl [] A) ?_; refine bR [10] (by kernel_rfl) rfl ⟨?_, trivial⟩; refine bY rfl ?_; refine aC (jJ rfl rfl) ?_; refine aP (bN (.inl (Evo.refl [] A)) ?_); refine aet 12 rfl (fun _ hS => eK rfl) (Evo.refl [] A) ?_; refine dJ (by kernel_rfl) (aB ?_); refine csr (aD (aD (aC (fE rfl rfl) ?_))); refine wnn (aX rfl (fun B => ?_) (fun B => ?_))
     ·refine aG (aD (aD ?_)); refine aC (mC (n := 1) rfl rfl Tryz.underlying227 rfl (by omega) gP) ?_; refine aC (aU rfl cI (bA L rfl)) ?_; refine aC (iW rfl rfl (by omega) (by omega)) ?_; refine aD ?_; refine aC (mC (n := 1) rfl rfl Tryz.underlying227 rfl (by omega) gP) ?_; refine aC (aU rfl cI (bA L rfl)) ?_; refine aC (iW rfl rfl (by omega) (by omega)) ?_; refine aC (cC (vs := [(0, _), (1, _)]) jH rfl (cells := [_, _]) rfl) ?_; refine bL (vs := [_]) rfl fV rfl rfl rfl rfl fun e7 e8 d2 d9 F => ?_; refine dB rfl rfl rfl rfl eW (a5.evo0 F) (Src.ofOwn d2 ⟨by first | rfl | assumption, by first | rfl | assumption, trivial⟩) (by omega) fun a2 c2 e9 ob2 c4 b8 hob78 => ?_; refine bX (aP (aO (aB (aG ?_)))); refine aC (aJ rfl rfl (by omega) (by omega)) ?_; refine aD (aP (bB ?_)); refine ⟨⟨j + 1, n2 + 1, a2, c2, ob2⟩, ?_, ⟨rfl, rfl, trivial⟩, ⟨rfl, rfl, rfl, rfl, rfl, rfl, trivial⟩, ((I.then F).step b8 hge2.mem), ?_⟩
      · (try dsimp only); omega
      try dsimp only
      refine ⟨⟨hj', ((J.evo0 F).evo b8 hap2.own), ?_, (hge2.app (I.then F) hob78), (hap2.app (Lt.own (J.evo0 F)) hob78), (b8.blk (F.blk0 D) hap5.nmem), O, (hap5.app (Lt.blk (F.blk0 D)) hob78)⟩, (by show n2 + 1 ≤ n + (j + 1); omega)⟩
      simp only [yX, yW] at B; rw [pQ, ← List.append_assoc, jL _ (mM (pP j) l[k]), BZ B]; have a0 := c4; simp only [yX, yW] at a0; exact a0
     refine aL (aO (aB (aG ?_))); refine aC (aJ rfl rfl (by omega) (by omega)) ?_; refine aD (aP (bB ?_)); refine ⟨⟨j + 1, n2, sa2, sc2, so2⟩, ?_, ⟨rfl, rfl, trivial⟩, ⟨rfl, rfl, rfl, rfl, rfl, rfl, trivial⟩, I, ?_⟩
     · (try dsimp only); omega
     try dsimp only
     simp only [yX, yW] at B
     refine ⟨⟨hj', J, ?_, hge2, hap2, D, O, hap5⟩, (by show n2 ≤ n + (j + 1); omega)⟩
     rw [pQ, HG B, List.append_nil]; exact a5
    refine bY rfl ?_; refine aC (jJ rfl rfl) ?_; refine aP (bN (.inl (Evo.refl [] A)) ?_); refine bR [4] (by kernel_rfl) rfl ⟨?_, trivial⟩; refine bY rfl ?_; refine aC (EH rfl rfl) ?_; refine aP (bN (.inl (Evo.refl [] A)) ?_); refine aet 11 rfl (fun _ hS => eK rfl) (Evo.refl [] A) ?_; refine aet 12 rfl (fun _ hS => eK rfl) (Evo.refl [] A) ?_; refine dJ (by kernel_rfl) (aB ?_); refine csr (aD (aD (aC (fE rfl rfl) ?_))); refine wnn (aX rfl (fun B => ?_) (fun B => ?_))
    ·refine aG (aD (aD ?_)); refine aC (mC (n := 1) rfl rfl Tryz.underlying227 rfl (by omega) gP) ?_; refine aC (aU rfl cI (bA L rfl)) ?_; refine aC (iW rfl rfl (by omega) (by omega)) ?_; refine aD ?_; refine aC (mC (n := 1) rfl rfl Tryz.underlying227 rfl (by omega) gP) ?_; refine aC (aU rfl cI (bA L rfl)) ?_; refine aC (iW rfl rfl (by omega) (by omega)) ?_; refine aC (cC (vs := [(0, _), (1, _)]) jH rfl (cells := [_, _]) rfl) ?_; refine bL (vs := [_]) rfl fV rfl rfl rfl rfl fun f0 f5 d3 e0 H => ?_; refine dB rfl rfl rfl rfl eW (a5.evo0 H) (Src.ofOwn d3 ⟨by first | rfl | assumption, by first | rfl | assumption, trivial⟩) (by omega) fun a2 c2 e1 ob2 c4 a6 hob110 => ?_; refine bX (aP (aO (aB (aG ?_)))); refine aC (aJ rfl rfl (by omega) (by omega)) ?_; refine aD (aP (bB ?_)); refine ⟨⟨j + 1, n2 + 1, a2, c2, ob2⟩, ?_, ⟨rfl, rfl, trivial⟩, ⟨rfl, rfl, rfl, rfl, rfl, rfl, trivial⟩, ((I.then H).step a6 hge2.mem), ?_⟩
     · (try dsimp only); omega
     try dsimp only
     refine ⟨⟨hj', ((J.evo0 H).evo a6 hap2.own), ?_, (hge2.app (I.then H) hob110), (hap2.app (Lt.own (J.evo0 H)) hob110), (a6.blk (H.blk0 D) hap5.nmem), O, (hap5.app (Lt.blk (H.blk0 D)) hob110)⟩, (by show n2 + 1 ≤ n + (j + 1); omega)⟩
     simp only [yX, yW] at B; rw [pQ, ← List.append_assoc, jL _ (mM (pP j) l[k]), BZ B]; have a0 := c4; simp only [yX, yW] at a0; exact a0
    refine aL (aO (aB (aG ?_))); refine aC (aJ rfl rfl (by omega) (by omega)) ?_; refine aD (aP (bB ?_)); refine ⟨⟨j + 1, n2, sa2, sc2, so2⟩, ?_, ⟨rfl, rfl, trivial⟩, ⟨rfl, rfl, rfl, rfl, rfl, rfl, trivial⟩, I, ?_⟩
    · (try dsimp only); omega
    try dsimp only
    simp only [yX, yW] at B
    refine ⟨⟨hj', J, ?_, hge2, hap2, D, O, hap5⟩, (by show n2 ≤ n + (j + 1); omega)⟩
    rw [pQ, HG B, List.append_nil]; exact a5
   refine cM (bK (bK (cL (aO (aB ?_))))); refine aG ?_; refine aC (aJ rfl rfl (by omega) (by omega)) ?_; refine aD (aP (bB ?_)); refine ⟨⟨k + 1, n2, sa2, sc2, so2⟩, ?_, ⟨rfl, rfl, trivial⟩, ⟨rfl, rfl, rfl, trivial⟩, b6, ?_⟩
   · (try dsimp only); omega
   try dsimp only
   obtain rfl : j = 2 := by omega
   refine ⟨⟨hk', hcl2, ?_, hge2, hap2⟩, (by show n2 ≤ l.length + 2 * (k + 1); omega)⟩
   rw [LK hk', ← List.append_assoc]; exact hown2
  rw [List.take_of_length_le (show l.length ≤ k by omega)] at hown; have hfl := vS l; have d8 := qF hown; subst d8; refine cM (bK (bK (cL (aB ?_)))); refine csr (aD ?_)
  refine aK (vs := [_]) qT rfl (vP hown (JQ hv WF) (by rw [List.length_append]; omega) (fun c => foldL_in.trans (HD hS c))) rfl ?_
  rintro rv e2 hR; have c5 := hR.evo; refine wan (aH (br1 ?_)); obtain ⟨a9, c9, ob9, rfl, a0, hg9, hl9, hcan9, heq9, hev9⟩ := hR
  exact ⟨a9, c9, ob9, rfl, a0, Ge.fresh a7 hg9, by rw [List.length_append] at hl9; have := vS l; omega, hcan9, heq9, (a7.then c5)⟩
theorem dD : Build Tryz.prog 71 #[(0, 1), (1, 1), (2, 1), (3, 1), (4, 1), (5, 1), (6, 1), (7, 1), (8, 1)] #[.int .i64 0, .int .i32 0, .slice none 0 0, .int .i64 0, .int .i64 0, .bool false, .int .i64 0, .string ByteArray.empty, .slice none 0 0] := ⟨_, .agg #[.int .i64 0, .int .i32 0, .slice none 0 0, .int .i64 0, .int .i64 0, .bool false, .int .i64 0, .string ByteArray.empty, .slice none 0 0], Tryz.underlying71, by kernel_rfl, rfl, fun w => by kernel_rfl⟩
theorem cU : dU Tryz.prog 132 := ⟨_, Tryz.func132, by kernel_rfl, by kernel_rfl⟩
theorem jX : dU Tryz.prog 150 := ⟨_, Tryz.func150, by kernel_rfl, by kernel_rfl⟩
theorem cO : oT Tryz.prog 217 = some (21, 1) := by kernel_rfl
def zY (w w' : World) (v : Value) (S : Int → Prop) (n : Nat) : Prop := ∃ a c ob l, v = .slice a l.length c ∧ OwnS w' 135 2 a l.length c (dA l) ob ∧ Ge w ob ∧ Vr l ∧ (∀ c, InR c l ↔ S c) ∧ l.length ≤ n
theorem RsOut.set {X : List Nat} {w0 w w' : World} {v : Value} {S : Int → Prop} {n : Nat} (h : RsOut w w' v S n) (he : Evo X w0 w) : zY w0 w' v S n := by
  obtain ⟨a, c, ob, h1, h2, h3, h4, h5, h6, -⟩ := h
  exact ⟨a, c, ob, jP S, h1, h2, Ge.fresh he h3, vW h5, h6, h4⟩
theorem uH {S : Int → Prop} {m : List (Int × Int)} (e : jP S = m) (h1 : m.length = 1) (h2 : (m[0]'(by omega)).1 = (m[0]'(by omega)).2) : kI S = dK (m[0]'(by omega)).1 := by
  obtain ⟨⟨a, b⟩, rfl⟩ := List.length_eq_one_iff.1 h1
  have h2' : a = b := h2
  unfold kI
  rw [e]
  show (if a = b then dK a else uD [(a, b)]) = _
  rw [if_pos h2']; rfl
theorem rQ {S : Int → Prop} {m : List (Int × Int)} (e : jP S = m) (h : ∀ h1 : m.length = 1, ¬ (m[0]'(by omega)).1 = (m[0]'(by omega)).2) : kI S = uD m := by
  unfold kI
  rw [e]
  match m, h with
  | [], h => rfl
  | [(a, b)], h =>
    have h2 : ¬ a = b := h rfl
    show (if a = b then dK a else uD [(a, b)]) = _
    rw [if_neg h2]
  | a :: b :: l, h => rfl
theorem or_c : ∀ c : Nat, c < 256 → ((c ||| 32 = 100 → c = 68 ∨ c = 100) ∧ (c ||| 32 = 115 → c = 83 ∨ c = 115) ∧ (c ||| 32 = 119 → c = 87 ∨ c = 119)) ∧ (c ||| 32 ≠ 100 → c ≠ 68 ∧ c ≠ 100) ∧ (c ||| 32 ≠ 115 → c ≠ 83 ∧ c ≠ 115) ∧ (c ||| 32 ≠ 119 → c ≠ 87 ∧ c ≠ 119) := by
  have h : ∀ c : Fin 256, ((c.1 ||| 32 = 100 → c.1 = 68 ∨ c.1 = 100) ∧ (c.1 ||| 32 = 115 → c.1 = 83 ∨ c.1 = 115) ∧ (c.1 ||| 32 = 119 → c.1 = 87 ∨ c.1 = 119)) ∧ (c.1 ||| 32 ≠ 100 → c.1 ≠ 68 ∧ c.1 ≠ 100) ∧ (c.1 ||| 32 ≠ 115 → c.1 ≠ 83 ∧ c.1 ≠ 115) ∧ (c.1 ||| 32 ≠ 119 → c.1 ≠ 87 ∧ c.1 ≠ 119) := by decide +kernel
  exact fun c hc => h ⟨c, hc⟩
theorem gZ {l : List (Int × Int)} (h : l.all (fun g => decide (0 ≤ g.1) && decide (g.1 ≤ g.2) && decide (g.2 ≤ 1114111)) = true) : Vr l := fun g hg => by
  have := List.all_eq_true.1 h g hg
  simp only [Bool.and_eq_true, decide_eq_true_eq] at this
  exact ⟨this.1.1, this.1.2, this.2⟩
theorem vQ {c : Nat} (h : c ≠ 100 ∧ c ≠ 115 ∧ c ≠ 119 ∧ c ≠ 68 ∧ c ≠ 83 ∧ c ≠ 87) : vR c = none := by
  unfold vR; rw [if_neg h.1, if_neg h.2.1, if_neg h.2.2.1, if_neg h.2.2.2.1, if_neg h.2.2.2.2.1, if_neg h.2.2.2.2.2]
def LetOut (w w' : World) (v : Value) (o : Option (Int → Prop)) : Prop := (o = none ∧ v = .tuple #[.slice none 0 0, .bool false]) ∨ ∃ S v', o = some S ∧ v = .tuple #[v', .bool true] ∧ zY w w' v' S 8
theorem mY {w : World} {a : Option Addr} {c : Nat} {l : List (Int × Int)} {ob : Option Nat} (hO : OwnS w 135 2 a l.length c (dA l) ob) (hv : Vr l) (hl : l.length ≤ 1000000) {S : Int → Prop} (hS : ∀ c, InR c l ↔ S c) :
    Calls Tryz.prog 131 #[.slice a l.length c] w (Ret fun v w' => TOut w w' v (kI S) ∧ Evo [] w w') := by
  refine bD (N := 26) Tryz.func131 rfl rfl rfl ?_; refine csr (cK rfl eG fun b2 w1 H a4 a8 => ?_); have a9 := a4; have I := Ge.new (Evo.refl [] w) a4; have B := (Evo.refl [] w).then a8; refine wnn (csr (aD (aK (vs := [_]) qT rfl (vP (hO.evo0 B) hv hl hS) rfl ?_))); rintro _ w7 ⟨a1, c1, ob1, rfl, J, hg1, hml, hcan, heqS, F⟩; have a5 := Apart.fresh (Lt.blk H) hg1
  generalize hm : jP S = m at *
  refine wan (aI (aI ?_)); refine eM (by kernel_rfl) (by kernel_rfl) ?_; refine bE (fun _ A => aY rfl) ?_; refine bE (fun _ A => bH rfl Tryz.underlying68 rfl) ?_; refine bE (fun _ A => mB rfl rfl) ?_; refine bE (fun _ A => aY rfl) ?_; refine kG (t := 8) rfl (fun b4 => ?_) (fun b4 => ?_)
  ·have hm1 : m.length = 1 := by omega
   obtain ⟨g1, hg1', ha1, L⟩ := pL J (i := 0) (by omega); refine qlg ?_; refine bE (fun _ A => aY rfl) ?_; refine qlg ?_; refine bE (fun _ A => eT (n := 0) rfl rfl ha1 eQ (by omega)) ?_; refine qlg ?_; refine bE (fun _ A => aA rfl eV) ?_; refine qlg ?_; refine bE (fun _ A => aU rfl cI ((((Evo.refl ([]) w7).then A)).cell (L 0 _ rfl) (by simp))) ?_; refine qlg ?_; refine bE (fun _ A => aY rfl) ?_; refine qlg ?_; refine bE (fun _ A => eT (n := 0) rfl rfl ha1 eQ (by omega)) ?_; refine qlg ?_; refine bE (fun _ A => aA rfl dW) ?_; refine qlg ?_; refine bE (fun _ A => aU rfl cI ((((Evo.refl ([]) w7).then A)).cell (L 1 _ rfl) (by simp))) ?_; refine qlg ?_; refine bE (fun _ A => mB rfl rfl) ?_; refine bE (fun _ A => gB rfl rfl) ?_; refine eS (fun a6 A => aB ?_); have M := (B.then F).then A; have O := A.blk0 (F.blk0 H); refine aX rfl (fun D => ?_) (fun D => ?_)
   ·refine csr (aD ?_); refine aC (eT (n := 0) rfl rfl ha1 eQ (by omega)) ?_; refine aC (aA rfl eV) ?_; refine aC (aU rfl cI ((((Evo.refl ([]) w7).then A)).cell (L 0 _ rfl) (by simp))) ?_; refine aC (cC (vs := [(0, _), (1, _)]) dD rfl (cells := [_, _, _, _, _, _, _, _, _]) rfl) ?_; refine aW rfl rfl aS O rfl rfl ⟨by first | rfl | assumption, by first | rfl | assumption, by first | rfl | assumption, by first | rfl | assumption, by first | rfl | assumption, by first | rfl | assumption, by first | rfl | assumption, by first | rfl | assumption, by first | rfl | assumption, trivial⟩ fun b5 U a7 => ?_
    try simp only [cG, Nat.reduceAdd] at U
    refine wnn (aH (aE (cH rfl (ResOk.cellA rfl bQ aS U rfl) ?_))); refine ⟨?_, (M.step a7 I.mem1)⟩; rw [uH hm hm1 (by simpa using D)]; exact ⟨_, [], rfl, ot_lit _ _, Fr.nil _⟩
   refine aL (aB (csr (aD (aC (cC (vs := [(0, _), (2, _)]) dD rfl (cells := [_, _, _, _, _, _, _, _, _]) rfl) ?_)))); refine aW rfl rfl aS O rfl rfl ⟨by first | rfl | assumption, by first | rfl | assumption, by first | rfl | assumption, by first | rfl | assumption, by first | rfl | assumption, by first | rfl | assumption, by first | rfl | assumption, by first | rfl | assumption, by first | rfl | assumption, trivial⟩ fun b6 V a0 => ?_
   try simp only [cG, Nat.reduceAdd] at V
   refine wnn (aH (cH rfl (ResOk.cellA rfl bQ aS V rfl) ?_)); refine ⟨?_, (M.step a0 I.mem1)⟩; rw [rQ hm (fun h1 => by simpa using D)]; exact ⟨_, _, rfl, UN ((J.evo0 A).evo a0 a5.symm.own1) (by omega), ge_fr (Ge.fresh B hg1)⟩
  refine qln ?_; refine qln ?_; refine qln ?_; refine qln ?_; refine qln ?_; refine qln ?_; refine qln ?_; refine qln ?_; refine qln ?_; refine bE (fun _ A => gT rfl rfl) ?_; refine eS (fun a6 A => aB ?_); refine cS rfl ?_; refine aL (aB (csr (aD (aC (cC (vs := [(0, _), (2, _)]) dD rfl (cells := [_, _, _, _, _, _, _, _, _]) rfl) ?_)))); refine aW rfl rfl aS (A.blk0 (F.blk0 H)) rfl rfl ⟨by first | rfl | assumption, by first | rfl | assumption, by first | rfl | assumption, by first | rfl | assumption, by first | rfl | assumption, by first | rfl | assumption, by first | rfl | assumption, by first | rfl | assumption, by first | rfl | assumption, trivial⟩ fun b7 a2 a3 => ?_
  try simp only [cG, Nat.reduceAdd] at a2
  refine wnn (aH (cH rfl (ResOk.cellA rfl bQ aS a2 rfl) ?_)); refine ⟨?_, (((B.then F).then A).step a3 I.mem1)⟩; rw [rQ hm (fun h1 => by omega)]; exact ⟨_, _, rfl, UN ((J.evo0 A).evo a3 a5.symm.own1) (by omega), ge_fr (Ge.fresh B hg1)⟩
theorem sK {w w' : World} {v : Value} {S : Int → Prop} {n m : Nat} (h : zY w w' v S n) (hm : n ≤ m) : zY w w' v S m := by
  obtain ⟨a, c, ob, l, h1, h2, h3, h4, h5, h6⟩ := h
  exact ⟨a, c, ob, l, h1, h2, h3, h4, h5, Nat.le_trans h6 hm⟩
theorem uI {w : World} (c : Nat) (hc : c < 256) :
    Calls Tryz.prog 152 #[.int .u8 (c : Nat)] w (Ret fun v w' => LetOut w w' v (vR c) ∧ Evo [] w w') := by
  have hor := or_c c hc; refine bD (N := 31) Tryz.func152 rfl rfl rfl ?_; refine csr (bX (wan (csr (wan (aI (csr (aD ?_))))))); refine aC (ex_orN (m := c) (n := 32) rfl rfl rfl rfl rfl hc (by decide)) ?_; refine wnn (bG (csr (wel ?_))); refine wan (aX rfl (fun b4 => ?_) (fun b4 => ?_))
  ·have hcs := hor.1.1 (by omega); refine aG (bL (vs := [_, _]) rfl cO rfl rfl rfl rfl fun b1 w2 b5 c0 b6 => ?_); have O := (Evo.refl [] w).then b6; refine aK (vs := [_]) cU rfl (fP (es := [48, 57]) b5 (by decide)) rfl ?_; rintro _ w8 ⟨a1, c1, ob1, rfl, D, hg1, b7⟩; have H := O.then b7; refine bX (aP (aO (aB (aI (csr (aD (wnn (bG (aI (csr (wel ?_))))))))))); refine wan (aX rfl (fun A => ?_) (fun A => ?_))
   ·refine aL (aB (aX rfl (fun A => ?_) (fun A => ?_)))
    ·refine aG (aD ?_); refine aK (vs := [_]) jX rfl (lZ (l := [(48, 57)]) D (gZ (by kernel_rfl)) (by decide) (fun c => Iff.rfl)) rfl ?_; rintro rv c2 hR; have F := H; have U := hR.evo; refine bX (aP (aO (aB (csr (aD (bX (wan (aH (cJ rfl rfl rfl ?_)))))))))
     obtain rfl : c = 68 := by omega
     exact ⟨.inr ⟨_, _, rfl, rfl, sK (hR.set F) (by decide)⟩, (H.then U)⟩
    exfalso; omega
   refine csr (wel ?_); refine wan (aX rfl (fun A => ?_) (fun A => ?_))
   ·exfalso; omega
   refine aG (wel ?_); refine wan (aX rfl (fun A => ?_) (fun A => ?_))
   ·exfalso; omega
   refine aI (csr (wel ?_)); refine wan (aX rfl (fun B => ?_) (fun B => ?_))
   ·refine aL (aB (aX rfl (fun B => ?_) (fun B => ?_)))
    ·refine aL (aO (aB (csr (aD (bX (wan (aH (cJ rfl rfl rfl ?_))))))))
     obtain rfl : c = 100 := by omega
     exact ⟨.inr ⟨_, _, rfl, rfl, _, _, _, [(48, 57)], rfl, D, (Ge.fresh O hg1), gZ (by kernel_rfl), fun c => Iff.rfl, by decide⟩, H⟩
    exfalso; omega
   exfalso; omega
  refine csr (wel ?_); refine wan (aX rfl (fun V => ?_) (fun V => ?_))
  ·have hcs := hor.1.2.1 (by omega); refine aG (bL (vs := [_, _, _, _, _, _]) rfl cO rfl rfl rfl rfl fun c3 c4 a0 b8 a2 => ?_); have L := (Evo.refl [] w).then a2; refine aK (vs := [_]) cU rfl (fP (es := [9, 10, 12, 13, 32, 32]) a0 (by decide)) rfl ?_; rintro _ c5 ⟨a1, c1, ob1, rfl, D, hg1, a3⟩; have I := L.then a3; refine bX (aP (aO (aB (aI (csr (aD (wnn (bG (aI (csr (wel ?_))))))))))); refine wan (aX rfl (fun A => ?_) (fun A => ?_))
   ·exfalso; omega
   refine csr (wel ?_); refine wan (aX rfl (fun A => ?_) (fun A => ?_))
   ·refine aL (aB (aX rfl (fun A => ?_) (fun A => ?_)))
    ·refine aG (aD ?_); refine aK (vs := [_]) jX rfl (lZ (l := [(9, 10), (12, 13), (32, 32)]) D (gZ (by kernel_rfl)) (by decide) (fun c => Iff.rfl)) rfl ?_; rintro rv c6 hR; have F := I; have a4 := hR.evo; refine bX (aP (aO (aB (csr (aD (bX (wan (aH (cJ rfl rfl rfl ?_)))))))))
     obtain rfl : c = 83 := by omega
     exact ⟨.inr ⟨_, _, rfl, rfl, sK (hR.set F) (by decide)⟩, (I.then a4)⟩
    exfalso; omega
   refine aG (wel ?_); refine wan (aX rfl (fun A => ?_) (fun A => ?_))
   ·exfalso; omega
   refine aI (csr (wel ?_)); refine wan (aX rfl (fun B => ?_) (fun B => ?_))
   ·exfalso; omega
   refine csr (wel ?_); refine wan (aX rfl (fun B => ?_) (fun B => ?_))
   ·refine aL (aB (aX rfl (fun B => ?_) (fun B => ?_)))
    ·refine aL (aO (aB (csr (aD (bX (wan (aH (cJ rfl rfl rfl ?_))))))))
     obtain rfl : c = 115 := by omega
     exact ⟨.inr ⟨_, _, rfl, rfl, _, _, _, [(9, 10), (12, 13), (32, 32)], rfl, D, (Ge.fresh L hg1), gZ (by kernel_rfl), fun c => Iff.rfl, by decide⟩, I⟩
    exfalso; omega
   exfalso; omega
  refine csr (wel ?_); refine wan (aX rfl (fun a5 => ?_) (fun a5 => ?_))
  ·have hcs := hor.1.2.2 (by omega); refine aG (bL (vs := [_, _, _, _, _, _, _, _]) rfl cO rfl rfl rfl rfl fun c7 c8 a6 b9 a7 => ?_); have M := (Evo.refl [] w).then a7; refine aK (vs := [_]) cU rfl (fP (es := [48, 57, 65, 90, 95, 95, 97, 122]) a6 (by decide)) rfl ?_; rintro _ c9 ⟨a1, c1, ob1, rfl, D, hg1, a8⟩; have J := M.then a8; refine bX (aP (aO (aB (aI (csr (aD (wnn (bG (aI (csr (wel ?_))))))))))); refine wan (aX rfl (fun A => ?_) (fun A => ?_))
   ·exfalso; omega
   refine csr (wel ?_); refine wan (aX rfl (fun A => ?_) (fun A => ?_))
   ·exfalso; omega
   refine aG (wel ?_); refine wan (aX rfl (fun A => ?_) (fun A => ?_))
   ·refine aG (aD ?_); refine aK (vs := [_]) jX rfl (lZ (l := [(48, 57), (65, 90), (95, 95), (97, 122)]) D (gZ (by kernel_rfl)) (by decide) (fun c => Iff.rfl)) rfl ?_; rintro rv d0 hR; have F := J; have a9 := hR.evo; refine bX (aP (aO (aB (csr (aD (bX (wan (aH (cJ rfl rfl rfl ?_)))))))))
    obtain rfl : c = 87 := by omega
    exact ⟨.inr ⟨_, _, rfl, rfl, sK (hR.set F) (by decide)⟩, (J.then a9)⟩
   refine aI (csr (wel ?_)); refine wan (aX rfl (fun B => ?_) (fun B => ?_))
   ·exfalso; omega
   refine csr (wel ?_); refine wan (aX rfl (fun B => ?_) (fun B => ?_))
   ·exfalso; omega
   refine aG (wel ?_); refine wan (aX rfl (fun B => ?_) (fun B => ?_))
   ·refine aL (aO (aB (csr (aD (bX (wan (aH (cJ rfl rfl rfl ?_))))))))
    obtain rfl : c = 119 := by omega
    exact ⟨.inr ⟨_, _, rfl, rfl, _, _, _, [(48, 57), (65, 90), (95, 95), (97, 122)], rfl, D, (Ge.fresh M hg1), gZ (by kernel_rfl), fun c => Iff.rfl, by decide⟩, J⟩
   exfalso; omega
  refine csr (bX (wan (aH (aM (aE (cJ rfl rfl rfl ?_))))))
  exact ⟨.inl ⟨vQ (by have := hor.2; omega), rfl⟩, (Evo.refl [] w)⟩
theorem pF : cZ Tryz.prog 114 0 = some 0 := by kernel_rfl
theorem dS : cZ Tryz.prog 116 2 = some 2 := by kernel_rfl
theorem gO : dU Tryz.prog 131 := ⟨_, Tryz.func131, by kernel_rfl, by kernel_rfl⟩
theorem vA : dU Tryz.prog 149 := ⟨_, Tryz.func149, by kernel_rfl, by kernel_rfl⟩
theorem nam0 {n : ByteArray} (h : n = asc [97, 108, 110, 117, 109]) : iR n = some (rs [(48, 57), (65, 90), (97, 122)]) := by unfold iR; rw [if_pos h]
theorem nam1 {n : ByteArray} (h0 : ¬ n = asc [97, 108, 110, 117, 109]) (h : n = asc [97, 108, 112, 104, 97]) : iR n = some (rs [(65, 90), (97, 122)]) := by unfold iR; rw [if_neg h0, if_pos h]
theorem nam2 {n : ByteArray} (h0 : ¬ n = asc [97, 108, 110, 117, 109]) (h1 : ¬ n = asc [97, 108, 112, 104, 97]) (h : n = asc [97, 115, 99, 105, 105]) : iR n = some (rs [(0, 127)]) := by unfold iR; rw [if_neg h0, if_neg h1, if_pos h]
theorem nam3 {n : ByteArray} (h0 : ¬ n = asc [97, 108, 110, 117, 109]) (h1 : ¬ n = asc [97, 108, 112, 104, 97]) (h2 : ¬ n = asc [97, 115, 99, 105, 105]) (h : n = asc [98, 108, 97, 110, 107]) : iR n = some (rs [(9, 9), (32, 32)]) := by unfold iR; rw [if_neg h0, if_neg h1, if_neg h2, if_pos h]
theorem nam4 {n : ByteArray} (h0 : ¬ n = asc [97, 108, 110, 117, 109]) (h1 : ¬ n = asc [97, 108, 112, 104, 97]) (h2 : ¬ n = asc [97, 115, 99, 105, 105]) (h3 : ¬ n = asc [98, 108, 97, 110, 107]) (h : n = asc [99, 110, 116, 114, 108]) : iR n = some (rs [(0, 31), (127, 127)]) := by unfold iR; rw [if_neg h0, if_neg h1, if_neg h2, if_neg h3, if_pos h]
theorem nam5 {n : ByteArray} (h0 : ¬ n = asc [97, 108, 110, 117, 109]) (h1 : ¬ n = asc [97, 108, 112, 104, 97]) (h2 : ¬ n = asc [97, 115, 99, 105, 105]) (h3 : ¬ n = asc [98, 108, 97, 110, 107]) (h4 : ¬ n = asc [99, 110, 116, 114, 108]) (h : n = asc [100, 105, 103, 105, 116]) : iR n = some (rs [(48, 57)]) := by unfold iR; rw [if_neg h0, if_neg h1, if_neg h2, if_neg h3, if_neg h4, if_pos h]
theorem nam6 {n : ByteArray} (h0 : ¬ n = asc [97, 108, 110, 117, 109]) (h1 : ¬ n = asc [97, 108, 112, 104, 97]) (h2 : ¬ n = asc [97, 115, 99, 105, 105]) (h3 : ¬ n = asc [98, 108, 97, 110, 107]) (h4 : ¬ n = asc [99, 110, 116, 114, 108]) (h5 : ¬ n = asc [100, 105, 103, 105, 116]) (h : n = asc [103, 114, 97, 112, 104]) : iR n = some (rs [(33, 126)]) := by unfold iR; rw [if_neg h0, if_neg h1, if_neg h2, if_neg h3, if_neg h4, if_neg h5, if_pos h]
theorem nam7 {n : ByteArray} (h0 : ¬ n = asc [97, 108, 110, 117, 109]) (h1 : ¬ n = asc [97, 108, 112, 104, 97]) (h2 : ¬ n = asc [97, 115, 99, 105, 105]) (h3 : ¬ n = asc [98, 108, 97, 110, 107]) (h4 : ¬ n = asc [99, 110, 116, 114, 108]) (h5 : ¬ n = asc [100, 105, 103, 105, 116]) (h6 : ¬ n = asc [103, 114, 97, 112, 104]) (h : n = asc [108, 111, 119, 101, 114]) : iR n = some (rs [(97, 122)]) := by unfold iR; rw [if_neg h0, if_neg h1, if_neg h2, if_neg h3, if_neg h4, if_neg h5, if_neg h6, if_pos h]
theorem nam8 {n : ByteArray} (h0 : ¬ n = asc [97, 108, 110, 117, 109]) (h1 : ¬ n = asc [97, 108, 112, 104, 97]) (h2 : ¬ n = asc [97, 115, 99, 105, 105]) (h3 : ¬ n = asc [98, 108, 97, 110, 107]) (h4 : ¬ n = asc [99, 110, 116, 114, 108]) (h5 : ¬ n = asc [100, 105, 103, 105, 116]) (h6 : ¬ n = asc [103, 114, 97, 112, 104]) (h7 : ¬ n = asc [108, 111, 119, 101, 114]) (h : n = asc [112, 114, 105, 110, 116]) : iR n = some (rs [(32, 126)]) := by unfold iR; rw [if_neg h0, if_neg h1, if_neg h2, if_neg h3, if_neg h4, if_neg h5, if_neg h6, if_neg h7, if_pos h]
theorem nam9 {n : ByteArray} (h0 : ¬ n = asc [97, 108, 110, 117, 109]) (h1 : ¬ n = asc [97, 108, 112, 104, 97]) (h2 : ¬ n = asc [97, 115, 99, 105, 105]) (h3 : ¬ n = asc [98, 108, 97, 110, 107]) (h4 : ¬ n = asc [99, 110, 116, 114, 108]) (h5 : ¬ n = asc [100, 105, 103, 105, 116]) (h6 : ¬ n = asc [103, 114, 97, 112, 104]) (h7 : ¬ n = asc [108, 111, 119, 101, 114]) (h8 : ¬ n = asc [112, 114, 105, 110, 116]) (h : n = asc [112, 117, 110, 99, 116]) : iR n = some (rs [(33, 47), (58, 64), (91, 96), (123, 126)]) := by unfold iR; rw [if_neg h0, if_neg h1, if_neg h2, if_neg h3, if_neg h4, if_neg h5, if_neg h6, if_neg h7, if_neg h8, if_pos h]
theorem nam10 {n : ByteArray} (h0 : ¬ n = asc [97, 108, 110, 117, 109]) (h1 : ¬ n = asc [97, 108, 112, 104, 97]) (h2 : ¬ n = asc [97, 115, 99, 105, 105]) (h3 : ¬ n = asc [98, 108, 97, 110, 107]) (h4 : ¬ n = asc [99, 110, 116, 114, 108]) (h5 : ¬ n = asc [100, 105, 103, 105, 116]) (h6 : ¬ n = asc [103, 114, 97, 112, 104]) (h7 : ¬ n = asc [108, 111, 119, 101, 114]) (h8 : ¬ n = asc [112, 114, 105, 110, 116]) (h9 : ¬ n = asc [112, 117, 110, 99, 116]) (h : n = asc [115, 112, 97, 99, 101]) : iR n = some (rs [(9, 13), (32, 32)]) := by unfold iR; rw [if_neg h0, if_neg h1, if_neg h2, if_neg h3, if_neg h4, if_neg h5, if_neg h6, if_neg h7, if_neg h8, if_neg h9, if_pos h]
theorem nam11 {n : ByteArray} (h0 : ¬ n = asc [97, 108, 110, 117, 109]) (h1 : ¬ n = asc [97, 108, 112, 104, 97]) (h2 : ¬ n = asc [97, 115, 99, 105, 105]) (h3 : ¬ n = asc [98, 108, 97, 110, 107]) (h4 : ¬ n = asc [99, 110, 116, 114, 108]) (h5 : ¬ n = asc [100, 105, 103, 105, 116]) (h6 : ¬ n = asc [103, 114, 97, 112, 104]) (h7 : ¬ n = asc [108, 111, 119, 101, 114]) (h8 : ¬ n = asc [112, 114, 105, 110, 116]) (h9 : ¬ n = asc [112, 117, 110, 99, 116]) (h10 : ¬ n = asc [115, 112, 97, 99, 101]) (h : n = asc [117, 112, 112, 101, 114]) : iR n = some (rs [(65, 90)]) := by unfold iR; rw [if_neg h0, if_neg h1, if_neg h2, if_neg h3, if_neg h4, if_neg h5, if_neg h6, if_neg h7, if_neg h8, if_neg h9, if_neg h10, if_pos h]
theorem nam12 {n : ByteArray} (h0 : ¬ n = asc [97, 108, 110, 117, 109]) (h1 : ¬ n = asc [97, 108, 112, 104, 97]) (h2 : ¬ n = asc [97, 115, 99, 105, 105]) (h3 : ¬ n = asc [98, 108, 97, 110, 107]) (h4 : ¬ n = asc [99, 110, 116, 114, 108]) (h5 : ¬ n = asc [100, 105, 103, 105, 116]) (h6 : ¬ n = asc [103, 114, 97, 112, 104]) (h7 : ¬ n = asc [108, 111, 119, 101, 114]) (h8 : ¬ n = asc [112, 114, 105, 110, 116]) (h9 : ¬ n = asc [112, 117, 110, 99, 116]) (h10 : ¬ n = asc [115, 112, 97, 99, 101]) (h11 : ¬ n = asc [117, 112, 112, 101, 114]) (h : n = asc [119, 111, 114, 100]) : iR n = some (rs [(48, 57), (65, 90), (95, 95), (97, 122)]) := by unfold iR; rw [if_neg h0, if_neg h1, if_neg h2, if_neg h3, if_neg h4, if_neg h5, if_neg h6, if_neg h7, if_neg h8, if_neg h9, if_neg h10, if_neg h11, if_pos h]
theorem nam13 {n : ByteArray} (h0 : ¬ n = asc [97, 108, 110, 117, 109]) (h1 : ¬ n = asc [97, 108, 112, 104, 97]) (h2 : ¬ n = asc [97, 115, 99, 105, 105]) (h3 : ¬ n = asc [98, 108, 97, 110, 107]) (h4 : ¬ n = asc [99, 110, 116, 114, 108]) (h5 : ¬ n = asc [100, 105, 103, 105, 116]) (h6 : ¬ n = asc [103, 114, 97, 112, 104]) (h7 : ¬ n = asc [108, 111, 119, 101, 114]) (h8 : ¬ n = asc [112, 114, 105, 110, 116]) (h9 : ¬ n = asc [112, 117, 110, 99, 116]) (h10 : ¬ n = asc [115, 112, 97, 99, 101]) (h11 : ¬ n = asc [117, 112, 112, 101, 114]) (h12 : ¬ n = asc [119, 111, 114, 100]) (h : n = asc [120, 100, 105, 103, 105, 116]) : iR n = some (rs [(48, 57), (65, 70), (97, 102)]) := by unfold iR; rw [if_neg h0, if_neg h1, if_neg h2, if_neg h3, if_neg h4, if_neg h5, if_neg h6, if_neg h7, if_neg h8, if_neg h9, if_neg h10, if_neg h11, if_neg h12, if_pos h]
theorem namN {n : ByteArray} (h0 : ¬ n = asc [97, 108, 110, 117, 109]) (h1 : ¬ n = asc [97, 108, 112, 104, 97]) (h2 : ¬ n = asc [97, 115, 99, 105, 105]) (h3 : ¬ n = asc [98, 108, 97, 110, 107]) (h4 : ¬ n = asc [99, 110, 116, 114, 108]) (h5 : ¬ n = asc [100, 105, 103, 105, 116]) (h6 : ¬ n = asc [103, 114, 97, 112, 104]) (h7 : ¬ n = asc [108, 111, 119, 101, 114]) (h8 : ¬ n = asc [112, 114, 105, 110, 116]) (h9 : ¬ n = asc [112, 117, 110, 99, 116]) (h10 : ¬ n = asc [115, 112, 97, 99, 101]) (h11 : ¬ n = asc [117, 112, 112, 101, 114]) (h12 : ¬ n = asc [119, 111, 114, 100]) (h13 : ¬ n = asc [120, 100, 105, 103, 105, 116])  : iR n = none := by unfold iR; rw [if_neg h0, if_neg h1, if_neg h2, if_neg h3, if_neg h4, if_neg h5, if_neg h6, if_neg h7, if_neg h8, if_neg h9, if_neg h10, if_neg h11, if_neg h12, if_neg h13]
theorem VG {w : World} (n : ByteArray) :
    Calls Tryz.prog 162 #[.string n] w (Ret fun v w' => LetOut w w' v (iR n) ∧ Evo [] w w') := by
  refine bD (N := 61) Tryz.func162 rfl rfl rfl ?_; refine csr (bX (wan (aI (csr (aD (wnn (bG (csr (aC (iH rfl rfl) ?_))))))))); refine wan (aX rfl (fun H => ?_) (fun H => ?_))
  ·refine csr (bL (vs := [_, _, _, _, _, _]) rfl cO rfl rfl rfl rfl fun b1 w2 g6 k1 g7 => ?_); have e1 := (Evo.refl [] w).then g7; refine aK (vs := [_]) cU rfl (fP (es := [48, 57, 65, 90, 97, 122]) g6 (by decide)) rfl ?_; rintro _ w8 ⟨a1, c1, ob1, rfl, A, hg1, g8⟩; refine bX (wan (aH (aM (aE (cJ rfl rfl rfl ?_))))); exact ⟨.inr ⟨_, _, nam0  H, rfl, _, _, _, [(48, 57), (65, 90), (97, 122)], rfl, A, (Ge.fresh e1 hg1), gZ (by kernel_rfl), fun c => Iff.rfl, by decide⟩, (e1.then g8)⟩
  refine csr (aC (iH rfl rfl) ?_); refine wan (aX rfl (fun I => ?_) (fun I => ?_))
  ·refine csr (bL (vs := [_, _, _, _]) rfl cO rfl rfl rfl rfl fun k2 k3 e2 h5 e3 => ?_); have b4 := (Evo.refl [] w).then e3; refine aK (vs := [_]) cU rfl (fP (es := [65, 90, 97, 122]) e2 (by decide)) rfl ?_; rintro _ k4 ⟨a1, c1, ob1, rfl, A, hg1, e4⟩; refine bX (wan (aH (aM (aE (cJ rfl rfl rfl ?_))))); exact ⟨.inr ⟨_, _, nam1 H I, rfl, _, _, _, [(65, 90), (97, 122)], rfl, A, (Ge.fresh b4 hg1), gZ (by kernel_rfl), fun c => Iff.rfl, by decide⟩, (b4.then e4)⟩
  refine csr (aC (iH rfl rfl) ?_); refine wan (aX rfl (fun B => ?_) (fun B => ?_))
  ·refine csr (bL (vs := [_, _]) rfl cO rfl rfl rfl rfl fun k5 k6 e5 h6 e6 => ?_); have b5 := (Evo.refl [] w).then e6; refine aK (vs := [_]) cU rfl (fP (es := [0, 127]) e5 (by decide)) rfl ?_; rintro _ k7 ⟨a1, c1, ob1, rfl, A, hg1, e7⟩; refine bX (wan (aH (aM (aE (cJ rfl rfl rfl ?_))))); exact ⟨.inr ⟨_, _, nam2 H I B, rfl, _, _, _, [(0, 127)], rfl, A, (Ge.fresh b5 hg1), gZ (by kernel_rfl), fun c => Iff.rfl, by decide⟩, (b5.then e7)⟩
  refine csr (aC (iH rfl rfl) ?_); refine wan (aX rfl (fun D => ?_) (fun D => ?_))
  ·refine csr (bL (vs := [_, _, _, _]) rfl cO rfl rfl rfl rfl fun k8 k9 e8 h7 e9 => ?_); have b6 := (Evo.refl [] w).then e9; refine aK (vs := [_]) cU rfl (fP (es := [9, 9, 32, 32]) e8 (by decide)) rfl ?_; rintro _ l0 ⟨a1, c1, ob1, rfl, A, hg1, f0⟩; refine bX (wan (aH (aM (aE (cJ rfl rfl rfl ?_))))); exact ⟨.inr ⟨_, _, nam3 H I B D, rfl, _, _, _, [(9, 9), (32, 32)], rfl, A, (Ge.fresh b6 hg1), gZ (by kernel_rfl), fun c => Iff.rfl, by decide⟩, (b6.then f0)⟩
  refine csr (aC (iH rfl rfl) ?_); refine wan (aX rfl (fun F => ?_) (fun F => ?_))
  ·refine csr (bL (vs := [_, _, _, _]) rfl cO rfl rfl rfl rfl fun l1 l2 f5 h8 f6 => ?_); have b7 := (Evo.refl [] w).then f6; refine aK (vs := [_]) cU rfl (fP (es := [0, 31, 127, 127]) f5 (by decide)) rfl ?_; rintro _ l3 ⟨a1, c1, ob1, rfl, A, hg1, f7⟩; refine bX (wan (aH (aM (aE (cJ rfl rfl rfl ?_))))); exact ⟨.inr ⟨_, _, nam4 H I B D F, rfl, _, _, _, [(0, 31), (127, 127)], rfl, A, (Ge.fresh b7 hg1), gZ (by kernel_rfl), fun c => Iff.rfl, by decide⟩, (b7.then f7)⟩
  refine csr (aC (iH rfl rfl) ?_); refine wan (aX rfl (fun J => ?_) (fun J => ?_))
  ·refine csr (bL (vs := [_, _]) rfl cO rfl rfl rfl rfl fun l4 l5 f8 h9 f9 => ?_); have b8 := (Evo.refl [] w).then f9; refine aK (vs := [_]) cU rfl (fP (es := [48, 57]) f8 (by decide)) rfl ?_; rintro _ l6 ⟨a1, c1, ob1, rfl, A, hg1, g0⟩; refine bX (wan (aH (aM (aE (cJ rfl rfl rfl ?_))))); exact ⟨.inr ⟨_, _, nam5 H I B D F J, rfl, _, _, _, [(48, 57)], rfl, A, (Ge.fresh b8 hg1), gZ (by kernel_rfl), fun c => Iff.rfl, by decide⟩, (b8.then g0)⟩
  refine csr (aC (iH rfl rfl) ?_); refine wan (aX rfl (fun L => ?_) (fun L => ?_))
  ·refine csr (bL (vs := [_, _]) rfl cO rfl rfl rfl rfl fun l7 l8 g1 i1 g2 => ?_); have b9 := (Evo.refl [] w).then g2; refine aK (vs := [_]) cU rfl (fP (es := [33, 126]) g1 (by decide)) rfl ?_; rintro _ l9 ⟨a1, c1, ob1, rfl, A, hg1, g3⟩; refine bX (wan (aH (aM (aE (cJ rfl rfl rfl ?_))))); exact ⟨.inr ⟨_, _, nam6 H I B D F J L, rfl, _, _, _, [(33, 126)], rfl, A, (Ge.fresh b9 hg1), gZ (by kernel_rfl), fun c => Iff.rfl, by decide⟩, (b9.then g3)⟩
  refine csr (aC (iH rfl rfl) ?_); refine wan (aX rfl (fun M => ?_) (fun M => ?_))
  ·refine csr (bL (vs := [_, _]) rfl cO rfl rfl rfl rfl fun m0 m1 g4 i2 g5 => ?_); have c0 := (Evo.refl [] w).then g5; refine aK (vs := [_]) cU rfl (fP (es := [97, 122]) g4 (by decide)) rfl ?_; rintro _ m2 ⟨a1, c1, ob1, rfl, A, hg1, c2⟩; refine bX (wan (aH (aM (aE (cJ rfl rfl rfl ?_))))); exact ⟨.inr ⟨_, _, nam7 H I B D F J L M, rfl, _, _, _, [(97, 122)], rfl, A, (Ge.fresh c0 hg1), gZ (by kernel_rfl), fun c => Iff.rfl, by decide⟩, (c0.then c2)⟩
  refine csr (aC (iH rfl rfl) ?_); refine wan (aX rfl (fun O => ?_) (fun O => ?_))
  ·refine csr (bL (vs := [_, _]) rfl cO rfl rfl rfl rfl fun i3 i4 c3 g9 c4 => ?_); have a4 := (Evo.refl [] w).then c4; refine aK (vs := [_]) cU rfl (fP (es := [32, 126]) c3 (by decide)) rfl ?_; rintro _ i5 ⟨a1, c1, ob1, rfl, A, hg1, c5⟩; refine bX (wan (aH (aM (aE (cJ rfl rfl rfl ?_))))); exact ⟨.inr ⟨_, _, nam8 H I B D F J L M O, rfl, _, _, _, [(32, 126)], rfl, A, (Ge.fresh a4 hg1), gZ (by kernel_rfl), fun c => Iff.rfl, by decide⟩, (a4.then c5)⟩
  refine csr (aC (iH rfl rfl) ?_); refine wan (aX rfl (fun U => ?_) (fun U => ?_))
  ·refine csr (bL (vs := [_, _, _, _, _, _, _, _]) rfl cO rfl rfl rfl rfl fun i6 i7 c6 h0 c7 => ?_); have a5 := (Evo.refl [] w).then c7; refine aK (vs := [_]) cU rfl (fP (es := [33, 47, 58, 64, 91, 96, 123, 126]) c6 (by decide)) rfl ?_; rintro _ i8 ⟨a1, c1, ob1, rfl, A, hg1, c8⟩; refine bX (wan (aH (aM (aE (cJ rfl rfl rfl ?_))))); exact ⟨.inr ⟨_, _, nam9 H I B D F J L M O U, rfl, _, _, _, [(33, 47), (58, 64), (91, 96), (123, 126)], rfl, A, (Ge.fresh a5 hg1), gZ (by kernel_rfl), fun c => Iff.rfl, by decide⟩, (a5.then c8)⟩
  refine csr (aC (iH rfl rfl) ?_); refine wan (aX rfl (fun V => ?_) (fun V => ?_))
  ·refine csr (bL (vs := [_, _, _, _]) rfl cO rfl rfl rfl rfl fun i9 j0 c9 h1 d0 => ?_); have a6 := (Evo.refl [] w).then d0; refine aK (vs := [_]) cU rfl (fP (es := [9, 13, 32, 32]) c9 (by decide)) rfl ?_; rintro _ j1 ⟨a1, c1, ob1, rfl, A, hg1, d1⟩; refine bX (wan (aH (aM (aE (cJ rfl rfl rfl ?_))))); exact ⟨.inr ⟨_, _, nam10 H I B D F J L M O U V, rfl, _, _, _, [(9, 13), (32, 32)], rfl, A, (Ge.fresh a6 hg1), gZ (by kernel_rfl), fun c => Iff.rfl, by decide⟩, (a6.then d1)⟩
  refine csr (aC (iH rfl rfl) ?_); refine wan (aX rfl (fun a0 => ?_) (fun a0 => ?_))
  ·refine csr (bL (vs := [_, _]) rfl cO rfl rfl rfl rfl fun j2 j3 d2 h2 d3 => ?_); have a7 := (Evo.refl [] w).then d3; refine aK (vs := [_]) cU rfl (fP (es := [65, 90]) d2 (by decide)) rfl ?_; rintro _ j4 ⟨a1, c1, ob1, rfl, A, hg1, d4⟩; refine bX (wan (aH (aM (aE (cJ rfl rfl rfl ?_))))); exact ⟨.inr ⟨_, _, nam11 H I B D F J L M O U V a0, rfl, _, _, _, [(65, 90)], rfl, A, (Ge.fresh a7 hg1), gZ (by kernel_rfl), fun c => Iff.rfl, by decide⟩, (a7.then d4)⟩
  refine csr (aC (iH rfl rfl) ?_); refine wan (aX rfl (fun a2 => ?_) (fun a2 => ?_))
  ·refine csr (bL (vs := [_, _, _, _, _, _, _, _]) rfl cO rfl rfl rfl rfl fun j5 j6 d5 h3 d6 => ?_); have a8 := (Evo.refl [] w).then d6; refine aK (vs := [_]) cU rfl (fP (es := [48, 57, 65, 90, 95, 95, 97, 122]) d5 (by decide)) rfl ?_; rintro _ j7 ⟨a1, c1, ob1, rfl, A, hg1, d7⟩; refine bX (wan (aH (aM (aE (cJ rfl rfl rfl ?_))))); exact ⟨.inr ⟨_, _, nam12 H I B D F J L M O U V a0 a2, rfl, _, _, _, [(48, 57), (65, 90), (95, 95), (97, 122)], rfl, A, (Ge.fresh a8 hg1), gZ (by kernel_rfl), fun c => Iff.rfl, by decide⟩, (a8.then d7)⟩
  refine csr (aC (iH rfl rfl) ?_); refine wan (aX rfl (fun a3 => ?_) (fun a3 => ?_))
  ·refine csr (bL (vs := [_, _, _, _, _, _]) rfl cO rfl rfl rfl rfl fun j8 j9 d8 h4 d9 => ?_); have a9 := (Evo.refl [] w).then d9; refine aK (vs := [_]) cU rfl (fP (es := [48, 57, 65, 70, 97, 102]) d8 (by decide)) rfl ?_; rintro _ k0 ⟨a1, c1, ob1, rfl, A, hg1, e0⟩; refine bX (wan (aH (aM (aE (cJ rfl rfl rfl ?_))))); exact ⟨.inr ⟨_, _, nam13 H I B D F J L M O U V a0 a2 a3, rfl, _, _, _, [(48, 57), (65, 70), (97, 102)], rfl, A, (Ge.fresh a9 hg1), gZ (by kernel_rfl), fun c => Iff.rfl, by decide⟩, (a9.then e0)⟩
  refine aL (aO (aB (csr (bX (wan (aH (cJ rfl rfl rfl ?_))))))); exact ⟨.inl ⟨namN H I B D F J L M O U V a0 a2 a3, rfl⟩, (Evo.refl [] w)⟩
theorem litS (f : Fl) (c : Int) : lD f c = kI (if f.fold = true then oM (fun x => x = c) else fun x => x = c) := rfl
theorem TE (c x : Int) : InR x [(c, c)] ↔ x = c := by rw [kP]; show c ≤ x ∧ x ≤ c ↔ _; omega
theorem DX {w : World} {b : Nat} {s : ByteArray} {st : PS} {a : Option Addr} {c : Nat} {ob : Option Nat} (hR : RdAt w b s st a c ob) (r : Int) (h0 : 0 ≤ r) (h1 : r ≤ 1114111) :
    Calls Tryz.prog 134 #[.pointer (some ⟨b, 0, none⟩), .int .i32 r] w (Ret fun v w' => TOut w w' v (lD st.now r) ∧ Evo [] w w') := by
  have hap := hR.ap
  have hvr : Vr [(r, r)] := fun g hg => by rw [List.mem_singleton.1 hg]; exact ⟨h0, Int.le_refl _, h1⟩
  refine bD (N := 19) Tryz.func134 rfl rfl rfl ?_; refine csr (cK rfl eG fun b4 w1 a8 a3 a4 => ?_); have a9 := a3; have a5 := Ge.new (Evo.refl [] w) a3; refine wnn (csr (aD (aD (bL (vs := [_, _]) rfl cO rfl rfl rfl rfl fun b9 c0 a7 b8 F => ?_)))); refine aK (vs := [_]) cU rfl (fP (es := [r, r]) a7 (by simp)) rfl ?_; rintro _ c3 ⟨a1, c1, ob1, rfl, a6, hg1, H⟩; have A := (((Evo.refl [] w).then a4).then F).then H; have B := H.blk0 (F.blk0 a8); refine wan (aI (csr (aD (aC (aF rfl) (aC (aA rfl dS) (wfl rfl pF rfl gC (H.blk0 (F.blk0 (a4.blk0 hR.blk))) rfl (wnn (fN rfl (fun I => ?_) (fun I => ?_)))))))))
  ·have hl9 : lD st.now r = kI (oM fun x => x = r) := by unfold lD; rw [if_pos I]
   refine aG (aD ?_); refine aK (vs := [_]) vA rfl (BX (l := [(r, r)]) a6 hvr (by simp) (TE r)) rfl ?_; rintro rv c4 ⟨a2, c2, ob2, rfl, b5, hg2, hl2, hcan2, heq2, D⟩; refine wan (csr (aD ?_))
   refine aK (vs := [_]) gO rfl (mY b5 (vW hcan2) (by have : ([(r, r)] : List (Int × Int)).length = 1 := rfl; omega) heq2) rfl ?_
   rintro rv b6 ⟨hT, J⟩; have L := (A.then D); have hb49 := eO (D.blk0 B); obtain ⟨vs, bs, rfl, hOT, hFr⟩ := hT; obtain ⟨ra, rc, ka, kc, rfl⟩ := id hOT.nine; refine aW rfl rfl aS (J.blk0 (D.blk0 B)) rfl rfl ⟨by first | rfl | assumption, by first | rfl | assumption, by first | rfl | assumption, by first | rfl | assumption, by first | rfl | assumption, by first | rfl | assumption, by first | rfl | assumption, by first | rfl | assumption, by first | rfl | assumption, trivial⟩ fun c5 M O => ?_
   try simp only [cG, Nat.reduceAdd] at M
   refine wnn (aH (cH rfl (ResOk.cellA rfl bQ aS M rfl) ?_)); refine ⟨?_, (((A.then D).then J).step O a5.mem1)⟩; rw [hl9]; refine ⟨_, bs, rfl, hOT.evo ((Evo.refl ([b4]) b6).step O (fun y hy => .inl hy)) (fun b hb h => ?_), hFr.older L.size⟩
   have := hFr.ge b hb; rw [List.mem_singleton.1 h] at this; omega
  have hl9 : lD st.now r = kI (fun x => x = r) := by unfold lD; rw [if_neg (by simp [I])]
  refine aL (aB (csr (aD ?_))); refine aK (vs := [_]) gO rfl (mY (l := [(r, r)]) a6 hvr (by simp) (TE r)) rfl ?_; rintro rv b7 ⟨hT, U⟩; have L := A; have hb49 := eO B; obtain ⟨vs, bs, rfl, hOT, hFr⟩ := hT; obtain ⟨ra, rc, ka, kc, rfl⟩ := id hOT.nine; refine aW rfl rfl aS (U.blk0 B) rfl rfl ⟨by first | rfl | assumption, by first | rfl | assumption, by first | rfl | assumption, by first | rfl | assumption, by first | rfl | assumption, by first | rfl | assumption, by first | rfl | assumption, by first | rfl | assumption, by first | rfl | assumption, trivial⟩ fun c6 V a0 => ?_
  try simp only [cG, Nat.reduceAdd] at V
  refine wnn (aH (cH rfl (ResOk.cellA rfl bQ aS V rfl) ?_)); refine ⟨?_, ((A.then U).step a0 a5.mem1)⟩; rw [hl9]; refine ⟨_, bs, rfl, hOT.evo ((Evo.refl ([b4]) b7).step a0 (fun y hy => .inl hy)) (fun b hb h => ?_), hFr.older L.size⟩
  have := hFr.ge b hb; rw [List.mem_singleton.1 h] at this; omega
end Go.Proofs.YtidpigbinpaaeaaGreat
namespace Go.Proofs.YtidpigbinpaaeaaGreat
open Go.RowKit Go.W
theorem hit_isR {s : ByteArray} {a w : Nat} (hw : 1 ≤ w) (h : Hit s a w) : IsR (dN s a w) := by
  by_cases e : IsR (dN s a w)
  · exact e
  · have := DZ h
    rw [dE, if_neg e] at this
    simp at this; omega
instance (s : ByteArray) (c : In) (i : Nat) : Decidable (tO s c i) := by unfold tO; infer_instance
end Go.Proofs.YtidpigbinpaaeaaGreat
namespace Go.Proofs.YtidpigbinpaaeaaGreat
open Go.W
attribute [local irreducible] Decidable.decide
theorem wY : dU Tryz.prog 31 := ⟨_, Tryz.func31, by kernel_rfl, by kernel_rfl⟩
theorem wS : dU Tryz.prog 87 := ⟨_, Tryz.func87, by kernel_rfl, by kernel_rfl⟩
theorem CM (l : List Nat) : (fS l).size = l.length := by simp [fS, ByteArray.size]
theorem FX {w : World} (r : Int) : Calls Tryz.prog 87 #[.int .i32 r] w (Ret fun v w' => v = .int .i64 (if r < 128 then 1 else if r < 2048 then 2 else if r < 65536 then 3 else 4) ∧ Evo [] w w') := by
  refine bD (N := 12) Tryz.func87 rfl rfl rfl ?_; refine csr (wan (aI (bG (csr (aD (aC (cX rfl rfl) ?_)))))); refine wan (aX rfl (fun A => ?_) (fun A => ?_))
  ·refine csr (wan (aH (aM (aE (br1 ?_)))))
   exact ⟨by congr 1; (repeat' split) <;> omega, (Evo.refl [] w)⟩
  refine csr (aD (aC (cX rfl rfl) ?_)); refine wan (aX rfl (fun B => ?_) (fun B => ?_))
  ·refine csr (wan (aH (aM (aE (br1 ?_)))))
   exact ⟨by congr 1; (repeat' split) <;> omega, (Evo.refl [] w)⟩
  refine csr (aD (aC (cX rfl rfl) ?_)); refine wan (aX rfl (fun D => ?_) (fun D => ?_))
  ·refine csr (wan (aH (aM (aE (br1 ?_)))))
   exact ⟨by congr 1; (repeat' split) <;> omega, (Evo.refl [] w)⟩
  refine aL (aO (aB (csr (wan (aH (br1 ?_))))))
  exact ⟨by congr 1; (repeat' split) <;> omega, (Evo.refl [] w)⟩
theorem wF {w : World} (s : ByteArray) (a : Nat) (ha : a ≤ s.size) (hl : s.size ≤ 140737488355328) : Calls Tryz.prog 31 #[.string s, .int .i64 (a : Nat)] w (Ret fun v w' => v = .bool (decide (a + 3 ≤ s.size ∧ s.extract a (a + 3) = fS [239, 191, 189])) ∧ Evo [] w w') := by
  refine bD (N := 18) Tryz.func31 rfl rfl rfl ?_; refine csr (wan (csr (aD ?_))); refine aC (aJ rfl rfl (by omega) (by omega)) ?_; refine aD (aC (cA rfl Tryz.underlying9 rfl) ?_); refine aC (fE rfl rfl) ?_; refine aD (bF (t := 10) rfl (fun A => ?_) (fun A => ?_))
  ·refine aT (aD (aT (aD (aT (aD (aT ?_)))))); refine aC (aJ rfl rfl (by omega) (by omega)) ?_; refine aT ?_; refine aC (EF (l := a) (h := a + 3) rfl rfl rfl Tryz.underlying9 rfl (by omega) (by omega) (by omega)) ?_; refine aT (aC (iH rfl rfl) ?_); refine bW (wan (aH (br1 ?_))); refine ⟨congrArg Value.bool (decide_eq_decide.2 ?_), (Evo.refl [] w)⟩; constructor
   · exact fun h => ⟨by omega, h⟩
   · exact fun h => h.2
  refine aN (aN (aN (aN (aN (aN (bM (wan (aH (br1 ?_))))))))); exact ⟨congrArg Value.bool (decide_eq_false (by omega)).symm, (Evo.refl [] w)⟩
theorem BQ {s : ByteArray} {a : Nat} (ha : a < s.size) (h : (Utf8.decode s a).1 = 65533) (hr : ¬ (a + 3 ≤ s.size ∧ s.extract a (a + 3) = fS [239, 191, 189])) : bJ s a = (-1, 0) := by
  have h1 := HY s a h ha
  have h2 := rX s a h ha
  unfold bJ
  rw [if_neg]
  rintro ⟨_, h3⟩
  rcases h1 with h1 | h1
  · exact h3 ⟨h, h1⟩
  · exact hr (h2.1 h1)
theorem yT {s : ByteArray} {a : Nat} (ha : a < s.size) (h : ¬ (Utf8.decode s a).1 = 65533 ∨ (a + 3 ≤ s.size ∧ s.extract a (a + 3) = fS [239, 191, 189])) :
    (bJ s a).1 = ((Utf8.decode s a).1 : Nat) ∧ (((bJ s a).2 : Nat) : Int) = if ((Utf8.decode s a).1 : Int) < 128 then 1 else if ((Utf8.decode s a).1 : Int) < 2048 then 2 else if ((Utf8.decode s a).1 : Int) < 65536 then 3 else 4 := by
  have hn : ¬ ((Utf8.decode s a).1 = 65533 ∧ (Utf8.decode s a).2 = 1) := fun ⟨h1, h2⟩ => by
    rcases h with h | h
    · exact h h1
    · rw [(rX s a h1 ha).2 h] at h2; cases h2
  have hw := EL s a ha hn
  unfold bJ
  rw [if_pos ⟨ha, hn⟩]
  refine ⟨rfl, ?_⟩
  simp only
  rw [hw]
  repeat' split
  all_goals first | rfl | omega
theorem NP {w : World} (s : ByteArray) (a : Nat) (ha : a ≤ s.size) (hl : s.size ≤ 140737488355328) : Calls Tryz.prog 58 #[.string s, .int .i64 (a : Nat)] w (Ret fun v w' => v = .tuple #[.int .i32 (bJ s a).1, .int .i64 ((bJ s a).2 : Nat)] ∧ Evo [] w w') := by
  refine bD (N := 44) Tryz.func58 rfl rfl rfl ?_; refine csr (bX (wan (aI (csr (aD (aC (cX rfl rfl) ?_)))))); refine aD (bF (t := 10) rfl (fun I => ?_) (fun I => ?_))
  ·refine aN (aN (aN (aN (bW (wnn (dP rfl ?_)))))); refine csr (bX (wan (aH (aE (cJ rfl rfl rfl ?_)))))
   exfalso; omega
  refine aT (aD (aT (aD (aT (aC (cA rfl Tryz.underlying9 rfl) ?_))))); refine aT (aC (eF rfl rfl) ?_); refine bM (wnn (aX rfl (fun J => ?_) (fun J => ?_)))
  ·refine csr (bX (wan (aH (aE (cJ rfl rfl rfl ?_)))))
   exact ⟨by rw [pM (by omega)]; rfl, (Evo.refl [] w)⟩
  refine aL (aB (aI (csr ?_)))
  have hlt : a < s.size := by omega
  refine aD (aD (aD (aC (cA rfl Tryz.underlying9 rfl) ?_))); refine aD ?_; refine aC (aJ rfl rfl (by omega) (by omega)) ?_; refine aC (jJ rfl rfl) ?_
  refine aC (EF (l := a) (h := min s.size (a + 4)) rfl rfl rfl Tryz.underlying9 rfl (by split <;> omega) (by omega) (by omega)) ?_
  refine AU rfl rfl Tryz.underlying9 fun b1 w2 V a0 a1 => ?_; refine wnn (bG (dC (α := Nat) (0) (fun k => []) [(0, _), (1, _), (24, _)] (fun k wr => Evo [] w2 wr ∧ (True)) (fun k => 0) trivial ⟨rfl, rfl, rfl, trivial⟩ ⟨Evo.refl _ _, trivial⟩ ?_)); rintro k wr8 ⟨H, _⟩; show CW _ _ _ _ [(0, _), (1, _), (24, _)] _; refine csr ?_
  refine FW rfl rfl (H.blk0 V) (by simp; omega) fun a3 a2 L => ?_
  have B := (((Evo.refl [] w).then a1).then H).step L (Ge.new (Evo.refl [] w) a0).mem1; have hcut := LU s a hlt; refine aC (cD rfl rfl) ?_; refine wnn (aI (dP rfl ?_)); refine aL (aB (bG (csr (aC (cD rfl rfl) ?_)))); refine aC (cD rfl rfl) ?_; refine bX (wan (aI (csr (aD (aC (gL rfl rfl) ?_))))); refine aD (bF (t := 31) rfl (fun M => ?_) (fun M => ?_))
  ·refine aN (aN (aN (fF ?_))); refine fF ?_; refine fF ?_; refine fF ?_; refine aN (bW (wnn (dP rfl ?_))); refine cM (bK (sT rfl (bK (cL (aB ?_))))); refine csr (bX (wan (aH (cJ rfl rfl rfl ?_))))
   exfalso; omega
  refine aT (aD (aT (wel ?_))); refine aT (aD (bF (t := 34) rfl (fun A => ?_) (fun A => ?_)))
  ·refine aT (aD (aT (aD (aT ?_)))); refine aK (vs := [_, _]) wY rfl (wF s a (by omega) hl) rfl ?_; rintro _ a4 ⟨rfl, F⟩; refine aT (aC (oY rfl) ?_); refine aT (bW (bM (wnn (aX rfl (fun D => ?_) (fun D => ?_)))))
   ·refine cM (bK (sT rfl (bK (cL (aB ?_))))); refine csr (bX (wan (aH (cJ rfl rfl rfl ?_)))); rw [hcut] at A
    exact ⟨by rw [BQ hlt (by omega) D]; rfl, (B.then F)⟩
   refine aL (aB (csr (aD (aD (aK (vs := [_]) wS rfl (FX _) rfl ?_))))); rintro _ a5 ⟨rfl, O⟩; refine bX (wan (aH (aM (aE (aM (aE (cJ rfl rfl rfl ?_))))))); rw [hcut] at A ⊢; have hg := yT hlt (.inr (Decidable.not_not.1 D))
   exact ⟨by rw [hg.1, hg.2]; rfl, ((B.then F).then O)⟩
  refine aN (aN (aN (aN (aT (bM (bM (wnn (cS rfl ?_)))))))); refine aL (aB (csr (aD (aD (aK (vs := [_]) wS rfl (FX _) rfl ?_))))); rintro _ a6 ⟨rfl, U⟩; refine bX (wan (aH (aM (aE (aM (aE (cJ rfl rfl rfl ?_))))))); rw [hcut] at A ⊢; have hg := yT hlt (.inl (by omega))
  exact ⟨by rw [hg.1, hg.2]; rfl, (B.then U)⟩
end Go.Proofs.YtidpigbinpaaeaaGreat
namespace Go.Proofs.YtidpigbinpaaeaaGreat
open Go.RowKit Go.W
attribute [local irreducible] Decidable.decide
theorem FE : dU Tryz.prog 164 := ⟨_, Tryz.func164, by kernel_rfl, by kernel_rfl⟩
theorem wZ : dU Tryz.prog 26 := ⟨_, Tryz.func26, by kernel_rfl, by kernel_rfl⟩
theorem wV : dU Tryz.prog 58 := ⟨_, Tryz.func58, by kernel_rfl, by kernel_rfl⟩
def Bd (s : ByteArray) (i : Nat) : Prop := ∃ N k, Utf s N ∧ k ≤ N ∧ cV s k = i
theorem Bd.le {s : ByteArray} {i : Nat} (h : Bd s i) : i ≤ s.size := by obtain ⟨N, k, _, _, rfl⟩ := h; exact uG s k
theorem Bd.zero {s : ByteArray} {N : Nat} (h : Utf s N) : Bd s 0 := ⟨N, 0, h, Nat.zero_le _, rfl⟩
theorem Bd.next {s : ByteArray} {i : Nat} (h : Bd s i) (hi : i < s.size) : 0 < (bJ s i).2 ∧ i + (bJ s i).2 ≤ s.size ∧ Bd s (i + (bJ s i).2) ∧ 0 ≤ (bJ s i).1 ∧ (bJ s i).1 ≤ 1114111 := by
  obtain ⟨N, k, hU, hk, rfl⟩ := h
  have hkN : k < N := by
    rcases Nat.lt_or_ge k N with h | h
    · exact h
    · obtain rfl : k = N := by omega
      rw [hU.1] at hi; omega
  have h0 := hU.2 k hkN
  have h1 : Bd s (cV s k + (bJ s (cV s k)).2) := ⟨N, k + 1, hU, hkN, rfl⟩
  rcases lY s (cV s k) with h2 | h2
  · rw [h2] at h0; cases h0
  · exact ⟨h0, h1.le, h1, h2.1, h2.2.1⟩
theorem Bd.asc {s : ByteArray} {i : Nat} (h : Bd s i) (hi : i < s.size) (hb : sb s i < 128) : Bd s (i + 1) ∧ (bJ s i).1 = (sb s i : Int) ∧ (bJ s i).2 = 1 := by
  obtain ⟨h0, h1, h2, h3, h4⟩ := h.next hi
  obtain ⟨h5, h6, h7, h8⟩ := pO h0
  by_cases hc : (bJ s i).1 < 128
  · obtain ⟨h9, h10⟩ := h6 hc
    rw [h9] at h2
    exact ⟨h2, h10.symm, h9⟩
  · have := h7 (by omega); omega
theorem isB.asc {s : ByteArray} {i b : Nat} (h : isB s i b) (hb : b < 128) (hd : Bd s i) : Bd s (i + 1) := (hd.asc h.1 (by rw [h.2]; exact hb)).1
theorem xH {w : World} {b : Nat} {s : ByteArray} {st : PS} {a : Option Addr} {c : Nat} {ob : Option Nat} (hR : RdAt w b s st a c ob) (hs : s.size ≤ 1000000) (hb : Bd s st.pos) :
    Calls Tryz.prog 130 #[.pointer (some ⟨b, 0, none⟩)] w (Ret fun v w' => v = .int .i32 (bJ s st.pos).1 ∧ Evo [b] w w' ∧ RdAt w' b s (adv st (bJ s st.pos).2) a c ob) := by
  have hap := hR.ap; have hle := hb.le
  have hnx : st.pos + (bJ s st.pos).2 ≤ s.size + 4 := by rcases lY s st.pos with h | h; rw [h]; (show st.pos + 0 ≤ s.size + 4; omega); omega
  refine bD (N := 26) Tryz.func130 rfl rfl rfl ?_; refine csr (wan (aI ?_)); refine fZ (fun w0 w' => Evo [] w0 w') (by kernel_rfl) (fun w1 F => ?_); have D := F.blk0 hR.blk; refine aet 0 rfl (fun _ hS => aY rfl) (Evo.refl [] w1) ?_; refine aet 1 rfl (fun _ hS => aF rfl) (Evo.refl [] w1) ?_; refine aet 2 rfl (fun _ hS => aA rfl cP) (Evo.refl [] w1) ?_; refine aet 3 rfl (fun _ hS => aU rfl cT (bA (hS.blk0 D) rfl)) (Evo.refl [] w1) ?_; refine aet 4 rfl (fun _ hS => aY rfl) (Evo.refl [] w1) ?_; refine aet 5 rfl (fun _ hS => aF rfl) (Evo.refl [] w1) ?_; refine aet 6 rfl (fun _ hS => aA rfl aV) (Evo.refl [] w1) ?_; refine aet 7 rfl (fun _ hS => aU rfl aQ (bA (hS.blk0 D) rfl)) (Evo.refl [] w1) ?_; refine bR [8] (by kernel_rfl) rfl ⟨?_, trivial⟩; refine bY rfl ?_; refine aK (vs := [_, _]) wV rfl (NP s st.pos hle (by omega)) rfl ?_; rintro _ w6 ⟨rfl, B⟩; have A := (Evo.refl [] w1).then B; refine aP (bN (.inl A) ?_); refine aet 9 rfl (fun _ hS => aY rfl) A ?_
  refine aet 10 rfl (fun _ hS => cD rfl rfl) A ?_; refine aet 11 rfl (fun _ hS => cD rfl rfl) A ?_; refine aet 12 rfl (fun _ hS => eK rfl) A ?_; refine aet 13 rfl (fun _ hS => eK rfl) A ?_; refine dJ (by kernel_rfl) (aB ?_); refine csr (aD (aC (aF rfl) (wfl rfl aV rfl aQ (B.blk0 D) rfl (aD ?_)))); refine aC (aJ rfl rfl (by omega) (by omega)) ?_; refine aC (aF rfl) (aC (aA rfl aV) ?_); refine bC rfl rfl (by first | rfl | assumption) bO (B.blk0 D) rfl fun J H I => ?_
  try simp only [cG, Nat.reduceAdd] at H
  refine wnn (csr (aD (wan (aH (br1 ?_))))); exact ⟨rfl, ((((Evo.refl [b] w).then F).then B).step I (fun y hy => .inl hy)), H, (((hR.own.evo0 F).evo0 B).evo I hap.symm.own1), hR.ne⟩
theorem hexD_lo {c d : Nat} (h : oW c = some d) : c < 128 ∧ d < 16 := by
  unfold oW at h
  split at h
  · cases h; omega
  · split at h
    · cases h; omega
    · split at h
      · cases h; omega
      · cases h
theorem xL {s : ByteArray} {i d j : Nat} (h : gG s i = .ok (d, j)) (hb : Bd s i) : Bd s j ∧ j = i + 1 ∧ d < 16 := by
  unfold gG at h
  split at h
  · rename_i hi
    split at h
    · rename_i d' hd
      cases h
      obtain ⟨h1, h2⟩ := hexD_lo hd
      exact ⟨(hb.asc hi h1).1, rfl, h2⟩
    · cases h
  · cases h
theorem NC {s : ByteArray} : ∀ {f n i m j : Nat}, mK s f n i = .ok (m, j) → Bd s i → n ≤ 1114111 → Bd s j ∧ i < j ∧ m ≤ 1114111
  | 0, n, i, m, j, h, _, _ => by cases h
  | f + 1, n, i, m, j, h, hb, hn => by
    rw [mK] at h
    split at h
    · rename_i hi
      cases h
      exact ⟨hi.asc (by decide) hb, by omega, hn⟩
    · split at h
      · cases h
      · rename_i d k hd
        obtain ⟨h1, h2, h3⟩ := xL hd hb
        split at h
        · cases h
        · obtain ⟨h4, h5, h6⟩ := NC h h1 (by omega)
          exact ⟨h4, by omega, h6⟩
theorem pHex_b {s : ByteArray} {i m j : Nat} (h : qC s i = .ok (m, j)) (hb : Bd s i) : Bd s j ∧ i < j ∧ m ≤ 1114111 := by
  unfold qC at h
  split at h
  · rename_i hi
    split at h
    · cases h
    · rename_i d k hd
      obtain ⟨h1, h2, h3⟩ := xL hd (hi.asc (by decide) hb)
      obtain ⟨h4, h5, h6⟩ := NC h h1 (by omega)
      exact ⟨h4, by omega, h6⟩
  · split at h
    · cases h
    · rename_i d k hd
      obtain ⟨h1, h2, h3⟩ := xL hd hb
      split at h
      · cases h
      · rename_i e q he
        cases h
        obtain ⟨h4, h5, h6⟩ := xL he h1
        exact ⟨h4, by omega, by omega⟩
def HV (c : Nat) : Int := if c = 97 then 0 else if c = 102 then 1 else if c = 116 then 2 else if c = 110 then 3 else if c = 114 then 4 else if c = 118 then 5 else -1
def escT : ByteArray := ByteArray.mk #[7, 12, 9, 10, 13, 11]
theorem WV {c : Nat} (h : 0 ≤ HV c) : ∃ k, HV c = ((k : Nat) : Int) ∧ k < escT.size ∧ vT c = some (sb escT k) ∧ sb escT k < 128 := by
  unfold HV at *
  unfold vT
  by_cases h1 : c = 97
  · subst h1; exact ⟨0, rfl, by decide, rfl, by decide⟩
  · by_cases h2 : c = 102
    · subst h2; exact ⟨1, rfl, by decide, rfl, by decide⟩
    · by_cases h3 : c = 116
      · subst h3; exact ⟨2, rfl, by decide, rfl, by decide⟩
      · by_cases h4 : c = 110
        · subst h4; exact ⟨3, rfl, by decide, rfl, by decide⟩
        · by_cases h5 : c = 114
          · subst h5; exact ⟨4, rfl, by decide, rfl, by decide⟩
          · by_cases h6 : c = 118
            · subst h6; exact ⟨5, rfl, by decide, rfl, by decide⟩
            · rw [if_neg h1, if_neg h2, if_neg h3, if_neg h4, if_neg h5, if_neg h6] at h; omega
theorem escI_no {c : Nat} (h : ¬ 0 ≤ HV c) : vT c = none := by
  unfold HV at h
  unfold vT
  by_cases h1 : c = 97
  · subst h1; exact (h (by decide)).elim
  · by_cases h2 : c = 102
    · subst h2; exact (h (by decide)).elim
    · by_cases h3 : c = 116
      · subst h3; exact (h (by decide)).elim
      · by_cases h4 : c = 110
        · subst h4; exact (h (by decide)).elim
        · by_cases h5 : c = 114
          · subst h5; exact (h (by decide)).elim
          · by_cases h6 : c = 118
            · subst h6; exact (h (by decide)).elim
            · rw [if_neg h1, if_neg h2, if_neg h3, if_neg h4, if_neg h5, if_neg h6]
theorem escIdx (c : Nat) (hc : c < 256) : Go.Lib.indexByte [97, 102, 116, 110, 114, 118] ((c : Int)).toNat.toUInt8 = HV c := by
  have h : ∀ c : Fin 256, Go.Lib.indexByte [97, 102, 116, 110, 114, 118] ((c.1 : Int)).toNat.toUInt8 = HV c.1 := by decide +kernel
  exact h ⟨c, hc⟩
theorem QR {w : World} (c : Nat) (hc : c < 256) : Calls Tryz.prog 26 #[.string (ByteArray.mk #[97, 102, 116, 110, 114, 118]), .int .u8 (c : Nat)] w (Ret fun v w' => v = iv (HV c) ∧ Evo [] w w') := by
  refine (lN _ _ w).mono ?_
  rintro e w' ⟨rfl, rfl⟩
  exact ⟨_, rfl, congrArg iv (escIdx c hc), Evo.refl _ _⟩
theorem GJ {s : ByteArray} {i : Nat} (h : s.size ≤ i + 1) : mX s i = .error 83 := by unfold mX; rw [if_pos h]
theorem pEsc_c {s : ByteArray} {i v : Nat} (h : ¬ s.size ≤ i + 1) (h2 : vT (sb s (i + 1)) = some v) : mX s i = .ok (v, i + 2) := by unfold mX; rw [if_neg h, h2]
theorem UK {s : ByteArray} {i : Nat} (h : ¬ s.size ≤ i + 1) (h2 : sb s (i + 1) = 120) : mX s i = qC s (i + 2) := by
  unfold mX; rw [if_neg h, h2, show vT 120 = none from rfl]; rfl
theorem GK {s : ByteArray} {i : Nat} (h : ¬ s.size ≤ i + 1) (h2 : vT (sb s (i + 1)) = none) (h3 : sb s (i + 1) ≠ 120) (h4 : 128 ≤ sb s (i + 1) ∨ (fU (sb s (i + 1)) ∧ sb s (i + 1) ≠ 95)) : mX s i = .error 83 := by
  unfold mX; rw [if_neg h, h2]; show (if sb s (i + 1) = 120 then _ else _) = _; rw [if_neg h3, if_pos h4]
theorem NE {s : ByteArray} {i : Nat} (h : ¬ s.size ≤ i + 1) (h2 : vT (sb s (i + 1)) = none) (h3 : sb s (i + 1) ≠ 120) (h4 : ¬ (128 ≤ sb s (i + 1) ∨ (fU (sb s (i + 1)) ∧ sb s (i + 1) ≠ 95))) : mX s i = .ok (sb s (i + 1), i + 2) := by
  unfold mX; rw [if_neg h, h2]; show (if sb s (i + 1) = 120 then _ else _) = _; rw [if_neg h3, if_neg h4]
theorem escC_lo {c v : Nat} (h : vT c = some v) : c < 128 := by
  unfold vT at h
  by_cases h1 : c < 128
  · exact h1
  · rw [if_neg (by omega), if_neg (by omega), if_neg (by omega), if_neg (by omega), if_neg (by omega), if_neg (by omega)] at h; cases h
theorem KT {s : ByteArray} {i n j : Nat} (h : mX s i = .ok (n, j)) (hb : Bd s i) (h0 : sb s i = 92) : Bd s j ∧ i < j ∧ n ≤ 1114111 := by
  have hi : i < s.size := by
    rcases Nat.lt_or_ge i s.size with h1 | h1
    · exact h1
    · rw [GJ (by omega)] at h; cases h
  have hb1 := (hb.asc hi (by omega)).1
  unfold mX at h
  split at h
  · cases h
  · rename_i h1
    split at h
    · rename_i v hv
      cases h
      have hv2 : n < 128 := by
        unfold vT at hv
        split at hv
        · cases hv; omega
        · split at hv
          · cases hv; omega
          · split at hv
            · cases hv; omega
            · split at hv
              · cases hv; omega
              · split at hv
                · cases hv; omega
                · split at hv
                  · cases hv; omega
                  · cases hv
      exact ⟨(hb1.asc (by omega) (escC_lo hv)).1, by omega, by omega⟩
    · split at h
      · rename_i hx
        obtain ⟨h2, h3, h4⟩ := pHex_b h ((hb1.asc (by omega) (by omega)).1)
        exact ⟨h2, by omega, h4⟩
      · split at h
        · cases h
        · rename_i h5
          cases h
          exact ⟨(hb1.asc (by omega) (by omega)).1, by omega, by omega⟩
theorem zI {w : World} {b : Nat} {s : ByteArray} {st : PS} {a : Option Addr} {c : Nat} {ob : Option Nat} (hR : RdAt w b s st a c ob) (hs : s.size ≤ 1000000) (hlt : st.pos < s.size) :
    Calls Tryz.prog 153 #[.pointer (some ⟨b, 0, none⟩)] w (RetP (fun v w' => ∃ n j, mX s st.pos = .ok (n, j) ∧ v = .int .i32 (n : Nat) ∧ Evo [b] w w' ∧ RdAt w' b s (gX st j) a c ob) (fun v w' => mX s st.pos = .error 83 ∧ v = flt 83 ∧ Evo [b] w w')) := by
  have hap := hR.ap; have hb9 := iS s (st.pos + 1); refine bD (N := 63) Tryz.func153 rfl rfl rfl ?_; refine csr (wan (csr (aD (aC (aF rfl) (wfl rfl aV rfl aQ hR.blk rfl ?_))))); refine aC (aJ rfl rfl (by omega) (by omega)) ?_; refine aC (aF rfl) (aC (aA rfl aV) ?_); refine bC rfl rfl (by first | rfl | assumption) bO hR.blk rfl fun w1 V a5 => ?_
  try simp only [cG, Nat.reduceAdd] at V
  refine wnn (aI (aI ?_)); refine eM (by kernel_rfl) (by kernel_rfl) ?_; refine bE (fun _ B => aY rfl) ?_; refine bE (fun _ B => aF rfl) ?_; refine bE (fun _ B => aA rfl aV) ?_; refine bE (fun _ B => aU rfl aQ (bA (B.blk0 V) rfl)) ?_; refine bE (fun _ B => aY rfl) ?_; refine bE (fun _ B => aF rfl) ?_; refine bE (fun _ B => aA rfl cP) ?_; refine bE (fun _ B => aU rfl cT (bA (B.blk0 V) rfl)) ?_; refine bE (fun _ B => cA rfl Tryz.underlying9 rfl) ?_; refine bE (fun _ B => mB rfl rfl) ?_; refine eS (fun b7 B => aB ?_); have a6 := ((Evo.refl [b] w).step a5 (fun y hy => .inl hy)).then B; have a0 := B.blk0 V; refine aX rfl (fun a7 => ?_) (fun a7 => ?_)
  ·refine aG (cB (vs := [_]) cN rfl (eD 83) rfl ?_ ?_)
   ·intro pv wp hpp; obtain ⟨rfl, hpw⟩ := hpp; exact And.intro rfl ⟨_, rfl, GJ (by omega), rfl, (a6).then hpw⟩
   intro _ _ hF; exact hF.elim
  have hlt2 : st.pos + 1 < s.size := by omega
  have hle2 : ¬ s.size ≤ st.pos + 1 := by omega
  refine aL (aB (aI ?_)); refine eM (by kernel_rfl) (by kernel_rfl) ?_; refine bE (fun _ A => aY rfl) ?_; refine bE (fun _ A => aF rfl) ?_; refine bE (fun _ A => aA rfl cP) ?_; refine bE (fun _ A => aU rfl cT (bA (A.blk0 a0) rfl)) ?_; refine bE (fun _ A => aY rfl) ?_; refine bE (fun _ A => aF rfl) ?_; refine bE (fun _ A => aA rfl aV) ?_; refine bE (fun _ A => aU rfl aQ (bA (A.blk0 a0) rfl)) ?_; refine bE (fun _ A => eA (n := st.pos + 1) rfl rfl Tryz.underlying9 rfl hlt2) ?_; refine bE (fun _ A => eK rfl) ?_; refine eS (fun b6 A => aB ?_); refine csr (aD (aC (aF rfl) (wfl rfl aV rfl aQ (A.blk0 a0) rfl ?_))); refine aC (aJ rfl rfl (by omega) (by omega)) ?_; refine aC (aF rfl) (aC (aA rfl aV) ?_); refine bC rfl rfl (by first | rfl | assumption) bO (A.blk0 a0) rfl fun b8 a1 a2 => ?_
  try simp only [cG, Nat.reduceAdd] at a1
  refine wnn (aI (csr (aD (aK (vs := [_, _]) wZ rfl (QR (sb s (st.pos + 1)) hb9) rfl ?_)))); rintro _ b9 ⟨rfl, H⟩; have D := ((a6.then A).step a2 (fun y hy => .inl hy)).then H; have I := H.blk0 a1; have J := ((((hR.own.evo a5 hap.symm.own1).evo0 B).evo0 A).evo a2 hap.symm.own1).evo0 H; refine wan (csr (aD (aC (eF rfl rfl) ?_))); refine wnn (aX rfl (fun L => ?_) (fun L => ?_))
  ·obtain ⟨k, hk1, hk2, hk3, hk4⟩ := WV L; refine csr (aD (aC (eA (s := escT) (n := k) rfl rfl Tryz.underlying9 hk1 hk2) ?_)); refine aC (iN rfl Tryz.underlying5 Tryz.underlying21 (AD (by omega) (by omega)).1 (AD (by omega) (by omega)).2) ?_; refine wan (aH (aE (cE (br1 ?_)))); exact ⟨_, _, pEsc_c hle2 hk3, rfl, D, ⟨I, J, hR.ne⟩⟩
  have hno := escI_no L; refine aL (aB (aI (csr (aD (wel ?_))))); refine wnn (aX rfl (fun a8 => ?_) (fun a8 => ?_))
  ·refine csr (aD (cB (vs := [_]) FE rfl (hex_ok (st := gX st (st.pos + 1 + 1)) ⟨I, J, hR.ne⟩ hs) rfl ?_ ?_))
   ·intro pv wp hpp; obtain ⟨hpe, rfl, hpw⟩ := hpp; exact And.intro rfl ⟨_, rfl, (UK hle2 (by omega)).trans hpe, rfl, (D).step hpw (fun y hy => .inl hy)⟩
   rintro _ c0 ⟨n, j, hx, rfl, a9, b5⟩; refine wan (aH (aE (cE (br1 ?_)))); exact ⟨_, _, (UK hle2 (by omega)).trans hx, rfl, (D.step a9 (fun y hy => .inl hy)), b5⟩
  have hnx : sb s (st.pos + 1) ≠ 120 := by omega
  refine aL (aB (aI (csr (aD (aC (eF rfl rfl) ?_))))); refine aD (bF (t := 52) rfl (fun b4 => ?_) (fun b4 => ?_))
  ·refine aN (aN (aN (fF ?_))); refine fF ?_; refine aN (bW (wnn (dP rfl ?_))); refine aG (cB (vs := [_]) cN rfl (eD 83) rfl ?_ ?_)
   ·intro pv wp hpp; obtain ⟨rfl, hpw⟩ := hpp; exact And.intro rfl ⟨_, rfl, GK hle2 hno hnx (by omega), rfl, (D).then hpw⟩
   intro _ _ hF; exact hF.elim
  refine aT (aD (aT (aK (vs := [_]) qS rfl (CR (sb s (st.pos + 1))) rfl ?_))); rintro _ c1 ⟨rfl, M⟩; have O := D.then M; have a3 := M.blk0 I; have a4 := J.evo0 M; refine aT (aD (bF (t := 55) rfl (fun F => ?_) (fun F => ?_)))
  ·refine aT (aD (aT (aC (gU rfl rfl) ?_))); refine aT (bW (bM (wnn (aX rfl (fun U => ?_) (fun U => ?_)))))
   ·refine aG (cB (vs := [_]) cN rfl (eD 83) rfl ?_ ?_)
    ·intro pv wp hpp; obtain ⟨rfl, hpw⟩ := hpp
     exact And.intro rfl ⟨_, rfl, GK hle2 hno hnx (by right; exact ⟨F, by omega⟩), rfl, (O).then hpw⟩
    intro _ _ hF; exact hF.elim
   refine aL (aB (csr (aD ?_))); refine aC (iN rfl Tryz.underlying5 Tryz.underlying21 (AD (by omega) (by omega)).1 (AD (by omega) (by omega)).2) ?_; refine wan (aH (cE (br1 ?_)))
   exact ⟨_, _, NE hle2 hno hnx (by rintro (h1 | ⟨h1, h2⟩); omega; first | exact F h1 | (exact U (by omega))), rfl, O, ⟨a3, a4, hR.ne⟩⟩
  refine aN (aN (aT (bM (bM (wnn (cS rfl ?_)))))); refine aL (aB (csr (aD ?_))); refine aC (iN rfl Tryz.underlying5 Tryz.underlying21 (AD (by omega) (by omega)).1 (AD (by omega) (by omega)).2) ?_; refine wan (aH (cE (br1 ?_)))
  exact ⟨_, _, NE hle2 hno hnx (by rintro (h1 | ⟨h1, h2⟩); omega; first | exact F h1 | (exact U (by omega))), rfl, O, ⟨a3, a4, hR.ne⟩⟩
end Go.Proofs.YtidpigbinpaaeaaGreat
namespace Go.Proofs.YtidpigbinpaaeaaGreat
open Go.RowKit Go.W
theorem fH {s : ByteArray} {a b : Nat} (h : b ≤ s.size) : (s.extract a b).size = b - a := by rw [ByteArray.size_extract]; omega
theorem IA (s : ByteArray) (j : Nat) : (s.extract j s.size).data.toList = s.data.toList.drop j := by
  rw [ByteArray.data_extract]
  have : s.size = s.data.size := rfl
  rw [this]
  simp only [Array.toList_extract, List.extract]
  exact List.take_of_length_le (by simp)
theorem MP (s : ByteArray) {n : Nat} (h : n < s.size) : s.data.toList[n]? = some (UInt8.ofNat (sb s n)) := by
  have h' : n < s.data.size := h
  rw [Array.getElem?_toList, Array.getElem?_eq_getElem h', rL s n h]
  show some s.data[n] = some (UInt8.ofNat (s.data[n]).toNat)
  rw [UInt8.ofNat_toNat]
def Occ (s : ByteArray) (a b k : Nat) : Prop := k + 1 < s.size ∧ sb s k = a ∧ sb s (k + 1) = b
instance (s : ByteArray) (a b k : Nat) : Decidable (Occ s a b k) := by unfold Occ; infer_instance
theorem SF {a b : Nat} (ha : a < 256) (hb : b < 256) (h : UInt8.ofNat a = UInt8.ofNat b) : a = b := by
  have := congrArg UInt8.toNat h
  rw [UInt8.toNat_ofNat', UInt8.toNat_ofNat'] at this
  omega
theorem KV {s : ByteArray} {a b j i : Nat} (ha : a < 256) (hb : b < 256) (hj : j ≤ s.size) : Go.Lib.occAt (s.extract j s.size).data.toList [UInt8.ofNat a, UInt8.ofNat b] i = decide (Occ s a b (j + i)) := by
  unfold Go.Lib.occAt
  rw [IA, List.drop_drop]
  have hlen : s.data.toList.length = s.size := by simp
  by_cases h : j + i + 1 < s.size
  · have e : s.data.toList.drop (j + i) = UInt8.ofNat (sb s (j + i)) :: UInt8.ofNat (sb s (j + i + 1)) :: s.data.toList.drop (j + i + 2) := by
      have h0 := MP s (n := j + i) (by omega)
      have h1 := MP s (n := j + i + 1) h
      obtain ⟨h2, h3⟩ := List.getElem?_eq_some_iff.1 h0
      obtain ⟨h4, h5⟩ := List.getElem?_eq_some_iff.1 h1
      rw [List.drop_eq_getElem_cons h2, List.drop_eq_getElem_cons h4, h3, h5]
    rw [e]
    have l1 := iS s (j + i)
    have l2 := iS s (j + i + 1)
    simp only [List.isPrefixOf, Bool.and_true]
    rw [Bool.eq_iff_iff]
    simp only [Bool.and_eq_true, beq_iff_eq, decide_eq_true_eq]
    unfold Occ
    constructor
    · rintro ⟨h6, h7⟩; exact ⟨h, (SF ha l1 h6).symm, (SF hb l2 h7).symm⟩
    · rintro ⟨-, h6, h7⟩; rw [h6, h7]; exact ⟨rfl, rfl⟩
  · rw [decide_eq_false (fun h2 => h h2.1)]
    have hl : (s.data.toList.drop (j + i)).length < 2 := by rw [List.length_drop, hlen]; omega
    match s.data.toList.drop (j + i), hl with
    | [], _ => rfl
    | [x], _ => simp [List.isPrefixOf]
theorem qL (s : ByteArray) (a b : Nat) : ∀ (f j : Nat), s.size ≤ j + f → (∀ k, kH s a b f j = some k → j ≤ k ∧ Occ s a b k ∧ ∀ m, j ≤ m → m < k → ¬ Occ s a b m) ∧ (kH s a b f j = none → ∀ m, j ≤ m → ¬ Occ s a b m)
  | 0, j, hf => ⟨(fun k h => by cases h), fun _ m hm ho => by have := ho.1; omega⟩
  | f + 1, j, hf => by
    obtain ⟨i1, i2⟩ := qL s a b f (j + 1) (by omega)
    rw [kH]
    by_cases h : j + 1 < s.size ∧ sb s j = a ∧ sb s (j + 1) = b
    · rw [if_pos h]
      exact ⟨fun k hk => by cases hk; exact ⟨Nat.le_refl _, h, fun m h1 h2 => by omega⟩, fun h2 => by cases h2⟩
    · rw [if_neg h]
      refine ⟨fun k hk => ?_, fun hk m hm ho => ?_⟩
      · obtain ⟨h1, h2, h3⟩ := i1 k hk
        exact ⟨by omega, h2, fun m h4 h5 ho => by
          rcases Nat.eq_or_lt_of_le h4 with e | e
          · subst e; exact h ho
          · exact h3 m e h5 ho⟩
      · rcases Nat.eq_or_lt_of_le hm with e | e
        · subst e; exact h ho
        · exact i2 hk m e ho
def HI (s : ByteArray) (a b j : Nat) : Int := match kH s a b s.size j with | none => -1 | some k => (k : Int) - j
theorem idx_two {s : ByteArray} {a b j : Nat} (ha : a < 256) (hb : b < 256) (hj : j ≤ s.size) : Go.Lib.index (s.extract j s.size).data.toList [UInt8.ofNat a, UInt8.ofNat b] = HI s a b j := by
  obtain ⟨h1, h2⟩ := qL s a b s.size j (by omega)
  have hlen : (s.extract j s.size).data.toList.length = s.size - j := by rw [IA, List.length_drop]; simp
  unfold HI
  cases h : kH s a b s.size j with
  | none =>
    refine Go.Lib.index_none fun i _ => ?_
    rw [KV ha hb hj]
    exact decide_eq_false (h2 h _ (by omega))
  | some k =>
    obtain ⟨h3, h4, h5⟩ := h1 k h
    have e : (k : Int) - j = ((k - j : Nat) : Int) := by omega
    show _ = (k : Int) - j
    rw [e]
    refine Go.Lib.index_first (by rw [hlen]; have := h4.1; omega) ?_ fun i hi => ?_
    · rw [KV ha hb hj, show j + (k - j) = k by omega]; exact decide_eq_true h4
    · rw [KV ha hb hj]; exact decide_eq_false (h5 _ (by omega) (by omega))
theorem zQ {s t : ByteArray} (h : s.size = t.size) (h2 : ∀ k, k < s.size → sb s k = sb t k) : s = t := by
  apply ByteArray.ext
  apply Array.ext h
  intro i h3 h4
  have h5 := h2 i h3
  rw [rL s i h3, rL t i h4] at h5
  have : (s.data[i]).toNat = (t.data[i]).toNat := h5
  exact UInt8.toNat_inj.1 this
theorem xI {t p : ByteArray} {i : Nat} (hi : i ≤ t.size) : (p.size ≤ (t.extract i t.size).size ∧ (t.extract i t.size).extract 0 p.size = p) ↔ ∀ k, k < p.size → isB t (i + k) (sb p k) := by
  have hs := fH (s := t) (a := i) (Nat.le_refl t.size)
  constructor
  · rintro ⟨h1, h2⟩ k hk
    refine ⟨by omega, ?_⟩
    have e : sb ((t.extract i t.size).extract 0 p.size) k = sb p k := by rw [h2]
    rw [dQ h1 (by omega), Nat.zero_add, dQ (Nat.le_refl _) (by omega)] at e
    exact e
  · intro h
    have h1 : p.size ≤ (t.extract i t.size).size := by
      rcases Nat.eq_zero_or_pos p.size with h0 | h0
      · omega
      · have := (h (p.size - 1) (by omega)).1; omega
    refine ⟨h1, zQ (by rw [fH h1]; omega) fun k hk => ?_⟩
    rw [fH h1] at hk
    rw [dQ h1 (by omega), Nat.zero_add, dQ (Nat.le_refl _) (by omega)]
    exact (h k (by omega)).2
end Go.Proofs.YtidpigbinpaaeaaGreat
namespace Go.Proofs.YtidpigbinpaaeaaGreat
open Go.RowKit Go.W
attribute [local irreducible] Decidable.decide
theorem nE : dU Tryz.prog 130 := ⟨_, Tryz.func130, by kernel_rfl, by kernel_rfl⟩
theorem uY : dU Tryz.prog 153 := ⟨_, Tryz.func153, by kernel_rfl, by kernel_rfl⟩
theorem uV : dU Tryz.prog 167 := ⟨_, Tryz.func167, by kernel_rfl, by kernel_rfl⟩
theorem FC : dU Tryz.prog 169 := ⟨_, Tryz.func169, by kernel_rfl, by kernel_rfl⟩
theorem WJ {s : ByteArray} {i k : Nat} (h : i ≤ s.size) : (s.extract i s.size).extract k (s.extract i s.size).size = s.extract (i + k) s.size := by
  have hs := fH (s := s) (a := i) (Nat.le_refl s.size)
  rcases Nat.lt_or_ge s.size (i + k) with hk | hk
  · apply zQ
    · rw [fH (Nat.le_refl _), fH (Nat.le_refl _), fH (Nat.le_refl _)]; omega
    · intro j hj; rw [fH (Nat.le_refl _), hs] at hj; omega
  · apply zQ
    · rw [fH (Nat.le_refl _), fH (Nat.le_refl _), fH (Nat.le_refl _)]; omega
    · intro j hj
      rw [fH (Nat.le_refl _), hs] at hj
      rw [dQ (Nat.le_refl _) (by rw [hs]; omega), dQ (Nat.le_refl _) (by omega), dQ (Nat.le_refl _) (by omega), Nat.add_assoc]
theorem zF {s : ByteArray} {i k m : Nat} (h : i + m ≤ s.size) (hk : k ≤ m) : (s.extract i s.size).extract k m = s.extract (i + k) (i + m) := by
  have hs := fH (s := s) (a := i) (Nat.le_refl s.size)
  apply zQ
  · rw [fH (by rw [hs]; omega), fH h]; omega
  · intro j hj
    rw [fH (by rw [hs]; omega)] at hj
    rw [dQ (by rw [hs]; omega) (by omega), dQ (Nat.le_refl _) (by omega), dQ h (by omega), Nat.add_assoc]
theorem lF {s : ByteArray} {i k : Nat} (h : i + k < s.size) : sb (s.extract i s.size) k = sb s (i + k) := dQ (Nat.le_refl _) h
def Pre (t p : ByteArray) : Prop := p.size ≤ t.size ∧ t.extract 0 p.size = p
instance (t p : ByteArray) : Decidable (Pre t p) := by unfold Pre; infer_instance
theorem pre1 {t : ByteArray} {x : UInt8} {i : Nat} (hi : i ≤ t.size) : Pre (t.extract i t.size) (ByteArray.mk #[x]) ↔ isB t i x.toNat := by
  unfold Pre
  rw [xI hi]
  constructor
  · intro h; exact h 0 (by show 0 < 1; omega)
  · intro h k hk
    have hk' : k < 1 := hk
    obtain rfl : k = 0 := by omega
    exact h
theorem pre2 {t : ByteArray} {x y : UInt8} {i : Nat} (hi : i ≤ t.size) : Pre (t.extract i t.size) (ByteArray.mk #[x, y]) ↔ isB t i x.toNat ∧ isB t (i + 1) y.toNat := by
  unfold Pre
  rw [xI hi]
  constructor
  · intro h; exact ⟨h 0 (by show 0 < 2; omega), h 1 (by show 1 < 2; omega)⟩
  · rintro ⟨h0, h1⟩ k hk
    have hk' : k < 2 := hk
    match k, hk' with
    | 0, _ => exact h0
    | 1, _ => exact h1
theorem pre3 {t : ByteArray} {x y z : UInt8} {i : Nat} (hi : i ≤ t.size) : Pre (t.extract i t.size) (ByteArray.mk #[x, y, z]) ↔ isB t i x.toNat ∧ isB t (i + 1) y.toNat ∧ isB t (i + 2) z.toNat := by
  unfold Pre
  rw [xI hi]
  constructor
  · intro h; exact ⟨h 0 (by show 0 < 3; omega), h 1 (by show 1 < 3; omega), h 2 (by show 2 < 3; omega)⟩
  · rintro ⟨h0, h1, h2⟩ k hk
    have hk' : k < 3 := hk
    match k, hk' with
    | 0, _ => exact h0
    | 1, _ => exact h1
    | 2, _ => exact h2
theorem pre4 {t : ByteArray} {x y z u : UInt8} {i : Nat} (hi : i ≤ t.size) : Pre (t.extract i t.size) (ByteArray.mk #[x, y, z, u]) ↔ isB t i x.toNat ∧ isB t (i + 1) y.toNat ∧ isB t (i + 2) z.toNat ∧ isB t (i + 3) u.toNat := by
  unfold Pre
  rw [xI hi]
  constructor
  · intro h; exact ⟨h 0 (by show 0 < 4; omega), h 1 (by show 1 < 4; omega), h 2 (by show 2 < 4; omega), h 3 (by show 3 < 4; omega)⟩
  · rintro ⟨h0, h1, h2, h3⟩ k hk
    have hk' : k < 4 := hk
    match k, hk' with
    | 0, _ => exact h0
    | 1, _ => exact h1
    | 2, _ => exact h2
    | 3, _ => exact h3
theorem TS {t : ByteArray} {x : UInt8} : Pre t (ByteArray.mk #[x]) ↔ isB t 0 x.toNat := by
  have h := pre1 (t := t) (x := x) (i := 0) (Nat.zero_le _)
  rwa [ByteArray.extract_zero_size] at h
def oC : Nat := 0
def Glb (w : World) : Prop := ∃ m : Int, w.cell? ⟨oC, 0, none⟩ = some (.int .i64 m)
theorem Glb.evo {X : List Nat} {w w' : World} (h : Glb w) (he : Evo X w w') (hx : oC ∉ X) : Glb w' := by obtain ⟨m, h⟩ := h; exact ⟨m, he.cell h hx⟩
theorem RdAt.glb {w : World} {b : Nat} {s : ByteArray} {st : PS} {a : Option Addr} {c : Nat} {ob : Option Nat} (h : RdAt w b s st a c ob) (hg : Glb w) : b ≠ oC := fun e => by
  obtain ⟨m, hm⟩ := hg
  subst e
  have := fC (o := 0) h.blk (v := .string s) rfl
  rw [this] at hm; cases hm
theorem OH {w : World} (s : ByteArray) (x y : UInt8) (j : Nat) (hj : j ≤ s.size) (hs : s.size ≤ 1000000) (hg : Glb w) : Calls Tryz.prog 160 #[.string (s.extract j s.size), .string (ByteArray.mk #[x, y])] w (Ret fun v w' => v = iv (HI s x.toNat y.toNat j) ∧ Evo [] w w') := by
  obtain ⟨m, hm⟩ := hg
  refine (tZ _ _ m w (by rw [fH (Nat.le_refl _)]; omega) hm).mono ?_
  rintro e w' ⟨rfl, rfl⟩
  have h := idx_two (s := s) (a := x.toNat) (b := y.toNat) (j := j) x.toNat_lt y.toNat_lt hj
  rw [UInt8.ofNat_toNat, UInt8.ofNat_toNat] at h
  exact ⟨_, rfl, congrArg iv h, Evo.refl _ _⟩
theorem HA {w : World} (s p : ByteArray) (hs : s.size ≤ 140737488355328) (hp : p.size ≤ 140737488355328) : Calls Tryz.prog 167 #[.string s, .string p] w (Ret fun v w' => v = .bool (decide (Pre s p)) ∧ Evo [] w w') := by
  refine bD (N := 18) Tryz.func167 rfl rfl rfl ?_; refine csr (wan (csr (aD (aC (cA rfl Tryz.underlying9 rfl) ?_)))); refine aD (aC (cA rfl Tryz.underlying9 rfl) ?_); refine aC (eF rfl rfl) ?_; refine aD (bF (t := 10) rfl (fun A => ?_) (fun A => ?_))
  ·refine aT (aD (aT (aD (aT (aC (cA rfl Tryz.underlying9 rfl) ?_))))); refine aT ?_; refine aC (RD (h := p.size) rfl rfl Tryz.underlying9 rfl (by omega)) ?_; refine aT (aD (aT (aC (iH rfl rfl) ?_))); refine bW (wan (aH (br1 ?_))); refine ⟨congrArg Value.bool (decide_eq_decide.2 ?_), (Evo.refl [] w)⟩; exact ⟨fun h => ⟨by omega, h⟩, fun h => h.2⟩
  refine aN (aN (aN (aN (aN (aN (bM (wan (aH (br1 ?_)))))))))
  exact ⟨congrArg Value.bool (decide_eq_false (fun h => by have := h.1; omega)).symm, (Evo.refl [] w)⟩
theorem xM {w : World} (s p : ByteArray) (hs : s.size ≤ 140737488355328) (hp : p.size ≤ 140737488355328) : Calls Tryz.prog 158 #[.string s, .string p] w (Ret fun v w' => v = .bool (decide (Pre s p)) ∧ Evo [] w w') := by
  refine bD (N := 8) Tryz.func158 rfl rfl rfl ?_; refine csr (wan (csr (aD (aD (aK (vs := [_, _]) uV rfl (HA s p hs hp) rfl ?_))))); rintro _ w1 ⟨rfl, A⟩; refine wan (aH (br1 ?_)); exact ⟨rfl, ((Evo.refl [] w).then A)⟩
theorem cutI_ok {w : World} (s p : ByteArray) (hs : s.size ≤ 140737488355328) (hp : p.size ≤ 140737488355328) : Calls Tryz.prog 169 #[.string s, .string p] w (Ret fun v w' => v = .tuple #[.string (if Pre s p then s.extract p.size s.size else s), .bool (decide (Pre s p))] ∧ Evo [] w w') := by
  refine bD (N := 15) Tryz.func169 rfl rfl rfl ?_; refine csr (bX (wan (aI (csr (aD (aD (aK (vs := [_, _]) uV rfl (HA s p hs hp) rfl ?_))))))); rintro _ w1 ⟨rfl, D⟩; have B := (Evo.refl [] w).then D; refine aC (oY rfl) ?_; refine wnn (aX rfl (fun A => ?_) (fun A => ?_))
  ·refine csr (aD (bX (wan (aH (aE (cJ rfl rfl rfl ?_)))))); exact ⟨by rw [if_neg A, decide_eq_false A], B⟩
  refine aL (aB (csr (aD (aD (aC (cA rfl Tryz.underlying9 rfl) ?_)))))
  refine aC (jO (l := p.size) rfl rfl Tryz.underlying9 rfl (by have := Classical.not_not.1 A; exact this.1)) ?_
  refine bX (wan (aH (cJ rfl rfl rfl ?_))); have h9 := Classical.not_not.1 A; exact ⟨by rw [if_pos h9, decide_eq_true h9], B⟩
theorem cut_ok {w : World} (s p : ByteArray) (hs : s.size ≤ 140737488355328) (hp : p.size ≤ 140737488355328) : Calls Tryz.prog 161 #[.string s, .string p] w (Ret fun v w' => v = .tuple #[.string (if Pre s p then s.extract p.size s.size else s), .bool (decide (Pre s p))] ∧ Evo [] w w') := by
  refine bD (N := 11) Tryz.func161 rfl rfl rfl ?_; refine csr (bX (wan (csr (aD (aD (aK (vs := [_, _]) FC rfl (cutI_ok s p hs hp) rfl ?_)))))); rintro _ w1 ⟨rfl, A⟩; refine aC (cD rfl rfl) ?_; refine aC (cD rfl rfl) ?_; refine bX (wan (aH (cJ rfl rfl rfl ?_))); exact ⟨rfl, ((Evo.refl [] w).then A)⟩
theorem UH {s : ByteArray} {i v j : Nat} (h : sb s i = 92) (h2 : mX s i = .ok (v, j)) : lX s i = .ok ((v : Int), j) := by unfold lX; rw [if_pos h, h2]
theorem UI {s : ByteArray} {i : Nat} {e : Int} (h : sb s i = 92) (h2 : mX s i = .error e) : lX s i = .error e := by unfold lX; rw [if_pos h, h2]
theorem GI {s : ByteArray} {i : Nat} (h : ¬ sb s i = 92) : lX s i = .ok ((bJ s i).1, i + (bJ s i).2) := by unfold lX; rw [if_neg h]
theorem vK {s : ByteArray} {i j : Nat} {r : Int} (h : lX s i = .ok (r, j)) (hb : Bd s i) (hi : i < s.size) : Bd s j ∧ i < j ∧ 0 ≤ r ∧ r ≤ 1114111 := by
  by_cases h1 : sb s i = 92
  · unfold lX at h
    rw [if_pos h1] at h
    cases h2 : mX s i with
    | error e => rw [h2] at h; cases h
    | ok x =>
      obtain ⟨n, k⟩ := x
      rw [h2] at h
      cases h
      obtain ⟨h3, h4, h5⟩ := KT h2 hb h1
      exact ⟨h3, h4, by omega, by omega⟩
  · rw [GI h1] at h
    cases h
    obtain ⟨h3, h4, h5, h6, h7⟩ := hb.next hi
    exact ⟨h5, by omega, h6, h7⟩
theorem AX {w : World} {b : Nat} {s : ByteArray} {st : PS} {a : Option Addr} {c : Nat} {ob : Option Nat} (hR : RdAt w b s st a c ob) (hs : s.size ≤ 1000000) (hlt : st.pos < s.size) (hb : Bd s st.pos) :
    Calls Tryz.prog 163 #[.pointer (some ⟨b, 0, none⟩)] w (RetP (fun v w' => ∃ r j, lX s st.pos = .ok (r, j) ∧ v = .int .i32 r ∧ Evo [b] w w' ∧ RdAt w' b s (gX st j) a c ob) (fun v w' => lX s st.pos = .error 83 ∧ v = flt 83 ∧ Evo [b] w w')) := by
  have hap := hR.ap; refine bD (N := 17) Tryz.func163 rfl rfl rfl ?_; refine csr (wan (aI (aI ?_))); refine eM (by kernel_rfl) (by kernel_rfl) ?_; refine bE (fun _ A => aY rfl) ?_; refine bE (fun _ A => aF rfl) ?_; refine bE (fun _ A => aA rfl cP) ?_; refine bE (fun _ A => aU rfl cT (bA (A.blk0 hR.blk) rfl)) ?_; refine bE (fun _ A => aY rfl) ?_; refine bE (fun _ A => aF rfl) ?_; refine bE (fun _ A => aA rfl aV) ?_; refine bE (fun _ A => aU rfl aQ (bA (A.blk0 hR.blk) rfl)) ?_; refine bE (fun _ A => eA (n := st.pos) rfl rfl Tryz.underlying9 rfl hlt) ?_; refine bE (fun _ A => mB rfl rfl) ?_; refine eS (fun L A => aB ?_); have B := (Evo.refl [b] w).then A; refine aX rfl (fun D => ?_) (fun D => ?_)
  ·refine csr (aD (cB (vs := [_]) uY rfl (zI ⟨(A.blk0 hR.blk), (hR.own.evo0 A), hR.ne⟩ hs hlt) rfl ?_ ?_))
   ·intro pv wp hpp; obtain ⟨hpe, rfl, hpw⟩ := hpp; exact And.intro rfl ⟨_, rfl, UI (by omega) hpe, rfl, (B).step hpw (fun y hy => .inl hy)⟩
   rintro _ w6 ⟨n, j, hx, rfl, H, I⟩; refine wan (aH (aE (cE (br1 ?_)))); exact ⟨_, _, UH (by omega) hx, rfl, (B.step H (fun y hy => .inl hy)), I⟩
  refine aL (aB (csr (aD (aK (vs := [_]) nE rfl (xH ⟨(A.blk0 hR.blk), (hR.own.evo0 A), hR.ne⟩ hs hb) rfl ?_)))); rintro _ w9 ⟨rfl, F, J⟩; refine wan (aH (cE (br1 ?_))); exact ⟨_, _, GI (by omega), rfl, (B.step F (fun y hy => .inl hy)), J⟩
end Go.Proofs.YtidpigbinpaaeaaGreat
namespace Go.Proofs.YtidpigbinpaaeaaGreat
open Go.RowKit Go.W
def sZ : List Nat := [92, 46, 43, 42, 63, 40, 41, 124, 91, 93, 123, 125, 94, 36]
def nmL (s : ByteArray) : List Nat := s.data.toList.map UInt8.toNat
theorem u8_back (l : List UInt8) : fS (l.map UInt8.toNat) = ⟨l.toArray⟩ := by
  have h : UInt8.ofNat ∘ UInt8.toNat = id := funext fun x => UInt8.ofNat_toNat
  unfold fS
  rw [List.map_map, h, List.map_id]
theorem VE (s : ByteArray) : fS (nmL s) = s := by unfold nmL; rw [u8_back]
theorem u8_lo (l : List UInt8) : Lo (l.map UInt8.toNat) := fun b hb => by
  obtain ⟨x, _, rfl⟩ := List.mem_map.1 hb
  exact x.toNat_lt
theorem nmL_len (s : ByteArray) : (nmL s).length = s.size := by
  unfold nmL
  rw [List.length_map]
  rfl
def Odd (c : Int) : Prop := c < 32 ∨ c = 127 ∨ (55296 ≤ c ∧ c ≤ 57343)
instance (c : Int) : Decidable (Odd c) := by unfold Odd; infer_instance
def EndC (c : Int) : Prop := c < 128 ∧ fU c.toNat ∧ c ≠ 95
instance (c : Int) : Decidable (EndC c) := by unfold EndC; infer_instance
theorem Lo.app {a b : List Nat} (h : Lo a) (k : Lo b) : Lo (a ++ b) := fun x hx => (List.mem_append.1 hx).elim (h x) (k x)
end Go.Proofs.YtidpigbinpaaeaaGreat
namespace Go.Proofs.YtidpigbinpaaeaaGreat
open Go.RowKit Go.W
attribute [local irreducible] Decidable.decide
theorem JR {w0 : World} {b : Nat} {o : Option Nat} (hub : w0.heap.size ≤ b) (h : Ge w0 o) : ∀ y, y ∈ b :: o.toList → y ∈ ([] : List Nat) ∨ w0.heap.size ≤ y := fun y hy => by
  rcases List.mem_cons.1 hy with rfl | hy
  · exact .inr hub
  · cases o with
    | none => cases hy
    | some g => rw [List.mem_singleton.1 hy]; exact .inr (h g rfl)
theorem bsz (l : List Nat) : (fS l).size = l.length := by simp [fS, ByteArray.size]
end Go.Proofs.YtidpigbinpaaeaaGreat
namespace Go.Proofs.YtidpigbinpaaeaaGreat
open Go.RowKit Go.W
noncomputable def fY (t : Rx) : List ByteArray := match t.fine 0 (0, []) with
  | some st => st.2
  | none => []
end Go.Proofs.YtidpigbinpaaeaaGreat
namespace Go.Proofs.YtidpigbinpaaeaaGreat
open Go.RowKit Go.W
attribute [local irreducible] Decidable.decide
theorem JJ : dU Tryz.prog 28 := ⟨_, Tryz.func28, by kernel_rfl, by kernel_rfl⟩
theorem IS : mH Tryz.prog 62 = some #[.pointer none, .slice none 0 0] := by kernel_rfl
theorem RS {n : Nat} {w : World} {vs : List Value} {t : Rx} (hx : RRx n [] w vs t) :
    Calls Tryz.prog 56 #[.agg vs.toArray] w (Ret fun v w' => ∃ a c ob, v = .slice a (fY t).length c ∧ OwnS w' 9 1 a (fY t).length c ((fY t).map sv) ob ∧ Ge w ob ∧ (fY t).length ≤ 100000 ∧ Evo [] w w') := by
  have hx0 := hx; obtain ⟨m, ra, rc, ka, kc, hm, rfl, hrg, hk, bl1, bl2, bl3⟩ := hx.get; refine bD (N := 13) Tryz.func56 rfl rfl rfl ?_; refine csr (gK rfl rfl fun b1x w1 O U V => ?_); have M := U; have F := (Evo.refl [] w).then V; refine wan (csr (cK rfl uQ fun jb w7 a0 A H => ?_)); have a1 := A; have B := F.then H; refine wan (aI (csr (aD (aC (bV rfl bQ aS (H.blk0 O) rfl) ?_)))); refine aK (vs := [_, _, _]) oQ rfl (EC (st := (0, [])) (JAt.new a0) (RRx.step hx0 B (Ge.new F A).mem1 (fun b hb => by cases hb)) ⟨Nat.le_refl _, by decide⟩ (by decide) (by decide)) rfl ?_; rintro _ a3 ⟨r, rfl, hr, L, hst⟩; have hsz9 := B.size; have I := B.step L ((Ge.new F A).mem1); refine aC (fK rfl) ?_; refine wnn (fN rfl (fun D => ?_) (fun D => ?_))
  ·refine csr (wan (aH (aE (br1 ?_))))
   have hno : t.fine 0 (0, []) = none := by cases h9 : t.fine 0 (0, []) with | none => rfl | some z => rw [h9] at hr; rw [hr] at D; cases D
   have hgr : fY t = [] := by rw [fY, hno]
   rw [hgr]; exact ⟨none, 0, none, rfl, OwnS.nil _ _ _, Ge.nil _, Nat.zero_le _, I⟩
  obtain ⟨st', hst'⟩ := Option.isSome_iff_exists.1 (show (t.fine 0 (0, [])).isSome = true by rw [← hr]; simpa using D)
  obtain ⟨A, a2, c2, o2, J, ho2⟩ := hst st' hst'
  have hgr : fY t = st'.2 := by rw [fY, hst']
  refine aL (aB (csr (aD (aC (aF rfl) (wfl rfl kL rfl jT J.blk rfl (wan (aH (br1 ?_)))))))); rw [hgr]
  refine ⟨a2, c2, o2, rfl, J.own, fun g hg => ?_, by have := A.1; have := A.2; omega, I⟩
  rcases ho2 g hg with h9 | h9
  · cases h9
  · omega
theorem HK : ∀ l : List ByteArray, (l.map fun s => [sv s]).flatten = l.map sv
  | [] => rfl
  | x :: r => by rw [List.map_cons, List.flatten_cons, HK r]; rfl
theorem XQ {w : World} {o p : Option Nat} (h : Lt w o) (hp : Ge w p) : Apart o p := fun g h1 h2 => by have := h g h1; have := hp g h2; omega
theorem TD {X : List Nat} {w : World} {e : TypeId} {a : Option Addr} {c : Nat} {l : List ByteArray} {ob : Option Nat} (h : OwnS w e 1 a l.length c (l.map sv) ob) (hx : ∀ g, ob = some g → g ∉ X) : RSl 1 RStr X w (.slice a l.length c) l := by
  have e1 := HK l
  refine RSl.ofOwn (rows := l.map fun s => [sv s]) (by rw [e1]; exact h) ⟨by simp, fun k h1 h2 => ?_⟩ rfl hx
  simp only [List.getElem_map]
  exact ⟨rfl, rfl⟩
def Comp2 (X : List Nat) (t : Rx) (w' : World) (ps : List Value) (e : Int) : Prop := (e ≠ 0 ∧ (¬ t.Ok ∨ 10000 < t.esz + 1) ∧ Shp ps) ∨ (t.Ok ∧ t.esz + 1 ≤ 10000 ∧ e = 0 ∧ ∃ l n a c na nc, ps = [.slice a l.length c, iv 0, iv (fY t).length, .slice na (fY t).length nc] ∧ RSl 5 RIn X w' (.slice a l.length c) l ∧ RSl 1 RStr X w' (.slice na (fY t).length nc) (fY t) ∧ l.length ≤ 10000 ∧ ProgOk t l n)
set_option maxHeartbeats 4000000 in
theorem IC {X : List Nat} {n : Nat} {w : World} {vs : List Value} {t : Rx} (hX : ∀ b, b ∈ X → b < w.heap.size) (hx : RRx n [] w vs t) :
    Calls Tryz.prog 30 #[.agg vs.toArray] w (Ret fun v w' => Evo [] w w' ∧ ∃ ps e, v = .tuple #[.agg ps.toArray, iv e] ∧ Comp2 X t w' ps e) := by
  have hx0 := hx; obtain ⟨m, ra, rc, ka, kc, hm, rfl, hrg, hk, bl1, bl2, bl3⟩ := hx.get; refine bD (N := 28) Tryz.func30 rfl rfl rfl ?_; refine csr (gK rfl rfl fun b1 w1 c9 d9 e0 => ?_); have e1 := d9; have b4 := (Evo.refl [] w).then e0; refine cK rfl wP fun b2 w7 e2 d0 I => ?_; have e3 := d0; have a0 := Ge.new b4 d0; refine wan (csr (aC (bV rfl bQ aS (I.blk0 c9) rfl) (aK (vs := [_]) JE rfl (Size_ok (RRx.pers _ _ _ _ _ _ (b4.then I) hx0)) rfl ?_))); rintro _ e9 ⟨sz, rfl, hsz, a1⟩; have J := (b4.then I).then a1; have b5 := a1.blk0 (I.blk0 c9); have L := a1.blk0 e2; refine wan (aI (csr (aD (wel ?_)))); refine wnn (aX rfl (fun M => ?_) (fun M => ?_))
  ·refine csr (aC (cC (vs := []) qZ rfl (cells := [_, _, _, _]) rfl) ?_); refine aW rfl rfl fO L rfl rfl ⟨by first | rfl | assumption, by first | rfl | assumption, by first | rfl | assumption, by first | rfl | assumption, trivial⟩ fun f0 b6 d2 => ?_
   try simp only [cG, Nat.reduceAdd] at b6
   refine wan (aH (aE (nY rfl (ResOk.cellA rfl jS fO b6 rfl) (ResOk.tmp rfl) ?_))); exact ⟨(J.step d2 a0.mem1), [_, _, _, _], 2, rfl, .inl ⟨by decide, .inl (hsz.zero M), _, _, _, _, _, rfl, rfl, rfl⟩⟩
  refine aL (aB (aI (csr (aD (aC (gL rfl rfl) ?_))))); refine wnn (aX rfl (fun a3 => ?_) (fun a3 => ?_))
  ·refine csr (aC (cC (vs := []) qZ rfl (cells := [_, _, _, _]) rfl) ?_); refine aW rfl rfl fO L rfl rfl ⟨by first | rfl | assumption, by first | rfl | assumption, by first | rfl | assumption, by first | rfl | assumption, trivial⟩ fun f5 b7 d3 => ?_
   try simp only [cG, Nat.reduceAdd] at b7
   refine wan (aH (aE (nY rfl (ResOk.cellA rfl jS fO b7 rfl) (ResOk.tmp rfl) ?_))); have hok : t.Ok := Classical.byContradiction fun h => M (hsz.2 h); exact ⟨(J.step d3 a0.mem1), [_, _, _, _], 90, rfl, .inl ⟨by decide, .inr (hsz.big hok a3), _, _, _, _, _, rfl, rfl, rfl⟩⟩
  have hok : t.Ok := Classical.byContradiction fun h => M (hsz.2 h); have hszE := hsz.fits hok a3; have hsz4 := size_lt hszE; refine aL (aB (csr (cK rfl EV fun cb f6 d4 O a4 => ?_))); have e4 := O; have b8 := Apart.new (Lt.blk b5) O; have b9 := Apart.new (Lt.blk L) O; have a5 := Ge.new J O; have U := J.then a4; have a6 := a4.blk0 b5; have a7 := a4.blk0 L; refine wnn (csr (aC (bV rfl bQ aS a6 rfl) ?_))
  refine aK (vs := [_, _]) iT rfl (OY (CdAt.new (Z := X ++ [b2]) d4) (RRx.step hx0 U a5.mem1 (fun b hb => by cases hb)) hok.good (SY hszE) (fun z hz => by rcases List.mem_append.1 hz with e | e; exact Nat.lt_of_lt_of_le (hX z e) (U).size; (rw [List.mem_singleton.1 e]; exact eO a7))) rfl ?_
  rintro _ e5 ⟨-, a8, new, hto, hcodes, hlen, hnice⟩; have hltb2 := (Lt.blk a7); have hltb1 := (Lt.blk a6); have hgcb := a5; have hev16 := U; obtain ⟨pa, pc, po, e6, hp1⟩ := hto; have H := e6.cast (List.nil_append _); have hgpo : Ge w po := OK (Ge.nil _) hev16.size hp1; have hA2po := fT (Apart.nil (some b2)) hltb2 hp1; have hA1po := fT (Apart.nil (some b1)) hltb1 hp1
  have hAcN : Apart (some cb) po := fun g h1 h2 => by cases h1; exact H.ne cb h2 rfl
  refine wnn (csr (aC (aU rfl dX (bA H.blk rfl)) (aC (cC (vs := [(0, _)]) dG rfl (cells := [_, _, _, _, _]) rfl) ?_))); refine bL (vs := [_]) rfl pA rfl rfl rfl rfl fun f7 f8 d5 e8 A => ?_; have c0 := (U.step a8 (a5.mem1)).then A; have c1 := A.blk0 (a8.blk a7 (b9.nmem1)); refine dB rfl rfl rfl rfl mQ (H.own.evo0 A) (Src.ofOwn d5 ⟨by first | rfl | assumption, by first | rfl | assumption, by first | rfl | assumption, by first | rfl | assumption, by first | rfl | assumption, trivial⟩) (by omega) fun a2 c2 f9 ob2 e7 B hob68 => ?_; have d6 := hgpo.app c0 hob68; have d7 := ((Evo.refl (cb :: (po.toList ++ (X ++ [b2]))) e5).then A).step B (fun y hy => .inl (List.mem_cons_of_mem _ (List.mem_append_left _ hy))); have hob2 := hob68; refine bC rfl rfl (by first | rfl | assumption) qQ (B.blk (A.blk0 H.blk) hAcN.nmem) rfl fun g0 c3 D => ?_; have a9 := (c0.step B hgpo.mem).step D hgcb.mem1
  have d8 := d7.step D (fun y hy => .inl (by rw [List.mem_singleton.1 hy]; exact List.mem_cons_self ..))
  have c4 := D.blk (B.blk c1 hA2po.nmem) b9.nmem1
  try simp only [cG, Nat.reduceAdd] at c3
  refine wnn (csr (aC (bV rfl bQ aS (D.blk (B.blk (A.blk0 (a8.blk a6 (b8.nmem1))) hA1po.nmem) b8.nmem1) rfl) (aK (vs := [_]) JD rfl (RS (RRx.pers _ _ _ _ _ _ a9 hx0)) rfl ?_))); rintro _ g1 ⟨na, nc, nob, rfl, hNm, hNg, hNl, F⟩; have hltb2n := (Lt.blk c4); have hevN := a9; have hA2ns : Apart (some b2) nob := XQ hltb2n hNg; refine wan (csr (aC (aU rfl dX (bA (F.blk0 c3) rfl)) (aD (aC (bH rfl Tryz.underlying22 rfl) ?_)))); refine aD (aC (cC (vs := [(0, _), (2, _), (3, _)]) qZ rfl (cells := [_, _, _, _]) rfl) ?_); refine aW rfl rfl fO (F.blk0 c4) rfl rfl ⟨by first | rfl | assumption, by first | rfl | assumption, by first | rfl | assumption, by first | rfl | assumption, trivial⟩ fun d1 c5 V => ?_; have c6 := (d8.then F).step V (fun y hy => .inl (List.mem_cons_of_mem _ (List.mem_append_right _ (List.mem_append_right _ hy)))); have c7 := ((e7.evo D (hAcN.app (Lt.blk (A.blk0 H.blk)) hob68).symm.own1).evo0 F).evo V (hA2po.app (Lt.blk c1) hob68).symm.own1; have c8 := hNm.evo V hA2ns.symm.own1
  try simp only [cG, Nat.reduceAdd] at c5
  refine wan (aH (nY rfl (ResOk.cellA rfl jS fO c5 rfl) (ResOk.tmp rfl) ?_))
  have hnew : ∀ e, e ∈ new ++ [((⟨1, 0, 0, 0, []⟩ : In), Value.slice none 0 0)] → e.1.rs.length ≤ 1048576 := fun e he => by rcases List.mem_append.1 he with h | h; exact (hnice e h).2.2.2; rw [List.mem_singleton] at h; subst h; exact Nat.zero_le _
  have hrsA : ∀ e, e ∈ new ++ [((⟨1, 0, 0, 0, []⟩ : In), Value.slice none 0 0)] → RSl 2 RRg X d1 e.2 e.1.rs := fun e he => by rcases List.mem_append.1 he with h | h; exact pJ (H.rs e h) c6 (fun y hy => .inl (List.mem_cons_of_mem _ (List.mem_append_right _ (List.mem_append_left _ hy)))); rw [List.mem_singleton] at h; subst h; exact mJ
  have hown : OwnS d1 123 5 a2 (new.length + 1) c2 (oX (new ++ [((⟨1, 0, 0, 0, []⟩ : In), Value.slice none 0 0)])) ob2 := by rw [rV]; exact c7
  have hlen0 := hsz4
  have hll : ((new ++ [((⟨1, 0, 0, 0, []⟩ : In), Value.slice none 0 0)]).map (·.1)).length = new.length + 1 := by simp
  refine ⟨((a9.then F).step V a0.mem1), [_, _, _, _], 0, rfl, .inr ⟨hok, hszE, rfl, (new ++ [((⟨1, 0, 0, 0, []⟩ : In), Value.slice none 0 0)]).map (·.1), new.length, a2, c2, na, nc, by rw [hll], ?_, ?_, ?_, ?_⟩⟩
  · rw [hll]; exact prog_of hown (fun g hg hm => by have h1 := d6 g hg; have h2 := hX g hm; omega) hrsA hnew
  · exact TD c8 (fun g hg hm => by have h1 := hNg g hg; have h2 := hX g hm; have h3 := hevN.size; omega)
  · rw [hll]; exact Nat.le_trans (Nat.succ_le_succ (Nat.le_trans hlen hlen0)) (by decide)
  · exact QB hok.good hcodes hnice
end Go.Proofs.YtidpigbinpaaeaaGreat
namespace Go.Proofs.YtidpigbinpaaeaaGreat
abbrev eN := List (Nat × Nat)
abbrev Th := Nat × eN
inductive Mov where
  | rune (out : Option Nat)
  | mat
  | go (o : Nat)
  | split (o a : Nat)
  | save (s o : Nat)
  | dead
def Mov.leaf : Mov → Bool
  | .rune _ => true
  | .mat => true
  | _ => false
abbrev Vis := Nat → Bool
def Vis.add (V : Vis) (i : Nat) : Vis := fun j => if j = i then true else V j
abbrev Wt := Nat → Vis
def Wt.lay (W : Wt) (a : Nat) (V : Vis) : Wt := fun b => if b = a then V else W b
theorem dT {W : Wt} {a : Nat} {V : Vis} : W.lay a V a = V := by simp [Wt.lay]
theorem LE {W : Wt} {a b : Nat} {V : Vis} (h : b ≠ a) : W.lay a V b = W b := by simp [Wt.lay, h]
theorem sR {W : Wt} {a : Nat} {V U : Vis} : (W.lay a V).lay a U = W.lay a U := by
  funext b; by_cases h : b = a <;> simp [Wt.lay, h]
theorem yY {W : Wt} {a b : Nat} {V U : Vis} (h : a ≠ b) : (W.lay a V).lay b U = (W.lay b U).lay a V := by
  funext c
  simp only [Wt.lay]
  by_cases h1 : c = a
  · subst h1; simp [h]
  · simp [h1]
theorem LF {W : Wt} {a : Nat} : W.lay a (W a) = W := by
  funext b; by_cases h : b = a
  · subst h; simp [Wt.lay]
  · simp [Wt.lay, h]
section
variable (mv : Nat → Nat → Mov) (nxt : Nat → Option Nat) (len : Nat)
inductive Ept (at' : Nat) : List Th → Vis → List Th → Vis → Prop
  | nil {V} : Ept at' [] V [] V
  | seen {i t st V L V'} (h : V i = true) (k : Ept at' st V L V') : Ept at' ((i, t) :: st) V L V'
  | leaf {i t st V L V'} (h : V i = false) (hl : (mv at' i).leaf = true) (k : Ept at' st (V.add i) L V') : Ept at' ((i, t) :: st) V ((i, t) :: L) V'
  | go {i t st V L V' o} (h : V i = false) (hm : mv at' i = .go o) (k : Ept at' ((o, t) :: st) (V.add i) L V') : Ept at' ((i, t) :: st) V L V'
  | split {i t st V L V' o a} (h : V i = false) (hm : mv at' i = .split o a) (k : Ept at' ((o, t) :: (a, t) :: st) (V.add i) L V') : Ept at' ((i, t) :: st) V L V'
  | save {i t st V L V' s o} (h : V i = false) (hm : mv at' i = .save s o) (k : Ept at' ((o, (s, at') :: t) :: st) (V.add i) L V') : Ept at' ((i, t) :: st) V L V'
  | dead {i t st V L V'} (h : V i = false) (hm : mv at' i = .dead) (k : Ept at' st (V.add i) L V') : Ept at' ((i, t) :: st) V L V'
def iM (at' : Nat) (L : List Th) : List Th := L.filterMap fun x => match mv at' x.1 with | .rune (some o) => some (o, x.2) | _ => none
def first (at' : Nat) (L : List Th) : Option eN := (L.find? fun x => match mv at' x.1 with | .mat => true | _ => false).map (·.2)
def Mov.isMat : Mov → Bool
  | .mat => true
  | _ => false
def Mov.outs : Mov → Option Nat
  | .rune o => o
  | _ => none
theorem zD (at' : Nat) (L : List Th) : first mv at' L = (L.find? fun x => (mv at' x.1).isMat).map (·.2) := by
  unfold first
  congr 2
theorem BM (at' : Nat) (d : Th) : iM mv at' [d] = ((mv at' d.1).outs.map fun o => (o, d.2)).toList := by
  unfold iM
  simp only [List.filterMap_cons, List.filterMap_nil]
  cases h : mv at' d.1 with
  | rune o => cases o <;> simp [Mov.outs]
  | mat => simp [Mov.outs]
  | go o => simp [Mov.outs]
  | split o b => simp [Mov.outs]
  | save a o => simp [Mov.outs]
  | dead => simp [Mov.outs]
inductive Pk : Nat → List Th → Wt → Option eN → Wt → Prop
  | last {a E W L V'} (h : a = len) (k : Ept mv a E (W a) L V') : Pk a E W (first mv a L) (W.lay a V')
  | stop {a E W L V'} (h : a ≠ len) (hn : nxt a = none) (k : Ept mv a E (W a) L V') : Pk a E W none (W.lay a V')
  | next {a b E W L V' r W'} (h : a ≠ len) (hn : nxt a = some b) (k : Ept mv a E (W a) L V') (p : Pk b (iM mv a L) W r W') : Pk a E W r (W'.lay a V')
inductive Dr : List (Nat × Nat × eN) → Wt → Option eN → Wt → Prop
  | nil {W} : Dr [] W none W
  | seen {a i t g W r W'} (h : W a i = true) (k : Dr g W r W') : Dr ((a, i, t) :: g) W r W'
  | found {a i t g W} (h : W a i = false) (hm : mv a i = .mat) (ha : a = len) : Dr ((a, i, t) :: g) W (some t) W
  | mat {a i t g W r W'} (h : W a i = false) (hm : mv a i = .mat) (ha : a ≠ len) (k : Dr g (W.lay a ((W a).add i)) r W') : Dr ((a, i, t) :: g) W r W'
  | rune {a b i t g W r W' o} (h : W a i = false) (hm : mv a i = .rune (some o)) (hl : a ≠ len) (hn : nxt a = some b) (k : Dr ((b, o, t) :: g) (W.lay a ((W a).add i)) r W') : Dr ((a, i, t) :: g) W r W'
  | miss {a i t g W r W'} (h : W a i = false) (hm : mv a i = .rune none ∨ ((∃ o, mv a i = .rune o) ∧ (a = len ∨ nxt a = none))) (k : Dr g (W.lay a ((W a).add i)) r W') : Dr ((a, i, t) :: g) W r W'
  | go {a i t g W r W' o} (h : W a i = false) (hm : mv a i = .go o) (k : Dr ((a, o, t) :: g) (W.lay a ((W a).add i)) r W') : Dr ((a, i, t) :: g) W r W'
  | split {a i t g W r W' o b} (h : W a i = false) (hm : mv a i = .split o b) (k : Dr ((a, o, t) :: (a, b, t) :: g) (W.lay a ((W a).add i)) r W') : Dr ((a, i, t) :: g) W r W'
  | save {a i t g W r W' s o} (h : W a i = false) (hm : mv a i = .save s o) (k : Dr ((a, o, (s, a) :: t) :: g) (W.lay a ((W a).add i)) r W') : Dr ((a, i, t) :: g) W r W'
  | dead {a i t g W r W'} (h : W a i = false) (hm : mv a i = .dead) (k : Dr g (W.lay a ((W a).add i)) r W') : Dr ((a, i, t) :: g) W r W'
variable {mv nxt len}
theorem Dr.uniq {g : List (Nat × Nat × eN)} {W W1 W2 : Wt} {r q : Option eN} (h : Dr mv nxt len g W r W1) : Dr mv nxt len g W q W2 → r = q := by
  induction h generalizing q W2 with
  | nil => intro k; cases k; rfl
  | seen h _ ih => intro k; cases k <;> simp_all; exact ih (by assumption)
  | found h hm ha => intro k; cases k <;> simp_all
  | mat h hm ha _ ih => intro k; cases k <;> simp_all; exact ih (by assumption)
  | rune h hm hl hn _ ih => intro k; cases k <;> simp_all; exact ih (by assumption)
  | miss h hm _ ih =>
    intro k
    cases k <;> try (simp_all; done)
    all_goals first | exact ih (by assumption) | (rcases hm with hm | ⟨⟨o, hm⟩, hm2⟩ <;> simp_all)
  | go h hm _ ih => intro k; cases k <;> simp_all; exact ih (by assumption)
  | split h hm _ ih => intro k; cases k <;> simp_all; exact ih (by assumption)
  | save h hm _ ih => intro k; cases k <;> simp_all; exact ih (by assumption)
  | dead h hm _ ih => intro k; cases k <;> simp_all; exact ih (by assumption)
theorem Dr.app {g g2 : List (Nat × Nat × eN)} {W W1 W2 : Wt} {r q : Option eN} (h : Dr mv nxt len g W r W1) (hr : r = none) (k : Dr mv nxt len g2 W1 q W2) : Dr mv nxt len (g ++ g2) W q W2 := by
  induction h with
  | nil => exact k
  | seen h _ ih => exact .seen h (ih hr k)
  | found h hm ha => cases hr
  | mat h hm ha _ ih => exact .mat h hm ha (ih hr k)
  | rune h hm hl hn _ ih => exact .rune h hm hl hn (ih hr k)
  | miss h hm _ ih => exact .miss h hm (ih hr k)
  | go h hm _ ih => exact .go h hm (ih hr k)
  | split h hm _ ih => exact .split h hm (ih hr k)
  | save h hm _ ih => exact .save h hm (ih hr k)
  | dead h hm _ ih => exact .dead h hm (ih hr k)
theorem Dr.appF {g : List (Nat × Nat × eN)} {W W1 : Wt} {r : Option eN} (h : Dr mv nxt len g W r W1) {t : eN} (hr : r = some t) (g2 : List (Nat × Nat × eN)) : Dr mv nxt len (g ++ g2) W r W1 := by
  induction h with
  | nil => cases hr
  | seen h _ ih => exact .seen h (ih hr)
  | found h hm ha => exact .found h hm ha
  | mat h hm ha _ ih => exact .mat h hm ha (ih hr)
  | rune h hm hl hn _ ih => exact .rune h hm hl hn (ih hr)
  | miss h hm _ ih => exact .miss h hm (ih hr)
  | go h hm _ ih => exact .go h hm (ih hr)
  | split h hm _ ih => exact .split h hm (ih hr)
  | save h hm _ ih => exact .save h hm (ih hr)
  | dead h hm _ ih => exact .dead h hm (ih hr)
theorem Ept.app {a : Nat} {s1 s2 L1 L2 : List Th} {V V1 V2 : Vis} (h : Ept mv a s1 V L1 V1) (k : Ept mv a s2 V1 L2 V2) : Ept mv a (s1 ++ s2) V (L1 ++ L2) V2 := by
  induction h with
  | nil => exact k
  | seen h _ ih => exact .seen h (ih k)
  | leaf h hl _ ih => exact .leaf h hl (ih k)
  | go h hm _ ih => exact .go h hm (ih k)
  | split h hm _ ih => exact .split h hm (ih k)
  | save h hm _ ih => exact .save h hm (ih k)
  | dead h hm _ ih => exact .dead h hm (ih k)
theorem Ept.cut {a : Nat} {s L : List Th} {V V' : Vis} (h : Ept mv a s V L V') : ∀ {s1 s2 : List Th}, s = s1 ++ s2 → ∃ L1 L2 V1, L = L1 ++ L2 ∧ Ept mv a s1 V L1 V1 ∧ Ept mv a s2 V1 L2 V' := by
  induction h with
  | nil => intro s1 s2 hs; obtain ⟨rfl, rfl⟩ := List.append_eq_nil_iff.1 hs.symm; exact ⟨[], [], _, rfl, .nil, .nil⟩
  | @seen i t st V L V' h k ih =>
    intro s1 s2 hs
    cases s1 with
    | nil => cases hs; exact ⟨[], _, _, rfl, .nil, .seen h k⟩
    | cons x s1 => cases hs; obtain ⟨L1, L2, V1, e, h1, h2⟩ := ih rfl; exact ⟨L1, L2, V1, e, .seen h h1, h2⟩
  | @leaf i t st V L V' h hl k ih =>
    intro s1 s2 hs
    cases s1 with
    | nil => cases hs; exact ⟨[], _, _, rfl, .nil, .leaf h hl k⟩
    | cons x s1 => cases hs; obtain ⟨L1, L2, V1, e, h1, h2⟩ := ih rfl; exact ⟨(i, t) :: L1, L2, V1, by rw [e]; rfl, .leaf h hl h1, h2⟩
  | @go i t st V L V' o h hm k ih =>
    intro s1 s2 hs
    cases s1 with
    | nil => cases hs; exact ⟨[], _, _, rfl, .nil, .go h hm k⟩
    | cons x s1 => cases hs; obtain ⟨L1, L2, V1, e, h1, h2⟩ := ih (s1 := (o, t) :: s1) rfl; exact ⟨L1, L2, V1, e, .go h hm h1, h2⟩
  | @split i t st V L V' o b h hm k ih =>
    intro s1 s2 hs
    cases s1 with
    | nil => cases hs; exact ⟨[], _, _, rfl, .nil, .split h hm k⟩
    | cons x s1 => cases hs; obtain ⟨L1, L2, V1, e, h1, h2⟩ := ih (s1 := (o, t) :: (b, t) :: s1) rfl; exact ⟨L1, L2, V1, e, .split h hm h1, h2⟩
  | @save i t st V L V' s o h hm k ih =>
    intro s1 s2 hs
    cases s1 with
    | nil => cases hs; exact ⟨[], _, _, rfl, .nil, .save h hm k⟩
    | cons x s1 => cases hs; obtain ⟨L1, L2, V1, e, h1, h2⟩ := ih (s1 := (o, (s, a) :: t) :: s1) rfl; exact ⟨L1, L2, V1, e, .save h hm h1, h2⟩
  | @dead i t st V L V' h hm k ih =>
    intro s1 s2 hs
    cases s1 with
    | nil => cases hs; exact ⟨[], _, _, rfl, .nil, .dead h hm k⟩
    | cons x s1 => cases hs; obtain ⟨L1, L2, V1, e, h1, h2⟩ := ih rfl; exact ⟨L1, L2, V1, e, .dead h hm h1, h2⟩
theorem BO (a : Nat) (L1 L2 : List Th) : iM mv a (L1 ++ L2) = iM mv a L1 ++ iM mv a L2 := by simp [iM]
theorem CC (a : Nat) (L1 L2 : List Th) : first mv a (L1 ++ L2) = (first mv a L1).or (first mv a L2) := by
  simp only [first, List.find?_append]
  cases List.find? _ L1 <;> simp
theorem Pk.frame (hup : ∀ a b, nxt a = some b → a < b) {a : Nat} {E : List Th} {W W' : Wt} {r : Option eN} (h : Pk mv nxt len a E W r W') : ∀ {c : Nat}, c < a → ∀ V, Pk mv nxt len a E (W.lay c V) r (W'.lay c V) := by
  induction h with
  | last h k => intro c hc V; rw [← yY (by omega)]; exact .last h (by rw [LE (by omega)]; exact k)
  | stop h hn k => intro c hc V; rw [← yY (by omega)]; exact .stop h hn (by rw [LE (by omega)]; exact k)
  | next h hn k p ih => intro c hc V; have := hup _ _ hn; rw [← yY (by omega)]; exact .next h hn (by rw [LE (by omega)]; exact k) (ih (by omega) V)
theorem Pk.cut (hup : ∀ a b, nxt a = some b → a < b) {a : Nat} {E : List Th} {W W' : Wt} {r : Option eN} (h : Pk mv nxt len a E W r W') : ∀ {E1 E2 : List Th}, E = E1 ++ E2 → ∃ r1 W1, Pk mv nxt len a E1 W r1 W1 ∧ (r1 = none → Pk mv nxt len a E2 W1 r W') ∧ (∀ t, r1 = some t → r = some t) := by
  induction h with
  | @last a E W L V' h k =>
    intro E1 E2 hE
    obtain ⟨L1, L2, V1, e, h1, h2⟩ := k.cut hE
    refine ⟨_, _, .last h h1, fun hr => ?_, fun t ht => ?_⟩
    · rw [e, CC, hr]
      have := Pk.last (nxt := nxt) (len := len) (W := W.lay a V1) (E := E2) h (by rw [dT]; exact h2)
      rw [sR] at this
      simpa using this
    · rw [e, CC, ht]; rfl
  | @stop a E W L V' h hn k =>
    intro E1 E2 hE
    obtain ⟨L1, L2, V1, e, h1, h2⟩ := k.cut hE
    refine ⟨_, _, .stop h hn h1, fun hr => ?_, fun t ht => by cases ht⟩
    have := Pk.stop (W := W.lay a V1) (E := E2) h hn (by rw [dT]; exact h2)
    rw [sR] at this
    exact this
  | @next a b E W L V' r W' h hn k p ih =>
    intro E1 E2 hE
    obtain ⟨L1, L2, V1, e, h1, h2⟩ := k.cut hE
    obtain ⟨r1, W1, p1, p2, p3⟩ := ih (by rw [e, BO])
    refine ⟨r1, _, .next h hn h1 p1, fun hr => ?_, p3⟩
    have hab := hup _ _ hn
    have := Pk.next (W := W1.lay a V1) (E := E2) h hn (by rw [dT]; exact h2) ((p2 hr).frame hup hab V1)
    rw [sR] at this
    exact this
def LH (a : Nat) (st : List Th) : List (Nat × Nat × eN) := st.map fun x => (a, x.1, x.2)
theorem XA (hup : ∀ a b, nxt a = some b → a < b) {a b : Nat} (ha : a ≠ len) (hn : nxt a = some b) (ih : ∀ {E : List Th} {W W' : Wt} {r : Option eN}, Pk mv nxt len b E W r W' → ∃ W2, Dr mv nxt len (LH b E) W r W2 ∧ (r = none → W2 = W'))
    {st L : List Th} {V V' : Vis} (h : Ept mv a st V L V') : ∀ {W W' : Wt} {r : Option eN}, Pk mv nxt len b (iM mv a L) W r W' → ∃ W2, Dr mv nxt len (LH a st) (W.lay a V) r W2 ∧ (r = none → W2 = W'.lay a V') := by
  have hab := hup _ _ hn
  have keep : ∀ {W : Wt} {V : Vis} {i : Nat}, (W.lay a V).lay a (((W.lay a V) a).add i) = W.lay a (V.add i) := by intro W V i; rw [dT, sR]
  induction h with
  | @nil V =>
    intro W W' r p
    obtain ⟨W2, h1, h2⟩ := ih (p.frame hup hab V)
    have hu : r = none := by
      have := Dr.uniq h1 (.nil : Dr mv nxt len [] _ none _)
      exact this
    subst hu
    refine ⟨_, .nil, fun _ => ?_⟩
    have h3 := h2 rfl
    have h1' : Dr mv nxt len [] (W.lay a V) none W2 := h1
    cases h1'
    exact h3
  | @seen i t st V L V' h k ih2 =>
    intro W W' r p
    obtain ⟨W2, h1, h2⟩ := ih2 p
    exact ⟨W2, .seen (by rw [dT]; exact h) h1, h2⟩
  | @leaf i t st V L V' h hl k ih2 =>
    intro W W' r p
    have hw : (W.lay a V) a i = false := by rw [dT]; exact h
    cases hm : mv a i with
    | rune o =>
      cases o with
      | none =>
        have e : iM mv a ((i, t) :: L) = iM mv a L := by simp [iM, hm]
        rw [e] at p
        obtain ⟨W2, h1, h2⟩ := ih2 p
        exact ⟨W2, .miss hw (.inl hm) (by rw [keep]; exact h1), h2⟩
      | some o =>
        have e : iM mv a ((i, t) :: L) = [(o, t)] ++ iM mv a L := by simp [iM, hm]
        rw [e] at p
        obtain ⟨r1, W1, p1, p2, p3⟩ := p.cut hup rfl
        obtain ⟨W3, d1, d2⟩ := ih (p1.frame hup hab (V.add i))
        cases r1 with
        | some u =>
          have hr := p3 u rfl
          subst hr
          refine ⟨W3, .rune hw hm ha hn ?_, fun h => by cases h⟩
          rw [keep]
          exact Dr.appF d1 rfl (LH a st)
        | none =>
          have hw3 := d2 rfl
          subst hw3
          obtain ⟨W2, h1, h2⟩ := ih2 (p2 rfl)
          refine ⟨W2, .rune hw hm ha hn ?_, h2⟩
          rw [keep]
          exact Dr.app d1 rfl h1
    | mat =>
      have e : iM mv a ((i, t) :: L) = iM mv a L := by simp [iM, hm]
      rw [e] at p
      obtain ⟨W2, h1, h2⟩ := ih2 p
      exact ⟨W2, .mat hw hm ha (by rw [keep]; exact h1), h2⟩
    | go o => rw [hm] at hl; cases hl
    | split o b => rw [hm] at hl; cases hl
    | save s o => rw [hm] at hl; cases hl
    | dead => rw [hm] at hl; cases hl
  | go h hm k ih2 => intro W W' r p; obtain ⟨W2, h1, h2⟩ := ih2 p; exact ⟨W2, .go (by rw [dT]; exact h) hm (by rw [keep]; exact h1), h2⟩
  | split h hm k ih2 => intro W W' r p; obtain ⟨W2, h1, h2⟩ := ih2 p; exact ⟨W2, .split (by rw [dT]; exact h) hm (by rw [keep]; exact h1), h2⟩
  | save h hm k ih2 => intro W W' r p; obtain ⟨W2, h1, h2⟩ := ih2 p; exact ⟨W2, .save (by rw [dT]; exact h) hm (by rw [keep]; exact h1), h2⟩
  | dead h hm k ih2 => intro W W' r p; obtain ⟨W2, h1, h2⟩ := ih2 p; exact ⟨W2, .dead (by rw [dT]; exact h) hm (by rw [keep]; exact h1), h2⟩
theorem WW {a : Nat} (ha : a ≠ len) (hn : nxt a = none) {st L : List Th} {V V' : Vis} (h : Ept mv a st V L V') : ∀ {W : Wt}, Dr mv nxt len (LH a st) (W.lay a V) none (W.lay a V') := by
  have keep : ∀ {W : Wt} {V : Vis} {i : Nat}, (W.lay a V).lay a (((W.lay a V) a).add i) = W.lay a (V.add i) := by intro W V i; rw [dT, sR]
  induction h with
  | nil => intro W; exact .nil
  | seen h k ih => intro W; exact .seen (by rw [dT]; exact h) ih
  | @leaf i t st V L V' h hl k ih =>
    intro W
    cases hm : mv a i with
    | rune o => exact .miss (by rw [dT]; exact h) (.inr ⟨⟨o, hm⟩, .inr hn⟩) (by rw [keep]; exact ih)
    | mat => exact .mat (by rw [dT]; exact h) hm ha (by rw [keep]; exact ih)
    | go o => rw [hm] at hl; cases hl
    | split o b => rw [hm] at hl; cases hl
    | save s o => rw [hm] at hl; cases hl
    | dead => rw [hm] at hl; cases hl
  | go h hm k ih => intro W; exact .go (by rw [dT]; exact h) hm (by rw [keep]; exact ih)
  | split h hm k ih => intro W; exact .split (by rw [dT]; exact h) hm (by rw [keep]; exact ih)
  | save h hm k ih => intro W; exact .save (by rw [dT]; exact h) hm (by rw [keep]; exact ih)
  | dead h hm k ih => intro W; exact .dead (by rw [dT]; exact h) hm (by rw [keep]; exact ih)
theorem WX {a : Nat} (ha : a = len) {st L : List Th} {V V' : Vis} (h : Ept mv a st V L V') : ∀ {W : Wt}, ∃ W2, Dr mv nxt len (LH a st) (W.lay a V) (first mv a L) W2 ∧ (first mv a L = none → W2 = W.lay a V') := by
  have keep : ∀ {W : Wt} {V : Vis} {i : Nat}, (W.lay a V).lay a (((W.lay a V) a).add i) = W.lay a (V.add i) := by intro W V i; rw [dT, sR]
  induction h with
  | nil => intro W; exact ⟨_, .nil, fun _ => rfl⟩
  | seen h k ih => intro W; obtain ⟨W2, h1, h2⟩ := ih (W := W); exact ⟨W2, .seen (by rw [dT]; exact h) h1, h2⟩
  | @leaf i t st V L V' h hl k ih =>
    intro W
    cases hm : mv a i with
    | rune o =>
      obtain ⟨W2, h1, h2⟩ := ih (W := W)
      have e : first mv a ((i, t) :: L) = first mv a L := by simp [first, hm]
      rw [e]
      exact ⟨W2, .miss (by rw [dT]; exact h) (.inr ⟨⟨o, hm⟩, .inl ha⟩) (by rw [keep]; exact h1), h2⟩
    | mat =>
      have e : first mv a ((i, t) :: L) = some t := by simp [first, hm]
      rw [e]
      exact ⟨_, .found (by rw [dT]; exact h) hm ha, fun h => by cases h⟩
    | go o => rw [hm] at hl; cases hl
    | split o b => rw [hm] at hl; cases hl
    | save s o => rw [hm] at hl; cases hl
    | dead => rw [hm] at hl; cases hl
  | go h hm k ih => intro W; obtain ⟨W2, h1, h2⟩ := ih (W := W); exact ⟨W2, .go (by rw [dT]; exact h) hm (by rw [keep]; exact h1), h2⟩
  | split h hm k ih => intro W; obtain ⟨W2, h1, h2⟩ := ih (W := W); exact ⟨W2, .split (by rw [dT]; exact h) hm (by rw [keep]; exact h1), h2⟩
  | save h hm k ih => intro W; obtain ⟨W2, h1, h2⟩ := ih (W := W); exact ⟨W2, .save (by rw [dT]; exact h) hm (by rw [keep]; exact h1), h2⟩
  | dead h hm k ih => intro W; obtain ⟨W2, h1, h2⟩ := ih (W := W); exact ⟨W2, .dead (by rw [dT]; exact h) hm (by rw [keep]; exact h1), h2⟩
theorem pk_dr (hup : ∀ a b, nxt a = some b → a < b) (hle : ∀ a b, nxt a = some b → b ≤ len) : ∀ (n a : Nat), len + 1 - a = n → ∀ {E : List Th} {W W' : Wt} {r : Option eN}, Pk mv nxt len a E W r W' → ∃ W2, Dr mv nxt len (LH a E) W r W2 ∧ (r = none → W2 = W') := by
  intro n
  induction n using Nat.strongRecOn with
  | _ n ih =>
    intro a hn E W W' r p
    cases p with
    | last h k =>
      obtain ⟨W2, h1, h2⟩ := WX (nxt := nxt) h k (W := W)
      rw [LF] at h1
      exact ⟨W2, h1, h2⟩
    | stop h hs k =>
      have := WW h hs k (W := W)
      rw [LF] at this
      exact ⟨_, this, fun _ => rfl⟩
    | next h hs k p =>
      have h1 := hup _ _ hs
      have h2 := hle _ _ hs
      obtain ⟨W2, h3, h4⟩ := XA hup h hs (fun q => ih _ (by omega) _ rfl q) k p (W := W)
      rw [LF] at h3
      exact ⟨W2, h3, h4⟩
end
end Go.Proofs.YtidpigbinpaaeaaGreat
namespace Go.Proofs.YtidpigbinpaaeaaGreat
open Go.RowKit Go.W
abbrev Inst := In
abbrev RRange : Rel (Int × Int) := RRg
theorem RRange.pers : RRange.Pers := RRg.pers
theorem RRange.fresh : RRange.Fresh := RRg.fresh
structure Inst.Ok (c : Inst) : Prop where
  op : -9223372036854775808 ≤ c.op ∧ c.op ≤ 9223372036854775807
  out : -9223372036854775808 ≤ c.out ∧ c.out ≤ 9223372036854775807
  alt : -9223372036854775808 ≤ c.alt ∧ c.alt ≤ 9223372036854775807
  arg : -9223372036854775808 ≤ c.arg ∧ c.arg ≤ 9223372036854775807
  len : c.rs.length * 8 ≤ 140737488355328
def RInst : Rel Inst := fun X w vs d => Inst.Ok d ∧ ∃ rv, vs = [.int .i64 d.op, .int .i64 d.out, .int .i64 d.alt, .int .i64 d.arg, rv] ∧ RSl 2 RRange X w rv d.rs
theorem RInst.fresh : RInst.Fresh := fun _ _ _ _ _ hy ⟨h0, rv, hv, h⟩ => ⟨h0, rv, hv, h.fresh (by decide) RRange.fresh hy⟩
theorem RInst.pers : RInst.Pers := fun _ _ _ _ _ he ⟨h0, rv, hv, h⟩ => ⟨h0, rv, hv, h.evo RRange.pers he⟩
def xC (c : Inst) (n g : Int) : Prop := 1 ≤ c.op ∧ c.op ≤ 11 ∧ ((c.op = 1 ∨ c.op = 11) → c.out = 0) ∧ (¬ (c.op = 1 ∨ c.op = 11) → 0 ≤ c.out ∧ c.out < n) ∧ (c.op = 3 → 0 ≤ c.alt ∧ c.alt < n) ∧ (c.op ≠ 3 → c.alt = 0) ∧
  (c.op = 4 → 2 ≤ c.arg ∧ c.arg ≤ 2 * g + 1) ∧ (c.op = 9 → c.arg = 0 ∨ c.arg = 1) ∧ (c.op ≠ 4 ∧ c.op ≠ 9 → c.arg = 0) ∧ (c.op = 2 ↔ 0 < (c.rs.length : Int))
def RsUp (rs : List (Int × Int)) (k : Nat) : Prop := ∀ i (h : i < rs.length), i < k → 0 ≤ rs[i].1 ∧ rs[i].1 ≤ rs[i].2 ∧ rs[i].2 ≤ 1114111 ∧ ∀ _h0 : 0 < i, rs[i - 1].2 < rs[i].1
def mR (c : Inst) (n g : Int) : Prop := xC c n g ∧ RsUp c.rs c.rs.length
structure Prg where
  insts : List Inst
  start : Int
  groups : Int
  names : List ByteArray
structure Prg.Ok (p : Prg) : Prop where
  start : -9223372036854775808 ≤ p.start ∧ p.start ≤ 9223372036854775807
  groups : -9223372036854775808 ≤ p.groups ∧ p.groups ≤ 9223372036854775807
  ilen : p.insts.length * 56 ≤ 140737488355328
  nlen : p.names.length * 16 ≤ 140737488355328
def RPrg : Rel Prg := fun X w vs d => d.Ok ∧ ∃ iv nv, vs = [iv, .int .i64 d.start, .int .i64 d.groups, nv] ∧ RSl 5 RInst X w iv d.insts ∧ RSl 1 RStr X w nv d.names
theorem RPrg.pers : RPrg.Pers := fun _ _ _ _ _ he ⟨h0, iv, nv, hv, h1, h2⟩ => ⟨h0, iv, nv, hv, h1.evo RInst.pers he, h2.evo RStr.pers he⟩
def HeadOk (p : Prg) : Prop := 1 ≤ (p.insts.length : Int) ∧ (p.insts.length : Int) ≤ 10000 ∧ 0 ≤ p.start ∧ p.start < (p.insts.length : Int) ∧ 0 ≤ p.groups ∧ p.groups ≤ 100 ∧ (p.names.length : Int) = p.groups
def SoundUp (p : Prg) (k : Nat) : Prop := ∀ i (h : i < p.insts.length), i < k → mR p.insts[i] p.insts.length p.groups
def kW (p : Prg) : Prop := HeadOk p ∧ SoundUp p p.insts.length
theorem rsup_of {l : List (Int × Int)} (h : RangesOk l) : RsUp l l.length := by
  obtain ⟨h1, -⟩ := h
  intro i hi _
  obtain ⟨a, b, c, d⟩ := h1 i hi
  exact ⟨a, b, c, fun h0 => by have := d (i - 1) (by omega) (by omega); omega⟩
theorem TJ {X : List Nat} {w : World} {vs : List Value} {c : In} {n g : Int} (h : RIn X w vs c) (hs : mR c n g) (hn : n ≤ 10000) (hg : 0 ≤ g ∧ g ≤ 100) : RInst X w vs c := by
  obtain ⟨vr, rfl, h1, h2⟩ := h
  obtain ⟨⟨n1, n2, n3, n4, n5, n6, n7, n8, n9, n10⟩, -⟩ := hs
  refine ⟨⟨by omega, ?_, ?_, ?_, by omega⟩, vr, rfl, h1⟩
  · by_cases e : c.op = 1 ∨ c.op = 11
    · rw [n3 e]; omega
    · have := n4 e; omega
  · by_cases e : c.op = 3
    · have := n5 e; omega
    · rw [n6 e]; omega
  · by_cases e : c.op = 4
    · have := n7 e; omega
    · by_cases e9 : c.op = 9
      · have := n8 e9; omega
      · rw [n9 ⟨e, e9⟩]; omega
end Go.Proofs.YtidpigbinpaaeaaGreat
namespace Go.Proofs.YtidpigbinpaaeaaGreat
open Go.RowKit Go.W
attribute [local irreducible] Decidable.decide
theorem mF : cZ Tryz.prog 123 0 = some 0 := by kernel_rfl
theorem kN : cZ Tryz.prog 123 3 = some 3 := by kernel_rfl
theorem AI : cZ Tryz.prog 128 1 = some 4 := by kernel_rfl
theorem qU : dU Tryz.prog 103 := ⟨_, Tryz.func103, by kernel_rfl, by kernel_rfl⟩
def eP (c : Int) : Prop := c = 95 ∨ (48 ≤ c ∧ c ≤ 57) ∨ (97 ≤ c ∧ c ≤ 122) ∨ (65 ≤ c ∧ c ≤ 90)
instance (c : Int) : Decidable (eP c) := by unfold eP; infer_instance
def lK (s : ByteArray) (i : Int) : Prop := 0 ≤ i ∧ i < s.size ∧ eP (sb s i.toNat)
instance (s : ByteArray) (i : Int) : Decidable (lK s i) := by unfold lK; infer_instance
theorem nL {s : ByteArray} {a : Nat} (h : a < s.size) : lK s a ↔ eP (sb s a) := ⟨fun h => by have := h.2.2; simpa using this, fun k => ⟨by omega, by omega, by simpa using k⟩⟩
def iA (op arg : Int) (s : ByteArray) (a : Nat) : Prop :=
  (op = 5 ∧ a = 0) ∨ (op = 6 ∧ a = s.size) ∨ (op = 7 ∧ (a = 0 ∨ sb s (a - 1) = 10)) ∨ (op = 8 ∧ (a = s.size ∨ sb s a = 10)) ∨ (op = 9 ∧ (¬ (lK s ((a : Int) - 1) ↔ lK s a) ↔ arg = 0)) ∨ op = 10
instance (op arg : Int) (s : ByteArray) (a : Nat) : Decidable (iA op arg s a) := by unfold iA; infer_instance
def mT (r : Int) (rs : List (Int × Int)) : Prop := ∃ q, q ∈ rs ∧ q.1 ≤ r ∧ r ≤ q.2
instance (r : Int) (rs : List (Int × Int)) : Decidable (mT r rs) := by unfold mT; infer_instance
theorem SQ {arg : Int} {s : ByteArray} {a : Nat} : iA 5 arg s a ↔ a = 0 := by simp [iA]
theorem SP {arg : Int} {s : ByteArray} {a : Nat} : iA 6 arg s a ↔ a = s.size := by simp [iA]
theorem GB {arg : Int} {s : ByteArray} {a : Nat} : iA 7 arg s a ↔ (a = 0 ∨ sb s (a - 1) = 10) := by simp [iA]
theorem GA {arg : Int} {s : ByteArray} {a : Nat} : iA 8 arg s a ↔ (a = s.size ∨ sb s a = 10) := by simp [iA]
theorem SO {arg : Int} {s : ByteArray} {a : Nat} : iA 9 arg s a ↔ (¬ (lK s ((a : Int) - 1) ↔ lK s a) ↔ arg = 0) := by simp only [iA]; simp
theorem SN {op arg : Int} {s : ByteArray} {a : Nat} (h5 : op ≠ 5) (h6 : op ≠ 6) (h7 : op ≠ 7) (h8 : op ≠ 8) (h9 : op ≠ 9) : iA op arg s a ↔ op = 10 := by simp [iA, h5, h6, h7, h8, h9]
theorem rH {w : World} (c : Int) : Calls Tryz.prog 103 #[.int .u8 c] w (Ret fun v w' => v = .bool (decide (eP c)) ∧ Evo [] w w') := by
  refine bD (N := 29) Tryz.func103 rfl rfl rfl ?_; refine csr (wan (csr (aD (wel ?_)))); refine aD (bF (t := 5) rfl (fun H => ?_) (fun H => ?_))
  ·refine aN (aN (aN (fF ?_))); refine fF ?_; refine aN (bW (aD (aN (aN (aN (fF ?_)))))); refine fF ?_; refine aN (bW (aD (aN (aN (aN (fF ?_)))))); refine fF ?_; refine aN (bW (wan (aH (br1 ?_))))
   exact ⟨congrArg Value.bool (by first | exact decide_eq_decide.2 (by unfold eP; omega) | exact (decide_eq_true (by unfold eP; omega)).symm | exact (decide_eq_false (by unfold eP; omega)).symm), (Evo.refl [] w)⟩
  refine aT (aD (aT (aC (eF rfl rfl) ?_))); refine aT (aD (bF (t := 8) rfl (fun I => ?_) (fun I => ?_)))
  ·refine aT (aD (aT (aC (fE rfl rfl) ?_))); refine aT (bW (bM (aD (bF (t := 13) rfl (fun F => ?_) (fun F => ?_)))))
   ·refine aN (aN (aN (fF ?_))); refine fF ?_; refine aN (bW (aD (aN (aN (aN (fF ?_)))))); refine fF ?_; refine aN (bW (wan (aH (br1 ?_))))
    exact ⟨congrArg Value.bool (by first | exact decide_eq_decide.2 (by unfold eP; omega) | exact (decide_eq_true (by unfold eP; omega)).symm | exact (decide_eq_false (by unfold eP; omega)).symm), (Evo.refl [] w)⟩
   refine aT (aD (aT (aC (eF rfl rfl) ?_))); refine aT (aD (bF (t := 16) rfl (fun B => ?_) (fun B => ?_)))
   ·refine aT (aD (aT (aC (fE rfl rfl) ?_))); refine aT (bW (bM (aD (bF (t := 21) rfl (fun D => ?_) (fun D => ?_)))))
    ·refine aN (aN (aN (fF ?_))); refine fF ?_; refine aN (bW (wan (aH (br1 ?_))))
     exact ⟨congrArg Value.bool (by first | exact decide_eq_decide.2 (by unfold eP; omega) | exact (decide_eq_true (by unfold eP; omega)).symm | exact (decide_eq_false (by unfold eP; omega)).symm), (Evo.refl [] w)⟩
    refine aT (aD (aT (aC (eF rfl rfl) ?_))); refine aT (aD (bF (t := 24) rfl (fun A => ?_) (fun A => ?_)))
    ·refine aT (aD (aT (aC (fE rfl rfl) ?_))); refine aT (bW (bM (wan (aH (br1 ?_)))))
     exact ⟨congrArg Value.bool (by first | exact decide_eq_decide.2 (by unfold eP; omega) | exact (decide_eq_true (by unfold eP; omega)).symm | exact (decide_eq_false (by unfold eP; omega)).symm), (Evo.refl [] w)⟩
    refine aN (aN (aT (bM (bM (wan (aH (br1 ?_)))))))
    exact ⟨congrArg Value.bool (by first | exact decide_eq_decide.2 (by unfold eP; omega) | exact (decide_eq_true (by unfold eP; omega)).symm | exact (decide_eq_false (by unfold eP; omega)).symm), (Evo.refl [] w)⟩
   refine aN (aN (aT (bM (bM (aD (aT (aD (aT (aC (eF rfl rfl) ?_))))))))); refine aT (aD (bF (t := 24) rfl (fun A => ?_) (fun A => ?_)))
   ·refine aT (aD (aT (aC (fE rfl rfl) ?_))); refine aT (bW (bM (wan (aH (br1 ?_)))))
    exact ⟨congrArg Value.bool (by first | exact decide_eq_decide.2 (by unfold eP; omega) | exact (decide_eq_true (by unfold eP; omega)).symm | exact (decide_eq_false (by unfold eP; omega)).symm), (Evo.refl [] w)⟩
   refine aN (aN (aT (bM (bM (wan (aH (br1 ?_)))))))
   exact ⟨congrArg Value.bool (by first | exact decide_eq_decide.2 (by unfold eP; omega) | exact (decide_eq_true (by unfold eP; omega)).symm | exact (decide_eq_false (by unfold eP; omega)).symm), (Evo.refl [] w)⟩
  refine aN (aN (aT (bM (bM (aD (aT (aD (aT (aC (eF rfl rfl) ?_))))))))); refine aT (aD (bF (t := 16) rfl (fun B => ?_) (fun B => ?_)))
  ·refine aT (aD (aT (aC (fE rfl rfl) ?_))); refine aT (bW (bM (aD (bF (t := 21) rfl (fun D => ?_) (fun D => ?_)))))
   ·refine aN (aN (aN (fF ?_))); refine fF ?_; refine aN (bW (wan (aH (br1 ?_))))
    exact ⟨congrArg Value.bool (by first | exact decide_eq_decide.2 (by unfold eP; omega) | exact (decide_eq_true (by unfold eP; omega)).symm | exact (decide_eq_false (by unfold eP; omega)).symm), (Evo.refl [] w)⟩
   refine aT (aD (aT (aC (eF rfl rfl) ?_))); refine aT (aD (bF (t := 24) rfl (fun A => ?_) (fun A => ?_)))
   ·refine aT (aD (aT (aC (fE rfl rfl) ?_))); refine aT (bW (bM (wan (aH (br1 ?_)))))
    exact ⟨congrArg Value.bool (by first | exact decide_eq_decide.2 (by unfold eP; omega) | exact (decide_eq_true (by unfold eP; omega)).symm | exact (decide_eq_false (by unfold eP; omega)).symm), (Evo.refl [] w)⟩
   refine aN (aN (aT (bM (bM (wan (aH (br1 ?_)))))))
   exact ⟨congrArg Value.bool (by first | exact decide_eq_decide.2 (by unfold eP; omega) | exact (decide_eq_true (by unfold eP; omega)).symm | exact (decide_eq_false (by unfold eP; omega)).symm), (Evo.refl [] w)⟩
  refine aN (aN (aT (bM (bM (aD (aT (aD (aT (aC (eF rfl rfl) ?_))))))))); refine aT (aD (bF (t := 24) rfl (fun A => ?_) (fun A => ?_)))
  ·refine aT (aD (aT (aC (fE rfl rfl) ?_))); refine aT (bW (bM (wan (aH (br1 ?_)))))
   exact ⟨congrArg Value.bool (by first | exact decide_eq_decide.2 (by unfold eP; omega) | exact (decide_eq_true (by unfold eP; omega)).symm | exact (decide_eq_false (by unfold eP; omega)).symm), (Evo.refl [] w)⟩
  refine aN (aN (aT (bM (bM (wan (aH (br1 ?_)))))))
  exact ⟨congrArg Value.bool (by first | exact decide_eq_decide.2 (by unfold eP; omega) | exact (decide_eq_true (by unfold eP; omega)).symm | exact (decide_eq_false (by unfold eP; omega)).symm), (Evo.refl [] w)⟩
theorem sG {s : ByteArray} {a : Nat} (h : 0 < a) (h2 : a ≤ s.size) : lK s ((a : Int) - 1) ↔ eP (sb s (a - 1)) := by
  have := nL (s := s) (a := a - 1) (by omega)
  rwa [show (((a - 1 : Nat) : Nat) : Int) = (a : Int) - 1 from by omega] at this
theorem st9 {s : ByteArray} {a : Nat} {arg : Int} (b1 b2 : Bool) (h1 : b1 = decide (lK s ((a : Int) - 1))) (h2 : b2 = decide (lK s a)) : ((!(b1 == b2)) == decide (arg = 0)) = decide (iA 9 arg s a) := by
  subst h1 h2
  have hst := SO (arg := arg) (s := s) (a := a)
  by_cases h1 : lK s ((a : Int) - 1) <;> by_cases h2 : lK s a <;> by_cases h3 : arg = 0 <;> simp [h1, h2, h3] at hst ⊢ <;> simp [hst]
theorem VT {w : World} {bm : Nat} {U : TypeId} {c0 c1 c2 c3 c5 c6 rv : Value} (op out alt arg : Int) (s : ByteArray) (a : Nat) (a5 : w.heap[bm]? = some (.cells #[c0, c1, c2, c3, .string s, c5, c6] U (0, 0))) (ha : a ≤ s.size) (hl : s.size ≤ 140737488355328) : Calls Tryz.prog 86 #[.pointer (some ⟨bm, 0, none⟩), .agg #[.int .i64 op, .int .i64 out, .int .i64 alt, .int .i64 arg, rv], .int .i64 (a : Nat)] w (Ret fun v w' => v = .bool (decide (iA op arg s a)) ∧ Evo [] w w') := by
  refine bD (N := 79) Tryz.func86 rfl rfl rfl ?_; refine csr (gK rfl rfl fun b1 w2 I a6 a1 => ?_); have A := (Evo.refl [] w).then a1; refine wan (csr (aD (aC (aF rfl) (wfl rfl AI rfl cT (a1.blk0 a5) rfl (wan (aI (csr (wfl rfl mF rfl aQ I rfl ?_)))))))); refine wnn (bG (csr (wel ?_))); refine wan (aX rfl (fun J => ?_) (fun J => ?_))
  ·refine csr (wan (aH (aM (aE (br1 ?_))))); subst J; exact ⟨congrArg Value.bool (decide_eq_true (by simp [iA])).symm, A⟩
  refine csr (wel ?_); refine wan (aX rfl (fun L => ?_) (fun L => ?_))
  ·refine csr (aD (wel ?_)); refine wan (aH (aM (aE (br1 ?_)))); subst L; have hst := SQ (arg := arg) (s := s) (a := a)
   exact ⟨congrArg Value.bool (by first | exact decide_eq_decide.2 (by rw [hst]; omega) | exact (decide_eq_true (by rw [hst]; omega)).symm | exact (decide_eq_false (by rw [hst]; omega)).symm), A⟩
  refine csr (wel ?_); refine wan (aX rfl (fun M => ?_) (fun M => ?_))
  ·refine csr (aD (aD (aC (cA rfl Tryz.underlying9 rfl) ?_))); refine wel ?_; refine wan (aH (aM (aE (br1 ?_)))); subst M; have hst := SP (arg := arg) (s := s) (a := a)
   exact ⟨congrArg Value.bool (by first | exact decide_eq_decide.2 (by rw [hst]; omega) | exact (decide_eq_true (by rw [hst]; omega)).symm | exact (decide_eq_false (by rw [hst]; omega)).symm), A⟩
  refine csr (wel ?_); refine wan (aX rfl (fun D => ?_) (fun D => ?_))
  ·refine csr (aD (wel ?_)); refine aD (bF (t := 32) rfl (fun a2 => ?_) (fun a2 => ?_))
   ·refine aN (aN (aN (aN (aN (bW (wan (aH (aM (aE (br1 ?_)))))))))); subst D; have hst := GB (arg := arg) (s := s) (a := a)
    exact ⟨congrArg Value.bool (by first | exact decide_eq_decide.2 (by rw [hst]; omega) | exact (decide_eq_true (by rw [hst]; omega)).symm | exact (decide_eq_false (by rw [hst]; omega)).symm), A⟩
   refine aT (aD (aT (aD (aT ?_)))); refine aC (dL rfl rfl (by omega) (by omega)) ?_; refine aT ?_; refine aC (eA (n := a - 1) rfl rfl Tryz.underlying9 (by omega) (by omega)) ?_; refine aT (wel ?_); refine bM (wan (aH (aM (aE (br1 ?_))))); subst D; have hst := GB (arg := arg) (s := s) (a := a)
   exact ⟨congrArg Value.bool (by first | exact decide_eq_decide.2 (by rw [hst]; omega) | exact (decide_eq_true (by rw [hst]; omega)).symm | exact (decide_eq_false (by rw [hst]; omega)).symm), A⟩
  refine csr (wel ?_); refine wan (aX rfl (fun F => ?_) (fun F => ?_))
  ·refine csr (aD (aD (aC (cA rfl Tryz.underlying9 rfl) ?_))); refine wel ?_; refine aD (bF (t := 45) rfl (fun a3 => ?_) (fun a3 => ?_))
   ·refine aN (aN (aN (aN (bW (wan (aH (aM (aE (br1 ?_))))))))); subst F; have hst := GA (arg := arg) (s := s) (a := a)
    exact ⟨congrArg Value.bool (by first | exact decide_eq_decide.2 (by rw [hst]; omega) | exact (decide_eq_true (by rw [hst]; omega)).symm | exact (decide_eq_false (by rw [hst]; omega)).symm), A⟩
   refine aT (aD (aT (aD (aT ?_)))); refine aC (eA (n := a) rfl rfl Tryz.underlying9 rfl (by omega)) ?_; refine aT (wel ?_); refine bM (wan (aH (aM (aE (br1 ?_))))); subst F; have hst := GA (arg := arg) (s := s) (a := a)
   exact ⟨congrArg Value.bool (by first | exact decide_eq_decide.2 (by rw [hst]; omega) | exact (decide_eq_true (by rw [hst]; omega)).symm | exact (decide_eq_false (by rw [hst]; omega)).symm), A⟩
  refine csr (wel ?_); refine wan (aX rfl (fun B => ?_) (fun B => ?_))
  ·refine csr (aD (aC (gL rfl rfl) ?_)); refine aD (bF (t := 55) rfl (fun a4 => ?_) (fun a4 => ?_))
   ·refine aT (aD (aT (aD (aT ?_)))); refine aC (dL rfl rfl (by omega) (by omega)) ?_; refine aT ?_; refine aC (eA (n := a - 1) rfl rfl Tryz.underlying9 (by omega) (by omega)) ?_; refine aT (aK (vs := [_]) qU rfl (rH _) rfl ?_); rintro _ a7 ⟨rfl, H⟩; refine bW (aD (aD (aC (cA rfl Tryz.underlying9 rfl) ?_))); refine aC (cX rfl rfl) ?_; refine aD (bF (t := 66) rfl (fun O => ?_) (fun O => ?_))
    ·refine aT (aD (aT (aD (aT ?_)))); refine aC (eA (n := a) rfl rfl Tryz.underlying9 rfl (by omega)) ?_; refine aT (aK (vs := [_]) qU rfl (rH _) rfl ?_); rintro _ a8 ⟨rfl, V⟩; refine bW (bX (wan (csr (aD (aD (aC (xO rfl rfl Tryz.underlying4) ?_)))))); refine wfl rfl kN rfl aQ (V.blk0 (H.blk0 I)) rfl (wel ?_); refine aC (EI rfl rfl Tryz.underlying4) ?_; refine wan (aH (aM (aE (br1 ?_)))); subst B
     exact ⟨congrArg Value.bool (st9 _ _ (by first | exact decide_eq_decide.2 (sG (by omega) (by omega)).symm | exact (decide_eq_false (fun h => by have := h.1; omega)).symm) (by first | exact decide_eq_decide.2 (nL (by omega)).symm | exact (decide_eq_false (fun h => by have := h.2.1; omega)).symm)), ((A.then H).then V)⟩
    refine aN (aN (aN (aN (bM (bX (wan (csr (aD (aD (aC (xO rfl rfl Tryz.underlying4) ?_)))))))))); refine wfl rfl kN rfl aQ (H.blk0 I) rfl (wel ?_); refine aC (EI rfl rfl Tryz.underlying4) ?_; refine wan (aH (aM (aE (br1 ?_)))); subst B
    exact ⟨congrArg Value.bool (st9 _ _ (by first | exact decide_eq_decide.2 (sG (by omega) (by omega)).symm | exact (decide_eq_false (fun h => by have := h.1; omega)).symm) (by first | exact decide_eq_decide.2 (nL (by omega)).symm | exact (decide_eq_false (fun h => by have := h.2.1; omega)).symm)), (A.then H)⟩
   refine aN (aN (aN (aN (aN (bM (aD (aD (aC (cA rfl Tryz.underlying9 rfl) ?_)))))))); refine aC (cX rfl rfl) ?_; refine aD (bF (t := 66) rfl (fun O => ?_) (fun O => ?_))
   ·refine aT (aD (aT (aD (aT ?_)))); refine aC (eA (n := a) rfl rfl Tryz.underlying9 rfl (by omega)) ?_; refine aT (aK (vs := [_]) qU rfl (rH _) rfl ?_); rintro _ a9 ⟨rfl, a0⟩; refine bW (bX (wan (csr (aD (aD (aC (xO rfl rfl Tryz.underlying4) ?_)))))); refine wfl rfl kN rfl aQ (a0.blk0 I) rfl (wel ?_); refine aC (EI rfl rfl Tryz.underlying4) ?_; refine wan (aH (aM (aE (br1 ?_)))); subst B
    exact ⟨congrArg Value.bool (st9 _ _ (by first | exact decide_eq_decide.2 (sG (by omega) (by omega)).symm | exact (decide_eq_false (fun h => by have := h.1; omega)).symm) (by first | exact decide_eq_decide.2 (nL (by omega)).symm | exact (decide_eq_false (fun h => by have := h.2.1; omega)).symm)), (A.then a0)⟩
   refine aN (aN (aN (aN (bM (bX (wan (csr (aD (aD (aC (xO rfl rfl Tryz.underlying4) ?_)))))))))); refine wfl rfl kN rfl aQ I rfl (wel ?_); refine aC (EI rfl rfl Tryz.underlying4) ?_; refine wan (aH (aM (aE (br1 ?_)))); subst B
   exact ⟨congrArg Value.bool (st9 _ _ (by first | exact decide_eq_decide.2 (sG (by omega) (by omega)).symm | exact (decide_eq_false (fun h => by have := h.1; omega)).symm) (by first | exact decide_eq_decide.2 (nL (by omega)).symm | exact (decide_eq_false (fun h => by have := h.2.1; omega)).symm)), A⟩
  refine aL (aO (aB (csr (wan (aH (br1 ?_)))))); have hst := SN (arg := arg) (s := s) (a := a) L M D F B; exact ⟨congrArg Value.bool (decide_eq_false (fun h => J (hst.1 h))).symm, A⟩
end Go.Proofs.YtidpigbinpaaeaaGreat
namespace Go.Proofs.YtidpigbinpaaeaaGreat
open Go.W
def mvI (c : Inst) (s : ByteArray) (a : Nat) : Mov :=
  if c.op = 1 then .mat
  else if c.op = 2 then .rune (if mT (bJ s a).1 c.rs then some c.out.toNat else none)
  else if c.op = 3 then .split c.out.toNat c.alt.toNat
  else if c.op = 4 then .save c.arg.toNat c.out.toNat
  else if iA c.op c.arg s a then .go c.out.toNat else .dead
def dV (p : Prg) (s : ByteArray) (a i : Nat) : Mov := match p.insts[i]? with | none => .dead | some c => mvI c s a
theorem DT {p : Prg} {s : ByteArray} {a i : Nat} (h : i < p.insts.length) : dV p s a i = mvI p.insts[i] s a := by simp [dV, h]
def gY (s : ByteArray) (a : Nat) : Option Nat := if 0 < (bJ s a).2 then some (a + (bJ s a).2) else none
theorem KX (s : ByteArray) : ∀ a b, gY s a = some b → a < b := fun a b h => by
  unfold gY at h
  split at h
  · cases h; omega
  · cases h
theorem VA (s : ByteArray) : ∀ a b, gY s a = some b → b ≤ s.size := fun a b h => by
  unfold gY at h
  split at h
  · rename_i hp
    cases h
    rcases lY s a with h1 | h1
    · rw [h1] at hp; exact absurd hp (by simp)
    · omega
  · cases h
theorem next_w (s : ByteArray) (a : Nat) : (bJ s a).2 = 0 ∨ (1 ≤ (bJ s a).2 ∧ (bJ s a).2 ≤ 4 ∧ a + (bJ s a).2 ≤ s.size) := by
  rcases lY s a with h1 | h1
  · left; rw [h1]
  · exact .inr h1.2.2
theorem yN {s : ByteArray} {a : Nat} (h : 0 < (bJ s a).2) : gY s a = some (a + (bJ s a).2) := by unfold gY; rw [if_pos h]
theorem UZ {s : ByteArray} {a : Nat} (h : (bJ s a).2 = 0) : gY s a = none := by unfold gY; rw [if_neg (by omega)]
def SX (t : eN) (k : Nat) : Int := match t.find? (fun q => q.1 == k) with | some q => (q.2 : Int) | none => -1
def CV (n : Nat) (t : eN) : List Int := (List.range n).map (SX t)
def zE (n len : Nat) : Option eN → List Int
  | none => []
  | some t => ((CV n t).set 0 0).set 1 len
abbrev rR (p : Prg) : Nat := (2 * (p.groups + 1)).toNat
def XX (p : Prg) (s : ByteArray) (l : List Int) : Prop :=
  (¬ kW p ∧ l = []) ∨ (kW p ∧ ∃ r W', Dr (dV p s) (gY s) s.size [(0, p.start.toNat, [])] (fun _ _ => false) r W' ∧ l = zE (rR p) s.size r)
theorem LV {f g : Nat → Bool} {k : Nat} (hf : f k = true) (hg : g k = false) (he : ∀ j, j ≠ k → g j = f j) : ∀ {M : Nat}, k < M → (List.range M).countP g + 1 = (List.range M).countP f := by
  intro M
  induction M with
  | zero => intro h; omega
  | succ M ih =>
    intro h
    rw [List.range_succ, List.countP_append, List.countP_append]
    by_cases e : k = M
    · subst e
      have : (List.range k).countP g = (List.range k).countP f := List.countP_congr fun j hj => by rw [he j (by simp at hj; omega)]
      simp [this, hf, hg]
    · have := ih (by omega)
      rw [List.countP_singleton, List.countP_singleton, he M (by omega)]
      omega
inductive RNote (X : List Nat) (w : World) : Value → eN → Prop
  | nil : RNote X w (.pointer none) []
  | cons {b k a : Nat} {v : Value} {t : eN} (hx : b ∉ X) (hb : w.heap[b]? = some (.cells #[iv k, iv a, v] 148 (0, 0))) (h : RNote X w v t) : RNote X w (.pointer (some ⟨b, 0, none⟩)) ((k, a) :: t)
theorem RNote.evo {X : List Nat} {w w' : World} {v : Value} {t : eN} (h : RNote X w v t) (he : Evo X w w') : RNote X w' v t := by
  induction h with
  | nil => exact .nil
  | cons hx hb _ ih => exact .cons hx (he.blk hb hx) ih
theorem RNote.fresh {X Y : List Nat} {w : World} {v : Value} {t : eN} (h : RNote X w v t) (hy : ∀ y, y ∈ Y → y ∈ X ∨ w.heap.size ≤ y) : RNote Y w v t := by
  induction h with
  | nil => exact .nil
  | cons hx hb _ ih => exact .cons (fun hm => by rcases hy _ hm with h1 | h1; { exact hx h1 }; { have := eO hb; omega }) hb ih
theorem RNote.step {X X' : List Nat} {w w' : World} {v : Value} {t : eN} (h : RNote X w v t) (he : Evo X w w') (hx : ∀ y, y ∈ X' → y ∈ X ∨ w.heap.size ≤ y) : RNote X' w' v t :=
  ((h.fresh (Y := X ++ X') (fun y hy => by rcases List.mem_append.1 hy with h | h; { exact .inl h }; { exact hx y h })).evo (he.mono (fun b hb => List.mem_append_left _ hb))).fresh (fun y hy => .inl (List.mem_append_right _ hy))
theorem RNote.one {X : List Nat} {w : World} {v : Value} {t : eN} (h : RNote X w v t) : v.oneCell' = true := by cases h <;> rfl
theorem RNote.ptr {X : List Nat} {w : World} {v : Value} {t : eN} (h : RNote X w v t) : ∃ q, v = .pointer q := by cases h <;> exact ⟨_, rfl⟩
def RTh : Rel Th := fun X w vs d => ∃ v, vs = [iv d.1, v] ∧ RNote X w v d.2
theorem RTh.pers : RTh.Pers := fun _ _ _ _ _ he ⟨v, hv, h⟩ => ⟨v, hv, h.evo he⟩
theorem RTh.fresh : RTh.Fresh := fun _ _ _ _ _ hy ⟨v, hv, h⟩ => ⟨v, hv, h.fresh hy⟩
theorem dI {X X' : List Nat} {w w' : World} {rows : List (List Value)} {ds : List Th} (h : RowsOk 2 RTh X w rows ds) (he : Evo X w w') (hx : ∀ y, y ∈ X' → y ∈ X ∨ w.heap.size ≤ y) : RowsOk 2 RTh X' w' rows ds :=
  ((h.fresh RTh.fresh (Y := X ++ X') (fun y hy => by rcases List.mem_append.1 hy with h | h; { exact .inl h }; { exact hx y h })).evo RTh.pers (he.mono (fun b hb => List.mem_append_left _ hb))).fresh RTh.fresh (fun y hy => .inl (List.mem_append_right _ hy))
theorem PU {X : List Nat} {w : World} {rows : List (List Value)} {ds : List Th} {d : Th} (h : RowsOk 2 RTh X w rows (ds ++ [d])) : ∃ rows' v, rows = rows' ++ [[iv d.1, v]] ∧ RowsOk 2 RTh X w rows' ds ∧ RNote X w v d.2 := by
  obtain ⟨hl, hr⟩ := h
  simp only [List.length_append, List.length_cons, List.length_nil] at hl
  have h1 := (hr ds.length (by simp) (by omega)).2
  obtain ⟨v, hv, hn⟩ := h1
  simp only [List.getElem_append_right (Nat.le_refl ds.length), Nat.sub_self, List.getElem_cons_zero] at hv hn
  refine ⟨rows.take ds.length, v, ?_, ⟨by simp; omega, fun k h1 h2 => ?_⟩, hn⟩
  · rw [← hv]
    apply List.ext_getElem
    · simp; omega
    · intro j h1 h2
      by_cases hj : j < ds.length
      · rw [List.getElem_append_left (by simp; omega)]; simp
      · have : j = ds.length := by omega
        subst this
        rw [List.getElem_append_right (by simp; omega)]
        simp
  · have := hr k (by simp; omega) (by omega)
    simp only [List.getElem_take]
    rw [List.getElem_append_left h1] at this
    exact this
abbrev XM (bm sb b4 : Nat) (t k : Option Nat) : List Nat := bm :: sb :: b4 :: (t.toList ++ k.toList)
theorem CQ {bm sb b4 : Nat} {t k : Option Nat} : ∀ y, y ∈ t.toList → y ∈ XM bm sb b4 t k := fun y hy => by simp [XM, Option.mem_toList] at hy ⊢; simp [hy]
theorem AA {bm sb b4 : Nat} {t k : Option Nat} : ∀ y, y ∈ k.toList → y ∈ XM bm sb b4 t k := fun y hy => by simp [XM, Option.mem_toList] at hy ⊢; simp [hy]
theorem xm_s {bm sb b4 : Nat} {t k : Option Nat} : ∀ y, y ∈ bm :: sb :: t.toList → y ∈ XM bm sb b4 t k := fun y hy => by
  simp only [XM, List.mem_cons, List.mem_append] at hy ⊢; rcases hy with h | h | h <;> simp [h]
theorem xm_to {bm sb b4 : Nat} {t k t' k' : Option Nat} {w : World} (ht : ∀ y, y ∈ t'.toList → y ∈ XM bm sb b4 t k ∨ w.heap.size ≤ y) (hk : ∀ y, y ∈ k'.toList → y ∈ XM bm sb b4 t k ∨ w.heap.size ≤ y) : ∀ y, y ∈ XM bm sb b4 t' k' → y ∈ XM bm sb b4 t k ∨ w.heap.size ≤ y := fun y hy => by
  rcases List.mem_cons.1 hy with rfl | hy
  · left; simp [XM]
  · rcases List.mem_cons.1 hy with rfl | hy
    · left; simp [XM]
    · rcases List.mem_cons.1 hy with rfl | hy
      · left; simp [XM]
      · rcases List.mem_append.1 hy with h | h
        · exact ht y h
        · exact hk y h
theorem tQ {bm sb b4 : Nat} {t k : Option Nat} {w w' : World} (_he : Evo (XM bm sb b4 t k) w w') {t' k' : Option Nat} (ht : ∀ y, y ∈ t'.toList → y ∈ XM bm sb b4 t k ∨ w.heap.size ≤ y) (hk : ∀ y, y ∈ k'.toList → y ∈ XM bm sb b4 t k ∨ w.heap.size ≤ y) : ∀ y, y ∈ XM bm sb b4 t' k' → y ∈ XM bm sb b4 t k ∨ w.heap.size ≤ y := xm_to ht hk
theorem GR {X : List Nat} {w w1 : World} {ob ob' : Option Nat} (hob : ob' = ob ∨ ∃ g, ob' = some g ∧ w1.heap.size ≤ g) (he : Evo X w w1) (h : ∀ y, y ∈ ob.toList → y ∈ X) : ∀ y, y ∈ ob'.toList → y ∈ X ∨ w.heap.size ≤ y := fun y hy => by
  rcases hob with rfl | ⟨g, rfl, hg⟩
  · exact .inl (h y hy)
  · right
    simp at hy
    subst hy
    have := he.size
    omega
theorem UQ {X : List Nat} {w w1 : World} {ob ob' : Option Nat} (hob : ob' = ob ∨ ∃ g, ob' = some g ∧ w1.heap.size ≤ g) (he : Evo X w w1) (h : ∀ y, y ∈ ob.toList → y ∈ X ∨ w.heap.size ≤ y) : ∀ y, y ∈ ob'.toList → y ∈ X ∨ w.heap.size ≤ y := fun y hy => by
  rcases hob with rfl | ⟨g, rfl, hg⟩
  · exact h y hy
  · right
    simp at hy
    subst hy
    have := he.size
    omega
theorem xm_nmem {b bm sb b4 : Nat} {t k : Option Nat} (h1 : Apart (some bm) (some b)) (h2 : Apart (some sb) (some b)) (h3 : Apart (some b4) (some b)) (h4 : Apart t (some b)) (h5 : Apart k (some b)) : b ∉ XM bm sb b4 t k := fun h => by
  rcases List.mem_cons.1 h with rfl | h
  · exact h1 _ rfl rfl
  · rcases List.mem_cons.1 h with rfl | h
    · exact h2 _ rfl rfl
    · rcases List.mem_cons.1 h with rfl | h
      · exact h3 _ rfl rfl
      · rcases List.mem_append.1 h with h | h
        · exact h4 b (by simpa using h) rfl
        · exact h5 b (by simpa using h) rfl
def kA (a : Nat) (sv : Nat → Nat) : Vis := fun j => decide (sv j = a + 1)
def tU (sv : Nat → Nat) (i v : Nat) : Nat → Nat := fun j => if j = i then v else sv j
theorem kX (a i : Nat) (sv : Nat → Nat) : kA a (tU sv i (a + 1)) = (kA a sv).add i := by
  funext j
  simp only [kA, tU, Vis.add]
  by_cases h : j = i <;> simp [h]
def svc (n : Nat) (sv : Nat → Nat) : List Value := (List.range n).map fun j => iv (sv j)
theorem svc_get {n i : Nat} {sv : Nat → Nat} (h : i < n) : (svc n sv)[i]? = some (iv (sv i)) := by simp [svc, h]
theorem svc_set {n i v : Nat} {sv : Nat → Nat} : (svc n sv).set i (iv v) = svc n (tU sv i v) := by
  apply List.ext_getElem?
  intro j
  simp only [svc, List.getElem?_set, List.length_map, List.length_range, List.getElem?_map]
  by_cases hj : j < n
  · by_cases e : i = j
    · subst e; simp [hj, tU]
    · simp [hj, e, tU, Ne.symm e]
  · by_cases e : i = j
    · subst e; simp [hj]
    · simp [hj, e]
theorem SK (n : Nat) : rC #[.int .i64 0] n = svc n (fun _ => 0) := by
  simp only [rC, svc]
  induction n with
  | zero => rfl
  | succ n ih => rw [List.range_succ, List.map_append, ← ih, List.replicate_succ', List.flatten_append]; simp
def us (n a : Nat) (sv : Nat → Nat) : Nat := (List.range n).countP fun j => !(kA a sv j)
theorem SE (n a : Nat) (sv : Nat → Nat) : us n a sv ≤ n := by
  have := List.countP_le_length (p := fun j => !(kA a sv j)) (l := List.range n)
  simpa [us] using this
theorem us_mark {n a i : Nat} {sv : Nat → Nat} (hi : i < n) (h : kA a sv i = false) : us n a (tU sv i (a + 1)) + 1 = us n a sv := by
  refine LV (k := i) (by simp [h]) (by rw [kX]; simp [Vis.add]) (fun j hj => ?_) hi
  rw [kX]
  simp [Vis.add, hj]
theorem sP {sv : Nat → Nat} {i v : Nat} (h : ∀ j, sv j ≤ v) : ∀ j, tU sv i v j ≤ v := fun j => by
  unfold tU; split
  · exact Nat.le_refl _
  · exact h j
end Go.Proofs.YtidpigbinpaaeaaGreat
namespace Go.Proofs.YtidpigbinpaaeaaGreat
open Go.RowKit Go.W
attribute [local irreducible] Decidable.decide
theorem mO : kU Tryz.prog 126 = some false := by kernel_rfl
theorem mN : kU Tryz.prog 131 = some true := by kernel_rfl
theorem zV : kU Tryz.prog 37 = some false := by kernel_rfl
theorem rA : kU Tryz.prog 74 = some false := by kernel_rfl
theorem jR : kU Tryz.prog 82 = some false := by kernel_rfl
theorem jC : AG Tryz.prog 126 126 = some (131, 2, 16) := by kernel_rfl
theorem jI : Build Tryz.prog 131 #[(0, 1), (1, 1)] #[.int .i64 0, .pointer none] := ⟨_, .agg #[.int .i64 0, .pointer none], Tryz.underlying131, by kernel_rfl, rfl, fun w => by kernel_rfl⟩
theorem AN : Build Tryz.prog 148 #[(0, 1), (1, 1), (2, 1)] #[.int .i64 0, .int .i64 0, .pointer none] := ⟨_, .agg #[.int .i64 0, .int .i64 0, .pointer none], Tryz.underlying148, by kernel_rfl, rfl, fun w => by kernel_rfl⟩
theorem qY : pT Tryz.prog 126 = some 2 := by kernel_rfl
theorem sD : pT Tryz.prog 74 = some 5 := by kernel_rfl
theorem AJ : cZ Tryz.prog 128 0 = some 0 := by kernel_rfl
theorem tK : cZ Tryz.prog 128 2 = some 5 := by kernel_rfl
theorem iJ : cZ Tryz.prog 128 3 = some 6 := by kernel_rfl
theorem kM : cZ Tryz.prog 131 0 = some 0 := by kernel_rfl
theorem jG : cZ Tryz.prog 131 1 = some 1 := by kernel_rfl
theorem nF : cZ Tryz.prog 76 0 = some 0 := by kernel_rfl
theorem IZ : dU Tryz.prog 86 := ⟨_, Tryz.func86, by kernel_rfl, by kernel_rfl⟩
theorem qP : fR Tryz.prog 126 = some 1 := by kernel_rfl
theorem gM : fR Tryz.prog 131 = some 2 := by kernel_rfl
theorem jE : oT Tryz.prog 126 = some (131, 2) := by kernel_rfl
theorem uS : mH Tryz.prog 123 = some #[.int .i64 0, .int .i64 0, .int .i64 0, .int .i64 0, .slice none 0 0] := by kernel_rfl
structure FG where
  stk : List Th
  kr : List (List Value)
  ka : Option Addr
  kc : Nat
  kob : Option Nat
  sv : Nat → Nat
  ls : List Th
  tr : List (List Value)
  ta : Option Addr
  tn : Nat
  tc : Nat
  tob : Option Nat
  va : Value
  vb : Value
theorem SI {kr : List (List Value)} {y z : Int} {v : Value} (hy : 0 ≤ y) (hz : 0 ≤ z) : (kr ++ [[iv (y.toNat : Nat), v]] ++ [[iv (z.toNat : Nat), v]]).flatten = kr.flatten ++ [iv y, v, iv z, v] := by
  rw [Int.toNat_of_nonneg hy, Int.toNat_of_nonneg hz]; simp
theorem GP {kr : List (List Value)} {z : Int} {v : Value} (hz : 0 ≤ z) : (kr ++ [[iv (z.toNat : Nat), v]]).flatten = kr.flatten ++ [iv z, v] := by
  rw [Int.toNat_of_nonneg hz]; simp
theorem xF {kr : List (List Value)} {i : Nat} {v : Value} : (kr ++ [[iv (i : Nat), v]]).flatten = kr.flatten ++ [iv i, v] := by simp
theorem OV {p : Prg} {s : ByteArray} {a i0 : Nat} {t0 : eN} {V0 : Vis} {ls stk : List Th} {V : Vis} {d : Th} {stk1 : List Th} {V1 : Vis} (h : ∀ Lx V', Ept (dV p s) a stk V Lx V' → Ept (dV p s) a [(i0, t0)] V0 (ls ++ Lx) V') (k : ∀ Lx V', Ept (dV p s) a stk1 V1 Lx V' → Ept (dV p s) a stk V (d :: Lx) V') :
    ∀ Lx V', Ept (dV p s) a stk1 V1 Lx V' → Ept (dV p s) a [(i0, t0)] V0 ((ls ++ [d]) ++ Lx) V' := fun Lx V' e => by
  rw [List.append_assoc]; exact h _ _ (k Lx V' e)
theorem nm2 {b bw : Nat} {ob : Option Nat} (h1 : Apart (some b) (some bw)) (h2 : Apart (some b) ob) : b ∉ bw :: ob.toList := fun h => by
  rcases List.mem_cons.1 h with h | h
  · exact h1 b rfl (by rw [h])
  · exact h2.nmem h
theorem ob_or {X : List Nat} {w w1 : World} {ob ob' ob0 : Option Nat} (hob : ob' = ob ∨ ∃ g, ob' = some g ∧ w1.heap.size ≤ g) (he : Evo X w w1) (h : ob = ob0 ∨ Ge w ob) : ob' = ob0 ∨ Ge w ob' := by
  rcases hob with rfl | ⟨g, rfl, hg⟩
  · exact h
  · right; intro g' e; cases e; have := he.size; omega
theorem y0 {w : World} {bm sb b4 kb : Nat} {tob0 : Option Nat} (h1 : Ge w (some b4)) (h2 : Ge w (some kb)) : ∀ y, y ∈ XM bm sb b4 tob0 (some kb) → y ∈ bm :: sb :: tob0.toList ∨ w.heap.size ≤ y := fun y hy => by
  rcases List.mem_cons.1 hy with rfl | hy
  · left; simp
  · rcases List.mem_cons.1 hy with rfl | hy
    · left; simp
    · rcases List.mem_cons.1 hy with rfl | hy
      · right; exact h1 _ rfl
      · rcases List.mem_append.1 hy with h | h
        · left; simp [h]
        · right; simp at h; subst h; exact h2 _ rfl
set_option maxHeartbeats 4000000 in
theorem BW {w : World} {bm sb cs i0 a tn0 tc0 : Nat} {iV v1 v2 v3 nv0 : Value} {t0 : eN} {tob0 : Option Nat} {ta0 : Option Addr} {p : Prg} {s : ByteArray} {sv0 : Nat → Nat} {tr0 : List (List Value)} {L0 : List Th}
    (hI : RSl 5 RInst (bm :: sb :: tob0.toList) w iV p.insts) (hsp : kW p) (z5 : w.heap[bm]? = some (.cells #[iV, v1, v2, v3, .string s, .slice (some ⟨sb, 0, none⟩) p.insts.length cs, .slice ta0 tn0 tc0] 128 (0, 0)))
    (hSe0 : OwnS w 3 1 (some ⟨sb, 0, none⟩) p.insts.length cs (svc p.insts.length sv0) (some sb)) (hTh0 : OwnS w 131 2 ta0 tn0 tc0 tr0.flatten tob0) (hTr : RowsOk 2 RTh (bm :: sb :: tob0.toList) w tr0 L0) (hN : RNote (bm :: sb :: tob0.toList) w nv0 t0)
    (hi0 : i0 < p.insts.length) (ha : a ≤ s.size) (hs : s.size ≤ 2097152) (hsv : ∀ j, sv0 j ≤ a + 1) (htn : tn0 + us p.insts.length a sv0 ≤ p.insts.length) (hms : Apart (some bm) (some sb)) (hmt0 : Apart (some bm) tob0) (hst0 : Apart (some sb) tob0) :
    Calls Tryz.prog 57 #[.pointer (some ⟨bm, 0, none⟩), .agg #[iv i0, nv0], iv a] w (Ret fun v w' => ∃ sv ta tn tc tr tob L, v = .tuple #[] ∧ Ept (dV p s) a [(i0, t0)] (kA a sv0) L (kA a sv) ∧ w'.heap[bm]? = some (.cells #[iV, v1, v2, v3, .string s, .slice (some ⟨sb, 0, none⟩) p.insts.length cs, .slice ta tn tc] 128 (0, 0)) ∧
      OwnS w' 3 1 (some ⟨sb, 0, none⟩) p.insts.length cs (svc p.insts.length sv) (some sb) ∧ OwnS w' 131 2 ta tn tc (List.flatten tr) tob ∧ RowsOk 2 RTh (bm :: sb :: tob.toList) w' tr (L0 ++ L) ∧ (∀ j, sv j ≤ a + 1) ∧ tn + us p.insts.length a sv ≤ p.insts.length ∧ Apart (some bm) tob ∧ Apart (some sb) tob ∧ (tob = tob0 ∨ Ge w tob) ∧ Evo (bm :: sb :: tob0.toList) w w') := by
  have H1 := hI; obtain ⟨a3, c3, rfl, hl3, e3⟩ := hI; obtain ⟨hh1, hh2, hh3, hh4, hh5, hh6, hh7⟩ := hsp.1; have hnv0 := hN.one; refine bD (N := 110) Tryz.func57 rfl rfl rfl ?_; refine csr (gK rfl rfl fun bt w1 l7 f7 g6 => ?_); have D9 := f7; have g7 := Apart.new (Lt.blk z5) f7; have z6 := Apart.new (Lt.own hSe0) f7; have E0 := Apart.new (Lt.own hTh0) f7; have l8 := Ge.new (Evo.refl (bm :: sb :: tob0.toList) w) f7; have z7 := (Evo.refl (bm :: sb :: tob0.toList) w).then g6; have l9 := g6.blk0 z5; have m0 := hSe0.evo0 g6; have m1 := hTh0.evo0 g6; refine wnn (csr (aC (bV rfl mN gM l7 rfl) (bL (vs := [_]) rfl jE rfl rfl rfl rfl fun z8 H2 A0 e0 e1 => ?_))); have A1 := Apart.new (Lt.blk l9) e0; have A2 := Apart.new (Lt.own m0) e0; have A3 := Apart.new (Lt.own m1) e0; have A4 := Apart.new (Lt.blk l7) e0; have f8 := Ge.new z7 e0; have f9 := z7.then e1; have A5 := e1.blk0 l9; have A6 := m0.evo0 e1; have A7 := m1.evo0 e1; have A8 := e1.blk0 l7; refine wan (bG ?_)
  refine dC (α := FG) (⟨[(i0, t0)], [[iv i0, nv0]], some ⟨z8, 0, none⟩, 1, some z8, sv0, [], tr0, ta0, tn0, tc0, tob0, iv i0, nv0⟩) (fun x => [(6, .slice x.ka x.stk.length x.kc)]) [(0, _), (2, _), (4, _)] (fun x wr => Evo (bm :: sb :: tob0.toList) w wr ∧ (OwnS wr 131 2 x.ka x.stk.length x.kc x.kr.flatten x.kob ∧ RowsOk 2 RTh (XM bm sb bt x.tob x.kob) wr x.kr x.stk.reverse ∧ OwnS wr 3 1 (some ⟨sb, 0, none⟩) p.insts.length cs (svc p.insts.length x.sv) (some sb) ∧ OwnS wr 131 2 x.ta x.tn x.tc x.tr.flatten x.tob ∧ RowsOk 2 RTh (XM bm sb bt x.tob x.kob) wr x.tr (L0 ++ x.ls) ∧ wr.heap[bm]? = some (.cells #[.slice a3 p.insts.length c3, v1, v2, v3, .string s, .slice (some ⟨sb, 0, none⟩) p.insts.length cs, .slice x.ta x.tn x.tc] 128 (0, 0)) ∧ wr.heap[bt]? = some (.cells #[x.va, x.vb] 131 (0, 0)) ∧ (∀ d, d ∈ x.stk → d.1 < p.insts.length) ∧ 3 * us p.insts.length a x.sv + x.stk.length ≤ 3 * p.insts.length + 1 ∧ x.tn + us p.insts.length a x.sv ≤ p.insts.length ∧ (∀ j, x.sv j ≤ a + 1) ∧ (∀ Lx V', Ept (dV p s) a x.stk (kA a x.sv) Lx V' → Ept (dV p s) a [(i0, t0)] (kA a sv0) (x.ls ++ Lx) V') ∧ Apart (some bm) x.tob ∧ Apart (some sb) x.tob ∧ Apart (some bt) x.tob ∧ Apart (some bm) x.kob ∧ Apart (some sb) x.kob ∧ Apart (some bt) x.kob ∧ Apart x.tob x.kob ∧ Ge w x.kob ∧ (∀ y, y ∈ x.tob.toList → y ∈ (bm :: sb :: tob0.toList) ∨ w.heap.size ≤ y) ∧ (x.tob = tob0 ∨ Ge w x.tob))) (fun x => 3 * us p.insts.length a x.sv + x.stk.length) ⟨rfl, trivial⟩ ⟨rfl, rfl, rfl, trivial⟩ ⟨f9, ⟨A0, RowsOk.snoc (rows := []) (ds := []) (RowsOk.nil _ _ _ _) rfl ⟨nv0, rfl, hN.step f9 (y0 l8 f8)⟩, A6, A7, by rw [List.append_nil]; exact dI hTr f9 (y0 l8 f8), A5, A8, by simpa using hi0, by have := SE p.insts.length a sv0; simp only [List.length_cons, List.length_nil]; omega, htn, hsv, fun _ _ h => by simpa using h, hmt0, hst0, E0.symm, A1, A2, A4, A3, f8, fun y hy => .inl (List.mem_cons_of_mem _ (List.mem_cons_of_mem _ hy)), .inl rfl⟩⟩ ?_
  rintro ⟨stk, kr, ka, kc, kob, sv, ls, tr, ta, tn, tc, tob, va, vb⟩ wr28 ⟨m2, ⟨hK, hKr, hSe, hTh, hTr, hM, hB, hsn, hm, htn, hsv, hE, hmt, hst, hbt, hmk, hsk, hbk, htk, hgk, hto, hto2⟩⟩; show CW _ _ _ _ [(6, .slice ka stk.length kc), (0, _), (2, _), (4, _)] _
  try dsimp only at hK hKr hSe hTh hTr hM hB hsn hm htn hsv hE hmt hst hbt hmk hsk hbk htk hgk hto hto2
  have A9 := Evo.refl (XM bm sb bt tob kob) wr28; refine aI (csr (aD (aC (bH rfl Tryz.underlying126 rfl) ?_))); refine aC (gL rfl rfl) ?_; refine wnn (aX rfl (fun B0 => ?_) (fun B0 => ?_))
  ·obtain ⟨⟨i, t⟩, stk1, rfl⟩ := List.exists_cons_of_length_pos (by omega : 0 < stk.length); have hfl : ((i, t) :: stk1).length = stk1.length + 1 := rfl; have hi : i < p.insts.length := hsn (i, t) (by simp); rw [List.reverse_cons] at hKr; obtain ⟨kr1, nv, hkr, hKr1, hNv⟩ := PU hKr
   dsimp only at hkr hNv
   subst hkr; obtain ⟨q, rfl⟩ := hNv.ptr; have g8 := hK; rw [xF] at g8; obtain ⟨gk, ek, ek2, hck⟩ := OwnS.top (m := stk1.length) (r := [iv i, (.pointer q)]) g8 rfl; subst ek ek2; refine aL (aB (bG (csr (aD (aD (aC (bH rfl Tryz.underlying126 rfl) ?_)))))); refine aC (dL rfl rfl (by omega) (by omega)) ?_; refine aC (fG (n := stk1.length) rfl rfl (by omega) qY (by omega)) ?_; refine aC (dF rfl mN gM (vs := [iv i, .pointer q]) rfl hck) ?_; refine aW rfl rfl gM hB rfl rfl ⟨by first | rfl | assumption, by first | rfl | assumption, trivial⟩ fun H3 g0 c9 => ?_; have B1 := m2.step c9 l8.mem1
   have B2 := A9.step c9 (fun y hy => .inl (by simp at hy; simp [XM, hy]))
   have m3 := c9.blk hM g7.nmem1; have m4 := hSe.evo c9 z6.own1; have B3 := hTh.evo c9 hbt.symm.own1; have B4 := hK.evo c9 hbk.symm.own1
   try simp only [cG, Nat.reduceAdd] at g0
   refine wnn (csr (aD (aD (aC (bH rfl Tryz.underlying126 rfl) ?_)))); refine aC (dL rfl rfl (by omega) (by omega)) ?_
   refine aC (WO (h := stk1.length) g8 rfl rfl Tryz.underlying126 gM (by omega) (by have := g8.le; omega)) ?_
   have E1 := OwnS.pop (m := stk1.length) (xs := kr1.flatten) (r := [iv i, (.pointer q)]) (by rw [← xF]; exact B4) rfl
   refine wan (aI (aI ?_)); refine eM (by kernel_rfl) (by kernel_rfl) ?_; refine bE (fun _ A => aY rfl) ?_; refine bE (fun _ A => aF rfl) ?_; refine bE (fun _ A => aA rfl tK) ?_; refine bE (fun _ A => aU rfl zV (bA (A.blk0 m3) rfl)) ?_; refine bE (fun _ A => aA rfl kM) ?_; refine bE (fun _ A => aU rfl aQ (bA (A.blk0 g0) rfl)) ?_; refine bE (fun _ A => cF (n := i) rfl rfl gA hi) ?_; refine bE (fun _ A => aU rfl aQ ((m4.evo0 A).get1 (svc_get hi))) ?_; refine bE (fun _ A => aY rfl) ?_; refine bE (fun _ A => aJ rfl rfl (by omega) (by omega)) ?_; refine bE (fun _ A => mB rfl rfl) ?_; refine eS (fun F0 A => aB ?_); have m5 := B1.then A; have e2 := B2.then A; have m6 := A.blk0 m3; have m7 := m4.evo0 A; have m8 := B3.evo0 A; have m9 := E1.evo0 A; have n0 := A.blk0 g0; refine aX rfl (fun B5 => ?_) (fun B5 => ?_)
   ·refine cM (bK (cL (bB ?_))); refine ⟨⟨stk1, kr1, some ⟨gk, 0, none⟩, kc, some gk, sv, ls, tr, ta, tn, tc, tob, iv i, (.pointer q)⟩, ?_, ⟨rfl, trivial⟩, ⟨rfl, rfl, rfl, trivial⟩, m5, ?_⟩
    · (try dsimp only); first | omega | (simp only [List.length_cons]; omega) | (simp only [List.length_cons] at *; omega)
    try dsimp only
    have hxx := tQ e2 (t' := tob) (k' := some gk) (fun y hy => .inl (CQ y hy)) (fun y hy => .inl (AA y hy)); have hKr3 := dI hKr1 e2 hxx; have hTr3 := dI hTr e2 hxx; have hNv3 := hNv.step e2 hxx
    refine ⟨m9, hKr3, m7, m8, hTr3, m6, n0, fun d hd => hsn d (List.mem_cons_of_mem _ hd), by first | omega | (simp only [List.length_cons] at *; omega), by omega, hsv, fun Lx V' h => hE Lx V' (.seen (by simp only [kA, decide_eq_true_eq]; omega) h), hmt, hst, hbt, hmk, hsk, hbk, htk, hgk, hto, hto2⟩
   have hsn2 : kA a sv i = false := by simp only [kA, decide_eq_false_iff_not]; omega
   have hsi := hsp.2 i hi hi; have hmv := DT (p := p) (s := s) (a := a) hi; obtain ⟨bI, oI, vs1, ha1, hx1, -, E2, hr1⟩ := e3 i hi
   generalize p.insts[i] = ci at hsi hmv hr1
   obtain ⟨hi1, rv1, rfl, hr2⟩ := hr1; obtain ⟨n1, n2, n3, n4, n5, n6, n7, n8, n9, n10⟩ := hsi.1; have hci := hi1.len; have hrv := hr2.one; refine aL (aB (aI ?_)); refine fZ (fun w0 w' => Evo [] w0 w') (by kernel_rfl) (fun c4 c0 => ?_); have B6 := m5.then c0; have B7 := e2.then c0; have o0 := c0.blk0 m6; have g1 := m7.evo0 c0; have B8 := m8.evo0 c0; have B9 := m9.evo0 c0; have o1 := c0.blk0 n0; refine aet 0 rfl (fun _ hS => aY rfl) (Evo.refl [] c4) ?_; refine aet 1 rfl (fun _ hS => aF rfl) (Evo.refl [] c4) ?_; refine aet 2 rfl (fun _ hS => aA rfl tK) (Evo.refl [] c4) ?_; refine aet 3 rfl (fun _ hS => aU rfl zV (bA (hS.blk0 o0) rfl)) (Evo.refl [] c4) ?_; refine aet 4 rfl (fun _ hS => aA rfl kM) (Evo.refl [] c4) ?_; refine aet 5 rfl (fun _ hS => aU rfl aQ (bA (hS.blk0 o1) rfl)) (Evo.refl [] c4) ?_; refine aet 6 rfl (fun _ hS => aY rfl) (Evo.refl [] c4) ?_; refine aet 7 rfl (fun _ hS => aJ rfl rfl (by omega) (by omega)) (Evo.refl [] c4) ?_; refine aet 8 rfl (fun _ hS => cF (n := i) rfl rfl gA hi) (Evo.refl [] c4) ?_; refine bR [9] (by kernel_rfl) rfl ⟨?_, trivial⟩
   refine bY rfl ?_
   obtain ⟨g67, cur58, hg59, hx60, hcu61, hcs62, -⟩ := g1.at (by omega)
   cases hx60; refine gD rfl rfl (rfl) bO hcu61 (g1.inb hcs62 (k := i) (j := 0) (by omega) (by omega) (by omega)) fun E3 C0 a7 => ?_; replace a7 := kD hg59 a7; have C1 := g1.set' hg59 hcu61 C0
   have C2 := B6.step a7 (fun y hy => .inl (by simp at hy; simp [hy]))
   have C3 := B7.step a7 (fun y hy => .inl (by simp at hy; simp [XM, hy]))
   have C4 := a7.blk o0 hms.nmem; have C5 := B8.evo a7 hst.symm.own; have C6 := B9.evo a7 hsk.symm.own; have C7 := a7.blk o1 z6.symm.nmem; have hSe2 : OwnS E3 3 1 (some ⟨sb, 0, none⟩) p.insts.length cs ((svc p.insts.length sv).set (0 + i * 1) (iv ((a + 1 : Nat) : Int))) (some sb) := C1; rw [show 0 + i * 1 = i by omega, svc_set] at hSe2; have hum := us_mark (a := a) hi hsn2; refine aP (bN (.inr (by kernel_rfl)) ?_); refine dJ (by kernel_rfl) (aB ?_); refine aI ?_; refine fZ (fun w0 w' => Evo [] w0 w') (by kernel_rfl) (fun b9 c1 => ?_); have g2 := C2.then c1; have o2 := C3.then c1; have g3 := c1.blk0 C4; have o3 := hSe2.evo0 c1; have o4 := C5.evo0 c1; have o5 := C6.evo0 c1; have g4 := c1.blk0 C7; refine aet 0 rfl (fun _ hS => aY rfl) (Evo.refl [] b9) ?_; refine aet 1 rfl (fun _ hS => aF rfl) (Evo.refl [] b9) ?_; refine aet 2 rfl (fun _ hS => aA rfl AJ) (Evo.refl [] b9) ?_; refine aet 3 rfl (fun _ hS => aA rfl nF) (Evo.refl [] b9) ?_; refine aet 4 rfl (fun _ hS => aU rfl rA (bA (hS.blk0 g3) rfl)) (Evo.refl [] b9) ?_; refine aet 5 rfl (fun _ hS => aA rfl kM) (Evo.refl [] b9) ?_; refine aet 6 rfl (fun _ hS => aU rfl aQ (bA (hS.blk0 g4) rfl)) (Evo.refl [] b9) ?_
   refine aet 7 rfl (fun _ hS => cF (n := i) (by rw [ha1]; rfl) rfl sD hi) (Evo.refl [] b9) ?_
   refine aet 8 rfl (fun _ hS => dF rfl oS jW (vs := [_, _, _, _, _]) rfl (E2.evo (g2.then hS) hx1)) (Evo.refl [] b9) ?_; refine bR [9] (by kernel_rfl) rfl ⟨?_, trivial⟩; refine bY rfl ?_; refine cK rfl uS fun H4 H5 C8 c2 a8 => ?_; have C9 := Apart.new (Lt.blk g3) c2; have D0 := Apart.new (Lt.own o3) c2; have D1 := Apart.new (Lt.own o4) c2; have D2 := Apart.new (Lt.own o5) c2; have D3 := Apart.new (Lt.blk g4) c2; have D4 := Ge.new g2 c2; have D5 := Ge.new o2 c2; have D6 := g2.then a8; have D7 := o2.then a8; have D8 := (Evo.refl [] b9).then a8; have o6 := a8.blk0 g3; have o7 := o3.evo0 a8; have o8 := o4.evo0 a8; have o9 := o5.evo0 a8; have p1 := a8.blk0 g4; refine aP (bN (.inl D8) ?_); refine bR [10] (by kernel_rfl) rfl ⟨?_, trivial⟩; refine bY rfl ?_; refine aW rfl rfl jW C8 rfl rfl ⟨by first | rfl | assumption, by first | rfl | assumption, by first | rfl | assumption, by first | rfl | assumption, by first | rfl | assumption, trivial⟩ fun g5 e7 M => ?_; have p2 := D6.step M D4.mem1; have p3 := D7.step M D5.mem1; have p4 := M.blk o6 C9.nmem1; have p5 := o7.evo M D0.own1; have p6 := o8.evo M D1.own1; have p7 := o9.evo M D2.own1; have p8 := M.blk p1 D3.nmem1
   try simp only [cG, Nat.reduceAdd] at e7
   refine aP (bN (.inr (by kernel_rfl)) ?_); refine dJ (by kernel_rfl) (aB ?_); refine csr (wfl rfl mF rfl aQ e7 rfl (wnn (bG (aI (nX (α := Bool) (fun x => [(67, .bool x)]) [(0, _), (2, _), (4, _), (6, _), (7, _), (54, _)] (fun x wr => Evo [] g5 wr ∧ (x = true ↔ (ci.op = 1 ∨ ci.op = 2))) ⟨rfl, rfl, rfl, rfl, rfl, rfl, trivial⟩ ?_ ?_)))))
   ·refine csr (wel ?_); refine wan (aX rfl (fun e4 => ?_) (fun e4 => ?_))
    ·refine aL (bB ?_); refine ⟨_, ⟨rfl, trivial⟩, ⟨rfl, rfl, rfl, rfl, rfl, rfl, trivial⟩, (Evo.refl [] g5), ?_⟩
     simp only [decide_eq_true_eq]; omega
    refine aG (wel ?_); refine bX (aP (bB ?_)); refine ⟨_, ⟨rfl, trivial⟩, ⟨rfl, rfl, rfl, rfl, rfl, rfl, trivial⟩, (Evo.refl [] g5), ?_⟩
    simp only [decide_eq_true_eq]; omega
   rintro lf F1 ⟨B, hlf2⟩; refine aB ?_; show CW _ _ _ _ [(67, _), (0, _), (2, _), (4, _), (6, _), (7, _), (54, _)] _; have d1 := p2.then B; have d2 := p3.then B; have b4 := B.blk0 p4; have c5 := p5.evo0 B; have c6 := p6.evo0 B; have c7 := p7.evo0 B; have D := B.blk0 p8; have b5 := B.blk0 e7; refine fN rfl (fun e4 => ?_) (fun e4 => ?_)
   ·subst e4; have hlf3 := hlf2.1 rfl; refine fZ (fun w0 w' => Evo (bm :: tob.toList) w0 w') (by kernel_rfl) (fun a9 O => ?_); have g9 := d1.then O; have h0 := d2.then O; have e8 := O.blk0 b4; have h2 := c5.evo0 O; have h3 := c6.evo0 O; have h4 := c7.evo0 O; have e9 := O.blk0 D; refine aet 0 rfl (fun _ hS => aY rfl) (Evo.refl (bm :: tob.toList) a9) ?_; refine aet 1 rfl (fun _ hS => aY rfl) (Evo.refl (bm :: tob.toList) a9) ?_; refine aet 2 rfl (fun _ hS => aF rfl) (Evo.refl (bm :: tob.toList) a9) ?_; refine aet 3 rfl (fun _ hS => aA rfl iJ) (Evo.refl (bm :: tob.toList) a9) ?_; refine aet 5 rfl (fun _ hS => bV rfl mN gM (hS.blk e9 (nm2 g7.symm hbt)) rfl) (Evo.refl (bm :: tob.toList) a9) ?_; refine bR [4, 6] (by kernel_rfl) rfl ⟨?_, ?_, trivial⟩
    ·refine bY rfl ?_; refine aC (aU rfl mO (bA e8 rfl)) (aP (bN (.inl (Evo.refl (bm :: tob.toList) a9)) ?_)); refine bR [6] (by kernel_rfl) rfl ⟨?_, trivial⟩; refine bY rfl ?_; refine bL (vs := [_]) rfl jE rfl rfl rfl rfl fun F2 F3 p9 E5 F => ?_; have h5 := g9.then F; have h6 := h0.then F; have h7 := (Evo.refl (bm :: tob.toList) a9).then F; have h8 := F.blk0 e8; have h9 := h2.evo0 F; have q0 := h3.evo0 F; have i1 := h4.evo0 F; have i2 := F.blk0 e9; refine aP (bN (.inl h7) ?_); refine bR [7] (by kernel_rfl) rfl ⟨?_, trivial⟩; refine bY rfl ?_; refine dB rfl rfl rfl rfl jC q0 (Src.ofOwn p9 ⟨by first | rfl | assumption, by first | rfl | assumption, trivial⟩) (by omega) fun ta1 tc1 F4 obt hTa U hob165 => ?_; have i3 := hmt.app (Lt.blk h8) hob165; have q1 := hst.app (Lt.own h9) hob165; have q2 := htk.symm.app (Lt.own i1) hob165; have q3 := hbt.app (Lt.blk i2) hob165; have q4 := h5.step U (hto); have q5 := h6.step U (fun y hy => .inl (CQ y hy)); have d3 := h7.step U (fun y hy => .inl (List.mem_cons_of_mem _ hy)); have q6 := U.blk h8 hmt.nmem; have q7 := h9.evo U hst.own; have q8 := i1.evo U htk.symm.own; have q9 := U.blk i2 hbt.nmem; have hobt := hob165; have hpreT := h6; have hpreW := h5; refine aP (bN (.inl d3) ?_); refine aet 8 rfl (fun _ hS => aF rfl) d3 ?_
     refine aet 9 rfl (fun _ hS => aA rfl iJ) d3 ?_; refine bR [10] (by kernel_rfl) rfl ⟨?_, trivial⟩; refine bY rfl ?_; refine bC rfl rfl (by first | rfl | assumption) qP q6 rfl fun F5 i4 V => ?_
     have r0 := q4.step V (fun y hy => .inl (by simp at hy; simp [hy]))
     have d4 := q5.step V (fun y hy => .inl (by simp at hy; simp [XM, hy]))
     have r1 := d3.step V (fun y hy => .inl (by simp at hy; simp [hy]))
     have r5 := q7.evo V hms.symm.own1; have r6 := q8.evo V hmk.symm.own1; have r7 := V.blk q9 g7.symm.nmem1; have r8 := hTa.evo V i3.symm.own1
     try simp only [cG, Nat.reduceAdd] at i4
     refine aP (bN (.inl r1) ?_); refine dJ (by kernel_rfl) (aO (aO (bB ?_))); refine ⟨⟨stk1, kr1, some ⟨gk, 0, none⟩, kc, some gk, (tU sv i (a + 1)), ls ++ [(i, t)], tr ++ [[iv i, (.pointer q)]], ta1, tn + 1, tc1, obt, iv i, (.pointer q)⟩, ?_, ⟨rfl, trivial⟩, ⟨rfl, rfl, rfl, trivial⟩, r0, ?_⟩
     · (try dsimp only); first | omega | (simp only [List.length_cons]; omega) | (simp only [List.length_cons] at *; omega)
     try dsimp only
     have hxx := tQ d4 (t' := obt) (k' := some gk) (GR hobt hpreT CQ) (fun y hy => .inl (AA y hy)); have hKr3 := dI hKr1 d4 hxx; have hTr3 := dI hTr d4 hxx; have hNv3 := hNv.step d4 hxx
     refine ⟨r6, hKr3, r5, (by rw [xF]; exact r8), (by rw [← List.append_assoc]; exact hTr3.snoc rfl ⟨(.pointer q), rfl, hNv3⟩), i4, r7, fun d hd => hsn d (List.mem_cons_of_mem _ hd), by first | omega | (simp only [List.length_cons] at *; omega), by omega, (sP hsv), OV hE (fun Lx V' h => .leaf hsn2 (by rw [hmv]; unfold mvI; rcases hlf3 with h1 | h1 <;> simp [h1, Mov.leaf]) (by rw [← kX]; exact h)), i3, q1, q3, hmk, hsk, hbk, q2.symm, hgk, UQ hobt hpreW hto, ob_or hobt hpreW hto2⟩
    refine bY rfl ?_; refine bL (vs := [_]) rfl jE rfl rfl rfl rfl fun F6 F7 r9 E6 H => ?_; have i5 := g9.then H; have i6 := h0.then H; have f0 := (Evo.refl (bm :: tob.toList) a9).then H; have f5 := H.blk0 e8; have i7 := h2.evo0 H; have s0 := h3.evo0 H; have i8 := h4.evo0 H; have i9 := H.blk0 e9; refine aP (bN (.inl f0) ?_); refine bR [4] (by kernel_rfl) rfl ⟨?_, trivial⟩; refine bY rfl ?_; refine aC (aU rfl mO (bA f5 rfl)) (aP (bN (.inl f0) ?_)); refine bR [7] (by kernel_rfl) rfl ⟨?_, trivial⟩; refine bY rfl ?_; refine dB rfl rfl rfl rfl jC s0 (Src.ofOwn r9 ⟨by first | rfl | assumption, by first | rfl | assumption, trivial⟩) (by omega) fun ta1 tc1 F8 obt hTa a0 hob222 => ?_; have j0 := hmt.app (Lt.blk f5) hob222; have s2 := hst.app (Lt.own i7) hob222; have s3 := htk.symm.app (Lt.own i8) hob222; have s4 := hbt.app (Lt.blk i9) hob222; have s5 := i5.step a0 (hto); have s6 := i6.step a0 (fun y hy => .inl (CQ y hy)); have d5 := f0.step a0 (fun y hy => .inl (List.mem_cons_of_mem _ hy)); have s7 := a0.blk f5 hmt.nmem; have s8 := i7.evo a0 hst.own; have s9 := i8.evo a0 htk.symm.own; have t1 := a0.blk i9 hbt.nmem; have hobt := hob222; have hpreT := i6; have hpreW := i5; refine aP (bN (.inl d5) ?_); refine aet 8 rfl (fun _ hS => aF rfl) d5 ?_; refine aet 9 rfl (fun _ hS => aA rfl iJ) d5 ?_
    refine bR [10] (by kernel_rfl) rfl ⟨?_, trivial⟩; refine bY rfl ?_; refine bC rfl rfl (by first | rfl | assumption) qP s7 rfl fun F9 j1 a1 => ?_
    have t2 := s5.step a1 (fun y hy => .inl (by simp at hy; simp [hy]))
    have d6 := s6.step a1 (fun y hy => .inl (by simp at hy; simp [XM, hy]))
    have t3 := d5.step a1 (fun y hy => .inl (by simp at hy; simp [hy]))
    have t4 := s8.evo a1 hms.symm.own1; have t5 := s9.evo a1 hmk.symm.own1; have t6 := a1.blk t1 g7.symm.nmem1; have t7 := hTa.evo a1 j0.symm.own1
    try simp only [cG, Nat.reduceAdd] at j1
    refine aP (bN (.inl t3) ?_); refine dJ (by kernel_rfl) (aO (aO (bB ?_))); refine ⟨⟨stk1, kr1, some ⟨gk, 0, none⟩, kc, some gk, (tU sv i (a + 1)), ls ++ [(i, t)], tr ++ [[iv i, (.pointer q)]], ta1, tn + 1, tc1, obt, iv i, (.pointer q)⟩, ?_, ⟨rfl, trivial⟩, ⟨rfl, rfl, rfl, trivial⟩, t2, ?_⟩
    · (try dsimp only); first | omega | (simp only [List.length_cons]; omega) | (simp only [List.length_cons] at *; omega)
    try dsimp only
    have hxx := tQ d6 (t' := obt) (k' := some gk) (GR hobt hpreT CQ) (fun y hy => .inl (AA y hy)); have hKr3 := dI hKr1 d6 hxx; have hTr3 := dI hTr d6 hxx; have hNv3 := hNv.step d6 hxx
    refine ⟨t5, hKr3, t4, (by rw [xF]; exact t7), (by rw [← List.append_assoc]; exact hTr3.snoc rfl ⟨(.pointer q), rfl, hNv3⟩), j1, t6, fun d hd => hsn d (List.mem_cons_of_mem _ hd), by first | omega | (simp only [List.length_cons] at *; omega), by omega, (sP hsv), OV hE (fun Lx V' h => .leaf hsn2 (by rw [hmv]; unfold mvI; rcases hlf3 with h1 | h1 <;> simp [h1, Mov.leaf]) (by rw [← kX]; exact h)), j0, s2, s4, hmk, hsk, hbk, s3.symm, hgk, UQ hobt hpreW hto, ob_or hobt hpreW hto2⟩
   subst e4
   have hlf3 : ¬ (ci.op = 1 ∨ ci.op = 2) := fun h => by have := hlf2.2 h; cases this
   refine csr (wel ?_); refine wan (aX rfl (fun d0 => ?_) (fun d0 => ?_))
   ·have hout : 0 ≤ ci.out ∧ ci.out < p.insts.length := n4 (by omega); have halt := n5 d0; refine aG (aD (wfl rfl pC rfl aQ b5 rfl (wfl rfl jG rfl jR D rfl (aC (cC (vs := [(0, _), (1, _)]) jI rfl (cells := [_, _]) rfl) ?_)))); refine wfl rfl fW rfl aQ b5 rfl (wfl rfl jG rfl jR D rfl (aC (cC (vs := [(0, _), (1, _)]) jI rfl (cells := [_, _]) rfl) ?_)); refine bL (vs := [_, _]) rfl jE rfl rfl rfl rfl fun G0 G1 t8 E7 a2 => ?_; have j2 := d1.then a2; have j3 := d2.then a2; have j4 := a2.blk0 b4; have j5 := c5.evo0 a2; have j6 := c6.evo0 a2; have t9 := c7.evo0 a2; have j7 := a2.blk0 D; refine dB rfl rfl rfl rfl jC t9 (Src.ofOwn t8 ⟨rfl, rfl, rfl, rfl, trivial⟩) (by omega) fun ka1 kc1 G2 obk hKa b6 hob277 => ?_; have u0 := hmk.app (Lt.blk j4) hob277; have u1 := hsk.app (Lt.own j5) hob277; have u2 := htk.app (Lt.own j6) hob277; have u3 := hbk.app (Lt.blk j7) hob277; have u4 := hgk.app j2 hob277; have u5 := j2.step b6 hgk.mem; have d7 := j3.step b6 (fun y hy => .inl (AA y hy)); have u6 := b6.blk j4 hmk.nmem; have u7 := j5.evo b6 hsk.own; have u8 := j6.evo b6 htk.own; have u9 := b6.blk j7 hbk.nmem
    have hobk := hob277; have hpreK := j3; refine bX (aP (aO (aO (bB ?_)))); refine ⟨⟨(ci.out.toNat, t) :: (ci.alt.toNat, t) :: stk1, kr1 ++ [[iv (ci.alt.toNat : Nat), (.pointer q)]] ++ [[iv (ci.out.toNat : Nat), (.pointer q)]], ka1, kc1, obk, (tU sv i (a + 1)), ls, tr, ta, tn, tc, tob, iv i, (.pointer q)⟩, ?_, ⟨rfl, trivial⟩, ⟨rfl, rfl, rfl, trivial⟩, u5, ?_⟩
    · (try dsimp only); first | omega | (simp only [List.length_cons]; omega) | (simp only [List.length_cons] at *; omega)
    try dsimp only
    have hmv2 : dV p s a i = .split ci.out.toNat ci.alt.toNat := by rw [hmv]; unfold mvI; rw [if_neg (by omega), if_neg (by omega), if_pos d0]
    have hxx := tQ d7 (t' := tob) (k' := obk) (fun y hy => .inl (CQ y hy)) (GR hobk hpreK AA); have hKr3 := dI hKr1 d7 hxx; have hTr3 := dI hTr d7 hxx; have hNv3 := hNv.step d7 hxx; rw [show (List.reverse ((ci.out.toNat, t) :: (ci.alt.toNat, t) :: stk1)) = stk1.reverse ++ [(ci.alt.toNat, t)] ++ [(ci.out.toNat, t)] from by simp]
    refine ⟨(by rw [SI halt.1 hout.1]; exact hKa), (hKr3.snoc (d := (ci.alt.toNat, t)) rfl ⟨(.pointer q), rfl, hNv3⟩).snoc (d := (ci.out.toNat, t)) rfl ⟨(.pointer q), rfl, hNv3⟩, u7, u8, hTr3, u6, u9, fun d hd => by rcases List.mem_cons.1 hd with rfl | hd; { simp only; omega }; { rcases List.mem_cons.1 hd with rfl | hd; { simp only; omega }; { exact hsn d (List.mem_cons_of_mem _ hd) } }, by first | omega | (simp only [List.length_cons] at *; omega), by omega, (sP hsv), fun Lx V' h => hE Lx V' (.split hsn2 hmv2 (by rw [← kX]; exact h)), hmt, hst, hbt, u0, u1, u3, u2, u4, hto, hto2⟩
   refine csr (wel ?_); refine wan (aX rfl (fun e5 => ?_) (fun e5 => ?_))
   ·have hout : 0 ≤ ci.out ∧ ci.out < p.insts.length := n4 (by omega); have harg := n7 e5; refine aG (aD (wfl rfl fW rfl aQ b5 rfl (wfl rfl kN rfl aQ b5 rfl (aD (wfl rfl jG rfl jR D rfl (aC (cC (vs := [(0, _), (1, _), (2, _)]) AN rfl (cells := [_, _, _]) rfl) ?_)))))); refine gK rfl rfl fun nb G3 v0 b7 a4 => ?_; have E4 := b7; have v4 := Apart.new (Lt.blk b4) b7; have v5 := Apart.new (Lt.own c5) b7; have v6 := Apart.new (Lt.own c6) b7; have j8 := Apart.new (Lt.own c7) b7; have v7 := Apart.new (Lt.blk D) b7; have v8 := d1.then a4; have v9 := d2.then a4; have w2 := a4.blk0 b4; have w3 := c5.evo0 a4; have w4 := c6.evo0 a4; have w5 := c7.evo0 a4; have w6 := a4.blk0 D; refine aC (cC (vs := [(0, _), (1, _)]) jI rfl (cells := [_, _]) rfl) ?_; refine bL (vs := [_]) rfl jE rfl rfl rfl rfl fun G4 G5 w7 E8 I => ?_; have j9 := v8.then I; have k0 := v9.then I; have k1 := I.blk0 w2; have k2 := w3.evo0 I; have k3 := w4.evo0 I; have w8 := w5.evo0 I; have k4 := I.blk0 w6; have k5 := I.blk0 v0
    refine dB rfl rfl rfl rfl jC w8 (Src.ofOwn w7 ⟨by first | rfl | assumption, by first | rfl | assumption, trivial⟩) (by omega) fun ka1 kc1 G6 obk hKa a5 hob342 => ?_; have w9 := hmk.app (Lt.blk k1) hob342; have x0 := hsk.app (Lt.own k2) hob342; have x1 := htk.app (Lt.own k3) hob342; have x2 := hbk.app (Lt.blk k4) hob342; have x3 := j8.symm.app (Lt.blk k5) hob342; have x4 := hgk.app j9 hob342; have x5 := j9.step a5 hgk.mem; have d8 := k0.step a5 (fun y hy => .inl (AA y hy)); have x6 := a5.blk k1 hmk.nmem; have x7 := k2.evo a5 hsk.own; have x8 := k3.evo a5 htk.own; have x9 := a5.blk k4 hbk.nmem; have y1 := a5.blk k5 j8.symm.nmem; have hobk := hob342; have hpreK := k0; refine bX (aP (aO (aO (bB ?_)))); refine ⟨⟨(ci.out.toNat, (ci.arg.toNat, a) :: t) :: stk1, kr1 ++ [[iv (ci.out.toNat : Nat), .pointer (some ⟨nb, 0, none⟩)]], ka1, kc1, obk, (tU sv i (a + 1)), ls, tr, ta, tn, tc, tob, iv i, (.pointer q)⟩, ?_, ⟨rfl, trivial⟩, ⟨rfl, rfl, rfl, trivial⟩, x5, ?_⟩
    · (try dsimp only); first | omega | (simp only [List.length_cons]; omega) | (simp only [List.length_cons] at *; omega)
    try dsimp only
    have hmv2 : dV p s a i = .save ci.arg.toNat ci.out.toNat := by rw [hmv]; unfold mvI; rw [if_neg (by omega), if_neg (by omega), if_neg d0, if_pos e5]
    have hxx := tQ d8 (t' := tob) (k' := obk) (fun y hy => .inl (CQ y hy)) (GR hobk hpreK AA); have hKr3 := dI hKr1 d8 hxx; have hTr3 := dI hTr d8 hxx; have hNv3 := hNv.step d8 hxx; rw [List.reverse_cons]
    refine ⟨(by rw [GP hout.1]; exact hKa), hKr3.snoc rfl ⟨_, rfl, .cons (xm_nmem v4 v5 v7 v6 x3.symm) (by rw [Int.toNat_of_nonneg (show 0 ≤ ci.arg by omega)]; exact y1) hNv3⟩, x7, x8, hTr3, x6, x9, fun d hd => by rcases List.mem_cons.1 hd with rfl | hd; { simp only; omega }; { exact hsn d (List.mem_cons_of_mem _ hd) }, by first | omega | (simp only [List.length_cons] at *; omega), by omega, (sP hsv), fun Lx V' h => hE Lx V' (.save hsn2 hmv2 (by rw [← kX]; exact h)), hmt, hst, hbt, w9, x0, x2, x1, x4, hto, hto2⟩
   refine csr (aD (aC (bV rfl oS jW b5 rfl) (aD ?_))); refine aK (vs := [_, _, _]) IZ rfl (VT _ _ _ _ s a b4 ha (by omega)) rfl ?_; rintro _ G7 ⟨rfl, J⟩; have k6 := d1.then J; have c8 := d2.then J; have k7 := J.blk0 b4; have k8 := c5.evo0 J; have k9 := c6.evo0 J; have l0 := c7.evo0 J; have f6 := J.blk0 D; have y2 := J.blk0 b5; refine wnn (aX rfl (fun e6 => ?_) (fun e6 => ?_))
   ·have hop2 : ¬ ci.op = 11 := fun e => by rw [e] at e6; simp [iA] at e6
    have hout : 0 ≤ ci.out ∧ ci.out < p.insts.length := n4 (by omega); refine aG (aD (wfl rfl fW rfl aQ y2 rfl (wfl rfl jG rfl jR f6 rfl (aC (cC (vs := [(0, _), (1, _)]) jI rfl (cells := [_, _]) rfl) ?_)))); refine bL (vs := [_]) rfl jE rfl rfl rfl rfl fun G8 G9 y3 E9 a6 => ?_; have l1 := k6.then a6; have l2 := c8.then a6; have l3 := a6.blk0 k7; have l4 := k8.evo0 a6; have l5 := k9.evo0 a6; have y4 := l0.evo0 a6; have l6 := a6.blk0 f6; refine dB rfl rfl rfl rfl jC y4 (Src.ofOwn y3 ⟨by first | rfl | assumption, by first | rfl | assumption, trivial⟩) (by omega) fun ka1 kc1 H0 obk hKa b8 hob397 => ?_; have y5 := hmk.app (Lt.blk l3) hob397; have y6 := hsk.app (Lt.own l4) hob397; have y7 := htk.app (Lt.own l5) hob397; have y8 := hbk.app (Lt.blk l6) hob397; have y9 := hgk.app l1 hob397; have z0 := l1.step b8 hgk.mem; have d9 := l2.step b8 (fun y hy => .inl (AA y hy)); have z1 := b8.blk l3 hmk.nmem; have z2 := l4.evo b8 hsk.own; have z3 := l5.evo b8 htk.own; have z4 := b8.blk l6 hbk.nmem; have hobk := hob397; have hpreK := l2; refine bX (aP (aO (aO (bB ?_)))); refine ⟨⟨(ci.out.toNat, t) :: stk1, kr1 ++ [[iv (ci.out.toNat : Nat), (.pointer q)]], ka1, kc1, obk, (tU sv i (a + 1)), ls, tr, ta, tn, tc, tob, iv i, (.pointer q)⟩, ?_, ⟨rfl, trivial⟩, ⟨rfl, rfl, rfl, trivial⟩, z0, ?_⟩
    · (try dsimp only); first | omega | (simp only [List.length_cons]; omega) | (simp only [List.length_cons] at *; omega)
    try dsimp only
    have hmv2 : dV p s a i = .go ci.out.toNat := by rw [hmv]; unfold mvI; rw [if_neg (by omega), if_neg (by omega), if_neg d0, if_neg e5, if_pos e6]
    have hxx := tQ d9 (t' := tob) (k' := obk) (fun y hy => .inl (CQ y hy)) (GR hobk hpreK AA); have hKr3 := dI hKr1 d9 hxx; have hTr3 := dI hTr d9 hxx; have hNv3 := hNv.step d9 hxx; rw [List.reverse_cons]
    refine ⟨(by rw [GP hout.1]; exact hKa), hKr3.snoc rfl ⟨(.pointer q), rfl, hNv3⟩, z2, z3, hTr3, z1, z4, fun d hd => by rcases List.mem_cons.1 hd with rfl | hd; { simp only; omega }; { exact hsn d (List.mem_cons_of_mem _ hd) }, by first | omega | (simp only [List.length_cons] at *; omega), by omega, (sP hsv), fun Lx V' h => hE Lx V' (.go hsn2 hmv2 (by rw [← kX]; exact h)), hmt, hst, hbt, y5, y6, y8, y7, y9, hto, hto2⟩
   refine aL (aO (aO (bB ?_))); refine ⟨⟨stk1, kr1, some ⟨gk, 0, none⟩, kc, some gk, (tU sv i (a + 1)), ls, tr, ta, tn, tc, tob, iv i, (.pointer q)⟩, ?_, ⟨rfl, trivial⟩, ⟨rfl, rfl, rfl, trivial⟩, k6, ?_⟩
   · (try dsimp only); first | omega | (simp only [List.length_cons]; omega) | (simp only [List.length_cons] at *; omega)
   try dsimp only
   have hmv2 : dV p s a i = .dead := by rw [hmv]; unfold mvI; rw [if_neg (by omega), if_neg (by omega), if_neg d0, if_neg e5, if_neg e6]
   have hxx := tQ c8 (t' := tob) (k' := some gk) (fun y hy => .inl (CQ y hy)) (fun y hy => .inl (AA y hy)); have hKr3 := dI hKr1 c8 hxx; have hTr3 := dI hTr c8 hxx; have hNv3 := hNv.step c8 hxx
   refine ⟨l0, hKr3, k8, k9, hTr3, k7, f6, fun d hd => hsn d (List.mem_cons_of_mem _ hd), by first | omega | (simp only [List.length_cons] at *; omega), by omega, (sP hsv), fun Lx V' h => hE Lx V' (.dead hsn2 hmv2 (by rw [← kX]; exact h)), hmt, hst, hbt, hmk, hsk, hbk, htk, hgk, hto, hto2⟩
  refine cM (bK (bK (cL (eC rfl ?_)))); have hz : stk = [] := List.eq_nil_of_length_eq_zero (by omega); subst hz; have z9 := hE [] (kA a sv) .nil; rw [List.append_nil] at z9; exact ⟨sv, ta, tn, tc, tr, tob, ls, rfl, z9, hM, hSe, hTh, dI hTr (Evo.refl _ _) (fun y hy => .inl (xm_s y hy)), hsv, htn, hmt, hst, hto2, m2⟩
abbrev WZ : Wt := fun _ _ => false
def PkL (p : Prg) (s : ByteArray) (a : Nat) (L : List Th) (r : Option eN) (W' : Wt) : Prop :=
  (a = s.size ∧ r = first (dV p s) a L) ∨ (a ≠ s.size ∧ gY s a = none ∧ r = none) ∨ (a ≠ s.size ∧ ∃ b, gY s a = some b ∧ Pk (dV p s) (gY s) s.size b (iM (dV p s) a L) WZ r W')
theorem BC {p : Prg} {s : ByteArray} {a : Nat} {E L : List Th} {V' : Vis} {r : Option eN} {W' : Wt} (h : Ept (dV p s) a E (fun _ => false) L V') (k : PkL p s a L r W') : ∃ W2, Pk (dV p s) (gY s) s.size a E WZ r W2 := by
  rcases k with ⟨h1, rfl⟩ | ⟨h1, h2, rfl⟩ | ⟨h1, b, h2, h3⟩
  · exact ⟨_, .last h1 h⟩
  · exact ⟨_, .stop h1 h2 h⟩
  · exact ⟨_, .next h1 h2 h h3⟩
theorem pk_nil (p : Prg) (s : ByteArray) : ∀ (n a : Nat) (W : Wt), s.size + 1 - a = n → ∃ W', Pk (dV p s) (gY s) s.size a [] W none W' := by
  intro n
  induction n using Nat.strongRecOn with
  | _ n ih =>
    intro a W hn
    by_cases h : a = s.size
    · exact ⟨_, .last h .nil⟩
    · cases hx : gY s a with
      | none => exact ⟨_, .stop h hx .nil⟩
      | some b =>
        have h1 := KX s a b hx
        have h2 := VA s a b hx
        obtain ⟨W', hp⟩ := ih (s.size + 1 - b) (by omega) b W rfl
        exact ⟨_, .next h hx .nil hp⟩
theorem pkL_nil (p : Prg) (s : ByteArray) (a : Nat) : ∃ W', PkL p s a [] none W' := by
  by_cases h : a = s.size
  · exact ⟨WZ, .inl ⟨h, rfl⟩⟩
  · cases hx : gY s a with
    | none => exact ⟨WZ, .inr (.inl ⟨h, hx, rfl⟩)⟩
    | some b => obtain ⟨W', hp⟩ := pk_nil p s _ b WZ rfl; exact ⟨W', .inr (.inr ⟨h, b, hx, hp⟩)⟩
theorem HW {p : Prg} {s : ByteArray} {a : Nat} {E L : List Th} {V V' : Vis} (h : Ept (dV p s) a E V L V') : ∀ d, d ∈ L → (dV p s a d.1).leaf = true := by
  induction h with
  | nil => intro d hd; cases hd
  | seen _ _ ih => exact ih
  | leaf _ hl _ ih => intro d hd; rcases List.mem_cons.1 hd with rfl | hd; { exact hl }; { exact ih d hd }
  | go _ _ _ ih => exact ih
  | split _ _ _ ih => exact ih
  | save _ _ _ ih => exact ih
  | dead _ _ _ ih => exact ih
theorem leaf_lt {p : Prg} {s : ByteArray} {a i : Nat} (h : (dV p s a i).leaf = true) : i < p.insts.length := by
  unfold dV at h
  by_cases hi : i < p.insts.length
  · exact hi
  · rw [List.getElem?_eq_none (by omega)] at h; cases h
theorem DW {p : Prg} {s : ByteArray} {a i : Nat} (hi : i < p.insts.length) : (dV p s a i).isMat = decide (p.insts[i].op = 1) := by
  rw [DT hi]
  unfold mvI
  by_cases h1 : p.insts[i].op = 1
  · rw [if_pos h1]; simp [h1, Mov.isMat]
  · rw [if_neg h1]
    repeat' split
    all_goals simp [h1, Mov.isMat]
theorem NG {p : Prg} {s : ByteArray} {a i : Nat} (hi : i < p.insts.length) : (dV p s a i).outs = if p.insts[i].op = 2 ∧ mT (bJ s a).1 p.insts[i].rs then some p.insts[i].out.toNat else none := by
  rw [DT hi]
  unfold mvI
  by_cases h1 : p.insts[i].op = 1
  · rw [if_pos h1, if_neg (fun h => by omega)]; rfl
  · rw [if_neg h1]
    by_cases h2 : p.insts[i].op = 2
    · rw [if_pos h2]
      by_cases h3 : mT (bJ s a).1 p.insts[i].rs
      · rw [if_pos h3, if_pos ⟨h2, h3⟩]; rfl
      · rw [if_neg h3, if_neg (fun h => h3 h.2)]; rfl
    · have hn : ¬ (p.insts[i].op = 2 ∧ mT (bJ s a).1 p.insts[i].rs) := fun h => h2 h.1
      rw [if_neg h2, if_neg hn]
      repeat' split
      all_goals rfl
theorem HM {p : Prg} {s : ByteArray} {a k : Nat} {L : List Th} (hk : k < L.length) (hL : ∀ d, d ∈ L → d.1 < p.insts.length) (h1 : ∀ j (hj : j < L.length), j < k → ∀ hi : L[j].1 < p.insts.length, ¬ p.insts[L[j].1].op = 1) (h2 : ∀ hi : L[k].1 < p.insts.length, p.insts[L[k].1].op = 1) : first (dV p s) a L = some L[k].2 := by
  rw [zD]
  have : L.find? (fun x => (dV p s a x.1).isMat) = some L[k] := by
    rw [List.find?_eq_some_iff_getElem]
    refine ⟨by rw [DW (hL _ (List.getElem_mem _))]; simpa using h2 (hL _ (List.getElem_mem _)), k, hk, rfl, fun j hj => ?_⟩
    rw [DW (hL _ (List.getElem_mem _))]
    simpa using h1 j (by omega) hj (hL _ (List.getElem_mem _))
  rw [this]; rfl
theorem QZ {p : Prg} {s : ByteArray} {a : Nat} {L : List Th} (hL : ∀ d, d ∈ L → d.1 < p.insts.length) (h1 : ∀ j (hj : j < L.length), ∀ hi : L[j].1 < p.insts.length, ¬ p.insts[L[j].1].op = 1) : first (dV p s) a L = none := by
  rw [zD]
  have : L.find? (fun x => (dV p s a x.1).isMat) = none := by
    rw [List.find?_eq_none]
    intro d hd
    obtain ⟨j, hj, rfl⟩ := List.getElem_of_mem hd
    rw [DW (hL _ hd)]
    simpa using h1 j hj (hL _ hd)
  rw [this]; rfl
theorem tS {p : Prg} {s : ByteArray} {a k : Nat} {L : List Th} (hk : k < L.length) : iM (dV p s) a (L.take (k + 1)) = iM (dV p s) a (L.take k) ++ iM (dV p s) a [L[k]] := by
  rw [List.take_succ_eq_append_getElem hk, BO]
theorem yQ {p : Prg} {s : ByteArray} {a : Nat} {d : Th} (hi : d.1 < p.insts.length) (h : ¬ (p.insts[d.1].op = 2 ∧ mT (bJ s a).1 p.insts[d.1].rs)) : iM (dV p s) a [d] = [] := by
  rw [BM, NG hi, if_neg h]; rfl
theorem LA {p : Prg} {s : ByteArray} {a : Nat} {d : Th} (hi : d.1 < p.insts.length) (h1 : p.insts[d.1].op = 2) (h2 : mT (bJ s a).1 p.insts[d.1].rs) : iM (dV p s) a [d] = [(p.insts[d.1].out.toNat, d.2)] := by
  rw [BM, NG hi, if_pos ⟨h1, h2⟩]; rfl
theorem TI {X : List Nat} {w : World} {e : TypeId} {a : Option Addr} {n c : Nat} {rows : List (List Value)} {ob : Option Nat} {ds : List Th} (h : OwnS w e 2 a n c rows.flatten ob) (hr : RowsOk 2 RTh X w rows ds) {k : Nat} (hk : k < ds.length) :
    ∃ g q, ob = some g ∧ a = some ⟨g, 0, none⟩ ∧ CellsAt w g (0 + k * 2) [iv ds[k].1, .pointer q] ∧ RNote X w (.pointer q) ds[k].2 := by
  have hl := hr.flen
  have h1 := h.1
  rw [wL hl, hr.1] at h1
  obtain ⟨g, hg, ha, hc⟩ := h.cells (by omega)
  obtain ⟨_, v, hv, hn⟩ := hr.2 k hk (by rw [hr.1]; exact hk)
  obtain ⟨q, rfl⟩ := hn.ptr
  refine ⟨g, q, hg, ha, fun j v hj => ?_, hn⟩
  have hj2 : j < 2 := (List.getElem?_eq_some_iff.1 hj).1
  have := hc (k * 2 + j) v (by rw [wM hl (by rw [hr.1]; exact hk) hj2, hv]; exact hj)
  rw [show 0 + k * 2 + j = 0 + (k * 2 + j) by omega]
  exact this
theorem TG {X : List Nat} {w : World} {e : TypeId} {a : Option Addr} {n c : Nat} {rows : List (List Value)} {ob : Option Nat} {ds : List Th} (h : OwnS w e 2 a n c rows.flatten ob) (hr : RowsOk 2 RTh X w rows ds) : ds.length = n := by
  have h1 := h.1
  rw [wL hr.flen, hr.1] at h1
  omega
theorem PQ {a b : Nat} {sv : Nat → Nat} (h : ∀ j, sv j ≤ a + 1) (hab : a < b) : kA b sv = fun _ => false := by
  funext j
  have := h j
  simp only [kA, decide_eq_false_iff_not]
  omega
structure SG where
  a : Nat
  sv : Nat → Nat
  ls : List Th
  tr : List (List Value)
  ta : Option Addr
  tn : Nat
  tc : Nat
  tob : Option Nat
structure SH where
  k : Nat
  sw : Nat → Nat
  ms : List Th
  ur : List (List Value)
  ua : Option Addr
  un : Nat
  uc : Nat
  uob : Option Nat
theorem nmk {b bm sb : Nat} {t : Option Nat} (h1 : Apart (some b) (some bm)) (h2 : Apart (some b) (some sb)) (h3 : Apart (some b) t) : b ∉ bm :: sb :: t.toList := fun h => by
  rcases List.mem_cons.1 h with rfl | h
  · exact h1 _ rfl rfl
  · rcases List.mem_cons.1 h with rfl | h
    · exact h2 _ rfl rfl
    · exact h3.nmem h
theorem nmo {o : Option Nat} {bm sb : Nat} {t : Option Nat} (h1 : Apart o (some bm)) (h2 : Apart o (some sb)) (h3 : Apart o t) : ∀ g, o = some g → g ∉ bm :: sb :: t.toList := fun g e => by subst e; exact nmk h1 h2 h3
theorem ge3 {X : List Nat} {w : World} {bm sb : Nat} {t : Option Nat} (h1 : Ge w (some bm)) (h2 : Ge w (some sb)) (h3 : Ge w t) : ∀ y, y ∈ bm :: sb :: t.toList → y ∈ X ∨ w.heap.size ≤ y := fun y hy => by
  right
  rcases List.mem_cons.1 hy with rfl | hy
  · exact h1 _ rfl
  · rcases List.mem_cons.1 hy with rfl | hy
    · exact h2 _ rfl
    · exact h3 _ (by simpa using hy)
theorem in3 {X : List Nat} {w w1 : World} {bm sb : Nat} {t t' : Option Nat} (he : Evo X w w1) (hm : bm ∈ X) (hs : sb ∈ X) (ht : ∀ y, y ∈ t.toList → y ∈ X) (h : t' = t ∨ Ge w1 t') : ∀ y, y ∈ bm :: sb :: t'.toList → y ∈ X ∨ w.heap.size ≤ y := fun y hy => by
  rcases List.mem_cons.1 hy with rfl | hy
  · exact .inl hm
  · rcases List.mem_cons.1 hy with rfl | hy
    · exact .inl hs
    · rcases h with rfl | h
      · exact .inl (ht y hy)
      · right; have := h y (by simpa using hy); have := he.size; omega
theorem AO : Build Tryz.prog 128 #[(0, 4), (4, 1), (5, 1), (6, 1)] #[.slice none 0 0, .int .i64 0, .int .i64 0, .slice none 0 0, .string ByteArray.empty, .slice none 0 0, .slice none 0 0] := ⟨_, .agg #[.slice none 0 0, .int .i64 0, .int .i64 0, .slice none 0 0, .string ByteArray.empty, .slice none 0 0, .slice none 0 0], Tryz.underlying128, by kernel_rfl, rfl, fun w => by kernel_rfl⟩
theorem AK : cZ Tryz.prog 123 4 = some 4 := by kernel_rfl
theorem FS : cZ Tryz.prog 76 1 = some 1 := by kernel_rfl
theorem wW : dU Tryz.prog 57 := ⟨_, Tryz.func57, by kernel_rfl, by kernel_rfl⟩
theorem wR : VO Tryz.prog 37 = some (3, 1, 8, #[.int .i64 0]) := by kernel_rfl
theorem uR : mH Tryz.prog 131 = some #[.int .i64 0, .pointer none] := by kernel_rfl
theorem in_none {bm sb : Nat} {t : Option Nat} : ∀ y, y ∈ bm :: sb :: (none : Option Nat).toList → y ∈ bm :: sb :: t.toList := fun y hy => by
  simp at hy; rcases hy with h | h <;> simp [h]
set_option maxHeartbeats 4000000 in
theorem AZ {X : List Nat} {w : World} {vs : List Value} {p : Prg} (hp : RPrg X w vs p) (hsp : kW p) (s : ByteArray) (hs : s.size ≤ 2097152) :
    Calls Tryz.prog 32 #[.agg vs.toArray, .string s] w (Ret fun v w' => ∃ nv b r W', v = .tuple #[nv, .bool b] ∧ Pk (dV p s) (gY s) s.size 0 [(p.start.toNat, [])] WZ r W' ∧ ((r = none ∧ b = false) ∨ (∃ t, r = some t ∧ b = true ∧ RNote [] w' nv t)) ∧ Evo [] w w') := by
  obtain ⟨hok, pi0, pn0, rfl, hiv, hnv⟩ := hp; have hst0 := hok.start; have hgr := hok.groups; have hil := hok.ilen; have hnl := hok.nlen; have hiv0 := hiv; obtain ⟨a3, c3, rfl, hl3, e3⟩ := hiv; obtain ⟨a4, c4, rfl, hl4, e4⟩ := hnv; obtain ⟨hh1, hh2, hh3, hh4, hh5, hh6, hh7⟩ := hsp.1; refine bD (N := 121) Tryz.func32 rfl rfl rfl ?_; refine csr (gK rfl rfl fun bP w1 j5 i1 j6 => ?_); have j7 := i1; refine bX (wan (aI ?_)); refine fZ (fun w0 w' => Evo [] w0 w') (by kernel_rfl) (fun w7 i2 => ?_); have g4 := ((Evo.refl [] w).then j6).then i2; have a7 := i2.blk0 j5; refine aet 0 rfl (fun _ hS => bV rfl jS fO (hS.blk0 a7) rfl) (Evo.refl [] w7) ?_; refine aet 1 rfl (fun _ hS => aY rfl) (Evo.refl [] w7) ?_; refine aet 2 rfl (fun _ hS => aA rfl nF) (Evo.refl [] w7) ?_; refine aet 3 rfl (fun _ hS => aU rfl rA (bA (hS.blk0 a7) rfl)) (Evo.refl [] w7) ?_; refine aet 4 rfl (fun _ hS => bH rfl Tryz.underlying74 rfl) (Evo.refl [] w7) ?_; refine bR [5] (by kernel_rfl) rfl ⟨?_, trivial⟩; refine bY rfl ?_; refine MK (len := p.insts.length) (c := p.insts.length) rfl rfl rfl wR (by rfl) (by rfl) (by omega) (by decide) (by omega) (by omega) fun sb l2 hSe0 g5 a8 => ?_; have b5 := (Evo.refl [] w7).then a8; rw [SK] at hSe0; refine aP (bN (.inl b5) ?_)
  refine aet 6 rfl (fun _ hS => cC (vs := [(0, .agg #[.slice a3 p.insts.length c3, iv p.start, iv p.groups, .slice a4 p.names.length c4]), (1, .string s), (2, .slice (some ⟨sb, 0, none⟩) p.insts.length p.insts.length)]) AO rfl (cells := [.slice a3 p.insts.length c3, iv p.start, iv p.groups, .slice a4 p.names.length c4, .string s, .slice (some ⟨sb, 0, none⟩) p.insts.length p.insts.length, .slice none 0 0]) rfl) b5 ?_; refine bR [7] (by kernel_rfl) rfl ⟨?_, trivial⟩; refine bY rfl ?_; refine gK rfl rfl fun bm l3 i4 b6 a9 => ?_; have j8 := b6; have d4 := (g4.then a8).then a9; have d5 := a9.blk0 (a8.blk0 a7); refine aP (bN (.inl (b5.then a9)) ?_); refine aet 8 rfl (fun _ hS => eK rfl) (b5.then a9) ?_; refine dJ (by kernel_rfl) (aB ?_); refine aI ?_; have hpm : Apart (some bP) (some bm) := (Apart.new (Lt.blk (a8.blk0 a7)) b6); have hps : Apart (some bP) (some sb) := (Apart.new (Lt.blk a7) g5); have hms : Apart (some bm) (some sb) := (Apart.new (Lt.own hSe0) b6).symm; have hgp : Ge w (some bP) := (Ge.new (Evo.refl [] w) i1); have hgm : Ge w (some bm) := (Ge.new (g4.then a8) b6); have hgs : Ge w (some sb) := (Ge.new g4 g5); have i3 : ∀ (t : Option Nat), Ge w t → ∀ {w' : World}, Evo [] w w' → RSl 5 RInst (bm :: sb :: t.toList) w' (.slice a3 p.insts.length c3) p.insts := fun t ht w' he => (hiv0.fresh (by decide) RInst.fresh (ge3 hgm hgs ht)).evo RInst.pers (he.any _); refine aG (aD (wfl rfl FS rfl aQ d5 rfl ?_))
  rw [show (Value.int .i64 p.start) = iv ((p.start.toNat : Nat) : Int) from by rw [Int.toNat_of_nonneg hh3]]; refine aC (cC (vs := [(0, _)]) jI rfl (cells := [_, _]) rfl) ?_
  refine aK (vs := [_, _, _]) wW rfl (BW (tob0 := none) (tr0 := []) (L0 := []) (a := 0) (i0 := p.start.toNat) (sv0 := fun _ => 0) (nv0 := .pointer none) (i3 none (Ge.nil _) d4) hsp i4 (hSe0.evo0 a9) (OwnS.nil _ _ _) (RowsOk.nil _ _ _ _) .nil (by omega) (Nat.zero_le _) hs (fun _ => Nat.zero_le _) (by have := SE p.insts.length 0 (fun _ => 0); omega) hms (Apart.nil _) (Apart.nil _)) rfl ?_
  rintro _ l4 ⟨sv1, ta1, tn1, tc1, tr1, tob1, L1, rfl, heps, j9, hSe1, hTh1, hTr1, hsv1, htn1, hmt1, hst1, hto1, g6⟩
  have hgt1 : Ge w tob1 := by rcases hto1 with h | h; { subst h; exact Ge.nil _ }; { exact Ge.fresh d4 h }
  have heps0 : Ept (dV p s) 0 [(p.start.toNat, [])] (fun _ => false) L1 (kA 0 sv1) := by have h := heps; rw [show kA 0 (fun _ => 0) = fun _ => false from by funext j; simp [kA]] at h; exact h
  have hpt1 : Apart (some bP) tob1 := by rcases hto1 with h | h; { subst h; exact Apart.nil _ }; { exact Apart.fresh (Lt.blk d5) h }
  refine wnn (aI (csr (wan (bG ?_)))); refine dC (α := SG) (⟨0, sv1, L1, tr1, ta1, tn1, tc1, tob1⟩) (fun x => [(7, .int .i64 (x.a : Nat))]) [(1, _), (2, _), (6, _)] (fun x wr => Evo [] w wr ∧ (x.a ≤ s.size ∧ wr.heap[bP]? = some (.cells #[.slice a3 p.insts.length c3, iv p.start, iv p.groups, .slice a4 p.names.length c4] 76 (0, 0)) ∧ wr.heap[bm]? = some (.cells #[.slice a3 p.insts.length c3, iv p.start, iv p.groups, .slice a4 p.names.length c4, .string s, .slice (some ⟨sb, 0, none⟩) p.insts.length p.insts.length, .slice x.ta x.tn x.tc] 128 (0, 0)) ∧ OwnS wr 3 1 (some ⟨sb, 0, none⟩) p.insts.length p.insts.length (svc p.insts.length x.sv) (some sb) ∧ OwnS wr 131 2 x.ta x.tn x.tc x.tr.flatten x.tob ∧ RowsOk 2 RTh (bm :: sb :: x.tob.toList) wr x.tr x.ls ∧ (∀ j, x.sv j ≤ x.a + 1) ∧ (∀ d, d ∈ x.ls → (dV p s x.a d.1).leaf = true) ∧ x.tn ≤ p.insts.length ∧ (∀ r W', PkL p s x.a x.ls r W' → ∃ W2, Pk (dV p s) (gY s) s.size 0 [(p.start.toNat, [])] WZ r W2) ∧ Apart (some bP) x.tob ∧ Apart (some bm) x.tob ∧ Apart (some sb) x.tob ∧ Ge w x.tob)) (fun x => s.size + 1 - x.a) ⟨rfl, trivial⟩ ⟨rfl, rfl, rfl, trivial⟩ ⟨(d4.step g6 (ge3 hgm hgs (Ge.nil _))), ⟨Nat.zero_le _, (g6.blk d5 (nmk hpm hps (Apart.nil _))), j9, hSe1, hTh1, hTr1, hsv1, fun d hd => HW heps d hd, (show tn1 ≤ p.insts.length by omega), fun r W' h => BC heps0 h, hpt1, hmt1, hst1, hgt1⟩⟩ ?_; rintro ⟨a, sv, ls, tr, ta, tn, tc, tob⟩ wr38 ⟨b7, ⟨ha, hP, hM, hSe, hTh, hTr, hsv, hlf, htn, hPk, hpt, hmt, hst, hgt⟩⟩; show CW _ _ _ _ [(7, .int .i64 (a : Nat)), (1, _), (2, _), (6, _)] _
  try dsimp only at ha hP hM hSe hTh hTr hsv hlf htn hPk hpt hmt hst hgt
  have g7 := Evo.refl ((bm :: sb :: tob.toList)) wr38; have hll := TG hTh hTr; have hlt : ∀ d, d ∈ ls → d.1 < p.insts.length := fun d hd => leaf_lt (hlf d hd); have hnw := next_w s a; refine aI (csr (aD (aC (aF rfl) (wfl rfl iJ rfl mO hM rfl (aC (bH rfl Tryz.underlying126 rfl) ?_))))); refine aC (gL rfl rfl) ?_; refine wnn (aX rfl (fun i5 => ?_) (fun i5 => ?_))
  ·refine aL (aB (bG (XC (aI (csr (aD (aD (aC (cA rfl Tryz.underlying9 rfl) ?_)))))))); refine wel ?_; refine wnn (aX rfl (fun i6 => ?_) (fun i6 => ?_))
   ·refine aI (csr (aD (aC (aF rfl) (wfl rfl iJ rfl mO hM rfl (aC (bH rfl Tryz.underlying126 rfl) ?_))))); refine aD (wnn (bG ?_)); refine dC (α := Nat) (0) (fun k => [(46, .int .i64 (k : Nat))]) [(1, _), (2, _), (6, _), (7, _), (44, _), (45, _)] (fun k wr => Evo [] wr38 wr ∧ (k ≤ tn ∧ ∀ j (hj : j < ls.length), j < k → ∀ hi : ls[j].1 < p.insts.length, ¬ p.insts[ls[j].1].op = 1)) (fun k => tn - k) ⟨rfl, trivial⟩ ⟨rfl, rfl, rfl, rfl, rfl, rfl, trivial⟩ ⟨Evo.refl _ _, ⟨Nat.zero_le _, fun j _ h => by omega⟩⟩ ?_; rintro k wr41 ⟨V, ⟨hk, hno⟩⟩; show CW _ _ _ _ [(46, _), (1, _), (2, _), (6, _), (7, _), (44, _), (45, _)] _; have d6 := b7.then V; have i7 := hTh.evo0 V; refine csr (aC (cX rfl rfl) ?_); refine wnn (aI (aX rfl (fun i8 => ?_) (fun i8 => ?_)))
    ·refine aL (aB (aI (bG (csr ?_))))
     have hk' : k < ls.length := by omega
     have hi := hlt ls[k] (List.getElem_mem _); have hTrk := dI hTr (g7.then V) (fun y hy => .inl hy); obtain ⟨gt, q, egt, eta, hck, hnk0⟩ := TI i7 hTrk hk'; have hnk := hnk0; obtain ⟨bI, oI, vs1, ha1, hx1, -, g8, hr1⟩ := e3 ls[k].1 hi
     refine aC (cF (n := k) (by rw [eta]; rfl) rfl qY (by omega)) ?_
     refine aC (dF rfl mN gM (vs := [iv ls[k].1, .pointer q]) rfl hck) ?_; refine cK rfl uR fun l5 l6 i9 b8 b9 => ?_; refine aW rfl rfl gM i9 rfl rfl ⟨by first | rfl | assumption, by first | rfl | assumption, trivial⟩ fun l7 d7 c0 => ?_; have g9 := (d6.then b9).step c0 (Ge.new d6 b8).mem1
     try simp only [cG, Nat.reduceAdd] at d7
     refine wnn (csr (aC (aA rfl nF) (aC (aU rfl rA (bA (c0.blk (b9.blk0 (V.blk0 hP)) (Apart.new (Lt.blk (V.blk0 hP)) b8).nmem1) rfl)) (wfl rfl kM rfl aQ d7 rfl ?_))))
     refine aC (cF (n := ls[k].1) (by rw [ha1]; rfl) rfl sD hi) ?_
     refine aC (aA rfl mF) ?_; obtain ⟨hi1, rv1, hvs1, hr2⟩ := hr1; subst hvs1; refine aC (aU rfl aQ ((g8.evo g9 (by simp)) 0 _ rfl)) ?_; refine wel ?_; refine wnn (aX rfl (fun d8 => ?_) (fun d8 => ?_))
     ·refine csr (wfl rfl jG rfl jR d7 rfl (bX (wan (aH (aM (aE (aE (aM (aE (aE (vJ (aM (aE (aM (aE (cJ rfl rfl rfl ?_)))))))))))))))); obtain ⟨W3, h3⟩ := hPk (some ls[k].2) WZ (.inl ⟨by omega, (HM hk' hlt (fun j hj hjk => hno j hj hjk) (fun _ => d8)).symm⟩); exact ⟨_, true, some ls[k].2, W3, rfl, h3, .inr ⟨_, rfl, rfl, hnk.step (((Evo.refl (bm :: sb :: tob.toList) wr41).then b9).step c0 (Ge.new (Evo.refl (bm :: sb :: tob.toList) wr41) b8).mem1) (fun y hy => by cases hy)⟩, g9⟩
     refine aL (aO (aB (aG ?_))); refine aC (aJ rfl rfl (by omega) (by omega)) ?_; refine aD (aP (bB ?_)); refine ⟨k + 1, ?_, ⟨rfl, trivial⟩, ⟨rfl, rfl, rfl, rfl, rfl, rfl, trivial⟩, ((V.then b9).step c0 (Ge.new V b8).mem1), ?_⟩
     · omega
     refine ⟨by omega, fun j hj hjk => ?_⟩
     by_cases e : j < k
     · exact hno j hj e
     · obtain rfl : j = k := by omega
       exact fun _ => d8
    refine cM (bK (bK (cL (aB ?_)))); refine csr (bX (wan (aH (aE (vJ (aM (aE (aM (aE (cJ rfl rfl rfl ?_)))))))))); obtain ⟨W3, h3⟩ := hPk none WZ (.inl ⟨by omega, (QZ hlt (fun j hj => hno j hj (by omega))).symm⟩); exact ⟨_, false, none, W3, rfl, h3, .inl ⟨rfl, rfl⟩, d6⟩
   refine aL (aB (csr (aD (aD ?_)))); refine aK (vs := [_, _]) wV rfl (NP s a ha (by omega)) rfl ?_; rintro _ l8 ⟨rfl, U⟩; refine aD (aC (cD rfl rfl) ?_); refine aC (cD rfl rfl) ?_; refine bX (wan (aI (csr (aD (wel ?_))))); refine wnn (aX rfl (fun j0 => ?_) (fun j0 => ?_))
   ·refine csr (bX (wan (aH (aE (vJ (aM (aE (aM (aE (cJ rfl rfl rfl ?_)))))))))); obtain ⟨W3, h3⟩ := hPk none WZ (.inr (.inl ⟨by omega, UZ (by omega), rfl⟩)); exact ⟨_, false, none, W3, rfl, h3, .inl ⟨rfl, rfl⟩, (b7.then U)⟩
   refine aL (aB (csr (aD (aD ?_)))); refine aC (aJ rfl rfl (by omega) (by omega)) ?_; rw [show ((a : Nat) : Int) + (((bJ s a).2 : Nat) : Int) = ((a + (bJ s a).2 : Nat) : Int) from by omega]; refine wan (csr (aD (aC (aF rfl) (wfl rfl iJ rfl mO (U.blk0 hM) rfl (wan (csr (aD (aC (aF rfl) (aC (aA rfl iJ) ?_))))))))); refine bC rfl rfl (by first | rfl | assumption) qP (U.blk0 hM) rfl fun l9 h0 b4 => ?_
   have j1 := (g7.then U).step b4 (fun y hy => .inl (by simp at hy; simp [hy]))
   try simp only [cG, Nat.reduceAdd] at h0
   refine wnn (aI (XD (aB ?_))); refine csr (aD (aC (bH rfl Tryz.underlying126 rfl) ?_)); refine aD (wnn (bG ?_))
   refine dC (α := SH) (⟨0, sv, [], [], none, 0, 0, none⟩) (fun x => [(81, .int .i64 (x.k : Nat))]) [(1, _), (2, _), (6, _), (7, _), (10, _), (79, _), (80, _)] (fun x wr => Evo [] w wr ∧ (x.k ≤ tn ∧ wr.heap[bP]? = some (.cells #[.slice a3 p.insts.length c3, iv p.start, iv p.groups, .slice a4 p.names.length c4] 76 (0, 0)) ∧ wr.heap[bm]? = some (.cells #[.slice a3 p.insts.length c3, iv p.start, iv p.groups, .slice a4 p.names.length c4, .string s, .slice (some ⟨sb, 0, none⟩) p.insts.length p.insts.length, .slice x.ua x.un x.uc] 128 (0, 0)) ∧ OwnS wr 3 1 (some ⟨sb, 0, none⟩) p.insts.length p.insts.length (svc p.insts.length x.sw) (some sb) ∧ OwnS wr 131 2 x.ua x.un x.uc x.ur.flatten x.uob ∧ RowsOk 2 RTh (bm :: sb :: x.uob.toList) wr x.ur x.ms ∧ OwnS wr 131 2 ta tn tc tr.flatten tob ∧ RowsOk 2 RTh (bm :: sb :: x.uob.toList) wr tr ls ∧ (∀ j, x.sw j ≤ a + (bJ s a).2 + 1) ∧ x.un + us p.insts.length (a + (bJ s a).2) x.sw ≤ p.insts.length ∧ Ept (dV p s) (a + (bJ s a).2) (iM (dV p s) a (ls.take x.k)) (kA (a + (bJ s a).2) sv) x.ms (kA (a + (bJ s a).2) x.sw) ∧ Apart (some bP) x.uob ∧ Apart (some bm) x.uob ∧ Apart (some sb) x.uob ∧ Apart tob x.uob ∧ Ge w x.uob)) (fun x => tn - x.k) ⟨rfl, trivial⟩ ⟨rfl, rfl, rfl, rfl, rfl, rfl, rfl, trivial⟩ ⟨((b7.then U).step b4 hgm.mem1), ⟨Nat.zero_le _, (b4.blk (U.blk0 hP) hpm.nmem1), h0, ((hSe.evo0 U).evo b4 hms.symm.own1), OwnS.nil _ _ _, RowsOk.nil _ _ _ _, ((hTh.evo0 U).evo b4 hmt.symm.own1), dI hTr j1 (fun y hy => .inl (in_none y hy)), fun j => Nat.le_trans (hsv j) (by omega), (show 0 + us p.insts.length (a + (bJ s a).2) sv ≤ _ by have := SE p.insts.length (a + (bJ s a).2) sv; omega), .nil, Apart.nil _, Apart.nil _, Apart.nil _, Apart.nil _, Ge.nil _⟩⟩ ?_
   rintro ⟨k, sw, ms, ur, ua, un, uc, uob⟩ wr97 ⟨d9, ⟨hk, hP, hM, hSe, hU, hUr, hTh, hTr, hsw, hun, hep, hpu, hmu, hsu, htu, hgu⟩⟩; show CW _ _ _ _ [(81, .int .i64 (k : Nat)), (1, _), (2, _), (6, _), (7, _), (10, _), (79, _), (80, _)] _
   try dsimp only at hk hP hM hSe hU hUr hTh hTr hsw hun hep hpu hmu hsu htu hgu
   have e0 := Evo.refl ((bm :: sb :: uob.toList)) wr97; refine csr (aC (cX rfl rfl) ?_); refine wnn (aI (aX rfl (fun j2 => ?_) (fun j2 => ?_)))
   ·refine aL (aB (aI (bG (csr ?_))))
    have hk' : k < ls.length := by omega
    have hi := hlt ls[k] (List.getElem_mem _); have hTrk := dI hTr e0 (fun y hy => .inl hy); obtain ⟨gt, q, egt, eta, hck, hnk0⟩ := TI hTh hTrk hk'; have hnk := hnk0; obtain ⟨bI, oI, vs1, ha1, hx1, -, g8, hr1⟩ := e3 ls[k].1 hi
    refine aC (cF (n := k) (by rw [eta]; rfl) rfl qY (by omega)) ?_
    refine aC (dF rfl mN gM (vs := [iv ls[k].1, .pointer q]) rfl hck) ?_; refine cK rfl uR fun k3 k4 h4 L M => ?_; refine aW rfl rfl gM h4 rfl rfl ⟨by first | rfl | assumption, by first | rfl | assumption, trivial⟩ fun k5 a1 O => ?_; have c1 := (d9.then M).step O (Ge.new d9 L).mem1; have e1 := (e0.then M).step O (Ge.new e0 L).mem1; have e2 := ((Evo.refl (bm :: sb :: uob.toList) wr97).then M).step O (Ge.new (Evo.refl (bm :: sb :: uob.toList) wr97) L).mem1; have c2 := O.blk (M.blk0 hP) (Apart.new (Lt.blk hP) L).nmem1; have e5 := O.blk (M.blk0 hM) (Apart.new (Lt.blk hM) L).nmem1; have e6 := (hSe.evo0 M).evo O (Apart.new (Lt.own hSe) L).own1; have e7 := (hTh.evo0 M).evo O (Apart.new (Lt.own hTh) L).own1; have e8 := (hU.evo0 M).evo O (Apart.new (Lt.own hU) L).own1
    try simp only [cG, Nat.reduceAdd] at a1
    refine wnn (csr (wfl rfl nF rfl rA c2 rfl (wfl rfl kM rfl aQ a1 rfl ?_)))
    refine aC (cF (n := ls[k].1) (by rw [ha1]; rfl) rfl sD hi) ?_
    obtain ⟨hi1, rv1, hvs1, hr2⟩ := hr1; subst hvs1; have hcc := g8; have hsi := hsp.2 ls[k].1 hi hi; obtain ⟨n1, n2, n3, n4, n5, n6, n7, n8, n9, n10⟩ := hsi.1; obtain ⟨ci, hci⟩ : ∃ c, c = p.insts[ls[k].1] := ⟨_, rfl⟩; rw [← hci] at hi1 hr2 n1 n2 n3 n4 n5 n6 n7 n8 n9 n10 hcc; have hcl := hi1.len; obtain ⟨aR, cR, rfl, hlR, eR⟩ := hr2; refine aC (dF rfl oS jW (vs := [_, _, _, _, _]) rfl (hcc.evo c1 (by simp))) ?_; refine cK rfl uS fun k6 k7 h5 H I => ?_; refine aW rfl rfl jW h5 rfl rfl ⟨by first | rfl | assumption, by first | rfl | assumption, by first | rfl | assumption, by first | rfl | assumption, by first | rfl | assumption, trivial⟩ fun j3 a0 J => ?_; have e9 := (c1.then I).step J (Ge.new c1 H).mem1; have c5 := (e1.then I).step J (Ge.new e1 H).mem1; have f0 := J.blk (I.blk0 c2) (Apart.new (Lt.blk c2) H).nmem1; have f5 := J.blk (I.blk0 e5) (Apart.new (Lt.blk e5) H).nmem1; have f6 := (e6.evo0 I).evo J (Apart.new (Lt.own e6) H).own1; have f7 := (e7.evo0 I).evo J (Apart.new (Lt.own e7) H).own1; have f8 := (e8.evo0 I).evo J (Apart.new (Lt.own e8) H).own1
    try simp only [cG, Nat.reduceAdd] at a0
    refine wnn (aI (csr (wfl rfl mF rfl aQ a0 rfl (aC (gU rfl rfl) ?_)))); refine wnn (aX rfl (fun h1 => ?_) (fun h1 => ?_))
    ·refine cM (bK (cL (aB ?_))); refine aG ?_; refine aC (aJ rfl rfl (by omega) (by omega)) ?_; refine aD (aP (bB ?_)); refine ⟨⟨k + 1, sw, ms, ur, ua, un, uc, uob⟩, ?_, ⟨rfl, trivial⟩, ⟨rfl, rfl, rfl, rfl, rfl, rfl, rfl, trivial⟩, e9, ?_⟩
     · (try dsimp only); omega
     try dsimp only
     have hTr3 := dI hTr c5 (fun y hy => .inl hy); have hUr3 := dI hUr c5 (fun y hy => .inl hy)
     refine ⟨by omega, f0, f5, f6, f8, hUr3, f7, hTr3, hsw, hun, by rw [tS hk', yQ hi (fun h => h1 (by rw [hci]; exact h.1)), List.append_nil]; exact hep, hpu, hmu, hsu, htu, hgu⟩
    refine aL (aB (csr (wfl rfl AK rfl oB a0 rfl (aC (bH rfl Tryz.underlying68 rfl) ?_)))); refine aD (wnn (bG ?_)); refine dC (α := Nat) (0) (fun j => [(97, .int .i64 (j : Nat))]) [(1, _), (2, _), (6, _), (7, _), (10, _), (14, _), (15, _), (79, _), (80, _), (81, _), (95, _), (96, _)] (fun j wr => Evo [] j3 wr ∧ (j ≤ ci.rs.length ∧ ∀ i (h : i < ci.rs.length), i < j → ¬ (ci.rs[i].1 ≤ (bJ s a).1 ∧ (bJ s a).1 ≤ ci.rs[i].2))) (fun j => ci.rs.length - j) ⟨rfl, trivial⟩ ⟨rfl, rfl, rfl, rfl, rfl, rfl, rfl, rfl, rfl, rfl, rfl, rfl, trivial⟩ ⟨Evo.refl _ _, ⟨Nat.zero_le _, fun i _ h => by omega⟩⟩ ?_; rintro j wr167 ⟨A, ⟨hj, hnr⟩⟩; show CW _ _ _ _ [(97, _), (1, _), (2, _), (6, _), (7, _), (10, _), (14, _), (15, _), (79, _), (80, _), (81, _), (95, _), (96, _)] _; have a2 := e9.then A; have a5 := c5.then A; have f9 := ((e2.then I).step J (Ge.new e2 H).mem1).then A; have c6 := A.blk0 f0; have c7 := A.blk0 f5; have c8 := f6.evo0 A; have c9 := f7.evo0 A; have d0 := f8.evo0 A; have g0 := A.blk0 (J.blk (I.blk0 a1) (Apart.new (Lt.blk a1) H).nmem1); refine csr (aC (cX rfl rfl) ?_); refine wnn (aI (aX rfl (fun j4 => ?_) (fun j4 => ?_)))
    ·refine aL (aB (aI (bG (csr ?_))))
     have hj' : j < ci.rs.length := by omega
     obtain ⟨b3, o3, vs3, ha3, -, -, k0, hr3⟩ := eR j hj'; cases hr3
     refine aC (cF (n := j) (by rw [ha3]; rfl) rfl eQ hj') ?_
     refine aC (dF rfl jU eX (vs := [_, _]) rfl (k0.evo a2 (by simp))) ?_; refine cK rfl lL fun k8 k9 h6 B D => ?_; refine aW rfl rfl eX h6 rfl rfl ⟨by first | rfl | assumption, by first | rfl | assumption, trivial⟩ fun l0 d1 F => ?_; have d2 := (a2.then D).step F (Ge.new a2 B).mem1; have d3 := (a5.then D).step F (Ge.new a5 B).mem1; have g1 := (A.then D).step F (Ge.new A B).mem1; have g2 := F.blk (D.blk0 c6) (Apart.new (Lt.blk c6) B).nmem1; have g3 := (c9.evo0 D).evo F (Apart.new (Lt.own c9) B).own1
     try simp only [cG, Nat.reduceAdd] at d1
     refine wnn (csr (wfl rfl eV rfl cI d1 rfl (aD (aC (fE rfl rfl) ?_)))); refine aD (bF (t := 105) rfl (fun h7 => ?_) (fun h7 => ?_))
     ·refine aT (aD (aT (aC (aA rfl dW) (aT (aC (aU rfl cI (bA d1 rfl)) (aT (aC (fE rfl rfl) ?_))))))); refine bW (wnn (aX rfl (fun h8 => ?_) (fun h8 => ?_)))
      ·have hopc : ci.op = 2 := by omega
       have hop2 : p.insts[ls[k].1].op = 2 := by rw [← hci]; exact hopc
       have hout : 0 ≤ ci.out ∧ ci.out < p.insts.length := n4 (by omega)
       have hins : mT (bJ s a).1 p.insts[ls[k].1].rs := by rw [← hci]; exact ⟨ci.rs[j], List.getElem_mem _, by omega, by omega⟩
       refine csr (aD (aC (aA rfl fW) (aC (aU rfl aQ (bA (F.blk (D.blk0 (A.blk0 a0)) (Apart.new (Lt.blk (A.blk0 a0)) B).nmem1) rfl)) ?_))); rw [show (Value.int .i64 ci.out) = iv ((ci.out.toNat : Nat) : Int) from by rw [Int.toNat_of_nonneg hout.1]]; refine wfl rfl jG rfl jR (F.blk (D.blk0 g0) (Apart.new (Lt.blk g0) B).nmem1) rfl (aC (cC (vs := [(0, _), (1, _)]) jI rfl (cells := [_, _]) rfl) ?_); refine aD ?_; refine aK (vs := [_, _, _]) wW rfl (BW (tob0 := uob) (tr0 := ur) (L0 := ms) (a := a + (bJ s a).2) (i0 := ci.out.toNat) (t0 := ls[k].2) (sv0 := sw) (nv0 := .pointer q) (i3 uob hgu d2) hsp (F.blk (D.blk0 c7) (Apart.new (Lt.blk c7) B).nmem1) ((c8.evo0 D).evo F (Apart.new (Lt.own c8) B).own1) ((d0.evo0 D).evo F (Apart.new (Lt.own d0) B).own1) (dI hUr d3 (fun y hy => .inl hy)) (hnk.step ((f9.then D).step F (Ge.new f9 B).mem1) (fun y hy => .inl hy)) (by omega) (by omega) hs hsw hun hms hmu hsu) rfl ?_; rintro _ l1 ⟨sw2, ua2, un2, uc2, ur2, uob2, L2, rfl, heps2, k1, hSe2, k2, hUr2, hsw2, hun2, hmu2, hsu2, huo2, a6⟩; have hpre2 := d3
       have hgu2 : Ge w uob2 := by rcases huo2 with h | h; { subst h; exact hgu }; { exact Ge.fresh d2 h }
       have hpu2 : Apart (some bP) uob2 := by rcases huo2 with h | h; { subst h; exact hpu }; { exact Apart.fresh (Lt.blk g2) h }
       have htu2 : Apart tob uob2 := by rcases huo2 with h | h; { subst h; exact htu }; { exact Apart.fresh (Lt.own g3) h }
       have h9 := d3.step a6 (fun y hy => .inl hy); refine wnn (cM (sT rfl (bK (bK (sT rfl (cL (aB ?_))))))); refine aG ?_; refine aC (aJ rfl rfl (by omega) (by omega)) ?_; refine aD (aP (bB ?_)); refine ⟨⟨k + 1, sw2, ms ++ L2, ur2, ua2, un2, uc2, uob2⟩, ?_, ⟨rfl, trivial⟩, ⟨rfl, rfl, rfl, rfl, rfl, rfl, rfl, trivial⟩, (d2.step a6 (ge3 hgm hgs hgu)), ?_⟩
       · (try dsimp only); omega
       try dsimp only
       have hxx := in3 (X := bm :: sb :: uob.toList) (bm := bm) (sb := sb) (t := uob) (t' := uob2) hpre2 (by simp) (by simp) (fun y hy => List.mem_cons_of_mem _ (List.mem_cons_of_mem _ hy)) huo2; have hTr3 := dI hTr h9 hxx
       refine ⟨by omega, (a6.blk g2 (nmk hpm hps hpu)), k1, hSe2, k2, hUr2, (g3.evo a6 (nmo hmt.symm hst.symm htu)), hTr3, hsw2, hun2, by rw [tS hk', LA hi hop2 hins, ← hci]; exact hep.app heps2, hpu2, hmu2, hsu2, htu2, hgu2⟩
      refine aL (aO (aB (aG ?_))); refine aC (aJ rfl rfl (by omega) (by omega)) ?_; refine aD (aP (bB ?_)); refine ⟨j + 1, ?_, ⟨rfl, trivial⟩, ⟨rfl, rfl, rfl, rfl, rfl, rfl, rfl, rfl, rfl, rfl, rfl, rfl, trivial⟩, g1, ?_⟩
      · omega
      refine ⟨by omega, fun i hi2 hik => ?_⟩
      by_cases e : i < j
      · exact hnr i hi2 e
      · obtain rfl : i = j := by omega
        omega
     refine aN (aN (aN (aN (bM (wnn (cS rfl ?_)))))); refine aL (aO (aB (aG ?_))); refine aC (aJ rfl rfl (by omega) (by omega)) ?_; refine aD (aP (bB ?_)); refine ⟨j + 1, ?_, ⟨rfl, trivial⟩, ⟨rfl, rfl, rfl, rfl, rfl, rfl, rfl, rfl, rfl, rfl, rfl, rfl, trivial⟩, g1, ?_⟩
     · omega
     refine ⟨by omega, fun i hi2 hik => ?_⟩
     by_cases e : i < j
     · exact hnr i hi2 e
     · obtain rfl : i = j := by omega
       omega
    refine cM (bK (bK (cL (aO (aB ?_))))); refine aG ?_; refine aC (aJ rfl rfl (by omega) (by omega)) ?_; refine aD (aP (bB ?_)); refine ⟨⟨k + 1, sw, ms, ur, ua, un, uc, uob⟩, ?_, ⟨rfl, trivial⟩, ⟨rfl, rfl, rfl, rfl, rfl, rfl, rfl, trivial⟩, a2, ?_⟩
    · (try dsimp only); omega
    try dsimp only
    have hTr3 := dI hTr a5 (fun y hy => .inl hy); have hUr3 := dI hUr a5 (fun y hy => .inl hy)
    refine ⟨by omega, c6, c7, c8, d0, hUr3, c9, hTr3, hsw, hun, by rw [tS hk', yQ hi (fun h => by rw [← hci] at h; obtain ⟨d, hd, h2⟩ := h.2; obtain ⟨j, hj, rfl⟩ := List.getElem_of_mem hd; exact hnr j hj (by omega) h2), List.append_nil]; exact hep, hpu, hmu, hsu, htu, hgu⟩
   refine cM (bK (bK (cL (QN (aO (bB ?_)))))); refine ⟨⟨a + (bJ s a).2, sw, ms, ur, ua, un, uc, uob⟩, ?_, ⟨rfl, trivial⟩, ⟨rfl, rfl, rfl, trivial⟩, d9, ?_⟩
   · (try dsimp only); omega
   try dsimp only
   have hkn : k = ls.length := by omega
   have hep2 : Ept (dV p s) (a + (bJ s a).2) (iM (dV p s) a ls) (fun _ => false) ms (kA (a + (bJ s a).2) sw) := by have h := hep; rw [hkn, List.take_length, PQ hsv (by omega)] at h; exact h
   refine ⟨by omega, hP, hM, hSe, hU, hUr, hsw, fun d hd => HW hep2 d hd, by omega, fun r W' h => ?_, hpu, hmu, hsu, hgu⟩; obtain ⟨W3, h3⟩ := BC hep2 h; exact hPk r W3 (.inr (.inr ⟨by omega, _, yN (by omega), h3⟩))
  refine cM (bK (bK (cL (aB ?_)))); refine csr (bX (wan (aH (cJ rfl rfl rfl ?_)))); have hz : ls = [] := List.eq_nil_of_length_eq_zero (by omega); subst hz; obtain ⟨W2, h2⟩ := pkL_nil p s a; obtain ⟨W3, h3⟩ := hPk none W2 h2; exact ⟨_, false, none, W3, rfl, h3, .inl ⟨rfl, rfl⟩, b7⟩
end Go.Proofs.YtidpigbinpaaeaaGreat
