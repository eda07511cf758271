/- Joins: part 3 of 6 of what the law rests on. -/
import Derived.Test.YtljadkcojnlioaaGreatDoorTkB
set_option linter.unusedSectionVars false
set_option linter.unusedSimpArgs false
set_option linter.unusedVariables false
namespace Go.Proofs.YtljadkcojnlioaaGreatDoor
open Go.RowKit Go.W
attribute [local irreducible] Decidable.decide
theorem gR : HD Tryz.prog 24 24 = some (56, 2, 8) := by kernel_rfl
theorem mG : Build Tryz.prog 56 #[(0, 1), (1, 1)] #[.int .i32 0, .int .i32 0] := ⟨_, .agg #[.int .i32 0, .int .i32 0], Tryz.underlying56, by kernel_rfl, rfl, fun w => by kernel_rfl⟩
theorem wE : tT Tryz.prog 67 = some 1 := by kernel_rfl
theorem jE : sS Tryz.prog 24 = some (56, 2) := by kernel_rfl
def Vr (l : List (Int × Int)) : Prop := ∀ g, g ∈ l → 0 ≤ g.1 ∧ g.1 ≤ g.2 ∧ g.2 ≤ 1114111
def mI : List Int → List (Int × Int)
  | a :: b :: r => (a, b) :: mI r
  | _ => []
theorem AC : ∀ (l : List Int), (mI l).length = l.length / 2
  | [] => rfl
  | [a] => by rw [show mI [a] = [] from rfl]; simp
  | a :: b :: r => by rw [mI, List.length_cons, AC r]; simp only [List.length_cons]; omega
theorem AD : ∀ {l : List Int} {k : Nat} (h : k < (mI l).length) (h0 : 2 * k < l.length) (h1 : 2 * k + 1 < l.length), (mI l)[k] = (l[2 * k], l[2 * k + 1])
  | [], k, h, _, _ => by cases h
  | [a], k, h, _, _ => by cases h
  | a :: b :: r, 0, h, _, _ => rfl
  | a :: b :: r, k + 1, h, h0, h1 => by
    have := AD (l := r) (k := k) (by rw [mI] at h; simpa using h) (by simp only [List.length_cons] at h0; omega) (by simp only [List.length_cons] at h1; omega)
    have h2 : (mI (a :: b :: r))[k + 1] = (mI r)[k]'(by rw [mI] at h; simpa using h) := rfl
    rw [h2, this]
    simp only [show 2 * (k + 1) = 2 * k + 1 + 1 by omega, List.getElem_cons_succ]
theorem oL (l : List (Int × Int)) (a b : Int) : dZ (l ++ [(a, b)]) = dZ l ++ [.int .i32 a, .int .i32 b] := by rw [kN]; rfl
abbrev i32v (l : List Int) : List Value := l.map fun c => Value.int .i32 c
theorem FM {w : World} {e : TypeId} {a : Option Addr} {n c : Nat} {ys : List Int} {ob : Option Nat} (h : OwnS w e 1 a n c (i32v ys) ob) {k : Nat} (hk : k < ys.length) : ∃ g, ob = some g ∧ a = some ⟨g, 0, none⟩ ∧ w.cell? ⟨g, 0 + k * 1, none⟩ = some (.int .i32 ys[k]) := by
  have hl : ys.length = n * 1 := by have := h.length; simpa using this
  obtain ⟨g, hg, ha, hc⟩ := h.cells (by omega)
  refine ⟨g, hg, ha, ?_⟩
  rw [Nat.mul_one]
  exact hc k _ (by simp [hk])
structure SpG where
  k : Nat
  sa : Option Addr
  sc : Nat
  so : Option Nat
structure SpI (w wr : World) (n : Nat) (l : List (Int × Int)) (a : Option Addr) (c : Nat) (ob : Option Nat) : Prop where
  hk : n = l.length
  own : OwnS wr 56 2 a n c (dZ l) ob
  ge : Ge w ob
theorem BA {w : World} {a : Option Addr} {c : Nat} {l : List (Int × Int)} {ob : Option Nat} (hO : OwnS w 56 2 a l.length c (dZ l) ob) (hl : l.length ≤ 1000000) :
    Calls Tryz.prog 148 #[.slice a l.length c] w (Ret fun v w' => ∃ a' c' ob', v = .slice a' l.length c' ∧ OwnS w' 56 2 a' l.length c' (dZ l) ob' ∧ Ge w ob' ∧ Evo [] w w') := by
  refine bJ (N := 8) Tryz.func148 rfl rfl rfl ?_; refine aE (aB (aM (aC (aA (aE (aE (aB (aG (aF (ex_eqSl rfl rfl Tryz.underlying24) ?_))))))))); refine aC (aA (fW rfl (fun hc4 => ?_) (fun hc4 => ?_)))
  ·refine aE (aB (aM (aC (aA (aO (aN (br1 ?_)))))))
   obtain ⟨rfl, h1, rfl, rfl⟩ := (QS hO).resolve_right (fun ⟨g, h, _⟩ => by rw [h] at hc4; cases hc4)
   exact ⟨none, 0, none, rfl, OwnS.nil _ _ _, Ge.nil _, (Evo.refl [] w)⟩
  refine aU (aA (aE (aB (bL (vs := []) rfl jE rfl rfl rfl rfl fun b1 w2 hO3 hs4 hw5 => ?_)))); have hG7 := Ge.new (Evo.refl [] w) hs4; have hE8 := (Evo.refl [] w).then hw5; refine aG ?_; refine dL rfl rfl rfl rfl gR hO3 (Src.ofOwn (hO.evo0 hE8) (pQ l)) (by omega) fun a2 c2 w12 ob2 hO2 hw15 hob16 => ?_; refine aM (aC (aA (aO (br1 ?_)))); have hO3 := hO2; rw [Nat.zero_add] at hO3; exact ⟨a2, c2, ob2, by rw [Nat.zero_add], by simpa using hO3, (hG7.app hE8 hob16), (hE8.step hw15 hG7.mem)⟩
theorem dQ {w : World} {a : Option Addr} {n c : Nat} {es : List Int} {ob : Option Nat} (hO : OwnS w 21 1 a n c (i32v es) ob) (hl : es.length ≤ 1000) :
    Calls Tryz.prog 114 #[.slice a n c] w (Ret fun v w' => ∃ a' c' ob', v = .slice a' (mI es).length c' ∧ OwnS w' 56 2 a' (mI es).length c' (dZ (mI es)) ob' ∧ Ge w ob' ∧ Evo [] w w') := by
  have hn : n = es.length := by have := hO.length; simp at this; omega
  subst hn; have hpl := AC es; refine bJ (N := 26) Tryz.func114 rfl rfl rfl ?_; refine aE (aB (aM (aC (aA (aE (aB (aM (aC (aA (aE (aE (aB (aM (aC (aA (bR ?_)))))))))))))))); refine eV (α := SpG) (⟨0, none, 0, none⟩) (fun x => [(3, .slice x.sa x.k x.sc), (4, .int .i64 ((2 * x.k : Nat) : Int))]) [(0, _), (2, _)] (fun x wr => Evo [] w wr ∧ (x.k ≤ (mI es).length ∧ SpI w wr x.k ((mI es).take x.k) x.sa x.sc x.so)) (fun x => (mI es).length - x.k) ⟨rfl, rfl, trivial⟩ ⟨rfl, rfl, trivial⟩ ⟨(Evo.refl [] w), ⟨Nat.zero_le _, by simp, OwnS.nil _ _ _, Ge.nil _⟩⟩ ?_; rintro ⟨k, sa, sc, so⟩ wr1 ⟨hV2, ⟨hk, hkl, hown, hge⟩⟩; show CW _ _ _ _ [(3, .slice sa k sc), (4, .int .i64 ((2 * k : Nat) : Int)), (0, _), (2, _)] _
  try dsimp only at hk
  try dsimp only at hkl
  try dsimp only at hown
  try dsimp only at hge
  refine aE (aE (aB (aG ?_))); refine aF (bC rfl rfl (by omega) (by omega)) ?_; refine aG (aF (bK rfl Tryz.underlying67 rfl) ?_); refine aF (dF rfl rfl) ?_; refine aC (aA (bF rfl (fun hc9 => ?_) (fun hc9 => ?_)))
  ·have h0 : 2 * k < es.length := by omega
   have h1 : 2 * k + 1 < es.length := by omega
   have hk' : k < (mI es).length := by omega
   obtain ⟨g0, hg0, ha0, hc0⟩ := FM hO h0; obtain ⟨g1, hg1, ha1, hc1⟩ := FM hO h1; refine aU (aA (aE (bR ?_))); refine iK (fun w0 w' => Evo so.toList w0 w') (by kernel_rfl) (fun w3 hw4 => ?_); have hE5 := hV2.then hw4; refine aet 0 rfl (fun _ hS => bO rfl) (Evo.refl so.toList w3) ?_; refine aet 1 rfl (fun _ hS => bO rfl) (Evo.refl so.toList w3) ?_; refine aet 2 rfl (fun _ hS => bO rfl) (Evo.refl so.toList w3) ?_; refine aet 3 rfl (fun _ hS => eK (n := 2 * k) rfl (by rfl) ha0 wE h0) (Evo.refl so.toList w3) ?_; refine aet 4 rfl (fun _ hS => aI rfl cF (((hE5.step hS (hge.mem))).cell hc0 (by simp))) (Evo.refl so.toList w3) ?_; refine aet 5 rfl (fun _ hS => bO rfl) (Evo.refl so.toList w3) ?_; refine aet 6 rfl (fun _ hS => bO rfl) (Evo.refl so.toList w3) ?_; refine aet 7 rfl (fun _ hS => bC rfl rfl (by omega) (by omega)) (Evo.refl so.toList w3) ?_; refine aet 8 rfl (fun _ hS => eK (n := 2 * k + 1) rfl (by rfl) ha1 wE h1) (Evo.refl so.toList w3) ?_; refine aet 9 rfl (fun _ hS => aI rfl cF (((hE5.step hS (hge.mem))).cell hc1 (by simp))) (Evo.refl so.toList w3) ?_
   refine aet 10 rfl (fun _ hS => eN (vs := [(0, _), (1, _)]) mG rfl (cells := [_, _]) rfl) (Evo.refl so.toList w3) ?_; refine cP [11] (by kernel_rfl) rfl ⟨?_, trivial⟩; refine cU rfl ?_; refine bL (vs := [_]) rfl jE rfl rfl rfl rfl fun b7 w8 hO9 hs10 hw11 => ?_; have hE16 := (Evo.refl so.toList w3).then hw11; refine aC (cG (.inl hE16) ?_); refine cP [12] (by kernel_rfl) rfl ⟨?_, trivial⟩; refine cU rfl ?_; refine dL rfl rfl rfl rfl gR ((hown.evo0 hw4).evo0 hw11) (Src.ofOwn hO9 ⟨rfl, rfl, trivial⟩) (by omega) fun a2 c2 w20 ob2 hO2 hw23 hob24 => ?_; have hE28 := hE16.step hw23 (fun y hy => .inl hy); refine aC (cG (.inl hE28) ?_); refine aet 13 rfl (fun _ hS => eT rfl) hE28 ?_; refine fA (by kernel_rfl) (aW (aA ?_)); refine aB (aG ?_); refine aF (bC rfl rfl (by omega) (by omega)) ?_; refine aM (aC (bY ?_)); refine ⟨⟨k + 1, a2, c2, ob2⟩, ?_, ⟨rfl, rfl, trivial⟩, ⟨rfl, rfl, trivial⟩, ((hE5.then hw11).step hw23 hge.mem), ?_⟩
   · (try dsimp only); omega
   try dsimp only
   refine ⟨hk', ⟨by rw [List.length_take]; omega, ?_, (hge.app (hE5.then hw11) hob24)⟩⟩
   rw [List.take_add_one, List.getElem?_eq_getElem hk', AD hk' h0 h1, Option.toList_some, oL]; exact hO2
  refine dO (cD (cD (dN (aA ?_)))); refine aE (aB (aG (aM (aC (aA (aO (br1 ?_)))))))
  obtain rfl : k = (mI es).length := by omega
  rw [List.take_length] at hown; exact ⟨sa, sc, so, rfl, hown, hge, hV2⟩
open Go.Shelf Go.Lib Go.Sort in
section
def cl (z : Int) : Int := max 0 (min z 1114111)
def CY (g : Int × Int) : List Value := GR (cl g.1, cl g.2)
def cmC (x y : Int × Int) : Int := cl x.1 - cl y.1
theorem MH {z : Int} (h0 : 0 ≤ z) (h1 : z ≤ 1114111) : cl z = z := by unfold cl; omega
theorem cl_b (z : Int) : 0 ≤ cl z ∧ cl z ≤ 1114111 := by unfold cl; omega
set_option maxHeartbeats 1000000 in
theorem clos_ok (x y : Int × Int) (W : World) : Calls Tryz.prog 152 #[.agg (CY x).toArray, .agg (CY y).toArray] W fun e w' => e = .returned (.int .i64 (cmC x y)) ∧ ∃ q os', w' = Sort.grow (W.drewN q) os' := by
  have hx := cl_b x.1
  have hy := cl_b y.1
  unfold CY GR cmC
  generalize cl x.1 = p at *
  generalize cl y.1 = q at *
  generalize cl x.2 = p' at *
  generalize cl y.2 = q' at *
  show Calls Tryz.prog 152 #[.agg #[.int .i32 p, .int .i32 p'], .agg #[.int .i32 q, .int .i32 q']] W _
  go_enter Tryz.func152, Tryz.ntmps152
  go_wp2
  go_ret
  refine ⟨?_, 0, _, by rw [Sort.alloc_eq_grow, Sort.alloc_eq_grow, Sort.grow_grow]; rfl⟩
  rfl
end
theorem TU {l : List (Int × Int)} (h : Vr l) : l.map (fun g => (cl g.1, cl g.2)) = l := by
  conv => rhs; rw [← List.map_id l]
  refine List.map_congr_left fun g hg => ?_
  have := h g hg
  rw [MH (by omega) (by omega), MH (by omega) (by omega)]; rfl
theorem yQ (l : List (Int × Int)) : Sort.flatK CY 2 l.toArray = (dZ (l.map fun g => (cl g.1, cl g.2))).toArray := by
  rw [← qZ]
  unfold Sort.flatK
  apply Array.ext
  · simp
  · intro t h1 h2
    have h3 : t < l.length * 2 := by simpa using h1
    have h5 : t / 2 < l.length := by omega
    simp [h5]
    rfl
theorem JY {l m : List (Int × Int)} (h : m.Perm l) (hv : Vr l) : Vr m := fun g hg => hv g (h.mem_iff.1 hg)
theorem LF (x y : Int × Int) : Go.Proofs.ltOf cmC x y = decide (cl x.1 < cl y.1) := by unfold Go.Proofs.ltOf cmC; exact decide_eq_decide.2 (by omega)
theorem swo_cm : Sort.SWO (Go.Proofs.ltOf cmC) where
  irrefl x := by rw [LF]; simp
  trans x y z h1 h2 := by rw [LF] at *; simp at *; omega
  ntrans x y z h1 h2 := by rw [LF] at *; simp at *; omega
theorem PC {w : World} {a : Option Addr} {c : Nat} {l : List (Int × Int)} {ob : Option Nat} (hO : OwnS w 56 2 a l.length c (dZ l) ob) (hv : Vr l) (hl : l.length ≤ 1000000) :
    Calls Tryz.prog 151 #[.slice a l.length c, .func (.func 152) #[] #[]] w (Ret fun v w' => v = .tuple #[] ∧ ∃ m, m.Perm l ∧ (∀ i j (hij : i < j) (hj : j < m.length), m[i].1 ≤ m[j].1) ∧ OwnS w' 56 2 a l.length c (dZ m) ob ∧ Evo ob.toList w w') := by
  rcases QS hO with ⟨rfl, hn, rfl, rfl⟩ | ⟨g, rfl, rfl⟩
  · refine (Go.Proofs.AnyF.slices_SortFunc_none { zF with } none c (.func (.func 152) #[] #[]) w).mono ?_
    rintro e w' ⟨rfl, rfl⟩
    exact ⟨_, rfl, rfl, [], .refl _, (fun i j hij hj => by cases hj), hO, Evo.refl _ _⟩
  · have eg : ∀ args w, (callFunc 152 args).run Tryz.prog w = .ok (.enter 152 args) w := enters_of Tryz.func152 (by kernel_rfl) rfl
    have hH : Sort.HoldsK CY 2 w g 0 l.toArray := by
      have := IP hO
      unfold Sort.HoldsK at *
      rw [yQ, TU hv]; rw [qZ] at this; exact this
    have hcon := Go.Proofs.AnyQ.slices_SortFunc zF 2 Tryz.isAgg56 Tryz.sizeOf56 CY (fun _ => rfl) (fun x v hv => by simp [CY, GR] at hv; rcases hv with rfl | rfl <;> rfl) cmC swo_cm 152 #[] g 0 c l.toArray w eg (fun _ _ _ _ x y => clos_ok x y _) hH hO.lt (by simp; omega)
    refine Calls.mono hcon ?_
    rintro e w' ⟨rfl, d', q, os, hp, hs, rfl⟩
    obtain ⟨h1, h2, h3⟩ := hp
    have hperm : d'.toList.Perm l := by
      have e1 : d'.extract 0 l.toArray.size = d' := by rw [← h1, Array.extract_size]
      have e2 : l.toArray.extract 0 l.toArray.size = l.toArray := Array.extract_size
      rw [e1, e2] at h3
      exact h3
    have hvm := JY hperm hv
    have hlen : d'.toList.length = l.length := by simpa using h1
    refine ⟨_, rfl, rfl, d'.toList, hperm, fun i j hij hj => ?_, ?_, ?_⟩
    · have hjs : j < d'.size := by simpa using hj
      have h5 := hs i j (Nat.zero_le _) hij (by rw [← h1]; exact hjs)
      rw [LF, decide_eq_false_iff_not] at h5
      have h6 := hvm _ (List.getElem_mem hj)
      have h7 := hvm _ (List.getElem_mem (show i < d'.toList.length by omega))
      have e1 : d'[j]! = d'.toList[j] := by rw [getElem!_pos d' j hjs]; simp
      have e2 : d'[i]! = d'.toList[i] := by rw [getElem!_pos d' i (by omega)]; simp
      rw [e1, e2, MH (by omega) (by omega), MH (by omega) (by omega)] at h5
      omega
    · have h8 := NJ hO (ds := dZ d'.toList) (by rw [jT, hlen]) q os
      have e3 : Sort.flatK CY 2 d' = (dZ d'.toList).toArray := by
        have := yQ d'.toList
        rw [TU hvm] at this
        simpa using this
      show OwnS (Sort.grow (Sort.putRow id (Sort.ahead w q) g 0 (Sort.flatK CY 2 d')) os) _ _ _ _ _ _ _
      rw [e3]
      exact h8
    · exact TH w g q _ os
theorem uH : eY Tryz.prog 148 := ⟨_, Tryz.func148, by kernel_rfl, by kernel_rfl⟩
theorem EC : eY Tryz.prog 151 := ⟨_, Tryz.func151, by kernel_rfl, by kernel_rfl⟩
structure MgP (m : List (Int × Int)) (k : Nat) (o : List (Int × Int)) : Prop where
  hk : k ≤ m.length
  can : sH o
  eq : ∀ c, InR c o ↔ InR c (m.take k)
  le : ∀ g, g ∈ o → ∀ i (h : i < m.length), k ≤ i → g.1 ≤ m[i].1
  len : o.length ≤ k
theorem RX (m : List (Int × Int)) : MgP m 0 [] := ⟨Nat.zero_le _, trivial, fun c => by simp, (fun g h => by cases h), Nat.le_refl _⟩
theorem GA {m : List (Int × Int)} {k : Nat} (h : k < m.length) (c : Int) : InR c (m.take (k + 1)) ↔ InR c (m.take k) ∨ (m[k].1 ≤ c ∧ c ≤ m[k].2) := by
  rw [List.take_add_one, List.getElem?_eq_getElem h, Option.toList_some, mT, jX]
section
variable {m : List (Int × Int)} {k : Nat} {o : List (Int × Int)}
theorem RY (h : MgP m k o) (hk : k < m.length) (hv : Vr m) (hs : ∀ i j (hij : i < j) (hj : j < m.length), m[i].1 ≤ m[j].1) (ho : o = [] ∨ ∃ o' g, o = o' ++ [g] ∧ ¬ m[k].1 ≤ g.2 + 1) : MgP m (k + 1) (o ++ [m[k]]) := by
  have hx := hv _ (List.getElem_mem hk)
  refine ⟨hk, ?_, fun c => ?_, fun g hg i hi hki => ?_, by rw [List.length_append]; have := h.len; simp; omega⟩
  · rcases ho with rfl | ⟨o', g, rfl, hn⟩
    · exact yR hx.1 hx.2.1 hx.2.2
    · exact ((GY h.can (h.le g (by simp) k hk (Nat.le_refl _)) hx.2.1 hx.2.2).2 hn).1
  · rw [mT, jX, GA hk, h.eq]
  · rcases List.mem_append.1 hg with hg | hg
    · exact h.le g hg i hi (by omega)
    · rw [List.mem_singleton.1 hg]; exact hs k i (by omega) hi
theorem mg_ext {o' : List (Int × Int)} {g : Int × Int} (h : MgP m k (o' ++ [g])) (hk : k < m.length) (hv : Vr m) (hn : m[k].1 ≤ g.2 + 1) : MgP m (k + 1) (o' ++ [(g.1, max g.2 m[k].2)]) := by
  have hx := hv _ (List.getElem_mem hk)
  have h1 := (GY h.can (h.le g (by simp) k hk (Nat.le_refl _)) hx.2.1 hx.2.2).1 hn
  refine ⟨hk, h1.1, fun c => by rw [h1.2, GA hk, h.eq], fun g' hg i hi hki => ?_, by have := h.len; simp at this ⊢; omega⟩
  rcases List.mem_append.1 hg with hg | hg
  · exact h.le g' (by simp [hg]) i hi (by omega)
  · rw [List.mem_singleton.1 hg]; exact h.le g (by simp) i hi (by omega)
theorem mg_end (h : MgP m k o) (hk : m.length ≤ k) {l : List (Int × Int)} (hp : m.Perm l) {S : Int → Prop} (hS : ∀ c, InR c l ↔ S c) : o = jP S := by
  refine (rD h.can fun c => ?_).symm
  rw [h.eq, List.take_of_length_le hk, GB hp, hS]
end
theorem IG (o : List (Int × Int)) (g : Int × Int) (z : Int) (j : Nat) (hj : j = 0 + o.length * 2 + 1) : (dZ (o ++ [g])).set j (.int .i32 z) = dZ (o ++ [(g.1, z)]) := by
  subst hj
  obtain ⟨a, b⟩ := g
  rw [oL, oL, List.set_append_right _ _ (by rw [jT]; omega), jT, show 0 + o.length * 2 + 1 - o.length * 2 = 1 by omega]
  rfl
theorem snoc_of {l : List (Int × Int)} (h : 0 < l.length) : ∃ o g, l = o ++ [g] ∧ o.length = l.length - 1 := by
  rcases List.eq_nil_or_concat l with rfl | ⟨o, g, rfl⟩
  · cases h
  · exact ⟨o, g, by simp, by simp⟩
structure MgG where
  k : Nat
  n : Nat
  o : List (Int × Int)
  sa : Option Addr
  sc : Nat
  so : Option Nat
structure MgI (w wr : World) (m : List (Int × Int)) (a1 : Option Addr) (c1 : Nat) (ob1 : Option Nat) (x : MgG) : Prop where
  p : MgP m x.k x.o
  cl : OwnS wr 56 2 a1 m.length c1 (dZ m) ob1
  own : OwnS wr 56 2 x.sa x.n x.sc (dZ x.o) x.so
  ge : Ge w x.so
  gc : Ge w ob1
  ap : Apart ob1 x.so
theorem yB {a b : Int} : (if a < b then b else a) = max a b := by omega
def RsOut (w w' : World) (v : Value) (S : Int → Prop) (n : Nat) : Prop := ∃ a c ob, v = .slice a (jP S).length c ∧ OwnS w' 56 2 a (jP S).length c (dZ (jP S)) ob ∧ Ge w ob ∧ (jP S).length ≤ n ∧ sH (jP S) ∧ (∀ c, InR c (jP S) ↔ S c) ∧ Evo [] w w'
theorem vA {w : World} {a : Option Addr} {c : Nat} {l : List (Int × Int)} {ob : Option Nat} (hO : OwnS w 56 2 a l.length c (dZ l) ob) (hv : Vr l) (hl : l.length ≤ 1000000) {S : Int → Prop} (hS : ∀ c, InR c l ↔ S c) :
    Calls Tryz.prog 136 #[.slice a l.length c] w (Ret fun v w' => RsOut w w' v S l.length) := by
  refine bJ (N := 53) Tryz.func136 rfl rfl rfl ?_; refine aE (aB (aM (aC (aA (aE (aB (aG (aK (vs := [_]) uH rfl (BA hO hl) rfl ?_)))))))); rintro _ w1 ⟨a1, c1, ob1, rfl, hO1, hg1, hw2⟩; refine aM (aC (aA (aE (aB (aG (aK (vs := [_, _]) EC rfl (PC hO1 hv hl) rfl ?_)))))); rintro _ w5 ⟨rfl, m, hpm, hsm, hO2, hw6⟩; have hml := hpm.length_eq; have hvm := JY hpm hv; rw [← hml] at hO2; refine aC (aA (aE (aB (aM (aC (aA (aE (aE (aB (aG (aF (bK rfl Tryz.underlying24 rfl) ?_))))))))))); refine aG (aC (aA (bR (eV (α := MgG) (⟨0, 0, [], none, 0, none⟩) (fun x => [(3, .slice x.sa x.n x.sc), (13, .int .i64 (x.k : Nat))]) [(2, _), (11, _), (12, _)] (fun x wr => Evo [] w wr ∧ (MgI w wr m a1 c1 ob1 x)) (fun x => m.length - x.k) ⟨rfl, rfl, trivial⟩ ⟨rfl, rfl, rfl, trivial⟩ ⟨(((Evo.refl [] w).then hw2).step hw6 (Ge.fresh (Evo.refl [] w) hg1).mem), ⟨RX m, hO2, OwnS.nil _ _ _, Ge.nil _, hg1, Apart.nil _⟩⟩ ?_)))); rintro ⟨k, n, o, sa, sc, so⟩ wr8 ⟨hV9, ⟨hp, hcl, hown, hge, hgc, hap⟩⟩; show CW _ _ _ _ [(3, .slice sa n sc), (13, .int .i64 (k : Nat)), (2, _), (11, _), (12, _)] _
  try dsimp only at hp
  try dsimp only at hcl
  try dsimp only at hown
  try dsimp only at hge
  try dsimp only at hgc
  try dsimp only at hap
  have hE10 := Evo.refl ([]) wr8; have hon := pU hown; have hpl := hp.len; have hpk := hp.hk
  try dsimp only at hpl hpk
  refine aE (aB (aF (dF rfl rfl) ?_)); refine aC (aA (aE (bF rfl (fun hc14 => ?_) (fun hc14 => ?_))))
  ·have hk' : k < m.length := by omega
   have hvk := hvm _ (List.getElem_mem hk'); obtain ⟨g1, hg1', ha1, hc1⟩ := pB hcl hk'; refine aU (aA (aE (bR (aE (aB ?_))))); refine aF (eK (n := k) rfl rfl ha1 fE (by omega)) ?_; refine aF (eJ rfl kD fY (vs := [_, _]) rfl (hc1.evo hE10 (by simp))) ?_; refine dA rfl mZ fun b11 w12 hB13 hs14 hw15 => ?_; have hA16 := Apart.new (Lt.own hown) hs14; refine bI rfl rfl fY hB13 rfl rfl ⟨rfl, rfl, trivial⟩ fun w24 hB25 hw26 => ?_; have hE27 := (hV9.then hw15).step hw26 (Ge.new hV9 hs14).mem1; have hE28 := (hE10.then hw15).step hw26 (Ge.new hE10 hs14).mem1; have hO29 := (hown.evo0 hw15).evo hw26 hA16.own1; have hO30 := (hcl.evo0 hw15).evo hw26 (Apart.new (Lt.own hcl) hs14).own1
   try simp only [cR, Nat.reduceAdd] at hB25
   refine aC (aA (aE (aE (aB (aG (aF (bK rfl Tryz.underlying24 rfl) ?_)))))); refine aM (aC (aA (aE ?_))); refine fH (by kernel_rfl) (by kernel_rfl) ?_; refine bM (fun _ hq32 => bO rfl) ?_; refine bM (fun _ hq32 => gL rfl rfl) ?_; refine bM (fun _ hq32 => bO rfl) ?_; refine kX (t := 21) rfl (fun hs21 => ?_) (fun hs21 => ?_)
   ·have h0 : 0 < o.length := by omega
    obtain ⟨o', q, hoq, hol⟩ := snoc_of h0; subst hoq
    have hol2 : (o' ++ [q]).length = o'.length + 1 := by simp
    have hqb := vH (x := q) hp.can; obtain ⟨gq, hgq, haq, hcq⟩ := pB hown (i := o'.length) (by omega); rw [List.getElem_concat_length (h := rfl)] at hcq; refine qlg ?_; refine bM (fun _ hq32 => aD rfl gJ) ?_; refine qlg ?_; refine bM (fun _ hq32 => aI rfl cF (aJ (hq32.blk0 hB25) rfl)) ?_; refine qlg ?_; refine bM (fun _ hq32 => bO rfl) ?_; refine qlg ?_; refine bM (fun _ hq32 => bO rfl) ?_; refine qlg ?_; refine bM (fun _ hq32 => gK rfl rfl (by omega) (by omega)) ?_; refine qlg ?_; refine bM (fun _ hq32 => fR (n := o'.length) rfl rfl haq (by omega) fE (by omega)) ?_; refine qlg ?_; refine bM (fun _ hq32 => aD rfl fG) ?_; refine qlg ?_; refine bM (fun _ hq32 => aI rfl cF (((hE28.then hq32)).cell (hcq 1 _ rfl) (by simp))) ?_; refine qlg ?_; refine bM (fun _ hq32 => kB rfl rfl (by omega) (by omega)) ?_; refine qlg ?_; refine bM (fun _ hq32 => gY rfl rfl) ?_; refine bM (fun _ hq32 => hD rfl rfl) ?_; refine fP (fun wq31 hq32 => aA ?_); refine bF rfl (fun hc32 => ?_) (fun hc32 => ?_)
    ·refine aE ?_; refine iK (fun w0 w' => Evo so.toList w0 w') (by kernel_rfl) (fun w38 hw39 => ?_); have hO42 := (hO29.evo0 hq32).evo0 hw39; refine aet 0 rfl (fun _ hS => bO rfl) (Evo.refl so.toList w38) ?_; refine aet 1 rfl (fun _ hS => bO rfl) (Evo.refl so.toList w38) ?_; refine aet 2 rfl (fun _ hS => gK rfl rfl (by omega) (by omega)) (Evo.refl so.toList w38) ?_; refine aet 3 rfl (fun _ hS => bO rfl) (Evo.refl so.toList w38) ?_; refine aet 4 rfl (fun _ hS => bO rfl) (Evo.refl so.toList w38) ?_; refine aet 5 rfl (fun _ hS => gK rfl rfl (by omega) (by omega)) (Evo.refl so.toList w38) ?_; refine aet 6 rfl (fun _ hS => fR (n := o'.length) rfl rfl haq (by omega) fE (by omega)) (Evo.refl so.toList w38) ?_; refine aet 7 rfl (fun _ hS => aD rfl fG) (Evo.refl so.toList w38) ?_; refine aet 9 rfl (fun _ hS => aD rfl fG) (Evo.refl so.toList w38) ?_; refine aet 10 rfl (fun _ hS => aI rfl cF (aJ (hS.blk (hw39.blk0 (hq32.blk0 hB25)) (hA16.symm.nmem)) rfl)) (Evo.refl so.toList w38) ?_; refine cP [8] (by kernel_rfl) rfl ⟨?_, trivial⟩; refine cU rfl ?_
     refine aF (aI rfl cF ((((hE28.then hq32).then hw39)).cell (hcq 1 _ rfl) (by simp))) ?_; refine aC (cG (.inl (Evo.refl so.toList w38)) ?_); refine cP [11] (by kernel_rfl) rfl ⟨?_, trivial⟩; refine cU rfl ?_; refine aF (yO rfl rfl) ?_; refine aC (cG (.inl (Evo.refl so.toList w38)) ?_); refine aet 12 rfl (fun _ hS => fR (n := o'.length) rfl rfl haq (by omega) fE (by omega)) (Evo.refl so.toList w38) ?_; refine aet 13 rfl (fun _ hS => aD rfl fG) (Evo.refl so.toList w38) ?_; refine cP [14] (by kernel_rfl) rfl ⟨?_, trivial⟩; refine cU rfl ?_
     obtain ⟨g54, cur45, hg46, hx47, hcu48, hcs49, -⟩ := hO42.at (by omega)
     rw [haq] at hx47; cases hx47
     refine sR rfl rfl (rfl) iP hcu48 (hO42.inb hcs49 (k := o'.length) (j := 1) (by omega) (by omega) (by omega)) fun w50 hB51 hw52 => ?_; replace hw52 := sY hg46 hw52; refine aC (cG (.inl ((Evo.refl so.toList w38).step hw52 (fun y hy => .inl hy))) ?_); refine fA (by kernel_rfl) (aA ?_); refine dO (cD (dN (aA ?_))); refine aB ?_; refine aF (bC rfl rfl (by omega) (by omega)) ?_; refine aG (aC (bY ?_)); refine ⟨⟨k + 1, n, o' ++ [(q.1, max q.2 m[k].2)], sa, sc, so⟩, ?_, ⟨rfl, rfl, trivial⟩, ⟨rfl, rfl, rfl, trivial⟩, (((hE27.then hq32).then hw39).step hw52 hge.mem), ?_⟩
     · (try dsimp only); omega
     try dsimp only
     have hO9 := (hO42.set' hg46 hcu48 hB51); rw [IG _ _ _ _ rfl, yB] at hO9; exact ⟨mg_ext hp hk' hvm hc32, (((hO30.evo0 hq32).evo0 hw39).evo hw52 hap.own), hO9, hge, hgc, hap⟩
    refine aU (aA (aB (aG (aF (bX rfl kD fY (hq32.blk0 hB25) rfl) (bL (vs := [_]) rfl jE rfl rfl rfl rfl fun b60 w61 hO62 hs63 hw64 => ?_))))); have hE70 := (hE27.then hq32).then hw64; have hO73 := (hO30.evo0 hq32).evo0 hw64
    refine dL rfl rfl rfl rfl gR ((hO29.evo0 hq32).evo0 hw64) (Src.ofOwn hO62 ⟨rfl, rfl, trivial⟩) (by have := hp.len; omega) fun a2 c2 w77 ob2 hO3 hw80 hob81 => ?_
    refine aM (aC (aW (aA (aB ?_)))); refine aF (bC rfl rfl (by omega) (by omega)) ?_; refine aG (aC (bY ?_)); refine ⟨⟨k + 1, n + 1, (o' ++ [q]) ++ [m[k]], a2, c2, ob2⟩, ?_, ⟨rfl, rfl, trivial⟩, ⟨rfl, rfl, rfl, trivial⟩, (hE70.step hw80 hge.mem), ?_⟩
    · (try dsimp only); omega
    try dsimp only
    refine ⟨RY hp hk' hvm hsm (.inr ⟨o', q, rfl, hc32⟩), (hO73.evo hw80 hap.own), ?_, (hge.app hE70 hob81), hgc, (hap.app (Lt.own hO73) hob81)⟩
    rw [kN]; exact hO3
   refine qln ?_; refine qln ?_; refine qln ?_; refine qln ?_; refine qln ?_; refine qln ?_; refine qln ?_; refine qln ?_; refine qln ?_; refine qln ?_; refine bM (fun _ hq32 => iE rfl rfl) ?_; refine fP (fun wq31 hq32 => aA ?_); refine cO rfl ?_; refine aU (aA (aB (aG (aF (bX rfl kD fY (hq32.blk0 hB25) rfl) (bL (vs := [_]) rfl jE rfl rfl rfl rfl fun b96 w97 hO98 hs99 hw100 => ?_))))); have hE106 := (hE27.then hq32).then hw100; have hO109 := (hO30.evo0 hq32).evo0 hw100
   refine dL rfl rfl rfl rfl gR ((hO29.evo0 hq32).evo0 hw100) (Src.ofOwn hO98 ⟨rfl, rfl, trivial⟩) (by have := hp.len; omega) fun a2 c2 w113 ob2 hO3 hw116 hob117 => ?_
   refine aM (aC (aW (aA (aB ?_)))); refine aF (bC rfl rfl (by omega) (by omega)) ?_; refine aG (aC (bY ?_)); refine ⟨⟨k + 1, n + 1, o ++ [m[k]], a2, c2, ob2⟩, ?_, ⟨rfl, rfl, trivial⟩, ⟨rfl, rfl, rfl, trivial⟩, (hE106.step hw116 hge.mem), ?_⟩
   · (try dsimp only); omega
   try dsimp only
   refine ⟨RY hp hk' hvm hsm (.inl (List.length_eq_zero_iff.1 (by omega))), (hO109.evo hw116 hap.own), ?_, (hge.app hE106 hob117), hgc, (hap.app (Lt.own hO109) hob117)⟩
   rw [kN]; exact hO3
  refine dO (cD (cD (dN (aA ?_)))); refine aE (aB (aG (aM (aC (aA (aO (br1 ?_))))))); have e := mg_end hp (by omega) hpm hS; subst e; subst hon; exact ⟨sa, sc, so, rfl, hown, hge, by omega, hp.can, fun c => by rw [hp.eq, List.take_of_length_le (by omega), GB hpm, hS], hV9⟩
theorem qG : eY Tryz.prog 136 := ⟨_, Tryz.func136, by kernel_rfl, by kernel_rfl⟩
structure NgG where
  k : Nat
  n : Nat
  o : List (Int × Int)
  nx : Int
  sa : Option Addr
  sc : Nat
  so : Option Nat
structure NgI (w wr : World) (m : List (Int × Int)) (a1 : Option Addr) (c1 : Nat) (ob1 : Option Nat) (x : NgG) : Prop where
  hk : x.k ≤ m.length
  eq : x.o ++ oW x.nx (m.drop x.k) = oW 0 m
  b0 : 0 ≤ x.nx
  b1 : x.nx ≤ 1114112
  len : x.n ≤ x.k
  cl : OwnS wr 56 2 a1 m.length c1 (dZ m) ob1
  own : OwnS wr 56 2 x.sa x.n x.sc (dZ x.o) x.so
  ge : Ge w x.so
  gc : Ge w ob1
  ap : Apart ob1 x.so
theorem NU (b : Int) {m : List (Int × Int)} {k : Nat} (h : k < m.length) : oW b (m.drop k) = (if b < m[k].1 then [(b, m[k].1 - 1)] else []) ++ oW (m[k].2 + 1) (m.drop (k + 1)) := by
  rw [List.drop_eq_getElem_cons h, oW]
theorem MK {m : List (Int × Int)} (h : sH m) : ∀ {k : Nat} (hk : k < m.length), 0 ≤ m[k].1 ∧ m[k].1 ≤ m[k].2 ∧ m[k].2 ≤ 1114111 := by
  have key : ∀ {m : List (Int × Int)} {b : Int}, 0 ≤ b → jR b m → ∀ {k : Nat} (hk : k < m.length), 0 ≤ m[k].1 ∧ m[k].1 ≤ m[k].2 ∧ m[k].2 ≤ 1114111 := by
    intro m
    induction m with
    | nil => intro b _ _ k hk; cases hk
    | cons g m ih =>
      intro b hb hc k hk
      rw [jR] at hc
      cases k with
      | zero => exact ⟨by show 0 ≤ g.1; omega, hc.2.1, hc.2.2.1⟩
      | succ k => exact ih (b := g.2 + 2) (by omega) hc.2.2.2 (by simpa using hk)
  intro k hk
  exact key (Int.le_refl _) h hk
theorem vF {m : List (Int × Int)} (h : sH m) : Vr m := fun g hg => by
  obtain ⟨k, hk, rfl⟩ := List.getElem_of_mem hg
  exact MK h hk
theorem AO {m : List (Int × Int)} {S : Int → Prop} (h : sH m) (hS : ∀ c, InR c m ↔ S c) : sH (oW 0 m) ∧ (∀ c, InR c (oW 0 m) ↔ tM S c) ∧ oW 0 m = jP (tM S) := by
  obtain ⟨h1, h2⟩ := xA (b := 0) (d := 0) (Int.le_refl _) (Int.le_refl _) h
  have h3 : ∀ c, InR c (oW 0 m) ↔ tM S c := fun c => by rw [h2, hS]; exact Iff.rfl
  exact ⟨h1, h3, (rD h1 h3).symm⟩
theorem mO {w : World} {a : Option Addr} {c : Nat} {l : List (Int × Int)} {ob : Option Nat} (hO : OwnS w 56 2 a l.length c (dZ l) ob) (hv : Vr l) (hl : l.length ≤ 1000000) {S : Int → Prop} (hS : ∀ c, InR c l ↔ S c) :
    Calls Tryz.prog 131 #[.slice a l.length c] w (Ret fun v w' => RsOut w w' v (tM S) (l.length + 1)) := by
  refine bJ (N := 38) Tryz.func131 rfl rfl rfl ?_; refine aE (aB (aM (aC (aA (aE (aB (aM (aC (aA (aE (aB (aM (aC (aA (aE (aE (aB ?_))))))))))))))))); refine aG (aK (vs := [_]) qG rfl (vA hO hv hl hS) rfl ?_); rintro _ w1 ⟨a1, c1, ob1, rfl, hO1, hg1, hml, hcan, heqS, hw2⟩
  generalize hm : jP S = m at *
  refine aF (bK rfl Tryz.underlying24 rfl) ?_; refine aG (aC (aA (bR ?_)))
  refine eV (α := NgG) (⟨0, 0, [], 0, none, 0, none⟩) (fun x => [(3, .slice x.sa x.n x.sc), (10, .int .i64 (x.k : Nat)), (4, .int .i32 x.nx)]) [(2, _), (8, _), (9, _)] (fun x wr => Evo [] w wr ∧ (NgI w wr m a1 c1 ob1 x)) (fun x => m.length - x.k) ⟨rfl, rfl, rfl, trivial⟩ ⟨rfl, rfl, rfl, trivial⟩ ⟨((Evo.refl [] w).then hw2), ⟨Nat.zero_le _, rfl, Int.le_refl _, (by show (0 : Int) ≤ 1114112; omega), Nat.le_refl _, hO1, OwnS.nil _ _ _, Ge.nil _, hg1, Apart.nil _⟩⟩ ?_
  rintro ⟨k, n, o, nx, sa, sc, so⟩ wr5 ⟨hV6, ⟨hk, heq, hb0, hb1, hlen, hcl, hown, hge, hgc, hap⟩⟩; show CW _ _ _ _ [(3, .slice sa n sc), (10, .int .i64 (k : Nat)), (4, .int .i32 nx), (2, _), (8, _), (9, _)] _
  try dsimp only at hk
  try dsimp only at heq
  try dsimp only at hb0
  try dsimp only at hb1
  try dsimp only at hlen
  try dsimp only at hcl
  try dsimp only at hown
  try dsimp only at hge
  try dsimp only at hgc
  try dsimp only at hap
  refine aE (aB (aF (dF rfl rfl) ?_)); refine aC (aA (aE (bF rfl (fun hc11 => ?_) (fun hc11 => ?_))))
  ·have hk' : k < m.length := by omega
   have hmk := MK hcan hk'; obtain ⟨g1, hg1', ha1, hc1⟩ := pB hcl hk'; have hgc0 := NU nx hk'; refine aU (aA (aE (bR (aE (aB ?_))))); refine aF (eK (n := k) rfl rfl ha1 fE (by omega)) ?_; refine aF (eJ rfl kD fY (vs := [_, _]) rfl (hc1.evo (Evo.refl ([]) wr5) (by simp))) ?_; refine dA rfl mZ fun b8 w9 hB10 hs11 hw12 => ?_; have hA13 := Apart.new (Lt.own hown) hs11; refine bI rfl rfl fY hB10 rfl rfl ⟨rfl, rfl, trivial⟩ fun w21 hB22 hw23 => ?_; have hE24 := (hV6.then hw12).step hw23 (Ge.new hV6 hs11).mem1; have hO26 := (hown.evo0 hw12).evo hw23 hA13.own1; have hO27 := (hcl.evo0 hw12).evo hw23 (Apart.new (Lt.own hcl) hs11).own1
   try simp only [cR, Nat.reduceAdd] at hB22
   refine aC (aA (aE (aE (aB (aF (aD rfl gJ) (aF (aI rfl cF (aJ hB22 rfl)) (aG (aF (gL rfl rfl) ?_)))))))); refine aC (aA (bF rfl (fun hc17 => ?_) (fun hc17 => ?_)))
   ·refine aB (aG (aG (aF (aD rfl gJ) (aF (aI rfl cF (aJ hB22 rfl)) ?_)))); refine aF (JG rfl rfl (by omega) (by omega)) ?_; refine aF (eN (vs := [(0, _), (1, _)]) mG rfl (cells := [_, _]) rfl) ?_; refine bL (vs := [_]) rfl jE rfl rfl rfl rfl fun b28 w29 hO30 hs31 hw32 => ?_; refine dL rfl rfl rfl rfl gR (hO26.evo0 hw32) (Src.ofOwn hO30 ⟨rfl, rfl, trivial⟩) (by omega) fun a2 c2 w45 ob2 hO3 hw48 hob49 => ?_; refine aM (aC (aA (aB (aF (aD rfl fG) (aF (aI rfl cF (aJ (hw48.blk (hw32.blk0 hB22) hA13.symm.nmem) rfl)) ?_))))); refine aF (kB rfl rfl (by omega) (by omega)) ?_; refine aM (aC (aW (aA (aB ?_)))); refine aF (bC rfl rfl (by omega) (by omega)) ?_; refine aG (aC (bY ?_)); refine ⟨⟨k + 1, n + 1, o ++ [(nx, m[k].1 - 1)], m[k].2 + 1, a2, c2, ob2⟩, ?_, ⟨rfl, rfl, rfl, trivial⟩, ⟨rfl, rfl, rfl, trivial⟩, ((hE24.then hw32).step hw48 hge.mem), ?_⟩
    · (try dsimp only); omega
    try dsimp only
    refine ⟨hk', ?_, (by show 0 ≤ m[k].2 + 1; omega), (by show m[k].2 + 1 ≤ 1114112; omega), (by show n + 1 ≤ k + 1; omega), ((hO27.evo0 hw32).evo hw48 hap.own), ?_, (hge.app (hE24.then hw32) hob49), hgc, (hap.app (Lt.own (hO27.evo0 hw32)) hob49)⟩
    · rw [← heq, hgc0, if_pos (by omega), List.append_assoc]
    · rw [oL]; exact hO3
   refine aU (aA (aB (aF (aD rfl fG) (aF (aI rfl cF (aJ hB22 rfl)) ?_)))); refine aF (kB rfl rfl (by omega) (by omega)) ?_; refine aM (aC (aW (aA (aB ?_)))); refine aF (bC rfl rfl (by omega) (by omega)) ?_; refine aG (aC (bY ?_)); refine ⟨⟨k + 1, n, o, m[k].2 + 1, sa, sc, so⟩, ?_, ⟨rfl, rfl, rfl, trivial⟩, ⟨rfl, rfl, rfl, trivial⟩, hE24, ?_⟩
   · (try dsimp only); omega
   try dsimp only
   refine ⟨hk', ?_, (by show 0 ≤ m[k].2 + 1; omega), (by show m[k].2 + 1 ≤ 1114112; omega), (by show n ≤ k + 1; omega), hO27, hO26, hge, hgc, hap⟩
   rw [← heq, hgc0, if_neg (by omega), List.nil_append]
  refine dO (cD (cD (dN (aA ?_)))); refine aE (aE (aB (aG (aF (gY rfl rfl) ?_)))); refine aC (aA (bF rfl (fun hc31 => ?_) (fun hc31 => ?_)))
  ·refine aB (aG (aG (aF (eN (vs := [(0, _), (1, _)]) mG rfl (cells := [_, _]) rfl) ?_))); refine bL (vs := [_]) rfl jE rfl rfl rfl rfl fun b59 w60 hO61 hs62 hw63 => ?_; refine dL rfl rfl rfl rfl gR (hown.evo0 hw63) (Src.ofOwn hO61 ⟨rfl, rfl, trivial⟩) (by omega) fun a2 c2 w74 ob2 hO3 hw77 hob78 => ?_; refine aM (aC (aA (aE (aB (aG (aM (aC (aA (aO (br1 ?_)))))))))); obtain ⟨h1, h2, h3⟩ := AO hcan heqS; rw [List.drop_eq_nil_of_le (by omega), oW, if_pos (by omega)] at heq; have hO9 : OwnS _ _ 2 _ _ _ (dZ o ++ dZ [(nx, 1114111)]) _ := hO3; rw [← kN, heq] at hO9; have hn9 := pU hO9; rw [h3] at hO9 hn9 h1 h2
   exact ⟨a2, c2, ob2, by rw [hn9], by rw [← hn9]; exact hO9, (hge.app (hV6.then hw63) hob78), by omega, h1, h2, ((hV6.then hw63).step hw77 hge.mem)⟩
  refine aU (aA (aE (aB (aG (aM (aC (aA (aO (br1 ?_))))))))); obtain ⟨h1, h2, h3⟩ := AO hcan heqS; rw [List.drop_eq_nil_of_le (by omega), oW, if_neg (by omega), List.append_nil] at heq; have hO9 := hown; rw [heq] at hO9; have hn9 := pU hO9; rw [h3] at hO9 hn9 h1 h2
  exact ⟨sa, sc, so, by rw [hn9], by rw [← hn9]; exact hO9, hge, by omega, h1, h2, hV6⟩
mutual
def OT : Rx → World → List Value → List Nat → Prop
  | .mk k r rs mn mx lz cp nm ks, w, vs, bs => ∃ (ra : Option Addr) (rc : Nat) (rb : Option Nat) (ka : Option Addr) (kc : Nat) (kb : Option Nat) (cs : List Value) (bk : List Nat),
    vs = [iv k, .int .i32 r, .slice ra rs.length rc, iv mn, iv mx, .bool lz, iv cp, .string nm, .slice ka ks.length kc] ∧ OwnS w 56 2 ra rs.length rc (dZ rs) rb ∧ OwnS w 27 9 ka ks.length kc cs kb ∧ OTs ks w cs bk ∧
    bs = rb.toList ++ (kb.toList ++ bk) ∧ rs.length ≤ 1000000 ∧ nm.size ≤ 1000000 ∧ ks.length ≤ 1000000
def OTs : List Rx → World → List Value → List Nat → Prop
  | [], _, cs, bs => cs = [] ∧ bs = []
  | x :: l, w, cs, bs => ∃ (vs cs' : List Value) (b1 b2 : List Nat), cs = vs ++ cs' ∧ bs = b1 ++ b2 ∧ OT x w vs b1 ∧ OTs l w cs' b2
end
theorem pV {w : World} {e : TypeId} {sz : Nat} {a : Option Addr} {n c : Nat} {xs : List Value} {ob : Option Nat} (h : OwnS w e sz a n c xs ob) : ∀ b, b ∈ ob.toList → b < w.heap.size := fun b hb => by
  cases ob with
  | none => cases hb
  | some g => rw [List.mem_singleton.1 hb]; exact h.lt
mutual
theorem OT.evo : ∀ {x : Rx} {w w' : World} {vs : List Value} {bs X : List Nat}, OT x w vs bs → Evo X w w' → (∀ b, b ∈ bs → b ∉ X) → OT x w' vs bs
  | .mk k r rs mn mx lz cp nm ks, w, w', vs, bs, X, h, he, hx => by
    rw [OT] at h ⊢
    obtain ⟨ra, rc, rb, ka, kc, kb, cs, bk, h1, h2, h3, h4, rfl, h5⟩ := h
    exact ⟨ra, rc, rb, ka, kc, kb, cs, bk, h1, h2.evo he (fun g hg => hx g (by simp [hg])), h3.evo he (fun g hg => hx g (by simp [hg])), OTs.evo h4 he (fun b hb => hx b (by simp [hb])), rfl, h5⟩
theorem OTs.evo : ∀ {l : List Rx} {w w' : World} {cs : List Value} {bs X : List Nat}, OTs l w cs bs → Evo X w w' → (∀ b, b ∈ bs → b ∉ X) → OTs l w' cs bs
  | [], w, w', cs, bs, X, h, he, hx => by rw [OTs] at h ⊢; exact h
  | x :: l, w, w', cs, bs, X, h, he, hx => by
    rw [OTs] at h ⊢
    obtain ⟨vs, cs', b1, b2, h1, rfl, h3, h4⟩ := h
    exact ⟨vs, cs', b1, b2, h1, rfl, OT.evo h3 he (fun b hb => hx b (by simp [hb])), OTs.evo h4 he (fun b hb => hx b (by simp [hb]))⟩
end
mutual
theorem OT.lt : ∀ {x : Rx} {w : World} {vs : List Value} {bs : List Nat}, OT x w vs bs → ∀ b, b ∈ bs → b < w.heap.size
  | .mk k r rs mn mx lz cp nm ks, w, vs, bs, h => by
    rw [OT] at h
    obtain ⟨ra, rc, rb, ka, kc, kb, cs, bk, h1, h2, h3, h4, rfl, h5⟩ := h
    intro b hb
    rcases List.mem_append.1 hb with hb | hb
    · exact pV h2 b hb
    · rcases List.mem_append.1 hb with hb | hb
      · exact pV h3 b hb
      · exact OTs.lt h4 b hb
theorem OTs.lt : ∀ {l : List Rx} {w : World} {cs : List Value} {bs : List Nat}, OTs l w cs bs → ∀ b, b ∈ bs → b < w.heap.size
  | [], w, cs, bs, h => by rw [OTs] at h; rw [h.2]; exact fun b hb => by cases hb
  | x :: l, w, cs, bs, h => by
    rw [OTs] at h
    obtain ⟨vs, cs', b1, b2, h1, rfl, h3, h4⟩ := h
    intro b hb
    rcases List.mem_append.1 hb with hb | hb
    · exact OT.lt h3 b hb
    · exact OTs.lt h4 b hb
end
theorem OT.nine {x : Rx} {w : World} {vs : List Value} {bs : List Nat} (h : OT x w vs bs) : ∃ ra rc ka kc, vs = [iv x.kind, .int .i32 x.r, .slice ra x.ranges.length rc, iv x.min, iv x.max, .bool x.lazy, iv x.cap, .string x.name, .slice ka x.kids.length kc] := by
  cases x with
  | mk k r rs mn mx lz cp nm ks =>
    rw [OT] at h
    obtain ⟨ra, rc, rb, ka, kc, kb, cs, bk, h1, _⟩ := h
    exact ⟨ra, rc, ka, kc, h1⟩
theorem OT.len {x : Rx} {w : World} {vs : List Value} {bs : List Nat} (h : OT x w vs bs) : vs.length = 9 := by
  obtain ⟨ra, rc, ka, kc, rfl⟩ := h.nine; rfl
theorem OT.one {x : Rx} {w : World} {vs : List Value} {bs : List Nat} (h : OT x w vs bs) : AllOne vs := by
  obtain ⟨ra, rc, ka, kc, rfl⟩ := h.nine; exact ⟨rfl, rfl, rfl, rfl, rfl, rfl, rfl, rfl, rfl, trivial⟩
theorem zC : ∀ {l m : List Value}, AllOne l → AllOne m → AllOne (l ++ m)
  | [], m, _, h => h
  | v :: l, m, h, h2 => ⟨h.1, zC h.2 h2⟩
theorem OTs.len : ∀ {l : List Rx} {w : World} {cs : List Value} {bs : List Nat}, OTs l w cs bs → cs.length = l.length * 9
  | [], w, cs, bs, h => by rw [OTs] at h; rw [h.1]; rfl
  | x :: l, w, cs, bs, h => by
    rw [OTs] at h
    obtain ⟨vs, cs', b1, b2, rfl, rfl, h3, h4⟩ := h
    rw [List.length_append, h3.len, OTs.len h4, List.length_cons]; omega
theorem OTs.one : ∀ {l : List Rx} {w : World} {cs : List Value} {bs : List Nat}, OTs l w cs bs → AllOne cs
  | [], w, cs, bs, h => by rw [OTs] at h; rw [h.1]; trivial
  | x :: l, w, cs, bs, h => by
    rw [OTs] at h
    obtain ⟨vs, cs', b1, b2, rfl, rfl, h3, h4⟩ := h
    exact zC h3.one (OTs.one h4)
theorem OTs.nil (w : World) : OTs [] w [] [] := by rw [OTs]; exact ⟨rfl, rfl⟩
theorem OTs.single {x : Rx} {w : World} {vs : List Value} {bs : List Nat} (h : OT x w vs bs) : OTs [x] w vs bs := by
  rw [OTs]; exact ⟨vs, [], bs, [], by simp, by simp, h, OTs.nil w⟩
theorem OTs.app : ∀ {l m : List Rx} {w : World} {cs cs' : List Value} {bs bs' : List Nat}, OTs l w cs bs → OTs m w cs' bs' → OTs (l ++ m) w (cs ++ cs') (bs ++ bs')
  | [], m, w, cs, cs', bs, bs', h, h2 => by rw [OTs] at h; rw [h.1, h.2]; exact h2
  | x :: l, m, w, cs, cs', bs, bs', h, h2 => by
    rw [OTs] at h
    obtain ⟨vs, ct, b1, b2, rfl, rfl, h3, h4⟩ := h
    show OTs (x :: (l ++ m)) w _ _
    rw [OTs]
    exact ⟨vs, ct ++ cs', b1, b2 ++ bs', List.append_assoc .., List.append_assoc .., h3, OTs.app h4 h2⟩
theorem OTs.parts : ∀ {l m : List Rx} {w : World} {cs : List Value} {bs : List Nat}, OTs (l ++ m) w cs bs → ∃ c1 c2 b1 b2, cs = c1 ++ c2 ∧ bs = b1 ++ b2 ∧ OTs l w c1 b1 ∧ OTs m w c2 b2
  | [], m, w, cs, bs, h => ⟨[], cs, [], bs, rfl, rfl, OTs.nil w, h⟩
  | x :: l, m, w, cs, bs, h => by
    have h' : OTs (x :: (l ++ m)) w cs bs := h
    rw [OTs] at h'
    obtain ⟨vs, ct, b1, b2, rfl, rfl, h3, h4⟩ := h'
    obtain ⟨c1, c2, d1, d2, rfl, rfl, h5, h6⟩ := OTs.parts h4
    exact ⟨vs ++ c1, c2, b1 ++ d1, d2, (List.append_assoc ..).symm, (List.append_assoc ..).symm, by rw [OTs]; exact ⟨vs, c1, b1, d1, rfl, rfl, h3, h5⟩, h6⟩
theorem OTs.one' {x : Rx} {w : World} {cs : List Value} {bs : List Nat} (h : OTs [x] w cs bs) : OT x w cs bs := by
  rw [OTs] at h
  obtain ⟨vs, ct, b1, b2, rfl, rfl, h3, h4⟩ := h
  rw [OTs] at h4
  rw [h4.1, h4.2, List.append_nil, List.append_nil]; exact h3
structure Fr (w : World) (bs : List Nat) : Prop where
  nd : bs.Nodup
  ge : ∀ b, b ∈ bs → w.heap.size ≤ b
theorem Fr.nil (w : World) : Fr w [] := ⟨List.nodup_nil, fun b h => by cases h⟩
theorem Fr.app {w w1 : World} {b1 b2 : List Nat} (h1 : Fr w b1) (h2 : Fr w1 b2) (hw : w.heap.size ≤ w1.heap.size) (hl : ∀ b, b ∈ b1 → b < w1.heap.size) : Fr w (b1 ++ b2) where
  nd := List.nodup_append.2 ⟨h1.nd, h2.nd, fun a ha b hb e => by have := hl a ha; have := h2.ge b hb; omega⟩
  ge := fun b hb => by
    rcases List.mem_append.1 hb with hb | hb
    · exact h1.ge b hb
    · have := h2.ge b hb; omega
theorem Fr.older {w w1 : World} {bs : List Nat} (h : Fr w1 bs) (hw : w.heap.size ≤ w1.heap.size) : Fr w bs := ⟨h.nd, fun b hb => Nat.le_trans hw (h.ge b hb)⟩
def TOut (w w' : World) (v : Value) (x : Rx) : Prop := ∃ vs bs, v = .agg vs.toArray ∧ OT x w' vs bs ∧ Fr w bs
theorem ge_fr {w : World} {ob : Option Nat} (h : Ge w ob) : Fr w ob.toList := by
  cases ob with
  | none => exact Fr.nil w
  | some g => exact ⟨List.nodup_cons.2 ⟨by simp, List.nodup_nil⟩, fun b hb => by rw [List.mem_singleton.1 hb]; exact h g rfl⟩
theorem pW (k : Int) (w : World) : OT (rxK k) w [iv k, .int .i32 0, .slice none 0 0, iv 0, iv 0, .bool false, iv 0, .string ByteArray.empty, .slice none 0 0] [] := by
  unfold rxK
  rw [OT]
  exact ⟨none, 0, none, none, 0, none, [], [], rfl, OwnS.nil _ _ _, OwnS.nil _ _ _, OTs.nil w, rfl, by simp, by show (0 : Nat) ≤ 1000000; omega, by simp⟩
theorem ot_lit (c : Int) (w : World) : OT (lT c) w [iv 2, .int .i32 c, .slice none 0 0, iv 0, iv 0, .bool false, iv 0, .string ByteArray.empty, .slice none 0 0] [] := by
  unfold lT
  rw [OT]
  exact ⟨none, 0, none, none, 0, none, [], [], rfl, OwnS.nil _ _ _, OwnS.nil _ _ _, OTs.nil w, rfl, by simp, by show (0 : Nat) ≤ 1000000; omega, by simp⟩
theorem QU {l : List (Int × Int)} {w : World} {a : Option Addr} {n c : Nat} {ob : Option Nat} (h : OwnS w 56 2 a n c (dZ l) ob) (hl : l.length ≤ 1000000) : OT (jS l) w [iv 3, .int .i32 0, .slice a n c, iv 0, iv 0, .bool false, iv 0, .string ByteArray.empty, .slice none 0 0] ob.toList := by
  obtain rfl := pU h
  unfold jS
  rw [OT]
  exact ⟨a, c, ob, none, 0, none, [], [], rfl, h, OwnS.nil _ _ _, OTs.nil w, by simp, hl, by show (0 : Nat) ≤ 1000000; omega, by simp⟩
theorem HU : oG Tryz.prog 170 = some true := by kernel_rfl
theorem nJ : iT Tryz.prog 170 = some 2 := by kernel_rfl
theorem qF : oJ Tryz.prog 170 = some #[.int .i32 0, .int .i32 0] := by kernel_rfl
theorem DR : oJ Tryz.prog 171 = some #[.int .i32 0, .int .i32 0, .int .i32 0, .int .i32 0] := by kernel_rfl
def pF (j : Nat) : Int × Int := if j = 0 then (65, 32) else (97, -32)
theorem SL (j : Nat) : (pF j).1 = 65 ∧ (pF j).2 = 32 ∨ (pF j).1 = 97 ∧ (pF j).2 = -32 := by
  unfold pF
  split
  · exact .inl ⟨rfl, rfl⟩
  · exact .inr ⟨rfl, rfl⟩
def mW (h x : Int × Int) : List (Int × Int) := if max x.1 h.1 ≤ min x.2 (h.1 + 25) then [(max x.1 h.1 + h.2, min x.2 (h.1 + 25) + h.2)] else []
def pH (x : Int × Int) : Nat → List (Int × Int)
  | 0 => []
  | j + 1 => pH x j ++ mW (pF j) x
def pI (l : List (Int × Int)) : List (Int × Int) := l.flatMap fun x => pH x 2
theorem GI {h x : Int × Int} {c : Int} : InR c (mW h x) ↔ (h.1 + h.2 ≤ c ∧ c ≤ h.1 + 25 + h.2 ∧ x.1 ≤ c - h.2 ∧ c - h.2 ≤ x.2) := by
  unfold mW
  split
  · rw [jX]; show max x.1 h.1 + h.2 ≤ c ∧ c ≤ min x.2 (h.1 + 25) + h.2 ↔ _; omega
  · refine ⟨fun h => (kO c h).elim, fun h => ?_⟩
    omega
theorem yK {x : Int × Int} {c : Int} : InR c (pH x 2) ↔ (97 ≤ c ∧ c ≤ 122 ∧ x.1 ≤ c - 32 ∧ c - 32 ≤ x.2) ∨ (65 ≤ c ∧ c ≤ 90 ∧ x.1 ≤ c + 32 ∧ c + 32 ≤ x.2) := by
  show InR c ((([] : List (Int × Int)) ++ mW (65, 32) x) ++ mW (97, -32) x) ↔ _
  rw [List.nil_append, mT, GI, GI]
  show (65 + 32 ≤ c ∧ c ≤ 65 + 25 + 32 ∧ x.1 ≤ c - 32 ∧ c - 32 ≤ x.2) ∨ (97 + -32 ≤ c ∧ c ≤ 97 + 25 + -32 ∧ x.1 ≤ c - -32 ∧ c - -32 ≤ x.2) ↔ _
  omega
theorem foldL_in {l : List (Int × Int)} {c : Int} : InR c (l ++ pI l) ↔ nG (fun c => InR c l) c := by
  rw [mT]
  unfold nG pI
  constructor
  · rintro (h | ⟨g, hg, h⟩)
    · exact .inl h
    · obtain ⟨x, hx, hgx⟩ := List.mem_flatMap.1 hg
      have h2 := yK.1 ⟨g, hgx, h⟩
      rcases h2 with h2 | h2
      · exact .inr (.inl ⟨h2.1, h2.2.1, x, hx, h2.2.2⟩)
      · exact .inr (.inr ⟨h2.1, h2.2.1, x, hx, h2.2.2⟩)
  · rintro (h | ⟨h1, h2, x, hx, h3⟩ | ⟨h1, h2, x, hx, h3⟩)
    · exact .inl h
    · obtain ⟨g, hg, h4⟩ := yK.2 (.inl ⟨h1, h2, h3⟩)
      exact .inr ⟨g, List.mem_flatMap.2 ⟨x, hx, hg⟩, h4⟩
    · obtain ⟨g, hg, h4⟩ := yK.2 (.inr ⟨h1, h2, h3⟩)
      exact .inr ⟨g, List.mem_flatMap.2 ⟨x, hx, hg⟩, h4⟩
theorem GG {j : Nat} {x : Int × Int} : Vr (mW (pF j) x) := fun g hg => by
  have hc := SL j
  unfold mW at hg
  split at hg
  · rw [List.mem_singleton.1 hg]
    show 0 ≤ max x.1 (pF j).1 + (pF j).2 ∧ max x.1 (pF j).1 + (pF j).2 ≤ min x.2 ((pF j).1 + 25) + (pF j).2 ∧ _ ≤ (1114111 : Int)
    omega
  · cases hg
theorem SS {l : List (Int × Int)} : Vr (pI l) := fun g hg => by
  obtain ⟨x, hx, hgx⟩ := List.mem_flatMap.1 hg
  have hgx' : g ∈ (([] : List (Int × Int)) ++ mW (pF 0) x) ++ mW (pF 1) x := hgx
  rw [List.nil_append] at hgx'
  rcases List.mem_append.1 hgx' with h | h
  · exact GG g h
  · exact GG g h
theorem JE {l : List (Int × Int)} {k : Nat} (h : k < l.length) : pI (l.take (k + 1)) = pI (l.take k) ++ pH l[k] 2 := by
  unfold pI
  rw [List.take_add_one, List.getElem?_eq_getElem h, List.flatMap_append]; simp
theorem NV (h x : Int × Int) : (mW h x).length ≤ 1 := by unfold mW; split <;> simp
theorem AV (x : Int × Int) : ∀ j, (pH x j).length ≤ j
  | 0 => Nat.le_refl _
  | j + 1 => by rw [pH, List.length_append]; have := AV x j; have := NV (pF j) x; omega
structure FoG where
  k : Nat
  n : Nat
  sa : Option Addr
  sc : Nat
  so : Option Nat
structure FoI (w wr : World) (l o : List (Int × Int)) (a : Option Addr) (c : Nat) (ob : Option Nat) (x : FoG) (m : Nat) : Prop where
  hk : x.k ≤ m
  cl : OwnS wr 56 2 a l.length c (dZ l) ob
  own : OwnS wr 56 2 x.sa x.n x.sc (dZ o) x.so
  ge : Ge w x.so
  ap : Apart ob x.so
structure FiG where
  j : Nat
  n2 : Nat
  sa2 : Option Addr
  sc2 : Nat
  so2 : Option Nat
structure FiI (w wr : World) (l o : List (Int × Int)) (a : Option Addr) (c : Nat) (ob : Option Nat) (q : Nat) (g : Int × Int) (x : FiG) : Prop where
  hj : x.j ≤ 2
  cl : OwnS wr 56 2 a l.length c (dZ l) ob
  own : OwnS wr 56 2 x.sa2 x.n2 x.sc2 (dZ o) x.so2
  ge : Ge w x.so2
  ap : Apart ob x.so2
  b5 : wr.heap[q]? = some (.cells #[.int .i32 g.1, .int .i32 g.2] 56 (0, 0))
  s5 : Ge w (some q)
  ap5 : Apart (some q) x.so2
theorem AW {h x : Int × Int} (hc : max x.1 h.1 ≤ min x.2 (h.1 + 25)) : mW h x = [(max x.1 h.1 + h.2, min x.2 (h.1 + 25) + h.2)] := by unfold mW; rw [if_pos hc]
theorem GH {h x : Int × Int} (hc : ¬ max x.1 h.1 ≤ min x.2 (h.1 + 25)) : mW h x = [] := by unfold mW; rw [if_neg hc]
theorem yA {a b : Int} : (if b < a then b else a) = min a b := by omega
theorem HZ {l m : List (Int × Int)} (h : Vr l) (h2 : Vr m) : Vr (l ++ m) := fun g hg => (List.mem_append.1 hg).elim (h g) (h2 g)
theorem rZ : ∀ l : List (Int × Int), (pI l).length ≤ 2 * l.length
  | [] => Nat.le_refl _
  | x :: l => by
    have h1 : pI (x :: l) = pH x 2 ++ pI l := List.flatMap_cons
    rw [h1, List.length_append, List.length_cons]; have := rZ l; have := AV x 2; omega
theorem RsOut.evo {w w' : World} {v : Value} {S : Int → Prop} {n : Nat} (h : RsOut w w' v S n) : Evo [] w w' := by obtain ⟨_, _, _, _, _, _, _, _, _, h⟩ := h; exact h
theorem GF {S T : Int → Prop} (h : ∀ c, S c ↔ T c) (c : Int) : nG S c ↔ nG T c := by unfold nG; rw [h, h, h]
theorem NG {j : Nat} (hj : j < 2) (w : World) : (part 170 #[.int .i32 65, .int .i32 32, .int .i32 97, .int .i32 (-32)] (j * 2)).run Tryz.prog w = .ok (.agg #[.int .i32 (pF j).1, .int .i32 (pF j).2]) w := by
  rw [NC w HU nJ]
  match j, hj with
  | 0, _ => rfl
  | 1, _ => rfl
theorem AU {w : World} {a : Option Addr} {c : Nat} {l : List (Int × Int)} {ob : Option Nat} (hO : OwnS w 56 2 a l.length c (dZ l) ob) (hv : Vr l) (hl : l.length ≤ 300000) {S : Int → Prop} (hS : ∀ c, InR c l ↔ S c) :
    Calls Tryz.prog 130 #[.slice a l.length c] w (Ret fun v w' => RsOut w w' v (nG S) (3 * l.length)) := by
  refine bJ (N := 54) Tryz.func130 rfl rfl rfl ?_; refine aE (aB (aM (aC (aA (aE (aB (aG ?_))))))); refine aK (vs := [_]) uH rfl (BA hO (by omega)) rfl ?_; rintro _ w1 ⟨a1, c1, ob1, rfl, hO1, hg1, hw2⟩; refine aM (aC (aA (aE (aE (aB (aG (aF (bK rfl Tryz.underlying24 rfl) ?_))))))); refine aG (aC (aA (bR ?_)))
  refine eV (α := FoG) (⟨0, l.length, a1, c1, ob1⟩) (fun x => [(3, .slice x.sa x.n x.sc), (14, .int .i64 (x.k : Nat))]) [(2, _), (12, _), (13, _)] (fun x wr => Evo [] w wr ∧ (FoI w wr l (l ++ pI (l.take x.k)) a c ob x l.length ∧ x.n ≤ l.length + 2 * x.k)) (fun x => l.length - x.k) ⟨rfl, rfl, trivial⟩ ⟨rfl, rfl, rfl, trivial⟩ ⟨((Evo.refl [] w).then hw2), ⟨⟨Nat.zero_le _, (hO.evo0 hw2), by simp [pI]; exact hO1, hg1, (Apart.fresh (Lt.own hO) hg1)⟩, Nat.le_refl _⟩⟩ ?_
  rintro ⟨k, n, sa, sc, so⟩ wr7 ⟨hV8, ⟨⟨hk, hcl, hown, hge, hap⟩, hnl⟩⟩; show CW _ _ _ _ [(3, .slice sa n sc), (14, .int .i64 (k : Nat)), (2, _), (12, _), (13, _)] _
  try dsimp only at hk
  try dsimp only at hcl
  try dsimp only at hown
  try dsimp only at hge
  try dsimp only at hap
  try dsimp only at hnl
  refine aE (aB (aF (dF rfl rfl) ?_)); refine aC (aA (aE (bF rfl (fun hc15 => ?_) (fun hc15 => ?_))))
  ·have hk' : k < l.length := by omega
   have hlk := hv _ (List.getElem_mem hk'); obtain ⟨g1, hg1', ha1, hc1⟩ := pB hcl hk'; refine aU (aA (aE (bR (aE (aB ?_))))); refine aF (eK (n := k) rfl rfl ha1 fE (by omega)) ?_; refine aF (eJ rfl kD fY (vs := [_, _]) rfl (hc1.evo (Evo.refl ([]) wr7) (by simp))) ?_; refine dA rfl mZ fun b5 w10 hB11 hs12 hw13 => ?_; have hsz_b5 := hs12; have hA14 := Apart.new (Lt.own hown) hs12; refine bI rfl rfl fY hB11 rfl rfl ⟨rfl, rfl, trivial⟩ fun w22 hB23 hw24 => ?_
   try simp only [cR, Nat.reduceAdd] at hB23
   refine aC (aA (aE (aB ?_))); refine aF (sB (vs := [(0, _), (1, _)]) Tryz.underlying170 qF iP rfl (cells := #[.int .i32 65, .int .i32 32]) (by kernel_rfl)) ?_; refine aF (sB (vs := [(0, _), (1, _)]) Tryz.underlying170 qF iP rfl (cells := #[.int .i32 97, .int .i32 (-32)]) (by kernel_rfl)) ?_; refine aF (sB (vs := [(0, _), (1, _)]) Tryz.underlying171 DR nJ rfl (cells := #[.int .i32 65, .int .i32 32, .int .i32 97, .int .i32 (-32)]) (by kernel_rfl)) ?_; refine aG (aC (aA (bR ?_)))
   refine eV (α := FiG) (⟨0, n, sa, sc, so⟩) (fun x => [(3, .slice x.sa2 x.n2 x.sc2), (21, .int .i64 (x.j : Nat))]) [(2, _), (5, _), (12, _), (13, _), (14, _), (20, _)] (fun x wr => Evo [] w wr ∧ (FiI w wr l (l ++ pI (l.take k) ++ pH l[k] x.j) a c ob b5 l[k] x ∧ x.n2 ≤ n + x.j)) (fun x => 2 - x.j) ⟨rfl, rfl, trivial⟩ ⟨rfl, rfl, rfl, rfl, rfl, rfl, trivial⟩ ⟨((hV8.then hw13).step hw24 (Ge.new hV8 hs12).mem1), ⟨⟨Nat.zero_le _, ((hcl.evo0 hw13).evo hw24 (Apart.new (Lt.own hcl) hs12).own1), by simp [pH]; exact ((hown.evo0 hw13).evo hw24 hA14.own1), hge, hap, hB23, (Ge.new hV8 hs12), hA14.symm⟩, Nat.le_refl _⟩⟩ ?_
   rintro ⟨j, n2, sa2, sc2, so2⟩ wr29 ⟨hV30, ⟨⟨hj, hcl2, hown2, hge2, hap2, hb52, hs52, hap5⟩, hnl2⟩⟩; show CW _ _ _ _ [(3, .slice sa2 n2 sc2), (21, .int .i64 (j : Nat)), (2, _), (5, _), (12, _), (13, _), (14, _), (20, _)] _
   try dsimp only at hj
   try dsimp only at hcl2
   try dsimp only at hown2
   try dsimp only at hge2
   try dsimp only at hap2
   try dsimp only at hb52
   try dsimp only at hs52
   try dsimp only at hap5
   try dsimp only at hnl2
   refine aE (aB (aF (dF rfl rfl) ?_)); refine aC (aA (aE (bF rfl (fun hc22 => ?_) (fun hc22 => ?_))))
   ·have hj' : j < 2 := by omega
    have hhc := SL j; refine aU (aA (aE (bR (aE (aB ?_))))); refine aF (ME (n := j) rfl rfl Tryz.underlying171 rfl (by omega) nJ (NG hj')) ?_; refine dA rfl qF fun b7 w31 hB32 hs33 hw34 => ?_; have hsz_b7 := hs33; refine bI rfl rfl nJ hB32 rfl rfl ⟨rfl, rfl, trivial⟩ fun w43 hB44 hw45 => ?_
    try simp only [cR, Nat.reduceAdd] at hB44
    refine aC (aA (aE ?_)); refine iK (fun w0 w' => Evo [] w0 w') (by kernel_rfl) (fun w50 hw51 => ?_); have hE52 := ((hV30.then hw34).step hw45 (Ge.new hV30 hs33).mem1).then hw51; have hO53 := ((hown2.evo0 hw34).evo hw45 (Apart.new (Lt.own hown2) hs33).own1).evo0 hw51; have hO54 := ((hcl2.evo0 hw34).evo hw45 (Apart.new (Lt.own hcl2) hs33).own1).evo0 hw51; have hB55 := hw51.blk0 (hw45.blk (hw34.blk0 hb52) (Apart.new (Lt.blk hb52) hs33).nmem1); have hB56 := hw51.blk0 hB44; refine aet 0 rfl (fun _ hS => aD rfl gJ) (Evo.refl [] w50) ?_; refine aet 1 rfl (fun _ hS => aI rfl cF (aJ (hS.blk0 hB55) rfl)) (Evo.refl [] w50) ?_; refine aet 2 rfl (fun _ hS => jZ (n := 0) rfl rfl Tryz.underlying170 rfl (by omega) iP) (Evo.refl [] w50) ?_; refine aet 3 rfl (fun _ hS => aI rfl cF (aJ (hS.blk0 hB56) rfl)) (Evo.refl [] w50) ?_; refine aet 5 rfl (fun _ hS => aD rfl fG) (Evo.refl [] w50) ?_; refine aet 6 rfl (fun _ hS => aI rfl cF (aJ (hS.blk0 hB55) rfl)) (Evo.refl [] w50) ?_; refine aet 7 rfl (fun _ hS => jZ (n := 0) rfl rfl Tryz.underlying170 rfl (by omega) iP) (Evo.refl [] w50) ?_; refine aet 8 rfl (fun _ hS => aI rfl cF (aJ (hS.blk0 hB56) rfl)) (Evo.refl [] w50) ?_
    refine aet 9 rfl (fun _ hS => kB rfl rfl (by omega) (by omega)) (Evo.refl [] w50) ?_; refine cP [4, 10] (by kernel_rfl) rfl ⟨?_, ?_, trivial⟩
    ·refine cU rfl ?_; refine aF (yO rfl rfl) ?_; refine aC (cG (.inl (Evo.refl [] w50)) ?_); refine aet 11 rfl (fun _ hS => eT rfl) (Evo.refl [] w50) ?_; refine cP [10] (by kernel_rfl) rfl ⟨?_, trivial⟩; refine cU rfl ?_; refine aF (CU rfl rfl) ?_; refine aC (cG (.inl (Evo.refl [] w50)) ?_); refine aet 12 rfl (fun _ hS => eT rfl) (Evo.refl [] w50) ?_; refine fA (by kernel_rfl) (aA ?_); refine aE (aB (aG (aG (aF (gY rfl rfl) ?_)))); refine aC (aA (bF rfl (fun hc37 => ?_) (fun hc37 => ?_)))
     ·refine aB (aG (aG ?_)); refine aF (jZ (n := 1) rfl rfl Tryz.underlying170 rfl (by omega) iP) ?_; refine aF (aI rfl cF (aJ hB56 rfl)) ?_; refine aF (kB rfl rfl (by omega) (by omega)) ?_; refine aG ?_; refine aF (jZ (n := 1) rfl rfl Tryz.underlying170 rfl (by omega) iP) ?_; refine aF (aI rfl cF (aJ hB56 rfl)) ?_; refine aF (kB rfl rfl (by omega) (by omega)) ?_; refine aF (eN (vs := [(0, _), (1, _)]) mG rfl (cells := [_, _]) rfl) ?_; refine bL (vs := [_]) rfl jE rfl rfl rfl rfl fun b57 w58 hO59 hs60 hw61 => ?_; refine dL rfl rfl rfl rfl gR (hO53.evo0 hw61) (Src.ofOwn hO59 ⟨rfl, rfl, trivial⟩) (by omega) fun a2 c2 w74 ob2 hO3 hw77 hob78 => ?_; refine aM (aC (aW (aA (aB ?_)))); refine aF (bC rfl rfl (by omega) (by omega)) ?_; refine aG (aC (bY ?_)); refine ⟨⟨j + 1, n2 + 1, a2, c2, ob2⟩, ?_, ⟨rfl, rfl, trivial⟩, ⟨rfl, rfl, rfl, rfl, rfl, rfl, trivial⟩, ((hE52.then hw61).step hw77 hge2.mem), ?_⟩
      · (try dsimp only); omega
      try dsimp only
      refine ⟨⟨hj', ((hO54.evo0 hw61).evo hw77 hap2.own), ?_, (hge2.app (hE52.then hw61) hob78), (hap2.app (Lt.own (hO54.evo0 hw61)) hob78), (hw77.blk (hw61.blk0 hB55) hap5.nmem), hs52, (hap5.app (Lt.blk (hw61.blk0 hB55)) hob78)⟩, (by show n2 + 1 ≤ n + (j + 1); omega)⟩
      simp only [yB, yA] at hc37; rw [pH, ← List.append_assoc, kN _ (mW (pF j) l[k]), AW hc37]; have hO9 := hO3; simp only [yB, yA] at hO9; exact hO9
     refine aU (aW (aA (aB ?_))); refine aF (bC rfl rfl (by omega) (by omega)) ?_; refine aG (aC (bY ?_)); refine ⟨⟨j + 1, n2, sa2, sc2, so2⟩, ?_, ⟨rfl, rfl, trivial⟩, ⟨rfl, rfl, rfl, rfl, rfl, rfl, trivial⟩, hE52, ?_⟩
     · (try dsimp only); omega
     try dsimp only
     simp only [yB, yA] at hc37
     refine ⟨⟨hj', hO54, ?_, hge2, hap2, hB55, hs52, hap5⟩, (by show n2 ≤ n + (j + 1); omega)⟩
     rw [pH, GH hc37, List.append_nil]; exact hO53
    refine cU rfl ?_; refine aF (CU rfl rfl) ?_; refine aC (cG (.inl (Evo.refl [] w50)) ?_); refine cP [4] (by kernel_rfl) rfl ⟨?_, trivial⟩; refine cU rfl ?_; refine aF (yO rfl rfl) ?_; refine aC (cG (.inl (Evo.refl [] w50)) ?_); refine aet 11 rfl (fun _ hS => eT rfl) (Evo.refl [] w50) ?_; refine aet 12 rfl (fun _ hS => eT rfl) (Evo.refl [] w50) ?_; refine fA (by kernel_rfl) (aA ?_); refine aE (aB (aG (aG (aF (gY rfl rfl) ?_)))); refine aC (aA (bF rfl (fun hc37 => ?_) (fun hc37 => ?_)))
    ·refine aB (aG (aG ?_)); refine aF (jZ (n := 1) rfl rfl Tryz.underlying170 rfl (by omega) iP) ?_; refine aF (aI rfl cF (aJ hB56 rfl)) ?_; refine aF (kB rfl rfl (by omega) (by omega)) ?_; refine aG ?_; refine aF (jZ (n := 1) rfl rfl Tryz.underlying170 rfl (by omega) iP) ?_; refine aF (aI rfl cF (aJ hB56 rfl)) ?_; refine aF (kB rfl rfl (by omega) (by omega)) ?_; refine aF (eN (vs := [(0, _), (1, _)]) mG rfl (cells := [_, _]) rfl) ?_; refine bL (vs := [_]) rfl jE rfl rfl rfl rfl fun b89 w90 hO91 hs92 hw93 => ?_; refine dL rfl rfl rfl rfl gR (hO53.evo0 hw93) (Src.ofOwn hO91 ⟨rfl, rfl, trivial⟩) (by omega) fun a2 c2 w106 ob2 hO3 hw109 hob110 => ?_; refine aM (aC (aW (aA (aB ?_)))); refine aF (bC rfl rfl (by omega) (by omega)) ?_; refine aG (aC (bY ?_)); refine ⟨⟨j + 1, n2 + 1, a2, c2, ob2⟩, ?_, ⟨rfl, rfl, trivial⟩, ⟨rfl, rfl, rfl, rfl, rfl, rfl, trivial⟩, ((hE52.then hw93).step hw109 hge2.mem), ?_⟩
     · (try dsimp only); omega
     try dsimp only
     refine ⟨⟨hj', ((hO54.evo0 hw93).evo hw109 hap2.own), ?_, (hge2.app (hE52.then hw93) hob110), (hap2.app (Lt.own (hO54.evo0 hw93)) hob110), (hw109.blk (hw93.blk0 hB55) hap5.nmem), hs52, (hap5.app (Lt.blk (hw93.blk0 hB55)) hob110)⟩, (by show n2 + 1 ≤ n + (j + 1); omega)⟩
     simp only [yB, yA] at hc37; rw [pH, ← List.append_assoc, kN _ (mW (pF j) l[k]), AW hc37]; have hO9 := hO3; simp only [yB, yA] at hO9; exact hO9
    refine aU (aW (aA (aB ?_))); refine aF (bC rfl rfl (by omega) (by omega)) ?_; refine aG (aC (bY ?_)); refine ⟨⟨j + 1, n2, sa2, sc2, so2⟩, ?_, ⟨rfl, rfl, trivial⟩, ⟨rfl, rfl, rfl, rfl, rfl, rfl, trivial⟩, hE52, ?_⟩
    · (try dsimp only); omega
    try dsimp only
    simp only [yB, yA] at hc37
    refine ⟨⟨hj', hO54, ?_, hge2, hap2, hB55, hs52, hap5⟩, (by show n2 ≤ n + (j + 1); omega)⟩
    rw [pH, GH hc37, List.append_nil]; exact hO53
   refine dO (cD (cD (dN (aW (aA ?_))))); refine aB ?_; refine aF (bC rfl rfl (by omega) (by omega)) ?_; refine aG (aC (bY ?_)); refine ⟨⟨k + 1, n2, sa2, sc2, so2⟩, ?_, ⟨rfl, rfl, trivial⟩, ⟨rfl, rfl, rfl, trivial⟩, hV30, ?_⟩
   · (try dsimp only); omega
   try dsimp only
   obtain rfl : j = 2 := by omega
   refine ⟨⟨hk', hcl2, ?_, hge2, hap2⟩, (by show n2 ≤ l.length + 2 * (k + 1); omega)⟩
   rw [JE hk', ← List.append_assoc]; exact hown2
  rw [List.take_of_length_le (show l.length ≤ k by omega)] at hown; have hfl := rZ l; have hn9 := pU hown; subst hn9; refine dO (cD (cD (dN (aA ?_)))); refine aE (aB (aG ?_))
  refine aK (vs := [_]) qG rfl (vA hown (HZ hv SS) (by rw [List.length_append]; omega) (fun c => foldL_in.trans (GF hS c))) rfl ?_
  rintro rv w121 hR; have hw122 := hR.evo; refine aM (aC (aA (aO (br1 ?_)))); obtain ⟨a9, c9, ob9, rfl, hO9, hg9, hl9, hcan9, heq9, hev9⟩ := hR
  exact ⟨a9, c9, ob9, rfl, hO9, Ge.fresh hV8 hg9, by rw [List.length_append] at hl9; have := rZ l; omega, hcan9, heq9, (hV8.then hw122)⟩
theorem dK : Build Tryz.prog 27 #[(0, 1), (1, 1), (2, 1), (3, 1), (4, 1), (5, 1), (6, 1), (7, 1), (8, 1)] #[.int .i64 0, .int .i32 0, .slice none 0 0, .int .i64 0, .int .i64 0, .bool false, .int .i64 0, .string ByteArray.empty, .slice none 0 0] := ⟨_, .agg #[.int .i64 0, .int .i32 0, .slice none 0 0, .int .i64 0, .int .i64 0, .bool false, .int .i64 0, .string ByteArray.empty, .slice none 0 0], Tryz.underlying27, by kernel_rfl, rfl, fun w => by kernel_rfl⟩
theorem cA : eY Tryz.prog 114 := ⟨_, Tryz.func114, by kernel_rfl, by kernel_rfl⟩
theorem kT : eY Tryz.prog 131 := ⟨_, Tryz.func131, by kernel_rfl, by kernel_rfl⟩
theorem bZ : sS Tryz.prog 67 = some (21, 1) := by kernel_rfl
def zG (w w' : World) (v : Value) (S : Int → Prop) (n : Nat) : Prop := ∃ a c ob l, v = .slice a l.length c ∧ OwnS w' 56 2 a l.length c (dZ l) ob ∧ Ge w ob ∧ Vr l ∧ (∀ c, InR c l ↔ S c) ∧ l.length ≤ n
theorem RsOut.set {X : List Nat} {w0 w w' : World} {v : Value} {S : Int → Prop} {n : Nat} (h : RsOut w w' v S n) (he : Evo X w0 w) : zG w0 w' v S n := by
  obtain ⟨a, c, ob, h1, h2, h3, h4, h5, h6, -⟩ := h
  exact ⟨a, c, ob, jP S, h1, h2, Ge.fresh he h3, vF h5, h6, h4⟩
theorem tL {S : Int → Prop} {m : List (Int × Int)} (e : jP S = m) (h1 : m.length = 1) (h2 : (m[0]'(by omega)).1 = (m[0]'(by omega)).2) : kG S = lT (m[0]'(by omega)).1 := by
  obtain ⟨⟨a, b⟩, rfl⟩ := List.length_eq_one_iff.1 h1
  have h2' : a = b := h2
  unfold kG
  rw [e]
  show (if a = b then lT a else jS [(a, b)]) = _
  rw [if_pos h2']; rfl
theorem pD {S : Int → Prop} {m : List (Int × Int)} (e : jP S = m) (h : ∀ h1 : m.length = 1, ¬ (m[0]'(by omega)).1 = (m[0]'(by omega)).2) : kG S = jS m := by
  unfold kG
  rw [e]
  match m, h with
  | [], h => rfl
  | [(a, b)], h =>
    have h2 : ¬ a = b := h rfl
    show (if a = b then lT a else jS [(a, b)]) = _
    rw [if_neg h2]
  | a :: b :: l, h => rfl
theorem or_c : ∀ c : Nat, c < 256 → ((c ||| 32 = 100 → c = 68 ∨ c = 100) ∧ (c ||| 32 = 115 → c = 83 ∨ c = 115) ∧ (c ||| 32 = 119 → c = 87 ∨ c = 119)) ∧ (c ||| 32 ≠ 100 → c ≠ 68 ∧ c ≠ 100) ∧ (c ||| 32 ≠ 115 → c ≠ 83 ∧ c ≠ 115) ∧ (c ||| 32 ≠ 119 → c ≠ 87 ∧ c ≠ 119) := by
  have h : ∀ c : Fin 256, ((c.1 ||| 32 = 100 → c.1 = 68 ∨ c.1 = 100) ∧ (c.1 ||| 32 = 115 → c.1 = 83 ∨ c.1 = 115) ∧ (c.1 ||| 32 = 119 → c.1 = 87 ∨ c.1 = 119)) ∧ (c.1 ||| 32 ≠ 100 → c.1 ≠ 68 ∧ c.1 ≠ 100) ∧ (c.1 ||| 32 ≠ 115 → c.1 ≠ 83 ∧ c.1 ≠ 115) ∧ (c.1 ||| 32 ≠ 119 → c.1 ≠ 87 ∧ c.1 ≠ 119) := by decide +kernel
  exact fun c hc => h ⟨c, hc⟩
theorem iZ {l : List (Int × Int)} (h : l.all (fun g => decide (0 ≤ g.1) && decide (g.1 ≤ g.2) && decide (g.2 ≤ 1114111)) = true) : Vr l := fun g hg => by
  have := List.all_eq_true.1 h g hg
  simp only [Bool.and_eq_true, decide_eq_true_eq] at this
  exact ⟨this.1.1, this.1.2, this.2⟩
theorem vB {c : Nat} (h : c ≠ 100 ∧ c ≠ 115 ∧ c ≠ 119 ∧ c ≠ 68 ∧ c ≠ 83 ∧ c ≠ 87) : tO c = none := by
  unfold tO; rw [if_neg h.1, if_neg h.2.1, if_neg h.2.2.1, if_neg h.2.2.2.1, if_neg h.2.2.2.2.1, if_neg h.2.2.2.2.2]
def LetOut (w w' : World) (v : Value) (o : Option (Int → Prop)) : Prop := (o = none ∧ v = .tuple #[.slice none 0 0, .bool false]) ∨ ∃ S v', o = some S ∧ v = .tuple #[v', .bool true] ∧ zG w w' v' S 8
theorem nI {w : World} {a : Option Addr} {c : Nat} {l : List (Int × Int)} {ob : Option Nat} (hO : OwnS w 56 2 a l.length c (dZ l) ob) (hv : Vr l) (hl : l.length ≤ 1000000) {S : Int → Prop} (hS : ∀ c, InR c l ↔ S c) :
    Calls Tryz.prog 113 #[.slice a l.length c] w (Ret fun v w' => TOut w w' v (kG S) ∧ Evo [] w w') := by
  refine bJ (N := 26) Tryz.func113 rfl rfl rfl ?_; refine aE (aB (dA rfl dS fun b2 w1 hB2 hs3 hw4 => ?_)); have hsz_b2 := hs3; have hG5 := Ge.new (Evo.refl [] w) hs3; have hE6 := (Evo.refl [] w).then hw4; refine aC (aA (aE (aB (aG (aK (vs := [_]) qG rfl (vA (hO.evo0 hE6) hv hl hS) rfl ?_))))); rintro _ w7 ⟨a1, c1, ob1, rfl, hO1, hg1, hml, hcan, heqS, hw8⟩; have hA9 := Apart.fresh (Lt.blk hB2) hg1
  generalize hm : jP S = m at *
  refine aM (aC (aA (aE (aE ?_)))); refine fH (by kernel_rfl) (by kernel_rfl) ?_; refine bM (fun _ hq14 => bO rfl) ?_; refine bM (fun _ hq14 => bK rfl Tryz.underlying24 rfl) ?_; refine bM (fun _ hq14 => bD rfl rfl) ?_; refine bM (fun _ hq14 => bO rfl) ?_; refine kX (t := 8) rfl (fun hs8 => ?_) (fun hs8 => ?_)
  ·have hm1 : m.length = 1 := by omega
   obtain ⟨g1, hg1', ha1, hc1⟩ := pB hO1 (i := 0) (by omega); refine qlg ?_; refine bM (fun _ hq14 => bO rfl) ?_; refine qlg ?_; refine bM (fun _ hq14 => eK (n := 0) rfl rfl ha1 fE (by omega)) ?_; refine qlg ?_; refine bM (fun _ hq14 => aD rfl gJ) ?_; refine qlg ?_; refine bM (fun _ hq14 => aI rfl cF ((((Evo.refl ([]) w7).then hq14)).cell (hc1 0 _ rfl) (by simp))) ?_; refine qlg ?_; refine bM (fun _ hq14 => bO rfl) ?_; refine qlg ?_; refine bM (fun _ hq14 => eK (n := 0) rfl rfl ha1 fE (by omega)) ?_; refine qlg ?_; refine bM (fun _ hq14 => aD rfl fG) ?_; refine qlg ?_; refine bM (fun _ hq14 => aI rfl cF ((((Evo.refl ([]) w7).then hq14)).cell (hc1 1 _ rfl) (by simp))) ?_; refine qlg ?_; refine bM (fun _ hq14 => bD rfl rfl) ?_; refine bM (fun _ hq14 => hD rfl rfl) ?_; refine fP (fun wq13 hq14 => aA ?_); have hE15 := (hE6.then hw8).then hq14; have hB17 := hq14.blk0 (hw8.blk0 hB2); refine bF rfl (fun hc18 => ?_) (fun hc18 => ?_)
   ·refine aE (aB (aG ?_)); refine aF (eK (n := 0) rfl rfl ha1 fE (by omega)) ?_; refine aF (aD rfl gJ) ?_; refine aF (aI rfl cF ((((Evo.refl ([]) w7).then hq14)).cell (hc1 0 _ rfl) (by simp))) ?_; refine aF (eN (vs := [(0, _), (1, _)]) dK rfl (cells := [_, _, _, _, _, _, _, _, _]) rfl) ?_; refine bI rfl rfl aY hB17 rfl rfl ⟨rfl, rfl, rfl, rfl, rfl, rfl, rfl, rfl, rfl, trivial⟩ fun w19 hB20 hw21 => ?_
    try simp only [cR, Nat.reduceAdd] at hB20
    refine aC (aA (aO (aN (cX rfl (ResOk.cellA rfl bQ aY hB20 rfl) ?_)))); refine ⟨?_, (hE15.step hw21 hG5.mem1)⟩; rw [tL hm hm1 (by simpa using hc18)]; exact ⟨_, [], rfl, ot_lit _ _, Fr.nil _⟩
   refine aU (aA (aE (aB (aG (aF (eN (vs := [(0, _), (2, _)]) dK rfl (cells := [_, _, _, _, _, _, _, _, _]) rfl) ?_))))); refine bI rfl rfl aY hB17 rfl rfl ⟨rfl, rfl, rfl, rfl, rfl, rfl, rfl, rfl, rfl, trivial⟩ fun w25 hB26 hw27 => ?_
   try simp only [cR, Nat.reduceAdd] at hB26
   refine aC (aA (aO (cX rfl (ResOk.cellA rfl bQ aY hB26 rfl) ?_))); refine ⟨?_, (hE15.step hw27 hG5.mem1)⟩; rw [pD hm (fun h1 => by simpa using hc18)]; exact ⟨_, _, rfl, QU ((hO1.evo0 hq14).evo hw27 hA9.symm.own1) (by omega), ge_fr (Ge.fresh hE6 hg1)⟩
  refine qln ?_; refine qln ?_; refine qln ?_; refine qln ?_; refine qln ?_; refine qln ?_; refine qln ?_; refine qln ?_; refine qln ?_; refine bM (fun _ hq14 => iE rfl rfl) ?_; refine fP (fun wq13 hq14 => aA ?_); refine cO rfl ?_; refine aU (aA (aE (aB (aG (aF (eN (vs := [(0, _), (2, _)]) dK rfl (cells := [_, _, _, _, _, _, _, _, _]) rfl) ?_))))); refine bI rfl rfl aY (hq14.blk0 (hw8.blk0 hB2)) rfl rfl ⟨rfl, rfl, rfl, rfl, rfl, rfl, rfl, rfl, rfl, trivial⟩ fun w35 hB36 hw37 => ?_
  try simp only [cR, Nat.reduceAdd] at hB36
  refine aC (aA (aO (cX rfl (ResOk.cellA rfl bQ aY hB36 rfl) ?_))); refine ⟨?_, (((hE6.then hw8).then hq14).step hw37 hG5.mem1)⟩; rw [pD hm (fun h1 => by omega)]; exact ⟨_, _, rfl, QU ((hO1.evo0 hq14).evo hw37 hA9.symm.own1) (by omega), ge_fr (Ge.fresh hE6 hg1)⟩
theorem rS {w w' : World} {v : Value} {S : Int → Prop} {n m : Nat} (h : zG w w' v S n) (hm : n ≤ m) : zG w w' v S m := by
  obtain ⟨a, c, ob, l, h1, h2, h3, h4, h5, h6⟩ := h
  exact ⟨a, c, ob, l, h1, h2, h3, h4, h5, Nat.le_trans h6 hm⟩
theorem qA {w : World} (c : Nat) (hc : c < 256) :
    Calls Tryz.prog 133 #[.int .u8 (c : Nat)] w (Ret fun v w' => LetOut w w' v (tO c) ∧ Evo [] w w') := by
  have hor := or_c c hc; refine bJ (N := 31) Tryz.func133 rfl rfl rfl ?_; refine aE (aB (aM (aM (aC (aA (aE (aB (aM (aC (aA (aE (aE (aB (aG ?_)))))))))))))); refine aF (jI (m := c) (n := 32) rfl rfl rfl rfl rfl hc (by decide)) ?_; refine aC (aA (bR (aE (aB (aF (bD rfl rfl) ?_))))); refine aM (aC (aA (bF rfl (fun hc7 => ?_) (fun hc7 => ?_))))
  ·have hcs := hor.1.1 (by omega); refine aB (bL (vs := [_, _]) rfl bZ rfl rfl rfl rfl fun b1 w2 hO3 hs4 hw5 => ?_); have hE7 := (Evo.refl [] w).then hw5; refine aK (vs := [_]) cA rfl (dQ (es := [48, 57]) hO3 (by decide)) rfl ?_; rintro _ w8 ⟨a1, c1, ob1, rfl, hO1, hg1, hw9⟩; have hE12 := hE7.then hw9; refine aM (aC (aW (aA (aE (aE (aB (aG (aC (aA (bR (aE (aE (aB (aF (bD rfl rfl) ?_)))))))))))))); refine aM (aC (aA (bF rfl (fun hc20 => ?_) (fun hc20 => ?_))))
   ·refine aU (aA (bF rfl (fun hc20 => ?_) (fun hc20 => ?_)))
    ·refine aB (aG ?_); refine aK (vs := [_]) kT rfl (mO (l := [(48, 57)]) hO1 (iZ (by kernel_rfl)) (by decide) (fun c => Iff.rfl)) rfl ?_; rintro rv w14 hR; have hV9 := hE12; have hw15 := hR.evo; refine aM (aC (aW (aA (aE (aB (aG (aM (aM (aC (aA (aO (dC rfl rfl rfl ?_))))))))))))
     obtain rfl : c = 68 := by omega
     exact ⟨.inr ⟨_, _, rfl, rfl, rS (hR.set hV9) (by decide)⟩, (hE12.then hw15)⟩
    exfalso; omega
   refine aE (aB (aF (bD rfl rfl) ?_)); refine aM (aC (aA (bF rfl (fun hc20 => ?_) (fun hc20 => ?_))))
   ·exfalso; omega
   refine aB (aF (bD rfl rfl) ?_); refine aM (aC (aA (bF rfl (fun hc20 => ?_) (fun hc20 => ?_))))
   ·exfalso; omega
   refine aE (aE (aB (aF (bD rfl rfl) ?_))); refine aM (aC (aA (bF rfl (fun hc26 => ?_) (fun hc26 => ?_))))
   ·refine aU (aA (bF rfl (fun hc26 => ?_) (fun hc26 => ?_)))
    ·refine aU (aW (aA (aE (aB (aG (aM (aM (aC (aA (aO (dC rfl rfl rfl ?_)))))))))))
     obtain rfl : c = 100 := by omega
     exact ⟨.inr ⟨_, _, rfl, rfl, _, _, _, [(48, 57)], rfl, hO1, (Ge.fresh hE7 hg1), iZ (by kernel_rfl), fun c => Iff.rfl, by decide⟩, hE12⟩
    exfalso; omega
   exfalso; omega
  refine aE (aB (aF (bD rfl rfl) ?_)); refine aM (aC (aA (bF rfl (fun hc11 => ?_) (fun hc11 => ?_))))
  ·have hcs := hor.1.2.1 (by omega); refine aB (bL (vs := [_, _, _, _, _, _]) rfl bZ rfl rfl rfl rfl fun b18 w19 hO20 hs21 hw22 => ?_); have hE24 := (Evo.refl [] w).then hw22; refine aK (vs := [_]) cA rfl (dQ (es := [9, 10, 12, 13, 32, 32]) hO20 (by decide)) rfl ?_; rintro _ w25 ⟨a1, c1, ob1, rfl, hO1, hg1, hw26⟩; have hE29 := hE24.then hw26; refine aM (aC (aW (aA (aE (aE (aB (aG (aC (aA (bR (aE (aE (aB (aF (bD rfl rfl) ?_)))))))))))))); refine aM (aC (aA (bF rfl (fun hc20 => ?_) (fun hc20 => ?_))))
   ·exfalso; omega
   refine aE (aB (aF (bD rfl rfl) ?_)); refine aM (aC (aA (bF rfl (fun hc20 => ?_) (fun hc20 => ?_))))
   ·refine aU (aA (bF rfl (fun hc20 => ?_) (fun hc20 => ?_)))
    ·refine aB (aG ?_); refine aK (vs := [_]) kT rfl (mO (l := [(9, 10), (12, 13), (32, 32)]) hO1 (iZ (by kernel_rfl)) (by decide) (fun c => Iff.rfl)) rfl ?_; rintro rv w31 hR; have hV9 := hE29; have hw32 := hR.evo; refine aM (aC (aW (aA (aE (aB (aG (aM (aM (aC (aA (aO (dC rfl rfl rfl ?_))))))))))))
     obtain rfl : c = 83 := by omega
     exact ⟨.inr ⟨_, _, rfl, rfl, rS (hR.set hV9) (by decide)⟩, (hE29.then hw32)⟩
    exfalso; omega
   refine aB (aF (bD rfl rfl) ?_); refine aM (aC (aA (bF rfl (fun hc20 => ?_) (fun hc20 => ?_))))
   ·exfalso; omega
   refine aE (aE (aB (aF (bD rfl rfl) ?_))); refine aM (aC (aA (bF rfl (fun hc26 => ?_) (fun hc26 => ?_))))
   ·exfalso; omega
   refine aE (aB (aF (bD rfl rfl) ?_)); refine aM (aC (aA (bF rfl (fun hc26 => ?_) (fun hc26 => ?_))))
   ·refine aU (aA (bF rfl (fun hc26 => ?_) (fun hc26 => ?_)))
    ·refine aU (aW (aA (aE (aB (aG (aM (aM (aC (aA (aO (dC rfl rfl rfl ?_)))))))))))
     obtain rfl : c = 115 := by omega
     exact ⟨.inr ⟨_, _, rfl, rfl, _, _, _, [(9, 10), (12, 13), (32, 32)], rfl, hO1, (Ge.fresh hE24 hg1), iZ (by kernel_rfl), fun c => Iff.rfl, by decide⟩, hE29⟩
    exfalso; omega
   exfalso; omega
  refine aE (aB (aF (bD rfl rfl) ?_)); refine aM (aC (aA (bF rfl (fun hc15 => ?_) (fun hc15 => ?_))))
  ·have hcs := hor.1.2.2 (by omega); refine aB (bL (vs := [_, _, _, _, _, _, _, _]) rfl bZ rfl rfl rfl rfl fun b35 w36 hO37 hs38 hw39 => ?_); have hE41 := (Evo.refl [] w).then hw39; refine aK (vs := [_]) cA rfl (dQ (es := [48, 57, 65, 90, 95, 95, 97, 122]) hO37 (by decide)) rfl ?_; rintro _ w42 ⟨a1, c1, ob1, rfl, hO1, hg1, hw43⟩; have hE46 := hE41.then hw43; refine aM (aC (aW (aA (aE (aE (aB (aG (aC (aA (bR (aE (aE (aB (aF (bD rfl rfl) ?_)))))))))))))); refine aM (aC (aA (bF rfl (fun hc20 => ?_) (fun hc20 => ?_))))
   ·exfalso; omega
   refine aE (aB (aF (bD rfl rfl) ?_)); refine aM (aC (aA (bF rfl (fun hc20 => ?_) (fun hc20 => ?_))))
   ·exfalso; omega
   refine aB (aF (bD rfl rfl) ?_); refine aM (aC (aA (bF rfl (fun hc20 => ?_) (fun hc20 => ?_))))
   ·refine aB (aG ?_); refine aK (vs := [_]) kT rfl (mO (l := [(48, 57), (65, 90), (95, 95), (97, 122)]) hO1 (iZ (by kernel_rfl)) (by decide) (fun c => Iff.rfl)) rfl ?_; rintro rv w48 hR; have hV9 := hE46; have hw49 := hR.evo; refine aM (aC (aW (aA (aE (aB (aG (aM (aM (aC (aA (aO (dC rfl rfl rfl ?_))))))))))))
    obtain rfl : c = 87 := by omega
    exact ⟨.inr ⟨_, _, rfl, rfl, rS (hR.set hV9) (by decide)⟩, (hE46.then hw49)⟩
   refine aE (aE (aB (aF (bD rfl rfl) ?_))); refine aM (aC (aA (bF rfl (fun hc26 => ?_) (fun hc26 => ?_))))
   ·exfalso; omega
   refine aE (aB (aF (bD rfl rfl) ?_)); refine aM (aC (aA (bF rfl (fun hc26 => ?_) (fun hc26 => ?_))))
   ·exfalso; omega
   refine aB (aF (bD rfl rfl) ?_); refine aM (aC (aA (bF rfl (fun hc26 => ?_) (fun hc26 => ?_))))
   ·refine aU (aW (aA (aE (aB (aG (aM (aM (aC (aA (aO (dC rfl rfl rfl ?_)))))))))))
    obtain rfl : c = 119 := by omega
    exact ⟨.inr ⟨_, _, rfl, rfl, _, _, _, [(48, 57), (65, 90), (95, 95), (97, 122)], rfl, hO1, (Ge.fresh hE41 hg1), iZ (by kernel_rfl), fun c => Iff.rfl, by decide⟩, hE46⟩
   exfalso; omega
  refine aE (aB (aM (aM (aC (aA (aO (aX (aN (dC rfl rfl rfl ?_)))))))))
  exact ⟨.inl ⟨vB (by have := hor.2; omega), rfl⟩, (Evo.refl [] w)⟩
theorem qL : gA Tryz.prog 62 0 = some 0 := by kernel_rfl
theorem eQ : gA Tryz.prog 64 2 = some 2 := by kernel_rfl
theorem iL : eY Tryz.prog 113 := ⟨_, Tryz.func113, by kernel_rfl, by kernel_rfl⟩
theorem uK : eY Tryz.prog 130 := ⟨_, Tryz.func130, by kernel_rfl, by kernel_rfl⟩
theorem nam0 {n : ByteArray} (h : n = asc [97, 108, 110, 117, 109]) : jO n = some (rs [(48, 57), (65, 90), (97, 122)]) := by unfold jO; rw [if_pos h]
theorem nam1 {n : ByteArray} (h0 : ¬ n = asc [97, 108, 110, 117, 109]) (h : n = asc [97, 108, 112, 104, 97]) : jO n = some (rs [(65, 90), (97, 122)]) := by unfold jO; rw [if_neg h0, if_pos h]
theorem nam2 {n : ByteArray} (h0 : ¬ n = asc [97, 108, 110, 117, 109]) (h1 : ¬ n = asc [97, 108, 112, 104, 97]) (h : n = asc [97, 115, 99, 105, 105]) : jO n = some (rs [(0, 127)]) := by unfold jO; rw [if_neg h0, if_neg h1, if_pos h]
theorem nam3 {n : ByteArray} (h0 : ¬ n = asc [97, 108, 110, 117, 109]) (h1 : ¬ n = asc [97, 108, 112, 104, 97]) (h2 : ¬ n = asc [97, 115, 99, 105, 105]) (h : n = asc [98, 108, 97, 110, 107]) : jO n = some (rs [(9, 9), (32, 32)]) := by unfold jO; rw [if_neg h0, if_neg h1, if_neg h2, if_pos h]
theorem nam4 {n : ByteArray} (h0 : ¬ n = asc [97, 108, 110, 117, 109]) (h1 : ¬ n = asc [97, 108, 112, 104, 97]) (h2 : ¬ n = asc [97, 115, 99, 105, 105]) (h3 : ¬ n = asc [98, 108, 97, 110, 107]) (h : n = asc [99, 110, 116, 114, 108]) : jO n = some (rs [(0, 31), (127, 127)]) := by unfold jO; rw [if_neg h0, if_neg h1, if_neg h2, if_neg h3, if_pos h]
theorem nam5 {n : ByteArray} (h0 : ¬ n = asc [97, 108, 110, 117, 109]) (h1 : ¬ n = asc [97, 108, 112, 104, 97]) (h2 : ¬ n = asc [97, 115, 99, 105, 105]) (h3 : ¬ n = asc [98, 108, 97, 110, 107]) (h4 : ¬ n = asc [99, 110, 116, 114, 108]) (h : n = asc [100, 105, 103, 105, 116]) : jO n = some (rs [(48, 57)]) := by unfold jO; rw [if_neg h0, if_neg h1, if_neg h2, if_neg h3, if_neg h4, if_pos h]
theorem nam6 {n : ByteArray} (h0 : ¬ n = asc [97, 108, 110, 117, 109]) (h1 : ¬ n = asc [97, 108, 112, 104, 97]) (h2 : ¬ n = asc [97, 115, 99, 105, 105]) (h3 : ¬ n = asc [98, 108, 97, 110, 107]) (h4 : ¬ n = asc [99, 110, 116, 114, 108]) (h5 : ¬ n = asc [100, 105, 103, 105, 116]) (h : n = asc [103, 114, 97, 112, 104]) : jO n = some (rs [(33, 126)]) := by unfold jO; rw [if_neg h0, if_neg h1, if_neg h2, if_neg h3, if_neg h4, if_neg h5, if_pos h]
theorem nam7 {n : ByteArray} (h0 : ¬ n = asc [97, 108, 110, 117, 109]) (h1 : ¬ n = asc [97, 108, 112, 104, 97]) (h2 : ¬ n = asc [97, 115, 99, 105, 105]) (h3 : ¬ n = asc [98, 108, 97, 110, 107]) (h4 : ¬ n = asc [99, 110, 116, 114, 108]) (h5 : ¬ n = asc [100, 105, 103, 105, 116]) (h6 : ¬ n = asc [103, 114, 97, 112, 104]) (h : n = asc [108, 111, 119, 101, 114]) : jO n = some (rs [(97, 122)]) := by unfold jO; rw [if_neg h0, if_neg h1, if_neg h2, if_neg h3, if_neg h4, if_neg h5, if_neg h6, if_pos h]
theorem nam8 {n : ByteArray} (h0 : ¬ n = asc [97, 108, 110, 117, 109]) (h1 : ¬ n = asc [97, 108, 112, 104, 97]) (h2 : ¬ n = asc [97, 115, 99, 105, 105]) (h3 : ¬ n = asc [98, 108, 97, 110, 107]) (h4 : ¬ n = asc [99, 110, 116, 114, 108]) (h5 : ¬ n = asc [100, 105, 103, 105, 116]) (h6 : ¬ n = asc [103, 114, 97, 112, 104]) (h7 : ¬ n = asc [108, 111, 119, 101, 114]) (h : n = asc [112, 114, 105, 110, 116]) : jO n = some (rs [(32, 126)]) := by unfold jO; rw [if_neg h0, if_neg h1, if_neg h2, if_neg h3, if_neg h4, if_neg h5, if_neg h6, if_neg h7, if_pos h]
theorem nam9 {n : ByteArray} (h0 : ¬ n = asc [97, 108, 110, 117, 109]) (h1 : ¬ n = asc [97, 108, 112, 104, 97]) (h2 : ¬ n = asc [97, 115, 99, 105, 105]) (h3 : ¬ n = asc [98, 108, 97, 110, 107]) (h4 : ¬ n = asc [99, 110, 116, 114, 108]) (h5 : ¬ n = asc [100, 105, 103, 105, 116]) (h6 : ¬ n = asc [103, 114, 97, 112, 104]) (h7 : ¬ n = asc [108, 111, 119, 101, 114]) (h8 : ¬ n = asc [112, 114, 105, 110, 116]) (h : n = asc [112, 117, 110, 99, 116]) : jO n = some (rs [(33, 47), (58, 64), (91, 96), (123, 126)]) := by unfold jO; rw [if_neg h0, if_neg h1, if_neg h2, if_neg h3, if_neg h4, if_neg h5, if_neg h6, if_neg h7, if_neg h8, if_pos h]
theorem nam10 {n : ByteArray} (h0 : ¬ n = asc [97, 108, 110, 117, 109]) (h1 : ¬ n = asc [97, 108, 112, 104, 97]) (h2 : ¬ n = asc [97, 115, 99, 105, 105]) (h3 : ¬ n = asc [98, 108, 97, 110, 107]) (h4 : ¬ n = asc [99, 110, 116, 114, 108]) (h5 : ¬ n = asc [100, 105, 103, 105, 116]) (h6 : ¬ n = asc [103, 114, 97, 112, 104]) (h7 : ¬ n = asc [108, 111, 119, 101, 114]) (h8 : ¬ n = asc [112, 114, 105, 110, 116]) (h9 : ¬ n = asc [112, 117, 110, 99, 116]) (h : n = asc [115, 112, 97, 99, 101]) : jO n = some (rs [(9, 13), (32, 32)]) := by unfold jO; rw [if_neg h0, if_neg h1, if_neg h2, if_neg h3, if_neg h4, if_neg h5, if_neg h6, if_neg h7, if_neg h8, if_neg h9, if_pos h]
theorem nam11 {n : ByteArray} (h0 : ¬ n = asc [97, 108, 110, 117, 109]) (h1 : ¬ n = asc [97, 108, 112, 104, 97]) (h2 : ¬ n = asc [97, 115, 99, 105, 105]) (h3 : ¬ n = asc [98, 108, 97, 110, 107]) (h4 : ¬ n = asc [99, 110, 116, 114, 108]) (h5 : ¬ n = asc [100, 105, 103, 105, 116]) (h6 : ¬ n = asc [103, 114, 97, 112, 104]) (h7 : ¬ n = asc [108, 111, 119, 101, 114]) (h8 : ¬ n = asc [112, 114, 105, 110, 116]) (h9 : ¬ n = asc [112, 117, 110, 99, 116]) (h10 : ¬ n = asc [115, 112, 97, 99, 101]) (h : n = asc [117, 112, 112, 101, 114]) : jO n = some (rs [(65, 90)]) := by unfold jO; rw [if_neg h0, if_neg h1, if_neg h2, if_neg h3, if_neg h4, if_neg h5, if_neg h6, if_neg h7, if_neg h8, if_neg h9, if_neg h10, if_pos h]
theorem nam12 {n : ByteArray} (h0 : ¬ n = asc [97, 108, 110, 117, 109]) (h1 : ¬ n = asc [97, 108, 112, 104, 97]) (h2 : ¬ n = asc [97, 115, 99, 105, 105]) (h3 : ¬ n = asc [98, 108, 97, 110, 107]) (h4 : ¬ n = asc [99, 110, 116, 114, 108]) (h5 : ¬ n = asc [100, 105, 103, 105, 116]) (h6 : ¬ n = asc [103, 114, 97, 112, 104]) (h7 : ¬ n = asc [108, 111, 119, 101, 114]) (h8 : ¬ n = asc [112, 114, 105, 110, 116]) (h9 : ¬ n = asc [112, 117, 110, 99, 116]) (h10 : ¬ n = asc [115, 112, 97, 99, 101]) (h11 : ¬ n = asc [117, 112, 112, 101, 114]) (h : n = asc [119, 111, 114, 100]) : jO n = some (rs [(48, 57), (65, 90), (95, 95), (97, 122)]) := by unfold jO; rw [if_neg h0, if_neg h1, if_neg h2, if_neg h3, if_neg h4, if_neg h5, if_neg h6, if_neg h7, if_neg h8, if_neg h9, if_neg h10, if_neg h11, if_pos h]
theorem nam13 {n : ByteArray} (h0 : ¬ n = asc [97, 108, 110, 117, 109]) (h1 : ¬ n = asc [97, 108, 112, 104, 97]) (h2 : ¬ n = asc [97, 115, 99, 105, 105]) (h3 : ¬ n = asc [98, 108, 97, 110, 107]) (h4 : ¬ n = asc [99, 110, 116, 114, 108]) (h5 : ¬ n = asc [100, 105, 103, 105, 116]) (h6 : ¬ n = asc [103, 114, 97, 112, 104]) (h7 : ¬ n = asc [108, 111, 119, 101, 114]) (h8 : ¬ n = asc [112, 114, 105, 110, 116]) (h9 : ¬ n = asc [112, 117, 110, 99, 116]) (h10 : ¬ n = asc [115, 112, 97, 99, 101]) (h11 : ¬ n = asc [117, 112, 112, 101, 114]) (h12 : ¬ n = asc [119, 111, 114, 100]) (h : n = asc [120, 100, 105, 103, 105, 116]) : jO n = some (rs [(48, 57), (65, 70), (97, 102)]) := by unfold jO; rw [if_neg h0, if_neg h1, if_neg h2, if_neg h3, if_neg h4, if_neg h5, if_neg h6, if_neg h7, if_neg h8, if_neg h9, if_neg h10, if_neg h11, if_neg h12, if_pos h]
theorem namN {n : ByteArray} (h0 : ¬ n = asc [97, 108, 110, 117, 109]) (h1 : ¬ n = asc [97, 108, 112, 104, 97]) (h2 : ¬ n = asc [97, 115, 99, 105, 105]) (h3 : ¬ n = asc [98, 108, 97, 110, 107]) (h4 : ¬ n = asc [99, 110, 116, 114, 108]) (h5 : ¬ n = asc [100, 105, 103, 105, 116]) (h6 : ¬ n = asc [103, 114, 97, 112, 104]) (h7 : ¬ n = asc [108, 111, 119, 101, 114]) (h8 : ¬ n = asc [112, 114, 105, 110, 116]) (h9 : ¬ n = asc [112, 117, 110, 99, 116]) (h10 : ¬ n = asc [115, 112, 97, 99, 101]) (h11 : ¬ n = asc [117, 112, 112, 101, 114]) (h12 : ¬ n = asc [119, 111, 114, 100]) (h13 : ¬ n = asc [120, 100, 105, 103, 105, 116])  : jO n = none := by unfold jO; rw [if_neg h0, if_neg h1, if_neg h2, if_neg h3, if_neg h4, if_neg h5, if_neg h6, if_neg h7, if_neg h8, if_neg h9, if_neg h10, if_neg h11, if_neg h12, if_neg h13]
theorem RQ {w : World} (n : ByteArray) :
    Calls Tryz.prog 146 #[.string n] w (Ret fun v w' => LetOut w w' v (jO n) ∧ Evo [] w w') := by
  refine bJ (N := 61) Tryz.func146 rfl rfl rfl ?_; refine aE (aB (aM (aM (aC (aA (aE (aE (aB (aG (aC (aA (bR (aE (aB (aF (gQ rfl rfl) ?_))))))))))))))); refine aM (aC (aA (bF rfl (fun hc5 => ?_) (fun hc5 => ?_))))
  ·refine aE (aB (bL (vs := [_, _, _, _, _, _]) rfl bZ rfl rfl rfl rfl fun b1 w2 hO3 hs4 hw5 => ?_)); have hE7 := (Evo.refl [] w).then hw5; refine aK (vs := [_]) cA rfl (dQ (es := [48, 57, 65, 90, 97, 122]) hO3 (by decide)) rfl ?_; rintro _ w8 ⟨a1, c1, ob1, rfl, hO1, hg1, hw9⟩; refine aM (aM (aC (aA (aO (aX (aN (dC rfl rfl rfl ?_))))))); exact ⟨.inr ⟨_, _, nam0  hc5, rfl, _, _, _, [(48, 57), (65, 90), (97, 122)], rfl, hO1, (Ge.fresh hE7 hg1), iZ (by kernel_rfl), fun c => Iff.rfl, by decide⟩, (hE7.then hw9)⟩
  refine aE (aB (aF (gQ rfl rfl) ?_)); refine aM (aC (aA (bF rfl (fun hc9 => ?_) (fun hc9 => ?_))))
  ·refine aE (aB (bL (vs := [_, _, _, _]) rfl bZ rfl rfl rfl rfl fun b14 w15 hO16 hs17 hw18 => ?_)); have hE20 := (Evo.refl [] w).then hw18; refine aK (vs := [_]) cA rfl (dQ (es := [65, 90, 97, 122]) hO16 (by decide)) rfl ?_; rintro _ w21 ⟨a1, c1, ob1, rfl, hO1, hg1, hw22⟩; refine aM (aM (aC (aA (aO (aX (aN (dC rfl rfl rfl ?_))))))); exact ⟨.inr ⟨_, _, nam1 hc5 hc9, rfl, _, _, _, [(65, 90), (97, 122)], rfl, hO1, (Ge.fresh hE20 hg1), iZ (by kernel_rfl), fun c => Iff.rfl, by decide⟩, (hE20.then hw22)⟩
  refine aE (aB (aF (gQ rfl rfl) ?_)); refine aM (aC (aA (bF rfl (fun hc13 => ?_) (fun hc13 => ?_))))
  ·refine aE (aB (bL (vs := [_, _]) rfl bZ rfl rfl rfl rfl fun b27 w28 hO29 hs30 hw31 => ?_)); have hE33 := (Evo.refl [] w).then hw31; refine aK (vs := [_]) cA rfl (dQ (es := [0, 127]) hO29 (by decide)) rfl ?_; rintro _ w34 ⟨a1, c1, ob1, rfl, hO1, hg1, hw35⟩; refine aM (aM (aC (aA (aO (aX (aN (dC rfl rfl rfl ?_))))))); exact ⟨.inr ⟨_, _, nam2 hc5 hc9 hc13, rfl, _, _, _, [(0, 127)], rfl, hO1, (Ge.fresh hE33 hg1), iZ (by kernel_rfl), fun c => Iff.rfl, by decide⟩, (hE33.then hw35)⟩
  refine aE (aB (aF (gQ rfl rfl) ?_)); refine aM (aC (aA (bF rfl (fun hc17 => ?_) (fun hc17 => ?_))))
  ·refine aE (aB (bL (vs := [_, _, _, _]) rfl bZ rfl rfl rfl rfl fun b40 w41 hO42 hs43 hw44 => ?_)); have hE46 := (Evo.refl [] w).then hw44; refine aK (vs := [_]) cA rfl (dQ (es := [9, 9, 32, 32]) hO42 (by decide)) rfl ?_; rintro _ w47 ⟨a1, c1, ob1, rfl, hO1, hg1, hw48⟩; refine aM (aM (aC (aA (aO (aX (aN (dC rfl rfl rfl ?_))))))); exact ⟨.inr ⟨_, _, nam3 hc5 hc9 hc13 hc17, rfl, _, _, _, [(9, 9), (32, 32)], rfl, hO1, (Ge.fresh hE46 hg1), iZ (by kernel_rfl), fun c => Iff.rfl, by decide⟩, (hE46.then hw48)⟩
  refine aE (aB (aF (gQ rfl rfl) ?_)); refine aM (aC (aA (bF rfl (fun hc21 => ?_) (fun hc21 => ?_))))
  ·refine aE (aB (bL (vs := [_, _, _, _]) rfl bZ rfl rfl rfl rfl fun b53 w54 hO55 hs56 hw57 => ?_)); have hE59 := (Evo.refl [] w).then hw57; refine aK (vs := [_]) cA rfl (dQ (es := [0, 31, 127, 127]) hO55 (by decide)) rfl ?_; rintro _ w60 ⟨a1, c1, ob1, rfl, hO1, hg1, hw61⟩; refine aM (aM (aC (aA (aO (aX (aN (dC rfl rfl rfl ?_))))))); exact ⟨.inr ⟨_, _, nam4 hc5 hc9 hc13 hc17 hc21, rfl, _, _, _, [(0, 31), (127, 127)], rfl, hO1, (Ge.fresh hE59 hg1), iZ (by kernel_rfl), fun c => Iff.rfl, by decide⟩, (hE59.then hw61)⟩
  refine aE (aB (aF (gQ rfl rfl) ?_)); refine aM (aC (aA (bF rfl (fun hc25 => ?_) (fun hc25 => ?_))))
  ·refine aE (aB (bL (vs := [_, _]) rfl bZ rfl rfl rfl rfl fun b66 w67 hO68 hs69 hw70 => ?_)); have hE72 := (Evo.refl [] w).then hw70; refine aK (vs := [_]) cA rfl (dQ (es := [48, 57]) hO68 (by decide)) rfl ?_; rintro _ w73 ⟨a1, c1, ob1, rfl, hO1, hg1, hw74⟩; refine aM (aM (aC (aA (aO (aX (aN (dC rfl rfl rfl ?_))))))); exact ⟨.inr ⟨_, _, nam5 hc5 hc9 hc13 hc17 hc21 hc25, rfl, _, _, _, [(48, 57)], rfl, hO1, (Ge.fresh hE72 hg1), iZ (by kernel_rfl), fun c => Iff.rfl, by decide⟩, (hE72.then hw74)⟩
  refine aE (aB (aF (gQ rfl rfl) ?_)); refine aM (aC (aA (bF rfl (fun hc29 => ?_) (fun hc29 => ?_))))
  ·refine aE (aB (bL (vs := [_, _]) rfl bZ rfl rfl rfl rfl fun b79 w80 hO81 hs82 hw83 => ?_)); have hE85 := (Evo.refl [] w).then hw83; refine aK (vs := [_]) cA rfl (dQ (es := [33, 126]) hO81 (by decide)) rfl ?_; rintro _ w86 ⟨a1, c1, ob1, rfl, hO1, hg1, hw87⟩; refine aM (aM (aC (aA (aO (aX (aN (dC rfl rfl rfl ?_))))))); exact ⟨.inr ⟨_, _, nam6 hc5 hc9 hc13 hc17 hc21 hc25 hc29, rfl, _, _, _, [(33, 126)], rfl, hO1, (Ge.fresh hE85 hg1), iZ (by kernel_rfl), fun c => Iff.rfl, by decide⟩, (hE85.then hw87)⟩
  refine aE (aB (aF (gQ rfl rfl) ?_)); refine aM (aC (aA (bF rfl (fun hc33 => ?_) (fun hc33 => ?_))))
  ·refine aE (aB (bL (vs := [_, _]) rfl bZ rfl rfl rfl rfl fun b92 w93 hO94 hs95 hw96 => ?_)); have hE98 := (Evo.refl [] w).then hw96; refine aK (vs := [_]) cA rfl (dQ (es := [97, 122]) hO94 (by decide)) rfl ?_; rintro _ w99 ⟨a1, c1, ob1, rfl, hO1, hg1, hw100⟩; refine aM (aM (aC (aA (aO (aX (aN (dC rfl rfl rfl ?_))))))); exact ⟨.inr ⟨_, _, nam7 hc5 hc9 hc13 hc17 hc21 hc25 hc29 hc33, rfl, _, _, _, [(97, 122)], rfl, hO1, (Ge.fresh hE98 hg1), iZ (by kernel_rfl), fun c => Iff.rfl, by decide⟩, (hE98.then hw100)⟩
  refine aE (aB (aF (gQ rfl rfl) ?_)); refine aM (aC (aA (bF rfl (fun hc37 => ?_) (fun hc37 => ?_))))
  ·refine aE (aB (bL (vs := [_, _]) rfl bZ rfl rfl rfl rfl fun b105 w106 hO107 hs108 hw109 => ?_)); have hE111 := (Evo.refl [] w).then hw109; refine aK (vs := [_]) cA rfl (dQ (es := [32, 126]) hO107 (by decide)) rfl ?_; rintro _ w112 ⟨a1, c1, ob1, rfl, hO1, hg1, hw113⟩; refine aM (aM (aC (aA (aO (aX (aN (dC rfl rfl rfl ?_))))))); exact ⟨.inr ⟨_, _, nam8 hc5 hc9 hc13 hc17 hc21 hc25 hc29 hc33 hc37, rfl, _, _, _, [(32, 126)], rfl, hO1, (Ge.fresh hE111 hg1), iZ (by kernel_rfl), fun c => Iff.rfl, by decide⟩, (hE111.then hw113)⟩
  refine aE (aB (aF (gQ rfl rfl) ?_)); refine aM (aC (aA (bF rfl (fun hc41 => ?_) (fun hc41 => ?_))))
  ·refine aE (aB (bL (vs := [_, _, _, _, _, _, _, _]) rfl bZ rfl rfl rfl rfl fun b118 w119 hO120 hs121 hw122 => ?_)); have hE124 := (Evo.refl [] w).then hw122; refine aK (vs := [_]) cA rfl (dQ (es := [33, 47, 58, 64, 91, 96, 123, 126]) hO120 (by decide)) rfl ?_; rintro _ w125 ⟨a1, c1, ob1, rfl, hO1, hg1, hw126⟩; refine aM (aM (aC (aA (aO (aX (aN (dC rfl rfl rfl ?_))))))); exact ⟨.inr ⟨_, _, nam9 hc5 hc9 hc13 hc17 hc21 hc25 hc29 hc33 hc37 hc41, rfl, _, _, _, [(33, 47), (58, 64), (91, 96), (123, 126)], rfl, hO1, (Ge.fresh hE124 hg1), iZ (by kernel_rfl), fun c => Iff.rfl, by decide⟩, (hE124.then hw126)⟩
  refine aE (aB (aF (gQ rfl rfl) ?_)); refine aM (aC (aA (bF rfl (fun hc45 => ?_) (fun hc45 => ?_))))
  ·refine aE (aB (bL (vs := [_, _, _, _]) rfl bZ rfl rfl rfl rfl fun b131 w132 hO133 hs134 hw135 => ?_)); have hE137 := (Evo.refl [] w).then hw135; refine aK (vs := [_]) cA rfl (dQ (es := [9, 13, 32, 32]) hO133 (by decide)) rfl ?_; rintro _ w138 ⟨a1, c1, ob1, rfl, hO1, hg1, hw139⟩; refine aM (aM (aC (aA (aO (aX (aN (dC rfl rfl rfl ?_))))))); exact ⟨.inr ⟨_, _, nam10 hc5 hc9 hc13 hc17 hc21 hc25 hc29 hc33 hc37 hc41 hc45, rfl, _, _, _, [(9, 13), (32, 32)], rfl, hO1, (Ge.fresh hE137 hg1), iZ (by kernel_rfl), fun c => Iff.rfl, by decide⟩, (hE137.then hw139)⟩
  refine aE (aB (aF (gQ rfl rfl) ?_)); refine aM (aC (aA (bF rfl (fun hc49 => ?_) (fun hc49 => ?_))))
  ·refine aE (aB (bL (vs := [_, _]) rfl bZ rfl rfl rfl rfl fun b144 w145 hO146 hs147 hw148 => ?_)); have hE150 := (Evo.refl [] w).then hw148; refine aK (vs := [_]) cA rfl (dQ (es := [65, 90]) hO146 (by decide)) rfl ?_; rintro _ w151 ⟨a1, c1, ob1, rfl, hO1, hg1, hw152⟩; refine aM (aM (aC (aA (aO (aX (aN (dC rfl rfl rfl ?_))))))); exact ⟨.inr ⟨_, _, nam11 hc5 hc9 hc13 hc17 hc21 hc25 hc29 hc33 hc37 hc41 hc45 hc49, rfl, _, _, _, [(65, 90)], rfl, hO1, (Ge.fresh hE150 hg1), iZ (by kernel_rfl), fun c => Iff.rfl, by decide⟩, (hE150.then hw152)⟩
  refine aE (aB (aF (gQ rfl rfl) ?_)); refine aM (aC (aA (bF rfl (fun hc53 => ?_) (fun hc53 => ?_))))
  ·refine aE (aB (bL (vs := [_, _, _, _, _, _, _, _]) rfl bZ rfl rfl rfl rfl fun b157 w158 hO159 hs160 hw161 => ?_)); have hE163 := (Evo.refl [] w).then hw161; refine aK (vs := [_]) cA rfl (dQ (es := [48, 57, 65, 90, 95, 95, 97, 122]) hO159 (by decide)) rfl ?_; rintro _ w164 ⟨a1, c1, ob1, rfl, hO1, hg1, hw165⟩; refine aM (aM (aC (aA (aO (aX (aN (dC rfl rfl rfl ?_))))))); exact ⟨.inr ⟨_, _, nam12 hc5 hc9 hc13 hc17 hc21 hc25 hc29 hc33 hc37 hc41 hc45 hc49 hc53, rfl, _, _, _, [(48, 57), (65, 90), (95, 95), (97, 122)], rfl, hO1, (Ge.fresh hE163 hg1), iZ (by kernel_rfl), fun c => Iff.rfl, by decide⟩, (hE163.then hw165)⟩
  refine aE (aB (aF (gQ rfl rfl) ?_)); refine aM (aC (aA (bF rfl (fun hc57 => ?_) (fun hc57 => ?_))))
  ·refine aE (aB (bL (vs := [_, _, _, _, _, _]) rfl bZ rfl rfl rfl rfl fun b170 w171 hO172 hs173 hw174 => ?_)); have hE176 := (Evo.refl [] w).then hw174; refine aK (vs := [_]) cA rfl (dQ (es := [48, 57, 65, 70, 97, 102]) hO172 (by decide)) rfl ?_; rintro _ w177 ⟨a1, c1, ob1, rfl, hO1, hg1, hw178⟩; refine aM (aM (aC (aA (aO (aX (aN (dC rfl rfl rfl ?_))))))); exact ⟨.inr ⟨_, _, nam13 hc5 hc9 hc13 hc17 hc21 hc25 hc29 hc33 hc37 hc41 hc45 hc49 hc53 hc57, rfl, _, _, _, [(48, 57), (65, 70), (97, 102)], rfl, hO1, (Ge.fresh hE176 hg1), iZ (by kernel_rfl), fun c => Iff.rfl, by decide⟩, (hE176.then hw178)⟩
  refine aU (aW (aA (aE (aB (aM (aM (aC (aA (aO (dC rfl rfl rfl ?_)))))))))); exact ⟨.inl ⟨namN hc5 hc9 hc13 hc17 hc21 hc25 hc29 hc33 hc37 hc41 hc45 hc49 hc53 hc57, rfl⟩, (Evo.refl [] w)⟩
theorem litS (f : Fl) (c : Int) : lX f c = kG (if f.fold = true then nG (fun x => x = c) else fun x => x = c) := rfl
theorem PH (c x : Int) : InR x [(c, c)] ↔ x = c := by rw [jX]; show c ≤ x ∧ x ≤ c ↔ _; omega
theorem CE {w : World} {b : Nat} {s : ByteArray} {st : PS} {a : Option Addr} {c : Nat} {ob : Option Nat} (hR : RdAt w b s st a c ob) (r : Int) (h0 : 0 ≤ r) (h1 : r ≤ 1114111) :
    Calls Tryz.prog 116 #[.pointer (some ⟨b, 0, none⟩), .int .i32 r] w (Ret fun v w' => TOut w w' v (lX st.now r) ∧ Evo [] w w') := by
  have hap := hR.ap
  have hvr : Vr [(r, r)] := fun g hg => by rw [List.mem_singleton.1 hg]; exact ⟨h0, Int.le_refl _, h1⟩
  refine bJ (N := 19) Tryz.func116 rfl rfl rfl ?_; refine aE (aB (dA rfl dS fun b4 w1 hB2 hs3 hw4 => ?_)); have hsz_b4 := hs3; have hG7 := Ge.new (Evo.refl [] w) hs3; refine aC (aA (aE (aB (aG (aG (bL (vs := [_, _]) rfl bZ rfl rfl rfl rfl fun b11 w12 hO13 hs14 hw15 => ?_)))))); refine aK (vs := [_]) cA rfl (dQ (es := [r, r]) hO13 (by simp)) rfl ?_; rintro _ w24 ⟨a1, c1, ob1, rfl, hO1, hg1, hw25⟩; have hE31 := (((Evo.refl [] w).then hw4).then hw15).then hw25; have hB34 := hw25.blk0 (hw15.blk0 hB2); refine aM (aC (aA (aE (aE (aB (aG (aF (aP rfl) (aF (aD rfl eQ) (aF (aD rfl qL) (aF (aI rfl dX (aJ (hw25.blk0 (hw15.blk0 (hw4.blk0 hR.blk))) rfl)) (aC (aA (fW rfl (fun hc14 => ?_) (fun hc14 => ?_))))))))))))))
  ·have hl9 : lX st.now r = kG (nG fun x => x = r) := by unfold lX; rw [if_pos hc14]
   refine aB (aG ?_); refine aK (vs := [_]) uK rfl (AU (l := [(r, r)]) hO1 hvr (by simp) (PH r)) rfl ?_; rintro rv w36 ⟨a2, c2, ob2, rfl, hO2, hg2, hl2, hcan2, heq2, hw37⟩; refine aM (aC (aA (aE (aB (aG ?_)))))
   refine aK (vs := [_]) iL rfl (nI hO2 (vF hcan2) (by have : ([(r, r)] : List (Int × Int)).length = 1 := rfl; omega) heq2) rfl ?_
   rintro rv w48 ⟨hT, hw49⟩; have hV9 := (hE31.then hw37); have hb49 := eW (hw37.blk0 hB34); obtain ⟨vs, bs, rfl, hOT, hFr⟩ := hT; obtain ⟨ra, rc, ka, kc, rfl⟩ := id hOT.nine; refine bI rfl rfl aY (hw49.blk0 (hw37.blk0 hB34)) rfl rfl ⟨rfl, rfl, rfl, rfl, rfl, rfl, rfl, rfl, rfl, trivial⟩ fun w56 hB57 hw58 => ?_
   try simp only [cR, Nat.reduceAdd] at hB57
   refine aC (aA (aO (cX rfl (ResOk.cellA rfl bQ aY hB57 rfl) ?_))); refine ⟨?_, (((hE31.then hw37).then hw49).step hw58 hG7.mem1)⟩; rw [hl9]; refine ⟨_, bs, rfl, hOT.evo ((Evo.refl ([b4]) w48).step hw58 (fun y hy => .inl hy)) (fun b hb h => ?_), hFr.older hV9.size⟩
   have := hFr.ge b hb; rw [List.mem_singleton.1 h] at this; omega
  have hl9 : lX st.now r = kG (fun x => x = r) := by unfold lX; rw [if_neg (by simp [hc14])]
  refine aU (aA (aE (aB (aG ?_)))); refine aK (vs := [_]) iL rfl (nI (l := [(r, r)]) hO1 hvr (by simp) (PH r)) rfl ?_; rintro rv w65 ⟨hT, hw66⟩; have hV9 := hE31; have hb49 := eW hB34; obtain ⟨vs, bs, rfl, hOT, hFr⟩ := hT; obtain ⟨ra, rc, ka, kc, rfl⟩ := id hOT.nine; refine bI rfl rfl aY (hw66.blk0 hB34) rfl rfl ⟨rfl, rfl, rfl, rfl, rfl, rfl, rfl, rfl, rfl, trivial⟩ fun w72 hB73 hw74 => ?_
  try simp only [cR, Nat.reduceAdd] at hB73
  refine aC (aA (aO (cX rfl (ResOk.cellA rfl bQ aY hB73 rfl) ?_))); refine ⟨?_, ((hE31.then hw66).step hw74 hG7.mem1)⟩; rw [hl9]; refine ⟨_, bs, rfl, hOT.evo ((Evo.refl ([b4]) w65).step hw74 (fun y hy => .inl hy)) (fun b hb h => ?_), hFr.older hV9.size⟩
  have := hFr.ge b hb; rw [List.mem_singleton.1 h] at this; omega
end Go.Proofs.YtljadkcojnlioaaGreatDoor
namespace Go.Proofs.YtljadkcojnlioaaGreatDoor
open Go.RowKit Go.W
theorem GQ {c : Int} (h : IsR c) : Utf8.encode c = bstr (dW c) := by
  unfold IsR at h
  have hv : Utf8.valid c = true := by unfold Utf8.valid; simp; omega
  unfold Utf8.encode dW jL
  rw [if_pos (show IsR c from h)]
  simp only [hv, if_true]
  by_cases h1 : c.toNat < 128
  · simp only [if_pos h1]; rfl
  · simp only [if_neg h1]
    by_cases h2 : c.toNat < 2048
    · simp only [if_pos h2]; rfl
    · simp only [if_neg h2]
      by_cases h3 : c.toNat < 65536
      · simp only [if_pos h3]; rfl
      · simp only [if_neg h3]; rfl
theorem hit_isR {s : ByteArray} {a w : Nat} (hw : 1 ≤ w) (h : Hit s a w) : IsR (dY s a w) := by
  by_cases e : IsR (dY s a w)
  · exact e
  · have := CI h
    rw [dW, if_neg e] at this
    simp at this; omega
instance (s : ByteArray) (c : In) (i : Nat) : Decidable (UO s c i) := by unfold UO; infer_instance
end Go.Proofs.YtljadkcojnlioaaGreatDoor
namespace Go.Proofs.YtljadkcojnlioaaGreatDoor
open Go.W
attribute [local irreducible] Decidable.decide
theorem vZ : eY Tryz.prog 58 := ⟨_, Tryz.func58, by kernel_rfl, by kernel_rfl⟩
theorem uG : eY Tryz.prog 150 := ⟨_, Tryz.func150, by kernel_rfl, by kernel_rfl⟩
theorem BC (l : List Nat) : (bstr l).size = l.length := by simp [bstr, ByteArray.size]
theorem FA {w : World} (r : Int) : Calls Tryz.prog 150 #[.int .i32 r] w (Ret fun v w' => v = .int .i64 (if r < 128 then 1 else if r < 2048 then 2 else if r < 65536 then 3 else 4) ∧ Evo [] w w') := by
  refine bJ (N := 12) Tryz.func150 rfl rfl rfl ?_; refine aE (aB (aM (aC (aA (aE (bR (aE (aB (aG (aF (dF rfl rfl) ?_)))))))))); refine aM (aC (aA (bF rfl (fun hc3 => ?_) (fun hc3 => ?_))))
  ·refine aE (aB (aM (aC (aA (aO (aX (aN (br1 ?_))))))))
   exact ⟨by congr 1; (repeat' split) <;> omega, (Evo.refl [] w)⟩
  refine aE (aB (aG (aF (dF rfl rfl) ?_))); refine aM (aC (aA (bF rfl (fun hc6 => ?_) (fun hc6 => ?_))))
  ·refine aE (aB (aM (aC (aA (aO (aX (aN (br1 ?_))))))))
   exact ⟨by congr 1; (repeat' split) <;> omega, (Evo.refl [] w)⟩
  refine aE (aB (aG (aF (dF rfl rfl) ?_))); refine aM (aC (aA (bF rfl (fun hc9 => ?_) (fun hc9 => ?_))))
  ·refine aE (aB (aM (aC (aA (aO (aX (aN (br1 ?_))))))))
   exact ⟨by congr 1; (repeat' split) <;> omega, (Evo.refl [] w)⟩
  refine aU (aW (aA (aE (aB (aM (aC (aA (aO (br1 ?_)))))))))
  exact ⟨by congr 1; (repeat' split) <;> omega, (Evo.refl [] w)⟩
theorem vP {w : World} (s : ByteArray) (a : Nat) (ha : a ≤ s.size) (hl : s.size ≤ 140737488355328) : Calls Tryz.prog 58 #[.string s, .int .i64 (a : Nat)] w (Ret fun v w' => v = .bool (decide (a + 3 ≤ s.size ∧ s.extract a (a + 3) = bstr [239, 191, 189])) ∧ Evo [] w w') := by
  refine bJ (N := 18) Tryz.func58 rfl rfl rfl ?_; refine aE (aB (aM (aC (aA (aE (aB (aG ?_))))))); refine aF (bC rfl rfl (by omega) (by omega)) ?_; refine aG (aF (cM rfl Tryz.underlying9 rfl) ?_); refine aF (gY rfl rfl) ?_; refine aG (aV (t := 10) rfl (fun hs10 => ?_) (fun hs10 => ?_))
  ·refine aQ (aG (aQ (aG (aQ (aG (aQ ?_)))))); refine aF (bC rfl rfl (by omega) (by omega)) ?_; refine aQ ?_; refine aF (CR (l := a) (h := a + 3) rfl rfl rfl Tryz.underlying9 rfl (by omega) (by omega) (by omega)) ?_; refine aQ (aF (gQ rfl rfl) ?_); refine bH (aM (aC (aA (aO (br1 ?_))))); refine ⟨congrArg Value.bool (decide_eq_decide.2 ?_), (Evo.refl [] w)⟩; constructor
   · exact fun h => ⟨by omega, h⟩
   · exact fun h => h.2
  refine aH (aH (aH (aH (aH (aH (aR (aM (aC (aA (aO (br1 ?_))))))))))); exact ⟨congrArg Value.bool (decide_eq_false (by omega)).symm, (Evo.refl [] w)⟩
theorem AN {s : ByteArray} {a : Nat} (ha : a < s.size) (h : (Utf8.decode s a).1 = 65533) (hr : ¬ (a + 3 ≤ s.size ∧ s.extract a (a + 3) = bstr [239, 191, 189])) : cE s a = (-1, 0) := by
  have h1 := GT s a h ha
  have h2 := rB s a h ha
  unfold cE
  rw [if_neg]
  rintro ⟨_, h3⟩
  rcases h1 with h1 | h1
  · exact h3 ⟨h, h1⟩
  · exact hr (h2.1 h1)
theorem xZ {s : ByteArray} {a : Nat} (ha : a < s.size) (h : ¬ (Utf8.decode s a).1 = 65533 ∨ (a + 3 ≤ s.size ∧ s.extract a (a + 3) = bstr [239, 191, 189])) :
    (cE s a).1 = ((Utf8.decode s a).1 : Nat) ∧ (((cE s a).2 : Nat) : Int) = if ((Utf8.decode s a).1 : Int) < 128 then 1 else if ((Utf8.decode s a).1 : Int) < 2048 then 2 else if ((Utf8.decode s a).1 : Int) < 65536 then 3 else 4 := by
  have hn : ¬ ((Utf8.decode s a).1 = 65533 ∧ (Utf8.decode s a).2 = 1) := fun ⟨h1, h2⟩ => by
    rcases h with h | h
    · exact h h1
    · rw [(rB s a h1 ha).2 h] at h2; cases h2
  have hw := CZ s a ha hn
  unfold cE
  rw [if_pos ⟨ha, hn⟩]
  refine ⟨rfl, ?_⟩
  simp only
  rw [hw]
  repeat' split
  all_goals first | rfl | omega
theorem next_ok {w : World} (s : ByteArray) (a : Nat) (ha : a ≤ s.size) (hl : s.size ≤ 140737488355328) : Calls Tryz.prog 135 #[.string s, .int .i64 (a : Nat)] w (Ret fun v w' => v = .tuple #[.int .i32 (cE s a).1, .int .i64 ((cE s a).2 : Nat)] ∧ Evo [] w w') := by
  refine bJ (N := 44) Tryz.func135 rfl rfl rfl ?_; refine aE (aB (aM (aM (aC (aA (aE (aE (aB (aG (aF (dF rfl rfl) ?_)))))))))); refine aG (aV (t := 10) rfl (fun hs10 => ?_) (fun hs10 => ?_))
  ·refine aH (aH (aH (aH (bH (aC (aA (cV rfl ?_))))))); refine aE (aB (aM (aM (aC (aA (aO (aN (dC rfl rfl rfl ?_))))))))
   exfalso; omega
  refine aQ (aG (aQ (aG (aQ (aF (cM rfl Tryz.underlying9 rfl) ?_))))); refine aQ (aF (gC rfl rfl) ?_); refine aR (aC (aA (bF rfl (fun hc15 => ?_) (fun hc15 => ?_))))
  ·refine aE (aB (aM (aM (aC (aA (aO (aN (dC rfl rfl rfl ?_))))))))
   exact ⟨by rw [pE (by omega)]; rfl, (Evo.refl [] w)⟩
  refine aU (aA (aE (aE (aB ?_))))
  have hlt : a < s.size := by omega
  refine aG (aG (aG (aF (cM rfl Tryz.underlying9 rfl) ?_))); refine aG ?_; refine aF (bC rfl rfl (by omega) (by omega)) ?_; refine aF (CU rfl rfl) ?_
  refine aF (CR (l := a) (h := min s.size (a + 4)) rfl rfl rfl Tryz.underlying9 rfl (by split <;> omega) (by omega) (by omega)) ?_
  refine AB rfl rfl Tryz.underlying9 fun b1 w2 hB3 hs4 hw5 => ?_; refine aC (aA (bR (eV (α := Nat) (0) (fun k => []) [(0, _), (1, _), (24, _)] (fun k wr => Evo [] w2 wr ∧ (True)) (fun k => 0) trivial ⟨rfl, rfl, rfl, trivial⟩ ⟨Evo.refl _ _, trivial⟩ ?_))); rintro k wr8 ⟨hV9, _⟩; show CW _ _ _ _ [(0, _), (1, _), (24, _)] _; refine aE (aB ?_)
  refine EZ rfl rfl (hV9.blk0 hB3) (by simp; omega) fun w12 hB13 hw14 => ?_
  have hE15 := (((Evo.refl [] w).then hw5).then hV9).step hw14 (Ge.new (Evo.refl [] w) hs4).mem1; have hcut := JK s a hlt; refine aF (cN rfl rfl) ?_; refine aC (aA (aE (cV rfl ?_))); refine aU (aA (bR (aE (aB (aF (cN rfl rfl) ?_))))); refine aF (cN rfl rfl) ?_; refine aM (aM (aC (aA (aE (aE (aB (aG (aF (gL rfl rfl) ?_)))))))); refine aG (aV (t := 31) rfl (fun hs31 => ?_) (fun hs31 => ?_))
  ·refine aH (aH (aH (fO ?_))); refine fO ?_; refine fO ?_; refine fO ?_; refine aH (bH (aC (aA (cV rfl ?_)))); refine dO (cD (CS rfl (cD (dN (aA ?_))))); refine aE (aB (aM (aM (aC (aA (aO (dC rfl rfl rfl ?_)))))))
   exfalso; omega
  refine aQ (aG (aQ (aF (bD rfl rfl) ?_))); refine aQ (aG (aV (t := 34) rfl (fun hs34 => ?_) (fun hs34 => ?_)))
  ·refine aQ (aG (aQ (aG (aQ ?_)))); refine aK (vs := [_, _]) vZ rfl (vP s a (by omega) hl) rfl ?_; rintro _ w17 ⟨rfl, hw18⟩; refine aQ (aF (nE rfl) ?_); refine aQ (bH (aR (aC (aA (bF rfl (fun hc40 => ?_) (fun hc40 => ?_))))))
   ·refine dO (cD (CS rfl (cD (dN (aA ?_))))); refine aE (aB (aM (aM (aC (aA (aO (dC rfl rfl rfl ?_))))))); rw [hcut] at hs34
    exact ⟨by rw [AN hlt (by omega) hc40]; rfl, (hE15.then hw18)⟩
   refine aU (aA (aE (aB (aG (aG (aK (vs := [_]) uG rfl (FA _) rfl ?_)))))); rintro _ w21 ⟨rfl, hw22⟩; refine aM (aM (aC (aA (aO (aX (aN (aX (aN (dC rfl rfl rfl ?_))))))))); rw [hcut] at hs34 ⊢; have hg := xZ hlt (.inr (Decidable.not_not.1 hc40))
   exact ⟨by rw [hg.1, hg.2]; rfl, ((hE15.then hw18).then hw22)⟩
  refine aH (aH (aH (aH (aQ (aR (aR (aC (aA (cO rfl ?_))))))))); refine aU (aA (aE (aB (aG (aG (aK (vs := [_]) uG rfl (FA _) rfl ?_)))))); rintro _ w25 ⟨rfl, hw26⟩; refine aM (aM (aC (aA (aO (aX (aN (aX (aN (dC rfl rfl rfl ?_))))))))); rw [hcut] at hs34 ⊢; have hg := xZ hlt (.inl (by omega))
  exact ⟨by rw [hg.1, hg.2]; rfl, (hE15.then hw26)⟩
end Go.Proofs.YtljadkcojnlioaaGreatDoor
namespace Go.Proofs.YtljadkcojnlioaaGreatDoor
open Go.RowKit Go.W
attribute [local irreducible] Decidable.decide
theorem EJ : eY Tryz.prog 135 := ⟨_, Tryz.func135, by kernel_rfl, by kernel_rfl⟩
theorem ED : eY Tryz.prog 149 := ⟨_, Tryz.func149, by kernel_rfl, by kernel_rfl⟩
theorem oU : eY Tryz.prog 41 := ⟨_, Tryz.func41, by kernel_rfl, by kernel_rfl⟩
def Bd (s : ByteArray) (i : Nat) : Prop := ∃ N k, Utf s N ∧ k ≤ N ∧ dP s k = i
theorem Bd.le {s : ByteArray} {i : Nat} (h : Bd s i) : i ≤ s.size := by obtain ⟨N, k, _, _, rfl⟩ := h; exact wT s k
theorem Bd.zero {s : ByteArray} {N : Nat} (h : Utf s N) : Bd s 0 := ⟨N, 0, h, Nat.zero_le _, rfl⟩
theorem Bd.next {s : ByteArray} {i : Nat} (h : Bd s i) (hi : i < s.size) : 0 < (cE s i).2 ∧ i + (cE s i).2 ≤ s.size ∧ Bd s (i + (cE s i).2) ∧ 0 ≤ (cE s i).1 ∧ (cE s i).1 ≤ 1114111 := by
  obtain ⟨N, k, hU, hk, rfl⟩ := h
  have hkN : k < N := by
    rcases Nat.lt_or_ge k N with h | h
    · exact h
    · obtain rfl : k = N := by omega
      rw [hU.1] at hi; omega
  have h0 := hU.2 k hkN
  have h1 : Bd s (dP s k + (cE s (dP s k)).2) := ⟨N, k + 1, hU, hkN, rfl⟩
  rcases oA s (dP s k) with h2 | h2
  · rw [h2] at h0; cases h0
  · exact ⟨h0, h1.le, h1, h2.1, h2.2.1⟩
theorem Bd.asc {s : ByteArray} {i : Nat} (h : Bd s i) (hi : i < s.size) (hb : sb s i < 128) : Bd s (i + 1) ∧ (cE s i).1 = (sb s i : Int) ∧ (cE s i).2 = 1 := by
  obtain ⟨h0, h1, h2, h3, h4⟩ := h.next hi
  obtain ⟨h5, h6, h7, h8⟩ := NP h0
  by_cases hc : (cE s i).1 < 128
  · obtain ⟨h9, h10⟩ := h6 hc
    rw [h9] at h2
    exact ⟨h2, h10.symm, h9⟩
  · have := h7 (by omega); omega
theorem isB.asc {s : ByteArray} {i b : Nat} (h : isB s i b) (hb : b < 128) (hd : Bd s i) : Bd s (i + 1) := (hd.asc h.1 (by rw [h.2]; exact hb)).1
theorem wO {w : World} {b : Nat} {s : ByteArray} {st : PS} {a : Option Addr} {c : Nat} {ob : Option Nat} (hR : RdAt w b s st a c ob) (hs : s.size ≤ 1000000) (hb : Bd s st.pos) :
    Calls Tryz.prog 112 #[.pointer (some ⟨b, 0, none⟩)] w (Ret fun v w' => v = .int .i32 (cE s st.pos).1 ∧ Evo [b] w w' ∧ RdAt w' b s (adv st (cE s st.pos).2) a c ob) := by
  have hap := hR.ap; have hle := hb.le
  have hnx : st.pos + (cE s st.pos).2 ≤ s.size + 4 := by rcases oA s st.pos with h | h; rw [h]; (show st.pos + 0 ≤ s.size + 4; omega); omega
  refine bJ (N := 26) Tryz.func112 rfl rfl rfl ?_; refine aE (aB (aM (aC (aA (aE ?_))))); refine iK (fun w0 w' => Evo [] w0 w') (by kernel_rfl) (fun w1 hw2 => ?_); have hB4 := hw2.blk0 hR.blk; refine aet 0 rfl (fun _ hS => bO rfl) (Evo.refl [] w1) ?_; refine aet 1 rfl (fun _ hS => aP rfl) (Evo.refl [] w1) ?_; refine aet 2 rfl (fun _ hS => aD rfl dE) (Evo.refl [] w1) ?_; refine aet 3 rfl (fun _ hS => aI rfl cJ (aJ (hS.blk0 hB4) rfl)) (Evo.refl [] w1) ?_; refine aet 4 rfl (fun _ hS => bO rfl) (Evo.refl [] w1) ?_; refine aet 5 rfl (fun _ hS => aP rfl) (Evo.refl [] w1) ?_; refine aet 6 rfl (fun _ hS => aD rfl bE) (Evo.refl [] w1) ?_; refine aet 7 rfl (fun _ hS => aI rfl aZ (aJ (hS.blk0 hB4) rfl)) (Evo.refl [] w1) ?_; refine cP [8] (by kernel_rfl) rfl ⟨?_, trivial⟩; refine cU rfl ?_; refine aK (vs := [_, _]) EJ rfl (next_ok s st.pos hle (by omega)) rfl ?_; rintro _ w6 ⟨rfl, hw7⟩; have hE9 := (Evo.refl [] w1).then hw7; refine aC (cG (.inl hE9) ?_); refine aet 9 rfl (fun _ hS => bO rfl) hE9 ?_
  refine aet 10 rfl (fun _ hS => cN rfl rfl) hE9 ?_; refine aet 11 rfl (fun _ hS => cN rfl rfl) hE9 ?_; refine aet 12 rfl (fun _ hS => eT rfl) hE9 ?_; refine aet 13 rfl (fun _ hS => eT rfl) hE9 ?_; refine fA (by kernel_rfl) (aA ?_); refine aE (aB (aG (aF (aP rfl) (aF (aD rfl bE) (aF (aI rfl aZ (aJ (hw7.blk0 hB4) rfl)) (aG ?_)))))); refine aF (bC rfl rfl (by omega) (by omega)) ?_; refine aF (aP rfl) (aF (aD rfl bE) (bG rfl rfl (rfl) bV (hw7.blk0 hB4) rfl fun w12 hB13 hw14 => ?_))
  try simp only [cR, Nat.reduceAdd] at hB13
  refine aC (aA (aE (aB (aG (aM (aC (aA (aO (br1 ?_))))))))); exact ⟨rfl, ((((Evo.refl [b] w).then hw2).then hw7).step hw14 (fun y hy => .inl hy)), hB13, (((hR.own.evo0 hw2).evo0 hw7).evo hw14 hap.symm.own1), hR.ne⟩
theorem hexD_lo {c d : Nat} (h : hexD c = some d) : c < 128 ∧ d < 16 := by
  unfold hexD at h
  split at h
  · cases h; omega
  · split at h
    · cases h; omega
    · split at h
      · cases h; omega
      · cases h
theorem wS {s : ByteArray} {i d j : Nat} (h : gS s i = .ok (d, j)) (hb : Bd s i) : Bd s j ∧ j = i + 1 ∧ d < 16 := by
  unfold gS at h
  split at h
  · rename_i hi
    split at h
    · rename_i d' hd
      cases h
      obtain ⟨h1, h2⟩ := hexD_lo hd
      exact ⟨(hb.asc hi h1).1, rfl, h2⟩
    · cases h
  · cases h
theorem KS {s : ByteArray} : ∀ {f n i m j : Nat}, kF s f n i = .ok (m, j) → Bd s i → n ≤ 1114111 → Bd s j ∧ i < j ∧ m ≤ 1114111
  | 0, n, i, m, j, h, _, _ => by cases h
  | f + 1, n, i, m, j, h, hb, hn => by
    rw [kF] at h
    split at h
    · rename_i hi
      cases h
      exact ⟨hi.asc (by decide) hb, by omega, hn⟩
    · split at h
      · cases h
      · rename_i d k hd
        obtain ⟨h1, h2, h3⟩ := wS hd hb
        split at h
        · cases h
        · obtain ⟨h4, h5, h6⟩ := KS h h1 (by omega)
          exact ⟨h4, by omega, h6⟩
theorem pHex_b {s : ByteArray} {i m j : Nat} (h : nD s i = .ok (m, j)) (hb : Bd s i) : Bd s j ∧ i < j ∧ m ≤ 1114111 := by
  unfold nD at h
  split at h
  · rename_i hi
    split at h
    · cases h
    · rename_i d k hd
      obtain ⟨h1, h2, h3⟩ := wS hd (hi.asc (by decide) hb)
      obtain ⟨h4, h5, h6⟩ := KS h h1 (by omega)
      exact ⟨h4, by omega, h6⟩
  · split at h
    · cases h
    · rename_i d k hd
      obtain ⟨h1, h2, h3⟩ := wS hd hb
      split at h
      · cases h
      · rename_i e q he
        cases h
        obtain ⟨h4, h5, h6⟩ := wS he h1
        exact ⟨h4, by omega, by omega⟩
def GP (c : Nat) : Int := if c = 97 then 0 else if c = 102 then 1 else if c = 116 then 2 else if c = 110 then 3 else if c = 114 then 4 else if c = 118 then 5 else -1
def escT : ByteArray := ByteArray.mk #[7, 12, 9, 10, 13, 11]
theorem TL {c : Nat} (h : 0 ≤ GP c) : ∃ k, GP c = ((k : Nat) : Int) ∧ k < escT.size ∧ wH c = some (sb escT k) ∧ sb escT k < 128 := by
  unfold GP at *
  unfold wH
  by_cases h1 : c = 97
  · subst h1; exact ⟨0, rfl, by decide, rfl, by decide⟩
  · by_cases h2 : c = 102
    · subst h2; exact ⟨1, rfl, by decide, rfl, by decide⟩
    · by_cases h3 : c = 116
      · subst h3; exact ⟨2, rfl, by decide, rfl, by decide⟩
      · by_cases h4 : c = 110
        · subst h4; exact ⟨3, rfl, by decide, rfl, by decide⟩
        · by_cases h5 : c = 114
          · subst h5; exact ⟨4, rfl, by decide, rfl, by decide⟩
          · by_cases h6 : c = 118
            · subst h6; exact ⟨5, rfl, by decide, rfl, by decide⟩
            · rw [if_neg h1, if_neg h2, if_neg h3, if_neg h4, if_neg h5, if_neg h6] at h; omega
theorem escI_no {c : Nat} (h : ¬ 0 ≤ GP c) : wH c = none := by
  unfold GP at h
  unfold wH
  by_cases h1 : c = 97
  · subst h1; exact (h (by decide)).elim
  · by_cases h2 : c = 102
    · subst h2; exact (h (by decide)).elim
    · by_cases h3 : c = 116
      · subst h3; exact (h (by decide)).elim
      · by_cases h4 : c = 110
        · subst h4; exact (h (by decide)).elim
        · by_cases h5 : c = 114
          · subst h5; exact (h (by decide)).elim
          · by_cases h6 : c = 118
            · subst h6; exact (h (by decide)).elim
            · rw [if_neg h1, if_neg h2, if_neg h3, if_neg h4, if_neg h5, if_neg h6]
theorem escIdx (c : Nat) (hc : c < 256) : Go.Lib.indexByte [97, 102, 116, 110, 114, 118] ((c : Int)).toNat.toUInt8 = GP c := by
  have h : ∀ c : Fin 256, Go.Lib.indexByte [97, 102, 116, 110, 114, 118] ((c.1 : Int)).toNat.toUInt8 = GP c.1 := by decide +kernel
  exact h ⟨c, hc⟩
theorem NS {w : World} (c : Nat) (hc : c < 256) : Calls Tryz.prog 41 #[.string (ByteArray.mk #[97, 102, 116, 110, 114, 118]), .int .u8 (c : Nat)] w (Ret fun v w' => v = iv (GP c) ∧ Evo [] w w') := by
  refine (kC _ _ w).mono ?_
  rintro e w' ⟨rfl, rfl⟩
  exact ⟨_, rfl, congrArg iv (escIdx c hc), Evo.refl _ _⟩
theorem FK {s : ByteArray} {i : Nat} (h : s.size ≤ i + 1) : lP s i = .error 83 := by unfold lP; rw [if_pos h]
theorem pEsc_c {s : ByteArray} {i v : Nat} (h : ¬ s.size ≤ i + 1) (h2 : wH (sb s (i + 1)) = some v) : lP s i = .ok (v, i + 2) := by unfold lP; rw [if_neg h, h2]
theorem QP {s : ByteArray} {i : Nat} (h : ¬ s.size ≤ i + 1) (h2 : sb s (i + 1) = 120) : lP s i = nD s (i + 2) := by
  unfold lP; rw [if_neg h, h2, show wH 120 = none from rfl]; rfl
theorem FL {s : ByteArray} {i : Nat} (h : ¬ s.size ≤ i + 1) (h2 : wH (sb s (i + 1)) = none) (h3 : sb s (i + 1) ≠ 120) (h4 : 128 ≤ sb s (i + 1) ∨ (iS (sb s (i + 1)) ∧ sb s (i + 1) ≠ 95)) : lP s i = .error 83 := by
  unfold lP; rw [if_neg h, h2]; show (if sb s (i + 1) = 120 then _ else _) = _; rw [if_neg h3, if_pos h4]
theorem KT {s : ByteArray} {i : Nat} (h : ¬ s.size ≤ i + 1) (h2 : wH (sb s (i + 1)) = none) (h3 : sb s (i + 1) ≠ 120) (h4 : ¬ (128 ≤ sb s (i + 1) ∨ (iS (sb s (i + 1)) ∧ sb s (i + 1) ≠ 95))) : lP s i = .ok (sb s (i + 1), i + 2) := by
  unfold lP; rw [if_neg h, h2]; show (if sb s (i + 1) = 120 then _ else _) = _; rw [if_neg h3, if_neg h4]
theorem escC_lo {c v : Nat} (h : wH c = some v) : c < 128 := by
  unfold wH at h
  by_cases h1 : c < 128
  · exact h1
  · rw [if_neg (by omega), if_neg (by omega), if_neg (by omega), if_neg (by omega), if_neg (by omega), if_neg (by omega)] at h; cases h
theorem BV {s : ByteArray} {i n j : Nat} (h : lP s i = .ok (n, j)) (hb : Bd s i) (h0 : sb s i = 92) : Bd s j ∧ i < j ∧ n ≤ 1114111 := by
  have hi : i < s.size := by
    rcases Nat.lt_or_ge i s.size with h1 | h1
    · exact h1
    · rw [FK (by omega)] at h; cases h
  have hb1 := (hb.asc hi (by omega)).1
  unfold lP at h
  split at h
  · cases h
  · rename_i h1
    split at h
    · rename_i v hv
      cases h
      have hv2 : n < 128 := by
        unfold wH at hv
        split at hv
        · cases hv; omega
        · split at hv
          · cases hv; omega
          · split at hv
            · cases hv; omega
            · split at hv
              · cases hv; omega
              · split at hv
                · cases hv; omega
                · split at hv
                  · cases hv; omega
                  · cases hv
      exact ⟨(hb1.asc (by omega) (escC_lo hv)).1, by omega, by omega⟩
    · split at h
      · rename_i hx
        obtain ⟨h2, h3, h4⟩ := pHex_b h ((hb1.asc (by omega) (by omega)).1)
        exact ⟨h2, by omega, h4⟩
      · split at h
        · cases h
        · rename_i h5
          cases h
          exact ⟨(hb1.asc (by omega) (by omega)).1, by omega, by omega⟩
theorem yP {w : World} {b : Nat} {s : ByteArray} {st : PS} {a : Option Addr} {c : Nat} {ob : Option Nat} (hR : RdAt w b s st a c ob) (hs : s.size ≤ 1000000) (hlt : st.pos < s.size) :
    Calls Tryz.prog 134 #[.pointer (some ⟨b, 0, none⟩)] w (RetP (fun v w' => ∃ n j, lP s st.pos = .ok (n, j) ∧ v = .int .i32 (n : Nat) ∧ Evo [b] w w' ∧ RdAt w' b s (hY st j) a c ob) (fun v w' => lP s st.pos = .error 83 ∧ v = flt 83 ∧ Evo [b] w w')) := by
  have hap := hR.ap; have hb9 := jM s (st.pos + 1); refine bJ (N := 63) Tryz.func134 rfl rfl rfl ?_; refine aE (aB (aM (aC (aA (aE (aB (aG (aF (aP rfl) (aF (aD rfl bE) (aF (aI rfl aZ (aJ hR.blk rfl)) ?_)))))))))); refine aF (bC rfl rfl (by omega) (by omega)) ?_; refine aF (aP rfl) (aF (aD rfl bE) (bG rfl rfl (rfl) bV hR.blk rfl fun w1 hB2 hw3 => ?_))
  try simp only [cR, Nat.reduceAdd] at hB2
  refine aC (aA (aE (aE ?_))); refine fH (by kernel_rfl) (by kernel_rfl) ?_; refine bM (fun _ hq7 => bO rfl) ?_; refine bM (fun _ hq7 => aP rfl) ?_; refine bM (fun _ hq7 => aD rfl bE) ?_; refine bM (fun _ hq7 => aI rfl aZ (aJ (hq7.blk0 hB2) rfl)) ?_; refine bM (fun _ hq7 => bO rfl) ?_; refine bM (fun _ hq7 => aP rfl) ?_; refine bM (fun _ hq7 => aD rfl dE) ?_; refine bM (fun _ hq7 => aI rfl cJ (aJ (hq7.blk0 hB2) rfl)) ?_; refine bM (fun _ hq7 => cM rfl Tryz.underlying9 rfl) ?_; refine bM (fun _ hq7 => bD rfl rfl) ?_; refine fP (fun wq6 hq7 => aA ?_); have hE8 := ((Evo.refl [b] w).step hw3 (fun y hy => .inl hy)).then hq7; have hB9 := hq7.blk0 hB2; refine bF rfl (fun hc21 => ?_) (fun hc21 => ?_)
  ·refine aB (bT (vs := [_]) cS rfl (eO 83) rfl ?_ ?_)
   ·intro pv wp hpp; obtain ⟨rfl, hpw⟩ := hpp; exact And.intro rfl ⟨_, rfl, FK (by omega), rfl, (hE8).then hpw⟩
   intro _ _ hF; exact hF.elim
  have hlt2 : st.pos + 1 < s.size := by omega
  have hle2 : ¬ s.size ≤ st.pos + 1 := by omega
  refine aU (aA (aE ?_)); refine fH (by kernel_rfl) (by kernel_rfl) ?_; refine bM (fun _ hq14 => bO rfl) ?_; refine bM (fun _ hq14 => aP rfl) ?_; refine bM (fun _ hq14 => aD rfl dE) ?_; refine bM (fun _ hq14 => aI rfl cJ (aJ (hq14.blk0 hB9) rfl)) ?_; refine bM (fun _ hq14 => bO rfl) ?_; refine bM (fun _ hq14 => aP rfl) ?_; refine bM (fun _ hq14 => aD rfl bE) ?_; refine bM (fun _ hq14 => aI rfl aZ (aJ (hq14.blk0 hB9) rfl)) ?_; refine bM (fun _ hq14 => fL (n := st.pos + 1) rfl rfl Tryz.underlying9 rfl hlt2) ?_; refine bM (fun _ hq14 => eT rfl) ?_; refine fP (fun wq13 hq14 => aA ?_); refine aE (aB (aG (aF (aP rfl) (aF (aD rfl bE) (aF (aI rfl aZ (aJ (hq14.blk0 hB9) rfl)) ?_))))); refine aF (bC rfl rfl (by omega) (by omega)) ?_; refine aF (aP rfl) (aF (aD rfl bE) (bG rfl rfl (rfl) bV (hq14.blk0 hB9) rfl fun w18 hB19 hw20 => ?_))
  try simp only [cR, Nat.reduceAdd] at hB19
  refine aC (aA (aE (aE (aB (aG (aK (vs := [_, _]) oU rfl (NS (sb s (st.pos + 1)) hb9) rfl ?_)))))); rintro _ w23 ⟨rfl, hw24⟩; have hE25 := ((hE8.then hq14).step hw20 (fun y hy => .inl hy)).then hw24; have hB26 := hw24.blk0 hB19; have hO27 := ((((hR.own.evo hw3 hap.symm.own1).evo0 hq7).evo0 hq14).evo hw20 hap.symm.own1).evo0 hw24; refine aM (aC (aA (aE (aB (aG (aF (gC rfl rfl) ?_)))))); refine aC (aA (bF rfl (fun hc42 => ?_) (fun hc42 => ?_)))
  ·obtain ⟨k, hk1, hk2, hk3, hk4⟩ := TL hc42; refine aE (aB (aG (aF (fL (s := escT) (n := k) rfl rfl Tryz.underlying9 hk1 hk2) ?_))); refine aF (jC rfl Tryz.underlying5 Tryz.underlying21 (zO (by omega) (by omega)).1 (zO (by omega) (by omega)).2) ?_; refine aM (aC (aA (aO (aN (bS (br1 ?_)))))); exact ⟨_, _, pEsc_c hle2 hk3, rfl, hE25, ⟨hB26, hO27, hR.ne⟩⟩
  have hno := escI_no hc42; refine aU (aA (aE (aE (aB (aG (aF (bD rfl rfl) ?_)))))); refine aC (aA (bF rfl (fun hc47 => ?_) (fun hc47 => ?_)))
  ·refine aE (aB (aG (bT (vs := [_]) ED rfl (hex_ok (st := hY st (st.pos + 1 + 1)) ⟨hB26, hO27, hR.ne⟩ hs) rfl ?_ ?_)))
   ·intro pv wp hpp; obtain ⟨hpe, rfl, hpw⟩ := hpp; exact And.intro rfl ⟨_, rfl, (QP hle2 (by omega)).trans hpe, rfl, (hE25).step hpw (fun y hy => .inl hy)⟩
   rintro _ w28 ⟨n, j, hx, rfl, hw29, hR2⟩; refine aM (aC (aA (aO (aN (bS (br1 ?_)))))); exact ⟨_, _, (QP hle2 (by omega)).trans hx, rfl, (hE25.step hw29 (fun y hy => .inl hy)), hR2⟩
  have hnx : sb s (st.pos + 1) ≠ 120 := by omega
  refine aU (aA (aE (aE (aB (aG (aF (gC rfl rfl) ?_)))))); refine aG (aV (t := 52) rfl (fun hs52 => ?_) (fun hs52 => ?_))
  ·refine aH (aH (aH (fO ?_))); refine fO ?_; refine aH (bH (aC (aA (cV rfl ?_)))); refine aB (bT (vs := [_]) cS rfl (eO 83) rfl ?_ ?_)
   ·intro pv wp hpp; obtain ⟨rfl, hpw⟩ := hpp; exact And.intro rfl ⟨_, rfl, FL hle2 hno hnx (by omega), rfl, (hE25).then hpw⟩
   intro _ _ hF; exact hF.elim
  refine aQ (aG (aQ (aK (vs := [_]) nM rfl (wL (sb s (st.pos + 1))) rfl ?_))); rintro _ w33 ⟨rfl, hw34⟩; have hE35 := hE25.then hw34; have hB36 := hw34.blk0 hB26; have hO37 := hO27.evo0 hw34; refine aQ (aG (aV (t := 55) rfl (fun hs55 => ?_) (fun hs55 => ?_)))
  ·refine aQ (aG (aQ (aF (fX rfl rfl) ?_))); refine aQ (bH (aR (aC (aA (bF rfl (fun hc59 => ?_) (fun hc59 => ?_))))))
   ·refine aB (bT (vs := [_]) cS rfl (eO 83) rfl ?_ ?_)
    ·intro pv wp hpp; obtain ⟨rfl, hpw⟩ := hpp
     exact And.intro rfl ⟨_, rfl, FL hle2 hno hnx (by right; exact ⟨hs55, by omega⟩), rfl, (hE35).then hpw⟩
    intro _ _ hF; exact hF.elim
   refine aU (aA (aE (aB (aG ?_)))); refine aF (jC rfl Tryz.underlying5 Tryz.underlying21 (zO (by omega) (by omega)).1 (zO (by omega) (by omega)).2) ?_; refine aM (aC (aA (aO (bS (br1 ?_)))))
   exact ⟨_, _, KT hle2 hno hnx (by rintro (h1 | ⟨h1, h2⟩); omega; first | exact hs55 h1 | (exact hc59 (by omega))), rfl, hE35, ⟨hB36, hO37, hR.ne⟩⟩
  refine aH (aH (aQ (aR (aR (aC (aA (cO rfl ?_))))))); refine aU (aA (aE (aB (aG ?_)))); refine aF (jC rfl Tryz.underlying5 Tryz.underlying21 (zO (by omega) (by omega)).1 (zO (by omega) (by omega)).2) ?_; refine aM (aC (aA (aO (bS (br1 ?_)))))
  exact ⟨_, _, KT hle2 hno hnx (by rintro (h1 | ⟨h1, h2⟩); omega; first | exact hs55 h1 | (exact hc59 (by omega))), rfl, hE35, ⟨hB36, hO37, hR.ne⟩⟩
end Go.Proofs.YtljadkcojnlioaaGreatDoor
namespace Go.Proofs.YtljadkcojnlioaaGreatDoor
open Go.RowKit Go.W
theorem fU {s : ByteArray} {a b : Nat} (h : b ≤ s.size) : (s.extract a b).size = b - a := by rw [ByteArray.size_extract]; omega
theorem GV (s : ByteArray) (j : Nat) : (s.extract j s.size).data.toList = s.data.toList.drop j := by
  rw [ByteArray.data_extract]
  have : s.size = s.data.size := rfl
  rw [this]
  simp only [Array.toList_extract, List.extract]
  exact List.take_of_length_le (by simp)
theorem KG (s : ByteArray) {n : Nat} (h : n < s.size) : s.data.toList[n]? = some (UInt8.ofNat (sb s n)) := by
  have h' : n < s.data.size := h
  rw [Array.getElem?_toList, Array.getElem?_eq_getElem h', qR s n h]
  show some s.data[n] = some (UInt8.ofNat (s.data[n]).toNat)
  rw [UInt8.ofNat_toNat]
def Occ (s : ByteArray) (a b k : Nat) : Prop := k + 1 < s.size ∧ sb s k = a ∧ sb s (k + 1) = b
instance (s : ByteArray) (a b k : Nat) : Decidable (Occ s a b k) := by unfold Occ; infer_instance
theorem OW {a b : Nat} (ha : a < 256) (hb : b < 256) (h : UInt8.ofNat a = UInt8.ofNat b) : a = b := by
  have := congrArg UInt8.toNat h
  rw [UInt8.toNat_ofNat', UInt8.toNat_ofNat'] at this
  omega
theorem IQ {s : ByteArray} {a b j i : Nat} (ha : a < 256) (hb : b < 256) (hj : j ≤ s.size) : Go.Lib.occAt (s.extract j s.size).data.toList [UInt8.ofNat a, UInt8.ofNat b] i = decide (Occ s a b (j + i)) := by
  unfold Go.Lib.occAt
  rw [GV, List.drop_drop]
  have hlen : s.data.toList.length = s.size := by simp
  by_cases h : j + i + 1 < s.size
  · have e : s.data.toList.drop (j + i) = UInt8.ofNat (sb s (j + i)) :: UInt8.ofNat (sb s (j + i + 1)) :: s.data.toList.drop (j + i + 2) := by
      have h0 := KG s (n := j + i) (by omega)
      have h1 := KG s (n := j + i + 1) h
      obtain ⟨h2, h3⟩ := List.getElem?_eq_some_iff.1 h0
      obtain ⟨h4, h5⟩ := List.getElem?_eq_some_iff.1 h1
      rw [List.drop_eq_getElem_cons h2, List.drop_eq_getElem_cons h4, h3, h5]
    rw [e]
    have l1 := jM s (j + i)
    have l2 := jM s (j + i + 1)
    simp only [List.isPrefixOf, Bool.and_true]
    rw [Bool.eq_iff_iff]
    simp only [Bool.and_eq_true, beq_iff_eq, decide_eq_true_eq]
    unfold Occ
    constructor
    · rintro ⟨h6, h7⟩; exact ⟨h, (OW ha l1 h6).symm, (OW hb l2 h7).symm⟩
    · rintro ⟨-, h6, h7⟩; rw [h6, h7]; exact ⟨rfl, rfl⟩
  · rw [decide_eq_false (fun h2 => h h2.1)]
    have hl : (s.data.toList.drop (j + i)).length < 2 := by rw [List.length_drop, hlen]; omega
    match s.data.toList.drop (j + i), hl with
    | [], _ => rfl
    | [x], _ => simp [List.isPrefixOf]
theorem lE (s : ByteArray) (a b : Nat) : ∀ (f j : Nat), s.size ≤ j + f → (∀ k, iG s a b f j = some k → j ≤ k ∧ Occ s a b k ∧ ∀ m, j ≤ m → m < k → ¬ Occ s a b m) ∧ (iG s a b f j = none → ∀ m, j ≤ m → ¬ Occ s a b m)
  | 0, j, hf => ⟨(fun k h => by cases h), fun _ m hm ho => by have := ho.1; omega⟩
  | f + 1, j, hf => by
    obtain ⟨i1, i2⟩ := lE s a b f (j + 1) (by omega)
    rw [iG]
    by_cases h : j + 1 < s.size ∧ sb s j = a ∧ sb s (j + 1) = b
    · rw [if_pos h]
      exact ⟨fun k hk => by cases hk; exact ⟨Nat.le_refl _, h, fun m h1 h2 => by omega⟩, fun h2 => by cases h2⟩
    · rw [if_neg h]
      refine ⟨fun k hk => ?_, fun hk m hm ho => ?_⟩
      · obtain ⟨h1, h2, h3⟩ := i1 k hk
        exact ⟨by omega, h2, fun m h4 h5 ho => by
          rcases Nat.eq_or_lt_of_le h4 with e | e
          · subst e; exact h ho
          · exact h3 m e h5 ho⟩
      · rcases Nat.eq_or_lt_of_le hm with e | e
        · subst e; exact h ho
        · exact i2 hk m e ho
def GJ (s : ByteArray) (a b j : Nat) : Int := match iG s a b s.size j with | none => -1 | some k => (k : Int) - j
theorem idx_two {s : ByteArray} {a b j : Nat} (ha : a < 256) (hb : b < 256) (hj : j ≤ s.size) : Go.Lib.index (s.extract j s.size).data.toList [UInt8.ofNat a, UInt8.ofNat b] = GJ s a b j := by
  obtain ⟨h1, h2⟩ := lE s a b s.size j (by omega)
  have hlen : (s.extract j s.size).data.toList.length = s.size - j := by rw [GV, List.length_drop]; simp
  unfold GJ
  cases h : iG s a b s.size j with
  | none =>
    refine Go.Lib.index_none fun i _ => ?_
    rw [IQ ha hb hj]
    exact decide_eq_false (h2 h _ (by omega))
  | some k =>
    obtain ⟨h3, h4, h5⟩ := h1 k h
    have e : (k : Int) - j = ((k - j : Nat) : Int) := by omega
    show _ = (k : Int) - j
    rw [e]
    refine Go.Lib.index_first (by rw [hlen]; have := h4.1; omega) ?_ fun i hi => ?_
    · rw [IQ ha hb hj, show j + (k - j) = k by omega]; exact decide_eq_true h4
    · rw [IQ ha hb hj]; exact decide_eq_false (h5 _ (by omega) (by omega))
theorem tA {s t : ByteArray} (h : s.size = t.size) (h2 : ∀ k, k < s.size → sb s k = sb t k) : s = t := by
  apply ByteArray.ext
  apply Array.ext h
  intro i h3 h4
  have h5 := h2 i h3
  rw [qR s i h3, qR t i h4] at h5
  have : (s.data[i]).toNat = (t.data[i]).toNat := h5
  exact UInt8.toNat_inj.1 this
theorem wQ {t p : ByteArray} {i : Nat} (hi : i ≤ t.size) : (p.size ≤ (t.extract i t.size).size ∧ (t.extract i t.size).extract 0 p.size = p) ↔ ∀ k, k < p.size → isB t (i + k) (sb p k) := by
  have hs := fU (s := t) (a := i) (Nat.le_refl t.size)
  constructor
  · rintro ⟨h1, h2⟩ k hk
    refine ⟨by omega, ?_⟩
    have e : sb ((t.extract i t.size).extract 0 p.size) k = sb p k := by rw [h2]
    rw [dV h1 (by omega), Nat.zero_add, dV (Nat.le_refl _) (by omega)] at e
    exact e
  · intro h
    have h1 : p.size ≤ (t.extract i t.size).size := by
      rcases Nat.eq_zero_or_pos p.size with h0 | h0
      · omega
      · have := (h (p.size - 1) (by omega)).1; omega
    refine ⟨h1, tA (by rw [fU h1]; omega) fun k hk => ?_⟩
    rw [fU h1] at hk
    rw [dV h1 (by omega), Nat.zero_add, dV (Nat.le_refl _) (by omega)]
    exact (h k (by omega)).2
end Go.Proofs.YtljadkcojnlioaaGreatDoor
namespace Go.Proofs.YtljadkcojnlioaaGreatDoor
open Go.RowKit Go.W
attribute [local irreducible] Decidable.decide
theorem nO : eY Tryz.prog 112 := ⟨_, Tryz.func112, by kernel_rfl, by kernel_rfl⟩
theorem uJ : eY Tryz.prog 134 := ⟨_, Tryz.func134, by kernel_rfl, by kernel_rfl⟩
theorem uF : eY Tryz.prog 158 := ⟨_, Tryz.func158, by kernel_rfl, by kernel_rfl⟩
theorem EA : eY Tryz.prog 160 := ⟨_, Tryz.func160, by kernel_rfl, by kernel_rfl⟩
theorem SZ {s : ByteArray} {i k : Nat} (h : i ≤ s.size) : (s.extract i s.size).extract k (s.extract i s.size).size = s.extract (i + k) s.size := by
  have hs := fU (s := s) (a := i) (Nat.le_refl s.size)
  rcases Nat.lt_or_ge s.size (i + k) with hk | hk
  · apply tA
    · rw [fU (Nat.le_refl _), fU (Nat.le_refl _), fU (Nat.le_refl _)]; omega
    · intro j hj; rw [fU (Nat.le_refl _), hs] at hj; omega
  · apply tA
    · rw [fU (Nat.le_refl _), fU (Nat.le_refl _), fU (Nat.le_refl _)]; omega
    · intro j hj
      rw [fU (Nat.le_refl _), hs] at hj
      rw [dV (Nat.le_refl _) (by rw [hs]; omega), dV (Nat.le_refl _) (by omega), dV (Nat.le_refl _) (by omega), Nat.add_assoc]
theorem yM {s : ByteArray} {i k m : Nat} (h : i + m ≤ s.size) (hk : k ≤ m) : (s.extract i s.size).extract k m = s.extract (i + k) (i + m) := by
  have hs := fU (s := s) (a := i) (Nat.le_refl s.size)
  apply tA
  · rw [fU (by rw [hs]; omega), fU h]; omega
  · intro j hj
    rw [fU (by rw [hs]; omega)] at hj
    rw [dV (by rw [hs]; omega) (by omega), dV (Nat.le_refl _) (by omega), dV h (by omega), Nat.add_assoc]
theorem gE {s : ByteArray} {i k : Nat} (h : i + k < s.size) : sb (s.extract i s.size) k = sb s (i + k) := dV (Nat.le_refl _) h
def Pre (t p : ByteArray) : Prop := p.size ≤ t.size ∧ t.extract 0 p.size = p
instance (t p : ByteArray) : Decidable (Pre t p) := by unfold Pre; infer_instance
theorem pre1 {t : ByteArray} {x : UInt8} {i : Nat} (hi : i ≤ t.size) : Pre (t.extract i t.size) (ByteArray.mk #[x]) ↔ isB t i x.toNat := by
  unfold Pre
  rw [wQ hi]
  constructor
  · intro h; exact h 0 (by show 0 < 1; omega)
  · intro h k hk
    have hk' : k < 1 := hk
    obtain rfl : k = 0 := by omega
    exact h
theorem nC {t : ByteArray} {x y : UInt8} {i : Nat} (hi : i ≤ t.size) : Pre (t.extract i t.size) (ByteArray.mk #[x, y]) ↔ isB t i x.toNat ∧ isB t (i + 1) y.toNat := by
  unfold Pre
  rw [wQ hi]
  constructor
  · intro h; exact ⟨h 0 (by show 0 < 2; omega), h 1 (by show 1 < 2; omega)⟩
  · rintro ⟨h0, h1⟩ k hk
    have hk' : k < 2 := hk
    match k, hk' with
    | 0, _ => exact h0
    | 1, _ => exact h1
theorem pre3 {t : ByteArray} {x y z : UInt8} {i : Nat} (hi : i ≤ t.size) : Pre (t.extract i t.size) (ByteArray.mk #[x, y, z]) ↔ isB t i x.toNat ∧ isB t (i + 1) y.toNat ∧ isB t (i + 2) z.toNat := by
  unfold Pre
  rw [wQ hi]
  constructor
  · intro h; exact ⟨h 0 (by show 0 < 3; omega), h 1 (by show 1 < 3; omega), h 2 (by show 2 < 3; omega)⟩
  · rintro ⟨h0, h1, h2⟩ k hk
    have hk' : k < 3 := hk
    match k, hk' with
    | 0, _ => exact h0
    | 1, _ => exact h1
    | 2, _ => exact h2
theorem pre4 {t : ByteArray} {x y z u : UInt8} {i : Nat} (hi : i ≤ t.size) : Pre (t.extract i t.size) (ByteArray.mk #[x, y, z, u]) ↔ isB t i x.toNat ∧ isB t (i + 1) y.toNat ∧ isB t (i + 2) z.toNat ∧ isB t (i + 3) u.toNat := by
  unfold Pre
  rw [wQ hi]
  constructor
  · intro h; exact ⟨h 0 (by show 0 < 4; omega), h 1 (by show 1 < 4; omega), h 2 (by show 2 < 4; omega), h 3 (by show 3 < 4; omega)⟩
  · rintro ⟨h0, h1, h2, h3⟩ k hk
    have hk' : k < 4 := hk
    match k, hk' with
    | 0, _ => exact h0
    | 1, _ => exact h1
    | 2, _ => exact h2
    | 3, _ => exact h3
theorem PW {t : ByteArray} {x : UInt8} : Pre t (ByteArray.mk #[x]) ↔ isB t 0 x.toNat := by
  have h := pre1 (t := t) (x := x) (i := 0) (Nat.zero_le _)
  rwa [ByteArray.extract_zero_size] at h
def oI : Nat := 0
def Glb (w : World) : Prop := ∃ m : Int, w.cell? ⟨oI, 0, none⟩ = some (.int .i64 m)
theorem Glb.evo {X : List Nat} {w w' : World} (h : Glb w) (he : Evo X w w') (hx : oI ∉ X) : Glb w' := by obtain ⟨m, h⟩ := h; exact ⟨m, he.cell h hx⟩
theorem RdAt.glb {w : World} {b : Nat} {s : ByteArray} {st : PS} {a : Option Addr} {c : Nat} {ob : Option Nat} (h : RdAt w b s st a c ob) (hg : Glb w) : b ≠ oI := fun e => by
  obtain ⟨m, hm⟩ := hg
  subst e
  have := iJ (o := 0) h.blk (v := .string s) rfl
  rw [this] at hm; cases hm
theorem LR {w : World} (s : ByteArray) (x y : UInt8) (j : Nat) (hj : j ≤ s.size) (hs : s.size ≤ 1000000) (hg : Glb w) : Calls Tryz.prog 144 #[.string (s.extract j s.size), .string (ByteArray.mk #[x, y])] w (Ret fun v w' => v = iv (GJ s x.toNat y.toNat j) ∧ Evo [] w w') := by
  obtain ⟨m, hm⟩ := hg
  refine (tD _ _ m w (by rw [fU (Nat.le_refl _)]; omega) hm).mono ?_
  rintro e w' ⟨rfl, rfl⟩
  have h := idx_two (s := s) (a := x.toNat) (b := y.toNat) (j := j) x.toNat_lt y.toNat_lt hj
  rw [UInt8.ofNat_toNat, UInt8.ofNat_toNat] at h
  exact ⟨_, rfl, congrArg iv h, Evo.refl _ _⟩
theorem GC {w : World} (s p : ByteArray) (hs : s.size ≤ 140737488355328) (hp : p.size ≤ 140737488355328) : Calls Tryz.prog 158 #[.string s, .string p] w (Ret fun v w' => v = .bool (decide (Pre s p)) ∧ Evo [] w w') := by
  refine bJ (N := 18) Tryz.func158 rfl rfl rfl ?_; refine aE (aB (aM (aC (aA (aE (aB (aG (aF (cM rfl Tryz.underlying9 rfl) ?_)))))))); refine aG (aF (cM rfl Tryz.underlying9 rfl) ?_); refine aF (gC rfl rfl) ?_; refine aG (aV (t := 10) rfl (fun hs10 => ?_) (fun hs10 => ?_))
  ·refine aQ (aG (aQ (aG (aQ (aF (cM rfl Tryz.underlying9 rfl) ?_))))); refine aQ ?_; refine aF (OA (h := p.size) rfl rfl Tryz.underlying9 rfl (by omega)) ?_; refine aQ (aG (aQ (aF (gQ rfl rfl) ?_))); refine bH (aM (aC (aA (aO (br1 ?_))))); refine ⟨congrArg Value.bool (decide_eq_decide.2 ?_), (Evo.refl [] w)⟩; exact ⟨fun h => ⟨by omega, h⟩, fun h => h.2⟩
  refine aH (aH (aH (aH (aH (aH (aR (aM (aC (aA (aO (br1 ?_)))))))))))
  exact ⟨congrArg Value.bool (decide_eq_false (fun h => by have := h.1; omega)).symm, (Evo.refl [] w)⟩
theorem wY {w : World} (s p : ByteArray) (hs : s.size ≤ 140737488355328) (hp : p.size ≤ 140737488355328) : Calls Tryz.prog 142 #[.string s, .string p] w (Ret fun v w' => v = .bool (decide (Pre s p)) ∧ Evo [] w w') := by
  refine bJ (N := 8) Tryz.func142 rfl rfl rfl ?_; refine aE (aB (aM (aC (aA (aE (aB (aG (aG (aK (vs := [_, _]) uF rfl (GC s p hs hp) rfl ?_))))))))); rintro _ w1 ⟨rfl, hw2⟩; refine aM (aC (aA (aO (br1 ?_)))); exact ⟨rfl, ((Evo.refl [] w).then hw2)⟩
theorem cutI_ok {w : World} (s p : ByteArray) (hs : s.size ≤ 140737488355328) (hp : p.size ≤ 140737488355328) : Calls Tryz.prog 160 #[.string s, .string p] w (Ret fun v w' => v = .tuple #[.string (if Pre s p then s.extract p.size s.size else s), .bool (decide (Pre s p))] ∧ Evo [] w w') := by
  refine bJ (N := 15) Tryz.func160 rfl rfl rfl ?_; refine aE (aB (aM (aM (aC (aA (aE (aE (aB (aG (aG (aK (vs := [_, _]) uF rfl (GC s p hs hp) rfl ?_))))))))))); rintro _ w1 ⟨rfl, hw2⟩; have hE3 := (Evo.refl [] w).then hw2; refine aF (nE rfl) ?_; refine aC (aA (bF rfl (fun hc9 => ?_) (fun hc9 => ?_)))
  ·refine aE (aB (aG (aM (aM (aC (aA (aO (aN (dC rfl rfl rfl ?_))))))))); exact ⟨by rw [if_neg hc9, decide_eq_false hc9], hE3⟩
  refine aU (aA (aE (aB (aG (aG (aF (cM rfl Tryz.underlying9 rfl) ?_))))))
  refine aF (gW (l := p.size) rfl rfl Tryz.underlying9 rfl (by have := Classical.not_not.1 hc9; exact this.1)) ?_
  refine aM (aM (aC (aA (aO (dC rfl rfl rfl ?_))))); have h9 := Classical.not_not.1 hc9; exact ⟨by rw [if_pos h9, decide_eq_true h9], hE3⟩
theorem cut_ok {w : World} (s p : ByteArray) (hs : s.size ≤ 140737488355328) (hp : p.size ≤ 140737488355328) : Calls Tryz.prog 145 #[.string s, .string p] w (Ret fun v w' => v = .tuple #[.string (if Pre s p then s.extract p.size s.size else s), .bool (decide (Pre s p))] ∧ Evo [] w w') := by
  refine bJ (N := 11) Tryz.func145 rfl rfl rfl ?_; refine aE (aB (aM (aM (aC (aA (aE (aB (aG (aG (aK (vs := [_, _]) EA rfl (cutI_ok s p hs hp) rfl ?_)))))))))); rintro _ w1 ⟨rfl, hw2⟩; refine aF (cN rfl rfl) ?_; refine aF (cN rfl rfl) ?_; refine aM (aM (aC (aA (aO (dC rfl rfl rfl ?_))))); exact ⟨rfl, ((Evo.refl [] w).then hw2)⟩
theorem QM {s : ByteArray} {i v j : Nat} (h : sb s i = 92) (h2 : lP s i = .ok (v, j)) : jV s i = .ok ((v : Int), j) := by unfold jV; rw [if_pos h, h2]
theorem QN {s : ByteArray} {i : Nat} {e : Int} (h : sb s i = 92) (h2 : lP s i = .error e) : jV s i = .error e := by unfold jV; rw [if_pos h, h2]
theorem tI {s : ByteArray} {i : Nat} (h : ¬ sb s i = 92) : jV s i = .ok ((cE s i).1, i + (cE s i).2) := by unfold jV; rw [if_neg h]
theorem jU {s : ByteArray} {i j : Nat} {r : Int} (h : jV s i = .ok (r, j)) (hb : Bd s i) (hi : i < s.size) : Bd s j ∧ i < j ∧ 0 ≤ r ∧ r ≤ 1114111 := by
  by_cases h1 : sb s i = 92
  · unfold jV at h
    rw [if_pos h1] at h
    cases h2 : lP s i with
    | error e => rw [h2] at h; cases h
    | ok x =>
      obtain ⟨n, k⟩ := x
      rw [h2] at h
      cases h
      obtain ⟨h3, h4, h5⟩ := BV h2 hb h1
      exact ⟨h3, h4, by omega, by omega⟩
  · rw [tI h1] at h
    cases h
    obtain ⟨h3, h4, h5, h6, h7⟩ := hb.next hi
    exact ⟨h5, by omega, h6, h7⟩
theorem jB {w : World} {b : Nat} {s : ByteArray} {st : PS} {a : Option Addr} {c : Nat} {ob : Option Nat} (hR : RdAt w b s st a c ob) (hs : s.size ≤ 1000000) (hlt : st.pos < s.size) (hb : Bd s st.pos) :
    Calls Tryz.prog 147 #[.pointer (some ⟨b, 0, none⟩)] w (RetP (fun v w' => ∃ r j, jV s st.pos = .ok (r, j) ∧ v = .int .i32 r ∧ Evo [b] w w' ∧ RdAt w' b s (hY st j) a c ob) (fun v w' => jV s st.pos = .error 83 ∧ v = flt 83 ∧ Evo [b] w w')) := by
  have hap := hR.ap; refine bJ (N := 17) Tryz.func147 rfl rfl rfl ?_; refine aE (aB (aM (aC (aA (aE (aE ?_)))))); refine fH (by kernel_rfl) (by kernel_rfl) ?_; refine bM (fun _ hq2 => bO rfl) ?_; refine bM (fun _ hq2 => aP rfl) ?_; refine bM (fun _ hq2 => aD rfl dE) ?_; refine bM (fun _ hq2 => aI rfl cJ (aJ (hq2.blk0 hR.blk) rfl)) ?_; refine bM (fun _ hq2 => bO rfl) ?_; refine bM (fun _ hq2 => aP rfl) ?_; refine bM (fun _ hq2 => aD rfl bE) ?_; refine bM (fun _ hq2 => aI rfl aZ (aJ (hq2.blk0 hR.blk) rfl)) ?_; refine bM (fun _ hq2 => fL (n := st.pos) rfl rfl Tryz.underlying9 rfl hlt) ?_; refine bM (fun _ hq2 => bD rfl rfl) ?_; refine fP (fun wq1 hq2 => aA ?_); have hE3 := (Evo.refl [b] w).then hq2; refine bF rfl (fun hc12 => ?_) (fun hc12 => ?_)
  ·refine aE (aB (aG (bT (vs := [_]) uJ rfl (yP ⟨(hq2.blk0 hR.blk), (hR.own.evo0 hq2), hR.ne⟩ hs hlt) rfl ?_ ?_)))
   ·intro pv wp hpp; obtain ⟨hpe, rfl, hpw⟩ := hpp; exact And.intro rfl ⟨_, rfl, QN (by omega) hpe, rfl, (hE3).step hpw (fun y hy => .inl hy)⟩
   rintro _ w6 ⟨n, j, hx, rfl, hw7, hR1⟩; refine aM (aC (aA (aO (aN (bS (br1 ?_)))))); exact ⟨_, _, QM (by omega) hx, rfl, (hE3.step hw7 (fun y hy => .inl hy)), hR1⟩
  refine aU (aA (aE (aB (aG (aK (vs := [_]) nO rfl (wO ⟨(hq2.blk0 hR.blk), (hR.own.evo0 hq2), hR.ne⟩ hs hb) rfl ?_))))); rintro _ w9 ⟨rfl, hw10, hR2⟩; refine aM (aC (aA (aO (bS (br1 ?_))))); exact ⟨_, _, tI (by omega), rfl, (hE3.step hw10 (fun y hy => .inl hy)), hR2⟩
end Go.Proofs.YtljadkcojnlioaaGreatDoor
namespace Go.Proofs.YtljadkcojnlioaaGreatDoor
open Go.RowKit Go.W
def NA : List Nat := [92, 46, 43, 42, 63, 40, 41, 124, 91, 93, 123, 125, 94, 36]
def jK (n : Nat) : List Nat := (Lib.decDigits n).map UInt8.toNat
def nmL (s : ByteArray) : List Nat := s.data.toList.map UInt8.toNat
theorem KC (l : List UInt8) : bstr (l.map UInt8.toNat) = ⟨l.toArray⟩ := by
  have h : UInt8.ofNat ∘ UInt8.toNat = id := funext fun x => UInt8.ofNat_toNat
  unfold bstr
  rw [List.map_map, h, List.map_id]
theorem mU (s : ByteArray) : bstr (nmL s) = s := by unfold nmL; rw [KC]
theorem KB (l : List UInt8) : Lo (l.map UInt8.toNat) := fun b hb => by
  obtain ⟨x, _, rfl⟩ := List.mem_map.1 hb
  exact x.toNat_lt
theorem wU (s : ByteArray) : (nmL s).length = s.size := by
  unfold nmL
  rw [List.length_map]
  rfl
def JC (c : Int) : List Nat := [92, 120, 123] ++ hexL c.toNat ++ [125]
def Odd (c : Int) : Prop := c < 32 ∨ c = 127 ∨ (55296 ≤ c ∧ c ≤ 57343)
instance (c : Int) : Decidable (Odd c) := by unfold Odd; infer_instance
def qX (c : Int) : List Nat := if Odd c then JC c else if c < 128 ∧ c.toNat ∈ NA then [92, c.toNat] else dW c
def JU (c : Int) : Prop := c < 128 ∧ iS c.toNat ∧ c ≠ 95
instance (c : Int) : Decidable (JU c) := by unfold JU; infer_instance
def tS (c : Int) : List Nat := if JU c then dW c else JC c
def uV (g : Int × Int) : List Nat := tS g.1 ++ (if g.1 < g.2 then 45 :: tS g.2 else [])
def TR : List Nat := [91, 94, 92, 120, 123, 48, 125, 45, 92, 120, 123, 49, 48, 102, 102, 102, 102, 125, 93]
def zR (l : List (Int × Int)) : List Nat := if l = [] then TR else [91] ++ l.flatMap uV ++ [93]
def kE (lo hi : Int) : List Nat :=
  if lo = 0 ∧ hi = -1 then [42] else if lo = 1 ∧ hi = -1 then [43] else if lo = 0 ∧ hi = 1 then [63]
  else if hi = -1 then [123] ++ jK lo.toNat ++ [44, 125] else if hi = lo then [123] ++ jK lo.toNat ++ [125] else [123] ++ jK lo.toNat ++ [44] ++ jK hi.toNat ++ [125]
def BP (k r : Int) (rs : List (Int × Int)) (nm : ByteArray) : List Nat :=
  if k = 2 then qX r else if k = 3 then zR rs else if k = 7 then [40] ++ (if nm = ByteArray.mk #[] then [] else [63, 80, 60] ++ nmL nm ++ [62]) else if k = 8 then [92, 65] else if k = 9 then [92, 122]
  else if k = 10 then [94] else if k = 11 then [36] else if k = 12 then [92, 98] else if k = 13 then [92, 66] else []
def BI (k mn mx : Int) (lz : Bool) : List Nat := if k = 6 then kE mn mx ++ (if lz = true then [63] else []) else if k = 7 then [41] else []
def brW (p : Prop) [Decidable p] (l : List Nat) : List Nat := if p then [40, 63, 58] ++ l ++ [41] else l
def yY (k : Int) (fst : Bool) : List Nat := if k = 5 ∧ fst = false then [124] else []
mutual
def Rx.w : Rx → List Nat
  | .mk k r rs mn mx lz cp nm ks => BP k r rs nm ++ gM k true ks ++ BI k mn mx lz
def gM (k : Int) : Bool → List Rx → List Nat
  | _, [] => []
  | fst, x :: xs => yY k fst ++ brW (Brk x.kind k) x.w ++ gM k false xs
end
mutual
def Rx.ms : Rx → Nat
  | .mk k r rs mn mx lz cp nm ks => 40 + nm.size + 26 * rs.length + kms ks
def kms : List Rx → Nat
  | [] => 0
  | x :: xs => x.ms + kms xs
end
theorem Rx.w_eq (x : Rx) : x.w = BP x.kind x.r x.ranges x.name ++ gM x.kind true x.kids ++ BI x.kind x.min x.max x.lazy := by cases x; rw [Rx.w]; rfl
theorem Rx.ms_eq (x : Rx) : x.ms = 40 + x.name.size + 26 * x.ranges.length + kms x.kids := by cases x; rw [Rx.ms]; rfl
theorem yC (k : Int) (y : Rx) : ∀ (l : List Rx) (fst : Bool), gM k fst (l ++ [y]) = gM k fst l ++ (yY k (fst && l.isEmpty) ++ brW (Brk y.kind k) y.w)
  | [], fst => by rw [List.nil_append, gM, gM, gM]; simp
  | x :: xs, fst => by rw [List.cons_append, gM, yC k y xs false, gM]; simp
theorem oC {k : Int} {l : List Rx} {j : Nat} (hj : j < l.length) : gM k true (l.take (j + 1)) = gM k true (l.take j) ++ (yY k (decide (j = 0)) ++ brW (Brk l[j].kind k) l[j].w) := by
  rw [List.take_add_one, List.getElem?_eq_getElem hj, Option.toList_some, yC]
  have : (true && (l.take j).isEmpty) = decide (j = 0) := by
    rw [Bool.true_and, Bool.eq_iff_iff, decide_eq_true_iff, List.isEmpty_iff, List.take_eq_nil_iff]
    constructor
    · rintro (h | h)
      · exact h
      · rw [h] at hj; cases hj
    · exact .inl
  rw [this]
theorem qY {l : List Rx} {j : Nat} (hj : j < l.length) : kms (l.take (j + 1)) = kms (l.take j) + l[j].ms := by
  induction l generalizing j with
  | nil => cases hj
  | cons x l ih => cases j with
    | zero => simp [kms]
    | succ j => simp only [List.take_succ_cons, kms, List.getElem_cons_succ, ih (by simpa using hj)]; omega
theorem JB {l : List Rx} (j : Nat) : kms (l.take j) ≤ kms l := by
  induction l generalizing j with
  | nil => simp [kms]
  | cons x l ih => cases j with
    | zero => simp [kms]
    | succ j => simp only [List.take_succ_cons, kms]; have := ih j; omega
theorem CL : ∀ (f n : Nat), n < 16 ^ (f + 1) → (hexL n).length ≤ f + 1 ∧ Lo (hexL n)
  | 0, n, h => by
    rw [CK (by simpa using h)]
    have h16 : n < 16 := by simpa using h
    exact ⟨Nat.le_refl _, fun b hb => by rw [List.mem_singleton.1 hb]; unfold hx; split <;> omega⟩
  | f + 1, n, h => by
    by_cases c : n < 16
    · rw [CK c]
      exact ⟨by simp, fun b hb => by rw [List.mem_singleton.1 hb]; unfold hx; split <;> omega⟩
    · rw [LU c]
      obtain ⟨h1, h2⟩ := CL f (n / 16) (Nat.div_lt_of_lt_mul (by rw [Nat.mul_comm, ← Nat.pow_succ]; exact h))
      refine ⟨by simp; omega, fun b hb => ?_⟩
      rcases List.mem_append.1 hb with hb | hb
      · exact h2 b hb
      · rw [List.mem_singleton.1 hb]; unfold hx; split <;> omega
theorem Lo.app {a b : List Nat} (h : Lo a) (k : Lo b) : Lo (a ++ b) := fun x hx => (List.mem_append.1 hx).elim (h x) (k x)
theorem CJ {c : Int} (h0 : 0 ≤ c) (h1 : c ≤ 1114111) : (JC c).length ≤ 12 ∧ Lo (JC c) := by
  obtain ⟨h2, h3⟩ := CL 7 c.toNat (by show c.toNat < 4294967296; omega)
  refine ⟨by simp [JC]; omega, ?_⟩
  exact ((show Lo [92, 120, 123] by unfold Lo; decide).app h3).app (by unfold Lo; decide)
theorem LV (c : Int) : Lo (dW c) := tP c
theorem LG {c : Int} (h0 : 0 ≤ c) (h1 : c ≤ 1114111) : (qX c).length ≤ 12 ∧ Lo (qX c) := by
  unfold qX
  split
  · exact CJ h0 h1
  · split
    · refine ⟨by simp, fun b hb => ?_⟩
      simp at hb
      rcases hb with rfl | rfl <;> omega
    · exact ⟨by have := rY c; omega, LV c⟩
theorem CX {c : Int} (h0 : 0 ≤ c) (h1 : c ≤ 1114111) : (tS c).length ≤ 12 ∧ Lo (tS c) := by
  unfold tS
  split
  · exact ⟨by have := rY c; omega, LV c⟩
  · exact CJ h0 h1
theorem KH {g : Int × Int} (h0 : 0 ≤ g.1) (h1 : g.1 ≤ g.2) (h2 : g.2 ≤ 1114111) : (uV g).length ≤ 26 ∧ Lo (uV g) := by
  obtain ⟨a1, a2⟩ := CX h0 (show g.1 ≤ 1114111 by omega)
  obtain ⟨b1, b2⟩ := CX (show 0 ≤ g.2 by omega) h2
  unfold uV
  split
  · refine ⟨by rw [List.length_append, List.length_cons]; omega, a2.app fun b hb => ?_⟩
    rcases List.mem_cons.1 hb with rfl | hb
    · decide
    · exact b2 b hb
  · exact ⟨by simp; omega, a2.app (fun b hb => by cases hb)⟩
def RgB (l : List (Int × Int)) : Prop := ∀ g, g ∈ l → 0 ≤ g.1 ∧ g.1 ≤ g.2 ∧ g.2 ≤ 1114111
theorem RangesOk.b {l : List (Int × Int)} (h : RangesOk l) : RgB l := fun g hg => by
  obtain ⟨i, hi, rfl⟩ := List.getElem_of_mem hg
  obtain ⟨h1, h2, h3, -⟩ := h.1 i hi
  exact ⟨h1, h2, h3⟩
theorem wP : ∀ {l : List (Int × Int)}, RgB l → (l.flatMap uV).length ≤ 26 * l.length
  | [], _ => by simp
  | g :: l, h => by
    obtain ⟨h1, h2, h3⟩ := h g (List.mem_cons_self ..)
    have := (KH h1 h2 h3).1
    have := wP (l := l) (fun g hg => h g (List.mem_cons_of_mem _ hg))
    rw [List.flatMap_cons, List.length_append, List.length_cons]; omega
theorem FF {l : List (Int × Int)} {k : Nat} (hk : k < l.length) : (l.take (k + 1)).flatMap uV = (l.take k).flatMap uV ++ uV l[k] := by
  rw [List.take_add_one, List.getElem?_eq_getElem hk, List.flatMap_append]; simp
theorem xD (n : Nat) : Lo (jK n) := KB _
end Go.Proofs.YtljadkcojnlioaaGreatDoor
namespace Go.Proofs.YtljadkcojnlioaaGreatDoor
open Go.RowKit Go.W
attribute [local irreducible] Decidable.decide
theorem mE : eY Tryz.prog 100 := ⟨_, Tryz.func100, by kernel_rfl, by kernel_rfl⟩
theorem uQ : eY Tryz.prog 101 := ⟨_, Tryz.func101, by kernel_rfl, by kernel_rfl⟩
theorem cT : eY Tryz.prog 102 := ⟨_, Tryz.func102, by kernel_rfl, by kernel_rfl⟩
theorem EM : eY Tryz.prog 123 := ⟨_, Tryz.func123, by kernel_rfl, by kernel_rfl⟩
theorem bW : eY Tryz.prog 49 := ⟨_, Tryz.func49, by kernel_rfl, by kernel_rfl⟩
theorem lM : eY Tryz.prog 99 := ⟨_, Tryz.func99, by kernel_rfl, by kernel_rfl⟩
structure Gw (w : World) : Prop where
  glb : Glb w
  t64 : Tab64 w
  t10 : Lib.TabIs Tryz.prog w "internal/strconv.uint64pow10" .u64 Lib.pow10Tab
theorem MX {w w' : World} {nm : String} {k : IntKind} {zs : List Int} (h : Lib.TabIs Tryz.prog w nm k zs) (he : Evo [] w w') : Lib.TabIs Tryz.prog w' nm k zs := by
  unfold Lib.TabIs World.var? at h ⊢
  cases hg : Tryz.prog.globalNamed nm with
  | none => rw [hg] at h; exact absurd h (by simp)
  | some g =>
    rw [hg] at h
    simp only [Option.bind_eq_bind, Option.bind_some] at h ⊢
    cases hb : w.heap[g]? with
    | none => rw [hb] at h; exact absurd h (by simp)
    | some o => rw [he.block g (eW hb) (by simp), ]; exact h
theorem Gw.evo0 {w w' : World} (h : Gw w) (he : Evo [] w w') : Gw w' := ⟨h.glb.evo he (by simp), h.t64.evo he (by simp), MX h.t10 he⟩
theorem TI (w : World) (k : Nat) (os : Array Obj) : Evo [] w (Sort.grow (w.drewN k) os) := by
  refine ⟨rfl, rfl, rfl, ?_, fun b hb hx => ?_⟩
  · simp [Sort.grow]
  · simp only [Sort.grow]
    rw [Array.getElem?_append_left (by simpa using hb)]
    rfl
theorem fC {w : World} (hG : Gw w) (n : Int) (h0 : 0 ≤ n) (h1 : n ≤ 1000000) : Calls Tryz.prog 102 #[.int .i64 n] w (Ret fun v w' => v = .string (bstr (jK n.toNat)) ∧ Evo [] w w') := by
  refine (uB n (by omega) (by omega) w hG.t10).mono ?_
  rintro e w' ⟨rfl, k, os, rfl⟩
  refine ⟨_, rfl, ?_, TI w k os⟩
  rw [jK, KC, Lib.itoa, if_neg (by omega)]
theorem cY {w w1 : World} {o o1 o2 : Option Nat} (h : o1 = o ∨ ∃ g, o1 = some g ∧ w.heap.size ≤ g) (h2 : o2 = o1 ∨ ∃ g, o2 = some g ∧ w1.heap.size ≤ g) (hw : w.heap.size ≤ w1.heap.size) : o2 = o ∨ ∃ g, o2 = some g ∧ w.heap.size ≤ g := by
  rcases h2 with rfl | ⟨g, rfl, hg⟩
  · exact h
  · exact .inr ⟨g, rfl, Nat.le_trans hw hg⟩
theorem cZ {w : World} {b : Nat} {o o1 : Option Nat} (h : o1 = o ∨ ∃ g, o1 = some g ∧ w.heap.size ≤ g) : ∀ y, y ∈ b :: o1.toList → y ∈ b :: o.toList ∨ w.heap.size ≤ y := fun y hy => by
  rcases h with rfl | ⟨g, rfl, hg⟩
  · exact .inl hy
  · rcases List.mem_cons.1 hy with rfl | hy
    · exact .inl (List.mem_cons_self ..)
    · rw [List.mem_singleton.1 hy]; exact .inr hg
theorem iA {w0 : World} {b : Nat} {o : Option Nat} (hub : w0.heap.size ≤ b) (h : Ge w0 o) : ∀ y, y ∈ b :: o.toList → y ∈ ([] : List Nat) ∨ w0.heap.size ≤ y := fun y hy => by
  rcases List.mem_cons.1 hy with rfl | hy
  · exact .inr hub
  · cases o with
    | none => cases hy
    | some g => rw [List.mem_singleton.1 hy]; exact .inr (h g rfl)
theorem nF {q b : Nat} {o : Option Nat} (h1 : Apart (some q) (some b)) (h2 : Apart (some q) o) : q ∉ b :: o.toList := fun h => by
  rcases List.mem_cons.1 h with rfl | h
  · exact h1 q rfl rfl
  · exact h2.nmem h
theorem eL {w w1 : World} {b : Nat} {L l X : List Nat} {ob ob1 : Option Nat} (h : BdN w1 b L ob1) (e : L = l ++ X) (hE : Evo (b :: ob.toList) w w1) (hN : ob1 = ob ∨ ∃ g, ob1 = some g ∧ w.heap.size ≤ g) : Wr w b (l ++ X) ob w1 := ⟨ob1, e ▸ h, hE, hN⟩
theorem bap (a b : List Nat) : bstr a ++ bstr b = bstr (a ++ b) := by
  apply ByteArray.ext; simp [bstr]
theorem bsz (l : List Nat) : (bstr l).size = l.length := by simp [bstr, ByteArray.size]
theorem cB {l : List Nat} (h : l.all (fun b => decide (b < 256)) = true) : Lo l := fun b hb => by have := List.all_eq_true.1 h b hb; exact of_decide_eq_true this
theorem lG {w0 w : World} {b : Nat} {l : List Nat} {ob : Option Nat} {c : Int} (hG : Gw w0) (hE0 : Evo [] w0 w) (hub : w0.heap.size ≤ b) (huo : Ge w0 ob) (h : BdN w b l ob) (hl : l.length ≤ 90000000) (h0 : 0 ≤ c) (h1 : c ≤ 1114111) :
    Calls Tryz.prog 99 #[.pointer (some ⟨b, 0, none⟩), .int .i32 c] w (Ret fun v w' => Wr w b (l ++ JC c) ob w') := by
  obtain ⟨n, rfl⟩ : ∃ n : Nat, c = (n : Int) := ⟨c.toNat, by omega⟩; obtain ⟨hxw1, hxw⟩ := CJ h0 h1
  have hlen := (CL 7 n (by show n < 4294967296; omega)).1
  refine bJ (N := 11) Tryz.func99 rfl rfl rfl ?_; refine aB (aG (aG ?_))
  refine aF (kH n rfl Tryz.underlying21 Tryz.underlying2 rfl (by show ((n : Nat) : Int) ≤ 9223372036854775807; omega)) ?_
  refine aK (vs := [_, _]) EM rfl (SU (hG.evo0 hE0).t64 n (by show n < 4294967296; omega)) rfl ?_
  rintro _ w1 ⟨rfl, hw2⟩; have hE3 := (Evo.refl (b :: ob.toList) w).then hw2
  refine aF (cI rfl rfl (by rw [bsz]; show 3 + _ ≤ _; omega)) ?_
  rw [show ByteArray.mk #[92, 120, 123] = bstr [92, 120, 123] from by decide +kernel, bap]
  refine aF (cI rfl rfl (by rw [bsz]; show _ + 1 ≤ _; simp; omega)) ?_
  rw [show ByteArray.mk #[125] = bstr [125] from by decide +kernel, bap]; refine aK (vs := [_, _]) bW rfl (cW (h.evo0 hw2) (m := JC (n : Int)) rfl hxw (by omega) (by omega)) rfl ?_; rintro _ w6 ⟨obw1, hBDw1, hw7, hnb1⟩; refine aC (cC rfl ?_); exact eL hBDw1 (rfl) (hE3.step hw7 (cZ (Or.inl rfl))) (cY (Or.inl rfl) hnb1 hE3.size)
theorem OY : ∀ m, m < 128 → (0 ≤ Lib.indexByte (ByteArray.mk #[92, 46, 43, 42, 63, 40, 41, 124, 91, 93, 123, 125, 94, 36]).data.toList (UInt8.ofNat m) ↔ m ∈ NA) := by decide +kernel
theorem FD {w : World} (m : Nat) (hm : m < 128) : Calls Tryz.prog 41 #[.string (ByteArray.mk #[92, 46, 43, 42, 63, 40, 41, 124, 91, 93, 123, 125, 94, 36]), .int .u8 (m : Nat)] w (Ret fun v w' => ∃ z, v = .int .i64 z ∧ (0 ≤ z ↔ m ∈ NA) ∧ Evo [] w w') := by
  refine (kC _ _ w).mono ?_
  rintro e w' ⟨rfl, rfl⟩
  refine ⟨_, rfl, _, rfl, ?_, Evo.refl _ _⟩
  rw [← OY m hm]
  simp
theorem vN {w0 w : World} {b : Nat} {l : List Nat} {ob : Option Nat} {c : Int} (hG : Gw w0) (hE0 : Evo [] w0 w) (hub : w0.heap.size ≤ b) (huo : Ge w0 ob) (h : BdN w b l ob) (hl : l.length ≤ 90000000) (h0 : 0 ≤ c) (h1 : c ≤ 1114111) :
    Calls Tryz.prog 101 #[.pointer (some ⟨b, 0, none⟩), .int .i32 c] w (Ret fun v w' => Wr w b (l ++ tS c) ob w') := by
  obtain ⟨n, rfl⟩ : ∃ n : Nat, c = (n : Int) := ⟨c.toNat, by omega⟩; refine bJ (N := 21) Tryz.func101 rfl rfl rfl ?_; refine aE (aE (aB (aG (aF (dF rfl rfl) ?_)))); refine aG (aV (t := 6) rfl (fun hs6 => ?_) (fun hs6 => ?_))
  ·refine aQ (aG (aQ ?_))
   refine aF (kH n rfl Tryz.underlying21 Tryz.underlying5 rfl (by show ((n : Nat) : Int) ≤ 255; omega)) ?_
   refine aQ (aK (vs := [_]) nM rfl (wL n) rfl ?_); rintro _ w1 ⟨rfl, hw2⟩; have hE3 := (Evo.refl (b :: ob.toList) w).then hw2; have hE4 := hE0.then hw2; have hF5 := h.evo0 hw2; refine bH (aG (aV (t := 11) rfl (fun hs11 => ?_) (fun hs11 => ?_)))
   ·refine aQ (aG (aQ (aF (fX rfl rfl) ?_))); refine bH (aC (aA (bF rfl (fun hc14 => ?_) (fun hc14 => ?_))))
    ·refine aE (aB (aG (aG ?_)))
     refine aK (vs := [_, _]) mE rfl (lQ hF5 (by unfold IsR; omega) (by omega)) rfl ?_
     rintro _ w6 ⟨obw1, hBDw1, hw7, hnb1⟩; have hV9 := hE3; have hV90 := hE4; have hN1 := cY (Or.inl rfl) hnb1 hV9.size; have hU1 := dM huo hV90.size hnb1; refine aC (aA (aO (aN (vI rfl ?_))))
     exact eL hBDw1 (by rw [tS, if_pos (show JU (n : Int) from ⟨by omega, by rw [Int.toNat_natCast]; exact hs11, by omega⟩)]) (hE3.step hw7 (cZ (Or.inl rfl))) hN1
    refine aU (aA (aB (aG (aG (aK (vs := [_, _]) lM rfl (lG hG hE4 hub huo hF5 hl h0 h1) rfl ?_))))); rintro _ w10 ⟨obw1, hBDw1, hw11, hnb1⟩; have hV9 := hE3; have hV90 := hE4; have hN1 := cY (Or.inl rfl) hnb1 hV9.size; have hU1 := dM huo hV90.size hnb1; refine aC (cC rfl ?_)
    exact eL hBDw1 (by rw [tS, if_neg (fun hq : JU (n : Int) => by obtain ⟨q1, q2, q3⟩ := hq; rw [Int.toNat_natCast] at q2; first | omega | exact hs11 q2 | exact hs6 q2)]) (hE3.step hw11 (cZ (Or.inl rfl))) hN1
   refine aH (aH (aR (aC (aA (cO rfl ?_))))); refine aU (aA (aB (aG (aG (aK (vs := [_, _]) lM rfl (lG hG hE4 hub huo hF5 hl h0 h1) rfl ?_))))); rintro _ w14 ⟨obw1, hBDw1, hw15, hnb1⟩; have hV9 := hE3; have hV90 := hE4; have hN1 := cY (Or.inl rfl) hnb1 hV9.size; have hU1 := dM huo hV90.size hnb1; refine aC (cC rfl ?_)
   exact eL hBDw1 (by rw [tS, if_neg (fun hq : JU (n : Int) => by obtain ⟨q1, q2, q3⟩ := hq; rw [Int.toNat_natCast] at q2; first | omega | exact hs11 q2 | exact hs6 q2)]) (hE3.step hw15 (cZ (Or.inl rfl))) hN1
  refine aH (aH (aH (aR (aG (aH (aH (aR (aC (aA (cO rfl ?_)))))))))); refine aU (aA (aB (aG (aG (aK (vs := [_, _]) lM rfl (lG hG hE0 hub huo h hl h0 h1) rfl ?_))))); rintro _ w18 ⟨obw1, hBDw1, hw19, hnb1⟩; have hV9 := (Evo.refl (b :: ob.toList) w); have hV90 := hE0; have hN1 := cY (Or.inl rfl) hnb1 hV9.size; have hU1 := dM huo hV90.size hnb1; refine aC (cC rfl ?_)
  exact eL hBDw1 (by rw [tS, if_neg (fun hq : JU (n : Int) => by obtain ⟨q1, q2, q3⟩ := hq; rw [Int.toNat_natCast] at q2; first | omega | exact hs11 q2 | exact hs6 q2)]) ((Evo.refl (b :: ob.toList) w).step hw19 (cZ (Or.inl rfl))) hN1
theorem EX {w0 w : World} {b : Nat} {l : List Nat} {ob : Option Nat} {c : Int} (hG : Gw w0) (hE0 : Evo [] w0 w) (hub : w0.heap.size ≤ b) (huo : Ge w0 ob) (h : BdN w b l ob) (hl : l.length ≤ 90000000) (h0 : 0 ≤ c) (h1 : c ≤ 1114111) :
    Calls Tryz.prog 72 #[.pointer (some ⟨b, 0, none⟩), .int .i32 c] w (Ret fun v w' => Wr w b (l ++ qX c) ob w') := by
  obtain ⟨n, rfl⟩ : ∃ n : Nat, c = (n : Int) := ⟨c.toNat, by omega⟩; refine bJ (N := 39) Tryz.func72 rfl rfl rfl ?_; refine bR (aE (aB (aG (aF (dF rfl rfl) ?_)))); refine aG (aV (t := 10) rfl (fun hs10 => ?_) (fun hs10 => ?_))
  ·refine aH (aH (bH (aG (aH (aH (aH (fO ?_))))))); refine fO ?_; refine aH (bH (aM (aC (aA (cV rfl ?_))))); refine aB (aG (aG (aK (vs := [_, _]) lM rfl (lG hG hE0 hub huo h hl h0 h1) rfl ?_))); rintro _ w1 ⟨obw1, hBDw1, hw2, hnb1⟩; have hV9 := (Evo.refl (b :: ob.toList) w); have hV90 := hE0; have hN1 := cY (Or.inl rfl) hnb1 hV9.size; have hU1 := dM huo hV90.size hnb1; refine aC (aW (cC rfl ?_))
   exact eL hBDw1 (by rw [qX, if_pos (show Odd (n : Int) from by unfold Odd; omega)]) ((Evo.refl (b :: ob.toList) w).step hw2 (cZ (Or.inl rfl))) hN1
  refine aQ (aG (aQ (aF (bD rfl rfl) ?_))); refine aR (aG (aV (t := 14) rfl (fun hs14 => ?_) (fun hs14 => ?_)))
  ·refine aH (aH (aH (fO ?_))); refine fO ?_; refine aH (bH (aM (aC (aA (cV rfl ?_))))); refine aB (aG (aG (aK (vs := [_, _]) lM rfl (lG hG hE0 hub huo h hl h0 h1) rfl ?_))); rintro _ w5 ⟨obw1, hBDw1, hw6, hnb1⟩; have hV9 := (Evo.refl (b :: ob.toList) w); have hV90 := hE0; have hN1 := cY (Or.inl rfl) hnb1 hV9.size; have hU1 := dM huo hV90.size hnb1; refine aC (aW (cC rfl ?_))
   exact eL hBDw1 (by rw [qX, if_pos (show Odd (n : Int) from by unfold Odd; omega)]) ((Evo.refl (b :: ob.toList) w).step hw6 (cZ (Or.inl rfl))) hN1
  refine aQ (aG (aQ (aF (gC rfl rfl) ?_))); refine aQ (aG (aV (t := 17) rfl (fun hs17 => ?_) (fun hs17 => ?_)))
  ·refine aQ (aG (aQ (aF (gY rfl rfl) ?_))); refine aQ (bH (aR (aM (aC (aA (bF rfl (fun hc7 => ?_) (fun hc7 => ?_)))))))
   ·refine aB (aG (aG (aK (vs := [_, _]) lM rfl (lG hG hE0 hub huo h hl h0 h1) rfl ?_))); rintro _ w9 ⟨obw1, hBDw1, hw10, hnb1⟩; have hV9 := (Evo.refl (b :: ob.toList) w); have hV90 := hE0; have hN1 := cY (Or.inl rfl) hnb1 hV9.size; have hU1 := dM huo hV90.size hnb1; refine aC (aW (cC rfl ?_))
    exact eL hBDw1 (by rw [qX, if_pos (show Odd (n : Int) from by unfold Odd; omega)]) ((Evo.refl (b :: ob.toList) w).step hw10 (cZ (Or.inl rfl))) hN1
   refine aE ?_
   have hOdd : ¬ Odd (n : Int) := by unfold Odd; omega
   have hIR : IsR (n : Int) := by unfold IsR; omega
   refine aB (aG (aF (dF rfl rfl) ?_)); refine aG (aV (t := 28) rfl (fun hs28 => ?_) (fun hs28 => ?_))
   ·refine aQ (aG (aQ ?_))
    refine aF (kH n rfl Tryz.underlying21 Tryz.underlying5 rfl (by show ((n : Nat) : Int) ≤ 255; omega)) ?_
    refine aQ ?_; refine aK (vs := [_, _]) oU rfl (FD n (by omega)) rfl ?_; rintro _ w13 ⟨z, rfl, hz, hw14⟩; have hE15 := (Evo.refl (b :: ob.toList) w).then hw14; refine aQ (aF (gC rfl rfl) ?_); refine bH (aM (aC (aA (bF rfl (fun hc25 => ?_) (fun hc25 => ?_)))))
    ·refine aB (aG (aG (aF (yN rfl Tryz.underlying21 Tryz.underlying9) ?_))); rw [GQ hIR, lD hIR, show jL n = [n] by rw [jL, if_pos (by omega)]]
     refine aF (cI rfl rfl (by rw [bsz]; show 1 + 1 ≤ _; omega)) ?_
     rw [show ByteArray.mk #[92] = bstr [92] from by decide +kernel, bap]
     refine aK (vs := [_, _]) bW rfl (cW (h.evo0 hw14) (m := [92, n]) rfl (fun x hx => by simp at hx; omega) (by first | omega | (simp only [List.length_append]; omega)) (by simp only [List.length_append, List.length_cons, List.length_nil]; omega)) rfl ?_
     rintro _ w18 ⟨obw1, hBDw1, hw19, hnb1⟩; have hV9 := hE15; have hV90 := (hE0.then hw14); have hN1 := cY (Or.inl rfl) hnb1 hV9.size; have hU1 := dM huo hV90.size hnb1; refine aC (aW (cC rfl ?_))
     exact eL hBDw1 (by rw [qX, if_neg hOdd, if_pos ⟨by omega, by rw [Int.toNat_natCast]; exact hz.1 (by omega)⟩]; rfl) (hE15.step hw19 (cZ (Or.inl rfl))) hN1
    refine aB (aG (aG ?_)); refine aK (vs := [_, _]) mE rfl (lQ (h.evo0 hw14) hIR (by omega)) rfl ?_; rintro _ w22 ⟨obw1, hBDw1, hw23, hnb1⟩; have hV9 := hE15; have hV90 := (hE0.then hw14); have hN1 := cY (Or.inl rfl) hnb1 hV9.size; have hU1 := dM huo hV90.size hnb1; refine aC (aW (cC rfl ?_))
    exact eL hBDw1 (by rw [qX, if_neg hOdd, if_neg (fun hq => by obtain ⟨q1, q2⟩ := hq; rw [Int.toNat_natCast] at q2; first | omega | (have h8 := hz.2 q2; omega))]) (hE15.step hw23 (cZ (Or.inl rfl))) hN1
   refine aH (aH (aH (aH (aR (aM (aC (aA (cO rfl ?_)))))))); refine aB (aG (aG ?_)); refine aK (vs := [_, _]) mE rfl (lQ h hIR (by omega)) rfl ?_; rintro _ w26 ⟨obw1, hBDw1, hw27, hnb1⟩; have hV9 := (Evo.refl (b :: ob.toList) w); have hV90 := hE0; have hN1 := cY (Or.inl rfl) hnb1 hV9.size; have hU1 := dM huo hV90.size hnb1; refine aC (aW (cC rfl ?_))
   exact eL hBDw1 (by rw [qX, if_neg hOdd, if_neg (fun hq => by obtain ⟨q1, q2⟩ := hq; rw [Int.toNat_natCast] at q2; first | omega | (have h8 := hz.2 q2; omega))]) ((Evo.refl (b :: ob.toList) w).step hw27 (cZ (Or.inl rfl))) hN1
  refine aH (aH (aQ (aR (aR (aM (aC (aA (cO rfl ?_)))))))); refine aE ?_
  have hOdd : ¬ Odd (n : Int) := by unfold Odd; omega
  have hIR : IsR (n : Int) := by unfold IsR; omega
  refine aB (aG (aF (dF rfl rfl) ?_)); refine aG (aV (t := 28) rfl (fun hs28 => ?_) (fun hs28 => ?_))
  ·refine aQ (aG (aQ ?_))
   refine aF (kH n rfl Tryz.underlying21 Tryz.underlying5 rfl (by show ((n : Nat) : Int) ≤ 255; omega)) ?_
   refine aQ ?_; refine aK (vs := [_, _]) oU rfl (FD n (by omega)) rfl ?_; rintro _ w30 ⟨z, rfl, hz, hw31⟩; have hE32 := (Evo.refl (b :: ob.toList) w).then hw31; refine aQ (aF (gC rfl rfl) ?_); refine bH (aM (aC (aA (bF rfl (fun hc25 => ?_) (fun hc25 => ?_)))))
   ·refine aB (aG (aG (aF (yN rfl Tryz.underlying21 Tryz.underlying9) ?_))); rw [GQ hIR, lD hIR, show jL n = [n] by rw [jL, if_pos (by omega)]]
    refine aF (cI rfl rfl (by rw [bsz]; show 1 + 1 ≤ _; omega)) ?_
    rw [show ByteArray.mk #[92] = bstr [92] from by decide +kernel, bap]
    refine aK (vs := [_, _]) bW rfl (cW (h.evo0 hw31) (m := [92, n]) rfl (fun x hx => by simp at hx; omega) (by first | omega | (simp only [List.length_append]; omega)) (by simp only [List.length_append, List.length_cons, List.length_nil]; omega)) rfl ?_
    rintro _ w35 ⟨obw1, hBDw1, hw36, hnb1⟩; have hV9 := hE32; have hV90 := (hE0.then hw31); have hN1 := cY (Or.inl rfl) hnb1 hV9.size; have hU1 := dM huo hV90.size hnb1; refine aC (aW (cC rfl ?_))
    exact eL hBDw1 (by rw [qX, if_neg hOdd, if_pos ⟨by omega, by rw [Int.toNat_natCast]; exact hz.1 (by omega)⟩]; rfl) (hE32.step hw36 (cZ (Or.inl rfl))) hN1
   refine aB (aG (aG ?_)); refine aK (vs := [_, _]) mE rfl (lQ (h.evo0 hw31) hIR (by omega)) rfl ?_; rintro _ w39 ⟨obw1, hBDw1, hw40, hnb1⟩; have hV9 := hE32; have hV90 := (hE0.then hw31); have hN1 := cY (Or.inl rfl) hnb1 hV9.size; have hU1 := dM huo hV90.size hnb1; refine aC (aW (cC rfl ?_))
   exact eL hBDw1 (by rw [qX, if_neg hOdd, if_neg (fun hq => by obtain ⟨q1, q2⟩ := hq; rw [Int.toNat_natCast] at q2; first | omega | (have h8 := hz.2 q2; omega))]) (hE32.step hw40 (cZ (Or.inl rfl))) hN1
  refine aH (aH (aH (aH (aR (aM (aC (aA (cO rfl ?_)))))))); refine aB (aG (aG ?_)); refine aK (vs := [_, _]) mE rfl (lQ h hIR (by omega)) rfl ?_; rintro _ w43 ⟨obw1, hBDw1, hw44, hnb1⟩; have hV9 := (Evo.refl (b :: ob.toList) w); have hV90 := hE0; have hN1 := cY (Or.inl rfl) hnb1 hV9.size; have hU1 := dM huo hV90.size hnb1; refine aC (aW (cC rfl ?_))
  exact eL hBDw1 (by rw [qX, if_neg hOdd, if_neg (fun hq => by obtain ⟨q1, q2⟩ := hq; rw [Int.toNat_natCast] at q2; first | omega | (have h8 := hz.2 q2; omega))]) ((Evo.refl (b :: ob.toList) w).step hw44 (cZ (Or.inl rfl))) hN1
theorem xC (n : Nat) (h : n ≤ 1000) : (jK n).length ≤ 4 := by
  have : ∀ n, n ≤ 1000 → (jK n).length ≤ 4 := by
    intro n h
    unfold jK
    rw [List.length_map]
    have hh : ∀ (f n : Nat), n < 10 ^ (f + 1) → (Lib.decDigits n).length ≤ f + 1 := by
      intro f
      induction f with
      | zero => intro n h; rw [Lib.decDigits, dif_pos (by simpa using h)]; simp
      | succ f ih =>
        intro n h
        rw [Lib.decDigits]
        split
        · simp
        · rw [List.length_append]
          have := ih (n / 10) (Nat.div_lt_of_lt_mul (by rw [Nat.mul_comm, ← Nat.pow_succ]; exact h))
          simp; omega
    exact hh 3 n (by show n < 10000; omega)
  exact this n h
theorem cL : ByteArray.mk #[123] = bstr [123] := by decide +kernel
theorem bP : ByteArray.mk #[44, 125] = bstr [44, 125] := by decide +kernel
theorem cK : ByteArray.mk #[125] = bstr [125] := by decide +kernel
theorem dI : ByteArray.mk #[44] = bstr [44] := by decide +kernel
theorem zL {w0 w : World} {b : Nat} {l : List Nat} {ob : Option Nat} {lo hi : Int} (hG : Gw w0) (hE0 : Evo [] w0 w) (hub : w0.heap.size ≤ b) (huo : Ge w0 ob) (h : BdN w b l ob) (hl : l.length ≤ 90000000) (h0 : 0 ≤ lo) (h1 : lo ≤ 1000) (h2 : hi = -1 ∨ (lo ≤ hi ∧ hi ≤ 1000)) :
    Calls Tryz.prog 75 #[.pointer (some ⟨b, 0, none⟩), .int .i64 lo, .int .i64 hi] w (Ret fun v w' => Wr w b (l ++ kE lo hi) ob w') := by
  have hd1 := xC lo.toNat (by omega); have hd2 : hi ≠ -1 → (jK hi.toNat).length ≤ 4 := fun h => xC hi.toNat (by omega); have hq1 := xD lo.toNat; have hq2 := xD hi.toNat; refine bJ (N := 62) Tryz.func75 rfl rfl rfl ?_; refine bR (aE (aB (aG (aF (bD rfl rfl) ?_)))); refine aG (aV (t := 19) rfl (fun hs19 => ?_) (fun hs19 => ?_))
  ·refine aQ (aG (aQ (aF (bD rfl rfl) ?_))); refine bH (aM (aC (aA (bF rfl (fun hc16 => ?_) (fun hc16 => ?_)))))
   ·refine aB (aG ?_)
    refine aK (vs := [_, _]) bW rfl (cW h (m := [42]) (by decide +kernel) (cB (by decide +kernel)) (by first | omega | (simp only [List.length_append]; omega)) (by decide)) rfl ?_
    rintro _ w1 ⟨obw1, hBDw1, hw2, hnb1⟩; have hV9 := (Evo.refl (b :: ob.toList) w); have hV90 := hE0; have hN1 := cY (Or.inl rfl) hnb1 hV9.size; have hU1 := dM huo hV90.size hnb1; refine aC (aW (cC rfl ?_))
    exact eL hBDw1 (by unfold kE; rw [if_pos (by omega)]) ((Evo.refl (b :: ob.toList) w).step hw2 (cZ (Or.inl rfl))) hN1
   refine aE (aB (aG (aF (bD rfl rfl) ?_))); refine aG (aV (t := 28) rfl (fun hs28 => ?_) (fun hs28 => ?_))
   ·refine aQ (aG (aQ (aF (bD rfl rfl) ?_))); refine bH (aM (aC (aA (bF rfl (fun hc25 => ?_) (fun hc25 => ?_)))))
    ·refine aB (aG ?_)
     refine aK (vs := [_, _]) bW rfl (cW h (m := [43]) (by decide +kernel) (cB (by decide +kernel)) (by first | omega | (simp only [List.length_append]; omega)) (by decide)) rfl ?_
     rintro _ w5 ⟨obw1, hBDw1, hw6, hnb1⟩; have hV9 := (Evo.refl (b :: ob.toList) w); have hV90 := hE0; have hN1 := cY (Or.inl rfl) hnb1 hV9.size; have hU1 := dM huo hV90.size hnb1; refine aC (aW (cC rfl ?_))
     exact eL hBDw1 (by unfold kE; rw [if_neg (by omega), if_pos (by omega)]) ((Evo.refl (b :: ob.toList) w).step hw6 (cZ (Or.inl rfl))) hN1
    refine aE (aB (aG (aF (bD rfl rfl) ?_))); refine aG (aV (t := 37) rfl (fun hs37 => ?_) (fun hs37 => ?_))
    ·refine aQ (aG (aQ (aF (bD rfl rfl) ?_))); refine bH (aM (aC (aA (bF rfl (fun hc34 => ?_) (fun hc34 => ?_)))))
     ·refine aB (aG ?_)
      refine aK (vs := [_, _]) bW rfl (cW h (m := [63]) (by decide +kernel) (cB (by decide +kernel)) (by first | omega | (simp only [List.length_append]; omega)) (by decide)) rfl ?_
      rintro _ w9 ⟨obw1, hBDw1, hw10, hnb1⟩; have hV9 := (Evo.refl (b :: ob.toList) w); have hV90 := hE0; have hN1 := cY (Or.inl rfl) hnb1 hV9.size; have hU1 := dM huo hV90.size hnb1; refine aC (aW (cC rfl ?_))
      exact eL hBDw1 (by unfold kE; rw [if_neg (by omega), if_neg (by omega), if_pos (by omega)]) ((Evo.refl (b :: ob.toList) w).step hw10 (cZ (Or.inl rfl))) hN1
     refine aE (aB (aG (aF (bD rfl rfl) ?_))); refine aM (aC (aA (bF rfl (fun hc43 => ?_) (fun hc43 => ?_))))
     ·refine aB (aG (aG ?_)); refine aK (vs := [_]) cT rfl (fC (hG.evo0 hE0) lo (by omega) (by omega)) rfl ?_; rintro _ w13 ⟨rfl, hw14⟩; have hE15 := (Evo.refl (b :: ob.toList) w).then hw14
      skip
      refine aF (cI rfl rfl (by simp only [cL, bP, cK, dI, bap, bsz, List.length_append, List.length_cons, List.length_nil]; omega)) ?_
      simp only [cL, bP, cK, dI, bap]
      skip
      refine aF (cI rfl rfl (by simp only [cL, bP, cK, dI, bap, bsz, List.length_append, List.length_cons, List.length_nil]; omega)) ?_
      simp only [cL, bP, cK, dI, bap]
      refine aK (vs := [_, _]) bW rfl (cW (h.evo0 hw14) (m := [123] ++ jK lo.toNat ++ [44, 125]) rfl (((cB (by decide +kernel)).app hq1).app (cB (by decide +kernel))) (by first | omega | (simp only [List.length_append]; omega)) (by simp only [List.length_append, List.length_cons, List.length_nil]; omega)) rfl ?_
      rintro _ w18 ⟨obw1, hBDw1, hw19, hnb1⟩; have hV9 := hE15; have hV90 := (hE0.then hw14); have hN1 := cY (Or.inl rfl) hnb1 hV9.size; have hU1 := dM huo hV90.size hnb1; refine aC (aW (cC rfl ?_))
      exact eL hBDw1 (by unfold kE; rw [if_neg (by omega), if_neg (by omega), if_neg (by omega), if_pos (by omega)]) (hE15.step hw19 (cZ (Or.inl rfl))) hN1
     refine aE (aB (aG (aG (aF (bD rfl rfl) ?_)))); refine aM (aC (aA (bF rfl (fun hc52 => ?_) (fun hc52 => ?_))))
     ·refine aB (aG (aG ?_)); refine aK (vs := [_]) cT rfl (fC (hG.evo0 hE0) lo (by omega) (by omega)) rfl ?_; rintro _ w22 ⟨rfl, hw23⟩; have hE24 := (Evo.refl (b :: ob.toList) w).then hw23
      skip
      refine aF (cI rfl rfl (by simp only [cL, bP, cK, dI, bap, bsz, List.length_append, List.length_cons, List.length_nil]; omega)) ?_
      simp only [cL, bP, cK, dI, bap]
      skip
      refine aF (cI rfl rfl (by simp only [cL, bP, cK, dI, bap, bsz, List.length_append, List.length_cons, List.length_nil]; omega)) ?_
      simp only [cL, bP, cK, dI, bap]
      refine aK (vs := [_, _]) bW rfl (cW (h.evo0 hw23) (m := [123] ++ jK lo.toNat ++ [125]) rfl (((cB (by decide +kernel)).app hq1).app (cB (by decide +kernel))) (by first | omega | (simp only [List.length_append]; omega)) (by simp only [List.length_append, List.length_cons, List.length_nil]; omega)) rfl ?_
      rintro _ w27 ⟨obw1, hBDw1, hw28, hnb1⟩; have hV9 := hE24; have hV90 := (hE0.then hw23); have hN1 := cY (Or.inl rfl) hnb1 hV9.size; have hU1 := dM huo hV90.size hnb1; refine aC (aW (cC rfl ?_))
      exact eL hBDw1 (by unfold kE; rw [if_neg (by omega), if_neg (by omega), if_neg (by omega), if_neg (by omega), if_pos (by omega)]) (hE24.step hw28 (cZ (Or.inl rfl))) hN1
     have hd3 := hd2 (by omega); refine aB (aG (aG ?_)); refine aK (vs := [_]) cT rfl (fC (hG.evo0 hE0) lo (by omega) (by omega)) rfl ?_; rintro _ w31 ⟨rfl, hw32⟩
     skip
     refine aF (cI rfl rfl (by simp only [cL, bP, cK, dI, bap, bsz, List.length_append, List.length_cons, List.length_nil]; omega)) ?_
     simp only [cL, bP, cK, dI, bap]
     skip
     refine aF (cI rfl rfl (by simp only [cL, bP, cK, dI, bap, bsz, List.length_append, List.length_cons, List.length_nil]; omega)) ?_
     simp only [cL, bP, cK, dI, bap]; refine aG ?_; refine aK (vs := [_]) cT rfl (fC (hG.evo0 (hE0.then hw32)) hi (by omega) (by omega)) rfl ?_; rintro _ w36 ⟨rfl, hw37⟩; have hE38 := ((Evo.refl (b :: ob.toList) w).then hw32).then hw37
     skip
     refine aF (cI rfl rfl (by simp only [cL, bP, cK, dI, bap, bsz, List.length_append, List.length_cons, List.length_nil]; omega)) ?_
     simp only [cL, bP, cK, dI, bap]
     skip
     refine aF (cI rfl rfl (by simp only [cL, bP, cK, dI, bap, bsz, List.length_append, List.length_cons, List.length_nil]; omega)) ?_
     simp only [cL, bP, cK, dI, bap]
     refine aK (vs := [_, _]) bW rfl (cW ((h.evo0 hw32).evo0 hw37) (m := [123] ++ jK lo.toNat ++ [44] ++ jK hi.toNat ++ [125]) rfl (((((cB (by decide +kernel)).app hq1).app (cB (by decide +kernel))).app hq2).app (cB (by decide +kernel))) (by first | omega | (simp only [List.length_append]; omega)) (by simp only [List.length_append, List.length_cons, List.length_nil]; omega)) rfl ?_
     rintro _ w41 ⟨obw1, hBDw1, hw42, hnb1⟩; have hV9 := hE38; have hV90 := ((hE0.then hw32).then hw37); have hN1 := cY (Or.inl rfl) hnb1 hV9.size; have hU1 := dM huo hV90.size hnb1; refine aC (aW (cC rfl ?_))
     exact eL hBDw1 (by unfold kE; rw [if_neg (by omega), if_neg (by omega), if_neg (by omega), if_neg (by omega), if_neg (by omega)]) (hE38.step hw42 (cZ (Or.inl rfl))) hN1
    refine aH (aH (aR (aM (aC (aA (cO rfl ?_)))))); refine aE (aB (aG (aF (bD rfl rfl) ?_))); refine aM (aC (aA (bF rfl (fun hc43 => ?_) (fun hc43 => ?_))))
    ·refine aB (aG (aG ?_)); refine aK (vs := [_]) cT rfl (fC (hG.evo0 hE0) lo (by omega) (by omega)) rfl ?_; rintro _ w45 ⟨rfl, hw46⟩; have hE47 := (Evo.refl (b :: ob.toList) w).then hw46
     skip
     refine aF (cI rfl rfl (by simp only [cL, bP, cK, dI, bap, bsz, List.length_append, List.length_cons, List.length_nil]; omega)) ?_
     simp only [cL, bP, cK, dI, bap]
     skip
     refine aF (cI rfl rfl (by simp only [cL, bP, cK, dI, bap, bsz, List.length_append, List.length_cons, List.length_nil]; omega)) ?_
     simp only [cL, bP, cK, dI, bap]
     refine aK (vs := [_, _]) bW rfl (cW (h.evo0 hw46) (m := [123] ++ jK lo.toNat ++ [44, 125]) rfl (((cB (by decide +kernel)).app hq1).app (cB (by decide +kernel))) (by first | omega | (simp only [List.length_append]; omega)) (by simp only [List.length_append, List.length_cons, List.length_nil]; omega)) rfl ?_
     rintro _ w50 ⟨obw1, hBDw1, hw51, hnb1⟩; have hV9 := hE47; have hV90 := (hE0.then hw46); have hN1 := cY (Or.inl rfl) hnb1 hV9.size; have hU1 := dM huo hV90.size hnb1; refine aC (aW (cC rfl ?_))
     exact eL hBDw1 (by unfold kE; rw [if_neg (by omega), if_neg (by omega), if_neg (by omega), if_pos (by omega)]) (hE47.step hw51 (cZ (Or.inl rfl))) hN1
    refine aE (aB (aG (aG (aF (bD rfl rfl) ?_)))); refine aM (aC (aA (bF rfl (fun hc52 => ?_) (fun hc52 => ?_))))
    ·refine aB (aG (aG ?_)); refine aK (vs := [_]) cT rfl (fC (hG.evo0 hE0) lo (by omega) (by omega)) rfl ?_; rintro _ w54 ⟨rfl, hw55⟩; have hE56 := (Evo.refl (b :: ob.toList) w).then hw55
     skip
     refine aF (cI rfl rfl (by simp only [cL, bP, cK, dI, bap, bsz, List.length_append, List.length_cons, List.length_nil]; omega)) ?_
     simp only [cL, bP, cK, dI, bap]
     skip
     refine aF (cI rfl rfl (by simp only [cL, bP, cK, dI, bap, bsz, List.length_append, List.length_cons, List.length_nil]; omega)) ?_
     simp only [cL, bP, cK, dI, bap]
     refine aK (vs := [_, _]) bW rfl (cW (h.evo0 hw55) (m := [123] ++ jK lo.toNat ++ [125]) rfl (((cB (by decide +kernel)).app hq1).app (cB (by decide +kernel))) (by first | omega | (simp only [List.length_append]; omega)) (by simp only [List.length_append, List.length_cons, List.length_nil]; omega)) rfl ?_
     rintro _ w59 ⟨obw1, hBDw1, hw60, hnb1⟩; have hV9 := hE56; have hV90 := (hE0.then hw55); have hN1 := cY (Or.inl rfl) hnb1 hV9.size; have hU1 := dM huo hV90.size hnb1; refine aC (aW (cC rfl ?_))
     exact eL hBDw1 (by unfold kE; rw [if_neg (by omega), if_neg (by omega), if_neg (by omega), if_neg (by omega), if_pos (by omega)]) (hE56.step hw60 (cZ (Or.inl rfl))) hN1
    have hd3 := hd2 (by omega); refine aB (aG (aG ?_)); refine aK (vs := [_]) cT rfl (fC (hG.evo0 hE0) lo (by omega) (by omega)) rfl ?_; rintro _ w63 ⟨rfl, hw64⟩
    skip
    refine aF (cI rfl rfl (by simp only [cL, bP, cK, dI, bap, bsz, List.length_append, List.length_cons, List.length_nil]; omega)) ?_
    simp only [cL, bP, cK, dI, bap]
    skip
    refine aF (cI rfl rfl (by simp only [cL, bP, cK, dI, bap, bsz, List.length_append, List.length_cons, List.length_nil]; omega)) ?_
    simp only [cL, bP, cK, dI, bap]; refine aG ?_; refine aK (vs := [_]) cT rfl (fC (hG.evo0 (hE0.then hw64)) hi (by omega) (by omega)) rfl ?_; rintro _ w68 ⟨rfl, hw69⟩; have hE70 := ((Evo.refl (b :: ob.toList) w).then hw64).then hw69
    skip
    refine aF (cI rfl rfl (by simp only [cL, bP, cK, dI, bap, bsz, List.length_append, List.length_cons, List.length_nil]; omega)) ?_
    simp only [cL, bP, cK, dI, bap]
    skip
    refine aF (cI rfl rfl (by simp only [cL, bP, cK, dI, bap, bsz, List.length_append, List.length_cons, List.length_nil]; omega)) ?_
    simp only [cL, bP, cK, dI, bap]
    refine aK (vs := [_, _]) bW rfl (cW ((h.evo0 hw64).evo0 hw69) (m := [123] ++ jK lo.toNat ++ [44] ++ jK hi.toNat ++ [125]) rfl (((((cB (by decide +kernel)).app hq1).app (cB (by decide +kernel))).app hq2).app (cB (by decide +kernel))) (by first | omega | (simp only [List.length_append]; omega)) (by simp only [List.length_append, List.length_cons, List.length_nil]; omega)) rfl ?_
    rintro _ w73 ⟨obw1, hBDw1, hw74, hnb1⟩; have hV9 := hE70; have hV90 := ((hE0.then hw64).then hw69); have hN1 := cY (Or.inl rfl) hnb1 hV9.size; have hU1 := dM huo hV90.size hnb1; refine aC (aW (cC rfl ?_))
    exact eL hBDw1 (by unfold kE; rw [if_neg (by omega), if_neg (by omega), if_neg (by omega), if_neg (by omega), if_neg (by omega)]) (hE70.step hw74 (cZ (Or.inl rfl))) hN1
   refine aH (aH (aR (aM (aC (aA (cO rfl ?_)))))); refine aE (aB (aG (aF (bD rfl rfl) ?_))); refine aG (aV (t := 37) rfl (fun hs37 => ?_) (fun hs37 => ?_))
   ·refine aQ (aG (aQ (aF (bD rfl rfl) ?_))); refine bH (aM (aC (aA (bF rfl (fun hc34 => ?_) (fun hc34 => ?_)))))
    ·refine aB (aG ?_)
     refine aK (vs := [_, _]) bW rfl (cW h (m := [63]) (by decide +kernel) (cB (by decide +kernel)) (by first | omega | (simp only [List.length_append]; omega)) (by decide)) rfl ?_
     rintro _ w77 ⟨obw1, hBDw1, hw78, hnb1⟩; have hV9 := (Evo.refl (b :: ob.toList) w); have hV90 := hE0; have hN1 := cY (Or.inl rfl) hnb1 hV9.size; have hU1 := dM huo hV90.size hnb1; refine aC (aW (cC rfl ?_))
     exact eL hBDw1 (by unfold kE; rw [if_neg (by omega), if_neg (by omega), if_pos (by omega)]) ((Evo.refl (b :: ob.toList) w).step hw78 (cZ (Or.inl rfl))) hN1
    refine aE (aB (aG (aF (bD rfl rfl) ?_))); refine aM (aC (aA (bF rfl (fun hc43 => ?_) (fun hc43 => ?_))))
    ·refine aB (aG (aG ?_)); refine aK (vs := [_]) cT rfl (fC (hG.evo0 hE0) lo (by omega) (by omega)) rfl ?_; rintro _ w81 ⟨rfl, hw82⟩; have hE83 := (Evo.refl (b :: ob.toList) w).then hw82
     skip
     refine aF (cI rfl rfl (by simp only [cL, bP, cK, dI, bap, bsz, List.length_append, List.length_cons, List.length_nil]; omega)) ?_
     simp only [cL, bP, cK, dI, bap]
     skip
     refine aF (cI rfl rfl (by simp only [cL, bP, cK, dI, bap, bsz, List.length_append, List.length_cons, List.length_nil]; omega)) ?_
     simp only [cL, bP, cK, dI, bap]
     refine aK (vs := [_, _]) bW rfl (cW (h.evo0 hw82) (m := [123] ++ jK lo.toNat ++ [44, 125]) rfl (((cB (by decide +kernel)).app hq1).app (cB (by decide +kernel))) (by first | omega | (simp only [List.length_append]; omega)) (by simp only [List.length_append, List.length_cons, List.length_nil]; omega)) rfl ?_
     rintro _ w86 ⟨obw1, hBDw1, hw87, hnb1⟩; have hV9 := hE83; have hV90 := (hE0.then hw82); have hN1 := cY (Or.inl rfl) hnb1 hV9.size; have hU1 := dM huo hV90.size hnb1; refine aC (aW (cC rfl ?_))
     exact eL hBDw1 (by unfold kE; rw [if_neg (by omega), if_neg (by omega), if_neg (by omega), if_pos (by omega)]) (hE83.step hw87 (cZ (Or.inl rfl))) hN1
    refine aE (aB (aG (aG (aF (bD rfl rfl) ?_)))); refine aM (aC (aA (bF rfl (fun hc52 => ?_) (fun hc52 => ?_))))
    ·refine aB (aG (aG ?_)); refine aK (vs := [_]) cT rfl (fC (hG.evo0 hE0) lo (by omega) (by omega)) rfl ?_; rintro _ w90 ⟨rfl, hw91⟩; have hE92 := (Evo.refl (b :: ob.toList) w).then hw91
     skip
     refine aF (cI rfl rfl (by simp only [cL, bP, cK, dI, bap, bsz, List.length_append, List.length_cons, List.length_nil]; omega)) ?_
     simp only [cL, bP, cK, dI, bap]
     skip
     refine aF (cI rfl rfl (by simp only [cL, bP, cK, dI, bap, bsz, List.length_append, List.length_cons, List.length_nil]; omega)) ?_
     simp only [cL, bP, cK, dI, bap]
     refine aK (vs := [_, _]) bW rfl (cW (h.evo0 hw91) (m := [123] ++ jK lo.toNat ++ [125]) rfl (((cB (by decide +kernel)).app hq1).app (cB (by decide +kernel))) (by first | omega | (simp only [List.length_append]; omega)) (by simp only [List.length_append, List.length_cons, List.length_nil]; omega)) rfl ?_
     rintro _ w95 ⟨obw1, hBDw1, hw96, hnb1⟩; have hV9 := hE92; have hV90 := (hE0.then hw91); have hN1 := cY (Or.inl rfl) hnb1 hV9.size; have hU1 := dM huo hV90.size hnb1; refine aC (aW (cC rfl ?_))
     exact eL hBDw1 (by unfold kE; rw [if_neg (by omega), if_neg (by omega), if_neg (by omega), if_neg (by omega), if_pos (by omega)]) (hE92.step hw96 (cZ (Or.inl rfl))) hN1
    have hd3 := hd2 (by omega); refine aB (aG (aG ?_)); refine aK (vs := [_]) cT rfl (fC (hG.evo0 hE0) lo (by omega) (by omega)) rfl ?_; rintro _ w99 ⟨rfl, hw100⟩
    skip
    refine aF (cI rfl rfl (by simp only [cL, bP, cK, dI, bap, bsz, List.length_append, List.length_cons, List.length_nil]; omega)) ?_
    simp only [cL, bP, cK, dI, bap]
    skip
    refine aF (cI rfl rfl (by simp only [cL, bP, cK, dI, bap, bsz, List.length_append, List.length_cons, List.length_nil]; omega)) ?_
    simp only [cL, bP, cK, dI, bap]; refine aG ?_; refine aK (vs := [_]) cT rfl (fC (hG.evo0 (hE0.then hw100)) hi (by omega) (by omega)) rfl ?_; rintro _ w104 ⟨rfl, hw105⟩; have hE106 := ((Evo.refl (b :: ob.toList) w).then hw100).then hw105
    skip
    refine aF (cI rfl rfl (by simp only [cL, bP, cK, dI, bap, bsz, List.length_append, List.length_cons, List.length_nil]; omega)) ?_
    simp only [cL, bP, cK, dI, bap]
    skip
    refine aF (cI rfl rfl (by simp only [cL, bP, cK, dI, bap, bsz, List.length_append, List.length_cons, List.length_nil]; omega)) ?_
    simp only [cL, bP, cK, dI, bap]
    refine aK (vs := [_, _]) bW rfl (cW ((h.evo0 hw100).evo0 hw105) (m := [123] ++ jK lo.toNat ++ [44] ++ jK hi.toNat ++ [125]) rfl (((((cB (by decide +kernel)).app hq1).app (cB (by decide +kernel))).app hq2).app (cB (by decide +kernel))) (by first | omega | (simp only [List.length_append]; omega)) (by simp only [List.length_append, List.length_cons, List.length_nil]; omega)) rfl ?_
    rintro _ w109 ⟨obw1, hBDw1, hw110, hnb1⟩; have hV9 := hE106; have hV90 := ((hE0.then hw100).then hw105); have hN1 := cY (Or.inl rfl) hnb1 hV9.size; have hU1 := dM huo hV90.size hnb1; refine aC (aW (cC rfl ?_))
    exact eL hBDw1 (by unfold kE; rw [if_neg (by omega), if_neg (by omega), if_neg (by omega), if_neg (by omega), if_neg (by omega)]) (hE106.step hw110 (cZ (Or.inl rfl))) hN1
   refine aH (aH (aR (aM (aC (aA (cO rfl ?_)))))); refine aE (aB (aG (aF (bD rfl rfl) ?_))); refine aM (aC (aA (bF rfl (fun hc43 => ?_) (fun hc43 => ?_))))
   ·refine aB (aG (aG ?_)); refine aK (vs := [_]) cT rfl (fC (hG.evo0 hE0) lo (by omega) (by omega)) rfl ?_; rintro _ w113 ⟨rfl, hw114⟩; have hE115 := (Evo.refl (b :: ob.toList) w).then hw114
    skip
    refine aF (cI rfl rfl (by simp only [cL, bP, cK, dI, bap, bsz, List.length_append, List.length_cons, List.length_nil]; omega)) ?_
    simp only [cL, bP, cK, dI, bap]
    skip
    refine aF (cI rfl rfl (by simp only [cL, bP, cK, dI, bap, bsz, List.length_append, List.length_cons, List.length_nil]; omega)) ?_
    simp only [cL, bP, cK, dI, bap]
    refine aK (vs := [_, _]) bW rfl (cW (h.evo0 hw114) (m := [123] ++ jK lo.toNat ++ [44, 125]) rfl (((cB (by decide +kernel)).app hq1).app (cB (by decide +kernel))) (by first | omega | (simp only [List.length_append]; omega)) (by simp only [List.length_append, List.length_cons, List.length_nil]; omega)) rfl ?_
    rintro _ w118 ⟨obw1, hBDw1, hw119, hnb1⟩; have hV9 := hE115; have hV90 := (hE0.then hw114); have hN1 := cY (Or.inl rfl) hnb1 hV9.size; have hU1 := dM huo hV90.size hnb1; refine aC (aW (cC rfl ?_))
    exact eL hBDw1 (by unfold kE; rw [if_neg (by omega), if_neg (by omega), if_neg (by omega), if_pos (by omega)]) (hE115.step hw119 (cZ (Or.inl rfl))) hN1
   refine aE (aB (aG (aG (aF (bD rfl rfl) ?_)))); refine aM (aC (aA (bF rfl (fun hc52 => ?_) (fun hc52 => ?_))))
   ·refine aB (aG (aG ?_)); refine aK (vs := [_]) cT rfl (fC (hG.evo0 hE0) lo (by omega) (by omega)) rfl ?_; rintro _ w122 ⟨rfl, hw123⟩; have hE124 := (Evo.refl (b :: ob.toList) w).then hw123
    skip
    refine aF (cI rfl rfl (by simp only [cL, bP, cK, dI, bap, bsz, List.length_append, List.length_cons, List.length_nil]; omega)) ?_
    simp only [cL, bP, cK, dI, bap]
    skip
    refine aF (cI rfl rfl (by simp only [cL, bP, cK, dI, bap, bsz, List.length_append, List.length_cons, List.length_nil]; omega)) ?_
    simp only [cL, bP, cK, dI, bap]
    refine aK (vs := [_, _]) bW rfl (cW (h.evo0 hw123) (m := [123] ++ jK lo.toNat ++ [125]) rfl (((cB (by decide +kernel)).app hq1).app (cB (by decide +kernel))) (by first | omega | (simp only [List.length_append]; omega)) (by simp only [List.length_append, List.length_cons, List.length_nil]; omega)) rfl ?_
    rintro _ w127 ⟨obw1, hBDw1, hw128, hnb1⟩; have hV9 := hE124; have hV90 := (hE0.then hw123); have hN1 := cY (Or.inl rfl) hnb1 hV9.size; have hU1 := dM huo hV90.size hnb1; refine aC (aW (cC rfl ?_))
    exact eL hBDw1 (by unfold kE; rw [if_neg (by omega), if_neg (by omega), if_neg (by omega), if_neg (by omega), if_pos (by omega)]) (hE124.step hw128 (cZ (Or.inl rfl))) hN1
   have hd3 := hd2 (by omega); refine aB (aG (aG ?_)); refine aK (vs := [_]) cT rfl (fC (hG.evo0 hE0) lo (by omega) (by omega)) rfl ?_; rintro _ w131 ⟨rfl, hw132⟩
   skip
   refine aF (cI rfl rfl (by simp only [cL, bP, cK, dI, bap, bsz, List.length_append, List.length_cons, List.length_nil]; omega)) ?_
   simp only [cL, bP, cK, dI, bap]
   skip
   refine aF (cI rfl rfl (by simp only [cL, bP, cK, dI, bap, bsz, List.length_append, List.length_cons, List.length_nil]; omega)) ?_
   simp only [cL, bP, cK, dI, bap]; refine aG ?_; refine aK (vs := [_]) cT rfl (fC (hG.evo0 (hE0.then hw132)) hi (by omega) (by omega)) rfl ?_; rintro _ w136 ⟨rfl, hw137⟩; have hE138 := ((Evo.refl (b :: ob.toList) w).then hw132).then hw137
   skip
   refine aF (cI rfl rfl (by simp only [cL, bP, cK, dI, bap, bsz, List.length_append, List.length_cons, List.length_nil]; omega)) ?_
   simp only [cL, bP, cK, dI, bap]
   skip
   refine aF (cI rfl rfl (by simp only [cL, bP, cK, dI, bap, bsz, List.length_append, List.length_cons, List.length_nil]; omega)) ?_
   simp only [cL, bP, cK, dI, bap]
   refine aK (vs := [_, _]) bW rfl (cW ((h.evo0 hw132).evo0 hw137) (m := [123] ++ jK lo.toNat ++ [44] ++ jK hi.toNat ++ [125]) rfl (((((cB (by decide +kernel)).app hq1).app (cB (by decide +kernel))).app hq2).app (cB (by decide +kernel))) (by first | omega | (simp only [List.length_append]; omega)) (by simp only [List.length_append, List.length_cons, List.length_nil]; omega)) rfl ?_
   rintro _ w141 ⟨obw1, hBDw1, hw142, hnb1⟩; have hV9 := hE138; have hV90 := ((hE0.then hw132).then hw137); have hN1 := cY (Or.inl rfl) hnb1 hV9.size; have hU1 := dM huo hV90.size hnb1; refine aC (aW (cC rfl ?_))
   exact eL hBDw1 (by unfold kE; rw [if_neg (by omega), if_neg (by omega), if_neg (by omega), if_neg (by omega), if_neg (by omega)]) (hE138.step hw142 (cZ (Or.inl rfl))) hN1
  refine aH (aH (aR (aM (aC (aA (cO rfl ?_)))))); refine aE (aB (aG (aF (bD rfl rfl) ?_))); refine aG (aV (t := 28) rfl (fun hs28 => ?_) (fun hs28 => ?_))
  ·refine aQ (aG (aQ (aF (bD rfl rfl) ?_))); refine bH (aM (aC (aA (bF rfl (fun hc25 => ?_) (fun hc25 => ?_)))))
   ·refine aB (aG ?_)
    refine aK (vs := [_, _]) bW rfl (cW h (m := [43]) (by decide +kernel) (cB (by decide +kernel)) (by first | omega | (simp only [List.length_append]; omega)) (by decide)) rfl ?_
    rintro _ w145 ⟨obw1, hBDw1, hw146, hnb1⟩; have hV9 := (Evo.refl (b :: ob.toList) w); have hV90 := hE0; have hN1 := cY (Or.inl rfl) hnb1 hV9.size; have hU1 := dM huo hV90.size hnb1; refine aC (aW (cC rfl ?_))
    exact eL hBDw1 (by unfold kE; rw [if_neg (by omega), if_pos (by omega)]) ((Evo.refl (b :: ob.toList) w).step hw146 (cZ (Or.inl rfl))) hN1
   refine aE (aB (aG (aF (bD rfl rfl) ?_))); refine aG (aV (t := 37) rfl (fun hs37 => ?_) (fun hs37 => ?_))
   ·refine aQ (aG (aQ (aF (bD rfl rfl) ?_))); refine bH (aM (aC (aA (bF rfl (fun hc34 => ?_) (fun hc34 => ?_)))))
    ·refine aB (aG ?_)
     refine aK (vs := [_, _]) bW rfl (cW h (m := [63]) (by decide +kernel) (cB (by decide +kernel)) (by first | omega | (simp only [List.length_append]; omega)) (by decide)) rfl ?_
     rintro _ w149 ⟨obw1, hBDw1, hw150, hnb1⟩; have hV9 := (Evo.refl (b :: ob.toList) w); have hV90 := hE0; have hN1 := cY (Or.inl rfl) hnb1 hV9.size; have hU1 := dM huo hV90.size hnb1; refine aC (aW (cC rfl ?_))
     exact eL hBDw1 (by unfold kE; rw [if_neg (by omega), if_neg (by omega), if_pos (by omega)]) ((Evo.refl (b :: ob.toList) w).step hw150 (cZ (Or.inl rfl))) hN1
    refine aE (aB (aG (aF (bD rfl rfl) ?_))); refine aM (aC (aA (bF rfl (fun hc43 => ?_) (fun hc43 => ?_))))
    ·refine aB (aG (aG ?_)); refine aK (vs := [_]) cT rfl (fC (hG.evo0 hE0) lo (by omega) (by omega)) rfl ?_; rintro _ w153 ⟨rfl, hw154⟩; have hE155 := (Evo.refl (b :: ob.toList) w).then hw154
     skip
     refine aF (cI rfl rfl (by simp only [cL, bP, cK, dI, bap, bsz, List.length_append, List.length_cons, List.length_nil]; omega)) ?_
     simp only [cL, bP, cK, dI, bap]
     skip
     refine aF (cI rfl rfl (by simp only [cL, bP, cK, dI, bap, bsz, List.length_append, List.length_cons, List.length_nil]; omega)) ?_
     simp only [cL, bP, cK, dI, bap]
     refine aK (vs := [_, _]) bW rfl (cW (h.evo0 hw154) (m := [123] ++ jK lo.toNat ++ [44, 125]) rfl (((cB (by decide +kernel)).app hq1).app (cB (by decide +kernel))) (by first | omega | (simp only [List.length_append]; omega)) (by simp only [List.length_append, List.length_cons, List.length_nil]; omega)) rfl ?_
     rintro _ w158 ⟨obw1, hBDw1, hw159, hnb1⟩; have hV9 := hE155; have hV90 := (hE0.then hw154); have hN1 := cY (Or.inl rfl) hnb1 hV9.size; have hU1 := dM huo hV90.size hnb1; refine aC (aW (cC rfl ?_))
     exact eL hBDw1 (by unfold kE; rw [if_neg (by omega), if_neg (by omega), if_neg (by omega), if_pos (by omega)]) (hE155.step hw159 (cZ (Or.inl rfl))) hN1
    refine aE (aB (aG (aG (aF (bD rfl rfl) ?_)))); refine aM (aC (aA (bF rfl (fun hc52 => ?_) (fun hc52 => ?_))))
    ·refine aB (aG (aG ?_)); refine aK (vs := [_]) cT rfl (fC (hG.evo0 hE0) lo (by omega) (by omega)) rfl ?_; rintro _ w162 ⟨rfl, hw163⟩; have hE164 := (Evo.refl (b :: ob.toList) w).then hw163
     skip
     refine aF (cI rfl rfl (by simp only [cL, bP, cK, dI, bap, bsz, List.length_append, List.length_cons, List.length_nil]; omega)) ?_
     simp only [cL, bP, cK, dI, bap]
     skip
     refine aF (cI rfl rfl (by simp only [cL, bP, cK, dI, bap, bsz, List.length_append, List.length_cons, List.length_nil]; omega)) ?_
     simp only [cL, bP, cK, dI, bap]
     refine aK (vs := [_, _]) bW rfl (cW (h.evo0 hw163) (m := [123] ++ jK lo.toNat ++ [125]) rfl (((cB (by decide +kernel)).app hq1).app (cB (by decide +kernel))) (by first | omega | (simp only [List.length_append]; omega)) (by simp only [List.length_append, List.length_cons, List.length_nil]; omega)) rfl ?_
     rintro _ w167 ⟨obw1, hBDw1, hw168, hnb1⟩; have hV9 := hE164; have hV90 := (hE0.then hw163); have hN1 := cY (Or.inl rfl) hnb1 hV9.size; have hU1 := dM huo hV90.size hnb1; refine aC (aW (cC rfl ?_))
     exact eL hBDw1 (by unfold kE; rw [if_neg (by omega), if_neg (by omega), if_neg (by omega), if_neg (by omega), if_pos (by omega)]) (hE164.step hw168 (cZ (Or.inl rfl))) hN1
    have hd3 := hd2 (by omega); refine aB (aG (aG ?_)); refine aK (vs := [_]) cT rfl (fC (hG.evo0 hE0) lo (by omega) (by omega)) rfl ?_; rintro _ w171 ⟨rfl, hw172⟩
    skip
    refine aF (cI rfl rfl (by simp only [cL, bP, cK, dI, bap, bsz, List.length_append, List.length_cons, List.length_nil]; omega)) ?_
    simp only [cL, bP, cK, dI, bap]
    skip
    refine aF (cI rfl rfl (by simp only [cL, bP, cK, dI, bap, bsz, List.length_append, List.length_cons, List.length_nil]; omega)) ?_
    simp only [cL, bP, cK, dI, bap]; refine aG ?_; refine aK (vs := [_]) cT rfl (fC (hG.evo0 (hE0.then hw172)) hi (by omega) (by omega)) rfl ?_; rintro _ w176 ⟨rfl, hw177⟩; have hE178 := ((Evo.refl (b :: ob.toList) w).then hw172).then hw177
    skip
    refine aF (cI rfl rfl (by simp only [cL, bP, cK, dI, bap, bsz, List.length_append, List.length_cons, List.length_nil]; omega)) ?_
    simp only [cL, bP, cK, dI, bap]
    skip
    refine aF (cI rfl rfl (by simp only [cL, bP, cK, dI, bap, bsz, List.length_append, List.length_cons, List.length_nil]; omega)) ?_
    simp only [cL, bP, cK, dI, bap]
    refine aK (vs := [_, _]) bW rfl (cW ((h.evo0 hw172).evo0 hw177) (m := [123] ++ jK lo.toNat ++ [44] ++ jK hi.toNat ++ [125]) rfl (((((cB (by decide +kernel)).app hq1).app (cB (by decide +kernel))).app hq2).app (cB (by decide +kernel))) (by first | omega | (simp only [List.length_append]; omega)) (by simp only [List.length_append, List.length_cons, List.length_nil]; omega)) rfl ?_
    rintro _ w181 ⟨obw1, hBDw1, hw182, hnb1⟩; have hV9 := hE178; have hV90 := ((hE0.then hw172).then hw177); have hN1 := cY (Or.inl rfl) hnb1 hV9.size; have hU1 := dM huo hV90.size hnb1; refine aC (aW (cC rfl ?_))
    exact eL hBDw1 (by unfold kE; rw [if_neg (by omega), if_neg (by omega), if_neg (by omega), if_neg (by omega), if_neg (by omega)]) (hE178.step hw182 (cZ (Or.inl rfl))) hN1
   refine aH (aH (aR (aM (aC (aA (cO rfl ?_)))))); refine aE (aB (aG (aF (bD rfl rfl) ?_))); refine aM (aC (aA (bF rfl (fun hc43 => ?_) (fun hc43 => ?_))))
   ·refine aB (aG (aG ?_)); refine aK (vs := [_]) cT rfl (fC (hG.evo0 hE0) lo (by omega) (by omega)) rfl ?_; rintro _ w185 ⟨rfl, hw186⟩; have hE187 := (Evo.refl (b :: ob.toList) w).then hw186
    skip
    refine aF (cI rfl rfl (by simp only [cL, bP, cK, dI, bap, bsz, List.length_append, List.length_cons, List.length_nil]; omega)) ?_
    simp only [cL, bP, cK, dI, bap]
    skip
    refine aF (cI rfl rfl (by simp only [cL, bP, cK, dI, bap, bsz, List.length_append, List.length_cons, List.length_nil]; omega)) ?_
    simp only [cL, bP, cK, dI, bap]
    refine aK (vs := [_, _]) bW rfl (cW (h.evo0 hw186) (m := [123] ++ jK lo.toNat ++ [44, 125]) rfl (((cB (by decide +kernel)).app hq1).app (cB (by decide +kernel))) (by first | omega | (simp only [List.length_append]; omega)) (by simp only [List.length_append, List.length_cons, List.length_nil]; omega)) rfl ?_
    rintro _ w190 ⟨obw1, hBDw1, hw191, hnb1⟩; have hV9 := hE187; have hV90 := (hE0.then hw186); have hN1 := cY (Or.inl rfl) hnb1 hV9.size; have hU1 := dM huo hV90.size hnb1; refine aC (aW (cC rfl ?_))
    exact eL hBDw1 (by unfold kE; rw [if_neg (by omega), if_neg (by omega), if_neg (by omega), if_pos (by omega)]) (hE187.step hw191 (cZ (Or.inl rfl))) hN1
   refine aE (aB (aG (aG (aF (bD rfl rfl) ?_)))); refine aM (aC (aA (bF rfl (fun hc52 => ?_) (fun hc52 => ?_))))
   ·refine aB (aG (aG ?_)); refine aK (vs := [_]) cT rfl (fC (hG.evo0 hE0) lo (by omega) (by omega)) rfl ?_; rintro _ w194 ⟨rfl, hw195⟩; have hE196 := (Evo.refl (b :: ob.toList) w).then hw195
    skip
    refine aF (cI rfl rfl (by simp only [cL, bP, cK, dI, bap, bsz, List.length_append, List.length_cons, List.length_nil]; omega)) ?_
    simp only [cL, bP, cK, dI, bap]
    skip
    refine aF (cI rfl rfl (by simp only [cL, bP, cK, dI, bap, bsz, List.length_append, List.length_cons, List.length_nil]; omega)) ?_
    simp only [cL, bP, cK, dI, bap]
    refine aK (vs := [_, _]) bW rfl (cW (h.evo0 hw195) (m := [123] ++ jK lo.toNat ++ [125]) rfl (((cB (by decide +kernel)).app hq1).app (cB (by decide +kernel))) (by first | omega | (simp only [List.length_append]; omega)) (by simp only [List.length_append, List.length_cons, List.length_nil]; omega)) rfl ?_
    rintro _ w199 ⟨obw1, hBDw1, hw200, hnb1⟩; have hV9 := hE196; have hV90 := (hE0.then hw195); have hN1 := cY (Or.inl rfl) hnb1 hV9.size; have hU1 := dM huo hV90.size hnb1; refine aC (aW (cC rfl ?_))
    exact eL hBDw1 (by unfold kE; rw [if_neg (by omega), if_neg (by omega), if_neg (by omega), if_neg (by omega), if_pos (by omega)]) (hE196.step hw200 (cZ (Or.inl rfl))) hN1
   have hd3 := hd2 (by omega); refine aB (aG (aG ?_)); refine aK (vs := [_]) cT rfl (fC (hG.evo0 hE0) lo (by omega) (by omega)) rfl ?_; rintro _ w203 ⟨rfl, hw204⟩
   skip
   refine aF (cI rfl rfl (by simp only [cL, bP, cK, dI, bap, bsz, List.length_append, List.length_cons, List.length_nil]; omega)) ?_
   simp only [cL, bP, cK, dI, bap]
   skip
   refine aF (cI rfl rfl (by simp only [cL, bP, cK, dI, bap, bsz, List.length_append, List.length_cons, List.length_nil]; omega)) ?_
   simp only [cL, bP, cK, dI, bap]; refine aG ?_; refine aK (vs := [_]) cT rfl (fC (hG.evo0 (hE0.then hw204)) hi (by omega) (by omega)) rfl ?_; rintro _ w208 ⟨rfl, hw209⟩; have hE210 := ((Evo.refl (b :: ob.toList) w).then hw204).then hw209
   skip
   refine aF (cI rfl rfl (by simp only [cL, bP, cK, dI, bap, bsz, List.length_append, List.length_cons, List.length_nil]; omega)) ?_
   simp only [cL, bP, cK, dI, bap]
   skip
   refine aF (cI rfl rfl (by simp only [cL, bP, cK, dI, bap, bsz, List.length_append, List.length_cons, List.length_nil]; omega)) ?_
   simp only [cL, bP, cK, dI, bap]
   refine aK (vs := [_, _]) bW rfl (cW ((h.evo0 hw204).evo0 hw209) (m := [123] ++ jK lo.toNat ++ [44] ++ jK hi.toNat ++ [125]) rfl (((((cB (by decide +kernel)).app hq1).app (cB (by decide +kernel))).app hq2).app (cB (by decide +kernel))) (by first | omega | (simp only [List.length_append]; omega)) (by simp only [List.length_append, List.length_cons, List.length_nil]; omega)) rfl ?_
   rintro _ w213 ⟨obw1, hBDw1, hw214, hnb1⟩; have hV9 := hE210; have hV90 := ((hE0.then hw204).then hw209); have hN1 := cY (Or.inl rfl) hnb1 hV9.size; have hU1 := dM huo hV90.size hnb1; refine aC (aW (cC rfl ?_))
   exact eL hBDw1 (by unfold kE; rw [if_neg (by omega), if_neg (by omega), if_neg (by omega), if_neg (by omega), if_neg (by omega)]) (hE210.step hw214 (cZ (Or.inl rfl))) hN1
  refine aH (aH (aR (aM (aC (aA (cO rfl ?_)))))); refine aE (aB (aG (aF (bD rfl rfl) ?_))); refine aG (aV (t := 37) rfl (fun hs37 => ?_) (fun hs37 => ?_))
  ·refine aQ (aG (aQ (aF (bD rfl rfl) ?_))); refine bH (aM (aC (aA (bF rfl (fun hc34 => ?_) (fun hc34 => ?_)))))
   ·refine aB (aG ?_)
    refine aK (vs := [_, _]) bW rfl (cW h (m := [63]) (by decide +kernel) (cB (by decide +kernel)) (by first | omega | (simp only [List.length_append]; omega)) (by decide)) rfl ?_
    rintro _ w217 ⟨obw1, hBDw1, hw218, hnb1⟩; have hV9 := (Evo.refl (b :: ob.toList) w); have hV90 := hE0; have hN1 := cY (Or.inl rfl) hnb1 hV9.size; have hU1 := dM huo hV90.size hnb1; refine aC (aW (cC rfl ?_))
    exact eL hBDw1 (by unfold kE; rw [if_neg (by omega), if_neg (by omega), if_pos (by omega)]) ((Evo.refl (b :: ob.toList) w).step hw218 (cZ (Or.inl rfl))) hN1
   refine aE (aB (aG (aF (bD rfl rfl) ?_))); refine aM (aC (aA (bF rfl (fun hc43 => ?_) (fun hc43 => ?_))))
   ·refine aB (aG (aG ?_)); refine aK (vs := [_]) cT rfl (fC (hG.evo0 hE0) lo (by omega) (by omega)) rfl ?_; rintro _ w221 ⟨rfl, hw222⟩; have hE223 := (Evo.refl (b :: ob.toList) w).then hw222
    skip
    refine aF (cI rfl rfl (by simp only [cL, bP, cK, dI, bap, bsz, List.length_append, List.length_cons, List.length_nil]; omega)) ?_
    simp only [cL, bP, cK, dI, bap]
    skip
    refine aF (cI rfl rfl (by simp only [cL, bP, cK, dI, bap, bsz, List.length_append, List.length_cons, List.length_nil]; omega)) ?_
    simp only [cL, bP, cK, dI, bap]
    refine aK (vs := [_, _]) bW rfl (cW (h.evo0 hw222) (m := [123] ++ jK lo.toNat ++ [44, 125]) rfl (((cB (by decide +kernel)).app hq1).app (cB (by decide +kernel))) (by first | omega | (simp only [List.length_append]; omega)) (by simp only [List.length_append, List.length_cons, List.length_nil]; omega)) rfl ?_
    rintro _ w226 ⟨obw1, hBDw1, hw227, hnb1⟩; have hV9 := hE223; have hV90 := (hE0.then hw222); have hN1 := cY (Or.inl rfl) hnb1 hV9.size; have hU1 := dM huo hV90.size hnb1; refine aC (aW (cC rfl ?_))
    exact eL hBDw1 (by unfold kE; rw [if_neg (by omega), if_neg (by omega), if_neg (by omega), if_pos (by omega)]) (hE223.step hw227 (cZ (Or.inl rfl))) hN1
   refine aE (aB (aG (aG (aF (bD rfl rfl) ?_)))); refine aM (aC (aA (bF rfl (fun hc52 => ?_) (fun hc52 => ?_))))
   ·refine aB (aG (aG ?_)); refine aK (vs := [_]) cT rfl (fC (hG.evo0 hE0) lo (by omega) (by omega)) rfl ?_; rintro _ w230 ⟨rfl, hw231⟩; have hE232 := (Evo.refl (b :: ob.toList) w).then hw231
    skip
    refine aF (cI rfl rfl (by simp only [cL, bP, cK, dI, bap, bsz, List.length_append, List.length_cons, List.length_nil]; omega)) ?_
    simp only [cL, bP, cK, dI, bap]
    skip
    refine aF (cI rfl rfl (by simp only [cL, bP, cK, dI, bap, bsz, List.length_append, List.length_cons, List.length_nil]; omega)) ?_
    simp only [cL, bP, cK, dI, bap]
    refine aK (vs := [_, _]) bW rfl (cW (h.evo0 hw231) (m := [123] ++ jK lo.toNat ++ [125]) rfl (((cB (by decide +kernel)).app hq1).app (cB (by decide +kernel))) (by first | omega | (simp only [List.length_append]; omega)) (by simp only [List.length_append, List.length_cons, List.length_nil]; omega)) rfl ?_
    rintro _ w235 ⟨obw1, hBDw1, hw236, hnb1⟩; have hV9 := hE232; have hV90 := (hE0.then hw231); have hN1 := cY (Or.inl rfl) hnb1 hV9.size; have hU1 := dM huo hV90.size hnb1; refine aC (aW (cC rfl ?_))
    exact eL hBDw1 (by unfold kE; rw [if_neg (by omega), if_neg (by omega), if_neg (by omega), if_neg (by omega), if_pos (by omega)]) (hE232.step hw236 (cZ (Or.inl rfl))) hN1
   have hd3 := hd2 (by omega); refine aB (aG (aG ?_)); refine aK (vs := [_]) cT rfl (fC (hG.evo0 hE0) lo (by omega) (by omega)) rfl ?_; rintro _ w239 ⟨rfl, hw240⟩
   skip
   refine aF (cI rfl rfl (by simp only [cL, bP, cK, dI, bap, bsz, List.length_append, List.length_cons, List.length_nil]; omega)) ?_
   simp only [cL, bP, cK, dI, bap]
   skip
   refine aF (cI rfl rfl (by simp only [cL, bP, cK, dI, bap, bsz, List.length_append, List.length_cons, List.length_nil]; omega)) ?_
   simp only [cL, bP, cK, dI, bap]; refine aG ?_; refine aK (vs := [_]) cT rfl (fC (hG.evo0 (hE0.then hw240)) hi (by omega) (by omega)) rfl ?_; rintro _ w244 ⟨rfl, hw245⟩; have hE246 := ((Evo.refl (b :: ob.toList) w).then hw240).then hw245
   skip
   refine aF (cI rfl rfl (by simp only [cL, bP, cK, dI, bap, bsz, List.length_append, List.length_cons, List.length_nil]; omega)) ?_
   simp only [cL, bP, cK, dI, bap]
   skip
   refine aF (cI rfl rfl (by simp only [cL, bP, cK, dI, bap, bsz, List.length_append, List.length_cons, List.length_nil]; omega)) ?_
   simp only [cL, bP, cK, dI, bap]
   refine aK (vs := [_, _]) bW rfl (cW ((h.evo0 hw240).evo0 hw245) (m := [123] ++ jK lo.toNat ++ [44] ++ jK hi.toNat ++ [125]) rfl (((((cB (by decide +kernel)).app hq1).app (cB (by decide +kernel))).app hq2).app (cB (by decide +kernel))) (by first | omega | (simp only [List.length_append]; omega)) (by simp only [List.length_append, List.length_cons, List.length_nil]; omega)) rfl ?_
   rintro _ w249 ⟨obw1, hBDw1, hw250, hnb1⟩; have hV9 := hE246; have hV90 := ((hE0.then hw240).then hw245); have hN1 := cY (Or.inl rfl) hnb1 hV9.size; have hU1 := dM huo hV90.size hnb1; refine aC (aW (cC rfl ?_))
   exact eL hBDw1 (by unfold kE; rw [if_neg (by omega), if_neg (by omega), if_neg (by omega), if_neg (by omega), if_neg (by omega)]) (hE246.step hw250 (cZ (Or.inl rfl))) hN1
  refine aH (aH (aR (aM (aC (aA (cO rfl ?_)))))); refine aE (aB (aG (aF (bD rfl rfl) ?_))); refine aM (aC (aA (bF rfl (fun hc43 => ?_) (fun hc43 => ?_))))
  ·refine aB (aG (aG ?_)); refine aK (vs := [_]) cT rfl (fC (hG.evo0 hE0) lo (by omega) (by omega)) rfl ?_; rintro _ w253 ⟨rfl, hw254⟩; have hE255 := (Evo.refl (b :: ob.toList) w).then hw254
   skip
   refine aF (cI rfl rfl (by simp only [cL, bP, cK, dI, bap, bsz, List.length_append, List.length_cons, List.length_nil]; omega)) ?_
   simp only [cL, bP, cK, dI, bap]
   skip
   refine aF (cI rfl rfl (by simp only [cL, bP, cK, dI, bap, bsz, List.length_append, List.length_cons, List.length_nil]; omega)) ?_
   simp only [cL, bP, cK, dI, bap]
   refine aK (vs := [_, _]) bW rfl (cW (h.evo0 hw254) (m := [123] ++ jK lo.toNat ++ [44, 125]) rfl (((cB (by decide +kernel)).app hq1).app (cB (by decide +kernel))) (by first | omega | (simp only [List.length_append]; omega)) (by simp only [List.length_append, List.length_cons, List.length_nil]; omega)) rfl ?_
   rintro _ w258 ⟨obw1, hBDw1, hw259, hnb1⟩; have hV9 := hE255; have hV90 := (hE0.then hw254); have hN1 := cY (Or.inl rfl) hnb1 hV9.size; have hU1 := dM huo hV90.size hnb1; refine aC (aW (cC rfl ?_))
   exact eL hBDw1 (by unfold kE; rw [if_neg (by omega), if_neg (by omega), if_neg (by omega), if_pos (by omega)]) (hE255.step hw259 (cZ (Or.inl rfl))) hN1
  refine aE (aB (aG (aG (aF (bD rfl rfl) ?_)))); refine aM (aC (aA (bF rfl (fun hc52 => ?_) (fun hc52 => ?_))))
  ·refine aB (aG (aG ?_)); refine aK (vs := [_]) cT rfl (fC (hG.evo0 hE0) lo (by omega) (by omega)) rfl ?_; rintro _ w262 ⟨rfl, hw263⟩; have hE264 := (Evo.refl (b :: ob.toList) w).then hw263
   skip
   refine aF (cI rfl rfl (by simp only [cL, bP, cK, dI, bap, bsz, List.length_append, List.length_cons, List.length_nil]; omega)) ?_
   simp only [cL, bP, cK, dI, bap]
   skip
   refine aF (cI rfl rfl (by simp only [cL, bP, cK, dI, bap, bsz, List.length_append, List.length_cons, List.length_nil]; omega)) ?_
   simp only [cL, bP, cK, dI, bap]
   refine aK (vs := [_, _]) bW rfl (cW (h.evo0 hw263) (m := [123] ++ jK lo.toNat ++ [125]) rfl (((cB (by decide +kernel)).app hq1).app (cB (by decide +kernel))) (by first | omega | (simp only [List.length_append]; omega)) (by simp only [List.length_append, List.length_cons, List.length_nil]; omega)) rfl ?_
   rintro _ w267 ⟨obw1, hBDw1, hw268, hnb1⟩; have hV9 := hE264; have hV90 := (hE0.then hw263); have hN1 := cY (Or.inl rfl) hnb1 hV9.size; have hU1 := dM huo hV90.size hnb1; refine aC (aW (cC rfl ?_))
   exact eL hBDw1 (by unfold kE; rw [if_neg (by omega), if_neg (by omega), if_neg (by omega), if_neg (by omega), if_pos (by omega)]) (hE264.step hw268 (cZ (Or.inl rfl))) hN1
  have hd3 := hd2 (by omega); refine aB (aG (aG ?_)); refine aK (vs := [_]) cT rfl (fC (hG.evo0 hE0) lo (by omega) (by omega)) rfl ?_; rintro _ w271 ⟨rfl, hw272⟩
  skip
  refine aF (cI rfl rfl (by simp only [cL, bP, cK, dI, bap, bsz, List.length_append, List.length_cons, List.length_nil]; omega)) ?_
  simp only [cL, bP, cK, dI, bap]
  skip
  refine aF (cI rfl rfl (by simp only [cL, bP, cK, dI, bap, bsz, List.length_append, List.length_cons, List.length_nil]; omega)) ?_
  simp only [cL, bP, cK, dI, bap]; refine aG ?_; refine aK (vs := [_]) cT rfl (fC (hG.evo0 (hE0.then hw272)) hi (by omega) (by omega)) rfl ?_; rintro _ w276 ⟨rfl, hw277⟩; have hE278 := ((Evo.refl (b :: ob.toList) w).then hw272).then hw277
  skip
  refine aF (cI rfl rfl (by simp only [cL, bP, cK, dI, bap, bsz, List.length_append, List.length_cons, List.length_nil]; omega)) ?_
  simp only [cL, bP, cK, dI, bap]
  skip
  refine aF (cI rfl rfl (by simp only [cL, bP, cK, dI, bap, bsz, List.length_append, List.length_cons, List.length_nil]; omega)) ?_
  simp only [cL, bP, cK, dI, bap]
  refine aK (vs := [_, _]) bW rfl (cW ((h.evo0 hw272).evo0 hw277) (m := [123] ++ jK lo.toNat ++ [44] ++ jK hi.toNat ++ [125]) rfl (((((cB (by decide +kernel)).app hq1).app (cB (by decide +kernel))).app hq2).app (cB (by decide +kernel))) (by first | omega | (simp only [List.length_append]; omega)) (by simp only [List.length_append, List.length_cons, List.length_nil]; omega)) rfl ?_
  rintro _ w281 ⟨obw1, hBDw1, hw282, hnb1⟩; have hV9 := hE278; have hV90 := ((hE0.then hw272).then hw277); have hN1 := cY (Or.inl rfl) hnb1 hV9.size; have hU1 := dM huo hV90.size hnb1; refine aC (aW (cC rfl ?_))
  exact eL hBDw1 (by unfold kE; rw [if_neg (by omega), if_neg (by omega), if_neg (by omega), if_neg (by omega), if_neg (by omega)]) (hE278.step hw282 (cZ (Or.inl rfl))) hN1
end Go.Proofs.YtljadkcojnlioaaGreatDoor
namespace Go.Proofs.YtljadkcojnlioaaGreatDoor
open Go.ChangeAt Go.ChangeShapes Go.RowKit Go.W Go.WideShapes
def OpensFU {α : Type} (F : Nat) (t : TypeId) (R : Rel α) (μ : α → Nat) : Prop :=
  ∀ (H : Type) (enc : TypeId × Value → H) (w : World) (fuel : Nat) (cs : List Value) (x : DataW H × List MemPlace), fuel ≤ F → DataW.trod enc Tryz.prog w 0 (fun _ => true) true fuel t cs = some x →
    (∀ n, n ∈ x.1.weights Tryz.prog t → n ≤ reachBytes) → Rows.uptoBulk x.1 ≤ 1048576 → ∃ d, R [] w cs d ∧ μ d + 26 ≤ 26 * Rows.uptoBulk x.1
theorem xV (F : Nat) {t : TypeId} (ht : Tryz.prog.underlying t = some .string) : OpensFU F t (fun _ _ vs s => vs = [.string s] ∧ s.size ≤ 1048576) (fun s => s.size) := by
  intro H enc w fuel cs x hfu h hw hbk
  obtain ⟨s, hcs, rfl, _⟩ := DataW.trod_string ht h
  have : s.data.toList.length = s.size := Array.length_toList
  simp only [Rows.uptoBulk] at hbk ⊢
  exact ⟨s, ⟨hcs, by omega⟩, by omega⟩
abbrev laidL : List (String × DataW Unit) := [("math/bits.deBruijn32tab", Rows.laid_math_bits_deBruijn32tab), ("math/bits.deBruijn64tab", Rows.laid_math_bits_deBruijn64tab), ("internal/strconv.uint64pow10", Rows.laid_internal_strconv_uint64pow10)]
theorem own : ownKnob Tryz.prog.godebug = none := by kernel_rfl
theorem LL : laidOutB Tryz.prog = true := by kernel_rfl
theorem SA : true = Tryz.pinned.checked.prog.looks [] := by kernel_rfl
theorem gw_of {W : World} (hL : laidMetH Tryz.prog laidL W) (hsh : W.ShapedOpen Tryz.prog) : Gw W := by
  refine ⟨Tryz.laysM143.s1_3 W hsh, ?_, ?_⟩
  · have h0 : laidMetH Tryz.prog [("math/bits.deBruijn64tab", Rows.laid_math_bits_deBruijn64tab)] W := by
      have := hL.filter (fun x => x.1 == "math/bits.deBruijn64tab")
      rw [show laidL.filter (fun x => x.1 == "math/bits.deBruijn64tab") = [("math/bits.deBruijn64tab", Rows.laid_math_bits_deBruijn64tab)] from by kernel_rfl] at this
      exact this
    have h1 : Lib.TabIs Tryz.prog W "math/bits.deBruijn64tab" .u8 (Lib.deBruijn64tab.map fun n : Nat => (n : Int)) := Lib.tabIs_of_head (rest := []) (g := gTz) (by kernel_rfl) (by kernel_rfl) Tryz.underlying205 Tryz.underlying5 (by kernel_rfl) (by kernel_rfl) h0
    intro k hk
    have h2 := h1.cell (show Tryz.prog.globalNamed "math/bits.deBruijn64tab" = some gTz by kernel_rfl) k (by simpa using (show k < Lib.deBruijn64tab.length from hk))
    rw [h2]
    have hl : k < Lib.deBruijn64tab.length := hk
    simp [List.getD_eq_getElem?_getD, hl]
  · have h0 : laidMetH Tryz.prog [("internal/strconv.uint64pow10", Rows.laid_internal_strconv_uint64pow10)] W := by
      have := hL.filter (fun x => x.1 == "internal/strconv.uint64pow10")
      rw [show laidL.filter (fun x => x.1 == "internal/strconv.uint64pow10") = [("internal/strconv.uint64pow10", Rows.laid_internal_strconv_uint64pow10)] from by kernel_rfl] at this
      exact this
    exact Lib.tabIs_of_head (rest := []) (g := 1) (by kernel_rfl) (by kernel_rfl) Tryz.underlying186 Tryz.underlying176 (by kernel_rfl) (by kernel_rfl) h0
def xI (l : List Value) : Obj → Obj
  | .cells _ t frozen => .cells l.toArray t frozen
  | o => o
noncomputable def vC (os : Os) : World :=
  { World.holding Tryz.prog os ⟨#[], #[], []⟩ with heap := (((World.holding Tryz.prog os ⟨#[], #[], []⟩).heap.modify 3 (xI (Lib.deBruijn64tab.map fun n : Nat => Value.int .u8 (n : Int)))).modify 1 (xI (Lib.pow10Tab.map fun n : Int => Value.int .u64 n))).modify 2 (xI (Lib.deBruijn32tab.map fun n : Nat => Value.int .u8 (n : Int))) }
end Go.Proofs.YtljadkcojnlioaaGreatDoor
