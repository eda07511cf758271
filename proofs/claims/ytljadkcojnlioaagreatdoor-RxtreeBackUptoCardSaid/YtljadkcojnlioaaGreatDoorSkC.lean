/- Back: part 3 of 7 of what the law rests on. -/
import Derived.Test.YtljadkcojnlioaaGreatDoorSkB
set_option linter.unusedSectionVars false
set_option linter.unusedSimpArgs false
set_option linter.unusedVariables false
namespace Go.Proofs.YtljadkcojnlioaaGreatDoor
open Go.RowKit Go.W
attribute [local irreducible] Decidable.decide
theorem gW : HI Tryz.prog 24 24 = some (56, 2, 8) := by kernel_rfl
theorem mI : Build Tryz.prog 56 #[(0, 1), (1, 1)] #[.int .i32 0, .int .i32 0] := ⟨_, .agg #[.int .i32 0, .int .i32 0], Tryz.underlying56, by kernel_rfl, rfl, fun w => by kernel_rfl⟩
theorem wY : uN Tryz.prog 67 = some 1 := by kernel_rfl
theorem jF : tF Tryz.prog 24 = some (56, 2) := by kernel_rfl
def Vr (l : List (Int × Int)) : Prop := ∀ g, g ∈ l → 0 ≤ g.1 ∧ g.1 ≤ g.2 ∧ g.2 ≤ 1114111
def mL : List Int → List (Int × Int)
  | a :: b :: r => (a, b) :: mL r
  | _ => []
theorem AK : ∀ (l : List Int), (mL l).length = l.length / 2
  | [] => rfl
  | [a] => by rw [show mL [a] = [] from rfl]; simp
  | a :: b :: r => by rw [mL, List.length_cons, AK r]; simp only [List.length_cons]; omega
theorem AL : ∀ {l : List Int} {k : Nat} (h : k < (mL l).length) (h0 : 2 * k < l.length) (h1 : 2 * k + 1 < l.length), (mL l)[k] = (l[2 * k], l[2 * k + 1])
  | [], k, h, _, _ => by cases h
  | [a], k, h, _, _ => by cases h
  | a :: b :: r, 0, h, _, _ => rfl
  | a :: b :: r, k + 1, h, h0, h1 => by
    have := AL (l := r) (k := k) (by rw [mL] at h; simpa using h) (by simp only [List.length_cons] at h0; omega) (by simp only [List.length_cons] at h1; omega)
    have h2 : (mL (a :: b :: r))[k + 1] = (mL r)[k]'(by rw [mL] at h; simpa using h) := rfl
    rw [h2, this]
    simp only [show 2 * (k + 1) = 2 * k + 1 + 1 by omega, List.getElem_cons_succ]
theorem oU (l : List (Int × Int)) (a b : Int) : eK (l ++ [(a, b)]) = eK l ++ [.int .i32 a, .int .i32 b] := by rw [kR]; rfl
abbrev i32v (l : List Int) : List Value := l.map fun c => Value.int .i32 c
theorem FM {w : World} {e : TypeId} {a : Option Addr} {n c : Nat} {ys : List Int} {ob : Option Nat} (h : OwnS w e 1 a n c (i32v ys) ob) {k : Nat} (hk : k < ys.length) : ∃ g, ob = some g ∧ a = some ⟨g, 0, none⟩ ∧ w.cell? ⟨g, 0 + k * 1, none⟩ = some (.int .i32 ys[k]) := by
  have hl : ys.length = n * 1 := by have := h.length; simpa using this
  obtain ⟨g, hg, ha, hc⟩ := h.cells (by omega)
  refine ⟨g, hg, ha, ?_⟩
  rw [Nat.mul_one]
  exact hc k _ (by simp [hk])
structure SpG where
  k : Nat
  sa : Option Addr
  sc : Nat
  so : Option Nat
structure SpI (w wr : World) (n : Nat) (l : List (Int × Int)) (a : Option Addr) (c : Nat) (ob : Option Nat) : Prop where
  hk : n = l.length
  own : OwnS wr 56 2 a n c (eK l) ob
  ge : Ge w ob
theorem BF {w : World} {a : Option Addr} {c : Nat} {l : List (Int × Int)} {ob : Option Nat} (hO : OwnS w 56 2 a l.length c (eK l) ob) (hl : l.length ≤ 1000000) :
    Calls Tryz.prog 148 #[.slice a l.length c] w (Ret fun v w' => ∃ a' c' ob', v = .slice a' l.length c' ∧ OwnS w' 56 2 a' l.length c' (eK l) ob' ∧ Ge w ob' ∧ Evo [] w w') := by
  refine bL (N := 8) Tryz.func148 rfl rfl rfl ?_; refine aE (aB (aN (aC (aA (aE (aE (aB (aH (aF (ex_eqSl rfl rfl Tryz.underlying24) ?_))))))))); refine aC (aA (fX rfl (fun hc4 => ?_) (fun hc4 => ?_)))
  ·refine aE (aB (aN (aC (aA (aO (aM (br1 ?_)))))))
   obtain ⟨rfl, h1, rfl, rfl⟩ := (RU hO).resolve_right (fun ⟨g, h, _⟩ => by rw [h] at hc4; cases hc4)
   exact ⟨none, 0, none, rfl, OwnS.nil _ _ _, Ge.nil _, (Evo.refl [] w)⟩
  refine aX (aA (aE (aB (bP (vs := []) rfl jF rfl rfl rfl rfl fun b1 w2 hO3 hs4 hw5 => ?_)))); have hG7 := Ge.new (Evo.refl [] w) hs4; have hE8 := (Evo.refl [] w).then hw5; refine aH ?_; refine dT rfl rfl rfl rfl gW hO3 (Src.ofOwn (hO.evo0 hE8) (qH l)) (by omega) fun a2 c2 w12 ob2 hO2 hw15 hob16 => ?_; have hG18 := hG7.app hE8 hob16; have hE19 := hE8.step hw15 hG7.mem; refine aN (aC (aA (aO (br1 ?_)))); have hO3 := hO2; rw [Nat.zero_add] at hO3; exact ⟨a2, c2, ob2, by rw [Nat.zero_add], by simpa using hO3, hG18, hE19⟩
theorem dX {w : World} {a : Option Addr} {n c : Nat} {es : List Int} {ob : Option Nat} (hO : OwnS w 21 1 a n c (i32v es) ob) (hl : es.length ≤ 1000) :
    Calls Tryz.prog 114 #[.slice a n c] w (Ret fun v w' => ∃ a' c' ob', v = .slice a' (mL es).length c' ∧ OwnS w' 56 2 a' (mL es).length c' (eK (mL es)) ob' ∧ Ge w ob' ∧ Evo [] w w') := by
  have hn : n = es.length := by have := hO.length; simp at this; omega
  subst hn; have hpl := AK es; refine bL (N := 26) Tryz.func114 rfl rfl rfl ?_; refine aE (aB (aN (aC (aA (aE (aB (aN (aC (aA (aE (aE (aB (aN (aC (aA (bS ?_)))))))))))))))); refine fC (α := SpG) (⟨0, none, 0, none⟩) (fun x => [(3, .slice x.sa x.k x.sc), (4, .int .i64 ((2 * x.k : Nat) : Int))]) [(0, _), (2, _)] (fun x wr => Evo [] w wr ∧ (x.k ≤ (mL es).length ∧ SpI w wr x.k ((mL es).take x.k) x.sa x.sc x.so)) (fun x => (mL es).length - x.k) ⟨rfl, rfl, trivial⟩ ⟨rfl, rfl, trivial⟩ ⟨(Evo.refl [] w), ⟨Nat.zero_le _, by simp, OwnS.nil _ _ _, Ge.nil _⟩⟩ ?_; rintro ⟨k, sa, sc, so⟩ wr1 ⟨hV2, ⟨hk, hkl, hown, hge⟩⟩; show CW _ _ _ _ [(3, .slice sa k sc), (4, .int .i64 ((2 * k : Nat) : Int)), (0, _), (2, _)] _
  try dsimp only at hk
  try dsimp only at hkl
  try dsimp only at hown
  try dsimp only at hge
  refine aE (aE (aB (aH ?_))); refine aF (bE rfl rfl (by omega) (by omega)) ?_; refine aH (aF (bK rfl Tryz.underlying67 rfl) ?_); refine aF (dF rfl rfl) ?_; refine aC (aA (bG rfl (fun hc9 => ?_) (fun hc9 => ?_)))
  ·have h0 : 2 * k < es.length := by omega
   have h1 : 2 * k + 1 < es.length := by omega
   have hk' : k < (mL es).length := by omega
   obtain ⟨g0, hg0, ha0, hc0⟩ := FM hO h0; obtain ⟨g1, hg1, ha1, hc1⟩ := FM hO h1; refine aX (aA (aE (bS ?_))); refine iM (fun w0 w' => Evo so.toList w0 w') (by kernel_rfl) (fun w3 hw4 => ?_); have hE5 := hV2.then hw4; have hO6 := hown.evo0 hw4; refine aet 0 rfl (fun _ hS => bH rfl) (Evo.refl so.toList w3) ?_; refine aet 1 rfl (fun _ hS => bH rfl) (Evo.refl so.toList w3) ?_; refine aet 2 rfl (fun _ hS => bH rfl) (Evo.refl so.toList w3) ?_; refine aet 3 rfl (fun _ hS => fM (n := 2 * k) rfl (by rfl) ha0 wY h0) (Evo.refl so.toList w3) ?_; refine aet 4 rfl (fun _ hS => aI rfl bZ (((hE5.step hS (hge.mem))).cell hc0 (by simp))) (Evo.refl so.toList w3) ?_; refine aet 5 rfl (fun _ hS => bH rfl) (Evo.refl so.toList w3) ?_; refine aet 6 rfl (fun _ hS => bH rfl) (Evo.refl so.toList w3) ?_; refine aet 7 rfl (fun _ hS => bE rfl rfl (by omega) (by omega)) (Evo.refl so.toList w3) ?_; refine aet 8 rfl (fun _ hS => fM (n := 2 * k + 1) rfl (by rfl) ha1 wY h1) (Evo.refl so.toList w3) ?_
   refine aet 9 rfl (fun _ hS => aI rfl bZ (((hE5.step hS (hge.mem))).cell hc1 (by simp))) (Evo.refl so.toList w3) ?_; refine aet 10 rfl (fun _ hS => eX (vs := [(0, _), (1, _)]) mI rfl (cells := [_, _]) rfl) (Evo.refl so.toList w3) ?_; refine cK [11] (by kernel_rfl) rfl ⟨?_, trivial⟩; refine cP rfl ?_; refine bP (vs := [_]) rfl jF rfl rfl rfl rfl fun b7 w8 hO9 hs10 hw11 => ?_; have hE15 := hE5.then hw11; have hE16 := (Evo.refl so.toList w3).then hw11; have hO17 := hO6.evo0 hw11; refine aC (cC (.inl hE16) ?_); refine cK [12] (by kernel_rfl) rfl ⟨?_, trivial⟩; refine cP rfl ?_; refine dT rfl rfl rfl rfl gW hO17 (Src.ofOwn hO9 ⟨rfl, rfl, trivial⟩) (by omega) fun a2 c2 w20 ob2 hO2 hw23 hob24 => ?_; have hG26 := hge.app hE15 hob24; have hE27 := hE15.step hw23 hge.mem; have hE28 := hE16.step hw23 (fun y hy => .inl hy); refine aC (cC (.inl hE28) ?_); refine aet 13 rfl (fun _ hS => eV rfl) hE28 ?_; refine eQ (by kernel_rfl) (aZ (aA ?_)); refine aB (aH ?_); refine aF (bE rfl rfl (by omega) (by omega)) ?_; refine aN (aC (bM ?_)); refine ⟨⟨k + 1, a2, c2, ob2⟩, ?_, ⟨rfl, rfl, trivial⟩, ⟨rfl, rfl, trivial⟩, hE27, ?_⟩
   · (try dsimp only); omega
   try dsimp only
   refine ⟨hk', ⟨by rw [List.length_take]; omega, ?_, hG26⟩⟩
   rw [List.take_add_one, List.getElem?_eq_getElem hk', AL hk' h0 h1, Option.toList_some, oU]; exact hO2
  refine dW (cJ (cJ (dV (aA ?_)))); refine aE (aB (aH (aN (aC (aA (aO (br1 ?_)))))))
  obtain rfl : k = (mL es).length := by omega
  rw [List.take_length] at hown; exact ⟨sa, sc, so, rfl, hown, hge, hV2⟩
open Go.Shelf Go.Lib Go.Sort in
section
def cl (z : Int) : Int := max 0 (min z 1114111)
def CV (g : Int × Int) : List Value := GW (cl g.1, cl g.2)
def cmC (x y : Int × Int) : Int := cl x.1 - cl y.1
theorem NJ {z : Int} (h0 : 0 ≤ z) (h1 : z ≤ 1114111) : cl z = z := by unfold cl; omega
theorem cl_b (z : Int) : 0 ≤ cl z ∧ cl z ≤ 1114111 := by unfold cl; omega
set_option maxHeartbeats 1000000 in
theorem clos_ok (x y : Int × Int) (W : World) : Calls Tryz.prog 152 #[.agg (CV x).toArray, .agg (CV y).toArray] W fun e w' => e = .returned (.int .i64 (cmC x y)) ∧ ∃ q os', w' = Sort.grow (W.drewN q) os' := by
  have hx := cl_b x.1
  have hy := cl_b y.1
  unfold CV GW cmC
  generalize cl x.1 = p at *
  generalize cl y.1 = q at *
  generalize cl x.2 = p' at *
  generalize cl y.2 = q' at *
  show Calls Tryz.prog 152 #[.agg #[.int .i32 p, .int .i32 p'], .agg #[.int .i32 q, .int .i32 q']] W _
  go_enter Tryz.func152, Tryz.ntmps152
  go_wp2
  go_ret
  refine ⟨?_, 0, _, by rw [Sort.alloc_eq_grow, Sort.alloc_eq_grow, Sort.grow_grow]; rfl⟩
  rfl
end
theorem UM {l : List (Int × Int)} (h : Vr l) : l.map (fun g => (cl g.1, cl g.2)) = l := by
  conv => rhs; rw [← List.map_id l]
  refine List.map_congr_left fun g hg => ?_
  have := h g hg
  rw [NJ (by omega) (by omega), NJ (by omega) (by omega)]; rfl
theorem zG (l : List (Int × Int)) : Sort.flatK CV 2 l.toArray = (eK (l.map fun g => (cl g.1, cl g.2))).toArray := by
  rw [← rN]
  unfold Sort.flatK
  apply Array.ext
  · simp
  · intro t h1 h2
    have h3 : t < l.length * 2 := by simpa using h1
    have h5 : t / 2 < l.length := by omega
    simp [h5]
    rfl
theorem KT {l m : List (Int × Int)} (h : m.Perm l) (hv : Vr l) : Vr m := fun g hg => hv g (h.mem_iff.1 hg)
theorem LY (x y : Int × Int) : Go.Proofs.ltOf cmC x y = decide (cl x.1 < cl y.1) := by unfold Go.Proofs.ltOf cmC; exact decide_eq_decide.2 (by omega)
theorem swo_cm : Sort.SWO (Go.Proofs.ltOf cmC) where
  irrefl x := by rw [LY]; simp
  trans x y z h1 h2 := by rw [LY] at *; simp at *; omega
  ntrans x y z h1 h2 := by rw [LY] at *; simp at *; omega
theorem QG {w : World} {a : Option Addr} {c : Nat} {l : List (Int × Int)} {ob : Option Nat} (hO : OwnS w 56 2 a l.length c (eK l) ob) (hv : Vr l) (hl : l.length ≤ 1000000) :
    Calls Tryz.prog 151 #[.slice a l.length c, .func (.func 152) #[] #[]] w (Ret fun v w' => v = .tuple #[] ∧ ∃ m, m.Perm l ∧ (∀ i j (hij : i < j) (hj : j < m.length), m[i].1 ≤ m[j].1) ∧ OwnS w' 56 2 a l.length c (eK m) ob ∧ Evo ob.toList w w') := by
  rcases RU hO with ⟨rfl, hn, rfl, rfl⟩ | ⟨g, rfl, rfl⟩
  · refine (Go.Proofs.AnyF.slices_SortFunc_none { zS with } none c (.func (.func 152) #[] #[]) w).mono ?_
    rintro e w' ⟨rfl, rfl⟩
    exact ⟨_, rfl, rfl, [], .refl _, (fun i j hij hj => by cases hj), hO, Evo.refl _ _⟩
  · have eg : ∀ args w, (callFunc 152 args).run Tryz.prog w = .ok (.enter 152 args) w := enters_of Tryz.func152 (by kernel_rfl) rfl
    have hH : Sort.HoldsK CV 2 w g 0 l.toArray := by
      have := JG hO
      unfold Sort.HoldsK at *
      rw [zG, UM hv]; rw [rN] at this; exact this
    have hcon := Go.Proofs.AnyQ.slices_SortFunc zS 2 Tryz.isAgg56 Tryz.sizeOf56 CV (fun _ => rfl) (fun x v hv => by simp [CV, GW] at hv; rcases hv with rfl | rfl <;> rfl) cmC swo_cm 152 #[] g 0 c l.toArray w eg (fun _ _ _ _ x y => clos_ok x y _) hH hO.lt (by simp; omega)
    refine Calls.mono hcon ?_
    rintro e w' ⟨rfl, d', q, os, hp, hs, rfl⟩
    obtain ⟨h1, h2, h3⟩ := hp
    have hperm : d'.toList.Perm l := by
      have e1 : d'.extract 0 l.toArray.size = d' := by rw [← h1, Array.extract_size]
      have e2 : l.toArray.extract 0 l.toArray.size = l.toArray := Array.extract_size
      rw [e1, e2] at h3
      exact h3
    have hvm := KT hperm hv
    have hlen : d'.toList.length = l.length := by simpa using h1
    refine ⟨_, rfl, rfl, d'.toList, hperm, fun i j hij hj => ?_, ?_, ?_⟩
    · have hjs : j < d'.size := by simpa using hj
      have h5 := hs i j (Nat.zero_le _) hij (by rw [← h1]; exact hjs)
      rw [LY, decide_eq_false_iff_not] at h5
      have h6 := hvm _ (List.getElem_mem hj)
      have h7 := hvm _ (List.getElem_mem (show i < d'.toList.length by omega))
      have e1 : d'[j]! = d'.toList[j] := by rw [getElem!_pos d' j hjs]; simp
      have e2 : d'[i]! = d'.toList[i] := by rw [getElem!_pos d' i (by omega)]; simp
      rw [e1, e2, NJ (by omega) (by omega), NJ (by omega) (by omega)] at h5
      omega
    · have h8 := OK hO (ds := eK d'.toList) (by rw [jX, hlen]) q os
      have e3 : Sort.flatK CV 2 d' = (eK d'.toList).toArray := by
        have := zG d'.toList
        rw [UM hvm] at this
        simpa using this
      show OwnS (Sort.grow (Sort.putRow id (Sort.ahead w q) g 0 (Sort.flatK CV 2 d')) os) _ _ _ _ _ _ _
      rw [e3]
      exact h8
    · exact UA w g q _ os
theorem uW : fA Tryz.prog 148 := ⟨_, Tryz.func148, by kernel_rfl, by kernel_rfl⟩
theorem DU : fA Tryz.prog 151 := ⟨_, Tryz.func151, by kernel_rfl, by kernel_rfl⟩
structure MgP (m : List (Int × Int)) (k : Nat) (o : List (Int × Int)) : Prop where
  hk : k ≤ m.length
  can : sD o
  eq : ∀ c, InR c o ↔ InR c (m.take k)
  le : ∀ g, g ∈ o → ∀ i (h : i < m.length), k ≤ i → g.1 ≤ m[i].1
  len : o.length ≤ k
theorem SR (m : List (Int × Int)) : MgP m 0 [] := ⟨Nat.zero_le _, trivial, fun c => by simp, (fun g h => by cases h), Nat.le_refl _⟩
theorem GD {m : List (Int × Int)} {k : Nat} (h : k < m.length) (c : Int) : InR c (m.take (k + 1)) ↔ InR c (m.take k) ∨ (m[k].1 ≤ c ∧ c ≤ m[k].2) := by
  rw [List.take_add_one, List.getElem?_eq_getElem h, Option.toList_some, mX, jN]
section
variable {m : List (Int × Int)} {k : Nat} {o : List (Int × Int)}
theorem SS (h : MgP m k o) (hk : k < m.length) (hv : Vr m) (hs : ∀ i j (hij : i < j) (hj : j < m.length), m[i].1 ≤ m[j].1) (ho : o = [] ∨ ∃ o' g, o = o' ++ [g] ∧ ¬ m[k].1 ≤ g.2 + 1) : MgP m (k + 1) (o ++ [m[k]]) := by
  have hx := hv _ (List.getElem_mem hk)
  refine ⟨hk, ?_, fun c => ?_, fun g hg i hi hki => ?_, by rw [List.length_append]; have := h.len; simp; omega⟩
  · rcases ho with rfl | ⟨o', g, rfl, hn⟩
    · exact zI hx.1 hx.2.1 hx.2.2
    · exact ((HC h.can (h.le g (by simp) k hk (Nat.le_refl _)) hx.2.1 hx.2.2).2 hn).1
  · rw [mX, jN, GD hk, h.eq]
  · rcases List.mem_append.1 hg with hg | hg
    · exact h.le g hg i hi (by omega)
    · rw [List.mem_singleton.1 hg]; exact hs k i (by omega) hi
theorem mg_ext {o' : List (Int × Int)} {g : Int × Int} (h : MgP m k (o' ++ [g])) (hk : k < m.length) (hv : Vr m) (hn : m[k].1 ≤ g.2 + 1) : MgP m (k + 1) (o' ++ [(g.1, max g.2 m[k].2)]) := by
  have hx := hv _ (List.getElem_mem hk)
  have h1 := (HC h.can (h.le g (by simp) k hk (Nat.le_refl _)) hx.2.1 hx.2.2).1 hn
  refine ⟨hk, h1.1, fun c => by rw [h1.2, GD hk, h.eq], fun g' hg i hi hki => ?_, by have := h.len; simp at this ⊢; omega⟩
  rcases List.mem_append.1 hg with hg | hg
  · exact h.le g' (by simp [hg]) i hi (by omega)
  · rw [List.mem_singleton.1 hg]; exact h.le g (by simp) i hi (by omega)
theorem mg_end (h : MgP m k o) (hk : m.length ≤ k) {l : List (Int × Int)} (hp : m.Perm l) {S : Int → Prop} (hS : ∀ c, InR c l ↔ S c) : o = jT S := by
  refine (oN h.can fun c => ?_).symm
  rw [h.eq, List.take_of_length_le hk, GE hp, hS]
end
theorem IU (o : List (Int × Int)) (g : Int × Int) (z : Int) (j : Nat) (hj : j = 0 + o.length * 2 + 1) : (eK (o ++ [g])).set j (.int .i32 z) = eK (o ++ [(g.1, z)]) := by
  subst hj
  obtain ⟨a, b⟩ := g
  rw [oU, oU, List.set_append_right _ _ (by rw [jX]; omega), jX, show 0 + o.length * 2 + 1 - o.length * 2 = 1 by omega]
  rfl
theorem snoc_of {l : List (Int × Int)} (h : 0 < l.length) : ∃ o g, l = o ++ [g] ∧ o.length = l.length - 1 := by
  rcases List.eq_nil_or_concat l with rfl | ⟨o, g, rfl⟩
  · cases h
  · exact ⟨o, g, by simp, by simp⟩
structure MgG where
  k : Nat
  n : Nat
  o : List (Int × Int)
  sa : Option Addr
  sc : Nat
  so : Option Nat
structure MgI (w wr : World) (m : List (Int × Int)) (a1 : Option Addr) (c1 : Nat) (ob1 : Option Nat) (x : MgG) : Prop where
  p : MgP m x.k x.o
  cl : OwnS wr 56 2 a1 m.length c1 (eK m) ob1
  own : OwnS wr 56 2 x.sa x.n x.sc (eK x.o) x.so
  ge : Ge w x.so
  gc : Ge w ob1
  ap : Apart ob1 x.so
theorem yS {a b : Int} : (if a < b then b else a) = max a b := by omega
def RsOut (w w' : World) (v : Value) (S : Int → Prop) (n : Nat) : Prop := ∃ a c ob, v = .slice a (jT S).length c ∧ OwnS w' 56 2 a (jT S).length c (eK (jT S)) ob ∧ Ge w ob ∧ (jT S).length ≤ n ∧ sD (jT S) ∧ (∀ c, InR c (jT S) ↔ S c) ∧ Evo [] w w'
theorem vO {w : World} {a : Option Addr} {c : Nat} {l : List (Int × Int)} {ob : Option Nat} (hO : OwnS w 56 2 a l.length c (eK l) ob) (hv : Vr l) (hl : l.length ≤ 1000000) {S : Int → Prop} (hS : ∀ c, InR c l ↔ S c) :
    Calls Tryz.prog 136 #[.slice a l.length c] w (Ret fun v w' => RsOut w w' v S l.length) := by
  refine bL (N := 53) Tryz.func136 rfl rfl rfl ?_; refine aE (aB (aN (aC (aA (aE (aB (aH (aP (vs := [_]) uW rfl (BF hO hl) rfl ?_)))))))); rintro _ w1 ⟨a1, c1, ob1, rfl, hO1, hg1, hw2⟩; have hG3 := Ge.fresh (Evo.refl [] w) hg1; have hE4 := (Evo.refl [] w).then hw2; refine aN (aC (aA (aE (aB (aH (aP (vs := [_, _]) DU rfl (QG hO1 hv hl) rfl ?_)))))); rintro _ w5 ⟨rfl, m, hpm, hsm, hO2, hw6⟩; have hml := hpm.length_eq; have hvm := KT hpm hv; have hE7 := hE4.step hw6 hG3.mem; rw [← hml] at hO2; refine aC (aA (aE (aB (aN (aC (aA (aE (aE (aB (aH (aF (bK rfl Tryz.underlying24 rfl) ?_))))))))))); refine aH (aC (aA (bS (fC (α := MgG) (⟨0, 0, [], none, 0, none⟩) (fun x => [(3, .slice x.sa x.n x.sc), (13, .int .i64 (x.k : Nat))]) [(2, _), (11, _), (12, _)] (fun x wr => Evo [] w wr ∧ (MgI w wr m a1 c1 ob1 x)) (fun x => m.length - x.k) ⟨rfl, rfl, trivial⟩ ⟨rfl, rfl, rfl, trivial⟩ ⟨hE7, ⟨SR m, hO2, OwnS.nil _ _ _, Ge.nil _, hg1, Apart.nil _⟩⟩ ?_)))); rintro ⟨k, n, o, sa, sc, so⟩ wr8 ⟨hV9, ⟨hp, hcl, hown, hge, hgc, hap⟩⟩; show CW _ _ _ _ [(3, .slice sa n sc), (13, .int .i64 (k : Nat)), (2, _), (11, _), (12, _)] _
  try dsimp only at hp
  try dsimp only at hcl
  try dsimp only at hown
  try dsimp only at hge
  try dsimp only at hgc
  try dsimp only at hap
  have hE10 := Evo.refl ([]) wr8; have hon := qL hown; have hpl := hp.len; have hpk := hp.hk
  try dsimp only at hpl hpk
  refine aE (aB (aF (dF rfl rfl) ?_)); refine aC (aA (aE (bG rfl (fun hc14 => ?_) (fun hc14 => ?_))))
  ·have hk' : k < m.length := by omega
   have hvk := hvm _ (List.getElem_mem hk'); obtain ⟨g1, hg1', ha1, hc1⟩ := pQ hcl hk'; refine aX (aA (aE (bS (aE (aB ?_))))); refine aF (fM (n := k) rfl rfl ha1 dZ (by omega)) ?_; refine aF (eN rfl kE gK (vs := [_, _]) rfl (hc1.evo hE10 (by simp))) ?_; refine dH rfl nE fun b11 w12 hB13 hs14 hw15 => ?_; have hA16 := Apart.new (Lt.own hown) hs14; have hA17 := Apart.new (Lt.own hcl) hs14; have hG18 := Ge.new hV9 hs14; have hG19 := Ge.new hE10 hs14; have hE20 := hV9.then hw15; have hE21 := hE10.then hw15; have hO22 := hown.evo0 hw15; have hO23 := hcl.evo0 hw15; refine bN rfl rfl gK hB13 rfl rfl ⟨rfl, rfl, trivial⟩ fun w24 hB25 hw26 => ?_; have hE27 := hE20.step hw26 hG18.mem1; have hE28 := hE21.step hw26 hG19.mem1; have hO29 := hO22.evo hw26 hA16.own1; have hO30 := hO23.evo hw26 hA17.own1
   try simp only [cV, Nat.reduceAdd] at hB25
   refine aC (aA (aE (aE (aB (aH (aF (bK rfl Tryz.underlying24 rfl) ?_)))))); refine aN (aC (aA (aE ?_))); refine fJ (by kernel_rfl) (by kernel_rfl) ?_; refine bJ (fun _ hq32 => bH rfl) ?_; refine bJ (fun _ hq32 => fI rfl rfl) ?_; refine bJ (fun _ hq32 => bH rfl) ?_; refine jO (t := 21) rfl (fun hs21 => ?_) (fun hs21 => ?_)
   ·have h0 : 0 < o.length := by omega
    obtain ⟨o', q, hoq, hol⟩ := snoc_of h0; subst hoq
    have hol2 : (o' ++ [q]).length = o'.length + 1 := by simp
    have hqb := vX (x := q) hp.can; obtain ⟨gq, hgq, haq, hcq⟩ := pQ hown (i := o'.length) (by omega); rw [List.getElem_concat_length (h := rfl)] at hcq; refine qlg ?_; refine bJ (fun _ hq32 => aD rfl fS) ?_; refine qlg ?_; refine bJ (fun _ hq32 => aI rfl bZ (aJ (hq32.blk0 hB25) rfl)) ?_; refine qlg ?_; refine bJ (fun _ hq32 => bH rfl) ?_; refine qlg ?_; refine bJ (fun _ hq32 => bH rfl) ?_; refine qlg ?_; refine bJ (fun _ hq32 => gR rfl rfl (by omega) (by omega)) ?_; refine qlg ?_; refine bJ (fun _ hq32 => gC (n := o'.length) rfl rfl haq (by omega) dZ (by omega)) ?_; refine qlg ?_; refine bJ (fun _ hq32 => aD rfl eM) ?_; refine qlg ?_; refine bJ (fun _ hq32 => aI rfl bZ (((hE28.then hq32)).cell (hcq 1 _ rfl) (by simp))) ?_; refine qlg ?_; refine bJ (fun _ hq32 => jJ rfl rfl (by omega) (by omega)) ?_; refine qlg ?_; refine bJ (fun _ hq32 => fP rfl rfl) ?_; refine bJ (fun _ hq32 => eG rfl rfl) ?_; refine fO (fun wq31 hq32 => aA ?_); have hE33 := hE27.then hq32; have hE34 := hE28.then hq32; have hO35 := hO29.evo0 hq32; have hO36 := hO30.evo0 hq32; have hB37 := hq32.blk0 hB25; refine bG rfl (fun hc32 => ?_) (fun hc32 => ?_)
    ·refine aE ?_; refine iM (fun w0 w' => Evo so.toList w0 w') (by kernel_rfl) (fun w38 hw39 => ?_); have hE40 := hE33.then hw39; have hE41 := hE34.then hw39; have hO42 := hO35.evo0 hw39; have hO43 := hO36.evo0 hw39; have hB44 := hw39.blk0 hB37; refine aet 0 rfl (fun _ hS => bH rfl) (Evo.refl so.toList w38) ?_; refine aet 1 rfl (fun _ hS => bH rfl) (Evo.refl so.toList w38) ?_; refine aet 2 rfl (fun _ hS => gR rfl rfl (by omega) (by omega)) (Evo.refl so.toList w38) ?_; refine aet 3 rfl (fun _ hS => bH rfl) (Evo.refl so.toList w38) ?_; refine aet 4 rfl (fun _ hS => bH rfl) (Evo.refl so.toList w38) ?_; refine aet 5 rfl (fun _ hS => gR rfl rfl (by omega) (by omega)) (Evo.refl so.toList w38) ?_; refine aet 6 rfl (fun _ hS => gC (n := o'.length) rfl rfl haq (by omega) dZ (by omega)) (Evo.refl so.toList w38) ?_; refine aet 7 rfl (fun _ hS => aD rfl eM) (Evo.refl so.toList w38) ?_; refine aet 9 rfl (fun _ hS => aD rfl eM) (Evo.refl so.toList w38) ?_; refine aet 10 rfl (fun _ hS => aI rfl bZ (aJ (hS.blk hB44 (hA16.symm.nmem)) rfl)) (Evo.refl so.toList w38) ?_
     refine cK [8] (by kernel_rfl) rfl ⟨?_, trivial⟩; refine cP rfl ?_; refine aF (aI rfl bZ ((hE41).cell (hcq 1 _ rfl) (by simp))) ?_; refine aC (cC (.inl (Evo.refl so.toList w38)) ?_); refine cK [11] (by kernel_rfl) rfl ⟨?_, trivial⟩; refine cP rfl ?_; refine aF (zE rfl rfl) ?_; refine aC (cC (.inl (Evo.refl so.toList w38)) ?_); refine aet 12 rfl (fun _ hS => gC (n := o'.length) rfl rfl haq (by omega) dZ (by omega)) (Evo.refl so.toList w38) ?_; refine aet 13 rfl (fun _ hS => aD rfl eM) (Evo.refl so.toList w38) ?_; refine cK [14] (by kernel_rfl) rfl ⟨?_, trivial⟩; refine cP rfl ?_
     obtain ⟨g54, cur45, hg46, hx47, hcu48, hcs49, -⟩ := hO42.at (by omega)
     rw [haq] at hx47; cases hx47
     refine tE rfl rfl (rfl) iQ hcu48 (hO42.inb hcs49 (k := o'.length) (j := 1) (by omega) (by omega) (by omega)) fun w50 hB51 hw52 => ?_; replace hw52 := tO hg46 hw52; have hO53 := hO42.set' hg46 hcu48 hB51; have hE55 := hE40.step hw52 hge.mem; have hE57 := (Evo.refl so.toList w38).step hw52 (fun y hy => .inl hy); have hO58 := hO43.evo hw52 hap.own; refine aC (cC (.inl hE57) ?_); refine eQ (by kernel_rfl) (aA ?_); refine dW (cJ (dV (aA ?_))); refine aB ?_; refine aF (bE rfl rfl (by omega) (by omega)) ?_; refine aH (aC (bM ?_)); refine ⟨⟨k + 1, n, o' ++ [(q.1, max q.2 m[k].2)], sa, sc, so⟩, ?_, ⟨rfl, rfl, trivial⟩, ⟨rfl, rfl, rfl, trivial⟩, hE55, ?_⟩
     · (try dsimp only); omega
     try dsimp only
     have hO9 := hO53; rw [IU _ _ _ _ rfl, yS] at hO9; exact ⟨mg_ext hp hk' hvm hc32, hO58, hO9, hge, hgc, hap⟩
    refine aX (aA (aB (aH (aF (bY rfl kE gK hB37 rfl) (bP (vs := [_]) rfl jF rfl rfl rfl rfl fun b60 w61 hO62 hs63 hw64 => ?_))))); have hE70 := hE33.then hw64; have hO72 := hO35.evo0 hw64; have hO73 := hO36.evo0 hw64
    refine dT rfl rfl rfl rfl gW hO72 (Src.ofOwn hO62 ⟨rfl, rfl, trivial⟩) (by have := hp.len; omega) fun a2 c2 w77 ob2 hO3 hw80 hob81 => ?_
    have hA82 := hap.app (Lt.own hO73) hob81; have hG85 := hge.app hE70 hob81; have hE86 := hE70.step hw80 hge.mem; have hO88 := hO73.evo hw80 hap.own; refine aN (aC (aZ (aA (aB ?_)))); refine aF (bE rfl rfl (by omega) (by omega)) ?_; refine aH (aC (bM ?_)); refine ⟨⟨k + 1, n + 1, (o' ++ [q]) ++ [m[k]], a2, c2, ob2⟩, ?_, ⟨rfl, rfl, trivial⟩, ⟨rfl, rfl, rfl, trivial⟩, hE86, ?_⟩
    · (try dsimp only); omega
    try dsimp only
    refine ⟨SS hp hk' hvm hsm (.inr ⟨o', q, rfl, hc32⟩), hO88, ?_, hG85, hgc, hA82⟩
    rw [kR]; exact hO3
   refine qln ?_; refine qln ?_; refine qln ?_; refine qln ?_; refine qln ?_; refine qln ?_; refine qln ?_; refine qln ?_; refine qln ?_; refine qln ?_; refine bJ (fun _ hq32 => fQ rfl rfl) ?_; refine fO (fun wq31 hq32 => aA ?_); have hE91 := hE27.then hq32; have hO93 := hO29.evo0 hq32; have hO94 := hO30.evo0 hq32; have hB95 := hq32.blk0 hB25; refine cN rfl ?_; refine aX (aA (aB (aH (aF (bY rfl kE gK hB95 rfl) (bP (vs := [_]) rfl jF rfl rfl rfl rfl fun b96 w97 hO98 hs99 hw100 => ?_))))); have hE106 := hE91.then hw100; have hO108 := hO93.evo0 hw100; have hO109 := hO94.evo0 hw100
   refine dT rfl rfl rfl rfl gW hO108 (Src.ofOwn hO98 ⟨rfl, rfl, trivial⟩) (by have := hp.len; omega) fun a2 c2 w113 ob2 hO3 hw116 hob117 => ?_
   have hA118 := hap.app (Lt.own hO109) hob117; have hG121 := hge.app hE106 hob117; have hE122 := hE106.step hw116 hge.mem; have hO124 := hO109.evo hw116 hap.own; refine aN (aC (aZ (aA (aB ?_)))); refine aF (bE rfl rfl (by omega) (by omega)) ?_; refine aH (aC (bM ?_)); refine ⟨⟨k + 1, n + 1, o ++ [m[k]], a2, c2, ob2⟩, ?_, ⟨rfl, rfl, trivial⟩, ⟨rfl, rfl, rfl, trivial⟩, hE122, ?_⟩
   · (try dsimp only); omega
   try dsimp only
   refine ⟨SS hp hk' hvm hsm (.inl (List.length_eq_zero_iff.1 (by omega))), hO124, ?_, hG121, hgc, hA118⟩
   rw [kR]; exact hO3
  refine dW (cJ (cJ (dV (aA ?_)))); refine aE (aB (aH (aN (aC (aA (aO (br1 ?_))))))); have e := mg_end hp (by omega) hpm hS; subst e; subst hon; exact ⟨sa, sc, so, rfl, hown, hge, by omega, hp.can, fun c => by rw [hp.eq, List.take_of_length_le (by omega), GE hpm, hS], hV9⟩
theorem qV : fA Tryz.prog 136 := ⟨_, Tryz.func136, by kernel_rfl, by kernel_rfl⟩
structure NgG where
  k : Nat
  n : Nat
  o : List (Int × Int)
  nx : Int
  sa : Option Addr
  sc : Nat
  so : Option Nat
structure NgI (w wr : World) (m : List (Int × Int)) (a1 : Option Addr) (c1 : Nat) (ob1 : Option Nat) (x : NgG) : Prop where
  hk : x.k ≤ m.length
  eq : x.o ++ pI x.nx (m.drop x.k) = pI 0 m
  b0 : 0 ≤ x.nx
  b1 : x.nx ≤ 1114112
  len : x.n ≤ x.k
  cl : OwnS wr 56 2 a1 m.length c1 (eK m) ob1
  own : OwnS wr 56 2 x.sa x.n x.sc (eK x.o) x.so
  ge : Ge w x.so
  gc : Ge w ob1
  ap : Apart ob1 x.so
theorem OU (b : Int) {m : List (Int × Int)} {k : Nat} (h : k < m.length) : pI b (m.drop k) = (if b < m[k].1 then [(b, m[k].1 - 1)] else []) ++ pI (m[k].2 + 1) (m.drop (k + 1)) := by
  rw [List.drop_eq_getElem_cons h, pI]
theorem NL {m : List (Int × Int)} (h : sD m) : ∀ {k : Nat} (hk : k < m.length), 0 ≤ m[k].1 ∧ m[k].1 ≤ m[k].2 ∧ m[k].2 ≤ 1114111 := by
  have key : ∀ {m : List (Int × Int)} {b : Int}, 0 ≤ b → jM b m → ∀ {k : Nat} (hk : k < m.length), 0 ≤ m[k].1 ∧ m[k].1 ≤ m[k].2 ∧ m[k].2 ≤ 1114111 := by
    intro m
    induction m with
    | nil => intro b _ _ k hk; cases hk
    | cons g m ih =>
      intro b hb hc k hk
      rw [jM] at hc
      cases k with
      | zero => exact ⟨by show 0 ≤ g.1; omega, hc.2.1, hc.2.2.1⟩
      | succ k => exact ih (b := g.2 + 2) (by omega) hc.2.2.2 (by simpa using hk)
  intro k hk
  exact key (Int.le_refl _) h hk
theorem vV {m : List (Int × Int)} (h : sD m) : Vr m := fun g hg => by
  obtain ⟨k, hk, rfl⟩ := List.getElem_of_mem hg
  exact NL h hk
theorem AU {m : List (Int × Int)} {S : Int → Prop} (h : sD m) (hS : ∀ c, InR c m ↔ S c) : sD (pI 0 m) ∧ (∀ c, InR c (pI 0 m) ↔ sU S c) ∧ pI 0 m = jT (sU S) := by
  obtain ⟨h1, h2⟩ := xO (b := 0) (d := 0) (Int.le_refl _) (Int.le_refl _) h
  have h3 : ∀ c, InR c (pI 0 m) ↔ sU S c := fun c => by rw [h2, hS]; exact Iff.rfl
  exact ⟨h1, h3, (oN h1 h3).symm⟩
theorem mR {w : World} {a : Option Addr} {c : Nat} {l : List (Int × Int)} {ob : Option Nat} (hO : OwnS w 56 2 a l.length c (eK l) ob) (hv : Vr l) (hl : l.length ≤ 1000000) {S : Int → Prop} (hS : ∀ c, InR c l ↔ S c) :
    Calls Tryz.prog 131 #[.slice a l.length c] w (Ret fun v w' => RsOut w w' v (sU S) (l.length + 1)) := by
  refine bL (N := 38) Tryz.func131 rfl rfl rfl ?_; refine aE (aB (aN (aC (aA (aE (aB (aN (aC (aA (aE (aB (aN (aC (aA (aE (aE (aB ?_))))))))))))))))); refine aH (aP (vs := [_]) qV rfl (vO hO hv hl hS) rfl ?_); rintro _ w1 ⟨a1, c1, ob1, rfl, hO1, hg1, hml, hcan, heqS, hw2⟩; have hE4 := (Evo.refl [] w).then hw2
  generalize hm : jT S = m at *
  refine aF (bK rfl Tryz.underlying24 rfl) ?_; refine aH (aC (aA (bS ?_)))
  refine fC (α := NgG) (⟨0, 0, [], 0, none, 0, none⟩) (fun x => [(3, .slice x.sa x.n x.sc), (10, .int .i64 (x.k : Nat)), (4, .int .i32 x.nx)]) [(2, _), (8, _), (9, _)] (fun x wr => Evo [] w wr ∧ (NgI w wr m a1 c1 ob1 x)) (fun x => m.length - x.k) ⟨rfl, rfl, rfl, trivial⟩ ⟨rfl, rfl, rfl, trivial⟩ ⟨hE4, ⟨Nat.zero_le _, rfl, Int.le_refl _, (by show (0 : Int) ≤ 1114112; omega), Nat.le_refl _, hO1, OwnS.nil _ _ _, Ge.nil _, hg1, Apart.nil _⟩⟩ ?_
  rintro ⟨k, n, o, nx, sa, sc, so⟩ wr5 ⟨hV6, ⟨hk, heq, hb0, hb1, hlen, hcl, hown, hge, hgc, hap⟩⟩; show CW _ _ _ _ [(3, .slice sa n sc), (10, .int .i64 (k : Nat)), (4, .int .i32 nx), (2, _), (8, _), (9, _)] _
  try dsimp only at hk
  try dsimp only at heq
  try dsimp only at hb0
  try dsimp only at hb1
  try dsimp only at hlen
  try dsimp only at hcl
  try dsimp only at hown
  try dsimp only at hge
  try dsimp only at hgc
  try dsimp only at hap
  have hE7 := Evo.refl ([]) wr5; refine aE (aB (aF (dF rfl rfl) ?_)); refine aC (aA (aE (bG rfl (fun hc11 => ?_) (fun hc11 => ?_))))
  ·have hk' : k < m.length := by omega
   have hmk := NL hcan hk'; obtain ⟨g1, hg1', ha1, hc1⟩ := pQ hcl hk'; have hgc0 := OU nx hk'; refine aX (aA (aE (bS (aE (aB ?_))))); refine aF (fM (n := k) rfl rfl ha1 dZ (by omega)) ?_; refine aF (eN rfl kE gK (vs := [_, _]) rfl (hc1.evo hE7 (by simp))) ?_; refine dH rfl nE fun b8 w9 hB10 hs11 hw12 => ?_; have hA13 := Apart.new (Lt.own hown) hs11; have hA14 := Apart.new (Lt.own hcl) hs11; have hG15 := Ge.new hV6 hs11; have hE17 := hV6.then hw12; have hO19 := hown.evo0 hw12; have hO20 := hcl.evo0 hw12; refine bN rfl rfl gK hB10 rfl rfl ⟨rfl, rfl, trivial⟩ fun w21 hB22 hw23 => ?_; have hE24 := hE17.step hw23 hG15.mem1; have hO26 := hO19.evo hw23 hA13.own1; have hO27 := hO20.evo hw23 hA14.own1
   try simp only [cV, Nat.reduceAdd] at hB22
   refine aC (aA (aE (aE (aB (aF (aD rfl fS) (aF (aI rfl bZ (aJ hB22 rfl)) (aH (aF (fI rfl rfl) ?_)))))))); refine aC (aA (bG rfl (fun hc17 => ?_) (fun hc17 => ?_)))
   ·refine aB (aH (aH (aF (aD rfl fS) (aF (aI rfl bZ (aJ hB22 rfl)) ?_)))); refine aF (JW rfl rfl (by omega) (by omega)) ?_; refine aF (eX (vs := [(0, _), (1, _)]) mI rfl (cells := [_, _]) rfl) ?_; refine bP (vs := [_]) rfl jF rfl rfl rfl rfl fun b28 w29 hO30 hs31 hw32 => ?_; have hE38 := hE24.then hw32; have hO40 := hO26.evo0 hw32; have hO41 := hO27.evo0 hw32; have hB42 := hw32.blk0 hB22; refine dT rfl rfl rfl rfl gW hO40 (Src.ofOwn hO30 ⟨rfl, rfl, trivial⟩) (by omega) fun a2 c2 w45 ob2 hO3 hw48 hob49 => ?_; have hA50 := hap.app (Lt.own hO41) hob49; have hG53 := hge.app hE38 hob49; have hE54 := hE38.step hw48 hge.mem; have hO56 := hO41.evo hw48 hap.own; have hB57 := hw48.blk hB42 hA13.symm.nmem; refine aN (aC (aA (aB (aF (aD rfl eM) (aF (aI rfl bZ (aJ hB57 rfl)) ?_))))); refine aF (jJ rfl rfl (by omega) (by omega)) ?_; refine aN (aC (aZ (aA (aB ?_)))); refine aF (bE rfl rfl (by omega) (by omega)) ?_; refine aH (aC (bM ?_)); refine ⟨⟨k + 1, n + 1, o ++ [(nx, m[k].1 - 1)], m[k].2 + 1, a2, c2, ob2⟩, ?_, ⟨rfl, rfl, rfl, trivial⟩, ⟨rfl, rfl, rfl, trivial⟩, hE54, ?_⟩
    · (try dsimp only); omega
    try dsimp only
    refine ⟨hk', ?_, (by show 0 ≤ m[k].2 + 1; omega), (by show m[k].2 + 1 ≤ 1114112; omega), (by show n + 1 ≤ k + 1; omega), hO56, ?_, hG53, hgc, hA50⟩
    · rw [← heq, hgc0, if_pos (by omega), List.append_assoc]
    · rw [oU]; exact hO3
   refine aX (aA (aB (aF (aD rfl eM) (aF (aI rfl bZ (aJ hB22 rfl)) ?_)))); refine aF (jJ rfl rfl (by omega) (by omega)) ?_; refine aN (aC (aZ (aA (aB ?_)))); refine aF (bE rfl rfl (by omega) (by omega)) ?_; refine aH (aC (bM ?_)); refine ⟨⟨k + 1, n, o, m[k].2 + 1, sa, sc, so⟩, ?_, ⟨rfl, rfl, rfl, trivial⟩, ⟨rfl, rfl, rfl, trivial⟩, hE24, ?_⟩
   · (try dsimp only); omega
   try dsimp only
   refine ⟨hk', ?_, (by show 0 ≤ m[k].2 + 1; omega), (by show m[k].2 + 1 ≤ 1114112; omega), (by show n ≤ k + 1; omega), hO27, hO26, hge, hgc, hap⟩
   rw [← heq, hgc0, if_neg (by omega), List.nil_append]
  refine dW (cJ (cJ (dV (aA ?_)))); refine aE (aE (aB (aH (aF (fP rfl rfl) ?_)))); refine aC (aA (bG rfl (fun hc31 => ?_) (fun hc31 => ?_)))
  ·refine aB (aH (aH (aF (eX (vs := [(0, _), (1, _)]) mI rfl (cells := [_, _]) rfl) ?_))); refine bP (vs := [_]) rfl jF rfl rfl rfl rfl fun b59 w60 hO61 hs62 hw63 => ?_; have hE68 := hV6.then hw63; have hO70 := hown.evo0 hw63; refine dT rfl rfl rfl rfl gW hO70 (Src.ofOwn hO61 ⟨rfl, rfl, trivial⟩) (by omega) fun a2 c2 w74 ob2 hO3 hw77 hob78 => ?_; have hG81 := hge.app hE68 hob78; have hE82 := hE68.step hw77 hge.mem; refine aN (aC (aA (aE (aB (aH (aN (aC (aA (aO (br1 ?_)))))))))); obtain ⟨h1, h2, h3⟩ := AU hcan heqS; rw [List.drop_eq_nil_of_le (by omega), pI, if_pos (by omega)] at heq; have hO9 : OwnS _ _ 2 _ _ _ (eK o ++ eK [(nx, 1114111)]) _ := hO3; rw [← kR, heq] at hO9; have hn9 := qL hO9; rw [h3] at hO9 hn9 h1 h2
   exact ⟨a2, c2, ob2, by rw [hn9], by rw [← hn9]; exact hO9, hG81, by omega, h1, h2, hE82⟩
  refine aX (aA (aE (aB (aH (aN (aC (aA (aO (br1 ?_))))))))); obtain ⟨h1, h2, h3⟩ := AU hcan heqS; rw [List.drop_eq_nil_of_le (by omega), pI, if_neg (by omega), List.append_nil] at heq; have hO9 := hown; rw [heq] at hO9; have hn9 := qL hO9; rw [h3] at hO9 hn9 h1 h2
  exact ⟨sa, sc, so, by rw [hn9], by rw [← hn9]; exact hO9, hge, by omega, h1, h2, hV6⟩
mutual
def OT : Rx → World → List Value → List Nat → Prop
  | .mk k r rs mn mx lz cp nm ks, w, vs, bs => ∃ (ra : Option Addr) (rc : Nat) (rb : Option Nat) (ka : Option Addr) (kc : Nat) (kb : Option Nat) (cs : List Value) (bk : List Nat),
    vs = [iv k, .int .i32 r, .slice ra rs.length rc, iv mn, iv mx, .bool lz, iv cp, .string nm, .slice ka ks.length kc] ∧ OwnS w 56 2 ra rs.length rc (eK rs) rb ∧ OwnS w 27 9 ka ks.length kc cs kb ∧ OTs ks w cs bk ∧
    bs = rb.toList ++ (kb.toList ++ bk) ∧ rs.length ≤ 1000000 ∧ nm.size ≤ 1000000 ∧ ks.length ≤ 1000000
def OTs : List Rx → World → List Value → List Nat → Prop
  | [], _, cs, bs => cs = [] ∧ bs = []
  | x :: l, w, cs, bs => ∃ (vs cs' : List Value) (b1 b2 : List Nat), cs = vs ++ cs' ∧ bs = b1 ++ b2 ∧ OT x w vs b1 ∧ OTs l w cs' b2
end
theorem BZ {w : World} {e : TypeId} {sz : Nat} {a : Option Addr} {n c : Nat} {xs : List Value} {ob : Option Nat} (h : OwnS w e sz a n c xs ob) : ∀ b, b ∈ ob.toList → b < w.heap.size := fun b hb => by
  cases ob with
  | none => cases hb
  | some g => rw [List.mem_singleton.1 hb]; exact h.lt
mutual
theorem OT.evo : ∀ {x : Rx} {w w' : World} {vs : List Value} {bs X : List Nat}, OT x w vs bs → Evo X w w' → (∀ b, b ∈ bs → b ∉ X) → OT x w' vs bs
  | .mk k r rs mn mx lz cp nm ks, w, w', vs, bs, X, h, he, hx => by
    rw [OT] at h ⊢
    obtain ⟨ra, rc, rb, ka, kc, kb, cs, bk, h1, h2, h3, h4, rfl, h5⟩ := h
    exact ⟨ra, rc, rb, ka, kc, kb, cs, bk, h1, h2.evo he (fun g hg => hx g (by simp [hg])), h3.evo he (fun g hg => hx g (by simp [hg])), OTs.evo h4 he (fun b hb => hx b (by simp [hb])), rfl, h5⟩
theorem OTs.evo : ∀ {l : List Rx} {w w' : World} {cs : List Value} {bs X : List Nat}, OTs l w cs bs → Evo X w w' → (∀ b, b ∈ bs → b ∉ X) → OTs l w' cs bs
  | [], w, w', cs, bs, X, h, he, hx => by rw [OTs] at h ⊢; exact h
  | x :: l, w, w', cs, bs, X, h, he, hx => by
    rw [OTs] at h ⊢
    obtain ⟨vs, cs', b1, b2, h1, rfl, h3, h4⟩ := h
    exact ⟨vs, cs', b1, b2, h1, rfl, OT.evo h3 he (fun b hb => hx b (by simp [hb])), OTs.evo h4 he (fun b hb => hx b (by simp [hb]))⟩
end
mutual
theorem OT.lt : ∀ {x : Rx} {w : World} {vs : List Value} {bs : List Nat}, OT x w vs bs → ∀ b, b ∈ bs → b < w.heap.size
  | .mk k r rs mn mx lz cp nm ks, w, vs, bs, h => by
    rw [OT] at h
    obtain ⟨ra, rc, rb, ka, kc, kb, cs, bk, h1, h2, h3, h4, rfl, h5⟩ := h
    intro b hb
    rcases List.mem_append.1 hb with hb | hb
    · exact BZ h2 b hb
    · rcases List.mem_append.1 hb with hb | hb
      · exact BZ h3 b hb
      · exact OTs.lt h4 b hb
theorem OTs.lt : ∀ {l : List Rx} {w : World} {cs : List Value} {bs : List Nat}, OTs l w cs bs → ∀ b, b ∈ bs → b < w.heap.size
  | [], w, cs, bs, h => by rw [OTs] at h; rw [h.2]; exact fun b hb => by cases hb
  | x :: l, w, cs, bs, h => by
    rw [OTs] at h
    obtain ⟨vs, cs', b1, b2, h1, rfl, h3, h4⟩ := h
    intro b hb
    rcases List.mem_append.1 hb with hb | hb
    · exact OT.lt h3 b hb
    · exact OTs.lt h4 b hb
end
theorem OT.nine {x : Rx} {w : World} {vs : List Value} {bs : List Nat} (h : OT x w vs bs) : ∃ ra rc ka kc, vs = [iv x.kind, .int .i32 x.r, .slice ra x.ranges.length rc, iv x.min, iv x.max, .bool x.lazy, iv x.cap, .string x.name, .slice ka x.kids.length kc] := by
  cases x with
  | mk k r rs mn mx lz cp nm ks =>
    rw [OT] at h
    obtain ⟨ra, rc, rb, ka, kc, kb, cs, bk, h1, _⟩ := h
    exact ⟨ra, rc, ka, kc, h1⟩
theorem OT.len {x : Rx} {w : World} {vs : List Value} {bs : List Nat} (h : OT x w vs bs) : vs.length = 9 := by
  obtain ⟨ra, rc, ka, kc, rfl⟩ := h.nine; rfl
theorem OT.one {x : Rx} {w : World} {vs : List Value} {bs : List Nat} (h : OT x w vs bs) : AllOne vs := by
  obtain ⟨ra, rc, ka, kc, rfl⟩ := h.nine; exact ⟨rfl, rfl, rfl, rfl, rfl, rfl, rfl, rfl, rfl, trivial⟩
theorem zP : ∀ {l m : List Value}, AllOne l → AllOne m → AllOne (l ++ m)
  | [], m, _, h => h
  | v :: l, m, h, h2 => ⟨h.1, zP h.2 h2⟩
theorem OTs.len : ∀ {l : List Rx} {w : World} {cs : List Value} {bs : List Nat}, OTs l w cs bs → cs.length = l.length * 9
  | [], w, cs, bs, h => by rw [OTs] at h; rw [h.1]; rfl
  | x :: l, w, cs, bs, h => by
    rw [OTs] at h
    obtain ⟨vs, cs', b1, b2, rfl, rfl, h3, h4⟩ := h
    rw [List.length_append, h3.len, OTs.len h4, List.length_cons]; omega
theorem OTs.one : ∀ {l : List Rx} {w : World} {cs : List Value} {bs : List Nat}, OTs l w cs bs → AllOne cs
  | [], w, cs, bs, h => by rw [OTs] at h; rw [h.1]; trivial
  | x :: l, w, cs, bs, h => by
    rw [OTs] at h
    obtain ⟨vs, cs', b1, b2, rfl, rfl, h3, h4⟩ := h
    exact zP h3.one (OTs.one h4)
theorem OTs.nil (w : World) : OTs [] w [] [] := by rw [OTs]; exact ⟨rfl, rfl⟩
theorem OTs.single {x : Rx} {w : World} {vs : List Value} {bs : List Nat} (h : OT x w vs bs) : OTs [x] w vs bs := by
  rw [OTs]; exact ⟨vs, [], bs, [], by simp, by simp, h, OTs.nil w⟩
theorem OTs.app : ∀ {l m : List Rx} {w : World} {cs cs' : List Value} {bs bs' : List Nat}, OTs l w cs bs → OTs m w cs' bs' → OTs (l ++ m) w (cs ++ cs') (bs ++ bs')
  | [], m, w, cs, cs', bs, bs', h, h2 => by rw [OTs] at h; rw [h.1, h.2]; exact h2
  | x :: l, m, w, cs, cs', bs, bs', h, h2 => by
    rw [OTs] at h
    obtain ⟨vs, ct, b1, b2, rfl, rfl, h3, h4⟩ := h
    show OTs (x :: (l ++ m)) w _ _
    rw [OTs]
    exact ⟨vs, ct ++ cs', b1, b2 ++ bs', List.append_assoc .., List.append_assoc .., h3, OTs.app h4 h2⟩
theorem OTs.parts : ∀ {l m : List Rx} {w : World} {cs : List Value} {bs : List Nat}, OTs (l ++ m) w cs bs → ∃ c1 c2 b1 b2, cs = c1 ++ c2 ∧ bs = b1 ++ b2 ∧ OTs l w c1 b1 ∧ OTs m w c2 b2
  | [], m, w, cs, bs, h => ⟨[], cs, [], bs, rfl, rfl, OTs.nil w, h⟩
  | x :: l, m, w, cs, bs, h => by
    have h' : OTs (x :: (l ++ m)) w cs bs := h
    rw [OTs] at h'
    obtain ⟨vs, ct, b1, b2, rfl, rfl, h3, h4⟩ := h'
    obtain ⟨c1, c2, d1, d2, rfl, rfl, h5, h6⟩ := OTs.parts h4
    exact ⟨vs ++ c1, c2, b1 ++ d1, d2, (List.append_assoc ..).symm, (List.append_assoc ..).symm, by rw [OTs]; exact ⟨vs, c1, b1, d1, rfl, rfl, h3, h5⟩, h6⟩
theorem OTs.one' {x : Rx} {w : World} {cs : List Value} {bs : List Nat} (h : OTs [x] w cs bs) : OT x w cs bs := by
  rw [OTs] at h
  obtain ⟨vs, ct, b1, b2, rfl, rfl, h3, h4⟩ := h
  rw [OTs] at h4
  rw [h4.1, h4.2, List.append_nil, List.append_nil]; exact h3
structure Fr (w : World) (bs : List Nat) : Prop where
  nd : bs.Nodup
  ge : ∀ b, b ∈ bs → w.heap.size ≤ b
theorem Fr.nil (w : World) : Fr w [] := ⟨List.nodup_nil, fun b h => by cases h⟩
theorem Fr.app {w w1 : World} {b1 b2 : List Nat} (h1 : Fr w b1) (h2 : Fr w1 b2) (hw : w.heap.size ≤ w1.heap.size) (hl : ∀ b, b ∈ b1 → b < w1.heap.size) : Fr w (b1 ++ b2) where
  nd := List.nodup_append.2 ⟨h1.nd, h2.nd, fun a ha b hb e => by have := hl a ha; have := h2.ge b hb; omega⟩
  ge := fun b hb => by
    rcases List.mem_append.1 hb with hb | hb
    · exact h1.ge b hb
    · have := h2.ge b hb; omega
theorem Fr.older {w w1 : World} {bs : List Nat} (h : Fr w1 bs) (hw : w.heap.size ≤ w1.heap.size) : Fr w bs := ⟨h.nd, fun b hb => Nat.le_trans hw (h.ge b hb)⟩
def TOut (w w' : World) (v : Value) (x : Rx) : Prop := ∃ vs bs, v = .agg vs.toArray ∧ OT x w' vs bs ∧ Fr w bs
theorem ge_fr {w : World} {ob : Option Nat} (h : Ge w ob) : Fr w ob.toList := by
  cases ob with
  | none => exact Fr.nil w
  | some g => exact ⟨List.nodup_cons.2 ⟨by simp, List.nodup_nil⟩, fun b hb => by rw [List.mem_singleton.1 hb]; exact h g rfl⟩
theorem qM (k : Int) (w : World) : OT (rxK k) w [iv k, .int .i32 0, .slice none 0 0, iv 0, iv 0, .bool false, iv 0, .string ByteArray.empty, .slice none 0 0] [] := by
  unfold rxK
  rw [OT]
  exact ⟨none, 0, none, none, 0, none, [], [], rfl, OwnS.nil _ _ _, OwnS.nil _ _ _, OTs.nil w, rfl, by simp, by show (0 : Nat) ≤ 1000000; omega, by simp⟩
theorem ot_lit (c : Int) (w : World) : OT (lB c) w [iv 2, .int .i32 c, .slice none 0 0, iv 0, iv 0, .bool false, iv 0, .string ByteArray.empty, .slice none 0 0] [] := by
  unfold lB
  rw [OT]
  exact ⟨none, 0, none, none, 0, none, [], [], rfl, OwnS.nil _ _ _, OwnS.nil _ _ _, OTs.nil w, rfl, by simp, by show (0 : Nat) ≤ 1000000; omega, by simp⟩
theorem RW {l : List (Int × Int)} {w : World} {a : Option Addr} {n c : Nat} {ob : Option Nat} (h : OwnS w 56 2 a n c (eK l) ob) (hl : l.length ≤ 1000000) : OT (iT l) w [iv 3, .int .i32 0, .slice a n c, iv 0, iv 0, .bool false, iv 0, .string ByteArray.empty, .slice none 0 0] ob.toList := by
  obtain rfl := qL h
  unfold iT
  rw [OT]
  exact ⟨a, c, ob, none, 0, none, [], [], rfl, h, OwnS.nil _ _ _, OTs.nil w, by simp, hl, by show (0 : Nat) ≤ 1000000; omega, by simp⟩
theorem IE : oQ Tryz.prog 170 = some true := by kernel_rfl
theorem nO : iS Tryz.prog 170 = some 2 := by kernel_rfl
theorem qT : oB Tryz.prog 170 = some #[.int .i32 0, .int .i32 0] := by kernel_rfl
theorem DJ : oB Tryz.prog 171 = some #[.int .i32 0, .int .i32 0, .int .i32 0, .int .i32 0] := by kernel_rfl
def pT (j : Nat) : Int × Int := if j = 0 then (65, 32) else (97, -32)
theorem TI (j : Nat) : (pT j).1 = 65 ∧ (pT j).2 = 32 ∨ (pT j).1 = 97 ∧ (pT j).2 = -32 := by
  unfold pT
  split
  · exact .inl ⟨rfl, rfl⟩
  · exact .inr ⟨rfl, rfl⟩
def nC (h x : Int × Int) : List (Int × Int) := if max x.1 h.1 ≤ min x.2 (h.1 + 25) then [(max x.1 h.1 + h.2, min x.2 (h.1 + 25) + h.2)] else []
def pU (x : Int × Int) : Nat → List (Int × Int)
  | 0 => []
  | j + 1 => pU x j ++ nC (pT j) x
def pV (l : List (Int × Int)) : List (Int × Int) := l.flatMap fun x => pU x 2
theorem GM {h x : Int × Int} {c : Int} : InR c (nC h x) ↔ (h.1 + h.2 ≤ c ∧ c ≤ h.1 + 25 + h.2 ∧ x.1 ≤ c - h.2 ∧ c - h.2 ≤ x.2) := by
  unfold nC
  split
  · rw [jN]; show max x.1 h.1 + h.2 ≤ c ∧ c ≤ min x.2 (h.1 + 25) + h.2 ↔ _; omega
  · refine ⟨fun h => (jS c h).elim, fun h => ?_⟩
    omega
theorem zA {x : Int × Int} {c : Int} : InR c (pU x 2) ↔ (97 ≤ c ∧ c ≤ 122 ∧ x.1 ≤ c - 32 ∧ c - 32 ≤ x.2) ∨ (65 ≤ c ∧ c ≤ 90 ∧ x.1 ≤ c + 32 ∧ c + 32 ≤ x.2) := by
  show InR c ((([] : List (Int × Int)) ++ nC (65, 32) x) ++ nC (97, -32) x) ↔ _
  rw [List.nil_append, mX, GM, GM]
  show (65 + 32 ≤ c ∧ c ≤ 65 + 25 + 32 ∧ x.1 ≤ c - 32 ∧ c - 32 ≤ x.2) ∨ (97 + -32 ≤ c ∧ c ≤ 97 + 25 + -32 ∧ x.1 ≤ c - -32 ∧ c - -32 ≤ x.2) ↔ _
  omega
theorem foldL_in {l : List (Int × Int)} {c : Int} : InR c (l ++ pV l) ↔ nK (fun c => InR c l) c := by
  rw [mX]
  unfold nK pV
  constructor
  · rintro (h | ⟨g, hg, h⟩)
    · exact .inl h
    · obtain ⟨x, hx, hgx⟩ := List.mem_flatMap.1 hg
      have h2 := zA.1 ⟨g, hgx, h⟩
      rcases h2 with h2 | h2
      · exact .inr (.inl ⟨h2.1, h2.2.1, x, hx, h2.2.2⟩)
      · exact .inr (.inr ⟨h2.1, h2.2.1, x, hx, h2.2.2⟩)
  · rintro (h | ⟨h1, h2, x, hx, h3⟩ | ⟨h1, h2, x, hx, h3⟩)
    · exact .inl h
    · obtain ⟨g, hg, h4⟩ := zA.2 (.inl ⟨h1, h2, h3⟩)
      exact .inr ⟨g, List.mem_flatMap.2 ⟨x, hx, hg⟩, h4⟩
    · obtain ⟨g, hg, h4⟩ := zA.2 (.inr ⟨h1, h2, h3⟩)
      exact .inr ⟨g, List.mem_flatMap.2 ⟨x, hx, hg⟩, h4⟩
theorem GK {j : Nat} {x : Int × Int} : Vr (nC (pT j) x) := fun g hg => by
  have hc := TI j
  unfold nC at hg
  split at hg
  · rw [List.mem_singleton.1 hg]
    show 0 ≤ max x.1 (pT j).1 + (pT j).2 ∧ max x.1 (pT j).1 + (pT j).2 ≤ min x.2 ((pT j).1 + 25) + (pT j).2 ∧ _ ≤ (1114111 : Int)
    omega
  · cases hg
theorem TN {l : List (Int × Int)} : Vr (pV l) := fun g hg => by
  obtain ⟨x, hx, hgx⟩ := List.mem_flatMap.1 hg
  have hgx' : g ∈ (([] : List (Int × Int)) ++ nC (pT 0) x) ++ nC (pT 1) x := hgx
  rw [List.nil_append] at hgx'
  rcases List.mem_append.1 hgx' with h | h
  · exact GK g h
  · exact GK g h
theorem JU {l : List (Int × Int)} {k : Nat} (h : k < l.length) : pV (l.take (k + 1)) = pV (l.take k) ++ pU l[k] 2 := by
  unfold pV
  rw [List.take_add_one, List.getElem?_eq_getElem h, List.flatMap_append]; simp
theorem OV (h x : Int × Int) : (nC h x).length ≤ 1 := by unfold nC; split <;> simp
theorem BA (x : Int × Int) : ∀ j, (pU x j).length ≤ j
  | 0 => Nat.le_refl _
  | j + 1 => by rw [pU, List.length_append]; have := BA x j; have := OV (pT j) x; omega
structure FoG where
  k : Nat
  n : Nat
  sa : Option Addr
  sc : Nat
  so : Option Nat
structure FoI (w wr : World) (l o : List (Int × Int)) (a : Option Addr) (c : Nat) (ob : Option Nat) (x : FoG) (m : Nat) : Prop where
  hk : x.k ≤ m
  cl : OwnS wr 56 2 a l.length c (eK l) ob
  own : OwnS wr 56 2 x.sa x.n x.sc (eK o) x.so
  ge : Ge w x.so
  ap : Apart ob x.so
structure FiG where
  j : Nat
  n2 : Nat
  sa2 : Option Addr
  sc2 : Nat
  so2 : Option Nat
structure FiI (w wr : World) (l o : List (Int × Int)) (a : Option Addr) (c : Nat) (ob : Option Nat) (q : Nat) (g : Int × Int) (x : FiG) : Prop where
  hj : x.j ≤ 2
  cl : OwnS wr 56 2 a l.length c (eK l) ob
  own : OwnS wr 56 2 x.sa2 x.n2 x.sc2 (eK o) x.so2
  ge : Ge w x.so2
  ap : Apart ob x.so2
  b5 : wr.heap[q]? = some (.cells #[.int .i32 g.1, .int .i32 g.2] 56 (0, 0))
  s5 : Ge w (some q)
  ap5 : Apart (some q) x.so2
theorem BB {h x : Int × Int} (hc : max x.1 h.1 ≤ min x.2 (h.1 + 25)) : nC h x = [(max x.1 h.1 + h.2, min x.2 (h.1 + 25) + h.2)] := by unfold nC; rw [if_pos hc]
theorem GL {h x : Int × Int} (hc : ¬ max x.1 h.1 ≤ min x.2 (h.1 + 25)) : nC h x = [] := by unfold nC; rw [if_neg hc]
theorem yR {a b : Int} : (if b < a then b else a) = min a b := by omega
theorem IK {l m : List (Int × Int)} (h : Vr l) (h2 : Vr m) : Vr (l ++ m) := fun g hg => (List.mem_append.1 hg).elim (h g) (h2 g)
theorem sO : ∀ l : List (Int × Int), (pV l).length ≤ 2 * l.length
  | [] => Nat.le_refl _
  | x :: l => by
    have h1 : pV (x :: l) = pU x 2 ++ pV l := List.flatMap_cons
    rw [h1, List.length_append, List.length_cons]; have := sO l; have := BA x 2; omega
theorem RsOut.evo {w w' : World} {v : Value} {S : Int → Prop} {n : Nat} (h : RsOut w w' v S n) : Evo [] w w' := by obtain ⟨_, _, _, _, _, _, _, _, _, h⟩ := h; exact h
theorem GJ {S T : Int → Prop} (h : ∀ c, S c ↔ T c) (c : Int) : nK S c ↔ nK T c := by unfold nK; rw [h, h, h]
theorem OH {j : Nat} (hj : j < 2) (w : World) : (part 170 #[.int .i32 65, .int .i32 32, .int .i32 97, .int .i32 (-32)] (j * 2)).run Tryz.prog w = .ok (.agg #[.int .i32 (pT j).1, .int .i32 (pT j).2]) w := by
  rw [OA w IE nO]
  match j, hj with
  | 0, _ => rfl
  | 1, _ => rfl
theorem AZ {w : World} {a : Option Addr} {c : Nat} {l : List (Int × Int)} {ob : Option Nat} (hO : OwnS w 56 2 a l.length c (eK l) ob) (hv : Vr l) (hl : l.length ≤ 300000) {S : Int → Prop} (hS : ∀ c, InR c l ↔ S c) :
    Calls Tryz.prog 130 #[.slice a l.length c] w (Ret fun v w' => RsOut w w' v (nK S) (3 * l.length)) := by
  refine bL (N := 54) Tryz.func130 rfl rfl rfl ?_; refine aE (aB (aN (aC (aA (aE (aB (aH ?_))))))); refine aP (vs := [_]) uW rfl (BF hO (by omega)) rfl ?_; rintro _ w1 ⟨a1, c1, ob1, rfl, hO1, hg1, hw2⟩; have hA3 := Apart.fresh (Lt.own hO) hg1; have hE5 := (Evo.refl [] w).then hw2; have hO6 := hO.evo0 hw2; refine aN (aC (aA (aE (aE (aB (aH (aF (bK rfl Tryz.underlying24 rfl) ?_))))))); refine aH (aC (aA (bS ?_)))
  refine fC (α := FoG) (⟨0, l.length, a1, c1, ob1⟩) (fun x => [(3, .slice x.sa x.n x.sc), (14, .int .i64 (x.k : Nat))]) [(2, _), (12, _), (13, _)] (fun x wr => Evo [] w wr ∧ (FoI w wr l (l ++ pV (l.take x.k)) a c ob x l.length ∧ x.n ≤ l.length + 2 * x.k)) (fun x => l.length - x.k) ⟨rfl, rfl, trivial⟩ ⟨rfl, rfl, rfl, trivial⟩ ⟨hE5, ⟨⟨Nat.zero_le _, hO6, by simp [pV]; exact hO1, hg1, hA3⟩, Nat.le_refl _⟩⟩ ?_
  rintro ⟨k, n, sa, sc, so⟩ wr7 ⟨hV8, ⟨⟨hk, hcl, hown, hge, hap⟩, hnl⟩⟩; show CW _ _ _ _ [(3, .slice sa n sc), (14, .int .i64 (k : Nat)), (2, _), (12, _), (13, _)] _
  try dsimp only at hk
  try dsimp only at hcl
  try dsimp only at hown
  try dsimp only at hge
  try dsimp only at hap
  try dsimp only at hnl
  have hE9 := Evo.refl ([]) wr7; refine aE (aB (aF (dF rfl rfl) ?_)); refine aC (aA (aE (bG rfl (fun hc15 => ?_) (fun hc15 => ?_))))
  ·have hk' : k < l.length := by omega
   have hlk := hv _ (List.getElem_mem hk'); obtain ⟨g1, hg1', ha1, hc1⟩ := pQ hcl hk'; refine aX (aA (aE (bS (aE (aB ?_))))); refine aF (fM (n := k) rfl rfl ha1 dZ (by omega)) ?_; refine aF (eN rfl kE gK (vs := [_, _]) rfl (hc1.evo hE9 (by simp))) ?_; refine dH rfl nE fun b5 w10 hB11 hs12 hw13 => ?_; have hsz_b5 := hs12; have hA14 := Apart.new (Lt.own hown) hs12; have hA15 := Apart.new (Lt.own hcl) hs12; have hG16 := Ge.new hV8 hs12; have hE18 := hV8.then hw13; have hO20 := hown.evo0 hw13; have hO21 := hcl.evo0 hw13; refine bN rfl rfl gK hB11 rfl rfl ⟨rfl, rfl, trivial⟩ fun w22 hB23 hw24 => ?_; have hE25 := hE18.step hw24 hG16.mem1; have hO27 := hO20.evo hw24 hA14.own1; have hO28 := hO21.evo hw24 hA15.own1
   try simp only [cV, Nat.reduceAdd] at hB23
   refine aC (aA (aE (aB ?_))); refine aF (sQ (vs := [(0, _), (1, _)]) Tryz.underlying170 qT iQ rfl (cells := #[.int .i32 65, .int .i32 32]) (by kernel_rfl)) ?_; refine aF (sQ (vs := [(0, _), (1, _)]) Tryz.underlying170 qT iQ rfl (cells := #[.int .i32 97, .int .i32 (-32)]) (by kernel_rfl)) ?_; refine aF (sQ (vs := [(0, _), (1, _)]) Tryz.underlying171 DJ nO rfl (cells := #[.int .i32 65, .int .i32 32, .int .i32 97, .int .i32 (-32)]) (by kernel_rfl)) ?_; refine aH (aC (aA (bS ?_)))
   refine fC (α := FiG) (⟨0, n, sa, sc, so⟩) (fun x => [(3, .slice x.sa2 x.n2 x.sc2), (21, .int .i64 (x.j : Nat))]) [(2, _), (5, _), (12, _), (13, _), (14, _), (20, _)] (fun x wr => Evo [] w wr ∧ (FiI w wr l (l ++ pV (l.take k) ++ pU l[k] x.j) a c ob b5 l[k] x ∧ x.n2 ≤ n + x.j)) (fun x => 2 - x.j) ⟨rfl, rfl, trivial⟩ ⟨rfl, rfl, rfl, rfl, rfl, rfl, trivial⟩ ⟨hE25, ⟨⟨Nat.zero_le _, hO28, by simp [pU]; exact hO27, hge, hap, hB23, hG16, hA14.symm⟩, Nat.le_refl _⟩⟩ ?_
   rintro ⟨j, n2, sa2, sc2, so2⟩ wr29 ⟨hV30, ⟨⟨hj, hcl2, hown2, hge2, hap2, hb52, hs52, hap5⟩, hnl2⟩⟩; show CW _ _ _ _ [(3, .slice sa2 n2 sc2), (21, .int .i64 (j : Nat)), (2, _), (5, _), (12, _), (13, _), (14, _), (20, _)] _
   try dsimp only at hj
   try dsimp only at hcl2
   try dsimp only at hown2
   try dsimp only at hge2
   try dsimp only at hap2
   try dsimp only at hb52
   try dsimp only at hs52
   try dsimp only at hap5
   try dsimp only at hnl2
   refine aE (aB (aF (dF rfl rfl) ?_)); refine aC (aA (aE (bG rfl (fun hc22 => ?_) (fun hc22 => ?_))))
   ·have hj' : j < 2 := by omega
    have hhc := TI j; refine aX (aA (aE (bS (aE (aB ?_))))); refine aF (NA (n := j) rfl rfl Tryz.underlying171 rfl (by omega) nO (OH hj')) ?_; refine dH rfl qT fun b7 w31 hB32 hs33 hw34 => ?_; have hsz_b7 := hs33; have hA35 := Apart.new (Lt.own hown2) hs33; have hA36 := Apart.new (Lt.own hcl2) hs33; have hA37 := Apart.new (Lt.blk hb52) hs33; have hG38 := Ge.new hV30 hs33; have hE39 := hV30.then hw34; have hO40 := hown2.evo0 hw34; have hO41 := hcl2.evo0 hw34; have hB42 := hw34.blk0 hb52; refine bN rfl rfl nO hB32 rfl rfl ⟨rfl, rfl, trivial⟩ fun w43 hB44 hw45 => ?_; have hE46 := hE39.step hw45 hG38.mem1; have hO47 := hO40.evo hw45 hA35.own1; have hO48 := hO41.evo hw45 hA36.own1; have hB49 := hw45.blk hB42 hA37.nmem1
    try simp only [cV, Nat.reduceAdd] at hB44
    refine aC (aA (aE ?_)); refine iM (fun w0 w' => Evo [] w0 w') (by kernel_rfl) (fun w50 hw51 => ?_); have hE52 := hE46.then hw51; have hO53 := hO47.evo0 hw51; have hO54 := hO48.evo0 hw51; have hB55 := hw51.blk0 hB49; have hB56 := hw51.blk0 hB44; refine aet 0 rfl (fun _ hS => aD rfl fS) (Evo.refl [] w50) ?_; refine aet 1 rfl (fun _ hS => aI rfl bZ (aJ (hS.blk0 hB55) rfl)) (Evo.refl [] w50) ?_; refine aet 2 rfl (fun _ hS => kB (n := 0) rfl rfl Tryz.underlying170 rfl (by omega) iQ) (Evo.refl [] w50) ?_; refine aet 3 rfl (fun _ hS => aI rfl bZ (aJ (hS.blk0 hB56) rfl)) (Evo.refl [] w50) ?_; refine aet 5 rfl (fun _ hS => aD rfl eM) (Evo.refl [] w50) ?_; refine aet 6 rfl (fun _ hS => aI rfl bZ (aJ (hS.blk0 hB55) rfl)) (Evo.refl [] w50) ?_; refine aet 7 rfl (fun _ hS => kB (n := 0) rfl rfl Tryz.underlying170 rfl (by omega) iQ) (Evo.refl [] w50) ?_; refine aet 8 rfl (fun _ hS => aI rfl bZ (aJ (hS.blk0 hB56) rfl)) (Evo.refl [] w50) ?_; refine aet 9 rfl (fun _ hS => jJ rfl rfl (by omega) (by omega)) (Evo.refl [] w50) ?_; refine cK [4, 10] (by kernel_rfl) rfl ⟨?_, ?_, trivial⟩
    ·refine cP rfl ?_; refine aF (zE rfl rfl) ?_; refine aC (cC (.inl (Evo.refl [] w50)) ?_); refine aet 11 rfl (fun _ hS => eV rfl) (Evo.refl [] w50) ?_; refine cK [10] (by kernel_rfl) rfl ⟨?_, trivial⟩; refine cP rfl ?_; refine aF (CS rfl rfl) ?_; refine aC (cC (.inl (Evo.refl [] w50)) ?_); refine aet 12 rfl (fun _ hS => eV rfl) (Evo.refl [] w50) ?_; refine eQ (by kernel_rfl) (aA ?_); refine aE (aB (aH (aH (aF (fP rfl rfl) ?_)))); refine aC (aA (bG rfl (fun hc37 => ?_) (fun hc37 => ?_)))
     ·refine aB (aH (aH ?_)); refine aF (kB (n := 1) rfl rfl Tryz.underlying170 rfl (by omega) iQ) ?_; refine aF (aI rfl bZ (aJ hB56 rfl)) ?_; refine aF (jJ rfl rfl (by omega) (by omega)) ?_; refine aH ?_; refine aF (kB (n := 1) rfl rfl Tryz.underlying170 rfl (by omega) iQ) ?_; refine aF (aI rfl bZ (aJ hB56 rfl)) ?_; refine aF (jJ rfl rfl (by omega) (by omega)) ?_; refine aF (eX (vs := [(0, _), (1, _)]) mI rfl (cells := [_, _]) rfl) ?_; refine bP (vs := [_]) rfl jF rfl rfl rfl rfl fun b57 w58 hO59 hs60 hw61 => ?_; have hE67 := hE52.then hw61; have hO68 := hO53.evo0 hw61; have hO69 := hO54.evo0 hw61; have hB70 := hw61.blk0 hB55; refine dT rfl rfl rfl rfl gW hO68 (Src.ofOwn hO59 ⟨rfl, rfl, trivial⟩) (by omega) fun a2 c2 w74 ob2 hO3 hw77 hob78 => ?_; have hA79 := hap2.app (Lt.own hO69) hob78; have hA80 := hap5.app (Lt.blk hB70) hob78; have hG83 := hge2.app hE67 hob78; have hE84 := hE67.step hw77 hge2.mem; have hO85 := hO69.evo hw77 hap2.own; have hB86 := hw77.blk hB70 hap5.nmem; refine aN (aC (aZ (aA (aB ?_)))); refine aF (bE rfl rfl (by omega) (by omega)) ?_; refine aH (aC (bM ?_)); refine ⟨⟨j + 1, n2 + 1, a2, c2, ob2⟩, ?_, ⟨rfl, rfl, trivial⟩, ⟨rfl, rfl, rfl, rfl, rfl, rfl, trivial⟩, hE84, ?_⟩
      · (try dsimp only); omega
      try dsimp only
      refine ⟨⟨hj', hO85, ?_, hG83, hA79, hB86, hs52, hA80⟩, (by show n2 + 1 ≤ n + (j + 1); omega)⟩
      simp only [yS, yR] at hc37; rw [pU, ← List.append_assoc, kR _ (nC (pT j) l[k]), BB hc37]; have hO9 := hO3; simp only [yS, yR] at hO9; exact hO9
     refine aX (aZ (aA (aB ?_))); refine aF (bE rfl rfl (by omega) (by omega)) ?_; refine aH (aC (bM ?_)); refine ⟨⟨j + 1, n2, sa2, sc2, so2⟩, ?_, ⟨rfl, rfl, trivial⟩, ⟨rfl, rfl, rfl, rfl, rfl, rfl, trivial⟩, hE52, ?_⟩
     · (try dsimp only); omega
     try dsimp only
     simp only [yS, yR] at hc37
     refine ⟨⟨hj', hO54, ?_, hge2, hap2, hB55, hs52, hap5⟩, (by show n2 ≤ n + (j + 1); omega)⟩
     rw [pU, GL hc37, List.append_nil]; exact hO53
    refine cP rfl ?_; refine aF (CS rfl rfl) ?_; refine aC (cC (.inl (Evo.refl [] w50)) ?_); refine cK [4] (by kernel_rfl) rfl ⟨?_, trivial⟩; refine cP rfl ?_; refine aF (zE rfl rfl) ?_; refine aC (cC (.inl (Evo.refl [] w50)) ?_); refine aet 11 rfl (fun _ hS => eV rfl) (Evo.refl [] w50) ?_; refine aet 12 rfl (fun _ hS => eV rfl) (Evo.refl [] w50) ?_; refine eQ (by kernel_rfl) (aA ?_); refine aE (aB (aH (aH (aF (fP rfl rfl) ?_)))); refine aC (aA (bG rfl (fun hc37 => ?_) (fun hc37 => ?_)))
    ·refine aB (aH (aH ?_)); refine aF (kB (n := 1) rfl rfl Tryz.underlying170 rfl (by omega) iQ) ?_; refine aF (aI rfl bZ (aJ hB56 rfl)) ?_; refine aF (jJ rfl rfl (by omega) (by omega)) ?_; refine aH ?_; refine aF (kB (n := 1) rfl rfl Tryz.underlying170 rfl (by omega) iQ) ?_; refine aF (aI rfl bZ (aJ hB56 rfl)) ?_; refine aF (jJ rfl rfl (by omega) (by omega)) ?_; refine aF (eX (vs := [(0, _), (1, _)]) mI rfl (cells := [_, _]) rfl) ?_; refine bP (vs := [_]) rfl jF rfl rfl rfl rfl fun b89 w90 hO91 hs92 hw93 => ?_; have hE99 := hE52.then hw93; have hO100 := hO53.evo0 hw93; have hO101 := hO54.evo0 hw93; have hB102 := hw93.blk0 hB55; refine dT rfl rfl rfl rfl gW hO100 (Src.ofOwn hO91 ⟨rfl, rfl, trivial⟩) (by omega) fun a2 c2 w106 ob2 hO3 hw109 hob110 => ?_; have hA111 := hap2.app (Lt.own hO101) hob110; have hA112 := hap5.app (Lt.blk hB102) hob110; have hG115 := hge2.app hE99 hob110; have hE116 := hE99.step hw109 hge2.mem; have hO117 := hO101.evo hw109 hap2.own; have hB118 := hw109.blk hB102 hap5.nmem; refine aN (aC (aZ (aA (aB ?_)))); refine aF (bE rfl rfl (by omega) (by omega)) ?_; refine aH (aC (bM ?_)); refine ⟨⟨j + 1, n2 + 1, a2, c2, ob2⟩, ?_, ⟨rfl, rfl, trivial⟩, ⟨rfl, rfl, rfl, rfl, rfl, rfl, trivial⟩, hE116, ?_⟩
     · (try dsimp only); omega
     try dsimp only
     refine ⟨⟨hj', hO117, ?_, hG115, hA111, hB118, hs52, hA112⟩, (by show n2 + 1 ≤ n + (j + 1); omega)⟩
     simp only [yS, yR] at hc37; rw [pU, ← List.append_assoc, kR _ (nC (pT j) l[k]), BB hc37]; have hO9 := hO3; simp only [yS, yR] at hO9; exact hO9
    refine aX (aZ (aA (aB ?_))); refine aF (bE rfl rfl (by omega) (by omega)) ?_; refine aH (aC (bM ?_)); refine ⟨⟨j + 1, n2, sa2, sc2, so2⟩, ?_, ⟨rfl, rfl, trivial⟩, ⟨rfl, rfl, rfl, rfl, rfl, rfl, trivial⟩, hE52, ?_⟩
    · (try dsimp only); omega
    try dsimp only
    simp only [yS, yR] at hc37
    refine ⟨⟨hj', hO54, ?_, hge2, hap2, hB55, hs52, hap5⟩, (by show n2 ≤ n + (j + 1); omega)⟩
    rw [pU, GL hc37, List.append_nil]; exact hO53
   refine dW (cJ (cJ (dV (aZ (aA ?_))))); refine aB ?_; refine aF (bE rfl rfl (by omega) (by omega)) ?_; refine aH (aC (bM ?_)); refine ⟨⟨k + 1, n2, sa2, sc2, so2⟩, ?_, ⟨rfl, rfl, trivial⟩, ⟨rfl, rfl, rfl, trivial⟩, hV30, ?_⟩
   · (try dsimp only); omega
   try dsimp only
   obtain rfl : j = 2 := by omega
   refine ⟨⟨hk', hcl2, ?_, hge2, hap2⟩, (by show n2 ≤ l.length + 2 * (k + 1); omega)⟩
   rw [JU hk', ← List.append_assoc]; exact hown2
  rw [List.take_of_length_le (show l.length ≤ k by omega)] at hown; have hfl := sO l; have hn9 := qL hown; subst hn9; have hV9 := hV8; refine dW (cJ (cJ (dV (aA ?_)))); refine aE (aB (aH ?_))
  refine aP (vs := [_]) qV rfl (vO hown (IK hv TN) (by rw [List.length_append]; omega) (fun c => foldL_in.trans (GJ hS c))) rfl ?_
  rintro rv w121 hR; have hw122 := hR.evo; have hE123 := hV8.then hw122; refine aN (aC (aA (aO (br1 ?_)))); obtain ⟨a9, c9, ob9, rfl, hO9, hg9, hl9, hcan9, heq9, hev9⟩ := hR
  exact ⟨a9, c9, ob9, rfl, hO9, Ge.fresh hV9 hg9, by rw [List.length_append] at hl9; have := sO l; omega, hcan9, heq9, hE123⟩
theorem eE : Build Tryz.prog 27 #[(0, 1), (1, 1), (2, 1), (3, 1), (4, 1), (5, 1), (6, 1), (7, 1), (8, 1)] #[.int .i64 0, .int .i32 0, .slice none 0 0, .int .i64 0, .int .i64 0, .bool false, .int .i64 0, .string ByteArray.empty, .slice none 0 0] := ⟨_, .agg #[.int .i64 0, .int .i32 0, .slice none 0 0, .int .i64 0, .int .i64 0, .bool false, .int .i64 0, .string ByteArray.empty, .slice none 0 0], Tryz.underlying27, by kernel_rfl, rfl, fun w => by kernel_rfl⟩
theorem cF : fA Tryz.prog 114 := ⟨_, Tryz.func114, by kernel_rfl, by kernel_rfl⟩
theorem lA : fA Tryz.prog 131 := ⟨_, Tryz.func131, by kernel_rfl, by kernel_rfl⟩
theorem cE : tF Tryz.prog 67 = some (21, 1) := by kernel_rfl
def zT (w w' : World) (v : Value) (S : Int → Prop) (n : Nat) : Prop := ∃ a c ob l, v = .slice a l.length c ∧ OwnS w' 56 2 a l.length c (eK l) ob ∧ Ge w ob ∧ Vr l ∧ (∀ c, InR c l ↔ S c) ∧ l.length ≤ n
theorem RsOut.set {X : List Nat} {w0 w w' : World} {v : Value} {S : Int → Prop} {n : Nat} (h : RsOut w w' v S n) (he : Evo X w0 w) : zT w0 w' v S n := by
  obtain ⟨a, c, ob, h1, h2, h3, h4, h5, h6, -⟩ := h
  exact ⟨a, c, ob, jT S, h1, h2, Ge.fresh he h3, vV h5, h6, h4⟩
theorem uG {S : Int → Prop} {m : List (Int × Int)} (e : jT S = m) (h1 : m.length = 1) (h2 : (m[0]'(by omega)).1 = (m[0]'(by omega)).2) : kF S = lB (m[0]'(by omega)).1 := by
  obtain ⟨⟨a, b⟩, rfl⟩ := List.length_eq_one_iff.1 h1
  have h2' : a = b := h2
  unfold kF
  rw [e]
  show (if a = b then lB a else iT [(a, b)]) = _
  rw [if_pos h2']; rfl
theorem nA {S : Int → Prop} {m : List (Int × Int)} (e : jT S = m) (h : ∀ h1 : m.length = 1, ¬ (m[0]'(by omega)).1 = (m[0]'(by omega)).2) : kF S = iT m := by
  unfold kF
  rw [e]
  match m, h with
  | [], h => rfl
  | [(a, b)], h =>
    have h2 : ¬ a = b := h rfl
    show (if a = b then lB a else iT [(a, b)]) = _
    rw [if_neg h2]
  | a :: b :: l, h => rfl
theorem or_c : ∀ c : Nat, c < 256 → ((c ||| 32 = 100 → c = 68 ∨ c = 100) ∧ (c ||| 32 = 115 → c = 83 ∨ c = 115) ∧ (c ||| 32 = 119 → c = 87 ∨ c = 119)) ∧ (c ||| 32 ≠ 100 → c ≠ 68 ∧ c ≠ 100) ∧ (c ||| 32 ≠ 115 → c ≠ 83 ∧ c ≠ 115) ∧ (c ||| 32 ≠ 119 → c ≠ 87 ∧ c ≠ 119) := by
  have h : ∀ c : Fin 256, ((c.1 ||| 32 = 100 → c.1 = 68 ∨ c.1 = 100) ∧ (c.1 ||| 32 = 115 → c.1 = 83 ∨ c.1 = 115) ∧ (c.1 ||| 32 = 119 → c.1 = 87 ∨ c.1 = 119)) ∧ (c.1 ||| 32 ≠ 100 → c.1 ≠ 68 ∧ c.1 ≠ 100) ∧ (c.1 ||| 32 ≠ 115 → c.1 ≠ 83 ∧ c.1 ≠ 115) ∧ (c.1 ||| 32 ≠ 119 → c.1 ≠ 87 ∧ c.1 ≠ 119) := by decide +kernel
  exact fun c hc => h ⟨c, hc⟩
theorem jA {l : List (Int × Int)} (h : l.all (fun g => decide (0 ≤ g.1) && decide (g.1 ≤ g.2) && decide (g.2 ≤ 1114111)) = true) : Vr l := fun g hg => by
  have := List.all_eq_true.1 h g hg
  simp only [Bool.and_eq_true, decide_eq_true_eq] at this
  exact ⟨this.1.1, this.1.2, this.2⟩
theorem vP {c : Nat} (h : c ≠ 100 ∧ c ≠ 115 ∧ c ≠ 119 ∧ c ≠ 68 ∧ c ≠ 83 ∧ c ≠ 87) : rM c = none := by
  unfold rM; rw [if_neg h.1, if_neg h.2.1, if_neg h.2.2.1, if_neg h.2.2.2.1, if_neg h.2.2.2.2.1, if_neg h.2.2.2.2.2]
def LetOut (w w' : World) (v : Value) (o : Option (Int → Prop)) : Prop := (o = none ∧ v = .tuple #[.slice none 0 0, .bool false]) ∨ ∃ S v', o = some S ∧ v = .tuple #[v', .bool true] ∧ zT w w' v' S 8
theorem nN {w : World} {a : Option Addr} {c : Nat} {l : List (Int × Int)} {ob : Option Nat} (hO : OwnS w 56 2 a l.length c (eK l) ob) (hv : Vr l) (hl : l.length ≤ 1000000) {S : Int → Prop} (hS : ∀ c, InR c l ↔ S c) :
    Calls Tryz.prog 113 #[.slice a l.length c] w (Ret fun v w' => TOut w w' v (kF S) ∧ Evo [] w w') := by
  refine bL (N := 26) Tryz.func113 rfl rfl rfl ?_; refine aE (aB (dH rfl eI fun b2 w1 hB2 hs3 hw4 => ?_)); have hsz_b2 := hs3; have hG5 := Ge.new (Evo.refl [] w) hs3; have hE6 := (Evo.refl [] w).then hw4; refine aC (aA (aE (aB (aH (aP (vs := [_]) qV rfl (vO (hO.evo0 hE6) hv hl hS) rfl ?_))))); rintro _ w7 ⟨a1, c1, ob1, rfl, hO1, hg1, hml, hcan, heqS, hw8⟩; have hA9 := Apart.fresh (Lt.blk hB2) hg1; have hG10 := Ge.fresh hE6 hg1; have hE11 := hE6.then hw8; have hB12 := hw8.blk0 hB2
  generalize hm : jT S = m at *
  refine aN (aC (aA (aE (aE ?_)))); refine fJ (by kernel_rfl) (by kernel_rfl) ?_; refine bJ (fun _ hq14 => bH rfl) ?_; refine bJ (fun _ hq14 => bK rfl Tryz.underlying24 rfl) ?_; refine bJ (fun _ hq14 => bC rfl rfl) ?_; refine bJ (fun _ hq14 => bH rfl) ?_; refine jO (t := 8) rfl (fun hs8 => ?_) (fun hs8 => ?_)
  ·have hm1 : m.length = 1 := by omega
   obtain ⟨g1, hg1', ha1, hc1⟩ := pQ hO1 (i := 0) (by omega); refine qlg ?_; refine bJ (fun _ hq14 => bH rfl) ?_; refine qlg ?_; refine bJ (fun _ hq14 => fM (n := 0) rfl rfl ha1 dZ (by omega)) ?_; refine qlg ?_; refine bJ (fun _ hq14 => aD rfl fS) ?_; refine qlg ?_; refine bJ (fun _ hq14 => aI rfl bZ ((((Evo.refl ([]) w7).then hq14)).cell (hc1 0 _ rfl) (by simp))) ?_; refine qlg ?_; refine bJ (fun _ hq14 => bH rfl) ?_; refine qlg ?_; refine bJ (fun _ hq14 => fM (n := 0) rfl rfl ha1 dZ (by omega)) ?_; refine qlg ?_; refine bJ (fun _ hq14 => aD rfl eM) ?_; refine qlg ?_; refine bJ (fun _ hq14 => aI rfl bZ ((((Evo.refl ([]) w7).then hq14)).cell (hc1 1 _ rfl) (by simp))) ?_; refine qlg ?_; refine bJ (fun _ hq14 => bC rfl rfl) ?_; refine bJ (fun _ hq14 => eG rfl rfl) ?_; refine fO (fun wq13 hq14 => aA ?_); have hE15 := hE11.then hq14; have hE16 := (Evo.refl ([]) w7).then hq14; have hB17 := hq14.blk0 hB12; have hO18 := hO1.evo0 hq14; refine bG rfl (fun hc18 => ?_) (fun hc18 => ?_)
   ·refine aE (aB (aH ?_)); refine aF (fM (n := 0) rfl rfl ha1 dZ (by omega)) ?_; refine aF (aD rfl fS) ?_; refine aF (aI rfl bZ ((hE16).cell (hc1 0 _ rfl) (by simp))) ?_; refine aF (eX (vs := [(0, _), (1, _)]) eE rfl (cells := [_, _, _, _, _, _, _, _, _]) rfl) ?_; refine bN rfl rfl bD hB17 rfl rfl ⟨rfl, rfl, rfl, rfl, rfl, rfl, rfl, rfl, rfl, trivial⟩ fun w19 hB20 hw21 => ?_; have hE22 := hE15.step hw21 hG5.mem1
    try simp only [cV, Nat.reduceAdd] at hB20
    refine aC (aA (aO (aM (dG rfl (ResOk.cellA rfl bR bD hB20 rfl) ?_)))); refine ⟨?_, hE22⟩; rw [uG hm hm1 (by simpa using hc18)]; exact ⟨_, [], rfl, ot_lit _ _, Fr.nil _⟩
   refine aX (aA (aE (aB (aH (aF (eX (vs := [(0, _), (2, _)]) eE rfl (cells := [_, _, _, _, _, _, _, _, _]) rfl) ?_))))); refine bN rfl rfl bD hB17 rfl rfl ⟨rfl, rfl, rfl, rfl, rfl, rfl, rfl, rfl, rfl, trivial⟩ fun w25 hB26 hw27 => ?_; have hE28 := hE15.step hw27 hG5.mem1; have hO30 := hO18.evo hw27 hA9.symm.own1
   try simp only [cV, Nat.reduceAdd] at hB26
   refine aC (aA (aO (dG rfl (ResOk.cellA rfl bR bD hB26 rfl) ?_))); refine ⟨?_, hE28⟩; rw [nA hm (fun h1 => by simpa using hc18)]; exact ⟨_, _, rfl, RW hO30 (by omega), ge_fr hG10⟩
  refine qln ?_; refine qln ?_; refine qln ?_; refine qln ?_; refine qln ?_; refine qln ?_; refine qln ?_; refine qln ?_; refine qln ?_; refine bJ (fun _ hq14 => fQ rfl rfl) ?_; refine fO (fun wq13 hq14 => aA ?_); have hE31 := hE11.then hq14; have hB33 := hq14.blk0 hB12; have hO34 := hO1.evo0 hq14; refine cN rfl ?_; refine aX (aA (aE (aB (aH (aF (eX (vs := [(0, _), (2, _)]) eE rfl (cells := [_, _, _, _, _, _, _, _, _]) rfl) ?_))))); refine bN rfl rfl bD hB33 rfl rfl ⟨rfl, rfl, rfl, rfl, rfl, rfl, rfl, rfl, rfl, trivial⟩ fun w35 hB36 hw37 => ?_; have hE38 := hE31.step hw37 hG5.mem1; have hO40 := hO34.evo hw37 hA9.symm.own1
  try simp only [cV, Nat.reduceAdd] at hB36
  refine aC (aA (aO (dG rfl (ResOk.cellA rfl bR bD hB36 rfl) ?_))); refine ⟨?_, hE38⟩; rw [nA hm (fun h1 => by omega)]; exact ⟨_, _, rfl, RW hO40 (by omega), ge_fr hG10⟩
theorem sF {w w' : World} {v : Value} {S : Int → Prop} {n m : Nat} (h : zT w w' v S n) (hm : n ≤ m) : zT w w' v S m := by
  obtain ⟨a, c, ob, l, h1, h2, h3, h4, h5, h6⟩ := h
  exact ⟨a, c, ob, l, h1, h2, h3, h4, h5, Nat.le_trans h6 hm⟩
theorem qO {w : World} (c : Nat) (hc : c < 256) :
    Calls Tryz.prog 133 #[.int .u8 (c : Nat)] w (Ret fun v w' => LetOut w w' v (rM c) ∧ Evo [] w w') := by
  have hor := or_c c hc; refine bL (N := 31) Tryz.func133 rfl rfl rfl ?_; refine aE (aB (aN (aN (aC (aA (aE (aB (aN (aC (aA (aE (aE (aB (aH ?_)))))))))))))); refine aF (jH (m := c) (n := 32) rfl rfl rfl rfl rfl hc (by decide)) ?_; refine aC (aA (bS (aE (aB (aF (bC rfl rfl) ?_))))); refine aN (aC (aA (bG rfl (fun hc7 => ?_) (fun hc7 => ?_))))
  ·have hcs := hor.1.1 (by omega); refine aB (bP (vs := [_, _]) rfl cE rfl rfl rfl rfl fun b1 w2 hO3 hs4 hw5 => ?_); have hE7 := (Evo.refl [] w).then hw5; refine aP (vs := [_]) cF rfl (dX (es := [48, 57]) hO3 (by decide)) rfl ?_; rintro _ w8 ⟨a1, c1, ob1, rfl, hO1, hg1, hw9⟩; have hG11 := Ge.fresh hE7 hg1; have hE12 := hE7.then hw9; refine aN (aC (aZ (aA (aE (aE (aB (aH (aC (aA (bS (aE (aE (aB (aF (bC rfl rfl) ?_)))))))))))))); refine aN (aC (aA (bG rfl (fun hc20 => ?_) (fun hc20 => ?_))))
   ·refine aX (aA (bG rfl (fun hc20 => ?_) (fun hc20 => ?_)))
    ·refine aB (aH ?_); refine aP (vs := [_]) lA rfl (mR (l := [(48, 57)]) hO1 (jA (by kernel_rfl)) (by decide) (fun c => Iff.rfl)) rfl ?_; rintro rv w14 hR; have hV9 := hE12; have hw15 := hR.evo; have hE16 := hE12.then hw15; refine aN (aC (aZ (aA (aE (aB (aH (aN (aN (aC (aA (aO (dE rfl rfl rfl ?_))))))))))))
     obtain rfl : c = 68 := by omega
     exact ⟨.inr ⟨_, _, rfl, rfl, sF (hR.set hV9) (by decide)⟩, hE16⟩
    exfalso; omega
   refine aE (aB (aF (bC rfl rfl) ?_)); refine aN (aC (aA (bG rfl (fun hc20 => ?_) (fun hc20 => ?_))))
   ·exfalso; omega
   refine aB (aF (bC rfl rfl) ?_); refine aN (aC (aA (bG rfl (fun hc20 => ?_) (fun hc20 => ?_))))
   ·exfalso; omega
   refine aE (aE (aB (aF (bC rfl rfl) ?_))); refine aN (aC (aA (bG rfl (fun hc26 => ?_) (fun hc26 => ?_))))
   ·refine aX (aA (bG rfl (fun hc26 => ?_) (fun hc26 => ?_)))
    ·refine aX (aZ (aA (aE (aB (aH (aN (aN (aC (aA (aO (dE rfl rfl rfl ?_)))))))))))
     obtain rfl : c = 100 := by omega
     exact ⟨.inr ⟨_, _, rfl, rfl, _, _, _, [(48, 57)], rfl, hO1, hG11, jA (by kernel_rfl), fun c => Iff.rfl, by decide⟩, hE12⟩
    exfalso; omega
   exfalso; omega
  refine aE (aB (aF (bC rfl rfl) ?_)); refine aN (aC (aA (bG rfl (fun hc11 => ?_) (fun hc11 => ?_))))
  ·have hcs := hor.1.2.1 (by omega); refine aB (bP (vs := [_, _, _, _, _, _]) rfl cE rfl rfl rfl rfl fun b18 w19 hO20 hs21 hw22 => ?_); have hE24 := (Evo.refl [] w).then hw22; refine aP (vs := [_]) cF rfl (dX (es := [9, 10, 12, 13, 32, 32]) hO20 (by decide)) rfl ?_; rintro _ w25 ⟨a1, c1, ob1, rfl, hO1, hg1, hw26⟩; have hG28 := Ge.fresh hE24 hg1; have hE29 := hE24.then hw26; refine aN (aC (aZ (aA (aE (aE (aB (aH (aC (aA (bS (aE (aE (aB (aF (bC rfl rfl) ?_)))))))))))))); refine aN (aC (aA (bG rfl (fun hc20 => ?_) (fun hc20 => ?_))))
   ·exfalso; omega
   refine aE (aB (aF (bC rfl rfl) ?_)); refine aN (aC (aA (bG rfl (fun hc20 => ?_) (fun hc20 => ?_))))
   ·refine aX (aA (bG rfl (fun hc20 => ?_) (fun hc20 => ?_)))
    ·refine aB (aH ?_); refine aP (vs := [_]) lA rfl (mR (l := [(9, 10), (12, 13), (32, 32)]) hO1 (jA (by kernel_rfl)) (by decide) (fun c => Iff.rfl)) rfl ?_; rintro rv w31 hR; have hV9 := hE29; have hw32 := hR.evo; have hE33 := hE29.then hw32; refine aN (aC (aZ (aA (aE (aB (aH (aN (aN (aC (aA (aO (dE rfl rfl rfl ?_))))))))))))
     obtain rfl : c = 83 := by omega
     exact ⟨.inr ⟨_, _, rfl, rfl, sF (hR.set hV9) (by decide)⟩, hE33⟩
    exfalso; omega
   refine aB (aF (bC rfl rfl) ?_); refine aN (aC (aA (bG rfl (fun hc20 => ?_) (fun hc20 => ?_))))
   ·exfalso; omega
   refine aE (aE (aB (aF (bC rfl rfl) ?_))); refine aN (aC (aA (bG rfl (fun hc26 => ?_) (fun hc26 => ?_))))
   ·exfalso; omega
   refine aE (aB (aF (bC rfl rfl) ?_)); refine aN (aC (aA (bG rfl (fun hc26 => ?_) (fun hc26 => ?_))))
   ·refine aX (aA (bG rfl (fun hc26 => ?_) (fun hc26 => ?_)))
    ·refine aX (aZ (aA (aE (aB (aH (aN (aN (aC (aA (aO (dE rfl rfl rfl ?_)))))))))))
     obtain rfl : c = 115 := by omega
     exact ⟨.inr ⟨_, _, rfl, rfl, _, _, _, [(9, 10), (12, 13), (32, 32)], rfl, hO1, hG28, jA (by kernel_rfl), fun c => Iff.rfl, by decide⟩, hE29⟩
    exfalso; omega
   exfalso; omega
  refine aE (aB (aF (bC rfl rfl) ?_)); refine aN (aC (aA (bG rfl (fun hc15 => ?_) (fun hc15 => ?_))))
  ·have hcs := hor.1.2.2 (by omega); refine aB (bP (vs := [_, _, _, _, _, _, _, _]) rfl cE rfl rfl rfl rfl fun b35 w36 hO37 hs38 hw39 => ?_); have hE41 := (Evo.refl [] w).then hw39; refine aP (vs := [_]) cF rfl (dX (es := [48, 57, 65, 90, 95, 95, 97, 122]) hO37 (by decide)) rfl ?_; rintro _ w42 ⟨a1, c1, ob1, rfl, hO1, hg1, hw43⟩; have hG45 := Ge.fresh hE41 hg1; have hE46 := hE41.then hw43; refine aN (aC (aZ (aA (aE (aE (aB (aH (aC (aA (bS (aE (aE (aB (aF (bC rfl rfl) ?_)))))))))))))); refine aN (aC (aA (bG rfl (fun hc20 => ?_) (fun hc20 => ?_))))
   ·exfalso; omega
   refine aE (aB (aF (bC rfl rfl) ?_)); refine aN (aC (aA (bG rfl (fun hc20 => ?_) (fun hc20 => ?_))))
   ·exfalso; omega
   refine aB (aF (bC rfl rfl) ?_); refine aN (aC (aA (bG rfl (fun hc20 => ?_) (fun hc20 => ?_))))
   ·refine aB (aH ?_); refine aP (vs := [_]) lA rfl (mR (l := [(48, 57), (65, 90), (95, 95), (97, 122)]) hO1 (jA (by kernel_rfl)) (by decide) (fun c => Iff.rfl)) rfl ?_; rintro rv w48 hR; have hV9 := hE46; have hw49 := hR.evo; have hE50 := hE46.then hw49; refine aN (aC (aZ (aA (aE (aB (aH (aN (aN (aC (aA (aO (dE rfl rfl rfl ?_))))))))))))
    obtain rfl : c = 87 := by omega
    exact ⟨.inr ⟨_, _, rfl, rfl, sF (hR.set hV9) (by decide)⟩, hE50⟩
   refine aE (aE (aB (aF (bC rfl rfl) ?_))); refine aN (aC (aA (bG rfl (fun hc26 => ?_) (fun hc26 => ?_))))
   ·exfalso; omega
   refine aE (aB (aF (bC rfl rfl) ?_)); refine aN (aC (aA (bG rfl (fun hc26 => ?_) (fun hc26 => ?_))))
   ·exfalso; omega
   refine aB (aF (bC rfl rfl) ?_); refine aN (aC (aA (bG rfl (fun hc26 => ?_) (fun hc26 => ?_))))
   ·refine aX (aZ (aA (aE (aB (aH (aN (aN (aC (aA (aO (dE rfl rfl rfl ?_)))))))))))
    obtain rfl : c = 119 := by omega
    exact ⟨.inr ⟨_, _, rfl, rfl, _, _, _, [(48, 57), (65, 90), (95, 95), (97, 122)], rfl, hO1, hG45, jA (by kernel_rfl), fun c => Iff.rfl, by decide⟩, hE46⟩
   exfalso; omega
  refine aE (aB (aN (aN (aC (aA (aO (aV (aM (dE rfl rfl rfl ?_)))))))))
  exact ⟨.inl ⟨vP (by have := hor.2; omega), rfl⟩, (Evo.refl [] w)⟩
theorem rA : gB Tryz.prog 62 0 = some 0 := by kernel_rfl
theorem eU : gB Tryz.prog 64 2 = some 2 := by kernel_rfl
theorem iN : fA Tryz.prog 113 := ⟨_, Tryz.func113, by kernel_rfl, by kernel_rfl⟩
theorem uZ : fA Tryz.prog 130 := ⟨_, Tryz.func130, by kernel_rfl, by kernel_rfl⟩
theorem nam0 {n : ByteArray} (h : n = asc [97, 108, 110, 117, 109]) : jR n = some (rs [(48, 57), (65, 90), (97, 122)]) := by unfold jR; rw [if_pos h]
theorem nam1 {n : ByteArray} (h0 : ¬ n = asc [97, 108, 110, 117, 109]) (h : n = asc [97, 108, 112, 104, 97]) : jR n = some (rs [(65, 90), (97, 122)]) := by unfold jR; rw [if_neg h0, if_pos h]
theorem nam2 {n : ByteArray} (h0 : ¬ n = asc [97, 108, 110, 117, 109]) (h1 : ¬ n = asc [97, 108, 112, 104, 97]) (h : n = asc [97, 115, 99, 105, 105]) : jR n = some (rs [(0, 127)]) := by unfold jR; rw [if_neg h0, if_neg h1, if_pos h]
theorem nam3 {n : ByteArray} (h0 : ¬ n = asc [97, 108, 110, 117, 109]) (h1 : ¬ n = asc [97, 108, 112, 104, 97]) (h2 : ¬ n = asc [97, 115, 99, 105, 105]) (h : n = asc [98, 108, 97, 110, 107]) : jR n = some (rs [(9, 9), (32, 32)]) := by unfold jR; rw [if_neg h0, if_neg h1, if_neg h2, if_pos h]
theorem nam4 {n : ByteArray} (h0 : ¬ n = asc [97, 108, 110, 117, 109]) (h1 : ¬ n = asc [97, 108, 112, 104, 97]) (h2 : ¬ n = asc [97, 115, 99, 105, 105]) (h3 : ¬ n = asc [98, 108, 97, 110, 107]) (h : n = asc [99, 110, 116, 114, 108]) : jR n = some (rs [(0, 31), (127, 127)]) := by unfold jR; rw [if_neg h0, if_neg h1, if_neg h2, if_neg h3, if_pos h]
theorem nam5 {n : ByteArray} (h0 : ¬ n = asc [97, 108, 110, 117, 109]) (h1 : ¬ n = asc [97, 108, 112, 104, 97]) (h2 : ¬ n = asc [97, 115, 99, 105, 105]) (h3 : ¬ n = asc [98, 108, 97, 110, 107]) (h4 : ¬ n = asc [99, 110, 116, 114, 108]) (h : n = asc [100, 105, 103, 105, 116]) : jR n = some (rs [(48, 57)]) := by unfold jR; rw [if_neg h0, if_neg h1, if_neg h2, if_neg h3, if_neg h4, if_pos h]
theorem nam6 {n : ByteArray} (h0 : ¬ n = asc [97, 108, 110, 117, 109]) (h1 : ¬ n = asc [97, 108, 112, 104, 97]) (h2 : ¬ n = asc [97, 115, 99, 105, 105]) (h3 : ¬ n = asc [98, 108, 97, 110, 107]) (h4 : ¬ n = asc [99, 110, 116, 114, 108]) (h5 : ¬ n = asc [100, 105, 103, 105, 116]) (h : n = asc [103, 114, 97, 112, 104]) : jR n = some (rs [(33, 126)]) := by unfold jR; rw [if_neg h0, if_neg h1, if_neg h2, if_neg h3, if_neg h4, if_neg h5, if_pos h]
theorem nam7 {n : ByteArray} (h0 : ¬ n = asc [97, 108, 110, 117, 109]) (h1 : ¬ n = asc [97, 108, 112, 104, 97]) (h2 : ¬ n = asc [97, 115, 99, 105, 105]) (h3 : ¬ n = asc [98, 108, 97, 110, 107]) (h4 : ¬ n = asc [99, 110, 116, 114, 108]) (h5 : ¬ n = asc [100, 105, 103, 105, 116]) (h6 : ¬ n = asc [103, 114, 97, 112, 104]) (h : n = asc [108, 111, 119, 101, 114]) : jR n = some (rs [(97, 122)]) := by unfold jR; rw [if_neg h0, if_neg h1, if_neg h2, if_neg h3, if_neg h4, if_neg h5, if_neg h6, if_pos h]
theorem nam8 {n : ByteArray} (h0 : ¬ n = asc [97, 108, 110, 117, 109]) (h1 : ¬ n = asc [97, 108, 112, 104, 97]) (h2 : ¬ n = asc [97, 115, 99, 105, 105]) (h3 : ¬ n = asc [98, 108, 97, 110, 107]) (h4 : ¬ n = asc [99, 110, 116, 114, 108]) (h5 : ¬ n = asc [100, 105, 103, 105, 116]) (h6 : ¬ n = asc [103, 114, 97, 112, 104]) (h7 : ¬ n = asc [108, 111, 119, 101, 114]) (h : n = asc [112, 114, 105, 110, 116]) : jR n = some (rs [(32, 126)]) := by unfold jR; rw [if_neg h0, if_neg h1, if_neg h2, if_neg h3, if_neg h4, if_neg h5, if_neg h6, if_neg h7, if_pos h]
theorem nam9 {n : ByteArray} (h0 : ¬ n = asc [97, 108, 110, 117, 109]) (h1 : ¬ n = asc [97, 108, 112, 104, 97]) (h2 : ¬ n = asc [97, 115, 99, 105, 105]) (h3 : ¬ n = asc [98, 108, 97, 110, 107]) (h4 : ¬ n = asc [99, 110, 116, 114, 108]) (h5 : ¬ n = asc [100, 105, 103, 105, 116]) (h6 : ¬ n = asc [103, 114, 97, 112, 104]) (h7 : ¬ n = asc [108, 111, 119, 101, 114]) (h8 : ¬ n = asc [112, 114, 105, 110, 116]) (h : n = asc [112, 117, 110, 99, 116]) : jR n = some (rs [(33, 47), (58, 64), (91, 96), (123, 126)]) := by unfold jR; rw [if_neg h0, if_neg h1, if_neg h2, if_neg h3, if_neg h4, if_neg h5, if_neg h6, if_neg h7, if_neg h8, if_pos h]
theorem nam10 {n : ByteArray} (h0 : ¬ n = asc [97, 108, 110, 117, 109]) (h1 : ¬ n = asc [97, 108, 112, 104, 97]) (h2 : ¬ n = asc [97, 115, 99, 105, 105]) (h3 : ¬ n = asc [98, 108, 97, 110, 107]) (h4 : ¬ n = asc [99, 110, 116, 114, 108]) (h5 : ¬ n = asc [100, 105, 103, 105, 116]) (h6 : ¬ n = asc [103, 114, 97, 112, 104]) (h7 : ¬ n = asc [108, 111, 119, 101, 114]) (h8 : ¬ n = asc [112, 114, 105, 110, 116]) (h9 : ¬ n = asc [112, 117, 110, 99, 116]) (h : n = asc [115, 112, 97, 99, 101]) : jR n = some (rs [(9, 13), (32, 32)]) := by unfold jR; rw [if_neg h0, if_neg h1, if_neg h2, if_neg h3, if_neg h4, if_neg h5, if_neg h6, if_neg h7, if_neg h8, if_neg h9, if_pos h]
theorem nam11 {n : ByteArray} (h0 : ¬ n = asc [97, 108, 110, 117, 109]) (h1 : ¬ n = asc [97, 108, 112, 104, 97]) (h2 : ¬ n = asc [97, 115, 99, 105, 105]) (h3 : ¬ n = asc [98, 108, 97, 110, 107]) (h4 : ¬ n = asc [99, 110, 116, 114, 108]) (h5 : ¬ n = asc [100, 105, 103, 105, 116]) (h6 : ¬ n = asc [103, 114, 97, 112, 104]) (h7 : ¬ n = asc [108, 111, 119, 101, 114]) (h8 : ¬ n = asc [112, 114, 105, 110, 116]) (h9 : ¬ n = asc [112, 117, 110, 99, 116]) (h10 : ¬ n = asc [115, 112, 97, 99, 101]) (h : n = asc [117, 112, 112, 101, 114]) : jR n = some (rs [(65, 90)]) := by unfold jR; rw [if_neg h0, if_neg h1, if_neg h2, if_neg h3, if_neg h4, if_neg h5, if_neg h6, if_neg h7, if_neg h8, if_neg h9, if_neg h10, if_pos h]
theorem nam12 {n : ByteArray} (h0 : ¬ n = asc [97, 108, 110, 117, 109]) (h1 : ¬ n = asc [97, 108, 112, 104, 97]) (h2 : ¬ n = asc [97, 115, 99, 105, 105]) (h3 : ¬ n = asc [98, 108, 97, 110, 107]) (h4 : ¬ n = asc [99, 110, 116, 114, 108]) (h5 : ¬ n = asc [100, 105, 103, 105, 116]) (h6 : ¬ n = asc [103, 114, 97, 112, 104]) (h7 : ¬ n = asc [108, 111, 119, 101, 114]) (h8 : ¬ n = asc [112, 114, 105, 110, 116]) (h9 : ¬ n = asc [112, 117, 110, 99, 116]) (h10 : ¬ n = asc [115, 112, 97, 99, 101]) (h11 : ¬ n = asc [117, 112, 112, 101, 114]) (h : n = asc [119, 111, 114, 100]) : jR n = some (rs [(48, 57), (65, 90), (95, 95), (97, 122)]) := by unfold jR; rw [if_neg h0, if_neg h1, if_neg h2, if_neg h3, if_neg h4, if_neg h5, if_neg h6, if_neg h7, if_neg h8, if_neg h9, if_neg h10, if_neg h11, if_pos h]
theorem nam13 {n : ByteArray} (h0 : ¬ n = asc [97, 108, 110, 117, 109]) (h1 : ¬ n = asc [97, 108, 112, 104, 97]) (h2 : ¬ n = asc [97, 115, 99, 105, 105]) (h3 : ¬ n = asc [98, 108, 97, 110, 107]) (h4 : ¬ n = asc [99, 110, 116, 114, 108]) (h5 : ¬ n = asc [100, 105, 103, 105, 116]) (h6 : ¬ n = asc [103, 114, 97, 112, 104]) (h7 : ¬ n = asc [108, 111, 119, 101, 114]) (h8 : ¬ n = asc [112, 114, 105, 110, 116]) (h9 : ¬ n = asc [112, 117, 110, 99, 116]) (h10 : ¬ n = asc [115, 112, 97, 99, 101]) (h11 : ¬ n = asc [117, 112, 112, 101, 114]) (h12 : ¬ n = asc [119, 111, 114, 100]) (h : n = asc [120, 100, 105, 103, 105, 116]) : jR n = some (rs [(48, 57), (65, 70), (97, 102)]) := by unfold jR; rw [if_neg h0, if_neg h1, if_neg h2, if_neg h3, if_neg h4, if_neg h5, if_neg h6, if_neg h7, if_neg h8, if_neg h9, if_neg h10, if_neg h11, if_neg h12, if_pos h]
theorem namN {n : ByteArray} (h0 : ¬ n = asc [97, 108, 110, 117, 109]) (h1 : ¬ n = asc [97, 108, 112, 104, 97]) (h2 : ¬ n = asc [97, 115, 99, 105, 105]) (h3 : ¬ n = asc [98, 108, 97, 110, 107]) (h4 : ¬ n = asc [99, 110, 116, 114, 108]) (h5 : ¬ n = asc [100, 105, 103, 105, 116]) (h6 : ¬ n = asc [103, 114, 97, 112, 104]) (h7 : ¬ n = asc [108, 111, 119, 101, 114]) (h8 : ¬ n = asc [112, 114, 105, 110, 116]) (h9 : ¬ n = asc [112, 117, 110, 99, 116]) (h10 : ¬ n = asc [115, 112, 97, 99, 101]) (h11 : ¬ n = asc [117, 112, 112, 101, 114]) (h12 : ¬ n = asc [119, 111, 114, 100]) (h13 : ¬ n = asc [120, 100, 105, 103, 105, 116])  : jR n = none := by unfold jR; rw [if_neg h0, if_neg h1, if_neg h2, if_neg h3, if_neg h4, if_neg h5, if_neg h6, if_neg h7, if_neg h8, if_neg h9, if_neg h10, if_neg h11, if_neg h12, if_neg h13]
theorem SQ {w : World} (n : ByteArray) :
    Calls Tryz.prog 146 #[.string n] w (Ret fun v w' => LetOut w w' v (jR n) ∧ Evo [] w w') := by
  refine bL (N := 61) Tryz.func146 rfl rfl rfl ?_; refine aE (aB (aN (aN (aC (aA (aE (aE (aB (aH (aC (aA (bS (aE (aB (aF (gI rfl rfl) ?_))))))))))))))); refine aN (aC (aA (bG rfl (fun hc5 => ?_) (fun hc5 => ?_))))
  ·refine aE (aB (bP (vs := [_, _, _, _, _, _]) rfl cE rfl rfl rfl rfl fun b1 w2 hO3 hs4 hw5 => ?_)); have hE7 := (Evo.refl [] w).then hw5; refine aP (vs := [_]) cF rfl (dX (es := [48, 57, 65, 90, 97, 122]) hO3 (by decide)) rfl ?_; rintro _ w8 ⟨a1, c1, ob1, rfl, hO1, hg1, hw9⟩; have hG11 := Ge.fresh hE7 hg1; have hE12 := hE7.then hw9; refine aN (aN (aC (aA (aO (aV (aM (dE rfl rfl rfl ?_))))))); exact ⟨.inr ⟨_, _, nam0  hc5, rfl, _, _, _, [(48, 57), (65, 90), (97, 122)], rfl, hO1, hG11, jA (by kernel_rfl), fun c => Iff.rfl, by decide⟩, hE12⟩
  refine aE (aB (aF (gI rfl rfl) ?_)); refine aN (aC (aA (bG rfl (fun hc9 => ?_) (fun hc9 => ?_))))
  ·refine aE (aB (bP (vs := [_, _, _, _]) rfl cE rfl rfl rfl rfl fun b14 w15 hO16 hs17 hw18 => ?_)); have hE20 := (Evo.refl [] w).then hw18; refine aP (vs := [_]) cF rfl (dX (es := [65, 90, 97, 122]) hO16 (by decide)) rfl ?_; rintro _ w21 ⟨a1, c1, ob1, rfl, hO1, hg1, hw22⟩; have hG24 := Ge.fresh hE20 hg1; have hE25 := hE20.then hw22; refine aN (aN (aC (aA (aO (aV (aM (dE rfl rfl rfl ?_))))))); exact ⟨.inr ⟨_, _, nam1 hc5 hc9, rfl, _, _, _, [(65, 90), (97, 122)], rfl, hO1, hG24, jA (by kernel_rfl), fun c => Iff.rfl, by decide⟩, hE25⟩
  refine aE (aB (aF (gI rfl rfl) ?_)); refine aN (aC (aA (bG rfl (fun hc13 => ?_) (fun hc13 => ?_))))
  ·refine aE (aB (bP (vs := [_, _]) rfl cE rfl rfl rfl rfl fun b27 w28 hO29 hs30 hw31 => ?_)); have hE33 := (Evo.refl [] w).then hw31; refine aP (vs := [_]) cF rfl (dX (es := [0, 127]) hO29 (by decide)) rfl ?_; rintro _ w34 ⟨a1, c1, ob1, rfl, hO1, hg1, hw35⟩; have hG37 := Ge.fresh hE33 hg1; have hE38 := hE33.then hw35; refine aN (aN (aC (aA (aO (aV (aM (dE rfl rfl rfl ?_))))))); exact ⟨.inr ⟨_, _, nam2 hc5 hc9 hc13, rfl, _, _, _, [(0, 127)], rfl, hO1, hG37, jA (by kernel_rfl), fun c => Iff.rfl, by decide⟩, hE38⟩
  refine aE (aB (aF (gI rfl rfl) ?_)); refine aN (aC (aA (bG rfl (fun hc17 => ?_) (fun hc17 => ?_))))
  ·refine aE (aB (bP (vs := [_, _, _, _]) rfl cE rfl rfl rfl rfl fun b40 w41 hO42 hs43 hw44 => ?_)); have hE46 := (Evo.refl [] w).then hw44; refine aP (vs := [_]) cF rfl (dX (es := [9, 9, 32, 32]) hO42 (by decide)) rfl ?_; rintro _ w47 ⟨a1, c1, ob1, rfl, hO1, hg1, hw48⟩; have hG50 := Ge.fresh hE46 hg1; have hE51 := hE46.then hw48; refine aN (aN (aC (aA (aO (aV (aM (dE rfl rfl rfl ?_))))))); exact ⟨.inr ⟨_, _, nam3 hc5 hc9 hc13 hc17, rfl, _, _, _, [(9, 9), (32, 32)], rfl, hO1, hG50, jA (by kernel_rfl), fun c => Iff.rfl, by decide⟩, hE51⟩
  refine aE (aB (aF (gI rfl rfl) ?_)); refine aN (aC (aA (bG rfl (fun hc21 => ?_) (fun hc21 => ?_))))
  ·refine aE (aB (bP (vs := [_, _, _, _]) rfl cE rfl rfl rfl rfl fun b53 w54 hO55 hs56 hw57 => ?_)); have hE59 := (Evo.refl [] w).then hw57; refine aP (vs := [_]) cF rfl (dX (es := [0, 31, 127, 127]) hO55 (by decide)) rfl ?_; rintro _ w60 ⟨a1, c1, ob1, rfl, hO1, hg1, hw61⟩; have hG63 := Ge.fresh hE59 hg1; have hE64 := hE59.then hw61; refine aN (aN (aC (aA (aO (aV (aM (dE rfl rfl rfl ?_))))))); exact ⟨.inr ⟨_, _, nam4 hc5 hc9 hc13 hc17 hc21, rfl, _, _, _, [(0, 31), (127, 127)], rfl, hO1, hG63, jA (by kernel_rfl), fun c => Iff.rfl, by decide⟩, hE64⟩
  refine aE (aB (aF (gI rfl rfl) ?_)); refine aN (aC (aA (bG rfl (fun hc25 => ?_) (fun hc25 => ?_))))
  ·refine aE (aB (bP (vs := [_, _]) rfl cE rfl rfl rfl rfl fun b66 w67 hO68 hs69 hw70 => ?_)); have hE72 := (Evo.refl [] w).then hw70; refine aP (vs := [_]) cF rfl (dX (es := [48, 57]) hO68 (by decide)) rfl ?_; rintro _ w73 ⟨a1, c1, ob1, rfl, hO1, hg1, hw74⟩; have hG76 := Ge.fresh hE72 hg1; have hE77 := hE72.then hw74; refine aN (aN (aC (aA (aO (aV (aM (dE rfl rfl rfl ?_))))))); exact ⟨.inr ⟨_, _, nam5 hc5 hc9 hc13 hc17 hc21 hc25, rfl, _, _, _, [(48, 57)], rfl, hO1, hG76, jA (by kernel_rfl), fun c => Iff.rfl, by decide⟩, hE77⟩
  refine aE (aB (aF (gI rfl rfl) ?_)); refine aN (aC (aA (bG rfl (fun hc29 => ?_) (fun hc29 => ?_))))
  ·refine aE (aB (bP (vs := [_, _]) rfl cE rfl rfl rfl rfl fun b79 w80 hO81 hs82 hw83 => ?_)); have hE85 := (Evo.refl [] w).then hw83; refine aP (vs := [_]) cF rfl (dX (es := [33, 126]) hO81 (by decide)) rfl ?_; rintro _ w86 ⟨a1, c1, ob1, rfl, hO1, hg1, hw87⟩; have hG89 := Ge.fresh hE85 hg1; have hE90 := hE85.then hw87; refine aN (aN (aC (aA (aO (aV (aM (dE rfl rfl rfl ?_))))))); exact ⟨.inr ⟨_, _, nam6 hc5 hc9 hc13 hc17 hc21 hc25 hc29, rfl, _, _, _, [(33, 126)], rfl, hO1, hG89, jA (by kernel_rfl), fun c => Iff.rfl, by decide⟩, hE90⟩
  refine aE (aB (aF (gI rfl rfl) ?_)); refine aN (aC (aA (bG rfl (fun hc33 => ?_) (fun hc33 => ?_))))
  ·refine aE (aB (bP (vs := [_, _]) rfl cE rfl rfl rfl rfl fun b92 w93 hO94 hs95 hw96 => ?_)); have hE98 := (Evo.refl [] w).then hw96; refine aP (vs := [_]) cF rfl (dX (es := [97, 122]) hO94 (by decide)) rfl ?_; rintro _ w99 ⟨a1, c1, ob1, rfl, hO1, hg1, hw100⟩; have hG102 := Ge.fresh hE98 hg1; have hE103 := hE98.then hw100; refine aN (aN (aC (aA (aO (aV (aM (dE rfl rfl rfl ?_))))))); exact ⟨.inr ⟨_, _, nam7 hc5 hc9 hc13 hc17 hc21 hc25 hc29 hc33, rfl, _, _, _, [(97, 122)], rfl, hO1, hG102, jA (by kernel_rfl), fun c => Iff.rfl, by decide⟩, hE103⟩
  refine aE (aB (aF (gI rfl rfl) ?_)); refine aN (aC (aA (bG rfl (fun hc37 => ?_) (fun hc37 => ?_))))
  ·refine aE (aB (bP (vs := [_, _]) rfl cE rfl rfl rfl rfl fun b105 w106 hO107 hs108 hw109 => ?_)); have hE111 := (Evo.refl [] w).then hw109; refine aP (vs := [_]) cF rfl (dX (es := [32, 126]) hO107 (by decide)) rfl ?_; rintro _ w112 ⟨a1, c1, ob1, rfl, hO1, hg1, hw113⟩; have hG115 := Ge.fresh hE111 hg1; have hE116 := hE111.then hw113; refine aN (aN (aC (aA (aO (aV (aM (dE rfl rfl rfl ?_))))))); exact ⟨.inr ⟨_, _, nam8 hc5 hc9 hc13 hc17 hc21 hc25 hc29 hc33 hc37, rfl, _, _, _, [(32, 126)], rfl, hO1, hG115, jA (by kernel_rfl), fun c => Iff.rfl, by decide⟩, hE116⟩
  refine aE (aB (aF (gI rfl rfl) ?_)); refine aN (aC (aA (bG rfl (fun hc41 => ?_) (fun hc41 => ?_))))
  ·refine aE (aB (bP (vs := [_, _, _, _, _, _, _, _]) rfl cE rfl rfl rfl rfl fun b118 w119 hO120 hs121 hw122 => ?_)); have hE124 := (Evo.refl [] w).then hw122; refine aP (vs := [_]) cF rfl (dX (es := [33, 47, 58, 64, 91, 96, 123, 126]) hO120 (by decide)) rfl ?_; rintro _ w125 ⟨a1, c1, ob1, rfl, hO1, hg1, hw126⟩; have hG128 := Ge.fresh hE124 hg1; have hE129 := hE124.then hw126; refine aN (aN (aC (aA (aO (aV (aM (dE rfl rfl rfl ?_))))))); exact ⟨.inr ⟨_, _, nam9 hc5 hc9 hc13 hc17 hc21 hc25 hc29 hc33 hc37 hc41, rfl, _, _, _, [(33, 47), (58, 64), (91, 96), (123, 126)], rfl, hO1, hG128, jA (by kernel_rfl), fun c => Iff.rfl, by decide⟩, hE129⟩
  refine aE (aB (aF (gI rfl rfl) ?_)); refine aN (aC (aA (bG rfl (fun hc45 => ?_) (fun hc45 => ?_))))
  ·refine aE (aB (bP (vs := [_, _, _, _]) rfl cE rfl rfl rfl rfl fun b131 w132 hO133 hs134 hw135 => ?_)); have hE137 := (Evo.refl [] w).then hw135; refine aP (vs := [_]) cF rfl (dX (es := [9, 13, 32, 32]) hO133 (by decide)) rfl ?_; rintro _ w138 ⟨a1, c1, ob1, rfl, hO1, hg1, hw139⟩; have hG141 := Ge.fresh hE137 hg1; have hE142 := hE137.then hw139; refine aN (aN (aC (aA (aO (aV (aM (dE rfl rfl rfl ?_))))))); exact ⟨.inr ⟨_, _, nam10 hc5 hc9 hc13 hc17 hc21 hc25 hc29 hc33 hc37 hc41 hc45, rfl, _, _, _, [(9, 13), (32, 32)], rfl, hO1, hG141, jA (by kernel_rfl), fun c => Iff.rfl, by decide⟩, hE142⟩
  refine aE (aB (aF (gI rfl rfl) ?_)); refine aN (aC (aA (bG rfl (fun hc49 => ?_) (fun hc49 => ?_))))
  ·refine aE (aB (bP (vs := [_, _]) rfl cE rfl rfl rfl rfl fun b144 w145 hO146 hs147 hw148 => ?_)); have hE150 := (Evo.refl [] w).then hw148; refine aP (vs := [_]) cF rfl (dX (es := [65, 90]) hO146 (by decide)) rfl ?_; rintro _ w151 ⟨a1, c1, ob1, rfl, hO1, hg1, hw152⟩; have hG154 := Ge.fresh hE150 hg1; have hE155 := hE150.then hw152; refine aN (aN (aC (aA (aO (aV (aM (dE rfl rfl rfl ?_))))))); exact ⟨.inr ⟨_, _, nam11 hc5 hc9 hc13 hc17 hc21 hc25 hc29 hc33 hc37 hc41 hc45 hc49, rfl, _, _, _, [(65, 90)], rfl, hO1, hG154, jA (by kernel_rfl), fun c => Iff.rfl, by decide⟩, hE155⟩
  refine aE (aB (aF (gI rfl rfl) ?_)); refine aN (aC (aA (bG rfl (fun hc53 => ?_) (fun hc53 => ?_))))
  ·refine aE (aB (bP (vs := [_, _, _, _, _, _, _, _]) rfl cE rfl rfl rfl rfl fun b157 w158 hO159 hs160 hw161 => ?_)); have hE163 := (Evo.refl [] w).then hw161; refine aP (vs := [_]) cF rfl (dX (es := [48, 57, 65, 90, 95, 95, 97, 122]) hO159 (by decide)) rfl ?_; rintro _ w164 ⟨a1, c1, ob1, rfl, hO1, hg1, hw165⟩; have hG167 := Ge.fresh hE163 hg1; have hE168 := hE163.then hw165; refine aN (aN (aC (aA (aO (aV (aM (dE rfl rfl rfl ?_))))))); exact ⟨.inr ⟨_, _, nam12 hc5 hc9 hc13 hc17 hc21 hc25 hc29 hc33 hc37 hc41 hc45 hc49 hc53, rfl, _, _, _, [(48, 57), (65, 90), (95, 95), (97, 122)], rfl, hO1, hG167, jA (by kernel_rfl), fun c => Iff.rfl, by decide⟩, hE168⟩
  refine aE (aB (aF (gI rfl rfl) ?_)); refine aN (aC (aA (bG rfl (fun hc57 => ?_) (fun hc57 => ?_))))
  ·refine aE (aB (bP (vs := [_, _, _, _, _, _]) rfl cE rfl rfl rfl rfl fun b170 w171 hO172 hs173 hw174 => ?_)); have hE176 := (Evo.refl [] w).then hw174; refine aP (vs := [_]) cF rfl (dX (es := [48, 57, 65, 70, 97, 102]) hO172 (by decide)) rfl ?_; rintro _ w177 ⟨a1, c1, ob1, rfl, hO1, hg1, hw178⟩; have hG180 := Ge.fresh hE176 hg1; have hE181 := hE176.then hw178; refine aN (aN (aC (aA (aO (aV (aM (dE rfl rfl rfl ?_))))))); exact ⟨.inr ⟨_, _, nam13 hc5 hc9 hc13 hc17 hc21 hc25 hc29 hc33 hc37 hc41 hc45 hc49 hc53 hc57, rfl, _, _, _, [(48, 57), (65, 70), (97, 102)], rfl, hO1, hG180, jA (by kernel_rfl), fun c => Iff.rfl, by decide⟩, hE181⟩
  refine aX (aZ (aA (aE (aB (aN (aN (aC (aA (aO (dE rfl rfl rfl ?_)))))))))); exact ⟨.inl ⟨namN hc5 hc9 hc13 hc17 hc21 hc25 hc29 hc33 hc37 hc41 hc45 hc49 hc53 hc57, rfl⟩, (Evo.refl [] w)⟩
theorem litS (f : Fl) (c : Int) : lD f c = kF (if f.fold = true then nK (fun x => x = c) else fun x => x = c) := rfl
theorem QK (c x : Int) : InR x [(c, c)] ↔ x = c := by rw [jN]; show c ≤ x ∧ x ≤ c ↔ _; omega
theorem CF {w : World} {b : Nat} {s : ByteArray} {st : PS} {a : Option Addr} {c : Nat} {ob : Option Nat} (hR : RdAt w b s st a c ob) (r : Int) (h0 : 0 ≤ r) (h1 : r ≤ 1114111) :
    Calls Tryz.prog 116 #[.pointer (some ⟨b, 0, none⟩), .int .i32 r] w (Ret fun v w' => TOut w w' v (lD st.now r) ∧ Evo [] w w') := by
  have hap := hR.ap
  have hvr : Vr [(r, r)] := fun g hg => by rw [List.mem_singleton.1 hg]; exact ⟨h0, Int.le_refl _, h1⟩
  refine bL (N := 19) Tryz.func116 rfl rfl rfl ?_; refine aE (aB (dH rfl eI fun b4 w1 hB2 hs3 hw4 => ?_)); have hsz_b4 := hs3; have hG7 := Ge.new (Evo.refl [] w) hs3; have hE8 := (Evo.refl [] w).then hw4; have hB9 := hw4.blk0 hR.blk; refine aC (aA (aE (aB (aH (aH (bP (vs := [_, _]) rfl cE rfl rfl rfl rfl fun b11 w12 hO13 hs14 hw15 => ?_)))))); have hE20 := hE8.then hw15; have hB21 := hw15.blk0 hB9; have hB23 := hw15.blk0 hB2; refine aP (vs := [_]) cF rfl (dX (es := [r, r]) hO13 (by simp)) rfl ?_; rintro _ w24 ⟨a1, c1, ob1, rfl, hO1, hg1, hw25⟩; have hE31 := hE20.then hw25; have hB32 := hw25.blk0 hB21; have hB34 := hw25.blk0 hB23; refine aN (aC (aA (aE (aE (aB (aH (aF (aQ rfl) (aF (aD rfl eU) (aF (aD rfl rA) (aF (aI rfl eA (aJ hB32 rfl)) (aC (aA (fX rfl (fun hc14 => ?_) (fun hc14 => ?_))))))))))))))
  ·have hl9 : lD st.now r = kF (nK fun x => x = r) := by unfold lD; rw [if_pos hc14]
   refine aB (aH ?_); refine aP (vs := [_]) uZ rfl (AZ (l := [(r, r)]) hO1 hvr (by simp) (QK r)) rfl ?_; rintro rv w36 ⟨a2, c2, ob2, rfl, hO2, hg2, hl2, hcan2, heq2, hw37⟩; have hE43 := hE31.then hw37; have hB46 := hw37.blk0 hB34; refine aN (aC (aA (aE (aB (aH ?_)))))
   refine aP (vs := [_]) iN rfl (nN hO2 (vV hcan2) (by have : ([(r, r)] : List (Int × Int)).length = 1 := rfl; omega) heq2) rfl ?_
   rintro rv w48 ⟨hT, hw49⟩; have hV9 := hE43; have hb49 := fR hB46; have hE50 := hE43.then hw49; have hB53 := hw49.blk0 hB46; obtain ⟨vs, bs, rfl, hOT, hFr⟩ := hT; obtain ⟨ra, rc, ka, kc, rfl⟩ := id hOT.nine; refine bN rfl rfl bD hB53 rfl rfl ⟨rfl, rfl, rfl, rfl, rfl, rfl, rfl, rfl, rfl, trivial⟩ fun w56 hB57 hw58 => ?_; have hE59 := hE50.step hw58 hG7.mem1; have hE60 := (Evo.refl ([b4]) w48).step hw58 (fun y hy => .inl hy)
   try simp only [cV, Nat.reduceAdd] at hB57
   refine aC (aA (aO (dG rfl (ResOk.cellA rfl bR bD hB57 rfl) ?_))); refine ⟨?_, hE59⟩; rw [hl9]; refine ⟨_, bs, rfl, hOT.evo hE60 (fun b hb h => ?_), hFr.older hV9.size⟩
   have := hFr.ge b hb; rw [List.mem_singleton.1 h] at this; omega
  have hl9 : lD st.now r = kF (fun x => x = r) := by unfold lD; rw [if_neg (by simp [hc14])]
  refine aX (aA (aE (aB (aH ?_)))); refine aP (vs := [_]) iN rfl (nN (l := [(r, r)]) hO1 hvr (by simp) (QK r)) rfl ?_; rintro rv w65 ⟨hT, hw66⟩; have hV9 := hE31; have hb49 := fR hB34; have hE67 := hE31.then hw66; have hB70 := hw66.blk0 hB34; obtain ⟨vs, bs, rfl, hOT, hFr⟩ := hT; obtain ⟨ra, rc, ka, kc, rfl⟩ := id hOT.nine; refine bN rfl rfl bD hB70 rfl rfl ⟨rfl, rfl, rfl, rfl, rfl, rfl, rfl, rfl, rfl, trivial⟩ fun w72 hB73 hw74 => ?_; have hE75 := hE67.step hw74 hG7.mem1; have hE76 := (Evo.refl ([b4]) w65).step hw74 (fun y hy => .inl hy)
  try simp only [cV, Nat.reduceAdd] at hB73
  refine aC (aA (aO (dG rfl (ResOk.cellA rfl bR bD hB73 rfl) ?_))); refine ⟨?_, hE75⟩; rw [hl9]; refine ⟨_, bs, rfl, hOT.evo hE76 (fun b hb h => ?_), hFr.older hV9.size⟩
  have := hFr.ge b hb; rw [List.mem_singleton.1 h] at this; omega
end Go.Proofs.YtljadkcojnlioaaGreatDoor
namespace Go.Proofs.YtljadkcojnlioaaGreatDoor
open Go.RowKit Go.W
theorem GV {c : Int} (h : IsR c) : Utf8.encode c = bstr (eB c) := by
  unfold IsR at h
  have hv : Utf8.valid c = true := by unfold Utf8.valid; simp; omega
  unfold Utf8.encode eB jL
  rw [if_pos (show IsR c from h)]
  simp only [hv, if_true]
  by_cases h1 : c.toNat < 128
  · simp only [if_pos h1]; rfl
  · simp only [if_neg h1]
    by_cases h2 : c.toNat < 2048
    · simp only [if_pos h2]; rfl
    · simp only [if_neg h2]
      by_cases h3 : c.toNat < 65536
      · simp only [if_pos h3]; rfl
      · simp only [if_neg h3]; rfl
theorem hit_isR {s : ByteArray} {a w : Nat} (hw : 1 ≤ w) (h : Hit s a w) : IsR (eO s a w) := by
  by_cases e : IsR (eO s a w)
  · exact e
  · have := CJ h
    rw [eB, if_neg e] at this
    simp at this; omega
instance (s : ByteArray) (c : In) (i : Nat) : Decidable (VH s c i) := by unfold VH; infer_instance
end Go.Proofs.YtljadkcojnlioaaGreatDoor
namespace Go.Proofs.YtljadkcojnlioaaGreatDoor
open Go.W
attribute [local irreducible] Decidable.decide
theorem wS : fA Tryz.prog 58 := ⟨_, Tryz.func58, by kernel_rfl, by kernel_rfl⟩
theorem uV : fA Tryz.prog 150 := ⟨_, Tryz.func150, by kernel_rfl, by kernel_rfl⟩
theorem BJ (l : List Nat) : (bstr l).size = l.length := by simp [bstr, ByteArray.size]
theorem EX {w : World} (r : Int) : Calls Tryz.prog 150 #[.int .i32 r] w (Ret fun v w' => v = .int .i64 (if r < 128 then 1 else if r < 2048 then 2 else if r < 65536 then 3 else 4) ∧ Evo [] w w') := by
  refine bL (N := 12) Tryz.func150 rfl rfl rfl ?_; refine aE (aB (aN (aC (aA (aE (bS (aE (aB (aH (aF (dF rfl rfl) ?_)))))))))); refine aN (aC (aA (bG rfl (fun hc3 => ?_) (fun hc3 => ?_))))
  ·refine aE (aB (aN (aC (aA (aO (aV (aM (br1 ?_))))))))
   exact ⟨by congr 1; (repeat' split) <;> omega, (Evo.refl [] w)⟩
  refine aE (aB (aH (aF (dF rfl rfl) ?_))); refine aN (aC (aA (bG rfl (fun hc6 => ?_) (fun hc6 => ?_))))
  ·refine aE (aB (aN (aC (aA (aO (aV (aM (br1 ?_))))))))
   exact ⟨by congr 1; (repeat' split) <;> omega, (Evo.refl [] w)⟩
  refine aE (aB (aH (aF (dF rfl rfl) ?_))); refine aN (aC (aA (bG rfl (fun hc9 => ?_) (fun hc9 => ?_))))
  ·refine aE (aB (aN (aC (aA (aO (aV (aM (br1 ?_))))))))
   exact ⟨by congr 1; (repeat' split) <;> omega, (Evo.refl [] w)⟩
  refine aX (aZ (aA (aE (aB (aN (aC (aA (aO (br1 ?_)))))))))
  exact ⟨by congr 1; (repeat' split) <;> omega, (Evo.refl [] w)⟩
theorem wG {w : World} (s : ByteArray) (a : Nat) (ha : a ≤ s.size) (hl : s.size ≤ 140737488355328) : Calls Tryz.prog 58 #[.string s, .int .i64 (a : Nat)] w (Ret fun v w' => v = .bool (decide (a + 3 ≤ s.size ∧ s.extract a (a + 3) = bstr [239, 191, 189])) ∧ Evo [] w w') := by
  refine bL (N := 18) Tryz.func58 rfl rfl rfl ?_; refine aE (aB (aN (aC (aA (aE (aB (aH ?_))))))); refine aF (bE rfl rfl (by omega) (by omega)) ?_; refine aH (aF (cT rfl Tryz.underlying9 rfl) ?_); refine aF (fP rfl rfl) ?_; refine aH (aU (t := 10) rfl (fun hs10 => ?_) (fun hs10 => ?_))
  ·refine aK (aH (aK (aH (aK (aH (aK ?_)))))); refine aF (bE rfl rfl (by omega) (by omega)) ?_; refine aK ?_; refine aF (CQ (l := a) (h := a + 3) rfl rfl rfl Tryz.underlying9 rfl (by omega) (by omega) (by omega)) ?_; refine aK (aF (gI rfl rfl) ?_); refine aY (aN (aC (aA (aO (br1 ?_))))); refine ⟨congrArg Value.bool (decide_eq_decide.2 ?_), (Evo.refl [] w)⟩; constructor
   · exact fun h => ⟨by omega, h⟩
   · exact fun h => h.2
  refine aG (aG (aG (aG (aG (aG (aR (aN (aC (aA (aO (br1 ?_))))))))))); exact ⟨congrArg Value.bool (decide_eq_false (by omega)).symm, (Evo.refl [] w)⟩
theorem AT {s : ByteArray} {a : Nat} (ha : a < s.size) (h : (Utf8.decode s a).1 = 65533) (hr : ¬ (a + 3 ≤ s.size ∧ s.extract a (a + 3) = bstr [239, 191, 189])) : cD s a = (-1, 0) := by
  have h1 := GY s a h ha
  have h2 := rP s a h ha
  unfold cD
  rw [if_neg]
  rintro ⟨_, h3⟩
  rcases h1 with h1 | h1
  · exact h3 ⟨h, h1⟩
  · exact hr (h2.1 h1)
theorem yQ {s : ByteArray} {a : Nat} (ha : a < s.size) (h : ¬ (Utf8.decode s a).1 = 65533 ∨ (a + 3 ≤ s.size ∧ s.extract a (a + 3) = bstr [239, 191, 189])) :
    (cD s a).1 = ((Utf8.decode s a).1 : Nat) ∧ (((cD s a).2 : Nat) : Int) = if ((Utf8.decode s a).1 : Int) < 128 then 1 else if ((Utf8.decode s a).1 : Int) < 2048 then 2 else if ((Utf8.decode s a).1 : Int) < 65536 then 3 else 4 := by
  have hn : ¬ ((Utf8.decode s a).1 = 65533 ∧ (Utf8.decode s a).2 = 1) := fun ⟨h1, h2⟩ => by
    rcases h with h | h
    · exact h h1
    · rw [(rP s a h1 ha).2 h] at h2; cases h2
  have hw := CX s a ha hn
  unfold cD
  rw [if_pos ⟨ha, hn⟩]
  refine ⟨rfl, ?_⟩
  simp only
  rw [hw]
  repeat' split
  all_goals first | rfl | omega
theorem next_ok {w : World} (s : ByteArray) (a : Nat) (ha : a ≤ s.size) (hl : s.size ≤ 140737488355328) : Calls Tryz.prog 135 #[.string s, .int .i64 (a : Nat)] w (Ret fun v w' => v = .tuple #[.int .i32 (cD s a).1, .int .i64 ((cD s a).2 : Nat)] ∧ Evo [] w w') := by
  refine bL (N := 44) Tryz.func135 rfl rfl rfl ?_; refine aE (aB (aN (aN (aC (aA (aE (aE (aB (aH (aF (dF rfl rfl) ?_)))))))))); refine aH (aU (t := 10) rfl (fun hs10 => ?_) (fun hs10 => ?_))
  ·refine aG (aG (aG (aG (aY (aC (aA (cM rfl ?_))))))); refine aE (aB (aN (aN (aC (aA (aO (aM (dE rfl rfl rfl ?_))))))))
   exfalso; omega
  refine aK (aH (aK (aH (aK (aF (cT rfl Tryz.underlying9 rfl) ?_))))); refine aK (aF (fG rfl rfl) ?_); refine aR (aC (aA (bG rfl (fun hc15 => ?_) (fun hc15 => ?_))))
  ·refine aE (aB (aN (aN (aC (aA (aO (aM (dE rfl rfl rfl ?_))))))))
   exact ⟨by rw [pS (by omega)]; rfl, (Evo.refl [] w)⟩
  refine aX (aA (aE (aE (aB ?_))))
  have hlt : a < s.size := by omega
  refine aH (aH (aH (aF (cT rfl Tryz.underlying9 rfl) ?_))); refine aH ?_; refine aF (bE rfl rfl (by omega) (by omega)) ?_; refine aF (CS rfl rfl) ?_
  refine aF (CQ (l := a) (h := min s.size (a + 4)) rfl rfl rfl Tryz.underlying9 rfl (by split <;> omega) (by omega) (by omega)) ?_
  refine AI rfl rfl Tryz.underlying9 fun b1 w2 hB3 hs4 hw5 => ?_; have hG6 := Ge.new (Evo.refl [] w) hs4; have hE7 := (Evo.refl [] w).then hw5; refine aC (aA (bS (fC (α := Nat) (0) (fun k => []) [(0, _), (1, _), (24, _)] (fun k wr => Evo [] w2 wr ∧ (True)) (fun k => 0) trivial ⟨rfl, rfl, rfl, trivial⟩ ⟨Evo.refl _ _, trivial⟩ ?_))); rintro k wr8 ⟨hV9, _⟩; show CW _ _ _ _ [(0, _), (1, _), (24, _)] _; have hE10 := hE7.then hV9; have hB11 := hV9.blk0 hB3; refine aE (aB ?_)
  refine EW rfl rfl hB11 (by simp; omega) fun w12 hB13 hw14 => ?_
  have hE15 := hE10.step hw14 hG6.mem1; have hcut := KB s a hlt; refine aF (cO rfl rfl) ?_; refine aC (aA (aE (cM rfl ?_))); refine aX (aA (bS (aE (aB (aF (cO rfl rfl) ?_))))); refine aF (cO rfl rfl) ?_; refine aN (aN (aC (aA (aE (aE (aB (aH (aF (fI rfl rfl) ?_)))))))); refine aH (aU (t := 31) rfl (fun hs31 => ?_) (fun hs31 => ?_))
  ·refine aG (aG (aG (cA ?_))); refine cA ?_; refine cA ?_; refine cA ?_; refine aG (aY (aC (aA (cM rfl ?_)))); refine dW (cJ (CR rfl (cJ (dV (aA ?_))))); refine aE (aB (aN (aN (aC (aA (aO (dE rfl rfl rfl ?_)))))))
   exfalso; omega
  refine aK (aH (aK (aF (bC rfl rfl) ?_))); refine aK (aH (aU (t := 34) rfl (fun hs34 => ?_) (fun hs34 => ?_)))
  ·refine aK (aH (aK (aH (aK ?_)))); refine aP (vs := [_, _]) wS rfl (wG s a (by omega) hl) rfl ?_; rintro _ w17 ⟨rfl, hw18⟩; have hE19 := hE15.then hw18; refine aK (aF (mS rfl) ?_); refine aK (aY (aR (aC (aA (bG rfl (fun hc40 => ?_) (fun hc40 => ?_))))))
   ·refine dW (cJ (CR rfl (cJ (dV (aA ?_))))); refine aE (aB (aN (aN (aC (aA (aO (dE rfl rfl rfl ?_))))))); rw [hcut] at hs34
    exact ⟨by rw [AT hlt (by omega) hc40]; rfl, hE19⟩
   refine aX (aA (aE (aB (aH (aH (aP (vs := [_]) uV rfl (EX _) rfl ?_)))))); rintro _ w21 ⟨rfl, hw22⟩; have hE23 := hE19.then hw22; refine aN (aN (aC (aA (aO (aV (aM (aV (aM (dE rfl rfl rfl ?_))))))))); rw [hcut] at hs34 ⊢; have hg := yQ hlt (.inr (Decidable.not_not.1 hc40))
   exact ⟨by rw [hg.1, hg.2]; rfl, hE23⟩
  refine aG (aG (aG (aG (aK (aR (aR (aC (aA (cN rfl ?_))))))))); refine aX (aA (aE (aB (aH (aH (aP (vs := [_]) uV rfl (EX _) rfl ?_)))))); rintro _ w25 ⟨rfl, hw26⟩; have hE27 := hE15.then hw26; refine aN (aN (aC (aA (aO (aV (aM (aV (aM (dE rfl rfl rfl ?_))))))))); rw [hcut] at hs34 ⊢; have hg := yQ hlt (.inl (by omega))
  exact ⟨by rw [hg.1, hg.2]; rfl, hE27⟩
end Go.Proofs.YtljadkcojnlioaaGreatDoor
namespace Go.Proofs.YtljadkcojnlioaaGreatDoor
open Go.RowKit Go.W
attribute [local irreducible] Decidable.decide
theorem EB : fA Tryz.prog 135 := ⟨_, Tryz.func135, by kernel_rfl, by kernel_rfl⟩
theorem DV : fA Tryz.prog 149 := ⟨_, Tryz.func149, by kernel_rfl, by kernel_rfl⟩
theorem pD : fA Tryz.prog 41 := ⟨_, Tryz.func41, by kernel_rfl, by kernel_rfl⟩
def Bd (s : ByteArray) (i : Nat) : Prop := ∃ N k, Utf s N ∧ k ≤ N ∧ eF s k = i
theorem Bd.le {s : ByteArray} {i : Nat} (h : Bd s i) : i ≤ s.size := by obtain ⟨N, k, _, _, rfl⟩ := h; exact xK s k
theorem Bd.zero {s : ByteArray} {N : Nat} (h : Utf s N) : Bd s 0 := ⟨N, 0, h, Nat.zero_le _, rfl⟩
theorem Bd.next {s : ByteArray} {i : Nat} (h : Bd s i) (hi : i < s.size) : 0 < (cD s i).2 ∧ i + (cD s i).2 ≤ s.size ∧ Bd s (i + (cD s i).2) ∧ 0 ≤ (cD s i).1 ∧ (cD s i).1 ≤ 1114111 := by
  obtain ⟨N, k, hU, hk, rfl⟩ := h
  have hkN : k < N := by
    rcases Nat.lt_or_ge k N with h | h
    · exact h
    · obtain rfl : k = N := by omega
      rw [hU.1] at hi; omega
  have h0 := hU.2 k hkN
  have h1 : Bd s (eF s k + (cD s (eF s k)).2) := ⟨N, k + 1, hU, hkN, rfl⟩
  rcases oG s (eF s k) with h2 | h2
  · rw [h2] at h0; cases h0
  · exact ⟨h0, h1.le, h1, h2.1, h2.2.1⟩
theorem Bd.asc {s : ByteArray} {i : Nat} (h : Bd s i) (hi : i < s.size) (hb : sb s i < 128) : Bd s (i + 1) ∧ (cD s i).1 = (sb s i : Int) ∧ (cD s i).2 = 1 := by
  obtain ⟨h0, h1, h2, h3, h4⟩ := h.next hi
  obtain ⟨h5, h6, h7, h8⟩ := OP h0
  by_cases hc : (cD s i).1 < 128
  · obtain ⟨h9, h10⟩ := h6 hc
    rw [h9] at h2
    exact ⟨h2, h10.symm, h9⟩
  · have := h7 (by omega); omega
theorem isB.asc {s : ByteArray} {i b : Nat} (h : isB s i b) (hb : b < 128) (hd : Bd s i) : Bd s (i + 1) := (hd.asc h.1 (by rw [h.2]; exact hb)).1
theorem xE {w : World} {b : Nat} {s : ByteArray} {st : PS} {a : Option Addr} {c : Nat} {ob : Option Nat} (hR : RdAt w b s st a c ob) (hs : s.size ≤ 1000000) (hb : Bd s st.pos) :
    Calls Tryz.prog 112 #[.pointer (some ⟨b, 0, none⟩)] w (Ret fun v w' => v = .int .i32 (cD s st.pos).1 ∧ Evo [b] w w' ∧ RdAt w' b s (adv st (cD s st.pos).2) a c ob) := by
  have hap := hR.ap; have hle := hb.le
  have hnx : st.pos + (cD s st.pos).2 ≤ s.size + 4 := by rcases oG s st.pos with h | h; rw [h]; (show st.pos + 0 ≤ s.size + 4; omega); omega
  refine bL (N := 26) Tryz.func112 rfl rfl rfl ?_; refine aE (aB (aN (aC (aA (aE ?_))))); refine iM (fun w0 w' => Evo [] w0 w') (by kernel_rfl) (fun w1 hw2 => ?_); have hE3 := (Evo.refl [b] w).then hw2; have hB4 := hw2.blk0 hR.blk; have hO5 := hR.own.evo0 hw2; refine aet 0 rfl (fun _ hS => bH rfl) (Evo.refl [] w1) ?_; refine aet 1 rfl (fun _ hS => aQ rfl) (Evo.refl [] w1) ?_; refine aet 2 rfl (fun _ hS => aD rfl dK) (Evo.refl [] w1) ?_; refine aet 3 rfl (fun _ hS => aI rfl cL (aJ (hS.blk0 hB4) rfl)) (Evo.refl [] w1) ?_; refine aet 4 rfl (fun _ hS => bH rfl) (Evo.refl [] w1) ?_; refine aet 5 rfl (fun _ hS => aQ rfl) (Evo.refl [] w1) ?_; refine aet 6 rfl (fun _ hS => aD rfl bF) (Evo.refl [] w1) ?_; refine aet 7 rfl (fun _ hS => aI rfl aW (aJ (hS.blk0 hB4) rfl)) (Evo.refl [] w1) ?_; refine cK [8] (by kernel_rfl) rfl ⟨?_, trivial⟩; refine cP rfl ?_; refine aP (vs := [_, _]) EB rfl (next_ok s st.pos hle (by omega)) rfl ?_; rintro _ w6 ⟨rfl, hw7⟩; have hE8 := hE3.then hw7; have hE9 := (Evo.refl [] w1).then hw7; have hB10 := hw7.blk0 hB4; have hO11 := hO5.evo0 hw7; refine aC (cC (.inl hE9) ?_)
  refine aet 9 rfl (fun _ hS => bH rfl) hE9 ?_; refine aet 10 rfl (fun _ hS => cO rfl rfl) hE9 ?_; refine aet 11 rfl (fun _ hS => cO rfl rfl) hE9 ?_; refine aet 12 rfl (fun _ hS => eV rfl) hE9 ?_; refine aet 13 rfl (fun _ hS => eV rfl) hE9 ?_; refine eQ (by kernel_rfl) (aA ?_); refine aE (aB (aH (aF (aQ rfl) (aF (aD rfl bF) (aF (aI rfl aW (aJ hB10 rfl)) (aH ?_)))))); refine aF (bE rfl rfl (by omega) (by omega)) ?_; refine aF (aQ rfl) (aF (aD rfl bF) (bI rfl rfl (rfl) bT hB10 rfl fun w12 hB13 hw14 => ?_)); have hE15 := hE8.step hw14 (fun y hy => .inl hy); have hO16 := hO11.evo hw14 hap.symm.own1
  try simp only [cV, Nat.reduceAdd] at hB13
  refine aC (aA (aE (aB (aH (aN (aC (aA (aO (br1 ?_))))))))); exact ⟨rfl, hE15, hB13, hO16, hR.ne⟩
theorem hexD_lo {c d : Nat} (h : hexD c = some d) : c < 128 ∧ d < 16 := by
  unfold hexD at h
  split at h
  · cases h; omega
  · split at h
    · cases h; omega
    · split at h
      · cases h; omega
      · cases h
theorem xJ {s : ByteArray} {i d j : Nat} (h : hD s i = .ok (d, j)) (hb : Bd s i) : Bd s j ∧ j = i + 1 ∧ d < 16 := by
  unfold hD at h
  split at h
  · rename_i hi
    split at h
    · rename_i d' hd
      cases h
      obtain ⟨h1, h2⟩ := hexD_lo hd
      exact ⟨(hb.asc hi h1).1, rfl, h2⟩
    · cases h
  · cases h
theorem LK {s : ByteArray} : ∀ {f n i m j : Nat}, kO s f n i = .ok (m, j) → Bd s i → n ≤ 1114111 → Bd s j ∧ i < j ∧ m ≤ 1114111
  | 0, n, i, m, j, h, _, _ => by cases h
  | f + 1, n, i, m, j, h, hb, hn => by
    rw [kO] at h
    split at h
    · rename_i hi
      cases h
      exact ⟨hi.asc (by decide) hb, by omega, hn⟩
    · split at h
      · cases h
      · rename_i d k hd
        obtain ⟨h1, h2, h3⟩ := xJ hd hb
        split at h
        · cases h
        · obtain ⟨h4, h5, h6⟩ := LK h h1 (by omega)
          exact ⟨h4, by omega, h6⟩
theorem pHex_b {s : ByteArray} {i m j : Nat} (h : oE s i = .ok (m, j)) (hb : Bd s i) : Bd s j ∧ i < j ∧ m ≤ 1114111 := by
  unfold oE at h
  split at h
  · rename_i hi
    split at h
    · cases h
    · rename_i d k hd
      obtain ⟨h1, h2, h3⟩ := xJ hd (hi.asc (by decide) hb)
      obtain ⟨h4, h5, h6⟩ := LK h h1 (by omega)
      exact ⟨h4, by omega, h6⟩
  · split at h
    · cases h
    · rename_i d k hd
      obtain ⟨h1, h2, h3⟩ := xJ hd hb
      split at h
      · cases h
      · rename_i e q he
        cases h
        obtain ⟨h4, h5, h6⟩ := xJ he h1
        exact ⟨h4, by omega, by omega⟩
def GU (c : Nat) : Int := if c = 97 then 0 else if c = 102 then 1 else if c = 116 then 2 else if c = 110 then 3 else if c = 114 then 4 else if c = 118 then 5 else -1
def escT : ByteArray := ByteArray.mk #[7, 12, 9, 10, 13, 11]
theorem UE {c : Nat} (h : 0 ≤ GU c) : ∃ k, GU c = ((k : Nat) : Int) ∧ k < escT.size ∧ uM c = some (sb escT k) ∧ sb escT k < 128 := by
  unfold GU at *
  unfold uM
  by_cases h1 : c = 97
  · subst h1; exact ⟨0, rfl, by decide, rfl, by decide⟩
  · by_cases h2 : c = 102
    · subst h2; exact ⟨1, rfl, by decide, rfl, by decide⟩
    · by_cases h3 : c = 116
      · subst h3; exact ⟨2, rfl, by decide, rfl, by decide⟩
      · by_cases h4 : c = 110
        · subst h4; exact ⟨3, rfl, by decide, rfl, by decide⟩
        · by_cases h5 : c = 114
          · subst h5; exact ⟨4, rfl, by decide, rfl, by decide⟩
          · by_cases h6 : c = 118
            · subst h6; exact ⟨5, rfl, by decide, rfl, by decide⟩
            · rw [if_neg h1, if_neg h2, if_neg h3, if_neg h4, if_neg h5, if_neg h6] at h; omega
theorem escI_no {c : Nat} (h : ¬ 0 ≤ GU c) : uM c = none := by
  unfold GU at h
  unfold uM
  by_cases h1 : c = 97
  · subst h1; exact (h (by decide)).elim
  · by_cases h2 : c = 102
    · subst h2; exact (h (by decide)).elim
    · by_cases h3 : c = 116
      · subst h3; exact (h (by decide)).elim
      · by_cases h4 : c = 110
        · subst h4; exact (h (by decide)).elim
        · by_cases h5 : c = 114
          · subst h5; exact (h (by decide)).elim
          · by_cases h6 : c = 118
            · subst h6; exact (h (by decide)).elim
            · rw [if_neg h1, if_neg h2, if_neg h3, if_neg h4, if_neg h5, if_neg h6]
theorem escIdx (c : Nat) (hc : c < 256) : Go.Lib.indexByte [97, 102, 116, 110, 114, 118] ((c : Int)).toNat.toUInt8 = GU c := by
  have h : ∀ c : Fin 256, Go.Lib.indexByte [97, 102, 116, 110, 114, 118] ((c.1 : Int)).toNat.toUInt8 = GU c.1 := by decide +kernel
  exact h ⟨c, hc⟩
theorem OR {w : World} (c : Nat) (hc : c < 256) : Calls Tryz.prog 41 #[.string (ByteArray.mk #[97, 102, 116, 110, 114, 118]), .int .u8 (c : Nat)] w (Ret fun v w' => v = iv (GU c) ∧ Evo [] w w') := by
  refine (kD _ _ w).mono ?_
  rintro e w' ⟨rfl, rfl⟩
  exact ⟨_, rfl, congrArg iv (escIdx c hc), Evo.refl _ _⟩
theorem FI {s : ByteArray} {i : Nat} (h : s.size ≤ i + 1) : lU s i = .error 83 := by unfold lU; rw [if_pos h]
theorem pEsc_c {s : ByteArray} {i v : Nat} (h : ¬ s.size ≤ i + 1) (h2 : uM (sb s (i + 1)) = some v) : lU s i = .ok (v, i + 2) := by unfold lU; rw [if_neg h, h2]
theorem RT {s : ByteArray} {i : Nat} (h : ¬ s.size ≤ i + 1) (h2 : sb s (i + 1) = 120) : lU s i = oE s (i + 2) := by
  unfold lU; rw [if_neg h, h2, show uM 120 = none from rfl]; rfl
theorem FJ {s : ByteArray} {i : Nat} (h : ¬ s.size ≤ i + 1) (h2 : uM (sb s (i + 1)) = none) (h3 : sb s (i + 1) ≠ 120) (h4 : 128 ≤ sb s (i + 1) ∨ (fT (sb s (i + 1)) ∧ sb s (i + 1) ≠ 95)) : lU s i = .error 83 := by
  unfold lU; rw [if_neg h, h2]; show (if sb s (i + 1) = 120 then _ else _) = _; rw [if_neg h3, if_pos h4]
theorem LL {s : ByteArray} {i : Nat} (h : ¬ s.size ≤ i + 1) (h2 : uM (sb s (i + 1)) = none) (h3 : sb s (i + 1) ≠ 120) (h4 : ¬ (128 ≤ sb s (i + 1) ∨ (fT (sb s (i + 1)) ∧ sb s (i + 1) ≠ 95))) : lU s i = .ok (sb s (i + 1), i + 2) := by
  unfold lU; rw [if_neg h, h2]; show (if sb s (i + 1) = 120 then _ else _) = _; rw [if_neg h3, if_neg h4]
theorem escC_lo {c v : Nat} (h : uM c = some v) : c < 128 := by
  unfold uM at h
  by_cases h1 : c < 128
  · exact h1
  · rw [if_neg (by omega), if_neg (by omega), if_neg (by omega), if_neg (by omega), if_neg (by omega), if_neg (by omega)] at h; cases h
theorem BX {s : ByteArray} {i n j : Nat} (h : lU s i = .ok (n, j)) (hb : Bd s i) (h0 : sb s i = 92) : Bd s j ∧ i < j ∧ n ≤ 1114111 := by
  have hi : i < s.size := by
    rcases Nat.lt_or_ge i s.size with h1 | h1
    · exact h1
    · rw [FI (by omega)] at h; cases h
  have hb1 := (hb.asc hi (by omega)).1
  unfold lU at h
  split at h
  · cases h
  · rename_i h1
    split at h
    · rename_i v hv
      cases h
      have hv2 : n < 128 := by
        unfold uM at hv
        split at hv
        · cases hv; omega
        · split at hv
          · cases hv; omega
          · split at hv
            · cases hv; omega
            · split at hv
              · cases hv; omega
              · split at hv
                · cases hv; omega
                · split at hv
                  · cases hv; omega
                  · cases hv
      exact ⟨(hb1.asc (by omega) (escC_lo hv)).1, by omega, by omega⟩
    · split at h
      · rename_i hx
        obtain ⟨h2, h3, h4⟩ := pHex_b h ((hb1.asc (by omega) (by omega)).1)
        exact ⟨h2, by omega, h4⟩
      · split at h
        · cases h
        · rename_i h5
          cases h
          exact ⟨(hb1.asc (by omega) (by omega)).1, by omega, by omega⟩
theorem zF {w : World} {b : Nat} {s : ByteArray} {st : PS} {a : Option Addr} {c : Nat} {ob : Option Nat} (hR : RdAt w b s st a c ob) (hs : s.size ≤ 1000000) (hlt : st.pos < s.size) :
    Calls Tryz.prog 134 #[.pointer (some ⟨b, 0, none⟩)] w (RetP (fun v w' => ∃ n j, lU s st.pos = .ok (n, j) ∧ v = .int .i32 (n : Nat) ∧ Evo [b] w w' ∧ RdAt w' b s (gZ st j) a c ob) (fun v w' => lU s st.pos = .error 83 ∧ v = flt 83 ∧ Evo [b] w w')) := by
  have hap := hR.ap; have hb9 := jC s (st.pos + 1); refine bL (N := 63) Tryz.func134 rfl rfl rfl ?_; refine aE (aB (aN (aC (aA (aE (aB (aH (aF (aQ rfl) (aF (aD rfl bF) (aF (aI rfl aW (aJ hR.blk rfl)) ?_)))))))))); refine aF (bE rfl rfl (by omega) (by omega)) ?_; refine aF (aQ rfl) (aF (aD rfl bF) (bI rfl rfl (rfl) bT hR.blk rfl fun w1 hB2 hw3 => ?_)); have hE4 := (Evo.refl [b] w).step hw3 (fun y hy => .inl hy); have hO5 := hR.own.evo hw3 hap.symm.own1
  try simp only [cV, Nat.reduceAdd] at hB2
  refine aC (aA (aE (aE ?_))); refine fJ (by kernel_rfl) (by kernel_rfl) ?_; refine bJ (fun _ hq7 => bH rfl) ?_; refine bJ (fun _ hq7 => aQ rfl) ?_; refine bJ (fun _ hq7 => aD rfl bF) ?_; refine bJ (fun _ hq7 => aI rfl aW (aJ (hq7.blk0 hB2) rfl)) ?_; refine bJ (fun _ hq7 => bH rfl) ?_; refine bJ (fun _ hq7 => aQ rfl) ?_; refine bJ (fun _ hq7 => aD rfl dK) ?_; refine bJ (fun _ hq7 => aI rfl cL (aJ (hq7.blk0 hB2) rfl)) ?_; refine bJ (fun _ hq7 => cT rfl Tryz.underlying9 rfl) ?_; refine bJ (fun _ hq7 => bC rfl rfl) ?_; refine fO (fun wq6 hq7 => aA ?_); have hE8 := hE4.then hq7; have hB9 := hq7.blk0 hB2; have hO10 := hO5.evo0 hq7; refine bG rfl (fun hc21 => ?_) (fun hc21 => ?_)
  ·refine aB (bX (vs := [_]) cY rfl (eR 83) rfl ?_ ?_)
   ·intro pv wp hpp; obtain ⟨rfl, hpw⟩ := hpp; exact And.intro rfl ⟨_, rfl, FI (by omega), rfl, (hE8).then hpw⟩
   intro _ _ hF; exact hF.elim
  have hlt2 : st.pos + 1 < s.size := by omega
  have hle2 : ¬ s.size ≤ st.pos + 1 := by omega
  refine aX (aA (aE ?_)); refine fJ (by kernel_rfl) (by kernel_rfl) ?_; refine bJ (fun _ hq14 => bH rfl) ?_; refine bJ (fun _ hq14 => aQ rfl) ?_; refine bJ (fun _ hq14 => aD rfl dK) ?_; refine bJ (fun _ hq14 => aI rfl cL (aJ (hq14.blk0 hB9) rfl)) ?_; refine bJ (fun _ hq14 => bH rfl) ?_; refine bJ (fun _ hq14 => aQ rfl) ?_; refine bJ (fun _ hq14 => aD rfl bF) ?_; refine bJ (fun _ hq14 => aI rfl aW (aJ (hq14.blk0 hB9) rfl)) ?_; refine bJ (fun _ hq14 => gH (n := st.pos + 1) rfl rfl Tryz.underlying9 rfl hlt2) ?_; refine bJ (fun _ hq14 => eV rfl) ?_; refine fO (fun wq13 hq14 => aA ?_); have hE15 := hE8.then hq14; have hB16 := hq14.blk0 hB9; have hO17 := hO10.evo0 hq14; refine aE (aB (aH (aF (aQ rfl) (aF (aD rfl bF) (aF (aI rfl aW (aJ hB16 rfl)) ?_))))); refine aF (bE rfl rfl (by omega) (by omega)) ?_; refine aF (aQ rfl) (aF (aD rfl bF) (bI rfl rfl (rfl) bT hB16 rfl fun w18 hB19 hw20 => ?_)); have hE21 := hE15.step hw20 (fun y hy => .inl hy); have hO22 := hO17.evo hw20 hap.symm.own1
  try simp only [cV, Nat.reduceAdd] at hB19
  refine aC (aA (aE (aE (aB (aH (aP (vs := [_, _]) pD rfl (OR (sb s (st.pos + 1)) hb9) rfl ?_)))))); rintro _ w23 ⟨rfl, hw24⟩; have hE25 := hE21.then hw24; have hB26 := hw24.blk0 hB19; have hO27 := hO22.evo0 hw24; refine aN (aC (aA (aE (aB (aH (aF (fG rfl rfl) ?_)))))); refine aC (aA (bG rfl (fun hc42 => ?_) (fun hc42 => ?_)))
  ·obtain ⟨k, hk1, hk2, hk3, hk4⟩ := UE hc42; refine aE (aB (aH (aF (gH (s := escT) (n := k) rfl rfl Tryz.underlying9 hk1 hk2) ?_))); refine aF (iV rfl Tryz.underlying5 Tryz.underlying21 (zW (by omega) (by omega)).1 (zW (by omega) (by omega)).2) ?_; refine aN (aC (aA (aO (aM (bW (br1 ?_)))))); exact ⟨_, _, pEsc_c hle2 hk3, rfl, hE25, ⟨hB26, hO27, hR.ne⟩⟩
  have hno := escI_no hc42; refine aX (aA (aE (aE (aB (aH (aF (bC rfl rfl) ?_)))))); refine aC (aA (bG rfl (fun hc47 => ?_) (fun hc47 => ?_)))
  ·refine aE (aB (aH (bX (vs := [_]) DV rfl (hex_ok (st := gZ st (st.pos + 1 + 1)) ⟨hB26, hO27, hR.ne⟩ hs) rfl ?_ ?_)))
   ·intro pv wp hpp; obtain ⟨hpe, rfl, hpw⟩ := hpp; exact And.intro rfl ⟨_, rfl, (RT hle2 (by omega)).trans hpe, rfl, (hE25).step hpw (fun y hy => .inl hy)⟩
   rintro _ w28 ⟨n, j, hx, rfl, hw29, hR2⟩; have hE30 := hE25.step hw29 (fun y hy => .inl hy); refine aN (aC (aA (aO (aM (bW (br1 ?_)))))); exact ⟨_, _, (RT hle2 (by omega)).trans hx, rfl, hE30, hR2⟩
  have hnx : sb s (st.pos + 1) ≠ 120 := by omega
  refine aX (aA (aE (aE (aB (aH (aF (fG rfl rfl) ?_)))))); refine aH (aU (t := 52) rfl (fun hs52 => ?_) (fun hs52 => ?_))
  ·refine aG (aG (aG (cA ?_))); refine cA ?_; refine aG (aY (aC (aA (cM rfl ?_)))); refine aB (bX (vs := [_]) cY rfl (eR 83) rfl ?_ ?_)
   ·intro pv wp hpp; obtain ⟨rfl, hpw⟩ := hpp; exact And.intro rfl ⟨_, rfl, FJ hle2 hno hnx (by omega), rfl, (hE25).then hpw⟩
   intro _ _ hF; exact hF.elim
  refine aK (aH (aK (aP (vs := [_]) nR rfl (xC (sb s (st.pos + 1))) rfl ?_))); rintro _ w33 ⟨rfl, hw34⟩; have hE35 := hE25.then hw34; have hB36 := hw34.blk0 hB26; have hO37 := hO27.evo0 hw34; refine aK (aH (aU (t := 55) rfl (fun hs55 => ?_) (fun hs55 => ?_)))
  ·refine aK (aH (aK (aF (fH rfl rfl) ?_))); refine aK (aY (aR (aC (aA (bG rfl (fun hc59 => ?_) (fun hc59 => ?_))))))
   ·refine aB (bX (vs := [_]) cY rfl (eR 83) rfl ?_ ?_)
    ·intro pv wp hpp; obtain ⟨rfl, hpw⟩ := hpp
     exact And.intro rfl ⟨_, rfl, FJ hle2 hno hnx (by right; exact ⟨hs55, by omega⟩), rfl, (hE35).then hpw⟩
    intro _ _ hF; exact hF.elim
   refine aX (aA (aE (aB (aH ?_)))); refine aF (iV rfl Tryz.underlying5 Tryz.underlying21 (zW (by omega) (by omega)).1 (zW (by omega) (by omega)).2) ?_; refine aN (aC (aA (aO (bW (br1 ?_)))))
   exact ⟨_, _, LL hle2 hno hnx (by rintro (h1 | ⟨h1, h2⟩); omega; first | exact hs55 h1 | (exact hc59 (by omega))), rfl, hE35, ⟨hB36, hO37, hR.ne⟩⟩
  refine aG (aG (aK (aR (aR (aC (aA (cN rfl ?_))))))); refine aX (aA (aE (aB (aH ?_)))); refine aF (iV rfl Tryz.underlying5 Tryz.underlying21 (zW (by omega) (by omega)).1 (zW (by omega) (by omega)).2) ?_; refine aN (aC (aA (aO (bW (br1 ?_)))))
  exact ⟨_, _, LL hle2 hno hnx (by rintro (h1 | ⟨h1, h2⟩); omega; first | exact hs55 h1 | (exact hc59 (by omega))), rfl, hE35, ⟨hB36, hO37, hR.ne⟩⟩
end Go.Proofs.YtljadkcojnlioaaGreatDoor
namespace Go.Proofs.YtljadkcojnlioaaGreatDoor
open Go.RowKit Go.W
theorem gF {s : ByteArray} {a b : Nat} (h : b ≤ s.size) : (s.extract a b).size = b - a := by rw [ByteArray.size_extract]; omega
theorem HA (s : ByteArray) (j : Nat) : (s.extract j s.size).data.toList = s.data.toList.drop j := by
  rw [ByteArray.data_extract]
  have : s.size = s.data.size := rfl
  rw [this]
  simp only [Array.toList_extract, List.extract]
  exact List.take_of_length_le (by simp)
theorem KZ (s : ByteArray) {n : Nat} (h : n < s.size) : s.data.toList[n]? = some (UInt8.ofNat (sb s n)) := by
  have h' : n < s.data.size := h
  rw [Array.getElem?_toList, Array.getElem?_eq_getElem h', pF s n h]
  show some s.data[n] = some (UInt8.ofNat (s.data[n]).toNat)
  rw [UInt8.ofNat_toNat]
def Occ (s : ByteArray) (a b k : Nat) : Prop := k + 1 < s.size ∧ sb s k = a ∧ sb s (k + 1) = b
instance (s : ByteArray) (a b k : Nat) : Decidable (Occ s a b k) := by unfold Occ; infer_instance
theorem PZ {a b : Nat} (ha : a < 256) (hb : b < 256) (h : UInt8.ofNat a = UInt8.ofNat b) : a = b := by
  have := congrArg UInt8.toNat h
  rw [UInt8.toNat_ofNat', UInt8.toNat_ofNat'] at this
  omega
theorem JK {s : ByteArray} {a b j i : Nat} (ha : a < 256) (hb : b < 256) (hj : j ≤ s.size) : Go.Lib.occAt (s.extract j s.size).data.toList [UInt8.ofNat a, UInt8.ofNat b] i = decide (Occ s a b (j + i)) := by
  unfold Go.Lib.occAt
  rw [HA, List.drop_drop]
  have hlen : s.data.toList.length = s.size := by simp
  by_cases h : j + i + 1 < s.size
  · have e : s.data.toList.drop (j + i) = UInt8.ofNat (sb s (j + i)) :: UInt8.ofNat (sb s (j + i + 1)) :: s.data.toList.drop (j + i + 2) := by
      have h0 := KZ s (n := j + i) (by omega)
      have h1 := KZ s (n := j + i + 1) h
      obtain ⟨h2, h3⟩ := List.getElem?_eq_some_iff.1 h0
      obtain ⟨h4, h5⟩ := List.getElem?_eq_some_iff.1 h1
      rw [List.drop_eq_getElem_cons h2, List.drop_eq_getElem_cons h4, h3, h5]
    rw [e]
    have l1 := jC s (j + i)
    have l2 := jC s (j + i + 1)
    simp only [List.isPrefixOf, Bool.and_true]
    rw [Bool.eq_iff_iff]
    simp only [Bool.and_eq_true, beq_iff_eq, decide_eq_true_eq]
    unfold Occ
    constructor
    · rintro ⟨h6, h7⟩; exact ⟨h, (PZ ha l1 h6).symm, (PZ hb l2 h7).symm⟩
    · rintro ⟨-, h6, h7⟩; rw [h6, h7]; exact ⟨rfl, rfl⟩
  · rw [decide_eq_false (fun h2 => h h2.1)]
    have hl : (s.data.toList.drop (j + i)).length < 2 := by rw [List.length_drop, hlen]; omega
    match s.data.toList.drop (j + i), hl with
    | [], _ => rfl
    | [x], _ => simp [List.isPrefixOf]
theorem pA (s : ByteArray) (a b : Nat) : ∀ (f j : Nat), s.size ≤ j + f → (∀ k, lG s a b f j = some k → j ≤ k ∧ Occ s a b k ∧ ∀ m, j ≤ m → m < k → ¬ Occ s a b m) ∧ (lG s a b f j = none → ∀ m, j ≤ m → ¬ Occ s a b m)
  | 0, j, hf => ⟨(fun k h => by cases h), fun _ m hm ho => by have := ho.1; omega⟩
  | f + 1, j, hf => by
    obtain ⟨i1, i2⟩ := pA s a b f (j + 1) (by omega)
    rw [lG]
    by_cases h : j + 1 < s.size ∧ sb s j = a ∧ sb s (j + 1) = b
    · rw [if_pos h]
      exact ⟨fun k hk => by cases hk; exact ⟨Nat.le_refl _, h, fun m h1 h2 => by omega⟩, fun h2 => by cases h2⟩
    · rw [if_neg h]
      refine ⟨fun k hk => ?_, fun hk m hm ho => ?_⟩
      · obtain ⟨h1, h2, h3⟩ := i1 k hk
        exact ⟨by omega, h2, fun m h4 h5 ho => by
          rcases Nat.eq_or_lt_of_le h4 with e | e
          · subst e; exact h ho
          · exact h3 m e h5 ho⟩
      · rcases Nat.eq_or_lt_of_le hm with e | e
        · subst e; exact h ho
        · exact i2 hk m e ho
def GN (s : ByteArray) (a b j : Nat) : Int := match lG s a b s.size j with | none => -1 | some k => (k : Int) - j
theorem idx_two {s : ByteArray} {a b j : Nat} (ha : a < 256) (hb : b < 256) (hj : j ≤ s.size) : Go.Lib.index (s.extract j s.size).data.toList [UInt8.ofNat a, UInt8.ofNat b] = GN s a b j := by
  obtain ⟨h1, h2⟩ := pA s a b s.size j (by omega)
  have hlen : (s.extract j s.size).data.toList.length = s.size - j := by rw [HA, List.length_drop]; simp
  unfold GN
  cases h : lG s a b s.size j with
  | none =>
    refine Go.Lib.index_none fun i _ => ?_
    rw [JK ha hb hj]
    exact decide_eq_false (h2 h _ (by omega))
  | some k =>
    obtain ⟨h3, h4, h5⟩ := h1 k h
    have e : (k : Int) - j = ((k - j : Nat) : Int) := by omega
    show _ = (k : Int) - j
    rw [e]
    refine Go.Lib.index_first (by rw [hlen]; have := h4.1; omega) ?_ fun i hi => ?_
    · rw [JK ha hb hj, show j + (k - j) = k by omega]; exact decide_eq_true h4
    · rw [JK ha hb hj]; exact decide_eq_false (h5 _ (by omega) (by omega))
theorem tR {s t : ByteArray} (h : s.size = t.size) (h2 : ∀ k, k < s.size → sb s k = sb t k) : s = t := by
  apply ByteArray.ext
  apply Array.ext h
  intro i h3 h4
  have h5 := h2 i h3
  rw [pF s i h3, pF t i h4] at h5
  have : (s.data[i]).toNat = (t.data[i]).toNat := h5
  exact UInt8.toNat_inj.1 this
theorem xG {t p : ByteArray} {i : Nat} (hi : i ≤ t.size) : (p.size ≤ (t.extract i t.size).size ∧ (t.extract i t.size).extract 0 p.size = p) ↔ ∀ k, k < p.size → isB t (i + k) (sb p k) := by
  have hs := gF (s := t) (a := i) (Nat.le_refl t.size)
  constructor
  · rintro ⟨h1, h2⟩ k hk
    refine ⟨by omega, ?_⟩
    have e : sb ((t.extract i t.size).extract 0 p.size) k = sb p k := by rw [h2]
    rw [eH h1 (by omega), Nat.zero_add, eH (Nat.le_refl _) (by omega)] at e
    exact e
  · intro h
    have h1 : p.size ≤ (t.extract i t.size).size := by
      rcases Nat.eq_zero_or_pos p.size with h0 | h0
      · omega
      · have := (h (p.size - 1) (by omega)).1; omega
    refine ⟨h1, tR (by rw [gF h1]; omega) fun k hk => ?_⟩
    rw [gF h1] at hk
    rw [eH h1 (by omega), Nat.zero_add, eH (Nat.le_refl _) (by omega)]
    exact (h k (by omega)).2
end Go.Proofs.YtljadkcojnlioaaGreatDoor
namespace Go.Proofs.YtljadkcojnlioaaGreatDoor
open Go.RowKit Go.W
attribute [local irreducible] Decidable.decide
theorem nT : fA Tryz.prog 112 := ⟨_, Tryz.func112, by kernel_rfl, by kernel_rfl⟩
theorem uY : fA Tryz.prog 134 := ⟨_, Tryz.func134, by kernel_rfl, by kernel_rfl⟩
theorem uU : fA Tryz.prog 158 := ⟨_, Tryz.func158, by kernel_rfl, by kernel_rfl⟩
theorem DS : fA Tryz.prog 160 := ⟨_, Tryz.func160, by kernel_rfl, by kernel_rfl⟩
theorem TS {s : ByteArray} {i k : Nat} (h : i ≤ s.size) : (s.extract i s.size).extract k (s.extract i s.size).size = s.extract (i + k) s.size := by
  have hs := gF (s := s) (a := i) (Nat.le_refl s.size)
  rcases Nat.lt_or_ge s.size (i + k) with hk | hk
  · apply tR
    · rw [gF (Nat.le_refl _), gF (Nat.le_refl _), gF (Nat.le_refl _)]; omega
    · intro j hj; rw [gF (Nat.le_refl _), hs] at hj; omega
  · apply tR
    · rw [gF (Nat.le_refl _), gF (Nat.le_refl _), gF (Nat.le_refl _)]; omega
    · intro j hj
      rw [gF (Nat.le_refl _), hs] at hj
      rw [eH (Nat.le_refl _) (by rw [hs]; omega), eH (Nat.le_refl _) (by omega), eH (Nat.le_refl _) (by omega), Nat.add_assoc]
theorem zC {s : ByteArray} {i k m : Nat} (h : i + m ≤ s.size) (hk : k ≤ m) : (s.extract i s.size).extract k m = s.extract (i + k) (i + m) := by
  have hs := gF (s := s) (a := i) (Nat.le_refl s.size)
  apply tR
  · rw [gF (by rw [hs]; omega), gF h]; omega
  · intro j hj
    rw [gF (by rw [hs]; omega)] at hj
    rw [eH (by rw [hs]; omega) (by omega), eH (Nat.le_refl _) (by omega), eH h (by omega), Nat.add_assoc]
theorem gX {s : ByteArray} {i k : Nat} (h : i + k < s.size) : sb (s.extract i s.size) k = sb s (i + k) := eH (Nat.le_refl _) h
def Pre (t p : ByteArray) : Prop := p.size ≤ t.size ∧ t.extract 0 p.size = p
instance (t p : ByteArray) : Decidable (Pre t p) := by unfold Pre; infer_instance
theorem pre1 {t : ByteArray} {x : UInt8} {i : Nat} (hi : i ≤ t.size) : Pre (t.extract i t.size) (ByteArray.mk #[x]) ↔ isB t i x.toNat := by
  unfold Pre
  rw [xG hi]
  constructor
  · intro h; exact h 0 (by show 0 < 1; omega)
  · intro h k hk
    have hk' : k < 1 := hk
    obtain rfl : k = 0 := by omega
    exact h
theorem nH {t : ByteArray} {x y : UInt8} {i : Nat} (hi : i ≤ t.size) : Pre (t.extract i t.size) (ByteArray.mk #[x, y]) ↔ isB t i x.toNat ∧ isB t (i + 1) y.toNat := by
  unfold Pre
  rw [xG hi]
  constructor
  · intro h; exact ⟨h 0 (by show 0 < 2; omega), h 1 (by show 1 < 2; omega)⟩
  · rintro ⟨h0, h1⟩ k hk
    have hk' : k < 2 := hk
    match k, hk' with
    | 0, _ => exact h0
    | 1, _ => exact h1
theorem pre3 {t : ByteArray} {x y z : UInt8} {i : Nat} (hi : i ≤ t.size) : Pre (t.extract i t.size) (ByteArray.mk #[x, y, z]) ↔ isB t i x.toNat ∧ isB t (i + 1) y.toNat ∧ isB t (i + 2) z.toNat := by
  unfold Pre
  rw [xG hi]
  constructor
  · intro h; exact ⟨h 0 (by show 0 < 3; omega), h 1 (by show 1 < 3; omega), h 2 (by show 2 < 3; omega)⟩
  · rintro ⟨h0, h1, h2⟩ k hk
    have hk' : k < 3 := hk
    match k, hk' with
    | 0, _ => exact h0
    | 1, _ => exact h1
    | 2, _ => exact h2
theorem pre4 {t : ByteArray} {x y z u : UInt8} {i : Nat} (hi : i ≤ t.size) : Pre (t.extract i t.size) (ByteArray.mk #[x, y, z, u]) ↔ isB t i x.toNat ∧ isB t (i + 1) y.toNat ∧ isB t (i + 2) z.toNat ∧ isB t (i + 3) u.toNat := by
  unfold Pre
  rw [xG hi]
  constructor
  · intro h; exact ⟨h 0 (by show 0 < 4; omega), h 1 (by show 1 < 4; omega), h 2 (by show 2 < 4; omega), h 3 (by show 3 < 4; omega)⟩
  · rintro ⟨h0, h1, h2, h3⟩ k hk
    have hk' : k < 4 := hk
    match k, hk' with
    | 0, _ => exact h0
    | 1, _ => exact h1
    | 2, _ => exact h2
    | 3, _ => exact h3
theorem QZ {t : ByteArray} {x : UInt8} : Pre t (ByteArray.mk #[x]) ↔ isB t 0 x.toNat := by
  have h := pre1 (t := t) (x := x) (i := 0) (Nat.zero_le _)
  rwa [ByteArray.extract_zero_size] at h
def oR : Nat := 0
def Glb (w : World) : Prop := ∃ m : Int, w.cell? ⟨oR, 0, none⟩ = some (.int .i64 m)
theorem Glb.evo {X : List Nat} {w w' : World} (h : Glb w) (he : Evo X w w') (hx : oR ∉ X) : Glb w' := by obtain ⟨m, h⟩ := h; exact ⟨m, he.cell h hx⟩
theorem RdAt.glb {w : World} {b : Nat} {s : ByteArray} {st : PS} {a : Option Addr} {c : Nat} {ob : Option Nat} (h : RdAt w b s st a c ob) (hg : Glb w) : b ≠ oR := fun e => by
  obtain ⟨m, hm⟩ := hg
  subst e
  have := iK (o := 0) h.blk (v := .string s) rfl
  rw [this] at hm; cases hm
theorem ML {w : World} (s : ByteArray) (x y : UInt8) (j : Nat) (hj : j ≤ s.size) (hs : s.size ≤ 1000000) (hg : Glb w) : Calls Tryz.prog 144 #[.string (s.extract j s.size), .string (ByteArray.mk #[x, y])] w (Ret fun v w' => v = iv (GN s x.toNat y.toNat j) ∧ Evo [] w w') := by
  obtain ⟨m, hm⟩ := hg
  refine (tT _ _ m w (by rw [gF (Nat.le_refl _)]; omega) hm).mono ?_
  rintro e w' ⟨rfl, rfl⟩
  have h := idx_two (s := s) (a := x.toNat) (b := y.toNat) (j := j) x.toNat_lt y.toNat_lt hj
  rw [UInt8.ofNat_toNat, UInt8.ofNat_toNat] at h
  exact ⟨_, rfl, congrArg iv h, Evo.refl _ _⟩
theorem GF {w : World} (s p : ByteArray) (hs : s.size ≤ 140737488355328) (hp : p.size ≤ 140737488355328) : Calls Tryz.prog 158 #[.string s, .string p] w (Ret fun v w' => v = .bool (decide (Pre s p)) ∧ Evo [] w w') := by
  refine bL (N := 18) Tryz.func158 rfl rfl rfl ?_; refine aE (aB (aN (aC (aA (aE (aB (aH (aF (cT rfl Tryz.underlying9 rfl) ?_)))))))); refine aH (aF (cT rfl Tryz.underlying9 rfl) ?_); refine aF (fG rfl rfl) ?_; refine aH (aU (t := 10) rfl (fun hs10 => ?_) (fun hs10 => ?_))
  ·refine aK (aH (aK (aH (aK (aF (cT rfl Tryz.underlying9 rfl) ?_))))); refine aK ?_; refine aF (OZ (h := p.size) rfl rfl Tryz.underlying9 rfl (by omega)) ?_; refine aK (aH (aK (aF (gI rfl rfl) ?_))); refine aY (aN (aC (aA (aO (br1 ?_))))); refine ⟨congrArg Value.bool (decide_eq_decide.2 ?_), (Evo.refl [] w)⟩; exact ⟨fun h => ⟨by omega, h⟩, fun h => h.2⟩
  refine aG (aG (aG (aG (aG (aG (aR (aN (aC (aA (aO (br1 ?_)))))))))))
  exact ⟨congrArg Value.bool (decide_eq_false (fun h => by have := h.1; omega)).symm, (Evo.refl [] w)⟩
theorem xM {w : World} (s p : ByteArray) (hs : s.size ≤ 140737488355328) (hp : p.size ≤ 140737488355328) : Calls Tryz.prog 142 #[.string s, .string p] w (Ret fun v w' => v = .bool (decide (Pre s p)) ∧ Evo [] w w') := by
  refine bL (N := 8) Tryz.func142 rfl rfl rfl ?_; refine aE (aB (aN (aC (aA (aE (aB (aH (aH (aP (vs := [_, _]) uU rfl (GF s p hs hp) rfl ?_))))))))); rintro _ w1 ⟨rfl, hw2⟩; have hE3 := (Evo.refl [] w).then hw2; refine aN (aC (aA (aO (br1 ?_)))); exact ⟨rfl, hE3⟩
theorem cutI_ok {w : World} (s p : ByteArray) (hs : s.size ≤ 140737488355328) (hp : p.size ≤ 140737488355328) : Calls Tryz.prog 160 #[.string s, .string p] w (Ret fun v w' => v = .tuple #[.string (if Pre s p then s.extract p.size s.size else s), .bool (decide (Pre s p))] ∧ Evo [] w w') := by
  refine bL (N := 15) Tryz.func160 rfl rfl rfl ?_; refine aE (aB (aN (aN (aC (aA (aE (aE (aB (aH (aH (aP (vs := [_, _]) uU rfl (GF s p hs hp) rfl ?_))))))))))); rintro _ w1 ⟨rfl, hw2⟩; have hE3 := (Evo.refl [] w).then hw2; refine aF (mS rfl) ?_; refine aC (aA (bG rfl (fun hc9 => ?_) (fun hc9 => ?_)))
  ·refine aE (aB (aH (aN (aN (aC (aA (aO (aM (dE rfl rfl rfl ?_))))))))); exact ⟨by rw [if_neg hc9, decide_eq_false hc9], hE3⟩
  refine aX (aA (aE (aB (aH (aH (aF (cT rfl Tryz.underlying9 rfl) ?_))))))
  refine aF (hI (l := p.size) rfl rfl Tryz.underlying9 rfl (by have := Classical.not_not.1 hc9; exact this.1)) ?_
  refine aN (aN (aC (aA (aO (dE rfl rfl rfl ?_))))); have h9 := Classical.not_not.1 hc9; exact ⟨by rw [if_pos h9, decide_eq_true h9], hE3⟩
theorem cut_ok {w : World} (s p : ByteArray) (hs : s.size ≤ 140737488355328) (hp : p.size ≤ 140737488355328) : Calls Tryz.prog 145 #[.string s, .string p] w (Ret fun v w' => v = .tuple #[.string (if Pre s p then s.extract p.size s.size else s), .bool (decide (Pre s p))] ∧ Evo [] w w') := by
  refine bL (N := 11) Tryz.func145 rfl rfl rfl ?_; refine aE (aB (aN (aN (aC (aA (aE (aB (aH (aH (aP (vs := [_, _]) DS rfl (cutI_ok s p hs hp) rfl ?_)))))))))); rintro _ w1 ⟨rfl, hw2⟩; have hE3 := (Evo.refl [] w).then hw2; refine aF (cO rfl rfl) ?_; refine aF (cO rfl rfl) ?_; refine aN (aN (aC (aA (aO (dE rfl rfl rfl ?_))))); exact ⟨rfl, hE3⟩
theorem FH {s : ByteArray} {i v j : Nat} (h : sb s i = 92) (h2 : lU s i = .ok (v, j)) : kS s i = .ok ((v : Int), j) := by unfold kS; rw [if_pos h, h2]
theorem RR {s : ByteArray} {i : Nat} {e : Int} (h : sb s i = 92) (h2 : lU s i = .error e) : kS s i = .error e := by unfold kS; rw [if_pos h, h2]
theorem rK {s : ByteArray} {i : Nat} (h : ¬ sb s i = 92) : kS s i = .ok ((cD s i).1, i + (cD s i).2) := by unfold kS; rw [if_neg h]
theorem kK {s : ByteArray} {i j : Nat} {r : Int} (h : kS s i = .ok (r, j)) (hb : Bd s i) (hi : i < s.size) : Bd s j ∧ i < j ∧ 0 ≤ r ∧ r ≤ 1114111 := by
  by_cases h1 : sb s i = 92
  · unfold kS at h
    rw [if_pos h1] at h
    cases h2 : lU s i with
    | error e => rw [h2] at h; cases h
    | ok x =>
      obtain ⟨n, k⟩ := x
      rw [h2] at h
      cases h
      obtain ⟨h3, h4, h5⟩ := BX h2 hb h1
      exact ⟨h3, h4, by omega, by omega⟩
  · rw [rK h1] at h
    cases h
    obtain ⟨h3, h4, h5, h6, h7⟩ := hb.next hi
    exact ⟨h5, by omega, h6, h7⟩
theorem jB {w : World} {b : Nat} {s : ByteArray} {st : PS} {a : Option Addr} {c : Nat} {ob : Option Nat} (hR : RdAt w b s st a c ob) (hs : s.size ≤ 1000000) (hlt : st.pos < s.size) (hb : Bd s st.pos) :
    Calls Tryz.prog 147 #[.pointer (some ⟨b, 0, none⟩)] w (RetP (fun v w' => ∃ r j, kS s st.pos = .ok (r, j) ∧ v = .int .i32 r ∧ Evo [b] w w' ∧ RdAt w' b s (gZ st j) a c ob) (fun v w' => kS s st.pos = .error 83 ∧ v = flt 83 ∧ Evo [b] w w')) := by
  have hap := hR.ap; refine bL (N := 17) Tryz.func147 rfl rfl rfl ?_; refine aE (aB (aN (aC (aA (aE (aE ?_)))))); refine fJ (by kernel_rfl) (by kernel_rfl) ?_; refine bJ (fun _ hq2 => bH rfl) ?_; refine bJ (fun _ hq2 => aQ rfl) ?_; refine bJ (fun _ hq2 => aD rfl dK) ?_; refine bJ (fun _ hq2 => aI rfl cL (aJ (hq2.blk0 hR.blk) rfl)) ?_; refine bJ (fun _ hq2 => bH rfl) ?_; refine bJ (fun _ hq2 => aQ rfl) ?_; refine bJ (fun _ hq2 => aD rfl bF) ?_; refine bJ (fun _ hq2 => aI rfl aW (aJ (hq2.blk0 hR.blk) rfl)) ?_; refine bJ (fun _ hq2 => gH (n := st.pos) rfl rfl Tryz.underlying9 rfl hlt) ?_; refine bJ (fun _ hq2 => bC rfl rfl) ?_; refine fO (fun wq1 hq2 => aA ?_); have hE3 := (Evo.refl [b] w).then hq2; have hB4 := hq2.blk0 hR.blk; have hO5 := hR.own.evo0 hq2; refine bG rfl (fun hc12 => ?_) (fun hc12 => ?_)
  ·refine aE (aB (aH (bX (vs := [_]) uY rfl (zF ⟨hB4, hO5, hR.ne⟩ hs hlt) rfl ?_ ?_)))
   ·intro pv wp hpp; obtain ⟨hpe, rfl, hpw⟩ := hpp; exact And.intro rfl ⟨_, rfl, RR (by omega) hpe, rfl, (hE3).step hpw (fun y hy => .inl hy)⟩
   rintro _ w6 ⟨n, j, hx, rfl, hw7, hR1⟩; have hE8 := hE3.step hw7 (fun y hy => .inl hy); refine aN (aC (aA (aO (aM (bW (br1 ?_)))))); exact ⟨_, _, FH (by omega) hx, rfl, hE8, hR1⟩
  refine aX (aA (aE (aB (aH (aP (vs := [_]) nT rfl (xE ⟨hB4, hO5, hR.ne⟩ hs hb) rfl ?_))))); rintro _ w9 ⟨rfl, hw10, hR2⟩; have hE11 := hE3.step hw10 (fun y hy => .inl hy); refine aN (aC (aA (aO (bW (br1 ?_))))); exact ⟨_, _, rK (by omega), rfl, hE11, hR2⟩
end Go.Proofs.YtljadkcojnlioaaGreatDoor
namespace Go.Proofs.YtljadkcojnlioaaGreatDoor
open Go.RowKit Go.W
def vH : List Nat := [92, 46, 43, 42, 63, 40, 41, 124, 91, 93, 123, 125, 94, 36]
def gM (n : Nat) : List Nat := (Lib.decDigits n).map UInt8.toNat
def nmL (s : ByteArray) : List Nat := s.data.toList.map UInt8.toNat
theorem KW (l : List UInt8) : bstr (l.map UInt8.toNat) = ⟨l.toArray⟩ := by
  have h : UInt8.ofNat ∘ UInt8.toNat = id := funext fun x => UInt8.ofNat_toNat
  unfold bstr
  rw [List.map_map, h, List.map_id]
theorem SN (s : ByteArray) : bstr (nmL s) = s := by unfold nmL; rw [KW]
theorem PY (l : List UInt8) : Lo (l.map UInt8.toNat) := fun b hb => by
  obtain ⟨x, _, rfl⟩ := List.mem_map.1 hb
  exact x.toNat_lt
theorem sI (s : ByteArray) : (nmL s).length = s.size := by
  unfold nmL
  rw [List.length_map]
  rfl
def oL (c : Int) : List Nat := [92, 120, 123] ++ hexL c.toNat ++ [125]
def Odd (c : Int) : Prop := c < 32 ∨ c = 127 ∨ (55296 ≤ c ∧ c ≤ 57343)
instance (c : Int) : Decidable (Odd c) := by unfold Odd; infer_instance
def lV (c : Int) : List Nat := if Odd c then oL c else if c < 128 ∧ c.toNat ∈ vH then [92, c.toNat] else eB c
def IH (c : Int) : Prop := c < 128 ∧ fT c.toNat ∧ c ≠ 95
instance (c : Int) : Decidable (IH c) := by unfold IH; infer_instance
def lE (c : Int) : List Nat := if IH c then eB c else oL c
def kY (g : Int × Int) : List Nat := lE g.1 ++ (if g.1 < g.2 then 45 :: lE g.2 else [])
def KC : List Nat := [91, 94, 92, 120, 123, 48, 125, 45, 92, 120, 123, 49, 48, 102, 102, 102, 102, 125, 93]
def pJ (l : List (Int × Int)) : List Nat := if l = [] then KC else [91] ++ l.flatMap kY ++ [93]
def gJ (lo hi : Int) : List Nat :=
  if lo = 0 ∧ hi = -1 then [42] else if lo = 1 ∧ hi = -1 then [43] else if lo = 0 ∧ hi = 1 then [63]
  else if hi = -1 then [123] ++ gM lo.toNat ++ [44, 125] else if hi = lo then [123] ++ gM lo.toNat ++ [125] else [123] ++ gM lo.toNat ++ [44] ++ gM hi.toNat ++ [125]
def pN (k r : Int) (rs : List (Int × Int)) (nm : ByteArray) : List Nat :=
  if k = 2 then lV r else if k = 3 then pJ rs else if k = 7 then [40] ++ (if nm = ByteArray.mk #[] then [] else [63, 80, 60] ++ nmL nm ++ [62]) else if k = 8 then [92, 65] else if k = 9 then [92, 122]
  else if k = 10 then [94] else if k = 11 then [36] else if k = 12 then [92, 98] else if k = 13 then [92, 66] else []
def tX (k mn mx : Int) (lz : Bool) : List Nat := if k = 6 then gJ mn mx ++ (if lz = true then [63] else []) else if k = 7 then [41] else []
def brW (p : Prop) [Decidable p] (l : List Nat) : List Nat := if p then [40, 63, 58] ++ l ++ [41] else l
def mJ (k : Int) (fst : Bool) : List Nat := if k = 5 ∧ fst = false then [124] else []
mutual
def Rx.w : Rx → List Nat
  | .mk k r rs mn mx lz cp nm ks => pN k r rs nm ++ dI k true ks ++ tX k mn mx lz
def dI (k : Int) : Bool → List Rx → List Nat
  | _, [] => []
  | fst, x :: xs => mJ k fst ++ brW (Brk x.kind k) x.w ++ dI k false xs
end
mutual
def Rx.ms : Rx → Nat
  | .mk k r rs mn mx lz cp nm ks => 40 + nm.size + 26 * rs.length + kms ks
def kms : List Rx → Nat
  | [] => 0
  | x :: xs => x.ms + kms xs
end
theorem Rx.w_eq (x : Rx) : x.w = pN x.kind x.r x.ranges x.name ++ dI x.kind true x.kids ++ tX x.kind x.min x.max x.lazy := by cases x; rw [Rx.w]; rfl
theorem Rx.ms_eq (x : Rx) : x.ms = 40 + x.name.size + 26 * x.ranges.length + kms x.kids := by cases x; rw [Rx.ms]; rfl
theorem yV (k : Int) (y : Rx) : ∀ (l : List Rx) (fst : Bool), dI k fst (l ++ [y]) = dI k fst l ++ (mJ k (fst && l.isEmpty) ++ brW (Brk y.kind k) y.w)
  | [], fst => by rw [List.nil_append, dI, dI, dI]; simp
  | x :: xs, fst => by rw [List.cons_append, dI, yV k y xs false, dI]; simp
theorem oJ {k : Int} {l : List Rx} {j : Nat} (hj : j < l.length) : dI k true (l.take (j + 1)) = dI k true (l.take j) ++ (mJ k (decide (j = 0)) ++ brW (Brk l[j].kind k) l[j].w) := by
  rw [List.take_add_one, List.getElem?_eq_getElem hj, Option.toList_some, yV]
  have : (true && (l.take j).isEmpty) = decide (j = 0) := by
    rw [Bool.true_and, Bool.eq_iff_iff, decide_eq_true_iff, List.isEmpty_iff, List.take_eq_nil_iff]
    constructor
    · rintro (h | h)
      · exact h
      · rw [h] at hj; cases hj
    · exact .inl
  rw [this]
theorem uI {l : List Rx} {j : Nat} (hj : j < l.length) : kms (l.take (j + 1)) = kms (l.take j) + l[j].ms := by
  induction l generalizing j with
  | nil => cases hj
  | cons x l ih => cases j with
    | zero => simp [kms]
    | succ j => simp only [List.take_succ_cons, kms, List.getElem_cons_succ, ih (by simpa using hj)]; omega
theorem TA {l : List Rx} (j : Nat) : kms (l.take j) ≤ kms l := by
  induction l generalizing j with
  | nil => simp [kms]
  | cons x l ih => cases j with
    | zero => simp [kms]
    | succ j => simp only [List.take_succ_cons, kms]; have := ih j; omega
theorem CL : ∀ (f n : Nat), n < 16 ^ (f + 1) → (hexL n).length ≤ f + 1 ∧ Lo (hexL n)
  | 0, n, h => by
    rw [sL (by simpa using h)]
    have h16 : n < 16 := by simpa using h
    exact ⟨Nat.le_refl _, fun b hb => by rw [List.mem_singleton.1 hb]; unfold hx; split <;> omega⟩
  | f + 1, n, h => by
    by_cases c : n < 16
    · rw [sL c]
      exact ⟨by simp, fun b hb => by rw [List.mem_singleton.1 hb]; unfold hx; split <;> omega⟩
    · rw [oX c]
      obtain ⟨h1, h2⟩ := CL f (n / 16) (Nat.div_lt_of_lt_mul (by rw [Nat.mul_comm, ← Nat.pow_succ]; exact h))
      refine ⟨by simp; omega, fun b hb => ?_⟩
      rcases List.mem_append.1 hb with hb | hb
      · exact h2 b hb
      · rw [List.mem_singleton.1 hb]; unfold hx; split <;> omega
theorem Lo.app {a b : List Nat} (h : Lo a) (k : Lo b) : Lo (a ++ b) := fun x hx => (List.mem_append.1 hx).elim (h x) (k x)
theorem CK {c : Int} (h0 : 0 ≤ c) (h1 : c ≤ 1114111) : (oL c).length ≤ 12 ∧ Lo (oL c) := by
  obtain ⟨h2, h3⟩ := CL 7 c.toNat (by show c.toNat < 4294967296; omega)
  refine ⟨by simp [oL]; omega, ?_⟩
  exact ((show Lo [92, 120, 123] by unfold Lo; decide).app h3).app (by unfold Lo; decide)
theorem MQ (c : Int) : Lo (eB c) := uJ c
theorem LZ {c : Int} (h0 : 0 ≤ c) (h1 : c ≤ 1114111) : (lV c).length ≤ 12 ∧ Lo (lV c) := by
  unfold lV
  split
  · exact CK h0 h1
  · split
    · refine ⟨by simp, fun b hb => ?_⟩
      simp at hb
      rcases hb with rfl | rfl <;> omega
    · exact ⟨by have := sN c; omega, MQ c⟩
theorem CU {c : Int} (h0 : 0 ≤ c) (h1 : c ≤ 1114111) : (lE c).length ≤ 12 ∧ Lo (lE c) := by
  unfold lE
  split
  · exact ⟨by have := sN c; omega, MQ c⟩
  · exact CK h0 h1
theorem LA {g : Int × Int} (h0 : 0 ≤ g.1) (h1 : g.1 ≤ g.2) (h2 : g.2 ≤ 1114111) : (kY g).length ≤ 26 ∧ Lo (kY g) := by
  obtain ⟨a1, a2⟩ := CU h0 (show g.1 ≤ 1114111 by omega)
  obtain ⟨b1, b2⟩ := CU (show 0 ≤ g.2 by omega) h2
  unfold kY
  split
  · refine ⟨by rw [List.length_append, List.length_cons]; omega, a2.app fun b hb => ?_⟩
    rcases List.mem_cons.1 hb with rfl | hb
    · decide
    · exact b2 b hb
  · exact ⟨by simp; omega, a2.app (fun b hb => by cases hb)⟩
def RgB (l : List (Int × Int)) : Prop := ∀ g, g ∈ l → 0 ≤ g.1 ∧ g.1 ≤ g.2 ∧ g.2 ≤ 1114111
theorem RangesOk.b {l : List (Int × Int)} (h : RangesOk l) : RgB l := fun g hg => by
  obtain ⟨i, hi, rfl⟩ := List.getElem_of_mem hg
  obtain ⟨h1, h2, h3, -⟩ := h.1 i hi
  exact ⟨h1, h2, h3⟩
theorem xF : ∀ {l : List (Int × Int)}, RgB l → (l.flatMap kY).length ≤ 26 * l.length
  | [], _ => by simp
  | g :: l, h => by
    obtain ⟨h1, h2, h3⟩ := h g (List.mem_cons_self ..)
    have := (LA h1 h2 h3).1
    have := xF (l := l) (fun g hg => h g (List.mem_cons_of_mem _ hg))
    rw [List.flatMap_cons, List.length_append, List.length_cons]; omega
theorem FB {l : List (Int × Int)} {k : Nat} (hk : k < l.length) : (l.take (k + 1)).flatMap kY = (l.take k).flatMap kY ++ kY l[k] := by
  rw [List.take_add_one, List.getElem?_eq_getElem hk, List.flatMap_append]; simp
theorem xU (n : Nat) : Lo (gM n) := PY _
end Go.Proofs.YtljadkcojnlioaaGreatDoor
namespace Go.Proofs.YtljadkcojnlioaaGreatDoor
open Go.RowKit Go.W
attribute [local irreducible] Decidable.decide
theorem mG : fA Tryz.prog 100 := ⟨_, Tryz.func100, by kernel_rfl, by kernel_rfl⟩
theorem vF : fA Tryz.prog 101 := ⟨_, Tryz.func101, by kernel_rfl, by kernel_rfl⟩
theorem dA : fA Tryz.prog 102 := ⟨_, Tryz.func102, by kernel_rfl, by kernel_rfl⟩
theorem EE : fA Tryz.prog 123 := ⟨_, Tryz.func123, by kernel_rfl, by kernel_rfl⟩
theorem cB : fA Tryz.prog 49 := ⟨_, Tryz.func49, by kernel_rfl, by kernel_rfl⟩
theorem lS : fA Tryz.prog 99 := ⟨_, Tryz.func99, by kernel_rfl, by kernel_rfl⟩
structure Gw (w : World) : Prop where
  glb : Glb w
  t64 : Tab64 w
  t10 : Lib.TabIs Tryz.prog w "internal/strconv.uint64pow10" .u64 Lib.pow10Tab
theorem NW {w w' : World} {nm : String} {k : IntKind} {zs : List Int} (h : Lib.TabIs Tryz.prog w nm k zs) (he : Evo [] w w') : Lib.TabIs Tryz.prog w' nm k zs := by
  unfold Lib.TabIs World.var? at h ⊢
  cases hg : Tryz.prog.globalNamed nm with
  | none => rw [hg] at h; exact absurd h (by simp)
  | some g =>
    rw [hg] at h
    simp only [Option.bind_eq_bind, Option.bind_some] at h ⊢
    cases hb : w.heap[g]? with
    | none => rw [hb] at h; exact absurd h (by simp)
    | some o => rw [he.block g (fR hb) (by simp), ]; exact h
theorem Gw.evo0 {w w' : World} (h : Gw w) (he : Evo [] w w') : Gw w' := ⟨h.glb.evo he (by simp), h.t64.evo he (by simp), NW h.t10 he⟩
theorem UB (w : World) (k : Nat) (os : Array Obj) : Evo [] w (Sort.grow (w.drewN k) os) := by
  refine ⟨rfl, rfl, rfl, ?_, fun b hb hx => ?_⟩
  · simp [Sort.grow]
  · simp only [Sort.grow]
    rw [Array.getElem?_append_left (by simpa using hb)]
    rfl
theorem fL {w : World} (hG : Gw w) (n : Int) (h0 : 0 ≤ n) (h1 : n ≤ 1000000) : Calls Tryz.prog 102 #[.int .i64 n] w (Ret fun v w' => v = .string (bstr (gM n.toNat)) ∧ Evo [] w w') := by
  refine (uR n (by omega) (by omega) w hG.t10).mono ?_
  rintro e w' ⟨rfl, k, os, rfl⟩
  refine ⟨_, rfl, ?_, UB w k os⟩
  rw [gM, KW, Lib.itoa, if_neg (by omega)]
theorem dC {w w1 : World} {o o1 o2 : Option Nat} (h : o1 = o ∨ ∃ g, o1 = some g ∧ w.heap.size ≤ g) (h2 : o2 = o1 ∨ ∃ g, o2 = some g ∧ w1.heap.size ≤ g) (hw : w.heap.size ≤ w1.heap.size) : o2 = o ∨ ∃ g, o2 = some g ∧ w.heap.size ≤ g := by
  rcases h2 with rfl | ⟨g, rfl, hg⟩
  · exact h
  · exact .inr ⟨g, rfl, Nat.le_trans hw hg⟩
theorem dD {w : World} {b : Nat} {o o1 : Option Nat} (h : o1 = o ∨ ∃ g, o1 = some g ∧ w.heap.size ≤ g) : ∀ y, y ∈ b :: o1.toList → y ∈ b :: o.toList ∨ w.heap.size ≤ y := fun y hy => by
  rcases h with rfl | ⟨g, rfl, hg⟩
  · exact .inl hy
  · rcases List.mem_cons.1 hy with rfl | hy
    · exact .inl (List.mem_cons_self ..)
    · rw [List.mem_singleton.1 hy]; exact .inr hg
theorem iC {w0 : World} {b : Nat} {o : Option Nat} (hub : w0.heap.size ≤ b) (h : Ge w0 o) : ∀ y, y ∈ b :: o.toList → y ∈ ([] : List Nat) ∨ w0.heap.size ≤ y := fun y hy => by
  rcases List.mem_cons.1 hy with rfl | hy
  · exact .inr hub
  · cases o with
    | none => cases hy
    | some g => rw [List.mem_singleton.1 hy]; exact .inr (h g rfl)
theorem nJ {q b : Nat} {o : Option Nat} (h1 : Apart (some q) (some b)) (h2 : Apart (some q) o) : q ∉ b :: o.toList := fun h => by
  rcases List.mem_cons.1 h with rfl | h
  · exact h1 q rfl rfl
  · exact h2.nmem h
theorem eP {w w1 : World} {b : Nat} {L l X : List Nat} {ob ob1 : Option Nat} (h : BdN w1 b L ob1) (e : L = l ++ X) (hE : Evo (b :: ob.toList) w w1) (hN : ob1 = ob ∨ ∃ g, ob1 = some g ∧ w.heap.size ≤ g) : Wr w b (l ++ X) ob w1 := ⟨ob1, e ▸ h, hE, hN⟩
theorem bap (a b : List Nat) : bstr a ++ bstr b = bstr (a ++ b) := by
  apply ByteArray.ext; simp [bstr]
theorem bsz (l : List Nat) : (bstr l).size = l.length := by simp [bstr, ByteArray.size]
theorem cH {l : List Nat} (h : l.all (fun b => decide (b < 256)) = true) : Lo l := fun b hb => by have := List.all_eq_true.1 h b hb; exact of_decide_eq_true this
theorem lL {w0 w : World} {b : Nat} {l : List Nat} {ob : Option Nat} {c : Int} (hG : Gw w0) (hE0 : Evo [] w0 w) (hub : w0.heap.size ≤ b) (huo : Ge w0 ob) (h : BdN w b l ob) (hl : l.length ≤ 90000000) (h0 : 0 ≤ c) (h1 : c ≤ 1114111) :
    Calls Tryz.prog 99 #[.pointer (some ⟨b, 0, none⟩), .int .i32 c] w (Ret fun v w' => Wr w b (l ++ oL c) ob w') := by
  obtain ⟨n, rfl⟩ : ∃ n : Nat, c = (n : Int) := ⟨c.toNat, by omega⟩; obtain ⟨hxw1, hxw⟩ := CK h0 h1
  have hlen := (CL 7 n (by show n < 4294967296; omega)).1
  refine bL (N := 11) Tryz.func99 rfl rfl rfl ?_; refine aB (aH (aH ?_))
  refine aF (kG n rfl Tryz.underlying21 Tryz.underlying2 rfl (by show ((n : Nat) : Int) ≤ 9223372036854775807; omega)) ?_
  refine aP (vs := [_, _]) EE rfl (TO (hG.evo0 hE0).t64 n (by show n < 4294967296; omega)) rfl ?_
  rintro _ w1 ⟨rfl, hw2⟩; have hE3 := (Evo.refl (b :: ob.toList) w).then hw2; have hF5 := h.evo0 hw2
  refine aF (cW rfl rfl (by rw [bsz]; show 3 + _ ≤ _; omega)) ?_
  rw [show ByteArray.mk #[92, 120, 123] = bstr [92, 120, 123] from by decide +kernel, bap]
  refine aF (cW rfl rfl (by rw [bsz]; show _ + 1 ≤ _; simp; omega)) ?_
  rw [show ByteArray.mk #[125] = bstr [125] from by decide +kernel, bap]; refine aP (vs := [_, _]) cB rfl (dB hF5 (m := oL (n : Int)) rfl hxw (by omega) (by omega)) rfl ?_; rintro _ w6 ⟨obw1, hBDw1, hw7, hnb1⟩; have hV9 := hE3; have hN1 := dC (Or.inl rfl) hnb1 hV9.size; have hE8 := hE3.step hw7 (dD (Or.inl rfl)); refine aC (cI rfl ?_); exact eP hBDw1 (rfl) hE8 hN1
theorem QE : ∀ m, m < 128 → (0 ≤ Lib.indexByte (ByteArray.mk #[92, 46, 43, 42, 63, 40, 41, 124, 91, 93, 123, 125, 94, 36]).data.toList (UInt8.ofNat m) ↔ m ∈ vH) := by decide +kernel
theorem FA {w : World} (m : Nat) (hm : m < 128) : Calls Tryz.prog 41 #[.string (ByteArray.mk #[92, 46, 43, 42, 63, 40, 41, 124, 91, 93, 123, 125, 94, 36]), .int .u8 (m : Nat)] w (Ret fun v w' => ∃ z, v = .int .i64 z ∧ (0 ≤ z ↔ m ∈ vH) ∧ Evo [] w w') := by
  refine (kD _ _ w).mono ?_
  rintro e w' ⟨rfl, rfl⟩
  refine ⟨_, rfl, _, rfl, ?_, Evo.refl _ _⟩
  rw [← QE m hm]
  simp
theorem wD {w0 w : World} {b : Nat} {l : List Nat} {ob : Option Nat} {c : Int} (hG : Gw w0) (hE0 : Evo [] w0 w) (hub : w0.heap.size ≤ b) (huo : Ge w0 ob) (h : BdN w b l ob) (hl : l.length ≤ 90000000) (h0 : 0 ≤ c) (h1 : c ≤ 1114111) :
    Calls Tryz.prog 101 #[.pointer (some ⟨b, 0, none⟩), .int .i32 c] w (Ret fun v w' => Wr w b (l ++ lE c) ob w') := by
  obtain ⟨n, rfl⟩ : ∃ n : Nat, c = (n : Int) := ⟨c.toNat, by omega⟩; refine bL (N := 21) Tryz.func101 rfl rfl rfl ?_; refine aE (aE (aB (aH (aF (dF rfl rfl) ?_)))); refine aH (aU (t := 6) rfl (fun hs6 => ?_) (fun hs6 => ?_))
  ·refine aK (aH (aK ?_))
   refine aF (kG n rfl Tryz.underlying21 Tryz.underlying5 rfl (by show ((n : Nat) : Int) ≤ 255; omega)) ?_
   refine aK (aP (vs := [_]) nR rfl (xC n) rfl ?_); rintro _ w1 ⟨rfl, hw2⟩; have hE3 := (Evo.refl (b :: ob.toList) w).then hw2; have hE4 := hE0.then hw2; have hF5 := h.evo0 hw2; refine aY (aH (aU (t := 11) rfl (fun hs11 => ?_) (fun hs11 => ?_)))
   ·refine aK (aH (aK (aF (fH rfl rfl) ?_))); refine aY (aC (aA (bG rfl (fun hc14 => ?_) (fun hc14 => ?_))))
    ·refine aE (aB (aH (aH ?_)))
     refine aP (vs := [_, _]) mG rfl (lW hF5 (by unfold IsR; omega) (by omega)) rfl ?_
     rintro _ w6 ⟨obw1, hBDw1, hw7, hnb1⟩; have hV9 := hE3; have hV90 := hE4; have hN1 := dC (Or.inl rfl) hnb1 hV9.size; have hU1 := dS huo hV90.size hnb1; have hE8 := hE3.step hw7 (dD (Or.inl rfl)); refine aC (aA (aO (aM (vY rfl ?_))))
     exact eP hBDw1 (by rw [lE, if_pos (show IH (n : Int) from ⟨by omega, by rw [Int.toNat_natCast]; exact hs11, by omega⟩)]) hE8 hN1
    refine aX (aA (aB (aH (aH (aP (vs := [_, _]) lS rfl (lL hG hE4 hub huo hF5 hl h0 h1) rfl ?_))))); rintro _ w10 ⟨obw1, hBDw1, hw11, hnb1⟩; have hV9 := hE3; have hV90 := hE4; have hN1 := dC (Or.inl rfl) hnb1 hV9.size; have hU1 := dS huo hV90.size hnb1; have hE12 := hE3.step hw11 (dD (Or.inl rfl)); refine aC (cI rfl ?_)
    exact eP hBDw1 (by rw [lE, if_neg (fun hq : IH (n : Int) => by obtain ⟨q1, q2, q3⟩ := hq; rw [Int.toNat_natCast] at q2; first | omega | exact hs11 q2 | exact hs6 q2)]) hE12 hN1
   refine aG (aG (aR (aC (aA (cN rfl ?_))))); refine aX (aA (aB (aH (aH (aP (vs := [_, _]) lS rfl (lL hG hE4 hub huo hF5 hl h0 h1) rfl ?_))))); rintro _ w14 ⟨obw1, hBDw1, hw15, hnb1⟩; have hV9 := hE3; have hV90 := hE4; have hN1 := dC (Or.inl rfl) hnb1 hV9.size; have hU1 := dS huo hV90.size hnb1; have hE16 := hE3.step hw15 (dD (Or.inl rfl)); refine aC (cI rfl ?_)
   exact eP hBDw1 (by rw [lE, if_neg (fun hq : IH (n : Int) => by obtain ⟨q1, q2, q3⟩ := hq; rw [Int.toNat_natCast] at q2; first | omega | exact hs11 q2 | exact hs6 q2)]) hE16 hN1
  refine aG (aG (aG (aR (aH (aG (aG (aR (aC (aA (cN rfl ?_)))))))))); refine aX (aA (aB (aH (aH (aP (vs := [_, _]) lS rfl (lL hG hE0 hub huo h hl h0 h1) rfl ?_))))); rintro _ w18 ⟨obw1, hBDw1, hw19, hnb1⟩; have hV9 := (Evo.refl (b :: ob.toList) w); have hV90 := hE0; have hN1 := dC (Or.inl rfl) hnb1 hV9.size; have hU1 := dS huo hV90.size hnb1; have hE20 := (Evo.refl (b :: ob.toList) w).step hw19 (dD (Or.inl rfl)); refine aC (cI rfl ?_)
  exact eP hBDw1 (by rw [lE, if_neg (fun hq : IH (n : Int) => by obtain ⟨q1, q2, q3⟩ := hq; rw [Int.toNat_natCast] at q2; first | omega | exact hs11 q2 | exact hs6 q2)]) hE20 hN1
theorem ES {w0 w : World} {b : Nat} {l : List Nat} {ob : Option Nat} {c : Int} (hG : Gw w0) (hE0 : Evo [] w0 w) (hub : w0.heap.size ≤ b) (huo : Ge w0 ob) (h : BdN w b l ob) (hl : l.length ≤ 90000000) (h0 : 0 ≤ c) (h1 : c ≤ 1114111) :
    Calls Tryz.prog 72 #[.pointer (some ⟨b, 0, none⟩), .int .i32 c] w (Ret fun v w' => Wr w b (l ++ lV c) ob w') := by
  obtain ⟨n, rfl⟩ : ∃ n : Nat, c = (n : Int) := ⟨c.toNat, by omega⟩; refine bL (N := 39) Tryz.func72 rfl rfl rfl ?_; refine bS (aE (aB (aH (aF (dF rfl rfl) ?_)))); refine aH (aU (t := 10) rfl (fun hs10 => ?_) (fun hs10 => ?_))
  ·refine aG (aG (aY (aH (aG (aG (aG (cA ?_))))))); refine cA ?_; refine aG (aY (aN (aC (aA (cM rfl ?_))))); refine aB (aH (aH (aP (vs := [_, _]) lS rfl (lL hG hE0 hub huo h hl h0 h1) rfl ?_))); rintro _ w1 ⟨obw1, hBDw1, hw2, hnb1⟩; have hV9 := (Evo.refl (b :: ob.toList) w); have hV90 := hE0; have hN1 := dC (Or.inl rfl) hnb1 hV9.size; have hU1 := dS huo hV90.size hnb1; have hE3 := (Evo.refl (b :: ob.toList) w).step hw2 (dD (Or.inl rfl)); refine aC (aZ (cI rfl ?_))
   exact eP hBDw1 (by rw [lV, if_pos (show Odd (n : Int) from by unfold Odd; omega)]) hE3 hN1
  refine aK (aH (aK (aF (bC rfl rfl) ?_))); refine aR (aH (aU (t := 14) rfl (fun hs14 => ?_) (fun hs14 => ?_)))
  ·refine aG (aG (aG (cA ?_))); refine cA ?_; refine aG (aY (aN (aC (aA (cM rfl ?_))))); refine aB (aH (aH (aP (vs := [_, _]) lS rfl (lL hG hE0 hub huo h hl h0 h1) rfl ?_))); rintro _ w5 ⟨obw1, hBDw1, hw6, hnb1⟩; have hV9 := (Evo.refl (b :: ob.toList) w); have hV90 := hE0; have hN1 := dC (Or.inl rfl) hnb1 hV9.size; have hU1 := dS huo hV90.size hnb1; have hE7 := (Evo.refl (b :: ob.toList) w).step hw6 (dD (Or.inl rfl)); refine aC (aZ (cI rfl ?_))
   exact eP hBDw1 (by rw [lV, if_pos (show Odd (n : Int) from by unfold Odd; omega)]) hE7 hN1
  refine aK (aH (aK (aF (fG rfl rfl) ?_))); refine aK (aH (aU (t := 17) rfl (fun hs17 => ?_) (fun hs17 => ?_)))
  ·refine aK (aH (aK (aF (fP rfl rfl) ?_))); refine aK (aY (aR (aN (aC (aA (bG rfl (fun hc7 => ?_) (fun hc7 => ?_)))))))
   ·refine aB (aH (aH (aP (vs := [_, _]) lS rfl (lL hG hE0 hub huo h hl h0 h1) rfl ?_))); rintro _ w9 ⟨obw1, hBDw1, hw10, hnb1⟩; have hV9 := (Evo.refl (b :: ob.toList) w); have hV90 := hE0; have hN1 := dC (Or.inl rfl) hnb1 hV9.size; have hU1 := dS huo hV90.size hnb1; have hE11 := (Evo.refl (b :: ob.toList) w).step hw10 (dD (Or.inl rfl)); refine aC (aZ (cI rfl ?_))
    exact eP hBDw1 (by rw [lV, if_pos (show Odd (n : Int) from by unfold Odd; omega)]) hE11 hN1
   refine aE ?_
   have hOdd : ¬ Odd (n : Int) := by unfold Odd; omega
   have hIR : IsR (n : Int) := by unfold IsR; omega
   refine aB (aH (aF (dF rfl rfl) ?_)); refine aH (aU (t := 28) rfl (fun hs28 => ?_) (fun hs28 => ?_))
   ·refine aK (aH (aK ?_))
    refine aF (kG n rfl Tryz.underlying21 Tryz.underlying5 rfl (by show ((n : Nat) : Int) ≤ 255; omega)) ?_
    refine aK ?_; refine aP (vs := [_, _]) pD rfl (FA n (by omega)) rfl ?_; rintro _ w13 ⟨z, rfl, hz, hw14⟩; have hE15 := (Evo.refl (b :: ob.toList) w).then hw14; have hE16 := hE0.then hw14; have hF17 := h.evo0 hw14; refine aK (aF (fG rfl rfl) ?_); refine aY (aN (aC (aA (bG rfl (fun hc25 => ?_) (fun hc25 => ?_)))))
    ·refine aB (aH (aH (aF (zD rfl Tryz.underlying21 Tryz.underlying9) ?_))); rw [GV hIR, lJ hIR, show jL n = [n] by rw [jL, if_pos (by omega)]]
     refine aF (cW rfl rfl (by rw [bsz]; show 1 + 1 ≤ _; omega)) ?_
     rw [show ByteArray.mk #[92] = bstr [92] from by decide +kernel, bap]
     refine aP (vs := [_, _]) cB rfl (dB hF17 (m := [92, n]) rfl (fun x hx => by simp at hx; omega) (by first | omega | (simp only [List.length_append]; omega)) (by simp only [List.length_append, List.length_cons, List.length_nil]; omega)) rfl ?_
     rintro _ w18 ⟨obw1, hBDw1, hw19, hnb1⟩; have hV9 := hE15; have hV90 := hE16; have hN1 := dC (Or.inl rfl) hnb1 hV9.size; have hU1 := dS huo hV90.size hnb1; have hE20 := hE15.step hw19 (dD (Or.inl rfl)); refine aC (aZ (cI rfl ?_))
     exact eP hBDw1 (by rw [lV, if_neg hOdd, if_pos ⟨by omega, by rw [Int.toNat_natCast]; exact hz.1 (by omega)⟩]; rfl) hE20 hN1
    refine aB (aH (aH ?_)); refine aP (vs := [_, _]) mG rfl (lW hF17 hIR (by omega)) rfl ?_; rintro _ w22 ⟨obw1, hBDw1, hw23, hnb1⟩; have hV9 := hE15; have hV90 := hE16; have hN1 := dC (Or.inl rfl) hnb1 hV9.size; have hU1 := dS huo hV90.size hnb1; have hE24 := hE15.step hw23 (dD (Or.inl rfl)); refine aC (aZ (cI rfl ?_))
    exact eP hBDw1 (by rw [lV, if_neg hOdd, if_neg (fun hq => by obtain ⟨q1, q2⟩ := hq; rw [Int.toNat_natCast] at q2; first | omega | (have h8 := hz.2 q2; omega))]) hE24 hN1
   refine aG (aG (aG (aG (aR (aN (aC (aA (cN rfl ?_)))))))); refine aB (aH (aH ?_)); refine aP (vs := [_, _]) mG rfl (lW h hIR (by omega)) rfl ?_; rintro _ w26 ⟨obw1, hBDw1, hw27, hnb1⟩; have hV9 := (Evo.refl (b :: ob.toList) w); have hV90 := hE0; have hN1 := dC (Or.inl rfl) hnb1 hV9.size; have hU1 := dS huo hV90.size hnb1; have hE28 := (Evo.refl (b :: ob.toList) w).step hw27 (dD (Or.inl rfl)); refine aC (aZ (cI rfl ?_))
   exact eP hBDw1 (by rw [lV, if_neg hOdd, if_neg (fun hq => by obtain ⟨q1, q2⟩ := hq; rw [Int.toNat_natCast] at q2; first | omega | (have h8 := hz.2 q2; omega))]) hE28 hN1
  refine aG (aG (aK (aR (aR (aN (aC (aA (cN rfl ?_)))))))); refine aE ?_
  have hOdd : ¬ Odd (n : Int) := by unfold Odd; omega
  have hIR : IsR (n : Int) := by unfold IsR; omega
  refine aB (aH (aF (dF rfl rfl) ?_)); refine aH (aU (t := 28) rfl (fun hs28 => ?_) (fun hs28 => ?_))
  ·refine aK (aH (aK ?_))
   refine aF (kG n rfl Tryz.underlying21 Tryz.underlying5 rfl (by show ((n : Nat) : Int) ≤ 255; omega)) ?_
   refine aK ?_; refine aP (vs := [_, _]) pD rfl (FA n (by omega)) rfl ?_; rintro _ w30 ⟨z, rfl, hz, hw31⟩; have hE32 := (Evo.refl (b :: ob.toList) w).then hw31; have hE33 := hE0.then hw31; have hF34 := h.evo0 hw31; refine aK (aF (fG rfl rfl) ?_); refine aY (aN (aC (aA (bG rfl (fun hc25 => ?_) (fun hc25 => ?_)))))
   ·refine aB (aH (aH (aF (zD rfl Tryz.underlying21 Tryz.underlying9) ?_))); rw [GV hIR, lJ hIR, show jL n = [n] by rw [jL, if_pos (by omega)]]
    refine aF (cW rfl rfl (by rw [bsz]; show 1 + 1 ≤ _; omega)) ?_
    rw [show ByteArray.mk #[92] = bstr [92] from by decide +kernel, bap]
    refine aP (vs := [_, _]) cB rfl (dB hF34 (m := [92, n]) rfl (fun x hx => by simp at hx; omega) (by first | omega | (simp only [List.length_append]; omega)) (by simp only [List.length_append, List.length_cons, List.length_nil]; omega)) rfl ?_
    rintro _ w35 ⟨obw1, hBDw1, hw36, hnb1⟩; have hV9 := hE32; have hV90 := hE33; have hN1 := dC (Or.inl rfl) hnb1 hV9.size; have hU1 := dS huo hV90.size hnb1; have hE37 := hE32.step hw36 (dD (Or.inl rfl)); refine aC (aZ (cI rfl ?_))
    exact eP hBDw1 (by rw [lV, if_neg hOdd, if_pos ⟨by omega, by rw [Int.toNat_natCast]; exact hz.1 (by omega)⟩]; rfl) hE37 hN1
   refine aB (aH (aH ?_)); refine aP (vs := [_, _]) mG rfl (lW hF34 hIR (by omega)) rfl ?_; rintro _ w39 ⟨obw1, hBDw1, hw40, hnb1⟩; have hV9 := hE32; have hV90 := hE33; have hN1 := dC (Or.inl rfl) hnb1 hV9.size; have hU1 := dS huo hV90.size hnb1; have hE41 := hE32.step hw40 (dD (Or.inl rfl)); refine aC (aZ (cI rfl ?_))
   exact eP hBDw1 (by rw [lV, if_neg hOdd, if_neg (fun hq => by obtain ⟨q1, q2⟩ := hq; rw [Int.toNat_natCast] at q2; first | omega | (have h8 := hz.2 q2; omega))]) hE41 hN1
  refine aG (aG (aG (aG (aR (aN (aC (aA (cN rfl ?_)))))))); refine aB (aH (aH ?_)); refine aP (vs := [_, _]) mG rfl (lW h hIR (by omega)) rfl ?_; rintro _ w43 ⟨obw1, hBDw1, hw44, hnb1⟩; have hV9 := (Evo.refl (b :: ob.toList) w); have hV90 := hE0; have hN1 := dC (Or.inl rfl) hnb1 hV9.size; have hU1 := dS huo hV90.size hnb1; have hE45 := (Evo.refl (b :: ob.toList) w).step hw44 (dD (Or.inl rfl)); refine aC (aZ (cI rfl ?_))
  exact eP hBDw1 (by rw [lV, if_neg hOdd, if_neg (fun hq => by obtain ⟨q1, q2⟩ := hq; rw [Int.toNat_natCast] at q2; first | omega | (have h8 := hz.2 q2; omega))]) hE45 hN1
theorem xS (n : Nat) (h : n ≤ 1000) : (gM n).length ≤ 4 := by
  have : ∀ n, n ≤ 1000 → (gM n).length ≤ 4 := by
    intro n h
    unfold gM
    rw [List.length_map]
    have hh : ∀ (f n : Nat), n < 10 ^ (f + 1) → (Lib.decDigits n).length ≤ f + 1 := by
      intro f
      induction f with
      | zero => intro n h; rw [Lib.decDigits, dif_pos (by simpa using h)]; simp
      | succ f ih =>
        intro n h
        rw [Lib.decDigits]
        split
        · simp
        · rw [List.length_append]
          have := ih (n / 10) (Nat.div_lt_of_lt_mul (by rw [Nat.mul_comm, ← Nat.pow_succ]; exact h))
          simp; omega
    exact hh 3 n (by show n < 10000; omega)
  exact this n h
theorem cR : ByteArray.mk #[123] = bstr [123] := by decide +kernel
theorem bQ : ByteArray.mk #[44, 125] = bstr [44, 125] := by decide +kernel
theorem cQ : ByteArray.mk #[125] = bstr [125] := by decide +kernel
theorem dN : ByteArray.mk #[44] = bstr [44] := by decide +kernel
theorem zU {w0 w : World} {b : Nat} {l : List Nat} {ob : Option Nat} {lo hi : Int} (hG : Gw w0) (hE0 : Evo [] w0 w) (hub : w0.heap.size ≤ b) (huo : Ge w0 ob) (h : BdN w b l ob) (hl : l.length ≤ 90000000) (h0 : 0 ≤ lo) (h1 : lo ≤ 1000) (h2 : hi = -1 ∨ (lo ≤ hi ∧ hi ≤ 1000)) :
    Calls Tryz.prog 75 #[.pointer (some ⟨b, 0, none⟩), .int .i64 lo, .int .i64 hi] w (Ret fun v w' => Wr w b (l ++ gJ lo hi) ob w') := by
  have hd1 := xS lo.toNat (by omega); have hd2 : hi ≠ -1 → (gM hi.toNat).length ≤ 4 := fun h => xS hi.toNat (by omega); have hq1 := xU lo.toNat; have hq2 := xU hi.toNat; refine bL (N := 62) Tryz.func75 rfl rfl rfl ?_; refine bS (aE (aB (aH (aF (bC rfl rfl) ?_)))); refine aH (aU (t := 19) rfl (fun hs19 => ?_) (fun hs19 => ?_))
  ·refine aK (aH (aK (aF (bC rfl rfl) ?_))); refine aY (aN (aC (aA (bG rfl (fun hc16 => ?_) (fun hc16 => ?_)))))
   ·refine aB (aH ?_)
    refine aP (vs := [_, _]) cB rfl (dB h (m := [42]) (by decide +kernel) (cH (by decide +kernel)) (by first | omega | (simp only [List.length_append]; omega)) (by decide)) rfl ?_
    rintro _ w1 ⟨obw1, hBDw1, hw2, hnb1⟩; have hV9 := (Evo.refl (b :: ob.toList) w); have hV90 := hE0; have hN1 := dC (Or.inl rfl) hnb1 hV9.size; have hU1 := dS huo hV90.size hnb1; have hE3 := (Evo.refl (b :: ob.toList) w).step hw2 (dD (Or.inl rfl)); refine aC (aZ (cI rfl ?_))
    exact eP hBDw1 (by unfold gJ; rw [if_pos (by omega)]) hE3 hN1
   refine aE (aB (aH (aF (bC rfl rfl) ?_))); refine aH (aU (t := 28) rfl (fun hs28 => ?_) (fun hs28 => ?_))
   ·refine aK (aH (aK (aF (bC rfl rfl) ?_))); refine aY (aN (aC (aA (bG rfl (fun hc25 => ?_) (fun hc25 => ?_)))))
    ·refine aB (aH ?_)
     refine aP (vs := [_, _]) cB rfl (dB h (m := [43]) (by decide +kernel) (cH (by decide +kernel)) (by first | omega | (simp only [List.length_append]; omega)) (by decide)) rfl ?_
     rintro _ w5 ⟨obw1, hBDw1, hw6, hnb1⟩; have hV9 := (Evo.refl (b :: ob.toList) w); have hV90 := hE0; have hN1 := dC (Or.inl rfl) hnb1 hV9.size; have hU1 := dS huo hV90.size hnb1; have hE7 := (Evo.refl (b :: ob.toList) w).step hw6 (dD (Or.inl rfl)); refine aC (aZ (cI rfl ?_))
     exact eP hBDw1 (by unfold gJ; rw [if_neg (by omega), if_pos (by omega)]) hE7 hN1
    refine aE (aB (aH (aF (bC rfl rfl) ?_))); refine aH (aU (t := 37) rfl (fun hs37 => ?_) (fun hs37 => ?_))
    ·refine aK (aH (aK (aF (bC rfl rfl) ?_))); refine aY (aN (aC (aA (bG rfl (fun hc34 => ?_) (fun hc34 => ?_)))))
     ·refine aB (aH ?_)
      refine aP (vs := [_, _]) cB rfl (dB h (m := [63]) (by decide +kernel) (cH (by decide +kernel)) (by first | omega | (simp only [List.length_append]; omega)) (by decide)) rfl ?_
      rintro _ w9 ⟨obw1, hBDw1, hw10, hnb1⟩; have hV9 := (Evo.refl (b :: ob.toList) w); have hV90 := hE0; have hN1 := dC (Or.inl rfl) hnb1 hV9.size; have hU1 := dS huo hV90.size hnb1; have hE11 := (Evo.refl (b :: ob.toList) w).step hw10 (dD (Or.inl rfl)); refine aC (aZ (cI rfl ?_))
      exact eP hBDw1 (by unfold gJ; rw [if_neg (by omega), if_neg (by omega), if_pos (by omega)]) hE11 hN1
     refine aE (aB (aH (aF (bC rfl rfl) ?_))); refine aN (aC (aA (bG rfl (fun hc43 => ?_) (fun hc43 => ?_))))
     ·refine aB (aH (aH ?_)); refine aP (vs := [_]) dA rfl (fL (hG.evo0 hE0) lo (by omega) (by omega)) rfl ?_; rintro _ w13 ⟨rfl, hw14⟩; have hE15 := (Evo.refl (b :: ob.toList) w).then hw14; have hE16 := hE0.then hw14; have hF17 := h.evo0 hw14
      skip
      refine aF (cW rfl rfl (by simp only [cR, bQ, cQ, dN, bap, bsz, List.length_append, List.length_cons, List.length_nil]; omega)) ?_
      simp only [cR, bQ, cQ, dN, bap]
      skip
      refine aF (cW rfl rfl (by simp only [cR, bQ, cQ, dN, bap, bsz, List.length_append, List.length_cons, List.length_nil]; omega)) ?_
      simp only [cR, bQ, cQ, dN, bap]
      refine aP (vs := [_, _]) cB rfl (dB hF17 (m := [123] ++ gM lo.toNat ++ [44, 125]) rfl (((cH (by decide +kernel)).app hq1).app (cH (by decide +kernel))) (by first | omega | (simp only [List.length_append]; omega)) (by simp only [List.length_append, List.length_cons, List.length_nil]; omega)) rfl ?_
      rintro _ w18 ⟨obw1, hBDw1, hw19, hnb1⟩; have hV9 := hE15; have hV90 := hE16; have hN1 := dC (Or.inl rfl) hnb1 hV9.size; have hU1 := dS huo hV90.size hnb1; have hE20 := hE15.step hw19 (dD (Or.inl rfl)); refine aC (aZ (cI rfl ?_))
      exact eP hBDw1 (by unfold gJ; rw [if_neg (by omega), if_neg (by omega), if_neg (by omega), if_pos (by omega)]) hE20 hN1
     refine aE (aB (aH (aH (aF (bC rfl rfl) ?_)))); refine aN (aC (aA (bG rfl (fun hc52 => ?_) (fun hc52 => ?_))))
     ·refine aB (aH (aH ?_)); refine aP (vs := [_]) dA rfl (fL (hG.evo0 hE0) lo (by omega) (by omega)) rfl ?_; rintro _ w22 ⟨rfl, hw23⟩; have hE24 := (Evo.refl (b :: ob.toList) w).then hw23; have hE25 := hE0.then hw23; have hF26 := h.evo0 hw23
      skip
      refine aF (cW rfl rfl (by simp only [cR, bQ, cQ, dN, bap, bsz, List.length_append, List.length_cons, List.length_nil]; omega)) ?_
      simp only [cR, bQ, cQ, dN, bap]
      skip
      refine aF (cW rfl rfl (by simp only [cR, bQ, cQ, dN, bap, bsz, List.length_append, List.length_cons, List.length_nil]; omega)) ?_
      simp only [cR, bQ, cQ, dN, bap]
      refine aP (vs := [_, _]) cB rfl (dB hF26 (m := [123] ++ gM lo.toNat ++ [125]) rfl (((cH (by decide +kernel)).app hq1).app (cH (by decide +kernel))) (by first | omega | (simp only [List.length_append]; omega)) (by simp only [List.length_append, List.length_cons, List.length_nil]; omega)) rfl ?_
      rintro _ w27 ⟨obw1, hBDw1, hw28, hnb1⟩; have hV9 := hE24; have hV90 := hE25; have hN1 := dC (Or.inl rfl) hnb1 hV9.size; have hU1 := dS huo hV90.size hnb1; have hE29 := hE24.step hw28 (dD (Or.inl rfl)); refine aC (aZ (cI rfl ?_))
      exact eP hBDw1 (by unfold gJ; rw [if_neg (by omega), if_neg (by omega), if_neg (by omega), if_neg (by omega), if_pos (by omega)]) hE29 hN1
     have hd3 := hd2 (by omega); refine aB (aH (aH ?_)); refine aP (vs := [_]) dA rfl (fL (hG.evo0 hE0) lo (by omega) (by omega)) rfl ?_; rintro _ w31 ⟨rfl, hw32⟩; have hE33 := (Evo.refl (b :: ob.toList) w).then hw32; have hE34 := hE0.then hw32; have hF35 := h.evo0 hw32
     skip
     refine aF (cW rfl rfl (by simp only [cR, bQ, cQ, dN, bap, bsz, List.length_append, List.length_cons, List.length_nil]; omega)) ?_
     simp only [cR, bQ, cQ, dN, bap]
     skip
     refine aF (cW rfl rfl (by simp only [cR, bQ, cQ, dN, bap, bsz, List.length_append, List.length_cons, List.length_nil]; omega)) ?_
     simp only [cR, bQ, cQ, dN, bap]; refine aH ?_; refine aP (vs := [_]) dA rfl (fL (hG.evo0 hE34) hi (by omega) (by omega)) rfl ?_; rintro _ w36 ⟨rfl, hw37⟩; have hE38 := hE33.then hw37; have hE39 := hE34.then hw37; have hF40 := hF35.evo0 hw37
     skip
     refine aF (cW rfl rfl (by simp only [cR, bQ, cQ, dN, bap, bsz, List.length_append, List.length_cons, List.length_nil]; omega)) ?_
     simp only [cR, bQ, cQ, dN, bap]
     skip
     refine aF (cW rfl rfl (by simp only [cR, bQ, cQ, dN, bap, bsz, List.length_append, List.length_cons, List.length_nil]; omega)) ?_
     simp only [cR, bQ, cQ, dN, bap]
     refine aP (vs := [_, _]) cB rfl (dB hF40 (m := [123] ++ gM lo.toNat ++ [44] ++ gM hi.toNat ++ [125]) rfl (((((cH (by decide +kernel)).app hq1).app (cH (by decide +kernel))).app hq2).app (cH (by decide +kernel))) (by first | omega | (simp only [List.length_append]; omega)) (by simp only [List.length_append, List.length_cons, List.length_nil]; omega)) rfl ?_
     rintro _ w41 ⟨obw1, hBDw1, hw42, hnb1⟩; have hV9 := hE38; have hV90 := hE39; have hN1 := dC (Or.inl rfl) hnb1 hV9.size; have hU1 := dS huo hV90.size hnb1; have hE43 := hE38.step hw42 (dD (Or.inl rfl)); refine aC (aZ (cI rfl ?_))
     exact eP hBDw1 (by unfold gJ; rw [if_neg (by omega), if_neg (by omega), if_neg (by omega), if_neg (by omega), if_neg (by omega)]) hE43 hN1
    refine aG (aG (aR (aN (aC (aA (cN rfl ?_)))))); refine aE (aB (aH (aF (bC rfl rfl) ?_))); refine aN (aC (aA (bG rfl (fun hc43 => ?_) (fun hc43 => ?_))))
    ·refine aB (aH (aH ?_)); refine aP (vs := [_]) dA rfl (fL (hG.evo0 hE0) lo (by omega) (by omega)) rfl ?_; rintro _ w45 ⟨rfl, hw46⟩; have hE47 := (Evo.refl (b :: ob.toList) w).then hw46; have hE48 := hE0.then hw46; have hF49 := h.evo0 hw46
     skip
     refine aF (cW rfl rfl (by simp only [cR, bQ, cQ, dN, bap, bsz, List.length_append, List.length_cons, List.length_nil]; omega)) ?_
     simp only [cR, bQ, cQ, dN, bap]
     skip
     refine aF (cW rfl rfl (by simp only [cR, bQ, cQ, dN, bap, bsz, List.length_append, List.length_cons, List.length_nil]; omega)) ?_
     simp only [cR, bQ, cQ, dN, bap]
     refine aP (vs := [_, _]) cB rfl (dB hF49 (m := [123] ++ gM lo.toNat ++ [44, 125]) rfl (((cH (by decide +kernel)).app hq1).app (cH (by decide +kernel))) (by first | omega | (simp only [List.length_append]; omega)) (by simp only [List.length_append, List.length_cons, List.length_nil]; omega)) rfl ?_
     rintro _ w50 ⟨obw1, hBDw1, hw51, hnb1⟩; have hV9 := hE47; have hV90 := hE48; have hN1 := dC (Or.inl rfl) hnb1 hV9.size; have hU1 := dS huo hV90.size hnb1; have hE52 := hE47.step hw51 (dD (Or.inl rfl)); refine aC (aZ (cI rfl ?_))
     exact eP hBDw1 (by unfold gJ; rw [if_neg (by omega), if_neg (by omega), if_neg (by omega), if_pos (by omega)]) hE52 hN1
    refine aE (aB (aH (aH (aF (bC rfl rfl) ?_)))); refine aN (aC (aA (bG rfl (fun hc52 => ?_) (fun hc52 => ?_))))
    ·refine aB (aH (aH ?_)); refine aP (vs := [_]) dA rfl (fL (hG.evo0 hE0) lo (by omega) (by omega)) rfl ?_; rintro _ w54 ⟨rfl, hw55⟩; have hE56 := (Evo.refl (b :: ob.toList) w).then hw55; have hE57 := hE0.then hw55; have hF58 := h.evo0 hw55
     skip
     refine aF (cW rfl rfl (by simp only [cR, bQ, cQ, dN, bap, bsz, List.length_append, List.length_cons, List.length_nil]; omega)) ?_
     simp only [cR, bQ, cQ, dN, bap]
     skip
     refine aF (cW rfl rfl (by simp only [cR, bQ, cQ, dN, bap, bsz, List.length_append, List.length_cons, List.length_nil]; omega)) ?_
     simp only [cR, bQ, cQ, dN, bap]
     refine aP (vs := [_, _]) cB rfl (dB hF58 (m := [123] ++ gM lo.toNat ++ [125]) rfl (((cH (by decide +kernel)).app hq1).app (cH (by decide +kernel))) (by first | omega | (simp only [List.length_append]; omega)) (by simp only [List.length_append, List.length_cons, List.length_nil]; omega)) rfl ?_
     rintro _ w59 ⟨obw1, hBDw1, hw60, hnb1⟩; have hV9 := hE56; have hV90 := hE57; have hN1 := dC (Or.inl rfl) hnb1 hV9.size; have hU1 := dS huo hV90.size hnb1; have hE61 := hE56.step hw60 (dD (Or.inl rfl)); refine aC (aZ (cI rfl ?_))
     exact eP hBDw1 (by unfold gJ; rw [if_neg (by omega), if_neg (by omega), if_neg (by omega), if_neg (by omega), if_pos (by omega)]) hE61 hN1
    have hd3 := hd2 (by omega); refine aB (aH (aH ?_)); refine aP (vs := [_]) dA rfl (fL (hG.evo0 hE0) lo (by omega) (by omega)) rfl ?_; rintro _ w63 ⟨rfl, hw64⟩; have hE65 := (Evo.refl (b :: ob.toList) w).then hw64; have hE66 := hE0.then hw64; have hF67 := h.evo0 hw64
    skip
    refine aF (cW rfl rfl (by simp only [cR, bQ, cQ, dN, bap, bsz, List.length_append, List.length_cons, List.length_nil]; omega)) ?_
    simp only [cR, bQ, cQ, dN, bap]
    skip
    refine aF (cW rfl rfl (by simp only [cR, bQ, cQ, dN, bap, bsz, List.length_append, List.length_cons, List.length_nil]; omega)) ?_
    simp only [cR, bQ, cQ, dN, bap]; refine aH ?_; refine aP (vs := [_]) dA rfl (fL (hG.evo0 hE66) hi (by omega) (by omega)) rfl ?_; rintro _ w68 ⟨rfl, hw69⟩; have hE70 := hE65.then hw69; have hE71 := hE66.then hw69; have hF72 := hF67.evo0 hw69
    skip
    refine aF (cW rfl rfl (by simp only [cR, bQ, cQ, dN, bap, bsz, List.length_append, List.length_cons, List.length_nil]; omega)) ?_
    simp only [cR, bQ, cQ, dN, bap]
    skip
    refine aF (cW rfl rfl (by simp only [cR, bQ, cQ, dN, bap, bsz, List.length_append, List.length_cons, List.length_nil]; omega)) ?_
    simp only [cR, bQ, cQ, dN, bap]
    refine aP (vs := [_, _]) cB rfl (dB hF72 (m := [123] ++ gM lo.toNat ++ [44] ++ gM hi.toNat ++ [125]) rfl (((((cH (by decide +kernel)).app hq1).app (cH (by decide +kernel))).app hq2).app (cH (by decide +kernel))) (by first | omega | (simp only [List.length_append]; omega)) (by simp only [List.length_append, List.length_cons, List.length_nil]; omega)) rfl ?_
    rintro _ w73 ⟨obw1, hBDw1, hw74, hnb1⟩; have hV9 := hE70; have hV90 := hE71; have hN1 := dC (Or.inl rfl) hnb1 hV9.size; have hU1 := dS huo hV90.size hnb1; have hE75 := hE70.step hw74 (dD (Or.inl rfl)); refine aC (aZ (cI rfl ?_))
    exact eP hBDw1 (by unfold gJ; rw [if_neg (by omega), if_neg (by omega), if_neg (by omega), if_neg (by omega), if_neg (by omega)]) hE75 hN1
   refine aG (aG (aR (aN (aC (aA (cN rfl ?_)))))); refine aE (aB (aH (aF (bC rfl rfl) ?_))); refine aH (aU (t := 37) rfl (fun hs37 => ?_) (fun hs37 => ?_))
   ·refine aK (aH (aK (aF (bC rfl rfl) ?_))); refine aY (aN (aC (aA (bG rfl (fun hc34 => ?_) (fun hc34 => ?_)))))
    ·refine aB (aH ?_)
     refine aP (vs := [_, _]) cB rfl (dB h (m := [63]) (by decide +kernel) (cH (by decide +kernel)) (by first | omega | (simp only [List.length_append]; omega)) (by decide)) rfl ?_
     rintro _ w77 ⟨obw1, hBDw1, hw78, hnb1⟩; have hV9 := (Evo.refl (b :: ob.toList) w); have hV90 := hE0; have hN1 := dC (Or.inl rfl) hnb1 hV9.size; have hU1 := dS huo hV90.size hnb1; have hE79 := (Evo.refl (b :: ob.toList) w).step hw78 (dD (Or.inl rfl)); refine aC (aZ (cI rfl ?_))
     exact eP hBDw1 (by unfold gJ; rw [if_neg (by omega), if_neg (by omega), if_pos (by omega)]) hE79 hN1
    refine aE (aB (aH (aF (bC rfl rfl) ?_))); refine aN (aC (aA (bG rfl (fun hc43 => ?_) (fun hc43 => ?_))))
    ·refine aB (aH (aH ?_)); refine aP (vs := [_]) dA rfl (fL (hG.evo0 hE0) lo (by omega) (by omega)) rfl ?_; rintro _ w81 ⟨rfl, hw82⟩; have hE83 := (Evo.refl (b :: ob.toList) w).then hw82; have hE84 := hE0.then hw82; have hF85 := h.evo0 hw82
     skip
     refine aF (cW rfl rfl (by simp only [cR, bQ, cQ, dN, bap, bsz, List.length_append, List.length_cons, List.length_nil]; omega)) ?_
     simp only [cR, bQ, cQ, dN, bap]
     skip
     refine aF (cW rfl rfl (by simp only [cR, bQ, cQ, dN, bap, bsz, List.length_append, List.length_cons, List.length_nil]; omega)) ?_
     simp only [cR, bQ, cQ, dN, bap]
     refine aP (vs := [_, _]) cB rfl (dB hF85 (m := [123] ++ gM lo.toNat ++ [44, 125]) rfl (((cH (by decide +kernel)).app hq1).app (cH (by decide +kernel))) (by first | omega | (simp only [List.length_append]; omega)) (by simp only [List.length_append, List.length_cons, List.length_nil]; omega)) rfl ?_
     rintro _ w86 ⟨obw1, hBDw1, hw87, hnb1⟩; have hV9 := hE83; have hV90 := hE84; have hN1 := dC (Or.inl rfl) hnb1 hV9.size; have hU1 := dS huo hV90.size hnb1; have hE88 := hE83.step hw87 (dD (Or.inl rfl)); refine aC (aZ (cI rfl ?_))
     exact eP hBDw1 (by unfold gJ; rw [if_neg (by omega), if_neg (by omega), if_neg (by omega), if_pos (by omega)]) hE88 hN1
    refine aE (aB (aH (aH (aF (bC rfl rfl) ?_)))); refine aN (aC (aA (bG rfl (fun hc52 => ?_) (fun hc52 => ?_))))
    ·refine aB (aH (aH ?_)); refine aP (vs := [_]) dA rfl (fL (hG.evo0 hE0) lo (by omega) (by omega)) rfl ?_; rintro _ w90 ⟨rfl, hw91⟩; have hE92 := (Evo.refl (b :: ob.toList) w).then hw91; have hE93 := hE0.then hw91; have hF94 := h.evo0 hw91
     skip
     refine aF (cW rfl rfl (by simp only [cR, bQ, cQ, dN, bap, bsz, List.length_append, List.length_cons, List.length_nil]; omega)) ?_
     simp only [cR, bQ, cQ, dN, bap]
     skip
     refine aF (cW rfl rfl (by simp only [cR, bQ, cQ, dN, bap, bsz, List.length_append, List.length_cons, List.length_nil]; omega)) ?_
     simp only [cR, bQ, cQ, dN, bap]
     refine aP (vs := [_, _]) cB rfl (dB hF94 (m := [123] ++ gM lo.toNat ++ [125]) rfl (((cH (by decide +kernel)).app hq1).app (cH (by decide +kernel))) (by first | omega | (simp only [List.length_append]; omega)) (by simp only [List.length_append, List.length_cons, List.length_nil]; omega)) rfl ?_
     rintro _ w95 ⟨obw1, hBDw1, hw96, hnb1⟩; have hV9 := hE92; have hV90 := hE93; have hN1 := dC (Or.inl rfl) hnb1 hV9.size; have hU1 := dS huo hV90.size hnb1; have hE97 := hE92.step hw96 (dD (Or.inl rfl)); refine aC (aZ (cI rfl ?_))
     exact eP hBDw1 (by unfold gJ; rw [if_neg (by omega), if_neg (by omega), if_neg (by omega), if_neg (by omega), if_pos (by omega)]) hE97 hN1
    have hd3 := hd2 (by omega); refine aB (aH (aH ?_)); refine aP (vs := [_]) dA rfl (fL (hG.evo0 hE0) lo (by omega) (by omega)) rfl ?_; rintro _ w99 ⟨rfl, hw100⟩; have hE101 := (Evo.refl (b :: ob.toList) w).then hw100; have hE102 := hE0.then hw100; have hF103 := h.evo0 hw100
    skip
    refine aF (cW rfl rfl (by simp only [cR, bQ, cQ, dN, bap, bsz, List.length_append, List.length_cons, List.length_nil]; omega)) ?_
    simp only [cR, bQ, cQ, dN, bap]
    skip
    refine aF (cW rfl rfl (by simp only [cR, bQ, cQ, dN, bap, bsz, List.length_append, List.length_cons, List.length_nil]; omega)) ?_
    simp only [cR, bQ, cQ, dN, bap]; refine aH ?_; refine aP (vs := [_]) dA rfl (fL (hG.evo0 hE102) hi (by omega) (by omega)) rfl ?_; rintro _ w104 ⟨rfl, hw105⟩; have hE106 := hE101.then hw105; have hE107 := hE102.then hw105; have hF108 := hF103.evo0 hw105
    skip
    refine aF (cW rfl rfl (by simp only [cR, bQ, cQ, dN, bap, bsz, List.length_append, List.length_cons, List.length_nil]; omega)) ?_
    simp only [cR, bQ, cQ, dN, bap]
    skip
    refine aF (cW rfl rfl (by simp only [cR, bQ, cQ, dN, bap, bsz, List.length_append, List.length_cons, List.length_nil]; omega)) ?_
    simp only [cR, bQ, cQ, dN, bap]
    refine aP (vs := [_, _]) cB rfl (dB hF108 (m := [123] ++ gM lo.toNat ++ [44] ++ gM hi.toNat ++ [125]) rfl (((((cH (by decide +kernel)).app hq1).app (cH (by decide +kernel))).app hq2).app (cH (by decide +kernel))) (by first | omega | (simp only [List.length_append]; omega)) (by simp only [List.length_append, List.length_cons, List.length_nil]; omega)) rfl ?_
    rintro _ w109 ⟨obw1, hBDw1, hw110, hnb1⟩; have hV9 := hE106; have hV90 := hE107; have hN1 := dC (Or.inl rfl) hnb1 hV9.size; have hU1 := dS huo hV90.size hnb1; have hE111 := hE106.step hw110 (dD (Or.inl rfl)); refine aC (aZ (cI rfl ?_))
    exact eP hBDw1 (by unfold gJ; rw [if_neg (by omega), if_neg (by omega), if_neg (by omega), if_neg (by omega), if_neg (by omega)]) hE111 hN1
   refine aG (aG (aR (aN (aC (aA (cN rfl ?_)))))); refine aE (aB (aH (aF (bC rfl rfl) ?_))); refine aN (aC (aA (bG rfl (fun hc43 => ?_) (fun hc43 => ?_))))
   ·refine aB (aH (aH ?_)); refine aP (vs := [_]) dA rfl (fL (hG.evo0 hE0) lo (by omega) (by omega)) rfl ?_; rintro _ w113 ⟨rfl, hw114⟩; have hE115 := (Evo.refl (b :: ob.toList) w).then hw114; have hE116 := hE0.then hw114; have hF117 := h.evo0 hw114
    skip
    refine aF (cW rfl rfl (by simp only [cR, bQ, cQ, dN, bap, bsz, List.length_append, List.length_cons, List.length_nil]; omega)) ?_
    simp only [cR, bQ, cQ, dN, bap]
    skip
    refine aF (cW rfl rfl (by simp only [cR, bQ, cQ, dN, bap, bsz, List.length_append, List.length_cons, List.length_nil]; omega)) ?_
    simp only [cR, bQ, cQ, dN, bap]
    refine aP (vs := [_, _]) cB rfl (dB hF117 (m := [123] ++ gM lo.toNat ++ [44, 125]) rfl (((cH (by decide +kernel)).app hq1).app (cH (by decide +kernel))) (by first | omega | (simp only [List.length_append]; omega)) (by simp only [List.length_append, List.length_cons, List.length_nil]; omega)) rfl ?_
    rintro _ w118 ⟨obw1, hBDw1, hw119, hnb1⟩; have hV9 := hE115; have hV90 := hE116; have hN1 := dC (Or.inl rfl) hnb1 hV9.size; have hU1 := dS huo hV90.size hnb1; have hE120 := hE115.step hw119 (dD (Or.inl rfl)); refine aC (aZ (cI rfl ?_))
    exact eP hBDw1 (by unfold gJ; rw [if_neg (by omega), if_neg (by omega), if_neg (by omega), if_pos (by omega)]) hE120 hN1
   refine aE (aB (aH (aH (aF (bC rfl rfl) ?_)))); refine aN (aC (aA (bG rfl (fun hc52 => ?_) (fun hc52 => ?_))))
   ·refine aB (aH (aH ?_)); refine aP (vs := [_]) dA rfl (fL (hG.evo0 hE0) lo (by omega) (by omega)) rfl ?_; rintro _ w122 ⟨rfl, hw123⟩; have hE124 := (Evo.refl (b :: ob.toList) w).then hw123; have hE125 := hE0.then hw123; have hF126 := h.evo0 hw123
    skip
    refine aF (cW rfl rfl (by simp only [cR, bQ, cQ, dN, bap, bsz, List.length_append, List.length_cons, List.length_nil]; omega)) ?_
    simp only [cR, bQ, cQ, dN, bap]
    skip
    refine aF (cW rfl rfl (by simp only [cR, bQ, cQ, dN, bap, bsz, List.length_append, List.length_cons, List.length_nil]; omega)) ?_
    simp only [cR, bQ, cQ, dN, bap]
    refine aP (vs := [_, _]) cB rfl (dB hF126 (m := [123] ++ gM lo.toNat ++ [125]) rfl (((cH (by decide +kernel)).app hq1).app (cH (by decide +kernel))) (by first | omega | (simp only [List.length_append]; omega)) (by simp only [List.length_append, List.length_cons, List.length_nil]; omega)) rfl ?_
    rintro _ w127 ⟨obw1, hBDw1, hw128, hnb1⟩; have hV9 := hE124; have hV90 := hE125; have hN1 := dC (Or.inl rfl) hnb1 hV9.size; have hU1 := dS huo hV90.size hnb1; have hE129 := hE124.step hw128 (dD (Or.inl rfl)); refine aC (aZ (cI rfl ?_))
    exact eP hBDw1 (by unfold gJ; rw [if_neg (by omega), if_neg (by omega), if_neg (by omega), if_neg (by omega), if_pos (by omega)]) hE129 hN1
   have hd3 := hd2 (by omega); refine aB (aH (aH ?_)); refine aP (vs := [_]) dA rfl (fL (hG.evo0 hE0) lo (by omega) (by omega)) rfl ?_; rintro _ w131 ⟨rfl, hw132⟩; have hE133 := (Evo.refl (b :: ob.toList) w).then hw132; have hE134 := hE0.then hw132; have hF135 := h.evo0 hw132
   skip
   refine aF (cW rfl rfl (by simp only [cR, bQ, cQ, dN, bap, bsz, List.length_append, List.length_cons, List.length_nil]; omega)) ?_
   simp only [cR, bQ, cQ, dN, bap]
   skip
   refine aF (cW rfl rfl (by simp only [cR, bQ, cQ, dN, bap, bsz, List.length_append, List.length_cons, List.length_nil]; omega)) ?_
   simp only [cR, bQ, cQ, dN, bap]; refine aH ?_; refine aP (vs := [_]) dA rfl (fL (hG.evo0 hE134) hi (by omega) (by omega)) rfl ?_; rintro _ w136 ⟨rfl, hw137⟩; have hE138 := hE133.then hw137; have hE139 := hE134.then hw137; have hF140 := hF135.evo0 hw137
   skip
   refine aF (cW rfl rfl (by simp only [cR, bQ, cQ, dN, bap, bsz, List.length_append, List.length_cons, List.length_nil]; omega)) ?_
   simp only [cR, bQ, cQ, dN, bap]
   skip
   refine aF (cW rfl rfl (by simp only [cR, bQ, cQ, dN, bap, bsz, List.length_append, List.length_cons, List.length_nil]; omega)) ?_
   simp only [cR, bQ, cQ, dN, bap]
   refine aP (vs := [_, _]) cB rfl (dB hF140 (m := [123] ++ gM lo.toNat ++ [44] ++ gM hi.toNat ++ [125]) rfl (((((cH (by decide +kernel)).app hq1).app (cH (by decide +kernel))).app hq2).app (cH (by decide +kernel))) (by first | omega | (simp only [List.length_append]; omega)) (by simp only [List.length_append, List.length_cons, List.length_nil]; omega)) rfl ?_
   rintro _ w141 ⟨obw1, hBDw1, hw142, hnb1⟩; have hV9 := hE138; have hV90 := hE139; have hN1 := dC (Or.inl rfl) hnb1 hV9.size; have hU1 := dS huo hV90.size hnb1; have hE143 := hE138.step hw142 (dD (Or.inl rfl)); refine aC (aZ (cI rfl ?_))
   exact eP hBDw1 (by unfold gJ; rw [if_neg (by omega), if_neg (by omega), if_neg (by omega), if_neg (by omega), if_neg (by omega)]) hE143 hN1
  refine aG (aG (aR (aN (aC (aA (cN rfl ?_)))))); refine aE (aB (aH (aF (bC rfl rfl) ?_))); refine aH (aU (t := 28) rfl (fun hs28 => ?_) (fun hs28 => ?_))
  ·refine aK (aH (aK (aF (bC rfl rfl) ?_))); refine aY (aN (aC (aA (bG rfl (fun hc25 => ?_) (fun hc25 => ?_)))))
   ·refine aB (aH ?_)
    refine aP (vs := [_, _]) cB rfl (dB h (m := [43]) (by decide +kernel) (cH (by decide +kernel)) (by first | omega | (simp only [List.length_append]; omega)) (by decide)) rfl ?_
    rintro _ w145 ⟨obw1, hBDw1, hw146, hnb1⟩; have hV9 := (Evo.refl (b :: ob.toList) w); have hV90 := hE0; have hN1 := dC (Or.inl rfl) hnb1 hV9.size; have hU1 := dS huo hV90.size hnb1; have hE147 := (Evo.refl (b :: ob.toList) w).step hw146 (dD (Or.inl rfl)); refine aC (aZ (cI rfl ?_))
    exact eP hBDw1 (by unfold gJ; rw [if_neg (by omega), if_pos (by omega)]) hE147 hN1
   refine aE (aB (aH (aF (bC rfl rfl) ?_))); refine aH (aU (t := 37) rfl (fun hs37 => ?_) (fun hs37 => ?_))
   ·refine aK (aH (aK (aF (bC rfl rfl) ?_))); refine aY (aN (aC (aA (bG rfl (fun hc34 => ?_) (fun hc34 => ?_)))))
    ·refine aB (aH ?_)
     refine aP (vs := [_, _]) cB rfl (dB h (m := [63]) (by decide +kernel) (cH (by decide +kernel)) (by first | omega | (simp only [List.length_append]; omega)) (by decide)) rfl ?_
     rintro _ w149 ⟨obw1, hBDw1, hw150, hnb1⟩; have hV9 := (Evo.refl (b :: ob.toList) w); have hV90 := hE0; have hN1 := dC (Or.inl rfl) hnb1 hV9.size; have hU1 := dS huo hV90.size hnb1; have hE151 := (Evo.refl (b :: ob.toList) w).step hw150 (dD (Or.inl rfl)); refine aC (aZ (cI rfl ?_))
     exact eP hBDw1 (by unfold gJ; rw [if_neg (by omega), if_neg (by omega), if_pos (by omega)]) hE151 hN1
    refine aE (aB (aH (aF (bC rfl rfl) ?_))); refine aN (aC (aA (bG rfl (fun hc43 => ?_) (fun hc43 => ?_))))
    ·refine aB (aH (aH ?_)); refine aP (vs := [_]) dA rfl (fL (hG.evo0 hE0) lo (by omega) (by omega)) rfl ?_; rintro _ w153 ⟨rfl, hw154⟩; have hE155 := (Evo.refl (b :: ob.toList) w).then hw154; have hE156 := hE0.then hw154; have hF157 := h.evo0 hw154
     skip
     refine aF (cW rfl rfl (by simp only [cR, bQ, cQ, dN, bap, bsz, List.length_append, List.length_cons, List.length_nil]; omega)) ?_
     simp only [cR, bQ, cQ, dN, bap]
     skip
     refine aF (cW rfl rfl (by simp only [cR, bQ, cQ, dN, bap, bsz, List.length_append, List.length_cons, List.length_nil]; omega)) ?_
     simp only [cR, bQ, cQ, dN, bap]
     refine aP (vs := [_, _]) cB rfl (dB hF157 (m := [123] ++ gM lo.toNat ++ [44, 125]) rfl (((cH (by decide +kernel)).app hq1).app (cH (by decide +kernel))) (by first | omega | (simp only [List.length_append]; omega)) (by simp only [List.length_append, List.length_cons, List.length_nil]; omega)) rfl ?_
     rintro _ w158 ⟨obw1, hBDw1, hw159, hnb1⟩; have hV9 := hE155; have hV90 := hE156; have hN1 := dC (Or.inl rfl) hnb1 hV9.size; have hU1 := dS huo hV90.size hnb1; have hE160 := hE155.step hw159 (dD (Or.inl rfl)); refine aC (aZ (cI rfl ?_))
     exact eP hBDw1 (by unfold gJ; rw [if_neg (by omega), if_neg (by omega), if_neg (by omega), if_pos (by omega)]) hE160 hN1
    refine aE (aB (aH (aH (aF (bC rfl rfl) ?_)))); refine aN (aC (aA (bG rfl (fun hc52 => ?_) (fun hc52 => ?_))))
    ·refine aB (aH (aH ?_)); refine aP (vs := [_]) dA rfl (fL (hG.evo0 hE0) lo (by omega) (by omega)) rfl ?_; rintro _ w162 ⟨rfl, hw163⟩; have hE164 := (Evo.refl (b :: ob.toList) w).then hw163; have hE165 := hE0.then hw163; have hF166 := h.evo0 hw163
     skip
     refine aF (cW rfl rfl (by simp only [cR, bQ, cQ, dN, bap, bsz, List.length_append, List.length_cons, List.length_nil]; omega)) ?_
     simp only [cR, bQ, cQ, dN, bap]
     skip
     refine aF (cW rfl rfl (by simp only [cR, bQ, cQ, dN, bap, bsz, List.length_append, List.length_cons, List.length_nil]; omega)) ?_
     simp only [cR, bQ, cQ, dN, bap]
     refine aP (vs := [_, _]) cB rfl (dB hF166 (m := [123] ++ gM lo.toNat ++ [125]) rfl (((cH (by decide +kernel)).app hq1).app (cH (by decide +kernel))) (by first | omega | (simp only [List.length_append]; omega)) (by simp only [List.length_append, List.length_cons, List.length_nil]; omega)) rfl ?_
     rintro _ w167 ⟨obw1, hBDw1, hw168, hnb1⟩; have hV9 := hE164; have hV90 := hE165; have hN1 := dC (Or.inl rfl) hnb1 hV9.size; have hU1 := dS huo hV90.size hnb1; have hE169 := hE164.step hw168 (dD (Or.inl rfl)); refine aC (aZ (cI rfl ?_))
     exact eP hBDw1 (by unfold gJ; rw [if_neg (by omega), if_neg (by omega), if_neg (by omega), if_neg (by omega), if_pos (by omega)]) hE169 hN1
    have hd3 := hd2 (by omega); refine aB (aH (aH ?_)); refine aP (vs := [_]) dA rfl (fL (hG.evo0 hE0) lo (by omega) (by omega)) rfl ?_; rintro _ w171 ⟨rfl, hw172⟩; have hE173 := (Evo.refl (b :: ob.toList) w).then hw172; have hE174 := hE0.then hw172; have hF175 := h.evo0 hw172
    skip
    refine aF (cW rfl rfl (by simp only [cR, bQ, cQ, dN, bap, bsz, List.length_append, List.length_cons, List.length_nil]; omega)) ?_
    simp only [cR, bQ, cQ, dN, bap]
    skip
    refine aF (cW rfl rfl (by simp only [cR, bQ, cQ, dN, bap, bsz, List.length_append, List.length_cons, List.length_nil]; omega)) ?_
    simp only [cR, bQ, cQ, dN, bap]; refine aH ?_; refine aP (vs := [_]) dA rfl (fL (hG.evo0 hE174) hi (by omega) (by omega)) rfl ?_; rintro _ w176 ⟨rfl, hw177⟩; have hE178 := hE173.then hw177; have hE179 := hE174.then hw177; have hF180 := hF175.evo0 hw177
    skip
    refine aF (cW rfl rfl (by simp only [cR, bQ, cQ, dN, bap, bsz, List.length_append, List.length_cons, List.length_nil]; omega)) ?_
    simp only [cR, bQ, cQ, dN, bap]
    skip
    refine aF (cW rfl rfl (by simp only [cR, bQ, cQ, dN, bap, bsz, List.length_append, List.length_cons, List.length_nil]; omega)) ?_
    simp only [cR, bQ, cQ, dN, bap]
    refine aP (vs := [_, _]) cB rfl (dB hF180 (m := [123] ++ gM lo.toNat ++ [44] ++ gM hi.toNat ++ [125]) rfl (((((cH (by decide +kernel)).app hq1).app (cH (by decide +kernel))).app hq2).app (cH (by decide +kernel))) (by first | omega | (simp only [List.length_append]; omega)) (by simp only [List.length_append, List.length_cons, List.length_nil]; omega)) rfl ?_
    rintro _ w181 ⟨obw1, hBDw1, hw182, hnb1⟩; have hV9 := hE178; have hV90 := hE179; have hN1 := dC (Or.inl rfl) hnb1 hV9.size; have hU1 := dS huo hV90.size hnb1; have hE183 := hE178.step hw182 (dD (Or.inl rfl)); refine aC (aZ (cI rfl ?_))
    exact eP hBDw1 (by unfold gJ; rw [if_neg (by omega), if_neg (by omega), if_neg (by omega), if_neg (by omega), if_neg (by omega)]) hE183 hN1
   refine aG (aG (aR (aN (aC (aA (cN rfl ?_)))))); refine aE (aB (aH (aF (bC rfl rfl) ?_))); refine aN (aC (aA (bG rfl (fun hc43 => ?_) (fun hc43 => ?_))))
   ·refine aB (aH (aH ?_)); refine aP (vs := [_]) dA rfl (fL (hG.evo0 hE0) lo (by omega) (by omega)) rfl ?_; rintro _ w185 ⟨rfl, hw186⟩; have hE187 := (Evo.refl (b :: ob.toList) w).then hw186; have hE188 := hE0.then hw186; have hF189 := h.evo0 hw186
    skip
    refine aF (cW rfl rfl (by simp only [cR, bQ, cQ, dN, bap, bsz, List.length_append, List.length_cons, List.length_nil]; omega)) ?_
    simp only [cR, bQ, cQ, dN, bap]
    skip
    refine aF (cW rfl rfl (by simp only [cR, bQ, cQ, dN, bap, bsz, List.length_append, List.length_cons, List.length_nil]; omega)) ?_
    simp only [cR, bQ, cQ, dN, bap]
    refine aP (vs := [_, _]) cB rfl (dB hF189 (m := [123] ++ gM lo.toNat ++ [44, 125]) rfl (((cH (by decide +kernel)).app hq1).app (cH (by decide +kernel))) (by first | omega | (simp only [List.length_append]; omega)) (by simp only [List.length_append, List.length_cons, List.length_nil]; omega)) rfl ?_
    rintro _ w190 ⟨obw1, hBDw1, hw191, hnb1⟩; have hV9 := hE187; have hV90 := hE188; have hN1 := dC (Or.inl rfl) hnb1 hV9.size; have hU1 := dS huo hV90.size hnb1; have hE192 := hE187.step hw191 (dD (Or.inl rfl)); refine aC (aZ (cI rfl ?_))
    exact eP hBDw1 (by unfold gJ; rw [if_neg (by omega), if_neg (by omega), if_neg (by omega), if_pos (by omega)]) hE192 hN1
   refine aE (aB (aH (aH (aF (bC rfl rfl) ?_)))); refine aN (aC (aA (bG rfl (fun hc52 => ?_) (fun hc52 => ?_))))
   ·refine aB (aH (aH ?_)); refine aP (vs := [_]) dA rfl (fL (hG.evo0 hE0) lo (by omega) (by omega)) rfl ?_; rintro _ w194 ⟨rfl, hw195⟩; have hE196 := (Evo.refl (b :: ob.toList) w).then hw195; have hE197 := hE0.then hw195; have hF198 := h.evo0 hw195
    skip
    refine aF (cW rfl rfl (by simp only [cR, bQ, cQ, dN, bap, bsz, List.length_append, List.length_cons, List.length_nil]; omega)) ?_
    simp only [cR, bQ, cQ, dN, bap]
    skip
    refine aF (cW rfl rfl (by simp only [cR, bQ, cQ, dN, bap, bsz, List.length_append, List.length_cons, List.length_nil]; omega)) ?_
    simp only [cR, bQ, cQ, dN, bap]
    refine aP (vs := [_, _]) cB rfl (dB hF198 (m := [123] ++ gM lo.toNat ++ [125]) rfl (((cH (by decide +kernel)).app hq1).app (cH (by decide +kernel))) (by first | omega | (simp only [List.length_append]; omega)) (by simp only [List.length_append, List.length_cons, List.length_nil]; omega)) rfl ?_
    rintro _ w199 ⟨obw1, hBDw1, hw200, hnb1⟩; have hV9 := hE196; have hV90 := hE197; have hN1 := dC (Or.inl rfl) hnb1 hV9.size; have hU1 := dS huo hV90.size hnb1; have hE201 := hE196.step hw200 (dD (Or.inl rfl)); refine aC (aZ (cI rfl ?_))
    exact eP hBDw1 (by unfold gJ; rw [if_neg (by omega), if_neg (by omega), if_neg (by omega), if_neg (by omega), if_pos (by omega)]) hE201 hN1
   have hd3 := hd2 (by omega); refine aB (aH (aH ?_)); refine aP (vs := [_]) dA rfl (fL (hG.evo0 hE0) lo (by omega) (by omega)) rfl ?_; rintro _ w203 ⟨rfl, hw204⟩; have hE205 := (Evo.refl (b :: ob.toList) w).then hw204; have hE206 := hE0.then hw204; have hF207 := h.evo0 hw204
   skip
   refine aF (cW rfl rfl (by simp only [cR, bQ, cQ, dN, bap, bsz, List.length_append, List.length_cons, List.length_nil]; omega)) ?_
   simp only [cR, bQ, cQ, dN, bap]
   skip
   refine aF (cW rfl rfl (by simp only [cR, bQ, cQ, dN, bap, bsz, List.length_append, List.length_cons, List.length_nil]; omega)) ?_
   simp only [cR, bQ, cQ, dN, bap]; refine aH ?_; refine aP (vs := [_]) dA rfl (fL (hG.evo0 hE206) hi (by omega) (by omega)) rfl ?_; rintro _ w208 ⟨rfl, hw209⟩; have hE210 := hE205.then hw209; have hE211 := hE206.then hw209; have hF212 := hF207.evo0 hw209
   skip
   refine aF (cW rfl rfl (by simp only [cR, bQ, cQ, dN, bap, bsz, List.length_append, List.length_cons, List.length_nil]; omega)) ?_
   simp only [cR, bQ, cQ, dN, bap]
   skip
   refine aF (cW rfl rfl (by simp only [cR, bQ, cQ, dN, bap, bsz, List.length_append, List.length_cons, List.length_nil]; omega)) ?_
   simp only [cR, bQ, cQ, dN, bap]
   refine aP (vs := [_, _]) cB rfl (dB hF212 (m := [123] ++ gM lo.toNat ++ [44] ++ gM hi.toNat ++ [125]) rfl (((((cH (by decide +kernel)).app hq1).app (cH (by decide +kernel))).app hq2).app (cH (by decide +kernel))) (by first | omega | (simp only [List.length_append]; omega)) (by simp only [List.length_append, List.length_cons, List.length_nil]; omega)) rfl ?_
   rintro _ w213 ⟨obw1, hBDw1, hw214, hnb1⟩; have hV9 := hE210; have hV90 := hE211; have hN1 := dC (Or.inl rfl) hnb1 hV9.size; have hU1 := dS huo hV90.size hnb1; have hE215 := hE210.step hw214 (dD (Or.inl rfl)); refine aC (aZ (cI rfl ?_))
   exact eP hBDw1 (by unfold gJ; rw [if_neg (by omega), if_neg (by omega), if_neg (by omega), if_neg (by omega), if_neg (by omega)]) hE215 hN1
  refine aG (aG (aR (aN (aC (aA (cN rfl ?_)))))); refine aE (aB (aH (aF (bC rfl rfl) ?_))); refine aH (aU (t := 37) rfl (fun hs37 => ?_) (fun hs37 => ?_))
  ·refine aK (aH (aK (aF (bC rfl rfl) ?_))); refine aY (aN (aC (aA (bG rfl (fun hc34 => ?_) (fun hc34 => ?_)))))
   ·refine aB (aH ?_)
    refine aP (vs := [_, _]) cB rfl (dB h (m := [63]) (by decide +kernel) (cH (by decide +kernel)) (by first | omega | (simp only [List.length_append]; omega)) (by decide)) rfl ?_
    rintro _ w217 ⟨obw1, hBDw1, hw218, hnb1⟩; have hV9 := (Evo.refl (b :: ob.toList) w); have hV90 := hE0; have hN1 := dC (Or.inl rfl) hnb1 hV9.size; have hU1 := dS huo hV90.size hnb1; have hE219 := (Evo.refl (b :: ob.toList) w).step hw218 (dD (Or.inl rfl)); refine aC (aZ (cI rfl ?_))
    exact eP hBDw1 (by unfold gJ; rw [if_neg (by omega), if_neg (by omega), if_pos (by omega)]) hE219 hN1
   refine aE (aB (aH (aF (bC rfl rfl) ?_))); refine aN (aC (aA (bG rfl (fun hc43 => ?_) (fun hc43 => ?_))))
   ·refine aB (aH (aH ?_)); refine aP (vs := [_]) dA rfl (fL (hG.evo0 hE0) lo (by omega) (by omega)) rfl ?_; rintro _ w221 ⟨rfl, hw222⟩; have hE223 := (Evo.refl (b :: ob.toList) w).then hw222; have hE224 := hE0.then hw222; have hF225 := h.evo0 hw222
    skip
    refine aF (cW rfl rfl (by simp only [cR, bQ, cQ, dN, bap, bsz, List.length_append, List.length_cons, List.length_nil]; omega)) ?_
    simp only [cR, bQ, cQ, dN, bap]
    skip
    refine aF (cW rfl rfl (by simp only [cR, bQ, cQ, dN, bap, bsz, List.length_append, List.length_cons, List.length_nil]; omega)) ?_
    simp only [cR, bQ, cQ, dN, bap]
    refine aP (vs := [_, _]) cB rfl (dB hF225 (m := [123] ++ gM lo.toNat ++ [44, 125]) rfl (((cH (by decide +kernel)).app hq1).app (cH (by decide +kernel))) (by first | omega | (simp only [List.length_append]; omega)) (by simp only [List.length_append, List.length_cons, List.length_nil]; omega)) rfl ?_
    rintro _ w226 ⟨obw1, hBDw1, hw227, hnb1⟩; have hV9 := hE223; have hV90 := hE224; have hN1 := dC (Or.inl rfl) hnb1 hV9.size; have hU1 := dS huo hV90.size hnb1; have hE228 := hE223.step hw227 (dD (Or.inl rfl)); refine aC (aZ (cI rfl ?_))
    exact eP hBDw1 (by unfold gJ; rw [if_neg (by omega), if_neg (by omega), if_neg (by omega), if_pos (by omega)]) hE228 hN1
   refine aE (aB (aH (aH (aF (bC rfl rfl) ?_)))); refine aN (aC (aA (bG rfl (fun hc52 => ?_) (fun hc52 => ?_))))
   ·refine aB (aH (aH ?_)); refine aP (vs := [_]) dA rfl (fL (hG.evo0 hE0) lo (by omega) (by omega)) rfl ?_; rintro _ w230 ⟨rfl, hw231⟩; have hE232 := (Evo.refl (b :: ob.toList) w).then hw231; have hE233 := hE0.then hw231; have hF234 := h.evo0 hw231
    skip
    refine aF (cW rfl rfl (by simp only [cR, bQ, cQ, dN, bap, bsz, List.length_append, List.length_cons, List.length_nil]; omega)) ?_
    simp only [cR, bQ, cQ, dN, bap]
    skip
    refine aF (cW rfl rfl (by simp only [cR, bQ, cQ, dN, bap, bsz, List.length_append, List.length_cons, List.length_nil]; omega)) ?_
    simp only [cR, bQ, cQ, dN, bap]
    refine aP (vs := [_, _]) cB rfl (dB hF234 (m := [123] ++ gM lo.toNat ++ [125]) rfl (((cH (by decide +kernel)).app hq1).app (cH (by decide +kernel))) (by first | omega | (simp only [List.length_append]; omega)) (by simp only [List.length_append, List.length_cons, List.length_nil]; omega)) rfl ?_
    rintro _ w235 ⟨obw1, hBDw1, hw236, hnb1⟩; have hV9 := hE232; have hV90 := hE233; have hN1 := dC (Or.inl rfl) hnb1 hV9.size; have hU1 := dS huo hV90.size hnb1; have hE237 := hE232.step hw236 (dD (Or.inl rfl)); refine aC (aZ (cI rfl ?_))
    exact eP hBDw1 (by unfold gJ; rw [if_neg (by omega), if_neg (by omega), if_neg (by omega), if_neg (by omega), if_pos (by omega)]) hE237 hN1
   have hd3 := hd2 (by omega); refine aB (aH (aH ?_)); refine aP (vs := [_]) dA rfl (fL (hG.evo0 hE0) lo (by omega) (by omega)) rfl ?_; rintro _ w239 ⟨rfl, hw240⟩; have hE241 := (Evo.refl (b :: ob.toList) w).then hw240; have hE242 := hE0.then hw240; have hF243 := h.evo0 hw240
   skip
   refine aF (cW rfl rfl (by simp only [cR, bQ, cQ, dN, bap, bsz, List.length_append, List.length_cons, List.length_nil]; omega)) ?_
   simp only [cR, bQ, cQ, dN, bap]
   skip
   refine aF (cW rfl rfl (by simp only [cR, bQ, cQ, dN, bap, bsz, List.length_append, List.length_cons, List.length_nil]; omega)) ?_
   simp only [cR, bQ, cQ, dN, bap]; refine aH ?_; refine aP (vs := [_]) dA rfl (fL (hG.evo0 hE242) hi (by omega) (by omega)) rfl ?_; rintro _ w244 ⟨rfl, hw245⟩; have hE246 := hE241.then hw245; have hE247 := hE242.then hw245; have hF248 := hF243.evo0 hw245
   skip
   refine aF (cW rfl rfl (by simp only [cR, bQ, cQ, dN, bap, bsz, List.length_append, List.length_cons, List.length_nil]; omega)) ?_
   simp only [cR, bQ, cQ, dN, bap]
   skip
   refine aF (cW rfl rfl (by simp only [cR, bQ, cQ, dN, bap, bsz, List.length_append, List.length_cons, List.length_nil]; omega)) ?_
   simp only [cR, bQ, cQ, dN, bap]
   refine aP (vs := [_, _]) cB rfl (dB hF248 (m := [123] ++ gM lo.toNat ++ [44] ++ gM hi.toNat ++ [125]) rfl (((((cH (by decide +kernel)).app hq1).app (cH (by decide +kernel))).app hq2).app (cH (by decide +kernel))) (by first | omega | (simp only [List.length_append]; omega)) (by simp only [List.length_append, List.length_cons, List.length_nil]; omega)) rfl ?_
   rintro _ w249 ⟨obw1, hBDw1, hw250, hnb1⟩; have hV9 := hE246; have hV90 := hE247; have hN1 := dC (Or.inl rfl) hnb1 hV9.size; have hU1 := dS huo hV90.size hnb1; have hE251 := hE246.step hw250 (dD (Or.inl rfl)); refine aC (aZ (cI rfl ?_))
   exact eP hBDw1 (by unfold gJ; rw [if_neg (by omega), if_neg (by omega), if_neg (by omega), if_neg (by omega), if_neg (by omega)]) hE251 hN1
  refine aG (aG (aR (aN (aC (aA (cN rfl ?_)))))); refine aE (aB (aH (aF (bC rfl rfl) ?_))); refine aN (aC (aA (bG rfl (fun hc43 => ?_) (fun hc43 => ?_))))
  ·refine aB (aH (aH ?_)); refine aP (vs := [_]) dA rfl (fL (hG.evo0 hE0) lo (by omega) (by omega)) rfl ?_; rintro _ w253 ⟨rfl, hw254⟩; have hE255 := (Evo.refl (b :: ob.toList) w).then hw254; have hE256 := hE0.then hw254; have hF257 := h.evo0 hw254
   skip
   refine aF (cW rfl rfl (by simp only [cR, bQ, cQ, dN, bap, bsz, List.length_append, List.length_cons, List.length_nil]; omega)) ?_
   simp only [cR, bQ, cQ, dN, bap]
   skip
   refine aF (cW rfl rfl (by simp only [cR, bQ, cQ, dN, bap, bsz, List.length_append, List.length_cons, List.length_nil]; omega)) ?_
   simp only [cR, bQ, cQ, dN, bap]
   refine aP (vs := [_, _]) cB rfl (dB hF257 (m := [123] ++ gM lo.toNat ++ [44, 125]) rfl (((cH (by decide +kernel)).app hq1).app (cH (by decide +kernel))) (by first | omega | (simp only [List.length_append]; omega)) (by simp only [List.length_append, List.length_cons, List.length_nil]; omega)) rfl ?_
   rintro _ w258 ⟨obw1, hBDw1, hw259, hnb1⟩; have hV9 := hE255; have hV90 := hE256; have hN1 := dC (Or.inl rfl) hnb1 hV9.size; have hU1 := dS huo hV90.size hnb1; have hE260 := hE255.step hw259 (dD (Or.inl rfl)); refine aC (aZ (cI rfl ?_))
   exact eP hBDw1 (by unfold gJ; rw [if_neg (by omega), if_neg (by omega), if_neg (by omega), if_pos (by omega)]) hE260 hN1
  refine aE (aB (aH (aH (aF (bC rfl rfl) ?_)))); refine aN (aC (aA (bG rfl (fun hc52 => ?_) (fun hc52 => ?_))))
  ·refine aB (aH (aH ?_)); refine aP (vs := [_]) dA rfl (fL (hG.evo0 hE0) lo (by omega) (by omega)) rfl ?_; rintro _ w262 ⟨rfl, hw263⟩; have hE264 := (Evo.refl (b :: ob.toList) w).then hw263; have hE265 := hE0.then hw263; have hF266 := h.evo0 hw263
   skip
   refine aF (cW rfl rfl (by simp only [cR, bQ, cQ, dN, bap, bsz, List.length_append, List.length_cons, List.length_nil]; omega)) ?_
   simp only [cR, bQ, cQ, dN, bap]
   skip
   refine aF (cW rfl rfl (by simp only [cR, bQ, cQ, dN, bap, bsz, List.length_append, List.length_cons, List.length_nil]; omega)) ?_
   simp only [cR, bQ, cQ, dN, bap]
   refine aP (vs := [_, _]) cB rfl (dB hF266 (m := [123] ++ gM lo.toNat ++ [125]) rfl (((cH (by decide +kernel)).app hq1).app (cH (by decide +kernel))) (by first | omega | (simp only [List.length_append]; omega)) (by simp only [List.length_append, List.length_cons, List.length_nil]; omega)) rfl ?_
   rintro _ w267 ⟨obw1, hBDw1, hw268, hnb1⟩; have hV9 := hE264; have hV90 := hE265; have hN1 := dC (Or.inl rfl) hnb1 hV9.size; have hU1 := dS huo hV90.size hnb1; have hE269 := hE264.step hw268 (dD (Or.inl rfl)); refine aC (aZ (cI rfl ?_))
   exact eP hBDw1 (by unfold gJ; rw [if_neg (by omega), if_neg (by omega), if_neg (by omega), if_neg (by omega), if_pos (by omega)]) hE269 hN1
  have hd3 := hd2 (by omega); refine aB (aH (aH ?_)); refine aP (vs := [_]) dA rfl (fL (hG.evo0 hE0) lo (by omega) (by omega)) rfl ?_; rintro _ w271 ⟨rfl, hw272⟩; have hE273 := (Evo.refl (b :: ob.toList) w).then hw272; have hE274 := hE0.then hw272; have hF275 := h.evo0 hw272
  skip
  refine aF (cW rfl rfl (by simp only [cR, bQ, cQ, dN, bap, bsz, List.length_append, List.length_cons, List.length_nil]; omega)) ?_
  simp only [cR, bQ, cQ, dN, bap]
  skip
  refine aF (cW rfl rfl (by simp only [cR, bQ, cQ, dN, bap, bsz, List.length_append, List.length_cons, List.length_nil]; omega)) ?_
  simp only [cR, bQ, cQ, dN, bap]; refine aH ?_; refine aP (vs := [_]) dA rfl (fL (hG.evo0 hE274) hi (by omega) (by omega)) rfl ?_; rintro _ w276 ⟨rfl, hw277⟩; have hE278 := hE273.then hw277; have hE279 := hE274.then hw277; have hF280 := hF275.evo0 hw277
  skip
  refine aF (cW rfl rfl (by simp only [cR, bQ, cQ, dN, bap, bsz, List.length_append, List.length_cons, List.length_nil]; omega)) ?_
  simp only [cR, bQ, cQ, dN, bap]
  skip
  refine aF (cW rfl rfl (by simp only [cR, bQ, cQ, dN, bap, bsz, List.length_append, List.length_cons, List.length_nil]; omega)) ?_
  simp only [cR, bQ, cQ, dN, bap]
  refine aP (vs := [_, _]) cB rfl (dB hF280 (m := [123] ++ gM lo.toNat ++ [44] ++ gM hi.toNat ++ [125]) rfl (((((cH (by decide +kernel)).app hq1).app (cH (by decide +kernel))).app hq2).app (cH (by decide +kernel))) (by first | omega | (simp only [List.length_append]; omega)) (by simp only [List.length_append, List.length_cons, List.length_nil]; omega)) rfl ?_
  rintro _ w281 ⟨obw1, hBDw1, hw282, hnb1⟩; have hV9 := hE278; have hV90 := hE279; have hN1 := dC (Or.inl rfl) hnb1 hV9.size; have hU1 := dS huo hV90.size hnb1; have hE283 := hE278.step hw282 (dD (Or.inl rfl)); refine aC (aZ (cI rfl ?_))
  exact eP hBDw1 (by unfold gJ; rw [if_neg (by omega), if_neg (by omega), if_neg (by omega), if_neg (by omega), if_neg (by omega)]) hE283 hN1
end Go.Proofs.YtljadkcojnlioaaGreatDoor
namespace Go.Proofs.YtljadkcojnlioaaGreatDoor
open Go.ChangeAt Go.ChangeShapes Go.RowKit Go.W Go.WideShapes
theorem BI {H : Type} {d : DataW H} {l : List (DataW H)} (h : d ∈ l) : Rows.uptoBulk d ≤ Rows.uptoBulkAll l := by
  induction l with
  | nil => cases h
  | cons x r ih =>
    simp only [Rows.uptoBulkAll]
    rcases List.mem_cons.1 h with e | e
    · subst e; omega
    · have := ih e; omega
theorem UO {H : Type} (d : DataW H) : 1 ≤ Rows.uptoBulk d := by
  cases d with
  | lit l => cases l <;> simp [Rows.uptoBulk]
  | nil => simp [Rows.uptoBulk]
  | ptr d => simp [Rows.uptoBulk]
  | slice elems spare => simp [Rows.uptoBulk]
  | agg parts => simp [Rows.uptoBulk]
  | iface t d => simp [Rows.uptoBulk]
  | map entries => simp [Rows.uptoBulk]
  | held h => simp [Rows.uptoBulk]
theorem PD {H : Type} (l : List (DataW H)) (m : Nat) : Rows.uptoBulkAll (l.take m) ≤ Rows.uptoBulkAll l := by
  induction l generalizing m with
  | nil => simp [Rows.uptoBulkAll]
  | cons x r ih =>
    cases m with
    | zero => simp [Rows.uptoBulkAll]
    | succ m => have := ih m; simp only [List.take_succ_cons, Rows.uptoBulkAll]; omega
theorem PE {H : Type} (l : List (DataW H)) (d : DataW H) : Rows.uptoBulkAll (l ++ [d]) = Rows.uptoBulkAll l + Rows.uptoBulk d := by
  induction l with
  | nil => simp [Rows.uptoBulkAll]
  | cons x r ih => simp only [List.cons_append, Rows.uptoBulkAll, ih]; omega
def pE {α : Type} (F : Nat) (t : TypeId) (R : Rel α) (μ : α → Nat) : Prop :=
  ∀ (H : Type) (enc : TypeId × Value → H) (w : World) (fuel : Nat) (cs : List Value) (x : DataW H × List MemPlace), fuel ≤ F → DataW.trod enc Tryz.prog w 0 (fun _ => true) true fuel t cs = some x →
    (∀ n, n ∈ x.1.weights Tryz.prog t → n ≤ reachBytes) → Rows.uptoBulk x.1 ≤ 1048576 → ∃ d, R [] w cs d ∧ μ d + 26 ≤ 26 * Rows.uptoBulk x.1
def tJ {H : Type} : DataW H → Nat → Option (DataW H)
  | .agg l, i => l[i]?
  | _, _ => none
theorem KD {H : Type} {x p q r : DataW H} (h2 : tJ x 2 = some p) (h7 : tJ x 7 = some q) (h8 : tJ x 8 = some r) : Rows.uptoBulk p + Rows.uptoBulk q + Rows.uptoBulk r + 1 ≤ Rows.uptoBulk x := by
  cases x with
  | agg l =>
    simp only [tJ] at h2 h7 h8
    match l, h2, h7, h8 with
    | a0 :: a1 :: a2 :: a3 :: a4 :: a5 :: a6 :: a7 :: a8 :: l, h2, h7, h8 =>
      simp at h2 h7 h8
      subst h2 h7 h8
      simp only [Rows.uptoBulk, Rows.uptoBulkAll]; omega
  | _ => simp [tJ] at h2
theorem uF {α : Type} {F : Nat} {t e : TypeId} {R : Rel α} {μ : α → Nat} {sz bytes : Nat} (ht : Tryz.prog.underlying t = some (.slice e)) (hs : Tryz.prog.cellsOf e = sz) (hb : Tryz.prog.bytesOf e = bytes) (h0 : 0 < sz) (hR : pE F e R μ) : pE F t (RSlB sz bytes R) (fun ds => (ds.map μ).sum + 26 * ds.length) := by
  subst hs hb
  intro H enc w fuel cs x hfu h hw hbk
  rcases DataW.trod_slice ht h with ⟨rfl, rfl⟩ | ⟨a, len, cap, elems, rest, n, rfl, rfl, rfl, _, hle, _, hel, hat, _, _⟩
  · exact ⟨[], ⟨.slice none 0 0, rfl, ⟨none, 0, rfl, Nat.le_refl _, fun k hk => by simp at hk⟩, by simp⟩, by simp [Rows.uptoBulk]⟩
  · have hwl : (elems.length + rest.length) * Tryz.prog.bytesOf e ≤ 140737488351232 := by
      have := hw _ (by simp [DataW.weights, ht]; exact .inl rfl)
      simpa [reachBytes] using this
    have hwe : ∀ i (hi : i < elems.length) m, m ∈ (elems[i]).1.weights Tryz.prog e → m ≤ reachBytes := fun i hi m hm => by
      refine hw m ?_
      simp only [DataW.weights, ht, List.mem_cons, List.mem_append]
      exact .inr (.inl (wE (List.mem_map.2 ⟨elems[i], List.getElem_mem hi, rfl⟩) m hm))
    have key : ∀ i (hi : i < len), ∃ b o vs d, a = ⟨b, o, none⟩ ∧ vs.length = Tryz.prog.cellsOf e ∧ CellsAt w b (o + i * Tryz.prog.cellsOf e) vs ∧ R [] w vs d ∧ ∀ hi' : i < elems.length, μ d + 26 ≤ 26 * Rows.uptoBulk (elems[i]).1 := by
      intro i hi
      have h1 := hat i hi
      have hi' : i < elems.length := by omega
      rw [List.getElem?_eq_getElem hi'] at h1
      obtain ⟨vs, hvs, htr⟩ := Option.bind_eq_some_iff.1 h1
      obtain ⟨hl, hc⟩ := BG hvs
      obtain ⟨d, hd, hmu⟩ := hR H enc w n vs _ (by omega) htr (hwe i hi') (by have h9 := BI (d := (elems[i]).1) (l := elems.map (·.1)) (List.mem_map.2 ⟨elems[i], List.getElem_mem hi', rfl⟩); simp only [Rows.uptoBulk] at hbk; omega)
      obtain ⟨b, o, spot⟩ := a
      have hspot : spot = none := by
        cases vs with
        | nil => simp at hl; omega
        | cons v0 vs =>
          have h2 := hc 0 v0 (by simp)
          have h3 := World.cell?_spot h2
          by_cases hz : i * Tryz.prog.cellsOf e = 0
          · rw [hz] at h3; simpa [Addr.add] using h3
          · have hz' : i * Tryz.prog.cellsOf e ≠ 0 := hz
            have hat0 := hat 0 (by omega)
            rw [List.getElem?_eq_getElem (by omega)] at hat0
            obtain ⟨us, hus, _⟩ := Option.bind_eq_some_iff.1 hat0
            obtain ⟨hul, huc⟩ := BG hus
            cases us with
            | nil => simp at hul; omega
            | cons u0 us =>
              have h4 := World.cell?_spot (huc 0 u0 (by simp))
              simpa [Addr.add] using h4
      subst hspot
      refine ⟨b, o, vs, d, rfl, hl, fun j v hv => ?_, hd, fun _ => hmu⟩
      have h2 := hc j v hv
      have hadd : ((⟨b, o, none⟩ : Addr).add (i * Tryz.prog.cellsOf e)).add j = ⟨b, o + i * Tryz.prog.cellsOf e + j, none⟩ := by
        unfold Addr.add
        split <;> split <;> simp_all
      rw [hadd] at h2
      exact h2
    have hex : ∀ m, m ≤ len → ∃ ds : List α, ds.length = m ∧ (ds.map μ).sum + 26 * m ≤ 26 * Rows.uptoBulkAll ((elems.map (·.1)).take m) ∧ ∀ k (hk : k < ds.length), ∃ b o vs, some a = some ⟨b, o, none⟩ ∧ b ∉ ([] : List Nat) ∧ vs.length = Tryz.prog.cellsOf e ∧ CellsAt w b (o + k * Tryz.prog.cellsOf e) vs ∧ R [] w vs ds[k] := by
      intro m
      induction m with
      | zero => exact fun _ => ⟨[], rfl, by simp, fun k hk => by simp at hk⟩
      | succ m ih =>
        intro hm
        obtain ⟨ds, hl, hmu, hds⟩ := ih (by omega)
        obtain ⟨b, o, vs, d, ha, h1, h2, h3, h4⟩ := key m (by omega)
        have hme : m < elems.length := by omega
        have h4 := h4 hme
        have h5 : (elems.map (·.1)).take (m + 1) = (elems.map (·.1)).take m ++ [(elems[m]).1] := by rw [List.take_succ_eq_append_getElem (by simpa using hme)]; simp
        refine ⟨ds ++ [d], by simp [hl], by rw [h5, PE, List.map_append, List.sum_append]; simp only [List.map_cons, List.map_nil, List.sum_cons, List.sum_nil]; omega, fun k hk => ?_⟩
        by_cases hkm : k < ds.length
        · rw [List.getElem_append_left hkm]; exact hds k hkm
        · obtain rfl : k = m := by simp at hk; omega
          rw [List.getElem_append_right (by omega)]
          simp only [hl, Nat.sub_self, List.getElem_cons_zero]
          exact ⟨b, o, vs, by rw [ha], by simp, h1, h2, h3⟩
    obtain ⟨ds, hl, hmu, hds⟩ := hex len (Nat.le_refl _)
    refine ⟨ds, ⟨.slice (some a) len cap, rfl, ⟨some a, cap, by rw [hl], by omega, hds⟩, ?_⟩, ?_⟩
    case refine_2 =>
      have h6 := PD (elems.map (·.1)) len
      simp only [Rows.uptoBulk]
      omega
    rw [hl, ← hel]
    exact Nat.le_trans (Nat.mul_le_mul_right _ (Nat.le_add_right _ _)) hwl
theorem yO (F : Nat) {t : TypeId} (ht : Tryz.prog.underlying t = some .string) : pE F t (fun _ _ vs s => vs = [.string s] ∧ s.size ≤ 1048576) (fun s => s.size) := by
  intro H enc w fuel cs x hfu h hw hbk
  obtain ⟨s, hcs, rfl, _⟩ := DataW.trod_string ht h
  have : s.data.toList.length = s.size := Array.length_toList
  simp only [Rows.uptoBulk] at hbk ⊢
  exact ⟨s, ⟨hcs, by omega⟩, by omega⟩
theorem pH {α H : Type} {F : Nat} {t T off m : Nat} {fs : Array Field} {enc : TypeId × Value → H} {w : World} {fuel : Nat} {cs : List Value} {x : DataW H × List MemPlace} (ht : Tryz.prog.underlying t = some (.struct fs)) (hfu : fuel ≤ F + 1)
    (h : DataW.trod enc Tryz.prog w 0 (fun _ => true) true fuel t cs = some x) (hwt : ∀ n, n ∈ x.1.weights Tryz.prog t → n ≤ reachBytes) (hw : Rows.uptoBulk x.1 ≤ 1048576) (i : Nat) {f : Field} (hf : fs[i]? = some f) (hT : f.type = T) (ho : f.offset = off) (hm : Tryz.prog.cellsOf T = m) {R : Rel α} {μ : α → Nat} (hR : pE F T R μ) :
    ∃ d p, R [] w ((cs.drop off).take m) d ∧ μ d + 26 ≤ 26 * Rows.uptoBulk p ∧ tJ x.1 i = some p := by
  subst hT ho hm
  obtain ⟨xs, n, rfl, rfl, hl, hlen, hx⟩ := DataW.trod_struct ht h
  have hi : i < xs.length := by rw [hlen]; exact (Array.getElem?_eq_some_iff.1 hf).1
  have h1 := hx i f hf
  rw [List.getElem?_eq_getElem hi] at h1
  have hb : Rows.uptoBulk (xs[i]).1 ≤ 1048576 := by
    simp only [Rows.uptoBulk] at hw
    have := BI (d := (xs[i]).1) (l := xs.map (·.1)) (List.mem_map.2 ⟨xs[i], List.getElem_mem hi, rfl⟩)
    omega
  obtain ⟨d, h2, h3⟩ := hR H enc w n _ _ (by omega) h1 (fun k hk => hwt k (sX ht hf (by simp [hi]) k hk)) hb
  exact ⟨d, _, h2, h3, by simp [tJ, hi]⟩
theorem opens51 : Opens Tryz.prog 56 RRg := by
  intro H enc w fuel cs x h hw
  obtain ⟨a, ea, _⟩ := jD (T := 21) (off := 0) (m := 1) Tryz.underlying56 h hw 0 rfl rfl rfl (by kernel_rfl) (mP Tryz.underlying21)
  obtain ⟨b, eb, _⟩ := jD (T := 21) (off := 1) (m := 1) Tryz.underlying56 h hw 1 rfl rfl rfl (by kernel_rfl) (mP Tryz.underlying21)
  have hl := AR Tryz.underlying56 h
  rw [show Tryz.prog.cellsOf 56 = 2 from by kernel_rfl] at hl
  match cs, hl with
  | [c0, c1], _ =>
    simp at ea eb
    subst ea eb
    exact ⟨(a, b), rfl⟩
theorem MG : ∀ l : List Rx, kms l = (l.map Rx.ms).sum
  | [] => rfl
  | x :: l => by rw [kms, MG l, List.map_cons, List.sum_cons]
theorem LN : ∀ F, pE F 27 (RRx F) Rx.ms
  | 0 => fun H enc w fuel cs x hfu h hw hbk => by
    obtain ⟨xs, n, h0, -⟩ := DataW.trod_struct Tryz.underlying27 h
    omega
  | F + 1 => fun H enc w fuel cs x hfu h hw hbk => by
    have hk : pE F 25 (RSlB 9 112 (RRx F)) (fun ds => (ds.map Rx.ms).sum + 26 * ds.length) := uF Tryz.underlying25 (by kernel_rfl) (by kernel_rfl) (by decide) (LN F)
    have hr : pE F 56 RRg (fun _ => 0) := fun H enc w fuel cs x hfu h hw hbk => by
      obtain ⟨d, hd⟩ := opens51 H enc w fuel cs x h hw
      exact ⟨d, hd, by have := UO x.1; simp only; omega⟩
    have hrs : pE F 24 (RSlB 2 8 RRg) (fun ds => (ds.map fun _ => 0).sum + 26 * ds.length) := uF Tryz.underlying24 (by kernel_rfl) (by kernel_rfl) (by decide) hr
    obtain ⟨d0, e0, _⟩ := jD (T := 3) (off := 0) (m := 1) Tryz.underlying27 h hw 0 rfl rfl rfl (by kernel_rfl) (mP Tryz.underlying3)
    obtain ⟨d1, e1, _⟩ := jD (T := 21) (off := 1) (m := 1) Tryz.underlying27 h hw 1 rfl rfl rfl (by kernel_rfl) (mP Tryz.underlying21)
    obtain ⟨d2, p2, ⟨v2, e2, h2, hl2⟩, m2, q2⟩ := pH (T := 24) (off := 2) (m := 1) Tryz.underlying27 hfu h hw hbk 2 rfl rfl rfl (by kernel_rfl) hrs
    obtain ⟨d3, e3, _⟩ := jD (T := 3) (off := 3) (m := 1) Tryz.underlying27 h hw 3 rfl rfl rfl (by kernel_rfl) (mP Tryz.underlying3)
    obtain ⟨d4, e4, _⟩ := jD (T := 3) (off := 4) (m := 1) Tryz.underlying27 h hw 4 rfl rfl rfl (by kernel_rfl) (mP Tryz.underlying3)
    obtain ⟨d5, e5⟩ := jD (T := 4) (off := 5) (m := 1) Tryz.underlying27 h hw 5 rfl rfl rfl (by kernel_rfl) (JH Tryz.underlying4)
    obtain ⟨d6, e6, _⟩ := jD (T := 3) (off := 6) (m := 1) Tryz.underlying27 h hw 6 rfl rfl rfl (by kernel_rfl) (mP Tryz.underlying3)
    obtain ⟨d7, p7, ⟨e7, hl7⟩, m7, q7⟩ := pH (T := 9) (off := 7) (m := 1) Tryz.underlying27 hfu h hw hbk 7 rfl rfl rfl (by kernel_rfl) (yO F Tryz.underlying9)
    obtain ⟨d8, p8, ⟨v8, e8, h8, hl8⟩, m8, q8⟩ := pH (T := 25) (off := 8) (m := 1) Tryz.underlying27 hfu h hw hbk 8 rfl rfl rfl (by kernel_rfl) hk
    replace e5 : (cs.drop 5).take 1 = [Value.bool d5] := e5
    have hl := AR Tryz.underlying27 h
    rw [show Tryz.prog.cellsOf 27 = 9 from by kernel_rfl] at hl
    have hb3 := KD q2 q7 q8
    match cs, hl with
    | [c0, c1, c2, c3, c4, c5, c6, c7, c8], _ =>
      simp at e0 e1 e2 e3 e4 e5 e6 e7 e8
      subst e0 e1 e2 e3 e4 e5 e6 e7 e8
      refine ⟨.mk d0 d1 d2 d3 d4 d5 d6 d7 d8, ⟨_, _, rfl, h2, h8, by show d2.length ≤ _; omega, by show d7.size ≤ _; omega, by show d8.length ≤ _; omega⟩, ?_⟩
      rw [Rx.ms, MG]
      try simp only at m2 m7 m8
      omega
abbrev laidL : List (String × DataW Unit) := [("math/bits.deBruijn32tab", Rows.laid_math_bits_deBruijn32tab), ("math/bits.deBruijn64tab", Rows.laid_math_bits_deBruijn64tab), ("internal/strconv.uint64pow10", Rows.laid_internal_strconv_uint64pow10)]
theorem own : ownKnob Tryz.prog.godebug = none := by kernel_rfl
theorem MF : laidOutB Tryz.prog = true := by kernel_rfl
theorem ST : true = Tryz.pinned.checked.prog.looks [] := by kernel_rfl
theorem gw_of {W : World} (hL : laidMetH Tryz.prog laidL W) (hsh : W.ShapedOpen Tryz.prog) : Gw W := by
  refine ⟨Tryz.laysM143.s1_3 W hsh, ?_, ?_⟩
  · have h0 : laidMetH Tryz.prog [("math/bits.deBruijn64tab", Rows.laid_math_bits_deBruijn64tab)] W := by
      have := hL.filter (fun x => x.1 == "math/bits.deBruijn64tab")
      rw [show laidL.filter (fun x => x.1 == "math/bits.deBruijn64tab") = [("math/bits.deBruijn64tab", Rows.laid_math_bits_deBruijn64tab)] from by kernel_rfl] at this
      exact this
    have h1 : Lib.TabIs Tryz.prog W "math/bits.deBruijn64tab" .u8 (Lib.deBruijn64tab.map fun n : Nat => (n : Int)) := Lib.tabIs_of_head (rest := []) (g := gTz) (by kernel_rfl) (by kernel_rfl) Tryz.underlying205 Tryz.underlying5 (by kernel_rfl) (by kernel_rfl) h0
    intro k hk
    have h2 := h1.cell (show Tryz.prog.globalNamed "math/bits.deBruijn64tab" = some gTz by kernel_rfl) k (by simpa using (show k < Lib.deBruijn64tab.length from hk))
    rw [h2]
    have hl : k < Lib.deBruijn64tab.length := hk
    simp [List.getD_eq_getElem?_getD, hl]
  · have h0 : laidMetH Tryz.prog [("internal/strconv.uint64pow10", Rows.laid_internal_strconv_uint64pow10)] W := by
      have := hL.filter (fun x => x.1 == "internal/strconv.uint64pow10")
      rw [show laidL.filter (fun x => x.1 == "internal/strconv.uint64pow10") = [("internal/strconv.uint64pow10", Rows.laid_internal_strconv_uint64pow10)] from by kernel_rfl] at this
      exact this
    exact Lib.tabIs_of_head (rest := []) (g := 1) (by kernel_rfl) (by kernel_rfl) Tryz.underlying186 Tryz.underlying176 (by kernel_rfl) (by kernel_rfl) h0
def yC (l : List Value) : Obj → Obj
  | .cells _ t frozen => .cells l.toArray t frozen
  | o => o
noncomputable def vQ (os : Os) : World :=
  { World.holding Tryz.prog os ⟨#[], #[], []⟩ with heap := (((World.holding Tryz.prog os ⟨#[], #[], []⟩).heap.modify 3 (yC (Lib.deBruijn64tab.map fun n : Nat => Value.int .u8 (n : Int)))).modify 1 (yC (Lib.pow10Tab.map fun n : Int => Value.int .u64 n))).modify 2 (yC (Lib.deBruijn32tab.map fun n : Nat => Value.int .u8 (n : Int))) }
end Go.Proofs.YtljadkcojnlioaaGreatDoor
