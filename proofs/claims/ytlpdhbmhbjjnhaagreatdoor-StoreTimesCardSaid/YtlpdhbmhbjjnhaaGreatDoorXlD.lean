/- StoreTimes: windows join; At is the last of the lookback's window, or hidden; series stand in canonical order and their samples rise. Conditions: none but that the library's tables hold what the text of the program lays. -/
import Derived.Test.YtlpdhbmhbjjnhaaGreatDoorXlC
set_option linter.unusedSectionVars false
set_option linter.unusedSimpArgs false
set_option linter.unusedVariables false
namespace Go.Proofs.YtlpdhbmhbjjnhaaGreatDoor
open Go.Lib Go.RowKit Go.Sort Go.W
attribute [local irreducible] Decidable.decide
theorem nT : dB Tryz.prog 36 := ⟨_, Tryz.func36, by kernel_rfl, by kernel_rfl⟩
theorem zZ : Tryz.prog.eqGuardType Tryz.prog.depth 58 = false := by kernel_rfl
theorem sC : Tryz.prog.underlying 58 = some (.struct (Tryz.prog.fieldsOf 58)) := by kernel_rfl
theorem BS (a b : ByteArray) (w : World) : (Op.equal 58 (.agg #[.string a, .string b]) (.agg #[.string a, .string b])).run Tryz.prog w = .ok (decide (True : Prop)) w := by
  unfold Op.equal Op.maxDepth
  rw [run_equalIn_struct w 9999 58 _ _ sC (by kernel_rfl)]
  have h1 : (a == a) = true := by rw [rY]; simp
  have h2 : (b == b) = true := by rw [rY]; simp
  simp [Op.eqFields, Program.fieldsOf, Tryz.underlying58, EL w bW, run_equalIn_string w _ 9 _ _ Tryz.underlying9, h1, h2]
theorem sG {X Y : List Nat} {w : World} {v1 v2 : Value} {ds : List LB} (h1 : RSl 2 RLB X w v1 ds) (h2 : RSl 2 RLB Y w v2 ds) (hl : ds.length ≤ 1000000000) : Calls Tryz.prog 15 #[v1, v2] w (Ret fun r w' => r = .bool true ∧ Evo [] w w') := by
  obtain ⟨a1, c1, rfl, hlc1, e1⟩ := h1; obtain ⟨a2, c2, rfl, hlc2, e2⟩ := h2; refine aU (N := 26) Tryz.func15 rfl rfl rfl ?_; refine csr (wan (aM (csr (aE (aC (aX rfl Tryz.underlying42 rfl) ?_))))); refine aE (aC (aX rfl Tryz.underlying42 rfl) ?_); refine aC (gB rfl rfl) ?_; refine wnn (bS rfl (fun q => ?_) (fun q => ?_))
  ·exact absurd rfl q
  refine aQ (aB (aM (csr (aE (aC (aX rfl Tryz.underlying42 rfl) ?_))))); refine aE (wnn (bB (cM (α := Nat) (0) (fun k => [(13, .int .i64 (k : Nat))]) [(0, _), (1, _), (12, _)] (fun k wr => Evo [] w wr ∧ (k ≤ ds.length)) (fun k => ds.length - k) ⟨rfl, trivial⟩ ⟨rfl, rfl, rfl, trivial⟩ ⟨Evo.refl _ _, Nat.zero_le _⟩ ?_))); rintro k wr1 ⟨D, hk⟩; show CW _ _ _ _ [(13, _), (0, _), (1, _), (12, _)] _; have y := (Evo.refl [] w).then D; refine csr (aC (cQ rfl rfl) ?_); refine wnn (aM (bS rfl (fun E => ?_) (fun E => ?_)))
  ·have hk' : k < ds.length := by omega
   obtain ⟨b1, o1, vs1, ha1, hb1, -, F, hz1⟩ := e1 k hk'; obtain ⟨b2, o2, vs2, ha2, hb2, -, G, hz2⟩ := e2 k hk'; obtain ⟨rfl, -⟩ := hz1; obtain ⟨rfl, -⟩ := hz2; refine aQ (aB (aM (bB (csr (aE (wan (aM ?_))))))); refine jY (by kernel_rfl) (by kernel_rfl) ?_; refine cI (fun _ p => aW rfl) ?_; refine cI (fun _ p => aW rfl) ?_; refine cI (fun _ p => cC (n := k) rfl rfl ha1 rfl dN hk') ?_; refine cI (fun _ p => cX rfl dP cB (vs := [_, _]) rfl (F.evo (((y.then p)).any X) hb1)) ?_; refine cI (fun _ p => aW rfl) ?_; refine cI (fun _ p => aW rfl) ?_; refine cI (fun _ p => cC (n := k) rfl rfl ha2 rfl dN hk') ?_; refine cI (fun _ p => cX rfl dP cB (vs := [_, _]) rfl (G.evo (((y.then p)).any Y) hb2)) ?_; refine cI (fun _ p => ex_neqA rfl rfl zZ (BS _ _)) ?_; refine kZ (fun H p => aB ?_); refine bS rfl (fun A => ?_) (fun A => ?_)
   ·exact absurd trivial A
   refine aQ (bA (aB (aP ?_))); refine aC (aZ rfl rfl (by omega) (by omega)) ?_; refine aE (aD (aO ?_)); refine ⟨k + 1, ?_, ⟨rfl, trivial⟩, ⟨rfl, rfl, rfl, trivial⟩, (D.then p), ?_⟩
   · omega
   omega
  refine bI (bE (bE (bH (aB ?_)))); refine csr (wan (aT (br1 ?_))); exact ⟨rfl, y⟩
theorem mB {X Y : List Nat} {w : World} {v1 v2 : Value} {ds : List Smp} (h1 : RSl 3 RSmp X w v1 ds) (h2 : RSl 3 RSmp Y w v2 ds) (hl : ds.length ≤ 1000000000) : Calls Tryz.prog 17 #[v1, v2] w (Ret fun r w' => r = .bool true ∧ Evo [] w w') := by
  obtain ⟨a1, c1, rfl, hlc1, e1⟩ := h1; obtain ⟨a2, c2, rfl, hlc2, e2⟩ := h2; refine aU (N := 27) Tryz.func17 rfl rfl rfl ?_; refine csr (wan (aM (csr (aE (aC (aX rfl Tryz.underlying43 rfl) ?_))))); refine aE (aC (aX rfl Tryz.underlying43 rfl) ?_); refine aC (gB rfl rfl) ?_; refine wnn (bS rfl (fun p => ?_) (fun p => ?_))
  ·exact absurd rfl p
  refine aQ (aB (aM (csr (aE (aC (aX rfl Tryz.underlying43 rfl) ?_))))); refine aE (wnn (bB (cM (α := Nat) (0) (fun k => [(13, .int .i64 (k : Nat))]) [(0, _), (1, _), (12, _)] (fun k wr => Evo [] w wr ∧ (k ≤ ds.length)) (fun k => ds.length - k) ⟨rfl, trivial⟩ ⟨rfl, rfl, rfl, trivial⟩ ⟨Evo.refl _ _, Nat.zero_le _⟩ ?_))); rintro k wr1 ⟨E, hk⟩; show CW _ _ _ _ [(13, _), (0, _), (1, _), (12, _)] _; have q := (Evo.refl [] w).then E; refine csr (aC (cQ rfl rfl) ?_); refine wnn (aM (bS rfl (fun G => ?_) (fun G => ?_)))
  ·have hk' : k < ds.length := by omega
   obtain ⟨b1, o1, vs1, ha1, hb1, -, H, hz1⟩ := e1 k hk'; obtain ⟨b2, o2, vs2, ha2, hb2, -, I, hz2⟩ := e2 k hk'; obtain ⟨rfl, hok⟩ := hz1; obtain ⟨rfl, -⟩ := hz2; refine aQ (aB (aM (bB (csr (aE (wan (aM ?_))))))); refine eA (fun w0 w' => Evo [] w0 w') (by kernel_rfl) (fun w4 y => ?_); refine aet 0 rfl (fun _ hS => aW rfl) (Evo.refl [] w4) ?_; refine aet 1 rfl (fun _ hS => aW rfl) (Evo.refl [] w4) ?_; refine aet 2 rfl (fun _ hS => cC (n := k) rfl rfl ha1 rfl dM hk') (Evo.refl [] w4) ?_; refine aet 3 rfl (fun _ hS => cX rfl dD bU (vs := [_, _, _]) rfl (H.evo ((((q.then y).then hS)).any X) hb1)) (Evo.refl [] w4) ?_; refine aet 4 rfl (fun _ hS => aW rfl) (Evo.refl [] w4) ?_; refine aet 5 rfl (fun _ hS => aW rfl) (Evo.refl [] w4) ?_; refine aet 6 rfl (fun _ hS => cC (n := k) rfl rfl ha2 rfl dM hk') (Evo.refl [] w4) ?_; refine aet 7 rfl (fun _ hS => cX rfl dD bU (vs := [_, _, _]) rfl (I.evo ((((q.then y).then hS)).any Y) hb2)) (Evo.refl [] w4) ?_; refine aK [8] (by kernel_rfl) rfl ⟨?_, trivial⟩; refine aL rfl ?_
   refine aG (vs := [_, _]) nT rfl (zH ds[k] hok.v) rfl ?_; rintro _ w8 ⟨rfl, F⟩; have A := (Evo.refl [] w4).then F; refine aD (aH (.inl A) ?_); refine aet 9 rfl (fun _ hS => eE rfl) A ?_; refine bK (by kernel_rfl) (aB ?_); refine dZ rfl (fun D => ?_) (fun D => ?_)
   ·cases D
   refine aQ (bA (aB (aP ?_))); refine aC (aZ rfl rfl (by omega) (by omega)) ?_; refine aE (aD (aO ?_)); refine ⟨k + 1, ?_, ⟨rfl, trivial⟩, ⟨rfl, rfl, rfl, trivial⟩, ((E.then y).then F), ?_⟩
   · omega
   omega
  refine bI (bE (bE (bH (aB ?_)))); refine csr (wan (aT (br1 ?_))); exact ⟨rfl, q⟩
theorem IC {X : List Nat} {w : World} {v : Value} {ds : List SD} (hs : RSl 2 RSer X w v ds) (hl : ds.length ≤ 140737488355328) (hl2 : ∀ s, s ∈ ds → s.1.length ≤ 140737488355328 ∧ s.2.length ≤ 140737488355328) : Calls Tryz.prog 6 #[.agg #[v]] w (Ret fun r w' => ∃ b, r = .bool b ∧ (b = false → pB ds) ∧ Evo [] w w') := by
  have hone := hs.one; obtain ⟨sa, sc, rfl, hlc, e1⟩ := hs; refine aU (N := 30) Tryz.func6 rfl rfl rfl ?_; refine csr (eK rfl rfl fun b1 w1 D J K => ?_); have L := J; refine wan (csr (wfl rfl dG rfl eH D rfl (aC (aX rfl Tryz.underlying24 rfl) ?_))); refine wan (aM (csr (wfl rfl dG rfl eH D rfl (aC (aX rfl Tryz.underlying24 rfl) ?_)))); refine aE (wnn (bB ?_)); refine cM (α := Nat × Nat) ((0, ds.length)) (fun x => [(12, .int .i64 (x.1 : Nat)), (3, .int .i64 (x.2 : Nat))]) [(10, _), (11, _)] (fun x wr => Evo [] w wr ∧ (x.1 ≤ ds.length ∧ ds.length ≤ x.2 ∧ x.2 ≤ 140737488355328 ∧ ∀ j (h : j < ds.length), j < x.1 → ds[j].1.length ≤ 1048576 ∧ ds[j].2.length ≤ 1048576)) (fun x => ds.length - x.1) ⟨rfl, rfl, trivial⟩ ⟨rfl, rfl, trivial⟩ ⟨((Evo.refl [] w).then K), ⟨Nat.zero_le _, Nat.le_refl _, hl, fun j _ h => by simp at h⟩⟩ ?_; rintro ⟨k, n⟩ wr7 ⟨p, ⟨hk, h1, h2, h3⟩⟩; show CW _ _ _ _ [(12, .int .i64 (k : Nat)), (3, .int .i64 (n : Nat)), (10, _), (11, _)] _
  try dsimp only at hk h1 h2 h3
  refine csr (aC (cQ rfl rfl) ?_); refine wnn (aM (bS rfl (fun E => ?_) (fun E => ?_)))
  ·have hk' : k < ds.length := by omega
   have hlk := hl2 _ (List.getElem_mem hk'); obtain ⟨b2, o2, vs2, ha2, hb2, -, M, lv, pv, rfl, hlv, hpv⟩ := e1 k hk'; have hlv1 := hlv.one; have hpv1 := hpv.one; obtain ⟨la, lc, rfl, -, -⟩ := hlv; obtain ⟨pa, pc, rfl, -, -⟩ := hpv; refine aQ (aB (aM (bB (csr (aC (cC (n := k) rfl rfl ha2 rfl iM hk') ?_))))); refine aC (cX rfl jD eP (vs := [_, _]) rfl (M.evo ((p).any X) hb2)) ?_; refine cO rfl iK fun b5 w9 F q G => ?_; have O := q; refine bQ rfl rfl eP F rfl rfl ⟨by first | rfl | assumption, by first | rfl | assumption, trivial⟩ fun U y H => ?_; have A := (p.then G).step H (Ge.new p q).mem1; refine wnn (csr (aE (wfl rfl dK rfl dQ y rfl (aC (aX rfl Tryz.underlying42 rfl) ?_)))); refine wfl rfl fF rfl fA y rfl (aC (aX rfl Tryz.underlying43 rfl) ?_); refine aC (aZ rfl rfl (by omega) (by omega)) ?_; refine aC (aZ rfl rfl (by omega) (by omega)) ?_; refine wan (csr (aE (aC (fN rfl rfl) ?_))); refine wnn (bS rfl (fun I => ?_) (fun I => ?_))
   ·refine csr (wan (aT (bM (aN (aN (bM (aN (br1 ?_)))))))); exact ⟨true, rfl, (fun h => by cases h), A⟩
   refine aQ (bA (aB (aP ?_))); refine aC (aZ rfl rfl (by omega) (by omega)) ?_; refine aE (aD (aO ?_)); refine ⟨⟨k + 1, n + (ds[k].1.length + ds[k].2.length)⟩, ?_, ⟨rfl, rfl, trivial⟩, ⟨rfl, rfl, trivial⟩, A, ?_⟩
   · (try dsimp only); omega
   try dsimp only
   refine ⟨by omega, by omega, by omega, fun j hj hjk => ?_⟩
   by_cases e : j = k
   · subst e; omega
   · exact h3 j hj (by omega)
  refine bI (bE (bE (bH (aB ?_)))); refine csr (aE (aC (fN rfl rfl) ?_)); refine wan (aT (br1 ?_)); refine ⟨_, rfl, fun h => ?_, p⟩; have h9 := of_decide_eq_false h; refine ⟨by omega, fun s hs => ?_⟩; obtain ⟨j, hj, rfl⟩ := List.getElem_of_mem hs; have := h3 j hj (by omega); omega
theorem sY : Build Tryz.prog 26 #[(0, 1)] #[.slice none 0 0] := ⟨_, .agg #[.slice none 0 0], Tryz.underlying26, by kernel_rfl, rfl, fun w => by kernel_rfl⟩
theorem mI : Build Tryz.prog 58 #[(0, 1), (1, 1)] #[.string ByteArray.empty, .string ByteArray.empty] := ⟨_, .agg #[.string ByteArray.empty, .string ByteArray.empty], Tryz.underlying58, by kernel_rfl, rfl, fun w => by kernel_rfl⟩
def BH (l : List UInt8) : Nat := l.foldl (fun a d => a * 10 + (d.toNat - 48)) 0
theorem DR : ∀ u : Nat, BH (Lib.decDigits u) = u := by
  intro u
  induction u using Nat.strongRecOn with
  | _ u ih =>
    rw [Lib.decDigits]
    split
    · rename_i h
      simp only [BH, List.foldl_cons, List.foldl_nil, UInt8.toNat_ofNat']
      omega
    · rename_i h
      have h1 := ih (u / 10) (by omega)
      simp only [BH, List.foldl_append, List.foldl_cons, List.foldl_nil, UInt8.toNat_ofNat'] at h1 ⊢
      rw [h1]
      omega
theorem dec_lo : ∀ u : Nat, ∀ d, d ∈ Lib.decDigits u → d.toNat < 58 := by
  intro u
  induction u using Nat.strongRecOn with
  | _ u ih =>
    intro d hd
    rw [Lib.decDigits] at hd
    split at hd
    · rw [List.mem_singleton.1 hd, UInt8.toNat_ofNat']; omega
    · rename_i h
      rcases List.mem_append.1 hd with hd | hd
      · exact ih (u / 10) (by omega) d hd
      · rw [List.mem_singleton.1 hd, UInt8.toNat_ofNat']; omega
theorem IS {u v : Nat} (h : gY u = gY v) : u = v := by
  have h1 : Lib.decDigits u = Lib.decDigits v := by
    unfold gY at h
    exact (List.map_inj_right (fun a b e => UInt8.toNat.inj e)).1 h
  rw [← DR u, ← DR v, h1]
theorem CI : ∀ {a b x y : List Nat}, (∀ d, d ∈ a → d < 58) → (∀ d, d ∈ b → d < 58) → a ++ (58 :: x) = b ++ (58 :: y) → a = b ∧ x = y
  | [], [], _, _, _, _, h => ⟨rfl, by simpa using h⟩
  | [], d :: b, _, _, _, hb, h => by
    have h1 : 58 = d := by simpa using (List.cons.inj h).1
    have := hb d (by simp)
    omega
  | d :: a, [], _, _, ha, _, h => by
    have h1 : d = 58 := by simpa using (List.cons.inj h).1
    have := ha d (by simp)
    omega
  | d :: a, e :: b, _, _, ha, hb, h => by
    obtain ⟨h1, h2⟩ := List.cons.inj h
    obtain ⟨h3, h4⟩ := CI (fun x hx => ha x (by simp [hx])) (fun x hx => hb x (by simp [hx])) h2
    exact ⟨by rw [h1, h3], h4⟩
theorem GM {s t : ByteArray} (h : uM s = uM t) : s = t := by rw [← oR s, ← oR t, h]
theorem tM {s t : ByteArray} {x y : List Nat} (h : gA s ++ x = gA t ++ y) : s = t ∧ x = y := by
  unfold gA at h
  rw [List.append_assoc, List.append_assoc, List.cons_append, List.cons_append] at h
  have hlo : ∀ u d, d ∈ gY u → d < 58 := fun u d hd => by
    unfold gY at hd
    obtain ⟨z, hz, rfl⟩ := List.mem_map.1 hd
    exact dec_lo u z hz
  obtain ⟨h1, h2⟩ := CI (hlo _) (hlo _) h
  have h3 := IS h1
  obtain ⟨h4, h5⟩ := List.append_inj h2 (by rw [mZ, mZ, h3])
  exact ⟨GM h4, h5⟩
theorem yH : ∀ {a b : List LB}, fB a = fB b → a = b
  | [], [], _ => rfl
  | [], l :: r, h => by
    have := congrArg List.length h
    simp [fB, gA] at this
  | l :: r, [], h => by
    have := congrArg List.length h
    simp [fB, gA] at this
  | l :: r, m :: s, h => by
    simp only [fB, List.append_assoc] at h
    obtain ⟨h1, h2⟩ := tM h
    obtain ⟨h3, h4⟩ := tM h2
    rw [yH h4, show l = m from Prod.ext h1 h3]
theorem uX : ∀ (a : List LB), ∀ b, b ∈ fB a → b < 256
  | [], b, h => by cases h
  | l :: r, b, h => by
    have hp : ∀ s : ByteArray, ∀ b, b ∈ gA s → b < 256 := fun s b hb => by
      rcases List.mem_append.1 hb with hb | hb
      · exact DT _ b hb
      · rcases List.mem_cons.1 hb with rfl | hb
        · decide
        · exact CF s b hb
    simp only [fB, List.mem_append] at h
    rcases h with (h | h) | h
    · exact hp _ b h
    · exact hp _ b h
    · exact uX r b h
theorem key_inj {a b : List LB} : bstr (fB a) = bstr (fB b) ↔ a = b := by
  rw [zC (uX a) (uX b)]
  exact ⟨yH, fun h => by rw [h]⟩
abbrev jobB : ByteArray := ByteArray.mk #[106, 111, 98]
abbrev uP : List LB := [(jobB, ByteArray.mk #[97])]
abbrev uO : List LB := [(jobB, ByteArray.mk #[98])]
abbrev xZ : List Smp := [⟨0, 4611686018427387904, false⟩]
abbrev xY : List Smp := [⟨0, 4607182418800017408, false⟩, ⟨60000, 0, true⟩]
abbrev rA : List SD := [(uO, xY), (uP, xZ)]
theorem HV {l : List LB} (h1 : ∀ i (h : i < l.length), hY l[i].1 ∧ ¬ l[i].2 = ByteArray.empty ∧ tI l[i].2 = true) (h2 : ∀ i (h : i < l.length) j (hj : j < l.length), i = j + 1 → l[j].1.toList < l[i].1.toList) : lC l := fun i hi => ⟨(h1 i hi).1, (h1 i hi).2.1, (h1 i hi).2.2, fun j hj e => h2 i hi j hj e⟩
theorem okA : lC uP := HV (by decide +kernel) (by decide +kernel)
theorem okB : lC uO := HV (by decide +kernel) (by decide +kernel)
theorem serA : dY uP = 0 := qT ⟨okA, by decide⟩ (by decide +kernel) (fun h => h.1 (by decide +kernel))
theorem serB : dY uO = 0 := qT ⟨okB, by decide⟩ (by decide +kernel) (fun h => h.1 (by decide +kernel))
theorem riseA : gK xZ := fun i h => by
  match i, h with
  | 0, _ => exact ⟨⟨by simp, by simp⟩, fun j _ e => by omega⟩
theorem riseB : gK xY := fun i h => by
  match i, h with
  | 0, _ => exact ⟨⟨by simp, by simp⟩, fun j _ e => by omega⟩
  | 1, _ =>
    refine ⟨⟨by simp, by simp⟩, fun j _ e => ?_⟩
    obtain rfl : j = 0 := by omega
    simp
theorem FY : chk rA = (0, 0) := by
  rw [vH (by decide), iJ (by rw [serB]; simp) (by simp) riseB (by decide), iJ (by rw [serA]; simp) (fun h => by
    rw [List.mem_singleton] at h
    exact absurd (key_inj.1 h) (by decide +kernel)) riseA (by decide)]
  rfl
theorem cmp_ab : dL uP uO < 0 := by decide +kernel
theorem uS {l : List SD} (hp : l.Perm rA) (hs : ∀ i j (hij : i < j) (hj : j < l.length), ¬ dL l[j].1 l[i].1 < 0) : l = [(uP, xZ), (uO, xY)] := by
  have hl := hp.length_eq
  match l, hl with
  | [x, y], _ =>
    have hx : x = (uO, xY) ∨ x = (uP, xZ) := by simpa using hp.mem_iff.1 (show x ∈ [x, y] by simp)
    rcases hx with rfl | rfl
    · have h1 := (List.perm_cons _).1 hp
      have hy : y = (uP, xZ) := by simpa using h1.mem_iff.1 (show y ∈ [y] by simp)
      subst hy
      exact absurd cmp_ab (hs 0 1 (by decide) (by decide))
    · have h1 := (List.perm_cons _).1 (hp.trans (List.Perm.swap _ _ _))
      have hy : y = (uO, xY) := by simpa using h1.mem_iff.1 (show y ∈ [y] by simp)
      subst hy
      rfl
theorem sdA_ok : ∀ x, x ∈ xZ → x.Ok := fun x h => by rw [List.mem_singleton.1 h]; exact ⟨by decide, by decide⟩
theorem sdB_ok : ∀ x, x ∈ xY → x.Ok := fun x h => by
  rcases List.mem_cons.1 h with rfl | h
  · exact ⟨by decide, by decide⟩
  · rw [List.mem_singleton.1 h]; exact ⟨by decide, by decide⟩
theorem CO {X : List Nat} {w : World} {e : TypeId} {a : Option Addr} {m c : Nat} {l : List LB} {ob : Option Nat} (h : OwnS w e 2 a m c (l.map fun d => [.string d.1, .string d.2]).flatten ob) (hl : l.length = m) (hz : ∀ d, d ∈ l → d.1.size ≤ 140737488355328 ∧ d.2.size ≤ 140737488355328) (hx : ∀ g, ob = some g → g ∉ X) : RSl 2 RLB X w (.slice a m c) l :=
  RSl.ofOwn (rows := l.map fun d => [.string d.1, .string d.2]) h ⟨by simp, fun k h1 h2 => by simp only [List.getElem_map]; exact ⟨rfl, rfl, hz _ (List.getElem_mem h1)⟩⟩ hl hx
theorem HF {w : World} : Calls Tryz.prog 20 #[] w (Ret fun r w' => ∃ v, r = .agg #[v] ∧ RSl 2 RSer [] w' v rA ∧ Evo [] w w') := by
  refine aU (N := 14) Tryz.func20 rfl rfl rfl ?_; refine csr (cO rfl iL fun b0 w1 G I a0 => ?_); have a1 := I; refine wnn (csr (aC (dI (vs := [(0, _), (1, _)]) mI rfl (cells := [_, _]) rfl) ?_)); refine cH (vs := [_]) rfl jL rfl rfl rfl rfl fun L1 w7 a2 a3 D => ?_; refine aC (dI (vs := [(0, _), (1, _)]) fG rfl (cells := [_, _, _]) rfl) ?_; refine aC (dI (vs := [(0, _), (2, _)]) fG rfl (cells := [_, _, _]) rfl) ?_; refine cH (vs := [_, _]) rfl fD rfl rfl rfl rfl fun P1 a4 J K E => ?_; have F := E.blk0 (D.blk0 G); refine aC (dI (vs := [(0, _), (1, _)]) jO rfl (cells := [_, _]) rfl) ?_; refine aC (dI (vs := [(0, _), (1, _)]) mI rfl (cells := [_, _]) rfl) ?_; refine cH (vs := [_]) rfl jL rfl rfl rfl rfl fun L2 a5 L M y => ?_; refine aC (dI (vs := [(0, _), (1, _)]) fG rfl (cells := [_, _, _]) rfl) ?_; refine cH (vs := [_]) rfl fD rfl rfl rfl rfl fun P2 a6 O U A => ?_; have H := A.blk0 (y.blk0 F); refine aC (dI (vs := [(0, _), (1, _)]) jO rfl (cells := [_, _]) rfl) ?_; refine cH (vs := [_, _]) rfl jM rfl rfl rfl rfl fun SS a7 V W p => ?_; refine aC (dI (vs := [(0, _)]) sY rfl (cells := [_]) rfl) ?_; refine bQ rfl rfl eF (p.blk0 H) rfl rfl ⟨by first | rfl | assumption, trivial⟩ fun a8 Y q => ?_; refine wnn ?_
  refine aT (rU rfl (ResOk.cellA rfl gM eF Y rfl) ?_); have h1 := CO (X := []) (l := uO) (((((a2.evo0 E).evo0 y).evo0 A).evo0 p).evo q (Apart.new (Lt.blk G) a3).symm.own1) rfl (by decide) (by simp); have h2 := jA (X := []) (l := xY) ((((J.evo0 y).evo0 A).evo0 p).evo q (Apart.new (Lt.blk (D.blk0 G)) K).symm.own1) rfl sdB_ok (by simp); have h3 := CO (X := []) (l := uP) (((L.evo0 A).evo0 p).evo q (Apart.new (Lt.blk F) M).symm.own1) rfl (by decide) (by simp); have h4 := jA (X := []) (l := xZ) ((O.evo0 p).evo q (Apart.new (Lt.blk (y.blk0 F)) U).symm.own1) rfl sdA_ok (by simp); refine ⟨_, rfl, RSl.ofOwn (rows := [[_, _], [_, _]]) (V.evo q (Apart.new (Lt.blk H) W).symm.own1) ⟨rfl, fun k hk hk2 => ?_⟩ rfl (by simp), ((((((((Evo.refl [] w).then a0).then D).then E).then y).then A).then p).step q (Ge.new (Evo.refl [] w) I).mem1)⟩
  match k, hk, hk2 with
  | 0, _, _ => exact ⟨rfl, _, _, rfl, h1, h2⟩
  | 1, _, _ => exact ⟨rfl, _, _, rfl, h3, h4⟩
theorem nX : dB Tryz.prog 10 := ⟨_, Tryz.func10, by kernel_rfl, by kernel_rfl⟩
theorem wR : dB Tryz.prog 20 := ⟨_, Tryz.func20, by kernel_rfl, by kernel_rfl⟩
theorem nU : dB Tryz.prog 21 := ⟨_, Tryz.func21, by kernel_rfl, by kernel_rfl⟩
def oQ (s : SD) : SD := (s.1, s.2.map eV)
theorem pL {ds : List SD} {es : List Ent} (h : JG ds es) : ∃ l : List SD, l.Perm ds ∧ (∀ i j (hij : i < j) (hj : j < l.length), ¬ dL l[j].1 l[i].1 < 0) ∧ es.map Ent.row = l.map oQ := by
  obtain ⟨l, h1, h2, h3, -⟩ := h
  refine ⟨l, h1, h2, ?_⟩
  rw [← h3, List.map_map]
  rfl
theorem xJ {w w' : World} {b : Nat} {ob : Option Nat} {es : List Ent} (h : StAt w' b ob es) (hT : Tab w) (he : Evo [] w w') (h1 : Ge w (some b)) (h2 : Ge w ob) : Sto (b :: ob.toList) w' b ob (es.map Ent.row) :=
  sto_of h (hT.evo he (by simp)) (fun hm => by
    have := hT.lt
    rcases List.mem_cons.1 hm with e | hm
    · have := h1 b rfl; omega
    · have := h2 lX (by simpa using hm); omega)
theorem uZ {X : List Nat} {w : World} {b : Nat} {ob : Option Nat} (h1 : Ge w (some b)) (h2 : Ge w ob) : ∀ y, y ∈ b :: ob.toList → y ∈ X ∨ w.heap.size ≤ y := fun y hy => by
  rcases List.mem_cons.1 hy with rfl | hy
  · exact .inr (h1 _ rfl)
  · exact .inr (h2 y (by simpa using hy))
theorem JC {X : List Nat} {w : World} {b : Nat} {ob : Option Nat} {l : List SD} (h : Sto X w b ob l) (i t : Int) (ht : -9223372036854775808 ≤ t ∧ t ≤ 9223372036854775807) : Calls Tryz.prog 21 #[.pointer (some ⟨b, 0, none⟩), .int .i64 i, .int .i64 t] w (Ret fun r w' => ∃ x ok, r = .tuple #[.agg #[.int .i64 (Smp.t x), .float .f64 x.v, .bool x.st], .bool ok] ∧ oU (gU l i).2 t = (x, ok) ∧ Sto X w' b ob l ∧ Evo (b :: ob.toList) w w') :=
  (at_ok h i t ht).mono fun e w' ⟨v, he, hv, h1, h2⟩ => ⟨v, he, _, _, hv, rfl, h1, h2⟩
def uN : List SD := [(uP, xZ), (uO, xY)].map oQ
theorem JB : oU (gU uN 0).2 10 = (⟨0, 4611686018427387904, false⟩, true) := by kernel_rfl
theorem zE {X : List Nat} {w : World} {b : Nat} {ob : Option Nat} (h : Sto X w b ob uN) : Calls Tryz.prog 21 #[.pointer (some ⟨b, 0, none⟩), .int .i64 0, .int .i64 10] w (Ret fun r w' => r = .tuple #[.agg #[.int .i64 0, .float .f64 4611686018427387904, .bool false], .bool true] ∧ Evo (b :: ob.toList) w w') :=
  (JC h 0 10 (by decide)).mono fun e w' ⟨v, he, x, ok, hv, ha, h1, h2⟩ => ⟨v, he, by rw [JB] at ha; cases ha; exact hv, h2⟩
theorem xM : pB rA := ⟨by decide, fun s hs => by
  rcases List.mem_cons.1 hs with rfl | hs
  · exact ⟨by decide, by decide⟩
  · rw [List.mem_singleton.1 hs]; exact ⟨by decide, by decide⟩⟩
theorem AY {w : World} {v : Value} (hs : RSl 2 RSer [] w v rA) (hP : P10 w) (hT : Tab w) :
    Calls Tryz.prog 10 #[.agg #[v]] w (Ret fun r w' => Evo [] w w' ∧ ∃ b ob, r = .tuple #[.pointer (some ⟨b, 0, none⟩), .int .i64 0, iv3 0] ∧ Sto (b :: ob.toList) w' b ob uN ∧ Ge w (some b) ∧ Ge w ob) := by
  refine (CU hs xM hP hT).mono ?_
  rintro e w' ⟨v, rfl, hE, ⟨h1, -⟩ | ⟨-, b, ob, es, rfl, hSA, p, q, hL⟩⟩
  · rw [FY] at h1; exact absurd rfl h1
  · obtain ⟨l, hp, hsrt, hrow⟩ := pL hL
    have hl := uS hp hsrt
    subst hl
    have hS := xJ hSA hT hE p q
    rw [hrow] at hS
    exact ⟨_, rfl, hE, b, ob, rfl, hS, p, q⟩
theorem JA {w : World} (hP : P10 w) (hT : Tab w) : Calls Tryz.prog 5 #[] w (Ret fun r w' => r = .bool true ∧ Evo [] w w') := by
  refine aU (N := 34) Tryz.func5 rfl rfl rfl ?_; refine csr (wan (csr (aG (vs := []) wR rfl (HF) rfl ?_))); rintro _ w1 ⟨v0, rfl, hsp, L⟩; have p := (Evo.refl [] w).then L; refine aG (vs := [_]) nX rfl (AY hsp (hP.evo p (by simp)) (hT.evo p (by simp))) rfl ?_; rintro _ w4 ⟨M, b, ob, rfl, E, hGb, hGo⟩; have hEl := p; have O : Ge w (some b) := fun g e => Nat.le_trans hEl.size (hGb g e); have U : Ge w ob := fun g e => Nat.le_trans hEl.size (hGo g e); refine aE (aC (bT rfl rfl) ?_); refine aC (bT rfl rfl) ?_; refine aC (bT rfl rfl) ?_; refine cS (cS (wan (aM (csr (aE (aC (gB rfl rfl) ?_)))))); refine aE (bV (t := 14) rfl (fun q => ?_) (fun q => ?_))
  ·exact absurd rfl q
  refine bJ (aE (bJ (aC (DJ rfl rfl zL) ?_))); refine cR (aE (bJ (aE (bJ (aG (vs := [_]) fY rfl (oL (E.evo (Evo.refl [] w4))) rfl ?_))))); rintro _ w7 ⟨rfl, F⟩; refine bJ (aC (gB rfl rfl) ?_); refine cR (wnn (bS rfl (fun y => ?_) (fun y => ?_)))
  ·exact absurd rfl y
  refine aQ (aB (csr (aE (aG (vs := [_, _, _]) nU rfl (zE (E.evo ((Evo.refl [] w4).then F))) rfl ?_)))); rintro _ W ⟨rfl, G⟩; have A := ((p.then M).then F).step G (uZ O U); refine aE (aC (bT rfl rfl) ?_); refine aC (bT rfl rfl) ?_; refine cO rfl fX fun b4 Y H D I => ?_; have V := D; refine bQ rfl rfl bU H rfl rfl ⟨by first | rfl | assumption, by first | rfl | assumption, by first | rfl | assumption, trivial⟩ fun a0 J K => ?_; refine wan (csr (aE (aE (bJ (aC (aA rfl dJ) (bJ (aC (aI rfl eG (aJ J rfl)) (bJ ?_)))))))); refine aC (lE (DG rfl rfl) (by kernel_rfl)) ?_; refine cV (wan (aT (br1 ?_))); exact ⟨rfl, ((A.then I).step K (Ge.new A D).mem1)⟩
theorem rM (ps : List Smp) {a b : Int} (h : a ≤ b) : cnt ps a ≤ cnt ps b := List.countP_mono_left fun p _ hp => by
  simp only [decide_eq_true_eq] at hp ⊢
  omega
theorem FV {α : Type} (l : List α) {A B C : Nat} (h1 : A ≤ B) (h2 : B ≤ C) (h3 : C ≤ l.length) : (l.take B).drop A ++ (l.take C).drop B = (l.take C).drop A := by
  have e : l.take C = l.take B ++ (l.take C).drop B := by
    conv => lhs; rw [← List.take_append_drop B (l.take C), List.take_take, Nat.min_eq_left h2]
  conv => rhs; rw [e, List.drop_append_of_le_length (by rw [List.length_take]; omega)]
theorem GI (ps : List Smp) {lo t hi : Int} (h1 : lo ≤ t) (h2 : t ≤ hi) : win ps lo t ++ win ps t hi = win ps lo hi := by
  unfold win
  rw [← List.filter_append, FV ps (rM ps h1) (rM ps h2) (vG ps hi)]
theorem GJ (ps : List Smp) {t u : Int} (h : u < t) : win ps t u = [] := by
  unfold win
  rw [List.drop_of_length_le (by rw [List.length_take]; have := rM ps (show u ≤ t by omega); omega)]
  rfl
theorem yU {ps : List Smp} {lo : Int} (h : ∀ x, x ∈ ps → lo < x.t) : cnt ps lo = 0 := by
  unfold cnt
  rw [List.countP_eq_zero]
  intro p hp
  have := h p hp
  simp only [decide_eq_true_eq]
  omega
theorem cnt_all {ps : List Smp} {hi : Int} (h : ∀ x, x ∈ ps → x.t ≤ hi) : cnt ps hi = ps.length := by
  unfold cnt
  rw [List.countP_eq_length]
  intro p hp
  exact decide_eq_true (h p hp)
theorem win_all {ps : List Smp} {lo hi : Int} (h1 : ∀ x, x ∈ ps → lo < x.t) (h2 : ∀ x, x ∈ ps → x.t ≤ hi) : win ps lo hi = ps.filter fun p => !p.st := by
  unfold win
  rw [yU h1, cnt_all h2, List.take_length]
  rfl
theorem at_last {ps : List Smp} {lo t : Int} {x : Smp} (hr : jE ps) (h1 : ∀ x, x ∈ ps → lo < x.t) (h : oU ps t = (x, true)) : x ∈ ps ∧ x.st = false ∧ x.t ≤ t ∧ t - x.t < 300000 ∧ ∃ n, (win ps lo t).length = n + 1 ∧ (win ps lo t)[n]? = some x := by
  by_cases e : cnt ps t = 0
  · rw [uG e] at h; cases h
  obtain ⟨k, hk⟩ : ∃ k, cnt ps t = k + 1 := ⟨cnt ps t - 1, by omega⟩
  have hkl : k < ps.length := by have := vG ps t; omega
  by_cases e2 : ps[k].st = true ∨ 300000 ≤ t - ps[k].t
  · rw [DW hk hkl e2] at h; cases h
  rw [zF hk hkl e2] at h
  cases h
  have hst : ps[k].st = false := by
    cases hh : ps[k].st with
    | true => exact absurd (.inl hh) e2
    | false => rfl
  refine ⟨List.getElem_mem _, hst, (IW hr t).1 k hkl (by omega), by omega, ((ps.take k).filter fun p => !p.st).length, ?_⟩
  have hw : win ps lo t = ((ps.take k).filter fun p => !p.st) ++ [ps[k]] := by
    unfold win
    rw [yU h1, hk, List.drop_zero, List.take_succ_eq_append_getElem hkl, List.filter_append]
    simp [hst]
  rw [hw]
  simp
theorem at_none {ps : List Smp} {t : Int} {x : Smp} (h : oU ps t = (x, false)) : x = ⟨0, 0, false⟩ := by
  unfold oU at h
  split at h
  · cases h; rfl
  · split at h
    · cases h; rfl
    · cases h
end Go.Proofs.YtlpdhbmhbjjnhaaGreatDoor
namespace Go.Proofs.YtlpdhbmhbjjnhaaGreatDoor
open Go.ChangeAt Go.ChangeShapes Go.RowKit Go.W Go.WideShapes
def RF64 : Rel Nat := fun _ _ vs n => vs = [.float .f64 n] ∧ n < 18446744073709551616
theorem AF {H : Type} {enc : TypeId × Value → H} {P : Program} {w : World} {base : Nat} {sp : Nat → Bool} {hd : Bool} {fuel : Nat} {t : TypeId} {cs : List Value} {x : DataW H × List MemPlace} (ht : P.underlying t = some (.float .f64)) (h : DataW.trod enc P w base sp hd fuel t cs = some x) : ∃ n, cs = [.float .f64 n] ∧ x = (.lit (.float .f64 n), []) ∧ (Lit.float .f64 n).wf = true := by
  cases fuel with
  | zero => simp [DataW.trod] at h
  | succ n =>
    unfold DataW.trod at h
    rw [ht] at h
    split at h <;> simp_all
theorem EW {P : Program} {t : TypeId} (ht : P.underlying t = some (.float .f64)) : iE P t RF64 := by
  intro H enc w fuel cs x h _
  obtain ⟨n, hcs, _, hw⟩ := AF ht h
  refine ⟨n, hcs, ?_⟩
  simpa [Lit.wf] using hw
def RB2 : Rel Bool := fun _ _ vs b => vs = [.bool b] ∧ True
theorem yD {P : Program} {t : TypeId} (ht : P.underlying t = some .bool) : iE P t RB2 := by
  intro H enc w fuel cs x h _
  obtain ⟨b, hcs, _⟩ := DataW.trod_bool ht h
  exact ⟨b, hcs, trivial⟩
theorem FK {n : Int} (h : IntKind.i64.min ≤ n ∧ n ≤ IntKind.i64.max) : -9223372036854775808 ≤ n ∧ n ≤ 9223372036854775807 := by
  simpa [IntKind.min, IntKind.max, IntKind.signed, IntKind.bits] using h
theorem HJ : iE Tryz.prog 50 RSmp := by
  intro H enc w fuel cs x h hw
  obtain ⟨a, ea, ha2⟩ := eL (T := 2) (off := 0) (m := 1) Tryz.underlying50 h hw 0 rfl rfl rfl (by kernel_rfl) (tP Tryz.underlying2)
  obtain ⟨v, ev, hv2⟩ := eL (T := 48) (off := 1) (m := 1) Tryz.underlying50 h hw 1 rfl rfl rfl (by kernel_rfl) (EW Tryz.underlying48)
  obtain ⟨st, est, _⟩ := eL (T := 4) (off := 2) (m := 1) Tryz.underlying50 h hw 2 rfl rfl rfl (by kernel_rfl) (yD Tryz.underlying4)
  have hl := lT Tryz.underlying50 h
  rw [show Tryz.prog.cellsOf 50 = 3 from by kernel_rfl] at hl
  match cs, hl with
  | [c0, c1, c2], _ =>
    simp at ea ev est
    subst ea ev est
    exact ⟨⟨a, v, st⟩, rfl, FK ha2, hv2⟩
theorem HL : iE Tryz.prog 58 RLB := by
  intro H enc w fuel cs x h hw
  obtain ⟨a, ea, ha2⟩ := eL (T := 9) (off := 0) (m := 1) Tryz.underlying58 h hw 0 rfl rfl rfl (by kernel_rfl) (tO Tryz.underlying9)
  obtain ⟨v, ev, hv2⟩ := eL (T := 9) (off := 1) (m := 1) Tryz.underlying58 h hw 1 rfl rfl rfl (by kernel_rfl) (tO Tryz.underlying9)
  have hl := lT Tryz.underlying58 h
  rw [show Tryz.prog.cellsOf 58 = 2 from by kernel_rfl] at hl
  match cs, hl with
  | [c0, c1], _ =>
    simp at ea ev
    subst ea ev
    exact ⟨(a, v), rfl, by show a.size ≤ _; omega, by show v.size ≤ _; omega⟩
theorem EZ : iE Tryz.prog 42 (GB 2 32 RLB) := jB Tryz.underlying42 (by kernel_rfl) (by kernel_rfl) (by decide) HL
theorem EX : iE Tryz.prog 43 (GB 3 24 RSmp) := jB Tryz.underlying43 (by kernel_rfl) (by kernel_rfl) (by decide) HJ
theorem FA : iE Tryz.prog 39 (GB 1 8 (RInt .i64)) := jB Tryz.underlying39 (by kernel_rfl) (by kernel_rfl) (by decide) (tP Tryz.underlying2)
def DX : Rel SD := fun X w vs d => RSer X w vs d ∧ d.1.length ≤ 140737488355328 ∧ d.2.length ≤ 140737488355328
theorem rser_of {X : List Nat} {w : World} {v : Value} {ds : List SD} (h : RSl 2 DX X w v ds) : RSl 2 RSer X w v ds ∧ ∀ s, s ∈ ds → s.1.length ≤ 140737488355328 ∧ s.2.length ≤ 140737488355328 := by
  obtain ⟨a, c, h1, h2, h3⟩ := h
  refine ⟨⟨a, c, h1, h2, fun k hk => ?_⟩, fun s hs => ?_⟩
  · obtain ⟨b, o, vs, e1, e2, e3, e4, e5⟩ := h3 k hk
    exact ⟨b, o, vs, e1, e2, e3, e4, e5.1⟩
  · obtain ⟨k, hk, rfl⟩ := List.getElem_of_mem hs
    obtain ⟨b, o, vs, e1, e2, e3, e4, e5⟩ := h3 k hk
    exact e5.2
theorem HK : iE Tryz.prog 45 DX := by
  intro H enc w fuel cs x h hw
  obtain ⟨l, v1, e1, h1, b1⟩ := eL (T := 42) (off := 0) (m := 1) Tryz.underlying45 h hw 0 rfl rfl rfl (by kernel_rfl) (EZ)
  obtain ⟨m, v2, e2, h2, b2⟩ := eL (T := 43) (off := 1) (m := 1) Tryz.underlying45 h hw 1 rfl rfl rfl (by kernel_rfl) (EX)
  have hl := lT Tryz.underlying45 h
  rw [show Tryz.prog.cellsOf 45 = 2 from by kernel_rfl] at hl
  match cs, hl with
  | [c0, c1], _ =>
    simp at e1 e2
    subst e1 e2
    exact ⟨(l, m), ⟨_, _, rfl, h1, h2⟩, by show l.length ≤ _; omega, by show m.length ≤ _; omega⟩
theorem EY : iE Tryz.prog 24 (GB 2 48 DX) := jB Tryz.underlying24 (by kernel_rfl) (by kernel_rfl) (by decide) HK
def RDs : Rel (List SD) := fun X w vs d => ∃ v, vs = [v] ∧ RSl 2 DX X w v d ∧ d.length ≤ 140737488355328
theorem opensDs : iE Tryz.prog 26 RDs := by
  intro H enc w fuel cs x h hw
  obtain ⟨l, v1, e1, h1, b1⟩ := eL (T := 24) (off := 0) (m := 1) Tryz.underlying26 h hw 0 rfl rfl rfl (by kernel_rfl) (EY)
  have hl := lT Tryz.underlying26 h
  rw [show Tryz.prog.cellsOf 26 = 1 from by kernel_rfl] at hl
  match cs, hl with
  | [c0], _ =>
    simp at e1
    subst e1
    exact ⟨l, _, rfl, h1, by omega⟩
set_option maxRecDepth 100000 in
theorem came {α : Type} {t e : TypeId} {sz bytes : Nat} {R : Rel α} {H : Type} {enc : TypeId × Value → H} {W : World} {base : Nat} {v : Value} {d : DataW H} {p : List MemPlace} (ht : Tryz.prog.underlying t = some (.slice e)) (ho : iE Tryz.prog t (GB sz bytes R)) (hv : Value.okWide Tryz.prog W .any base t v) (h : DataW.Trod enc Tryz.prog W 0 (fun _ => true) true t v d p)
    (hw : ∀ n, n ∈ d.weights Tryz.prog t → n ≤ reachBytes) : ∃ ds, RSl sz R [] W v ds ∧ ds.length * bytes ≤ 140737488351232 := by
  obtain ⟨a, n, c, rfl⟩ := okWide_slice ht hv
  obtain ⟨fuel, hf⟩ := h
  obtain ⟨ds, u, hu, hs, hb⟩ := ho H enc W fuel _ _ hf hw
  simp [Value.cells] at hu
  subst hu
  exact ⟨ds, hs, hb⟩
set_option maxRecDepth 100000 in
theorem cameDs {H : Type} {enc : TypeId × Value → H} {W : World} {base : Nat} {v : Value} {d : DataW H} {p : List MemPlace} (hv : Value.okWide Tryz.prog W .any base 26 v) (h : DataW.Trod enc Tryz.prog W 0 (fun _ => true) true 26 v d p)
    (hw : ∀ n, n ∈ d.weights Tryz.prog 26 → n ≤ reachBytes) : ∃ sv ds, v = .agg #[sv] ∧ RSl 2 RSer [] W sv ds ∧ ds.length ≤ 140737488355328 ∧ ∀ s, s ∈ ds → s.1.length ≤ 140737488355328 ∧ s.2.length ≤ 140737488355328 := by
  obtain ⟨cs, rfl, hcs⟩ := okWide_struct Tryz.underlying26 hv
  obtain ⟨fuel, hf⟩ := h
  obtain ⟨ds, u, hu, hs, hb⟩ := opensDs H enc W fuel _ _ hf hw
  have hc : cs = #[u] := by
    have h1 : cs.toList = [u] := hu
    rw [← Array.toList_inj, h1]
  obtain ⟨h1, h2⟩ := rser_of hs
  exact ⟨u, ds, by rw [hc], h1, hb, h2⟩
theorem own : ownKnob Tryz.prog.godebug = none := by kernel_rfl
theorem CV : laidOutB Tryz.prog = true := by kernel_rfl
theorem FH : false = Tryz.pinned.checked.prog.looks [] := by kernel_rfl
abbrev laidL : List (String × DataW Unit) := [("math/bits.deBruijn32tab", Rows.laid_math_bits_deBruijn32tab), ("math/bits.deBruijn64tab", Rows.laid_math_bits_deBruijn64tab), ("internal/strconv.uint64pow10", Rows.laid_internal_strconv_uint64pow10)]
theorem table {W : World} (hL : laidMetH Tryz.prog laidL W) : Tab W := by
  have h0 : laidMetH Tryz.prog [("math/bits.deBruijn64tab", Rows.laid_math_bits_deBruijn64tab)] W := by
    have := hL.filter (fun x => x.1 == "math/bits.deBruijn64tab")
    rw [show laidL.filter (fun x => x.1 == "math/bits.deBruijn64tab") = [("math/bits.deBruijn64tab", Rows.laid_math_bits_deBruijn64tab)] from by kernel_rfl] at this
    exact this
  have h1 : Lib.TabIs Tryz.prog W "math/bits.deBruijn64tab" .u8 (Lib.deBruijn64tab.map fun n : Nat => (n : Int)) := Lib.tabIs_of_head (rest := []) (g := lX) (by kernel_rfl) (by kernel_rfl) Tryz.underlying157 Tryz.underlying5 (by kernel_rfl) (by kernel_rfl) h0
  intro k hk
  have h2 := h1.cell (show Tryz.prog.globalNamed "math/bits.deBruijn64tab" = some lX by kernel_rfl) k (by simpa using (show k < Lib.deBruijn64tab.length from hk))
  rw [h2]
  have hl : k < Lib.deBruijn64tab.length := hk
  simp [List.getD_eq_getElem?_getD, hl]
theorem tableP {W : World} (hL : laidMetH Tryz.prog laidL W) : P10 W := by
  have h0 : laidMetH Tryz.prog [("internal/strconv.uint64pow10", Rows.laid_internal_strconv_uint64pow10)] W := by
    have := hL.filter (fun x => x.1 == "internal/strconv.uint64pow10")
    rw [show laidL.filter (fun x => x.1 == "internal/strconv.uint64pow10") = [("internal/strconv.uint64pow10", Rows.laid_internal_strconv_uint64pow10)] from by kernel_rfl] at this
    exact this
  exact Lib.tabIs_of_head (rest := []) (g := gP) (by kernel_rfl) (by kernel_rfl) Tryz.underlying184 Tryz.underlying95 (by kernel_rfl) (by kernel_rfl) h0
def qQ (l : List Value) : Obj → Obj
  | .cells _ t frozen => .cells l.toArray t frozen
  | o => o
noncomputable def oM (os : Os) : World :=
  { World.holding Tryz.prog os ⟨#[], #[], []⟩ with heap := (((World.holding Tryz.prog os ⟨#[], #[], []⟩).heap.modify 0 (qQ (Lib.deBruijn64tab.map fun n : Nat => Value.int .u8 (n : Int)))).modify 2 (qQ (Lib.pow10Tab.map fun n : Int => Value.int .u64 n))).modify 3 (qQ (Lib.deBruijn32tab.map fun n : Nat => Value.int .u8 (n : Int))) }
end Go.Proofs.YtlpdhbmhbjjnhaaGreatDoor
namespace Go.Proofs.YtlpdhbmhbjjnhaaGreatDoor
open Go.Lib Go.RowKit Go.Sort Go.W
attribute [local irreducible] Decidable.decide
theorem nZ : iS Tryz.prog 39 = some 1 := by kernel_rfl
theorem nV : dB Tryz.prog 17 := ⟨_, Tryz.func17, by kernel_rfl, by kernel_rfl⟩
theorem gR : dB Tryz.prog 18 := ⟨_, Tryz.func18, by kernel_rfl, by kernel_rfl⟩
theorem zY : Tryz.prog.eqGuardType Tryz.prog.depth 50 = false := by kernel_rfl
theorem AA (w : World) : (Op.equal 50 (.agg #[.int .i64 0, .float .f64 0, .bool false]) (.agg #[.int .i64 0, .float .f64 0, .bool false])).run Tryz.prog w = .ok (decide (True : Prop)) w := by kernel_rfl
theorem all_one {l : List Value} (h : ∀ u, u ∈ l → u.oneCell' = true) : AllOne l := by
  induction l with
  | nil => trivial
  | cons u l ih => exact ⟨h u (by simp), ih (fun x hx => h x (by simp [hx]))⟩
theorem CH {w : World} {e : TypeId} {a : Option Addr} {m c : Nat} {l : List Smp} {ob : Option Nat} (h : OwnS w e 3 a m c (gT l) ob) : Src Tryz.prog w 3 (.slice a m c) m (gT l) :=
  Src.ofOwn h (all_one fun u hu => by
    obtain ⟨r, hr, hu⟩ := List.mem_flatten.1 hu
    obtain ⟨s, -, rfl⟩ := List.mem_map.1 hr
    simp [xK] at hu
    rcases hu with rfl | rfl | rfl <;> rfl)
theorem EK (a b : List Smp) : gT (a ++ b) = gT a ++ gT b := by simp [gT]
theorem AR {w : World} {e : TypeId} {a : Option Addr} {m c : Nat} {l : List Smp} {ob : Option Nat} (h : OwnS w e 3 a m c (gT l) ob) (hl : l.length = m) {n : Nat} {x : Smp} (hx : l[n]? = some x) : ∃ g, a = some ⟨g, 0, none⟩ ∧ ob = some g ∧ ∀ j v, [Value.int .i64 x.t, .float .f64 x.v, .bool x.st][j]? = some v → w.cell? ⟨g, 0 + n * 3 + j, none⟩ = some v := by
  have hn : n < l.length := (List.getElem?_eq_some_iff.1 hx).1
  have hxn : l[n] = x := (List.getElem?_eq_some_iff.1 hx).2
  obtain ⟨g, hg, ha, hc⟩ := qF (R := fun _ _ _ _ => True) (X := []) (w' := w) (k := n) (rows := l.map xK) (es := l) h ⟨by simp, fun k h1 h2 => ⟨by simp only [List.getElem_map]; rfl, trivial⟩⟩ (by simpa using hn) (by omega)
  refine ⟨g, ha, hg, fun j v hv => hc j v ?_⟩
  rw [List.getElem_map, hxn]
  exact hv
theorem GG {ps : List Smp} {a b : Int} (h : ∀ x, x ∈ ps → x.Ok) : ∀ x, x ∈ win ps a b → x.Ok := fun x hx => by
  unfold win at hx
  exact h x (List.mem_of_mem_take (List.mem_of_mem_drop (List.mem_filter.1 hx).1))
theorem jS {X : List Nat} {w : World} {b : Nat} {ob : Option Nat} {l : List SD} {k : Nat} (h : Sto X w b ob l) (hk : k < l.length) (fr to : Int) : Calls Tryz.prog 18 #[.pointer (some ⟨b, 0, none⟩), .int .i64 (k : Nat), .int .i64 fr, .int .i64 to] w (Ret fun r w' => JE w w' r (win l[k].2 fr to) ∧ Sto X w' b ob l ∧ Evo (b :: ob.toList) w w') := by
  have := ED h k fr to
  rw [iB hk] at this
  exact this
theorem at_in {X : List Nat} {w : World} {b : Nat} {ob : Option Nat} {l : List SD} {k : Nat} (h : Sto X w b ob l) (hk : k < l.length) (t : Int) (ht : -9223372036854775808 ≤ t ∧ t ≤ 9223372036854775807) : Calls Tryz.prog 21 #[.pointer (some ⟨b, 0, none⟩), .int .i64 (k : Nat), .int .i64 t] w (Ret fun r w' => ∃ x ok, r = .tuple #[.agg #[.int .i64 (Smp.t x), .float .f64 x.v, .bool x.st], .bool ok] ∧ oU l[k].2 t = (x, ok) ∧ Sto X w' b ob l ∧ Evo (b :: ob.toList) w w') := by
  have := JC h k t ht
  rw [iB hk] at this
  exact this
theorem ex_diff {P : Program} {σ : Env} {w : World} {dst : Option Nat} {T : TypeId} {pos : String} {after : Array Edge} {g : Option (Nat × Bool)} {x y : Operand} {t t' : TypeId} {a b : Int} (hx : σ.ev x = some (.int .u64 ((u64 a : Nat) : Int))) (hy : σ.ev y = some (.int .u64 ((u64 b : Nat) : Int))) (h : b ≤ a) (h1 : -9223372036854775808 ≤ b) (h2 : a ≤ 9223372036854775807) : Ex P σ ⟨dst, .binOp .sub t x y t', T, pos, after, g⟩ w (.int .u64 (a - b)) w := by
  have := qK (P := P) (w := w) (dst := dst) (T := T) (pos := pos) (after := after) (g := g) (t := t) (t' := t') hx hy
  rw [IP h h1 h2] at this
  exact this
theorem GH (ps : List Smp) (a b : Int) : (win ps a b).length ≤ ps.length := xB ps _ _
theorem FJ {X : List Nat} {w : World} {b : Nat} {ob : Option Nat} {l : List SD} {k : Nat} {tv : Value} {ts : List Int} (h : Sto X w b ob l) (hk : k < l.length) (hlo : ∀ x, x ∈ l[k].2 → -9223372036854775808 < x.t) (t : Int) (ht : -9223372036854775808 ≤ t ∧ t ≤ 9223372036854775807) (hts : RSl 1 (RInt .i64) (b :: ob.toList) w tv ts) (htl : ts.length ≤ 1000000000) : Calls Tryz.prog 19 #[.pointer (some ⟨b, 0, none⟩), .int .i64 (k : Nat), .int .i64 t, tv] w (Ret fun r w' => r = .bool true ∧ Sto X w' b ob l ∧ Evo (b :: ob.toList) w w') := by
  obtain ⟨hpl, hpr, hpo⟩ := (h.ser _ (List.getElem_mem hk)).2; have hwo := fun a b => GG (a := a) (b := b) (fun x hx => (hpo x hx).1); have hwl := fun a b => GH l[k].2 a b; obtain ⟨ta, tc, rfl, htc, te⟩ := hts; refine aU (N := 98) Tryz.func19 rfl rfl rfl ?_; refine csr (wan (csr (aE (aE (aE (aG (vs := [_, _, _, _]) gR rfl (jS (h) hk (-9223372036854775808) (t)) rfl ?_)))))); rintro _ w1 ⟨⟨aw1, cw1, ow1, rfl, hOw1, hGw1⟩, hSw1, c9⟩; have a0 := Ge.fresh (Evo.refl (b :: ob.toList) w) hGw1; have d0 := (Evo.refl (b :: ob.toList) w).step c9 (fun y hy => .inl hy); refine aE (aE (aE (aG (vs := [_, _, _, _]) gR rfl (jS (hSw1.evo (Evo.refl [] w1)) hk (t) (9223372036854775807)) rfl ?_))); rintro _ w6 ⟨⟨aw2, cw2, ow2, rfl, hOw2, hGw2⟩, hSw2, b8⟩; have G := d0.step b8 (fun y hy => .inl hy); have a1 := hOw1.evo b8 (h.nin a0); refine cS (wan (aM (csr (cH (vs := []) rfl fD rfl rfl rfl rfl fun E0 d6 c2 E F => ?_)))); have a2 := Apart.new (Lt.own a1) E; have a3 := Ge.new (Evo.refl [] w6) E; have a4 := (Evo.refl [] w6).then F; have L := a1.evo0 F; refine aE ?_
  refine cN rfl rfl rfl rfl fU c2 (CH L) (by (have := hwl (-9223372036854775808) t; omega)) fun a26 c26 d7 OUT c3 H hob31 => ?_
  have a5 := (Ge.new G E).app (G.then F) hob31; have a6 := (G.then F).step H (Ge.new G E).mem; refine aE ?_
  refine cN rfl rfl rfl rfl fU c3 (CH ((hOw2.evo0 F).evo H (Apart.new (Lt.own hOw2) E).own)) (by (have := hwl (-9223372036854775808) t; have := hwl t (9223372036854775807); omega)) fun a28 c28 d8 OUT2 c4 M hob46 => ?_
  refine aE (aE (aG (vs := [_, _, _, _]) gR rfl (jS (hSw2.evo ((a4.step H a3.mem).step M (a3.app a4 hob31).mem)) hk (-9223372036854775808) (9223372036854775807)) rfl ?_)); rintro _ b9 ⟨⟨aw3, cw3, ow3, rfl, hOw3, hGw3⟩, hSw3, O⟩; have hj := GI l[k].2 ht.1 ht.2
  have hOO : OwnS b9 50 3 a28 (0 + (win l[k].2 (-9223372036854775808) t).length + (win l[k].2 t 9223372036854775807).length) c28 (gT (win l[k].2 (-9223372036854775808) t ++ win l[k].2 t 9223372036854775807)) OUT2 := by rw [EK]; exact (c4.evo O (h.nin (a5.app a6 hob46)))
  refine aG (vs := [_, _]) nV rfl (mB (jA (X := []) hOO (by simp) (fun x hx => (List.mem_append.1 hx).elim (hwo _ _ x) (hwo _ _ x)) (by simp)) (by rw [hj]; exact jA (X := []) hOw3 rfl (hwo _ _) (by simp)) (by rw [hj]; exact Nat.le_trans (hwl _ _) (by omega))) rfl ?_
  rintro _ d9 ⟨rfl, U⟩; refine aC (eE rfl) ?_; refine wnn (cL rfl ?_); refine aQ (aB (aM (csr (aE (aC (aX rfl Tryz.underlying39 rfl) ?_))))); refine aE (wnn (bB (cM (α := Nat) (0) (fun j => [(36, .int .i64 (j : Nat))]) [(0, _), (1, _), (2, _), (9, _), (34, _), (35, _)] (fun j wr => Evo (b :: ob.toList) w wr ∧ (j ≤ ts.length ∧ OwnS wr 50 3 aw1 (win l[k].2 (-9223372036854775808) t).length cw1 (gT (win l[k].2 (-9223372036854775808) t)) ow1 ∧ Sto X wr b ob l)) (fun j => ts.length - j) ⟨rfl, trivial⟩ ⟨rfl, rfl, rfl, rfl, rfl, rfl, trivial⟩ ⟨(((a6.step M a5.mem).step O (fun y hy => .inl hy)).then U), ⟨Nat.zero_le _, ((((L.evo H a2.own).evo M (a2.app (Lt.own L) hob31).own).evo O (h.nin a0)).evo0 U), hSw3.evo ((Evo.refl [] b9).then U)⟩⟩ ?_))); rintro j wr74 ⟨I, ⟨hj1, a7, hSt⟩⟩; show CW _ _ _ _ [(36, _), (0, _), (1, _), (2, _), (9, _), (34, _), (35, _)] _; refine csr (aC (cQ rfl rfl) ?_); refine wnn (aM (bS rfl (fun c5 => ?_) (fun c5 => ?_)))
  ·have hj' : j < ts.length := by omega
   obtain ⟨b1, o1, vs1, ha1, hb1, -, d1, rfl, hz1⟩ := te j hj'; refine aQ (aB (aM (bB (csr (aC (cC (n := j) rfl rfl ha1 rfl nZ hj') ?_))))); refine aC (aI rfl dO ((I).cell (d1 0 _ rfl) hb1)) (wan (csr (aE (aE (aC (cQ rfl rfl) ?_))))); refine aE (bV (t := 43) rfl (fun a8 => ?_) (fun a8 => ?_))
   ·refine bJ (aE (bJ (aE (bJ (aE (bJ (aE (bJ (aG (vs := [_, _, _, _]) gR rfl (jS (hSt.evo (Evo.refl [] wr74)) hk (t) (ts[j])) rfl ?_))))))))); rintro _ d2 ⟨⟨aw4, cw4, ow4, rfl, hOw4, hGw4⟩, hSw4, a9⟩; refine bJ (aC (aX rfl Tryz.underlying43 rfl) ?_); refine bJ (aC (gB rfl rfl) ?_); refine cV (wnn (bS rfl (fun b0 => ?_) (fun b0 => ?_)))
    ·exact absurd (by rw [GJ l[k].2 a8]; rfl) b0
    refine aQ (bA (aB (aP ?_))); refine aC (aZ rfl rfl (by omega) (by omega)) ?_; refine aE (aD (aO ?_)); refine ⟨j + 1, ?_, ⟨rfl, trivial⟩, ⟨rfl, rfl, rfl, rfl, rfl, rfl, trivial⟩, (I.step a9 (fun y hy => .inl hy)), ?_⟩
    · omega
    exact ⟨by omega, (a7.evo a9 (h.nin a0)), hSw4.evo (Evo.refl [] d2)⟩
   refine bL (bL (bL (bL (bL (bL (bL (cR (wnn (cL rfl ?_))))))))); refine aQ (bA (aB (aP ?_))); refine aC (aZ rfl rfl (by omega) (by omega)) ?_; refine aE (aD (aO ?_)); refine ⟨j + 1, ?_, ⟨rfl, trivial⟩, ⟨rfl, rfl, rfl, rfl, rfl, rfl, trivial⟩, I, ?_⟩
   · omega
   exact ⟨by omega, a7, hSt.evo (Evo.refl [] wr74)⟩
  refine bI (bE (bE (bH (aB ?_)))); refine csr (aE (aE (aE (aG (vs := [_, _, _]) nU rfl (at_in (hSt.evo (Evo.refl [] wr74)) hk t ht) rfl ?_)))); rintro _ c0 ⟨x, ok, rfl, hat, c1, b2⟩; have b3 := I.step b2 (fun y hy => .inl hy); have b4 := a7.evo b2 (h.nin a0); refine aE (aC (bT rfl rfl) ?_); refine aC (bT rfl rfl) ?_; refine cO rfl fX fun e0 e1 c6 J V => ?_; have c8 := J; refine bQ rfl rfl bU c6 rfl rfl ⟨by first | rfl | assumption, by first | rfl | assumption, by first | rfl | assumption, trivial⟩ fun d3 b5 W => ?_; have b6 := (b3.then V).step W (Ge.new b3 J).mem1; have b7 := ((Evo.refl [] c0).then V).step W (Ge.new (Evo.refl [] c0) J).mem1; have c7 := (b4.evo0 V).evo W (Apart.new (Lt.own b4) J).own1; refine wan (aM (csr (aE (aC (eE rfl) ?_)))); refine wnn (dZ rfl (fun Y => ?_) (fun Y => ?_))
  ·obtain rfl : ok = false := by simpa using Y
   have hx := at_none hat; subst hx; refine csr (aC (dC rfl dD bU b5 rfl) (aC (dI (vs := []) fG rfl (cells := [_, _, _]) rfl) ?_)); refine aC (lE (ex_eqA rfl rfl zY AA) (by simp)) ?_; refine wan (aT (aN (br1 ?_))); exact ⟨rfl, c1.evo b7, b6⟩
  obtain rfl : ok = true := by simpa using Y
  obtain ⟨hxm, hxs, hxt, hxd, n, e2, d4⟩ := at_last hpr hlo hat; have hxo := (hpo x hxm).1.t; refine aQ (aB (csr (aE (aC (aX rfl Tryz.underlying43 rfl) ?_)))); refine wan (aM ?_); obtain ⟨gN, haN, hoN, hcN⟩ := AR c7 rfl d4; have hwl1 := hwl (-9223372036854775808) t; refine eA (fun w0 w' => Evo [] w0 w') (by kernel_rfl) (fun q A => ?_); have D := A.blk0 b5; refine aet 0 rfl (fun _ hS => aW rfl) (Evo.refl [] q) ?_; refine aet 1 rfl (fun _ hS => lE (fN rfl rfl) (decide_eq_true (by omega))) (Evo.refl [] q) ?_; refine aet 2 rfl (fun _ hS => aW rfl) (Evo.refl [] q) ?_; refine bG 3 rfl rfl rfl rfl rfl (by kernel_rfl) (by kernel_rfl) (by kernel_rfl) rfl (fun _ hS => aW rfl) (Evo.refl [] q) ?_; refine bG 4 rfl rfl rfl rfl rfl (by kernel_rfl) (by kernel_rfl) (by kernel_rfl) rfl (fun _ hS => aW rfl) (Evo.refl [] q) ?_; refine bG 5 rfl rfl rfl rfl rfl (by kernel_rfl) (by kernel_rfl) (by kernel_rfl) rfl (fun _ hS => aS rfl rfl (by omega) (by omega)) (Evo.refl [] q) ?_; refine bG 6 rfl rfl rfl rfl rfl (by kernel_rfl) (by kernel_rfl) (by kernel_rfl) rfl (fun _ hS => cC (n := n) rfl rfl haN (by omega) dM (by omega)) (Evo.refl [] q) ?_
  refine bG 7 rfl rfl rfl rfl rfl (by kernel_rfl) (by kernel_rfl) (by kernel_rfl) rfl (fun _ hS => cX rfl dD bU (vs := [.int .i64 x.t, .float .f64 x.v, .bool x.st]) rfl (fun j v hv => ((((Evo.refl [] d3).then A).then hS)).cell (hcN j v hv) (by simp))) (Evo.refl [] q) ?_; refine bG 8 rfl rfl rfl rfl rfl (by kernel_rfl) (by kernel_rfl) (by kernel_rfl) rfl (fun _ hS => dC rfl dD bU (hS.blk0 D) rfl) (Evo.refl [] q) ?_; refine aK [9] (by kernel_rfl) rfl ⟨?_, trivial⟩; refine aL rfl ?_; refine bJ (aG (vs := [_, _]) nT rfl (zH x (hpo x hxm).1.v) rfl ?_); rintro _ d5 ⟨rfl, K⟩; have p := (Evo.refl [] q).then K; refine aD (aH (.inl p) ?_); refine aet 10 rfl (fun _ hS => dA rfl rfl) p ?_; refine aet 11 rfl (fun _ hS => aW rfl) p ?_; refine bG 12 rfl rfl rfl rfl rfl (by kernel_rfl) (by kernel_rfl) (by kernel_rfl) rfl (fun _ hS => aA rfl fE) p ?_; refine bG 13 rfl rfl rfl rfl rfl (by kernel_rfl) (by kernel_rfl) (by kernel_rfl) rfl (fun _ hS => aI rfl gH (aJ (hS.blk0 D) rfl)) p ?_
  refine bG 14 rfl rfl rfl rfl rfl (by kernel_rfl) (by kernel_rfl) (by kernel_rfl) rfl (fun _ hS => lE (eE rfl) (by rw [hxs]; rfl)) p ?_
  refine aet 15 rfl (fun _ hS => dA rfl rfl) p ?_; refine aet 16 rfl (fun _ hS => aW rfl) p ?_; refine bG 17 rfl rfl rfl rfl rfl (by kernel_rfl) (by kernel_rfl) (by kernel_rfl) rfl (fun _ hS => aA rfl cY) p ?_; refine bG 18 rfl rfl rfl rfl rfl (by kernel_rfl) (by kernel_rfl) (by kernel_rfl) rfl (fun _ hS => aI rfl dO (aJ (hS.blk0 D) rfl)) p ?_; refine bG 19 rfl rfl rfl rfl rfl (by kernel_rfl) (by kernel_rfl) (by kernel_rfl) rfl (fun _ hS => aW rfl) p ?_; refine bG 20 rfl rfl rfl rfl rfl (by kernel_rfl) (by kernel_rfl) (by kernel_rfl) rfl (fun _ hS => lE (fM rfl rfl) (decide_eq_true hxt)) p ?_; refine aet 21 rfl (fun _ hS => dA rfl rfl) p ?_; refine aet 22 rfl (fun _ hS => aW rfl) p ?_; refine bG 23 rfl rfl rfl rfl rfl (by kernel_rfl) (by kernel_rfl) (by kernel_rfl) rfl (fun _ hS => aW rfl) p ?_; refine bG 24 rfl rfl rfl rfl rfl (by kernel_rfl) (by kernel_rfl) (by kernel_rfl) rfl (fun _ hS => cG rfl Tryz.underlying2 Tryz.underlying95) p ?_; refine bG 25 rfl rfl rfl rfl rfl (by kernel_rfl) (by kernel_rfl) (by kernel_rfl) rfl (fun _ hS => aA rfl cY) p ?_; refine bG 26 rfl rfl rfl rfl rfl (by kernel_rfl) (by kernel_rfl) (by kernel_rfl) rfl (fun _ hS => aI rfl dO (aJ (hS.blk0 D) rfl)) p ?_
  refine bG 27 rfl rfl rfl rfl rfl (by kernel_rfl) (by kernel_rfl) (by kernel_rfl) rfl (fun _ hS => cG rfl Tryz.underlying2 Tryz.underlying95) p ?_; refine bG 28 rfl rfl rfl rfl rfl (by kernel_rfl) (by kernel_rfl) (by kernel_rfl) rfl (fun _ hS => ex_diff rfl rfl hxt hxo.1 ht.2) p ?_; refine bG 29 rfl rfl rfl rfl rfl (by kernel_rfl) (by kernel_rfl) (by kernel_rfl) rfl (fun _ hS => lE (cQ rfl rfl) (decide_eq_true hxd)) p ?_; refine aet 30 rfl (fun _ hS => dA rfl rfl) p ?_; refine aet 31 rfl (fun _ hS => eJ rfl) p ?_; refine bK (by kernel_rfl) (aB ?_); refine aT (br1 ?_); exact ⟨rfl, c1.evo ((b7.then A).then K), ((b6.then A).then K)⟩
theorem wU : dB Tryz.prog 13 := ⟨_, Tryz.func13, by kernel_rfl, by kernel_rfl⟩
theorem wT : dB Tryz.prog 15 := ⟨_, Tryz.func15, by kernel_rfl, by kernel_rfl⟩
theorem wS : dB Tryz.prog 19 := ⟨_, Tryz.func19, by kernel_rfl, by kernel_rfl⟩
theorem zQ : dB Tryz.prog 5 := ⟨_, Tryz.func5, by kernel_rfl, by kernel_rfl⟩
theorem zP : dB Tryz.prog 6 := ⟨_, Tryz.func6, by kernel_rfl, by kernel_rfl⟩
theorem zN : dW Tryz.prog 2 = some 1 := by kernel_rfl
theorem FI {X : List Nat} {w : World} {b : Nat} {ob : Option Nat} {l : List SD} {k : Nat} (h : Sto X w b ob l) (hk : k < l.length) : Calls Tryz.prog 16 #[.pointer (some ⟨b, 0, none⟩), .int .i64 (k : Nat)] w (Ret fun r w' => RSl 2 RLB [] w' r l[k].1 ∧ Evo [] w w') := by
  have := tU h k
  rw [iB hk] at this
  refine this.mono ?_
  rintro e w' ⟨r, he, a, c, o, rows, rfl, hO, hr, -, hE⟩
  exact ⟨_, he, RSl.ofOwn hO ⟨hr.1, fun k h h' => hr.2 k h h'⟩ rfl (by simp), hE⟩
theorem HT {w : World} {v : Value} {ds : List SD} (hs : RSl 2 RSer [] w v ds) (hsm : pB ds) (hP : P10 w) (hT : Tab w) :
    Calls Tryz.prog 10 #[.agg #[v]] w (Ret fun r w' => ∃ p z e, r = .tuple #[p, .int .i64 z, iv3 e] ∧ Evo [] w w' ∧ (e = 0 → ∃ b ob, ∃ l : List SD, p = .pointer (some ⟨b, 0, none⟩) ∧ Sto (b :: ob.toList) w' b ob (l.map oQ) ∧ Ge w (some b) ∧ Ge w ob ∧ l.Perm ds ∧ ds.length ≤ 1000 ∧ ∀ s, s ∈ ds → gK s.2)) := by
  refine (CU hs hsm hP hT).mono ?_
  rintro e w' ⟨v, rfl, hE, ⟨h1, rfl⟩ | ⟨h1, b, ob, es, rfl, hSA, q, y, hL⟩⟩
  · exact ⟨_, rfl, _, _, _, rfl, hE, fun h => absurd h h1⟩
  · obtain ⟨l, hp, hsrt, hrow⟩ := pL hL
    have hS := xJ hSA hT hE q y
    rw [hrow] at hS
    exact ⟨_, rfl, _, _, _, rfl, hE, fun _ => ⟨b, ob, l, rfl, hS, q, y, hp, (rO h1).1, fun s hs => ((rO h1).2 s hs).2.1⟩⟩
theorem xV {l ds : List SD} (hp : l.Perm ds) (h : ∀ s, s ∈ ds → gK s.2) : ∀ s, s ∈ l.map oQ → ∀ x, x ∈ s.2 → -9223372036854775808 < x.t ∧ x.t ≤ 9223372036854775807 := fun s hs x hx => by
  obtain ⟨s0, hs0, rfl⟩ := List.mem_map.1 hs
  obtain ⟨y, hy, rfl⟩ := List.mem_map.1 hx
  have h1 := h s0 (hp.mem_iff.1 hs0)
  obtain ⟨i, hi, rfl⟩ := List.getElem_of_mem hy
  have h2 := (h1 i hi).1
  rw [nK]
  omega
def mD (ps : List Smp) (n : Nat) : List Smp := (ps.take n).filter fun p => !p.st
theorem tT {ps : List Smp} {k : Nat} (hk : k < ps.length) : mD ps (k + 1) = mD ps k ++ (if ps[k].st = true then [] else [ps[k]]) := by
  unfold mD
  rw [List.take_succ_eq_append_getElem hk, List.filter_append]
  congr 1
  cases e : ps[k].st <;> simp [e]
theorem HU (ps : List Smp) (k : Nat) : (mD ps k).length ≤ ps.length := by
  unfold mD
  refine Nat.le_trans (List.length_filter_le _ _) ?_
  rw [List.length_take]; omega
theorem live_ok {ps : List Smp} {k : Nat} (h : ∀ x, x ∈ ps → x.Ok) : ∀ x, x ∈ mD ps k → x.Ok := fun x hx => h x (List.mem_of_mem_take (List.mem_filter.1 hx).1)
theorem GZ {α : Type} {R : Rel α} {X : List Nat} {w : World} {ds : List α} {sz n len c : Nat} {a : Option Addr} (hv : RSl sz R X w (.slice a len c) ds) (hn : n ≤ ds.length) :
    RSl sz R X w (.slice (if c = 0 then a else a.map (·.add (0 * sz))) n c) (ds.take n) := by
  obtain ⟨a', c', he, hlc, h1⟩ := hv
  simp only [Value.slice.injEq] at he
  obtain ⟨rfl, rfl, rfl⟩ := he
  have hl : (ds.take n).length = n := by rw [List.length_take]; omega
  refine ⟨_, c, by rw [hl], by rw [hl]; omega, fun k hk => ?_⟩
  rw [hl] at hk
  obtain ⟨b, o, vs, ha, h2, h3, h4, h5⟩ := h1 k (by omega)
  refine ⟨b, o, vs, ?_, h2, h3, h4, by rw [List.getElem_take]; exact h5⟩
  rw [ha]
  split
  · rfl
  · have : (⟨b, o, none⟩ : Addr).add (0 * sz) = ⟨b, o, none⟩ := by unfold Addr.add; split <;> simp_all
    simp only [Option.map_some, this]
structure LvG where
  j : Nat
  n : Nat
  a : Option Addr
  c : Nat
  o : Option Nat
set_option maxHeartbeats 1000000 in
theorem EH {w : World} {v v2 : Value} {ds : List SD} {ts : List Int} (hs : RSl 2 RSer [] w v ds) (hl : ds.length ≤ 140737488355328) (hl2 : ∀ s, s ∈ ds → s.1.length ≤ 140737488355328 ∧ s.2.length ≤ 140737488355328) (ht : RSl 1 (RInt .i64) [] w v2 ts) (htl : ts.length ≤ 140737488355328) (hP : P10 w) (hT : Tab w) : Calls Tryz.prog 4 #[.agg #[v], v2] w (Ret fun r w' => r = .bool true ∧ Evo [] w w') := by
  have f2 := hs; have hone := hs.one; have ht0 := ht; obtain ⟨ta0, tc0, rfl, htc, -⟩ := ht; obtain ⟨sa0, sc0, rfl, hsc, -⟩ := hs; refine aU (N := 114) Tryz.func4 rfl rfl rfl ?_; refine csr (eK rfl rfl fun b2 w1 g8 g9 h0 => ?_); have h1 := g9; have c7 := (Evo.refl [] w).then h0; refine wan (aM (csr ?_)); refine aG (vs := []) zQ rfl (JA (hP.evo c7 (by simp)) (hT.evo c7 (by simp))) rfl ?_; rintro _ w7 ⟨rfl, d5⟩; have F := d5.blk0 g8; refine aC (eE rfl) ?_; refine wnn (cL rfl ?_); refine aQ (aB (aM (csr (aC (dC rfl gM eF F rfl) (aG (vs := [_]) zP rfl (IC (f2.evo RSer.pers (c7.then d5)) hl hl2) rfl ?_))))); rintro _ h2 ⟨bg, rfl, hsm, d6⟩; have G := (c7.then d5).then d6; have b6 := d6.blk0 F; refine wnn (dZ rfl (fun d7 => ?_) (fun d7 => ?_))
  ·refine csr (wan (aT (aN (br1 ?_)))); exact ⟨rfl, G⟩
  refine aQ (aB (aM (gQ (α := Value × List Int) (fun tt => [(1, tt.1)]) [(2, _), (4, _)] (fun tt wr => h2 = wr ∧ (RSl 1 (RInt .i64) [] w tt.1 tt.2 ∧ tt.2.length ≤ 200)) ⟨rfl, rfl, trivial⟩ ?_ ?_)))
  ·refine csr (aE (aC (aX rfl Tryz.underlying39 rfl) ?_)); refine aC (fN rfl rfl) ?_; refine wnn (bS rfl (fun f6 => ?_) (fun f6 => ?_))
   ·refine aP (aE ?_); refine aC (BD (h := 200) rfl rfl Tryz.underlying39 zN rfl (by omega) htc) ?_; refine cS (aD (aO ?_)); refine ⟨⟨_, ts.take 200⟩, ⟨rfl, trivial⟩, ⟨rfl, rfl, trivial⟩, rfl, ?_⟩
    exact ⟨GZ (n := 200) ht0 (by omega), by show (ts.take 200).length ≤ 200; rw [List.length_take]; omega⟩
   refine aQ (aO ?_); refine ⟨⟨_, ts⟩, ⟨rfl, trivial⟩, ⟨rfl, rfl, trivial⟩, rfl, ?_⟩
   exact ⟨ht0, (by show ts.length ≤ 200; omega)⟩
  rintro ⟨tv, ts2⟩ _ ⟨rfl, ⟨ht2, htl2⟩⟩; refine aB ?_; show CW _ _ _ _ [(1, tv), (2, _), (4, _)] _
  try dsimp only at ht2 htl2
  refine csr (aC (dC rfl gM eF b6 rfl) ?_); refine aG (vs := [_]) nX rfl (HT (f2.evo RSer.pers G) (hsm d7) (hP.evo G (by simp)) (hT.evo G (by simp))) rfl ?_; rintro _ i5 ⟨p, z, e, rfl, W, hres⟩; have H := G; have hlt2 := gC b6; refine aE (aC (bT rfl rfl) ?_); refine aC (bT rfl rfl) ?_; refine aC (bT rfl rfl) ?_; refine cS (cS (wan (aM (csr (aE (aC (gB rfl rfl) ?_)))))); refine wnn (bS rfl (fun d8 => ?_) (fun d8 => ?_))
  ·refine csr (wan (aT (aN (br1 ?_)))); exact ⟨rfl, (G.then W)⟩
  obtain ⟨b, ob, l, rfl, f3, c8, c9, hperm, hd1000, hrise⟩ := hres (Classical.not_not.1 d8); have hbd := xV hperm hrise
  have hLl : (l.map oQ).length = ds.length := by rw [List.length_map, hperm.length_eq]
  generalize l.map oQ = L at f3 hbd hLl
  refine aQ (aB (csr (aE ?_))); refine aG (vs := [_]) wU rfl (data_ok f3 (by omega)) rfl ?_; rintro _ I ⟨dv, rfl, hdv, b3, d9⟩; have hdw := d9
  have e0 := d9.blk (W.blk0 b6) (fun hm => by rcases List.mem_cons.1 hm with e | hm; (have := c8 _ rfl; omega); (have := c9 b2 (by simpa using hm); omega))
  have ht3 := (((ht2.evo (RInt.pers _) H).fresh (by decide) (RInt.fresh _) (uZ c8 c9)).evo (RInt.pers _) (W.any _)).evo (RInt.pers _) hdw; obtain ⟨da, dc, rfl, hdc, de⟩ := id hdv; obtain ⟨ta, tc, rfl, htc2, te⟩ := id ht3; refine cO rfl iL fun b8 i6 f7 Y b7 => ?_; have h3 := Y; refine bQ rfl rfl eF f7 rfl rfl ⟨by first | rfl | assumption, trivial⟩ fun i7 e1 b9 => ?_; refine wnn (aM (aM ?_)); refine eA (fun w0 w' => Evo [] w0 w') (by kernel_rfl) (fun b4 M => ?_); have c0 := (((Evo.refl [] I).then b7).step b9 (Ge.new (Evo.refl [] I) Y).mem1).then M; refine aet 0 rfl (fun _ hS => aA rfl dG) (Evo.refl [] b4) ?_; refine aet 1 rfl (fun _ hS => aI rfl eH (aJ (hS.blk0 (M.blk0 e1)) rfl)) (Evo.refl [] b4) ?_; refine aet 2 rfl (fun _ hS => aX rfl Tryz.underlying24 rfl) (Evo.refl [] b4) ?_; refine aet 3 rfl (fun _ hS => aW rfl) (Evo.refl [] b4) ?_; refine aK [4] (by kernel_rfl) rfl ⟨?_, trivial⟩; refine aL rfl ?_; refine aG (vs := [_]) fY rfl (oL (b3.evo c0)) rfl ?_; rintro _ i8 ⟨rfl, O⟩; have D := (Evo.refl [] b4).then O; refine aD (aH (.inl D) ?_); refine aet 5 rfl (fun _ hS => rJ (gB rfl rfl) (by simp)) D ?_; refine aet 6 rfl (fun _ hS => aW rfl) D ?_
  refine bG 7 rfl rfl rfl rfl rfl (by kernel_rfl) (by kernel_rfl) (by kernel_rfl) rfl (fun _ hS => aW rfl) D ?_; refine bG 9 rfl rfl rfl rfl rfl (by kernel_rfl) (by kernel_rfl) (by kernel_rfl) rfl (fun _ hS => aA rfl dG) D ?_; refine bG 10 rfl rfl rfl rfl rfl (by kernel_rfl) (by kernel_rfl) (by kernel_rfl) rfl (fun _ hS => aI rfl eH (aJ (hS.blk0 (M.blk0 (b9.blk (b7.blk0 e0) (Apart.new (Lt.blk e0) Y).nmem1))) rfl)) D ?_; refine bG 11 rfl rfl rfl rfl rfl (by kernel_rfl) (by kernel_rfl) (by kernel_rfl) rfl (fun _ hS => aX rfl Tryz.underlying24 rfl) D ?_; refine aK [8] (by kernel_rfl) rfl ⟨?_, trivial⟩; refine aL rfl ?_; refine bJ (aG (vs := [_]) fY rfl (oL (b3.evo (c0.then O))) rfl ?_); rintro _ i9 ⟨rfl, a0⟩; have c1 := D.then a0; refine aD (aH (.inl c1) ?_); refine bG 12 rfl rfl rfl rfl rfl (by kernel_rfl) (by kernel_rfl) (by kernel_rfl) rfl (fun _ hS => rJ (gB rfl rfl) (by simp [hLl])) c1 ?_; refine aet 13 rfl (fun _ hS => dX rfl rfl) c1 ?_; refine bK (by kernel_rfl) (aB ?_); refine cL rfl ?_; refine aQ (aB (aM (csr (wfl rfl dG rfl eH (a0.blk0 (O.blk0 (M.blk0 e1))) rfl (aC (aX rfl Tryz.underlying24 rfl) ?_))))); refine aE (wnn ?_); have h4 := b3.evo ((c0.then O).then a0); refine bB ?_
  refine cM (α := Nat) (0) (fun k => [(52, .int .i64 (k : Nat))]) [(1, _), (5, _), (50, _), (51, _)] (fun k wr => Evo (b :: ob.toList) I wr ∧ (k ≤ L.length ∧ Sto (b :: ob.toList) wr b ob L)) (fun k => L.length - k) ⟨rfl, trivial⟩ ⟨rfl, rfl, rfl, rfl, trivial⟩ ⟨((((((Evo.refl (b :: ob.toList) I).then b7).step b9 (Ge.new (Evo.refl (b :: ob.toList) I) Y).mem1).then M).then O).then a0), ⟨Nat.zero_le _, h4⟩⟩ ?_; rintro k wr60 ⟨a1, ⟨hk, hSt⟩⟩; show CW _ _ _ _ [(52, _), (1, _), (5, _), (50, _), (51, _)] _; refine csr (aC (cQ rfl rfl) ?_); refine wnn (aM (bS rfl (fun f8 => ?_) (fun f8 => ?_)))
  ·have hk' : k < L.length := by omega
   obtain ⟨b1, o1, vs1, ha1, hb1, -, h5, lv, pv, rfl, hlv, hpv⟩ := de k hk'; have hlv1 := hlv.one; obtain ⟨pa, pc, rfl, hpc, pe⟩ := id hpv; have hser := b3.ser _ (List.getElem_mem hk'); refine aQ (aB (aM (bB (csr (aE (aC (cC (n := k) rfl rfl ha1 rfl iM hk') ?_)))))); refine aC (cX rfl jD eP (vs := [_, _]) rfl (h5.evo a1 hb1)) ?_; refine cO rfl iK fun f4 j0 f9 c2 e2 => ?_; have g6 := c2; refine cS ?_; refine bQ rfl rfl eP f9 rfl rfl ⟨by first | rfl | assumption, by first | rfl | assumption, trivial⟩ fun j1 e3 e4 => ?_; refine wnn (aM (aM ?_)); refine eA (fun w0 w' => Evo [] w0 w') (by kernel_rfl) (fun b5 a2 => ?_); have e5 := (((Evo.refl [] wr60).then e2).step e4 (Ge.new (Evo.refl [] wr60) c2).mem1).then a2; refine aet 0 rfl (fun _ hS => aW rfl) (Evo.refl [] b5) ?_; refine aet 1 rfl (fun _ hS => aW rfl) (Evo.refl [] b5) ?_; refine aet 3 rfl (fun _ hS => aA rfl dK) (Evo.refl [] b5) ?_; refine aet 4 rfl (fun _ hS => aI rfl dQ (aJ (hS.blk0 (a2.blk0 e3)) rfl)) (Evo.refl [] b5) ?_; refine aK [2] (by kernel_rfl) rfl ⟨?_, trivial⟩; refine aL rfl ?_; refine aG (vs := [_, _]) nW rfl (FI (hSt.evo e5) hk') rfl ?_; rintro lbv h6 ⟨hlb, a3⟩
   have e6 := (((a1.then e2).step e4 (Ge.new a1 c2).mem1).then a2).then a3; have c3 := (Evo.refl [] b5).then a3; refine aD (aH (.inl c3) ?_); refine aK [5] (by kernel_rfl) rfl ⟨?_, trivial⟩; refine aL rfl ?_
   refine aG (vs := [_, _]) wT rfl (sG (hlb.evo RLB.pers (Evo.refl [] h6)) (hlv.evo RLB.pers e6) (by have := hser.1; omega)) rfl ?_
   rintro _ f5 ⟨rfl, U⟩; have e7 := U.blk0 (a3.blk0 (a2.blk0 e3)); refine aD (aH (.inl (c3.then U)) ?_); refine aet 6 rfl (fun _ hS => eE rfl) (c3.then U) ?_; refine bK (by kernel_rfl) (aB ?_); refine cL rfl ?_; refine aQ (aB (csr (wan (aM (aM ?_))))); have hSl := hSt.evo ((e5.then a3).then U); refine aP (wfl rfl fF rfl fA e7 rfl (aC (aX rfl Tryz.underlying43 rfl) ?_)); refine aE (wnn (bB (cM (α := LvG) (⟨0, 0, none, 0, none⟩) (fun x => [(67, .int .i64 (x.j : Nat)), (11, .slice x.a x.n x.c)]) [(1, _), (5, _), (9, _), (10, _), (50, _), (51, _), (52, _), (65, _), (66, _)] (fun x wr => Evo (b :: ob.toList) I wr ∧ (x.j ≤ L[k].2.length ∧ (mD L[k].2 x.j).length = x.n ∧ OwnS wr 50 3 x.a x.n x.c (gT (mD L[k].2 x.j)) x.o ∧ wr.heap[f4]? = some (.cells #[lv, .slice pa L[k].2.length pc] 45 (0, 0)) ∧ Evo [] f5 wr ∧ Ge I x.o ∧ Ge f5 x.o ∧ Apart (some f4) x.o)) (fun x => L[k].2.length - x.j) ⟨rfl, rfl, trivial⟩ ⟨rfl, rfl, rfl, rfl, rfl, rfl, rfl, rfl, rfl, trivial⟩ ⟨(e6.then U), ⟨Nat.zero_le _, rfl, OwnS.nil _ _ _, e7, Evo.refl [] _, Ge.nil _, Ge.nil _, Apart.nil _⟩⟩ ?_))); rintro ⟨j, n, a, c, o⟩ wr93 ⟨a4, ⟨hj1, hn, hLV, F, hPv, hGv1, hGv2, hAv⟩⟩; show CW _ _ _ _ [(67, .int .i64 (j : Nat)), (11, .slice a n c), (1, _), (5, _), (9, _), (10, _), (50, _), (51, _), (52, _), (65, _), (66, _)] _
   try dsimp only at hj1 hn hLV F hPv hGv1 hGv2 hAv
   refine csr (aC (cQ rfl rfl) ?_); refine wnn (aM (bS rfl (fun g0 => ?_) (fun g0 => ?_)))
   ·have hj' : j < L[k].2.length := by omega
    obtain ⟨bp, op, vsp, hap, hbp, -, hcp, rfl, hokp⟩ := pe j hj'; refine aQ (aB (aM (bB (csr (aE (aC (cC (n := j) rfl rfl hap rfl dM hj') ?_)))))); refine aC (cX rfl dD bU (vs := [_, _, _]) rfl (hcp.evo a4 hbp)) ?_; refine cO rfl fX fun j2 j3 g1 V a5 => ?_; have g7 := V; refine cS ?_; refine bQ rfl rfl bU g1 rfl rfl ⟨by first | rfl | assumption, by first | rfl | assumption, by first | rfl | assumption, trivial⟩ fun c4 a6 J => ?_; have a7 := (a4.then a5).step J (Ge.new a4 V).mem1; have a8 := J.blk (a5.blk0 F) (Apart.new (Lt.blk F) V).nmem1; refine wnn (aM (aM (gQ (α := Bool) (fun z85 => [(85, .bool z85)]) [(1, _), (5, _), (9, _), (10, _), (11, _), (13, _), (50, _), (51, _), (52, _), (65, _), (66, _), (67, _)] (fun z85 wr => Evo [] c4 wr ∧ (z85 = true ↔ (False))) ⟨rfl, rfl, rfl, rfl, rfl, rfl, rfl, rfl, rfl, rfl, rfl, rfl, trivial⟩ ?_ ?_)))
    ·refine jY (by kernel_rfl) (by kernel_rfl) ?_; refine cI (fun _ q => aW rfl) ?_; refine cI (fun _ q => fN rfl rfl) ?_; refine cI (fun _ q => aW rfl) ?_; refine xX (t := 74) rfl (fun g2 => ?_) (fun g2 => ?_)
     ·have hup := nB hser.2.2.1 (show j - 1 < j by omega) hj'; obtain ⟨bp2, op2, vsp2, hap2, hbp2, -, hcp2, rfl, hokp2⟩ := pe (j - 1) (by omega); refine qlg ?_; refine cI (fun _ q => aA rfl fF) ?_; refine qlg ?_; refine cI (fun _ q => aI rfl fA (aJ (q.blk0 a8) rfl)) ?_; refine qlg ?_; refine cI (fun _ q => aW rfl) ?_; refine qlg ?_; refine cI (fun _ q => aS rfl rfl (by omega) (by omega)) ?_; refine qlg ?_; refine cI (fun _ q => cC (n := j - 1) rfl rfl hap2 (by omega) dM (by omega)) ?_; refine qlg ?_; refine cI (fun _ q => aA rfl cY) ?_; refine qlg ?_; refine cI (fun _ q => aI rfl dO ((hcp2.evo (a7.then q) hbp2) 0 _ rfl)) ?_; refine qlg ?_; refine cI (fun _ q => aA rfl cY) ?_; refine qlg ?_; refine cI (fun _ q => aI rfl dO (aJ (q.blk0 a6) rfl)) ?_; refine qlg ?_; refine cI (fun _ q => rJ (fR rfl rfl) (decide_eq_false (by omega))) ?_; refine cI (fun _ q => dA rfl rfl) ?_; refine kZ (fun e8 q => aO ?_); refine ⟨_, ⟨rfl, trivial⟩, ⟨rfl, rfl, rfl, rfl, rfl, rfl, rfl, rfl, rfl, rfl, rfl, rfl, trivial⟩, ((Evo.refl [] c4).then q), ?_⟩
      simp
     refine qln ?_; refine qln ?_; refine qln ?_; refine qln ?_; refine qln ?_; refine qln ?_; refine qln ?_; refine qln ?_; refine qln ?_; refine qln ?_; refine cI (fun _ q => dX rfl rfl) ?_; refine kZ (fun e8 q => aO ?_); refine ⟨_, ⟨rfl, trivial⟩, ⟨rfl, rfl, rfl, rfl, rfl, rfl, rfl, rfl, rfl, rfl, rfl, rfl, trivial⟩, ((Evo.refl [] c4).then q), ?_⟩
     simp
    rintro z85 i0 ⟨A, hz85⟩; refine aB ?_; show CW _ _ _ _ [(85, _), (1, _), (5, _), (9, _), (10, _), (11, _), (13, _), (50, _), (51, _), (52, _), (65, _), (66, _), (67, _)] _; have a9 := ((hPv.then a5).step J (Ge.new hPv V).mem1).then A; have d0 := ((hLV.evo0 a5).evo J (Apart.new (Lt.own hLV) V).own1).evo0 A; refine dZ rfl (fun c5 => ?_) (fun c5 => ?_)
    ·subst c5; have hj85 := hz85.1 rfl; exact hj85.elim
    subst c5
    have hj85 : ¬ (False) := fun h9 => by have := hz85.2 h9; cases this
    refine aQ (aB (csr (wfl rfl fE rfl gH (A.blk0 a6) rfl (aC (eE rfl) ?_)))); refine wnn (dZ rfl (fun c6 => ?_) (fun c6 => ?_))
    ·refine aP (aE (aC (dC rfl dD bU (A.blk0 a6) rfl) (cH (vs := [_]) rfl fD rfl rfl rfl rfl fun i1 i2 e9 h8 E => ?_))); have d1 := (a7.then A).then E; have d2 := E.blk0 (A.blk0 a8)
     refine cN rfl rfl rfl rfl fU (d0.evo0 E) (Src.ofOwn e9 ⟨by first | rfl | assumption, by first | rfl | assumption, by first | rfl | assumption, trivial⟩) (by (have := HU L[k].2 j; omega)) fun a92 c92 i3 o92 g3 b0 hob156 => ?_
     refine cS (aD (bA (aB (aP ?_)))); refine aC (aZ rfl rfl (by omega) (by omega)) ?_; refine aE (aD (aO ?_)); refine ⟨⟨j + 1, n + 1, a92, c92, o92⟩, ?_, ⟨rfl, rfl, trivial⟩, ⟨rfl, rfl, rfl, rfl, rfl, rfl, rfl, rfl, rfl, trivial⟩, (d1.step b0 hGv1.mem), ?_⟩
     · (try dsimp only); omega
     try dsimp only
     have hst : L[k].2[j].st = false := by simpa using c6
     have hws := tT hj'; rw [hst, if_neg (by simp)] at hws
     refine ⟨by omega, by rw [hws, List.length_append, hn]; rfl, by rw [hws, mN]; exact g3, (b0.blk d2 hAv.nmem), ((a9.then E).step b0 hGv2.mem), (hGv1.app d1 hob156), (hGv2.app (a9.then E) hob156), (hAv.app (Lt.blk d2) hob156)⟩
    refine aQ (bA (aB (aP ?_))); refine aC (aZ rfl rfl (by omega) (by omega)) ?_; refine aE (aD (aO ?_)); refine ⟨⟨j + 1, n, a, c, o⟩, ?_, ⟨rfl, rfl, trivial⟩, ⟨rfl, rfl, rfl, rfl, rfl, rfl, rfl, rfl, rfl, trivial⟩, (a7.then A), ?_⟩
    · (try dsimp only); omega
    try dsimp only
    have hst : L[k].2[j].st = true := by simpa using c6
    have hws := tT hj'; rw [hst, if_pos rfl, List.append_nil] at hws
    refine ⟨by omega, by rw [hws, hn], by rw [hws]; exact d0, (A.blk0 a8), a9, hGv1, hGv2, hAv⟩
   obtain rfl : j = L[k].2.length := by omega
   have hwin : win L[k].2 (-9223372036854775808) 9223372036854775807 = mD L[k].2 L[k].2.length := by rw [win_all (fun x hx => (hbd _ (List.getElem_mem hk') x hx).1) (fun x hx => (hbd _ (List.getElem_mem hk') x hx).2), mD, List.take_length]
   refine bI (bE (bE (bH (aB ?_)))); refine aM (csr (aE (aE (aG (vs := [_, _, _, _]) gR rfl (jS (hSl.evo hPv) hk' (-9223372036854775808) 9223372036854775807) rfl ?_)))); rintro _ g4 ⟨⟨aw, cw, ow, rfl, hOw, hGw⟩, hSw, d3⟩; refine aE ?_
   refine aG (vs := [_, _]) nV rfl (mB (jA (X := []) hOw rfl (GG (fun x hx => (hser.2.2.2 x hx).1)) (by simp)) (by rw [hwin]; exact jA (X := []) (hLV.evo d3 (b3.nin hGv1)) hn (live_ok (fun x hx => (hser.2.2.2 x hx).1)) (by simp)) (by have := hser.2.1; have := GH L[k].2 (-9223372036854775808) 9223372036854775807; omega)) rfl ?_
   rintro _ i4 ⟨rfl, d4⟩; refine aC (eE rfl) ?_; refine wnn (cL rfl ?_); refine aQ (aB (csr (aE (aC (aX rfl Tryz.underlying39 rfl) ?_)))); refine aE (wnn (bB (cM (α := Nat) (0) (fun i => [(102, .int .i64 (i : Nat))]) [(1, _), (5, _), (9, _), (50, _), (51, _), (52, _), (100, _), (101, _)] (fun i wr => Evo (b :: ob.toList) I wr ∧ (i ≤ ts2.length ∧ Sto (b :: ob.toList) wr b ob L)) (fun i => ts2.length - i) ⟨rfl, trivial⟩ ⟨rfl, rfl, rfl, rfl, rfl, rfl, rfl, rfl, trivial⟩ ⟨((a4.step d3 (fun y hy => .inl hy)).then d4), ⟨Nat.zero_le _, hSw.evo ((Evo.refl [] g4).then d4)⟩⟩ ?_))); rintro i wr178 ⟨K, ⟨hi1, hSt2⟩⟩; show CW _ _ _ _ [(102, _), (1, _), (5, _), (9, _), (50, _), (51, _), (52, _), (100, _), (101, _)] _; refine csr (aC (cQ rfl rfl) ?_); refine wnn (aM (bS rfl (fun f0 => ?_) (fun f0 => ?_)))
   ·have hi' : i < ts2.length := by omega
    obtain ⟨bt, ot, vst, hat, hbt, -, hct, rfl, hti1, hti2⟩ := te i hi'; refine aQ (aB (aM (bB (csr (aC (cC (n := i) rfl rfl hat rfl nZ hi') ?_))))); refine aC (aI rfl dO ((K).cell (hct 0 _ rfl) hbt)) (wan (csr (aE (aE (aE (aE ?_)))))); refine aG (vs := [_, _, _, _]) wS rfl (FJ (hSt2.evo (Evo.refl [] wr178)) hk' (fun x hx => (hbd _ (List.getElem_mem hk') x hx).1) ts2[i] ⟨hti1, hti2⟩ (ht3.evo (RInt.pers _) K) (by omega)) rfl ?_; rintro _ g5 ⟨rfl, h7, f1⟩; refine aC (eE rfl) ?_; refine wnn (cL rfl ?_); refine aQ (bA (aB (aP ?_))); refine aC (aZ rfl rfl (by omega) (by omega)) ?_; refine aE (aD (aO ?_)); refine ⟨i + 1, ?_, ⟨rfl, trivial⟩, ⟨rfl, rfl, rfl, rfl, rfl, rfl, rfl, rfl, trivial⟩, (K.step f1 (fun y hy => .inl hy)), ?_⟩
    · omega
    exact ⟨by omega, h7.evo (Evo.refl [] g5)⟩
   refine bI (bE (bE (bH (bA (aB ?_))))); refine aP ?_; refine aC (aZ rfl rfl (by omega) (by omega)) ?_; refine aE (aD (aO ?_)); refine ⟨k + 1, ?_, ⟨rfl, trivial⟩, ⟨rfl, rfl, rfl, rfl, trivial⟩, K, ?_⟩
   · omega
   exact ⟨by omega, hSt2.evo (Evo.refl [] wr178)⟩
  refine bI (bE (bE (bH (aB ?_)))); refine csr (wan (aT (br1 ?_))); exact ⟨rfl, ((H.then W).step hdw (uZ (Ge.fresh H c8) (Ge.fresh H c9))).step a1 (uZ (Ge.fresh H c8) (Ge.fresh H c9))⟩
end Go.Proofs.YtlpdhbmhbjjnhaaGreatDoor
namespace Go.Proofs.YtlpdhbmhbjjnhaaGreatDoor
open Go.ChangeAt Go.ChangeShapes Go.RowKit Go.W Go.WideShapes
set_option maxRecDepth 100000 in
theorem IU (H : Type) (enc : TypeId × Value → H) (W : World) (base : Nat) (args : Array Value) (ds gs : List (DataW H)) (before : List MemPlace)
    (hval : ∀ (j : Nat) t v, Tryz.f4.params[j]? = some t → args[j]? = some v → Value.okWide Tryz.prog W .any base t v)
    (hW : DataW.Whole enc Tryz.prog Tryz.f4.params.toList Rows.storeTimesSpec.vars false W args.toList ds gs before)
    (hsz : (DataW.weightsEach Tryz.prog (Tryz.f4.params.toList ++ Rows.storeTimesSpec.plain.varTypes Tryz.prog) (ds ++ gs)).all (· ≤ reachBytes) = true) (hL : laidMetH Tryz.prog laidL W) :
    Calls Tryz.prog 4 args W fun e W' => ∃ v, e = .returned v ∧ Rows.storeTimesSpec.post enc Tryz.prog Tryz.f4 false true false false W args v W' := by
  have hW' := hW
  obtain ⟨p, q, y, hV, rfl, hfz, hnd⟩ := hW
  have hA : DataW.TrodAll enc Tryz.prog W 0 (fun _ => true) true Tryz.f4.params.toList args.toList ds p := y
  rw [Tryz.params4] at hA hval hsz
  obtain ⟨v0, vs0, d0, ds0, p0, q0, hargs0, rfl, rfl, h0, r0⟩ := trodAll_cons hA
  obtain ⟨v1, vs1, d1, ds1, p1, q1, hargs1, rfl, rfl, h1, r1⟩ := trodAll_cons r0
  obtain ⟨A, rfl, rfl⟩ := trodAll_nil r1
  subst A
  subst hargs1
  obtain rfl : args = #[v0, v1] := by cases args; simp_all
  obtain ⟨rfl, rfl⟩ := trodVars_none hV
  have k0 := h0
  have lt0 : ∀ x ∈ p0, x.block < W.heap.size := by obtain ⟨m, hm⟩ := k0; exact DataW.trod_lt m _ _ _ hm
  obtain ⟨sv0, l0, rfl, D, hb0, E⟩ := cameDs (hval 0 26 _ rfl rfl) h0 (fun n hn => by have := List.all_eq_true.1 hsz n (DataW.weights_mem_each (j := 0) rfl rfl n hn); simpa using this)
  have k1 := h1
  have lt1 : ∀ x ∈ p1, x.block < W.heap.size := by obtain ⟨m, hm⟩ := k1; exact DataW.trod_lt m _ _ _ hm
  obtain ⟨l1, F, hb1⟩ := came Tryz.underlying39 FA (hval 1 39 _ rfl rfl) h1 (fun n hn => by have := List.all_eq_true.1 hsz n (DataW.weights_mem_each (j := 1) rfl rfl n hn); simpa using this)
  have hP := tableP hL
  have hT := table hL
  refine (EH D hb0 E F (by omega) hP hT).mono fun e W' ⟨v, he, hv, bel⟩ => ?_
  subst he hv
  exact ⟨_, rfl, _, _, _, [], _, [], hW', trodAll_mk1 (shut_bool Tryz.underlying4 _), (trodAll_cons_mk (Below.trod CV (by kernel_rfl) (of_decide_eq_true (by kernel_rfl)) k0 bel.below lt0) (trodAll_cons_mk (Below.trod CV (by kernel_rfl) (of_decide_eq_true (by kernel_rfl)) k1 bel.below lt1) trodAll_mk0)), rfl, bel.below.frame _, fun h => by cases h⟩
theorem HW (os : Os) : laidMet Tryz.prog laidL ((oM os).forCall (fun _ _ => 0) ⟨#[], #[.agg #[.slice none 0 0], .slice none 0 0], []⟩).memory :=
  laidMet_of_run' 8 (by kernel_rfl) (by kernel_rfl)
theorem reads (os : Os) {H : Type} (enc : TypeId × Value → H) : ∃ places, DataW.whole enc Tryz.prog ((oM os).forCall (fun _ _ => 0) ⟨#[], #[.agg #[.slice none 0 0], .slice none 0 0], []⟩).memory Tryz.f4.params.toList Rows.storeTimesSpec.vars false (#[.agg #[.slice none 0 0], .slice none 0 0] : Array Value).toList 8 = some ([.agg [.nil], .nil], [], places) :=
  ⟨[], by kernel_rfl⟩
set_option maxRecDepth 100000 in
theorem lifted (os : Os) (started : os.Started) (H : Type) (enc : TypeId × Value → H) (F : Stop.Interp) :
    ReturnsInHanded {} Tryz.checked os 4 .any ((OpenSpec.ofChange Rows.storeTimesSpec).preRow enc Tryz.prog Tryz.f4 Rows.storeTimesRow.domain false Rows.storeTimesRow.laid) (((OpenSpec.ofChange Rows.storeTimesSpec).at F).post enc Tryz.prog Tryz.f4 false true false false) := by
  obtain ⟨places, hx⟩ := reads os enc
  refine returnsInHanded_of_row (C := Tryz.checked) (s := OpenSpec.ofChange Rows.storeTimesSpec) own started (by kernel_rfl) Tryz.func4
    (witness_row_at (enc := enc) (C := Tryz.checked) false (oM os) #[.agg #[.slice none 0 0], .slice none 0 0] rfl (by kernel_rfl) (by kernel_rfl) (by kernel_rfl)
      (OpenSpec.preRow_of_cond 8 hx (by kernel_rfl) (fun k hk => by cases hk) (by kernel_rfl) (HW os))) ?_
  intro W base args ds gs before hval hW _ _ hsz hL _ _
  exact IU H enc W base args ds gs before hval hW hsz hL
theorem said : Rows.StoreTimesSaid :=
  OpenClaim.holds_of_cond 4 Tryz.f4 rfl rfl rfl rfl rfl rfl rfl ⟨rfl, rfl, rfl, rfl, rfl⟩ rfl rfl rfl rfl rfl (by kernel_rfl) Tryz.func4 (by kernel_rfl)
    (of_decide_eq_true (by kernel_rfl)) (by unfold Func.isWrapper; first | (rw [if_pos (by decide +kernel)]; kernel_rfl) | (rw [if_neg (by decide +kernel)]; exact ⟨rfl, rfl⟩))
    (fun os started H enc _ F => by rw [OpenClaim.pre_eq_preRow]; exact lifted os started H enc F)
theorem plain (f : FuncId) (fn : Func) (hf : Tryz.pinned.checked.prog.funcNamed "weir/weirlaw19.StoreTimes" = some f) (hfn : Tryz.pinned.checked.prog.funcs[f]? = some fn) :
    false = Tryz.pinned.checked.prog.looks [] ∧ ∀ (j : Nat) t, fn.params[j]? = some t → Tryz.pinned.checked.prog.wantsStandIn t = false := by
  obtain rfl : f = 4 := Option.some.inj ((show Tryz.prog.funcNamed "weir/weirlaw19.StoreTimes" = some 4 by kernel_rfl).symm.trans hf) |>.symm
  obtain rfl : fn = Tryz.f4 := (Option.some.inj (Tryz.func4.symm.trans hfn)).symm
  refine ⟨FH, fun j t ht => ?_⟩
  rw [Tryz.params4] at ht
  rcases j with _ | _ | j
  · obtain rfl : t = 26 := by simpa using ht.symm
    exact (show Tryz.prog.wantsStandIn 26 = false by kernel_rfl)
  · obtain rfl : t = 39 := by simpa using ht.symm
    exact (show Tryz.prog.wantsStandIn 39 = false by kernel_rfl)
  · simp at ht
theorem storeTimes_card : Rows.StoreTimesCardSaid :=
  Claim7.holds_tied_plain_at .later [] _ _ _ _ said (fun _ h => by cases h) (by kernel_rfl) (fun _ h => by cases h) storeTimes_row_tie rfl ⟨rfl, rfl⟩ (by kernel_rfl) rfl plain (by kernel_rfl)
#print axioms storeTimes_card
end Go.Proofs.YtlpdhbmhbjjnhaaGreatDoor
