/- RxtreeParses: every pattern is read by Parse just as the document's reader reads it: the tree node by node, or the error. Conditions: the library's tables hold what the text of the program lays. -/
import Derived.Test.YtljadkcojnlioaaGreatDoorUkF
set_option linter.unusedSectionVars false
set_option linter.unusedSimpArgs false
set_option linter.unusedVariables false
namespace Go.Proofs.YtljadkcojnlioaaGreatDoor
open Go.RowKit Go.W
attribute [local irreducible] Decidable.decide
theorem KI : dW Tryz.prog 12 := ⟨_, Tryz.func12, by kernel_rfl, by kernel_rfl⟩
theorem LF {w : World} {s : ByteArray} (hG : Glb w) : Calls Tryz.prog 11 #[.string s] w (Ret fun v w' => ∃ vs n x e, v = .tuple #[.agg vs.toArray, iv e] ∧ RRx n [] w' vs x ∧ ((iV s = .ok x ∧ e = 0) ∨ (iV s = .error e ∧ e ≠ 0 ∧ x = zX)) ∧ Evo [] w w') := by
  refine (zU s hG).mono ?_
  rintro e w' ⟨v, rfl, hv, h1 | ⟨x2, vs, bs, h2, rfl, h4, h5⟩⟩
  · obtain ⟨e, h1, rfl⟩ := h1
    exact ⟨_, rfl, _, 1, zX, e, rfl, RD [] w', .inr ⟨h1, (UI s).ne h1, rfl⟩, hv⟩
  · obtain ⟨n, hn⟩ := h4.rrx (X := []) (fun b _ h => by cases h)
    exact ⟨_, rfl, vs, n, x2, 0, rfl, hn, .inl ⟨h2, rfl⟩, hv⟩
theorem KU {w : World} (s : ByteArray) : Calls Tryz.prog 12 #[.string s] w (Ret fun v w' => ∃ vs n x e, v = .tuple #[.agg vs.toArray, iv e] ∧ RRx n [] w' vs x ∧ ((iV s = .ok x ∧ e = 0) ∨ (iV s = .error e ∧ e ≠ 0 ∧ x = zX)) ∧ Evo [] w w') := by
  refine (PU s).mono ?_
  rintro e w' ⟨v, rfl, hv, h1 | ⟨x2, vs, bs, h2, rfl, h4, h5⟩⟩
  · obtain ⟨e, h1, h2, rfl⟩ := h1
    exact ⟨_, rfl, _, 1, zX, e, rfl, RD [] w', .inr ⟨h1, h2, rfl⟩, hv⟩
  · obtain ⟨n, hn⟩ := h4.rrx (X := []) (fun b _ h => by cases h)
    exact ⟨_, rfl, vs, n, x2, 0, rfl, hn, .inl ⟨h2, rfl⟩, hv⟩
theorem pp_same {R : Except Int Rx} {x y : Rx} {e f : Int} (h : (R = .ok x ∧ e = 0) ∨ (R = .error e ∧ e ≠ 0 ∧ x = zX)) (k : (R = .ok y ∧ f = 0) ∨ (R = .error f ∧ f ≠ 0 ∧ y = zX)) : e = f ∧ y = x := by
  rcases h with ⟨h1, h2⟩ | ⟨h1, h2, h3⟩ <;> rcases k with ⟨k1, k2⟩ | ⟨k1, k2, k3⟩ <;> rw [h1] at k1 <;> cases k1
  · exact ⟨h2.trans k2.symm, rfl⟩
  · exact ⟨rfl, k3.trans h3.symm⟩
theorem LE {w : World} {a : Option Addr} {n c : Nat} {l : List ByteArray} (hs : RSl 1 RStr [] w (.slice a n c) l) (hl : l.length ≤ 140737488355328) (hG : Gw w) :
    Calls Tryz.prog 3 #[.slice a n c] w (Ret fun v w' => v = .bool true ∧ Evo [] w w') := by
  obtain ⟨a', c', he, hcap, ek⟩ := hs; cases he; refine bE (N := 41) Tryz.func3 rfl rfl rfl ?_; refine csr (wan (aM (csr (aG (vs := []) KJ rfl (XE (hG.evo0 (Evo.refl [] w))) rfl ?_)))); rintro _ w1 ⟨rfl, a8⟩; refine aB (fV rfl) ?_; refine wnn (cF rfl ?_); refine aN (aC (aM (csr (wan (bK (dL (α := Nat) (0) (fun k => [(3, .int .i64 (k : Nat))]) [(0, _)] (fun k wr => Evo [] w1 wr ∧ (k ≤ l.length)) (fun k => l.length - k) ⟨rfl, trivial⟩ ⟨rfl, trivial⟩ ⟨Evo.refl _ _, Nat.zero_le _⟩ ?_)))))); rintro k wr4 ⟨O, hk0⟩; show CW _ _ _ _ [(3, _), (0, _)] _; have H := ((Evo.refl [] w).then a8).then O; refine aM (csr (aA (aA (aB (bM rfl Tryz.underlying22 rfl) ?_)))); refine aB (dA rfl rfl) ?_; refine wnn (aZ rfl (fun a0 => ?_) (fun a0 => ?_))
  ·refine aN (aC (aM (bK (aM ?_))))
   have hk' : k < l.length := by omega
   obtain ⟨g1, o1, vs1, hg1, -, -, Y, hr1⟩ := ek k hk'; obtain rfl := hr1; refine aF (aA (aA (aB (eC (n := k) rfl rfl hg1 nZ hk') ?_))); refine aB (aX rfl dG ((Y.evo H (by simp)) 0 _ rfl)) ?_; refine aG (vs := [_]) sX rfl (LF (s := l[k]) (hG.evo0 H).glb) rfl ?_; rintro _ w7 ⟨vx, n1, x, e1, rfl, hx1, hxp, M⟩; have hx1' := hx1; obtain ⟨m1, ra1, rc1, ka1, kc1, hm1, rfl, -⟩ := hx1.get; refine aA (aB (cC rfl rfl) ?_); refine aB (cC rfl rfl) ?_; refine cO rfl dC fun b4 b7 a1 D I => ?_; have a9 := D; refine aV rfl rfl aJ a1 rfl rfl ⟨rfl, rfl, rfl, rfl, rfl, rfl, rfl, rfl, rfl, trivial⟩ fun b8 J L => ?_
   try simp only [cH, Nat.reduceAdd] at J
   refine wan (csr (aA (aA (aB (eC (n := k) rfl rfl hg1 nZ hk') ?_)))); refine aB (aX rfl dG ((Y.evo (((H.then M).then I).step L (Ge.new (H.then M) D).mem1) (by simp)) 0 _ rfl)) ?_; refine aG (vs := [_]) KI rfl (KU l[k]) rfl ?_; rintro _ Z ⟨vy, n2, y, e2, rfl, hy1, hyp, E⟩; have U := (((O.then M).then I).step L (Ge.new (O.then M) D).mem1).then E; have V := (((Evo.refl [] w7).then I).step L (Ge.new (Evo.refl [] w7) D).mem1).then E; have hy1' := hy1; obtain ⟨m2, ra2, rc2, ka2, kc2, hm2, rfl, -⟩ := hy1.get; have hxy := pp_same hxp hyp; refine aA (aB (cC rfl rfl) ?_); refine aB (cC rfl rfl) ?_; refine cO rfl dC fun b6 b9 a2 B F => ?_; have b5 := B; refine aV rfl rfl aJ a2 rfl rfl ⟨rfl, rfl, rfl, rfl, rfl, rfl, rfl, rfl, rfl, trivial⟩ fun c0 W G => ?_; have a3 := (U.then F).step G (Ge.new U B).mem1; have a4 := (V.then F).step G (Ge.new V B).mem1; have a5 := ((Evo.refl [] Z).then F).step G (Ge.new (Evo.refl [] Z) B).mem1; have a6 := G.blk (F.blk0 (E.blk0 J)) (Apart.new (Lt.blk (E.blk0 J)) B).nmem1
   try simp only [cH, Nat.reduceAdd] at W
   refine wan (csr (aA (aA (aB (fE rfl rfl) ?_)))); refine aA (bH (t := 35) rfl (fun B => ?_) (fun B => ?_))
   ·exact absurd hxy.1 B
   refine aW (aB (bX rfl bF aJ W rfl) (aW (aB (bX rfl bF aJ a6 rfl) (aW (aG (vs := [_, _]) yB rfl (JG (RRx.pers _ _ _ _ _ _ a5 hy1') (RRx.pers _ _ _ _ _ _ a4 hx1')) rfl ?_))))); rintro _ c1 ⟨r, rfl, hr, a7⟩; obtain rfl : r = true := hr.2 hxy.2; refine aW (aB (fV rfl) ?_); refine bR (wnn (cF rfl ?_)); refine aN (aQ (aC (aF (aA ?_)))); refine aB (aI rfl rfl (by omega) (by omega)) ?_; refine bN (aR (aY ?_)); refine ⟨k + 1, ?_, ⟨rfl, trivial⟩, ⟨rfl, trivial⟩, (a3.then a7), ?_⟩
   · omega
   show k + 1 ≤ l.length; omega
  refine cW (bS (bS (cV (aC ?_)))); refine csr (wan (aK (br1 ?_))); exact ⟨rfl, H⟩
end Go.Proofs.YtljadkcojnlioaaGreatDoor
namespace Go.Proofs.YtljadkcojnlioaaGreatDoor
open Go.ChangeAt Go.ChangeShapes Go.RowKit Go.W Go.WideShapes
theorem QF : PF Tryz.prog 22 (RSlB 1 16 XK) := HV Tryz.underlying22 (by kernel_rfl) (by kernel_rfl) (by decide) (QE Tryz.underlying9)
theorem unB {X : List Nat} {w : World} {v : Value} {ds : List ByteArray} (h : RSl 1 XK X w v ds) : RSl 1 RStr X w v ds := by
  obtain ⟨a, c, he, hc, hk⟩ := h
  refine ⟨a, c, he, hc, fun k hk' => ?_⟩
  obtain ⟨b, o, vs, h1, h2, h3, h4, h5⟩ := hk k hk'
  exact ⟨b, o, vs, h1, h2, h3, h4, h5.1⟩
set_option maxRecDepth 100000 in
theorem WP (H : Type) (enc : TypeId × Value → H) (W : World) (base : Nat) (args : Array Value) (ds gs : List (DataW H)) (before : List MemPlace)
    (hval : ∀ (j : Nat) t v, Tryz.f3.params[j]? = some t → args[j]? = some v → Value.okWide Tryz.prog W .any base t v)
    (hW : DataW.Whole enc Tryz.prog Tryz.f3.params.toList Rows.rxtreeParsesSpec.vars false W args.toList ds gs before)
    (hsz : (DataW.weightsEach Tryz.prog (Tryz.f3.params.toList ++ Rows.rxtreeParsesSpec.plain.varTypes Tryz.prog) (ds ++ gs)).all (· ≤ reachBytes) = true) (hG : Gw W) :
    Calls Tryz.prog 3 args W fun e W' => ∃ v, e = .returned v ∧ Rows.rxtreeParsesSpec.post enc Tryz.prog Tryz.f3 false true false false W args v W' := by
  have hW' := hW
  obtain ⟨p, q, B, hV, rfl, hfz, hnd⟩ := hW
  have hA : DataW.TrodAll enc Tryz.prog W 0 (fun _ => true) true Tryz.f3.params.toList args.toList ds p := B
  rw [Tryz.params3] at hA hval hsz
  obtain ⟨v0, vs0, d0, ds0, p0, q0, hargs0, rfl, rfl, h0, r0⟩ := trodAll_cons hA
  obtain ⟨D, rfl, rfl⟩ := trodAll_nil r0
  subst D
  obtain rfl : args = #[v0] := by cases args; simp_all
  obtain ⟨rfl, rfl⟩ := trodVars_none hV
  have k0 := h0
  have lt0 : ∀ x ∈ p0, x.block < W.heap.size := by obtain ⟨m, hm⟩ := k0; exact DataW.trod_lt m _ _ _ hm
  obtain ⟨f0, hf0⟩ := h0
  obtain ⟨l0, u0, hu0, E, hb0⟩ := QF H enc W f0 _ _ hf0 (fun n hn => by have := List.all_eq_true.1 hsz n (DataW.weights_mem_each (j := 0) rfl rfl n hn); simpa using this)
  obtain ⟨a0, n0, c0, rfl⟩ := okWide_slice Tryz.underlying22 (hval 0 22 _ rfl rfl)
  simp [Value.cells] at hu0
  subst hu0
  refine (LE (unB E) (by omega) hG).mono fun e W' ⟨v, he, hv, bel⟩ => ?_
  subst he hv
  exact ⟨_, rfl, _, _, _, [], _, [], hW', trodAll_mk1 (shut_bool Tryz.underlying4 _), (trodAll_cons_mk (Below.trod laidOut (by kernel_rfl) (of_decide_eq_true (by kernel_rfl)) k0 bel.below lt0) trodAll_mk0), rfl, bel.below.frame _, fun h => by cases h⟩
theorem VB (os : Os) : laidMet Tryz.prog laidL ((wQ os).forCall (fun _ _ => 0) ⟨#[], #[.slice none 0 0], []⟩).memory :=
  laidMet_of_run' 8 (by kernel_rfl) (by kernel_rfl)
theorem reads (os : Os) {H : Type} (enc : TypeId × Value → H) : ∃ places, DataW.whole enc Tryz.prog ((wQ os).forCall (fun _ _ => 0) ⟨#[], #[.slice none 0 0], []⟩).memory Tryz.f3.params.toList Rows.rxtreeParsesSpec.vars false (#[.slice none 0 0] : Array Value).toList 8 = some ([.nil], [], places) :=
  ⟨[], by kernel_rfl⟩
set_option maxRecDepth 100000 in
theorem lifted (os : Os) (started : os.Started) (H : Type) (enc : TypeId × Value → H) (F : Stop.Interp) :
    ReturnsInHanded {} Tryz.checked os 3 .any ((OpenSpec.ofChange Rows.rxtreeParsesSpec).preRow enc Tryz.prog Tryz.f3 Rows.rxtreeParsesRow.domain false Rows.rxtreeParsesRow.laid) (((OpenSpec.ofChange Rows.rxtreeParsesSpec).at F).post enc Tryz.prog Tryz.f3 false true false false) := by
  obtain ⟨places, hx⟩ := reads os enc
  refine returnsInHanded_of_row (C := Tryz.checked) (s := (OpenSpec.ofChange Rows.rxtreeParsesSpec)) own started (by kernel_rfl) Tryz.func3
    (witness_row_at (enc := enc) (C := Tryz.checked) false (wQ os) #[.slice none 0 0] rfl (by kernel_rfl) (by kernel_rfl) (by kernel_rfl)
      (OpenSpec.preRow_of_cond 8 hx (by kernel_rfl) (fun k hk => by cases hk) (by kernel_rfl) (VB os))) ?_
  intro W base args ds gs before hval hW _ hk hsz hL hsh _
  exact WP H enc W base args ds gs before hval hW hsz (gw_of hL hsh)
theorem said : Rows.RxtreeParsesSaid :=
  OpenClaim.holds_of_cond 3 Tryz.f3 rfl rfl rfl rfl rfl rfl rfl ⟨rfl, rfl, rfl, rfl, rfl⟩ rfl rfl rfl rfl rfl (by kernel_rfl) Tryz.func3 (by kernel_rfl)
    (of_decide_eq_true (by kernel_rfl)) (by unfold Func.isWrapper; first | (rw [if_pos (by decide +kernel)]; kernel_rfl) | (rw [if_neg (by decide +kernel)]; exact ⟨rfl, rfl⟩))
    (fun os started H enc _ F => by rw [OpenClaim.pre_eq_preRow]; exact lifted os started H enc F)
theorem plain (f : FuncId) (fn : Func) (hf : Tryz.pinned.checked.prog.funcNamed "weir/weirlaw08.RxtreeParses" = some f) (hfn : Tryz.pinned.checked.prog.funcs[f]? = some fn) :
    true = Tryz.pinned.checked.prog.looks [] ∧ ∀ (j : Nat) t, fn.params[j]? = some t → Tryz.pinned.checked.prog.wantsStandIn t = false := by
  obtain rfl : f = 3 := Option.some.inj ((show Tryz.prog.funcNamed "weir/weirlaw08.RxtreeParses" = some 3 by kernel_rfl).symm.trans hf) |>.symm
  obtain rfl : fn = Tryz.f3 := (Option.some.inj (Tryz.func3.symm.trans hfn)).symm
  refine ⟨UY, fun j t ht => ?_⟩
  rw [Tryz.params3] at ht
  rcases j with _ | j
  · obtain rfl : t = 22 := by simpa using ht.symm
    exact (show Tryz.prog.wantsStandIn 22 = false by kernel_rfl)
  · simp at ht
theorem rxtreeParses_card : Rows.RxtreeParsesCardSaid :=
  Claim7.holds_tied_plain_at .later [] _ _ _ _ said (fun _ h => by cases h) (by kernel_rfl) (fun _ h => by cases h) rxtreeParses_row_tie rfl ⟨rfl, rfl⟩ (by kernel_rfl) rfl plain (by kernel_rfl)
#print axioms rxtreeParses_card
end Go.Proofs.YtljadkcojnlioaaGreatDoor
