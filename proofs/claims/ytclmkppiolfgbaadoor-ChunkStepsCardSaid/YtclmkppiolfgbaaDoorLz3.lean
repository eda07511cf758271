import Derived.Test.YtclmkppiolfgbaaDoorLz2
namespace Go.Proofs.YtclmkppiolfgbaaDoor
open Go.Proofs
open Go.W
attribute [local irreducible] Decidable.decide
set_option linter.unusedSimpArgs false
set_option linter.unusedVariables false



structure Good (g : Gh) : Prop where
  hv : ∀ k, k < 4 → g.hv k = g.H k
  d : ∀ k, k < 4 → g.d k = g.h k
  d0 : g.d 0 = []
  ok : ∀ k, k < 4 → PkOk (g.h k)
  p0 : g.pv 0 = .pointer none
  pp : ∀ k, k < 4 → 0 < k → g.pv k = .pointer (some ⟨g.bp k, 0, none⟩)
  m : g.MK = g.MT
  ml : g.MK ≤ 201
  b : ∀ i, i < g.MK → g.kb i = g.tb i
section
variable {w w0 w' : World} {gps ghs : Nat} {f : Nat → Option Nat} {g : Gh} {X : List Nat} {q : Nat}
theorem St.len (st : St w w0 gps ghs f g) (hg : Good g) (hq : q < 4) : Calls Tryd.prog 23 #[g.pv q] w (Ret fun r w' => r = .int .i64 (List.length (g.d q)) ∧ Evo [] w w') := by
  rcases Nat.eq_zero_or_pos q with h | h
  · subst h
    rw [hg.p0]
    refine len_nil.mono fun e w' ⟨v, he, hv, h⟩ => ⟨v, he, by rw [hv, hg.d0]; rfl, h⟩
  · rw [hg.pp q hq h]
    exact len_ok (st.pk q hq h).1
theorem St.bytes (st : St w w0 gps ghs f g) (hg : Good g) (hq : q < 4) : Calls Tryd.prog 24 #[g.pv q] w (Ret fun r w' => ∃ a n c bs ob1, r = .slice a n c ∧ OwnS w' 5 1 a n c (bs.map bv) ob1 ∧ Packs bs (form (g.d q)) ∧ Ge w ob1 ∧ Evo [] w w') := by
  rcases Nat.eq_zero_or_pos q with h | h
  · subst h
    rw [hg.p0, hg.d0]
    exact bytes_nil
  · rw [hg.pp q hq h]
    exact bytes_ok (st.pk q hq h).1
/-- Add, of whichever packer. -/
theorem St.add (st : St w w0 gps ghs f g) (h0 : Evo [] w0 w) (hq : q < 4) (hp0 : g.pv 0 = .pointer none) (hpp : ∀ k, k < 4 → 0 < k → g.pv k = .pointer (some ⟨g.bp k, 0, none⟩)) {s : Smp} (hs : s.Ok) (ht : Tab w0) :
    Calls Tryd.prog 22 #[g.pv q, .agg #[.int .i64 s.t, .float .f64 s.v, .bool s.st]] w (Ret fun r w' => r = .int .i64 (if q = 0 then 2 else addRes (g.d q) s) ∧ ∃ f' X, St w' w0 gps ghs f' { g with d := fun k => if k = q then (if q = 0 then g.d q else addL (g.d q) s) else g.d k } ∧ Evo X w w' ∧ ∀ y, y ∈ X → w0.heap.size ≤ y) := by
  rcases Nat.eq_zero_or_pos q with h | h
  · subst h
    rw [hp0]
    refine add_nil.mono fun e w' ⟨v, he, hv, h⟩ => ⟨v, he, by rw [hv, if_pos rfl], f, [], ?_, h, fun _ h => by cases h⟩
    have : (fun k => if k = 0 then (if 0 = 0 then g.d 0 else addL (g.d 0) s) else g.d k) = g.d := by
      funext k; by_cases h1 : k = 0 <;> simp [h1]
    rw [this]
    exact st.evo0 h
  · rw [hpp q hq h]
    have hk := st.pk q hq h
    have hgb := st.own.ge (7 + q)
    rw [hk.2] at hgb
    refine (add_ok hk.1 hs (ht.evo h0 (by simp)) (nm4 ht hgb (st.own.ge (10 + q)))).mono fun e w' ⟨v, he, hv, o, hp, hE, hb⟩ => ?_
    refine ⟨v, he, by rw [hv, if_neg (by omega)], updF f (10 + q) o, g.bp q :: (f (10 + q)).toList, ?_, hE, fun y hy => ?_⟩
    · have := st.pkAdd h0 hq h hp hE hb
      have e1 : (fun k => if k = q then (if q = 0 then g.d q else addL (g.d q) s) else g.d k) = (fun k => if k = q then addL (g.d q) s else g.d k) := by
        funext k; rw [if_neg (show ¬ q = 0 by omega)]
      rw [e1]
      exact this
    · rcases List.mem_cons.1 hy with h1 | h1
      · rw [h1]; exact hgb _ rfl
      · exact st.gx _ y h1
/-- What is between the two. -/
abbrev mid (g : Gh) (q : Nat) (r : Sl) (L : List Smp) : Gh := { g with hv := fun k => if k = q then r else g.hv k, H := fun k => if k = q then r else g.H k, h := fun k => if k = q then L else g.h k }
theorem St.same (st : St w w0 gps ghs f g) (hv : g.hv q = g.H q) : St w w0 gps ghs f (mid g q (g.H q) (g.h q)) := by
  have e1 : (fun k => if k = q then g.H q else g.hv k) = g.hv := by funext k; by_cases h : k = q; { subst h; simp [hv] }; { simp [h] }
  have e2 : (fun k => if k = q then g.H q else g.H k) = g.H := by funext k; by_cases h : k = q; { subst h; simp }; { simp [h] }
  have e3 : (fun k => if k = q then g.h q else g.h k) = g.h := by funext k; by_cases h : k = q; { subst h; simp }; { simp [h] }
  unfold mid
  rw [e1, e2, e3]
  exact st
/-- Both have it now. -/
theorem Good.add (hg : Good g) {r : Sl} {L : List Smp} {s : Smp} (hs : s.Ok) (hq : q < 4) (hL : L = if q = 0 then g.d q else addL (g.d q) s) :
    Good { mid g q r L with d := fun k => if k = q then (if q = 0 then g.d q else addL (g.d q) s) else g.d k } where
  hv := fun k hk => by
    by_cases h : k = q
    · simp [h]
    · simp only [if_neg h]; exact hg.hv k hk
  d := fun k hk => by
    by_cases h : k = q
    · subst h; simp only [if_true]; exact hL.symm
    · simp only [if_neg h]; exact hg.d k hk
  d0 := by
    by_cases h : 0 = q
    · subst h; simp [hg.d0]
    · simp only [if_neg h]; exact hg.d0
  ok := fun k hk => by
    by_cases h : k = q
    · subst h
      simp only [if_true]
      rw [hL]
      have h1 := hg.ok k hk
      rw [← hg.d k hk] at h1
      split
      · exact h1
      · exact h1.add hs
    · simp only [if_neg h]; exact hg.ok k hk
  p0 := hg.p0
  pp := hg.pp
  m := hg.m
  ml := hg.ml
  b := hg.b
theorem Good.push (hg : Good g) (hm : g.MK ≤ 200) {s t : Sl} {l : List Nat} {a a' : Option Addr} {cc c' : Nat} :
    Good { { g with MK := g.MK + 1, K := fun i => if i = g.MK then s else g.K i, kb := fun i => if i = g.MK then l else g.kb i, ka := a, kc := cc } with MT := g.MT + 1, T := fun i => if i = g.MT then t else g.T i, tb := fun i => if i = g.MT then l else g.tb i, ta := a', tc := c' } where
  hv := hg.hv
  d := hg.d
  d0 := hg.d0
  ok := hg.ok
  p0 := hg.p0
  pp := hg.pp
  m := by show g.MK + 1 = g.MT + 1; rw [hg.m]
  ml := by show g.MK + 1 ≤ 201; omega
  b := fun i hi => by
    dsimp only at hi ⊢
    rw [← hg.m]
    by_cases h : i = g.MK
    · simp [h]
    · simp only [if_neg h]; exact hg.b i (by omega)
theorem Good.new (hg : Good g) (hq : q < 4) (h0 : 0 < q) {b : Nat} {r : Sl} :
    Good { g with bp := fun k => if k = q then b else g.bp k, d := fun k => if k = q then [] else g.d k, pv := fun k => if k = q then .pointer (some ⟨b, 0, none⟩) else g.pv k, hv := fun k => if k = q then r else g.hv k, H := fun k => if k = q then r else g.H k, h := fun k => if k = q then [] else g.h k } where
  hv := fun k hk => by
    by_cases h : k = q
    · simp [h]
    · simp only [if_neg h]; exact hg.hv k hk
  d := fun k hk => by
    by_cases h : k = q
    · simp [h]
    · simp only [if_neg h]; exact hg.d k hk
  d0 := by
    dsimp only
    by_cases h : 0 = q
    · omega
    · simp only [if_neg h]; exact hg.d0
  ok := fun k hk => by
    by_cases h : k = q
    · simp only [if_pos h]; exact PkOk.nil
    · simp only [if_neg h]; exact hg.ok k hk
  p0 := by dsimp only; rw [if_neg (by omega)]; exact hg.p0
  pp := fun k hk h1 => by
    by_cases h : k = q
    · simp [h]
    · simp only [if_neg h]; exact hg.pp k hk h1
  m := hg.m
  ml := hg.ml
  b := hg.b
theorem Ow.nil (w : World) : Ow w w (fun _ => none) := ⟨fun _ _ _ => Apart.nil _, fun _ => Lt.nil _, fun _ => Ge.nil _⟩
theorem Ow.evo0 (h : Ow w w0 f) (he : Evo [] w w') : Ow w' w0 f := h.evo he
theorem Ow.pk {c1 c2 : Nat} (h : Ow w w0 f) (h0 : Evo [] w0 w) (hc : c1 ≠ c2) {b : Nat} {l : List Smp} {o : Option Nat} (hp : Pkr w' b l o) (he : Evo [] w w') (hb : Ge w (some b)) (ho : Ge w o) : Ow w' w0 (updF (updF f c1 (some b)) c2 o) := by
  obtain ⟨_, _, _, _, _, hw⟩ := hp
  refine (h.upd he h0 (.inr hb) (Lt.blk hw.blk)).push (fun i => ?_) (Lt.own hw.own) (Ge.fresh h0 ho)
  by_cases h2 : i = c1
  · subst h2; rw [upd_same]; exact hw.ap.symm
  · rw [upd_ne h2]; exact (Apart.fresh (h.lt i) ho).symm
end
/-! ### The script -/
structure Opn where
  who : Int
  kind : Int
  s : Smp
def ROp : Rel Opn := fun _ _ vs o => vs = [.int .i64 o.who, .int .i64 o.kind, .int .i64 o.s.t, .float .f64 o.s.v, .bool o.s.st] ∧ o.s.Ok
theorem ROp.pers : ROp.Pers := fun _ _ _ _ _ _ h => h
theorem Tryd.elem43 : elemB Tryd.prog 43 = some 5 := by kernel_rfl
theorem Tryd.elem46 : elemB Tryd.prog 46 = some 1 := by kernel_rfl
theorem op_at {X : List Nat} {w : World} {a : Option Addr} {n c : Nat} {ds : List Opn} (h : RSl 5 ROp X w (.slice a n c) ds) {k : Nat} (hk : k < ds.length) : ∃ b o, a = some ⟨b, o, none⟩ ∧ CellsAt w b (o + k * 5) [.int .i64 ds[k].who, .int .i64 ds[k].kind, .int .i64 ds[k].s.t, .float .f64 ds[k].s.v, .bool ds[k].s.st] ∧ ds[k].s.Ok := by
  obtain ⟨a', c', hv, _, h⟩ := h
  cases hv
  obtain ⟨b, o, vs, h1, h2, h3, h4, h5, h6⟩ := h k hk
  subst h5
  exact ⟨b, o, h1, h4, h6⟩
def and3 (n : Int) : Nat := (BitVec.ofInt 64 n).toNat % 4
theorem and3_lt (n : Int) : and3 n < 4 := Nat.mod_lt _ (by omega)
theorem ex_and3 {P : Program} {σ : Env} {w : World} {dst : Option Nat} {T : TypeId} {pos : String} {after : Array Edge} {g : Option (Nat × Bool)} {x y : Operand} {t t' : TypeId} {n : Int} (hx : σ.ev x = some (.int .i64 n)) (hy : σ.ev y = some (.int .i64 3)) : Ex P σ ⟨dst, .binOp .and t x y t', T, pos, after, g⟩ w (.int .i64 ((and3 n : Nat) : Int)) w := fun ρ h => by
  have h3 : (BitVec.ofInt IntKind.i64.bits n &&& BitVec.ofInt IntKind.i64.bits 3).toNat = and3 n := by
    rw [BitVec.toNat_and]
    show (BitVec.ofInt 64 n).toNat &&& 3 = _
    exact Nat.and_two_pow_sub_one_eq_mod _ 2
  have hl := and3_lt n
  have hw : IntKind.i64.wrap ((and3 n : Nat) : Int) = ((and3 n : Nat) : Int) := by rw [i64_eq, i64_of (by omega) (by omega)]
  simp only [execOp, h x _ hx, h y _ hy]
  simp only [eqGuard, Go.binOp, Op.intBits, Sem.run_bind, Sem.run_pure, Result.andThen_ok]
  simp only [h3, hw]
  simp
theorem slv2 {s : Sl} {b o : Nat} (h : s.a = some ⟨b, o, none⟩) : s.v = .slice (some ⟨b, o, none⟩) s.n s.c := by unfold Sl.v; rw [h]
theorem pvs_get {pv : Nat → Value} {k : Nat} (h : k < 4) : (pvs pv)[k]? = some (pv k) := by simp [h]

end Go.Proofs.YtclmkppiolfgbaaDoor
