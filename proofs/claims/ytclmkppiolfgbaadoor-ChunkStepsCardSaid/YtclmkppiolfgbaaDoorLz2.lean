import Derived.Test.YtclmkppiolfgbaaDoorLy
namespace Go.Proofs.YtclmkppiolfgbaaDoor
open Go.Proofs
open Go.W
attribute [local irreducible] Decidable.decide
set_option linter.unusedSimpArgs false
set_option linter.unusedVariables false



/-! ### Who owns what, while the script runs -/
structure Ow (w w0 : World) (f : Nat → Option Nat) : Prop where
  dis : ∀ i j, i ≠ j → Apart (f i) (f j)
  lt : ∀ i, Lt w (f i)
  ge : ∀ i, Ge w0 (f i)
def updF {α : Type} (f : Nat → α) (c : Nat) (o : α) : Nat → α := fun i => if i = c then o else f i
theorem upd_same {α : Type} {f : Nat → α} {c : Nat} {o : α} : updF f c o c = o := by simp [updF]
theorem upd_ne {α : Type} {f : Nat → α} {c i : Nat} {o : α} (h : i ≠ c) : updF f c o i = f i := by simp [updF, h]
theorem Ow.evo {w w0 w' : World} {f : Nat → Option Nat} {X : List Nat} (h : Ow w w0 f) (he : Evo X w w') : Ow w' w0 f := ⟨h.dis, fun i g hg => Nat.lt_of_lt_of_le (h.lt i g hg) he.size, h.ge⟩
theorem Ow.upd {w w0 w' : World} {f : Nat → Option Nat} {X : List Nat} {c : Nat} {o : Option Nat} (h : Ow w w0 f) (he : Evo X w w') (h0 : Evo [] w0 w) (hb : o = f c ∨ Ge w o) (hl : Lt w' o) : Ow w' w0 (updF f c o) := by
  have key : ∀ i, i ≠ c → Apart o (f i) := fun i hi => by
    rcases hb with hb | hb
    · rw [hb]; exact h.dis c i (fun h => hi h.symm)
    · exact (Apart.fresh (h.lt i) hb).symm
  refine ⟨fun i j hij => ?_, fun i => ?_, fun i => ?_⟩
  · by_cases h1 : i = c
    · subst h1; rw [upd_same, upd_ne (fun h => hij h.symm)]; exact key j (fun h => hij h.symm)
    · by_cases h2 : j = c
      · subst h2; rw [upd_same, upd_ne h1]; exact (key i h1).symm
      · rw [upd_ne h1, upd_ne h2]; exact h.dis i j hij
  · by_cases h1 : i = c
    · subst h1; rw [upd_same]; exact hl
    · rw [upd_ne h1]; exact (h.evo he).lt i
  · by_cases h1 : i = c
    · subst h1; rw [upd_same]
      rcases hb with hb | hb
      · rw [hb]; exact h.ge i
      · exact Ge.fresh h0 hb
    · rw [upd_ne h1]; exact h.ge i
structure Gh where
  pv : Nat → Value
  hv : Nat → Sl
  H : Nat → Sl
  h : Nat → List Smp
  d : Nat → List Smp
  bp : Nat → Nat
  MK : Nat
  MT : Nat
  K : Nat → Sl
  T : Nat → Sl
  kb : Nat → List Nat
  tb : Nat → List Nat
  ka : Option Addr
  ta : Option Addr
  kc : Nat
  tc : Nat
abbrev pvs (pv : Nat → Value) : List Value := (List.range 4).map pv
structure St (w w0 : World) (gps ghs : Nat) (f : Nat → Option Nat) (g : Gh) : Prop where
  own : Ow w w0 f
  f0 : f 0 = some gps
  f1 : f 1 = some ghs
  ps : OwnS w 44 1 (some ⟨gps, 0, none⟩) 4 4 (pvs g.pv) (f 0)
  hs : OwnS w 22 1 (some ⟨ghs, 0, none⟩) 4 4 (sv 4 g.hv) (f 1)
  ks : OwnS w 24 1 g.ka g.MK g.kc (sv g.MK g.K) (f 2)
  ts : OwnS w 24 1 g.ta g.MT g.tc (sv g.MT g.T) (f 3)
  held : ∀ k, k < 4 → OwnS w 41 3 (g.H k).a (g.H k).n (g.H k).c (srows (g.h k)) (f (4 + k)) ∧ (g.h k).length = (g.H k).n
  pk : ∀ k, k < 4 → 0 < k → Pkr w (g.bp k) (g.d k) (f (10 + k)) ∧ f (7 + k) = some (g.bp k)
  kept : ∀ i, i < g.MK → OwnS w 5 1 (g.K i).a (g.K i).n (g.K i).c ((g.kb i).map bv) (f (14 + 2 * i)) ∧ (∀ b, b ∈ g.kb i → b < 256) ∧ (g.K i).n ≤ 1000000000
  told : ∀ i, i < g.MT → OwnS w 5 1 (g.T i).a (g.T i).n (g.T i).c ((g.tb i).map bv) (f (15 + 2 * i)) ∧ (∀ b, b ∈ g.tb i → b < 256)
section
variable {w w0 w' : World} {gps ghs : Nat} {f : Nat → Option Nat} {g : Gh} {X : List Nat} {c k : Nat}
theorem St.nx (st : St w w0 gps ghs f g) {c i : Nat} (hi : i ≠ c) : ∀ q, f i = some q → q ∉ (f c).toList := (st.own.dis i c hi).own
theorem St.evo0 (st : St w w0 gps ghs f g) (he : Evo [] w w') : St w' w0 gps ghs f g where
  own := st.own.evo he
  f0 := st.f0
  f1 := st.f1
  ps := st.ps.evo0 he
  hs := st.hs.evo0 he
  ks := st.ks.evo0 he
  ts := st.ts.evo0 he
  held := fun k hk => ⟨(st.held k hk).1.evo0 he, (st.held k hk).2⟩
  pk := fun k hk h0 => ⟨(st.pk k hk h0).1.evo he (fun h => by cases h) (fun _ _ h => by cases h), (st.pk k hk h0).2⟩
  kept := fun i hi => ⟨(st.kept i hi).1.evo0 he, (st.kept i hi).2⟩
  told := fun i hi => ⟨(st.told i hi).1.evo0 he, (st.told i hi).2⟩
/-- What is in no block of X stays. -/
theorem Pkr.keep {bp : Nat} {ds : List Smp} {i j : Nat} (h : Pkr w bp ds (f i)) (hj : f j = some bp) (he : Evo X w w') (hx : ∀ q, f i = some q → q ∉ X) (hy : ∀ q, f j = some q → q ∉ X) : Pkr w' bp ds (f i) := h.evo he (hy bp hj) hx
theorem St.lt2 (st : St w w0 gps ghs f g) (i : Nat) : Lt w (f i) := st.own.lt i
/-- A cell of the list of lists is written. -/
theorem St.hsSet (st : St w w0 gps ghs f g) {r : Sl} (ho : OwnS w' 22 1 (some ⟨ghs, 0, none⟩) 4 4 ((sv 4 g.hv).set k r.v) (f 1)) (he : Evo (f 1).toList w w') : St w' w0 gps ghs f { g with hv := fun q => if q = k then r else g.hv q } where
  own := st.own.evo he
  f0 := st.f0
  f1 := st.f1
  ps := st.ps.evo he (st.nx (by omega))
  hs := by rw [sv_set] at ho; exact ho
  ks := st.ks.evo he (st.nx (by omega))
  ts := st.ts.evo he (st.nx (by omega))
  held := fun k hk => ⟨(st.held k hk).1.evo he (st.nx (by omega)), (st.held k hk).2⟩
  pk := fun k hk h0 => ⟨(st.pk k hk h0).1.keep (st.pk k hk h0).2 he (st.nx (by omega)) (st.nx (by omega)), (st.pk k hk h0).2⟩
  kept := fun i hi => ⟨(st.kept i hi).1.evo he (st.nx (by omega)), (st.kept i hi).2⟩
  told := fun i hi => ⟨(st.told i hi).1.evo he (st.nx (by omega)), (st.told i hi).2⟩
/-- A cell of the list of packers is written. -/
theorem St.psSet (st : St w w0 gps ghs f g) {v : Value} (ho : OwnS w' 44 1 (some ⟨gps, 0, none⟩) 4 4 ((pvs g.pv).set k v) (f 0)) (he : Evo (f 0).toList w w') : St w' w0 gps ghs f { g with pv := fun q => if q = k then v else g.pv q } where
  own := st.own.evo he
  f0 := st.f0
  f1 := st.f1
  ps := by
    have := rmap_set (M := 4) (i := k) (f := g.pv) (g := fun q => if q = k then v else g.pv q) (fun q hq => by simp only [if_neg hq])
    simp only [if_true] at this
    rw [this] at ho; exact ho
  hs := st.hs.evo he (st.nx (by omega))
  ks := st.ks.evo he (st.nx (by omega))
  ts := st.ts.evo he (st.nx (by omega))
  held := fun k hk => ⟨(st.held k hk).1.evo he (st.nx (by omega)), (st.held k hk).2⟩
  pk := fun k hk h0 => ⟨(st.pk k hk h0).1.keep (st.pk k hk h0).2 he (st.nx (by omega)) (st.nx (by omega)), (st.pk k hk h0).2⟩
  kept := fun i hi => ⟨(st.kept i hi).1.evo he (st.nx (by omega)), (st.kept i hi).2⟩
  told := fun i hi => ⟨(st.told i hi).1.evo he (st.nx (by omega)), (st.told i hi).2⟩
/-- One of the lists is another one. -/
theorem St.heldSet (st : St w w0 gps ghs f g) (h0 : Evo [] w0 w) (hk : k < 4) {r : Sl} {l : List Smp} (ho : OwnS w' 41 3 r.a r.n r.c (srows l) r.ob) (hl : l.length = r.n) (he : Evo (f (4 + k)).toList w w') (hb : r.ob = f (4 + k) ∨ Ge w r.ob) :
    St w' w0 gps ghs (updF f (4 + k) r.ob) { g with H := fun q => if q = k then r else g.H q, h := fun q => if q = k then l else g.h q } where
  own := st.own.upd he h0 hb (Lt.own ho)
  f0 := by rw [upd_ne (by omega)]; exact st.f0
  f1 := by rw [upd_ne (by omega)]; exact st.f1
  ps := by rw [upd_ne (by omega)]; exact st.ps.evo he (st.nx (by omega))
  hs := by rw [upd_ne (by omega)]; exact st.hs.evo he (st.nx (by omega))
  ks := by rw [upd_ne (by omega)]; exact st.ks.evo he (st.nx (by omega))
  ts := by rw [upd_ne (by omega)]; exact st.ts.evo he (st.nx (by omega))
  held := fun q hq => by
    by_cases h1 : q = k
    · subst h1; simp only [if_true]; rw [upd_same]; exact ⟨ho, hl⟩
    · simp only [if_neg h1]; rw [upd_ne (by omega)]; exact ⟨(st.held q hq).1.evo he (st.nx (by omega)), (st.held q hq).2⟩
  pk := fun q hq h0 => by rw [upd_ne (by omega), upd_ne (by omega)]; exact ⟨(st.pk q hq h0).1.keep (st.pk q hq h0).2 he (st.nx (by omega)) (st.nx (by omega)), (st.pk q hq h0).2⟩
  kept := fun i hi => by rw [upd_ne (by omega)]; exact ⟨(st.kept i hi).1.evo he (st.nx (by omega)), (st.kept i hi).2⟩
  told := fun i hi => by rw [upd_ne (by omega)]; exact ⟨(st.told i hi).1.evo he (st.nx (by omega)), (st.told i hi).2⟩
/-- A packer has answered Add. -/
theorem St.pkAdd (st : St w w0 gps ghs f g) (h0 : Evo [] w0 w) (hk : k < 4) (hk0 : 0 < k) {o : Option Nat} {l : List Smp} (hp : Pkr w' (g.bp k) l o) (he : Evo (g.bp k :: (f (10 + k)).toList) w w') (hb : o = f (10 + k) ∨ Ge w o) :
    St w' w0 gps ghs (updF f (10 + k) o) { g with d := fun q => if q = k then l else g.d q } := by
  have hn : ∀ i, i ≠ 7 + k → i ≠ 10 + k → ∀ q, f i = some q → q ∉ g.bp k :: (f (10 + k)).toList := fun i h1 h2 q hq hm => by
    rcases List.mem_cons.1 hm with h | h
    · exact st.own.dis i (7 + k) h1 q hq (by rw [(st.pk k hk hk0).2, h])
    · exact st.nx h2 q hq h
  have hlo : Lt w' o := by obtain ⟨_, _, _, _, _, hw⟩ := hp; exact Lt.own hw.own
  exact {
    own := st.own.upd he h0 hb hlo
    f0 := by rw [upd_ne (by omega)]; exact st.f0
    f1 := by rw [upd_ne (by omega)]; exact st.f1
    ps := by rw [upd_ne (by omega)]; exact st.ps.evo he (hn 0 (by omega) (by omega))
    hs := by rw [upd_ne (by omega)]; exact st.hs.evo he (hn 1 (by omega) (by omega))
    ks := by rw [upd_ne (by omega)]; exact st.ks.evo he (hn 2 (by omega) (by omega))
    ts := by rw [upd_ne (by omega)]; exact st.ts.evo he (hn 3 (by omega) (by omega))
    held := fun q hq => by rw [upd_ne (by omega)]; exact ⟨(st.held q hq).1.evo he (hn _ (by omega) (by omega)), (st.held q hq).2⟩
    pk := fun q hq h1 => by
      rw [upd_ne (show 7 + q ≠ 10 + k by omega)]
      by_cases h2 : q = k
      · subst h2; simp only [if_true]; rw [upd_same]; exact ⟨hp, (st.pk q hq h1).2⟩
      · simp only [if_neg h2]; rw [upd_ne (by omega)]; exact ⟨(st.pk q hq h1).1.keep (st.pk q hq h1).2 he (hn _ (by omega) (by omega)) (hn _ (by omega) (by omega)), (st.pk q hq h1).2⟩
    kept := fun i hi => by rw [upd_ne (by omega)]; exact ⟨(st.kept i hi).1.evo he (hn _ (by omega) (by omega)), (st.kept i hi).2⟩
    told := fun i hi => by rw [upd_ne (by omega)]; exact ⟨(st.told i hi).1.evo he (hn _ (by omega) (by omega)), (st.told i hi).2⟩ }
/-- A packer is a new one. -/
theorem St.pkNew (st : St w w0 gps ghs f g) (h0 : Evo [] w0 w) (hk : k < 4) (hk0 : 0 < k) {b : Nat} {o : Option Nat} (hp : Pkr w' b [] o) (he : Evo [] w w') (hb : Ge w (some b)) (ho : Ge w o) :
    St w' w0 gps ghs (updF (updF f (7 + k) (some b)) (10 + k) o) { g with bp := fun q => if q = k then b else g.bp q, d := fun q => if q = k then [] else g.d q } := by
  obtain ⟨hpk, a, m, cc, bs, hw⟩ := hp
  have hs := st.evo0 he
  have e1 : Ow w' w0 (updF f (7 + k) (some b)) := st.own.upd he h0 (.inr hb) (Lt.blk hw.blk)
  have e2 : Ow w' w0 (updF (updF f (7 + k) (some b)) (10 + k) o) := by
    refine ⟨fun i j hij => ?_, fun i => ?_, fun i => ?_⟩
    · by_cases h1 : i = 10 + k
      · subst h1
        rw [upd_same, upd_ne (fun h => hij h.symm)]
        by_cases h2 : j = 7 + k
        · subst h2; rw [upd_same]; exact hw.ap.symm
        · rw [upd_ne h2]; exact (Apart.fresh (st.own.lt j) ho).symm
      · rw [upd_ne h1]
        by_cases h3 : j = 10 + k
        · subst h3
          rw [upd_same]
          by_cases h2 : i = 7 + k
          · subst h2; rw [upd_same]; exact hw.ap
          · rw [upd_ne h2]; exact Apart.fresh (st.own.lt i) ho
        · rw [upd_ne h3]; exact e1.dis i j hij
    · by_cases h1 : i = 10 + k
      · subst h1; rw [upd_same]; exact Lt.own hw.own
      · rw [upd_ne h1]; exact e1.lt i
    · by_cases h1 : i = 10 + k
      · subst h1; rw [upd_same]; exact Ge.fresh h0 ho
      · rw [upd_ne h1]; exact e1.ge i
  exact {
    own := e2
    f0 := by rw [upd_ne (by omega), upd_ne (by omega)]; exact st.f0
    f1 := by rw [upd_ne (by omega), upd_ne (by omega)]; exact st.f1
    ps := by rw [upd_ne (by omega), upd_ne (by omega)]; exact hs.ps
    hs := by rw [upd_ne (by omega), upd_ne (by omega)]; exact hs.hs
    ks := by rw [upd_ne (by omega), upd_ne (by omega)]; exact hs.ks
    ts := by rw [upd_ne (by omega), upd_ne (by omega)]; exact hs.ts
    held := fun q hq => by rw [upd_ne (by omega), upd_ne (by omega)]; exact hs.held q hq
    pk := fun q hq h1 => by
      by_cases h2 : q = k
      · subst h2; simp only [if_true]; rw [upd_same, upd_ne (by omega), upd_same]; exact ⟨⟨hpk, a, m, cc, bs, hw⟩, rfl⟩
      · simp only [if_neg h2]; rw [upd_ne (by omega), upd_ne (by omega), upd_ne (by omega), upd_ne (by omega)]; exact hs.pk q hq h1
    kept := fun i hi => by rw [upd_ne (by omega), upd_ne (by omega)]; exact hs.kept i hi
    told := fun i hi => by rw [upd_ne (by omega), upd_ne (by omega)]; exact hs.told i hi }
theorem ap_upd {f : Nat → Option Nat} {c : Nat} {x o : Option Nat} (h : ∀ i, Apart x (f i)) (ho : Apart x o) : ∀ i, Apart x (updF f c o i) := fun i => by
  by_cases h1 : i = c
  · subst h1; rw [upd_same]; exact ho
  · rw [upd_ne h1]; exact h i
theorem Ow.push {c : Nat} {o : Option Nat} (h : Ow w w0 f) (ha : ∀ i, Apart o (f i)) (hl : Lt w o) (hg : Ge w0 o) : Ow w w0 (updF f c o) := by
  refine ⟨fun i j hij => ?_, fun i => ?_, fun i => ?_⟩
  · by_cases h1 : i = c
    · subst h1; rw [upd_same, upd_ne (fun h => hij h.symm)]; exact ha j
    · by_cases h2 : j = c
      · subst h2; rw [upd_same, upd_ne h1]; exact (ha i).symm
      · rw [upd_ne h1, upd_ne h2]; exact h.dis i j hij
  · by_cases h1 : i = c
    · subst h1; rw [upd_same]; exact hl
    · rw [upd_ne h1]; exact h.lt i
  · by_cases h1 : i = c
    · subst h1; rw [upd_same]; exact hg
    · rw [upd_ne h1]; exact h.ge i
theorem sv_push (M : Nat) (K : Nat → Sl) (s : Sl) : sv M K ++ [s.v] = sv (M + 1) (fun i => if i = M then s else K i) := by
  simp only [sv, List.range_succ, List.map_append, List.map_cons, List.map_nil, if_true]
  congr 1
  apply List.map_congr_left
  intro i hi
  have := List.mem_range.1 hi
  rw [if_neg (by omega)]
/-- What Bytes answered is kept. -/
theorem St.ksApp (st : St w w0 gps ghs f g) (h0 : Evo [] w0 w) {s : Sl} {l : List Nat} {a : Option Addr} {cc : Nat} {o : Option Nat} (ho : OwnS w' 24 1 a (g.MK + 1) cc (sv g.MK g.K ++ [s.v]) o) (he : Evo (f 2).toList w w') (hb : o = f 2 ∨ Ge w o)
    (hs : OwnS w' 5 1 s.a s.n s.c (l.map bv) s.ob) (hl : ∀ b, b ∈ l → b < 256) (hn : s.n ≤ 1000000000) (ha : ∀ i, Apart s.ob (f i)) (hao : Apart s.ob o) (hg : Ge w0 s.ob) :
    St w' w0 gps ghs (updF (updF f 2 o) (14 + 2 * g.MK) s.ob) { g with MK := g.MK + 1, K := fun i => if i = g.MK then s else g.K i, kb := fun i => if i = g.MK then l else g.kb i, ka := a, kc := cc } where
  own := (st.own.upd he h0 hb (Lt.own ho)).push (ap_upd ha hao) (Lt.own hs) hg
  f0 := by rw [upd_ne (by omega), upd_ne (by omega)]; exact st.f0
  f1 := by rw [upd_ne (by omega), upd_ne (by omega)]; exact st.f1
  ps := by rw [upd_ne (by omega), upd_ne (by omega)]; exact st.ps.evo he (st.nx (by omega))
  hs := by rw [upd_ne (by omega), upd_ne (by omega)]; exact st.hs.evo he (st.nx (by omega))
  ks := by rw [upd_ne (by omega), upd_same]; rw [sv_push] at ho; exact ho
  ts := by rw [upd_ne (by omega), upd_ne (by omega)]; exact st.ts.evo he (st.nx (by omega))
  held := fun k hk => by rw [upd_ne (by omega), upd_ne (by omega)]; exact ⟨(st.held k hk).1.evo he (st.nx (by omega)), (st.held k hk).2⟩
  pk := fun q hq h0 => by rw [upd_ne (by omega), upd_ne (by omega), upd_ne (by omega), upd_ne (by omega)]; exact ⟨(st.pk q hq h0).1.keep (st.pk q hq h0).2 he (st.nx (by omega)) (st.nx (by omega)), (st.pk q hq h0).2⟩
  kept := fun i hi => by
    dsimp only at hi
    by_cases h1 : i = g.MK
    · subst h1; simp only [if_true]; rw [upd_same]; exact ⟨hs, hl, hn⟩
    · simp only [if_neg h1]; rw [upd_ne (by omega), upd_ne (by omega)]; exact ⟨(st.kept i (by omega)).1.evo he (st.nx (by omega)), (st.kept i (by omega)).2⟩
  told := fun i hi => by rw [upd_ne (by omega), upd_ne (by omega)]; exact ⟨(st.told i hi).1.evo he (st.nx (by omega)), (st.told i hi).2⟩
/-- What the reference answered is kept. -/
theorem St.tsApp (st : St w w0 gps ghs f g) (h0 : Evo [] w0 w) {s : Sl} {l : List Nat} {a : Option Addr} {cc : Nat} {o : Option Nat} (ho : OwnS w' 24 1 a (g.MT + 1) cc (sv g.MT g.T ++ [s.v]) o) (he : Evo (f 3).toList w w') (hb : o = f 3 ∨ Ge w o)
    (hs : OwnS w' 5 1 s.a s.n s.c (l.map bv) s.ob) (hl : ∀ b, b ∈ l → b < 256) (ha : ∀ i, Apart s.ob (f i)) (hao : Apart s.ob o) (hg : Ge w0 s.ob) :
    St w' w0 gps ghs (updF (updF f 3 o) (15 + 2 * g.MT) s.ob) { g with MT := g.MT + 1, T := fun i => if i = g.MT then s else g.T i, tb := fun i => if i = g.MT then l else g.tb i, ta := a, tc := cc } where
  own := (st.own.upd he h0 hb (Lt.own ho)).push (ap_upd ha hao) (Lt.own hs) hg
  f0 := by rw [upd_ne (by omega), upd_ne (by omega)]; exact st.f0
  f1 := by rw [upd_ne (by omega), upd_ne (by omega)]; exact st.f1
  ps := by rw [upd_ne (by omega), upd_ne (by omega)]; exact st.ps.evo he (st.nx (by omega))
  hs := by rw [upd_ne (by omega), upd_ne (by omega)]; exact st.hs.evo he (st.nx (by omega))
  ks := by rw [upd_ne (by omega), upd_ne (by omega)]; exact st.ks.evo he (st.nx (by omega))
  ts := by rw [upd_ne (by omega), upd_same]; rw [sv_push] at ho; exact ho
  held := fun k hk => by rw [upd_ne (by omega), upd_ne (by omega)]; exact ⟨(st.held k hk).1.evo he (st.nx (by omega)), (st.held k hk).2⟩
  pk := fun q hq h0 => by rw [upd_ne (by omega), upd_ne (by omega), upd_ne (by omega), upd_ne (by omega)]; exact ⟨(st.pk q hq h0).1.keep (st.pk q hq h0).2 he (st.nx (by omega)) (st.nx (by omega)), (st.pk q hq h0).2⟩
  kept := fun i hi => by rw [upd_ne (by omega), upd_ne (by omega)]; exact ⟨(st.kept i hi).1.evo he (st.nx (by omega)), (st.kept i hi).2⟩
  told := fun i hi => by
    dsimp only at hi
    by_cases h1 : i = g.MT
    · subst h1; simp only [if_true]; rw [upd_same]; exact ⟨hs, hl⟩
    · simp only [if_neg h1]; rw [upd_ne (by omega), upd_ne (by omega)]; exact ⟨(st.told i (by omega)).1.evo he (st.nx (by omega)), (st.told i (by omega)).2⟩
/-- The slices that are kept, with their blocks. -/
def kS (f : Nat → Option Nat) (g : Gh) : Nat → Sl := fun i => ⟨(g.K i).a, (g.K i).n, (g.K i).c, f (14 + 2 * i)⟩
theorem St.famK (st : St w w0 gps ghs f g) : Fam w 5 1 g.MK (kS f g) (fun i => (g.kb i).map bv) where
  own := fun i hi => (st.kept i hi).1
  ap := fun i j _ _ hij => st.own.dis _ _ (by omega)
/-- Blocks that came in with the call or later. -/
def newX (w0 w : World) : List Nat := (List.range w.heap.size).filter fun y => decide (w0.heap.size ≤ y)
theorem newX_in {y : Nat} (h : w0.heap.size ≤ y) : y ∈ newX w0 w ∨ w.heap.size ≤ y := by
  by_cases h1 : y < w.heap.size
  · left; simp [newX, h1, h]
  · right; omega
theorem newX_ge {y : Nat} (h : y ∈ newX w0 w) : w0.heap.size ≤ y := by
  simp only [newX, List.mem_filter, decide_eq_true_eq] at h; exact h.2
theorem St.gx (st : St w w0 gps ghs f g) (i : Nat) : ∀ y, y ∈ (f i).toList → w0.heap.size ≤ y := fun y hy => st.own.ge i y (by simpa using hy)
end

theorem add_nil {w : World} {s : Smp} :
    Calls Tryd.prog 22 #[.pointer none, .agg #[.int .i64 s.t, .float .f64 s.v, .bool s.st]] w (Ret fun r w' => r = .int .i64 2 ∧ Evo [] w w') := by
  refine calls_of_cw (N := 40) Tryd.func22 rfl rfl rfl ?_
  refine cw_seq ?_
  refine cw_region ?_
  refine wl_boxA rfl rfl fun b1 w2 hB3 hs4 hw5 => ?_
  have hG6 := Ge.new (Evo.refl [] w) hs4
  have hE7 := (Evo.refl [] w).then hw5
  refine wl_val rfl (ex_assign rfl) ?_
  refine wl_nil (nrm_then ?_)
  refine cw_seq ?_
  refine cw_block ?_
  refine cw_seq ?_
  refine cw_region ?_
  refine wl_val rfl (ex_move rfl) ?_
  refine wl_val rfl (ex_eqPn rfl rfl Tryd.ptr44) ?_
  refine wl_val rfl (ex_assign rfl) ?_
  refine wl_nil (nrm_then ?_)
  refine cw_true rfl ?_
  refine cw_seq ?_
  refine cw_region ?_
  refine wl_val rfl (ex_assign rfl) ?_
  refine wl_nil (nrm_then ?_)
  refine cw_ret (ret_block (ret_then (body_ret1 rfl rfl ?_)))
  exact ⟨rfl, hE7⟩

theorem len_nil {w : World} : Calls Tryd.prog 23 #[.pointer none] w (Ret fun r w' => r = .int .i64 0 ∧ Evo [] w w') := by
  refine calls_of_cw (N := 10) Tryd.func23 rfl rfl rfl ?_
  refine cw_seq ?_
  refine cw_region ?_
  refine wl_val rfl (ex_assign rfl) ?_
  refine wl_nil (nrm_then ?_)
  refine cw_seq ?_
  refine cw_seq ?_
  refine cw_region ?_
  refine wl_val rfl (ex_move rfl) ?_
  refine wl_val rfl (ex_eqPn rfl rfl Tryd.ptr44) ?_
  refine wl_nil (nrm_then ?_)
  refine cw_true rfl ?_
  refine cw_seq ?_
  refine cw_region ?_
  refine wl_val rfl (ex_assign rfl) ?_
  refine wl_nil (nrm_then ?_)
  refine cw_ret (ret_then (body_ret1 rfl rfl ?_))
  exact ⟨rfl, (Evo.refl [] w)⟩

theorem bytes_nil {w : World} : Calls Tryd.prog 24 #[.pointer none] w (Ret fun r w' => ∃ a n c bs ob1, r = .slice a n c ∧ OwnS w' 5 1 a n c (bs.map bv) ob1 ∧ Packs bs (form []) ∧ Ge w ob1 ∧ Evo [] w w') := by
  refine calls_of_cw (N := 40) Tryd.func24 rfl rfl rfl ?_
  refine cw_seq ?_
  refine cw_region ?_
  refine wl_val rfl (ex_assign rfl) ?_
  refine wl_nil (nrm_then ?_)
  refine cw_seq ?_
  refine cw_seq ?_
  refine cw_region ?_
  refine wl_val rfl (ex_move rfl) ?_
  refine wl_val rfl (ex_eqPn rfl rfl Tryd.ptr44) ?_
  refine wl_nil (nrm_then ?_)
  refine cw_true rfl ?_
  refine cw_seq ?_
  refine cw_region ?_
  refine wl_make (len := 3) (c := 3) rfl rfl rfl Tryd.make24 (by omega) (by omega) (by omega) (by decide) (by omega) (by omega) fun bm w2 hm hs4 hw5 => ?_
  have hG6 := Ge.new (Evo.refl [] w) hs4
  have hE7 := (Evo.refl [] w).then hw5
  refine wl_val rfl (ex_assign rfl) ?_
  refine wl_nil (nrm_then ?_)
  refine cw_ret (ret_then (body_ret1 rfl rfl ?_))
  have hf0 : (form []).length = 17 := by simp [form, body]
  refine ⟨_, _, _, [0, 0, 0], _, rfl, hm, ?_, hG6, hE7⟩
  have h3 := PacksN.nil 3
  refine ⟨by rw [hf0]; rfl, h3.lt, fun i hi => ?_⟩
  rw [hf0] at hi
  rw [show [0, 0, 0] = List.replicate 3 0 from rfl, h3.bit i hi]
  simp only [form, body, List.append_nil, List.length_nil, List.getD_eq_getElem?_getD]
  by_cases hi2 : i < 17
  · rw [num_get _ _ _ hi2]; simp
  · rw [List.getElem?_eq_none (by simp), List.getElem?_eq_none (by simp; omega)]

end Go.Proofs.YtclmkppiolfgbaaDoor
