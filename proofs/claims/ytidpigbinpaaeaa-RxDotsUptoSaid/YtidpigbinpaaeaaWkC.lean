/- Dot: part 3 of 5 of what the law rests on. -/
import Derived.Test.YtidpigbinpaaeaaWkB
set_option linter.unusedSectionVars false
set_option linter.unusedSimpArgs false
set_option linter.unusedVariables false
namespace Go.Proofs.Ytidpigbinpaaeaa
open Go.RowKit Go.W
attribute [local irreducible] Decidable.decide
mutual
def OT : Rx → World → List Value → List Nat → Prop
  | .mk k r rs mn mx lz cp nm ks, w, vs, bs => ∃ (ra : Option Addr) (rc : Nat) (rb : Option Nat) (ka : Option Addr) (kc : Nat) (kb : Option Nat) (cs : List Value) (bk : List Nat),
    vs = [iv k, .int .i32 r, .slice ra rs.length rc, iv mn, iv mx, .bool lz, iv cp, .string nm, .slice ka ks.length kc] ∧ OwnS w 78 2 ra rs.length rc (cW rs) rb ∧ OwnS w 37 9 ka ks.length kc cs kb ∧ OTs ks w cs bk ∧
    bs = rb.toList ++ (kb.toList ++ bk) ∧ rs.length ≤ 1000000 ∧ nm.size ≤ 1000000 ∧ ks.length ≤ 1000000
def OTs : List Rx → World → List Value → List Nat → Prop
  | [], _, cs, bs => cs = [] ∧ bs = []
  | x :: l, w, cs, bs => ∃ (vs cs' : List Value) (b1 b2 : List Nat), cs = vs ++ cs' ∧ bs = b1 ++ b2 ∧ OT x w vs b1 ∧ OTs l w cs' b2
end
theorem CE {w : World} {e : TypeId} {sz : Nat} {a : Option Addr} {n c : Nat} {xs : List Value} {ob : Option Nat} (h : OwnS w e sz a n c xs ob) : ∀ b, b ∈ ob.toList → b < w.heap.size := fun b hb => by
  cases ob with
  | none => cases hb
  | some g => rw [List.mem_singleton.1 hb]; exact h.lt
mutual
theorem OT.evo : ∀ {x : Rx} {w w' : World} {vs : List Value} {bs X : List Nat}, OT x w vs bs → Evo X w w' → (∀ b, b ∈ bs → b ∉ X) → OT x w' vs bs
  | .mk k r rs mn mx lz cp nm ks, w, w', vs, bs, X, h, he, hx => by
    rw [OT] at h ⊢
    obtain ⟨ra, rc, rb, ka, kc, kb, cs, bk, h1, h2, h3, h4, rfl, h5⟩ := h
    exact ⟨ra, rc, rb, ka, kc, kb, cs, bk, h1, h2.evo he (fun g hg => hx g (by simp [hg])), h3.evo he (fun g hg => hx g (by simp [hg])), OTs.evo h4 he (fun b hb => hx b (by simp [hb])), rfl, h5⟩
theorem OTs.evo : ∀ {l : List Rx} {w w' : World} {cs : List Value} {bs X : List Nat}, OTs l w cs bs → Evo X w w' → (∀ b, b ∈ bs → b ∉ X) → OTs l w' cs bs
  | [], w, w', cs, bs, X, h, he, hx => by rw [OTs] at h ⊢; exact h
  | x :: l, w, w', cs, bs, X, h, he, hx => by
    rw [OTs] at h ⊢
    obtain ⟨vs, cs', b1, b2, h1, rfl, h3, h4⟩ := h
    exact ⟨vs, cs', b1, b2, h1, rfl, OT.evo h3 he (fun b hb => hx b (by simp [hb])), OTs.evo h4 he (fun b hb => hx b (by simp [hb]))⟩
end
mutual
theorem OT.lt : ∀ {x : Rx} {w : World} {vs : List Value} {bs : List Nat}, OT x w vs bs → ∀ b, b ∈ bs → b < w.heap.size
  | .mk k r rs mn mx lz cp nm ks, w, vs, bs, h => by
    rw [OT] at h
    obtain ⟨ra, rc, rb, ka, kc, kb, cs, bk, h1, h2, h3, h4, rfl, h5⟩ := h
    intro b hb
    rcases List.mem_append.1 hb with hb | hb
    · exact CE h2 b hb
    · rcases List.mem_append.1 hb with hb | hb
      · exact CE h3 b hb
      · exact OTs.lt h4 b hb
theorem OTs.lt : ∀ {l : List Rx} {w : World} {cs : List Value} {bs : List Nat}, OTs l w cs bs → ∀ b, b ∈ bs → b < w.heap.size
  | [], w, cs, bs, h => by rw [OTs] at h; rw [h.2]; exact fun b hb => by cases hb
  | x :: l, w, cs, bs, h => by
    rw [OTs] at h
    obtain ⟨vs, cs', b1, b2, h1, rfl, h3, h4⟩ := h
    intro b hb
    rcases List.mem_append.1 hb with hb | hb
    · exact OT.lt h3 b hb
    · exact OTs.lt h4 b hb
end
theorem OT.nine {x : Rx} {w : World} {vs : List Value} {bs : List Nat} (h : OT x w vs bs) : ∃ ra rc ka kc, vs = [iv x.kind, .int .i32 x.r, .slice ra x.ranges.length rc, iv x.min, iv x.max, .bool x.lazy, iv x.cap, .string x.name, .slice ka x.kids.length kc] := by
  cases x with
  | mk k r rs mn mx lz cp nm ks =>
    rw [OT] at h
    obtain ⟨ra, rc, rb, ka, kc, kb, cs, bk, h1, _⟩ := h
    exact ⟨ra, rc, ka, kc, h1⟩
theorem OT.len {x : Rx} {w : World} {vs : List Value} {bs : List Nat} (h : OT x w vs bs) : vs.length = 9 := by
  obtain ⟨ra, rc, ka, kc, rfl⟩ := h.nine; rfl
theorem OT.one {x : Rx} {w : World} {vs : List Value} {bs : List Nat} (h : OT x w vs bs) : AllOne vs := by
  obtain ⟨ra, rc, ka, kc, rfl⟩ := h.nine; exact ⟨rfl, rfl, rfl, rfl, rfl, rfl, rfl, rfl, rfl, trivial⟩
theorem yM : ∀ {l m : List Value}, AllOne l → AllOne m → AllOne (l ++ m)
  | [], m, _, h => h
  | v :: l, m, h, h2 => ⟨h.1, yM h.2 h2⟩
theorem OTs.len : ∀ {l : List Rx} {w : World} {cs : List Value} {bs : List Nat}, OTs l w cs bs → cs.length = l.length * 9
  | [], w, cs, bs, h => by rw [OTs] at h; rw [h.1]; rfl
  | x :: l, w, cs, bs, h => by
    rw [OTs] at h
    obtain ⟨vs, cs', b1, b2, rfl, rfl, h3, h4⟩ := h
    rw [List.length_append, h3.len, OTs.len h4, List.length_cons]; omega
theorem OTs.one : ∀ {l : List Rx} {w : World} {cs : List Value} {bs : List Nat}, OTs l w cs bs → AllOne cs
  | [], w, cs, bs, h => by rw [OTs] at h; rw [h.1]; trivial
  | x :: l, w, cs, bs, h => by
    rw [OTs] at h
    obtain ⟨vs, cs', b1, b2, rfl, rfl, h3, h4⟩ := h
    exact yM h3.one (OTs.one h4)
theorem OTs.nil (w : World) : OTs [] w [] [] := by rw [OTs]; exact ⟨rfl, rfl⟩
theorem OTs.single {x : Rx} {w : World} {vs : List Value} {bs : List Nat} (h : OT x w vs bs) : OTs [x] w vs bs := by
  rw [OTs]; exact ⟨vs, [], bs, [], by simp, by simp, h, OTs.nil w⟩
theorem OTs.app : ∀ {l m : List Rx} {w : World} {cs cs' : List Value} {bs bs' : List Nat}, OTs l w cs bs → OTs m w cs' bs' → OTs (l ++ m) w (cs ++ cs') (bs ++ bs')
  | [], m, w, cs, cs', bs, bs', h, h2 => by rw [OTs] at h; rw [h.1, h.2]; exact h2
  | x :: l, m, w, cs, cs', bs, bs', h, h2 => by
    rw [OTs] at h
    obtain ⟨vs, ct, b1, b2, rfl, rfl, h3, h4⟩ := h
    show OTs (x :: (l ++ m)) w _ _
    rw [OTs]
    exact ⟨vs, ct ++ cs', b1, b2 ++ bs', List.append_assoc .., List.append_assoc .., h3, OTs.app h4 h2⟩
theorem OTs.parts : ∀ {l m : List Rx} {w : World} {cs : List Value} {bs : List Nat}, OTs (l ++ m) w cs bs → ∃ c1 c2 b1 b2, cs = c1 ++ c2 ∧ bs = b1 ++ b2 ∧ OTs l w c1 b1 ∧ OTs m w c2 b2
  | [], m, w, cs, bs, h => ⟨[], cs, [], bs, rfl, rfl, OTs.nil w, h⟩
  | x :: l, m, w, cs, bs, h => by
    have h' : OTs (x :: (l ++ m)) w cs bs := h
    rw [OTs] at h'
    obtain ⟨vs, ct, b1, b2, rfl, rfl, h3, h4⟩ := h'
    obtain ⟨c1, c2, d1, d2, rfl, rfl, h5, h6⟩ := OTs.parts h4
    exact ⟨vs ++ c1, c2, b1 ++ d1, d2, (List.append_assoc ..).symm, (List.append_assoc ..).symm, by rw [OTs]; exact ⟨vs, c1, b1, d1, rfl, rfl, h3, h5⟩, h6⟩
theorem OTs.one' {x : Rx} {w : World} {cs : List Value} {bs : List Nat} (h : OTs [x] w cs bs) : OT x w cs bs := by
  rw [OTs] at h
  obtain ⟨vs, ct, b1, b2, rfl, rfl, h3, h4⟩ := h
  rw [OTs] at h4
  rw [h4.1, h4.2, List.append_nil, List.append_nil]; exact h3
structure Fr (w : World) (bs : List Nat) : Prop where
  nd : bs.Nodup
  ge : ∀ b, b ∈ bs → w.heap.size ≤ b
theorem Fr.nil (w : World) : Fr w [] := ⟨List.nodup_nil, fun b h => by cases h⟩
theorem Fr.app {w w1 : World} {b1 b2 : List Nat} (h1 : Fr w b1) (h2 : Fr w1 b2) (hw : w.heap.size ≤ w1.heap.size) (hl : ∀ b, b ∈ b1 → b < w1.heap.size) : Fr w (b1 ++ b2) where
  nd := List.nodup_append.2 ⟨h1.nd, h2.nd, fun a ha b hb e => by have := hl a ha; have := h2.ge b hb; omega⟩
  ge := fun b hb => by
    rcases List.mem_append.1 hb with hb | hb
    · exact h1.ge b hb
    · have := h2.ge b hb; omega
theorem Fr.older {w w1 : World} {bs : List Nat} (h : Fr w1 bs) (hw : w.heap.size ≤ w1.heap.size) : Fr w bs := ⟨h.nd, fun b hb => Nat.le_trans hw (h.ge b hb)⟩
def TOut (w w' : World) (v : Value) (x : Rx) : Prop := ∃ vs bs, v = .agg vs.toArray ∧ OT x w' vs bs ∧ Fr w bs
theorem ge_fr {w : World} {ob : Option Nat} (h : Ge w ob) : Fr w ob.toList := by
  cases ob with
  | none => exact Fr.nil w
  | some g => exact ⟨List.nodup_cons.2 ⟨by simp, List.nodup_nil⟩, fun b hb => by rw [List.mem_singleton.1 hb]; exact h g rfl⟩
theorem pW (k : Int) (w : World) : OT (rxK k) w [iv k, .int .i32 0, .slice none 0 0, iv 0, iv 0, .bool false, iv 0, .string ByteArray.empty, .slice none 0 0] [] := by
  unfold rxK
  rw [OT]
  exact ⟨none, 0, none, none, 0, none, [], [], rfl, OwnS.nil _ _ _, OwnS.nil _ _ _, OTs.nil w, rfl, by simp, by show (0 : Nat) ≤ 1000000; omega, by simp⟩
theorem ot_lit (c : Int) (w : World) : OT (lD c) w [iv 2, .int .i32 c, .slice none 0 0, iv 0, iv 0, .bool false, iv 0, .string ByteArray.empty, .slice none 0 0] [] := by
  unfold lD
  rw [OT]
  exact ⟨none, 0, none, none, 0, none, [], [], rfl, OwnS.nil _ _ _, OwnS.nil _ _ _, OTs.nil w, rfl, by simp, by show (0 : Nat) ≤ 1000000; omega, by simp⟩
theorem SN {l : List (Int × Int)} {w : World} {a : Option Addr} {n c : Nat} {ob : Option Nat} (h : OwnS w 78 2 a n c (cW l) ob) (hl : l.length ≤ 1000000) : OT (nC l) w [iv 3, .int .i32 0, .slice a n c, iv 0, iv 0, .bool false, iv 0, .string ByteArray.empty, .slice none 0 0] ob.toList := by
  obtain rfl := pV h
  unfold nC
  rw [OT]
  exact ⟨a, c, ob, none, 0, none, [], [], rfl, h, OwnS.nil _ _ _, OTs.nil w, by simp, hl, by show (0 : Nat) ≤ 1000000; omega, by simp⟩
theorem LB : kT Try.prog 122 = some true := by kernel_rfl
theorem oG : fQ Try.prog 122 = some 2 := by kernel_rfl
theorem rJ : mN Try.prog 122 = some #[.int .i32 0, .int .i32 0] := by kernel_rfl
theorem GR : mN Try.prog 123 = some #[.int .i32 0, .int .i32 0, .int .i32 0, .int .i32 0] := by kernel_rfl
def pB (j : Nat) : Int × Int := if j = 0 then (65, 32) else (97, -32)
theorem TZ (j : Nat) : (pB j).1 = 65 ∧ (pB j).2 = 32 ∨ (pB j).1 = 97 ∧ (pB j).2 = -32 := by
  unfold pB
  split
  · exact .inl ⟨rfl, rfl⟩
  · exact .inr ⟨rfl, rfl⟩
def mB (h x : Int × Int) : List (Int × Int) := if max x.1 h.1 ≤ min x.2 (h.1 + 25) then [(max x.1 h.1 + h.2, min x.2 (h.1 + 25) + h.2)] else []
def pC (x : Int × Int) : Nat → List (Int × Int)
  | 0 => []
  | j + 1 => pC x j ++ mB (pB j) x
def qL (l : List (Int × Int)) : List (Int × Int) := l.flatMap fun x => pC x 2
theorem FJ {h x : Int × Int} {c : Int} : InR c (mB h x) ↔ (h.1 + h.2 ≤ c ∧ c ≤ h.1 + 25 + h.2 ∧ x.1 ≤ c - h.2 ∧ c - h.2 ≤ x.2) := by
  unfold mB
  split
  · rw [jB]; show max x.1 h.1 + h.2 ≤ c ∧ c ≤ min x.2 (h.1 + 25) + h.2 ↔ _; omega
  · refine ⟨fun h => (jV c h).elim, fun h => ?_⟩
    omega
theorem xW {x : Int × Int} {c : Int} : InR c (pC x 2) ↔ (97 ≤ c ∧ c ≤ 122 ∧ x.1 ≤ c - 32 ∧ c - 32 ≤ x.2) ∨ (65 ≤ c ∧ c ≤ 90 ∧ x.1 ≤ c + 32 ∧ c + 32 ≤ x.2) := by
  show InR c ((([] : List (Int × Int)) ++ mB (65, 32) x) ++ mB (97, -32) x) ↔ _
  rw [List.nil_append, mS, FJ, FJ]
  show (65 + 32 ≤ c ∧ c ≤ 65 + 25 + 32 ∧ x.1 ≤ c - 32 ∧ c - 32 ≤ x.2) ∨ (97 + -32 ≤ c ∧ c ≤ 97 + 25 + -32 ∧ x.1 ≤ c - -32 ∧ c - -32 ≤ x.2) ↔ _
  omega
theorem foldL_in {l : List (Int × Int)} {c : Int} : InR c (l ++ qL l) ↔ oD (fun c => InR c l) c := by
  rw [mS]
  unfold oD qL
  constructor
  · rintro (h | ⟨g, hg, h⟩)
    · exact .inl h
    · obtain ⟨x, hx, hgx⟩ := List.mem_flatMap.1 hg
      have h2 := xW.1 ⟨g, hgx, h⟩
      rcases h2 with h2 | h2
      · exact .inr (.inl ⟨h2.1, h2.2.1, x, hx, h2.2.2⟩)
      · exact .inr (.inr ⟨h2.1, h2.2.1, x, hx, h2.2.2⟩)
  · rintro (h | ⟨h1, h2, x, hx, h3⟩ | ⟨h1, h2, x, hx, h3⟩)
    · exact .inl h
    · obtain ⟨g, hg, h4⟩ := xW.2 (.inl ⟨h1, h2, h3⟩)
      exact .inr ⟨g, List.mem_flatMap.2 ⟨x, hx, hg⟩, h4⟩
    · obtain ⟨g, hg, h4⟩ := xW.2 (.inr ⟨h1, h2, h3⟩)
      exact .inr ⟨g, List.mem_flatMap.2 ⟨x, hx, hg⟩, h4⟩
theorem FH {j : Nat} {x : Int × Int} : Vr (mB (pB j) x) := fun g hg => by
  have hc := TZ j
  unfold mB at hg
  split at hg
  · rw [List.mem_singleton.1 hg]
    show 0 ≤ max x.1 (pB j).1 + (pB j).2 ∧ max x.1 (pB j).1 + (pB j).2 ≤ min x.2 ((pB j).1 + 25) + (pB j).2 ∧ _ ≤ (1114111 : Int)
    omega
  · cases hg
theorem UC {l : List (Int × Int)} : Vr (qL l) := fun g hg => by
  obtain ⟨x, hx, hgx⟩ := List.mem_flatMap.1 hg
  have hgx' : g ∈ (([] : List (Int × Int)) ++ mB (pB 0) x) ++ mB (pB 1) x := hgx
  rw [List.nil_append] at hgx'
  rcases List.mem_append.1 hgx' with h | h
  · exact FH g h
  · exact FH g h
theorem IV {l : List (Int × Int)} {k : Nat} (h : k < l.length) : qL (l.take (k + 1)) = qL (l.take k) ++ pC l[k] 2 := by
  unfold qL
  rw [List.take_add_one, List.getElem?_eq_getElem h, List.flatMap_append]; simp
theorem OX (h x : Int × Int) : (mB h x).length ≤ 1 := by unfold mB; split <;> simp
theorem BB (x : Int × Int) : ∀ j, (pC x j).length ≤ j
  | 0 => Nat.le_refl _
  | j + 1 => by rw [pC, List.length_append]; have := BB x j; have := OX (pB j) x; omega
structure FoG where
  k : Nat
  n : Nat
  sa : Option Addr
  sc : Nat
  so : Option Nat
structure FoI (w wr : World) (l o : List (Int × Int)) (a : Option Addr) (c : Nat) (ob : Option Nat) (x : FoG) (m : Nat) : Prop where
  hk : x.k ≤ m
  cl : OwnS wr 78 2 a l.length c (cW l) ob
  own : OwnS wr 78 2 x.sa x.n x.sc (cW o) x.so
  ge : Ge w x.so
  ap : Apart ob x.so
structure FiG where
  j : Nat
  n2 : Nat
  sa2 : Option Addr
  sc2 : Nat
  so2 : Option Nat
structure FiI (w wr : World) (l o : List (Int × Int)) (a : Option Addr) (c : Nat) (ob : Option Nat) (q : Nat) (g : Int × Int) (x : FiG) : Prop where
  hj : x.j ≤ 2
  cl : OwnS wr 78 2 a l.length c (cW l) ob
  own : OwnS wr 78 2 x.sa2 x.n2 x.sc2 (cW o) x.so2
  ge : Ge w x.so2
  ap : Apart ob x.so2
  b5 : wr.heap[q]? = some (.cells #[.int .i32 g.1, .int .i32 g.2] 78 (0, 0))
  s5 : Ge w (some q)
  ap5 : Apart (some q) x.so2
theorem BC {h x : Int × Int} (hc : max x.1 h.1 ≤ min x.2 (h.1 + 25)) : mB h x = [(max x.1 h.1 + h.2, min x.2 (h.1 + 25) + h.2)] := by unfold mB; rw [if_pos hc]
theorem FI {h x : Int × Int} (hc : ¬ max x.1 h.1 ≤ min x.2 (h.1 + 25)) : mB h x = [] := by unfold mB; rw [if_neg hc]
theorem xQ {a b : Int} : (if b < a then b else a) = min a b := by omega
theorem HK {l m : List (Int × Int)} (h : Vr l) (h2 : Vr m) : Vr (l ++ m) := fun g hg => (List.mem_append.1 hg).elim (h g) (h2 g)
theorem uW : ∀ l : List (Int × Int), (qL l).length ≤ 2 * l.length
  | [] => Nat.le_refl _
  | x :: l => by
    have h1 : qL (x :: l) = pC x 2 ++ qL l := List.flatMap_cons
    rw [h1, List.length_append, List.length_cons]; have := uW l; have := BB x 2; omega
theorem RsOut.evo {w w' : World} {v : Value} {S : Int → Prop} {n : Nat} (h : RsOut w w' v S n) : Evo [] w w' := by obtain ⟨_, _, _, _, _, _, _, _, _, h⟩ := h; exact h
theorem FE {S T : Int → Prop} (h : ∀ c, S c ↔ T c) (c : Int) : oD S c ↔ oD T c := by unfold oD; rw [h, h, h]
theorem OF {j : Nat} (hj : j < 2) (w : World) : (part 122 #[.int .i32 65, .int .i32 32, .int .i32 97, .int .i32 (-32)] (j * 2)).run Try.prog w = .ok (.agg #[.int .i32 (pB j).1, .int .i32 (pB j).2]) w := by
  rw [NY w LB oG]
  match j, hj with
  | 0, _ => rfl
  | 1, _ => rfl
theorem BA {w : World} {a : Option Addr} {c : Nat} {l : List (Int × Int)} {ob : Option Nat} (hO : OwnS w 78 2 a l.length c (cW l) ob) (hv : Vr l) (hl : l.length ≤ 300000) {S : Int → Prop} (hS : ∀ c, InR c l ↔ S c) :
    Calls Try.prog 56 #[.slice a l.length c] w (Ret fun v w' => RsOut w w' v (oD S) (3 * l.length)) := by
  refine bE (N := 54) Try.func56 rfl rfl rfl ?_; refine csr (wan (csr (aB ?_))); refine aL (vs := [_]) tM rfl (BI hO (by omega)) rfl ?_; rintro _ w1 ⟨a1, c1, ob1, rfl, d4, hg1, c6⟩; refine wan (aI (csr (aB (aA (aZ rfl Try.underlying34 rfl) ?_)))); refine aB (wnn (bJ ?_))
  refine dA (α := FoG) (⟨0, l.length, a1, c1, ob1⟩) (fun x => [(3, .slice x.sa x.n x.sc), (14, .int .i64 (x.k : Nat))]) [(2, _), (12, _), (13, _)] (fun x wr => Evo [] w wr ∧ (FoI w wr l (l ++ qL (l.take x.k)) a c ob x l.length ∧ x.n ≤ l.length + 2 * x.k)) (fun x => l.length - x.k) ⟨rfl, rfl, trivial⟩ ⟨rfl, rfl, rfl, trivial⟩ ⟨((Evo.refl [] w).then c6), ⟨⟨Nat.zero_le _, (hO.evo0 c6), by simp [qL]; exact d4, hg1, (Apart.fresh (Lt.own hO) hg1)⟩, Nat.le_refl _⟩⟩ ?_
  rintro ⟨k, n, sa, sc, so⟩ wr7 ⟨a7, ⟨⟨hk, hcl, hown, hge, hap⟩, hnl⟩⟩; show CW _ _ _ _ [(3, .slice sa n sc), (14, .int .i64 (k : Nat)), (2, _), (12, _), (13, _)] _
  try dsimp only at hk hcl hown hge hap hnl
  refine csr (aA (cU rfl rfl) ?_); refine wnn (aI (aW rfl (fun c7 => ?_) (fun c7 => ?_)))
  ·have hk' : k < l.length := by omega
   have hlk := hv _ (List.getElem_mem hk'); obtain ⟨g1, hg1', ha1, d5⟩ := oW hcl hk'; refine aM (aC (aI (bJ (csr ?_)))); refine aA (cP (n := k) rfl rfl ha1 fI (by omega)) ?_; refine aA (cY rfl lS fY (vs := [_, _]) rfl (d5.evo (Evo.refl ([]) wr7) (by simp))) ?_; refine cL rfl nQ fun b5 e3 c8 M a8 => ?_; have d6 := M; have b9 := Apart.new (Lt.own hown) M; refine aV rfl rfl fY c8 rfl rfl ⟨by first | rfl | assumption, by first | rfl | assumption, trivial⟩ fun e4 c0 b4 => ?_
   try simp only [cH, Nat.reduceAdd] at c0
   refine wnn (csr ?_); refine aA (sG (vs := [(0, _), (1, _)]) Try.underlying122 rJ iD rfl (cells := #[.int .i32 65, .int .i32 32]) (by kernel_rfl)) ?_; refine aA (sG (vs := [(0, _), (1, _)]) Try.underlying122 rJ iD rfl (cells := #[.int .i32 97, .int .i32 (-32)]) (by kernel_rfl)) ?_; refine aA (sG (vs := [(0, _), (1, _)]) Try.underlying123 GR oG rfl (cells := #[.int .i32 65, .int .i32 32, .int .i32 97, .int .i32 (-32)]) (by kernel_rfl)) ?_; refine aB (wnn (bJ ?_))
   refine dA (α := FiG) (⟨0, n, sa, sc, so⟩) (fun x => [(3, .slice x.sa2 x.n2 x.sc2), (21, .int .i64 (x.j : Nat))]) [(2, _), (5, _), (12, _), (13, _), (14, _), (20, _)] (fun x wr => Evo [] w wr ∧ (FiI w wr l (l ++ qL (l.take k) ++ pC l[k] x.j) a c ob b5 l[k] x ∧ x.n2 ≤ n + x.j)) (fun x => 2 - x.j) ⟨rfl, rfl, trivial⟩ ⟨rfl, rfl, rfl, rfl, rfl, rfl, trivial⟩ ⟨((a7.then a8).step b4 (Ge.new a7 M).mem1), ⟨⟨Nat.zero_le _, ((hcl.evo0 a8).evo b4 (Apart.new (Lt.own hcl) M).own1), by simp [pC]; exact ((hown.evo0 a8).evo b4 b9.own1), hge, hap, c0, (Ge.new a7 M), b9.symm⟩, Nat.le_refl _⟩⟩ ?_
   rintro ⟨j, n2, sa2, sc2, so2⟩ wr29 ⟨b6, ⟨⟨hj, hcl2, hown2, hge2, hap2, hb52, O, hap5⟩, hnl2⟩⟩; show CW _ _ _ _ [(3, .slice sa2 n2 sc2), (21, .int .i64 (j : Nat)), (2, _), (5, _), (12, _), (13, _), (14, _), (20, _)] _
   try dsimp only at hj hcl2 hown2 hge2 hap2 hb52 O hap5 hnl2
   refine csr (aA (cU rfl rfl) ?_); refine wnn (aI (aW rfl (fun d0 => ?_) (fun d0 => ?_)))
   ·have hj' : j < 2 := by omega
    have hhc := TZ j; refine aM (aC (aI (bJ (csr ?_)))); refine aA (NF (n := j) rfl rfl Try.underlying123 rfl (by omega) oG (OF hj')) ?_; refine cL rfl rJ fun b7 e5 d1 U a3 => ?_; have d7 := U; refine aV rfl rfl oG d1 rfl rfl ⟨by first | rfl | assumption, by first | rfl | assumption, trivial⟩ fun e6 c3 a4 => ?_
    try simp only [cH, Nat.reduceAdd] at c3
    refine wnn (aI ?_); refine fT (fun w0 w' => Evo [] w0 w') (by kernel_rfl) (fun A V => ?_); have I := ((b6.then a3).step a4 (Ge.new b6 U).mem1).then V; have a5 := ((hown2.evo0 a3).evo a4 (Apart.new (Lt.own hown2) U).own1).evo0 V; have J := ((hcl2.evo0 a3).evo a4 (Apart.new (Lt.own hcl2) U).own1).evo0 V; have D := V.blk0 (a4.blk (a3.blk0 hb52) (Apart.new (Lt.blk hb52) U).nmem1); have L := V.blk0 c3; refine aet 0 rfl (fun _ hS => aD rfl fU) (Evo.refl [] A) ?_; refine aet 1 rfl (fun _ hS => aS rfl cO (aY (hS.blk0 D) rfl)) (Evo.refl [] A) ?_; refine aet 2 rfl (fun _ hS => lM (n := 0) rfl rfl Try.underlying122 rfl (by omega) iD) (Evo.refl [] A) ?_; refine aet 3 rfl (fun _ hS => aS rfl cO (aY (hS.blk0 L) rfl)) (Evo.refl [] A) ?_; refine aet 5 rfl (fun _ hS => aD rfl eT) (Evo.refl [] A) ?_; refine aet 6 rfl (fun _ hS => aS rfl cO (aY (hS.blk0 D) rfl)) (Evo.refl [] A) ?_; refine aet 7 rfl (fun _ hS => lM (n := 0) rfl rfl Try.underlying122 rfl (by omega) iD) (Evo.refl [] A) ?_; refine aet 8 rfl (fun _ hS => aS rfl cO (aY (hS.blk0 L) rfl)) (Evo.refl [] A) ?_
    refine aet 9 rfl (fun _ hS => iN rfl rfl (by omega) (by omega)) (Evo.refl [] A) ?_; refine bV [4, 10] (by kernel_rfl) rfl ⟨?_, ?_, trivial⟩
    ·refine cA rfl ?_; refine aA (CY rfl rfl) ?_; refine aQ (bO (.inl (Evo.refl [] A)) ?_); refine aet 11 rfl (fun _ hS => eG rfl) (Evo.refl [] A) ?_; refine bV [10] (by kernel_rfl) rfl ⟨?_, trivial⟩; refine cA rfl ?_; refine aA (iW rfl rfl) ?_; refine aQ (bO (.inl (Evo.refl [] A)) ?_); refine aet 12 rfl (fun _ hS => eG rfl) (Evo.refl [] A) ?_; refine dH (by kernel_rfl) (aC ?_); refine csr (aB (aB (aA (eW rfl rfl) ?_))); refine wnn (aW rfl (fun B => ?_) (fun B => ?_))
     ·refine aG (aB (aB ?_)); refine aA (lM (n := 1) rfl rfl Try.underlying122 rfl (by omega) iD) ?_; refine aA (aS rfl cO (aY L rfl)) ?_; refine aA (iN rfl rfl (by omega) (by omega)) ?_; refine aB ?_; refine aA (lM (n := 1) rfl rfl Try.underlying122 rfl (by omega) iD) ?_; refine aA (aS rfl cO (aY L rfl)) ?_; refine aA (iN rfl rfl (by omega) (by omega)) ?_; refine aA (cC (vs := [(0, _), (1, _)]) kN rfl (cells := [_, _]) rfl) ?_; refine bM (vs := [_]) rfl gG rfl rfl rfl rfl fun e7 e8 d2 d9 F => ?_; refine cZ rfl rfl rfl rfl fJ (a5.evo0 F) (Src.ofOwn d2 ⟨by first | rfl | assumption, by first | rfl | assumption, trivial⟩) (by omega) fun a2 c2 e9 ob2 c4 b8 hob78 => ?_; refine bX (aQ (aP (aC (aG ?_)))); refine aA (aK rfl rfl (by omega) (by omega)) ?_; refine aB (aQ (bA ?_)); refine ⟨⟨j + 1, n2 + 1, a2, c2, ob2⟩, ?_, ⟨rfl, rfl, trivial⟩, ⟨rfl, rfl, rfl, rfl, rfl, rfl, trivial⟩, ((I.then F).step b8 hge2.mem), ?_⟩
      · (try dsimp only); omega
      try dsimp only
      refine ⟨⟨hj', ((J.evo0 F).evo b8 hap2.own), ?_, (hge2.app (I.then F) hob78), (hap2.app (Lt.own (J.evo0 F)) hob78), (b8.blk (F.blk0 D) hap5.nmem), O, (hap5.app (Lt.blk (F.blk0 D)) hob78)⟩, (by show n2 + 1 ≤ n + (j + 1); omega)⟩
      simp only [xR, xQ] at B; rw [pC, ← List.append_assoc, jF _ (mB (pB j) l[k]), BC B]; have a0 := c4; simp only [xR, xQ] at a0; exact a0
     refine aM (aP (aC (aG ?_))); refine aA (aK rfl rfl (by omega) (by omega)) ?_; refine aB (aQ (bA ?_)); refine ⟨⟨j + 1, n2, sa2, sc2, so2⟩, ?_, ⟨rfl, rfl, trivial⟩, ⟨rfl, rfl, rfl, rfl, rfl, rfl, trivial⟩, I, ?_⟩
     · (try dsimp only); omega
     try dsimp only
     simp only [xR, xQ] at B
     refine ⟨⟨hj', J, ?_, hge2, hap2, D, O, hap5⟩, (by show n2 ≤ n + (j + 1); omega)⟩
     rw [pC, FI B, List.append_nil]; exact a5
    refine cA rfl ?_; refine aA (iW rfl rfl) ?_; refine aQ (bO (.inl (Evo.refl [] A)) ?_); refine bV [4] (by kernel_rfl) rfl ⟨?_, trivial⟩; refine cA rfl ?_; refine aA (CY rfl rfl) ?_; refine aQ (bO (.inl (Evo.refl [] A)) ?_); refine aet 11 rfl (fun _ hS => eG rfl) (Evo.refl [] A) ?_; refine aet 12 rfl (fun _ hS => eG rfl) (Evo.refl [] A) ?_; refine dH (by kernel_rfl) (aC ?_); refine csr (aB (aB (aA (eW rfl rfl) ?_))); refine wnn (aW rfl (fun B => ?_) (fun B => ?_))
    ·refine aG (aB (aB ?_)); refine aA (lM (n := 1) rfl rfl Try.underlying122 rfl (by omega) iD) ?_; refine aA (aS rfl cO (aY L rfl)) ?_; refine aA (iN rfl rfl (by omega) (by omega)) ?_; refine aB ?_; refine aA (lM (n := 1) rfl rfl Try.underlying122 rfl (by omega) iD) ?_; refine aA (aS rfl cO (aY L rfl)) ?_; refine aA (iN rfl rfl (by omega) (by omega)) ?_; refine aA (cC (vs := [(0, _), (1, _)]) kN rfl (cells := [_, _]) rfl) ?_; refine bM (vs := [_]) rfl gG rfl rfl rfl rfl fun f0 f5 d3 e0 H => ?_; refine cZ rfl rfl rfl rfl fJ (a5.evo0 H) (Src.ofOwn d3 ⟨by first | rfl | assumption, by first | rfl | assumption, trivial⟩) (by omega) fun a2 c2 e1 ob2 c4 a6 hob110 => ?_; refine bX (aQ (aP (aC (aG ?_)))); refine aA (aK rfl rfl (by omega) (by omega)) ?_; refine aB (aQ (bA ?_)); refine ⟨⟨j + 1, n2 + 1, a2, c2, ob2⟩, ?_, ⟨rfl, rfl, trivial⟩, ⟨rfl, rfl, rfl, rfl, rfl, rfl, trivial⟩, ((I.then H).step a6 hge2.mem), ?_⟩
     · (try dsimp only); omega
     try dsimp only
     refine ⟨⟨hj', ((J.evo0 H).evo a6 hap2.own), ?_, (hge2.app (I.then H) hob110), (hap2.app (Lt.own (J.evo0 H)) hob110), (a6.blk (H.blk0 D) hap5.nmem), O, (hap5.app (Lt.blk (H.blk0 D)) hob110)⟩, (by show n2 + 1 ≤ n + (j + 1); omega)⟩
     simp only [xR, xQ] at B; rw [pC, ← List.append_assoc, jF _ (mB (pB j) l[k]), BC B]; have a0 := c4; simp only [xR, xQ] at a0; exact a0
    refine aM (aP (aC (aG ?_))); refine aA (aK rfl rfl (by omega) (by omega)) ?_; refine aB (aQ (bA ?_)); refine ⟨⟨j + 1, n2, sa2, sc2, so2⟩, ?_, ⟨rfl, rfl, trivial⟩, ⟨rfl, rfl, rfl, rfl, rfl, rfl, trivial⟩, I, ?_⟩
    · (try dsimp only); omega
    try dsimp only
    simp only [xR, xQ] at B
    refine ⟨⟨hj', J, ?_, hge2, hap2, D, O, hap5⟩, (by show n2 ≤ n + (j + 1); omega)⟩
    rw [pC, FI B, List.append_nil]; exact a5
   refine cN (bL (bL (cM (aP (aC ?_))))); refine aG ?_; refine aA (aK rfl rfl (by omega) (by omega)) ?_; refine aB (aQ (bA ?_)); refine ⟨⟨k + 1, n2, sa2, sc2, so2⟩, ?_, ⟨rfl, rfl, trivial⟩, ⟨rfl, rfl, rfl, trivial⟩, b6, ?_⟩
   · (try dsimp only); omega
   try dsimp only
   obtain rfl : j = 2 := by omega
   refine ⟨⟨hk', hcl2, ?_, hge2, hap2⟩, (by show n2 ≤ l.length + 2 * (k + 1); omega)⟩
   rw [IV hk', ← List.append_assoc]; exact hown2
  rw [List.take_of_length_le (show l.length ≤ k by omega)] at hown; have hfl := uW l; have d8 := pV hown; subst d8; refine cN (bL (bL (cM (aC ?_)))); refine csr (aB ?_)
  refine aL (vs := [_]) tJ rfl (uU hown (HK hv UC) (by rw [List.length_append]; omega) (fun c => foldL_in.trans (FE hS c))) rfl ?_
  rintro rv e2 hR; have c5 := hR.evo; refine wan (aH (br1 ?_)); obtain ⟨a9, c9, ob9, rfl, a0, hg9, hl9, hcan9, heq9, hev9⟩ := hR
  exact ⟨a9, c9, ob9, rfl, a0, Ge.fresh a7 hg9, by rw [List.length_append] at hl9; have := uW l; omega, hcan9, heq9, (a7.then c5)⟩
theorem dI : Build Try.prog 37 #[(0, 1), (1, 1), (2, 1), (3, 1), (4, 1), (5, 1), (6, 1), (7, 1), (8, 1)] #[.int .i64 0, .int .i32 0, .slice none 0 0, .int .i64 0, .int .i64 0, .bool false, .int .i64 0, .string ByteArray.empty, .slice none 0 0] := ⟨_, .agg #[.int .i64 0, .int .i32 0, .slice none 0 0, .int .i64 0, .int .i64 0, .bool false, .int .i64 0, .string ByteArray.empty, .slice none 0 0], Try.underlying37, by kernel_rfl, rfl, fun w => by kernel_rfl⟩
theorem dF : dY Try.prog 48 := ⟨_, Try.func48, by kernel_rfl, by kernel_rfl⟩
theorem lQ : dY Try.prog 57 := ⟨_, Try.func57, by kernel_rfl, by kernel_rfl⟩
theorem cS : pN Try.prog 114 = some (21, 1) := by kernel_rfl
def zK (w w' : World) (v : Value) (S : Int → Prop) (n : Nat) : Prop := ∃ a c ob l, v = .slice a l.length c ∧ OwnS w' 78 2 a l.length c (cW l) ob ∧ Ge w ob ∧ Vr l ∧ (∀ c, InR c l ↔ S c) ∧ l.length ≤ n
theorem RsOut.set {X : List Nat} {w0 w w' : World} {v : Value} {S : Int → Prop} {n : Nat} (h : RsOut w w' v S n) (he : Evo X w0 w) : zK w0 w' v S n := by
  obtain ⟨a, c, ob, h1, h2, h3, h4, h5, h6, -⟩ := h
  exact ⟨a, c, ob, jC S, h1, h2, Ge.fresh he h3, vA h5, h6, h4⟩
theorem uA {S : Int → Prop} {m : List (Int × Int)} (e : jC S = m) (h1 : m.length = 1) (h2 : (m[0]'(by omega)).1 = (m[0]'(by omega)).2) : iZ S = lD (m[0]'(by omega)).1 := by
  obtain ⟨⟨a, b⟩, rfl⟩ := List.length_eq_one_iff.1 h1
  have h2' : a = b := h2
  unfold iZ
  rw [e]
  show (if a = b then lD a else nC [(a, b)]) = _
  rw [if_pos h2']; rfl
theorem nJ {S : Int → Prop} {m : List (Int × Int)} (e : jC S = m) (h : ∀ h1 : m.length = 1, ¬ (m[0]'(by omega)).1 = (m[0]'(by omega)).2) : iZ S = nC m := by
  unfold iZ
  rw [e]
  match m, h with
  | [], h => rfl
  | [(a, b)], h =>
    have h2 : ¬ a = b := h rfl
    show (if a = b then lD a else nC [(a, b)]) = _
    rw [if_neg h2]
  | a :: b :: l, h => rfl
theorem or_c : ∀ c : Nat, c < 256 → ((c ||| 32 = 100 → c = 68 ∨ c = 100) ∧ (c ||| 32 = 115 → c = 83 ∨ c = 115) ∧ (c ||| 32 = 119 → c = 87 ∨ c = 119)) ∧ (c ||| 32 ≠ 100 → c ≠ 68 ∧ c ≠ 100) ∧ (c ||| 32 ≠ 115 → c ≠ 83 ∧ c ≠ 115) ∧ (c ||| 32 ≠ 119 → c ≠ 87 ∧ c ≠ 119) := by
  have h : ∀ c : Fin 256, ((c.1 ||| 32 = 100 → c.1 = 68 ∨ c.1 = 100) ∧ (c.1 ||| 32 = 115 → c.1 = 83 ∨ c.1 = 115) ∧ (c.1 ||| 32 = 119 → c.1 = 87 ∨ c.1 = 119)) ∧ (c.1 ||| 32 ≠ 100 → c.1 ≠ 68 ∧ c.1 ≠ 100) ∧ (c.1 ||| 32 ≠ 115 → c.1 ≠ 83 ∧ c.1 ≠ 115) ∧ (c.1 ||| 32 ≠ 119 → c.1 ≠ 87 ∧ c.1 ≠ 119) := by decide +kernel
  exact fun c hc => h ⟨c, hc⟩
theorem gM {l : List (Int × Int)} (h : l.all (fun g => decide (0 ≤ g.1) && decide (g.1 ≤ g.2) && decide (g.2 ≤ 1114111)) = true) : Vr l := fun g hg => by
  have := List.all_eq_true.1 h g hg
  simp only [Bool.and_eq_true, decide_eq_true_eq] at this
  exact ⟨this.1.1, this.1.2, this.2⟩
theorem uV {c : Nat} (h : c ≠ 100 ∧ c ≠ 115 ∧ c ≠ 119 ∧ c ≠ 68 ∧ c ≠ 83 ∧ c ≠ 87) : vY c = none := by
  unfold vY; rw [if_neg h.1, if_neg h.2.1, if_neg h.2.2.1, if_neg h.2.2.2.1, if_neg h.2.2.2.2.1, if_neg h.2.2.2.2.2]
def LetOut (w w' : World) (v : Value) (o : Option (Int → Prop)) : Prop := (o = none ∧ v = .tuple #[.slice none 0 0, .bool false]) ∨ ∃ S v', o = some S ∧ v = .tuple #[v', .bool true] ∧ zK w w' v' S 8
theorem mR {w : World} {a : Option Addr} {c : Nat} {l : List (Int × Int)} {ob : Option Nat} (hO : OwnS w 78 2 a l.length c (cW l) ob) (hv : Vr l) (hl : l.length ≤ 1000000) {S : Int → Prop} (hS : ∀ c, InR c l ↔ S c) :
    Calls Try.prog 47 #[.slice a l.length c] w (Ret fun v w' => TOut w w' v (iZ S) ∧ Evo [] w w') := by
  refine bE (N := 26) Try.func47 rfl rfl rfl ?_; refine csr (cL rfl eN fun b2 w1 H a4 a8 => ?_); have a9 := a4; have I := Ge.new (Evo.refl [] w) a4; have B := (Evo.refl [] w).then a8; refine wnn (csr (aB (aL (vs := [_]) tJ rfl (uU (hO.evo0 B) hv hl hS) rfl ?_))); rintro _ w7 ⟨a1, c1, ob1, rfl, J, hg1, hml, hcan, heqS, F⟩; have a5 := Apart.fresh (Lt.blk H) hg1
  generalize hm : jC S = m at *
  refine wan (aI (aI ?_)); refine eH (by kernel_rfl) (by kernel_rfl) ?_; refine bD (fun _ A => aX rfl) ?_; refine bD (fun _ A => aZ rfl Try.underlying34 rfl) ?_; refine bD (fun _ A => lL rfl rfl) ?_; refine bD (fun _ A => aX rfl) ?_; refine jT (t := 8) rfl (fun b4 => ?_) (fun b4 => ?_)
  ·have hm1 : m.length = 1 := by omega
   obtain ⟨g1, hg1', ha1, L⟩ := oW J (i := 0) (by omega); refine qlg ?_; refine bD (fun _ A => aX rfl) ?_; refine qlg ?_; refine bD (fun _ A => cP (n := 0) rfl rfl ha1 fI (by omega)) ?_; refine qlg ?_; refine bD (fun _ A => aD rfl fU) ?_; refine qlg ?_; refine bD (fun _ A => aS rfl cO ((((Evo.refl ([]) w7).then A)).cell (L 0 _ rfl) (by simp))) ?_; refine qlg ?_; refine bD (fun _ A => aX rfl) ?_; refine qlg ?_; refine bD (fun _ A => cP (n := 0) rfl rfl ha1 fI (by omega)) ?_; refine qlg ?_; refine bD (fun _ A => aD rfl eT) ?_; refine qlg ?_; refine bD (fun _ A => aS rfl cO ((((Evo.refl ([]) w7).then A)).cell (L 1 _ rfl) (by simp))) ?_; refine qlg ?_; refine bD (fun _ A => lL rfl rfl) ?_; refine bD (fun _ A => fV rfl rfl) ?_; refine eL (fun a6 A => aC ?_); have M := (B.then F).then A; have O := A.blk0 (F.blk0 H); refine aW rfl (fun D => ?_) (fun D => ?_)
   ·refine csr (aB ?_); refine aA (cP (n := 0) rfl rfl ha1 fI (by omega)) ?_; refine aA (aD rfl fU) ?_; refine aA (aS rfl cO ((((Evo.refl ([]) w7).then A)).cell (L 0 _ rfl) (by simp))) ?_; refine aA (cC (vs := [(0, _), (1, _)]) dI rfl (cells := [_, _, _, _, _, _, _, _, _]) rfl) ?_; refine aV rfl rfl aU O rfl rfl ⟨by first | rfl | assumption, by first | rfl | assumption, by first | rfl | assumption, by first | rfl | assumption, by first | rfl | assumption, by first | rfl | assumption, by first | rfl | assumption, by first | rfl | assumption, by first | rfl | assumption, trivial⟩ fun b5 U a7 => ?_
    try simp only [cH, Nat.reduceAdd] at U
    refine wnn (aH (aE (cI rfl (ResOk.cellA rfl bZ aU U rfl) ?_))); refine ⟨?_, (M.step a7 I.mem1)⟩; rw [uA hm hm1 (by simpa using D)]; exact ⟨_, [], rfl, ot_lit _ _, Fr.nil _⟩
   refine aM (aC (csr (aB (aA (cC (vs := [(0, _), (2, _)]) dI rfl (cells := [_, _, _, _, _, _, _, _, _]) rfl) ?_)))); refine aV rfl rfl aU O rfl rfl ⟨by first | rfl | assumption, by first | rfl | assumption, by first | rfl | assumption, by first | rfl | assumption, by first | rfl | assumption, by first | rfl | assumption, by first | rfl | assumption, by first | rfl | assumption, by first | rfl | assumption, trivial⟩ fun b6 V a0 => ?_
   try simp only [cH, Nat.reduceAdd] at V
   refine wnn (aH (cI rfl (ResOk.cellA rfl bZ aU V rfl) ?_)); refine ⟨?_, (M.step a0 I.mem1)⟩; rw [nJ hm (fun h1 => by simpa using D)]; exact ⟨_, _, rfl, SN ((J.evo0 A).evo a0 a5.symm.own1) (by omega), ge_fr (Ge.fresh B hg1)⟩
  refine qln ?_; refine qln ?_; refine qln ?_; refine qln ?_; refine qln ?_; refine qln ?_; refine qln ?_; refine qln ?_; refine qln ?_; refine bD (fun _ A => gI rfl rfl) ?_; refine eL (fun a6 A => aC ?_); refine cK rfl ?_; refine aM (aC (csr (aB (aA (cC (vs := [(0, _), (2, _)]) dI rfl (cells := [_, _, _, _, _, _, _, _, _]) rfl) ?_)))); refine aV rfl rfl aU (A.blk0 (F.blk0 H)) rfl rfl ⟨by first | rfl | assumption, by first | rfl | assumption, by first | rfl | assumption, by first | rfl | assumption, by first | rfl | assumption, by first | rfl | assumption, by first | rfl | assumption, by first | rfl | assumption, by first | rfl | assumption, trivial⟩ fun b7 a2 a3 => ?_
  try simp only [cH, Nat.reduceAdd] at a2
  refine wnn (aH (cI rfl (ResOk.cellA rfl bZ aU a2 rfl) ?_)); refine ⟨?_, (((B.then F).then A).step a3 I.mem1)⟩; rw [nJ hm (fun h1 => by omega)]; exact ⟨_, _, rfl, SN ((J.evo0 A).evo a3 a5.symm.own1) (by omega), ge_fr (Ge.fresh B hg1)⟩
theorem rY {w w' : World} {v : Value} {S : Int → Prop} {n m : Nat} (h : zK w w' v S n) (hm : n ≤ m) : zK w w' v S m := by
  obtain ⟨a, c, ob, l, h1, h2, h3, h4, h5, h6⟩ := h
  exact ⟨a, c, ob, l, h1, h2, h3, h4, h5, Nat.le_trans h6 hm⟩
theorem uB {w : World} (c : Nat) (hc : c < 256) :
    Calls Try.prog 59 #[.int .u8 (c : Nat)] w (Ret fun v w' => LetOut w w' v (vY c) ∧ Evo [] w w') := by
  have hor := or_c c hc; refine bE (N := 31) Try.func59 rfl rfl rfl ?_; refine csr (bX (wan (csr (wan (aI (csr (aB ?_))))))); refine aA (ex_orN (m := c) (n := 32) rfl rfl rfl rfl rfl hc (by decide)) ?_; refine wnn (bJ (csr (wel ?_))); refine wan (aW rfl (fun b4 => ?_) (fun b4 => ?_))
  ·have hcs := hor.1.1 (by omega); refine aG (bM (vs := [_, _]) rfl cS rfl rfl rfl rfl fun b1 w2 b5 c0 b6 => ?_); have O := (Evo.refl [] w).then b6; refine aL (vs := [_]) dF rfl (fM (es := [48, 57]) b5 (by decide)) rfl ?_; rintro _ w8 ⟨a1, c1, ob1, rfl, D, hg1, b7⟩; have H := O.then b7; refine bX (aQ (aP (aC (aI (csr (aB (wnn (bJ (aI (csr (wel ?_))))))))))); refine wan (aW rfl (fun A => ?_) (fun A => ?_))
   ·refine aM (aC (aW rfl (fun A => ?_) (fun A => ?_)))
    ·refine aG (aB ?_); refine aL (vs := [_]) lQ rfl (lJ (l := [(48, 57)]) D (gM (by kernel_rfl)) (by decide) (fun c => Iff.rfl)) rfl ?_; rintro rv c2 hR; have F := H; have U := hR.evo; refine bX (aQ (aP (aC (csr (aB (bX (wan (aH (cJ rfl rfl rfl ?_)))))))))
     obtain rfl : c = 68 := by omega
     exact ⟨.inr ⟨_, _, rfl, rfl, rY (hR.set F) (by decide)⟩, (H.then U)⟩
    exfalso; omega
   refine csr (wel ?_); refine wan (aW rfl (fun A => ?_) (fun A => ?_))
   ·exfalso; omega
   refine aG (wel ?_); refine wan (aW rfl (fun A => ?_) (fun A => ?_))
   ·exfalso; omega
   refine aI (csr (wel ?_)); refine wan (aW rfl (fun B => ?_) (fun B => ?_))
   ·refine aM (aC (aW rfl (fun B => ?_) (fun B => ?_)))
    ·refine aM (aP (aC (csr (aB (bX (wan (aH (cJ rfl rfl rfl ?_))))))))
     obtain rfl : c = 100 := by omega
     exact ⟨.inr ⟨_, _, rfl, rfl, _, _, _, [(48, 57)], rfl, D, (Ge.fresh O hg1), gM (by kernel_rfl), fun c => Iff.rfl, by decide⟩, H⟩
    exfalso; omega
   exfalso; omega
  refine csr (wel ?_); refine wan (aW rfl (fun V => ?_) (fun V => ?_))
  ·have hcs := hor.1.2.1 (by omega); refine aG (bM (vs := [_, _, _, _, _, _]) rfl cS rfl rfl rfl rfl fun c3 c4 a0 b8 a2 => ?_); have L := (Evo.refl [] w).then a2; refine aL (vs := [_]) dF rfl (fM (es := [9, 10, 12, 13, 32, 32]) a0 (by decide)) rfl ?_; rintro _ c5 ⟨a1, c1, ob1, rfl, D, hg1, a3⟩; have I := L.then a3; refine bX (aQ (aP (aC (aI (csr (aB (wnn (bJ (aI (csr (wel ?_))))))))))); refine wan (aW rfl (fun A => ?_) (fun A => ?_))
   ·exfalso; omega
   refine csr (wel ?_); refine wan (aW rfl (fun A => ?_) (fun A => ?_))
   ·refine aM (aC (aW rfl (fun A => ?_) (fun A => ?_)))
    ·refine aG (aB ?_); refine aL (vs := [_]) lQ rfl (lJ (l := [(9, 10), (12, 13), (32, 32)]) D (gM (by kernel_rfl)) (by decide) (fun c => Iff.rfl)) rfl ?_; rintro rv c6 hR; have F := I; have a4 := hR.evo; refine bX (aQ (aP (aC (csr (aB (bX (wan (aH (cJ rfl rfl rfl ?_)))))))))
     obtain rfl : c = 83 := by omega
     exact ⟨.inr ⟨_, _, rfl, rfl, rY (hR.set F) (by decide)⟩, (I.then a4)⟩
    exfalso; omega
   refine aG (wel ?_); refine wan (aW rfl (fun A => ?_) (fun A => ?_))
   ·exfalso; omega
   refine aI (csr (wel ?_)); refine wan (aW rfl (fun B => ?_) (fun B => ?_))
   ·exfalso; omega
   refine csr (wel ?_); refine wan (aW rfl (fun B => ?_) (fun B => ?_))
   ·refine aM (aC (aW rfl (fun B => ?_) (fun B => ?_)))
    ·refine aM (aP (aC (csr (aB (bX (wan (aH (cJ rfl rfl rfl ?_))))))))
     obtain rfl : c = 115 := by omega
     exact ⟨.inr ⟨_, _, rfl, rfl, _, _, _, [(9, 10), (12, 13), (32, 32)], rfl, D, (Ge.fresh L hg1), gM (by kernel_rfl), fun c => Iff.rfl, by decide⟩, I⟩
    exfalso; omega
   exfalso; omega
  refine csr (wel ?_); refine wan (aW rfl (fun a5 => ?_) (fun a5 => ?_))
  ·have hcs := hor.1.2.2 (by omega); refine aG (bM (vs := [_, _, _, _, _, _, _, _]) rfl cS rfl rfl rfl rfl fun c7 c8 a6 b9 a7 => ?_); have M := (Evo.refl [] w).then a7; refine aL (vs := [_]) dF rfl (fM (es := [48, 57, 65, 90, 95, 95, 97, 122]) a6 (by decide)) rfl ?_; rintro _ c9 ⟨a1, c1, ob1, rfl, D, hg1, a8⟩; have J := M.then a8; refine bX (aQ (aP (aC (aI (csr (aB (wnn (bJ (aI (csr (wel ?_))))))))))); refine wan (aW rfl (fun A => ?_) (fun A => ?_))
   ·exfalso; omega
   refine csr (wel ?_); refine wan (aW rfl (fun A => ?_) (fun A => ?_))
   ·exfalso; omega
   refine aG (wel ?_); refine wan (aW rfl (fun A => ?_) (fun A => ?_))
   ·refine aG (aB ?_); refine aL (vs := [_]) lQ rfl (lJ (l := [(48, 57), (65, 90), (95, 95), (97, 122)]) D (gM (by kernel_rfl)) (by decide) (fun c => Iff.rfl)) rfl ?_; rintro rv d0 hR; have F := J; have a9 := hR.evo; refine bX (aQ (aP (aC (csr (aB (bX (wan (aH (cJ rfl rfl rfl ?_)))))))))
    obtain rfl : c = 87 := by omega
    exact ⟨.inr ⟨_, _, rfl, rfl, rY (hR.set F) (by decide)⟩, (J.then a9)⟩
   refine aI (csr (wel ?_)); refine wan (aW rfl (fun B => ?_) (fun B => ?_))
   ·exfalso; omega
   refine csr (wel ?_); refine wan (aW rfl (fun B => ?_) (fun B => ?_))
   ·exfalso; omega
   refine aG (wel ?_); refine wan (aW rfl (fun B => ?_) (fun B => ?_))
   ·refine aM (aP (aC (csr (aB (bX (wan (aH (cJ rfl rfl rfl ?_))))))))
    obtain rfl : c = 119 := by omega
    exact ⟨.inr ⟨_, _, rfl, rfl, _, _, _, [(48, 57), (65, 90), (95, 95), (97, 122)], rfl, D, (Ge.fresh M hg1), gM (by kernel_rfl), fun c => Iff.rfl, by decide⟩, J⟩
   exfalso; omega
  refine csr (bX (wan (aH (aN (aE (cJ rfl rfl rfl ?_))))))
  exact ⟨.inl ⟨uV (by have := hor.2; omega), rfl⟩, (Evo.refl [] w)⟩
theorem rQ : cX Try.prog 59 0 = some 0 := by kernel_rfl
theorem eJ : cX Try.prog 61 2 = some 2 := by kernel_rfl
theorem iQ : dY Try.prog 47 := ⟨_, Try.func47, by kernel_rfl, by kernel_rfl⟩
theorem yY : dY Try.prog 56 := ⟨_, Try.func56, by kernel_rfl, by kernel_rfl⟩
theorem nam0 {n : ByteArray} (h : n = asc [97, 108, 110, 117, 109]) : iJ n = some (rs [(48, 57), (65, 90), (97, 122)]) := by unfold iJ; rw [if_pos h]
theorem nam1 {n : ByteArray} (h0 : ¬ n = asc [97, 108, 110, 117, 109]) (h : n = asc [97, 108, 112, 104, 97]) : iJ n = some (rs [(65, 90), (97, 122)]) := by unfold iJ; rw [if_neg h0, if_pos h]
theorem nam2 {n : ByteArray} (h0 : ¬ n = asc [97, 108, 110, 117, 109]) (h1 : ¬ n = asc [97, 108, 112, 104, 97]) (h : n = asc [97, 115, 99, 105, 105]) : iJ n = some (rs [(0, 127)]) := by unfold iJ; rw [if_neg h0, if_neg h1, if_pos h]
theorem nam3 {n : ByteArray} (h0 : ¬ n = asc [97, 108, 110, 117, 109]) (h1 : ¬ n = asc [97, 108, 112, 104, 97]) (h2 : ¬ n = asc [97, 115, 99, 105, 105]) (h : n = asc [98, 108, 97, 110, 107]) : iJ n = some (rs [(9, 9), (32, 32)]) := by unfold iJ; rw [if_neg h0, if_neg h1, if_neg h2, if_pos h]
theorem nam4 {n : ByteArray} (h0 : ¬ n = asc [97, 108, 110, 117, 109]) (h1 : ¬ n = asc [97, 108, 112, 104, 97]) (h2 : ¬ n = asc [97, 115, 99, 105, 105]) (h3 : ¬ n = asc [98, 108, 97, 110, 107]) (h : n = asc [99, 110, 116, 114, 108]) : iJ n = some (rs [(0, 31), (127, 127)]) := by unfold iJ; rw [if_neg h0, if_neg h1, if_neg h2, if_neg h3, if_pos h]
theorem nam5 {n : ByteArray} (h0 : ¬ n = asc [97, 108, 110, 117, 109]) (h1 : ¬ n = asc [97, 108, 112, 104, 97]) (h2 : ¬ n = asc [97, 115, 99, 105, 105]) (h3 : ¬ n = asc [98, 108, 97, 110, 107]) (h4 : ¬ n = asc [99, 110, 116, 114, 108]) (h : n = asc [100, 105, 103, 105, 116]) : iJ n = some (rs [(48, 57)]) := by unfold iJ; rw [if_neg h0, if_neg h1, if_neg h2, if_neg h3, if_neg h4, if_pos h]
theorem nam6 {n : ByteArray} (h0 : ¬ n = asc [97, 108, 110, 117, 109]) (h1 : ¬ n = asc [97, 108, 112, 104, 97]) (h2 : ¬ n = asc [97, 115, 99, 105, 105]) (h3 : ¬ n = asc [98, 108, 97, 110, 107]) (h4 : ¬ n = asc [99, 110, 116, 114, 108]) (h5 : ¬ n = asc [100, 105, 103, 105, 116]) (h : n = asc [103, 114, 97, 112, 104]) : iJ n = some (rs [(33, 126)]) := by unfold iJ; rw [if_neg h0, if_neg h1, if_neg h2, if_neg h3, if_neg h4, if_neg h5, if_pos h]
theorem nam7 {n : ByteArray} (h0 : ¬ n = asc [97, 108, 110, 117, 109]) (h1 : ¬ n = asc [97, 108, 112, 104, 97]) (h2 : ¬ n = asc [97, 115, 99, 105, 105]) (h3 : ¬ n = asc [98, 108, 97, 110, 107]) (h4 : ¬ n = asc [99, 110, 116, 114, 108]) (h5 : ¬ n = asc [100, 105, 103, 105, 116]) (h6 : ¬ n = asc [103, 114, 97, 112, 104]) (h : n = asc [108, 111, 119, 101, 114]) : iJ n = some (rs [(97, 122)]) := by unfold iJ; rw [if_neg h0, if_neg h1, if_neg h2, if_neg h3, if_neg h4, if_neg h5, if_neg h6, if_pos h]
theorem nam8 {n : ByteArray} (h0 : ¬ n = asc [97, 108, 110, 117, 109]) (h1 : ¬ n = asc [97, 108, 112, 104, 97]) (h2 : ¬ n = asc [97, 115, 99, 105, 105]) (h3 : ¬ n = asc [98, 108, 97, 110, 107]) (h4 : ¬ n = asc [99, 110, 116, 114, 108]) (h5 : ¬ n = asc [100, 105, 103, 105, 116]) (h6 : ¬ n = asc [103, 114, 97, 112, 104]) (h7 : ¬ n = asc [108, 111, 119, 101, 114]) (h : n = asc [112, 114, 105, 110, 116]) : iJ n = some (rs [(32, 126)]) := by unfold iJ; rw [if_neg h0, if_neg h1, if_neg h2, if_neg h3, if_neg h4, if_neg h5, if_neg h6, if_neg h7, if_pos h]
theorem nam9 {n : ByteArray} (h0 : ¬ n = asc [97, 108, 110, 117, 109]) (h1 : ¬ n = asc [97, 108, 112, 104, 97]) (h2 : ¬ n = asc [97, 115, 99, 105, 105]) (h3 : ¬ n = asc [98, 108, 97, 110, 107]) (h4 : ¬ n = asc [99, 110, 116, 114, 108]) (h5 : ¬ n = asc [100, 105, 103, 105, 116]) (h6 : ¬ n = asc [103, 114, 97, 112, 104]) (h7 : ¬ n = asc [108, 111, 119, 101, 114]) (h8 : ¬ n = asc [112, 114, 105, 110, 116]) (h : n = asc [112, 117, 110, 99, 116]) : iJ n = some (rs [(33, 47), (58, 64), (91, 96), (123, 126)]) := by unfold iJ; rw [if_neg h0, if_neg h1, if_neg h2, if_neg h3, if_neg h4, if_neg h5, if_neg h6, if_neg h7, if_neg h8, if_pos h]
theorem nam10 {n : ByteArray} (h0 : ¬ n = asc [97, 108, 110, 117, 109]) (h1 : ¬ n = asc [97, 108, 112, 104, 97]) (h2 : ¬ n = asc [97, 115, 99, 105, 105]) (h3 : ¬ n = asc [98, 108, 97, 110, 107]) (h4 : ¬ n = asc [99, 110, 116, 114, 108]) (h5 : ¬ n = asc [100, 105, 103, 105, 116]) (h6 : ¬ n = asc [103, 114, 97, 112, 104]) (h7 : ¬ n = asc [108, 111, 119, 101, 114]) (h8 : ¬ n = asc [112, 114, 105, 110, 116]) (h9 : ¬ n = asc [112, 117, 110, 99, 116]) (h : n = asc [115, 112, 97, 99, 101]) : iJ n = some (rs [(9, 13), (32, 32)]) := by unfold iJ; rw [if_neg h0, if_neg h1, if_neg h2, if_neg h3, if_neg h4, if_neg h5, if_neg h6, if_neg h7, if_neg h8, if_neg h9, if_pos h]
theorem nam11 {n : ByteArray} (h0 : ¬ n = asc [97, 108, 110, 117, 109]) (h1 : ¬ n = asc [97, 108, 112, 104, 97]) (h2 : ¬ n = asc [97, 115, 99, 105, 105]) (h3 : ¬ n = asc [98, 108, 97, 110, 107]) (h4 : ¬ n = asc [99, 110, 116, 114, 108]) (h5 : ¬ n = asc [100, 105, 103, 105, 116]) (h6 : ¬ n = asc [103, 114, 97, 112, 104]) (h7 : ¬ n = asc [108, 111, 119, 101, 114]) (h8 : ¬ n = asc [112, 114, 105, 110, 116]) (h9 : ¬ n = asc [112, 117, 110, 99, 116]) (h10 : ¬ n = asc [115, 112, 97, 99, 101]) (h : n = asc [117, 112, 112, 101, 114]) : iJ n = some (rs [(65, 90)]) := by unfold iJ; rw [if_neg h0, if_neg h1, if_neg h2, if_neg h3, if_neg h4, if_neg h5, if_neg h6, if_neg h7, if_neg h8, if_neg h9, if_neg h10, if_pos h]
theorem nam12 {n : ByteArray} (h0 : ¬ n = asc [97, 108, 110, 117, 109]) (h1 : ¬ n = asc [97, 108, 112, 104, 97]) (h2 : ¬ n = asc [97, 115, 99, 105, 105]) (h3 : ¬ n = asc [98, 108, 97, 110, 107]) (h4 : ¬ n = asc [99, 110, 116, 114, 108]) (h5 : ¬ n = asc [100, 105, 103, 105, 116]) (h6 : ¬ n = asc [103, 114, 97, 112, 104]) (h7 : ¬ n = asc [108, 111, 119, 101, 114]) (h8 : ¬ n = asc [112, 114, 105, 110, 116]) (h9 : ¬ n = asc [112, 117, 110, 99, 116]) (h10 : ¬ n = asc [115, 112, 97, 99, 101]) (h11 : ¬ n = asc [117, 112, 112, 101, 114]) (h : n = asc [119, 111, 114, 100]) : iJ n = some (rs [(48, 57), (65, 90), (95, 95), (97, 122)]) := by unfold iJ; rw [if_neg h0, if_neg h1, if_neg h2, if_neg h3, if_neg h4, if_neg h5, if_neg h6, if_neg h7, if_neg h8, if_neg h9, if_neg h10, if_neg h11, if_pos h]
theorem nam13 {n : ByteArray} (h0 : ¬ n = asc [97, 108, 110, 117, 109]) (h1 : ¬ n = asc [97, 108, 112, 104, 97]) (h2 : ¬ n = asc [97, 115, 99, 105, 105]) (h3 : ¬ n = asc [98, 108, 97, 110, 107]) (h4 : ¬ n = asc [99, 110, 116, 114, 108]) (h5 : ¬ n = asc [100, 105, 103, 105, 116]) (h6 : ¬ n = asc [103, 114, 97, 112, 104]) (h7 : ¬ n = asc [108, 111, 119, 101, 114]) (h8 : ¬ n = asc [112, 114, 105, 110, 116]) (h9 : ¬ n = asc [112, 117, 110, 99, 116]) (h10 : ¬ n = asc [115, 112, 97, 99, 101]) (h11 : ¬ n = asc [117, 112, 112, 101, 114]) (h12 : ¬ n = asc [119, 111, 114, 100]) (h : n = asc [120, 100, 105, 103, 105, 116]) : iJ n = some (rs [(48, 57), (65, 70), (97, 102)]) := by unfold iJ; rw [if_neg h0, if_neg h1, if_neg h2, if_neg h3, if_neg h4, if_neg h5, if_neg h6, if_neg h7, if_neg h8, if_neg h9, if_neg h10, if_neg h11, if_neg h12, if_pos h]
theorem namN {n : ByteArray} (h0 : ¬ n = asc [97, 108, 110, 117, 109]) (h1 : ¬ n = asc [97, 108, 112, 104, 97]) (h2 : ¬ n = asc [97, 115, 99, 105, 105]) (h3 : ¬ n = asc [98, 108, 97, 110, 107]) (h4 : ¬ n = asc [99, 110, 116, 114, 108]) (h5 : ¬ n = asc [100, 105, 103, 105, 116]) (h6 : ¬ n = asc [103, 114, 97, 112, 104]) (h7 : ¬ n = asc [108, 111, 119, 101, 114]) (h8 : ¬ n = asc [112, 114, 105, 110, 116]) (h9 : ¬ n = asc [112, 117, 110, 99, 116]) (h10 : ¬ n = asc [115, 112, 97, 99, 101]) (h11 : ¬ n = asc [117, 112, 112, 101, 114]) (h12 : ¬ n = asc [119, 111, 114, 100]) (h13 : ¬ n = asc [120, 100, 105, 103, 105, 116])  : iJ n = none := by unfold iJ; rw [if_neg h0, if_neg h1, if_neg h2, if_neg h3, if_neg h4, if_neg h5, if_neg h6, if_neg h7, if_neg h8, if_neg h9, if_neg h10, if_neg h11, if_neg h12, if_neg h13]
theorem TJ {w : World} (n : ByteArray) :
    Calls Try.prog 67 #[.string n] w (Ret fun v w' => LetOut w w' v (iJ n) ∧ Evo [] w w') := by
  refine bE (N := 61) Try.func67 rfl rfl rfl ?_; refine csr (bX (wan (aI (csr (aB (wnn (bJ (csr (aA (gK rfl rfl) ?_))))))))); refine wan (aW rfl (fun H => ?_) (fun H => ?_))
  ·refine csr (bM (vs := [_, _, _, _, _, _]) rfl cS rfl rfl rfl rfl fun b1 w2 g6 k1 g7 => ?_); have e1 := (Evo.refl [] w).then g7; refine aL (vs := [_]) dF rfl (fM (es := [48, 57, 65, 90, 97, 122]) g6 (by decide)) rfl ?_; rintro _ w8 ⟨a1, c1, ob1, rfl, A, hg1, g8⟩; refine bX (wan (aH (aN (aE (cJ rfl rfl rfl ?_))))); exact ⟨.inr ⟨_, _, nam0  H, rfl, _, _, _, [(48, 57), (65, 90), (97, 122)], rfl, A, (Ge.fresh e1 hg1), gM (by kernel_rfl), fun c => Iff.rfl, by decide⟩, (e1.then g8)⟩
  refine csr (aA (gK rfl rfl) ?_); refine wan (aW rfl (fun I => ?_) (fun I => ?_))
  ·refine csr (bM (vs := [_, _, _, _]) rfl cS rfl rfl rfl rfl fun k2 k3 e2 h5 e3 => ?_); have b4 := (Evo.refl [] w).then e3; refine aL (vs := [_]) dF rfl (fM (es := [65, 90, 97, 122]) e2 (by decide)) rfl ?_; rintro _ k4 ⟨a1, c1, ob1, rfl, A, hg1, e4⟩; refine bX (wan (aH (aN (aE (cJ rfl rfl rfl ?_))))); exact ⟨.inr ⟨_, _, nam1 H I, rfl, _, _, _, [(65, 90), (97, 122)], rfl, A, (Ge.fresh b4 hg1), gM (by kernel_rfl), fun c => Iff.rfl, by decide⟩, (b4.then e4)⟩
  refine csr (aA (gK rfl rfl) ?_); refine wan (aW rfl (fun B => ?_) (fun B => ?_))
  ·refine csr (bM (vs := [_, _]) rfl cS rfl rfl rfl rfl fun k5 k6 e5 h6 e6 => ?_); have b5 := (Evo.refl [] w).then e6; refine aL (vs := [_]) dF rfl (fM (es := [0, 127]) e5 (by decide)) rfl ?_; rintro _ k7 ⟨a1, c1, ob1, rfl, A, hg1, e7⟩; refine bX (wan (aH (aN (aE (cJ rfl rfl rfl ?_))))); exact ⟨.inr ⟨_, _, nam2 H I B, rfl, _, _, _, [(0, 127)], rfl, A, (Ge.fresh b5 hg1), gM (by kernel_rfl), fun c => Iff.rfl, by decide⟩, (b5.then e7)⟩
  refine csr (aA (gK rfl rfl) ?_); refine wan (aW rfl (fun D => ?_) (fun D => ?_))
  ·refine csr (bM (vs := [_, _, _, _]) rfl cS rfl rfl rfl rfl fun k8 k9 e8 h7 e9 => ?_); have b6 := (Evo.refl [] w).then e9; refine aL (vs := [_]) dF rfl (fM (es := [9, 9, 32, 32]) e8 (by decide)) rfl ?_; rintro _ l0 ⟨a1, c1, ob1, rfl, A, hg1, f0⟩; refine bX (wan (aH (aN (aE (cJ rfl rfl rfl ?_))))); exact ⟨.inr ⟨_, _, nam3 H I B D, rfl, _, _, _, [(9, 9), (32, 32)], rfl, A, (Ge.fresh b6 hg1), gM (by kernel_rfl), fun c => Iff.rfl, by decide⟩, (b6.then f0)⟩
  refine csr (aA (gK rfl rfl) ?_); refine wan (aW rfl (fun F => ?_) (fun F => ?_))
  ·refine csr (bM (vs := [_, _, _, _]) rfl cS rfl rfl rfl rfl fun l1 l2 f5 h8 f6 => ?_); have b7 := (Evo.refl [] w).then f6; refine aL (vs := [_]) dF rfl (fM (es := [0, 31, 127, 127]) f5 (by decide)) rfl ?_; rintro _ l3 ⟨a1, c1, ob1, rfl, A, hg1, f7⟩; refine bX (wan (aH (aN (aE (cJ rfl rfl rfl ?_))))); exact ⟨.inr ⟨_, _, nam4 H I B D F, rfl, _, _, _, [(0, 31), (127, 127)], rfl, A, (Ge.fresh b7 hg1), gM (by kernel_rfl), fun c => Iff.rfl, by decide⟩, (b7.then f7)⟩
  refine csr (aA (gK rfl rfl) ?_); refine wan (aW rfl (fun J => ?_) (fun J => ?_))
  ·refine csr (bM (vs := [_, _]) rfl cS rfl rfl rfl rfl fun l4 l5 f8 h9 f9 => ?_); have b8 := (Evo.refl [] w).then f9; refine aL (vs := [_]) dF rfl (fM (es := [48, 57]) f8 (by decide)) rfl ?_; rintro _ l6 ⟨a1, c1, ob1, rfl, A, hg1, g0⟩; refine bX (wan (aH (aN (aE (cJ rfl rfl rfl ?_))))); exact ⟨.inr ⟨_, _, nam5 H I B D F J, rfl, _, _, _, [(48, 57)], rfl, A, (Ge.fresh b8 hg1), gM (by kernel_rfl), fun c => Iff.rfl, by decide⟩, (b8.then g0)⟩
  refine csr (aA (gK rfl rfl) ?_); refine wan (aW rfl (fun L => ?_) (fun L => ?_))
  ·refine csr (bM (vs := [_, _]) rfl cS rfl rfl rfl rfl fun l7 l8 g1 i1 g2 => ?_); have b9 := (Evo.refl [] w).then g2; refine aL (vs := [_]) dF rfl (fM (es := [33, 126]) g1 (by decide)) rfl ?_; rintro _ l9 ⟨a1, c1, ob1, rfl, A, hg1, g3⟩; refine bX (wan (aH (aN (aE (cJ rfl rfl rfl ?_))))); exact ⟨.inr ⟨_, _, nam6 H I B D F J L, rfl, _, _, _, [(33, 126)], rfl, A, (Ge.fresh b9 hg1), gM (by kernel_rfl), fun c => Iff.rfl, by decide⟩, (b9.then g3)⟩
  refine csr (aA (gK rfl rfl) ?_); refine wan (aW rfl (fun M => ?_) (fun M => ?_))
  ·refine csr (bM (vs := [_, _]) rfl cS rfl rfl rfl rfl fun m0 m1 g4 i2 g5 => ?_); have c0 := (Evo.refl [] w).then g5; refine aL (vs := [_]) dF rfl (fM (es := [97, 122]) g4 (by decide)) rfl ?_; rintro _ m2 ⟨a1, c1, ob1, rfl, A, hg1, c2⟩; refine bX (wan (aH (aN (aE (cJ rfl rfl rfl ?_))))); exact ⟨.inr ⟨_, _, nam7 H I B D F J L M, rfl, _, _, _, [(97, 122)], rfl, A, (Ge.fresh c0 hg1), gM (by kernel_rfl), fun c => Iff.rfl, by decide⟩, (c0.then c2)⟩
  refine csr (aA (gK rfl rfl) ?_); refine wan (aW rfl (fun O => ?_) (fun O => ?_))
  ·refine csr (bM (vs := [_, _]) rfl cS rfl rfl rfl rfl fun i3 i4 c3 g9 c4 => ?_); have a4 := (Evo.refl [] w).then c4; refine aL (vs := [_]) dF rfl (fM (es := [32, 126]) c3 (by decide)) rfl ?_; rintro _ i5 ⟨a1, c1, ob1, rfl, A, hg1, c5⟩; refine bX (wan (aH (aN (aE (cJ rfl rfl rfl ?_))))); exact ⟨.inr ⟨_, _, nam8 H I B D F J L M O, rfl, _, _, _, [(32, 126)], rfl, A, (Ge.fresh a4 hg1), gM (by kernel_rfl), fun c => Iff.rfl, by decide⟩, (a4.then c5)⟩
  refine csr (aA (gK rfl rfl) ?_); refine wan (aW rfl (fun U => ?_) (fun U => ?_))
  ·refine csr (bM (vs := [_, _, _, _, _, _, _, _]) rfl cS rfl rfl rfl rfl fun i6 i7 c6 h0 c7 => ?_); have a5 := (Evo.refl [] w).then c7; refine aL (vs := [_]) dF rfl (fM (es := [33, 47, 58, 64, 91, 96, 123, 126]) c6 (by decide)) rfl ?_; rintro _ i8 ⟨a1, c1, ob1, rfl, A, hg1, c8⟩; refine bX (wan (aH (aN (aE (cJ rfl rfl rfl ?_))))); exact ⟨.inr ⟨_, _, nam9 H I B D F J L M O U, rfl, _, _, _, [(33, 47), (58, 64), (91, 96), (123, 126)], rfl, A, (Ge.fresh a5 hg1), gM (by kernel_rfl), fun c => Iff.rfl, by decide⟩, (a5.then c8)⟩
  refine csr (aA (gK rfl rfl) ?_); refine wan (aW rfl (fun V => ?_) (fun V => ?_))
  ·refine csr (bM (vs := [_, _, _, _]) rfl cS rfl rfl rfl rfl fun i9 j0 c9 h1 d0 => ?_); have a6 := (Evo.refl [] w).then d0; refine aL (vs := [_]) dF rfl (fM (es := [9, 13, 32, 32]) c9 (by decide)) rfl ?_; rintro _ j1 ⟨a1, c1, ob1, rfl, A, hg1, d1⟩; refine bX (wan (aH (aN (aE (cJ rfl rfl rfl ?_))))); exact ⟨.inr ⟨_, _, nam10 H I B D F J L M O U V, rfl, _, _, _, [(9, 13), (32, 32)], rfl, A, (Ge.fresh a6 hg1), gM (by kernel_rfl), fun c => Iff.rfl, by decide⟩, (a6.then d1)⟩
  refine csr (aA (gK rfl rfl) ?_); refine wan (aW rfl (fun a0 => ?_) (fun a0 => ?_))
  ·refine csr (bM (vs := [_, _]) rfl cS rfl rfl rfl rfl fun j2 j3 d2 h2 d3 => ?_); have a7 := (Evo.refl [] w).then d3; refine aL (vs := [_]) dF rfl (fM (es := [65, 90]) d2 (by decide)) rfl ?_; rintro _ j4 ⟨a1, c1, ob1, rfl, A, hg1, d4⟩; refine bX (wan (aH (aN (aE (cJ rfl rfl rfl ?_))))); exact ⟨.inr ⟨_, _, nam11 H I B D F J L M O U V a0, rfl, _, _, _, [(65, 90)], rfl, A, (Ge.fresh a7 hg1), gM (by kernel_rfl), fun c => Iff.rfl, by decide⟩, (a7.then d4)⟩
  refine csr (aA (gK rfl rfl) ?_); refine wan (aW rfl (fun a2 => ?_) (fun a2 => ?_))
  ·refine csr (bM (vs := [_, _, _, _, _, _, _, _]) rfl cS rfl rfl rfl rfl fun j5 j6 d5 h3 d6 => ?_); have a8 := (Evo.refl [] w).then d6; refine aL (vs := [_]) dF rfl (fM (es := [48, 57, 65, 90, 95, 95, 97, 122]) d5 (by decide)) rfl ?_; rintro _ j7 ⟨a1, c1, ob1, rfl, A, hg1, d7⟩; refine bX (wan (aH (aN (aE (cJ rfl rfl rfl ?_))))); exact ⟨.inr ⟨_, _, nam12 H I B D F J L M O U V a0 a2, rfl, _, _, _, [(48, 57), (65, 90), (95, 95), (97, 122)], rfl, A, (Ge.fresh a8 hg1), gM (by kernel_rfl), fun c => Iff.rfl, by decide⟩, (a8.then d7)⟩
  refine csr (aA (gK rfl rfl) ?_); refine wan (aW rfl (fun a3 => ?_) (fun a3 => ?_))
  ·refine csr (bM (vs := [_, _, _, _, _, _]) rfl cS rfl rfl rfl rfl fun j8 j9 d8 h4 d9 => ?_); have a9 := (Evo.refl [] w).then d9; refine aL (vs := [_]) dF rfl (fM (es := [48, 57, 65, 70, 97, 102]) d8 (by decide)) rfl ?_; rintro _ k0 ⟨a1, c1, ob1, rfl, A, hg1, e0⟩; refine bX (wan (aH (aN (aE (cJ rfl rfl rfl ?_))))); exact ⟨.inr ⟨_, _, nam13 H I B D F J L M O U V a0 a2 a3, rfl, _, _, _, [(48, 57), (65, 70), (97, 102)], rfl, A, (Ge.fresh a9 hg1), gM (by kernel_rfl), fun c => Iff.rfl, by decide⟩, (a9.then e0)⟩
  refine aM (aP (aC (csr (bX (wan (aH (cJ rfl rfl rfl ?_))))))); exact ⟨.inl ⟨namN H I B D F J L M O U V a0 a2 a3, rfl⟩, (Evo.refl [] w)⟩
theorem litS (f : Fl) (c : Int) : mA f c = iZ (if f.fold = true then oD (fun x => x = c) else fun x => x = c) := rfl
theorem QY (c x : Int) : InR x [(c, c)] ↔ x = c := by rw [jB]; show c ≤ x ∧ x ≤ c ↔ _; omega
theorem CO {w : World} {b : Nat} {s : ByteArray} {st : PS} {a : Option Addr} {c : Nat} {ob : Option Nat} (hR : RdAt w b s st a c ob) (r : Int) (h0 : 0 ≤ r) (h1 : r ≤ 1114111) :
    Calls Try.prog 50 #[.pointer (some ⟨b, 0, none⟩), .int .i32 r] w (Ret fun v w' => TOut w w' v (mA st.now r) ∧ Evo [] w w') := by
  have hap := hR.ap
  have hvr : Vr [(r, r)] := fun g hg => by rw [List.mem_singleton.1 hg]; exact ⟨h0, Int.le_refl _, h1⟩
  refine bE (N := 19) Try.func50 rfl rfl rfl ?_; refine csr (cL rfl eN fun b4 w1 a8 a3 a4 => ?_); have a9 := a3; have a5 := Ge.new (Evo.refl [] w) a3; refine wnn (csr (aB (aB (bM (vs := [_, _]) rfl cS rfl rfl rfl rfl fun b9 c0 a7 b8 F => ?_)))); refine aL (vs := [_]) dF rfl (fM (es := [r, r]) a7 (by simp)) rfl ?_; rintro _ c3 ⟨a1, c1, ob1, rfl, a6, hg1, H⟩; have A := (((Evo.refl [] w).then a4).then F).then H; have B := H.blk0 (F.blk0 a8); refine wan (aI (csr (aB (aA (aF rfl) (aA (aD rfl eJ) (wfl rfl rQ rfl hD (H.blk0 (F.blk0 (a4.blk0 hR.blk))) rfl (wnn (fG rfl (fun I => ?_) (fun I => ?_)))))))))
  ·have hl9 : mA st.now r = iZ (oD fun x => x = r) := by unfold mA; rw [if_pos I]
   refine aG (aB ?_); refine aL (vs := [_]) yY rfl (BA (l := [(r, r)]) a6 hvr (by simp) (QY r)) rfl ?_; rintro rv c4 ⟨a2, c2, ob2, rfl, b5, hg2, hl2, hcan2, heq2, D⟩; refine wan (csr (aB ?_))
   refine aL (vs := [_]) iQ rfl (mR b5 (vA hcan2) (by have : ([(r, r)] : List (Int × Int)).length = 1 := rfl; omega) heq2) rfl ?_
   rintro rv b6 ⟨hT, J⟩; have L := (A.then D); have hb49 := eM (D.blk0 B); obtain ⟨vs, bs, rfl, hOT, hFr⟩ := hT; obtain ⟨ra, rc, ka, kc, rfl⟩ := id hOT.nine; refine aV rfl rfl aU (J.blk0 (D.blk0 B)) rfl rfl ⟨by first | rfl | assumption, by first | rfl | assumption, by first | rfl | assumption, by first | rfl | assumption, by first | rfl | assumption, by first | rfl | assumption, by first | rfl | assumption, by first | rfl | assumption, by first | rfl | assumption, trivial⟩ fun c5 M O => ?_
   try simp only [cH, Nat.reduceAdd] at M
   refine wnn (aH (cI rfl (ResOk.cellA rfl bZ aU M rfl) ?_)); refine ⟨?_, (((A.then D).then J).step O a5.mem1)⟩; rw [hl9]; refine ⟨_, bs, rfl, hOT.evo ((Evo.refl ([b4]) b6).step O (fun y hy => .inl hy)) (fun b hb h => ?_), hFr.older L.size⟩
   have := hFr.ge b hb; rw [List.mem_singleton.1 h] at this; omega
  have hl9 : mA st.now r = iZ (fun x => x = r) := by unfold mA; rw [if_neg (by simp [I])]
  refine aM (aC (csr (aB ?_))); refine aL (vs := [_]) iQ rfl (mR (l := [(r, r)]) a6 hvr (by simp) (QY r)) rfl ?_; rintro rv b7 ⟨hT, U⟩; have L := A; have hb49 := eM B; obtain ⟨vs, bs, rfl, hOT, hFr⟩ := hT; obtain ⟨ra, rc, ka, kc, rfl⟩ := id hOT.nine; refine aV rfl rfl aU (U.blk0 B) rfl rfl ⟨by first | rfl | assumption, by first | rfl | assumption, by first | rfl | assumption, by first | rfl | assumption, by first | rfl | assumption, by first | rfl | assumption, by first | rfl | assumption, by first | rfl | assumption, by first | rfl | assumption, trivial⟩ fun c6 V a0 => ?_
  try simp only [cH, Nat.reduceAdd] at V
  refine wnn (aH (cI rfl (ResOk.cellA rfl bZ aU V rfl) ?_)); refine ⟨?_, ((A.then U).step a0 a5.mem1)⟩; rw [hl9]; refine ⟨_, bs, rfl, hOT.evo ((Evo.refl ([b4]) b7).step a0 (fun y hy => .inl hy)) (fun b hb h => ?_), hFr.older L.size⟩
  have := hFr.ge b hb; rw [List.mem_singleton.1 h] at this; omega
end Go.Proofs.Ytidpigbinpaaeaa
namespace Go.Proofs.Ytidpigbinpaaeaa
open Go.RowKit Go.W
theorem hit_isR {s : ByteArray} {a w : Nat} (hw : 1 ≤ w) (h : Hit s a w) : IsR (dL s a w) := by
  by_cases e : IsR (dL s a w)
  · exact e
  · have := CQ h
    rw [eY, if_neg e] at this
    simp at this; omega
instance (s : ByteArray) (c : In) (i : Nat) : Decidable (sW s c i) := by unfold sW; infer_instance
end Go.Proofs.Ytidpigbinpaaeaa
namespace Go.Proofs.Ytidpigbinpaaeaa
open Go.W
attribute [local irreducible] Decidable.decide
theorem zH : dY Try.prog 14 := ⟨_, Try.func14, by kernel_rfl, by kernel_rfl⟩
theorem zF : dY Try.prog 16 := ⟨_, Try.func16, by kernel_rfl, by kernel_rfl⟩
theorem PQ (l : List Nat) : (oP l).size = l.length := by simp [oP, ByteArray.size]
theorem DU {w : World} (r : Int) : Calls Try.prog 16 #[.int .i32 r] w (Ret fun v w' => v = .int .i64 (if r < 128 then 1 else if r < 2048 then 2 else if r < 65536 then 3 else 4) ∧ Evo [] w w') := by
  refine bE (N := 12) Try.func16 rfl rfl rfl ?_; refine csr (wan (aI (bJ (csr (aB (aA (cU rfl rfl) ?_)))))); refine wan (aW rfl (fun A => ?_) (fun A => ?_))
  ·refine csr (wan (aH (aN (aE (br1 ?_)))))
   exact ⟨by congr 1; (repeat' split) <;> omega, (Evo.refl [] w)⟩
  refine csr (aB (aA (cU rfl rfl) ?_)); refine wan (aW rfl (fun B => ?_) (fun B => ?_))
  ·refine csr (wan (aH (aN (aE (br1 ?_)))))
   exact ⟨by congr 1; (repeat' split) <;> omega, (Evo.refl [] w)⟩
  refine csr (aB (aA (cU rfl rfl) ?_)); refine wan (aW rfl (fun D => ?_) (fun D => ?_))
  ·refine csr (wan (aH (aN (aE (br1 ?_)))))
   exact ⟨by congr 1; (repeat' split) <;> omega, (Evo.refl [] w)⟩
  refine aM (aP (aC (csr (wan (aH (br1 ?_))))))
  exact ⟨by congr 1; (repeat' split) <;> omega, (Evo.refl [] w)⟩
theorem vH {w : World} (s : ByteArray) (a : Nat) (ha : a ≤ s.size) (hl : s.size ≤ 140737488355328) : Calls Try.prog 14 #[.string s, .int .i64 (a : Nat)] w (Ret fun v w' => v = .bool (decide (a + 3 ≤ s.size ∧ s.extract a (a + 3) = oP [239, 191, 189])) ∧ Evo [] w w') := by
  refine bE (N := 18) Try.func14 rfl rfl rfl ?_; refine csr (wan (csr (aB ?_))); refine aA (aK rfl rfl (by omega) (by omega)) ?_; refine aB (aA (bR rfl Try.underlying9 rfl) ?_); refine aA (eW rfl rfl) ?_; refine aB (bC (t := 10) rfl (fun A => ?_) (fun A => ?_))
  ·refine aO (aB (aO (aB (aO (aB (aO ?_)))))); refine aA (aK rfl rfl (by omega) (by omega)) ?_; refine aO ?_; refine aA (CX (l := a) (h := a + 3) rfl rfl rfl Try.underlying9 rfl (by omega) (by omega) (by omega)) ?_; refine aO (aA (gK rfl rfl) ?_); refine bQ (wan (aH (br1 ?_))); refine ⟨congrArg Value.bool (decide_eq_decide.2 ?_), (Evo.refl [] w)⟩; constructor
   · exact fun h => ⟨by omega, h⟩
   · exact fun h => h.2
  refine aJ (aJ (aJ (aJ (aJ (aJ (bK (wan (aH (br1 ?_))))))))); exact ⟨congrArg Value.bool (decide_eq_false (by omega)).symm, (Evo.refl [] w)⟩
theorem AU {s : ByteArray} {a : Nat} (ha : a < s.size) (h : (Utf8.decode s a).1 = 65533) (hr : ¬ (a + 3 ≤ s.size ∧ s.extract a (a + 3) = oP [239, 191, 189])) : bH s a = (-1, 0) := by
  have h1 := GA s a h ha
  have h2 := rG s a h ha
  unfold bH
  rw [if_neg]
  rintro ⟨_, h3⟩
  rcases h1 with h1 | h1
  · exact h3 ⟨h, h1⟩
  · exact hr (h2.1 h1)
theorem xO {s : ByteArray} {a : Nat} (ha : a < s.size) (h : ¬ (Utf8.decode s a).1 = 65533 ∨ (a + 3 ≤ s.size ∧ s.extract a (a + 3) = oP [239, 191, 189])) :
    (bH s a).1 = ((Utf8.decode s a).1 : Nat) ∧ (((bH s a).2 : Nat) : Int) = if ((Utf8.decode s a).1 : Int) < 128 then 1 else if ((Utf8.decode s a).1 : Int) < 2048 then 2 else if ((Utf8.decode s a).1 : Int) < 65536 then 3 else 4 := by
  have hn : ¬ ((Utf8.decode s a).1 = 65533 ∧ (Utf8.decode s a).2 = 1) := fun ⟨h1, h2⟩ => by
    rcases h with h | h
    · exact h h1
    · rw [(rG s a h1 ha).2 h] at h2; cases h2
  have hw := DD s a ha hn
  unfold bH
  rw [if_pos ⟨ha, hn⟩]
  refine ⟨rfl, ?_⟩
  simp only
  rw [hw]
  repeat' split
  all_goals first | rfl | omega
theorem oA {w : World} (s : ByteArray) (a : Nat) (ha : a ≤ s.size) (hl : s.size ≤ 140737488355328) : Calls Try.prog 8 #[.string s, .int .i64 (a : Nat)] w (Ret fun v w' => v = .tuple #[.int .i32 (bH s a).1, .int .i64 ((bH s a).2 : Nat)] ∧ Evo [] w w') := by
  refine bE (N := 44) Try.func8 rfl rfl rfl ?_; refine csr (bX (wan (aI (csr (aB (aA (cU rfl rfl) ?_)))))); refine aB (bC (t := 10) rfl (fun I => ?_) (fun I => ?_))
  ·refine aJ (aJ (aJ (aJ (bQ (wnn (dD rfl ?_)))))); refine csr (bX (wan (aH (aE (cJ rfl rfl rfl ?_)))))
   exfalso; omega
  refine aO (aB (aO (aB (aO (aA (bR rfl Try.underlying9 rfl) ?_))))); refine aO (aA (eF rfl rfl) ?_); refine bK (wnn (aW rfl (fun J => ?_) (fun J => ?_)))
  ·refine csr (bX (wan (aH (aE (cJ rfl rfl rfl ?_)))))
   exact ⟨by rw [oX (by omega)]; rfl, (Evo.refl [] w)⟩
  refine aM (aC (aI (csr ?_)))
  have hlt : a < s.size := by omega
  refine aB (aB (aB (aA (bR rfl Try.underlying9 rfl) ?_))); refine aB ?_; refine aA (aK rfl rfl (by omega) (by omega)) ?_; refine aA (iW rfl rfl) ?_
  refine aA (CX (l := a) (h := min s.size (a + 4)) rfl rfl rfl Try.underlying9 rfl (by split <;> omega) (by omega) (by omega)) ?_
  refine zV rfl rfl Try.underlying9 fun b1 w2 V a0 a1 => ?_; refine wnn (bJ (dA (α := Nat) (0) (fun k => []) [(0, _), (1, _), (24, _)] (fun k wr => Evo [] w2 wr ∧ (True)) (fun k => 0) trivial ⟨rfl, rfl, rfl, trivial⟩ ⟨Evo.refl _ _, trivial⟩ ?_)); rintro k wr8 ⟨H, _⟩; show CW _ _ _ _ [(0, _), (1, _), (24, _)] _; refine csr ?_
  refine DT rfl rfl (H.blk0 V) (by simp; omega) fun a3 a2 L => ?_
  have B := (((Evo.refl [] w).then a1).then H).step L (Ge.new (Evo.refl [] w) a0).mem1; have hcut := JE s a hlt; refine aA (bN rfl rfl) ?_; refine wnn (aI (dD rfl ?_)); refine aM (aC (bJ (csr (aA (bN rfl rfl) ?_)))); refine aA (bN rfl rfl) ?_; refine bX (wan (aI (csr (aB (aA (fE rfl rfl) ?_))))); refine aB (bC (t := 31) rfl (fun M => ?_) (fun M => ?_))
  ·refine aJ (aJ (aJ (eZ ?_))); refine eZ ?_; refine eZ ?_; refine eZ ?_; refine aJ (bQ (wnn (dD rfl ?_))); refine cN (bL (sF rfl (bL (cM (aC ?_))))); refine csr (bX (wan (aH (cJ rfl rfl rfl ?_))))
   exfalso; omega
  refine aO (aB (aO (wel ?_))); refine aO (aB (bC (t := 34) rfl (fun A => ?_) (fun A => ?_)))
  ·refine aO (aB (aO (aB (aO ?_)))); refine aL (vs := [_, _]) zH rfl (vH s a (by omega) hl) rfl ?_; rintro _ a4 ⟨rfl, F⟩; refine aO (aA (oO rfl) ?_); refine aO (bQ (bK (wnn (aW rfl (fun D => ?_) (fun D => ?_)))))
   ·refine cN (bL (sF rfl (bL (cM (aC ?_))))); refine csr (bX (wan (aH (cJ rfl rfl rfl ?_)))); rw [hcut] at A
    exact ⟨by rw [AU hlt (by omega) D]; rfl, (B.then F)⟩
   refine aM (aC (csr (aB (aB (aL (vs := [_]) zF rfl (DU _) rfl ?_))))); rintro _ a5 ⟨rfl, O⟩; refine bX (wan (aH (aN (aE (aN (aE (cJ rfl rfl rfl ?_))))))); rw [hcut] at A ⊢; have hg := xO hlt (.inr (Decidable.not_not.1 D))
   exact ⟨by rw [hg.1, hg.2]; rfl, ((B.then F).then O)⟩
  refine aJ (aJ (aJ (aJ (aO (bK (bK (wnn (cK rfl ?_)))))))); refine aM (aC (csr (aB (aB (aL (vs := [_]) zF rfl (DU _) rfl ?_))))); rintro _ a6 ⟨rfl, U⟩; refine bX (wan (aH (aN (aE (aN (aE (cJ rfl rfl rfl ?_))))))); rw [hcut] at A ⊢; have hg := xO hlt (.inl (by omega))
  exact ⟨by rw [hg.1, hg.2]; rfl, (B.then U)⟩
end Go.Proofs.Ytidpigbinpaaeaa
namespace Go.Proofs.Ytidpigbinpaaeaa
open Go.RowKit Go.W
attribute [local irreducible] Decidable.decide
theorem JX : dY Try.prog 69 := ⟨_, Try.func69, by kernel_rfl, by kernel_rfl⟩
theorem JW : dY Try.prog 70 := ⟨_, Try.func70, by kernel_rfl, by kernel_rfl⟩
theorem kK : dY Try.prog 8 := ⟨_, Try.func8, by kernel_rfl, by kernel_rfl⟩
def Bd (s : ByteArray) (i : Nat) : Prop := ∃ N k, Utf s N ∧ k ≤ N ∧ cD s k = i
theorem Bd.le {s : ByteArray} {i : Nat} (h : Bd s i) : i ≤ s.size := by obtain ⟨N, k, _, _, rfl⟩ := h; exact tY s k
theorem Bd.zero {s : ByteArray} {N : Nat} (h : Utf s N) : Bd s 0 := ⟨N, 0, h, Nat.zero_le _, rfl⟩
theorem Bd.next {s : ByteArray} {i : Nat} (h : Bd s i) (hi : i < s.size) : 0 < (bH s i).2 ∧ i + (bH s i).2 ≤ s.size ∧ Bd s (i + (bH s i).2) ∧ 0 ≤ (bH s i).1 ∧ (bH s i).1 ≤ 1114111 := by
  obtain ⟨N, k, hU, hk, rfl⟩ := h
  have hkN : k < N := by
    rcases Nat.lt_or_ge k N with h | h
    · exact h
    · obtain rfl : k = N := by omega
      rw [hU.1] at hi; omega
  have h0 := hU.2 k hkN
  have h1 : Bd s (cD s k + (bH s (cD s k)).2) := ⟨N, k + 1, hU, hkN, rfl⟩
  rcases lI s (cD s k) with h2 | h2
  · rw [h2] at h0; cases h0
  · exact ⟨h0, h1.le, h1, h2.1, h2.2.1⟩
theorem Bd.asc {s : ByteArray} {i : Nat} (h : Bd s i) (hi : i < s.size) (hb : sb s i < 128) : Bd s (i + 1) ∧ (bH s i).1 = (sb s i : Int) ∧ (bH s i).2 = 1 := by
  obtain ⟨h0, h1, h2, h3, h4⟩ := h.next hi
  obtain ⟨h5, h6, h7, h8⟩ := oZ h0
  by_cases hc : (bH s i).1 < 128
  · obtain ⟨h9, h10⟩ := h6 hc
    rw [h9] at h2
    exact ⟨h2, h10.symm, h9⟩
  · have := h7 (by omega); omega
theorem isB.asc {s : ByteArray} {i b : Nat} (h : isB s i b) (hb : b < 128) (hd : Bd s i) : Bd s (i + 1) := (hd.asc h.1 (by rw [h.2]; exact hb)).1
theorem wF {w : World} {b : Nat} {s : ByteArray} {st : PS} {a : Option Addr} {c : Nat} {ob : Option Nat} (hR : RdAt w b s st a c ob) (hs : s.size ≤ 1000000) (hb : Bd s st.pos) :
    Calls Try.prog 46 #[.pointer (some ⟨b, 0, none⟩)] w (Ret fun v w' => v = .int .i32 (bH s st.pos).1 ∧ Evo [b] w w' ∧ RdAt w' b s (adv st (bH s st.pos).2) a c ob) := by
  have hap := hR.ap; have hle := hb.le
  have hnx : st.pos + (bH s st.pos).2 ≤ s.size + 4 := by rcases lI s st.pos with h | h; rw [h]; (show st.pos + 0 ≤ s.size + 4; omega); omega
  refine bE (N := 26) Try.func46 rfl rfl rfl ?_; refine csr (wan (aI ?_)); refine fT (fun w0 w' => Evo [] w0 w') (by kernel_rfl) (fun w1 F => ?_); have D := F.blk0 hR.blk; refine aet 0 rfl (fun _ hS => aX rfl) (Evo.refl [] w1) ?_; refine aet 1 rfl (fun _ hS => aF rfl) (Evo.refl [] w1) ?_; refine aet 2 rfl (fun _ hS => aD rfl cV) (Evo.refl [] w1) ?_; refine aet 3 rfl (fun _ hS => aS rfl dC (aY (hS.blk0 D) rfl)) (Evo.refl [] w1) ?_; refine aet 4 rfl (fun _ hS => aX rfl) (Evo.refl [] w1) ?_; refine aet 5 rfl (fun _ hS => aF rfl) (Evo.refl [] w1) ?_; refine aet 6 rfl (fun _ hS => aD rfl bF) (Evo.refl [] w1) ?_; refine aet 7 rfl (fun _ hS => aS rfl aT (aY (hS.blk0 D) rfl)) (Evo.refl [] w1) ?_; refine bV [8] (by kernel_rfl) rfl ⟨?_, trivial⟩; refine cA rfl ?_; refine aL (vs := [_, _]) kK rfl (oA s st.pos hle (by omega)) rfl ?_; rintro _ w6 ⟨rfl, B⟩; have A := (Evo.refl [] w1).then B; refine aQ (bO (.inl A) ?_); refine aet 9 rfl (fun _ hS => aX rfl) A ?_
  refine aet 10 rfl (fun _ hS => bN rfl rfl) A ?_; refine aet 11 rfl (fun _ hS => bN rfl rfl) A ?_; refine aet 12 rfl (fun _ hS => eG rfl) A ?_; refine aet 13 rfl (fun _ hS => eG rfl) A ?_; refine dH (by kernel_rfl) (aC ?_); refine csr (aB (aA (aF rfl) (wfl rfl bF rfl aT (B.blk0 D) rfl (aB ?_)))); refine aA (aK rfl rfl (by omega) (by omega)) ?_; refine aA (aF rfl) (aA (aD rfl bF) ?_); refine bB rfl rfl (by first | rfl | assumption) bY (B.blk0 D) rfl fun J H I => ?_
  try simp only [cH, Nat.reduceAdd] at H
  refine wnn (csr (aB (wan (aH (br1 ?_))))); exact ⟨rfl, ((((Evo.refl [b] w).then F).then B).step I (fun y hy => .inl hy)), H, (((hR.own.evo0 F).evo0 B).evo I hap.symm.own1), hR.ne⟩
theorem hexD_lo {c d : Nat} (h : oM c = some d) : c < 128 ∧ d < 16 := by
  unfold oM at h
  split at h
  · cases h; omega
  · split at h
    · cases h; omega
    · split at h
      · cases h; omega
      · cases h
theorem wJ {s : ByteArray} {i d j : Nat} (h : gA s i = .ok (d, j)) (hb : Bd s i) : Bd s j ∧ j = i + 1 ∧ d < 16 := by
  unfold gA at h
  split at h
  · rename_i hi
    split at h
    · rename_i d' hd
      cases h
      obtain ⟨h1, h2⟩ := hexD_lo hd
      exact ⟨(hb.asc hi h1).1, rfl, h2⟩
    · cases h
  · cases h
theorem LV {s : ByteArray} : ∀ {f n i m j : Nat}, lY s f n i = .ok (m, j) → Bd s i → n ≤ 1114111 → Bd s j ∧ i < j ∧ m ≤ 1114111
  | 0, n, i, m, j, h, _, _ => by cases h
  | f + 1, n, i, m, j, h, hb, hn => by
    rw [lY] at h
    split at h
    · rename_i hi
      cases h
      exact ⟨hi.asc (by decide) hb, by omega, hn⟩
    · split at h
      · cases h
      · rename_i d k hd
        obtain ⟨h1, h2, h3⟩ := wJ hd hb
        split at h
        · cases h
        · obtain ⟨h4, h5, h6⟩ := LV h h1 (by omega)
          exact ⟨h4, by omega, h6⟩
theorem pHex_b {s : ByteArray} {i m j : Nat} (h : pT s i = .ok (m, j)) (hb : Bd s i) : Bd s j ∧ i < j ∧ m ≤ 1114111 := by
  unfold pT at h
  split at h
  · rename_i hi
    split at h
    · cases h
    · rename_i d k hd
      obtain ⟨h1, h2, h3⟩ := wJ hd (hi.asc (by decide) hb)
      obtain ⟨h4, h5, h6⟩ := LV h h1 (by omega)
      exact ⟨h4, by omega, h6⟩
  · split at h
    · cases h
    · rename_i d k hd
      obtain ⟨h1, h2, h3⟩ := wJ hd hb
      split at h
      · cases h
      · rename_i e q he
        cases h
        obtain ⟨h4, h5, h6⟩ := wJ he h1
        exact ⟨h4, by omega, by omega⟩
def FX (c : Nat) : Int := if c = 97 then 0 else if c = 102 then 1 else if c = 116 then 2 else if c = 110 then 3 else if c = 114 then 4 else if c = 118 then 5 else -1
def escT : ByteArray := ByteArray.mk #[7, 12, 9, 10, 13, 11]
theorem US {c : Nat} (h : 0 ≤ FX c) : ∃ k, FX c = ((k : Nat) : Int) ∧ k < escT.size ∧ vZ c = some (sb escT k) ∧ sb escT k < 128 := by
  unfold FX at *
  unfold vZ
  by_cases h1 : c = 97
  · subst h1; exact ⟨0, rfl, by decide, rfl, by decide⟩
  · by_cases h2 : c = 102
    · subst h2; exact ⟨1, rfl, by decide, rfl, by decide⟩
    · by_cases h3 : c = 116
      · subst h3; exact ⟨2, rfl, by decide, rfl, by decide⟩
      · by_cases h4 : c = 110
        · subst h4; exact ⟨3, rfl, by decide, rfl, by decide⟩
        · by_cases h5 : c = 114
          · subst h5; exact ⟨4, rfl, by decide, rfl, by decide⟩
          · by_cases h6 : c = 118
            · subst h6; exact ⟨5, rfl, by decide, rfl, by decide⟩
            · rw [if_neg h1, if_neg h2, if_neg h3, if_neg h4, if_neg h5, if_neg h6] at h; omega
theorem escI_no {c : Nat} (h : ¬ 0 ≤ FX c) : vZ c = none := by
  unfold FX at h
  unfold vZ
  by_cases h1 : c = 97
  · subst h1; exact (h (by decide)).elim
  · by_cases h2 : c = 102
    · subst h2; exact (h (by decide)).elim
    · by_cases h3 : c = 116
      · subst h3; exact (h (by decide)).elim
      · by_cases h4 : c = 110
        · subst h4; exact (h (by decide)).elim
        · by_cases h5 : c = 114
          · subst h5; exact (h (by decide)).elim
          · by_cases h6 : c = 118
            · subst h6; exact (h (by decide)).elim
            · rw [if_neg h1, if_neg h2, if_neg h3, if_neg h4, if_neg h5, if_neg h6]
theorem escIdx (c : Nat) (hc : c < 256) : Go.Lib.indexByte [97, 102, 116, 110, 114, 118] ((c : Int)).toNat.toUInt8 = FX c := by
  have h : ∀ c : Fin 256, Go.Lib.indexByte [97, 102, 116, 110, 114, 118] ((c.1 : Int)).toNat.toUInt8 = FX c.1 := by decide +kernel
  exact h ⟨c, hc⟩
theorem OR {w : World} (c : Nat) (hc : c < 256) : Calls Try.prog 69 #[.string (ByteArray.mk #[97, 102, 116, 110, 114, 118]), .int .u8 (c : Nat)] w (Ret fun v w' => v = iv (FX c) ∧ Evo [] w w') := by
  refine (qO _ _ w).mono ?_
  rintro e w' ⟨rfl, rfl⟩
  exact ⟨_, rfl, congrArg iv (escIdx c hc), Evo.refl _ _⟩
theorem EH {s : ByteArray} {i : Nat} (h : s.size ≤ i + 1) : nT s i = .error 83 := by unfold nT; rw [if_pos h]
theorem pEsc_c {s : ByteArray} {i v : Nat} (h : ¬ s.size ≤ i + 1) (h2 : vZ (sb s (i + 1)) = some v) : nT s i = .ok (v, i + 2) := by unfold nT; rw [if_neg h, h2]
theorem SJ {s : ByteArray} {i : Nat} (h : ¬ s.size ≤ i + 1) (h2 : sb s (i + 1) = 120) : nT s i = pT s (i + 2) := by
  unfold nT; rw [if_neg h, h2, show vZ 120 = none from rfl]; rfl
theorem EI {s : ByteArray} {i : Nat} (h : ¬ s.size ≤ i + 1) (h2 : vZ (sb s (i + 1)) = none) (h3 : sb s (i + 1) ≠ 120) (h4 : 128 ≤ sb s (i + 1) ∨ (fR (sb s (i + 1)) ∧ sb s (i + 1) ≠ 95)) : nT s i = .error 83 := by
  unfold nT; rw [if_neg h, h2]; show (if sb s (i + 1) = 120 then _ else _) = _; rw [if_neg h3, if_pos h4]
theorem LX {s : ByteArray} {i : Nat} (h : ¬ s.size ≤ i + 1) (h2 : vZ (sb s (i + 1)) = none) (h3 : sb s (i + 1) ≠ 120) (h4 : ¬ (128 ≤ sb s (i + 1) ∨ (fR (sb s (i + 1)) ∧ sb s (i + 1) ≠ 95))) : nT s i = .ok (sb s (i + 1), i + 2) := by
  unfold nT; rw [if_neg h, h2]; show (if sb s (i + 1) = 120 then _ else _) = _; rw [if_neg h3, if_neg h4]
theorem escC_lo {c v : Nat} (h : vZ c = some v) : c < 128 := by
  unfold vZ at h
  by_cases h1 : c < 128
  · exact h1
  · rw [if_neg (by omega), if_neg (by omega), if_neg (by omega), if_neg (by omega), if_neg (by omega), if_neg (by omega)] at h; cases h
theorem IE {s : ByteArray} {i n j : Nat} (h : nT s i = .ok (n, j)) (hb : Bd s i) (h0 : sb s i = 92) : Bd s j ∧ i < j ∧ n ≤ 1114111 := by
  have hi : i < s.size := by
    rcases Nat.lt_or_ge i s.size with h1 | h1
    · exact h1
    · rw [EH (by omega)] at h; cases h
  have hb1 := (hb.asc hi (by omega)).1
  unfold nT at h
  split at h
  · cases h
  · rename_i h1
    split at h
    · rename_i v hv
      cases h
      have hv2 : n < 128 := by
        unfold vZ at hv
        split at hv
        · cases hv; omega
        · split at hv
          · cases hv; omega
          · split at hv
            · cases hv; omega
            · split at hv
              · cases hv; omega
              · split at hv
                · cases hv; omega
                · split at hv
                  · cases hv; omega
                  · cases hv
      exact ⟨(hb1.asc (by omega) (escC_lo hv)).1, by omega, by omega⟩
    · split at h
      · rename_i hx
        obtain ⟨h2, h3, h4⟩ := pHex_b h ((hb1.asc (by omega) (by omega)).1)
        exact ⟨h2, by omega, h4⟩
      · split at h
        · cases h
        · rename_i h5
          cases h
          exact ⟨(hb1.asc (by omega) (by omega)).1, by omega, by omega⟩
theorem yD {w : World} {b : Nat} {s : ByteArray} {st : PS} {a : Option Addr} {c : Nat} {ob : Option Nat} (hR : RdAt w b s st a c ob) (hs : s.size ≤ 1000000) (hlt : st.pos < s.size) :
    Calls Try.prog 60 #[.pointer (some ⟨b, 0, none⟩)] w (RetP (fun v w' => ∃ n j, nT s st.pos = .ok (n, j) ∧ v = .int .i32 (n : Nat) ∧ Evo [b] w w' ∧ RdAt w' b s (gT st j) a c ob) (fun v w' => nT s st.pos = .error 83 ∧ v = flt 83 ∧ Evo [b] w w')) := by
  have hap := hR.ap; have hb9 := iY s (st.pos + 1); refine bE (N := 63) Try.func60 rfl rfl rfl ?_; refine csr (wan (csr (aB (aA (aF rfl) (wfl rfl bF rfl aT hR.blk rfl ?_))))); refine aA (aK rfl rfl (by omega) (by omega)) ?_; refine aA (aF rfl) (aA (aD rfl bF) ?_); refine bB rfl rfl (by first | rfl | assumption) bY hR.blk rfl fun w1 V a5 => ?_
  try simp only [cH, Nat.reduceAdd] at V
  refine wnn (aI (aI ?_)); refine eH (by kernel_rfl) (by kernel_rfl) ?_; refine bD (fun _ B => aX rfl) ?_; refine bD (fun _ B => aF rfl) ?_; refine bD (fun _ B => aD rfl bF) ?_; refine bD (fun _ B => aS rfl aT (aY (B.blk0 V) rfl)) ?_; refine bD (fun _ B => aX rfl) ?_; refine bD (fun _ B => aF rfl) ?_; refine bD (fun _ B => aD rfl cV) ?_; refine bD (fun _ B => aS rfl dC (aY (B.blk0 V) rfl)) ?_; refine bD (fun _ B => bR rfl Try.underlying9 rfl) ?_; refine bD (fun _ B => lL rfl rfl) ?_; refine eL (fun b7 B => aC ?_); have a6 := ((Evo.refl [b] w).step a5 (fun y hy => .inl hy)).then B; have a0 := B.blk0 V; refine aW rfl (fun a7 => ?_) (fun a7 => ?_)
  ·refine aG (cB (vs := [_]) cQ rfl (eB 83) rfl ?_ ?_)
   ·intro pv wp hpp; obtain ⟨rfl, hpw⟩ := hpp; exact And.intro rfl ⟨_, rfl, EH (by omega), rfl, (a6).then hpw⟩
   intro _ _ hF; exact hF.elim
  have hlt2 : st.pos + 1 < s.size := by omega
  have hle2 : ¬ s.size ≤ st.pos + 1 := by omega
  refine aM (aC (aI ?_)); refine eH (by kernel_rfl) (by kernel_rfl) ?_; refine bD (fun _ A => aX rfl) ?_; refine bD (fun _ A => aF rfl) ?_; refine bD (fun _ A => aD rfl cV) ?_; refine bD (fun _ A => aS rfl dC (aY (A.blk0 a0) rfl)) ?_; refine bD (fun _ A => aX rfl) ?_; refine bD (fun _ A => aF rfl) ?_; refine bD (fun _ A => aD rfl bF) ?_; refine bD (fun _ A => aS rfl aT (aY (A.blk0 a0) rfl)) ?_; refine bD (fun _ A => eE (n := st.pos + 1) rfl rfl Try.underlying9 rfl hlt2) ?_; refine bD (fun _ A => eG rfl) ?_; refine eL (fun b6 A => aC ?_); refine csr (aB (aA (aF rfl) (wfl rfl bF rfl aT (A.blk0 a0) rfl ?_))); refine aA (aK rfl rfl (by omega) (by omega)) ?_; refine aA (aF rfl) (aA (aD rfl bF) ?_); refine bB rfl rfl (by first | rfl | assumption) bY (A.blk0 a0) rfl fun b8 a1 a2 => ?_
  try simp only [cH, Nat.reduceAdd] at a1
  refine wnn (aI (csr (aB (aL (vs := [_, _]) JX rfl (OR (sb s (st.pos + 1)) hb9) rfl ?_)))); rintro _ b9 ⟨rfl, H⟩; have D := ((a6.then A).step a2 (fun y hy => .inl hy)).then H; have I := H.blk0 a1; have J := ((((hR.own.evo a5 hap.symm.own1).evo0 B).evo0 A).evo a2 hap.symm.own1).evo0 H; refine wan (csr (aB (aA (eF rfl rfl) ?_))); refine wnn (aW rfl (fun L => ?_) (fun L => ?_))
  ·obtain ⟨k, hk1, hk2, hk3, hk4⟩ := US L; refine csr (aB (aA (eE (s := escT) (n := k) rfl rfl Try.underlying9 hk1 hk2) ?_)); refine aA (iH rfl Try.underlying5 Try.underlying21 (zQ (by omega) (by omega)).1 (zQ (by omega) (by omega)).2) ?_; refine wan (aH (aE (cE (br1 ?_)))); exact ⟨_, _, pEsc_c hle2 hk3, rfl, D, ⟨I, J, hR.ne⟩⟩
  have hno := escI_no L; refine aM (aC (aI (csr (aB (wel ?_))))); refine wnn (aW rfl (fun a8 => ?_) (fun a8 => ?_))
  ·refine csr (aB (cB (vs := [_]) JW rfl (hex_ok (st := gT st (st.pos + 1 + 1)) ⟨I, J, hR.ne⟩ hs) rfl ?_ ?_))
   ·intro pv wp hpp; obtain ⟨hpe, rfl, hpw⟩ := hpp; exact And.intro rfl ⟨_, rfl, (SJ hle2 (by omega)).trans hpe, rfl, (D).step hpw (fun y hy => .inl hy)⟩
   rintro _ c0 ⟨n, j, hx, rfl, a9, b5⟩; refine wan (aH (aE (cE (br1 ?_)))); exact ⟨_, _, (SJ hle2 (by omega)).trans hx, rfl, (D.step a9 (fun y hy => .inl hy)), b5⟩
  have hnx : sb s (st.pos + 1) ≠ 120 := by omega
  refine aM (aC (aI (csr (aB (aA (eF rfl rfl) ?_))))); refine aB (bC (t := 52) rfl (fun b4 => ?_) (fun b4 => ?_))
  ·refine aJ (aJ (aJ (eZ ?_))); refine eZ ?_; refine aJ (bQ (wnn (dD rfl ?_))); refine aG (cB (vs := [_]) cQ rfl (eB 83) rfl ?_ ?_)
   ·intro pv wp hpp; obtain ⟨rfl, hpw⟩ := hpp; exact And.intro rfl ⟨_, rfl, EI hle2 hno hnx (by omega), rfl, (D).then hpw⟩
   intro _ _ hF; exact hF.elim
  refine aO (aB (aO (aL (vs := [_]) tI rfl (BR (sb s (st.pos + 1))) rfl ?_))); rintro _ c1 ⟨rfl, M⟩; have O := D.then M; have a3 := M.blk0 I; have a4 := J.evo0 M; refine aO (aB (bC (t := 55) rfl (fun F => ?_) (fun F => ?_)))
  ·refine aO (aB (aO (aA (gE rfl rfl) ?_))); refine aO (bQ (bK (wnn (aW rfl (fun U => ?_) (fun U => ?_)))))
   ·refine aG (cB (vs := [_]) cQ rfl (eB 83) rfl ?_ ?_)
    ·intro pv wp hpp; obtain ⟨rfl, hpw⟩ := hpp
     exact And.intro rfl ⟨_, rfl, EI hle2 hno hnx (by right; exact ⟨F, by omega⟩), rfl, (O).then hpw⟩
    intro _ _ hF; exact hF.elim
   refine aM (aC (csr (aB ?_))); refine aA (iH rfl Try.underlying5 Try.underlying21 (zQ (by omega) (by omega)).1 (zQ (by omega) (by omega)).2) ?_; refine wan (aH (cE (br1 ?_)))
   exact ⟨_, _, LX hle2 hno hnx (by rintro (h1 | ⟨h1, h2⟩); omega; first | exact F h1 | (exact U (by omega))), rfl, O, ⟨a3, a4, hR.ne⟩⟩
  refine aJ (aJ (aO (bK (bK (wnn (cK rfl ?_)))))); refine aM (aC (csr (aB ?_))); refine aA (iH rfl Try.underlying5 Try.underlying21 (zQ (by omega) (by omega)).1 (zQ (by omega) (by omega)).2) ?_; refine wan (aH (cE (br1 ?_)))
  exact ⟨_, _, LX hle2 hno hnx (by rintro (h1 | ⟨h1, h2⟩); omega; first | exact F h1 | (exact U (by omega))), rfl, O, ⟨a3, a4, hR.ne⟩⟩
end Go.Proofs.Ytidpigbinpaaeaa
namespace Go.Proofs.Ytidpigbinpaaeaa
open Go.RowKit Go.W
theorem fB {s : ByteArray} {a b : Nat} (h : b ≤ s.size) : (s.extract a b).size = b - a := by rw [ByteArray.size_extract]; omega
theorem GC (s : ByteArray) (j : Nat) : (s.extract j s.size).data.toList = s.data.toList.drop j := by
  rw [ByteArray.data_extract]
  have : s.size = s.data.size := rfl
  rw [this]
  simp only [Array.toList_extract, List.extract]
  exact List.take_of_length_le (by simp)
theorem LK (s : ByteArray) {n : Nat} (h : n < s.size) : s.data.toList[n]? = some (UInt8.ofNat (sb s n)) := by
  have h' : n < s.data.size := h
  rw [Array.getElem?_toList, Array.getElem?_eq_getElem h', qV s n h]
  show some s.data[n] = some (UInt8.ofNat (s.data[n]).toNat)
  rw [UInt8.ofNat_toNat]
def Occ (s : ByteArray) (a b k : Nat) : Prop := k + 1 < s.size ∧ sb s k = a ∧ sb s (k + 1) = b
instance (s : ByteArray) (a b k : Nat) : Decidable (Occ s a b k) := by unfold Occ; infer_instance
theorem QH {a b : Nat} (ha : a < 256) (hb : b < 256) (h : UInt8.ofNat a = UInt8.ofNat b) : a = b := by
  have := congrArg UInt8.toNat h
  rw [UInt8.toNat_ofNat', UInt8.toNat_ofNat'] at this
  omega
theorem IH {s : ByteArray} {a b j i : Nat} (ha : a < 256) (hb : b < 256) (hj : j ≤ s.size) : Go.Lib.occAt (s.extract j s.size).data.toList [UInt8.ofNat a, UInt8.ofNat b] i = decide (Occ s a b (j + i)) := by
  unfold Go.Lib.occAt
  rw [GC, List.drop_drop]
  have hlen : s.data.toList.length = s.size := by simp
  by_cases h : j + i + 1 < s.size
  · have e : s.data.toList.drop (j + i) = UInt8.ofNat (sb s (j + i)) :: UInt8.ofNat (sb s (j + i + 1)) :: s.data.toList.drop (j + i + 2) := by
      have h0 := LK s (n := j + i) (by omega)
      have h1 := LK s (n := j + i + 1) h
      obtain ⟨h2, h3⟩ := List.getElem?_eq_some_iff.1 h0
      obtain ⟨h4, h5⟩ := List.getElem?_eq_some_iff.1 h1
      rw [List.drop_eq_getElem_cons h2, List.drop_eq_getElem_cons h4, h3, h5]
    rw [e]
    have l1 := iY s (j + i)
    have l2 := iY s (j + i + 1)
    simp only [List.isPrefixOf, Bool.and_true]
    rw [Bool.eq_iff_iff]
    simp only [Bool.and_eq_true, beq_iff_eq, decide_eq_true_eq]
    unfold Occ
    constructor
    · rintro ⟨h6, h7⟩; exact ⟨h, (QH ha l1 h6).symm, (QH hb l2 h7).symm⟩
    · rintro ⟨-, h6, h7⟩; rw [h6, h7]; exact ⟨rfl, rfl⟩
  · rw [decide_eq_false (fun h2 => h h2.1)]
    have hl : (s.data.toList.drop (j + i)).length < 2 := by rw [List.length_drop, hlen]; omega
    match s.data.toList.drop (j + i), hl with
    | [], _ => rfl
    | [x], _ => simp [List.isPrefixOf]
theorem pZ (s : ByteArray) (a b : Nat) : ∀ (f j : Nat), s.size ≤ j + f → (∀ k, jU s a b f j = some k → j ≤ k ∧ Occ s a b k ∧ ∀ m, j ≤ m → m < k → ¬ Occ s a b m) ∧ (jU s a b f j = none → ∀ m, j ≤ m → ¬ Occ s a b m)
  | 0, j, hf => ⟨(fun k h => by cases h), fun _ m hm ho => by have := ho.1; omega⟩
  | f + 1, j, hf => by
    obtain ⟨i1, i2⟩ := pZ s a b f (j + 1) (by omega)
    rw [jU]
    by_cases h : j + 1 < s.size ∧ sb s j = a ∧ sb s (j + 1) = b
    · rw [if_pos h]
      exact ⟨fun k hk => by cases hk; exact ⟨Nat.le_refl _, h, fun m h1 h2 => by omega⟩, fun h2 => by cases h2⟩
    · rw [if_neg h]
      refine ⟨fun k hk => ?_, fun hk m hm ho => ?_⟩
      · obtain ⟨h1, h2, h3⟩ := i1 k hk
        exact ⟨by omega, h2, fun m h4 h5 ho => by
          rcases Nat.eq_or_lt_of_le h4 with e | e
          · subst e; exact h ho
          · exact h3 m e h5 ho⟩
      · rcases Nat.eq_or_lt_of_le hm with e | e
        · subst e; exact h ho
        · exact i2 hk m e ho
def FK (s : ByteArray) (a b j : Nat) : Int := match jU s a b s.size j with | none => -1 | some k => (k : Int) - j
theorem idx_two {s : ByteArray} {a b j : Nat} (ha : a < 256) (hb : b < 256) (hj : j ≤ s.size) : Go.Lib.index (s.extract j s.size).data.toList [UInt8.ofNat a, UInt8.ofNat b] = FK s a b j := by
  obtain ⟨h1, h2⟩ := pZ s a b s.size j (by omega)
  have hlen : (s.extract j s.size).data.toList.length = s.size - j := by rw [GC, List.length_drop]; simp
  unfold FK
  cases h : jU s a b s.size j with
  | none =>
    refine Go.Lib.index_none fun i _ => ?_
    rw [IH ha hb hj]
    exact decide_eq_false (h2 h _ (by omega))
  | some k =>
    obtain ⟨h3, h4, h5⟩ := h1 k h
    have e : (k : Int) - j = ((k - j : Nat) : Int) := by omega
    show _ = (k : Int) - j
    rw [e]
    refine Go.Lib.index_first (by rw [hlen]; have := h4.1; omega) ?_ fun i hi => ?_
    · rw [IH ha hb hj, show j + (k - j) = k by omega]; exact decide_eq_true h4
    · rw [IH ha hb hj]; exact decide_eq_false (h5 _ (by omega) (by omega))
theorem yL {s t : ByteArray} (h : s.size = t.size) (h2 : ∀ k, k < s.size → sb s k = sb t k) : s = t := by
  apply ByteArray.ext
  apply Array.ext h
  intro i h3 h4
  have h5 := h2 i h3
  rw [qV s i h3, qV t i h4] at h5
  have : (s.data[i]).toNat = (t.data[i]).toNat := h5
  exact UInt8.toNat_inj.1 this
theorem wG {t p : ByteArray} {i : Nat} (hi : i ≤ t.size) : (p.size ≤ (t.extract i t.size).size ∧ (t.extract i t.size).extract 0 p.size = p) ↔ ∀ k, k < p.size → isB t (i + k) (sb p k) := by
  have hs := fB (s := t) (a := i) (Nat.le_refl t.size)
  constructor
  · rintro ⟨h1, h2⟩ k hk
    refine ⟨by omega, ?_⟩
    have e : sb ((t.extract i t.size).extract 0 p.size) k = sb p k := by rw [h2]
    rw [dM h1 (by omega), Nat.zero_add, dM (Nat.le_refl _) (by omega)] at e
    exact e
  · intro h
    have h1 : p.size ≤ (t.extract i t.size).size := by
      rcases Nat.eq_zero_or_pos p.size with h0 | h0
      · omega
      · have := (h (p.size - 1) (by omega)).1; omega
    refine ⟨h1, yL (by rw [fB h1]; omega) fun k hk => ?_⟩
    rw [fB h1] at hk
    rw [dM h1 (by omega), Nat.zero_add, dM (Nat.le_refl _) (by omega)]
    exact (h k (by omega)).2
end Go.Proofs.Ytidpigbinpaaeaa
namespace Go.Proofs.Ytidpigbinpaaeaa
open Go.RowKit Go.W
attribute [local irreducible] Decidable.decide
theorem qF : dY Try.prog 46 := ⟨_, Try.func46, by kernel_rfl, by kernel_rfl⟩
theorem yW : dY Try.prog 60 := ⟨_, Try.func60, by kernel_rfl, by kernel_rfl⟩
theorem yT : dY Try.prog 73 := ⟨_, Try.func73, by kernel_rfl, by kernel_rfl⟩
theorem JU : dY Try.prog 75 := ⟨_, Try.func75, by kernel_rfl, by kernel_rfl⟩
theorem UH {s : ByteArray} {i k : Nat} (h : i ≤ s.size) : (s.extract i s.size).extract k (s.extract i s.size).size = s.extract (i + k) s.size := by
  have hs := fB (s := s) (a := i) (Nat.le_refl s.size)
  rcases Nat.lt_or_ge s.size (i + k) with hk | hk
  · apply yL
    · rw [fB (Nat.le_refl _), fB (Nat.le_refl _), fB (Nat.le_refl _)]; omega
    · intro j hj; rw [fB (Nat.le_refl _), hs] at hj; omega
  · apply yL
    · rw [fB (Nat.le_refl _), fB (Nat.le_refl _), fB (Nat.le_refl _)]; omega
    · intro j hj
      rw [fB (Nat.le_refl _), hs] at hj
      rw [dM (Nat.le_refl _) (by rw [hs]; omega), dM (Nat.le_refl _) (by omega), dM (Nat.le_refl _) (by omega), Nat.add_assoc]
theorem yA {s : ByteArray} {i k m : Nat} (h : i + m ≤ s.size) (hk : k ≤ m) : (s.extract i s.size).extract k m = s.extract (i + k) (i + m) := by
  have hs := fB (s := s) (a := i) (Nat.le_refl s.size)
  apply yL
  · rw [fB (by rw [hs]; omega), fB h]; omega
  · intro j hj
    rw [fB (by rw [hs]; omega)] at hj
    rw [dM (by rw [hs]; omega) (by omega), dM (Nat.le_refl _) (by omega), dM h (by omega), Nat.add_assoc]
theorem kV {s : ByteArray} {i k : Nat} (h : i + k < s.size) : sb (s.extract i s.size) k = sb s (i + k) := dM (Nat.le_refl _) h
def Pre (t p : ByteArray) : Prop := p.size ≤ t.size ∧ t.extract 0 p.size = p
instance (t p : ByteArray) : Decidable (Pre t p) := by unfold Pre; infer_instance
theorem pre1 {t : ByteArray} {x : UInt8} {i : Nat} (hi : i ≤ t.size) : Pre (t.extract i t.size) (ByteArray.mk #[x]) ↔ isB t i x.toNat := by
  unfold Pre
  rw [wG hi]
  constructor
  · intro h; exact h 0 (by show 0 < 1; omega)
  · intro h k hk
    have hk' : k < 1 := hk
    obtain rfl : k = 0 := by omega
    exact h
theorem pre2 {t : ByteArray} {x y : UInt8} {i : Nat} (hi : i ≤ t.size) : Pre (t.extract i t.size) (ByteArray.mk #[x, y]) ↔ isB t i x.toNat ∧ isB t (i + 1) y.toNat := by
  unfold Pre
  rw [wG hi]
  constructor
  · intro h; exact ⟨h 0 (by show 0 < 2; omega), h 1 (by show 1 < 2; omega)⟩
  · rintro ⟨h0, h1⟩ k hk
    have hk' : k < 2 := hk
    match k, hk' with
    | 0, _ => exact h0
    | 1, _ => exact h1
theorem pre3 {t : ByteArray} {x y z : UInt8} {i : Nat} (hi : i ≤ t.size) : Pre (t.extract i t.size) (ByteArray.mk #[x, y, z]) ↔ isB t i x.toNat ∧ isB t (i + 1) y.toNat ∧ isB t (i + 2) z.toNat := by
  unfold Pre
  rw [wG hi]
  constructor
  · intro h; exact ⟨h 0 (by show 0 < 3; omega), h 1 (by show 1 < 3; omega), h 2 (by show 2 < 3; omega)⟩
  · rintro ⟨h0, h1, h2⟩ k hk
    have hk' : k < 3 := hk
    match k, hk' with
    | 0, _ => exact h0
    | 1, _ => exact h1
    | 2, _ => exact h2
theorem pre4 {t : ByteArray} {x y z u : UInt8} {i : Nat} (hi : i ≤ t.size) : Pre (t.extract i t.size) (ByteArray.mk #[x, y, z, u]) ↔ isB t i x.toNat ∧ isB t (i + 1) y.toNat ∧ isB t (i + 2) z.toNat ∧ isB t (i + 3) u.toNat := by
  unfold Pre
  rw [wG hi]
  constructor
  · intro h; exact ⟨h 0 (by show 0 < 4; omega), h 1 (by show 1 < 4; omega), h 2 (by show 2 < 4; omega), h 3 (by show 3 < 4; omega)⟩
  · rintro ⟨h0, h1, h2, h3⟩ k hk
    have hk' : k < 4 := hk
    match k, hk' with
    | 0, _ => exact h0
    | 1, _ => exact h1
    | 2, _ => exact h2
    | 3, _ => exact h3
theorem RO {t : ByteArray} {x : UInt8} : Pre t (ByteArray.mk #[x]) ↔ isB t 0 x.toNat := by
  have h := pre1 (t := t) (x := x) (i := 0) (Nat.zero_le _)
  rwa [ByteArray.extract_zero_size] at h
def nU : Nat := 0
def Glb (w : World) : Prop := ∃ m : Int, w.cell? ⟨nU, 0, none⟩ = some (.int .i64 m)
theorem Glb.evo {X : List Nat} {w w' : World} (h : Glb w) (he : Evo X w w') (hx : nU ∉ X) : Glb w' := by obtain ⟨m, h⟩ := h; exact ⟨m, he.cell h hx⟩
theorem RdAt.glb {w : World} {b : Nat} {s : ByteArray} {st : PS} {a : Option Addr} {c : Nat} {ob : Option Nat} (h : RdAt w b s st a c ob) (hg : Glb w) : b ≠ nU := fun e => by
  obtain ⟨m, hm⟩ := hg
  subst e
  have := eS (o := 0) h.blk (v := .string s) rfl
  rw [this] at hm; cases hm
theorem MX {w : World} (s : ByteArray) (x y : UInt8) (j : Nat) (hj : j ≤ s.size) (hs : s.size ≤ 1000000) (hg : Glb w) : Calls Try.prog 65 #[.string (s.extract j s.size), .string (ByteArray.mk #[x, y])] w (Ret fun v w' => v = iv (FK s x.toNat y.toNat j) ∧ Evo [] w w') := by
  obtain ⟨m, hm⟩ := hg
  refine (uH _ _ m w (by rw [fB (Nat.le_refl _)]; omega) hm).mono ?_
  rintro e w' ⟨rfl, rfl⟩
  have h := idx_two (s := s) (a := x.toNat) (b := y.toNat) (j := j) x.toNat_lt y.toNat_lt hj
  rw [UInt8.ofNat_toNat, UInt8.ofNat_toNat] at h
  exact ⟨_, rfl, congrArg iv h, Evo.refl _ _⟩
theorem EZ {w : World} (s p : ByteArray) (hs : s.size ≤ 140737488355328) (hp : p.size ≤ 140737488355328) : Calls Try.prog 73 #[.string s, .string p] w (Ret fun v w' => v = .bool (decide (Pre s p)) ∧ Evo [] w w') := by
  refine bE (N := 18) Try.func73 rfl rfl rfl ?_; refine csr (wan (csr (aB (aA (bR rfl Try.underlying9 rfl) ?_)))); refine aB (aA (bR rfl Try.underlying9 rfl) ?_); refine aA (eF rfl rfl) ?_; refine aB (bC (t := 10) rfl (fun A => ?_) (fun A => ?_))
  ·refine aO (aB (aO (aB (aO (aA (bR rfl Try.underlying9 rfl) ?_))))); refine aO ?_; refine aA (PF (h := p.size) rfl rfl Try.underlying9 rfl (by omega)) ?_; refine aO (aB (aO (aA (gK rfl rfl) ?_))); refine bQ (wan (aH (br1 ?_))); refine ⟨congrArg Value.bool (decide_eq_decide.2 ?_), (Evo.refl [] w)⟩; exact ⟨fun h => ⟨by omega, h⟩, fun h => h.2⟩
  refine aJ (aJ (aJ (aJ (aJ (aJ (bK (wan (aH (br1 ?_)))))))))
  exact ⟨congrArg Value.bool (decide_eq_false (fun h => by have := h.1; omega)).symm, (Evo.refl [] w)⟩
theorem wK {w : World} (s p : ByteArray) (hs : s.size ≤ 140737488355328) (hp : p.size ≤ 140737488355328) : Calls Try.prog 63 #[.string s, .string p] w (Ret fun v w' => v = .bool (decide (Pre s p)) ∧ Evo [] w w') := by
  refine bE (N := 8) Try.func63 rfl rfl rfl ?_; refine csr (wan (csr (aB (aB (aL (vs := [_, _]) yT rfl (EZ s p hs hp) rfl ?_))))); rintro _ w1 ⟨rfl, A⟩; refine wan (aH (br1 ?_)); exact ⟨rfl, ((Evo.refl [] w).then A)⟩
theorem cutI_ok {w : World} (s p : ByteArray) (hs : s.size ≤ 140737488355328) (hp : p.size ≤ 140737488355328) : Calls Try.prog 75 #[.string s, .string p] w (Ret fun v w' => v = .tuple #[.string (if Pre s p then s.extract p.size s.size else s), .bool (decide (Pre s p))] ∧ Evo [] w w') := by
  refine bE (N := 15) Try.func75 rfl rfl rfl ?_; refine csr (bX (wan (aI (csr (aB (aB (aL (vs := [_, _]) yT rfl (EZ s p hs hp) rfl ?_))))))); rintro _ w1 ⟨rfl, D⟩; have B := (Evo.refl [] w).then D; refine aA (oO rfl) ?_; refine wnn (aW rfl (fun A => ?_) (fun A => ?_))
  ·refine csr (aB (bX (wan (aH (aE (cJ rfl rfl rfl ?_)))))); exact ⟨by rw [if_neg A, decide_eq_false A], B⟩
  refine aM (aC (csr (aB (aB (aA (bR rfl Try.underlying9 rfl) ?_)))))
  refine aA (jI (l := p.size) rfl rfl Try.underlying9 rfl (by have := Classical.not_not.1 A; exact this.1)) ?_
  refine bX (wan (aH (cJ rfl rfl rfl ?_))); have h9 := Classical.not_not.1 A; exact ⟨by rw [if_pos h9, decide_eq_true h9], B⟩
theorem cut_ok {w : World} (s p : ByteArray) (hs : s.size ≤ 140737488355328) (hp : p.size ≤ 140737488355328) : Calls Try.prog 66 #[.string s, .string p] w (Ret fun v w' => v = .tuple #[.string (if Pre s p then s.extract p.size s.size else s), .bool (decide (Pre s p))] ∧ Evo [] w w') := by
  refine bE (N := 11) Try.func66 rfl rfl rfl ?_; refine csr (bX (wan (csr (aB (aB (aL (vs := [_, _]) JU rfl (cutI_ok s p hs hp) rfl ?_)))))); rintro _ w1 ⟨rfl, A⟩; refine aA (bN rfl rfl) ?_; refine aA (bN rfl rfl) ?_; refine bX (wan (aH (cJ rfl rfl rfl ?_))); exact ⟨rfl, ((Evo.refl [] w).then A)⟩
theorem SE {s : ByteArray} {i v j : Nat} (h : sb s i = 92) (h2 : nT s i = .ok (v, j)) : lH s i = .ok ((v : Int), j) := by unfold lH; rw [if_pos h, h2]
theorem SF {s : ByteArray} {i : Nat} {e : Int} (h : sb s i = 92) (h2 : nT s i = .error e) : lH s i = .error e := by unfold lH; rw [if_pos h, h2]
theorem EG {s : ByteArray} {i : Nat} (h : ¬ sb s i = 92) : lH s i = .ok ((bH s i).1, i + (bH s i).2) := by unfold lH; rw [if_neg h]
theorem uO {s : ByteArray} {i j : Nat} {r : Int} (h : lH s i = .ok (r, j)) (hb : Bd s i) (hi : i < s.size) : Bd s j ∧ i < j ∧ 0 ≤ r ∧ r ≤ 1114111 := by
  by_cases h1 : sb s i = 92
  · unfold lH at h
    rw [if_pos h1] at h
    cases h2 : nT s i with
    | error e => rw [h2] at h; cases h
    | ok x =>
      obtain ⟨n, k⟩ := x
      rw [h2] at h
      cases h
      obtain ⟨h3, h4, h5⟩ := IE h2 hb h1
      exact ⟨h3, h4, by omega, by omega⟩
  · rw [EG h1] at h
    cases h
    obtain ⟨h3, h4, h5, h6, h7⟩ := hb.next hi
    exact ⟨h5, by omega, h6, h7⟩
theorem AA {w : World} {b : Nat} {s : ByteArray} {st : PS} {a : Option Addr} {c : Nat} {ob : Option Nat} (hR : RdAt w b s st a c ob) (hs : s.size ≤ 1000000) (hlt : st.pos < s.size) (hb : Bd s st.pos) :
    Calls Try.prog 68 #[.pointer (some ⟨b, 0, none⟩)] w (RetP (fun v w' => ∃ r j, lH s st.pos = .ok (r, j) ∧ v = .int .i32 r ∧ Evo [b] w w' ∧ RdAt w' b s (gT st j) a c ob) (fun v w' => lH s st.pos = .error 83 ∧ v = flt 83 ∧ Evo [b] w w')) := by
  have hap := hR.ap; refine bE (N := 17) Try.func68 rfl rfl rfl ?_; refine csr (wan (aI (aI ?_))); refine eH (by kernel_rfl) (by kernel_rfl) ?_; refine bD (fun _ A => aX rfl) ?_; refine bD (fun _ A => aF rfl) ?_; refine bD (fun _ A => aD rfl cV) ?_; refine bD (fun _ A => aS rfl dC (aY (A.blk0 hR.blk) rfl)) ?_; refine bD (fun _ A => aX rfl) ?_; refine bD (fun _ A => aF rfl) ?_; refine bD (fun _ A => aD rfl bF) ?_; refine bD (fun _ A => aS rfl aT (aY (A.blk0 hR.blk) rfl)) ?_; refine bD (fun _ A => eE (n := st.pos) rfl rfl Try.underlying9 rfl hlt) ?_; refine bD (fun _ A => lL rfl rfl) ?_; refine eL (fun L A => aC ?_); have B := (Evo.refl [b] w).then A; refine aW rfl (fun D => ?_) (fun D => ?_)
  ·refine csr (aB (cB (vs := [_]) yW rfl (yD ⟨(A.blk0 hR.blk), (hR.own.evo0 A), hR.ne⟩ hs hlt) rfl ?_ ?_))
   ·intro pv wp hpp; obtain ⟨hpe, rfl, hpw⟩ := hpp; exact And.intro rfl ⟨_, rfl, SF (by omega) hpe, rfl, (B).step hpw (fun y hy => .inl hy)⟩
   rintro _ w6 ⟨n, j, hx, rfl, H, I⟩; refine wan (aH (aE (cE (br1 ?_)))); exact ⟨_, _, SE (by omega) hx, rfl, (B.step H (fun y hy => .inl hy)), I⟩
  refine aM (aC (csr (aB (aL (vs := [_]) qF rfl (wF ⟨(A.blk0 hR.blk), (hR.own.evo0 A), hR.ne⟩ hs hb) rfl ?_)))); rintro _ w9 ⟨rfl, F, J⟩; refine wan (aH (cE (br1 ?_))); exact ⟨_, _, EG (by omega), rfl, (B.step F (fun y hy => .inl hy)), J⟩
end Go.Proofs.Ytidpigbinpaaeaa
namespace Go.Proofs.Ytidpigbinpaaeaa
open Go.RowKit Go.W
def spec : List Nat := [92, 46, 43, 42, 63, 40, 41, 124, 91, 93, 123, 125, 94, 36]
def Odd (c : Int) : Prop := c < 32 ∨ c = 127 ∨ (55296 ≤ c ∧ c ≤ 57343)
instance (c : Int) : Decidable (Odd c) := by unfold Odd; infer_instance
def EndC (c : Int) : Prop := c < 128 ∧ fR c.toNat ∧ c ≠ 95
instance (c : Int) : Decidable (EndC c) := by unfold EndC; infer_instance
noncomputable def fS (t : Rx) : List ByteArray := match t.fine 0 (0, []) with
  | some st => st.2
  | none => []
end Go.Proofs.Ytidpigbinpaaeaa
namespace Go.Proofs.Ytidpigbinpaaeaa
open Go.RowKit Go.W
attribute [local irreducible] Decidable.decide
theorem PW {n : Nat} {w : World} {vs : List Value} {t : Rx} (hx : RRx n [] w vs t) :
    Calls Try.prog 23 #[.agg vs.toArray] w (Ret fun v w' => ∃ a c ob, v = .slice a (fS t).length c ∧ OwnS w' 9 1 a (fS t).length c ((fS t).map sv) ob ∧ Ge w ob ∧ (fS t).length ≤ 100000 ∧ Evo [] w w') := by
  have hx0 := hx; obtain ⟨m, ra, rc, ka, kc, hm, rfl, hrg, hk, bl1, bl2, bl3⟩ := hx.get; refine bE (N := 13) Try.func23 rfl rfl rfl ?_; refine csr (gD rfl rfl fun b1x w1 O U V => ?_); have M := U; have F := (Evo.refl [] w).then V; refine wan (csr (cL rfl yN fun jb w7 a0 A H => ?_)); have a1 := A; have B := F.then H; refine wan (aI (csr (aB (aA (bW rfl bZ aU (H.blk0 O) rfl) ?_)))); refine aL (vs := [_, _, _]) qG rfl (CS (st := (0, [])) (JAt.new a0) (RRx.step hx0 B (Ge.new F A).mem1 (fun b hb => by cases hb)) ⟨Nat.le_refl _, by decide⟩ (by decide) (by decide)) rfl ?_; rintro _ a3 ⟨r, rfl, hr, L, hst⟩; have hsz9 := B.size; have I := B.step L ((Ge.new F A).mem1); refine aA (dR rfl) ?_; refine wnn (fG rfl (fun D => ?_) (fun D => ?_))
  ·refine csr (wan (aH (aE (br1 ?_))))
   have hno : t.fine 0 (0, []) = none := by cases h9 : t.fine 0 (0, []) with | none => rfl | some z => rw [h9] at hr; rw [hr] at D; cases D
   have hgr : fS t = [] := by rw [fS, hno]
   rw [hgr]; exact ⟨none, 0, none, rfl, OwnS.nil _ _ _, Ge.nil _, Nat.zero_le _, I⟩
  obtain ⟨st', hst'⟩ := Option.isSome_iff_exists.1 (show (t.fine 0 (0, [])).isSome = true by rw [← hr]; simpa using D)
  obtain ⟨A, a2, c2, o2, J, ho2⟩ := hst st' hst'
  have hgr : fS t = st'.2 := by rw [fS, hst']
  refine aM (aC (csr (aB (aA (aF rfl) (wfl rfl mD rfl kR J.blk rfl (wan (aH (br1 ?_)))))))); rw [hgr]
  refine ⟨a2, c2, o2, rfl, J.own, fun g hg => ?_, by have := A.1; have := A.2; omega, I⟩
  rcases ho2 g hg with h9 | h9
  · cases h9
  · omega
theorem FM : ∀ l : List ByteArray, (l.map fun s => [sv s]).flatten = l.map sv
  | [] => rfl
  | x :: r => by rw [List.map_cons, List.flatten_cons, FM r]; rfl
theorem VM {w : World} {o p : Option Nat} (h : Lt w o) (hp : Ge w p) : Apart o p := fun g h1 h2 => by have := h g h1; have := hp g h2; omega
theorem QX {X : List Nat} {w : World} {e : TypeId} {a : Option Addr} {c : Nat} {l : List ByteArray} {ob : Option Nat} (h : OwnS w e 1 a l.length c (l.map sv) ob) (hx : ∀ g, ob = some g → g ∉ X) : RSl 1 RStr X w (.slice a l.length c) l := by
  have e1 := FM l
  refine RSl.ofOwn (rows := l.map fun s => [sv s]) (by rw [e1]; exact h) ⟨by simp, fun k h1 h2 => ?_⟩ rfl hx
  simp only [List.getElem_map]
  exact ⟨rfl, rfl⟩
def Comp2 (X : List Nat) (t : Rx) (w' : World) (ps : List Value) (e : Int) : Prop := (e ≠ 0 ∧ (¬ t.Ok ∨ 10000 < t.esz + 1) ∧ Shp ps) ∨ (t.Ok ∧ t.esz + 1 ≤ 10000 ∧ e = 0 ∧ ∃ l n a c na nc, ps = [.slice a l.length c, iv 0, iv (fS t).length, .slice na (fS t).length nc] ∧ RSl 5 RIn X w' (.slice a l.length c) l ∧ RSl 1 RStr X w' (.slice na (fS t).length nc) (fS t) ∧ l.length ≤ 10000 ∧ ProgOk t l n)
set_option maxHeartbeats 4000000 in
theorem GD {X : List Nat} {n : Nat} {w : World} {vs : List Value} {t : Rx} (hX : ∀ b, b ∈ X → b < w.heap.size) (hx : RRx n [] w vs t) :
    Calls Try.prog 13 #[.agg vs.toArray] w (Ret fun v w' => Evo [] w w' ∧ ∃ ps e, v = .tuple #[.agg ps.toArray, iv e] ∧ Comp2 X t w' ps e) := by
  have hx0 := hx; obtain ⟨m, ra, rc, ka, kc, hm, rfl, hrg, hk, bl1, bl2, bl3⟩ := hx.get; refine bE (N := 28) Try.func13 rfl rfl rfl ?_; refine csr (gD rfl rfl fun b1 w1 c9 d9 e0 => ?_); have e1 := d9; have b4 := (Evo.refl [] w).then e0; refine cL rfl yQ fun b2 w7 e2 d0 I => ?_; have e3 := d0; have a0 := Ge.new b4 d0; refine wan (csr (aA (bW rfl bZ aU (I.blk0 c9) rfl) (aL (vs := [_]) KV rfl (Size_ok (RRx.pers _ _ _ _ _ _ (b4.then I) hx0)) rfl ?_))); rintro _ e9 ⟨sz, rfl, hsz, a1⟩; have J := (b4.then I).then a1; have b5 := a1.blk0 (I.blk0 c9); have L := a1.blk0 e2; refine wan (aI (csr (aB (wel ?_)))); refine wnn (aW rfl (fun M => ?_) (fun M => ?_))
  ·refine csr (aA (cC (vs := []) rT rfl (cells := [_, _, _, _]) rfl) ?_); refine aV rfl rfl fZ L rfl rfl ⟨by first | rfl | assumption, by first | rfl | assumption, by first | rfl | assumption, by first | rfl | assumption, trivial⟩ fun f0 b6 d2 => ?_
   try simp only [cH, Nat.reduceAdd] at b6
   refine wan (aH (aE (nO rfl (ResOk.cellA rfl kQ fZ b6 rfl) (ResOk.tmp rfl) ?_))); exact ⟨(J.step d2 a0.mem1), [_, _, _, _], 2, rfl, .inl ⟨by decide, .inl (hsz.zero M), _, _, _, _, _, rfl, rfl, rfl⟩⟩
  refine aM (aC (aI (csr (aB (aA (fE rfl rfl) ?_))))); refine wnn (aW rfl (fun a3 => ?_) (fun a3 => ?_))
  ·refine csr (aA (cC (vs := []) rT rfl (cells := [_, _, _, _]) rfl) ?_); refine aV rfl rfl fZ L rfl rfl ⟨by first | rfl | assumption, by first | rfl | assumption, by first | rfl | assumption, by first | rfl | assumption, trivial⟩ fun f5 b7 d3 => ?_
   try simp only [cH, Nat.reduceAdd] at b7
   refine wan (aH (aE (nO rfl (ResOk.cellA rfl kQ fZ b7 rfl) (ResOk.tmp rfl) ?_))); have hok : t.Ok := Classical.byContradiction fun h => M (hsz.2 h); exact ⟨(J.step d3 a0.mem1), [_, _, _, _], 90, rfl, .inl ⟨by decide, .inr (hsz.big hok a3), _, _, _, _, _, rfl, rfl, rfl⟩⟩
  have hok : t.Ok := Classical.byContradiction fun h => M (hsz.2 h); have hszE := hsz.fits hok a3; have hsz4 := size_lt hszE; refine aM (aC (csr (cL rfl JN fun cb f6 d4 O a4 => ?_))); have e4 := O; have b8 := Apart.new (Lt.blk b5) O; have b9 := Apart.new (Lt.blk L) O; have a5 := Ge.new J O; have U := J.then a4; have a6 := a4.blk0 b5; have a7 := a4.blk0 L; refine wnn (csr (aA (bW rfl bZ aU a6 rfl) ?_))
  refine aL (vs := [_, _]) jJ rfl (NK (CdAt.new (Z := X ++ [b2]) d4) (RRx.step hx0 U a5.mem1 (fun b hb => by cases hb)) hok.good (QT hszE) (fun z hz => by rcases List.mem_append.1 hz with e | e; exact Nat.lt_of_lt_of_le (hX z e) (U).size; (rw [List.mem_singleton.1 e]; exact eM a7))) rfl ?_
  rintro _ e5 ⟨-, a8, new, hto, hcodes, hlen, hnice⟩; have hltb2 := (Lt.blk a7); have hltb1 := (Lt.blk a6); have hgcb := a5; have hev16 := U; obtain ⟨pa, pc, po, e6, hp1⟩ := hto; have H := e6.cast (List.nil_append _); have hgpo : Ge w po := ge_ob (Ge.nil _) hev16.size hp1; have hA2po := fO (Apart.nil (some b2)) hltb2 hp1; have hA1po := fO (Apart.nil (some b1)) hltb1 hp1
  have hAcN : Apart (some cb) po := fun g h1 h2 => by cases h1; exact H.ne cb h2 rfl
  refine wnn (csr (aA (aS rfl fK (aY H.blk rfl)) (aA (cC (vs := [(0, _)]) dQ rfl (cells := [_, _, _, _, _]) rfl) ?_))); refine bM (vs := [_]) rfl rK rfl rfl rfl rfl fun f7 f8 d5 e8 A => ?_; have c0 := (U.step a8 (a5.mem1)).then A; have c1 := A.blk0 (a8.blk a7 (b9.nmem1)); refine cZ rfl rfl rfl rfl qI (H.own.evo0 A) (Src.ofOwn d5 ⟨by first | rfl | assumption, by first | rfl | assumption, by first | rfl | assumption, by first | rfl | assumption, by first | rfl | assumption, trivial⟩) (by omega) fun a2 c2 f9 ob2 e7 B hob68 => ?_; have d6 := hgpo.app c0 hob68; have d7 := ((Evo.refl (cb :: (po.toList ++ (X ++ [b2]))) e5).then A).step B (fun y hy => .inl (List.mem_cons_of_mem _ (List.mem_append_left _ hy))); have hob2 := hob68; refine bB rfl rfl (by first | rfl | assumption) tH (B.blk (A.blk0 H.blk) hAcN.nmem) rfl fun g0 c3 D => ?_; have a9 := (c0.step B hgpo.mem).step D hgcb.mem1
  have d8 := d7.step D (fun y hy => .inl (by rw [List.mem_singleton.1 hy]; exact List.mem_cons_self ..))
  have c4 := D.blk (B.blk c1 hA2po.nmem) b9.nmem1
  try simp only [cH, Nat.reduceAdd] at c3
  refine wnn (csr (aA (bW rfl bZ aU (D.blk (B.blk (A.blk0 (a8.blk a6 (b8.nmem1))) hA1po.nmem) b8.nmem1) rfl) (aL (vs := [_]) KU rfl (PW (RRx.pers _ _ _ _ _ _ a9 hx0)) rfl ?_))); rintro _ g1 ⟨na, nc, nob, rfl, hNm, hNg, hNl, F⟩; have hltb2n := (Lt.blk c4); have hevN := a9; have hA2ns : Apart (some b2) nob := VM hltb2n hNg; refine wan (csr (aA (aS rfl fK (aY (F.blk0 c3) rfl)) (aB (aA (aZ rfl Try.underlying41 rfl) ?_)))); refine aB (aA (cC (vs := [(0, _), (2, _), (3, _)]) rT rfl (cells := [_, _, _, _]) rfl) ?_); refine aV rfl rfl fZ (F.blk0 c4) rfl rfl ⟨by first | rfl | assumption, by first | rfl | assumption, by first | rfl | assumption, by first | rfl | assumption, trivial⟩ fun d1 c5 V => ?_; have c6 := (d8.then F).step V (fun y hy => .inl (List.mem_cons_of_mem _ (List.mem_append_right _ (List.mem_append_right _ hy)))); have c7 := ((e7.evo D (hAcN.app (Lt.blk (A.blk0 H.blk)) hob68).symm.own1).evo0 F).evo V (hA2po.app (Lt.blk c1) hob68).symm.own1; have c8 := hNm.evo V hA2ns.symm.own1
  try simp only [cH, Nat.reduceAdd] at c5
  refine wan (aH (nO rfl (ResOk.cellA rfl kQ fZ c5 rfl) (ResOk.tmp rfl) ?_))
  have hnew : ∀ e, e ∈ new ++ [((⟨1, 0, 0, 0, []⟩ : In), Value.slice none 0 0)] → e.1.rs.length ≤ 1048576 := fun e he => by rcases List.mem_append.1 he with h | h; exact (hnice e h).2.2.2; rw [List.mem_singleton] at h; subst h; exact Nat.zero_le _
  have hrsA : ∀ e, e ∈ new ++ [((⟨1, 0, 0, 0, []⟩ : In), Value.slice none 0 0)] → RSl 2 RRg X d1 e.2 e.1.rs := fun e he => by rcases List.mem_append.1 he with h | h; exact oU (H.rs e h) c6 (fun y hy => .inl (List.mem_cons_of_mem _ (List.mem_append_right _ (List.mem_append_left _ hy)))); rw [List.mem_singleton] at h; subst h; exact lX
  have hown : OwnS d1 68 5 a2 (new.length + 1) c2 (oN (new ++ [((⟨1, 0, 0, 0, []⟩ : In), Value.slice none 0 0)])) ob2 := by rw [rD]; exact c7
  have hlen0 := hsz4
  have hll : ((new ++ [((⟨1, 0, 0, 0, []⟩ : In), Value.slice none 0 0)]).map (·.1)).length = new.length + 1 := by simp
  refine ⟨((a9.then F).step V a0.mem1), [_, _, _, _], 0, rfl, .inr ⟨hok, hszE, rfl, (new ++ [((⟨1, 0, 0, 0, []⟩ : In), Value.slice none 0 0)]).map (·.1), new.length, a2, c2, na, nc, by rw [hll], ?_, ?_, ?_, ?_⟩⟩
  · rw [hll]; exact prog_of hown (fun g hg hm => by have h1 := d6 g hg; have h2 := hX g hm; omega) hrsA hnew
  · exact QX c8 (fun g hg hm => by have h1 := hNg g hg; have h2 := hX g hm; have h3 := hevN.size; omega)
  · rw [hll]; exact Nat.le_trans (Nat.succ_le_succ (Nat.le_trans hlen hlen0)) (by decide)
  · exact OE hok.good hcodes hnice
end Go.Proofs.Ytidpigbinpaaeaa
namespace Go.Proofs.Ytidpigbinpaaeaa
abbrev dS := List (Nat × Nat)
abbrev Th := Nat × dS
inductive Mov where
  | rune (out : Option Nat)
  | mat
  | go (o : Nat)
  | split (o a : Nat)
  | save (s o : Nat)
  | dead
def Mov.leaf : Mov → Bool
  | .rune _ => true
  | .mat => true
  | _ => false
abbrev Vis := Nat → Bool
def Vis.add (V : Vis) (i : Nat) : Vis := fun j => if j = i then true else V j
abbrev Wt := Nat → Vis
def Wt.lay (W : Wt) (a : Nat) (V : Vis) : Wt := fun b => if b = a then V else W b
theorem dP {W : Wt} {a : Nat} {V : Vis} : W.lay a V a = V := by simp [Wt.lay]
theorem IQ {W : Wt} {a b : Nat} {V : Vis} (h : b ≠ a) : W.lay a V b = W b := by simp [Wt.lay, h]
theorem sE {W : Wt} {a : Nat} {V U : Vis} : (W.lay a V).lay a U = W.lay a U := by
  funext b; by_cases h : b = a <;> simp [Wt.lay, h]
theorem xT {W : Wt} {a b : Nat} {V U : Vis} (h : a ≠ b) : (W.lay a V).lay b U = (W.lay b U).lay a V := by
  funext c
  simp only [Wt.lay]
  by_cases h1 : c = a
  · subst h1; simp [h]
  · simp [h1]
theorem IR {W : Wt} {a : Nat} : W.lay a (W a) = W := by
  funext b; by_cases h : b = a
  · subst h; simp [Wt.lay]
  · simp [Wt.lay, h]
section
variable (mv : Nat → Nat → Mov) (nxt : Nat → Option Nat) (len : Nat)
inductive Ept (at' : Nat) : List Th → Vis → List Th → Vis → Prop
  | nil {V} : Ept at' [] V [] V
  | seen {i t st V L V'} (h : V i = true) (k : Ept at' st V L V') : Ept at' ((i, t) :: st) V L V'
  | leaf {i t st V L V'} (h : V i = false) (hl : (mv at' i).leaf = true) (k : Ept at' st (V.add i) L V') : Ept at' ((i, t) :: st) V ((i, t) :: L) V'
  | go {i t st V L V' o} (h : V i = false) (hm : mv at' i = .go o) (k : Ept at' ((o, t) :: st) (V.add i) L V') : Ept at' ((i, t) :: st) V L V'
  | split {i t st V L V' o a} (h : V i = false) (hm : mv at' i = .split o a) (k : Ept at' ((o, t) :: (a, t) :: st) (V.add i) L V') : Ept at' ((i, t) :: st) V L V'
  | save {i t st V L V' s o} (h : V i = false) (hm : mv at' i = .save s o) (k : Ept at' ((o, (s, at') :: t) :: st) (V.add i) L V') : Ept at' ((i, t) :: st) V L V'
  | dead {i t st V L V'} (h : V i = false) (hm : mv at' i = .dead) (k : Ept at' st (V.add i) L V') : Ept at' ((i, t) :: st) V L V'
def iG (at' : Nat) (L : List Th) : List Th := L.filterMap fun x => match mv at' x.1 with | .rune (some o) => some (o, x.2) | _ => none
def first (at' : Nat) (L : List Th) : Option dS := (L.find? fun x => match mv at' x.1 with | .mat => true | _ => false).map (·.2)
def Mov.isMat : Mov → Bool
  | .mat => true
  | _ => false
def Mov.outs : Mov → Option Nat
  | .rune o => o
  | _ => none
theorem xY (at' : Nat) (L : List Th) : first mv at' L = (L.find? fun x => (mv at' x.1).isMat).map (·.2) := by
  unfold first
  congr 2
theorem AR (at' : Nat) (d : Th) : iG mv at' [d] = ((mv at' d.1).outs.map fun o => (o, d.2)).toList := by
  unfold iG
  simp only [List.filterMap_cons, List.filterMap_nil]
  cases h : mv at' d.1 with
  | rune o => cases o <;> simp [Mov.outs]
  | mat => simp [Mov.outs]
  | go o => simp [Mov.outs]
  | split o b => simp [Mov.outs]
  | save a o => simp [Mov.outs]
  | dead => simp [Mov.outs]
inductive Pk : Nat → List Th → Wt → Option dS → Wt → Prop
  | last {a E W L V'} (h : a = len) (k : Ept mv a E (W a) L V') : Pk a E W (first mv a L) (W.lay a V')
  | stop {a E W L V'} (h : a ≠ len) (hn : nxt a = none) (k : Ept mv a E (W a) L V') : Pk a E W none (W.lay a V')
  | next {a b E W L V' r W'} (h : a ≠ len) (hn : nxt a = some b) (k : Ept mv a E (W a) L V') (p : Pk b (iG mv a L) W r W') : Pk a E W r (W'.lay a V')
inductive Dr : List (Nat × Nat × dS) → Wt → Option dS → Wt → Prop
  | nil {W} : Dr [] W none W
  | seen {a i t g W r W'} (h : W a i = true) (k : Dr g W r W') : Dr ((a, i, t) :: g) W r W'
  | found {a i t g W} (h : W a i = false) (hm : mv a i = .mat) (ha : a = len) : Dr ((a, i, t) :: g) W (some t) W
  | mat {a i t g W r W'} (h : W a i = false) (hm : mv a i = .mat) (ha : a ≠ len) (k : Dr g (W.lay a ((W a).add i)) r W') : Dr ((a, i, t) :: g) W r W'
  | rune {a b i t g W r W' o} (h : W a i = false) (hm : mv a i = .rune (some o)) (hl : a ≠ len) (hn : nxt a = some b) (k : Dr ((b, o, t) :: g) (W.lay a ((W a).add i)) r W') : Dr ((a, i, t) :: g) W r W'
  | miss {a i t g W r W'} (h : W a i = false) (hm : mv a i = .rune none ∨ ((∃ o, mv a i = .rune o) ∧ (a = len ∨ nxt a = none))) (k : Dr g (W.lay a ((W a).add i)) r W') : Dr ((a, i, t) :: g) W r W'
  | go {a i t g W r W' o} (h : W a i = false) (hm : mv a i = .go o) (k : Dr ((a, o, t) :: g) (W.lay a ((W a).add i)) r W') : Dr ((a, i, t) :: g) W r W'
  | split {a i t g W r W' o b} (h : W a i = false) (hm : mv a i = .split o b) (k : Dr ((a, o, t) :: (a, b, t) :: g) (W.lay a ((W a).add i)) r W') : Dr ((a, i, t) :: g) W r W'
  | save {a i t g W r W' s o} (h : W a i = false) (hm : mv a i = .save s o) (k : Dr ((a, o, (s, a) :: t) :: g) (W.lay a ((W a).add i)) r W') : Dr ((a, i, t) :: g) W r W'
  | dead {a i t g W r W'} (h : W a i = false) (hm : mv a i = .dead) (k : Dr g (W.lay a ((W a).add i)) r W') : Dr ((a, i, t) :: g) W r W'
variable {mv nxt len}
theorem Dr.uniq {g : List (Nat × Nat × dS)} {W W1 W2 : Wt} {r q : Option dS} (h : Dr mv nxt len g W r W1) : Dr mv nxt len g W q W2 → r = q := by
  induction h generalizing q W2 with
  | nil => intro k; cases k; rfl
  | seen h _ ih => intro k; cases k <;> simp_all; exact ih (by assumption)
  | found h hm ha => intro k; cases k <;> simp_all
  | mat h hm ha _ ih => intro k; cases k <;> simp_all; exact ih (by assumption)
  | rune h hm hl hn _ ih => intro k; cases k <;> simp_all; exact ih (by assumption)
  | miss h hm _ ih =>
    intro k
    cases k <;> try (simp_all; done)
    all_goals first | exact ih (by assumption) | (rcases hm with hm | ⟨⟨o, hm⟩, hm2⟩ <;> simp_all)
  | go h hm _ ih => intro k; cases k <;> simp_all; exact ih (by assumption)
  | split h hm _ ih => intro k; cases k <;> simp_all; exact ih (by assumption)
  | save h hm _ ih => intro k; cases k <;> simp_all; exact ih (by assumption)
  | dead h hm _ ih => intro k; cases k <;> simp_all; exact ih (by assumption)
theorem Dr.app {g g2 : List (Nat × Nat × dS)} {W W1 W2 : Wt} {r q : Option dS} (h : Dr mv nxt len g W r W1) (hr : r = none) (k : Dr mv nxt len g2 W1 q W2) : Dr mv nxt len (g ++ g2) W q W2 := by
  induction h with
  | nil => exact k
  | seen h _ ih => exact .seen h (ih hr k)
  | found h hm ha => cases hr
  | mat h hm ha _ ih => exact .mat h hm ha (ih hr k)
  | rune h hm hl hn _ ih => exact .rune h hm hl hn (ih hr k)
  | miss h hm _ ih => exact .miss h hm (ih hr k)
  | go h hm _ ih => exact .go h hm (ih hr k)
  | split h hm _ ih => exact .split h hm (ih hr k)
  | save h hm _ ih => exact .save h hm (ih hr k)
  | dead h hm _ ih => exact .dead h hm (ih hr k)
theorem Dr.appF {g : List (Nat × Nat × dS)} {W W1 : Wt} {r : Option dS} (h : Dr mv nxt len g W r W1) {t : dS} (hr : r = some t) (g2 : List (Nat × Nat × dS)) : Dr mv nxt len (g ++ g2) W r W1 := by
  induction h with
  | nil => cases hr
  | seen h _ ih => exact .seen h (ih hr)
  | found h hm ha => exact .found h hm ha
  | mat h hm ha _ ih => exact .mat h hm ha (ih hr)
  | rune h hm hl hn _ ih => exact .rune h hm hl hn (ih hr)
  | miss h hm _ ih => exact .miss h hm (ih hr)
  | go h hm _ ih => exact .go h hm (ih hr)
  | split h hm _ ih => exact .split h hm (ih hr)
  | save h hm _ ih => exact .save h hm (ih hr)
  | dead h hm _ ih => exact .dead h hm (ih hr)
theorem Ept.app {a : Nat} {s1 s2 L1 L2 : List Th} {V V1 V2 : Vis} (h : Ept mv a s1 V L1 V1) (k : Ept mv a s2 V1 L2 V2) : Ept mv a (s1 ++ s2) V (L1 ++ L2) V2 := by
  induction h with
  | nil => exact k
  | seen h _ ih => exact .seen h (ih k)
  | leaf h hl _ ih => exact .leaf h hl (ih k)
  | go h hm _ ih => exact .go h hm (ih k)
  | split h hm _ ih => exact .split h hm (ih k)
  | save h hm _ ih => exact .save h hm (ih k)
  | dead h hm _ ih => exact .dead h hm (ih k)
theorem Ept.cut {a : Nat} {s L : List Th} {V V' : Vis} (h : Ept mv a s V L V') : ∀ {s1 s2 : List Th}, s = s1 ++ s2 → ∃ L1 L2 V1, L = L1 ++ L2 ∧ Ept mv a s1 V L1 V1 ∧ Ept mv a s2 V1 L2 V' := by
  induction h with
  | nil => intro s1 s2 hs; obtain ⟨rfl, rfl⟩ := List.append_eq_nil_iff.1 hs.symm; exact ⟨[], [], _, rfl, .nil, .nil⟩
  | @seen i t st V L V' h k ih =>
    intro s1 s2 hs
    cases s1 with
    | nil => cases hs; exact ⟨[], _, _, rfl, .nil, .seen h k⟩
    | cons x s1 => cases hs; obtain ⟨L1, L2, V1, e, h1, h2⟩ := ih rfl; exact ⟨L1, L2, V1, e, .seen h h1, h2⟩
  | @leaf i t st V L V' h hl k ih =>
    intro s1 s2 hs
    cases s1 with
    | nil => cases hs; exact ⟨[], _, _, rfl, .nil, .leaf h hl k⟩
    | cons x s1 => cases hs; obtain ⟨L1, L2, V1, e, h1, h2⟩ := ih rfl; exact ⟨(i, t) :: L1, L2, V1, by rw [e]; rfl, .leaf h hl h1, h2⟩
  | @go i t st V L V' o h hm k ih =>
    intro s1 s2 hs
    cases s1 with
    | nil => cases hs; exact ⟨[], _, _, rfl, .nil, .go h hm k⟩
    | cons x s1 => cases hs; obtain ⟨L1, L2, V1, e, h1, h2⟩ := ih (s1 := (o, t) :: s1) rfl; exact ⟨L1, L2, V1, e, .go h hm h1, h2⟩
  | @split i t st V L V' o b h hm k ih =>
    intro s1 s2 hs
    cases s1 with
    | nil => cases hs; exact ⟨[], _, _, rfl, .nil, .split h hm k⟩
    | cons x s1 => cases hs; obtain ⟨L1, L2, V1, e, h1, h2⟩ := ih (s1 := (o, t) :: (b, t) :: s1) rfl; exact ⟨L1, L2, V1, e, .split h hm h1, h2⟩
  | @save i t st V L V' s o h hm k ih =>
    intro s1 s2 hs
    cases s1 with
    | nil => cases hs; exact ⟨[], _, _, rfl, .nil, .save h hm k⟩
    | cons x s1 => cases hs; obtain ⟨L1, L2, V1, e, h1, h2⟩ := ih (s1 := (o, (s, a) :: t) :: s1) rfl; exact ⟨L1, L2, V1, e, .save h hm h1, h2⟩
  | @dead i t st V L V' h hm k ih =>
    intro s1 s2 hs
    cases s1 with
    | nil => cases hs; exact ⟨[], _, _, rfl, .nil, .dead h hm k⟩
    | cons x s1 => cases hs; obtain ⟨L1, L2, V1, e, h1, h2⟩ := ih rfl; exact ⟨L1, L2, V1, e, .dead h hm h1, h2⟩
theorem AT (a : Nat) (L1 L2 : List Th) : iG mv a (L1 ++ L2) = iG mv a L1 ++ iG mv a L2 := by simp [iG]
theorem BD (a : Nat) (L1 L2 : List Th) : first mv a (L1 ++ L2) = (first mv a L1).or (first mv a L2) := by
  simp only [first, List.find?_append]
  cases List.find? _ L1 <;> simp
theorem Pk.frame (hup : ∀ a b, nxt a = some b → a < b) {a : Nat} {E : List Th} {W W' : Wt} {r : Option dS} (h : Pk mv nxt len a E W r W') : ∀ {c : Nat}, c < a → ∀ V, Pk mv nxt len a E (W.lay c V) r (W'.lay c V) := by
  induction h with
  | last h k => intro c hc V; rw [← xT (by omega)]; exact .last h (by rw [IQ (by omega)]; exact k)
  | stop h hn k => intro c hc V; rw [← xT (by omega)]; exact .stop h hn (by rw [IQ (by omega)]; exact k)
  | next h hn k p ih => intro c hc V; have := hup _ _ hn; rw [← xT (by omega)]; exact .next h hn (by rw [IQ (by omega)]; exact k) (ih (by omega) V)
theorem Pk.cut (hup : ∀ a b, nxt a = some b → a < b) {a : Nat} {E : List Th} {W W' : Wt} {r : Option dS} (h : Pk mv nxt len a E W r W') : ∀ {E1 E2 : List Th}, E = E1 ++ E2 → ∃ r1 W1, Pk mv nxt len a E1 W r1 W1 ∧ (r1 = none → Pk mv nxt len a E2 W1 r W') ∧ (∀ t, r1 = some t → r = some t) := by
  induction h with
  | @last a E W L V' h k =>
    intro E1 E2 hE
    obtain ⟨L1, L2, V1, e, h1, h2⟩ := k.cut hE
    refine ⟨_, _, .last h h1, fun hr => ?_, fun t ht => ?_⟩
    · rw [e, BD, hr]
      have := Pk.last (nxt := nxt) (len := len) (W := W.lay a V1) (E := E2) h (by rw [dP]; exact h2)
      rw [sE] at this
      simpa using this
    · rw [e, BD, ht]; rfl
  | @stop a E W L V' h hn k =>
    intro E1 E2 hE
    obtain ⟨L1, L2, V1, e, h1, h2⟩ := k.cut hE
    refine ⟨_, _, .stop h hn h1, fun hr => ?_, fun t ht => by cases ht⟩
    have := Pk.stop (W := W.lay a V1) (E := E2) h hn (by rw [dP]; exact h2)
    rw [sE] at this
    exact this
  | @next a b E W L V' r W' h hn k p ih =>
    intro E1 E2 hE
    obtain ⟨L1, L2, V1, e, h1, h2⟩ := k.cut hE
    obtain ⟨r1, W1, p1, p2, p3⟩ := ih (by rw [e, AT])
    refine ⟨r1, _, .next h hn h1 p1, fun hr => ?_, p3⟩
    have hab := hup _ _ hn
    have := Pk.next (W := W1.lay a V1) (E := E2) h hn (by rw [dP]; exact h2) ((p2 hr).frame hup hab V1)
    rw [sE] at this
    exact this
def FA (a : Nat) (st : List Th) : List (Nat × Nat × dS) := st.map fun x => (a, x.1, x.2)
theorem UW (hup : ∀ a b, nxt a = some b → a < b) {a b : Nat} (ha : a ≠ len) (hn : nxt a = some b) (ih : ∀ {E : List Th} {W W' : Wt} {r : Option dS}, Pk mv nxt len b E W r W' → ∃ W2, Dr mv nxt len (FA b E) W r W2 ∧ (r = none → W2 = W'))
    {st L : List Th} {V V' : Vis} (h : Ept mv a st V L V') : ∀ {W W' : Wt} {r : Option dS}, Pk mv nxt len b (iG mv a L) W r W' → ∃ W2, Dr mv nxt len (FA a st) (W.lay a V) r W2 ∧ (r = none → W2 = W'.lay a V') := by
  have hab := hup _ _ hn
  have keep : ∀ {W : Wt} {V : Vis} {i : Nat}, (W.lay a V).lay a (((W.lay a V) a).add i) = W.lay a (V.add i) := by intro W V i; rw [dP, sE]
  induction h with
  | @nil V =>
    intro W W' r p
    obtain ⟨W2, h1, h2⟩ := ih (p.frame hup hab V)
    have hu : r = none := by
      have := Dr.uniq h1 (.nil : Dr mv nxt len [] _ none _)
      exact this
    subst hu
    refine ⟨_, .nil, fun _ => ?_⟩
    have h3 := h2 rfl
    have h1' : Dr mv nxt len [] (W.lay a V) none W2 := h1
    cases h1'
    exact h3
  | @seen i t st V L V' h k ih2 =>
    intro W W' r p
    obtain ⟨W2, h1, h2⟩ := ih2 p
    exact ⟨W2, .seen (by rw [dP]; exact h) h1, h2⟩
  | @leaf i t st V L V' h hl k ih2 =>
    intro W W' r p
    have hw : (W.lay a V) a i = false := by rw [dP]; exact h
    cases hm : mv a i with
    | rune o =>
      cases o with
      | none =>
        have e : iG mv a ((i, t) :: L) = iG mv a L := by simp [iG, hm]
        rw [e] at p
        obtain ⟨W2, h1, h2⟩ := ih2 p
        exact ⟨W2, .miss hw (.inl hm) (by rw [keep]; exact h1), h2⟩
      | some o =>
        have e : iG mv a ((i, t) :: L) = [(o, t)] ++ iG mv a L := by simp [iG, hm]
        rw [e] at p
        obtain ⟨r1, W1, p1, p2, p3⟩ := p.cut hup rfl
        obtain ⟨W3, d1, d2⟩ := ih (p1.frame hup hab (V.add i))
        cases r1 with
        | some u =>
          have hr := p3 u rfl
          subst hr
          refine ⟨W3, .rune hw hm ha hn ?_, fun h => by cases h⟩
          rw [keep]
          exact Dr.appF d1 rfl (FA a st)
        | none =>
          have hw3 := d2 rfl
          subst hw3
          obtain ⟨W2, h1, h2⟩ := ih2 (p2 rfl)
          refine ⟨W2, .rune hw hm ha hn ?_, h2⟩
          rw [keep]
          exact Dr.app d1 rfl h1
    | mat =>
      have e : iG mv a ((i, t) :: L) = iG mv a L := by simp [iG, hm]
      rw [e] at p
      obtain ⟨W2, h1, h2⟩ := ih2 p
      exact ⟨W2, .mat hw hm ha (by rw [keep]; exact h1), h2⟩
    | go o => rw [hm] at hl; cases hl
    | split o b => rw [hm] at hl; cases hl
    | save s o => rw [hm] at hl; cases hl
    | dead => rw [hm] at hl; cases hl
  | go h hm k ih2 => intro W W' r p; obtain ⟨W2, h1, h2⟩ := ih2 p; exact ⟨W2, .go (by rw [dP]; exact h) hm (by rw [keep]; exact h1), h2⟩
  | split h hm k ih2 => intro W W' r p; obtain ⟨W2, h1, h2⟩ := ih2 p; exact ⟨W2, .split (by rw [dP]; exact h) hm (by rw [keep]; exact h1), h2⟩
  | save h hm k ih2 => intro W W' r p; obtain ⟨W2, h1, h2⟩ := ih2 p; exact ⟨W2, .save (by rw [dP]; exact h) hm (by rw [keep]; exact h1), h2⟩
  | dead h hm k ih2 => intro W W' r p; obtain ⟨W2, h1, h2⟩ := ih2 p; exact ⟨W2, .dead (by rw [dP]; exact h) hm (by rw [keep]; exact h1), h2⟩
theorem UT {a : Nat} (ha : a ≠ len) (hn : nxt a = none) {st L : List Th} {V V' : Vis} (h : Ept mv a st V L V') : ∀ {W : Wt}, Dr mv nxt len (FA a st) (W.lay a V) none (W.lay a V') := by
  have keep : ∀ {W : Wt} {V : Vis} {i : Nat}, (W.lay a V).lay a (((W.lay a V) a).add i) = W.lay a (V.add i) := by intro W V i; rw [dP, sE]
  induction h with
  | nil => intro W; exact .nil
  | seen h k ih => intro W; exact .seen (by rw [dP]; exact h) ih
  | @leaf i t st V L V' h hl k ih =>
    intro W
    cases hm : mv a i with
    | rune o => exact .miss (by rw [dP]; exact h) (.inr ⟨⟨o, hm⟩, .inr hn⟩) (by rw [keep]; exact ih)
    | mat => exact .mat (by rw [dP]; exact h) hm ha (by rw [keep]; exact ih)
    | go o => rw [hm] at hl; cases hl
    | split o b => rw [hm] at hl; cases hl
    | save s o => rw [hm] at hl; cases hl
    | dead => rw [hm] at hl; cases hl
  | go h hm k ih => intro W; exact .go (by rw [dP]; exact h) hm (by rw [keep]; exact ih)
  | split h hm k ih => intro W; exact .split (by rw [dP]; exact h) hm (by rw [keep]; exact ih)
  | save h hm k ih => intro W; exact .save (by rw [dP]; exact h) hm (by rw [keep]; exact ih)
  | dead h hm k ih => intro W; exact .dead (by rw [dP]; exact h) hm (by rw [keep]; exact ih)
theorem UU {a : Nat} (ha : a = len) {st L : List Th} {V V' : Vis} (h : Ept mv a st V L V') : ∀ {W : Wt}, ∃ W2, Dr mv nxt len (FA a st) (W.lay a V) (first mv a L) W2 ∧ (first mv a L = none → W2 = W.lay a V') := by
  have keep : ∀ {W : Wt} {V : Vis} {i : Nat}, (W.lay a V).lay a (((W.lay a V) a).add i) = W.lay a (V.add i) := by intro W V i; rw [dP, sE]
  induction h with
  | nil => intro W; exact ⟨_, .nil, fun _ => rfl⟩
  | seen h k ih => intro W; obtain ⟨W2, h1, h2⟩ := ih (W := W); exact ⟨W2, .seen (by rw [dP]; exact h) h1, h2⟩
  | @leaf i t st V L V' h hl k ih =>
    intro W
    cases hm : mv a i with
    | rune o =>
      obtain ⟨W2, h1, h2⟩ := ih (W := W)
      have e : first mv a ((i, t) :: L) = first mv a L := by simp [first, hm]
      rw [e]
      exact ⟨W2, .miss (by rw [dP]; exact h) (.inr ⟨⟨o, hm⟩, .inl ha⟩) (by rw [keep]; exact h1), h2⟩
    | mat =>
      have e : first mv a ((i, t) :: L) = some t := by simp [first, hm]
      rw [e]
      exact ⟨_, .found (by rw [dP]; exact h) hm ha, fun h => by cases h⟩
    | go o => rw [hm] at hl; cases hl
    | split o b => rw [hm] at hl; cases hl
    | save s o => rw [hm] at hl; cases hl
    | dead => rw [hm] at hl; cases hl
  | go h hm k ih => intro W; obtain ⟨W2, h1, h2⟩ := ih (W := W); exact ⟨W2, .go (by rw [dP]; exact h) hm (by rw [keep]; exact h1), h2⟩
  | split h hm k ih => intro W; obtain ⟨W2, h1, h2⟩ := ih (W := W); exact ⟨W2, .split (by rw [dP]; exact h) hm (by rw [keep]; exact h1), h2⟩
  | save h hm k ih => intro W; obtain ⟨W2, h1, h2⟩ := ih (W := W); exact ⟨W2, .save (by rw [dP]; exact h) hm (by rw [keep]; exact h1), h2⟩
  | dead h hm k ih => intro W; obtain ⟨W2, h1, h2⟩ := ih (W := W); exact ⟨W2, .dead (by rw [dP]; exact h) hm (by rw [keep]; exact h1), h2⟩
theorem pk_dr (hup : ∀ a b, nxt a = some b → a < b) (hle : ∀ a b, nxt a = some b → b ≤ len) : ∀ (n a : Nat), len + 1 - a = n → ∀ {E : List Th} {W W' : Wt} {r : Option dS}, Pk mv nxt len a E W r W' → ∃ W2, Dr mv nxt len (FA a E) W r W2 ∧ (r = none → W2 = W') := by
  intro n
  induction n using Nat.strongRecOn with
  | _ n ih =>
    intro a hn E W W' r p
    cases p with
    | last h k =>
      obtain ⟨W2, h1, h2⟩ := UU (nxt := nxt) h k (W := W)
      rw [IR] at h1
      exact ⟨W2, h1, h2⟩
    | stop h hs k =>
      have := UT h hs k (W := W)
      rw [IR] at this
      exact ⟨_, this, fun _ => rfl⟩
    | next h hs k p =>
      have h1 := hup _ _ hs
      have h2 := hle _ _ hs
      obtain ⟨W2, h3, h4⟩ := UW hup h hs (fun q => ih _ (by omega) _ rfl q) k p (W := W)
      rw [IR] at h3
      exact ⟨W2, h3, h4⟩
end
end Go.Proofs.Ytidpigbinpaaeaa
namespace Go.Proofs.Ytidpigbinpaaeaa
open Go.RowKit Go.W
abbrev Inst := In
abbrev RRange : Rel (Int × Int) := RRg
theorem RRange.pers : RRange.Pers := RRg.pers
theorem RRange.fresh : RRange.Fresh := RRg.fresh
structure Inst.Ok (c : Inst) : Prop where
  op : -9223372036854775808 ≤ c.op ∧ c.op ≤ 9223372036854775807
  out : -9223372036854775808 ≤ c.out ∧ c.out ≤ 9223372036854775807
  alt : -9223372036854775808 ≤ c.alt ∧ c.alt ≤ 9223372036854775807
  arg : -9223372036854775808 ≤ c.arg ∧ c.arg ≤ 9223372036854775807
  len : c.rs.length * 8 ≤ 140737488355328
def RInst : Rel Inst := fun X w vs d => Inst.Ok d ∧ ∃ rv, vs = [.int .i64 d.op, .int .i64 d.out, .int .i64 d.alt, .int .i64 d.arg, rv] ∧ RSl 2 RRange X w rv d.rs
theorem RInst.fresh : RInst.Fresh := fun _ _ _ _ _ hy ⟨h0, rv, hv, h⟩ => ⟨h0, rv, hv, h.fresh (by decide) RRange.fresh hy⟩
theorem RInst.pers : RInst.Pers := fun _ _ _ _ _ he ⟨h0, rv, hv, h⟩ => ⟨h0, rv, hv, h.evo RRange.pers he⟩
def vW (c : Inst) (n g : Int) : Prop := 1 ≤ c.op ∧ c.op ≤ 11 ∧ ((c.op = 1 ∨ c.op = 11) → c.out = 0) ∧ (¬ (c.op = 1 ∨ c.op = 11) → 0 ≤ c.out ∧ c.out < n) ∧ (c.op = 3 → 0 ≤ c.alt ∧ c.alt < n) ∧ (c.op ≠ 3 → c.alt = 0) ∧
  (c.op = 4 → 2 ≤ c.arg ∧ c.arg ≤ 2 * g + 1) ∧ (c.op = 9 → c.arg = 0 ∨ c.arg = 1) ∧ (c.op ≠ 4 ∧ c.op ≠ 9 → c.arg = 0) ∧ (c.op = 2 ↔ 0 < (c.rs.length : Int))
def RsUp (rs : List (Int × Int)) (k : Nat) : Prop := ∀ i (h : i < rs.length), i < k → 0 ≤ rs[i].1 ∧ rs[i].1 ≤ rs[i].2 ∧ rs[i].2 ≤ 1114111 ∧ ∀ _h0 : 0 < i, rs[i - 1].2 < rs[i].1
def mL (c : Inst) (n g : Int) : Prop := vW c n g ∧ RsUp c.rs c.rs.length
structure Prg where
  insts : List Inst
  start : Int
  groups : Int
  names : List ByteArray
structure Prg.Ok (p : Prg) : Prop where
  start : -9223372036854775808 ≤ p.start ∧ p.start ≤ 9223372036854775807
  groups : -9223372036854775808 ≤ p.groups ∧ p.groups ≤ 9223372036854775807
  ilen : p.insts.length * 56 ≤ 140737488355328
  nlen : p.names.length * 16 ≤ 140737488355328
def RPrg : Rel Prg := fun X w vs d => d.Ok ∧ ∃ iv nv, vs = [iv, .int .i64 d.start, .int .i64 d.groups, nv] ∧ RSl 5 RInst X w iv d.insts ∧ RSl 1 RStr X w nv d.names
theorem RPrg.pers : RPrg.Pers := fun _ _ _ _ _ he ⟨h0, iv, nv, hv, h1, h2⟩ => ⟨h0, iv, nv, hv, h1.evo RInst.pers he, h2.evo RStr.pers he⟩
def HeadOk (p : Prg) : Prop := 1 ≤ (p.insts.length : Int) ∧ (p.insts.length : Int) ≤ 10000 ∧ 0 ≤ p.start ∧ p.start < (p.insts.length : Int) ∧ 0 ≤ p.groups ∧ p.groups ≤ 100 ∧ (p.names.length : Int) = p.groups
def SoundUp (p : Prg) (k : Nat) : Prop := ∀ i (h : i < p.insts.length), i < k → mL p.insts[i] p.insts.length p.groups
def iX (p : Prg) : Prop := HeadOk p ∧ SoundUp p p.insts.length
theorem rsup_of {l : List (Int × Int)} (h : RangesOk l) : RsUp l l.length := by
  obtain ⟨h1, -⟩ := h
  intro i hi _
  obtain ⟨a, b, c, d⟩ := h1 i hi
  exact ⟨a, b, c, fun h0 => by have := d (i - 1) (by omega) (by omega); omega⟩
theorem RE {X : List Nat} {w : World} {vs : List Value} {c : In} {n g : Int} (h : RIn X w vs c) (hs : mL c n g) (hn : n ≤ 10000) (hg : 0 ≤ g ∧ g ≤ 100) : RInst X w vs c := by
  obtain ⟨vr, rfl, h1, h2⟩ := h
  obtain ⟨⟨n1, n2, n3, n4, n5, n6, n7, n8, n9, n10⟩, -⟩ := hs
  refine ⟨⟨by omega, ?_, ?_, ?_, by omega⟩, vr, rfl, h1⟩
  · by_cases e : c.op = 1 ∨ c.op = 11
    · rw [n3 e]; omega
    · have := n4 e; omega
  · by_cases e : c.op = 3
    · have := n5 e; omega
    · rw [n6 e]; omega
  · by_cases e : c.op = 4
    · have := n7 e; omega
    · by_cases e9 : c.op = 9
      · have := n8 e9; omega
      · rw [n9 ⟨e, e9⟩]; omega
end Go.Proofs.Ytidpigbinpaaeaa
namespace Go.Proofs.Ytidpigbinpaaeaa
open Go.RowKit Go.W
attribute [local irreducible] Decidable.decide
theorem oH : cX Try.prog 68 0 = some 0 := by kernel_rfl
theorem mF : cX Try.prog 68 3 = some 3 := by kernel_rfl
theorem GX : cX Try.prog 73 1 = some 4 := by kernel_rfl
theorem tK : dY Try.prog 41 := ⟨_, Try.func41, by kernel_rfl, by kernel_rfl⟩
def eI (c : Int) : Prop := c = 95 ∨ (48 ≤ c ∧ c ≤ 57) ∨ (97 ≤ c ∧ c ≤ 122) ∨ (65 ≤ c ∧ c ≤ 90)
instance (c : Int) : Decidable (eI c) := by unfold eI; infer_instance
def lA (s : ByteArray) (i : Int) : Prop := 0 ≤ i ∧ i < s.size ∧ eI (sb s i.toNat)
instance (s : ByteArray) (i : Int) : Decidable (lA s i) := by unfold lA; infer_instance
theorem nB {s : ByteArray} {a : Nat} (h : a < s.size) : lA s a ↔ eI (sb s a) := ⟨fun h => by have := h.2.2; simpa using this, fun k => ⟨by omega, by omega, by simpa using k⟩⟩
def gP (op arg : Int) (s : ByteArray) (a : Nat) : Prop :=
  (op = 5 ∧ a = 0) ∨ (op = 6 ∧ a = s.size) ∨ (op = 7 ∧ (a = 0 ∨ sb s (a - 1) = 10)) ∨ (op = 8 ∧ (a = s.size ∨ sb s a = 10)) ∨ (op = 9 ∧ (¬ (lA s ((a : Int) - 1) ↔ lA s a) ↔ arg = 0)) ∨ op = 10
instance (op arg : Int) (s : ByteArray) (a : Nat) : Decidable (gP op arg s a) := by unfold gP; infer_instance
def lU (r : Int) (rs : List (Int × Int)) : Prop := ∃ q, q ∈ rs ∧ q.1 ≤ r ∧ r ≤ q.2
instance (r : Int) (rs : List (Int × Int)) : Decidable (lU r rs) := by unfold lU; infer_instance
theorem QQ {arg : Int} {s : ByteArray} {a : Nat} : gP 5 arg s a ↔ a = 0 := by simp [gP]
theorem QP {arg : Int} {s : ByteArray} {a : Nat} : gP 6 arg s a ↔ a = s.size := by simp [gP]
theorem DZ {arg : Int} {s : ByteArray} {a : Nat} : gP 7 arg s a ↔ (a = 0 ∨ sb s (a - 1) = 10) := by simp [gP]
theorem DY {arg : Int} {s : ByteArray} {a : Nat} : gP 8 arg s a ↔ (a = s.size ∨ sb s a = 10) := by simp [gP]
theorem QO {arg : Int} {s : ByteArray} {a : Nat} : gP 9 arg s a ↔ (¬ (lA s ((a : Int) - 1) ↔ lA s a) ↔ arg = 0) := by simp only [gP]; simp
theorem QN {op arg : Int} {s : ByteArray} {a : Nat} (h5 : op ≠ 5) (h6 : op ≠ 6) (h7 : op ≠ 7) (h8 : op ≠ 8) (h9 : op ≠ 9) : gP op arg s a ↔ op = 10 := by simp [gP, h5, h6, h7, h8, h9]
theorem qQ {w : World} (c : Int) : Calls Try.prog 41 #[.int .u8 c] w (Ret fun v w' => v = .bool (decide (eI c)) ∧ Evo [] w w') := by
  refine bE (N := 29) Try.func41 rfl rfl rfl ?_; refine csr (wan (csr (aB (wel ?_)))); refine aB (bC (t := 5) rfl (fun H => ?_) (fun H => ?_))
  ·refine aJ (aJ (aJ (eZ ?_))); refine eZ ?_; refine aJ (bQ (aB (aJ (aJ (aJ (eZ ?_)))))); refine eZ ?_; refine aJ (bQ (aB (aJ (aJ (aJ (eZ ?_)))))); refine eZ ?_; refine aJ (bQ (wan (aH (br1 ?_))))
   exact ⟨congrArg Value.bool (by first | exact decide_eq_decide.2 (by unfold eI; omega) | exact (decide_eq_true (by unfold eI; omega)).symm | exact (decide_eq_false (by unfold eI; omega)).symm), (Evo.refl [] w)⟩
  refine aO (aB (aO (aA (eF rfl rfl) ?_))); refine aO (aB (bC (t := 8) rfl (fun I => ?_) (fun I => ?_)))
  ·refine aO (aB (aO (aA (eW rfl rfl) ?_))); refine aO (bQ (bK (aB (bC (t := 13) rfl (fun F => ?_) (fun F => ?_)))))
   ·refine aJ (aJ (aJ (eZ ?_))); refine eZ ?_; refine aJ (bQ (aB (aJ (aJ (aJ (eZ ?_)))))); refine eZ ?_; refine aJ (bQ (wan (aH (br1 ?_))))
    exact ⟨congrArg Value.bool (by first | exact decide_eq_decide.2 (by unfold eI; omega) | exact (decide_eq_true (by unfold eI; omega)).symm | exact (decide_eq_false (by unfold eI; omega)).symm), (Evo.refl [] w)⟩
   refine aO (aB (aO (aA (eF rfl rfl) ?_))); refine aO (aB (bC (t := 16) rfl (fun B => ?_) (fun B => ?_)))
   ·refine aO (aB (aO (aA (eW rfl rfl) ?_))); refine aO (bQ (bK (aB (bC (t := 21) rfl (fun D => ?_) (fun D => ?_)))))
    ·refine aJ (aJ (aJ (eZ ?_))); refine eZ ?_; refine aJ (bQ (wan (aH (br1 ?_))))
     exact ⟨congrArg Value.bool (by first | exact decide_eq_decide.2 (by unfold eI; omega) | exact (decide_eq_true (by unfold eI; omega)).symm | exact (decide_eq_false (by unfold eI; omega)).symm), (Evo.refl [] w)⟩
    refine aO (aB (aO (aA (eF rfl rfl) ?_))); refine aO (aB (bC (t := 24) rfl (fun A => ?_) (fun A => ?_)))
    ·refine aO (aB (aO (aA (eW rfl rfl) ?_))); refine aO (bQ (bK (wan (aH (br1 ?_)))))
     exact ⟨congrArg Value.bool (by first | exact decide_eq_decide.2 (by unfold eI; omega) | exact (decide_eq_true (by unfold eI; omega)).symm | exact (decide_eq_false (by unfold eI; omega)).symm), (Evo.refl [] w)⟩
    refine aJ (aJ (aO (bK (bK (wan (aH (br1 ?_)))))))
    exact ⟨congrArg Value.bool (by first | exact decide_eq_decide.2 (by unfold eI; omega) | exact (decide_eq_true (by unfold eI; omega)).symm | exact (decide_eq_false (by unfold eI; omega)).symm), (Evo.refl [] w)⟩
   refine aJ (aJ (aO (bK (bK (aB (aO (aB (aO (aA (eF rfl rfl) ?_))))))))); refine aO (aB (bC (t := 24) rfl (fun A => ?_) (fun A => ?_)))
   ·refine aO (aB (aO (aA (eW rfl rfl) ?_))); refine aO (bQ (bK (wan (aH (br1 ?_)))))
    exact ⟨congrArg Value.bool (by first | exact decide_eq_decide.2 (by unfold eI; omega) | exact (decide_eq_true (by unfold eI; omega)).symm | exact (decide_eq_false (by unfold eI; omega)).symm), (Evo.refl [] w)⟩
   refine aJ (aJ (aO (bK (bK (wan (aH (br1 ?_)))))))
   exact ⟨congrArg Value.bool (by first | exact decide_eq_decide.2 (by unfold eI; omega) | exact (decide_eq_true (by unfold eI; omega)).symm | exact (decide_eq_false (by unfold eI; omega)).symm), (Evo.refl [] w)⟩
  refine aJ (aJ (aO (bK (bK (aB (aO (aB (aO (aA (eF rfl rfl) ?_))))))))); refine aO (aB (bC (t := 16) rfl (fun B => ?_) (fun B => ?_)))
  ·refine aO (aB (aO (aA (eW rfl rfl) ?_))); refine aO (bQ (bK (aB (bC (t := 21) rfl (fun D => ?_) (fun D => ?_)))))
   ·refine aJ (aJ (aJ (eZ ?_))); refine eZ ?_; refine aJ (bQ (wan (aH (br1 ?_))))
    exact ⟨congrArg Value.bool (by first | exact decide_eq_decide.2 (by unfold eI; omega) | exact (decide_eq_true (by unfold eI; omega)).symm | exact (decide_eq_false (by unfold eI; omega)).symm), (Evo.refl [] w)⟩
   refine aO (aB (aO (aA (eF rfl rfl) ?_))); refine aO (aB (bC (t := 24) rfl (fun A => ?_) (fun A => ?_)))
   ·refine aO (aB (aO (aA (eW rfl rfl) ?_))); refine aO (bQ (bK (wan (aH (br1 ?_)))))
    exact ⟨congrArg Value.bool (by first | exact decide_eq_decide.2 (by unfold eI; omega) | exact (decide_eq_true (by unfold eI; omega)).symm | exact (decide_eq_false (by unfold eI; omega)).symm), (Evo.refl [] w)⟩
   refine aJ (aJ (aO (bK (bK (wan (aH (br1 ?_)))))))
   exact ⟨congrArg Value.bool (by first | exact decide_eq_decide.2 (by unfold eI; omega) | exact (decide_eq_true (by unfold eI; omega)).symm | exact (decide_eq_false (by unfold eI; omega)).symm), (Evo.refl [] w)⟩
  refine aJ (aJ (aO (bK (bK (aB (aO (aB (aO (aA (eF rfl rfl) ?_))))))))); refine aO (aB (bC (t := 24) rfl (fun A => ?_) (fun A => ?_)))
  ·refine aO (aB (aO (aA (eW rfl rfl) ?_))); refine aO (bQ (bK (wan (aH (br1 ?_)))))
   exact ⟨congrArg Value.bool (by first | exact decide_eq_decide.2 (by unfold eI; omega) | exact (decide_eq_true (by unfold eI; omega)).symm | exact (decide_eq_false (by unfold eI; omega)).symm), (Evo.refl [] w)⟩
  refine aJ (aJ (aO (bK (bK (wan (aH (br1 ?_)))))))
  exact ⟨congrArg Value.bool (by first | exact decide_eq_decide.2 (by unfold eI; omega) | exact (decide_eq_true (by unfold eI; omega)).symm | exact (decide_eq_false (by unfold eI; omega)).symm), (Evo.refl [] w)⟩
theorem rV {s : ByteArray} {a : Nat} (h : 0 < a) (h2 : a ≤ s.size) : lA s ((a : Int) - 1) ↔ eI (sb s (a - 1)) := by
  have := nB (s := s) (a := a - 1) (by omega)
  rwa [show (((a - 1 : Nat) : Nat) : Int) = (a : Int) - 1 from by omega] at this
theorem st9 {s : ByteArray} {a : Nat} {arg : Int} (b1 b2 : Bool) (h1 : b1 = decide (lA s ((a : Int) - 1))) (h2 : b2 = decide (lA s a)) : ((!(b1 == b2)) == decide (arg = 0)) = decide (gP 9 arg s a) := by
  subst h1 h2
  have hst := QO (arg := arg) (s := s) (a := a)
  by_cases h1 : lA s ((a : Int) - 1) <;> by_cases h2 : lA s a <;> by_cases h3 : arg = 0 <;> simp [h1, h2, h3] at hst ⊢ <;> simp [hst]
theorem TU {w : World} {bm : Nat} {U : TypeId} {c0 c1 c2 c3 c5 c6 rv : Value} (op out alt arg : Int) (s : ByteArray) (a : Nat) (a5 : w.heap[bm]? = some (.cells #[c0, c1, c2, c3, .string s, c5, c6] U (0, 0))) (ha : a ≤ s.size) (hl : s.size ≤ 140737488355328) : Calls Try.prog 35 #[.pointer (some ⟨bm, 0, none⟩), .agg #[.int .i64 op, .int .i64 out, .int .i64 alt, .int .i64 arg, rv], .int .i64 (a : Nat)] w (Ret fun v w' => v = .bool (decide (gP op arg s a)) ∧ Evo [] w w') := by
  refine bE (N := 79) Try.func35 rfl rfl rfl ?_; refine csr (gD rfl rfl fun b1 w2 I a6 a1 => ?_); have A := (Evo.refl [] w).then a1; refine wan (csr (aB (aA (aF rfl) (wfl rfl GX rfl dC (a1.blk0 a5) rfl (wan (aI (csr (wfl rfl oH rfl aT I rfl ?_)))))))); refine wnn (bJ (csr (wel ?_))); refine wan (aW rfl (fun J => ?_) (fun J => ?_))
  ·refine csr (wan (aH (aN (aE (br1 ?_))))); subst J; exact ⟨congrArg Value.bool (decide_eq_true (by simp [gP])).symm, A⟩
  refine csr (wel ?_); refine wan (aW rfl (fun L => ?_) (fun L => ?_))
  ·refine csr (aB (wel ?_)); refine wan (aH (aN (aE (br1 ?_)))); subst L; have hst := QQ (arg := arg) (s := s) (a := a)
   exact ⟨congrArg Value.bool (by first | exact decide_eq_decide.2 (by rw [hst]; omega) | exact (decide_eq_true (by rw [hst]; omega)).symm | exact (decide_eq_false (by rw [hst]; omega)).symm), A⟩
  refine csr (wel ?_); refine wan (aW rfl (fun M => ?_) (fun M => ?_))
  ·refine csr (aB (aB (aA (bR rfl Try.underlying9 rfl) ?_))); refine wel ?_; refine wan (aH (aN (aE (br1 ?_)))); subst M; have hst := QP (arg := arg) (s := s) (a := a)
   exact ⟨congrArg Value.bool (by first | exact decide_eq_decide.2 (by rw [hst]; omega) | exact (decide_eq_true (by rw [hst]; omega)).symm | exact (decide_eq_false (by rw [hst]; omega)).symm), A⟩
  refine csr (wel ?_); refine wan (aW rfl (fun D => ?_) (fun D => ?_))
  ·refine csr (aB (wel ?_)); refine aB (bC (t := 32) rfl (fun a2 => ?_) (fun a2 => ?_))
   ·refine aJ (aJ (aJ (aJ (aJ (bQ (wan (aH (aN (aE (br1 ?_)))))))))); subst D; have hst := DZ (arg := arg) (s := s) (a := a)
    exact ⟨congrArg Value.bool (by first | exact decide_eq_decide.2 (by rw [hst]; omega) | exact (decide_eq_true (by rw [hst]; omega)).symm | exact (decide_eq_false (by rw [hst]; omega)).symm), A⟩
   refine aO (aB (aO (aB (aO ?_)))); refine aA (dJ rfl rfl (by omega) (by omega)) ?_; refine aO ?_; refine aA (eE (n := a - 1) rfl rfl Try.underlying9 (by omega) (by omega)) ?_; refine aO (wel ?_); refine bK (wan (aH (aN (aE (br1 ?_))))); subst D; have hst := DZ (arg := arg) (s := s) (a := a)
   exact ⟨congrArg Value.bool (by first | exact decide_eq_decide.2 (by rw [hst]; omega) | exact (decide_eq_true (by rw [hst]; omega)).symm | exact (decide_eq_false (by rw [hst]; omega)).symm), A⟩
  refine csr (wel ?_); refine wan (aW rfl (fun F => ?_) (fun F => ?_))
  ·refine csr (aB (aB (aA (bR rfl Try.underlying9 rfl) ?_))); refine wel ?_; refine aB (bC (t := 45) rfl (fun a3 => ?_) (fun a3 => ?_))
   ·refine aJ (aJ (aJ (aJ (bQ (wan (aH (aN (aE (br1 ?_))))))))); subst F; have hst := DY (arg := arg) (s := s) (a := a)
    exact ⟨congrArg Value.bool (by first | exact decide_eq_decide.2 (by rw [hst]; omega) | exact (decide_eq_true (by rw [hst]; omega)).symm | exact (decide_eq_false (by rw [hst]; omega)).symm), A⟩
   refine aO (aB (aO (aB (aO ?_)))); refine aA (eE (n := a) rfl rfl Try.underlying9 rfl (by omega)) ?_; refine aO (wel ?_); refine bK (wan (aH (aN (aE (br1 ?_))))); subst F; have hst := DY (arg := arg) (s := s) (a := a)
   exact ⟨congrArg Value.bool (by first | exact decide_eq_decide.2 (by rw [hst]; omega) | exact (decide_eq_true (by rw [hst]; omega)).symm | exact (decide_eq_false (by rw [hst]; omega)).symm), A⟩
  refine csr (wel ?_); refine wan (aW rfl (fun B => ?_) (fun B => ?_))
  ·refine csr (aB (aA (fE rfl rfl) ?_)); refine aB (bC (t := 55) rfl (fun a4 => ?_) (fun a4 => ?_))
   ·refine aO (aB (aO (aB (aO ?_)))); refine aA (dJ rfl rfl (by omega) (by omega)) ?_; refine aO ?_; refine aA (eE (n := a - 1) rfl rfl Try.underlying9 (by omega) (by omega)) ?_; refine aO (aL (vs := [_]) tK rfl (qQ _) rfl ?_); rintro _ a7 ⟨rfl, H⟩; refine bQ (aB (aB (aA (bR rfl Try.underlying9 rfl) ?_))); refine aA (cU rfl rfl) ?_; refine aB (bC (t := 66) rfl (fun O => ?_) (fun O => ?_))
    ·refine aO (aB (aO (aB (aO ?_)))); refine aA (eE (n := a) rfl rfl Try.underlying9 rfl (by omega)) ?_; refine aO (aL (vs := [_]) tK rfl (qQ _) rfl ?_); rintro _ a8 ⟨rfl, V⟩; refine bQ (bX (wan (csr (aB (aB (aA (uD rfl rfl Try.underlying4) ?_)))))); refine wfl rfl mF rfl aT (V.blk0 (H.blk0 I)) rfl (wel ?_); refine aA (yB rfl rfl Try.underlying4) ?_; refine wan (aH (aN (aE (br1 ?_)))); subst B
     exact ⟨congrArg Value.bool (st9 _ _ (by first | exact decide_eq_decide.2 (rV (by omega) (by omega)).symm | exact (decide_eq_false (fun h => by have := h.1; omega)).symm) (by first | exact decide_eq_decide.2 (nB (by omega)).symm | exact (decide_eq_false (fun h => by have := h.2.1; omega)).symm)), ((A.then H).then V)⟩
    refine aJ (aJ (aJ (aJ (bK (bX (wan (csr (aB (aB (aA (uD rfl rfl Try.underlying4) ?_)))))))))); refine wfl rfl mF rfl aT (H.blk0 I) rfl (wel ?_); refine aA (yB rfl rfl Try.underlying4) ?_; refine wan (aH (aN (aE (br1 ?_)))); subst B
    exact ⟨congrArg Value.bool (st9 _ _ (by first | exact decide_eq_decide.2 (rV (by omega) (by omega)).symm | exact (decide_eq_false (fun h => by have := h.1; omega)).symm) (by first | exact decide_eq_decide.2 (nB (by omega)).symm | exact (decide_eq_false (fun h => by have := h.2.1; omega)).symm)), (A.then H)⟩
   refine aJ (aJ (aJ (aJ (aJ (bK (aB (aB (aA (bR rfl Try.underlying9 rfl) ?_)))))))); refine aA (cU rfl rfl) ?_; refine aB (bC (t := 66) rfl (fun O => ?_) (fun O => ?_))
   ·refine aO (aB (aO (aB (aO ?_)))); refine aA (eE (n := a) rfl rfl Try.underlying9 rfl (by omega)) ?_; refine aO (aL (vs := [_]) tK rfl (qQ _) rfl ?_); rintro _ a9 ⟨rfl, a0⟩; refine bQ (bX (wan (csr (aB (aB (aA (uD rfl rfl Try.underlying4) ?_)))))); refine wfl rfl mF rfl aT (a0.blk0 I) rfl (wel ?_); refine aA (yB rfl rfl Try.underlying4) ?_; refine wan (aH (aN (aE (br1 ?_)))); subst B
    exact ⟨congrArg Value.bool (st9 _ _ (by first | exact decide_eq_decide.2 (rV (by omega) (by omega)).symm | exact (decide_eq_false (fun h => by have := h.1; omega)).symm) (by first | exact decide_eq_decide.2 (nB (by omega)).symm | exact (decide_eq_false (fun h => by have := h.2.1; omega)).symm)), (A.then a0)⟩
   refine aJ (aJ (aJ (aJ (bK (bX (wan (csr (aB (aB (aA (uD rfl rfl Try.underlying4) ?_)))))))))); refine wfl rfl mF rfl aT I rfl (wel ?_); refine aA (yB rfl rfl Try.underlying4) ?_; refine wan (aH (aN (aE (br1 ?_)))); subst B
   exact ⟨congrArg Value.bool (st9 _ _ (by first | exact decide_eq_decide.2 (rV (by omega) (by omega)).symm | exact (decide_eq_false (fun h => by have := h.1; omega)).symm) (by first | exact decide_eq_decide.2 (nB (by omega)).symm | exact (decide_eq_false (fun h => by have := h.2.1; omega)).symm)), A⟩
  refine aM (aP (aC (csr (wan (aH (br1 ?_)))))); have hst := QN (arg := arg) (s := s) (a := a) L M D F B; exact ⟨congrArg Value.bool (decide_eq_false (fun h => J (hst.1 h))).symm, A⟩
end Go.Proofs.Ytidpigbinpaaeaa
namespace Go.Proofs.Ytidpigbinpaaeaa
open Go.W
def mvI (c : Inst) (s : ByteArray) (a : Nat) : Mov :=
  if c.op = 1 then .mat
  else if c.op = 2 then .rune (if lU (bH s a).1 c.rs then some c.out.toNat else none)
  else if c.op = 3 then .split c.out.toNat c.alt.toNat
  else if c.op = 4 then .save c.arg.toNat c.out.toNat
  else if gP c.op c.arg s a then .go c.out.toNat else .dead
def dE (p : Prg) (s : ByteArray) (a i : Nat) : Mov := match p.insts[i]? with | none => .dead | some c => mvI c s a
theorem CI {p : Prg} {s : ByteArray} {a i : Nat} (h : i < p.insts.length) : dE p s a i = mvI p.insts[i] s a := by simp [dE, h]
def gF (s : ByteArray) (a : Nat) : Option Nat := if 0 < (bH s a).2 then some (a + (bH s a).2) else none
theorem IJ (s : ByteArray) : ∀ a b, gF s a = some b → a < b := fun a b h => by
  unfold gF at h
  split at h
  · cases h; omega
  · cases h
theorem TC (s : ByteArray) : ∀ a b, gF s a = some b → b ≤ s.size := fun a b h => by
  unfold gF at h
  split at h
  · rename_i hp
    cases h
    rcases lI s a with h1 | h1
    · rw [h1] at hp; exact absurd hp (by simp)
    · omega
  · cases h
theorem next_w (s : ByteArray) (a : Nat) : (bH s a).2 = 0 ∨ (1 ≤ (bH s a).2 ∧ (bH s a).2 ≤ 4 ∧ a + (bH s a).2 ≤ s.size) := by
  rcases lI s a with h1 | h1
  · left; rw [h1]
  · exact .inr h1.2.2
theorem tZ {s : ByteArray} {a : Nat} (h : 0 < (bH s a).2) : gF s a = some (a + (bH s a).2) := by unfold gF; rw [if_pos h]
theorem TB {s : ByteArray} {a : Nat} (h : (bH s a).2 = 0) : gF s a = none := by unfold gF; rw [if_neg (by omega)]
def qT (t : dS) (k : Nat) : Int := match t.find? (fun q => q.1 == k) with | some q => (q.2 : Int) | none => -1
def tT (n : Nat) (t : dS) : List Int := (List.range n).map (qT t)
def xZ (n len : Nat) : Option dS → List Int
  | none => []
  | some t => ((tT n t).set 0 0).set 1 len
abbrev rA (p : Prg) : Nat := (2 * (p.groups + 1)).toNat
def zL (p : Prg) (s : ByteArray) (l : List Int) : Prop :=
  (¬ iX p ∧ l = []) ∨ (iX p ∧ ∃ r W', Dr (dE p s) (gF s) s.size [(0, p.start.toNat, [])] (fun _ _ => false) r W' ∧ l = xZ (rA p) s.size r)
theorem JF {f g : Nat → Bool} {k : Nat} (hf : f k = true) (hg : g k = false) (he : ∀ j, j ≠ k → g j = f j) : ∀ {M : Nat}, k < M → (List.range M).countP g + 1 = (List.range M).countP f := by
  intro M
  induction M with
  | zero => intro h; omega
  | succ M ih =>
    intro h
    rw [List.range_succ, List.countP_append, List.countP_append]
    by_cases e : k = M
    · subst e
      have : (List.range k).countP g = (List.range k).countP f := List.countP_congr fun j hj => by rw [he j (by simp at hj; omega)]
      simp [this, hf, hg]
    · have := ih (by omega)
      rw [List.countP_singleton, List.countP_singleton, he M (by omega)]
      omega
inductive RNote (X : List Nat) (w : World) : Value → dS → Prop
  | nil : RNote X w (.pointer none) []
  | cons {b k a : Nat} {v : Value} {t : dS} (hx : b ∉ X) (hb : w.heap[b]? = some (.cells #[iv k, iv a, v] 80 (0, 0))) (h : RNote X w v t) : RNote X w (.pointer (some ⟨b, 0, none⟩)) ((k, a) :: t)
theorem RNote.evo {X : List Nat} {w w' : World} {v : Value} {t : dS} (h : RNote X w v t) (he : Evo X w w') : RNote X w' v t := by
  induction h with
  | nil => exact .nil
  | cons hx hb _ ih => exact .cons hx (he.blk hb hx) ih
theorem RNote.fresh {X Y : List Nat} {w : World} {v : Value} {t : dS} (h : RNote X w v t) (hy : ∀ y, y ∈ Y → y ∈ X ∨ w.heap.size ≤ y) : RNote Y w v t := by
  induction h with
  | nil => exact .nil
  | cons hx hb _ ih => exact .cons (fun hm => by rcases hy _ hm with h1 | h1; { exact hx h1 }; { have := eM hb; omega }) hb ih
theorem RNote.step {X X' : List Nat} {w w' : World} {v : Value} {t : dS} (h : RNote X w v t) (he : Evo X w w') (hx : ∀ y, y ∈ X' → y ∈ X ∨ w.heap.size ≤ y) : RNote X' w' v t :=
  ((h.fresh (Y := X ++ X') (fun y hy => by rcases List.mem_append.1 hy with h | h; { exact .inl h }; { exact hx y h })).evo (he.mono (fun b hb => List.mem_append_left _ hb))).fresh (fun y hy => .inl (List.mem_append_right _ hy))
theorem RNote.one {X : List Nat} {w : World} {v : Value} {t : dS} (h : RNote X w v t) : v.oneCell' = true := by cases h <;> rfl
theorem RNote.ptr {X : List Nat} {w : World} {v : Value} {t : dS} (h : RNote X w v t) : ∃ q, v = .pointer q := by cases h <;> exact ⟨_, rfl⟩
def RTh : Rel Th := fun X w vs d => ∃ v, vs = [iv d.1, v] ∧ RNote X w v d.2
theorem RTh.pers : RTh.Pers := fun _ _ _ _ _ he ⟨v, hv, h⟩ => ⟨v, hv, h.evo he⟩
theorem RTh.fresh : RTh.Fresh := fun _ _ _ _ _ hy ⟨v, hv, h⟩ => ⟨v, hv, h.fresh hy⟩
theorem dG {X X' : List Nat} {w w' : World} {rows : List (List Value)} {ds : List Th} (h : RowsOk 2 RTh X w rows ds) (he : Evo X w w') (hx : ∀ y, y ∈ X' → y ∈ X ∨ w.heap.size ≤ y) : RowsOk 2 RTh X' w' rows ds :=
  ((h.fresh RTh.fresh (Y := X ++ X') (fun y hy => by rcases List.mem_append.1 hy with h | h; { exact .inl h }; { exact hx y h })).evo RTh.pers (he.mono (fun b hb => List.mem_append_left _ hb))).fresh RTh.fresh (fun y hy => .inl (List.mem_append_right _ hy))
theorem OA {X : List Nat} {w : World} {rows : List (List Value)} {ds : List Th} {d : Th} (h : RowsOk 2 RTh X w rows (ds ++ [d])) : ∃ rows' v, rows = rows' ++ [[iv d.1, v]] ∧ RowsOk 2 RTh X w rows' ds ∧ RNote X w v d.2 := by
  obtain ⟨hl, hr⟩ := h
  simp only [List.length_append, List.length_cons, List.length_nil] at hl
  have h1 := (hr ds.length (by simp) (by omega)).2
  obtain ⟨v, hv, hn⟩ := h1
  simp only [List.getElem_append_right (Nat.le_refl ds.length), Nat.sub_self, List.getElem_cons_zero] at hv hn
  refine ⟨rows.take ds.length, v, ?_, ⟨by simp; omega, fun k h1 h2 => ?_⟩, hn⟩
  · rw [← hv]
    apply List.ext_getElem
    · simp; omega
    · intro j h1 h2
      by_cases hj : j < ds.length
      · rw [List.getElem_append_left (by simp; omega)]; simp
      · have : j = ds.length := by omega
        subst this
        rw [List.getElem_append_right (by simp; omega)]
        simp
  · have := hr k (by simp; omega) (by omega)
    simp only [List.getElem_take]
    rw [List.getElem_append_left h1] at this
    exact this
abbrev XM (bm sb b4 : Nat) (t k : Option Nat) : List Nat := bm :: sb :: b4 :: (t.toList ++ k.toList)
theorem BQ {bm sb b4 : Nat} {t k : Option Nat} : ∀ y, y ∈ t.toList → y ∈ XM bm sb b4 t k := fun y hy => by simp [XM, Option.mem_toList] at hy ⊢; simp [hy]
theorem zN {bm sb b4 : Nat} {t k : Option Nat} : ∀ y, y ∈ k.toList → y ∈ XM bm sb b4 t k := fun y hy => by simp [XM, Option.mem_toList] at hy ⊢; simp [hy]
theorem xm_s {bm sb b4 : Nat} {t k : Option Nat} : ∀ y, y ∈ bm :: sb :: t.toList → y ∈ XM bm sb b4 t k := fun y hy => by
  simp only [XM, List.mem_cons, List.mem_append] at hy ⊢; rcases hy with h | h | h <;> simp [h]
theorem xm_to {bm sb b4 : Nat} {t k t' k' : Option Nat} {w : World} (ht : ∀ y, y ∈ t'.toList → y ∈ XM bm sb b4 t k ∨ w.heap.size ≤ y) (hk : ∀ y, y ∈ k'.toList → y ∈ XM bm sb b4 t k ∨ w.heap.size ≤ y) : ∀ y, y ∈ XM bm sb b4 t' k' → y ∈ XM bm sb b4 t k ∨ w.heap.size ≤ y := fun y hy => by
  rcases List.mem_cons.1 hy with rfl | hy
  · left; simp [XM]
  · rcases List.mem_cons.1 hy with rfl | hy
    · left; simp [XM]
    · rcases List.mem_cons.1 hy with rfl | hy
      · left; simp [XM]
      · rcases List.mem_append.1 hy with h | h
        · exact ht y h
        · exact hk y h
theorem sY {bm sb b4 : Nat} {t k : Option Nat} {w w' : World} (_he : Evo (XM bm sb b4 t k) w w') {t' k' : Option Nat} (ht : ∀ y, y ∈ t'.toList → y ∈ XM bm sb b4 t k ∨ w.heap.size ≤ y) (hk : ∀ y, y ∈ k'.toList → y ∈ XM bm sb b4 t k ∨ w.heap.size ≤ y) : ∀ y, y ∈ XM bm sb b4 t' k' → y ∈ XM bm sb b4 t k ∨ w.heap.size ≤ y := xm_to ht hk
theorem EO {X : List Nat} {w w1 : World} {ob ob' : Option Nat} (hob : ob' = ob ∨ ∃ g, ob' = some g ∧ w1.heap.size ≤ g) (he : Evo X w w1) (h : ∀ y, y ∈ ob.toList → y ∈ X) : ∀ y, y ∈ ob'.toList → y ∈ X ∨ w.heap.size ≤ y := fun y hy => by
  rcases hob with rfl | ⟨g, rfl, hg⟩
  · exact .inl (h y hy)
  · right
    simp at hy
    subst hy
    have := he.size
    omega
theorem SQ {X : List Nat} {w w1 : World} {ob ob' : Option Nat} (hob : ob' = ob ∨ ∃ g, ob' = some g ∧ w1.heap.size ≤ g) (he : Evo X w w1) (h : ∀ y, y ∈ ob.toList → y ∈ X ∨ w.heap.size ≤ y) : ∀ y, y ∈ ob'.toList → y ∈ X ∨ w.heap.size ≤ y := fun y hy => by
  rcases hob with rfl | ⟨g, rfl, hg⟩
  · exact h y hy
  · right
    simp at hy
    subst hy
    have := he.size
    omega
theorem xm_nmem {b bm sb b4 : Nat} {t k : Option Nat} (h1 : Apart (some bm) (some b)) (h2 : Apart (some sb) (some b)) (h3 : Apart (some b4) (some b)) (h4 : Apart t (some b)) (h5 : Apart k (some b)) : b ∉ XM bm sb b4 t k := fun h => by
  rcases List.mem_cons.1 h with rfl | h
  · exact h1 _ rfl rfl
  · rcases List.mem_cons.1 h with rfl | h
    · exact h2 _ rfl rfl
    · rcases List.mem_cons.1 h with rfl | h
      · exact h3 _ rfl rfl
      · rcases List.mem_append.1 h with h | h
        · exact h4 b (by simpa using h) rfl
        · exact h5 b (by simpa using h) rfl
def jP (a : Nat) (sv : Nat → Nat) : Vis := fun j => decide (sv j = a + 1)
def tB (sv : Nat → Nat) (i v : Nat) : Nat → Nat := fun j => if j = i then v else sv j
theorem kB (a i : Nat) (sv : Nat → Nat) : jP a (tB sv i (a + 1)) = (jP a sv).add i := by
  funext j
  simp only [jP, tB, Vis.add]
  by_cases h : j = i <;> simp [h]
def svc (n : Nat) (sv : Nat → Nat) : List Value := (List.range n).map fun j => iv (sv j)
theorem svc_get {n i : Nat} {sv : Nat → Nat} (h : i < n) : (svc n sv)[i]? = some (iv (sv i)) := by simp [svc, h]
theorem svc_set {n i v : Nat} {sv : Nat → Nat} : (svc n sv).set i (iv v) = svc n (tB sv i v) := by
  apply List.ext_getElem?
  intro j
  simp only [svc, List.getElem?_set, List.length_map, List.length_range, List.getElem?_map]
  by_cases hj : j < n
  · by_cases e : i = j
    · subst e; simp [hj, tB]
    · simp [hj, e, tB, Ne.symm e]
  · by_cases e : i = j
    · subst e; simp [hj]
    · simp [hj, e]
theorem QK (n : Nat) : qJ #[.int .i64 0] n = svc n (fun _ => 0) := by
  simp only [qJ, svc]
  induction n with
  | zero => rfl
  | succ n ih => rw [List.range_succ, List.map_append, ← ih, List.replicate_succ', List.flatten_append]; simp
def us (n a : Nat) (sv : Nat → Nat) : Nat := (List.range n).countP fun j => !(jP a sv j)
theorem QG (n a : Nat) (sv : Nat → Nat) : us n a sv ≤ n := by
  have := List.countP_le_length (p := fun j => !(jP a sv j)) (l := List.range n)
  simpa [us] using this
theorem us_mark {n a i : Nat} {sv : Nat → Nat} (hi : i < n) (h : jP a sv i = false) : us n a (tB sv i (a + 1)) + 1 = us n a sv := by
  refine JF (k := i) (by simp [h]) (by rw [kB]; simp [Vis.add]) (fun j hj => ?_) hi
  rw [kB]
  simp [Vis.add, hj]
theorem sC {sv : Nat → Nat} {i v : Nat} (h : ∀ j, sv j ≤ v) : ∀ j, tB sv i v j ≤ v := fun j => by
  unfold tB; split
  · exact Nat.le_refl _
  · exact h j
end Go.Proofs.Ytidpigbinpaaeaa
namespace Go.Proofs.Ytidpigbinpaaeaa
open Go.RowKit Go.W
attribute [local irreducible] Decidable.decide
theorem BP : kT Try.prog 30 = some false := by kernel_rfl
theorem sM : kT Try.prog 40 = some false := by kernel_rfl
theorem kP : kT Try.prog 49 = some false := by kernel_rfl
theorem pK : kT Try.prog 71 = some false := by kernel_rfl
theorem pJ : kT Try.prog 76 = some true := by kernel_rfl
theorem lC : DL Try.prog 71 71 = some (76, 2, 16) := by kernel_rfl
theorem kO : Build Try.prog 76 #[(0, 1), (1, 1)] #[.int .i64 0, .pointer none] := ⟨_, .agg #[.int .i64 0, .pointer none], Try.underlying76, by kernel_rfl, rfl, fun w => by kernel_rfl⟩
theorem HC : Build Try.prog 80 #[(0, 1), (1, 1), (2, 1)] #[.int .i64 0, .int .i64 0, .pointer none] := ⟨_, .agg #[.int .i64 0, .int .i64 0, .pointer none], Try.underlying80, by kernel_rfl, rfl, fun w => by kernel_rfl⟩
theorem tP : pG Try.prog 40 = some 5 := by kernel_rfl
theorem tO : pG Try.prog 71 = some 2 := by kernel_rfl
theorem oJ : cX Try.prog 43 0 = some 0 := by kernel_rfl
theorem GY : cX Try.prog 73 0 = some 0 := by kernel_rfl
theorem vS : cX Try.prog 73 2 = some 5 := by kernel_rfl
theorem jK : cX Try.prog 73 3 = some 6 := by kernel_rfl
theorem mE : cX Try.prog 76 0 = some 0 := by kernel_rfl
theorem kL : cX Try.prog 76 1 = some 1 := by kernel_rfl
theorem KP : dY Try.prog 35 := ⟨_, Try.func35, by kernel_rfl, by kernel_rfl⟩
theorem tG : fQ Try.prog 71 = some 1 := by kernel_rfl
theorem iP : fQ Try.prog 76 = some 2 := by kernel_rfl
theorem kJ : pN Try.prog 71 = some (76, 2) := by kernel_rfl
theorem yP : mN Try.prog 68 = some #[.int .i64 0, .int .i64 0, .int .i64 0, .int .i64 0, .slice none 0 0] := by kernel_rfl
structure FG where
  stk : List Th
  kr : List (List Value)
  ka : Option Addr
  kc : Nat
  kob : Option Nat
  sv : Nat → Nat
  ls : List Th
  tr : List (List Value)
  ta : Option Addr
  tn : Nat
  tc : Nat
  tob : Option Nat
  va : Value
  vb : Value
theorem QI {kr : List (List Value)} {y z : Int} {v : Value} (hy : 0 ≤ y) (hz : 0 ≤ z) : (kr ++ [[iv (y.toNat : Nat), v]] ++ [[iv (z.toNat : Nat), v]]).flatten = kr.flatten ++ [iv y, v, iv z, v] := by
  rw [Int.toNat_of_nonneg hy, Int.toNat_of_nonneg hz]; simp
theorem EN {kr : List (List Value)} {z : Int} {v : Value} (hz : 0 ≤ z) : (kr ++ [[iv (z.toNat : Nat), v]]).flatten = kr.flatten ++ [iv z, v] := by
  rw [Int.toNat_of_nonneg hz]; simp
theorem wD {kr : List (List Value)} {i : Nat} {v : Value} : (kr ++ [[iv (i : Nat), v]]).flatten = kr.flatten ++ [iv i, v] := by simp
theorem NH {p : Prg} {s : ByteArray} {a i0 : Nat} {t0 : dS} {V0 : Vis} {ls stk : List Th} {V : Vis} {d : Th} {stk1 : List Th} {V1 : Vis} (h : ∀ Lx V', Ept (dE p s) a stk V Lx V' → Ept (dE p s) a [(i0, t0)] V0 (ls ++ Lx) V') (k : ∀ Lx V', Ept (dE p s) a stk1 V1 Lx V' → Ept (dE p s) a stk V (d :: Lx) V') :
    ∀ Lx V', Ept (dE p s) a stk1 V1 Lx V' → Ept (dE p s) a [(i0, t0)] V0 ((ls ++ [d]) ++ Lx) V' := fun Lx V' e => by
  rw [List.append_assoc]; exact h _ _ (k Lx V' e)
theorem nm2 {b bw : Nat} {ob : Option Nat} (h1 : Apart (some b) (some bw)) (h2 : Apart (some b) ob) : b ∉ bw :: ob.toList := fun h => by
  rcases List.mem_cons.1 h with h | h
  · exact h1 b rfl (by rw [h])
  · exact h2.nmem h
theorem ob_or {X : List Nat} {w w1 : World} {ob ob' ob0 : Option Nat} (hob : ob' = ob ∨ ∃ g, ob' = some g ∧ w1.heap.size ≤ g) (he : Evo X w w1) (h : ob = ob0 ∨ Ge w ob) : ob' = ob0 ∨ Ge w ob' := by
  rcases hob with rfl | ⟨g, rfl, hg⟩
  · exact h
  · right; intro g' e; cases e; have := he.size; omega
theorem y0 {w : World} {bm sb b4 kb : Nat} {tob0 : Option Nat} (h1 : Ge w (some b4)) (h2 : Ge w (some kb)) : ∀ y, y ∈ XM bm sb b4 tob0 (some kb) → y ∈ bm :: sb :: tob0.toList ∨ w.heap.size ≤ y := fun y hy => by
  rcases List.mem_cons.1 hy with rfl | hy
  · left; simp
  · rcases List.mem_cons.1 hy with rfl | hy
    · left; simp
    · rcases List.mem_cons.1 hy with rfl | hy
      · right; exact h1 _ rfl
      · rcases List.mem_append.1 hy with h | h
        · left; simp [h]
        · right; simp at h; subst h; exact h2 _ rfl
set_option maxHeartbeats 4000000 in
theorem AZ {w : World} {bm sb cs i0 a tn0 tc0 : Nat} {iV v1 v2 v3 nv0 : Value} {t0 : dS} {tob0 : Option Nat} {ta0 : Option Addr} {p : Prg} {s : ByteArray} {sv0 : Nat → Nat} {tr0 : List (List Value)} {L0 : List Th}
    (hI : RSl 5 RInst (bm :: sb :: tob0.toList) w iV p.insts) (hsp : iX p) (z9 : w.heap[bm]? = some (.cells #[iV, v1, v2, v3, .string s, .slice (some ⟨sb, 0, none⟩) p.insts.length cs, .slice ta0 tn0 tc0] 73 (0, 0)))
    (hSe0 : OwnS w 3 1 (some ⟨sb, 0, none⟩) p.insts.length cs (svc p.insts.length sv0) (some sb)) (hTh0 : OwnS w 76 2 ta0 tn0 tc0 tr0.flatten tob0) (hTr : RowsOk 2 RTh (bm :: sb :: tob0.toList) w tr0 L0) (hN : RNote (bm :: sb :: tob0.toList) w nv0 t0)
    (hi0 : i0 < p.insts.length) (ha : a ≤ s.size) (hs : s.size ≤ 2097152) (hsv : ∀ j, sv0 j ≤ a + 1) (htn : tn0 + us p.insts.length a sv0 ≤ p.insts.length) (hms : Apart (some bm) (some sb)) (hmt0 : Apart (some bm) tob0) (hst0 : Apart (some sb) tob0) :
    Calls Try.prog 24 #[.pointer (some ⟨bm, 0, none⟩), .agg #[iv i0, nv0], iv a] w (Ret fun v w' => ∃ sv ta tn tc tr tob L, v = .tuple #[] ∧ Ept (dE p s) a [(i0, t0)] (jP a sv0) L (jP a sv) ∧ w'.heap[bm]? = some (.cells #[iV, v1, v2, v3, .string s, .slice (some ⟨sb, 0, none⟩) p.insts.length cs, .slice ta tn tc] 73 (0, 0)) ∧
      OwnS w' 3 1 (some ⟨sb, 0, none⟩) p.insts.length cs (svc p.insts.length sv) (some sb) ∧ OwnS w' 76 2 ta tn tc (List.flatten tr) tob ∧ RowsOk 2 RTh (bm :: sb :: tob.toList) w' tr (L0 ++ L) ∧ (∀ j, sv j ≤ a + 1) ∧ tn + us p.insts.length a sv ≤ p.insts.length ∧ Apart (some bm) tob ∧ Apart (some sb) tob ∧ (tob = tob0 ∨ Ge w tob) ∧ Evo (bm :: sb :: tob0.toList) w w') := by
  have H5 := hI; obtain ⟨a3, c3, rfl, hl3, e3⟩ := hI; obtain ⟨hh1, hh2, hh3, hh4, hh5, hh6, hh7⟩ := hsp.1; have hnv0 := hN.one; refine bE (N := 110) Try.func24 rfl rfl rfl ?_; refine csr (gD rfl rfl fun bt w1 l7 f7 g6 => ?_); have E3 := f7; have g7 := Apart.new (Lt.blk z9) f7; have A0 := Apart.new (Lt.own hSe0) f7; have E4 := Apart.new (Lt.own hTh0) f7; have l8 := Ge.new (Evo.refl (bm :: sb :: tob0.toList) w) f7; have A1 := (Evo.refl (bm :: sb :: tob0.toList) w).then g6; have l9 := g6.blk0 z9; have m0 := hSe0.evo0 g6; have m1 := hTh0.evo0 g6; refine wnn (csr (aA (bW rfl pJ iP l7 rfl) (bM (vs := [_]) rfl kJ rfl rfl rfl rfl fun A2 H6 A4 e0 e1 => ?_))); have A5 := Apart.new (Lt.blk l9) e0; have A6 := Apart.new (Lt.own m0) e0; have A7 := Apart.new (Lt.own m1) e0; have A8 := Apart.new (Lt.blk l7) e0; have f8 := Ge.new A1 e0; have f9 := A1.then e1; have A9 := e1.blk0 l9; have B0 := m0.evo0 e1; have B1 := m1.evo0 e1; have B2 := e1.blk0 l7; refine wan (bJ ?_)
  refine dA (α := FG) (⟨[(i0, t0)], [[iv i0, nv0]], some ⟨A2, 0, none⟩, 1, some A2, sv0, [], tr0, ta0, tn0, tc0, tob0, iv i0, nv0⟩) (fun x => [(6, .slice x.ka x.stk.length x.kc)]) [(0, _), (2, _), (4, _)] (fun x wr => Evo (bm :: sb :: tob0.toList) w wr ∧ (OwnS wr 76 2 x.ka x.stk.length x.kc x.kr.flatten x.kob ∧ RowsOk 2 RTh (XM bm sb bt x.tob x.kob) wr x.kr x.stk.reverse ∧ OwnS wr 3 1 (some ⟨sb, 0, none⟩) p.insts.length cs (svc p.insts.length x.sv) (some sb) ∧ OwnS wr 76 2 x.ta x.tn x.tc x.tr.flatten x.tob ∧ RowsOk 2 RTh (XM bm sb bt x.tob x.kob) wr x.tr (L0 ++ x.ls) ∧ wr.heap[bm]? = some (.cells #[.slice a3 p.insts.length c3, v1, v2, v3, .string s, .slice (some ⟨sb, 0, none⟩) p.insts.length cs, .slice x.ta x.tn x.tc] 73 (0, 0)) ∧ wr.heap[bt]? = some (.cells #[x.va, x.vb] 76 (0, 0)) ∧ (∀ d, d ∈ x.stk → d.1 < p.insts.length) ∧ 3 * us p.insts.length a x.sv + x.stk.length ≤ 3 * p.insts.length + 1 ∧ x.tn + us p.insts.length a x.sv ≤ p.insts.length ∧ (∀ j, x.sv j ≤ a + 1) ∧ (∀ Lx V', Ept (dE p s) a x.stk (jP a x.sv) Lx V' → Ept (dE p s) a [(i0, t0)] (jP a sv0) (x.ls ++ Lx) V') ∧ Apart (some bm) x.tob ∧ Apart (some sb) x.tob ∧ Apart (some bt) x.tob ∧ Apart (some bm) x.kob ∧ Apart (some sb) x.kob ∧ Apart (some bt) x.kob ∧ Apart x.tob x.kob ∧ Ge w x.kob ∧ (∀ y, y ∈ x.tob.toList → y ∈ (bm :: sb :: tob0.toList) ∨ w.heap.size ≤ y) ∧ (x.tob = tob0 ∨ Ge w x.tob))) (fun x => 3 * us p.insts.length a x.sv + x.stk.length) ⟨rfl, trivial⟩ ⟨rfl, rfl, rfl, trivial⟩ ⟨f9, ⟨A4, RowsOk.snoc (rows := []) (ds := []) (RowsOk.nil _ _ _ _) rfl ⟨nv0, rfl, hN.step f9 (y0 l8 f8)⟩, B0, B1, by rw [List.append_nil]; exact dG hTr f9 (y0 l8 f8), A9, B2, by simpa using hi0, by have := QG p.insts.length a sv0; simp only [List.length_cons, List.length_nil]; omega, htn, hsv, fun _ _ h => by simpa using h, hmt0, hst0, E4.symm, A5, A6, A8, A7, f8, fun y hy => .inl (List.mem_cons_of_mem _ (List.mem_cons_of_mem _ hy)), .inl rfl⟩⟩ ?_
  rintro ⟨stk, kr, ka, kc, kob, sv, ls, tr, ta, tn, tc, tob, va, vb⟩ wr28 ⟨m2, ⟨hK, hKr, hSe, hTh, hTr, hM, hB, hsn, hm, htn, hsv, hE, hmt, hst, hbt, hmk, hsk, hbk, htk, hgk, hto, hto2⟩⟩; show CW _ _ _ _ [(6, .slice ka stk.length kc), (0, _), (2, _), (4, _)] _
  try dsimp only at hK hKr hSe hTh hTr hM hB hsn hm htn hsv hE hmt hst hbt hmk hsk hbk htk hgk hto hto2
  have B3 := Evo.refl (XM bm sb bt tob kob) wr28; refine aI (csr (aB (aA (aZ rfl Try.underlying71 rfl) ?_))); refine aA (fE rfl rfl) ?_; refine wnn (aW rfl (fun B4 => ?_) (fun B4 => ?_))
  ·obtain ⟨⟨i, t⟩, stk1, rfl⟩ := List.exists_cons_of_length_pos (by omega : 0 < stk.length); have hfl : ((i, t) :: stk1).length = stk1.length + 1 := rfl; have hi : i < p.insts.length := hsn (i, t) (by simp); rw [List.reverse_cons] at hKr; obtain ⟨kr1, nv, hkr, hKr1, hNv⟩ := OA hKr
   dsimp only at hkr hNv
   subst hkr; obtain ⟨q, rfl⟩ := hNv.ptr; have g8 := hK; rw [wD] at g8; obtain ⟨gk, ek, ek2, hck⟩ := OwnS.top (m := stk1.length) (r := [iv i, (.pointer q)]) g8 rfl; subst ek ek2; refine aM (aC (bJ (csr (aB (aB (aA (aZ rfl Try.underlying71 rfl) ?_)))))); refine aA (dJ rfl rfl (by omega) (by omega)) ?_; refine aA (fA (n := stk1.length) rfl rfl (by omega) tO (by omega)) ?_; refine aA (cY rfl pJ iP (vs := [iv i, .pointer q]) rfl hck) ?_; refine aV rfl rfl iP hB rfl rfl ⟨by first | rfl | assumption, by first | rfl | assumption, trivial⟩ fun H7 g0 c9 => ?_; have B5 := m2.step c9 l8.mem1
   have B6 := B3.step c9 (fun y hy => .inl (by simp at hy; simp [XM, hy]))
   have m3 := c9.blk hM g7.nmem1; have m4 := hSe.evo c9 A0.own1; have B7 := hTh.evo c9 hbt.symm.own1; have B8 := hK.evo c9 hbk.symm.own1
   try simp only [cH, Nat.reduceAdd] at g0
   refine wnn (csr (aB (aB (aA (aZ rfl Try.underlying71 rfl) ?_)))); refine aA (dJ rfl rfl (by omega) (by omega)) ?_
   refine aA (UL (h := stk1.length) g8 rfl rfl Try.underlying71 iP (by omega) (by have := g8.le; omega)) ?_
   have E5 := OwnS.pop (m := stk1.length) (xs := kr1.flatten) (r := [iv i, (.pointer q)]) (by rw [← wD]; exact B8) rfl
   refine wan (aI (aI ?_)); refine eH (by kernel_rfl) (by kernel_rfl) ?_; refine bD (fun _ A => aX rfl) ?_; refine bD (fun _ A => aF rfl) ?_; refine bD (fun _ A => aD rfl vS) ?_; refine bD (fun _ A => aS rfl BP (aY (A.blk0 m3) rfl)) ?_; refine bD (fun _ A => aD rfl mE) ?_; refine bD (fun _ A => aS rfl aT (aY (A.blk0 g0) rfl)) ?_; refine bD (fun _ A => cG (n := i) rfl rfl dB hi) ?_; refine bD (fun _ A => aS rfl aT ((m4.evo0 A).get1 (svc_get hi))) ?_; refine bD (fun _ A => aX rfl) ?_; refine bD (fun _ A => aK rfl rfl (by omega) (by omega)) ?_; refine bD (fun _ A => lL rfl rfl) ?_; refine eL (fun F4 A => aC ?_); have m5 := B5.then A; have e2 := B6.then A; have m6 := A.blk0 m3; have m7 := m4.evo0 A; have m8 := B7.evo0 A; have m9 := E5.evo0 A; have n0 := A.blk0 g0; refine aW rfl (fun B9 => ?_) (fun B9 => ?_)
   ·refine cN (bL (cM (bA ?_))); refine ⟨⟨stk1, kr1, some ⟨gk, 0, none⟩, kc, some gk, sv, ls, tr, ta, tn, tc, tob, iv i, (.pointer q)⟩, ?_, ⟨rfl, trivial⟩, ⟨rfl, rfl, rfl, trivial⟩, m5, ?_⟩
    · (try dsimp only); first | omega | (simp only [List.length_cons]; omega) | (simp only [List.length_cons] at *; omega)
    try dsimp only
    have hxx := sY e2 (t' := tob) (k' := some gk) (fun y hy => .inl (BQ y hy)) (fun y hy => .inl (zN y hy)); have hKr3 := dG hKr1 e2 hxx; have hTr3 := dG hTr e2 hxx; have hNv3 := hNv.step e2 hxx
    refine ⟨m9, hKr3, m7, m8, hTr3, m6, n0, fun d hd => hsn d (List.mem_cons_of_mem _ hd), by first | omega | (simp only [List.length_cons] at *; omega), by omega, hsv, fun Lx V' h => hE Lx V' (.seen (by simp only [jP, decide_eq_true_eq]; omega) h), hmt, hst, hbt, hmk, hsk, hbk, htk, hgk, hto, hto2⟩
   have hsn2 : jP a sv i = false := by simp only [jP, decide_eq_false_iff_not]; omega
   have hsi := hsp.2 i hi hi; have hmv := CI (p := p) (s := s) (a := a) hi; obtain ⟨bI, oI, vs1, ha1, hx1, -, E6, hr1⟩ := e3 i hi
   generalize p.insts[i] = ci at hsi hmv hr1
   obtain ⟨hi1, rv1, rfl, hr2⟩ := hr1; obtain ⟨n1, n2, n3, n4, n5, n6, n7, n8, n9, n10⟩ := hsi.1; have hci := hi1.len; have hrv := hr2.one; refine aM (aC (aI ?_)); refine fT (fun w0 w' => Evo [] w0 w') (by kernel_rfl) (fun c4 c0 => ?_); have C0 := m5.then c0; have C1 := e2.then c0; have o0 := c0.blk0 m6; have g1 := m7.evo0 c0; have C2 := m8.evo0 c0; have C3 := m9.evo0 c0; have o1 := c0.blk0 n0; refine aet 0 rfl (fun _ hS => aX rfl) (Evo.refl [] c4) ?_; refine aet 1 rfl (fun _ hS => aF rfl) (Evo.refl [] c4) ?_; refine aet 2 rfl (fun _ hS => aD rfl vS) (Evo.refl [] c4) ?_; refine aet 3 rfl (fun _ hS => aS rfl BP (aY (hS.blk0 o0) rfl)) (Evo.refl [] c4) ?_; refine aet 4 rfl (fun _ hS => aD rfl mE) (Evo.refl [] c4) ?_; refine aet 5 rfl (fun _ hS => aS rfl aT (aY (hS.blk0 o1) rfl)) (Evo.refl [] c4) ?_; refine aet 6 rfl (fun _ hS => aX rfl) (Evo.refl [] c4) ?_; refine aet 7 rfl (fun _ hS => aK rfl rfl (by omega) (by omega)) (Evo.refl [] c4) ?_; refine aet 8 rfl (fun _ hS => cG (n := i) rfl rfl dB hi) (Evo.refl [] c4) ?_; refine bV [9] (by kernel_rfl) rfl ⟨?_, trivial⟩
   refine cA rfl ?_
   obtain ⟨g67, cur58, hg59, hx60, hcu61, hcs62, -⟩ := g1.at (by omega)
   cases hx60; refine fW rfl rfl (rfl) bY hcu61 (g1.inb hcs62 (k := i) (j := 0) (by omega) (by omega) (by omega)) fun E7 C4 a7 => ?_; replace a7 := jQ hg59 a7; have C5 := g1.set' hg59 hcu61 C4
   have C6 := C0.step a7 (fun y hy => .inl (by simp at hy; simp [hy]))
   have C7 := C1.step a7 (fun y hy => .inl (by simp at hy; simp [XM, hy]))
   have C8 := a7.blk o0 hms.nmem; have C9 := C2.evo a7 hst.symm.own; have D0 := C3.evo a7 hsk.symm.own; have D1 := a7.blk o1 A0.symm.nmem; have hSe2 : OwnS E7 3 1 (some ⟨sb, 0, none⟩) p.insts.length cs ((svc p.insts.length sv).set (0 + i * 1) (iv ((a + 1 : Nat) : Int))) (some sb) := C5; rw [show 0 + i * 1 = i by omega, svc_set] at hSe2; have hum := us_mark (a := a) hi hsn2; refine aQ (bO (.inr (by kernel_rfl)) ?_); refine dH (by kernel_rfl) (aC ?_); refine aI ?_; refine fT (fun w0 w' => Evo [] w0 w') (by kernel_rfl) (fun b9 c1 => ?_); have g2 := C6.then c1; have o2 := C7.then c1; have g3 := c1.blk0 C8; have o3 := hSe2.evo0 c1; have o4 := C9.evo0 c1; have o5 := D0.evo0 c1; have g4 := c1.blk0 D1; refine aet 0 rfl (fun _ hS => aX rfl) (Evo.refl [] b9) ?_; refine aet 1 rfl (fun _ hS => aF rfl) (Evo.refl [] b9) ?_; refine aet 2 rfl (fun _ hS => aD rfl GY) (Evo.refl [] b9) ?_; refine aet 3 rfl (fun _ hS => aD rfl oJ) (Evo.refl [] b9) ?_; refine aet 4 rfl (fun _ hS => aS rfl sM (aY (hS.blk0 g3) rfl)) (Evo.refl [] b9) ?_; refine aet 5 rfl (fun _ hS => aD rfl mE) (Evo.refl [] b9) ?_; refine aet 6 rfl (fun _ hS => aS rfl aT (aY (hS.blk0 g4) rfl)) (Evo.refl [] b9) ?_
   refine aet 7 rfl (fun _ hS => cG (n := i) (by rw [ha1]; rfl) rfl tP hi) (Evo.refl [] b9) ?_
   refine aet 8 rfl (fun _ hS => cY rfl sL lP (vs := [_, _, _, _, _]) rfl (E6.evo (g2.then hS) hx1)) (Evo.refl [] b9) ?_; refine bV [9] (by kernel_rfl) rfl ⟨?_, trivial⟩; refine cA rfl ?_; refine cL rfl yP fun H8 H9 D2 c2 a8 => ?_; have D3 := Apart.new (Lt.blk g3) c2; have D4 := Apart.new (Lt.own o3) c2; have D5 := Apart.new (Lt.own o4) c2; have D6 := Apart.new (Lt.own o5) c2; have D7 := Apart.new (Lt.blk g4) c2; have D8 := Ge.new g2 c2; have D9 := Ge.new o2 c2; have E0 := g2.then a8; have E1 := o2.then a8; have E2 := (Evo.refl [] b9).then a8; have o6 := a8.blk0 g3; have o7 := o3.evo0 a8; have o8 := o4.evo0 a8; have o9 := o5.evo0 a8; have p1 := a8.blk0 g4; refine aQ (bO (.inl E2) ?_); refine bV [10] (by kernel_rfl) rfl ⟨?_, trivial⟩; refine cA rfl ?_; refine aV rfl rfl lP D2 rfl rfl ⟨by first | rfl | assumption, by first | rfl | assumption, by first | rfl | assumption, by first | rfl | assumption, by first | rfl | assumption, trivial⟩ fun g5 e7 M => ?_; have p2 := E0.step M D8.mem1; have p3 := E1.step M D9.mem1; have p4 := M.blk o6 D3.nmem1; have p5 := o7.evo M D4.own1; have p6 := o8.evo M D5.own1; have p7 := o9.evo M D6.own1; have p8 := M.blk p1 D7.nmem1
   try simp only [cH, Nat.reduceAdd] at e7
   refine aQ (bO (.inr (by kernel_rfl)) ?_); refine dH (by kernel_rfl) (aC ?_); refine csr (wfl rfl oH rfl aT e7 rfl (wnn (bJ (aI (mK (α := Bool) (fun x => [(67, .bool x)]) [(0, _), (2, _), (4, _), (6, _), (7, _), (54, _)] (fun x wr => Evo [] g5 wr ∧ (x = true ↔ (ci.op = 1 ∨ ci.op = 2))) ⟨rfl, rfl, rfl, rfl, rfl, rfl, trivial⟩ ?_ ?_)))))
   ·refine csr (wel ?_); refine wan (aW rfl (fun e4 => ?_) (fun e4 => ?_))
    ·refine aM (bA ?_); refine ⟨_, ⟨rfl, trivial⟩, ⟨rfl, rfl, rfl, rfl, rfl, rfl, trivial⟩, (Evo.refl [] g5), ?_⟩
     simp only [decide_eq_true_eq]; omega
    refine aG (wel ?_); refine bX (aQ (bA ?_)); refine ⟨_, ⟨rfl, trivial⟩, ⟨rfl, rfl, rfl, rfl, rfl, rfl, trivial⟩, (Evo.refl [] g5), ?_⟩
    simp only [decide_eq_true_eq]; omega
   rintro lf F5 ⟨B, hlf2⟩; refine aC ?_; show CW _ _ _ _ [(67, _), (0, _), (2, _), (4, _), (6, _), (7, _), (54, _)] _; have d1 := p2.then B; have d2 := p3.then B; have b4 := B.blk0 p4; have c5 := p5.evo0 B; have c6 := p6.evo0 B; have c7 := p7.evo0 B; have D := B.blk0 p8; have b5 := B.blk0 e7; refine fG rfl (fun e4 => ?_) (fun e4 => ?_)
   ·subst e4; have hlf3 := hlf2.1 rfl; refine fT (fun w0 w' => Evo (bm :: tob.toList) w0 w') (by kernel_rfl) (fun a9 O => ?_); have g9 := d1.then O; have h0 := d2.then O; have e8 := O.blk0 b4; have h2 := c5.evo0 O; have h3 := c6.evo0 O; have h4 := c7.evo0 O; have e9 := O.blk0 D; refine aet 0 rfl (fun _ hS => aX rfl) (Evo.refl (bm :: tob.toList) a9) ?_; refine aet 1 rfl (fun _ hS => aX rfl) (Evo.refl (bm :: tob.toList) a9) ?_; refine aet 2 rfl (fun _ hS => aF rfl) (Evo.refl (bm :: tob.toList) a9) ?_; refine aet 3 rfl (fun _ hS => aD rfl jK) (Evo.refl (bm :: tob.toList) a9) ?_; refine aet 5 rfl (fun _ hS => bW rfl pJ iP (hS.blk e9 (nm2 g7.symm hbt)) rfl) (Evo.refl (bm :: tob.toList) a9) ?_; refine bV [4, 6] (by kernel_rfl) rfl ⟨?_, ?_, trivial⟩
    ·refine cA rfl ?_; refine aA (aS rfl pK (aY e8 rfl)) (aQ (bO (.inl (Evo.refl (bm :: tob.toList) a9)) ?_)); refine bV [6] (by kernel_rfl) rfl ⟨?_, trivial⟩; refine cA rfl ?_; refine bM (vs := [_]) rfl kJ rfl rfl rfl rfl fun F6 F7 p9 E9 F => ?_; have h5 := g9.then F; have h6 := h0.then F; have h7 := (Evo.refl (bm :: tob.toList) a9).then F; have h8 := F.blk0 e8; have h9 := h2.evo0 F; have q0 := h3.evo0 F; have i1 := h4.evo0 F; have i2 := F.blk0 e9; refine aQ (bO (.inl h7) ?_); refine bV [7] (by kernel_rfl) rfl ⟨?_, trivial⟩; refine cA rfl ?_; refine cZ rfl rfl rfl rfl lC q0 (Src.ofOwn p9 ⟨by first | rfl | assumption, by first | rfl | assumption, trivial⟩) (by omega) fun ta1 tc1 F8 obt hTa U hob165 => ?_; have i3 := hmt.app (Lt.blk h8) hob165; have q1 := hst.app (Lt.own h9) hob165; have q2 := htk.symm.app (Lt.own i1) hob165; have q3 := hbt.app (Lt.blk i2) hob165; have q4 := h5.step U (hto); have q5 := h6.step U (fun y hy => .inl (BQ y hy)); have d3 := h7.step U (fun y hy => .inl (List.mem_cons_of_mem _ hy)); have q6 := U.blk h8 hmt.nmem; have q7 := h9.evo U hst.own; have q8 := i1.evo U htk.symm.own; have q9 := U.blk i2 hbt.nmem; have hobt := hob165; have hpreT := h6; have hpreW := h5; refine aQ (bO (.inl d3) ?_); refine aet 8 rfl (fun _ hS => aF rfl) d3 ?_
     refine aet 9 rfl (fun _ hS => aD rfl jK) d3 ?_; refine bV [10] (by kernel_rfl) rfl ⟨?_, trivial⟩; refine cA rfl ?_; refine bB rfl rfl (by first | rfl | assumption) tG q6 rfl fun F9 i4 V => ?_
     have r0 := q4.step V (fun y hy => .inl (by simp at hy; simp [hy]))
     have d4 := q5.step V (fun y hy => .inl (by simp at hy; simp [XM, hy]))
     have r1 := d3.step V (fun y hy => .inl (by simp at hy; simp [hy]))
     have r5 := q7.evo V hms.symm.own1; have r6 := q8.evo V hmk.symm.own1; have r7 := V.blk q9 g7.symm.nmem1; have r8 := hTa.evo V i3.symm.own1
     try simp only [cH, Nat.reduceAdd] at i4
     refine aQ (bO (.inl r1) ?_); refine dH (by kernel_rfl) (aP (aP (bA ?_))); refine ⟨⟨stk1, kr1, some ⟨gk, 0, none⟩, kc, some gk, (tB sv i (a + 1)), ls ++ [(i, t)], tr ++ [[iv i, (.pointer q)]], ta1, tn + 1, tc1, obt, iv i, (.pointer q)⟩, ?_, ⟨rfl, trivial⟩, ⟨rfl, rfl, rfl, trivial⟩, r0, ?_⟩
     · (try dsimp only); first | omega | (simp only [List.length_cons]; omega) | (simp only [List.length_cons] at *; omega)
     try dsimp only
     have hxx := sY d4 (t' := obt) (k' := some gk) (EO hobt hpreT BQ) (fun y hy => .inl (zN y hy)); have hKr3 := dG hKr1 d4 hxx; have hTr3 := dG hTr d4 hxx; have hNv3 := hNv.step d4 hxx
     refine ⟨r6, hKr3, r5, (by rw [wD]; exact r8), (by rw [← List.append_assoc]; exact hTr3.snoc rfl ⟨(.pointer q), rfl, hNv3⟩), i4, r7, fun d hd => hsn d (List.mem_cons_of_mem _ hd), by first | omega | (simp only [List.length_cons] at *; omega), by omega, (sC hsv), NH hE (fun Lx V' h => .leaf hsn2 (by rw [hmv]; unfold mvI; rcases hlf3 with h1 | h1 <;> simp [h1, Mov.leaf]) (by rw [← kB]; exact h)), i3, q1, q3, hmk, hsk, hbk, q2.symm, hgk, SQ hobt hpreW hto, ob_or hobt hpreW hto2⟩
    refine cA rfl ?_; refine bM (vs := [_]) rfl kJ rfl rfl rfl rfl fun G0 G1 r9 F0 H => ?_; have i5 := g9.then H; have i6 := h0.then H; have f0 := (Evo.refl (bm :: tob.toList) a9).then H; have f5 := H.blk0 e8; have i7 := h2.evo0 H; have s0 := h3.evo0 H; have i8 := h4.evo0 H; have i9 := H.blk0 e9; refine aQ (bO (.inl f0) ?_); refine bV [4] (by kernel_rfl) rfl ⟨?_, trivial⟩; refine cA rfl ?_; refine aA (aS rfl pK (aY f5 rfl)) (aQ (bO (.inl f0) ?_)); refine bV [7] (by kernel_rfl) rfl ⟨?_, trivial⟩; refine cA rfl ?_; refine cZ rfl rfl rfl rfl lC s0 (Src.ofOwn r9 ⟨by first | rfl | assumption, by first | rfl | assumption, trivial⟩) (by omega) fun ta1 tc1 G2 obt hTa a0 hob222 => ?_; have j0 := hmt.app (Lt.blk f5) hob222; have s4 := hst.app (Lt.own i7) hob222; have s5 := htk.symm.app (Lt.own i8) hob222; have s6 := hbt.app (Lt.blk i9) hob222; have s7 := i5.step a0 (hto); have s8 := i6.step a0 (fun y hy => .inl (BQ y hy)); have d5 := f0.step a0 (fun y hy => .inl (List.mem_cons_of_mem _ hy)); have s9 := a0.blk f5 hmt.nmem; have t2 := i7.evo a0 hst.own; have t4 := i8.evo a0 htk.symm.own; have t5 := a0.blk i9 hbt.nmem; have hobt := hob222; have hpreT := i6; have hpreW := i5; refine aQ (bO (.inl d5) ?_); refine aet 8 rfl (fun _ hS => aF rfl) d5 ?_; refine aet 9 rfl (fun _ hS => aD rfl jK) d5 ?_
    refine bV [10] (by kernel_rfl) rfl ⟨?_, trivial⟩; refine cA rfl ?_; refine bB rfl rfl (by first | rfl | assumption) tG s9 rfl fun G3 j1 a1 => ?_
    have t6 := s7.step a1 (fun y hy => .inl (by simp at hy; simp [hy]))
    have d6 := s8.step a1 (fun y hy => .inl (by simp at hy; simp [XM, hy]))
    have t7 := d5.step a1 (fun y hy => .inl (by simp at hy; simp [hy]))
    have t8 := t2.evo a1 hms.symm.own1; have t9 := t4.evo a1 hmk.symm.own1; have u0 := a1.blk t5 g7.symm.nmem1; have u1 := hTa.evo a1 j0.symm.own1
    try simp only [cH, Nat.reduceAdd] at j1
    refine aQ (bO (.inl t7) ?_); refine dH (by kernel_rfl) (aP (aP (bA ?_))); refine ⟨⟨stk1, kr1, some ⟨gk, 0, none⟩, kc, some gk, (tB sv i (a + 1)), ls ++ [(i, t)], tr ++ [[iv i, (.pointer q)]], ta1, tn + 1, tc1, obt, iv i, (.pointer q)⟩, ?_, ⟨rfl, trivial⟩, ⟨rfl, rfl, rfl, trivial⟩, t6, ?_⟩
    · (try dsimp only); first | omega | (simp only [List.length_cons]; omega) | (simp only [List.length_cons] at *; omega)
    try dsimp only
    have hxx := sY d6 (t' := obt) (k' := some gk) (EO hobt hpreT BQ) (fun y hy => .inl (zN y hy)); have hKr3 := dG hKr1 d6 hxx; have hTr3 := dG hTr d6 hxx; have hNv3 := hNv.step d6 hxx
    refine ⟨t9, hKr3, t8, (by rw [wD]; exact u1), (by rw [← List.append_assoc]; exact hTr3.snoc rfl ⟨(.pointer q), rfl, hNv3⟩), j1, u0, fun d hd => hsn d (List.mem_cons_of_mem _ hd), by first | omega | (simp only [List.length_cons] at *; omega), by omega, (sC hsv), NH hE (fun Lx V' h => .leaf hsn2 (by rw [hmv]; unfold mvI; rcases hlf3 with h1 | h1 <;> simp [h1, Mov.leaf]) (by rw [← kB]; exact h)), j0, s4, s6, hmk, hsk, hbk, s5.symm, hgk, SQ hobt hpreW hto, ob_or hobt hpreW hto2⟩
   subst e4
   have hlf3 : ¬ (ci.op = 1 ∨ ci.op = 2) := fun h => by have := hlf2.2 h; cases this
   refine csr (wel ?_); refine wan (aW rfl (fun d0 => ?_) (fun d0 => ?_))
   ·have hout : 0 ≤ ci.out ∧ ci.out < p.insts.length := n4 (by omega); have halt := n5 d0; refine aG (aB (wfl rfl rN rfl aT b5 rfl (wfl rfl kL rfl kP D rfl (aA (cC (vs := [(0, _), (1, _)]) kO rfl (cells := [_, _]) rfl) ?_)))); refine wfl rfl gX rfl aT b5 rfl (wfl rfl kL rfl kP D rfl (aA (cC (vs := [(0, _), (1, _)]) kO rfl (cells := [_, _]) rfl) ?_)); refine bM (vs := [_, _]) rfl kJ rfl rfl rfl rfl fun G4 G5 u2 F1 a2 => ?_; have j2 := d1.then a2; have j3 := d2.then a2; have j4 := a2.blk0 b4; have j5 := c5.evo0 a2; have j6 := c6.evo0 a2; have u3 := c7.evo0 a2; have j7 := a2.blk0 D; refine cZ rfl rfl rfl rfl lC u3 (Src.ofOwn u2 ⟨rfl, rfl, rfl, rfl, trivial⟩) (by omega) fun ka1 kc1 G6 obk hKa b6 hob277 => ?_; have u4 := hmk.app (Lt.blk j4) hob277; have u5 := hsk.app (Lt.own j5) hob277; have u6 := htk.app (Lt.own j6) hob277; have u7 := hbk.app (Lt.blk j7) hob277; have u8 := hgk.app j2 hob277; have u9 := j2.step b6 hgk.mem; have d7 := j3.step b6 (fun y hy => .inl (zN y hy)); have v0 := b6.blk j4 hmk.nmem; have v4 := j5.evo b6 hsk.own; have v5 := j6.evo b6 htk.own; have v6 := b6.blk j7 hbk.nmem; have hobk := hob277
    have hpreK := j3; refine bX (aQ (aP (aP (bA ?_)))); refine ⟨⟨(ci.out.toNat, t) :: (ci.alt.toNat, t) :: stk1, kr1 ++ [[iv (ci.alt.toNat : Nat), (.pointer q)]] ++ [[iv (ci.out.toNat : Nat), (.pointer q)]], ka1, kc1, obk, (tB sv i (a + 1)), ls, tr, ta, tn, tc, tob, iv i, (.pointer q)⟩, ?_, ⟨rfl, trivial⟩, ⟨rfl, rfl, rfl, trivial⟩, u9, ?_⟩
    · (try dsimp only); first | omega | (simp only [List.length_cons]; omega) | (simp only [List.length_cons] at *; omega)
    try dsimp only
    have hmv2 : dE p s a i = .split ci.out.toNat ci.alt.toNat := by rw [hmv]; unfold mvI; rw [if_neg (by omega), if_neg (by omega), if_pos d0]
    have hxx := sY d7 (t' := tob) (k' := obk) (fun y hy => .inl (BQ y hy)) (EO hobk hpreK zN); have hKr3 := dG hKr1 d7 hxx; have hTr3 := dG hTr d7 hxx; have hNv3 := hNv.step d7 hxx; rw [show (List.reverse ((ci.out.toNat, t) :: (ci.alt.toNat, t) :: stk1)) = stk1.reverse ++ [(ci.alt.toNat, t)] ++ [(ci.out.toNat, t)] from by simp]
    refine ⟨(by rw [QI halt.1 hout.1]; exact hKa), (hKr3.snoc (d := (ci.alt.toNat, t)) rfl ⟨(.pointer q), rfl, hNv3⟩).snoc (d := (ci.out.toNat, t)) rfl ⟨(.pointer q), rfl, hNv3⟩, v4, v5, hTr3, v0, v6, fun d hd => by rcases List.mem_cons.1 hd with rfl | hd; { simp only; omega }; { rcases List.mem_cons.1 hd with rfl | hd; { simp only; omega }; { exact hsn d (List.mem_cons_of_mem _ hd) } }, by first | omega | (simp only [List.length_cons] at *; omega), by omega, (sC hsv), fun Lx V' h => hE Lx V' (.split hsn2 hmv2 (by rw [← kB]; exact h)), hmt, hst, hbt, u4, u5, u7, u6, u8, hto, hto2⟩
   refine csr (wel ?_); refine wan (aW rfl (fun e5 => ?_) (fun e5 => ?_))
   ·have hout : 0 ≤ ci.out ∧ ci.out < p.insts.length := n4 (by omega); have harg := n7 e5; refine aG (aB (wfl rfl gX rfl aT b5 rfl (wfl rfl mF rfl aT b5 rfl (aB (wfl rfl kL rfl kP D rfl (aA (cC (vs := [(0, _), (1, _), (2, _)]) HC rfl (cells := [_, _, _]) rfl) ?_)))))); refine gD rfl rfl fun nb G7 v7 b7 a4 => ?_; have E8 := b7; have v8 := Apart.new (Lt.blk b4) b7; have v9 := Apart.new (Lt.own c5) b7; have w2 := Apart.new (Lt.own c6) b7; have j8 := Apart.new (Lt.own c7) b7; have w3 := Apart.new (Lt.blk D) b7; have w4 := d1.then a4; have w5 := d2.then a4; have w6 := a4.blk0 b4; have w7 := c5.evo0 a4; have w8 := c6.evo0 a4; have w9 := c7.evo0 a4; have x0 := a4.blk0 D; refine aA (cC (vs := [(0, _), (1, _)]) kO rfl (cells := [_, _]) rfl) ?_; refine bM (vs := [_]) rfl kJ rfl rfl rfl rfl fun G8 G9 x1 F2 I => ?_; have j9 := w4.then I; have k0 := w5.then I; have k1 := I.blk0 w6; have k2 := w7.evo0 I; have k3 := w8.evo0 I; have x2 := w9.evo0 I; have k4 := I.blk0 x0; have k5 := I.blk0 v7; refine cZ rfl rfl rfl rfl lC x2 (Src.ofOwn x1 ⟨by first | rfl | assumption, by first | rfl | assumption, trivial⟩) (by omega) fun ka1 kc1 H0 obk hKa a5 hob342 => ?_
    have x3 := hmk.app (Lt.blk k1) hob342; have x4 := hsk.app (Lt.own k2) hob342; have x5 := htk.app (Lt.own k3) hob342; have x6 := hbk.app (Lt.blk k4) hob342; have x7 := j8.symm.app (Lt.blk k5) hob342; have x8 := hgk.app j9 hob342; have x9 := j9.step a5 hgk.mem; have d8 := k0.step a5 (fun y hy => .inl (zN y hy)); have y1 := a5.blk k1 hmk.nmem; have y2 := k2.evo a5 hsk.own; have y3 := k3.evo a5 htk.own; have y4 := a5.blk k4 hbk.nmem; have y5 := a5.blk k5 j8.symm.nmem; have hobk := hob342; have hpreK := k0; refine bX (aQ (aP (aP (bA ?_)))); refine ⟨⟨(ci.out.toNat, (ci.arg.toNat, a) :: t) :: stk1, kr1 ++ [[iv (ci.out.toNat : Nat), .pointer (some ⟨nb, 0, none⟩)]], ka1, kc1, obk, (tB sv i (a + 1)), ls, tr, ta, tn, tc, tob, iv i, (.pointer q)⟩, ?_, ⟨rfl, trivial⟩, ⟨rfl, rfl, rfl, trivial⟩, x9, ?_⟩
    · (try dsimp only); first | omega | (simp only [List.length_cons]; omega) | (simp only [List.length_cons] at *; omega)
    try dsimp only
    have hmv2 : dE p s a i = .save ci.arg.toNat ci.out.toNat := by rw [hmv]; unfold mvI; rw [if_neg (by omega), if_neg (by omega), if_neg d0, if_pos e5]
    have hxx := sY d8 (t' := tob) (k' := obk) (fun y hy => .inl (BQ y hy)) (EO hobk hpreK zN); have hKr3 := dG hKr1 d8 hxx; have hTr3 := dG hTr d8 hxx; have hNv3 := hNv.step d8 hxx; rw [List.reverse_cons]
    refine ⟨(by rw [EN hout.1]; exact hKa), hKr3.snoc rfl ⟨_, rfl, .cons (xm_nmem v8 v9 w3 w2 x7.symm) (by rw [Int.toNat_of_nonneg (show 0 ≤ ci.arg by omega)]; exact y5) hNv3⟩, y2, y3, hTr3, y1, y4, fun d hd => by rcases List.mem_cons.1 hd with rfl | hd; { simp only; omega }; { exact hsn d (List.mem_cons_of_mem _ hd) }, by first | omega | (simp only [List.length_cons] at *; omega), by omega, (sC hsv), fun Lx V' h => hE Lx V' (.save hsn2 hmv2 (by rw [← kB]; exact h)), hmt, hst, hbt, x3, x4, x6, x5, x8, hto, hto2⟩
   refine csr (aB (aA (bW rfl sL lP b5 rfl) (aB ?_))); refine aL (vs := [_, _, _]) KP rfl (TU _ _ _ _ s a b4 ha (by omega)) rfl ?_; rintro _ H1 ⟨rfl, J⟩; have k6 := d1.then J; have c8 := d2.then J; have k7 := J.blk0 b4; have k8 := c5.evo0 J; have k9 := c6.evo0 J; have l0 := c7.evo0 J; have f6 := J.blk0 D; have y6 := J.blk0 b5; refine wnn (aW rfl (fun e6 => ?_) (fun e6 => ?_))
   ·have hop2 : ¬ ci.op = 11 := fun e => by rw [e] at e6; simp [gP] at e6
    have hout : 0 ≤ ci.out ∧ ci.out < p.insts.length := n4 (by omega); refine aG (aB (wfl rfl gX rfl aT y6 rfl (wfl rfl kL rfl kP f6 rfl (aA (cC (vs := [(0, _), (1, _)]) kO rfl (cells := [_, _]) rfl) ?_)))); refine bM (vs := [_]) rfl kJ rfl rfl rfl rfl fun H2 H3 y7 F3 a6 => ?_; have l1 := k6.then a6; have l2 := c8.then a6; have l3 := a6.blk0 k7; have l4 := k8.evo0 a6; have l5 := k9.evo0 a6; have y8 := l0.evo0 a6; have l6 := a6.blk0 f6; refine cZ rfl rfl rfl rfl lC y8 (Src.ofOwn y7 ⟨by first | rfl | assumption, by first | rfl | assumption, trivial⟩) (by omega) fun ka1 kc1 H4 obk hKa b8 hob397 => ?_; have y9 := hmk.app (Lt.blk l3) hob397; have z0 := hsk.app (Lt.own l4) hob397; have z1 := htk.app (Lt.own l5) hob397; have z2 := hbk.app (Lt.blk l6) hob397; have z3 := hgk.app l1 hob397; have z4 := l1.step b8 hgk.mem; have d9 := l2.step b8 (fun y hy => .inl (zN y hy)); have z5 := b8.blk l3 hmk.nmem; have z6 := l4.evo b8 hsk.own; have z7 := l5.evo b8 htk.own; have z8 := b8.blk l6 hbk.nmem; have hobk := hob397; have hpreK := l2; refine bX (aQ (aP (aP (bA ?_)))); refine ⟨⟨(ci.out.toNat, t) :: stk1, kr1 ++ [[iv (ci.out.toNat : Nat), (.pointer q)]], ka1, kc1, obk, (tB sv i (a + 1)), ls, tr, ta, tn, tc, tob, iv i, (.pointer q)⟩, ?_, ⟨rfl, trivial⟩, ⟨rfl, rfl, rfl, trivial⟩, z4, ?_⟩
    · (try dsimp only); first | omega | (simp only [List.length_cons]; omega) | (simp only [List.length_cons] at *; omega)
    try dsimp only
    have hmv2 : dE p s a i = .go ci.out.toNat := by rw [hmv]; unfold mvI; rw [if_neg (by omega), if_neg (by omega), if_neg d0, if_neg e5, if_pos e6]
    have hxx := sY d9 (t' := tob) (k' := obk) (fun y hy => .inl (BQ y hy)) (EO hobk hpreK zN); have hKr3 := dG hKr1 d9 hxx; have hTr3 := dG hTr d9 hxx; have hNv3 := hNv.step d9 hxx; rw [List.reverse_cons]
    refine ⟨(by rw [EN hout.1]; exact hKa), hKr3.snoc rfl ⟨(.pointer q), rfl, hNv3⟩, z6, z7, hTr3, z5, z8, fun d hd => by rcases List.mem_cons.1 hd with rfl | hd; { simp only; omega }; { exact hsn d (List.mem_cons_of_mem _ hd) }, by first | omega | (simp only [List.length_cons] at *; omega), by omega, (sC hsv), fun Lx V' h => hE Lx V' (.go hsn2 hmv2 (by rw [← kB]; exact h)), hmt, hst, hbt, y9, z0, z2, z1, z3, hto, hto2⟩
   refine aM (aP (aP (bA ?_))); refine ⟨⟨stk1, kr1, some ⟨gk, 0, none⟩, kc, some gk, (tB sv i (a + 1)), ls, tr, ta, tn, tc, tob, iv i, (.pointer q)⟩, ?_, ⟨rfl, trivial⟩, ⟨rfl, rfl, rfl, trivial⟩, k6, ?_⟩
   · (try dsimp only); first | omega | (simp only [List.length_cons]; omega) | (simp only [List.length_cons] at *; omega)
   try dsimp only
   have hmv2 : dE p s a i = .dead := by rw [hmv]; unfold mvI; rw [if_neg (by omega), if_neg (by omega), if_neg d0, if_neg e5, if_neg e6]
   have hxx := sY c8 (t' := tob) (k' := some gk) (fun y hy => .inl (BQ y hy)) (fun y hy => .inl (zN y hy)); have hKr3 := dG hKr1 c8 hxx; have hTr3 := dG hTr c8 hxx; have hNv3 := hNv.step c8 hxx
   refine ⟨l0, hKr3, k8, k9, hTr3, k7, f6, fun d hd => hsn d (List.mem_cons_of_mem _ hd), by first | omega | (simp only [List.length_cons] at *; omega), by omega, (sC hsv), fun Lx V' h => hE Lx V' (.dead hsn2 hmv2 (by rw [← kB]; exact h)), hmt, hst, hbt, hmk, hsk, hbk, htk, hgk, hto, hto2⟩
  refine cN (bL (bL (cM (eA rfl ?_)))); have hz : stk = [] := List.eq_nil_of_length_eq_zero (by omega); subst hz; have A3 := hE [] (jP a sv) .nil; rw [List.append_nil] at A3; exact ⟨sv, ta, tn, tc, tr, tob, ls, rfl, A3, hM, hSe, hTh, dG hTr (Evo.refl _ _) (fun y hy => .inl (xm_s y hy)), hsv, htn, hmt, hst, hto2, m2⟩
abbrev WZ : Wt := fun _ _ => false
def PkL (p : Prg) (s : ByteArray) (a : Nat) (L : List Th) (r : Option dS) (W' : Wt) : Prop :=
  (a = s.size ∧ r = first (dE p s) a L) ∨ (a ≠ s.size ∧ gF s a = none ∧ r = none) ∨ (a ≠ s.size ∧ ∃ b, gF s a = some b ∧ Pk (dE p s) (gF s) s.size b (iG (dE p s) a L) WZ r W')
theorem AH {p : Prg} {s : ByteArray} {a : Nat} {E L : List Th} {V' : Vis} {r : Option dS} {W' : Wt} (h : Ept (dE p s) a E (fun _ => false) L V') (k : PkL p s a L r W') : ∃ W2, Pk (dE p s) (gF s) s.size a E WZ r W2 := by
  rcases k with ⟨h1, rfl⟩ | ⟨h1, h2, rfl⟩ | ⟨h1, b, h2, h3⟩
  · exact ⟨_, .last h1 h⟩
  · exact ⟨_, .stop h1 h2 h⟩
  · exact ⟨_, .next h1 h2 h h3⟩
theorem pk_nil (p : Prg) (s : ByteArray) : ∀ (n a : Nat) (W : Wt), s.size + 1 - a = n → ∃ W', Pk (dE p s) (gF s) s.size a [] W none W' := by
  intro n
  induction n using Nat.strongRecOn with
  | _ n ih =>
    intro a W hn
    by_cases h : a = s.size
    · exact ⟨_, .last h .nil⟩
    · cases hx : gF s a with
      | none => exact ⟨_, .stop h hx .nil⟩
      | some b =>
        have h1 := IJ s a b hx
        have h2 := TC s a b hx
        obtain ⟨W', hp⟩ := ih (s.size + 1 - b) (by omega) b W rfl
        exact ⟨_, .next h hx .nil hp⟩
theorem pkL_nil (p : Prg) (s : ByteArray) (a : Nat) : ∃ W', PkL p s a [] none W' := by
  by_cases h : a = s.size
  · exact ⟨WZ, .inl ⟨h, rfl⟩⟩
  · cases hx : gF s a with
    | none => exact ⟨WZ, .inr (.inl ⟨h, hx, rfl⟩)⟩
    | some b => obtain ⟨W', hp⟩ := pk_nil p s _ b WZ rfl; exact ⟨W', .inr (.inr ⟨h, b, hx, hp⟩)⟩
theorem FY {p : Prg} {s : ByteArray} {a : Nat} {E L : List Th} {V V' : Vis} (h : Ept (dE p s) a E V L V') : ∀ d, d ∈ L → (dE p s a d.1).leaf = true := by
  induction h with
  | nil => intro d hd; cases hd
  | seen _ _ ih => exact ih
  | leaf _ hl _ ih => intro d hd; rcases List.mem_cons.1 hd with rfl | hd; { exact hl }; { exact ih d hd }
  | go _ _ _ ih => exact ih
  | split _ _ _ ih => exact ih
  | save _ _ _ ih => exact ih
  | dead _ _ _ ih => exact ih
theorem leaf_lt {p : Prg} {s : ByteArray} {a i : Nat} (h : (dE p s a i).leaf = true) : i < p.insts.length := by
  unfold dE at h
  by_cases hi : i < p.insts.length
  · exact hi
  · rw [List.getElem?_eq_none (by omega)] at h; cases h
theorem CN {p : Prg} {s : ByteArray} {a i : Nat} (hi : i < p.insts.length) : (dE p s a i).isMat = decide (p.insts[i].op = 1) := by
  rw [CI hi]
  unfold mvI
  by_cases h1 : p.insts[i].op = 1
  · rw [if_pos h1]; simp [h1, Mov.isMat]
  · rw [if_neg h1]
    repeat' split
    all_goals simp [h1, Mov.isMat]
theorem LY {p : Prg} {s : ByteArray} {a i : Nat} (hi : i < p.insts.length) : (dE p s a i).outs = if p.insts[i].op = 2 ∧ lU (bH s a).1 p.insts[i].rs then some p.insts[i].out.toNat else none := by
  rw [CI hi]
  unfold mvI
  by_cases h1 : p.insts[i].op = 1
  · rw [if_pos h1, if_neg (fun h => by omega)]; rfl
  · rw [if_neg h1]
    by_cases h2 : p.insts[i].op = 2
    · rw [if_pos h2]
      by_cases h3 : lU (bH s a).1 p.insts[i].rs
      · rw [if_pos h3, if_pos ⟨h2, h3⟩]; rfl
      · rw [if_neg h3, if_neg (fun h => h3 h.2)]; rfl
    · have hn : ¬ (p.insts[i].op = 2 ∧ lU (bH s a).1 p.insts[i].rs) := fun h => h2 h.1
      rw [if_neg h2, if_neg hn]
      repeat' split
      all_goals rfl
theorem FO {p : Prg} {s : ByteArray} {a k : Nat} {L : List Th} (hk : k < L.length) (hL : ∀ d, d ∈ L → d.1 < p.insts.length) (h1 : ∀ j (hj : j < L.length), j < k → ∀ hi : L[j].1 < p.insts.length, ¬ p.insts[L[j].1].op = 1) (h2 : ∀ hi : L[k].1 < p.insts.length, p.insts[L[k].1].op = 1) : first (dE p s) a L = some L[k].2 := by
  rw [xY]
  have : L.find? (fun x => (dE p s a x.1).isMat) = some L[k] := by
    rw [List.find?_eq_some_iff_getElem]
    refine ⟨by rw [CN (hL _ (List.getElem_mem _))]; simpa using h2 (hL _ (List.getElem_mem _)), k, hk, rfl, fun j hj => ?_⟩
    rw [CN (hL _ (List.getElem_mem _))]
    simpa using h1 j (by omega) hj (hL _ (List.getElem_mem _))
  rw [this]; rfl
theorem PC {p : Prg} {s : ByteArray} {a : Nat} {L : List Th} (hL : ∀ d, d ∈ L → d.1 < p.insts.length) (h1 : ∀ j (hj : j < L.length), ∀ hi : L[j].1 < p.insts.length, ¬ p.insts[L[j].1].op = 1) : first (dE p s) a L = none := by
  rw [xY]
  have : L.find? (fun x => (dE p s a x.1).isMat) = none := by
    rw [List.find?_eq_none]
    intro d hd
    obtain ⟨j, hj, rfl⟩ := List.getElem_of_mem hd
    rw [CN (hL _ hd)]
    simpa using h1 j hj (hL _ hd)
  rw [this]; rfl
theorem tA {p : Prg} {s : ByteArray} {a k : Nat} {L : List Th} (hk : k < L.length) : iG (dE p s) a (L.take (k + 1)) = iG (dE p s) a (L.take k) ++ iG (dE p s) a [L[k]] := by
  rw [List.take_succ_eq_append_getElem hk, AT]
theorem xN {p : Prg} {s : ByteArray} {a : Nat} {d : Th} (hi : d.1 < p.insts.length) (h : ¬ (p.insts[d.1].op = 2 ∧ lU (bH s a).1 p.insts[d.1].rs)) : iG (dE p s) a [d] = [] := by
  rw [AR, LY hi, if_neg h]; rfl
theorem IM {p : Prg} {s : ByteArray} {a : Nat} {d : Th} (hi : d.1 < p.insts.length) (h1 : p.insts[d.1].op = 2) (h2 : lU (bH s a).1 p.insts[d.1].rs) : iG (dE p s) a [d] = [(p.insts[d.1].out.toNat, d.2)] := by
  rw [AR, LY hi, if_pos ⟨h1, h2⟩]; rfl
theorem RD {X : List Nat} {w : World} {e : TypeId} {a : Option Addr} {n c : Nat} {rows : List (List Value)} {ob : Option Nat} {ds : List Th} (h : OwnS w e 2 a n c rows.flatten ob) (hr : RowsOk 2 RTh X w rows ds) {k : Nat} (hk : k < ds.length) :
    ∃ g q, ob = some g ∧ a = some ⟨g, 0, none⟩ ∧ CellsAt w g (0 + k * 2) [iv ds[k].1, .pointer q] ∧ RNote X w (.pointer q) ds[k].2 := by
  have hl := hr.flen
  have h1 := h.1
  rw [vM hl, hr.1] at h1
  obtain ⟨g, hg, ha, hc⟩ := h.cells (by omega)
  obtain ⟨_, v, hv, hn⟩ := hr.2 k hk (by rw [hr.1]; exact hk)
  obtain ⟨q, rfl⟩ := hn.ptr
  refine ⟨g, q, hg, ha, fun j v hj => ?_, hn⟩
  have hj2 : j < 2 := (List.getElem?_eq_some_iff.1 hj).1
  have := hc (k * 2 + j) v (by rw [vN hl (by rw [hr.1]; exact hk) hj2, hv]; exact hj)
  rw [show 0 + k * 2 + j = 0 + (k * 2 + j) by omega]
  exact this
theorem RA {X : List Nat} {w : World} {e : TypeId} {a : Option Addr} {n c : Nat} {rows : List (List Value)} {ob : Option Nat} {ds : List Th} (h : OwnS w e 2 a n c rows.flatten ob) (hr : RowsOk 2 RTh X w rows ds) : ds.length = n := by
  have h1 := h.1
  rw [vM hr.flen, hr.1] at h1
  omega
theorem NX {a b : Nat} {sv : Nat → Nat} (h : ∀ j, sv j ≤ a + 1) (hab : a < b) : jP b sv = fun _ => false := by
  funext j
  have := h j
  simp only [jP, decide_eq_false_iff_not]
  omega
structure SG where
  a : Nat
  sv : Nat → Nat
  ls : List Th
  tr : List (List Value)
  ta : Option Addr
  tn : Nat
  tc : Nat
  tob : Option Nat
structure SH where
  k : Nat
  sw : Nat → Nat
  ms : List Th
  ur : List (List Value)
  ua : Option Addr
  un : Nat
  uc : Nat
  uob : Option Nat
theorem nmk {b bm sb : Nat} {t : Option Nat} (h1 : Apart (some b) (some bm)) (h2 : Apart (some b) (some sb)) (h3 : Apart (some b) t) : b ∉ bm :: sb :: t.toList := fun h => by
  rcases List.mem_cons.1 h with rfl | h
  · exact h1 _ rfl rfl
  · rcases List.mem_cons.1 h with rfl | h
    · exact h2 _ rfl rfl
    · exact h3.nmem h
theorem nmo {o : Option Nat} {bm sb : Nat} {t : Option Nat} (h1 : Apart o (some bm)) (h2 : Apart o (some sb)) (h3 : Apart o t) : ∀ g, o = some g → g ∉ bm :: sb :: t.toList := fun g e => by subst e; exact nmk h1 h2 h3
theorem ge3 {X : List Nat} {w : World} {bm sb : Nat} {t : Option Nat} (h1 : Ge w (some bm)) (h2 : Ge w (some sb)) (h3 : Ge w t) : ∀ y, y ∈ bm :: sb :: t.toList → y ∈ X ∨ w.heap.size ≤ y := fun y hy => by
  right
  rcases List.mem_cons.1 hy with rfl | hy
  · exact h1 _ rfl
  · rcases List.mem_cons.1 hy with rfl | hy
    · exact h2 _ rfl
    · exact h3 _ (by simpa using hy)
theorem in3 {X : List Nat} {w w1 : World} {bm sb : Nat} {t t' : Option Nat} (he : Evo X w w1) (hm : bm ∈ X) (hs : sb ∈ X) (ht : ∀ y, y ∈ t.toList → y ∈ X) (h : t' = t ∨ Ge w1 t') : ∀ y, y ∈ bm :: sb :: t'.toList → y ∈ X ∨ w.heap.size ≤ y := fun y hy => by
  rcases List.mem_cons.1 hy with rfl | hy
  · exact .inl hm
  · rcases List.mem_cons.1 hy with rfl | hy
    · exact .inl hs
    · rcases h with rfl | h
      · exact .inl (ht y hy)
      · right; have := h y (by simpa using hy); have := he.size; omega
theorem HD : Build Try.prog 73 #[(0, 4), (4, 1), (5, 1), (6, 1)] #[.slice none 0 0, .int .i64 0, .int .i64 0, .slice none 0 0, .string ByteArray.empty, .slice none 0 0, .slice none 0 0] := ⟨_, .agg #[.slice none 0 0, .int .i64 0, .int .i64 0, .slice none 0 0, .string ByteArray.empty, .slice none 0 0, .slice none 0 0], Try.underlying73, by kernel_rfl, rfl, fun w => by kernel_rfl⟩
theorem HB : cX Try.prog 43 1 = some 1 := by kernel_rfl
theorem GZ : cX Try.prog 68 4 = some 4 := by kernel_rfl
theorem zE : dY Try.prog 24 := ⟨_, Try.func24, by kernel_rfl, by kernel_rfl⟩
theorem yS : TP Try.prog 30 = some (3, 1, 8, #[.int .i64 0]) := by kernel_rfl
theorem yO : mN Try.prog 76 = some #[.int .i64 0, .pointer none] := by kernel_rfl
theorem in_none {bm sb : Nat} {t : Option Nat} : ∀ y, y ∈ bm :: sb :: (none : Option Nat).toList → y ∈ bm :: sb :: t.toList := fun y hy => by
  simp at hy; rcases hy with h | h <;> simp [h]
set_option maxHeartbeats 4000000 in
theorem AD {X : List Nat} {w : World} {vs : List Value} {p : Prg} (hp : RPrg X w vs p) (hsp : iX p) (s : ByteArray) (hs : s.size ≤ 2097152) :
    Calls Try.prog 15 #[.agg vs.toArray, .string s] w (Ret fun v w' => ∃ nv b r W', v = .tuple #[nv, .bool b] ∧ Pk (dE p s) (gF s) s.size 0 [(p.start.toNat, [])] WZ r W' ∧ ((r = none ∧ b = false) ∨ (∃ t, r = some t ∧ b = true ∧ RNote [] w' nv t)) ∧ Evo [] w w') := by
  obtain ⟨hok, pi0, pn0, rfl, hiv, hnv⟩ := hp; have hst0 := hok.start; have hgr := hok.groups; have hil := hok.ilen; have hnl := hok.nlen; have hiv0 := hiv; obtain ⟨a3, c3, rfl, hl3, e3⟩ := hiv; obtain ⟨a4, c4, rfl, hl4, e4⟩ := hnv; obtain ⟨hh1, hh2, hh3, hh4, hh5, hh6, hh7⟩ := hsp.1; refine bE (N := 121) Try.func15 rfl rfl rfl ?_; refine csr (gD rfl rfl fun bP w1 j5 i1 j6 => ?_); have j7 := i1; refine bX (wan (aI ?_)); refine fT (fun w0 w' => Evo [] w0 w') (by kernel_rfl) (fun w7 i2 => ?_); have g4 := ((Evo.refl [] w).then j6).then i2; have a7 := i2.blk0 j5; refine aet 0 rfl (fun _ hS => bW rfl kQ fZ (hS.blk0 a7) rfl) (Evo.refl [] w7) ?_; refine aet 1 rfl (fun _ hS => aX rfl) (Evo.refl [] w7) ?_; refine aet 2 rfl (fun _ hS => aD rfl oJ) (Evo.refl [] w7) ?_; refine aet 3 rfl (fun _ hS => aS rfl sM (aY (hS.blk0 a7) rfl)) (Evo.refl [] w7) ?_; refine aet 4 rfl (fun _ hS => aZ rfl Try.underlying40 rfl) (Evo.refl [] w7) ?_; refine bV [5] (by kernel_rfl) rfl ⟨?_, trivial⟩; refine cA rfl ?_; refine LE (len := p.insts.length) (c := p.insts.length) rfl rfl rfl yS (by rfl) (by rfl) (by omega) (by decide) (by omega) (by omega) fun sb l2 hSe0 g5 a8 => ?_; have b5 := (Evo.refl [] w7).then a8; rw [QK] at hSe0; refine aQ (bO (.inl b5) ?_)
  refine aet 6 rfl (fun _ hS => cC (vs := [(0, .agg #[.slice a3 p.insts.length c3, iv p.start, iv p.groups, .slice a4 p.names.length c4]), (1, .string s), (2, .slice (some ⟨sb, 0, none⟩) p.insts.length p.insts.length)]) HD rfl (cells := [.slice a3 p.insts.length c3, iv p.start, iv p.groups, .slice a4 p.names.length c4, .string s, .slice (some ⟨sb, 0, none⟩) p.insts.length p.insts.length, .slice none 0 0]) rfl) b5 ?_; refine bV [7] (by kernel_rfl) rfl ⟨?_, trivial⟩; refine cA rfl ?_; refine gD rfl rfl fun bm l3 i4 b6 a9 => ?_; have j8 := b6; have d4 := (g4.then a8).then a9; have d5 := a9.blk0 (a8.blk0 a7); refine aQ (bO (.inl (b5.then a9)) ?_); refine aet 8 rfl (fun _ hS => eG rfl) (b5.then a9) ?_; refine dH (by kernel_rfl) (aC ?_); refine aI ?_; have hpm : Apart (some bP) (some bm) := (Apart.new (Lt.blk (a8.blk0 a7)) b6); have hps : Apart (some bP) (some sb) := (Apart.new (Lt.blk a7) g5); have hms : Apart (some bm) (some sb) := (Apart.new (Lt.own hSe0) b6).symm; have hgp : Ge w (some bP) := (Ge.new (Evo.refl [] w) i1); have hgm : Ge w (some bm) := (Ge.new (g4.then a8) b6); have hgs : Ge w (some sb) := (Ge.new g4 g5); have i3 : ∀ (t : Option Nat), Ge w t → ∀ {w' : World}, Evo [] w w' → RSl 5 RInst (bm :: sb :: t.toList) w' (.slice a3 p.insts.length c3) p.insts := fun t ht w' he => (hiv0.fresh (by decide) RInst.fresh (ge3 hgm hgs ht)).evo RInst.pers (he.any _); refine aG (aB (wfl rfl HB rfl aT d5 rfl ?_))
  rw [show (Value.int .i64 p.start) = iv ((p.start.toNat : Nat) : Int) from by rw [Int.toNat_of_nonneg hh3]]; refine aA (cC (vs := [(0, _)]) kO rfl (cells := [_, _]) rfl) ?_
  refine aL (vs := [_, _, _]) zE rfl (AZ (tob0 := none) (tr0 := []) (L0 := []) (a := 0) (i0 := p.start.toNat) (sv0 := fun _ => 0) (nv0 := .pointer none) (i3 none (Ge.nil _) d4) hsp i4 (hSe0.evo0 a9) (OwnS.nil _ _ _) (RowsOk.nil _ _ _ _) .nil (by omega) (Nat.zero_le _) hs (fun _ => Nat.zero_le _) (by have := QG p.insts.length 0 (fun _ => 0); omega) hms (Apart.nil _) (Apart.nil _)) rfl ?_
  rintro _ l4 ⟨sv1, ta1, tn1, tc1, tr1, tob1, L1, rfl, heps, j9, hSe1, hTh1, hTr1, hsv1, htn1, hmt1, hst1, hto1, g6⟩
  have hgt1 : Ge w tob1 := by rcases hto1 with h | h; { subst h; exact Ge.nil _ }; { exact Ge.fresh d4 h }
  have heps0 : Ept (dE p s) 0 [(p.start.toNat, [])] (fun _ => false) L1 (jP 0 sv1) := by have h := heps; rw [show jP 0 (fun _ => 0) = fun _ => false from by funext j; simp [jP]] at h; exact h
  have hpt1 : Apart (some bP) tob1 := by rcases hto1 with h | h; { subst h; exact Apart.nil _ }; { exact Apart.fresh (Lt.blk d5) h }
  refine wnn (aI (csr (wan (bJ ?_)))); refine dA (α := SG) (⟨0, sv1, L1, tr1, ta1, tn1, tc1, tob1⟩) (fun x => [(7, .int .i64 (x.a : Nat))]) [(1, _), (2, _), (6, _)] (fun x wr => Evo [] w wr ∧ (x.a ≤ s.size ∧ wr.heap[bP]? = some (.cells #[.slice a3 p.insts.length c3, iv p.start, iv p.groups, .slice a4 p.names.length c4] 43 (0, 0)) ∧ wr.heap[bm]? = some (.cells #[.slice a3 p.insts.length c3, iv p.start, iv p.groups, .slice a4 p.names.length c4, .string s, .slice (some ⟨sb, 0, none⟩) p.insts.length p.insts.length, .slice x.ta x.tn x.tc] 73 (0, 0)) ∧ OwnS wr 3 1 (some ⟨sb, 0, none⟩) p.insts.length p.insts.length (svc p.insts.length x.sv) (some sb) ∧ OwnS wr 76 2 x.ta x.tn x.tc x.tr.flatten x.tob ∧ RowsOk 2 RTh (bm :: sb :: x.tob.toList) wr x.tr x.ls ∧ (∀ j, x.sv j ≤ x.a + 1) ∧ (∀ d, d ∈ x.ls → (dE p s x.a d.1).leaf = true) ∧ x.tn ≤ p.insts.length ∧ (∀ r W', PkL p s x.a x.ls r W' → ∃ W2, Pk (dE p s) (gF s) s.size 0 [(p.start.toNat, [])] WZ r W2) ∧ Apart (some bP) x.tob ∧ Apart (some bm) x.tob ∧ Apart (some sb) x.tob ∧ Ge w x.tob)) (fun x => s.size + 1 - x.a) ⟨rfl, trivial⟩ ⟨rfl, rfl, rfl, trivial⟩ ⟨(d4.step g6 (ge3 hgm hgs (Ge.nil _))), ⟨Nat.zero_le _, (g6.blk d5 (nmk hpm hps (Apart.nil _))), j9, hSe1, hTh1, hTr1, hsv1, fun d hd => FY heps d hd, (show tn1 ≤ p.insts.length by omega), fun r W' h => AH heps0 h, hpt1, hmt1, hst1, hgt1⟩⟩ ?_; rintro ⟨a, sv, ls, tr, ta, tn, tc, tob⟩ wr38 ⟨b7, ⟨ha, hP, hM, hSe, hTh, hTr, hsv, hlf, htn, hPk, hpt, hmt, hst, hgt⟩⟩; show CW _ _ _ _ [(7, .int .i64 (a : Nat)), (1, _), (2, _), (6, _)] _
  try dsimp only at ha hP hM hSe hTh hTr hsv hlf htn hPk hpt hmt hst hgt
  have g7 := Evo.refl ((bm :: sb :: tob.toList)) wr38; have hll := RA hTh hTr; have hlt : ∀ d, d ∈ ls → d.1 < p.insts.length := fun d hd => leaf_lt (hlf d hd); have hnw := next_w s a; refine aI (csr (aB (aA (aF rfl) (wfl rfl jK rfl pK hM rfl (aA (aZ rfl Try.underlying71 rfl) ?_))))); refine aA (fE rfl rfl) ?_; refine wnn (aW rfl (fun i5 => ?_) (fun i5 => ?_))
  ·refine aM (aC (bJ (UY (aI (csr (aB (aB (aA (bR rfl Try.underlying9 rfl) ?_)))))))); refine wel ?_; refine wnn (aW rfl (fun i6 => ?_) (fun i6 => ?_))
   ·refine aI (csr (aB (aA (aF rfl) (wfl rfl jK rfl pK hM rfl (aA (aZ rfl Try.underlying71 rfl) ?_))))); refine aB (wnn (bJ ?_)); refine dA (α := Nat) (0) (fun k => [(46, .int .i64 (k : Nat))]) [(1, _), (2, _), (6, _), (7, _), (44, _), (45, _)] (fun k wr => Evo [] wr38 wr ∧ (k ≤ tn ∧ ∀ j (hj : j < ls.length), j < k → ∀ hi : ls[j].1 < p.insts.length, ¬ p.insts[ls[j].1].op = 1)) (fun k => tn - k) ⟨rfl, trivial⟩ ⟨rfl, rfl, rfl, rfl, rfl, rfl, trivial⟩ ⟨Evo.refl _ _, ⟨Nat.zero_le _, fun j _ h => by omega⟩⟩ ?_; rintro k wr41 ⟨V, ⟨hk, hno⟩⟩; show CW _ _ _ _ [(46, _), (1, _), (2, _), (6, _), (7, _), (44, _), (45, _)] _; have d6 := b7.then V; have i7 := hTh.evo0 V; refine csr (aA (cU rfl rfl) ?_); refine wnn (aI (aW rfl (fun i8 => ?_) (fun i8 => ?_)))
    ·refine aM (aC (aI (bJ (csr ?_))))
     have hk' : k < ls.length := by omega
     have hi := hlt ls[k] (List.getElem_mem _); have hTrk := dG hTr (g7.then V) (fun y hy => .inl hy); obtain ⟨gt, q, egt, eta, hck, hnk0⟩ := RD i7 hTrk hk'; have hnk := hnk0; obtain ⟨bI, oI, vs1, ha1, hx1, -, g8, hr1⟩ := e3 ls[k].1 hi
     refine aA (cG (n := k) (by rw [eta]; rfl) rfl tO (by omega)) ?_
     refine aA (cY rfl pJ iP (vs := [iv ls[k].1, .pointer q]) rfl hck) ?_; refine cL rfl yO fun l5 l6 i9 b8 b9 => ?_; refine aV rfl rfl iP i9 rfl rfl ⟨by first | rfl | assumption, by first | rfl | assumption, trivial⟩ fun l7 d7 c0 => ?_; have g9 := (d6.then b9).step c0 (Ge.new d6 b8).mem1
     try simp only [cH, Nat.reduceAdd] at d7
     refine wnn (csr (aA (aD rfl oJ) (aA (aS rfl sM (aY (c0.blk (b9.blk0 (V.blk0 hP)) (Apart.new (Lt.blk (V.blk0 hP)) b8).nmem1) rfl)) (wfl rfl mE rfl aT d7 rfl ?_))))
     refine aA (cG (n := ls[k].1) (by rw [ha1]; rfl) rfl tP hi) ?_
     refine aA (aD rfl oH) ?_; obtain ⟨hi1, rv1, hvs1, hr2⟩ := hr1; subst hvs1; refine aA (aS rfl aT ((g8.evo g9 (by simp)) 0 _ rfl)) ?_; refine wel ?_; refine wnn (aW rfl (fun d8 => ?_) (fun d8 => ?_))
     ·refine csr (wfl rfl kL rfl kP d7 rfl (bX (wan (aH (aN (aE (aE (aN (aE (aE (uN (aN (aE (aN (aE (cJ rfl rfl rfl ?_)))))))))))))))); obtain ⟨W3, h3⟩ := hPk (some ls[k].2) WZ (.inl ⟨by omega, (FO hk' hlt (fun j hj hjk => hno j hj hjk) (fun _ => d8)).symm⟩); exact ⟨_, true, some ls[k].2, W3, rfl, h3, .inr ⟨_, rfl, rfl, hnk.step (((Evo.refl (bm :: sb :: tob.toList) wr41).then b9).step c0 (Ge.new (Evo.refl (bm :: sb :: tob.toList) wr41) b8).mem1) (fun y hy => by cases hy)⟩, g9⟩
     refine aM (aP (aC (aG ?_))); refine aA (aK rfl rfl (by omega) (by omega)) ?_; refine aB (aQ (bA ?_)); refine ⟨k + 1, ?_, ⟨rfl, trivial⟩, ⟨rfl, rfl, rfl, rfl, rfl, rfl, trivial⟩, ((V.then b9).step c0 (Ge.new V b8).mem1), ?_⟩
     · omega
     refine ⟨by omega, fun j hj hjk => ?_⟩
     by_cases e : j < k
     · exact hno j hj e
     · obtain rfl : j = k := by omega
       exact fun _ => d8
    refine cN (bL (bL (cM (aC ?_)))); refine csr (bX (wan (aH (aE (uN (aN (aE (aN (aE (cJ rfl rfl rfl ?_)))))))))); obtain ⟨W3, h3⟩ := hPk none WZ (.inl ⟨by omega, (PC hlt (fun j hj => hno j hj (by omega))).symm⟩); exact ⟨_, false, none, W3, rfl, h3, .inl ⟨rfl, rfl⟩, d6⟩
   refine aM (aC (csr (aB (aB ?_)))); refine aL (vs := [_, _]) kK rfl (oA s a ha (by omega)) rfl ?_; rintro _ l8 ⟨rfl, U⟩; refine aB (aA (bN rfl rfl) ?_); refine aA (bN rfl rfl) ?_; refine bX (wan (aI (csr (aB (wel ?_))))); refine wnn (aW rfl (fun j0 => ?_) (fun j0 => ?_))
   ·refine csr (bX (wan (aH (aE (uN (aN (aE (aN (aE (cJ rfl rfl rfl ?_)))))))))); obtain ⟨W3, h3⟩ := hPk none WZ (.inr (.inl ⟨by omega, TB (by omega), rfl⟩)); exact ⟨_, false, none, W3, rfl, h3, .inl ⟨rfl, rfl⟩, (b7.then U)⟩
   refine aM (aC (csr (aB (aB ?_)))); refine aA (aK rfl rfl (by omega) (by omega)) ?_; rw [show ((a : Nat) : Int) + (((bH s a).2 : Nat) : Int) = ((a + (bH s a).2 : Nat) : Int) from by omega]; refine wan (csr (aB (aA (aF rfl) (wfl rfl jK rfl pK (U.blk0 hM) rfl (wan (csr (aB (aA (aF rfl) (aA (aD rfl jK) ?_))))))))); refine bB rfl rfl (by first | rfl | assumption) tG (U.blk0 hM) rfl fun l9 h0 b4 => ?_
   have j1 := (g7.then U).step b4 (fun y hy => .inl (by simp at hy; simp [hy]))
   try simp only [cH, Nat.reduceAdd] at h0
   refine wnn (aI (UZ (aC ?_))); refine csr (aB (aA (aZ rfl Try.underlying71 rfl) ?_)); refine aB (wnn (bJ ?_))
   refine dA (α := SH) (⟨0, sv, [], [], none, 0, 0, none⟩) (fun x => [(81, .int .i64 (x.k : Nat))]) [(1, _), (2, _), (6, _), (7, _), (10, _), (79, _), (80, _)] (fun x wr => Evo [] w wr ∧ (x.k ≤ tn ∧ wr.heap[bP]? = some (.cells #[.slice a3 p.insts.length c3, iv p.start, iv p.groups, .slice a4 p.names.length c4] 43 (0, 0)) ∧ wr.heap[bm]? = some (.cells #[.slice a3 p.insts.length c3, iv p.start, iv p.groups, .slice a4 p.names.length c4, .string s, .slice (some ⟨sb, 0, none⟩) p.insts.length p.insts.length, .slice x.ua x.un x.uc] 73 (0, 0)) ∧ OwnS wr 3 1 (some ⟨sb, 0, none⟩) p.insts.length p.insts.length (svc p.insts.length x.sw) (some sb) ∧ OwnS wr 76 2 x.ua x.un x.uc x.ur.flatten x.uob ∧ RowsOk 2 RTh (bm :: sb :: x.uob.toList) wr x.ur x.ms ∧ OwnS wr 76 2 ta tn tc tr.flatten tob ∧ RowsOk 2 RTh (bm :: sb :: x.uob.toList) wr tr ls ∧ (∀ j, x.sw j ≤ a + (bH s a).2 + 1) ∧ x.un + us p.insts.length (a + (bH s a).2) x.sw ≤ p.insts.length ∧ Ept (dE p s) (a + (bH s a).2) (iG (dE p s) a (ls.take x.k)) (jP (a + (bH s a).2) sv) x.ms (jP (a + (bH s a).2) x.sw) ∧ Apart (some bP) x.uob ∧ Apart (some bm) x.uob ∧ Apart (some sb) x.uob ∧ Apart tob x.uob ∧ Ge w x.uob)) (fun x => tn - x.k) ⟨rfl, trivial⟩ ⟨rfl, rfl, rfl, rfl, rfl, rfl, rfl, trivial⟩ ⟨((b7.then U).step b4 hgm.mem1), ⟨Nat.zero_le _, (b4.blk (U.blk0 hP) hpm.nmem1), h0, ((hSe.evo0 U).evo b4 hms.symm.own1), OwnS.nil _ _ _, RowsOk.nil _ _ _ _, ((hTh.evo0 U).evo b4 hmt.symm.own1), dG hTr j1 (fun y hy => .inl (in_none y hy)), fun j => Nat.le_trans (hsv j) (by omega), (show 0 + us p.insts.length (a + (bH s a).2) sv ≤ _ by have := QG p.insts.length (a + (bH s a).2) sv; omega), .nil, Apart.nil _, Apart.nil _, Apart.nil _, Apart.nil _, Ge.nil _⟩⟩ ?_
   rintro ⟨k, sw, ms, ur, ua, un, uc, uob⟩ wr97 ⟨d9, ⟨hk, hP, hM, hSe, hU, hUr, hTh, hTr, hsw, hun, hep, hpu, hmu, hsu, htu, hgu⟩⟩; show CW _ _ _ _ [(81, .int .i64 (k : Nat)), (1, _), (2, _), (6, _), (7, _), (10, _), (79, _), (80, _)] _
   try dsimp only at hk hP hM hSe hU hUr hTh hTr hsw hun hep hpu hmu hsu htu hgu
   have e0 := Evo.refl ((bm :: sb :: uob.toList)) wr97; refine csr (aA (cU rfl rfl) ?_); refine wnn (aI (aW rfl (fun j2 => ?_) (fun j2 => ?_)))
   ·refine aM (aC (aI (bJ (csr ?_))))
    have hk' : k < ls.length := by omega
    have hi := hlt ls[k] (List.getElem_mem _); have hTrk := dG hTr e0 (fun y hy => .inl hy); obtain ⟨gt, q, egt, eta, hck, hnk0⟩ := RD hTh hTrk hk'; have hnk := hnk0; obtain ⟨bI, oI, vs1, ha1, hx1, -, g8, hr1⟩ := e3 ls[k].1 hi
    refine aA (cG (n := k) (by rw [eta]; rfl) rfl tO (by omega)) ?_
    refine aA (cY rfl pJ iP (vs := [iv ls[k].1, .pointer q]) rfl hck) ?_; refine cL rfl yO fun k3 k4 h4 L M => ?_; refine aV rfl rfl iP h4 rfl rfl ⟨by first | rfl | assumption, by first | rfl | assumption, trivial⟩ fun k5 a1 O => ?_; have c1 := (d9.then M).step O (Ge.new d9 L).mem1; have e1 := (e0.then M).step O (Ge.new e0 L).mem1; have e2 := ((Evo.refl (bm :: sb :: uob.toList) wr97).then M).step O (Ge.new (Evo.refl (bm :: sb :: uob.toList) wr97) L).mem1; have c2 := O.blk (M.blk0 hP) (Apart.new (Lt.blk hP) L).nmem1; have e5 := O.blk (M.blk0 hM) (Apart.new (Lt.blk hM) L).nmem1; have e6 := (hSe.evo0 M).evo O (Apart.new (Lt.own hSe) L).own1; have e7 := (hTh.evo0 M).evo O (Apart.new (Lt.own hTh) L).own1; have e8 := (hU.evo0 M).evo O (Apart.new (Lt.own hU) L).own1
    try simp only [cH, Nat.reduceAdd] at a1
    refine wnn (csr (wfl rfl oJ rfl sM c2 rfl (wfl rfl mE rfl aT a1 rfl ?_)))
    refine aA (cG (n := ls[k].1) (by rw [ha1]; rfl) rfl tP hi) ?_
    obtain ⟨hi1, rv1, hvs1, hr2⟩ := hr1; subst hvs1; have hcc := g8; have hsi := hsp.2 ls[k].1 hi hi; obtain ⟨n1, n2, n3, n4, n5, n6, n7, n8, n9, n10⟩ := hsi.1; obtain ⟨ci, hci⟩ : ∃ c, c = p.insts[ls[k].1] := ⟨_, rfl⟩; rw [← hci] at hi1 hr2 n1 n2 n3 n4 n5 n6 n7 n8 n9 n10 hcc; have hcl := hi1.len; obtain ⟨aR, cR, rfl, hlR, eR⟩ := hr2; refine aA (cY rfl sL lP (vs := [_, _, _, _, _]) rfl (hcc.evo c1 (by simp))) ?_; refine cL rfl yP fun k6 k7 h5 H I => ?_; refine aV rfl rfl lP h5 rfl rfl ⟨by first | rfl | assumption, by first | rfl | assumption, by first | rfl | assumption, by first | rfl | assumption, by first | rfl | assumption, trivial⟩ fun j3 a0 J => ?_; have e9 := (c1.then I).step J (Ge.new c1 H).mem1; have c5 := (e1.then I).step J (Ge.new e1 H).mem1; have f0 := J.blk (I.blk0 c2) (Apart.new (Lt.blk c2) H).nmem1; have f5 := J.blk (I.blk0 e5) (Apart.new (Lt.blk e5) H).nmem1; have f6 := (e6.evo0 I).evo J (Apart.new (Lt.own e6) H).own1; have f7 := (e7.evo0 I).evo J (Apart.new (Lt.own e7) H).own1; have f8 := (e8.evo0 I).evo J (Apart.new (Lt.own e8) H).own1
    try simp only [cH, Nat.reduceAdd] at a0
    refine wnn (aI (csr (wfl rfl oH rfl aT a0 rfl (aA (gE rfl rfl) ?_)))); refine wnn (aW rfl (fun h1 => ?_) (fun h1 => ?_))
    ·refine cN (bL (cM (aC ?_))); refine aG ?_; refine aA (aK rfl rfl (by omega) (by omega)) ?_; refine aB (aQ (bA ?_)); refine ⟨⟨k + 1, sw, ms, ur, ua, un, uc, uob⟩, ?_, ⟨rfl, trivial⟩, ⟨rfl, rfl, rfl, rfl, rfl, rfl, rfl, trivial⟩, e9, ?_⟩
     · (try dsimp only); omega
     try dsimp only
     have hTr3 := dG hTr c5 (fun y hy => .inl hy); have hUr3 := dG hUr c5 (fun y hy => .inl hy)
     refine ⟨by omega, f0, f5, f6, f8, hUr3, f7, hTr3, hsw, hun, by rw [tA hk', xN hi (fun h => h1 (by rw [hci]; exact h.1)), List.append_nil]; exact hep, hpu, hmu, hsu, htu, hgu⟩
    refine aM (aC (csr (wfl rfl GZ rfl pL a0 rfl (aA (aZ rfl Try.underlying34 rfl) ?_)))); refine aB (wnn (bJ ?_)); refine dA (α := Nat) (0) (fun j => [(97, .int .i64 (j : Nat))]) [(1, _), (2, _), (6, _), (7, _), (10, _), (14, _), (15, _), (79, _), (80, _), (81, _), (95, _), (96, _)] (fun j wr => Evo [] j3 wr ∧ (j ≤ ci.rs.length ∧ ∀ i (h : i < ci.rs.length), i < j → ¬ (ci.rs[i].1 ≤ (bH s a).1 ∧ (bH s a).1 ≤ ci.rs[i].2))) (fun j => ci.rs.length - j) ⟨rfl, trivial⟩ ⟨rfl, rfl, rfl, rfl, rfl, rfl, rfl, rfl, rfl, rfl, rfl, rfl, trivial⟩ ⟨Evo.refl _ _, ⟨Nat.zero_le _, fun i _ h => by omega⟩⟩ ?_; rintro j wr167 ⟨A, ⟨hj, hnr⟩⟩; show CW _ _ _ _ [(97, _), (1, _), (2, _), (6, _), (7, _), (10, _), (14, _), (15, _), (79, _), (80, _), (81, _), (95, _), (96, _)] _; have a2 := e9.then A; have a5 := c5.then A; have f9 := ((e2.then I).step J (Ge.new e2 H).mem1).then A; have c6 := A.blk0 f0; have c7 := A.blk0 f5; have c8 := f6.evo0 A; have c9 := f7.evo0 A; have d0 := f8.evo0 A; have g0 := A.blk0 (J.blk (I.blk0 a1) (Apart.new (Lt.blk a1) H).nmem1); refine csr (aA (cU rfl rfl) ?_); refine wnn (aI (aW rfl (fun j4 => ?_) (fun j4 => ?_)))
    ·refine aM (aC (aI (bJ (csr ?_))))
     have hj' : j < ci.rs.length := by omega
     obtain ⟨b3, o3, vs3, ha3, -, -, k0, hr3⟩ := eR j hj'; cases hr3
     refine aA (cG (n := j) (by rw [ha3]; rfl) rfl fI hj') ?_
     refine aA (cY rfl lS fY (vs := [_, _]) rfl (k0.evo a2 (by simp))) ?_; refine cL rfl nQ fun k8 k9 h6 B D => ?_; refine aV rfl rfl fY h6 rfl rfl ⟨by first | rfl | assumption, by first | rfl | assumption, trivial⟩ fun l0 d1 F => ?_; have d2 := (a2.then D).step F (Ge.new a2 B).mem1; have d3 := (a5.then D).step F (Ge.new a5 B).mem1; have g1 := (A.then D).step F (Ge.new A B).mem1; have g2 := F.blk (D.blk0 c6) (Apart.new (Lt.blk c6) B).nmem1; have g3 := (c9.evo0 D).evo F (Apart.new (Lt.own c9) B).own1
     try simp only [cH, Nat.reduceAdd] at d1
     refine wnn (csr (wfl rfl fU rfl cO d1 rfl (aB (aA (eW rfl rfl) ?_)))); refine aB (bC (t := 105) rfl (fun h7 => ?_) (fun h7 => ?_))
     ·refine aO (aB (aO (aA (aD rfl eT) (aO (aA (aS rfl cO (aY d1 rfl)) (aO (aA (eW rfl rfl) ?_))))))); refine bQ (wnn (aW rfl (fun h8 => ?_) (fun h8 => ?_)))
      ·have hopc : ci.op = 2 := by omega
       have hop2 : p.insts[ls[k].1].op = 2 := by rw [← hci]; exact hopc
       have hout : 0 ≤ ci.out ∧ ci.out < p.insts.length := n4 (by omega)
       have hins : lU (bH s a).1 p.insts[ls[k].1].rs := by rw [← hci]; exact ⟨ci.rs[j], List.getElem_mem _, by omega, by omega⟩
       refine csr (aB (aA (aD rfl gX) (aA (aS rfl aT (aY (F.blk (D.blk0 (A.blk0 a0)) (Apart.new (Lt.blk (A.blk0 a0)) B).nmem1) rfl)) ?_))); rw [show (Value.int .i64 ci.out) = iv ((ci.out.toNat : Nat) : Int) from by rw [Int.toNat_of_nonneg hout.1]]; refine wfl rfl kL rfl kP (F.blk (D.blk0 g0) (Apart.new (Lt.blk g0) B).nmem1) rfl (aA (cC (vs := [(0, _), (1, _)]) kO rfl (cells := [_, _]) rfl) ?_); refine aB ?_; refine aL (vs := [_, _, _]) zE rfl (AZ (tob0 := uob) (tr0 := ur) (L0 := ms) (a := a + (bH s a).2) (i0 := ci.out.toNat) (t0 := ls[k].2) (sv0 := sw) (nv0 := .pointer q) (i3 uob hgu d2) hsp (F.blk (D.blk0 c7) (Apart.new (Lt.blk c7) B).nmem1) ((c8.evo0 D).evo F (Apart.new (Lt.own c8) B).own1) ((d0.evo0 D).evo F (Apart.new (Lt.own d0) B).own1) (dG hUr d3 (fun y hy => .inl hy)) (hnk.step ((f9.then D).step F (Ge.new f9 B).mem1) (fun y hy => .inl hy)) (by omega) (by omega) hs hsw hun hms hmu hsu) rfl ?_; rintro _ l1 ⟨sw2, ua2, un2, uc2, ur2, uob2, L2, rfl, heps2, k1, hSe2, k2, hUr2, hsw2, hun2, hmu2, hsu2, huo2, a6⟩; have hpre2 := d3
       have hgu2 : Ge w uob2 := by rcases huo2 with h | h; { subst h; exact hgu }; { exact Ge.fresh d2 h }
       have hpu2 : Apart (some bP) uob2 := by rcases huo2 with h | h; { subst h; exact hpu }; { exact Apart.fresh (Lt.blk g2) h }
       have htu2 : Apart tob uob2 := by rcases huo2 with h | h; { subst h; exact htu }; { exact Apart.fresh (Lt.own g3) h }
       have h9 := d3.step a6 (fun y hy => .inl hy); refine wnn (cN (sF rfl (bL (bL (sF rfl (cM (aC ?_))))))); refine aG ?_; refine aA (aK rfl rfl (by omega) (by omega)) ?_; refine aB (aQ (bA ?_)); refine ⟨⟨k + 1, sw2, ms ++ L2, ur2, ua2, un2, uc2, uob2⟩, ?_, ⟨rfl, trivial⟩, ⟨rfl, rfl, rfl, rfl, rfl, rfl, rfl, trivial⟩, (d2.step a6 (ge3 hgm hgs hgu)), ?_⟩
       · (try dsimp only); omega
       try dsimp only
       have hxx := in3 (X := bm :: sb :: uob.toList) (bm := bm) (sb := sb) (t := uob) (t' := uob2) hpre2 (by simp) (by simp) (fun y hy => List.mem_cons_of_mem _ (List.mem_cons_of_mem _ hy)) huo2; have hTr3 := dG hTr h9 hxx
       refine ⟨by omega, (a6.blk g2 (nmk hpm hps hpu)), k1, hSe2, k2, hUr2, (g3.evo a6 (nmo hmt.symm hst.symm htu)), hTr3, hsw2, hun2, by rw [tA hk', IM hi hop2 hins, ← hci]; exact hep.app heps2, hpu2, hmu2, hsu2, htu2, hgu2⟩
      refine aM (aP (aC (aG ?_))); refine aA (aK rfl rfl (by omega) (by omega)) ?_; refine aB (aQ (bA ?_)); refine ⟨j + 1, ?_, ⟨rfl, trivial⟩, ⟨rfl, rfl, rfl, rfl, rfl, rfl, rfl, rfl, rfl, rfl, rfl, rfl, trivial⟩, g1, ?_⟩
      · omega
      refine ⟨by omega, fun i hi2 hik => ?_⟩
      by_cases e : i < j
      · exact hnr i hi2 e
      · obtain rfl : i = j := by omega
        omega
     refine aJ (aJ (aJ (aJ (bK (wnn (cK rfl ?_)))))); refine aM (aP (aC (aG ?_))); refine aA (aK rfl rfl (by omega) (by omega)) ?_; refine aB (aQ (bA ?_)); refine ⟨j + 1, ?_, ⟨rfl, trivial⟩, ⟨rfl, rfl, rfl, rfl, rfl, rfl, rfl, rfl, rfl, rfl, rfl, rfl, trivial⟩, g1, ?_⟩
     · omega
     refine ⟨by omega, fun i hi2 hik => ?_⟩
     by_cases e : i < j
     · exact hnr i hi2 e
     · obtain rfl : i = j := by omega
       omega
    refine cN (bL (bL (cM (aP (aC ?_))))); refine aG ?_; refine aA (aK rfl rfl (by omega) (by omega)) ?_; refine aB (aQ (bA ?_)); refine ⟨⟨k + 1, sw, ms, ur, ua, un, uc, uob⟩, ?_, ⟨rfl, trivial⟩, ⟨rfl, rfl, rfl, rfl, rfl, rfl, rfl, trivial⟩, a2, ?_⟩
    · (try dsimp only); omega
    try dsimp only
    have hTr3 := dG hTr a5 (fun y hy => .inl hy); have hUr3 := dG hUr a5 (fun y hy => .inl hy)
    refine ⟨by omega, c6, c7, c8, d0, hUr3, c9, hTr3, hsw, hun, by rw [tA hk', xN hi (fun h => by rw [← hci] at h; obtain ⟨d, hd, h2⟩ := h.2; obtain ⟨j, hj, rfl⟩ := List.getElem_of_mem hd; exact hnr j hj (by omega) h2), List.append_nil]; exact hep, hpu, hmu, hsu, htu, hgu⟩
   refine cN (bL (bL (cM (OM (aP (bA ?_)))))); refine ⟨⟨a + (bH s a).2, sw, ms, ur, ua, un, uc, uob⟩, ?_, ⟨rfl, trivial⟩, ⟨rfl, rfl, rfl, trivial⟩, d9, ?_⟩
   · (try dsimp only); omega
   try dsimp only
   have hkn : k = ls.length := by omega
   have hep2 : Ept (dE p s) (a + (bH s a).2) (iG (dE p s) a ls) (fun _ => false) ms (jP (a + (bH s a).2) sw) := by have h := hep; rw [hkn, List.take_length, NX hsv (by omega)] at h; exact h
   refine ⟨by omega, hP, hM, hSe, hU, hUr, hsw, fun d hd => FY hep2 d hd, by omega, fun r W' h => ?_, hpu, hmu, hsu, hgu⟩; obtain ⟨W3, h3⟩ := AH hep2 h; exact hPk r W3 (.inr (.inr ⟨by omega, _, tZ (by omega), h3⟩))
  refine cN (bL (bL (cM (aC ?_)))); refine csr (bX (wan (aH (cJ rfl rfl rfl ?_)))); have hz : ls = [] := List.eq_nil_of_length_eq_zero (by omega); subst hz; obtain ⟨W2, h2⟩ := pkL_nil p s a; obtain ⟨W3, h3⟩ := hPk none W2 h2; exact ⟨_, false, none, W3, rfl, h3, .inl ⟨rfl, rfl⟩, b7⟩
end Go.Proofs.Ytidpigbinpaaeaa
namespace Go.Proofs.Ytidpigbinpaaeaa
def Mov.to : Mov → Nat → Prop
  | .go o, q => q = o
  | .split o a, q => q = o ∨ q = a
  | .save _ o, q => q = o
  | _, _ => False
theorem Mov.to_leaf {m : Mov} (h : m.leaf = true) {q : Nat} : ¬ m.to q := by
  cases m <;> simp [Mov.leaf] at h <;> exact id
section
variable (mv : Nat → Nat → Mov) (nxt : Nat → Option Nat) (len : Nat)
inductive Fn : Nat → Nat → Prop
  | mat {a i : Nat} (ha : a = len) (h : mv a i = .mat) : Fn a i
  | rune {a b i o : Nat} (ha : a ≠ len) (h : mv a i = .rune (some o)) (hn : nxt a = some b) (k : Fn b o) : Fn a i
  | eps {a i o : Nat} (h : (mv a i).to o) (k : Fn a o) : Fn a i
inductive EpsR (a : Nat) : Nat → Nat → Prop
  | refl {i : Nat} : EpsR a i i
  | step {i o j : Nat} (h : (mv a i).to o) (k : EpsR a o j) : EpsR a i j
structure EpsI (a : Nat) (st L : List Th) (V V' : Vis) : Prop where
  up : ∀ i, V i = true → V' i = true
  top : ∀ x, x ∈ st → V' x.1 = true
  cl : ∀ i, V' i = true → V i = true ∨ (((mv a i).leaf = true → ∃ t, (i, t) ∈ L) ∧ ∀ o, (mv a i).to o → V' o = true)
  fr : ∀ x, x ∈ L → (mv a x.1).leaf = true ∧ ∃ y, y ∈ st ∧ EpsR mv a y.1 x.1
end
variable {mv : Nat → Nat → Mov} {nxt : Nat → Option Nat} {len : Nat}
theorem VT {V : Vis} {i j : Nat} (h : V.add i j = true) : j = i ∨ V j = true := by
  unfold Vis.add at h
  split at h
  · exact .inl (by assumption)
  · exact .inr h
theorem VS {V : Vis} {i j : Nat} (h : V j = true) : V.add i j = true := by
  unfold Vis.add
  split
  · rfl
  · exact h
theorem GQ {V : Vis} {i : Nat} : V.add i i = true := by unfold Vis.add; rw [if_pos rfl]
theorem EpsI.cons {a i : Nat} {t : dS} {st st' L : List Th} {V V' : Vis} (h : EpsI mv a (st' ++ st) L (V.add i) V') (hl : (mv a i).leaf = false) (hto : ∀ o, (mv a i).to o ↔ ∃ x, x ∈ st' ∧ x.1 = o) : EpsI mv a ((i, t) :: st) L V V' := by
  refine ⟨fun j hj => h.up j (VS hj), fun x hx => ?_, fun j hj => ?_, fun x hx => ?_⟩
  · rcases List.mem_cons.1 hx with rfl | hx
    · exact h.up _ GQ
    · exact h.top x (List.mem_append_right _ hx)
  · rcases h.cl j hj with h1 | h1
    · rcases VT h1 with rfl | h2
      · refine .inr ⟨fun h3 => ?_, fun o ho => ?_⟩
        · rw [hl] at h3; cases h3
        · obtain ⟨x, hx, rfl⟩ := (hto o).1 ho
          exact h.top x (List.mem_append_left _ hx)
      · exact .inl h2
    · exact .inr h1
  · obtain ⟨h1, y, hy, h2⟩ := h.fr x hx
    refine ⟨h1, ?_⟩
    rcases List.mem_append.1 hy with hy | hy
    · exact ⟨_, List.mem_cons_self .., .step ((hto y.1).2 ⟨y, hy, rfl⟩) h2⟩
    · exact ⟨y, List.mem_cons_of_mem _ hy, h2⟩
theorem UV {a : Nat} {st L : List Th} {V V' : Vis} (h : Ept mv a st V L V') : EpsI mv a st L V V' := by
  induction h with
  | nil => exact ⟨fun _ h => h, fun _ h => (by cases h), fun _ h => .inl h, fun _ h => by cases h⟩
  | @seen i t st V L V' h _ ih =>
    refine ⟨ih.up, fun x hx => ?_, ih.cl, fun x hx => ?_⟩
    · rcases List.mem_cons.1 hx with rfl | hx
      · exact ih.up _ h
      · exact ih.top x hx
    · obtain ⟨h1, y, hy, h2⟩ := ih.fr x hx
      exact ⟨h1, y, List.mem_cons_of_mem _ hy, h2⟩
  | @leaf i t st V L V' h hl _ ih =>
    refine ⟨fun j hj => ih.up j (VS hj), fun x hx => ?_, fun j hj => ?_, fun x hx => ?_⟩
    · rcases List.mem_cons.1 hx with rfl | hx
      · exact ih.up _ GQ
      · exact ih.top x hx
    · rcases ih.cl j hj with h1 | h1
      · rcases VT h1 with rfl | h2
        · exact .inr ⟨fun _ => ⟨t, List.mem_cons_self ..⟩, fun o ho => (Mov.to_leaf hl ho).elim⟩
        · exact .inl h2
      · exact .inr ⟨fun h2 => by obtain ⟨t', h3⟩ := h1.1 h2; exact ⟨t', List.mem_cons_of_mem _ h3⟩, h1.2⟩
    · rcases List.mem_cons.1 hx with rfl | hx
      · exact ⟨hl, _, List.mem_cons_self .., .refl⟩
      · obtain ⟨h1, y, hy, h2⟩ := ih.fr x hx
        exact ⟨h1, y, List.mem_cons_of_mem _ hy, h2⟩
  | @go i t st V L V' o h hm _ ih => exact EpsI.cons (st' := [(o, t)]) ih (by rw [hm]; rfl) (fun q => by rw [hm]; simp [Mov.to, eq_comm])
  | @split i t st V L V' o b h hm _ ih => exact EpsI.cons (st' := [(o, t), (b, t)]) ih (by rw [hm]; rfl) (fun q => by rw [hm]; simp [Mov.to, eq_comm])
  | @save i t st V L V' k o h hm _ ih => exact EpsI.cons (st' := [(o, _)]) ih (by rw [hm]; rfl) (fun q => by rw [hm]; simp [Mov.to, eq_comm])
  | @dead i t st V L V' h hm _ ih => exact EpsI.cons (st' := []) ih (by rw [hm]; rfl) (fun q => by rw [hm]; simp [Mov.to])
theorem EpsR.fn {a i j : Nat} (h : EpsR mv a i j) (k : Fn mv nxt len a j) : Fn mv nxt len a i := by
  induction h with
  | refl => exact k
  | step h _ ih => exact .eps h (ih k)
theorem UE {a i : Nat} {st L : List Th} {V V' : Vis} (hI : EpsI mv a st L V V') (hV : ∀ i, V i = false) (h : Fn mv nxt len a i) : V' i = true → ∃ x, x ∈ L ∧ ((a = len ∧ mv a x.1 = .mat) ∨ (a ≠ len ∧ ∃ o b, mv a x.1 = .rune (some o) ∧ nxt a = some b ∧ Fn mv nxt len b o)) := by
  intro hi
  induction h with
  | @mat a i ha h =>
    rcases hI.cl i hi with h1 | h1
    · rw [hV] at h1; cases h1
    · obtain ⟨t, ht⟩ := h1.1 (by rw [h]; rfl)
      exact ⟨_, ht, .inl ⟨ha, h⟩⟩
  | @rune a b i o ha h hn k _ =>
    rcases hI.cl i hi with h1 | h1
    · rw [hV] at h1; cases h1
    · obtain ⟨t, ht⟩ := h1.1 (by rw [h]; rfl)
      exact ⟨_, ht, .inr ⟨ha, o, b, h, hn, k⟩⟩
  | @eps a i o h k ih =>
    rcases hI.cl i hi with h1 | h1
    · rw [hV] at h1; cases h1
    · exact ih hI (h1.2 o h)
theorem IW {a : Nat} {L : List Th} : (first mv a L).isSome = true ↔ ∃ x, x ∈ L ∧ mv a x.1 = .mat := by
  rw [xY, Option.isSome_map, List.find?_isSome]
  constructor
  · rintro ⟨x, hx, h⟩
    refine ⟨x, hx, ?_⟩
    cases hm : mv a x.1 <;> rw [hm] at h <;> first | rfl | cases h
  · rintro ⟨x, hx, h⟩
    exact ⟨x, hx, by rw [h]; rfl⟩
theorem AS {a : Nat} {L : List Th} {y : Th} : y ∈ iG mv a L ↔ ∃ x, x ∈ L ∧ mv a x.1 = .rune (some y.1) ∧ y.2 = x.2 := by
  unfold iG
  rw [List.mem_filterMap]
  constructor
  · rintro ⟨x, hx, h⟩
    refine ⟨x, hx, ?_⟩
    split at h
    · cases h; exact ⟨by assumption, rfl⟩
    · cases h
  · rintro ⟨x, hx, h, h2⟩
    refine ⟨x, hx, ?_⟩
    rw [h]
    simp only
    rw [← h2]
theorem pk_fn (hup : ∀ a b, nxt a = some b → a < b) {a : Nat} {E : List Th} {W W' : Wt} {r : Option dS} (h : Pk mv nxt len a E W r W') : (∀ c, a ≤ c → ∀ i, W c i = false) → (r.isSome = true ↔ ∃ x, x ∈ E ∧ Fn mv nxt len a x.1) := by
  induction h with
  | @last a E W L V' h k =>
    intro hW
    have hI := UV k
    rw [IW]
    constructor
    · rintro ⟨x, hx, hm⟩
      obtain ⟨-, y, hy, he⟩ := hI.fr x hx
      exact ⟨y, hy, he.fn (.mat h hm)⟩
    · rintro ⟨y, hy, hf⟩
      obtain ⟨x, hx, h1 | h1⟩ := UE hI (hW a (Nat.le_refl _)) hf (hI.top y hy)
      · exact ⟨x, hx, h1.2⟩
      · exact (h1.1 h).elim
  | @stop a E W L V' h hn k =>
    intro hW
    have hI := UV k
    refine ⟨fun h1 => (by cases h1), fun ⟨y, hy, hf⟩ => ?_⟩
    obtain ⟨x, hx, h1 | ⟨-, o, b, -, h2, -⟩⟩ := UE hI (hW a (Nat.le_refl _)) hf (hI.top y hy)
    · exact (h h1.1).elim
    · rw [hn] at h2; cases h2
  | @next a b E W L V' r W' h hn k p ih =>
    intro hW
    have hI := UV k
    rw [ih (fun c hc => hW c (by have := hup a b hn; omega))]
    constructor
    · rintro ⟨y, hy, hf⟩
      obtain ⟨x, hx, hm, -⟩ := AS.1 hy
      obtain ⟨-, z, hz, he⟩ := hI.fr x hx
      exact ⟨z, hz, he.fn (.rune h hm hn hf)⟩
    · rintro ⟨y, hy, hf⟩
      obtain ⟨x, hx, h1 | ⟨-, o, b', h2, h3, h4⟩⟩ := UE hI (hW a (Nat.le_refl _)) hf (hI.top y hy)
      · exact (h h1.1).elim
      · rw [hn] at h3; cases h3
        exact ⟨(o, x.2), AS.2 ⟨x, hx, h2, rfl⟩, h4⟩
end Go.Proofs.Ytidpigbinpaaeaa
namespace Go.Proofs.Ytidpigbinpaaeaa
inductive CapsB (G : Int) : Rx → Prop
  | mk {x : Rx} : (x.kind = 7 → x.cap ≤ G) → (∀ k, k ∈ x.kids → CapsB G k) → CapsB G x
def Snd (l : List In) (G : Int) (a b : Nat) : Prop := ∀ p, a ≤ p → p < b → ∃ c, l[p]? = some c ∧ mL c l.length G
variable {l : List In} {G : Int}
theorem wE (a : Nat) : Snd l G a a := fun p h1 h2 => by omega
theorem kU {a : Nat} {c : In} (h : l[a]? = some c) (hs : mL c l.length G) : Snd l G a (a + 1) := fun p h1 h2 => by
  obtain rfl : p = a := by omega
  exact ⟨c, h, hs⟩
theorem Snd.app {a m b : Nat} (h1 : Snd l G a m) (h2 : Snd l G m b) : Snd l G a b := fun p ha hb => by
  by_cases e : p < m
  · exact h1 p ha e
  · exact h2 p (by omega) hb
theorem RsUp.nil (k : Nat) : RsUp [] k := fun i h _ => by simp at h
theorem wW {op : Int} {o : Int} (h1 : 5 ≤ op ∧ op ≤ 10 ∧ op ≠ 9) (h2 : 0 ≤ o ∧ o < l.length) : mL ⟨op, o, 0, 0, []⟩ l.length G :=
  ⟨by unfold vW; simp; omega, RsUp.nil _⟩
theorem wT {o a : Int} (ha : a = 0 ∨ a = 1) (h2 : 0 ≤ o ∧ o < l.length) : mL ⟨9, o, 0, a, []⟩ l.length G :=
  ⟨by unfold vW; simp; omega, RsUp.nil _⟩
theorem qS {z : Bool} {a b : Nat} (ha : a < l.length) (hb : b < l.length) : mL (In.sp z a b) l.length G := by
  cases z <;> exact ⟨by unfold vW In.sp; simp; omega, RsUp.nil _⟩
theorem wU {a : Nat} {k : Int} (ha : a < l.length) (hk : 2 ≤ k ∧ k ≤ 2 * G + 1) : mL ⟨4, (a : Int), 0, k, []⟩ l.length G :=
  ⟨by unfold vW; simp; omega, RsUp.nil _⟩
theorem wV {a : Nat} {rs : List (Int × Int)} (ha : a < l.length) (hn : rs ≠ []) (hr : RsUp rs rs.length) : mL ⟨2, (a : Int), 0, 0, rs⟩ l.length G :=
  ⟨by have := List.length_pos_iff.2 hn; unfold vW; simp; omega, hr⟩
theorem HN : mL ⟨11, 0, 0, 0, []⟩ l.length G := ⟨by unfold vW; simp, RsUp.nil _⟩
theorem HM {k : Int} {a : Nat} (h8 : 8 ≤ k) (h13 : k ≤ 13) (ha : a + 1 < l.length) : mL (kX k a) l.length G := by
  unfold kX
  by_cases e : k = 13
  · rw [if_pos e, if_pos e]; exact wT (.inr rfl) (by omega)
  · rw [if_neg e, if_neg e]
    by_cases e9 : k = 12
    · rw [show k - 3 = 9 by omega]; exact wT (.inl rfl) (by omega)
    · exact wW (by omega) (by omega)
theorem LM {B : Nat → Nat → Prop} (hle : ∀ a b, B a b → a ≤ b) (hB : ∀ a b, B a b → b < l.length → Snd l G a b) : ∀ (r a b : Nat), Rep B r a b → a ≤ b ∧ (b < l.length → Snd l G a b)
  | 0, a, b, h => by
    obtain rfl : a = b := h
    exact ⟨Nat.le_refl _, fun _ => wE a⟩
  | r + 1, a, b, ⟨m, h1, h2⟩ => by
    obtain ⟨h3, h4⟩ := LM hle hB r m b h2
    have h5 := hle a m h1
    exact ⟨by omega, fun hb => (hB a m h1 (by omega)).app (h4 hb)⟩
theorem LZ {z : Bool} {B : Nat → Nat → Prop} {e : Nat} (he : e < l.length) (hle : ∀ a b, B a b → a ≤ b) (hB : ∀ a b, B a b → b < l.length → Snd l G a b) : ∀ (r a : Nat), Opt l z B e r a → a ≤ e ∧ Snd l G a e
  | 0, a, h => by
    obtain rfl : a = e := h
    exact ⟨Nat.le_refl _, wE a⟩
  | r + 1, a, ⟨m, h1, h2, h3⟩ => by
    obtain ⟨h4, h5⟩ := LZ he hle hB r m h3
    have h6 := hle _ _ h2
    exact ⟨by omega, ((kU h1 (qS (by omega) he)).app (hB _ _ h2 (by omega))).app h5⟩
theorem DK {ks : List Rx} (hg : ∀ k, k ∈ ks → Good k) {a b : Nat} (h : gQ l ks a b) : a ≤ b := (kA (rs := []) (fun k hk a b hb => sJ (hg k hk) a b hb) h).le
theorem blka_le {ks : List Rx} (hg : ∀ k, k ∈ ks → Good k) {a b : Nat} (h : qP l ks a b) : a ≤ b := (tF (rs := []) (fun k hk a b hb => sJ (hg k hk) a b hb) h).le
theorem uE : ∀ {ks : List Rx}, (∀ k, k ∈ ks → Good k) → (∀ k, k ∈ ks → ∀ a b, Blk l k a b → b < l.length → Snd l G a b) → ∀ {a b}, gQ l ks a b → b < l.length → Snd l G a b
  | [], _, _, a, b, h, _ => by rw [gQ] at h; subst h; exact wE a
  | x :: xs, hg, hk, a, b, h, hb => by
    rw [gQ] at h
    obtain ⟨m, h1, h2⟩ := h
    have := DK (fun k hk' => hg k (by simp [hk'])) h2
    exact (hk x (by simp) a m h1 (by omega)).app (uE (fun k hk' => hg k (by simp [hk'])) (fun k hk' => hk k (by simp [hk'])) h2 hb)
theorem GM : ∀ {ks : List Rx}, (∀ k, k ∈ ks → Good k) → (∀ k, k ∈ ks → ∀ a b, Blk l k a b → b < l.length → Snd l G a b) → ∀ {a b}, qP l ks a b → b < l.length → Snd l G a b
  | [], _, _, a, b, h, _ => by rw [qP] at h; exact h.elim
  | x :: xs, hg, hk, a, b, h, hb => by
    rw [qP] at h
    obtain ⟨h1, h2⟩ := h
    by_cases e : xs = []
    · subst e
      exact hk x (by simp) a b (h1 rfl) hb
    · obtain ⟨m, h3, h4, h5, h6⟩ := h2 e
      have hle := blka_le (fun k hk' => hg k (by simp [hk'])) h6
      have hle2 := (sJ (rs := []) (hg x (by simp)) _ _ h4).le
      exact (((kU h3 (qS (by omega) (by omega))).app (hk x (by simp) _ _ h4 (by omega))).app (kU h5 (wW (by decide) (by omega)))).app (GM (fun k hk' => hg k (by simp [hk'])) (fun k hk' => hk k (by simp [hk'])) h6 hb)
theorem blk_snd {x : Rx} (hg : Good x) : CapsB G x → ∀ a b, Blk l x a b → b < l.length → Snd l G a b := by
  induction hg with
  | @mk x hn hc hkg ih =>
    intro hC a b hb hlt
    obtain ⟨hcap, hck⟩ := hC
    have hk2 : ∀ y, y ∈ x.kids → ∀ a b, Blk l y a b → b < l.length → Snd l G a b := fun y hy => ih y hy (hck y hy)
    have k1 := hn.kind1
    have k2 := hn.kind2
    have klit := hn.lit
    have kcls := hn.cls
    obtain ⟨k, r, g, mn, mx, lz, cp, nm, ks⟩ := x
    simp only [Rx.kind, Rx.kids, Rx.min, Rx.max, Rx.cap, Rx.r, Rx.ranges] at *
    rw [Blk] at hb
    obtain ⟨b1, b2, b3, b4, b5, b6, b7, b8⟩ := hb
    by_cases e1 : k = 1
    · rw [b1 e1]; exact wE a
    by_cases e2 : k = 2
    · obtain ⟨rfl, h⟩ := b2 e2
      have h3 := klit e2
      refine kU h (wV (a := a + 1) hlt (by simp) fun i hi _ => ?_)
      simp only [List.length_cons, List.length_nil] at hi
      obtain rfl : i = 0 := by omega
      exact ⟨h3.1, Int.le_refl _, h3.2, fun h0 => by omega⟩
    by_cases e3 : k = 3
    · obtain ⟨rfl, h⟩ := b3 e3
      by_cases eg : g = []
      · rw [if_pos eg] at h; exact kU h HN
      · rw [if_neg eg] at h
        exact kU h (wV (a := a + 1) hlt eg (rsup_of (kcls e3)))
    by_cases e4 : k = 4
    · exact uE hkg hk2 (b4 e4) hlt
    by_cases e5 : k = 5
    · exact GM hkg hk2 (b5 e5) hlt
    by_cases e6 : k = 6
    · obtain ⟨m, h1, h2, h3⟩ := b6 e6
      have hle : ∀ a b, gQ l ks a b → a ≤ b := fun a b h => DK hkg h
      have hs : ∀ a b, gQ l ks a b → b < l.length → Snd l G a b := fun a b h hb => uE hkg hk2 h hb
      obtain ⟨h4, h5⟩ := LM hle hs _ _ _ h1
      by_cases em : mx = -1
      · obtain ⟨m', q1, q2, q3, rfl⟩ := h2 em
        have h6 := hle _ _ q2
        exact (((h5 (by omega)).app (kU q1 (qS (by omega) (by omega)))).app (hs _ _ q2 (by omega))).app (kU q3 (wW (by decide) (by omega)))
      · obtain ⟨h6, h7⟩ := LZ hlt hle hs _ _ (h3 em)
        exact (h5 (by omega)).app h7
    by_cases e7 : k = 7
    · obtain ⟨m, h1, h2, h3, rfl⟩ := b7 e7
      have h4 := DK hkg h2
      have h5 := hc e7
      have h6 := hcap e7
      exact ((kU h1 (wU (a := a + 1) (by omega) (by omega))).app (uE hkg hk2 h2 (by omega))).app (kU h3 (wU (a := m + 1) (by omega) (by omega)))
    · have h8 : 8 ≤ k := num7 k1 e1 e2 e3 e4 e5 e6 e7
      obtain ⟨rfl, h⟩ := b8 h8
      exact kU h (HM h8 k2 hlt)
theorem HZ {x : Rx} {n : Nat} {ns : List ByteArray} (h : ProgOk x l n) (hc : CapsB (ns.length : Int) x) (hl : l.length ≤ 10000) (hn : ns.length ≤ 100) : iX ⟨l, 0, ns.length, ns⟩ := by
  have hlen := h.len
  have hs := blk_snd h.good hc 0 n h.blk (by omega)
  refine ⟨⟨by show 1 ≤ (l.length : Int); omega, by show (l.length : Int) ≤ 10000; omega, Int.le_refl _, by show (0 : Int) < (l.length : Int); omega, by show (0 : Int) ≤ (ns.length : Int); omega, by show (ns.length : Int) ≤ 100; omega, rfl⟩, fun i hi _ => ?_⟩
  show mL l[i] l.length (ns.length : Int)
  have hi' : i < l.length := hi
  by_cases e : i < n
  · obtain ⟨c, h1, h2⟩ := hs i (Nat.zero_le _) e
    rw [List.getElem?_eq_getElem hi'] at h1
    cases h1; exact h2
  · obtain rfl : i = n := by omega
    have h1 := h.last
    rw [List.getElem?_eq_getElem hi'] at h1
    rw [Option.some.inj h1]
    exact ⟨by unfold vW; simp, RsUp.nil _⟩
mutual
theorem BG : ∀ (x : Rx) (b : Int) (st st' : St), x.fine b st = some st' → st.2.length ≤ st'.2.length ∧ ∀ G : Int, (st'.2.length : Int) ≤ G → CapsB G x
  | .mk k r rs mn mx lz cp nm ks, b, st, st', h => by
    by_cases hc : st.1 + 1 ≤ 8194 ∧ (if (Rx.mk k r rs mn mx lz cp nm ks).kind = 7 then b + 1 else b) ≤ 250 ∧ NodeP (.mk k r rs mn mx lz cp nm ks) ∧ ((Rx.mk k r rs mn mx lz cp nm ks).kind = 7 → jW (Rx.mk k r rs mn mx lz cp nm ks).cap (Rx.mk k r rs mn mx lz cp nm ks).name st.2)
    · rw [mC hc] at h
      obtain ⟨h1, h2⟩ := sS ks _ _ _ _ h
      by_cases k7 : (Rx.mk k r rs mn mx lz cp nm ks).kind = 7
      · rw [if_pos k7] at h1
        have h3 : st.2.length + 1 ≤ st'.2.length := by simpa using h1
        obtain ⟨h4, -⟩ := hc.2.2.2 k7
        exact ⟨by omega, fun G hG => ⟨fun _ => by omega, fun y hy => h2 G hG y hy⟩⟩
      · rw [if_neg k7] at h1
        exact ⟨h1, fun G hG => ⟨fun h7 => (k7 h7).elim, fun y hy => h2 G hG y hy⟩⟩
    · rw [uC hc] at h; cases h
theorem sS : ∀ (l : List Rx) (k b : Int) (st st' : St), dN l k b st = some st' → st.2.length ≤ st'.2.length ∧ ∀ G : Int, (st'.2.length : Int) ≤ G → ∀ x, x ∈ l → CapsB G x
  | [], _, _, st, st', h => by
    rw [dN] at h
    cases h
    exact ⟨Nat.le_refl _, fun G hG x hx => by cases hx⟩
  | y :: ys, k, b, st, st', h => by
    rw [dN] at h
    cases hy : y.fine (b + if Brk y.kind k then 1 else 0) st with
    | none => rw [hy] at h; cases h
    | some s1 =>
      rw [hy] at h
      obtain ⟨h1, h2⟩ := BG y _ _ _ hy
      obtain ⟨h3, h4⟩ := sS ys _ _ _ _ h
      refine ⟨by omega, fun G hG x hx => ?_⟩
      rcases List.mem_cons.1 hx with rfl | hx
      · exact h2 G (by omega)
      · exact h4 G hG x hx
end
theorem ok_caps {x : Rx} (h : x.Ok) : CapsB ((fS x).length : Int) x := by
  obtain ⟨st, h⟩ := h
  have e : fS x = st.2 := by unfold fS; rw [h]
  rw [e]
  exact (BG x _ _ _ h).2 _ (Int.le_refl _)
end Go.Proofs.Ytidpigbinpaaeaa
namespace Go.Proofs.Ytidpigbinpaaeaa
open Go.RowKit Go.W
theorem NU {c : Nat} : eI (c : Int) ↔ fR c := by unfold eI fR; omega
theorem wQ {s : ByteArray} {i : Int} : lA s i ↔ sV s i := by
  unfold lA sV
  rw [NU]
theorem wS {s : ByteArray} {c : In} {a : Nat} (h3 : c.op ≠ 3) (h4 : c.op ≠ 4) : gP c.op c.arg s a ↔ sW s c a := by
  unfold gP sW
  rw [wQ, wQ]
  constructor
  · rintro (h | h | h | h | h | h)
    · exact .inr (.inr (.inr (.inl h)))
    · exact .inr (.inr (.inr (.inr (.inl h))))
    · exact .inr (.inr (.inr (.inr (.inr (.inl h)))))
    · exact .inr (.inr (.inr (.inr (.inr (.inr (.inl h))))))
    · exact .inr (.inr (.inr (.inr (.inr (.inr (.inr h))))))
    · exact .inr (.inr (.inl h))
  · rintro (h | h | h | h | h | h | h | h)
    · exact (h3 h).elim
    · exact (h4 h).elim
    · exact .inr (.inr (.inr (.inr (.inr h))))
    · exact .inl h
    · exact .inr (.inl h)
    · exact .inr (.inr (.inl h))
    · exact .inr (.inr (.inr (.inl h)))
    · exact .inr (.inr (.inr (.inr (.inl h))))
section
variable {p : Prg} {s : ByteArray} {a i o : Nat}
theorem TL : dE p s a i = .mat ↔ ∃ c, p.insts[i]? = some c ∧ c.op = 1 := by
  unfold dE
  cases h : p.insts[i]? with
  | none => simp
  | some c =>
    simp only [Option.some.injEq, exists_eq_left']
    unfold mvI
    by_cases h1 : c.op = 1
    · simp [h1]
    · rw [if_neg h1]
      simp only [h1, iff_false]
      split <;> (try split) <;> (try split) <;> (try split) <;> simp
theorem MH (hs : iX p) : dE p s a i = .rune (some o) ↔ ∃ c, p.insts[i]? = some c ∧ c.op = 2 ∧ (o : Int) = c.out ∧ InR (bH s a).1 c.rs := by
  unfold dE
  cases h : p.insts[i]? with
  | none => simp
  | some c =>
    simp only [Option.some.injEq, exists_eq_left']
    have hi := (List.getElem?_eq_some_iff.1 h).1
    have hn := (hs.2 i hi hi).1
    rw [(List.getElem?_eq_some_iff.1 h).2] at hn
    obtain ⟨n1, n2, n3, n4, -⟩ := hn
    unfold mvI
    by_cases h1 : c.op = 1
    · simp [h1]
    by_cases h2 : c.op = 2
    · rw [if_neg h1, if_pos h2]
      have ho := n4 (by omega)
      by_cases hr : lU (bH s a).1 c.rs
      · rw [if_pos hr]
        constructor
        · intro h; injection h with h; injection h with h; exact ⟨h2, by omega, hr⟩
        · rintro ⟨-, h, -⟩; rw [show c.out.toNat = o by omega]
      · rw [if_neg hr]
        constructor
        · intro h; cases h
        · rintro ⟨-, -, h⟩; exact (hr h).elim
    · rw [if_neg h1, if_neg h2]
      simp only [h2, false_and, iff_false]
      split <;> (try split) <;> (try split) <;> simp
theorem mv_to (hs : iX p) : (dE p s a i).to o ↔ VV p.insts s a i o := by
  unfold dE VV
  cases h : p.insts[i]? with
  | none => simp [Mov.to]
  | some c =>
    simp only [Option.some.injEq, exists_eq_left']
    have hi := (List.getElem?_eq_some_iff.1 h).1
    have hn := (hs.2 i hi hi).1
    rw [(List.getElem?_eq_some_iff.1 h).2] at hn
    obtain ⟨n1, n2, n3, n4, n5, -⟩ := hn
    unfold mvI
    by_cases h1 : c.op = 1
    · rw [if_pos h1]
      simp only [Mov.to, false_iff]
      rintro ⟨hg, -⟩
      unfold sW at hg; omega
    by_cases h2 : c.op = 2
    · rw [if_neg h1, if_pos h2]
      simp only [Mov.to, false_iff]
      rintro ⟨hg, -⟩
      unfold sW at hg; omega
    by_cases h3 : c.op = 3
    · rw [if_neg h1, if_neg h2, if_pos h3]
      have ho := n4 (by omega)
      have ha := n5 h3
      simp only [Mov.to]
      constructor
      · intro hq; exact ⟨.inl h3, by omega⟩
      · rintro ⟨-, hq⟩; omega
    by_cases h4 : c.op = 4
    · rw [if_neg h1, if_neg h2, if_neg h3, if_pos h4]
      have ho := n4 (by omega)
      simp only [Mov.to]
      constructor
      · intro hq; exact ⟨.inr (.inl h4), by omega⟩
      · rintro ⟨-, hq⟩; omega
    · rw [if_neg h1, if_neg h2, if_neg h3, if_neg h4]
      by_cases hst : gP c.op c.arg s a
      · rw [if_pos hst]
        have hg := (wS h3 h4).1 hst
        have ho := n4 (by unfold sW at hg; omega)
        simp only [Mov.to]
        constructor
        · intro hq; exact ⟨hg, by omega⟩
        · rintro ⟨-, hq⟩; omega
      · rw [if_neg hst]
        simp only [Mov.to, false_iff]
        rintro ⟨hg, -⟩
        exact hst ((wS h3 h4).2 hg)
end
section
variable {p : Prg} {s : ByteArray} (hs : iX p)
include hs
theorem fn_wb {a i : Nat} (h : Fn (dE p s) (gF s) s.size a i) : ∀ k, a = cD s k → (∀ j, j < k → 0 < (bH s (cD s j)).2) → WB p.insts s i k → ∃ N q c, Utf s N ∧ WB p.insts s q N ∧ p.insts[q]? = some c ∧ c.op = 1 := by
  induction h with
  | @mat a i ha h =>
    intro k hk hw hb
    obtain ⟨c, h1, h2⟩ := TL.1 h
    exact ⟨k, i, c, ⟨by rw [← hk, ha], hw⟩, hb, h1, h2⟩
  | @rune a b i o ha h hn _ ih =>
    intro k hk hw hb
    obtain ⟨c, h1, h2, h3, h4⟩ := (MH hs).1 h
    have hp : 0 < (bH s a).2 := by
      unfold gF at hn; split at hn
      · assumption
      · cases hn
    rw [tZ hp] at hn
    cases hn
    subst hk
    refine ih (k + 1) rfl (fun j hj => ?_) (.eat hb ⟨c, h1, h2, h3, hp, h4⟩)
    by_cases e : j < k
    · exact hw j e
    · rw [show j = k by omega]; exact hp
  | @eps a i o h _ ih =>
    intro k hk hw hb
    subst hk
    exact ih k rfl hw (.eps hb ((mv_to hs).1 h))
theorem wb_fn {N : Nat} (hU : Utf s N) {q k : Nat} (h : WB p.insts s q k) : k ≤ N → Fn (dE p s) (gF s) s.size (cD s k) q → Fn (dE p s) (gF s) s.size 0 0 := by
  induction h with
  | init => exact fun _ h => h
  | eps _ he ih => exact fun hk hf => ih hk (.eps ((mv_to hs).2 he) hf)
  | @eat p' q' k _ he ih =>
    intro hk hf
    obtain ⟨c, h1, h2, h3, hp, h4⟩ := he
    have hlt := nZ hU.2 (show k < k + 1 by omega) hk
    have hle := tY s (k + 1)
    exact ih (by omega) (.rune (b := cD s (k + 1)) (by omega) ((MH hs).2 ⟨c, h1, h2, h3, h4⟩) (tZ hp) hf)
theorem UF {x : Rx} {n : Nat} (hP : ProgOk x p.insts n) : Fn (dE p s) (gF s) s.size 0 0 ↔ ∃ N, Utf s N ∧ Mt (dO s N) x 0 N := by
  constructor
  · intro h
    obtain ⟨N, q, c, hU, h1, h2, h3⟩ := fn_wb hs h 0 rfl (fun j hj => by omega) .init
    exact ⟨N, hU, (zZ hP hU).1 ⟨q, c, h1, h2, h3⟩⟩
  · rintro ⟨N, hU, h⟩
    obtain ⟨q, c, h1, h2, h3⟩ := (zZ hP hU).2 h
    exact wb_fn hs hU h1 (Nat.le_refl _) (.mat hU.1 (TL.2 ⟨c, h2, h3⟩))
end
theorem HQ {p : Prg} {s : ByteArray} {x : Rx} {n : Nat} {r : Option dS} {W' : Wt} (hs : iX p) (h0 : p.start = 0) (hP : ProgOk x p.insts n) (h : Pk (dE p s) (gF s) s.size 0 [(p.start.toNat, [])] (fun _ _ => false) r W') : r.isSome = true ↔ ∃ N, Utf s N ∧ Mt (dO s N) x 0 N := by
  rw [pk_fn (IJ s) h (fun _ _ _ => rfl), ← UF hs hP, h0]
  simp
end Go.Proofs.Ytidpigbinpaaeaa
