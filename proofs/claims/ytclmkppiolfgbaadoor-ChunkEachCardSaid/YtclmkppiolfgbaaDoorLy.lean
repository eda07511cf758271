import Derived.Test.YtclmkppiolfgbaaDoorLx
namespace Go.Proofs.YtclmkppiolfgbaaDoor
open Go.Proofs
open Go.W
attribute [local irreducible] Decidable.decide
set_option linter.unusedSimpArgs false
set_option linter.unusedVariables false



theorem cut0 {c sz : Nat} {a : Option Addr} : (if c = 0 then a else a.map (·.add (0 * sz))) = a := by
  split
  · rfl
  · cases a <;> simp [Addr.add]
theorem own_pre {w : World} {e : TypeId} {sz : Nat} {a : Option Addr} {n c m : Nat} {xs : List Value} {ob : Option Nat} (h : OwnS w e sz a n c xs ob) (hm : m ≤ n) (h0 : 0 < n) : OwnS w e sz a m c (xs.take (m * sz)) ob := by
  have hl := h.1
  have hms : m * sz ≤ n * sz := Nat.mul_le_mul_right _ hm
  rcases h.2 with ⟨_, h2, _⟩ | ⟨g, cap, cur, hg, hv, hb, hn, hc, hs, ht⟩
  · omega
  · cases hv
    refine ⟨by rw [List.length_take]; omega, .inr ⟨g, c, cur, hg, rfl, hb, by omega, hc, hs, ?_⟩⟩
    rw [← ht, List.take_take, Nat.min_eq_left hms]
theorem srows_len (l : List Smp) : (srows l).length = l.length * 3 := by
  induction l with
  | nil => rfl
  | cons s l ih => simp only [srows, List.map_cons, List.flatten_cons, List.length_append, List.length_cons] at ih ⊢; rw [ih]; simp [srow]; omega
theorem srows_app (s t : List Smp) : srows (s ++ t) = srows s ++ srows t := by simp [srows]
theorem own_in {w : World} {e : TypeId} {a : Option Addr} {n c : Nat} {s t : List Smp} {ob : Option Nat} (h : OwnS w e 3 a n c (srows (s ++ t)) ob) (h0 : 0 < n) : OwnS w e 3 a s.length c (srows s) ob := by
  have hl := h.1
  rw [srows_app, List.length_append, srows_len, srows_len] at hl
  have := own_pre h (m := s.length) (by omega) h0
  rwa [srows_app, List.take_left' (srows_len s)] at this
theorem own_inB {w : World} {e : TypeId} {a : Option Addr} {n c : Nat} {s t : List Nat} {ob : Option Nat} (h : OwnS w e 1 a n c ((s ++ t).map bv) ob) (h0 : 0 < n) : OwnS w e 1 a s.length c (s.map bv) ob := by
  have hl := h.1
  simp only [List.length_map, List.length_append, Nat.mul_one] at hl
  have := own_pre h (m := s.length) (by omega) h0
  rwa [List.map_append, List.take_left' (by simp)] at this
theorem src_smp {P : Program} {X : List Nat} {w : World} {v : Value} {l : List Smp} (h : RSl 3 RSmp X w v l) : Src P w 3 v l.length (srows l) := by
  obtain ⟨rows, hr, hs⟩ := RSl.rows (P := P) h (Evo.refl _ _) RSmp.one
  have : rows = l.map srow := by
    apply List.ext_getElem (by simpa using hr.1)
    intro k h1 h2
    have := (hr.2 k (by rw [← hr.1]; exact h1) h1).2.1
    rw [List.getElem_map]; exact this
  rw [this] at hs
  exact hs
theorem src_byte {P : Program} {X : List Nat} {w : World} {v : Value} {l : List Nat} (h : RSl 1 RB X w v l) : Src P w 1 v l.length (l.map bv) := by
  obtain ⟨rows, hr, hs⟩ := RSl.rows (P := P) h (Evo.refl _ _) RB.one
  have : rows = l.map fun b => [bv b] := by
    apply List.ext_getElem (by simpa using hr.1)
    intro k h1 h2
    have := (hr.2 k (by rw [← hr.1]; exact h1) h1).2.1
    rw [List.getElem_map]; exact this
  rw [this] at hs
  have hf : (l.map fun b => [bv b]).flatten = l.map bv := by clear hs hr this h; induction l with | nil => rfl | cons b l ih => simp [ih]
  rwa [hf] at hs

/-! ### The list that is written over -/
abbrev m3 : Smp := ⟨-1, 0, true⟩
theorem m3_ok : m3.Ok := ⟨by decide, by decide⟩
def flp (s : Smp) : Smp := ⟨s.t, 4613937818241073152, !s.st⟩
theorem flp_ok {s : Smp} (h : s.Ok) : (flp s).Ok := ⟨h.t, by show (4613937818241073152 : Nat) < _; omega⟩
theorem flp_valid {s : List Smp} (h : Valid s) : Valid (s.map flp) := by
  have hl := h.len
  refine ⟨by simpa using hl, fun k hk => ?_, fun x hx => ?_⟩
  · simp only [List.length_map] at hk
    simp only [List.getElem_map]
    exact h.up k hk
  · obtain ⟨y, hy, rfl⟩ := List.mem_map.1 hx
    exact flp_ok (h.ok y hy)
def mixL (s : List Smp) (k : Nat) : List Smp := (s.take k).map flp ++ s.drop k ++ [m3, m3, m3]
theorem mix_len {s : List Smp} {k : Nat} (h : k ≤ s.length) : (mixL s k).length = s.length + 3 := by simp [mixL]; omega
theorem mix_zero (s : List Smp) : mixL s 0 = s ++ [m3, m3, m3] := by simp [mixL]
theorem mix_all (s : List Smp) : mixL s s.length = s.map flp ++ [m3, m3, m3] := by simp [mixL]
theorem mix_get {s : List Smp} {k : Nat} (h : k < s.length) (h' : k < (mixL s k).length) : (mixL s k)[k] = s[k] := by
  have : (mixL s k)[k]? = s[k]? := by
    simp only [mixL]
    rw [List.getElem?_append_left (by simp; omega), List.getElem?_append_right (by simp; omega)]
    simp only [List.length_map, List.length_take, Nat.min_eq_left (Nat.le_of_lt h), Nat.sub_self, List.getElem?_drop, Nat.add_zero]
  rw [List.getElem?_eq_getElem h', List.getElem?_eq_getElem h] at this
  exact Option.some.inj this
theorem mix_ok {s : List Smp} (h : ∀ x, x ∈ s → x.Ok) (k : Nat) : ∀ x, x ∈ mixL s k → x.Ok := fun x hx => by
  simp only [mixL] at hx
  rcases List.mem_append.1 hx with hx | hx
  · rcases List.mem_append.1 hx with hx | hx
    · obtain ⟨y, hy, rfl⟩ := List.mem_map.1 hx
      exact flp_ok (h y (List.mem_of_mem_take hy))
    · exact h x (List.mem_of_mem_drop hx)
  · simp at hx; rw [hx]; exact m3_ok
theorem mix_put {s : List Smp} {k : Nat} (h : k < s.length) : putAt (srows (mixL s k)) (0 + k * 3) (srow (flp s[k])) = srows (mixL s (k + 1)) := by
  have e1 : mixL s k = (s.take k).map flp ++ (s[k] :: (s.drop (k + 1) ++ [m3, m3, m3])) := by
    simp only [mixL, List.append_assoc]; rw [List.drop_eq_getElem_cons h]; rfl
  have e2 : mixL s (k + 1) = (s.take k).map flp ++ (flp s[k] :: (s.drop (k + 1) ++ [m3, m3, m3])) := by
    simp only [mixL]; rw [take_snoc h, List.map_append, List.append_assoc, List.append_assoc]; rfl
  rw [e1, e2, srows_app, srows_app]
  have hl : (srows ((s.take k).map flp)).length = k * 3 := by rw [srows_len]; simp; omega
  have h3 : (srow (flp s[k])).length = 3 := rfl
  rw [Nat.zero_add, putAt, List.take_left' hl, h3, List.drop_append, hl, List.drop_of_length_le (by omega), List.nil_append, show k * 3 + 3 - k * 3 = 3 by omega, List.append_assoc]
  rfl
def zlB (b : List Nat) (k : Nat) : List Nat := List.replicate k 0 ++ b.drop k ++ [7, 8, 9]
theorem zl_zero (b : List Nat) : zlB b 0 = b ++ [7, 8, 9] := by simp [zlB]
theorem zl_len {b : List Nat} {k : Nat} (h : k ≤ b.length) : (zlB b k).length = b.length + 3 := by simp [zlB]; omega
theorem zl_all (b : List Nat) : zlB b b.length = List.replicate b.length 0 ++ [7, 8, 9] := by simp [zlB]
theorem zl_set {b : List Nat} {k : Nat} (h : k < b.length) : (zlB b k).set k 0 = zlB b (k + 1) := by
  simp only [zlB]
  rw [List.drop_eq_getElem_cons h, List.replicate_succ', List.append_assoc, List.set_append_right _ _ (by simp)]
  simp only [List.length_replicate, Nat.sub_self, List.cons_append, List.set_cons_zero, List.append_assoc]
  rfl
/-- Bytes 0 are the form of no list but of the empty one. -/
theorem unp_zeros {m : Nat} {out : List Smp} {e : Int} (h : UnpackIs (List.replicate m 0) out e) : (e = 171 ↔ m ≠ 3) := by
  have hp0 : PacksN (List.replicate 3 0) (form []) 3 := by
    have := PacksN.nil 3
    refine ⟨this.len, this.lt, fun i hi => ?_⟩
    rw [this.bit i hi]
    simp only [form, body, List.append_nil, List.length_nil, List.getD_eq_getElem?_getD]
    by_cases hi2 : i < 17
    · rw [num_get _ _ _ hi2]; simp
    · rw [List.getElem?_eq_none (by simp), List.getElem?_eq_none (by simp; omega)]
  have hf0 : (form []).length = 17 := by simp [form, body]
  constructor
  · intro he hm
    subst hm
    rcases h with ⟨h1, _⟩ | ⟨_, _, h3⟩
    · omega
    · exact h3 ⟨[], ⟨by simp, fun k hk => by simp at hk, fun _ h => by cases h⟩, by unfold Packs; rw [hf0]; exact hp0⟩
  · intro hm
    rcases h with ⟨_, hv, _, hp⟩ | ⟨h1, _⟩
    · exfalso
      have h1 := head_spec hv hp
      have hml := hp.len
      simp only [List.length_replicate] at hml
      have h17 : 17 ≤ (form out).length := by simp [form]
      have hz : ∀ j, j ≤ 8 * m → unnum ((unpk (List.replicate m 0)).take j) = 0 := by
        intro j
        induction j with
        | zero => intro _; rfl
        | succ j ih =>
          intro hj
          have hlt : j < (unpk (List.replicate m 0)).length := by simp; omega
          rw [take_snoc hlt, unnum_snoc, ih (by omega), unpk_getD (by simp; omega)]
          simp only [bitAt, List.getD_eq_getElem?_getD, List.getElem?_replicate]
          split <;> simp
      have h2 : (get (unpk (List.replicate m 0)) ⟨0, false⟩ 17).1 = 0 := by
        unfold get
        split
        · simp only [List.drop_zero]; exact hz 17 (by omega)
        · rfl
      rw [h1] at h2
      have h3 := List.eq_nil_of_length_eq_zero h2
      subst h3
      rw [hf0] at hml
      omega
    · exact h1
theorem flip_ne {s : List Smp} {a b : List Nat} (hv : Valid s) (h0 : 0 < s.length) (ha : Packs a (form s)) (hb : Packs b (form (s.map flp))) : b ≠ a := fun h => by
  subst h
  have h1 := form_inj hv (flp_valid hv) ha hb
  have h2 := congrArg (fun l => l[0]?.map Smp.st) h1
  simp only [List.getElem?_map, List.getElem?_eq_getElem h0, Option.map_some] at h2
  have h3 : ∀ x : Smp, (canon x).st = x.st := fun x => by unfold canon; split <;> simp_all
  rw [h3, h3] at h2
  simp [flp] at h2
theorem keep_alike (l : List Smp) : Alike (l.map canon) l true := by
  refine ⟨by simp, fun k h h' => ?_⟩
  rw [List.getElem_map]
  cases hst : l[k].st with
  | true => rw [canon_st hst]; exact ⟨rfl, rfl, .inr (.inr ⟨rfl, rfl⟩)⟩
  | false =>
    rw [canon_v hst]
    refine ⟨rfl, rfl, ?_⟩
    cases h : nanB l[k].v with
    | true => refine .inr (.inl ⟨?_, rfl⟩); rw [cb, if_pos h]; kernel_rfl
    | false => exact .inl (by rw [cb, if_neg (by simp [h])])

/-! ### Two, four slices -/
def S4 (x y z u : Sl) : Nat → Sl := fun k => match k with | 0 => x | 1 => y | 2 => z | _ => u
def X4 (x y z u : List Value) : Nat → List Value := fun k => match k with | 0 => x | 1 => y | 2 => z | _ => u
theorem all4 {p : Nat → Prop} (h0 : p 0) (h1 : p 1) (h2 : p 2) (h3 : p 3) : ∀ k, k < 4 → p k := fun k hk => by
  rcases show k = 0 ∨ k = 1 ∨ k = 2 ∨ k = 3 by omega with rfl | rfl | rfl | rfl <;> assumption
theorem all2 {p : Nat → Prop} (h0 : p 0) (h1 : p 1) : ∀ k, k < 2 → p k := fun k hk => by
  rcases show k = 0 ∨ k = 1 by omega with rfl | rfl <;> assumption
theorem fam4 {w : World} {e : TypeId} {sz : Nat} {x y z u : Sl} {a b c d : List Value} (hx : OwnS w e sz x.a x.n x.c a x.ob) (hy : OwnS w e sz y.a y.n y.c b y.ob) (hz : OwnS w e sz z.a z.n z.c c z.ob) (hu : OwnS w e sz u.a u.n u.c d u.ob)
    (xy : Apart x.ob y.ob) (xz : Apart x.ob z.ob) (xu : Apart x.ob u.ob) (yz : Apart y.ob z.ob) (yu : Apart y.ob u.ob) (zu : Apart z.ob u.ob) : Fam w e sz 4 (S4 x y z u) (X4 a b c d) where
  own := all4 hx hy hz hu
  ap := fun i j hi hj => by
    revert j
    refine all4 (p := fun i => ∀ j, j < 4 → i ≠ j → Apart (S4 x y z u i).ob (S4 x y z u j).ob) ?_ ?_ ?_ ?_ i hi
    · exact all4 (fun h => absurd rfl h) (fun _ => xy) (fun _ => xz) (fun _ => xu)
    · exact all4 (fun _ => xy.symm) (fun h => absurd rfl h) (fun _ => yz) (fun _ => yu)
    · exact all4 (fun _ => xz.symm) (fun _ => yz.symm) (fun h => absurd rfl h) (fun _ => zu)
    · exact all4 (fun _ => xu.symm) (fun _ => yu.symm) (fun _ => zu.symm) (fun h => absurd rfl h)
theorem fam2 {w : World} {e : TypeId} {sz : Nat} {x y : Sl} {a b : List Value} (hx : OwnS w e sz x.a x.n x.c a x.ob) (hy : OwnS w e sz y.a y.n y.c b y.ob) (xy : Apart x.ob y.ob) : Fam w e sz 2 (S4 x y y y) (X4 a b b b) where
  own := all2 hx hy
  ap := fun i j hi hj => by
    revert j
    refine all2 (p := fun i => ∀ j, j < 2 → i ≠ j → Apart (S4 x y y y i).ob (S4 x y y y j).ob) ?_ ?_ i hi
    · exact all2 (fun h => absurd rfl h) (fun _ => xy)
    · exact all2 (fun _ => xy.symm) (fun h => absurd rfl h)
theorem fobs_ge {X : List Nat} {w : World} {M : Nat} {S : Nat → Sl} (h : ∀ k, k < M → Ge w (S k).ob) : ∀ y, y ∈ fobs M S → y ∈ X ∨ w.heap.size ≤ y := fun y hy => by
  obtain ⟨k, hk, h2⟩ := fobs_mem.1 hy
  exact .inr (h k hk y h2)

end Go.Proofs.YtclmkppiolfgbaaDoor
