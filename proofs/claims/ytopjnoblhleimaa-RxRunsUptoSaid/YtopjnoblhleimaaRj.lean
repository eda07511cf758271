/- Several slices at once: the ones given, the ones grown, the ones grown further; what all of them read as. No program's code stands here. -/
import Derived.Test.YtopjnoblhleimaaRi
namespace Go.Proofs.Ytopjnoblhleimaa
open Go.W

theorem own_cell1 {w : World} {e : TypeId} {a : Option Addr} {n c : Nat} {ys : List Value} {ob : Option Nat} (h : OwnS w e 1 a n c ys ob) {k : Nat} {v : Value} (hk : ys[k]? = some v) : ∃ g, ob = some g ∧ a = some ⟨g, 0, none⟩ ∧ w.cell? ⟨g, 0 + k * 1, none⟩ = some v := by
  have hl := h.1
  have hkl := (List.getElem?_eq_some_iff.1 hk).1
  obtain ⟨g, h1, h2, h3⟩ := h.cells (by omega)
  exact ⟨g, h1, h2, by rw [Nat.mul_one]; exact h3 k v hk⟩
theorem inbN {w : World} {e : TypeId} {sz : Nat} {a : Option Addr} {n c j : Nat} {xs : List Value} {ob : Option Nat} {cur : Array Value} (h : OwnS w e sz a n c xs ob) (hs : cur.size = c * sz) (hj : j < n) : 0 + j * sz + sz ≤ cur.size := by
  have h1 := h.le
  have h2 : (j + 1) * sz ≤ c * sz := Nat.mul_le_mul_right _ (by omega)
  rw [Nat.add_mul] at h2; omega
/-- The blocks of several slices. -/
def fobs (M : Nat) (S : Nat → Sl) : List Nat := (List.range M).flatMap fun k => (S k).ob.toList
theorem fobs_mem {M : Nat} {S : Nat → Sl} {y : Nat} : y ∈ fobs M S ↔ ∃ k, k < M ∧ (S k).ob = some y := by
  simp [fobs, List.mem_flatMap]
theorem fobs_nmem {M : Nat} {S : Nat → Sl} {o : Option Nat} (h : ∀ k, k < M → Apart o (S k).ob) : ∀ g, o = some g → g ∉ fobs M S := fun g hg hm => by
  obtain ⟨k, hk, h2⟩ := fobs_mem.1 hm
  exact h k hk g hg h2
theorem fobs_in {M i : Nat} {S : Nat → Sl} (hi : i < M) : ∀ y, y ∈ (S i).ob.toList → y ∈ fobs M S := fun y hy => fobs_mem.2 ⟨i, hi, by simpa using hy⟩
abbrev nilv : Value := .slice none 0 0
def gv (M : Nat) (S : Nat → Sl) (i : Nat) : List Value := (List.range M).map fun k => if k < i then (S k).v else nilv
theorem gv_zero (M : Nat) (S : Nat → Sl) : zeros #[nilv] M = gv M S 0 := by
  simp only [zeros, gv, Nat.not_lt_zero, if_false]
  induction M with
  | zero => rfl
  | succ M ih => rw [List.replicate_succ', List.flatten_append, ih, List.range_succ, List.map_append]; rfl
theorem rmap_set {M i : Nat} {f g : Nat → Value} (h : ∀ k, k ≠ i → g k = f k) : ((List.range M).map f).set i (g i) = (List.range M).map g := by
  apply List.ext_getElem?
  intro k
  rw [List.getElem?_set]
  by_cases hk : k < M
  · by_cases h1 : i = k
    · subst h1; simp [hk]
    · rw [if_neg h1]; simp [hk, h k (fun h2 => h1 h2.symm)]
  · by_cases h1 : i = k
    · subst h1; simp [hk]
    · rw [if_neg h1]; simp [hk]
theorem gv_set (M : Nat) (S : Nat → Sl) (i : Nat) : (gv M S i).set i (S i).v = gv M S (i + 1) := by
  have := rmap_set (M := M) (i := i) (f := fun k => if k < i then (S k).v else nilv) (g := fun k => if k < i + 1 then (S k).v else nilv) (fun k hk => by
    by_cases h1 : k < i
    · simp only [if_pos h1, if_pos (show k < i + 1 by omega)]
    · simp only [if_neg h1, if_neg (show ¬ k < i + 1 by omega)])
  simp only [if_pos (show i < i + 1 by omega)] at this
  exact this
theorem gv_all (M : Nat) (S : Nat → Sl) : gv M S M = (List.range M).map fun k => (S k).v := by
  apply List.map_congr_left
  intro k hk
  rw [if_pos (List.mem_range.1 hk)]
abbrev sv (M : Nat) (S : Nat → Sl) : List Value := (List.range M).map fun k => (S k).v
theorem sv_get {M k : Nat} {S : Nat → Sl} (h : k < M) : (sv M S)[k]? = some (S k).v := by simp [h]
theorem sv_set (M i : Nat) (t : Nat → Sl) (r : Sl) : (sv M t).set i r.v = sv M (fun q => if q = i then r else t q) := by
  have := rmap_set (M := M) (i := i) (f := fun k => (t k).v) (g := fun k => (if k = i then r else t k).v) (fun k hk => by simp only [if_neg hk])
  simp only [if_true] at this
  exact this

/-! ### The marks -/
def xs0 (S : Nat → Sl) (xs mk : Nat → List Value) (i : Nat) : Nat → List Value := fun k => if k < i then rep (S k).n (mk k) else xs k
def xs1 (S : Nat → Sl) (xs mk : Nat → List Value) (sz i j : Nat) : Nat → List Value := fun k => if k < i then rep (S k).n (mk k) else if k = i then rep j (mk i) ++ (xs i).drop (j * sz) else xs k
theorem xs1_self {S : Nat → Sl} {xs mk : Nat → List Value} {sz i j : Nat} : xs1 S xs mk sz i j i = rep j (mk i) ++ (xs i).drop (j * sz) := by
  simp [xs1]
theorem put_rep {m : List Value} {x : List Value} {sz j n : Nat} (hm : m.length = sz) (hx : x.length = n * sz) (hj : j < n) : putAt (rep j m ++ x.drop (j * sz)) (0 + j * sz) m = rep (j + 1) m ++ x.drop ((j + 1) * sz) := by
  have hl : (rep j m).length = j * sz := by rw [rep_len, hm]
  rw [Nat.zero_add, putAt, List.take_left' hl, ← rep_succ, hm, show j * sz + sz = (j + 1) * sz by rw [Nat.add_mul]; omega, List.drop_append, hl, List.drop_drop, List.drop_of_length_le (by rw [hl]; exact Nat.mul_le_mul_right _ (by omega)), List.nil_append]
  congr 2
  have : j * sz ≤ (j + 1) * sz := Nat.mul_le_mul_right _ (by omega)
  omega
theorem fam_start {w : World} {e : TypeId} {sz M i : Nat} {S : Nat → Sl} {xs mk : Nat → List Value} (h : Fam w e sz M S (xs0 S xs mk i)) : Fam w e sz M S (xs1 S xs mk sz i 0) :=
  h.congr (fun _ _ => rfl) fun k _ => by
    unfold xs1 xs0
    by_cases h1 : k < i
    · rw [if_pos h1, if_pos h1]
    · rw [if_neg h1, if_neg h1]
      by_cases h2 : k = i
      · subst h2; simp [rep]
      · rw [if_neg h2]
theorem fam_end {w : World} {e : TypeId} {sz M i j : Nat} {S : Nat → Sl} {xs mk : Nat → List Value} (h : Fam w e sz M S (xs1 S xs mk sz i j)) (hj : j = (S i).n) (hx : (xs i).length = (S i).n * sz) : Fam w e sz M S (xs0 S xs mk (i + 1)) :=
  h.congr (fun _ _ => rfl) fun k _ => by
    unfold xs1 xs0
    by_cases h1 : k < i
    · rw [if_pos h1, if_pos (by omega)]
    · by_cases h2 : k = i
      · subst h2; rw [if_pos (by omega), if_neg h1, if_pos rfl, hj, List.drop_of_length_le (by omega), List.append_nil]
      · rw [if_neg (by omega), if_neg h1, if_neg h2]
theorem fam_all {w : World} {e : TypeId} {sz M : Nat} {S : Nat → Sl} {xs mk : Nat → List Value} (h : Fam w e sz M S (xs0 S xs mk M)) : Fam w e sz M S (fun k => rep (S k).n (mk k)) :=
  h.congr (fun _ _ => rfl) fun k hk => by unfold xs0; rw [if_pos hk]
theorem fam_zero {w : World} {e : TypeId} {sz M : Nat} {S : Nat → Sl} {xs mk : Nat → List Value} (h : Fam w e sz M S xs) : Fam w e sz M S (xs0 S xs mk 0) :=
  h.congr (fun _ _ => rfl) fun k hk => by unfold xs0; rw [if_neg (by omega)]
theorem fam_mark {w w' : World} {e : TypeId} {sz M i j : Nat} {S : Nat → Sl} {xs mk : Nat → List Value} (h : Fam w e sz M S (xs1 S xs mk sz i j)) (hi : i < M) (hj : j < (S i).n) (hx : (xs i).length = (S i).n * sz) (hm : (mk i).length = sz)
    (ho : OwnS w' e sz (S i).a (S i).n (S i).c (putAt (xs1 S xs mk sz i j i) (0 + j * sz) (mk i)) (S i).ob) (he : Evo (S i).ob.toList w w') : Fam w' e sz M S (xs1 S xs mk sz i (j + 1)) :=
  (h.upd hi ho he (.inl rfl)).congr (fun k _ => by by_cases h1 : k = i <;> simp [h1]) fun k _ => by
    by_cases h1 : k = i
    · subst h1
      simp only [if_true]
      rw [xs1_self, xs1_self, put_rep hm hx hj]
    · simp only [if_neg h1, xs1]

theorem slv {s : Sl} {g : Nat} (h : s.a = some ⟨g, 0, none⟩) : s.v = .slice (some ⟨g, 0, none⟩) s.n s.c := by unfold Sl.v; rw [h]
def mkA (k : Nat) : List Value := [iv (1000 + (k : Int))]
theorem mkA_len (k : Nat) : (mkA k).length = 1 := rfl
theorem mkA_one (k : Nat) : ∀ u, u ∈ mkA k → u.oneCell' = true := fun u hu => by rw [List.mem_singleton.1 hu]; rfl
/-- What stands at a place. -/
def ctZ (n k j : Nat) : Int := if j < n then 1000 + (k : Int) else if j < n + 16 then 200000 + (k : Int) else 300000 + (k : Int)
def ctV (S : Nat → Sl) (k j : Nat) : Value := iv (ctZ (S k).n k j)
def cl (c : Nat → Value) (m : Nat) : List Value := (List.range m).map c
theorem cl_get {c : Nat → Value} {m j : Nat} (h : j < m) : (cl c m)[j]? = some (c j) := by simp [cl, h]
theorem cl_len (c : Nat → Value) (m : Nat) : (cl c m).length = m := by simp [cl]
theorem cl_succ (c : Nat → Value) (m : Nat) : cl c (m + 1) = cl c m ++ [c m] := by simp [cl, List.range_succ]
theorem cl_add (c : Nat → Value) (m : Nat) (v : Value) : ∀ d, (∀ j, m ≤ j → j < m + d → c j = v) → cl c (m + d) = cl c m ++ List.replicate d v
  | 0, _ => by simp
  | d + 1, h => by
    rw [← Nat.add_assoc, cl_succ, cl_add c m v d (fun j h1 h2 => h j h1 (by omega)), List.replicate_succ', List.append_assoc, h (m + d) (by omega) (by omega)]
theorem rep_cl (S : Nat → Sl) (k : Nat) : rep (S k).n (mkA k) = cl (ctV S k) (S k).n := by
  have : ∀ m, m ≤ (S k).n → rep m (mkA k) = cl (ctV S k) m := by
    intro m
    induction m with
    | zero => intro _; rfl
    | succ m ih =>
      intro hm
      rw [rep_succ, cl_succ, ih (by omega)]
      congr 1
      simp only [mkA, ctV, ctZ]
      rw [if_pos (by omega)]
  exact this _ (Nat.le_refl _)
def RdL (w : World) (s : Sl) (c : Nat → Value) : Prop := ∀ j, j < s.n → ∃ g, s.a = some ⟨g, 0, none⟩ ∧ s.ob = some g ∧ w.cell? ⟨g, 0 + j * 1, none⟩ = some (c j)
theorem RdL.evo {X : List Nat} {w w' : World} {s : Sl} {c : Nat → Value} (h : RdL w s c) (he : Evo X w w') (hx : ∀ g, s.ob = some g → g ∉ X) : RdL w' s c := fun j hj => by
  obtain ⟨g, h1, h2, h3⟩ := h j hj
  exact ⟨g, h1, h2, he.cell h3 (hx g h2)⟩
structure Older (w : World) (t s : Sl) (c : Nat → Value) : Prop where
  n : s.n ≤ t.n
  addr : s.a = s.ob.map fun g => ⟨g, 0, none⟩
  mem : t.ob = s.ob ∨ (Apart t.ob s.ob ∧ RdL w s c)
theorem own_rd {w : World} {t : Sl} {c : Nat → Value} (ho : OwnS w 3 1 t.a t.n t.c (cl c t.n) t.ob) : RdL w t c := fun j hj => by
  obtain ⟨g, hg, ha, hc⟩ := ho.cells (by omega)
  exact ⟨g, ha, hg, by rw [Nat.mul_one]; exact hc j _ (cl_get hj)⟩
theorem Older.rd {w : World} {t s : Sl} {c : Nat → Value} (h : Older w t s c) (ho : OwnS w 3 1 t.a t.n t.c (cl c t.n) t.ob) : RdL w s c := by
  rcases h.mem with h1 | ⟨_, h1⟩
  · intro j hj
    have := h.n
    obtain ⟨g, hg, ha, hc⟩ := ho.cells (by omega)
    refine ⟨g, by rw [h.addr, ← h1, hg]; rfl, by rw [← h1, hg], by rw [Nat.mul_one]; exact hc j _ (cl_get (by omega))⟩
  · exact h1
theorem Older.evo {X : List Nat} {w w' : World} {t s : Sl} {c : Nat → Value} (h : Older w t s c) (he : Evo X w w') (hx : ∀ g, s.ob = some g → g ∉ X) : Older w' t s c :=
  ⟨h.n, h.addr, h.mem.imp id fun ⟨h1, h2⟩ => ⟨h1, h2.evo he hx⟩⟩
theorem Older.app {w w' : World} {t s r : Sl} {c : Nat → Value} (h : Older w t s c) (ho : OwnS w 3 1 t.a t.n t.c (cl c t.n) t.ob) (hl : Lt w s.ob) (he : Evo t.ob.toList w w') (hn : t.n ≤ r.n) (hb : r.ob = t.ob ∨ ∃ g, r.ob = some g ∧ w.heap.size ≤ g ∧ Evo [] w w') : Older w' r s c := by
  refine ⟨Nat.le_trans h.n hn, h.addr, ?_⟩
  rcases hb with h1 | ⟨g, h1, h2, h3⟩
  · rcases h.mem with h4 | ⟨h4, h5⟩
    · exact .inl (h1.trans h4)
    · exact .inr ⟨by rw [h1]; exact h4, h5.evo he (Apart.symm h4).own⟩
  · exact .inr ⟨(Apart.fresh hl (fun g' hg' => by rw [h1] at hg'; cases hg'; exact h2)).symm, (h.rd ho).evo h3 (fun _ _ h => by cases h)⟩
def upd (T : Nat → Sl) (i : Nat) (r : Sl) : Nat → Sl := fun k => if k = i then r else T k
theorem upd_self {T : Nat → Sl} {i : Nat} {r : Sl} : upd T i r i = r := by simp [upd]
theorem upd_ne {T : Nat → Sl} {i k : Nat} {r : Sl} (h : k ≠ i) : upd T i r k = T k := by simp [upd, h]
structure Tri (w : World) (M : Nat) (L G T : Nat → Sl) (ct : Nat → Nat → Value) : Prop where
  fam : Fam w 3 1 M T (fun k => cl (ct k) (T k).n)
  oL : ∀ k, k < M → Older w (T k) (L k) (ct k)
  oG : ∀ k, k < M → Older w (T k) (G k) (ct k)
  aL : ∀ i j, i < M → j < M → i ≠ j → Apart (T i).ob (L j).ob
  aG : ∀ i j, i < M → j < M → i ≠ j → Apart (T i).ob (G j).ob
  lL : ∀ k, k < M → Lt w (L k).ob
  lG : ∀ k, k < M → Lt w (G k).ob
section
variable {w w' : World} {M : Nat} {L G T : Nat → Sl} {ct : Nat → Nat → Value} {X : List Nat} {i : Nat}
theorem lt_evo {X : List Nat} {w w' : World} {o : Option Nat} (h : Lt w o) (he : Evo X w w') : Lt w' o := fun g hg => Nat.lt_of_lt_of_le (h g hg) he.size
theorem Tri.evo (h : Tri w M L G T ct) (he : Evo X w w') (h1 : ∀ k, k < M → ∀ g, (T k).ob = some g → g ∉ X) (h2 : ∀ k, k < M → ∀ g, (L k).ob = some g → g ∉ X) (h3 : ∀ k, k < M → ∀ g, (G k).ob = some g → g ∉ X) : Tri w' M L G T ct :=
  ⟨h.fam.evo he h1, fun k hk => (h.oL k hk).evo he (h2 k hk), fun k hk => (h.oG k hk).evo he (h3 k hk), h.aL, h.aG, fun k hk => lt_evo (h.lL k hk) he, fun k hk => lt_evo (h.lG k hk) he⟩
theorem Tri.evo0 (h : Tri w M L G T ct) (he : Evo [] w w') : Tri w' M L G T ct := h.evo he (fun _ _ _ _ h => by cases h) (fun _ _ _ _ h => by cases h) (fun _ _ _ _ h => by cases h)
theorem Tri.app (h : Tri w M L G T ct) (hi : i < M) {r : Sl} (hn : (T i).n ≤ r.n) (ho : OwnS w' 3 1 r.a r.n r.c (cl (ct i) r.n) r.ob) (he : Evo (T i).ob.toList w w') (hb : r.ob = (T i).ob ∨ ∃ g, r.ob = some g ∧ w.heap.size ≤ g ∧ Evo [] w w') : Tri w' M L G (upd T i r) ct := by
  have hb' : r.ob = (T i).ob ∨ Ge w r.ob := hb.imp id fun ⟨g, h1, h2, _⟩ => fun g' hg' => by rw [h1] at hg'; cases hg'; exact h2
  have key : ∀ {o : Option Nat}, Lt w o → Apart (T i).ob o → Apart r.ob o := fun hl ha => by
    rcases hb' with h1 | h1
    · rw [h1]; exact ha
    · exact (Apart.fresh hl h1).symm
  refine ⟨(h.fam.upd hi ho he hb').congr (fun _ _ => rfl) (fun k hk => ?_), fun k hk => ?_, fun k hk => ?_, fun a b ha hbm hab => ?_, fun a b ha hbm hab => ?_, fun k hk => lt_evo (h.lL k hk) he, fun k hk => lt_evo (h.lG k hk) he⟩
  · by_cases e : k = i
    · subst e; simp [upd]
    · simp [upd, e]
  · by_cases e : k = i
    · subst e; rw [upd_self]; exact (h.oL k hk).app (h.fam.own k hk) (h.lL k hk) he hn hb
    · rw [upd_ne e]; exact (h.oL k hk).evo he (Apart.symm (h.aL i k hi hk (fun h => e h.symm))).own
  · by_cases e : k = i
    · subst e; rw [upd_self]; exact (h.oG k hk).app (h.fam.own k hk) (h.lG k hk) he hn hb
    · rw [upd_ne e]; exact (h.oG k hk).evo he (Apart.symm (h.aG i k hi hk (fun h => e h.symm))).own
  · by_cases e : a = i
    · subst e; rw [upd_self]; exact key (h.lL b hbm) (h.aL a b ha hbm hab)
    · rw [upd_ne e]; exact h.aL a b ha hbm hab
  · by_cases e : a = i
    · subst e; rw [upd_self]; exact key (h.lG b hbm) (h.aG a b ha hbm hab)
    · rw [upd_ne e]; exact h.aG a b ha hbm hab
theorem Tri.setG (h : Tri w M L G T ct) (hi : i < M) : Tri w M L (upd G i (T i)) T ct := by
  refine ⟨h.fam, h.oL, fun k hk => ?_, h.aL, fun a b ha hb hab => ?_, h.lL, fun k hk => ?_⟩
  · by_cases e : k = i
    · subst e; rw [upd_self]; exact ⟨Nat.le_refl _, own_addr (h.fam.own k hk), .inl rfl⟩
    · rw [upd_ne e]; exact h.oG k hk
  · by_cases e : b = i
    · subst e; rw [upd_self]; exact h.fam.ap a b ha hb hab
    · rw [upd_ne e]; exact h.aG a b ha hb hab
  · by_cases e : k = i
    · subst e; rw [upd_self]; exact h.fam.lt hk
    · rw [upd_ne e]; exact h.lG k hk
theorem tri_start {S : Nat → Sl} (h : Fam w 3 1 M S (fun k => rep (S k).n (mkA k))) : Tri w M S S S (ctV S) :=
  ⟨h.congr (fun _ _ => rfl) (fun k _ => (rep_cl S k).symm), fun k hk => ⟨Nat.le_refl _, own_addr (h.own k hk), .inl rfl⟩, fun k hk => ⟨Nat.le_refl _, own_addr (h.own k hk), .inl rfl⟩, h.ap, h.ap, fun k hk => h.lt hk, fun k hk => h.lt hk⟩
end
theorem gv_upd (M : Nat) (G : Nat → Sl) (i : Nat) (r : Sl) : (gv M G i).set i r.v = gv M (upd G i r) (i + 1) := by
  have e : gv M G i = gv M (upd G i r) i := by
    apply List.map_congr_left
    intro k hk
    by_cases h : k < i
    · rw [if_pos h, if_pos h, upd_ne (by omega)]
    · rw [if_neg h, if_neg h]
  rw [e]
  have := gv_set M (upd G i r) i
  rw [upd_self] at this
  exact this
theorem gv_get {M i k : Nat} {G : Nat → Sl} (hk : k < M) (hi : k < i) : (gv M G i)[k]? = some (G k).v := by simp [gv, hk, hi]
theorem allOne_rep (d : Nat) (z : Int) : AllOne (List.replicate d (iv z)) := by
  induction d with
  | zero => trivial
  | succ d ih => exact ⟨rfl, ih⟩
theorem rep_fill {n k : Nat} {z : Int} (hk : k < n) : (List.replicate k (iv z) ++ List.replicate (n - k) (iv 0)).set k (iv z) = List.replicate (k + 1) (iv z) ++ List.replicate (n - (k + 1)) (iv 0) := by
  rw [List.set_append_right _ _ (by simp)]
  simp only [List.length_replicate, Nat.sub_self]
  rw [show n - k = (n - (k + 1)) + 1 by omega, List.replicate_succ, List.set_cons_zero, List.replicate_succ' (n := k), List.append_assoc]
  rfl
end Go.Proofs.Ytopjnoblhleimaa
