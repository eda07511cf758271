/- The layer of rules, second part: regions whose order is open, cuts, structs built, calls of function values, slices made and cut. -/
import Derived.Test.YtgboffefbpligaaFw
namespace Go.W
set_option linter.unusedSimpArgs false
set_option linter.unusedVariables false

/-! ### Blocks apart -/
def Apart (o p : Option Nat) : Prop := ∀ g, o = some g → p = some g → False
/-- Block o is not older than the world w. -/
def Ge (w : World) (o : Option Nat) : Prop := ∀ g, o = some g → w.heap.size ≤ g
def Lt (w : World) (o : Option Nat) : Prop := ∀ g, o = some g → g < w.heap.size

theorem Apart.symm {o p : Option Nat} (h : Apart o p) : Apart p o := fun g h1 h2 => h g h2 h1
theorem Lt.blk {w : World} {b : Nat} {o : Obj} (h : w.heap[b]? = some o) : Lt w (some b) := fun g hg => by cases hg; exact blk_lt h
theorem Lt.own {w : World} {e : TypeId} {sz : Nat} {a : Option Addr} {n c : Nat} {xs : List Value} {ob : Option Nat} (h : OwnS w e sz a n c xs ob) : Lt w ob := fun g hg => by subst hg; exact h.lt
theorem Lt.nil (w : World) : Lt w none := fun g hg => by cases hg
theorem Apart.new {w : World} {o : Option Nat} {b : Nat} (h : Lt w o) (hs : w.heap.size = b) : Apart o (some b) := fun g h1 h2 => by have h3 := Option.some.inj h2; have := h g h1; omega
theorem Apart.fresh {w : World} {o p : Option Nat} (h : Lt w o) (hs : Ge w p) : Apart o p := fun g h1 h2 => by have := h g h1; have := hs g h2; omega
theorem Apart.nil (o : Option Nat) : Apart o Option.none := fun _ _ h => by cases h
theorem Apart.nil' (o : Option Nat) : Apart Option.none o := fun _ h _ => by cases h
theorem Apart.app {w : World} {o ob ob' : Option Nat} (h : Apart o ob) (hl : Lt w o) (hob : ob' = ob ∨ ∃ g, ob' = some g ∧ w.heap.size ≤ g) : Apart o ob' := fun g h1 h2 => by
  rcases hob with rfl | ⟨g', rfl, hg⟩
  · exact h g h1 h2
  · cases h2; have := hl g h1; omega
theorem Apart.nmem {b : Nat} {ob : Option Nat} (h : Apart (some b) ob) : b ∉ ob.toList := fun hm => by
  cases ob with
  | none => cases hm
  | some g => exact h g (by simp at hm; rw [hm]) rfl
theorem Apart.nmem1 {b c : Nat} (h : Apart (some b) (some c)) : b ∉ [c] := h.nmem
theorem Apart.own {o ob : Option Nat} (h : Apart o ob) : ∀ g, o = some g → g ∉ ob.toList := fun g hg => by subst hg; exact h.nmem
theorem Apart.own1 {o : Option Nat} {c : Nat} (h : Apart o (some c)) : ∀ g, o = some g → g ∉ [c] := fun g hg => by subst hg; exact h.nmem
theorem Ge.nil (w : World) : Ge w none := fun g h => by cases h
theorem Ge.new {X : List Nat} {a w : World} {b : Nat} (h : Evo X a w) (hs : w.heap.size = b) : Ge a (some b) := fun g hg => by cases hg; have := h.size; omega
theorem Ge.fresh {X : List Nat} {a w : World} {o : Option Nat} (h : Evo X a w) (hs : Ge w o) : Ge a o := fun g hg => by have := h.size; have := hs g hg; omega
theorem Ge.app {X : List Nat} {a w : World} {ob ob' : Option Nat} (h : Ge a ob) (he : Evo X a w) (hob : ob' = ob ∨ ∃ g, ob' = some g ∧ w.heap.size ≤ g) : Ge a ob' := fun g h2 => by
  rcases hob with rfl | ⟨g', rfl, hg⟩
  · exact h g h2
  · cases h2; have := he.size; omega
theorem Ge.mem {X : List Nat} {a : World} {ob : Option Nat} (h : Ge a ob) : ∀ y, y ∈ ob.toList → y ∈ X ∨ a.heap.size ≤ y := fun y hy => by
  cases ob with
  | none => cases hy
  | some g => simp at hy; subst hy; exact .inr (h _ rfl)
theorem Ge.mem1 {X : List Nat} {a : World} {b : Nat} (h : Ge a (some b)) : ∀ y, y ∈ [b] → y ∈ X ∨ a.heap.size ≤ y := h.mem

theorem Src.ofOwn {P : Program} {w : World} {e : TypeId} {sz : Nat} {a : Option Addr} {n c : Nat} {xs : List Value} {ob : Option Nat} (h : OwnS w e sz a n c xs ob) (h1 : AllOne xs) : Src P w sz (.slice a n c) n xs := by
  have h1' := h1.mem
  rcases Nat.eq_zero_or_pos n with h0 | h0
  · subst h0
    have hx : xs = [] := List.eq_nil_of_length_eq_zero (by simpa using h.1)
    subst hx
    refine ⟨fun _ => rfl, fun w2 _ => ?_, by simp, h1'⟩
    cases a with
    | none => rfl
    | some a => simp [Builtin.firstCells, loadCells, loadCellsFrom]
  · obtain ⟨g, _, rfl, hc⟩ := h.cells h0
    exact Src.slice h.1 hc h1'

theorem RSl.one {α : Type} {sz : Nat} {R : Rel α} {X : List Nat} {w : World} {v : Value} {ds : List α} (h : RSl sz R X w v ds) : v.oneCell' = true := by
  obtain ⟨_, _, rfl, _⟩ := h; rfl
theorem RSl.cell {α : Type} {sz : Nat} {R : Rel α} {X : List Nat} {w : World} {v : Value} {ds : List α} (h : RSl sz R X w v ds) : v.cells = #[v] := by
  obtain ⟨_, _, rfl, _⟩ := h; rfl

/-- The cells of a slice that came in. -/
theorem RSl.src {α : Type} {P : Program} {sz : Nat} {R : Rel α} {X : List Nat} {w w' : World} {v : Value} {ds : List α} (h : RSl sz R X w v ds) (he : Evo X w w') (h1 : ∀ X w vs d, R X w vs d → ∀ u, u ∈ vs → u.oneCell' = true) :
    ∃ rows : List (List Value), rows.length = ds.length ∧ (∀ k (hk : k < ds.length) (hk' : k < rows.length), rows[k].length = sz ∧ R X w rows[k] ds[k]) ∧ Src P w' sz v ds.length rows.flatten := by
  obtain ⟨a, c, rfl, hc, h⟩ := h
  rcases Nat.eq_zero_or_pos ds.length with h0 | h0
  · refine ⟨[], by simp [h0], fun k hk => by omega, ?_⟩
    refine ⟨fun _ => rfl, fun w2 _ => ?_, by simp [h0], fun u hu => by simp at hu⟩
    rw [h0]
    cases a with
    | none => rfl
    | some a => simp [Builtin.firstCells, loadCells, loadCellsFrom]
  · obtain ⟨b, o, _, ha, hbX, _⟩ := h 0 h0
    subst ha
    have hex : ∀ n, n ≤ ds.length → ∃ rows : List (List Value), rows.length = n ∧ (∀ k (hk : k < ds.length) (hk' : k < rows.length), rows[k].length = sz ∧ CellsAt w b (o + k * sz) rows[k] ∧ R X w rows[k] ds[k]) := by
      intro n
      induction n with
      | zero => exact fun _ => ⟨[], rfl, fun k _ hk' => by simp at hk'⟩
      | succ n ih =>
        intro hn
        obtain ⟨rows, hl, hr⟩ := ih (by omega)
        obtain ⟨b', o', vs, hb, _, hlen, hcs, hR⟩ := h n (by omega)
        cases hb
        refine ⟨rows ++ [vs], by simp [hl], fun k hk hk' => ?_⟩
        by_cases hkn : k < n
        · rw [List.getElem_append_left (by omega)]
          exact hr k hk (by omega)
        · obtain rfl : k = n := by simp [hl] at hk'; omega
          rw [List.getElem_append_right (by omega)]
          simp only [hl, Nat.sub_self, List.getElem_cons_zero]
          exact ⟨hlen, hcs, hR⟩
    obtain ⟨rows, hl, hr⟩ := hex ds.length (Nat.le_refl _)
    refine ⟨rows, hl, fun k hk hk' => ⟨(hr k hk hk').1, (hr k hk hk').2.2⟩, ?_⟩
    have hcells : ∀ (rs : List (List Value)) (k : Nat), (∀ j (hj : j < rs.length), rs[j].length = sz ∧ CellsAt w b (o + (k + j) * sz) rs[j]) → CellsAt w b (o + k * sz) rs.flatten := by
      intro rs
      induction rs with
      | nil => intro k _ j v hv; simp at hv
      | cons r rs ih =>
        intro k hk j v hv
        simp only [List.flatten_cons, List.getElem?_append] at hv
        have h0 := hk 0 (by simp)
        split at hv
        · have := h0.2 j v (by simpa using hv)
          simpa using this
        · have hrs := ih (k + 1) (fun j hj => by have := hk (j + 1) (by simpa using hj); simp only [List.getElem_cons_succ] at this; rw [show k + 1 + j = k + (j + 1) by omega]; exact this) (j - r.length) v hv
          have hrl : r.length = sz := h0.1
          rw [show o + k * sz + j = o + (k + 1) * sz + (j - r.length) by rw [Nat.add_mul]; omega]
          exact hrs
    have hlen : ∀ (rs : List (List Value)), (∀ r, r ∈ rs → r.length = sz) → rs.flatten.length = rs.length * sz := by
      intro rs
      induction rs with
      | nil => intro _; simp
      | cons r rs ih => intro hk; simp [ih (fun r hr => hk r (List.mem_cons_of_mem _ hr)), hk r (by simp), Nat.add_mul]; omega
    have hall : ∀ r, r ∈ rows → r.length = sz ∧ ∀ u, u ∈ r → u.oneCell' = true := fun r hr' => by
      obtain ⟨k, hk, rfl⟩ := List.getElem_of_mem hr'
      have := hr k (by omega) hk
      exact ⟨this.1, h1 _ _ _ _ this.2.2⟩
    refine Src.slice (by rw [hlen rows (fun r h => (hall r h).1), hl]) (CellsAt.evo (w := w) (X := X) ?_ he hbX) (fun u hu => by obtain ⟨r, hr', hu'⟩ := List.mem_flatten.1 hu; exact (hall r hr').2 u hu')
    have := hcells rows 0 (fun j hj => ⟨(hr j (by omega) hj).1, by simpa using (hr j (by omega) hj).2.1⟩)
    simpa using this

/-! ### Rows in memory of one's own -/
theorem RSl.fresh {α : Type} {sz : Nat} {R : Rel α} (hsz : 0 < sz) (hR : R.Fresh) {X Y : List Nat} {w : World} {v : Value} {ds : List α} (hy : ∀ y, y ∈ Y → y ∈ X ∨ w.heap.size ≤ y) (h : RSl sz R X w v ds) : RSl sz R Y w v ds := by
  obtain ⟨a, c, hv, hc, h⟩ := h
  refine ⟨a, c, hv, hc, fun k hk => ?_⟩
  obtain ⟨b, o, vs, ha, hb, hl, hcs, hr⟩ := h k hk
  refine ⟨b, o, vs, ha, fun hbY => ?_, hl, hcs, hR _ _ _ _ _ hy hr⟩
  rcases hy b hbY with h1 | h1
  · exact hb h1
  · cases vs with
    | nil => simp at hl; omega
    | cons v0 vs =>
      have := World.block_lt_of_cell? w _ (hcs 0 v0 (by simp))
      simp only at this
      omega
theorem RInt.fresh (k : IntKind) : (RInt k).Fresh := fun _ _ _ _ _ _ h => h
theorem RBool.fresh : RBool.Fresh := fun _ _ _ _ _ _ h => h
theorem RStr.fresh : RStr.Fresh := fun _ _ _ _ _ _ h => h
theorem RStr.one : ∀ X w vs d, RStr X w vs d → ∀ u, u ∈ vs → u.oneCell' = true := fun _ _ _ _ h u hu => by
  cases h; simp at hu; subst hu; rfl
theorem RSlice.fresh {α : Type} {sz : Nat} {R : Rel α} (hsz : 0 < sz) (hR : R.Fresh) : (RSlice sz R).Fresh := fun _ _ _ _ _ hy ⟨v, hv, h⟩ => ⟨v, hv, h.fresh hsz hR hy⟩

def RowsOk {α : Type} (sz : Nat) (R : Rel α) (X : List Nat) (w : World) (rows : List (List Value)) (ds : List α) : Prop :=
  rows.length = ds.length ∧ ∀ k (h : k < ds.length) (h' : k < rows.length), rows[k].length = sz ∧ R X w rows[k] ds[k]
theorem RowsOk.evo {α : Type} {sz : Nat} {R : Rel α} (hR : R.Pers) {X : List Nat} {w w' : World} {rows : List (List Value)} {ds : List α} (h : RowsOk sz R X w rows ds) (he : Evo X w w') : RowsOk sz R X w' rows ds :=
  ⟨h.1, fun k hk hk' => ⟨(h.2 k hk hk').1, hR _ _ _ _ _ he (h.2 k hk hk').2⟩⟩
theorem RowsOk.fresh {α : Type} {sz : Nat} {R : Rel α} (hR : R.Fresh) {X Y : List Nat} {w : World} {rows : List (List Value)} {ds : List α} (hy : ∀ y, y ∈ Y → y ∈ X ∨ w.heap.size ≤ y) (h : RowsOk sz R X w rows ds) : RowsOk sz R Y w rows ds :=
  ⟨h.1, fun k hk hk' => ⟨(h.2 k hk hk').1, hR _ _ _ _ _ hy (h.2 k hk hk').2⟩⟩
theorem RowsOk.set {α : Type} {sz : Nat} {R : Rel α} {X : List Nat} {w : World} {rows : List (List Value)} {ds : List α} (h : RowsOk sz R X w rows ds) {i : Nat} (hi : i < ds.length) {r : List Value} (hl : r.length = sz) (hr : R X w r ds[i]) : RowsOk sz R X w (rows.set i r) ds := by
  refine ⟨by simp [h.1], fun k hk hk' => ?_⟩
  by_cases e : i = k
  · subst e; simp only [List.getElem_set_self]; exact ⟨hl, hr⟩
  · simp only [List.getElem_set_ne e]; exact h.2 k hk (by simpa using hk')
theorem RowsOk.snoc {α : Type} {sz : Nat} {R : Rel α} {X : List Nat} {w : World} {rows : List (List Value)} {ds : List α} (h : RowsOk sz R X w rows ds) {r : List Value} {d : α} (hl : r.length = sz) (hr : R X w r d) : RowsOk sz R X w (rows ++ [r]) (ds ++ [d]) := by
  refine ⟨by simp [h.1], fun k hk hk' => ?_⟩
  by_cases e : k < rows.length
  · rw [List.getElem_append_left e, List.getElem_append_left (by rw [← h.1]; exact e)]; exact h.2 k _ _
  · have : k = rows.length := by simp at hk'; omega
    subst this
    simp [h.1, hl, hr]
theorem RowsOk.nil {α : Type} (sz : Nat) (R : Rel α) (X : List Nat) (w : World) : RowsOk sz R X w [] [] := ⟨rfl, fun k hk => by simp at hk⟩
theorem RowsOk.flen {α : Type} {sz : Nat} {R : Rel α} {X : List Nat} {w : World} {rows : List (List Value)} {ds : List α} (h : RowsOk sz R X w rows ds) : ∀ r, r ∈ rows → r.length = sz := fun r hr => by
  obtain ⟨k, hk, rfl⟩ := List.getElem_of_mem hr
  exact (h.2 k (by rw [← h.1]; exact hk) hk).1

theorem flatten_get {sz : Nat} : ∀ {rows : List (List Value)} (_ : ∀ r, r ∈ rows → r.length = sz) {k j : Nat} (hk : k < rows.length) (_ : j < sz), rows.flatten[k * sz + j]? = rows[k][j]? := by
  intro rows
  induction rows with
  | nil => intro _ k j hk; simp at hk
  | cons r rows ih =>
    intro h k j hk hj
    have hr := h r (by simp)
    cases k with
    | zero => simp [List.getElem?_append, hr, hj]
    | succ k =>
      have := ih (fun r hr => h r (List.mem_cons_of_mem _ hr)) (k := k) (j := j) (by simpa using hk) hj
      simp only [List.flatten_cons, List.getElem?_append, hr, List.getElem_cons_succ]
      rw [if_neg (by rw [Nat.add_mul]; omega), show (k + 1) * sz + j - sz = k * sz + j by rw [Nat.add_mul]; omega, this]
theorem flatten_set {sz : Nat} : ∀ {rows : List (List Value)} (_ : ∀ r, r ∈ rows → r.length = sz) {k j : Nat} (hk : k < rows.length) (_ : j < sz) (v : Value), rows.flatten.set (k * sz + j) v = (rows.set k (rows[k].set j v)).flatten := by
  intro rows
  induction rows with
  | nil => intro _ k j hk; simp at hk
  | cons r rows ih =>
    intro h k j hk hj v
    have hr := h r (by simp)
    cases k with
    | zero => simp [List.set_append, hr, hj]
    | succ k =>
      have := ih (fun r hr => h r (List.mem_cons_of_mem _ hr)) (k := k) (j := j) (by simpa using hk) hj v
      simp only [List.flatten_cons, List.set_append, hr, List.getElem_cons_succ, List.set_cons_succ]
      rw [if_neg (by rw [Nat.add_mul]; omega), show (k + 1) * sz + j - sz = k * sz + j by rw [Nat.add_mul]; omega, this]
theorem flatten_len {sz : Nat} : ∀ {rows : List (List Value)} (_ : ∀ r, r ∈ rows → r.length = sz), rows.flatten.length = rows.length * sz := by
  intro rows
  induction rows with
  | nil => intro _; simp
  | cons r rows ih => intro h; simp [ih (fun r hr => h r (List.mem_cons_of_mem _ hr)), h r (by simp), Nat.add_mul]; omega

theorem OwnS.set {w w' : World} {e : TypeId} {sz : Nat} {a : Option Addr} {n c : Nat} {xs : List Value} {g : Nat} {cur : Array Value} {U : TypeId} {i : Nat} {v : Value} (h : OwnS w e sz a n c xs (some g)) (hb : w.heap[g]? = some (.cells cur U (0, 0))) (hb' : w'.heap[g]? = some (.cells (cur.setIfInBounds i v) U (0, 0))) : OwnS w' e sz a n c (xs.set i v) (some g) := by
  refine ⟨by simp [h.1], ?_⟩
  rcases h.2 with ⟨_, _, h2⟩ | ⟨g', cap, cur', hg, hv, hbb, hn, hc, hs, ht⟩
  · cases h2
  · cases hg
    rw [hb] at hbb
    cases hbb
    refine .inr ⟨g, cap, _, rfl, hv, hb', hn, hc, by simp [hs], ?_⟩
    rw [← ht]
    simp [List.take_set]
theorem OwnS.set' {w w' : World} {e : TypeId} {sz : Nat} {a : Option Addr} {n c : Nat} {xs : List Value} {ob : Option Nat} {g : Nat} {cur : Array Value} {U : TypeId} {i : Nat} {v : Value} (h : OwnS w e sz a n c xs ob) (hg : ob = some g) (hb : w.heap[g]? = some (.cells cur U (0, 0))) (hb' : w'.heap[g]? = some (.cells (cur.setIfInBounds i v) U (0, 0))) : OwnS w' e sz a n c (xs.set i v) ob := by
  subst hg; exact h.set hb hb'
theorem evo_ob {w w' : World} {ob : Option Nat} {g : Nat} (hg : ob = some g) (h : Evo [g] w w') : Evo ob.toList w w' := by subst hg; exact h
theorem OwnS.inb {w : World} {e : TypeId} {sz : Nat} {a : Option Addr} {n c k j o : Nat} {xs : List Value} {ob : Option Nat} {cur : Array Value} (h : OwnS w e sz a n c xs ob) (hs : cur.size = c * sz) (hk : k < n) (hj : j < sz) (ho : o = k * sz + j) : o < cur.size := by
  have h1 := h.le
  have h2 : (k + 1) * sz ≤ c * sz := Nat.mul_le_mul_right _ (by omega)
  rw [hs, ho]
  rw [Nat.add_mul] at h2
  omega
/-- A slice of one's own stands for data. -/
theorem RSl.ofOwn {α : Type} {sz : Nat} {R : Rel α} {X : List Nat} {w : World} {e : TypeId} {a : Option Addr} {n c : Nat} {rows : List (List Value)} {ds : List α} {ob : Option Nat} (h : OwnS w e sz a n c rows.flatten ob) (hr : RowsOk sz R X w rows ds) (hn : ds.length = n) (hx : ∀ g, ob = some g → g ∉ X) :
    RSl sz R X w (.slice a n c) ds := by
  subst hn
  refine ⟨a, c, rfl, h.le, fun k hk => ?_⟩
  obtain ⟨g, hg, ha, hcs⟩ := h.cells (by omega)
  have hk' : k < rows.length := by rw [hr.1]; exact hk
  obtain ⟨h1, h2⟩ := hr.2 k hk hk'
  refine ⟨g, 0, rows[k], ha, hx g hg, h1, fun j v hv => ?_, h2⟩
  have hj : j < sz := by rw [← h1]; exact (List.getElem?_eq_some_iff.1 hv).1
  have := hcs (k * sz + j) v (by rw [flatten_get hr.flen hk' hj]; exact hv)
  rw [show 0 + k * sz + j = 0 + (k * sz + j) by omega]
  exact this
theorem RSl.rows {α : Type} {P : Program} {sz : Nat} {R : Rel α} {X : List Nat} {w w' : World} {v : Value} {ds : List α} (h : RSl sz R X w v ds) (he : Evo X w w') (h1 : ∀ X w vs d, R X w vs d → ∀ u, u ∈ vs → u.oneCell' = true) :
    ∃ rows : List (List Value), RowsOk sz R X w rows ds ∧ Src P w' sz v ds.length rows.flatten := by
  obtain ⟨rows, hl, hr, hs⟩ := h.src (P := P) he h1
  exact ⟨rows, ⟨hl, fun k hk hk' => hr k hk hk'⟩, hs⟩

/-! ### More on one operation -/
section
variable {P : Program} {N : NN} {R : Post} {σ : Env} {w : World} {ops : Array Oper} {rest : List Oper} {dst : Option Nat} {d : Nat} {op : Op} {T : TypeId} {pos : String} {after : Array Edge} {g : Option (Nat × Bool)}
theorem ex_indexAddrZ {x i : Operand} {t : TypeId} {k : IntKind} {z : Int} {n sz b o len c : Nat} (hx : σ.ev x = some (.slice (some ⟨b, o, none⟩) len c)) (hi : σ.ev i = some (.int k z)) (hz : z = n) (he : elemB P t = some sz) (hlt : n < len) :
    Ex P σ ⟨dst, .indexAddr t x i, T, pos, after, g⟩ w (.pointer (some ⟨b, o + n * sz, none⟩)) w := ex_indexAddr hx (by rw [hi, hz]) he hlt

theorem run_equal_bool {t : TypeId} (a b : Bool) (w : World) (ht : P.underlying t = some .bool) : (Op.equal t (.bool a) (.bool b)).run P w = .ok (a == b) w := run_equalIn_bool w 9999 t a b ht
theorem ex_eqB {x y : Operand} {t t' : TypeId} {a b : Bool} (hx : σ.ev x = some (.bool a)) (hy : σ.ev y = some (.bool b)) (ht : P.underlying t = some .bool) : Ex P σ ⟨dst, .binOp .eql t x y t', T, pos, after, g⟩ w (.bool (a == b)) w := fun ρ h => by
  have := run_equal_bool (P := P) a b w ht
  simp [execOp, h x _ hx, h y _ hy, eqGuard, Go.binOp, this]
theorem ex_neqB {x y : Operand} {t t' : TypeId} {a b : Bool} (hx : σ.ev x = some (.bool a)) (hy : σ.ev y = some (.bool b)) (ht : P.underlying t = some .bool) : Ex P σ ⟨dst, .binOp .neq t x y t', T, pos, after, g⟩ w (.bool (!(a == b))) w := fun ρ h => by
  have := run_equal_bool (P := P) a b w ht
  simp [execOp, h x _ hx, h y _ hy, eqGuard, Go.binOp, this]
theorem ex_eqb {x y : Operand} {t t' : TypeId} {p q : Prop} [Decidable p] [Decidable q] (hx : σ.ev x = some (.bool (decide p))) (hy : σ.ev y = some (.bool (decide q))) (ht : P.underlying t = some .bool) : Ex P σ ⟨dst, .binOp .eql t x y t', T, pos, after, g⟩ w (.bool (decide (p ↔ q))) w := by
  have := ex_eqB (T := T) (pos := pos) (after := after) (g := g) (dst := dst) (t' := t') (w := w) hx hy ht
  rwa [show (decide p == decide q) = decide (p ↔ q) from by by_cases hp : p <;> by_cases hq : q <;> simp [hp, hq]] at this
theorem ex_neqb {x y : Operand} {t t' : TypeId} {p q : Prop} [Decidable p] [Decidable q] (hx : σ.ev x = some (.bool (decide p))) (hy : σ.ev y = some (.bool (decide q))) (ht : P.underlying t = some .bool) : Ex P σ ⟨dst, .binOp .neq t x y t', T, pos, after, g⟩ w (.bool (decide (¬ (p ↔ q)))) w := by
  have := ex_neqB (T := T) (pos := pos) (after := after) (g := g) (dst := dst) (t' := t') (w := w) hx hy ht
  rwa [show (!(decide p == decide q)) = decide (¬ (p ↔ q)) from by by_cases hp : p <;> by_cases hq : q <;> simp [hp, hq]] at this

theorem wanted_undef {j : Nat} {pol : Bool} {oj : Oper} {t : Nat} {a : Act} (hj : ops[j]? = some oj) (ht : oj.dst = some t) (hv : σ.get t = some undef) (ha : Fits N σ a) (hN : Nat.blt t N.1 = true) :
    Region.wanted (⟨dst, op, T, pos, after, some (j, pol)⟩ : Oper) (yielded ops a.tmps) = false := by
  have hs : t < a.tmps.size := by rw [ha.1]; exact of_decide_eq_true (by simpa using hN)
  have := ha.2.2 t _ hv
  simp only [Array.getD_eq_getD_getElem?, Array.getElem?_eq_getElem hs, Option.getD_some] at this
  simp [Region.wanted, yielded, hj, ht, Array.getElem?_eq_getElem hs, this, undef]
theorem wl_nou {j : Nat} {pol : Bool} {oj : Oper} {t : Nat} (hj : ops[j]? = some oj) (ht : oj.dst = some t) (hv : σ.get t = some undef) (hN : Nat.blt t N.1 = true) (hd : Nat.blt d N.1 = true)
    (h : WL P N ops R rest ((d, undef) :: σ) w) : WL P N ops R (⟨some d, op, T, pos, after, some (j, pol)⟩ :: rest) σ w := fun a ha => by
  unfold wpList
  rw [if_neg (by rw [wanted_undef hj ht hv ha hN]; simp)]
  exact h _ (ha.put (of_decide_eq_true (by simpa using hd)) _)
theorem ql_nou {j : Nat} {pol : Bool} {oj : Oper} {t : Nat} (hj : ops[j]? = some oj) (ht : oj.dst = some t) (hv : σ.get t = some undef) (hN : Nat.blt t N.1 = true) (hd : Nat.blt d N.1 = true)
    (h : QL P N ops w R rest ((d, undef) :: σ)) : QL P N ops w R (⟨some d, op, T, pos, after, some (j, pol)⟩ :: rest) σ := fun a ha => by
  unfold wpQuiet
  rw [if_neg (by rw [wanted_undef hj ht hv ha hN]; simp)]
  exact h _ (ha.put (of_decide_eq_true (by simpa using hd)) _)
end

/-! ### Strings held against one another -/
section
variable {P : Program} {σ : Env} {w : World} {dst : Option Nat} {T : TypeId} {pos : String} {after : Array Edge} {g : Option (Nat × Bool)}
theorem toList_inj {a b : ByteArray} (h : a.toList = b.toList) : a = b := by
  rw [ByteArray.toList_eq, ByteArray.toList_eq] at h
  obtain ⟨⟨x⟩⟩ := a
  obtain ⟨⟨y⟩⟩ := b
  simp at h
  subst h
  rfl
theorem toList_eq_iff (a b : ByteArray) : (a.toList == b.toList) = decide (a = b) := by
  by_cases h : a = b
  · subst h; simp
  · rw [decide_eq_false h]
    exact beq_eq_false_iff_ne.2 (fun h2 => h (toList_inj h2))
theorem ex_eqs {x y : Operand} {t t' : TypeId} {a b : ByteArray} (hx : σ.ev x = some (.string a)) (hy : σ.ev y = some (.string b)) : Ex P σ ⟨dst, .binOp .eql t x y t', T, pos, after, g⟩ w (.bool (decide (a = b))) w := fun ρ h => by
  simp [execOp, h x _ hx, h y _ hy, eqGuard, Go.binOp, Op.stringOp, toList_eq_iff]
theorem ex_neqs {x y : Operand} {t t' : TypeId} {a b : ByteArray} (hx : σ.ev x = some (.string a)) (hy : σ.ev y = some (.string b)) : Ex P σ ⟨dst, .binOp .neq t x y t', T, pos, after, g⟩ w (.bool (decide (¬ a = b))) w := fun ρ h => by
  simp [execOp, h x _ hx, h y _ hy, eqGuard, Go.binOp, Op.stringOp, toList_eq_iff]
end

/-! ### Whatever order -/
/-- Every other operation of the region has come up before j. -/
def lastB (md : Region.Mode) (ops : Array Oper) (j : Nat) : Bool :=
  (List.range ops.size).all fun k => k == j || match ops[j]? with
    | some oj => oj.after.any fun e => Region.binds md e && e.on == k
    | none => false

/-- Whatever order is picked; behind each operation S holds, but behind the last one. -/
def AnyG (P : Program) (md : Region.Mode) (ops : Array Oper) (Q : Exit → Act → World → Prop) (S : World → Prop) : Nat → Array Bool → Act → World → Prop
  | 0, listed, a, w => Region.ready md ops listed = [] ∧ Q .normal a w
  | fuel + 1, listed, a, w => (Region.ready md ops listed = [] → Q .normal a w) ∧
    ∀ i ∈ Region.ready md ops listed, wpOp P ops Q i (fun a' w' => (S w' ∨ lastB md ops i = true) ∧ AnyG P md ops Q S fuel (listed.setIfInBounds i true) a' w') a w

section
variable {P : Program} {ops : Array Oper} {Q : Exit → Act → World → Prop} {md : Region.Mode} {S : World → Prop}

theorem any_of_g : ∀ (fuel : Nat) (listed : Array Bool) (a : Act) (w : World), AnyG P md ops Q S fuel listed a w → wpAny P md ops Q fuel listed a w
  | 0, _, _, _, h => h
  | fuel + 1, _, _, _, h => ⟨h.1, fun i hi => wpOp_mono (fun a' w' h' => any_of_g fuel _ a' w' h'.2) (h.2 i hi)⟩

theorem anyG_first {i : Nat} {oi : Oper} {v : Value} (hi : ops[i]? = some oi) (hsel : ∀ (j : Nat) (o : Oper) cs b, ops[j]? = some o → o.op ≠ .select cs b)
    (hQ : ∀ c a w, Q (.panic c) (a.put oi.dst v) w → Q (.panic c) a w) :
    ∀ (fuel : Nat) (listed : Array Bool) (a : Act) (w : World),
      (∀ j oj, ops[j]? = some oj → j ≠ i → listed.getD j true = false → (∀ e ∈ oj.after, Region.binds md e = true → e.on ≠ i) → oi.apart ops oj = true) →
      i ∈ Region.ready md ops listed → YieldsIf P ops S oi v a → S w →
      AnyG P md ops Q S fuel (listed.setIfInBounds i true) (a.put oi.dst v) w → AnyG P md ops Q S (fuel + 1) listed a w := by
  intro fuel
  induction fuel with
  | zero =>
    intro listed a w _ hr hy hS H
    refine ⟨fun h => (by rw [h] at hr; cases hr), fun j hj => ?_⟩
    by_cases hji : j = i
    · subst hji; exact hy.wpOp hi hS ⟨.inl hS, H⟩
    · have := ready_mono hj hji
      rw [H.1] at this
      cases this
  | succ fuel ih =>
    intro listed a w hfree hr hy hS H
    refine ⟨fun h => (by rw [h] at hr; cases hr), fun j hj => ?_⟩
    by_cases hji : j = i
    · subst hji; exact hy.wpOp hi hS ⟨.inl hS, H⟩
    · have h1 := H.2 j (ready_mono hj hji)
      obtain ⟨hjun, oj, hoj, hall⟩ := mem_ready.1 hj
      have hnot : ∀ e ∈ oj.after, Region.binds md e = true → e.on ≠ i := fun e he hb heq => by
        have h1 := hall e he hb
        have h0 := (mem_ready.1 hr).1
        rw [heq] at h1
        rcases Nat.lt_or_ge i listed.size with h' | h'
        · simp [h'] at h0 h1; rw [h0] at h1; cases h1
        · simp [Array.getElem?_eq_none h'] at h1
      have hlast : lastB md ops j ≠ true := fun hl => by
        have hlt : i < ops.size := (Array.getElem?_eq_some_iff.1 hi).1
        have h2 := List.all_eq_true.1 hl i (List.mem_range.2 hlt)
        rw [hoj] at h2
        simp only [Bool.or_eq_true, beq_iff_eq] at h2
        rcases h2 with h2 | h2
        · exact hji h2.symm
        · obtain ⟨e, he, hb⟩ := Array.any_eq_true'.1 h2
          simp only [Bool.and_eq_true, beq_iff_eq] at hb
          exact hnot e he hb.1 hb.2
      have h2 := wpOp_putIf hoj (hfree j oj hoj hji hjun hnot) (fun cs b => hsel i oi cs b hi) (fun cs b => hsel j oj cs b hoj) hQ hy h1
      have hfree' : ∀ k ok, ops[k]? = some ok → k ≠ i → (listed.setIfInBounds j true).getD k true = false →
          (∀ e ∈ ok.after, Region.binds md e = true → e.on ≠ i) → oi.apart ops ok = true := fun k ok hk hki hun hno => by
        refine hfree k ok hk hki ?_ hno
        by_cases hjk : j = k
        · subst hjk; exact hjun
        · rw [getD_set_ne true hjk] at hun; exact hun
      refine wpOp_mono (fun a' w' h3 => ?_) h2
      have hS' : S w' := h3.2.1.resolve_right hlast
      refine ⟨.inl hS', ih (listed.setIfInBounds j true) a' w' hfree' (ready_mono hr (Ne.symm hji)) h3.1 hS' ?_⟩
      rw [Array.setIfInBounds_comm _ _ hji]
      exact h3.2.2
end

def AE (P : Program) (N : NN) (ops : Array Oper) (R : Post) (S : World → Prop) (fuel : Nat) (listed : Array Bool) (σ : Env) (w : World) : Prop :=
  ∀ a, Fits N σ a → AnyG P .any ops (toQ R) S fuel listed a w

def AStep (P : Program) (N : NN) (ops : Array Oper) (R : Post) (S : World → Prop) (fuel : Nat) (listed : Array Bool) (σ : Env) (w : World) (i : Nat) : Prop :=
  ∀ a, Fits N σ a → wpOp P ops (toQ R) i (fun a' w' => (S w' ∨ lastB .any ops i = true) ∧ AnyG P .any ops (toQ R) S fuel (listed.setIfInBounds i true) a' w') a w

def AAll (p : Nat → Prop) : List Nat → Prop
  | [] => True
  | i :: r => p i ∧ AAll p r

section
variable {P : Program} {N : NN} {R : Post} {σ : Env} {w : World} {ops : Array Oper} {S : World → Prop} {fuel : Nat} {listed : Array Bool} {d : Nat} {op : Op} {T : TypeId} {pos : String} {after : Array Edge}

theorem cw_any {id : Nat} {l : List Oper} (S : World → World → Prop) (hm : P.follows .mixedOrders = true)
    (h : ∀ w1, Evo [] w w1 → AE P N l.toArray R (S w1) l.toArray.size (Array.replicate l.toArray.size false) σ w1) : CW P N (.region id l.toArray true) R σ w :=
  fun a ha => wp_region_any hm (any_of_g _ _ _ _ (h _ (evo_drew w) a ha))

theorem toQ_put {R : Post} {dst : Option Nat} {v : Value} : ∀ c a w, toQ R (.panic c) (a.put dst v) w → toQ R (.panic c) a w := by
  intro c a w h
  cases dst <;> exact h

theorem ae_take (i : Nat) {r : Value} (hi : ops[i]? = some ⟨some d, op, T, pos, after, none⟩) (hs : Region.noSelect ops = true) (hf : Region.free .any ops listed i = true) (hr : (Region.ready .any ops listed).contains i = true)
    (hd : Nat.blt d N.1 = true) (hx : ∀ w', S w' → Ex P σ ⟨some d, op, T, pos, after, none⟩ w' r w') (hS : S w) (h : AE P N ops R S fuel (listed.setIfInBounds i true) ((d, r) :: σ) w) : AE P N ops R S (fuel + 1) listed σ w := fun a ha =>
  anyG_first hi (Region.noSelect_spec hs) (fun c a w => toQ_put c a w) fuel listed a w (Region.free_spec hi hf) (by simpa using hr)
    (.inl ⟨by simp [Region.wanted], fun w' hw' => hx w' hw' a.eval ha.agrees⟩) hS (h _ (ha.put (of_decide_eq_true (by simpa using hd)) r))

/-- A guarded operation that is carried out, taken first. -/
theorem ae_takeG (i : Nat) {j : Nat} {pol : Bool} {oj : Oper} {t : Nat} {r : Value} (hj : ops[j]? = some oj) (ht : oj.dst = some t) (hv : σ.get t = some (.bool pol)) (hN : Nat.blt t N.1 = true)
    (hi : ops[i]? = some ⟨some d, op, T, pos, after, some (j, pol)⟩) (hs : Region.noSelect ops = true) (hf : Region.free .any ops listed i = true) (hr : (Region.ready .any ops listed).contains i = true)
    (hd : Nat.blt d N.1 = true) (hx : ∀ w', S w' → Ex P σ ⟨some d, op, T, pos, after, some (j, pol)⟩ w' r w') (hS : S w) (h : AE P N ops R S fuel (listed.setIfInBounds i true) ((d, r) :: σ) w) : AE P N ops R S (fuel + 1) listed σ w := fun a ha => by
  have hg : Region.wanted (⟨some d, op, T, pos, after, some (j, pol)⟩ : Oper) (yielded ops a.tmps) = true := by
    have hs : t < a.tmps.size := by rw [ha.1]; exact of_decide_eq_true (by simpa using hN)
    have := ha.2.2 t _ hv
    simp only [Array.getD_eq_getD_getElem?, Array.getElem?_eq_getElem hs, Option.getD_some] at this
    simp [Region.wanted, yielded, hj, ht, Array.getElem?_eq_getElem hs, this]
  exact anyG_first hi (Region.noSelect_spec hs) (fun c a w => toQ_put c a w) fuel listed a w (Region.free_spec hi hf) (by simpa using hr)
    (.inl ⟨hg, fun w' hw' => hx w' hw' a.eval ha.agrees⟩) hS (h _ (ha.put (of_decide_eq_true (by simpa using hd)) r))
/-- A guarded operation that is passed over, taken first. -/
theorem ae_takeN (i : Nat) {j : Nat} {pol b : Bool} {oj : Oper} {t : Nat} (hj : ops[j]? = some oj) (ht : oj.dst = some t) (hv : σ.get t = some (.bool b)) (hb : b = !pol) (hN : Nat.blt t N.1 = true)
    (hi : ops[i]? = some ⟨some d, op, T, pos, after, some (j, pol)⟩) (hs : Region.noSelect ops = true) (hf : Region.free .any ops listed i = true) (hr : (Region.ready .any ops listed).contains i = true)
    (hd : Nat.blt d N.1 = true) (hS : S w) (h : AE P N ops R S fuel (listed.setIfInBounds i true) ((d, undef) :: σ) w) : AE P N ops R S (fuel + 1) listed σ w := fun a ha => by
  have hg : Region.wanted (⟨some d, op, T, pos, after, some (j, pol)⟩ : Oper) (yielded ops a.tmps) = false := by
    have hs : t < a.tmps.size := by rw [ha.1]; exact of_decide_eq_true (by simpa using hN)
    have := ha.2.2 t _ hv
    simp only [Array.getD_eq_getD_getElem?, Array.getElem?_eq_getElem hs, Option.getD_some] at this
    subst hb
    cases pol <;> simp [Region.wanted, yielded, hj, ht, Array.getElem?_eq_getElem hs, this]
  exact anyG_first hi (Region.noSelect_spec hs) (fun c a w => toQ_put c a w) fuel listed a w (Region.free_spec hi hf) (by simpa using hr)
    (.inr ⟨hg, rfl⟩) hS (h _ (ha.put (of_decide_eq_true (by simpa using hd)) _))

theorem ae_takeU (i : Nat) {j : Nat} {pol : Bool} {oj : Oper} {t : Nat} (hj : ops[j]? = some oj) (ht : oj.dst = some t) (hv : σ.get t = some undef) (hN : Nat.blt t N.1 = true)
    (hi : ops[i]? = some ⟨some d, op, T, pos, after, some (j, pol)⟩) (hs : Region.noSelect ops = true) (hf : Region.free .any ops listed i = true) (hr : (Region.ready .any ops listed).contains i = true)
    (hd : Nat.blt d N.1 = true) (hS : S w) (h : AE P N ops R S fuel (listed.setIfInBounds i true) ((d, undef) :: σ) w) : AE P N ops R S (fuel + 1) listed σ w := fun a ha =>
  anyG_first hi (Region.noSelect_spec hs) (fun c a w => toQ_put c a w) fuel listed a w (Region.free_spec hi hf) (by simpa using hr)
    (.inr ⟨wanted_undef hj ht hv ha hN, rfl⟩) hS (h _ (ha.put (of_decide_eq_true (by simpa using hd)) _))

theorem ae_loud (rs : List Nat) (hr : Region.ready .any ops listed = rs) (hne : rs.isEmpty = false) (h : AAll (AStep P N ops R S fuel listed σ w) rs) : AE P N ops R S (fuel + 1) listed σ w := fun a ha => by
  refine ⟨fun h0 => ?_, ?_⟩
  · rw [hr] at h0; subst h0; cases hne
  · rw [hr]
    clear hr hne
    induction rs with
    | nil => intro i hi; cases hi
    | cons j rs ih =>
      intro i hi
      rcases List.mem_cons.1 hi with rfl | hi
      · exact h.1 a ha
      · exact ih h.2 i hi

theorem a_step {i : Nat} {o : Oper} (hi : ops[i]? = some o) (h : WL P N ops (thenR (fun N' σ' w' => N' = N ∧ (S w' ∨ lastB .any ops i = true) ∧ AE P N ops R S fuel (listed.setIfInBounds i true) σ' w') R) [o] σ w) : AStep P N ops R S fuel listed σ w i := fun a ha => by
  have h1 := h a ha
  unfold wpList at h1
  unfold wpOp
  simp only [hi]
  have conv : ∀ a' w', toQ (thenR (fun N' σ' w' => N' = N ∧ (S w' ∨ lastB .any ops i = true) ∧ AE P N ops R S fuel (listed.setIfInBounds i true) σ' w') R) .normal a' w' →
      (S w' ∨ lastB .any ops i = true) ∧ AnyG P .any ops (toQ R) S fuel (listed.setIfInBounds i true) a' w' := by
    rintro a' w' ⟨N', σ', hf, rfl, hs, hae⟩
    exact ⟨hs, hae a' hf⟩
  split
  · rename_i hw
    rw [if_pos hw] at h1
    rcases h1 with h1 | ⟨h1, a0, w0, h2⟩
    · refine .inl ?_
      unfold Oper.wp at h1 ⊢
      generalize (execOp a.eval o).run P w = r at *
      cases r with
      | ok n w' =>
        cases n <;> simp only [Oper.upon] at h1 ⊢
        case value u => exact conv _ _ (by simpa [wpList] using h1)
        case skip => exact conv _ _ (by simpa [wpList] using h1)
        case defer d => exact conv _ _ (by simpa [wpList] using h1)
        case enter f args =>
          refine h1.mono fun e w'' he => ?_
          cases e with
          | returned u => exact conv _ _ (by simpa [wpList] using he)
          | panicked c => exact he
          | outgrown => obtain ⟨a0, w0, h2⟩ := he; exact ⟨a0, w0, h2⟩
        case row row args => exact h1.mono fun u w'' he => conv _ _ (by simpa [wpList] using he)
      | halt x w' =>
        cases x <;> simp only [Oper.upon] at h1 ⊢
        case panic u => exact h1
    · exact .inr ⟨h1, a0, w0, h2⟩
  · rename_i hw
    rw [if_neg hw] at h1
    exact conv _ _ (by simpa [wpList] using h1)

theorem ae_split {t : Nat} {p : Prop} [Decidable p] (hv : σ.get t = some (.bool (decide p))) (ht : p → AE P N ops R S fuel listed ((t, .bool true) :: σ) w) (hf : ¬ p → AE P N ops R S fuel listed ((t, .bool false) :: σ) w) : AE P N ops R S fuel listed σ w := by
  intro a ha
  by_cases h : p
  · exact ht h a (ha.split hv (decide_eq_true h))
  · exact hf h a (ha.split hv (decide_eq_false h))
theorem ae_splitb {t : Nat} {b : Bool} (hv : σ.get t = some (.bool b)) (ht : b = true → AE P N ops R S fuel listed ((t, .bool true) :: σ) w) (hf : b = false → AE P N ops R S fuel listed ((t, .bool false) :: σ) w) : AE P N ops R S fuel listed σ w := by
  intro a ha
  cases b with
  | true => exact ht rfl a (ha.split hv rfl)
  | false => exact hf rfl a (ha.split hv rfl)

theorem ae_next {i : Nat} {w : World} (hS : S w ∨ lastB .any ops i = true) (h : AE P N ops R S fuel (listed.setIfInBounds i true) σ w) :
    thenR (fun N' σ' w' => N' = N ∧ (S w' ∨ lastB .any ops i = true) ∧ AE P N ops R S fuel (listed.setIfInBounds i true) σ' w') R .normal N σ w := ⟨rfl, hS, h⟩

theorem ae_done (hr : Region.ready .any ops listed = []) (h : R .normal N σ w) : AE P N ops R S fuel listed σ w := fun a ha => by
  cases fuel with
  | zero => exact ⟨hr, N, σ, ha, h⟩
  | succ n => exact ⟨fun _ => ⟨N, σ, ha, h⟩, by rw [hr]; intro i hi; cases hi⟩

/-- What is known at a place, named; what follows is shown from that alone. -/
theorem cw_cut {c : Code} {α : Type} (M : α → Env) (C : Env) (Φ : α → World → Prop) (_hC : Sub C σ) (h1 : CW P N c (thenR (fun N' σ' w' => N' = N ∧ ∃ x, Sub (M x) σ' ∧ Sub C σ' ∧ Φ x w') R) σ w) (h2 : ∀ x w', Φ x w' → R .normal N (M x ++ C) w') : CW P N c R σ w := fun a ha => by
  refine wp_mono (h1 a ha) ?_
  intro e a' w' hq
  cases e with
  | normal => obtain ⟨N', σ', hf, rfl, x, hM, hC, hΦ⟩ := hq; exact ⟨N', M x ++ C, Fits.app hM hC hf hf, h2 x w' hΦ⟩
  | exit i => exact hq
  | goto l => exact hq
  | ret => exact hq
  | panic c => exact hq
  | outgrown => exact hq

/-! ### Structs built -/
structure Build (P : Program) (t : TypeId) (places : Array (Nat × Nat)) (zero : Array Value) : Prop where
  ex : ∃ fs z, P.underlying t = some (.struct fs) ∧ (P.info? t).bind (·.zero) = some z ∧ z.cells = zero ∧ ∀ w, (fs.mapM (fun (f : Field) => do pure (f.offset, ← sizeOf f.type)) : Sem (Array (Nat × Nat))).run P w = .ok places w

def nthP : List (Nat × Nat) → Nat → Option (Nat × Nat)
  | [], _ => none
  | a :: _, 0 => some a
  | _ :: l, n + 1 => nthP l n
theorem nthP_eq : ∀ (l : List (Nat × Nat)) (n : Nat), nthP l n = l[n]?
  | [], _ => by simp [nthP]
  | _ :: _, 0 => by simp [nthP]
  | _ :: l, n + 1 => by simp [nthP, nthP_eq l n]
def setRange : List Value → Nat → List Value → List Value
  | l, _, [] => l
  | l, o, v :: r => setRange (l.set o v) (o + 1) r
def fillL (places : List (Nat × Nat)) : List Value → List (Nat × Value) → Option (List Value)
  | cells, [] => some cells
  | cells, (i, v) :: rest =>
    match nthP places i with
    | none => none
    | some (off, size) => cond (Nat.beq v.cells.toList.length size) (cond (Nat.ble (off + size) cells.length) (fillL places (setRange cells off v.cells.toList) rest) none) none
theorem setRange_len : ∀ (r l : List Value) (o : Nat), (setRange l o r).length = l.length
  | [], _, _ => rfl
  | v :: r, l, o => by simp [setRange, setRange_len r]
theorem setRange_eq (off : Nat) : ∀ (r l : List Value) (j : Nat), (r.zipIdx j).foldl (fun (cs : Array Value) x => cs.setIfInBounds (off + x.2) x.1) l.toArray = (setRange l (off + j) r).toArray
  | [], _, _ => by simp [setRange]
  | v :: r, l, j => by
    have := setRange_eq off r (l.set (off + j) v) (j + 1)
    simp only [List.zipIdx_cons, List.foldl_cons, List.setIfInBounds_toArray, setRange]
    rw [this, Nat.add_assoc]
theorem fillL_eq {places : Array (Nat × Nat)} : ∀ (vs : List (Nat × Value)) (cells r : List Value), fillL places.toList cells vs = some r → Instr.fill (fun i => places[i]?) cells.toArray vs = some r.toArray
  | [], cells, r, h => by simp only [fillL, Option.some.injEq] at h; subst h; simp [Instr.fill]
  | (i, v) :: vs, cells, r, h => by
    simp only [fillL, nthP_eq, Array.getElem?_toList] at h
    simp only [Instr.fill]
    cases hp : places[i]? with
    | none => rw [hp] at h; cases h
    | some os =>
      obtain ⟨off, size⟩ := os
      rw [hp] at h
      simp only at h
      cases hb : Nat.beq v.cells.toList.length size with
      | false => rw [hb] at h; cases h
      | true =>
        rw [hb] at h
        cases hl : Nat.ble (off + size) cells.length with
        | false => rw [hl] at h; cases h
        | true =>
          rw [hl] at h
          have h1 : v.cells.size = size := by simpa using Nat.eq_of_beq_eq_true hb
          have h2 : off + size ≤ cells.length := Nat.le_of_ble_eq_true hl
          simp only [cond_true] at h
          have := setRange_eq off v.cells.toList cells 0
          simp only
          rw [if_neg (by simp [h1, h2]), ← Array.foldl_toList, Array.toList_zipIdx, this]
          exact fillL_eq vs _ r h

theorem ex_build {t : TypeId} {parts : Array (Nat × Operand)} {vs : List (Nat × Value)} {places : Array (Nat × Nat)} {zero cells : List Value} {dst : Option Nat} {g : Option (Nat × Bool)} (hB : Build P t places zero.toArray)
    (hp : parts.toList.map (fun p => (p.1, σ.ev p.2)) = vs.map (fun q => (q.1, some q.2))) (hf' : fillL places.toList zero vs = some cells) : Ex P σ ⟨dst, .build t parts, T, pos, after, g⟩ w (.agg cells.toArray) w := fun ρ ha => by
  have hf := fillL_eq vs zero cells hf'
  obtain ⟨fs, z, hu, hz, hzc, hr⟩ := hB.ex
  obtain ⟨i, hi, hz'⟩ := Option.bind_eq_some_iff.1 hz
  have hparts : (parts.map fun p => (p.1, ρ p.2)).toList = vs := by
    rw [Array.toList_map]
    clear hf hf'
    revert hp
    generalize parts.toList = l
    intro hp
    induction l generalizing vs with
    | nil => cases vs with | nil => rfl | cons _ _ => simp at hp
    | cons p l ih =>
      cases vs with
      | nil => simp at hp
      | cons x q =>
        simp only [List.map_cons, List.cons.injEq, Prod.mk.injEq] at hp ⊢
        exact ⟨Prod.ext hp.1.1 (ha _ _ hp.1.2), ih hp.2⟩
  rw [Array.toList_map] at hparts
  have hr' := hr w
  simp only [execOp, Instr.build, zeroValue, typeInfo, Sem.run_bind, run_program, Result.andThen_ok, hi, hz', Sem.run_pure, run_underlying hu, hr', hzc, Array.toList_map, hparts, hf]

theorem wl_store1L {rest : List Oper} {t U : TypeId} {x y : Operand} {v : Value} {b o : Nat} {cs : Array Value} (hx : σ.ev x = some (.pointer (some ⟨b, o, none⟩))) (hy : σ.ev y = some v) (h1 : v.oneCell' = true) (hs : sizeB P t = some 1)
    (hb : w.heap[b]? = some (.cells cs U (0, 0))) (hle : o < cs.size)
    (h : ∀ w', w'.heap[b]? = some (.cells (cs.setIfInBounds o v) U (0, 0)) → Evo [b] w w' → WL P N ops R rest σ w') :
    WL P N ops R (⟨none, .store t x y, T, pos, after, none⟩ :: rest) σ w := wl_store1 hx hy h1 hs hb (by simpa using hle) h

theorem ex_makeFunc {f : Fn} {xs : Array Operand} {vs : List Value} {dst : Option Nat} {g : Option (Nat × Bool)} (hxs : xs.toList.map σ.ev = vs.map some) :
    Ex P σ ⟨dst, .makeFunc f #[] xs, T, pos, after, g⟩ w (.func f #[] vs.toArray) w := fun ρ ha => by
  have hargs : xs.map ρ = vs.toArray := by
    apply Array.ext'
    rw [Array.toList_map]
    revert hxs
    generalize xs.toList = l
    intro hxs
    induction l generalizing vs with
    | nil => cases vs with | nil => rfl | cons _ _ => simp at hxs
    | cons x l ih =>
      cases vs with
      | nil => simp at hxs
      | cons v vs =>
        simp only [List.map_cons, List.cons.injEq] at hxs
        simp only [List.map_cons, ha x v hxs.1]
        exact congrArg _ (ih hxs.2)
  simp [execOp, Instr.makeFunc, hargs]

theorem ex_extract {x : Operand} {vs : Array Value} {i : Nat} {v : Value} {dst : Option Nat} {g : Option (Nat × Bool)} (hx : σ.ev x = some (.tuple vs)) (hv : vs[i]? = some v) : Ex P σ ⟨dst, .extract x i, T, pos, after, g⟩ w v w := fun ρ ha => by
  simp [execOp, ha x _ hx, Instr.extract, hv]

/-- A call of a function value. -/
theorem wl_callv {rest : List Oper} {dst : Option Nat} {fv : Operand} {f : FuncId} {cap : List Value} {xs : Array Operand} {ats : Array TypeId} {vs : List Value} {Φ : Value → World → Prop} (hgo : Goes P f) (hfv : σ.ev fv = some (.func (.func f) #[] cap.toArray)) (hxs : xs.toList.map σ.ev = vs.map some)
    (hc : Calls P f (vs ++ cap).toArray w (Ret Φ)) (hd : ∀ k, dst = some k → Nat.blt k N.1 = true)
    (h : ∀ v w', Φ v w' → WL P N ops R rest (match dst with | some k => (k, v) :: σ | none => σ) w') :
    WL P N ops R (⟨dst, .call ⟨.value fv, xs, ats⟩, T, pos, after, none⟩ :: rest) σ w := fun a ha => wpList_plain rfl fun K hK => by
  have hargs : xs.map a.eval = vs.toArray := by
    apply Array.ext'
    rw [Array.toList_map]
    have hag := ha.agrees
    clear hK hc h ha
    generalize xs.toList = l at *
    clear xs
    revert vs
    induction l with
    | nil => intro vs hxs; cases vs with | nil => rfl | cons _ _ => simp at hxs
    | cons x l ih =>
      intro vs hxs
      cases vs with
      | nil => simp at hxs
      | cons v vs =>
        simp only [List.map_cons, List.cons.injEq] at hxs
        simp only [List.map_cons, hag x v hxs.1]
        exact congrArg _ (ih hxs.2)
  obtain ⟨fn, hf, hn, hbd⟩ := hgo
  have hn' : ¬ fn.name = "runtime.NumGoroutine" := by simpa using hn
  have hb' : ¬ fn.body = none := by intro hh; simp [hh] at hbd
  unfold Oper.wp
  have hrun : (execOp a.eval ⟨dst, .call ⟨.value fv, xs, ats⟩, T, pos, after, none⟩).run P w = .ok (.enter f (vs ++ cap).toArray) w := by
    simp only [execOp, resolve, hargs, ha.agrees fv _ hfv]
    simp [Deferred.ofValue, invoke, callFunc, hf, hn', hb']
  rw [hrun]
  show Calls P f (vs ++ cap).toArray w _
  refine hc.mono ?_
  rintro e w' ⟨v, rfl, hΦ⟩
  cases dst with
  | none => exact hK _ _ (h v w' hΦ a ha)
  | some k => exact hK _ _ (h v w' hΦ _ (ha.put (of_decide_eq_true (by simpa using hd k rfl)) v))

/-- With a place for what comes back. -/
theorem wl_call1 {rest : List Oper} {f : FuncId} {xs : Array Operand} {ats : Array TypeId} {vs : List Value} {Φ : Value → World → Prop} (hgo : Goes P f) (hxs : xs.toList.map σ.ev = vs.map some)
    (hc : Calls P f vs.toArray w (Ret Φ)) (hd : Nat.blt d N.1 = true) (h : ∀ v w', Φ v w' → WL P N ops R rest ((d, v) :: σ) w') :
    WL P N ops R (⟨some d, .call ⟨.value (.func f), xs, ats⟩, T, pos, after, none⟩ :: rest) σ w := wl_call hgo hxs hc (fun k hk => by cases hk; exact hd) h
theorem wl_call0 {rest : List Oper} {f : FuncId} {xs : Array Operand} {ats : Array TypeId} {vs : List Value} {Φ : Value → World → Prop} (hgo : Goes P f) (hxs : xs.toList.map σ.ev = vs.map some)
    (hc : Calls P f vs.toArray w (Ret Φ)) (h : ∀ v w', Φ v w' → WL P N ops R rest σ w') :
    WL P N ops R (⟨none, .call ⟨.value (.func f), xs, ats⟩, T, pos, after, none⟩ :: rest) σ w := wl_call hgo hxs hc (fun k hk => by cases hk) h
theorem wl_callv1 {rest : List Oper} {fv : Operand} {f : FuncId} {cap : List Value} {xs : Array Operand} {ats : Array TypeId} {vs : List Value} {Φ : Value → World → Prop} (hgo : Goes P f) (hfv : σ.ev fv = some (.func (.func f) #[] cap.toArray)) (hxs : xs.toList.map σ.ev = vs.map some)
    (hc : Calls P f (vs ++ cap).toArray w (Ret Φ)) (hd : Nat.blt d N.1 = true) (h : ∀ v w', Φ v w' → WL P N ops R rest ((d, v) :: σ) w') :
    WL P N ops R (⟨some d, .call ⟨.value fv, xs, ats⟩, T, pos, after, none⟩ :: rest) σ w := wl_callv hgo hfv hxs hc (fun k hk => by cases hk; exact hd) h
end

/-! ### Results that lie in cells -/
section
variable {P : Program} {σ : Env} {w : World}
def resOf (tmps : Array Value) : ResultVar → Sem Value
  | .tmp t => pure (tmps.getD t undef)
  | .cell a t => do loadVar t (← asAddr (tmps.getD a undef))
def ResOk (P : Program) (σ : Env) (w : World) (r : ResultVar) (v : Value) : Prop := ∀ a, Fits (a.tmps.size, a.defers) σ a → (resOf a.tmps r).run P w = .ok v w

theorem ResOk.tmp {t : Tmp} {v : Value} (h : σ.get t = some v) : ResOk P σ w (.tmp t) v := fun a ha => by simp only [resOf, Sem.run_pure, ha.2.2 t v h]
theorem ResOk.cell1 {t : Tmp} {ty U : TypeId} {b : Nat} {cs : Array Value} {fz : Nat × Nat} {v : Value} (h : σ.get t = some (.pointer (some ⟨b, 0, none⟩))) (ha : aggB P ty = some false) (hb : w.heap[b]? = some (.cells cs U fz)) (hv : nth cs.toList 0 = some v) : ResOk P σ w (.cell t ty) v := fun a hf => by
  simp [resOf, hf.2.2 t _ h, asAddr, loadVar, run_isAgg ha, cell_nth hb hv]
theorem ResOk.cellA {t : Tmp} {ty U : TypeId} {b n : Nat} {cs : Array Value} {fz : Nat × Nat} (h : σ.get t = some (.pointer (some ⟨b, 0, none⟩))) (ha : aggB P ty = some true) (hs : sizeB P ty = some n) (hb : w.heap[b]? = some (.cells cs U fz)) (hl : cs.size = n) : ResOk P σ w (.cell t ty) (.agg cs) := fun a hf => by
  obtain ⟨inf, hin, hsz⟩ := Option.map_eq_some_iff.1 hs
  have hr := run_loadCellsFrom (P := P) (w := w) b 0 n 0 #[] cs.toList (by simpa using hl) (fun j v hv => cell_blk hb (by simpa using hv))
  simp [resOf, hf.2.2 t _ h, asAddr, loadVar, run_isAgg ha, sizeOf, typeInfo, hin, hsz, loadCells, hr]

theorem results_eq (fn : Func) (tmps : Array Value) : results fn tmps = ((fn.results.mapM (resOf tmps)) >>= fun vs => pure (if h : vs.size = 1 then vs[0] else Value.tuple vs)) := by
  unfold results
  congr 1
theorem body_retC1 {n : Nat} {fn : Func} {r : ResultVar} {v : Value} {Φ : Value → World → Prop} (hr : fn.results = #[r]) (h1 : ResOk P σ w r v) (h : Φ v w) : bodyR P fn (Ret Φ) .ret (n, []) σ w := ⟨rfl, fun a ha => by
  refine ⟨v, ?_, _, rfl, h⟩
  rw [results_eq, hr]
  simp [h1 a ha]⟩
theorem body_retC2 {n : Nat} {fn : Func} {r r' : ResultVar} {v v' : Value} {Φ : Value → World → Prop} (hr : fn.results = #[r, r']) (h1 : ResOk P σ w r v) (h2 : ResOk P σ w r' v') (h : Φ (.tuple #[v, v']) w) : bodyR P fn (Ret Φ) .ret (n, []) σ w := ⟨rfl, fun a ha => by
  refine ⟨.tuple #[v, v'], ?_, _, rfl, h⟩
  rw [results_eq, hr]
  simp [h1 a ha, h2 a ha]⟩
theorem body_retC3 {n : Nat} {fn : Func} {r r' r'' : ResultVar} {v v' v'' : Value} {Φ : Value → World → Prop} (hr : fn.results = #[r, r', r'']) (h1 : ResOk P σ w r v) (h2 : ResOk P σ w r' v') (h3 : ResOk P σ w r'' v'') (h : Φ (.tuple #[v, v', v'']) w) : bodyR P fn (Ret Φ) .ret (n, []) σ w := ⟨rfl, fun a ha => by
  refine ⟨.tuple #[v, v', v''], ?_, _, rfl, h⟩
  rw [results_eq, hr]
  simp [h1 a ha, h2 a ha, h3 a ha]⟩
theorem body_ret3 {n : Nat} {fn : Func} {t u x : Tmp} {v v' v'' : Value} {Φ : Value → World → Prop} (hr : fn.results = #[.tmp t, .tmp u, .tmp x]) (hv : σ.get t = some v) (hv' : σ.get u = some v') (hv'' : σ.get x = some v'') (h : Φ (.tuple #[v, v', v'']) w) : bodyR P fn (Ret Φ) .ret (n, []) σ w :=
  body_retC3 hr (.tmp hv) (.tmp hv') (.tmp hv'') h
end

/-! ### The same, in fewer letters -/
section
variable {P : Program} {N : NN} {R : Post} {σ : Env} {w : World} {ops : Array Oper} {rest : List Oper} {d : Nat} {op : Op} {T : TypeId} {pos : String} {after : Array Edge}
theorem wl_n {j : Nat} {pol b : Bool} {oj : Oper} {t : Nat} (h : WL P N ops R rest ((d, undef) :: σ) w) (hj : ops[j]? = some oj := by rfl) (ht : oj.dst = some t := by rfl) (hv : σ.get t = some (.bool b) := by rfl) (hb : b = !pol := by rfl) (hN : Nat.blt t N.1 = true := by rfl) (hd : Nat.blt d N.1 = true := by rfl) :
    WL P N ops R (⟨some d, op, T, pos, after, some (j, pol)⟩ :: rest) σ w := wl_no hj ht hv hb hN hd h
theorem wl_u {j : Nat} {pol : Bool} {oj : Oper} {t : Nat} (h : WL P N ops R rest ((d, undef) :: σ) w) (hj : ops[j]? = some oj := by rfl) (ht : oj.dst = some t := by rfl) (hv : σ.get t = some undef := by rfl) (hN : Nat.blt t N.1 = true := by rfl) (hd : Nat.blt d N.1 = true := by rfl) :
    WL P N ops R (⟨some d, op, T, pos, after, some (j, pol)⟩ :: rest) σ w := wl_nou hj ht hv hN hd h
theorem wl_g {dst : Option Nat} {j : Nat} {pol : Bool} {oj : Oper} {t : Nat} (h : WL P N ops R (⟨dst, op, T, pos, after, none⟩ :: rest) σ w) (hj : ops[j]? = some oj := by rfl) (ht : oj.dst = some t := by rfl) (hv : σ.get t = some (.bool pol) := by rfl) (hN : Nat.blt t N.1 = true := by rfl) :
    WL P N ops R (⟨dst, op, T, pos, after, some (j, pol)⟩ :: rest) σ w := wl_go hj ht hv hN h
theorem wl_m {x : Operand} {v : Value} (h : WL P N ops R rest ((d, v) :: σ) w) (hx : σ.ev x = some v := by rfl) (hd : Nat.blt d N.1 = true := by rfl) : WL P N ops R (⟨some d, .move x, T, pos, after, none⟩ :: rest) σ w := wl_val hd (ex_move hx) h
theorem wl_a {x : Operand} {v : Value} (h : WL P N ops R rest ((d, v) :: σ) w) (hx : σ.ev x = some v := by rfl) (hd : Nat.blt d N.1 = true := by rfl) : WL P N ops R (⟨some d, .assign x, T, pos, after, none⟩ :: rest) σ w := wl_val hd (ex_assign hx) h
theorem wl_pf {c x y : Operand} {v : Value} (h : WL P N ops R rest ((d, v) :: σ) w) (hc : σ.ev c = some (.bool false) := by rfl) (hx : σ.ev y = some v := by rfl) (hd : Nat.blt d N.1 = true := by rfl) : WL P N ops R (⟨some d, .pick c x y, T, pos, after, none⟩ :: rest) σ w := wl_val hd (ex_pick_f hc hx) h
theorem wl_pt {c x y : Operand} {v : Value} (h : WL P N ops R rest ((d, v) :: σ) w) (hc : σ.ev c = some (.bool true) := by rfl) (hx : σ.ev x = some v := by rfl) (hd : Nat.blt d N.1 = true := by rfl) : WL P N ops R (⟨some d, .pick c x y, T, pos, after, none⟩ :: rest) σ w := wl_val hd (ex_pick_t hc hx) h
end
end Go.W
