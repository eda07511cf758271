/- The sheet that is asked: what stays, what is noted. -/
import Derived.Test.YtgboffefbpligaaTs
namespace Go.Proofs.Ytgboffefbpligaa
open Go.W Go.RowKit
set_option linter.unusedVariables false
set_option linter.unusedSimpArgs false

/-- What a place of the notes holds. -/
def Noted (X : List Nat) (w : World) (v : Value) (bs : List Bool) : Prop := v = .slice none 0 0 ∨ ((∃ a n c, v = .slice (some a) n c) ∧ RSl 1 RBool X w v bs)
structure Sheet where
  hb : Nat
  rs : List Int
  ra : Option Addr
  rc : Nat
  ro : Option Nat
  nds : List Nd
  a : Option Addr
  c : Nat
  ob : Option Nat
structure Sh2 (H : Sheet) (w : World) (E : List Nat) : Prop where
  blk : w.heap[H.hb]? = some (.cells #[.slice H.a H.nds.length H.c, .slice H.ra H.rs.length H.rc] 64 (0, 0))
  own : OwnS w 89 11 H.a H.nds.length H.c (nflat H.rs.length H.nds) H.ob
  run : OwnS w 21 1 H.ra H.rs.length H.rc (i32s H.rs) H.ro
  nd : ∀ nd, nd ∈ H.nds → NdOk (SB H.nds ++ E) w nd
  nine : ∀ nd, nd ∈ H.nds → nd.vx.length = 9
  notes : ∀ nd, nd ∈ H.nds → ∃ vals, OwnS w 65 1 (some ⟨nd.sb, 0, none⟩) (H.rs.length + 1) (H.rs.length + 1) vals (some nd.sb) ∧ ∀ i, i ≤ H.rs.length → ∃ v, vals[i]? = some v ∧ Noted (SB H.nds ++ E) w v (bl (H.rs.length + 1) (Mt H.rs nd.x i))
  clr : ∀ x, x ∈ SB H.nds ++ E → x ≠ H.hb ∧ (∀ g, H.ob = some g → g ≠ x) ∧ ∀ g, H.ro = some g → g ≠ x
  dis : ∀ e, e ∈ E → e ∉ SB H.nds
  lt : ∀ e, e ∈ E → e < w.heap.size
  dist : (SB H.nds).Nodup
  small : H.rs.length ≤ 1000
section
variable {H : Sheet} {w w' : World} {E : List Nat}
theorem rbool_mono : ∀ X Y w vs (d : Bool), (∀ y, y ∈ Y → y ∈ X) → RBool X w vs d → RBool Y w vs d := fun _ _ _ _ _ _ h => h
theorem rb_step {X Y : List Nat} {v : Value} {bs : List Bool} (h : RSl 1 RBool X w v bs) (he : Evo X w w') (hy : ∀ y, y ∈ Y → y ∈ X ∨ w.heap.size ≤ y) : RSl 1 RBool Y w' v bs := rslStep (by decide) RBool.pers RBool.fresh rbool_mono h he hy
theorem Noted.step {X Y : List Nat} {v : Value} {bs : List Bool} (h : Noted X w v bs) (he : Evo X w w') (hy : ∀ y, y ∈ Y → y ∈ X ∨ w.heap.size ≤ y) : Noted Y w' v bs := h.imp id (fun ⟨h1, h2⟩ => ⟨h1, rb_step h2 he hy⟩)
theorem Sh2.sblt (h : Sh2 H w E) : ∀ b, b ∈ SB H.nds ++ E → b < w.heap.size := fun b hb => by
  rcases List.mem_append.1 hb with hb | hb
  · obtain ⟨nd, hn, rfl⟩ := List.mem_map.1 hb
    obtain ⟨vals, h1, -⟩ := h.notes nd hn
    exact h1.lt
  · exact h.lt b hb
theorem Sh2.evo {Y : List Nat} (h : Sh2 H w E) (he : Evo Y w w') (hY : ∀ y, y ∈ Y → y ∈ E) : Sh2 H w' E := by
  have hYX : ∀ y, y ∈ Y → y ∈ SB H.nds ++ E := fun y hy => List.mem_append_right _ (hY y hy)
  have he' := he.mono hYX
  refine ⟨he.blk h.blk (fun hm => (h.clr _ (hYX _ hm)).1 rfl), h.own.evo he (fun g hg hm => (h.clr _ (hYX _ hm)).2.1 g hg rfl), h.run.evo he (fun g hg hm => (h.clr _ (hYX _ hm)).2.2 g hg rfl), fun nd hn => (h.nd nd hn).step he' (fun y hy => .inl hy), h.nine, fun nd hn => ?_, h.clr, h.dis, fun e hE => Nat.lt_of_lt_of_le (h.lt e hE) he.size, h.dist, h.small⟩
  obtain ⟨vals, h1, h2⟩ := h.notes nd hn
  refine ⟨vals, h1.evo he (fun g hg hm => by cases hg; exact h.dis _ (hY _ hm) (List.mem_map.2 ⟨nd, hn, rfl⟩)), fun i hi => ?_⟩
  obtain ⟨v, h3, h4⟩ := h2 i hi
  exact ⟨v, h3, h4.step he' (fun y hy => .inl hy)⟩
theorem Sh2.evo0 (h : Sh2 H w E) (he : Evo [] w w') : Sh2 H w' E := h.evo he (fun _ h => by cases h)
theorem own_lt_of {e : TypeId} {sz : Nat} {a : Option Addr} {n c : Nat} {xs : List Value} {ob : Option Nat} (h : OwnS w e sz a n c xs ob) : ∀ g, ob = some g → g < w.heap.size := fun g hg => by subst hg; exact h.lt
theorem Sh2.more {Y : List Nat} (h : Sh2 H w E) (he : Evo [] w w') (hY : ∀ y, y ∈ Y → w.heap.size ≤ y ∧ y < w'.heap.size) : Sh2 H w' (Y ++ E) := by
  have hm : ∀ y, y ∈ SB H.nds ++ (Y ++ E) → y ∈ SB H.nds ++ E ∨ w.heap.size ≤ y := fun y hy => by
    rcases List.mem_append.1 hy with e | e
    · exact .inl (List.mem_append_left _ e)
    · rcases List.mem_append.1 e with e | e
      · exact .inr (hY y e).1
      · exact .inl (List.mem_append_right _ e)
  have he' := he.any (SB H.nds ++ E)
  refine ⟨he.blk0 h.blk, h.own.evo0 he, h.run.evo0 he, fun nd hn => (h.nd nd hn).step he' hm, h.nine, fun nd hn => ?_, fun x hx => ?_, fun e hE hs => ?_, fun e hE => ?_, h.dist, h.small⟩
  · obtain ⟨vals, h1, h2⟩ := h.notes nd hn
    refine ⟨vals, h1.evo0 he, fun i hi => ?_⟩
    obtain ⟨v, h3, h4⟩ := h2 i hi
    exact ⟨v, h3, h4.step he' hm⟩
  · rcases hm x hx with e | e
    · exact h.clr x e
    · have h1 := blk_lt h.blk
      exact ⟨by omega, fun g hg => by have := own_lt_of h.own g hg; omega, fun g hg => by have := own_lt_of h.run g hg; omega⟩
  · rcases List.mem_append.1 hE with e1 | e1
    · have h1 := h.sblt e (List.mem_append_left _ hs)
      have h2 := (hY e e1).1
      omega
    · exact h.dis e e1 hs
  · rcases List.mem_append.1 hE with e1 | e1
    · exact (hY e e1).2
    · exact Nat.lt_of_lt_of_le (h.lt e e1) he.size
theorem Sh2.less {Y : List Nat} (h : Sh2 H w (Y ++ E)) : Sh2 H w E := by
  have hm : ∀ y, y ∈ SB H.nds ++ E → y ∈ SB H.nds ++ (Y ++ E) := fun y hy => by
    rcases List.mem_append.1 hy with e | e
    · exact List.mem_append_left _ e
    · exact List.mem_append_right _ (List.mem_append_right _ e)
  refine ⟨h.blk, h.own, h.run, fun nd hn => (h.nd nd hn).step (Evo.refl _ _) (fun y hy => .inl (hm y hy)), h.nine, fun nd hn => ?_, fun x hx => h.clr x (hm x hx), fun e hE => h.dis e (List.mem_append_right _ hE), fun e hE => h.lt e (List.mem_append_right _ hE), h.dist, h.small⟩
  obtain ⟨vals, h1, h2⟩ := h.notes nd hn
  refine ⟨vals, h1, fun i hi => ?_⟩
  obtain ⟨v, h3, h4⟩ := h2 i hi
  exact ⟨v, h3, h4.step (Evo.refl _ _) (fun y hy => .inl (hm y hy))⟩
/-- One place more is noted. -/
theorem Sh2.note {nd : Nd} {i : Nat} {v : Value} {vals : List Value} (h : Sh2 H w E) (hn : nd ∈ H.nds) (he : Evo [nd.sb] w w') (hi : i ≤ H.rs.length)
    (ho : OwnS w 65 1 (some ⟨nd.sb, 0, none⟩) (H.rs.length + 1) (H.rs.length + 1) vals (some nd.sb)) (ho' : OwnS w' 65 1 (some ⟨nd.sb, 0, none⟩) (H.rs.length + 1) (H.rs.length + 1) (vals.set i v) (some nd.sb))
    (hv : Noted (SB H.nds ++ E) w v (bl (H.rs.length + 1) (Mt H.rs nd.x i))) : Sh2 H w' E := by
  have hs : nd.sb ∈ SB H.nds := List.mem_map.2 ⟨nd, hn, rfl⟩
  have hYX : ∀ y, y ∈ [nd.sb] → y ∈ SB H.nds ++ E := fun y hy => by rw [List.mem_singleton.1 hy]; exact List.mem_append_left _ hs
  have he' := he.mono hYX
  refine ⟨he.blk h.blk (fun hm => (h.clr _ (hYX _ hm)).1 rfl), h.own.evo he (fun g hg hm => (h.clr _ (hYX _ hm)).2.1 g hg rfl), h.run.evo he (fun g hg hm => (h.clr _ (hYX _ hm)).2.2 g hg rfl), fun nd hn => (h.nd nd hn).step he' (fun y hy => .inl hy), h.nine, fun nd2 hn2 => ?_, h.clr, h.dis, fun e hE => Nat.lt_of_lt_of_le (h.lt e hE) he.size, h.dist, h.small⟩
  obtain ⟨vals2, h1, h2⟩ := h.notes nd2 hn2
  by_cases e : nd2 = nd
  · subst e
    have hvv : vals2 = vals := by
      obtain ⟨g, cur, k1, k2, k3, k4, k5⟩ := h1.at (by omega)
      obtain ⟨g', cur', j1, j2, j3, j4, j5⟩ := ho.at (by omega)
      cases k1; cases j1
      rw [k3] at j3
      cases j3
      rw [← k5, ← j5]
    subst hvv
    refine ⟨_, ho', fun j hj => ?_⟩
    obtain ⟨u, h3, h4⟩ := h2 j hj
    by_cases e : i = j
    · subst e
      exact ⟨v, by rw [List.getElem?_set, if_pos rfl, if_pos (List.getElem?_eq_some_iff.1 h3).1], hv.step he' (fun y hy => .inl hy)⟩
    · exact ⟨u, by rw [List.getElem?_set, if_neg e]; exact h3, h4.step he' (fun y hy => .inl hy)⟩
  · have hne : nd2.sb ≠ nd.sb := fun hsb => e (by
      obtain ⟨p, hp, rfl⟩ := List.getElem_of_mem hn
      obtain ⟨q, hq, rfl⟩ := List.getElem_of_mem hn2
      have := (List.getElem_inj (h₀ := by simpa using hq) (h₁ := by simpa using hp) h.dist).1 (by simpa using hsb)
      subst this; rfl)
    refine ⟨vals2, h1.evo he (fun g hg hm => by cases hg; exact hne (List.mem_singleton.1 hm)), fun j hj => ?_⟩
    obtain ⟨u, h3, h4⟩ := h2 j hj
    exact ⟨u, h3, h4.step he' (fun y hy => .inl hy)⟩
/-- The cells of a node. -/
theorem Sh2.node (h : Sh2 H w E) {id : Nat} (hid : id < H.nds.length) : ∃ g, H.ob = some g ∧ H.a = some ⟨g, 0, none⟩ ∧ ∀ j v, (Nd.cells H.rs.length H.nds[id])[j]? = some v → w.cell? ⟨g, 0 + id * 11 + j, none⟩ = some v := by
  obtain ⟨g, hg, ha, hc⟩ := h.own.cells (by omega)
  refine ⟨g, hg, ha, fun j v hv => ?_⟩
  have h11 : (Nd.cells H.rs.length H.nds[id]).length = 11 := nd_len (h.nine _ (List.getElem_mem hid))
  have hj : j < 11 := by rw [← h11]; exact (List.getElem?_eq_some_iff.1 hv).1
  have := hc (id * 11 + j) v (by
    unfold nflat
    rw [flatten_get (sz := 11) (fun r hr => by obtain ⟨nd, hn, rfl⟩ := List.mem_map.1 hr; exact nd_len (h.nine nd hn)) (k := id) (by simpa using hid) hj]
    simpa using hv)
  rw [show 0 + id * 11 + j = 0 + (id * 11 + j) from by omega]
  exact this
theorem nd_seen {N : Nat} {nd : Nd} (h : nd.vx.length = 9) : (nd.cells N)[10]? = some (.slice (some ⟨nd.sb, 0, none⟩) (N + 1) (N + 1)) := by
  unfold Nd.cells; rw [List.getElem?_append_right (by omega), h]; rfl
theorem nd_kids {N : Nat} {nd : Nd} (h : nd.vx.length = 9) : (nd.cells N)[9]? = some nd.vk := by
  unfold Nd.cells; rw [List.getElem?_append_right (by omega), h]; rfl
theorem nd_rx {N j : Nat} {nd : Nd} (h : nd.vx.length = 9) (hj : j < 9) : (nd.cells N)[j]? = nd.vx[j]? := by
  unfold Nd.cells; rw [List.getElem?_append_left (by omega)]
end
/-- What from answers. -/
def FromSpec (P : Program) (H : Sheet) (id : Nat) (x : Rx) : Prop := ∀ {w : World} {E : List Nat} {i : Nat}, Sh2 H w E → i ≤ H.rs.length →
  Calls P 25 #[.pointer (some ⟨H.hb, 0, none⟩), iv (id : Nat), iv (i : Nat)] w (Ret fun v w' => Evo (SB H.nds) w w' ∧ Sh2 H w' E ∧ RSl 1 RBool (SB H.nds ++ E) w' v (bl (H.rs.length + 1) (Mt H.rs x i)))
/-- A new list of yes and no. -/
def NewBl (w w' : World) (n : Nat) (f : Nat → Prop) (v : Value) : Prop := ∃ a c o, v = .slice a n c ∧ OwnS w' 4 1 a n c (bvs (bl n f)) o ∧ Ge w o
theorem bvs_rows (bs : List Bool) : (bs.map fun b => [Value.bool b]).flatten = bvs bs := by
  induction bs with
  | nil => rfl
  | cons b bs ih => simp at ih ⊢; exact ih
theorem own_rsl {w : World} {X : List Nat} {a : Option Addr} {n c : Nat} {bs : List Bool} {o : Option Nat} (h : OwnS w 4 1 a n c (bvs bs) o) (hl : bs.length = n) (hx : ∀ g, o = some g → g ∉ X) : RSl 1 RBool X w (.slice a n c) bs := by
  rw [← bvs_rows] at h
  exact RSl.ofOwn h ⟨by simp, fun k h1 h2 => by simp only [List.getElem_map]; exact ⟨rfl, rfl⟩⟩ hl hx
theorem NewBl.rsl {w w' : World} {X : List Nat} {n : Nat} {f : Nat → Prop} {v : Value} (h : NewBl w w' n f v) (hX : ∀ x, x ∈ X → x < w.heap.size) : RSl 1 RBool X w' v (bl n f) := by
  obtain ⟨a, c, o, rfl, h1, h2⟩ := h
  exact own_rsl h1 (bl_len _ _) (fun g hg hm => by have := h2 g hg; have := hX g hm; omega)
def RckSpec (P : Program) (H : Sheet) (id : Nat) (x : Rx) : Prop := ∀ {w : World} {E : List Nat} {i : Nat}, Sh2 H w E → i ≤ H.rs.length →
  Calls P 43 #[.pointer (some ⟨H.hb, 0, none⟩), iv (id : Nat), iv (i : Nat)] w (Ret fun v w' => Evo (SB H.nds) w w' ∧ Sh2 H w' E ∧ NewBl w w' (H.rs.length + 1) (Mt H.rs x i) v)
end Go.Proofs.Ytgboffefbpligaa
