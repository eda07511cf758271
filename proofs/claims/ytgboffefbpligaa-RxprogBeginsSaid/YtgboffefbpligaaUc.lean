/- strings.Builder in precise words; strings.Repeat. -/
import Derived.Test.YtgboffefbpligaaUb
import Derived.Test.YtgboffefbpligaaSh
namespace Go.Proofs.Ytgboffefbpligaa
open Go.Proofs
open Go.W Go.RowKit
attribute [local irreducible] Decidable.decide
set_option linter.unusedSimpArgs false
set_option linter.unusedVariables false
theorem Try.agg92 : aggB Try.prog 92 = some false := by kernel_rfl
theorem Try.agg93 : aggB Try.prog 93 = some false := by kernel_rfl
theorem Try.agg95 : aggB Try.prog 95 = some true := by kernel_rfl
theorem Try.app93_9 : appB Try.prog 93 9 = some (5, 1, 1) := by kernel_rfl
theorem Try.fld95_1 : fieldB Try.prog 95 1 = some 1 := by kernel_rfl
theorem Try.goes68 : Goes Try.prog 68 := ⟨_, Try.func68, by kernel_rfl, by kernel_rfl⟩
theorem Try.size93 : sizeB Try.prog 93 = some 1 := by kernel_rfl
theorem Try.size95 : sizeB Try.prog 95 = some 2 := by kernel_rfl


theorem lays240 : Go.Proofs.Lays.n240 Try.prog Try.lays105_ren := { Try.lays105 with }
theorem copyCheck_ok {w : World} {b : Nat} {p v : Value} (hb : w.heap[b]? = some (.cells #[p, v] 95 (0, 0))) (hp : p = .pointer none ∨ p = .pointer (some ⟨b, 0, none⟩)) :
    Calls Try.prog 68 #[.pointer (some ⟨b, 0, none⟩)] w (Ret fun r w' => r = .tuple #[] ∧ w'.heap[b]? = some (.cells #[.pointer (some ⟨b, 0, none⟩), v] 95 (0, 0)) ∧ Evo [b] w w') := by
  have h0 : w.cell? ⟨b, 0, none⟩ = some p := by simp [World.cell?, hb]
  rcases hp with rfl | rfl
  · refine (Any.Builder_copyCheck_fresh lays240 Try.Builder_Extra_105.toX72 b w h0 (by simp [World.shape?, hb]; rfl) (by simp [World.frozen?, hb])).mono ?_
    rintro e w' ⟨rfl, rfl⟩
    exact ⟨_, rfl, rfl, by simp [World.setCell, Array.getElem?_modify, hb], evo_setCell w ⟨b, 0, none⟩ _⟩
  · refine (Any.Builder_copyCheck_used lays240 Try.Builder_Extra_105.toX72 b w h0).mono ?_
    rintro e w' ⟨rfl, rfl⟩
    exact ⟨_, rfl, rfl, hb, Evo.refl _ _⟩


theorem Src.str {P : Program} {w : World} (s : ByteArray) : Src P w 1 (.string s) s.size (Lib.byteCells s.data.toList) :=
  ⟨fun _ => by simp [Builtin.lenOf], fun w2 _ => Lib.run_firstCells_string (P := P) (w := w2) 1 s, by rw [Lib.byteCells_length, Nat.mul_one]; rfl, fun u hu => by simp only [Lib.byteCells, List.mem_map] at hu; obtain ⟨b, _, rfl⟩ := hu; rfl⟩
/-- A builder with these bytes; its own memory. -/
structure BdAt (w : World) (b : Nat) (l : List UInt8) (ob : Option Nat) : Prop where
  get : ∃ p a c, w.heap[b]? = some (.cells #[p, .slice a l.length c] 95 (0, 0)) ∧ (p = .pointer none ∨ p = .pointer (some ⟨b, 0, none⟩)) ∧ OwnS w 5 1 a l.length c (Lib.byteCells l) ob
  ne : ∀ g, ob = some g → g ≠ b
theorem BdAt.new {w : World} {b : Nat} (h : w.heap[b]? = some (.cells #[.pointer none, .slice none 0 0] 95 (0, 0))) : BdAt w b [] none := ⟨⟨_, _, _, h, .inl rfl, OwnS.nil _ _ _⟩, fun g h => by cases h⟩
theorem BdAt.evo {X : List Nat} {w w' : World} {b : Nat} {l : List UInt8} {ob : Option Nat} (h : BdAt w b l ob) (he : Evo X w w') (h1 : b ∉ X) (h2 : ∀ g, ob = some g → g ∉ X) : BdAt w' b l ob := by
  obtain ⟨⟨p, a, c, h3, h4, h5⟩, h6⟩ := h
  exact ⟨⟨p, a, c, he.blk h3 h1, h4, h5.evo he h2⟩, h6⟩
theorem BdAt.evo0 {w w' : World} {b : Nat} {l : List UInt8} {ob : Option Nat} (h : BdAt w b l ob) (he : Evo [] w w') : BdAt w' b l ob := h.evo he (fun h => by cases h) (fun _ _ h => by cases h)
theorem BdAt.lt {w : World} {b : Nat} {l : List UInt8} {ob : Option Nat} (h : BdAt w b l ob) : b < w.heap.size := by
  obtain ⟨⟨p, a, c, h3, h4, h5⟩, h6⟩ := h
  exact blk_lt h3
theorem BdAt.ltO {w : World} {b : Nat} {l : List UInt8} {ob : Option Nat} (h : BdAt w b l ob) : Lt w ob := by
  obtain ⟨⟨p, a, c, h3, h4, h5⟩, h6⟩ := h
  exact Lt.own h5
theorem evo_from {a w w' : World} {B : Nat} (h : Evo [] a w) (hB : a.heap.size ≤ B) (k : Below B w w') : Evo [] a w' :=
  ⟨k.os.trans h.os, k.tape.trans h.tape, k.output.trans h.output, Nat.le_trans h.size k.size, fun b hb hx => (k.block b (by omega)).trans (h.block b hb hx)⟩

theorem write_ok {w : World} {b : Nat} {l : List UInt8} {ob : Option Nat} (h : BdAt w b l ob) (s : ByteArray) (hl : l.length + s.size ≤ 140737488355328) :
    Calls Try.prog 45 #[.pointer (some ⟨b, 0, none⟩), .string s] w (Ret fun v w' => ∃ ob', BdAt w' b (l ++ s.data.toList) ob' ∧ Evo (b :: ob.toList) w w' ∧ (ob' = ob ∨ ∃ g, ob' = some g ∧ w.heap.size ≤ g)) := by
  obtain ⟨⟨p, a, c, hJ, hp, hO⟩, hne⟩ := h
  have hAJ : Apart (some b) ob := fun g h1 h2 => by cases h1; exact hne b h2 rfl
  have hbl := blk_lt hJ
  refine calls_of_cw (N := 19) Try.func45 rfl rfl rfl ?_
  refine cw_seq ?_
  refine cw_region ?_
  refine wl_a ?_
  refine wl_a ?_
  refine wl_nil (nrm_then ?_)
  refine cw_seq ?_
  refine cw_region ?_
  refine wl_m ?_
  refine wl_call1 (vs := [_]) Try.goes68 rfl (copyCheck_ok hJ hp) rfl ?_
  rintro _ w1 ⟨rfl, hJ1, hw2⟩
  have hE3 := (Evo.refl (b :: ob.toList) w).step hw2 (fun y hy => .inl (by rw [List.mem_singleton.1 hy]; exact List.mem_cons_self ..))
  have hO4 := hO.evo hw2 hAJ.symm.own1
  refine wl_nil (nrm_then ?_)
  refine cw_seq ?_
  refine cw_region ?_
  refine wl_m ?_
  refine wl_m ?_
  refine wl_val rfl (ex_nilCheck rfl) ?_
  refine wl_val rfl (ex_fieldAddr rfl Try.fld95_1) ?_
  refine wl_val rfl (ex_load1 rfl Try.agg93 (cell_nth hJ1 rfl)) ?_
  refine wl_m ?_
  have hszg := (hE3).size
  refine wl_append rfl rfl rfl rfl Try.app93_9 hO4 (Src.str s) (by omega) fun a2 c2 w7 ob2 hO2 hw10 hob11 => ?_
  have hA12 := hAJ.app (Lt.blk hJ1) hob11
  have hE13 := hE3.step hw10 (fun y hy => .inl (List.mem_cons_of_mem _ hy))
  have hB14 := hw10.blk hJ1 hAJ.nmem
  have hob2 : ob2 = ob ∨ ∃ g, ob2 = some g ∧ w.heap.size ≤ g := hob11.imp id (fun ⟨g, h1, h2⟩ => ⟨g, h1, Nat.le_trans hszg h2⟩)
  refine wl_val rfl (ex_nilCheck rfl) ?_
  refine wl_val rfl (ex_fieldAddr rfl Try.fld95_1) ?_
  refine wl_store1 rfl rfl (by first | rfl | assumption) Try.size93 hB14 rfl fun w15 hB16 hw17 => ?_
  have hE18 := hE13.step hw17 (fun y hy => .inl (by rw [List.mem_singleton.1 hy]; exact List.mem_cons_self ..))
  have hO19 := hO2.evo hw17 hA12.symm.own1
  try simp only [List.setIfInBounds_toArray, List.set_cons_zero, List.set_cons_succ, Nat.reduceAdd, Nat.zero_add, Nat.add_zero] at hB16
  refine wl_nil (nrm_then ?_)
  refine cw_seq ?_
  refine cw_region ?_
  refine wl_m ?_
  refine wl_val rfl (ex_len_str rfl Try.underlying9 rfl) ?_
  refine wl_a ?_
  refine wl_a ?_
  refine wl_nil (nrm_then ?_)
  refine cw_ret (body_ret2 rfl rfl rfl ?_)
  have hll : (l ++ s.data.toList).length = l.length + s.size := by rw [List.length_append]; rfl
  have hbc : Lib.byteCells (l ++ s.data.toList) = Lib.byteCells l ++ Lib.byteCells s.data.toList := by simp [Lib.byteCells]
  refine ⟨ob2, ⟨⟨_, a2, c2, by rw [hll]; exact hB16, .inr rfl, by rw [hll, hbc]; exact hO19⟩, fun g hg e => ?_⟩, hE18, hob2⟩
  subst e; rcases hob2 with h9 | ⟨g', h9, h10⟩; exact hne g (h9 ▸ hg) rfl; (rw [h9] at hg; cases hg; omega)


theorem bstring_ok {w : World} {b : Nat} {l : List UInt8} {ob : Option Nat} (h : BdAt w b l ob) (hg : ∀ g, ob = some g → b ≤ g) :
    Calls Try.prog 46 #[.pointer (some ⟨b, 0, none⟩)] w (Ret fun v w' => v = .string ⟨l.toArray⟩ ∧ Evo (XB b w) w w') := by
  obtain ⟨⟨p, a, c, hJ, hp, hO⟩, hne⟩ := h
  have hown : w.ownsRow b 5 1 (.slice a l.length c) (Lib.byteCells l).length (Lib.byteCells l) := by
    rw [Lib.byteCells_length]
    refine ⟨hO.1, ?_⟩
    rcases hO.2 with ⟨h1, h2, h3⟩ | ⟨g, cap, cur, h1, h2, h3, h4⟩
    · exact .inl ⟨h1, h2⟩
    · exact .inr ⟨g, cap, cur, h2, hg g h1, h3, h4⟩
  have hne2 : (Value.slice a l.length c).ownBlock ≠ some b := by
    rcases hO.2 with ⟨h1, h2, h3⟩ | ⟨g, cap, cur, h1, h2, h3, h4⟩
    · rw [h1]; simp [Value.ownBlock]
    · rw [h2]; simp only [Value.ownBlock]; intro e; cases e; exact hne _ h1 rfl
  have hB : Lib.IsBuilder 95 5 b b (Lib.byteCells l) w := by
    rcases hp with rfl | rfl
    · exact .inl ⟨Nat.le_refl _, _, hJ, hown, hne2⟩
    · exact .inr ⟨Nat.le_refl _, _, hJ, hown, hne2⟩
  refine (Try.Builder_String_any b b l w hB (Nat.le_of_lt (blk_lt hJ))).mono ?_
  rintro e w' ⟨rfl, h1⟩
  exact ⟨_, rfl, rfl, below_xb h1⟩
theorem repeat_ok {w : World} (s : ByteArray) (c : Nat) (hc : s.size * c ≤ 140737488355328) (hc2 : c ≤ 1000000) :
    Calls Try.prog 71 #[.string s, .int .i64 (c : Nat)] w (Ret fun v w' => v = .string ⟨(Lib.repeatL s.data.toList c).toArray⟩ ∧ Evo [] w w') := by
  refine (Try.strings_Repeat s c w (by omega) hc).mono ?_
  rintro e w' ⟨rfl, h1⟩
  exact ⟨_, rfl, rfl, h1.os, h1.tape, h1.output, h1.size, fun b hb _ => h1.block b hb⟩

end Go.Proofs.Ytgboffefbpligaa
