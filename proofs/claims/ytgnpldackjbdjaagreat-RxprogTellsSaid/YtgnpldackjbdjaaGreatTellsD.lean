/- Tells: part 4 of 6 of what the law rests on. -/
import Derived.Test.YtgnpldackjbdjaaGreatTellsC
namespace Go.Proofs.YtgnpldackjbdjaaGreat
open Go.Proofs
open Go.W Go.RowKit
attribute [local irreducible] Decidable.decide
set_option linter.unusedSimpArgs false
set_option linter.unusedVariables false
theorem Tryz.agg83 : aggB Tryz.prog 83 = some false := by kernel_rfl
theorem Tryz.app83_9 : appB Tryz.prog 83 9 = some (5, 1, 1) := by kernel_rfl
theorem Tryz.fld85_1 : fieldB Tryz.prog 85 1 = some 1 := by kernel_rfl
theorem Tryz.goes96 : Goes Tryz.prog 96 := ⟨_, Tryz.func96, by kernel_rfl, by kernel_rfl⟩
theorem Tryz.size83 : sizeB Tryz.prog 83 = some 1 := by kernel_rfl
theorem lays240 : Go.Proofs.Lays.n240 Tryz.prog Tryz.lays105_ren := { Tryz.lays105 with }
theorem copyCheck_ok {w : World} {b : Nat} {p v : Value} (hb : w.heap[b]? = some (.cells #[p, v] 85 (0, 0))) (hp : p = .pointer none ∨ p = .pointer (some ⟨b, 0, none⟩)) :
    Calls Tryz.prog 96 #[.pointer (some ⟨b, 0, none⟩)] w (Ret fun r w' => r = .tuple #[] ∧ w'.heap[b]? = some (.cells #[.pointer (some ⟨b, 0, none⟩), v] 85 (0, 0)) ∧ Evo [b] w w') := by
  have h0 : w.cell? ⟨b, 0, none⟩ = some p := by simp [World.cell?, hb]
  rcases hp with rfl | rfl
  · refine (Any.Builder_copyCheck_fresh lays240 Tryz.Builder_Extra_105.toX72 b w h0 (by simp [World.shape?, hb]; rfl) (by simp [World.frozen?, hb])).mono ?_
    rintro e w' ⟨rfl, rfl⟩
    exact ⟨_, rfl, rfl, by simp [World.setCell, Array.getElem?_modify, hb], evo_setCell w ⟨b, 0, none⟩ _⟩
  · refine (Any.Builder_copyCheck_used lays240 Tryz.Builder_Extra_105.toX72 b w h0).mono ?_
    rintro e w' ⟨rfl, rfl⟩
    exact ⟨_, rfl, rfl, hb, Evo.refl _ _⟩
theorem Src.str {P : Program} {w : World} (s : ByteArray) : Src P w 1 (.string s) s.size (Lib.byteCells s.data.toList) :=
  ⟨fun _ => by simp [Builtin.lenOf], fun w2 _ => Lib.run_firstCells_string (P := P) (w := w2) 1 s, by rw [Lib.byteCells_length, Nat.mul_one]; rfl, fun u hu => by simp only [Lib.byteCells, List.mem_map] at hu; obtain ⟨b, _, rfl⟩ := hu; rfl⟩
structure BdAt (w : World) (b : Nat) (l : List UInt8) (ob : Option Nat) : Prop where
  get : ∃ p a c, w.heap[b]? = some (.cells #[p, .slice a l.length c] 85 (0, 0)) ∧ (p = .pointer none ∨ p = .pointer (some ⟨b, 0, none⟩)) ∧ OwnS w 5 1 a l.length c (Lib.byteCells l) ob
  ne : ∀ g, ob = some g → g ≠ b
theorem BdAt.new {w : World} {b : Nat} (h : w.heap[b]? = some (.cells #[.pointer none, .slice none 0 0] 85 (0, 0))) : BdAt w b [] none := ⟨⟨_, _, _, h, .inl rfl, OwnS.nil _ _ _⟩, fun g h => by cases h⟩
theorem BdAt.evo {X : List Nat} {w w' : World} {b : Nat} {l : List UInt8} {ob : Option Nat} (h : BdAt w b l ob) (he : Evo X w w') (h1 : b ∉ X) (h2 : ∀ g, ob = some g → g ∉ X) : BdAt w' b l ob := by
  obtain ⟨⟨p, a, c, h3, h4, h5⟩, h6⟩ := h
  exact ⟨⟨p, a, c, he.blk h3 h1, h4, h5.evo he h2⟩, h6⟩
theorem BdAt.evo0 {w w' : World} {b : Nat} {l : List UInt8} {ob : Option Nat} (h : BdAt w b l ob) (he : Evo [] w w') : BdAt w' b l ob := h.evo he (fun h => by cases h) (fun _ _ h => by cases h)
theorem BdAt.lt {w : World} {b : Nat} {l : List UInt8} {ob : Option Nat} (h : BdAt w b l ob) : b < w.heap.size := by
  obtain ⟨⟨p, a, c, h3, h4, h5⟩, h6⟩ := h
  exact blk_lt h3
theorem BdAt.ltO {w : World} {b : Nat} {l : List UInt8} {ob : Option Nat} (h : BdAt w b l ob) : Lt w ob := by
  obtain ⟨⟨p, a, c, h3, h4, h5⟩, h6⟩ := h
  exact Lt.own h5
theorem write_ok {w : World} {b : Nat} {l : List UInt8} {ob : Option Nat} (h : BdAt w b l ob) (s : ByteArray) (hl : l.length + s.size ≤ 140737488355328) :
    Calls Tryz.prog 79 #[.pointer (some ⟨b, 0, none⟩), .string s] w (Ret fun v w' => ∃ ob', BdAt w' b (l ++ s.data.toList) ob' ∧ Evo (b :: ob.toList) w w' ∧ (ob' = ob ∨ ∃ g, ob' = some g ∧ w.heap.size ≤ g)) := by
  obtain ⟨⟨p, a, c, hJ, hp, hO⟩, hne⟩ := h
  have hAJ : Apart (some b) ob := fun g h1 h2 => by cases h1; exact hne b h2 rfl
  have hbl := blk_lt hJ; refine calls_of_cw (N := 19) Tryz.func79 rfl rfl rfl ?_; refine cw_seq ?_; refine cw_region ?_; refine wl_a ?_; refine wl_a ?_; refine wl_nil (nrm_then ?_); refine cw_seq ?_; refine cw_region ?_; refine wl_m ?_; refine wl_call1 (vs := [_]) Tryz.goes96 rfl (copyCheck_ok hJ hp) rfl ?_; rintro _ w1 ⟨rfl, hJ1, hw2⟩
  have hE3 := (Evo.refl (b :: ob.toList) w).step hw2 (fun y hy => .inl (by rw [List.mem_singleton.1 hy]; exact List.mem_cons_self ..))
  have hO4 := hO.evo hw2 hAJ.symm.own1; refine wl_nil (nrm_then ?_); refine cw_seq ?_; refine cw_region ?_; refine wl_m ?_; refine wl_m ?_; refine wl_val rfl (ex_nilCheck rfl) ?_; refine wl_val rfl (ex_fieldAddr rfl Tryz.fld85_1) ?_; refine wl_val rfl (ex_load1 rfl Tryz.agg83 (cell_nth hJ1 rfl)) ?_; refine wl_m ?_; have hszg := (hE3).size; refine wl_append rfl rfl rfl rfl Tryz.app83_9 hO4 (Src.str s) (by omega) fun a2 c2 w7 ob2 hO2 hw10 hob11 => ?_; have hA12 := hAJ.app (Lt.blk hJ1) hob11; have hE13 := hE3.step hw10 (fun y hy => .inl (List.mem_cons_of_mem _ hy)); have hB14 := hw10.blk hJ1 hAJ.nmem; have hob2 : ob2 = ob ∨ ∃ g, ob2 = some g ∧ w.heap.size ≤ g := hob11.imp id (fun ⟨g, h1, h2⟩ => ⟨g, h1, Nat.le_trans hszg h2⟩); refine wl_val rfl (ex_nilCheck rfl) ?_; refine wl_val rfl (ex_fieldAddr rfl Tryz.fld85_1) ?_; refine wl_store1 rfl rfl (by first | rfl | assumption) Tryz.size83 hB14 rfl fun w15 hB16 hw17 => ?_
  have hE18 := hE13.step hw17 (fun y hy => .inl (by rw [List.mem_singleton.1 hy]; exact List.mem_cons_self ..))
  have hO19 := hO2.evo hw17 hA12.symm.own1
  try simp only [List.setIfInBounds_toArray, List.set_cons_zero, List.set_cons_succ, Nat.reduceAdd, Nat.zero_add, Nat.add_zero] at hB16
  refine wl_nil (nrm_then ?_); refine cw_seq ?_; refine cw_region ?_; refine wl_m ?_; refine wl_val rfl (ex_len_str rfl Tryz.underlying9 rfl) ?_; refine wl_a ?_; refine wl_a ?_; refine wl_nil (nrm_then ?_); refine cw_ret (body_ret2 rfl rfl rfl ?_)
  have hll : (l ++ s.data.toList).length = l.length + s.size := by rw [List.length_append]; rfl
  have hbc : Lib.byteCells (l ++ s.data.toList) = Lib.byteCells l ++ Lib.byteCells s.data.toList := by simp [Lib.byteCells]
  refine ⟨ob2, ⟨⟨_, a2, c2, by rw [hll]; exact hB16, .inr rfl, by rw [hll, hbc]; exact hO19⟩, fun g hg e => ?_⟩, hE18, hob2⟩
  subst e; rcases hob2 with h9 | ⟨g', h9, h10⟩; exact hne g (h9 ▸ hg) rfl; (rw [h9] at hg; cases hg; omega)
theorem bstring_ok {w : World} {b : Nat} {l : List UInt8} {ob : Option Nat} (h : BdAt w b l ob) (hg : ∀ g, ob = some g → b ≤ g) :
    Calls Tryz.prog 51 #[.pointer (some ⟨b, 0, none⟩)] w (Ret fun v w' => v = .string ⟨l.toArray⟩ ∧ Evo (XB b w) w w') := by
  obtain ⟨⟨p, a, c, hJ, hp, hO⟩, hne⟩ := h
  have hown : w.ownsRow b 5 1 (.slice a l.length c) (Lib.byteCells l).length (Lib.byteCells l) := by
    rw [Lib.byteCells_length]
    refine ⟨hO.1, ?_⟩
    rcases hO.2 with ⟨h1, h2, h3⟩ | ⟨g, cap, cur, h1, h2, h3, h4⟩
    · exact .inl ⟨h1, h2⟩
    · exact .inr ⟨g, cap, cur, h2, hg g h1, h3, h4⟩
  have hne2 : (Value.slice a l.length c).ownBlock ≠ some b := by
    rcases hO.2 with ⟨h1, h2, h3⟩ | ⟨g, cap, cur, h1, h2, h3, h4⟩
    · rw [h1]; simp [Value.ownBlock]
    · rw [h2]; simp only [Value.ownBlock]; intro e; cases e; exact hne _ h1 rfl
  have hB : Lib.IsBuilder 85 5 b b (Lib.byteCells l) w := by
    rcases hp with rfl | rfl
    · exact .inl ⟨Nat.le_refl _, _, hJ, hown, hne2⟩
    · exact .inr ⟨Nat.le_refl _, _, hJ, hown, hne2⟩
  refine (Tryz.Builder_String_any b b l w hB (Nat.le_of_lt (blk_lt hJ))).mono ?_
  rintro e w' ⟨rfl, h1⟩
  exact ⟨_, rfl, rfl, below_xb h1⟩
theorem repeat_ok {w : World} (s : ByteArray) (c : Nat) (hc : s.size * c ≤ 140737488355328) (hc2 : c ≤ 1000000) :
    Calls Tryz.prog 128 #[.string s, .int .i64 (c : Nat)] w (Ret fun v w' => v = .string ⟨(Lib.repeatL s.data.toList c).toArray⟩ ∧ Evo [] w w') := by
  refine (Tryz.strings_Repeat s c w (by omega) hc).mono ?_
  rintro e w' ⟨rfl, h1⟩
  exact ⟨_, rfl, rfl, h1.os, h1.tape, h1.output, h1.size, fun b hb _ => h1.block b hb⟩
end Go.Proofs.YtgnpldackjbdjaaGreat
namespace Go.Proofs.YtgnpldackjbdjaaGreat
open Go.Proofs Go.W Go.RowKit
set_option linter.unusedVariables false
set_option linter.unusedSimpArgs false
set_option linter.unusedSectionVars false
theorem toList_inj {a b : ByteArray} (h : a.toList = b.toList) : a = b := by
  rw [Go.ByteArray.toList_eq, Go.ByteArray.toList_eq] at h
  cases a; cases b
  simpa [Array.toList_inj] using h
theorem own_addr {w : World} {e : TypeId} {a : Option Addr} {n c : Nat} {xs : List Value} {g : Nat} (h : OwnS w e 1 a n c xs (some g)) : a = some ⟨g, 0, none⟩ := by
  rcases h.2 with ⟨_, _, h3⟩ | ⟨g', _, _, hg, hv, _⟩
  · cases h3
  · cases hg; cases hv; rfl
section
variable {α : Type} [Inhabited α] (enc : α → Value)
theorem evo_rowG (w : World) (g n : Nat) (d : Array α) (os : Array Obj) : Evo [g] w (Sort.grow (Sort.putRow enc (Sort.ahead w n) g 0 d) os) := by
  refine ⟨rfl, rfl, rfl, ?_, fun b hb hx => ?_⟩
  · simp [Sort.grow, Sort.putRow, Sort.mapBlock, Sort.ahead]
  · have hne : g ≠ b := fun e => hx (by simp [e])
    simp only [Sort.grow, Sort.putRow, Sort.mapBlock, Sort.ahead]
    rw [Array.getElem?_append_left (by simpa using hb), Array.getElem?_modify, if_neg hne]
theorem row_blkG {w : World} {g : Nat} {cur : Array Value} {e : TypeId} (hb : w.heap[g]? = some (.cells cur e (0, 0))) (n : Nat) (d : Array α) (os : Array Obj) :
    (Sort.grow (Sort.putRow enc (Sort.ahead w n) g 0 d) os).heap[g]? = some (.cells (Sort.putCells enc 0 d cur) e (0, 0)) := by
  have hlt := blk_lt hb
  simp only [Sort.grow, Sort.putRow, Sort.mapBlock, Sort.ahead]
  rw [Array.getElem?_append_left (by simpa using hlt), Array.getElem?_modify, if_pos rfl, hb]
  rfl
theorem putCells_takeG (cur : Array Value) (ds : List α) (hc : ds.length ≤ cur.size) : (Sort.putCells enc 0 ds.toArray cur).toList.take ds.length = ds.map enc := by
  apply List.ext_getElem?
  intro k
  by_cases hk : k < ds.length
  · rw [List.getElem?_take, if_pos hk]
    simp only [Sort.putCells, Array.getElem?_toList, Array.getElem?_mapIdx, List.getElem?_map]
    have h1 : k < cur.size := by omega
    simp [h1, hk]
  · rw [List.getElem?_eq_none (by simp; omega), List.getElem?_eq_none (by simp; omega)]
theorem own_laidG {w : World} {e : TypeId} {g n c : Nat} {xs : List Value} {ds : List α} (h : OwnS w e 1 (some ⟨g, 0, none⟩) n c xs (some g)) (hd : ds.length = n) (q : Nat) (os : Array Obj) :
    OwnS (Sort.grow (Sort.putRow enc (Sort.ahead w q) g 0 ds.toArray) os) e 1 (some ⟨g, 0, none⟩) n c (ds.map enc) (some g) := by
  refine ⟨by simp; omega, ?_⟩
  rcases h.2 with ⟨h1, _⟩ | ⟨g', cap, cur, hg, hv, hb, hn, hc, hs, ht⟩
  · cases h1
  · cases hg; cases hv
    refine .inr ⟨g, c, _, rfl, rfl, row_blkG enc hb q ds.toArray os, by omega, hc, by simpa [Sort.putCells] using hs, ?_⟩
    rw [Nat.mul_one, ← hd]
    exact putCells_takeG enc cur ds (by omega)
theorem own_nG {w : World} {e : TypeId} {a : Option Addr} {n c : Nat} {l : List α} {ob : Option Nat} (h : OwnS w e 1 a n c (l.map enc) ob) : n = l.length := by have := h.length; simpa using this.symm
theorem own_holdsG {w : World} {e : TypeId} {g n c : Nat} {zs : List α} (h : OwnS w e 1 (some ⟨g, 0, none⟩) n c (zs.map enc) (some g)) : Sort.Holds enc w g 0 zs.toArray := fun j hj => by
  have hj' : j < zs.length := by simpa using hj
  have hn := own_nG enc h
  obtain ⟨g', cur, hg, ha, hb, hs, ht⟩ := h.at (by omega)
  cases hg
  constructor
  · refine cell_blk hb ?_
    have h1 : (cur.toList.take (n * 1))[j]? = some (enc zs[j]) := by rw [ht]; simp [hj']
    rw [List.getElem?_take, if_pos (by omega)] at h1
    rw [Nat.zero_add]
    simpa [hj'] using h1
  · simp [World.frozen?, hb]
theorem own_casesG {w : World} {e : TypeId} {a : Option Addr} {n c : Nat} {zs : List α} {ob : Option Nat} (h : OwnS w e 1 a n c (zs.map enc) ob) : (a = none ∧ n = 0 ∧ c = 0 ∧ zs = [] ∧ ob = none) ∨ ∃ g, a = some ⟨g, 0, none⟩ ∧ ob = some g := by
  have hn := own_nG enc h
  cases ob with
  | none =>
    rcases h.2 with ⟨h1, h2, _⟩ | ⟨g, _, _, hg, _⟩
    · cases h1; exact .inl ⟨rfl, rfl, rfl, List.length_eq_zero_iff.1 hn.symm, rfl⟩
    · cases hg
  | some g => exact .inr ⟨g, own_addr h, rfl⟩
end
def ofL (l : List UInt8) : ByteArray := ⟨l.toArray⟩
theorem ofL_toList (l : List UInt8) : (ofL l).toList = l := Go.ByteArray.toList_mk l
theorem toList_ofL (s : ByteArray) : ofL s.toList = s := toList_inj (ofL_toList _)
def ssrt (l : List ByteArray) : List ByteArray := ((l.map ByteArray.toList).mergeSort fun x y => decide (x ≤ y)).map ofL
theorem ssrt_perm (l : List ByteArray) : (ssrt l).Perm l := by
  have h := (List.mergeSort_perm (l.map ByteArray.toList) fun x y => decide (x ≤ y)).map ofL
  rw [List.map_map] at h
  have e : l.map (ofL ∘ ByteArray.toList) = l := by
    conv => rhs; rw [← List.map_id l]
    exact List.map_congr_left fun s _ => toList_ofL s
  rw [e] at h
  exact h
def SRs (l : List ByteArray) : Prop := l.Pairwise (fun a b => a.toList < b.toList)
theorem sort_str {w : World} {a : Option Addr} {n c : Nat} {zs : List ByteArray} {ob : Option Nat} (h : OwnS w 9 1 a n c (zs.map sv) ob) (hl : n ≤ 1000000000) :
    Calls Tryz.prog 116 #[.slice a n c] w (Ret fun v w' => v = .tuple #[] ∧ OwnS w' 9 1 a n c ((ssrt zs).map sv) ob ∧ Evo ob.toList w w') := by
  have e1 : zs.map sv = (zs.map ByteArray.toList).map encStr := by
    rw [List.map_map]
    exact List.map_congr_left fun s _ => by show _ = Value.string (ofL s.toList); rw [toList_ofL]
  rw [e1] at h
  have hn := own_nG _ h
  have e2 : (ssrt zs).map sv = ((zs.map ByteArray.toList).mergeSort fun x y => decide (x ≤ y)).map encStr := by
    unfold ssrt; rw [List.map_map]; rfl
  rcases own_casesG _ h with ⟨rfl, rfl, rfl, hz, rfl⟩ | ⟨g, rfl, rfl⟩
  · refine (Tryz.slices_Sort_string_none none 0 w).mono ?_
    rintro e w' ⟨rfl, rfl⟩
    refine ⟨_, rfl, rfl, ?_, Evo.refl _ _⟩
    rw [e2, hz, List.mergeSort_nil]
    exact OwnS.nil _ _ _
  · subst hn
    refine (Tryz.slices_Sort_string g 0 c _ w (own_holdsG _ h) h.lt (by omega)).mono ?_
    rintro e w' ⟨rfl, q, os, rfl⟩
    refine ⟨_, rfl, rfl, ?_, evo_rowG _ w g q _ os⟩
    rw [e2]
    exact own_laidG _ h (List.length_mergeSort _) q os
theorem ssrt_le (l : List ByteArray) : (ssrt l).Pairwise (fun a b => a.toList ≤ b.toList) := by
  have h1 := List.pairwise_mergeSort (le := fun x y : List UInt8 => decide (x ≤ y)) (by intro a b c h1 h2; simp only [decide_eq_true_eq] at *; exact List.le_trans h1 h2) (by intro a b; simp only [Bool.or_eq_true, decide_eq_true_eq]; exact List.le_total a b) (l.map ByteArray.toList)
  unfold ssrt
  rw [List.pairwise_map]
  exact h1.imp (by intro a b h; rw [ofL_toList, ofL_toList]; exact of_decide_eq_true h)
def scom (l : List ByteArray) : List ByteArray := (Lib.compact (l.map ByteArray.toList)).map ofL
theorem compact_len (zs : List (List UInt8)) : (Lib.compact zs).length ≤ zs.length := by
  unfold Lib.compact Lib.compactUpTo
  have := List.length_filter_le (Lib.keeps zs.toArray) (List.range zs.length)
  simpa using this
theorem scom_len (l : List ByteArray) : (scom l).length ≤ l.length := by
  unfold scom
  have := compact_len (l.map ByteArray.toList)
  simpa using this
theorem compact_srs {zs : List (List UInt8)} (hs : zs.Pairwise (· ≤ ·)) : (Lib.compact zs).Pairwise (· < ·) ∧ ∀ x, x ∈ Lib.compact zs ↔ x ∈ zs := by
  have hle : ∀ i j (hi : i < zs.length) (hj : j < zs.length), i ≤ j → zs[i] ≤ zs[j] := fun i j hi hj hij => by
    rcases Nat.lt_or_eq_of_le hij with h | h
    · exact (List.pairwise_iff_getElem.1 hs) i j hi hj h
    · subst h; exact List.le_refl _
  have hget : ∀ i (hi : i < zs.length), zs.toArray[i]! = zs[i] := fun i hi => by simp [hi]
  constructor
  · unfold Lib.compact Lib.compactUpTo
    rw [List.pairwise_map]
    have hp : ((List.range zs.length).filter (Lib.keeps zs.toArray)).Pairwise (· < ·) := List.Pairwise.filter _ List.pairwise_lt_range
    refine List.Pairwise.imp_of_mem ?_ hp
    intro a b ha hb hab
    have hb1 := List.mem_filter.1 hb
    have ha1 := List.mem_filter.1 ha
    have hb2 : b < zs.length := List.mem_range.1 hb1.1
    have ha2 : a < zs.length := List.mem_range.1 ha1.1
    have hk := hb1.2
    simp only [Lib.keeps, decide_eq_true_eq] at hk
    rw [hget a ha2, hget b hb2]
    rcases hk with h | h
    · omega
    · rw [hget b hb2, hget (b - 1) (by omega)] at h
      have h1 := hle a (b - 1) ha2 (by omega) (by omega)
      have h2 := hle (b - 1) b (by omega) hb2 (by omega)
      exact List.lt_of_le_of_lt h1 (Std.lt_of_le_of_ne h2 (fun e => h e.symm))
  · intro x
    unfold Lib.compact Lib.compactUpTo
    simp only [List.mem_map, List.mem_filter, List.mem_range]
    constructor
    · rintro ⟨i, ⟨hi, _⟩, rfl⟩
      rw [hget i hi]
      exact List.getElem_mem _
    · intro hx
      obtain ⟨i, hi, rfl⟩ := List.getElem_of_mem hx
      induction i using Nat.strongRecOn with
      | _ i ih =>
        by_cases hk : Lib.keeps zs.toArray i = true
        · exact ⟨i, ⟨hi, hk⟩, hget i hi⟩
        · simp only [Lib.keeps, decide_eq_true_eq, not_or, Decidable.not_not] at hk
          have h1 : zs[i] = zs[i - 1]'(by omega) := by have := hk.2; rwa [hget i hi, hget (i - 1) (by omega)] at this
          obtain ⟨j, hj, he⟩ := ih (i - 1) (by omega) (by omega) (List.getElem_mem _)
          exact ⟨j, hj, by rw [he, h1]⟩
theorem scom_of {l : List ByteArray} (h : l.Pairwise (fun a b => a.toList ≤ b.toList)) : SRs (scom l) ∧ ∀ u, u ∈ scom l ↔ u ∈ l := by
  have h1 := compact_srs (zs := l.map ByteArray.toList) (by rw [List.pairwise_map]; exact h)
  refine ⟨?_, fun u => ?_⟩
  · unfold SRs scom
    rw [List.pairwise_map]
    exact h1.1.imp (by intro a b h; rw [ofL_toList, ofL_toList]; exact h)
  · unfold scom
    rw [List.mem_map]
    constructor
    · rintro ⟨x, hx, rfl⟩
      obtain ⟨y, hy, rfl⟩ := List.mem_map.1 ((h1.2 x).1 hx)
      rw [toList_ofL]; exact hy
    · exact fun hu => ⟨u.toList, (h1.2 _).2 (List.mem_map_of_mem hu), toList_ofL u⟩
theorem settle_of (l : List ByteArray) : SRs (scom (ssrt l)) ∧ ∀ u, u ∈ scom (ssrt l) ↔ u ∈ l := by
  obtain ⟨h1, h2⟩ := scom_of (ssrt_le l)
  exact ⟨h1, fun u => (h2 u).trans (ssrt_perm l).mem_iff⟩
theorem compact_str {w : World} {a : Option Addr} {n c : Nat} {zs : List ByteArray} {ob : Option Nat} (h : OwnS w 9 1 a n c (zs.map sv) ob) (hl : n ≤ 1000000000) :
    Calls Tryz.prog 159 #[.slice a n c] w (Ret fun v w' => v = .slice a (scom zs).length c ∧ OwnS w' 9 1 a (scom zs).length c ((scom zs).map sv) ob ∧ Evo ob.toList w w') := by
  have e1 : zs.map sv = (zs.map ByteArray.toList).map encStr := by
    rw [List.map_map]
    exact List.map_congr_left fun s _ => by show _ = Value.string (ofL s.toList); rw [toList_ofL]
  rw [e1] at h
  have hn := own_nG _ h
  have e2 : (scom zs).map sv = (Lib.compact (zs.map ByteArray.toList)).map encStr := by
    unfold scom; rw [List.map_map]; rfl
  have e3 : (scom zs).length = (Lib.compact (zs.map ByteArray.toList)).length := by unfold scom; rw [List.length_map]
  rw [e2, e3]
  rcases own_casesG _ h with ⟨rfl, rfl, rfl, hz, rfl⟩ | ⟨g, rfl, rfl⟩
  · refine (Tryz.slices_Compact_string_empty none 0 w).mono ?_
    rintro e w' ⟨rfl, rfl⟩
    rw [hz]
    exact ⟨_, rfl, rfl, OwnS.nil _ _ _, Evo.refl _ _⟩
  · subst hn
    have hcl := compact_len (zs.map ByteArray.toList)
    refine (Any.slices_Compact_string Tryz.lays194 g 0 c _ w (own_holdsG _ h) (by omega) h.le).mono ?_
    rintro e w' ⟨rfl, q, rfl⟩
    have e4 : ∀ d : Array (List UInt8), Sort.putRow encStr (Sort.ahead w q) g 0 d = Sort.grow (Sort.putRow encStr (Sort.ahead w q) g 0 d) #[] := fun d => (Sort.grow_empty _).symm
    rw [e4]
    refine ⟨_, rfl, rfl, ?_, evo_rowG _ w g q _ _⟩
    have h5 := own_laidG encStr h (ds := Lib.compact (zs.map ByteArray.toList) ++ List.replicate ((zs.map ByteArray.toList).length - (Lib.compact (zs.map ByteArray.toList)).length) []) (by simp at hcl ⊢; omega) q #[]
    have h6 := h5.cut (m := (Lib.compact (zs.map ByteArray.toList)).length) hcl
    rw [Nat.mul_one, List.map_append, List.take_left' (by rw [List.length_map])] at h6
    exact h6
end Go.Proofs.YtgnpldackjbdjaaGreat
namespace Go.Proofs.YtgnpldackjbdjaaGreat
open Go.W Go.RowKit
set_option linter.unusedVariables false
set_option linter.unusedSimpArgs false
theorem hit_of {s : ByteArray} {a : Nat} (h : 0 < (nextR s a).2) : 1 ≤ (nextR s a).2 ∧ (nextR s a).2 ≤ 4 ∧ a + (nextR s a).2 ≤ s.size ∧ Hit s a (nextR s a).2 := by
  by_cases ha : a < s.size
  · rcases decode_cases s a ha with ⟨w, h1, h2, h3, hh, hd, h4, h5, -⟩ | ⟨h1, hd⟩
    · have hn := (next_hit h1 h2 h3 hh).1
      rw [hn]
      exact ⟨h1, h2, h3, hh⟩
    · unfold nextR at h
      rw [if_neg (fun e => e.2 (by rw [hd]; exact ⟨rfl, rfl⟩))] at h
      cases h
  · rw [next_out (by omega)] at h; cases h
theorem sub_size {s : ByteArray} {a b : Nat} (h : b ≤ s.size) : (s.extract a b).size = b - a := by
  rw [ByteArray.size_extract]; omega
theorem guess_sub {s : ByteArray} {a b p w : Nat} (hb : b ≤ s.size) (hw : 1 ≤ w) (hw4 : w ≤ 4) (hp : a + p + w ≤ b) : guessB (s.extract a b) p w = guessB s (a + p) w := by
  have e : ∀ k, k < w → sb (s.extract a b) (p + k) = sb s (a + p + k) := fun k hk => by
    rw [sb_extract hb (by omega), Nat.add_assoc]
  have e0 := e 0 (by omega)
  simp only [Nat.add_zero] at e0
  unfold guessB
  by_cases h1 : w = 1
  · simp only [h1, if_true]; rw [e0]
  have e1 := e 1 (by omega)
  by_cases h2 : w = 2
  · simp only [h2, if_true]; rw [e0, e1]
  have e2 := e 2 (by omega)
  by_cases h3 : w = 3
  · simp only [h3, if_true]; rw [e0, e1, e2]
  have h4 : w = 4 := by omega
  have e3 := e 3 (by omega)
  simp only [h4]; rw [e0, e1, e2, e3]
theorem hit_sub {s : ByteArray} {a b p w : Nat} (hb : b ≤ s.size) (hw : 1 ≤ w) (hw4 : w ≤ 4) (hp : a + p + w ≤ b) (h : Hit s (a + p) w) : Hit (s.extract a b) p w := by
  have hbb : bytesAt (s.extract a b) p w = bytesAt s (a + p) w := by
    unfold bytesAt
    apply List.map_congr_left
    intro k hk
    have hk2 : k < w := by simpa using hk
    rw [sb_extract hb (by omega), Nat.add_assoc]
  unfold Hit
  rw [guess_sub hb hw hw4 hp, hbb]
  exact h
theorem next_sub {s : ByteArray} {a b p : Nat} (hb : b ≤ s.size) (h : 0 < (nextR s (a + p)).2) (hp : a + p + (nextR s (a + p)).2 ≤ b) : nextR (s.extract a b) p = nextR s (a + p) := by
  obtain ⟨h1, h2, h3, h4⟩ := hit_of h
  have h7 := (next_hit h1 h2 h3 h4).1
  have h5 := hit_sub hb h1 h2 hp h4
  have h6 := (next_hit h1 h2 (by rw [sub_size hb]; omega) h5).1
  rw [guess_sub hb h1 h2 hp] at h6
  exact h6.trans h7.symm
theorem utf_sub {s : ByteArray} {N i j : Nat} (hU : Utf s N) (hij : i ≤ j) (hj : j ≤ N) : Utf (s.extract (offs s i) (offs s j)) (j - i) := by
  have hb := offs_le s j
  have ho : ∀ k, k ≤ j - i → offs s i + offs (s.extract (offs s i) (offs s j)) k = offs s (i + k) := by
    intro k
    induction k with
    | zero => intro _; rfl
    | succ k ih =>
      intro hk
      have h1 := ih (by omega)
      have h2 := hU.2 (i + k) (by omega)
      have h3 := offs_mono s (show i + k + 1 ≤ j by omega)
      rw [offs] at h3
      have h4 := next_sub (s := s) (a := offs s i) (p := offs (s.extract (offs s i) (offs s j)) k) hb (by rw [h1]; exact h2) (by rw [h1]; exact h3)
      rw [offs, h4, h1]
      rw [show i + (k + 1) = i + k + 1 from rfl, offs]
      omega
  refine ⟨?_, fun k hk => ?_⟩
  · have h1 := ho (j - i) (Nat.le_refl _)
    rw [show i + (j - i) = j by omega] at h1
    rw [sub_size hb]; omega
  · have h1 := ho k (by omega)
    have h2 := hU.2 (i + k) (by omega)
    have h3 := offs_mono s (show i + k + 1 ≤ j by omega)
    rw [offs] at h3
    rw [next_sub (s := s) hb (by rw [h1]; exact h2) (by rw [h1]; exact h3), h1]
    exact h2
def Fwd (N : Nat) (R : Nat → Nat → Prop) : Prop := ∀ i j, R i j → i ≤ N → i ≤ j ∧ j ≤ N
theorem it_fwd {N : Nat} {R : Nat → Nat → Prop} (h : Fwd N R) : ∀ c, Fwd N (It R c)
  | 0, i, j, e, hi => by cases e; exact ⟨Nat.le_refl _, hi⟩
  | c + 1, i, j, ⟨k, h1, h2⟩, hi => by
    have h3 := h i k h1 hi
    have h4 := it_fwd h c k j h2 h3.2
    omega
abbrev nob : ByteArray := ByteArray.mk #[]
def Hd (s : ByteArray) (N : Nat) (R : Nat → Nat → Prop) (t : ByteArray) (ex : Bool) : Prop :=
  ∀ i j, i ≤ N → R i j → offs s i + t.size ≤ offs s j ∧ s.extract (offs s i) (offs s i + t.size) = t ∧ (ex = true → offs s i + t.size = offs s j)
variable {s : ByteArray} {N : Nat} {R S : Nat → Nat → Prop} {t u : ByteArray} {ex fx : Bool}
theorem ext_nil (s : ByteArray) (a : Nat) : s.extract a (a + nob.size) = nob := by
  have h : (s.extract a (a + nob.size)).size = 0 := by rw [ByteArray.size_extract]; show min (a + 0) _ - a = 0; omega
  exact ByteArray.size_eq_zero_iff.1 h
theorem Hd.eps (h : ∀ i j, R i j → i = j) : Hd s N R nob true := fun i j hi hr => by
  obtain rfl := h i j hr
  exact ⟨Nat.le_refl _, ext_nil _ _, fun _ => rfl⟩
theorem Hd.none (h : Fwd N R) : Hd s N R nob false := fun i j hi hr => by
  have h1 := offs_mono s (h i j hr hi).1
  exact ⟨by show offs s i + 0 ≤ _; omega, ext_nil _ _, fun h => by cases h⟩
theorem Hd.congr (h : Hd s N R t ex) (e : ∀ i j, i ≤ N → S i j → R i j) : Hd s N S t ex := fun i j hi hr => h i j hi (e i j hi hr)
theorem Hd.seq (hf : Fwd N R) (h1 : Hd s N R t true) (h2 : Hd s N S u ex) : Hd s N (fun i j => ∃ k, R i k ∧ S k j) (t ++ u) ex := fun i j hi ⟨k, hr, hs⟩ => by
  have hk := hf i k hr hi
  have a := h1 i k hi hr
  have b := h2 k j hk.2 hs
  have hz : (t ++ u).size = t.size + u.size := ByteArray.size_append ..
  have e := a.2.2 rfl
  refine ⟨by omega, ?_, fun hx => by have := b.2.2 hx; omega⟩
  rw [ext_app (b := offs s i + t.size) (by omega) (by omega), a.2.1, hz, ← Nat.add_assoc, e, b.2.1]
theorem Hd.cut (hf : Fwd N R) (hg : Fwd N S) (h1 : Hd s N R t ex) : Hd s N (fun i j => ∃ k, R i k ∧ S k j) t false := fun i j hi ⟨k, hr, hs⟩ => by
  have hk := hf i k hr hi
  have a := h1 i k hi hr
  have b := offs_mono s (hg k j hs hk.2).1
  exact ⟨by omega, a.2.1, fun h => by cases h⟩
theorem Hd.alt (hU : Utf s N) (hf : Fwd N R) (hg : Fwd N S) (h1 : Hd s N R t ex) (h2 : Hd s N S u fx) {e : Nat} (e1 : e ≤ t.size) (e2 : e ≤ u.size) (e3 : t.extract 0 e = u.extract 0 e) (e4 : t = u → (∃ M, Utf t M) → e = t.size) :
    Hd s N (fun i j => R i j ∨ S i j) (t.extract 0 e) (ex && fx && decide (t = u)) := by
  have hz : (t.extract 0 e).size = e := by rw [sub_size e1]; omega
  have key : ∀ {R : Nat → Nat → Prop} {t : ByteArray} {ex : Bool}, Fwd N R → Hd s N R t ex → e ≤ t.size → ∀ i j, i ≤ N → R i j → offs s i + e ≤ offs s j ∧ s.extract (offs s i) (offs s i + e) = t.extract 0 e ∧ (ex = true → (∃ M, Utf t M) ∧ offs s i + t.size = offs s j) := by
    intro R t ex hf h1 e1 i j hi hr
    have a := h1 i j hi hr
    refine ⟨by omega, ?_, fun hx => ⟨?_, a.2.2 hx⟩⟩
    · have h3 := congrArg (fun z : ByteArray => z.extract 0 e) a.2.1
      simp only [ByteArray.extract_extract] at h3
      rw [← h3]
      congr 1
      omega
    · have h3 := hf i j hr hi
      refine ⟨j - i, ?_⟩
      have h4 := utf_sub hU h3.1 h3.2
      rw [← a.2.2 hx, a.2.1] at h4
      exact h4
  intro i j hi hr
  rw [hz]
  rcases hr with hr | hr
  · obtain ⟨a, b, c⟩ := key hf h1 e1 i j hi hr
    refine ⟨a, b, fun hx => ?_⟩
    simp only [Bool.and_eq_true, decide_eq_true_eq] at hx
    have h3 := c hx.1.1
    rw [e4 hx.2 h3.1]; exact h3.2
  · obtain ⟨a, b, c⟩ := key hg h2 e2 i j hi hr
    refine ⟨a, by rw [b, e3], fun hx => ?_⟩
    simp only [Bool.and_eq_true, decide_eq_true_eq] at hx
    have h3 := c hx.1.2
    obtain ⟨⟨_, _⟩, rfl⟩ := hx
    rw [e4 rfl h3.1]; exact h3.2
def brep (t : ByteArray) (c : Nat) : ByteArray := ⟨(Lib.repeatL t.data.toList c).toArray⟩
theorem brep_zero (t : ByteArray) : brep t 0 = nob := rfl
theorem brep_succ (t : ByteArray) (c : Nat) : brep t (c + 1) = t ++ brep t c := by
  apply ByteArray.ext
  simp [brep, Lib.repeatL]
theorem brep_size (t : ByteArray) (c : Nat) : (brep t c).size = c * t.size := by
  induction c with
  | zero => rw [brep_zero, Nat.zero_mul]; rfl
  | succ c ih => rw [brep_succ, ByteArray.size_append, ih, Nat.succ_mul, Nat.add_comm]
theorem brep_nob (c : Nat) : brep nob c = nob := by
  have h := brep_size nob c
  rw [show nob.size = 0 from rfl, Nat.mul_zero] at h
  exact ByteArray.size_eq_zero_iff.1 h
theorem Hd.it (hf : Fwd N R) (h : Hd s N R t true) : ∀ c, Hd s N (It R c) (brep t c) true
  | 0 => by rw [brep_zero]; exact Hd.eps fun i j e => e
  | c + 1 => by
    rw [brep_succ]
    exact (Hd.seq hf h (Hd.it hf h c)).congr fun i j _ h => h
def repHead (mn mx : Int) (t : ByteArray) (ex : Bool) : ByteArray × Bool :=
  if mx = 0 then (nob, true) else if mn = 0 then (nob, ex && decide (t = nob)) else if ¬ ex = true ∨ t = nob then (t, ex) else (brep t mn.toNat, decide (mx = mn))
theorem Hd.rep (hf : Fwd N R) (h : Hd s N R t ex) {mn mx : Int} (h0 : 0 ≤ mn) (h1 : mx = -1 ∨ mn ≤ mx) :
    Hd s N (fun i j => ∃ c, mn.toNat ≤ c ∧ (mx = -1 ∨ c ≤ mx.toNat) ∧ It R c i j) (repHead mn mx t ex).1 (repHead mn mx t ex).2 := by
  have hall : Fwd N (fun i j => ∃ c, mn.toNat ≤ c ∧ (mx = -1 ∨ c ≤ mx.toNat) ∧ It R c i j) := fun i j ⟨c, _, _, hc⟩ hi => it_fwd hf c i j hc hi
  have hnob : t = nob → ex = true → Hd s N (fun i j => ∃ c, mn.toNat ≤ c ∧ (mx = -1 ∨ c ≤ mx.toNat) ∧ It R c i j) nob true := fun e1 e2 i j hi ⟨c, _, _, hc⟩ => by
    subst e1 e2
    have := Hd.it hf h c i j hi hc
    rwa [brep_nob] at this
  unfold repHead
  by_cases c1 : mx = 0
  · rw [if_pos c1]
    refine Hd.eps fun i j ⟨c, _, h2, h3⟩ => ?_
    obtain rfl : c = 0 := by omega
    exact h3
  rw [if_neg c1]
  by_cases c2 : mn = 0
  · rw [if_pos c2]
    by_cases c3 : ex = true ∧ t = nob
    · rw [show (ex && decide (t = nob)) = true by simp [c3]]
      exact hnob c3.2 c3.1
    · rw [show (ex && decide (t = nob)) = false by simpa using c3]
      exact Hd.none hall
  rw [if_neg c2]
  by_cases c3 : ¬ ex = true ∨ t = nob
  · rw [if_pos c3]
    by_cases c4 : ex = true
    · have e := c3.resolve_left (fun h => h c4)
      show Hd s N _ t ex
      rw [c4, e]; exact hnob e c4
    · have e : ex = false := by simpa using c4
      show Hd s N _ t ex
      rw [e]
      intro i j hi ⟨c, h2, _, h3⟩
      obtain ⟨c, rfl⟩ : ∃ c', c = c' + 1 := ⟨c - 1, by omega⟩
      exact Hd.cut hf (it_fwd hf c) h i j hi h3
  · rw [if_neg c3]
    have e : ex = true := by by_cases h : ex = true; exact h; exact (c3 (.inl h)).elim
    subst e
    intro i j hi ⟨c, h2, h3, h4⟩
    have hm := Hd.it hf h mn.toNat
    by_cases c5 : c = mn.toNat
    · subst c5
      have := hm i j hi h4
      exact ⟨this.1, this.2.1, fun _ => this.2.2 rfl⟩
    · obtain ⟨d, rfl⟩ : ∃ d, c = mn.toNat + d := ⟨c - mn.toNat, by omega⟩
      have h5 := Hd.cut (it_fwd hf _) (it_fwd hf d) hm i j hi (It.add.1 h4)
      exact ⟨h5.1, h5.2.1, fun hx => by simp only [decide_eq_true_eq] at hx; omega⟩
end Go.Proofs.YtgnpldackjbdjaaGreat
namespace Go.Proofs.YtgnpldackjbdjaaGreat
open Go.W Go.RowKit
set_option linter.unusedVariables false
set_option linter.unusedSimpArgs false
def VR (rs : List Int) : Prop := ∀ r, r ∈ rs → IsR r
abbrev txt (rs : List Int) : ByteArray := bstr (frm rs)
theorem frm_app (a b : List Int) : frm (a ++ b) = frm a ++ frm b := by unfold frm; rw [List.flatMap_append]
theorem bstr_app (a b : List Nat) : bstr (a ++ b) = bstr a ++ bstr b := by
  apply ByteArray.ext
  simp [bstr]
theorem txt_app (a b : List Int) : txt (a ++ b) = txt a ++ txt b := by unfold txt; rw [frm_app, bstr_app]
theorem txt_nil : txt [] = nob := rfl
theorem txt_size (rs : List Int) : (txt rs).size = (frm rs).length := bstr_size _
theorem sb_bstr {l : List Nat} {k : Nat} (hk : k < l.length) (hl : ∀ b, b ∈ l → b < 256) : sb (bstr l) k = l[k] := by
  have hz : k < (bstr l).size := by rw [bstr_size]; exact hk
  have h1 := hl l[k] (List.getElem_mem hk)
  rw [sb_get _ _ hz]
  show ((bstr l).data[k]'(by exact hz)).toNat = _
  simp [bstr]
  omega
theorem formB_pos {r : Int} (h : IsR r) : 1 ≤ (formB r).length := by
  rw [formB, if_pos h]; unfold formN; repeat' split
  all_goals simp
theorem next_form {s : ByteArray} {a : Nat} {r : Int} (hr : IsR r) (hs : a + (formB r).length ≤ s.size) (h : ∀ k (hk : k < (formB r).length), sb s (a + k) = (formB r)[k]) : nextR s a = (r, (formB r).length) := by
  have hb : bytesAt s a (formB r).length = formB r := by
    apply List.ext_getElem
    · simp [bytesAt]
    · intro k h1 h2
      simp only [bytesAt, List.getElem_map, List.getElem_range]
      exact h k h2
  have hg : guessB s a (formB r).length = r := by
    obtain ⟨m, rfl⟩ := Int.eq_ofNat_of_zero_le hr.1
    have e : formB (m : Int) = formN m := by rw [formB, if_pos hr]; rfl
    rw [e] at h ⊢
    have hm : (m : Int) ≤ 1114111 := hr.2.1
    unfold formN at h ⊢
    by_cases c1 : m < 128
    · simp only [if_pos c1] at h ⊢
      have h0 := h 0 (by simp)
      simp at h0
      simp [guessB, h0]
    by_cases c2 : m < 2048
    · simp only [if_neg c1, if_pos c2] at h ⊢
      have h0 := h 0 (by simp); have h1 := h 1 (by simp)
      simp at h0 h1
      simp [guessB, h0, h1]; omega
    by_cases c3 : m < 65536
    · simp only [if_neg c1, if_neg c2, if_pos c3] at h ⊢
      have h0 := h 0 (by simp); have h1 := h 1 (by simp); have h2 := h 2 (by simp)
      simp at h0 h1 h2
      simp [guessB, h0, h1, h2]; omega
    · simp only [if_neg c1, if_neg c2, if_neg c3] at h ⊢
      have h0 := h 0 (by simp); have h1 := h 1 (by simp); have h2 := h 2 (by simp); have h3 := h 3 (by simp)
      simp at h0 h1 h2 h3
      simp [guessB, h0, h1, h2, h3]; omega
  have hh : Hit s a (formB r).length := by unfold Hit; rw [hg, hb]
  have := (next_hit (formB_pos hr) (formB_len r) hs hh).1
  rw [this, hg]
theorem next_txt {p q : List Int} {r : Int} (hr : IsR r) : nextR (txt (p ++ r :: q)) (frm p).length = (r, (formB r).length) := by
  have e : frm (p ++ r :: q) = frm p ++ (formB r ++ frm q) := by rw [frm_app]; rfl
  have hlt : ∀ b, b ∈ frm (p ++ r :: q) → b < 256 := frm_lt _
  refine next_form hr ?_ fun k hk => ?_
  · rw [txt_size, e]; simp only [List.length_append]; omega
  · rw [sb_bstr (by rw [e]; simp only [List.length_append]; omega) hlt]
    simp only [e]
    rw [List.getElem_append_right (by omega), List.getElem_append_left (by omega)]
    simp
theorem offs_txt {rs : List Int} (h : VR rs) : ∀ k, k ≤ rs.length → offs (txt rs) k = (frm (rs.take k)).length := by
  intro k
  induction k with
  | zero => intro _; rfl
  | succ k ih =>
    intro hk
    have h1 := ih (by omega)
    have hlt : k < rs.length := by omega
    have e : rs = rs.take k ++ rs[k] :: rs.drop (k + 1) := by simp
    have h2 := next_txt (p := rs.take k) (q := rs.drop (k + 1)) (h rs[k] (List.getElem_mem hlt))
    rw [← e] at h2
    rw [offs, h1, h2, frm_succ hlt, List.length_append]
theorem utf_txt {rs : List Int} (h : VR rs) : Utf (txt rs) rs.length ∧ runesK (txt rs) rs.length = rs := by
  have hn : ∀ k (hk : k < rs.length), nextR (txt rs) (offs (txt rs) k) = (rs[k], (formB rs[k]).length) := fun k hk => by
    have e : rs = rs.take k ++ rs[k] :: rs.drop (k + 1) := by simp
    have h2 := next_txt (p := rs.take k) (q := rs.drop (k + 1)) (h rs[k] (List.getElem_mem hk))
    rw [← e] at h2
    rw [offs_txt h k (by omega)]
    exact h2
  refine ⟨⟨?_, fun k hk => ?_⟩, ?_⟩
  · rw [offs_txt h _ (Nat.le_refl _), List.take_length, txt_size]
  · rw [hn k hk]; exact formB_pos (h _ (List.getElem_mem hk))
  · apply List.ext_getElem
    · simp [runesK]
    · intro k h1 h2
      simp only [runesK, List.getElem_map, List.getElem_range]
      show (nextR _ _).1 = _
      rw [hn k h2]
end Go.Proofs.YtgnpldackjbdjaaGreat
namespace Go.Proofs.YtgnpldackjbdjaaGreat
open Go.W Go.RowKit
set_option linter.unusedVariables false
set_option linter.unusedSimpArgs false
abbrev Lv := List ByteArray × Bool
def lnone (l : Lv) : Bool := !l.2 && decide (l.1.length = 0)
def lempty (l : Lv) : Bool := !l.2 && decide (l.1 = [nob])
def lone (u : ByteArray) : Lv := ([u], false)
def settle (zs : List ByteArray) : Lv := if 64 < (scom (ssrt zs)).length then ([], true) else (scom (ssrt zs), false)
def crossL (a b : List ByteArray) : List ByteArray := a.flatMap fun x => b.map fun y => x ++ y
def lthen (l m : Lv) : Lv := if lnone l = true ∨ lnone m = true then ([], false) else if l.2 = true ∨ m.2 = true then ([], true) else settle (crossL l.1 m.1)
def lor (l m : Lv) : Lv := if l.2 = true ∨ m.2 = true then ([], true) else settle (l.1 ++ m.1)
def ltim (l : Lv) : Nat → Lv → Lv
  | 0, p => p
  | n + 1, p => if p.2 = true then p else ltim l n (lthen p l)
def ltimes (l : Lv) (n : Nat) : Lv :=
  if 0 < n ∧ (l.2 = true ∨ l.1.length = 0 ∨ lempty l = true) then l else if l.1.length = 1 then lone (brep (l.1.headD nob) n) else ltim l n (lone nob)
def lreps (l : Lv) : Nat → Lv → Lv → Lv
  | 0, _, all => all
  | n + 1, p, all => if all.2 = true then all else lreps l n (lthen p l) (lor all (lthen p l))
def lrep (l : Lv) (mn mx : Int) : Lv :=
  if mx = 0 then lone nob else if lnone l = true ∧ mn = 0 then lone nob else if lnone l = true ∨ l.2 = true ∨ lempty l = true then l else if mx < 0 then ([], true)
  else lreps l (mx - mn).toNat (ltimes l mn.toNat) (ltimes l mn.toNat)
abbrev Tx := ByteArray → Prop
structure LIs (l : Lv) (B : Nat) (S : Tx) : Prop where
  few : l.2 = false → SRs l.1 ∧ l.1.length ≤ 64 ∧ (∀ u, u ∈ l.1 ↔ S u) ∧ ∀ u, u ∈ l.1 → u.size ≤ B
  lots : l.2 = true → l.1 = [] ∧ ∃ ws : List ByteArray, ws.Nodup ∧ 64 < ws.length ∧ ∀ u, u ∈ ws → S u
theorem SRs.nodup {l : List ByteArray} (h : SRs l) : l.Nodup := h.imp fun {a b} hab e => by subst e; exact List.lt_irrefl _ hab
variable {l m p q : Lv} {B C : Nat} {S T U : Tx}
theorem LIs.congr (h : LIs l B S) (e : ∀ u, S u ↔ T u) : LIs l B T :=
  ⟨fun h2 => ⟨(h.few h2).1, (h.few h2).2.1, fun u => ((h.few h2).2.2.1 u).trans (e u), (h.few h2).2.2.2⟩, fun h2 => by
    obtain ⟨h3, ws, h4, h5, h6⟩ := h.lots h2
    exact ⟨h3, ws, h4, h5, fun u hu => (e u).1 (h6 u hu)⟩⟩
theorem LIs.wide (h : LIs l B S) (hB : B ≤ C) : LIs l C S := ⟨fun h2 => ⟨(h.few h2).1, (h.few h2).2.1, (h.few h2).2.2.1, fun u hu => Nat.le_trans ((h.few h2).2.2.2 u hu) hB⟩, h.lots⟩
theorem LIs.one (u : ByteArray) (h : u.size ≤ B) : LIs (lone u) B (fun v => v = u) :=
  ⟨fun _ => ⟨List.pairwise_singleton _ _, by show 1 ≤ 64; decide, fun v => List.mem_singleton, fun v hv => by rw [List.mem_singleton.1 hv]; exact h⟩, fun h => by cases h⟩
theorem LIs.settle (zs : List ByteArray) (hB : ∀ u, u ∈ zs → u.size ≤ B) : LIs (settle zs) B (fun u => u ∈ zs) := by
  obtain ⟨h1, h2⟩ := settle_of zs
  unfold Go.Proofs.YtgnpldackjbdjaaGreat.settle
  by_cases h : 64 < (scom (ssrt zs)).length
  · rw [if_pos h]
    exact ⟨(fun h => by cases h), fun _ => ⟨rfl, _, h1.nodup, h, fun u hu => (h2 u).1 hu⟩⟩
  · rw [if_neg h]
    exact ⟨fun _ => ⟨h1, by show (scom (ssrt zs)).length ≤ 64; omega, h2, fun u hu => hB u ((h2 u).1 hu)⟩, fun h => by cases h⟩
theorem LIs.none (h : LIs l B S) : lnone l = true ↔ ∀ u, ¬ S u := by
  unfold lnone
  cases h2 : l.2 with
  | true =>
    obtain ⟨_, ws, _, h5, h6⟩ := h.lots h2
    simp only [Bool.not_true, Bool.false_and, Bool.false_eq_true, false_iff]
    intro hn
    have : ws ≠ [] := fun e => by rw [e] at h5; simp at h5
    obtain ⟨u, hu⟩ := List.exists_mem_of_ne_nil ws this
    exact hn u (h6 u hu)
  | false =>
    obtain ⟨_, _, h5, _⟩ := h.few h2
    simp only [Bool.not_false, Bool.true_and, decide_eq_true_eq]
    constructor
    · intro h3 u hu
      have := (h5 u).2 hu
      rw [List.length_eq_zero_iff.1 h3] at this
      cases this
    · intro hn
      rw [List.length_eq_zero_iff, List.eq_nil_iff_forall_not_mem]
      exact fun u hu => hn u ((h5 u).1 hu)
theorem LIs.nonempty (h : LIs l B S) (hn : ¬ lnone l = true) : ∃ u, S u := Classical.byContradiction fun h1 => hn (h.none.2 fun u hu => h1 ⟨u, hu⟩)
theorem LIs.nil (h : ∀ u, ¬ S u) : LIs ([], false) B S := ⟨fun _ => ⟨List.Pairwise.nil, Nat.zero_le _, fun u => ⟨(fun h => by cases h), fun hu => (h u hu).elim⟩, fun u hu => by cases hu⟩, fun h => by cases h⟩
def Cc (S T : Tx) : Tx := fun u => ∃ a b, S a ∧ T b ∧ u = a ++ b
theorem app_inj_r {a b c : ByteArray} (h : a ++ c = b ++ c) : a = b := by
  have h1 := congrArg (fun z : ByteArray => z.data.toList) h
  simp only [ByteArray.data_append, Array.toList_append] at h1
  exact ByteArray.ext (Array.toList_inj.1 (List.append_cancel_right h1))
theorem app_inj_l {a b c : ByteArray} (h : c ++ a = c ++ b) : a = b := by
  have h1 := congrArg (fun z : ByteArray => z.data.toList) h
  simp only [ByteArray.data_append, Array.toList_append] at h1
  exact ByteArray.ext (Array.toList_inj.1 (List.append_cancel_left h1))
theorem LIs.then (h : LIs l B S) (k : LIs m C T) : LIs (lthen l m) (B + C) (Cc S T) := by
  unfold lthen
  by_cases c1 : lnone l = true ∨ lnone m = true
  · rw [if_pos c1]
    refine LIs.nil fun u ⟨a, b, ha, hb, _⟩ => ?_
    rcases c1 with c | c
    · exact h.none.1 c a ha
    · exact k.none.1 c b hb
  rw [if_neg c1]
  by_cases c2 : l.2 = true ∨ m.2 = true
  · rw [if_pos c2]
    refine ⟨(fun h => by cases h), fun _ => ⟨rfl, ?_⟩⟩
    rcases c2 with c | c
    · obtain ⟨_, ws, h4, h5, h6⟩ := h.lots c
      obtain ⟨b, hb⟩ := k.nonempty fun e => c1 (.inr e)
      refine ⟨ws.map (· ++ b), ?_, by rwa [List.length_map], fun u hu => ?_⟩
      · exact List.pairwise_map.2 (h4.imp fun hne e => hne (app_inj_r e))
      · obtain ⟨a, ha, rfl⟩ := List.mem_map.1 hu
        exact ⟨a, b, h6 a ha, hb, rfl⟩
    · obtain ⟨_, ws, h4, h5, h6⟩ := k.lots c
      obtain ⟨a, ha⟩ := h.nonempty fun e => c1 (.inl e)
      refine ⟨ws.map (a ++ ·), ?_, by rwa [List.length_map], fun u hu => ?_⟩
      · exact List.pairwise_map.2 (h4.imp fun hne e => hne (app_inj_l e))
      · obtain ⟨b, hb, rfl⟩ := List.mem_map.1 hu
        exact ⟨a, b, ha, h6 b hb, rfl⟩
  · rw [if_neg c2]
    have e1 : l.2 = false := by cases e : l.2 <;> simp_all
    have e2 : m.2 = false := by cases e : m.2 <;> simp_all
    obtain ⟨_, _, h5, h6⟩ := h.few e1
    obtain ⟨_, _, k5, k6⟩ := k.few e2
    have hmem : ∀ u, u ∈ crossL l.1 m.1 ↔ Cc S T u := fun u => by
      unfold crossL
      rw [List.mem_flatMap]
      constructor
      · rintro ⟨a, ha, hu⟩
        obtain ⟨b, hb, rfl⟩ := List.mem_map.1 hu
        exact ⟨a, b, (h5 a).1 ha, (k5 b).1 hb, rfl⟩
      · rintro ⟨a, b, ha, hb, rfl⟩
        exact ⟨a, (h5 a).2 ha, List.mem_map.2 ⟨b, (k5 b).2 hb, rfl⟩⟩
    refine (LIs.settle (crossL l.1 m.1) fun u hu => ?_).congr hmem
    obtain ⟨a, b, ha, hb, rfl⟩ := (hmem u).1 hu
    have := h6 a ((h5 a).2 ha)
    have := k6 b ((k5 b).2 hb)
    rw [ByteArray.size_append]; omega
theorem LIs.or (h : LIs l B S) (k : LIs m C T) : LIs (lor l m) (max B C) (fun u => S u ∨ T u) := by
  unfold lor
  by_cases c2 : l.2 = true ∨ m.2 = true
  · rw [if_pos c2]
    refine ⟨(fun h => by cases h), fun _ => ⟨rfl, ?_⟩⟩
    rcases c2 with c | c
    · obtain ⟨_, ws, h4, h5, h6⟩ := h.lots c
      exact ⟨ws, h4, h5, fun u hu => .inl (h6 u hu)⟩
    · obtain ⟨_, ws, h4, h5, h6⟩ := k.lots c
      exact ⟨ws, h4, h5, fun u hu => .inr (h6 u hu)⟩
  · rw [if_neg c2]
    have e1 : l.2 = false := by cases e : l.2 <;> simp_all
    have e2 : m.2 = false := by cases e : m.2 <;> simp_all
    obtain ⟨_, _, h5, h6⟩ := h.few e1
    obtain ⟨_, _, k5, k6⟩ := k.few e2
    refine (LIs.settle (l.1 ++ m.1) fun u hu => ?_).congr fun u => by rw [List.mem_append, h5, k5]
    rcases List.mem_append.1 hu with hu | hu
    · have := h6 u hu; omega
    · have := k6 u hu; omega
end Go.Proofs.YtgnpldackjbdjaaGreat
namespace Go.Proofs.YtgnpldackjbdjaaGreat
open Go.W Go.RowKit
set_option linter.unusedVariables false
set_option linter.unusedSimpArgs false
variable {l m p q : Lv} {B C : Nat} {S T U : Tx}
def Pw (S : Tx) : Nat → Tx
  | 0 => fun u => u = nob
  | n + 1 => Cc (Pw S n) S
theorem nob_app (a : ByteArray) : nob ++ a = a := by apply ByteArray.ext; simp [nob]
theorem app_nob (a : ByteArray) : a ++ nob = a := by apply ByteArray.ext; simp [nob]
theorem app_assoc (a b c : ByteArray) : a ++ b ++ c = a ++ (b ++ c) := by apply ByteArray.ext; simp
theorem Pw.nonempty (h : ∃ u, S u) : ∀ n, ∃ u, Pw S n u
  | 0 => ⟨nob, rfl⟩
  | n + 1 => by
    obtain ⟨a, ha⟩ := Pw.nonempty h n
    obtain ⟨b, hb⟩ := h
    exact ⟨a ++ b, a, b, ha, hb, rfl⟩
theorem Pw.empty (h : ∀ u, ¬ S u) {n : Nat} (hn : 0 < n) (u : ByteArray) : ¬ Pw S n u := by
  obtain ⟨n, rfl⟩ : ∃ k, n = k + 1 := ⟨n - 1, by omega⟩
  rintro ⟨a, b, _, hb, _⟩
  exact h b hb
theorem Pw.single {x : ByteArray} (h : ∀ u, S u ↔ u = x) : ∀ n u, Pw S n u ↔ u = brep x n
  | 0, u => by rw [brep_zero]; exact Iff.rfl
  | n + 1, u => by
    have hc : ∀ n, brep x n ++ x = brep x (n + 1) := by
      intro n
      induction n with
      | zero => rw [brep_zero, brep_succ, brep_zero, nob_app, app_nob]
      | succ n ih => rw [brep_succ x n, app_assoc, ih, ← brep_succ]
    constructor
    · rintro ⟨a, b, ha, hb, rfl⟩
      rw [(Pw.single h n a).1 ha, (h b).1 hb]; exact hc n
    · rintro rfl
      exact ⟨brep x n, x, (Pw.single h n _).2 rfl, (h x).2 rfl, (hc n).symm⟩
theorem Cc.assoc (u : ByteArray) : Cc (Cc S T) U u ↔ Cc S (Cc T U) u := by
  constructor
  · rintro ⟨a, b, ⟨c, d, hc, hd, rfl⟩, hb, rfl⟩
    exact ⟨c, d ++ b, hc, ⟨d, b, hd, hb, rfl⟩, app_assoc _ _ _⟩
  · rintro ⟨a, b, ha, ⟨c, d, hc, hd, rfl⟩, rfl⟩
    exact ⟨a ++ c, d, ⟨a, c, ha, hc, rfl⟩, hd, (app_assoc _ _ _).symm⟩
theorem Pw.front (S : Tx) : ∀ n u, Pw S (n + 1) u ↔ Cc S (Pw S n) u
  | 0, u => by
    constructor
    · rintro ⟨a, b, rfl, hb, rfl⟩; exact ⟨b, nob, hb, rfl, by rw [nob_app, app_nob]⟩
    · rintro ⟨a, b, ha, rfl, rfl⟩; exact ⟨nob, a, rfl, ha, by rw [nob_app, app_nob]⟩
  | n + 1, u => by
    constructor
    · rintro ⟨a, b, ha, hb, rfl⟩
      obtain ⟨c, d, hc, hd, rfl⟩ := (Pw.front S n a).1 ha
      exact ⟨c, d ++ b, hc, ⟨d, b, hd, hb, rfl⟩, app_assoc _ _ _⟩
    · rintro ⟨a, b, ha, ⟨c, d, hc, hd, rfl⟩, rfl⟩
      exact ⟨a ++ c, d, (Pw.front S n _).2 ⟨a, c, ha, hc, rfl⟩, hd, (app_assoc _ _ _).symm⟩
theorem many_eq (h : LIs l B S) (h2 : l.2 = true) : l = ([], true) := by
  obtain ⟨a, b⟩ := l
  have := (h.lots h2).1
  simp only at this h2
  rw [this, h2]
def Lots (S : Tx) : Prop := ∃ ws : List ByteArray, ws.Nodup ∧ 64 < ws.length ∧ ∀ u, u ∈ ws → S u
theorem Lots.mono (h : Lots S) (e : ∀ u, S u → T u) : Lots T := by
  obtain ⟨ws, h1, h2, h3⟩ := h
  exact ⟨ws, h1, h2, fun u hu => e u (h3 u hu)⟩
theorem Lots.left (h : Lots S) (k : ∃ u, T u) : Lots (Cc S T) := by
  obtain ⟨ws, h4, h5, h6⟩ := h
  obtain ⟨b, hb⟩ := k
  refine ⟨ws.map (· ++ b), List.pairwise_map.2 (h4.imp fun hne e => hne (app_inj_r e)), by rwa [List.length_map], fun u hu => ?_⟩
  obtain ⟨a, ha, rfl⟩ := List.mem_map.1 hu
  exact ⟨a, b, h6 a ha, hb, rfl⟩
theorem LIs.many (h : Lots S) : LIs ([], true) B S := ⟨(fun h => by cases h), fun _ => ⟨rfl, h⟩⟩
theorem LIs.isLots (h : LIs l B S) (h2 : l.2 = true) : Lots S := (h.lots h2).2
theorem Lots.some (h : Lots S) : ∃ u, S u := by
  obtain ⟨ws, _, h5, h6⟩ := h
  have : ws ≠ [] := fun e => by rw [e] at h5; simp at h5
  obtain ⟨u, hu⟩ := List.exists_mem_of_ne_nil ws this
  exact ⟨u, h6 u hu⟩
theorem Lots.pow (h : Lots S) {n : Nat} (hn : 0 < n) : Lots (Pw S n) := by
  obtain ⟨n, rfl⟩ : ∃ k, n = k + 1 := ⟨n - 1, by omega⟩
  exact (h.left (Pw.nonempty h.some n)).mono fun u hu => (Pw.front S n u).2 hu
theorem LIs.tim (h : LIs l B S) (hs : ∃ u, S u) : ∀ (n : Nat) {p : Lv} {C : Nat} {U : Tx}, LIs p C U → LIs (ltim l n p) (C + n * B) (Cc U (Pw S n))
  | 0, p, C, U, k => by
    rw [ltim]
    refine (k.wide (by omega)).congr fun u => ⟨fun hu => ⟨u, nob, hu, rfl, (app_nob u).symm⟩, ?_⟩
    rintro ⟨a, b, ha, rfl, rfl⟩
    rw [app_nob]; exact ha
  | n + 1, p, C, U, k => by
    rw [ltim]
    by_cases c : p.2 = true
    · rw [if_pos c, many_eq k c]
      exact LIs.many ((k.isLots c).left (Pw.nonempty hs (n + 1)))
    · rw [if_neg c]
      refine ((LIs.tim h hs n (k.then h)).wide (by rw [Nat.succ_mul]; omega)).congr fun u => ?_
      rw [Cc.assoc]
      constructor
      · rintro ⟨a, b, ha, hb, rfl⟩; exact ⟨a, b, ha, (Pw.front S n b).2 hb, rfl⟩
      · rintro ⟨a, b, ha, hb, rfl⟩; exact ⟨a, b, ha, (Pw.front S n b).1 hb, rfl⟩
theorem lempty_iff (h : LIs l B S) : lempty l = true → ∀ u, S u ↔ u = nob := fun he u => by
  unfold lempty at he
  simp only [Bool.and_eq_true, Bool.not_eq_true', decide_eq_true_eq] at he
  rw [← (h.few he.1).2.2.1 u, he.2, List.mem_singleton]
theorem LIs.times (h : LIs l B S) (n : Nat) : LIs (ltimes l n) (n * B) (Pw S n) := by
  unfold ltimes
  by_cases c1 : 0 < n ∧ (l.2 = true ∨ l.1.length = 0 ∨ lempty l = true)
  · rw [if_pos c1]
    have hB : B ≤ n * B := Nat.le_mul_of_pos_left B c1.1
    by_cases c2 : l.2 = true
    · rw [many_eq h c2]
      exact LIs.many ((h.isLots c2).pow c1.1)
    · have e1 : l.2 = false := by cases e : l.2 <;> simp_all
      rcases c1.2 with c | c | c
      · exact (c2 c).elim
      · have hn : ∀ u, ¬ S u := h.none.1 (by unfold lnone; simp [e1, c])
        exact (h.wide hB).congr fun u => ⟨fun hu => (hn u hu).elim, fun hu => (Pw.empty hn c1.1 u hu).elim⟩
      · have he := lempty_iff h c
        exact (h.wide hB).congr fun u => (he u).trans (by rw [Pw.single he, brep_nob])
  · rw [if_neg c1]
    by_cases c3 : l.1.length = 1
    · rw [if_pos c3]
      have e1 : l.2 = false := by
        cases e : l.2 with
        | false => rfl
        | true => have := (h.lots e).1; rw [this] at c3; simp at c3
      obtain ⟨x, hx⟩ := List.length_eq_one_iff.1 c3
      have hs : ∀ u, S u ↔ u = x := fun u => by rw [← (h.few e1).2.2.1 u, hx, List.mem_singleton]
      have hz := (h.few e1).2.2.2 x (by rw [hx]; exact List.mem_singleton_self x)
      rw [hx]
      exact (LIs.one (brep x n) (by rw [brep_size]; exact Nat.mul_le_mul_left n hz)).congr fun u => (Pw.single hs n u).symm
    · rw [if_neg c3]
      by_cases hn : n = 0
      · subst hn
        rw [ltim]
        exact LIs.one nob (Nat.zero_le _)
      · have hs : ∃ u, S u := h.nonempty fun e => c1 ⟨by omega, by unfold lnone at e; simp only [Bool.and_eq_true, decide_eq_true_eq] at e; exact .inr (.inl e.2)⟩
        refine ((h.tim hs n (LIs.one (B := 0) nob (Nat.le_refl 0))).wide (by omega)).congr fun u => ?_
        constructor
        · rintro ⟨a, b, rfl, hb, rfl⟩; rw [nob_app]; exact hb
        · exact fun hu => ⟨nob, u, rfl, hu, (nob_app u).symm⟩
end Go.Proofs.YtgnpldackjbdjaaGreat
namespace Go.Proofs.YtgnpldackjbdjaaGreat
open Go.W Go.RowKit
set_option linter.unusedVariables false
set_option linter.unusedSimpArgs false
variable {l m p q : Lv} {B C : Nat} {S T U : Tx}
def Rp (S : Tx) (mn mx : Int) : Tx := fun u => ∃ c : Nat, mn.toNat ≤ c ∧ (mx = -1 ∨ c ≤ mx.toNat) ∧ Pw S c u
theorem LIs.reps (h : LIs l B S) {a : Nat} : ∀ (n : Nat) {p all : Lv} {k : Nat}, a ≤ k → LIs p (k * B) (Pw S k) → LIs all (k * B) (fun u => ∃ c, a ≤ c ∧ c ≤ k ∧ Pw S c u) →
    LIs (lreps l n p all) ((k + n) * B) (fun u => ∃ c, a ≤ c ∧ c ≤ k + n ∧ Pw S c u)
  | 0, p, all, k, ha, h1, h2 => by rw [lreps]; exact h2
  | n + 1, p, all, k, ha, h1, h2 => by
    rw [lreps]
    by_cases c : all.2 = true
    · rw [if_pos c, many_eq h2 c]
      exact LIs.many ((h2.isLots c).mono fun u ⟨c, h3, h4, h5⟩ => ⟨c, h3, by omega, h5⟩)
    · rw [if_neg c]
      have h3 := h1.then h
      have e1 : k * B + B = (k + 1) * B := (Nat.succ_mul k B).symm
      rw [e1] at h3
      have h4 := h2.or h3
      have h5 := LIs.reps h (a := a) n (k := k + 1) (by omega) h3 ((h4.wide (C := (k + 1) * B) (by rw [← e1]; omega)).congr fun u => by
        constructor
        · rintro (⟨c, h3, h4, h5⟩ | h5)
          · exact ⟨c, h3, by omega, h5⟩
          · exact ⟨k + 1, by omega, Nat.le_refl _, h5⟩
        · rintro ⟨c, h3, h4, h5⟩
          by_cases e : c = k + 1
          · subst e; exact .inr h5
          · exact .inl ⟨c, h3, by omega, h5⟩)
      have e2 : k + 1 + n = k + (n + 1) := by omega
      rw [e2] at h5
      exact h5
theorem pow_of {x : ByteArray} (hx : S x) : ∀ n, Pw S n (brep x n)
  | 0 => rfl
  | n + 1 => (Pw.front S n _).2 ⟨x, brep x n, hx, pow_of hx n, brep_succ x n⟩
theorem lots_inf {x : ByteArray} (hx : S x) (h0 : x ≠ nob) (a : Nat) : Lots (fun u => ∃ c, a ≤ c ∧ Pw S c u) := by
  have hz : 0 < x.size := Nat.pos_of_ne_zero fun e => h0 (ByteArray.size_eq_zero_iff.1 e)
  refine ⟨(List.range 65).map fun j => brep x (a + j), ?_, by simp, fun u hu => ?_⟩
  · refine List.pairwise_map.2 (List.nodup_range.imp fun {i j} hij e => hij ?_)
    have h1 := congrArg ByteArray.size e
    rw [brep_size, brep_size] at h1
    have := Nat.eq_of_mul_eq_mul_right hz h1
    omega
  · obtain ⟨j, _, rfl⟩ := List.mem_map.1 hu
    exact ⟨a + j, by omega, pow_of hx _⟩
theorem LIs.rep (h : LIs l B S) {mn mx : Int} (h0 : 0 ≤ mn) (h1 : mx = -1 ∨ mn ≤ mx) : LIs (lrep l mn mx) (if mx < 0 then B else mx.toNat * B) (Rp S mn mx) := by
  unfold lrep
  by_cases c1 : mx = 0
  · rw [if_pos c1]
    refine (LIs.one nob (Nat.zero_le _)).congr fun u => ⟨?_, ?_⟩
    · rintro rfl; exact ⟨0, by omega, .inr (Nat.zero_le _), rfl⟩
    · rintro ⟨c, _, h3, h4⟩
      obtain rfl : c = 0 := by omega
      exact h4
  rw [if_neg c1]
  by_cases c2 : lnone l = true ∧ mn = 0
  · rw [if_pos c2]
    have hn := h.none.1 c2.1
    refine (LIs.one nob (Nat.zero_le _)).congr fun u => ⟨?_, ?_⟩
    · rintro rfl; exact ⟨0, by omega, .inr (Nat.zero_le _), rfl⟩
    · rintro ⟨c, _, h3, h4⟩
      by_cases e : c = 0
      · subst e; exact h4
      · exact (Pw.empty hn (by omega) u h4).elim
  rw [if_neg c2]
  by_cases c3 : lnone l = true ∨ l.2 = true ∨ lempty l = true
  · rw [if_pos c3]
    have hB : B ≤ if mx < 0 then B else mx.toNat * B := by
      split
      · exact Nat.le_refl _
      · exact Nat.le_mul_of_pos_left B (by omega)
    by_cases c4 : l.2 = true
    · rw [many_eq h c4]
      refine LIs.many (((h.isLots c4).pow (n := max mn.toNat 1) (by omega)).mono fun u hu => ⟨_, by omega, ?_, hu⟩)
      rcases h1 with h1 | h1
      · exact .inl h1
      · exact .inr (by omega)
    · by_cases c5 : lnone l = true
      · have hn := h.none.1 c5
        refine (h.wide hB).congr fun u => ⟨fun hu => (hn u hu).elim, ?_⟩
        rintro ⟨c, h3, _, h4⟩
        have : mn ≠ 0 := fun e => c2 ⟨c5, e⟩
        exact (Pw.empty hn (by omega) u h4).elim
      · have he := lempty_iff h ((c3.resolve_left c5).resolve_left c4)
        refine (h.wide hB).congr fun u => ⟨fun hu => ⟨mn.toNat, Nat.le_refl _, ?_, (Pw.single he _ u).2 (by rw [brep_nob]; exact (he u).1 hu)⟩, ?_⟩
        · rcases h1 with h1 | h1
          · exact .inl h1
          · exact .inr (by omega)
        · rintro ⟨c, _, _, h4⟩
          have := (Pw.single he c u).1 h4
          rw [brep_nob] at this
          exact (he u).2 this
  rw [if_neg c3]
  by_cases c4 : mx < 0
  · rw [if_pos c4, if_pos c4]
    have e1 : l.2 = false := by cases e : l.2 <;> simp_all
    obtain ⟨hr, _, h5, _⟩ := h.few e1
    obtain ⟨x, hx, hx0⟩ : ∃ x, S x ∧ x ≠ nob := Classical.byContradiction fun hno => by
      have hall : ∀ u, u ∈ l.1 → u = nob := fun u hu => Classical.byContradiction fun e => hno ⟨u, (h5 u).1 hu, e⟩
      apply c3
      match hl : l.1 with
      | [] => left; unfold lnone; simp [e1, hl]
      | [a] => right; right; unfold lempty; rw [hl] at hall ⊢; simp [e1, hall a (List.mem_singleton_self a)]
      | a :: b :: r =>
        rw [hl] at hall hr
        have ha := hall a (List.mem_cons_self ..)
        have hb := hall b (List.mem_cons_of_mem _ (List.mem_cons_self ..))
        have := (List.pairwise_cons.1 hr).1 b (List.mem_cons_self ..)
        rw [ha, hb] at this
        exact (List.lt_irrefl _ this).elim
    exact LIs.many ((lots_inf hx hx0 mn.toNat).mono fun u ⟨c, h3, h4⟩ => ⟨c, h3, .inl (by omega), h4⟩)
  · rw [if_neg c4, if_neg c4]
    have h2 := h.times mn.toNat
    have h3 := LIs.reps h (a := mn.toNat) (mx - mn).toNat (Nat.le_refl _) h2 (h2.congr fun u => ⟨fun hu => ⟨_, Nat.le_refl _, Nat.le_refl _, hu⟩, fun ⟨c, h4, h5, h6⟩ => (show c = mn.toNat by omega) ▸ h6⟩)
    have e : mn.toNat + (mx - mn).toNat = mx.toNat := by omega
    rw [e] at h3
    refine h3.congr fun u => ⟨fun ⟨c, h4, h5, h6⟩ => ⟨c, h4, .inr h5, h6⟩, fun ⟨c, h4, h5, h6⟩ => ⟨c, h4, by omega, h6⟩⟩
end Go.Proofs.YtgnpldackjbdjaaGreat
namespace Go.Proofs.YtgnpldackjbdjaaGreat
open Go.W Go.RowKit
set_option linter.unusedVariables false
set_option linter.unusedSimpArgs false
def LrP (S : List Int → Prop) : Nat → List Int → Prop
  | 0, rs => rs = []
  | n + 1, rs => ∃ a b, S a ∧ LrP S n b ∧ rs = a ++ b
mutual
def Lr : Rx → List Int → Prop
  | .mk k r g mn mx _ _ _ ks, rs => (k = 1 ∧ rs = []) ∨ (k = 2 ∧ rs = [r]) ∨ (k = 3 ∧ ∃ c, rs = [c] ∧ InR c g) ∨ (k = 4 ∧ Lrs ks rs) ∨ (k = 5 ∧ LrA ks rs) ∨
    (k = 6 ∧ ∃ c, mn.toNat ≤ c ∧ (mx = -1 ∨ c ≤ mx.toNat) ∧ LrP (Lrs ks) c rs) ∨ (k = 7 ∧ Lrs ks rs)
def Lrs : List Rx → List Int → Prop
  | [], rs => rs = []
  | x :: xs, rs => ∃ a b, Lr x a ∧ Lrs xs b ∧ rs = a ++ b
def LrA : List Rx → List Int → Prop
  | [], rs => False
  | x :: xs, rs => Lr x rs ∨ LrA xs rs
end
mutual
def NoLook : Rx → Prop
  | .mk k _ _ _ _ _ _ _ ks => k < 8 ∧ NoLooks ks
def NoLooks : List Rx → Prop
  | [] => True
  | x :: xs => NoLook x ∧ NoLooks xs
end
def sub (rs : List Int) (i j : Nat) : List Int := (rs.drop i).take (j - i)
end Go.Proofs.YtgnpldackjbdjaaGreat
namespace Go.Proofs.YtgnpldackjbdjaaGreat
open Go.W Go.RowKit
set_option linter.unusedVariables false
set_option linter.unusedSimpArgs false
def Tof (L : List Int → Prop) : Tx := fun u => ∃ rs, VR rs ∧ L rs ∧ u = txt rs
theorem vr_app {a b : List Int} : VR (a ++ b) ↔ VR a ∧ VR b := by
  unfold VR
  constructor
  · exact fun h => ⟨fun r hr => h r (List.mem_append_left _ hr), fun r hr => h r (List.mem_append_right _ hr)⟩
  · rintro ⟨h1, h2⟩ r hr
    rcases List.mem_append.1 hr with hr | hr
    · exact h1 r hr
    · exact h2 r hr
theorem tof_nil (u : ByteArray) : Tof (fun rs => rs = []) u ↔ u = nob := by
  constructor
  · rintro ⟨rs, _, rfl, rfl⟩; rfl
  · rintro rfl; exact ⟨[], (fun r hr => by cases hr), rfl, rfl⟩
theorem tof_cc {L M : List Int → Prop} (u : ByteArray) : Tof (fun rs => ∃ a b, L a ∧ M b ∧ rs = a ++ b) u ↔ Cc (Tof L) (Tof M) u := by
  constructor
  · rintro ⟨rs, hv, ⟨a, b, ha, hb, rfl⟩, rfl⟩
    obtain ⟨v1, v2⟩ := vr_app.1 hv
    exact ⟨txt a, txt b, ⟨a, v1, ha, rfl⟩, ⟨b, v2, hb, rfl⟩, txt_app a b⟩
  · rintro ⟨_, _, ⟨a, v1, ha, rfl⟩, ⟨b, v2, hb, rfl⟩, rfl⟩
    exact ⟨a ++ b, vr_app.2 ⟨v1, v2⟩, ⟨a, b, ha, hb, rfl⟩, (txt_app a b).symm⟩
theorem Cc.congr {S T S' T' : Tx} (h : ∀ u, S u ↔ S' u) (k : ∀ u, T u ↔ T' u) (u : ByteArray) : Cc S T u ↔ Cc S' T' u := by
  constructor
  · rintro ⟨a, b, ha, hb, e⟩; exact ⟨a, b, (h a).1 ha, (k b).1 hb, e⟩
  · rintro ⟨a, b, ha, hb, e⟩; exact ⟨a, b, (h a).2 ha, (k b).2 hb, e⟩
theorem tof_pow (L : List Int → Prop) : ∀ n u, Tof (LrP L n) u ↔ Pw (Tof L) n u
  | 0, u => tof_nil u
  | n + 1, u => by
    have h1 : Tof (LrP L (n + 1)) u ↔ Cc (Tof L) (Tof (LrP L n)) u := tof_cc u
    rw [h1, Pw.front]
    exact Cc.congr (fun _ => Iff.rfl) (tof_pow L n) u
def Tg (x : Rx) : Tx := Tof (Lr x)
def Tgs (l : List Rx) : Tx := Tof (Lrs l)
def TgA (l : List Rx) : Tx := Tof (LrA l)
theorem tgs_nil (u : ByteArray) : Tgs [] u ↔ u = nob := by
  have : (Lrs []) = fun rs => rs = [] := by funext rs; rw [Lrs]
  unfold Tgs; rw [this]; exact tof_nil u
theorem tgs_cons (x : Rx) (l : List Rx) (u : ByteArray) : Tgs (x :: l) u ↔ Cc (Tg x) (Tgs l) u := by
  have : (Lrs (x :: l)) = fun rs => ∃ a b, Lr x a ∧ Lrs l b ∧ rs = a ++ b := by funext rs; rw [Lrs]
  unfold Tgs; rw [this]; exact tof_cc u
theorem Cc.nob_l {S : Tx} (u : ByteArray) : Cc (fun v => v = nob) S u ↔ S u := by
  constructor
  · rintro ⟨a, b, rfl, hb, rfl⟩; rw [nob_app]; exact hb
  · exact fun h => ⟨nob, u, rfl, h, (nob_app u).symm⟩
theorem Cc.nob_r {S : Tx} (u : ByteArray) : Cc S (fun v => v = nob) u ↔ S u := by
  constructor
  · rintro ⟨a, b, ha, rfl, rfl⟩; rw [app_nob]; exact ha
  · exact fun h => ⟨u, nob, h, rfl, (app_nob u).symm⟩
theorem tgs_one (x : Rx) (u : ByteArray) : Tgs [x] u ↔ Tg x u := by
  rw [tgs_cons, Cc.congr (fun _ => Iff.rfl) tgs_nil, Cc.nob_r]
theorem tgs_snoc (x : Rx) : ∀ (l : List Rx) (u : ByteArray), Tgs (l ++ [x]) u ↔ Cc (Tgs l) (Tg x) u
  | [], u => by rw [List.nil_append, tgs_one, Cc.congr tgs_nil (fun _ => Iff.rfl), Cc.nob_l]
  | y :: l, u => by
    rw [List.cons_append, tgs_cons, Cc.congr (fun _ => Iff.rfl) (tgs_snoc x l), ← Cc.assoc]
    exact Cc.congr (fun v => (tgs_cons y l v).symm) (fun _ => Iff.rfl) u
theorem tga_nil (u : ByteArray) : ¬ TgA [] u := by
  rintro ⟨rs, _, h, _⟩
  rw [LrA] at h; exact h
theorem tga_cons (x : Rx) (l : List Rx) (u : ByteArray) : TgA (x :: l) u ↔ Tg x u ∨ TgA l u := by
  constructor
  · rintro ⟨rs, hv, h, e⟩
    rw [LrA] at h
    rcases h with h | h
    · exact .inl ⟨rs, hv, h, e⟩
    · exact .inr ⟨rs, hv, h, e⟩
  · rintro (⟨rs, hv, h, e⟩ | ⟨rs, hv, h, e⟩)
    · exact ⟨rs, hv, by rw [LrA]; exact .inl h, e⟩
    · exact ⟨rs, hv, by rw [LrA]; exact .inr h, e⟩
theorem tga_snoc (x : Rx) : ∀ (l : List Rx) (u : ByteArray), TgA (l ++ [x]) u ↔ TgA l u ∨ Tg x u
  | [], u => by rw [List.nil_append, tga_cons]; exact ⟨fun h => h.elim .inr fun h => (tga_nil u h).elim, fun h => h.elim (fun h => (tga_nil u h).elim) .inl⟩
  | y :: l, u => by rw [List.cons_append, tga_cons, tga_snoc x l, tga_cons, or_assoc]
theorem lr_eq (x : Rx) (rs : List Int) : Lr x rs ↔ ((x.kind = 1 ∧ rs = []) ∨ (x.kind = 2 ∧ rs = [x.r]) ∨ (x.kind = 3 ∧ ∃ c, rs = [c] ∧ InR c x.ranges) ∨ (x.kind = 4 ∧ Lrs x.kids rs) ∨ (x.kind = 5 ∧ LrA x.kids rs) ∨
    (x.kind = 6 ∧ ∃ c, x.min.toNat ≤ c ∧ (x.max = -1 ∨ c ≤ x.max.toNat) ∧ LrP (Lrs x.kids) c rs) ∨ (x.kind = 7 ∧ Lrs x.kids rs)) := by
  cases x; rw [Lr]; rfl
theorem tg_of {x : Rx} {L : List Int → Prop} (h : ∀ rs, Lr x rs ↔ L rs) (u : ByteArray) : Tg x u ↔ Tof L u := by
  constructor
  · rintro ⟨rs, hv, h1, e⟩; exact ⟨rs, hv, (h rs).1 h1, e⟩
  · rintro ⟨rs, hv, h1, e⟩; exact ⟨rs, hv, (h rs).2 h1, e⟩
theorem tg1 {x : Rx} (hk : x.kind = 1) (u : ByteArray) : Tg x u ↔ u = nob := by
  rw [tg_of (L := fun rs => rs = []) (fun rs => by rw [lr_eq]; simp [hk])]; exact tof_nil u
theorem tg2 {x : Rx} (hk : x.kind = 2) (u : ByteArray) : Tg x u ↔ IsR x.r ∧ u = bstr (formB x.r) := by
  rw [tg_of (L := fun rs => rs = [x.r]) (fun rs => by rw [lr_eq]; simp [hk])]
  constructor
  · rintro ⟨rs, hv, rfl, rfl⟩; exact ⟨hv _ (List.mem_singleton_self _), by simp [txt, frm]⟩
  · rintro ⟨h, rfl⟩; exact ⟨[x.r], (fun r hr => by rw [List.mem_singleton.1 hr]; exact h), rfl, by simp [txt, frm]⟩
theorem tg3 {x : Rx} (hk : x.kind = 3) (u : ByteArray) : Tg x u ↔ ∃ c, IsR c ∧ InR c x.ranges ∧ u = bstr (formB c) := by
  rw [tg_of (L := fun rs => ∃ c, rs = [c] ∧ InR c x.ranges) (fun rs => by rw [lr_eq]; simp [hk])]
  constructor
  · rintro ⟨rs, hv, ⟨c, rfl, hc⟩, rfl⟩; exact ⟨c, hv _ (List.mem_singleton_self _), hc, by simp [txt, frm]⟩
  · rintro ⟨c, h, hc, rfl⟩; exact ⟨[c], (fun r hr => by rw [List.mem_singleton.1 hr]; exact h), ⟨c, rfl, hc⟩, by simp [txt, frm]⟩
theorem tg4 {x : Rx} (hk : x.kind = 4 ∨ x.kind = 7) (u : ByteArray) : Tg x u ↔ Tgs x.kids u :=
  tg_of (fun rs => by rw [lr_eq]; rcases hk with hk | hk <;> simp [hk]) u
theorem tg5 {x : Rx} (hk : x.kind = 5) (u : ByteArray) : Tg x u ↔ TgA x.kids u := tg_of (fun rs => by rw [lr_eq]; simp [hk]) u
theorem tg6 {x : Rx} (hk : x.kind = 6) (u : ByteArray) : Tg x u ↔ Rp (Tgs x.kids) x.min x.max u := by
  rw [tg_of (L := fun rs => ∃ c, x.min.toNat ≤ c ∧ (x.max = -1 ∨ c ≤ x.max.toNat) ∧ LrP (Lrs x.kids) c rs) (fun rs => by rw [lr_eq]; simp [hk])]
  constructor
  · rintro ⟨rs, hv, ⟨c, h1, h2, h3⟩, e⟩; exact ⟨c, h1, h2, (tof_pow _ c u).1 ⟨rs, hv, h3, e⟩⟩
  · rintro ⟨c, h1, h2, h3⟩
    obtain ⟨rs, hv, h4, e⟩ := (tof_pow _ c u).2 h3
    exact ⟨rs, hv, ⟨c, h1, h2, h4⟩, e⟩
end Go.Proofs.YtgnpldackjbdjaaGreat
namespace Go.Proofs.YtgnpldackjbdjaaGreat
open Go.Proofs
open Go.W Go.RowKit
attribute [local irreducible] Decidable.decide
set_option linter.unusedSimpArgs false
set_option linter.unusedVariables false
theorem Tryz.agg72 : aggB Tryz.prog 72 = some true := by kernel_rfl
theorem Tryz.build72 : Build Tryz.prog 72 #[(0, 1), (1, 1)] #[.string ByteArray.empty, .bool false] := ⟨_, .agg #[.string ByteArray.empty, .bool false], Tryz.underlying72, by kernel_rfl, rfl, fun w => by kernel_rfl⟩
theorem Tryz.fld72_0 : fieldB Tryz.prog 72 0 = some 0 := by kernel_rfl
theorem Tryz.fld72_1 : fieldB Tryz.prog 72 1 = some 1 := by kernel_rfl
theorem Tryz.goes37 : Goes Tryz.prog 37 := ⟨_, Tryz.func37, by kernel_rfl, by kernel_rfl⟩
theorem Tryz.goes78 : Goes Tryz.prog 78 := ⟨_, Tryz.func78, by kernel_rfl, by kernel_rfl⟩
theorem Tryz.goes79 : Goes Tryz.prog 79 := ⟨_, Tryz.func79, by kernel_rfl, by kernel_rfl⟩
theorem Tryz.goes51 : Goes Tryz.prog 51 := ⟨_, Tryz.func51, by kernel_rfl, by kernel_rfl⟩
theorem Tryz.goes80 : Goes Tryz.prog 80 := ⟨_, Tryz.func80, by kernel_rfl, by kernel_rfl⟩
theorem Tryz.goes81 : Goes Tryz.prog 81 := ⟨_, Tryz.func81, by kernel_rfl, by kernel_rfl⟩
theorem Tryz.goes128 : Goes Tryz.prog 128 := ⟨_, Tryz.func128, by kernel_rfl, by kernel_rfl⟩
theorem Tryz.size72 : sizeB Tryz.prog 72 = some 2 := by kernel_rfl
theorem Tryz.zero72 : zeroB Tryz.prog 72 = some #[.string ByteArray.empty, .bool false] := by kernel_rfl
theorem Tryz.zero85 : zeroB Tryz.prog 85 = some #[.pointer none, .slice none 0 0] := by kernel_rfl
theorem rep_le {t : Rx} (hk : t.kind = 6) (h6 : 0 ≤ t.min) (h63 : t.max = -1 ∨ t.min ≤ t.max) {h : Nat} (hh : h ≤ 4 * eszs t.kids) : t.min.toNat * h ≤ 4 * t.esz ∧ (t.min ≠ 0 → h ≤ 4 * t.esz) := by
  have e : (t.min.toNat : Int) = t.min := by omega
  have h1 : (t.min * (eszs t.kids : Int)) ≤ (t.esz : Int) := by
    rcases h63 with h2 | h2
    · rw [esz6a hk h6 h2]; omega
    · rw [esz6b hk h6 h2]
      have := Int.mul_nonneg (show (0 : Int) ≤ t.max - t.min by omega) (show (0 : Int) ≤ (eszs t.kids : Int) + 1 by omega)
      omega
  have h2 : t.min.toNat * h ≤ t.min.toNat * (4 * eszs t.kids) := Nat.mul_le_mul_left _ hh
  have h3 : t.min.toNat * (4 * eszs t.kids) = 4 * (t.min.toNat * eszs t.kids) := by rw [Nat.mul_left_comm]
  have h4 : ((t.min.toNat * eszs t.kids : Nat) : Int) = t.min * (eszs t.kids : Int) := by push_cast; rw [e]
  refine ⟨by omega, fun h5 => ?_⟩
  have h6 : eszs t.kids ≤ t.min.toNat * eszs t.kids := Nat.le_mul_of_pos_left _ (by omega)
  omega
theorem rep_kid {t : Rx} (hk : t.kind = 6) (h6 : 0 ≤ t.min) (h63 : t.max = -1 ∨ t.min ≤ t.max) (h0 : t.max ≠ 0) : eszs t.kids ≤ t.esz := by
  rcases h63 with h2 | h2
  · have e := esz6a hk h6 h2
    have := Int.mul_nonneg h6 (Int.natCast_nonneg (eszs t.kids))
    omega
  · have e := esz6b hk h6 h2
    have h3 := Int.mul_nonneg h6 (Int.natCast_nonneg (eszs t.kids))
    have h4 := Int.mul_nonneg (show (0 : Int) ≤ t.max - t.min by omega) (show (0 : Int) ≤ (eszs t.kids : Int) + 1 by omega)
    by_cases h5 : t.min = 0
    · have h7 : (1 : Int) * ((eszs t.kids : Int) + 1) ≤ (t.max - t.min) * ((eszs t.kids : Int) + 1) := Int.mul_le_mul_of_nonneg_right (by omega) (by omega)
      omega
    · have h7 : (1 : Int) * (eszs t.kids : Int) ≤ t.min * (eszs t.kids : Int) := Int.mul_le_mul_of_nonneg_right (by omega) (by omega)
      omega
theorem repI_ok {w : World} (s : ByteArray) (m : Int) (h0 : 0 ≤ m) (h1 : m ≤ 1000) (hs : s.size ≤ 100000) :
    Calls Tryz.prog 128 #[.string s, .int .i64 m] w (Ret fun v w' => v = .string (brep s m.toNat) ∧ Evo [] w w') := by
  have e : ((m.toNat : Nat) : Int) = m := by omega
  have h2 : s.size * m.toNat ≤ 100000 * 1000 := Nat.mul_le_mul hs (by omega)
  have h := repeat_ok (w := w) s m.toNat (by omega) (by omega)
  rwa [e] at h
theorem size_lt2 {t : Rx} (h : t.esz + 1 ≤ 10000) : t.esz ≤ 9999 := by omega
theorem formB_no {n : Int} (h : ¬ IsR n) : bstr (formB n) = nob := by rw [formB, if_neg h]; rfl
theorem lit_text {w : World} {a : Option Addr} {c : Nat} {r : Int} {ob : Option Nat} (hO : OwnS w 21 1 a 1 c [.int .i32 r] ob) :
    Calls Tryz.prog 78 #[.slice a 1 c] w (Ret fun v w' => v = .tuple #[.string (bstr (formB r)), iv (if IsR r then 0 else 12)] ∧ Evo [] w w') := by
  refine (utext_ok (rs := [r]) hO (by simp)).mono ?_
  rintro e w' ⟨v, rfl, h, he⟩
  refine ⟨_, rfl, ?_, he⟩
  rcases h with ⟨rfl, h⟩ | ⟨rfl, h⟩
  · rw [if_pos (h r (List.mem_singleton_self r))]; simp [frm]
  · have hn : ¬ IsR r := fun h1 => h (fun x hx => by rw [List.mem_singleton.1 hx]; exact h1)
    rw [if_neg hn, formB_no hn]
theorem eszs_tk (l : List Rx) (k : Nat) : eszs (l.take k) ≤ eszs l := by
  by_cases h : k < l.length
  · have := eszs_le h; omega
  · rw [List.take_of_length_le (by omega)]; exact Nat.le_refl _
theorem take_snoc {l : List Rx} {k : Nat} (h : k < l.length) : l.take (k + 1) = l.take k ++ [l[k]] := by
  rw [List.take_add_one, List.getElem?_eq_getElem h]; rfl
theorem ex_field0 {σ : Env} {w : World} {dst : Option Nat} {T : TypeId} {pos : String} {after : Array Edge} {g : Option (Nat × Bool)} {x : Operand} {h : ByteArray} {e : Bool} (hx : σ.ev x = some (.agg #[.string h, .bool e])) :
    Ex Tryz.prog σ ⟨dst, .field 72 x 0, T, pos, after, g⟩ w (.string h) w := fun ρ hρ => by
  have h1 : (Instr.field 72 (.agg #[.string h, .bool e]) 0).run Tryz.prog w = .ok (.string h) w := by kernel_rfl
  simp only [execOp, hρ x _ hx]
  simp [h1]
end Go.Proofs.YtgnpldackjbdjaaGreat
namespace Go.Proofs.YtgnpldackjbdjaaGreat
open Go.Proofs
open Go.W Go.RowKit
attribute [local irreducible] Decidable.decide
set_option linter.unusedSimpArgs false
set_option linter.unusedVariables false
theorem Tryz.agg69 : aggB Tryz.prog 69 = some true := by kernel_rfl
theorem Tryz.build69 : Build Tryz.prog 69 #[(0, 1), (1, 1)] #[.slice none 0 0, .bool false] := ⟨_, .agg #[.slice none 0 0, .bool false], Tryz.underlying69, by kernel_rfl, rfl, fun w => by kernel_rfl⟩
theorem Tryz.fld69_0 : fieldB Tryz.prog 69 0 = some 0 := by kernel_rfl
theorem Tryz.fld69_1 : fieldB Tryz.prog 69 1 = some 1 := by kernel_rfl
theorem Tryz.goes116 : Goes Tryz.prog 116 := ⟨_, Tryz.func116, by kernel_rfl, by kernel_rfl⟩
theorem Tryz.goes159 : Goes Tryz.prog 159 := ⟨_, Tryz.func159, by kernel_rfl, by kernel_rfl⟩
theorem Tryz.size69 : sizeB Tryz.prog 69 = some 2 := by kernel_rfl
theorem Tryz.zero69 : zeroB Tryz.prog 69 = some #[.slice none 0 0, .bool false] := by kernel_rfl
def RTs : Rel ByteArray := fun _ _ vs s => vs = [.string s]
theorem RTs.pers : RTs.Pers := fun _ _ _ _ _ _ h => h
theorem RTs.fresh : RTs.Fresh := fun _ _ _ _ _ _ h => h
structure RLv (X : List Nat) (w : World) (v : Value) (l : Lv) : Prop where
  get : ∃ a n c, v = .agg #[.slice a n c, .bool l.2] ∧ RSl 1 RTs X w (.slice a n c) l.1
theorem RLv.evo {X : List Nat} {w w' : World} {v : Value} {l : Lv} (h : RLv X w v l) (he : Evo X w w') : RLv X w' v l := by
  obtain ⟨a, n, c, h1, h2⟩ := h.get
  exact ⟨a, n, c, h1, RSl.evo RTs.pers he h2⟩
theorem own_rts {X : List Nat} {w : World} {a : Option Addr} {n c : Nat} {zs : List ByteArray} {ob : Option Nat} (h : OwnS w 9 1 a n c (zs.map sv) ob) (hx : ∀ g, ob = some g → g ∉ X) : RSl 1 RTs X w (.slice a n c) zs := by
  have hn := own_nG sv h
  have e1 : (zs.map fun s => [sv s]).flatten = zs.map sv := by
    clear h hn
    induction zs with | nil => rfl | cons z zs ih => simp only [List.map_cons, List.flatten_cons, List.singleton_append, ih]
  rw [← e1] at h
  exact RSl.ofOwn h ⟨by simp, fun k h1 h2 => by simp only [List.getElem_map]; exact ⟨rfl, rfl⟩⟩ hn.symm hx
theorem rlv_none (X : List Nat) (w : World) (b : Bool) : RLv X w (.agg #[.slice none 0 0, .bool b]) ([], b) := ⟨_, _, _, rfl, own_rts (zs := []) (OwnS.nil _ _ _) (fun g h => by cases h)⟩
theorem one_ok {X : List Nat} {w : World} (hX : ∀ b, b ∈ X → b < w.heap.size) (u : ByteArray) : Calls Tryz.prog 74 #[.string u] w (Ret fun v w' => RLv X w' v (lone u) ∧ Evo [] w w') := by
  refine calls_of_cw (N := 6) Tryz.func74 rfl rfl rfl ?_; refine cw_seq ?_; refine cw_region ?_; refine wl_alloc rfl Tryz.zero69 fun b2 w1 hB2 hs3 hw4 => ?_; have hsz_b2 := hs3; have hG5 := Ge.new (Evo.refl [] w) hs3; have hE6 := (Evo.refl [] w).then hw4; refine wl_nil (nrm_then ?_); refine cw_seq ?_; refine cw_region ?_; refine wl_m ?_; refine wl_bslice (vs := [_]) rfl Tryz.slice26 rfl rfl rfl rfl fun b7 w8 hO9 hs10 hw11 => ?_; have hA12 := Apart.new (Lt.blk hB2) hs10; have hG13 := Ge.new hE6 hs10; have hE14 := hE6.then hw11; have hB15 := hw11.blk0 hB2; refine wl_val rfl (ex_build (vs := [(0, _)]) Tryz.build69 rfl (cells := [_, _]) rfl) ?_; refine wl_storeBlk rfl rfl Tryz.size69 hB15 rfl rfl ⟨by first | rfl | assumption, by first | rfl | assumption, trivial⟩ fun w16 hB17 hw18 => ?_; have hE19 := hE14.step hw18 hG5.mem1; have hO20 := hO9.evo hw18 hA12.symm.own1
  try simp only [List.setIfInBounds_toArray, List.set_cons_zero, List.set_cons_succ, Nat.reduceAdd, Nat.zero_add, Nat.add_zero] at hB17
  refine wl_nil (nrm_then ?_); refine cw_ret (body_retC1 rfl (ResOk.cellA rfl Tryz.agg69 Tryz.size69 hB17 rfl) ?_); have h9 := hO20; have h8 := hG13
  exact ⟨⟨_, _, _, rfl, own_rts (zs := [u]) h9 (fun g hg hm => by have h7 := h8 g hg; have h6 := hX g hm; omega)⟩, hE19⟩
theorem settled_ok {X : List Nat} {w : World} {a : Option Addr} {n c : Nat} {zs : List ByteArray} {ob : Option Nat} (hO : OwnS w 9 1 a n c (zs.map sv) ob) (hx : ∀ g, ob = some g → g ∉ X) (hl : n ≤ 1000000000) :
    Calls Tryz.prog 120 #[.slice a n c] w (Ret fun v w' => RLv X w' v (settle zs) ∧ Evo ob.toList w w') := by
  have hlt := Lt.own hO; have hnz := own_nG sv hO; have hc1 := scom_len (ssrt zs); have hc2 := (ssrt_perm zs).length_eq; refine calls_of_cw (N := 13) Tryz.func120 rfl rfl rfl ?_; refine cw_seq ?_; refine cw_region ?_; refine wl_alloc rfl Tryz.zero69 fun b2 w1 hB2 hs3 hw4 => ?_; have hsz_b2 := hs3; have hA5 := Apart.new (Lt.own hO) hs3; have hG6 := Ge.new (Evo.refl ob.toList w) hs3; have hE7 := (Evo.refl ob.toList w).then hw4; have hO8 := hO.evo0 hw4; refine wl_nil (nrm_then ?_); refine cw_seq ?_; refine cw_region ?_; refine wl_m ?_; refine wl_call1 (vs := [_]) Tryz.goes116 rfl (sort_str hO8 hl) rfl ?_; rintro _ w9 ⟨rfl, hS, hw10⟩; have hE11 := hE7.step hw10 (fun y hy => .inl hy); have hB12 := hw10.blk hB2 hA5.symm.nmem; refine wl_nil (nrm_then ?_); refine cw_seq ?_; refine cw_region ?_; have hS4 := hS; refine wl_m ?_; refine wl_call1 (vs := [_]) Tryz.goes159 rfl (compact_str hS4 hl) rfl ?_; rintro _ w13 ⟨rfl, hC, hw14⟩; have hE15 := hE11.step hw14 (fun y hy => .inl hy); have hB16 := hw14.blk hB12 hA5.symm.nmem; refine wl_a ?_; refine wl_nil (nrm_then ?_); refine cw_seq ?_; refine cw_seq ?_; refine cw_region ?_; refine wl_m ?_; refine wl_val rfl (ex_len_slice rfl Tryz.underlying26 rfl) ?_; refine wl_val rfl (ex_gtr rfl rfl) ?_; refine wl_nil (nrm_then ?_); refine cw_if rfl (fun hc9 => ?_) (fun hc9 => ?_)
  ·skip
   refine cw_seq ?_; refine cw_region ?_; refine wl_val rfl (ex_build (vs := [(1, _)]) Tryz.build69 rfl (cells := [_, _]) rfl) ?_; refine wl_storeBlk rfl rfl Tryz.size69 hB16 rfl rfl ⟨by first | rfl | assumption, by first | rfl | assumption, trivial⟩ fun w17 hB18 hw19 => ?_; have hE20 := hE15.step hw19 hG6.mem1; have hO21 := hC.evo hw19 hA5.own1
   try simp only [List.setIfInBounds_toArray, List.set_cons_zero, List.set_cons_succ, Nat.reduceAdd, Nat.zero_add, Nat.add_zero] at hB18
   refine wl_nil (nrm_then ?_); refine cw_ret (ret_then (body_retC1 rfl (ResOk.cellA rfl Tryz.agg69 Tryz.size69 hB18 rfl) ?_)); refine ⟨?_, hE20⟩
   rw [settle, if_pos (by omega)]; exact rlv_none _ _ _
  ·skip
   refine cw_skip (nrm_then ?_); refine cw_seq ?_; refine cw_region ?_; refine wl_m ?_; refine wl_val rfl (ex_build (vs := [(0, _)]) Tryz.build69 rfl (cells := [_, _]) rfl) ?_; refine wl_storeBlk rfl rfl Tryz.size69 hB16 rfl rfl ⟨by first | rfl | assumption, by first | rfl | assumption, trivial⟩ fun w22 hB23 hw24 => ?_; have hE25 := hE15.step hw24 hG6.mem1; have hO26 := hC.evo hw24 hA5.own1
   try simp only [List.setIfInBounds_toArray, List.set_cons_zero, List.set_cons_succ, Nat.reduceAdd, Nat.zero_add, Nat.add_zero] at hB23
   refine wl_nil (nrm_then ?_); refine cw_ret (body_retC1 rfl (ResOk.cellA rfl Tryz.agg69 Tryz.size69 hB23 rfl) ?_); refine ⟨?_, hE25⟩
   rw [settle, if_neg (by omega)]; exact ⟨_, _, _, rfl, own_rts hO26 hx⟩
theorem none_ok {X : List Nat} {w : World} {v : Value} {l : Lv} (hL : RLv X w v l) : Calls Tryz.prog 121 #[v] w (Ret fun r w' => r = .bool (lnone l) ∧ Evo [] w w') := by
  obtain ⟨sa, sn, sc, rfl, hr⟩ := hL.get; obtain ⟨sa', sc', hv, hcc, e1⟩ := id hr; cases hv; obtain ⟨lw, lm⟩ := l; simp only at hcc e1 hr
  try dsimp only
  refine calls_of_cw (N := 12) Tryz.func121 rfl rfl rfl ?_; refine cw_seq ?_; refine cw_region ?_; refine wl_boxA rfl rfl fun b1 w2 hB3 hs4 hw5 => ?_; have hG6 := Ge.new (Evo.refl [] w) hs4; have hE7 := (Evo.refl [] w).then hw5; refine wl_a ?_; refine wl_nil (nrm_then ?_); refine cw_seq ?_; refine cw_region ?_; refine wl_val rfl (ex_fieldAddr rfl Tryz.fld69_1) ?_; refine wl_val rfl (ex_load1 rfl Tryz.agg4 (cell_nth hB3 rfl)) ?_; refine wl_val rfl (ex_notb rfl) ?_; refine wl_m ?_; refine wl_splitb (t := 6) rfl (fun hs6 => ?_) (fun hs6 => ?_)
  ·skip
   refine wl_g ?_; refine wl_val rfl (ex_fieldAddr rfl Tryz.fld69_0) ?_; refine wl_g ?_; refine wl_val rfl (ex_load1 rfl Tryz.agg26 (cell_nth hB3 rfl)) ?_; refine wl_g ?_; refine wl_val rfl (ex_len_slice rfl Tryz.underlying26 rfl) ?_; refine wl_g ?_; refine wl_val rfl (ex_eql rfl rfl) ?_; refine wl_pt ?_; refine wl_a ?_; refine wl_nil (nrm_then ?_); refine cw_ret (body_ret1 rfl rfl ?_); refine ⟨congrArg Value.bool ?_, hE7⟩; unfold lnone
   cases lm <;> simp_all
  ·skip
   refine wl_n ?_; refine wl_n ?_; refine wl_n ?_; refine wl_n ?_; refine wl_pf ?_; refine wl_a ?_; refine wl_nil (nrm_then ?_); refine cw_ret (body_ret1 rfl rfl ?_); refine ⟨congrArg Value.bool ?_, hE7⟩; unfold lnone
   cases lm <;> simp_all
theorem empty_ok {X : List Nat} {w : World} {v : Value} {l : Lv} (hL : RLv X w v l) : Calls Tryz.prog 123 #[v] w (Ret fun r w' => r = .bool (lempty l) ∧ Evo [] w w') := by
  obtain ⟨sa, sn, sc, rfl, hr⟩ := hL.get; obtain ⟨sa', sc', hv, hcc, e1⟩ := id hr; cases hv; obtain ⟨lw, lm⟩ := l; simp only at hcc e1 hr
  try dsimp only
  refine calls_of_cw (N := 19) Tryz.func123 rfl rfl rfl ?_; refine cw_seq ?_; refine cw_region ?_; refine wl_boxA rfl rfl fun b1 w2 hB3 hs4 hw5 => ?_; have hG6 := Ge.new (Evo.refl [] w) hs4; have hE7 := (Evo.refl [] w).then hw5; refine wl_a ?_; refine wl_nil (nrm_then ?_); refine cw_seq ?_; refine cw_region ?_; refine wl_val rfl (ex_fieldAddr rfl Tryz.fld69_1) ?_; refine wl_val rfl (ex_load1 rfl Tryz.agg4 (cell_nth hB3 rfl)) ?_; refine wl_val rfl (ex_notb rfl) ?_; refine wl_m ?_; refine wl_splitb (t := 6) rfl (fun hs6 => ?_) (fun hs6 => ?_)
  ·skip
   refine wl_g ?_; refine wl_val rfl (ex_fieldAddr rfl Tryz.fld69_0) ?_; refine wl_g ?_; refine wl_val rfl (ex_load1 rfl Tryz.agg26 (cell_nth hB3 rfl)) ?_; refine wl_g ?_; refine wl_val rfl (ex_len_slice rfl Tryz.underlying26 rfl) ?_; refine wl_g ?_; refine wl_val rfl (ex_eql rfl rfl) ?_; refine wl_pt ?_; refine wl_m ?_; refine wl_split (t := 12) rfl (fun hs12 => ?_) (fun hs12 => ?_)
   ·skip
    refine wl_g ?_; refine wl_val rfl (ex_fieldAddr rfl Tryz.fld69_0) ?_; refine wl_g ?_; refine wl_val rfl (ex_load1 rfl Tryz.agg26 (cell_nth hB3 rfl)) ?_; refine wl_g ?_; obtain ⟨b1, o1, vs1, ha1, hb1, hvl1, hc1, rfl⟩ := e1 0 (by omega)
    refine wl_val rfl (ex_indexAddrZ (n := 0) (by rw [ha1]; rfl) rfl rfl Tryz.elem26 (by omega)) ?_
    refine wl_g ?_; refine wl_val rfl (ex_load1 rfl Tryz.agg9 ((hc1.evo hE7 (by simp)) 0 _ rfl)) ?_; refine wl_g ?_; refine wl_val rfl (ex_eqs rfl rfl) ?_; refine wl_pt ?_; refine wl_a ?_; refine wl_nil (nrm_then ?_); refine cw_ret (body_ret1 rfl rfl ?_); refine ⟨congrArg Value.bool ?_, hE7⟩; obtain ⟨x, rfl⟩ := List.length_eq_one_iff.1 (show lw.length = 1 by omega)
    have hlm : lm = false := by cases lm <;> simp_all
    unfold lempty; simp [hlm]
   ·skip
    refine wl_n ?_; refine wl_n ?_; refine wl_n ?_; refine wl_n ?_; refine wl_n ?_; refine wl_pf ?_; refine wl_a ?_; refine wl_nil (nrm_then ?_); refine cw_ret (body_ret1 rfl rfl ?_); refine ⟨congrArg Value.bool ?_, hE7⟩
    have hne : lw ≠ [nob] := fun e => hs12 (by rw [e]; rfl)
    unfold lempty; simp [hne]
  ·skip
   refine wl_n ?_; refine wl_n ?_; refine wl_n ?_; refine wl_n ?_; refine wl_pf ?_; refine wl_m ?_; refine wl_n ?_; refine wl_n ?_; refine wl_n ?_; refine wl_n ?_; refine wl_n ?_; refine wl_pf ?_; refine wl_a ?_; refine wl_nil (nrm_then ?_); refine cw_ret (body_ret1 rfl rfl ?_); refine ⟨congrArg Value.bool ?_, hE7⟩; unfold lempty
   cases lm <;> simp_all
end Go.Proofs.YtgnpldackjbdjaaGreat
namespace Go.Proofs.YtgnpldackjbdjaaGreat
open Go.Proofs
open Go.W Go.RowKit
attribute [local irreducible] Decidable.decide
set_option linter.unusedSimpArgs false
set_option linter.unusedVariables false
theorem Tryz.goes120 : Goes Tryz.prog 120 := ⟨_, Tryz.func120, by kernel_rfl, by kernel_rfl⟩
theorem Tryz.goes121 : Goes Tryz.prog 121 := ⟨_, Tryz.func121, by kernel_rfl, by kernel_rfl⟩
structure ThG where
  k : Nat
  ta : Option Addr
  tc : Nat
  tob : Option Nat
structure ThJ where
  j : Nat
  ta : Option Addr
  tc : Nat
  tob : Option Nat
structure ThI (w wr : World) (b3 b4 : Nat) (mv : List Value) (zs : List ByteArray) (n : Nat) (ta : Option Addr) (tc : Nat) (tob : Option Nat) : Prop where
  hb3 : wr.heap[b3]? = some (.cells mv.toArray 69 (0, 0))
  hb4 : wr.heap[b4]? = some (.cells #[.slice none 0 0, .bool false] 69 (0, 0))
  own : OwnS wr 9 1 ta n tc (zs.map sv) tob
  ge : Ge w tob
  a3 : ∀ g, tob = some g → g ≠ b3
  a4 : ∀ g, tob = some g → g ≠ b4
theorem cross_snoc {a b : List ByteArray} {k : Nat} (h : k < a.length) : crossL (a.take (k + 1)) b = crossL (a.take k) b ++ b.map (a[k] ++ ·) := by
  unfold crossL
  rw [List.take_add_one, List.getElem?_eq_getElem h, List.flatMap_append]
  simp
theorem mapt_snoc {b : List ByteArray} {x : ByteArray} {j : Nat} (h : j < b.length) : (b.take (j + 1)).map (x ++ ·) = (b.take j).map (x ++ ·) ++ [x ++ b[j]] := by
  rw [List.take_add_one, List.getElem?_eq_getElem h, List.map_append]; rfl
set_option maxHeartbeats 4000000 in
theorem then_ok {X : List Nat} {w : World} {v1 v2 : Value} {l m : Lv} (hX : ∀ b, b ∈ X → b < w.heap.size) (hL : RLv [] w v1 l) (hM : RLv [] w v2 m) (h1 : l.1.length ≤ 64) (h2 : m.1.length ≤ 64) (hz1 : ∀ u, u ∈ l.1 → u.size ≤ 1000000) (hz2 : ∀ u, u ∈ m.1 → u.size ≤ 1000000) :
    Calls Tryz.prog 75 #[v1, v2] w (Ret fun r w' => RLv X w' r (lthen l m) ∧ Evo [] w w') := by
  have hL0 := hL; have hM0 := hM; obtain ⟨la, ln, lc, rfl, hr1⟩ := hL.get; obtain ⟨_, _, hv, hcc1, e1⟩ := id hr1; cases hv; obtain ⟨ma, mn, mc, rfl, hr2⟩ := hM.get; obtain ⟨_, _, hv, hcc2, e2⟩ := id hr2; cases hv; obtain ⟨ll, lb⟩ := l; obtain ⟨lm, mb⟩ := m; simp only at hcc1 e1 hr1 hcc2 e2 hr2 h1 h2 hz1 hz2
  try dsimp only
  refine calls_of_cw (N := 48) Tryz.func75 rfl rfl rfl ?_; refine cw_seq ?_; refine cw_region ?_; refine wl_boxA rfl rfl fun b2 w1 hB2 hs3 hw4 => ?_; have hsz_b2 := hs3; have hG5 := Ge.new (Evo.refl [] w) hs3; have hE6 := (Evo.refl [] w).then hw4; refine wl_boxA rfl rfl fun b3 w7 hB8 hs9 hw10 => ?_; have hsz_b3 := hs9; have hA11 := Apart.new (Lt.blk hB2) hs9; have hG12 := Ge.new hE6 hs9; have hE13 := hE6.then hw10; have hB14 := hw10.blk0 hB2; refine wl_alloc rfl Tryz.zero69 fun b4 w15 hB16 hs17 hw18 => ?_; have hsz_b4 := hs17; have hA19 := Apart.new (Lt.blk hB14) hs17; have hA20 := Apart.new (Lt.blk hB8) hs17; have hG21 := Ge.new hE13 hs17; have hE22 := hE13.then hw18; have hB23 := hw18.blk0 hB14; have hB24 := hw18.blk0 hB8; refine wl_nil (nrm_then ?_); refine cw_seq ?_; refine cw_seq ?_; refine cw_region ?_; refine wl_val rfl (ex_loadBlk rfl Tryz.agg69 Tryz.size69 hB23 rfl) ?_; refine wl_call1 (vs := [_]) Tryz.goes121 rfl (none_ok (hL0.evo hE22)) rfl ?_; rintro _ w25 ⟨rfl, hw26⟩; have hE27 := hE22.then hw26; have hB28 := hw26.blk0 hB23; have hB29 := hw26.blk0 hB24; have hB30 := hw26.blk0 hB16; refine wl_m ?_; refine wl_splitb (t := 12) rfl (fun hs12 => ?_) (fun hs12 => ?_)
  ·skip
   refine wl_n ?_; refine wl_n ?_; refine wl_pt ?_; refine wl_nil (nrm_then ?_); refine cw_true rfl ?_; refine cw_seq ?_; refine cw_region ?_; refine wl_val rfl (ex_build (vs := []) Tryz.build69 rfl (cells := [_, _]) rfl) ?_; refine wl_storeBlk rfl rfl Tryz.size69 hB30 rfl rfl ⟨by first | rfl | assumption, by first | rfl | assumption, trivial⟩ fun w31 hB32 hw33 => ?_; have hE34 := hE27.step hw33 hG21.mem1; have hB35 := hw33.blk hB28 hA19.nmem1; have hB36 := hw33.blk hB29 hA20.nmem1
   try simp only [List.setIfInBounds_toArray, List.set_cons_zero, List.set_cons_succ, Nat.reduceAdd, Nat.zero_add, Nat.add_zero] at hB32
   refine wl_nil (nrm_then ?_); refine cw_ret (ret_then (body_retC1 rfl (ResOk.cellA rfl Tryz.agg69 Tryz.size69 hB32 rfl) ?_))
   exact ⟨by rw [lthen, if_pos (.inl hs12)]; exact rlv_none _ _ false, hE34⟩
  ·skip
   refine wl_g ?_; refine wl_val rfl (ex_loadBlk rfl Tryz.agg69 Tryz.size69 hB29 rfl) ?_; refine wl_g ?_; refine wl_call1 (vs := [_]) Tryz.goes121 rfl (none_ok (hM0.evo hE27)) rfl ?_; rintro _ w37 ⟨rfl, hw38⟩; have hE39 := hE27.then hw38; have hB40 := hw38.blk0 hB28; have hB41 := hw38.blk0 hB29; have hB42 := hw38.blk0 hB30; refine wl_pf ?_; refine wl_nil (nrm_then ?_); refine cw_ifb rfl (fun hc15 => ?_) (fun hc15 => ?_)
   ·skip
    refine cw_seq ?_; refine cw_region ?_; refine wl_val rfl (ex_build (vs := []) Tryz.build69 rfl (cells := [_, _]) rfl) ?_; refine wl_storeBlk rfl rfl Tryz.size69 hB42 rfl rfl ⟨by first | rfl | assumption, by first | rfl | assumption, trivial⟩ fun w43 hB44 hw45 => ?_; have hE46 := hE39.step hw45 hG21.mem1; have hB47 := hw45.blk hB40 hA19.nmem1; have hB48 := hw45.blk hB41 hA20.nmem1
    try simp only [List.setIfInBounds_toArray, List.set_cons_zero, List.set_cons_succ, Nat.reduceAdd, Nat.zero_add, Nat.add_zero] at hB44
    refine wl_nil (nrm_then ?_); refine cw_ret (ret_then (body_retC1 rfl (ResOk.cellA rfl Tryz.agg69 Tryz.size69 hB44 rfl) ?_))
    exact ⟨by rw [lthen, if_pos (.inr (by simpa using hc15))]; exact rlv_none _ _ false, hE46⟩
   ·skip
    refine cw_skip (nrm_then ?_); refine cw_seq ?_; refine cw_seq ?_; refine cw_region ?_; refine wl_val rfl (ex_fieldAddr rfl Tryz.fld69_1) ?_; refine wl_val rfl (ex_load1 rfl Tryz.agg4 (cell_nth hB40 rfl)) ?_; refine wl_m ?_; refine wl_splitb (t := 19) rfl (fun hs19 => ?_) (fun hs19 => ?_)
    ·skip
     refine wl_n ?_; refine wl_n ?_; refine wl_pt ?_; refine wl_nil (nrm_then ?_); refine cw_true rfl ?_; refine cw_seq ?_; refine cw_region ?_; refine wl_val rfl (ex_build (vs := [(1, _)]) Tryz.build69 rfl (cells := [_, _]) rfl) ?_; refine wl_storeBlk rfl rfl Tryz.size69 hB42 rfl rfl ⟨by first | rfl | assumption, by first | rfl | assumption, trivial⟩ fun w49 hB50 hw51 => ?_; have hE52 := hE39.step hw51 hG21.mem1; have hB53 := hw51.blk hB40 hA19.nmem1; have hB54 := hw51.blk hB41 hA20.nmem1
     try simp only [List.setIfInBounds_toArray, List.set_cons_zero, List.set_cons_succ, Nat.reduceAdd, Nat.zero_add, Nat.add_zero] at hB50
     refine wl_nil (nrm_then ?_); refine cw_ret (ret_then (body_retC1 rfl (ResOk.cellA rfl Tryz.agg69 Tryz.size69 hB50 rfl) ?_))
     exact ⟨by rw [lthen, if_neg (fun h => h.elim (fun h => by rw [hs12] at h; cases h) (fun h => by rw [hc15] at h; cases h)), if_pos (.inl hs19)]; exact rlv_none _ _ true, hE52⟩
    ·skip
     refine wl_g ?_; refine wl_val rfl (ex_fieldAddr rfl Tryz.fld69_1) ?_; refine wl_g ?_; refine wl_val rfl (ex_load1 rfl Tryz.agg4 (cell_nth hB41 rfl)) ?_; refine wl_pf ?_; refine wl_nil (nrm_then ?_); refine cw_ifb rfl (fun hc22 => ?_) (fun hc22 => ?_)
     ·skip
      refine cw_seq ?_; refine cw_region ?_; refine wl_val rfl (ex_build (vs := [(1, _)]) Tryz.build69 rfl (cells := [_, _]) rfl) ?_; refine wl_storeBlk rfl rfl Tryz.size69 hB42 rfl rfl ⟨by first | rfl | assumption, by first | rfl | assumption, trivial⟩ fun w55 hB56 hw57 => ?_; have hE58 := hE39.step hw57 hG21.mem1; have hB59 := hw57.blk hB40 hA19.nmem1; have hB60 := hw57.blk hB41 hA20.nmem1
      try simp only [List.setIfInBounds_toArray, List.set_cons_zero, List.set_cons_succ, Nat.reduceAdd, Nat.zero_add, Nat.add_zero] at hB56
      refine wl_nil (nrm_then ?_); refine cw_ret (ret_then (body_retC1 rfl (ResOk.cellA rfl Tryz.agg69 Tryz.size69 hB56 rfl) ?_))
      exact ⟨by rw [lthen, if_neg (fun h => h.elim (fun h => by rw [hs12] at h; cases h) (fun h => by rw [hc15] at h; cases h)), if_pos (.inr hc22)]; exact rlv_none _ _ true, hE58⟩
     ·skip
      refine cw_skip (nrm_then ?_); refine cw_seq ?_; refine cw_region ?_; refine wl_a ?_; refine wl_nil (nrm_then ?_); refine cw_seq ?_; refine cw_seq ?_; refine cw_region ?_; refine wl_val rfl (ex_fieldAddr rfl Tryz.fld69_0) ?_; refine wl_val rfl (ex_load1 rfl Tryz.agg26 (cell_nth hB40 rfl)) ?_; refine wl_val rfl (ex_len_slice rfl Tryz.underlying26 rfl) ?_; refine wl_m ?_; refine wl_nil (nrm_then ?_); refine cw_block ?_; refine cw_loop (α := ThG) (⟨0, none, 0, none⟩) (fun x => [(27, .int .i64 (x.k : Nat)), (5, .slice x.ta (lm.length * x.k) x.tc)]) [(3, _), (4, _), (25, _), (26, _)] (fun x wr => Evo [] w wr ∧ (x.k ≤ ll.length ∧ ThI w wr b3 b4 [.slice ma lm.length mc, .bool mb] (crossL (ll.take x.k) lm) (lm.length * x.k) x.ta x.tc x.tob)) (fun x => ll.length - x.k) ⟨rfl, rfl, trivial⟩ ⟨rfl, rfl, rfl, rfl, trivial⟩ ⟨hE39, ⟨Nat.zero_le _, hB41, hB42, OwnS.nil _ _ _, Ge.nil _, (fun g h => by cases h), (fun g h => by cases h)⟩⟩ ?_; rintro ⟨k, ta, tc, tob⟩ wr61 ⟨hV62, ⟨hk, hb3, hb4, hT, hge, ha3, ha4⟩⟩; show CW _ _ _ _ [(27, .int .i64 (k : Nat)), (5, .slice ta (lm.length * k) tc), (3, _), (4, _), (25, _), (26, _)] _
      try dsimp only at hk
      try dsimp only at hb3
      try dsimp only at hb4
      try dsimp only at hT
      try dsimp only at hge
      try dsimp only at ha3
      try dsimp only at ha4
      have hA3 : Apart (some b3) tob := fun g h1 h2 => ha3 g h2 (by cases h1; rfl)
      have hA4 : Apart (some b4) tob := fun g h1 h2 => ha4 g h2 (by cases h1; rfl)
      refine cw_seq ?_; refine cw_region ?_; refine wl_val rfl (ex_lss rfl rfl) ?_; refine wl_nil (nrm_then ?_); refine cw_seq ?_; refine cw_if rfl (fun hc28 => ?_) (fun hc28 => ?_)
      ·skip
       have hk' : k < ll.length := by omega
       obtain ⟨b7, o7, vs7, ha7, hb7, hvl7, hc7, rfl⟩ := e1 k hk'; refine cw_skip (nrm_then ?_); refine cw_seq ?_; refine cw_block ?_; refine cw_seq ?_; refine cw_region ?_
       refine wl_val rfl (ex_indexAddr (n := k) (by rw [ha7]; rfl) rfl Tryz.elem26 (by omega)) ?_
       refine wl_val rfl (ex_load1 rfl Tryz.agg9 ((hc7.evo hV62 (by simp)) 0 _ rfl)) ?_; refine wl_a ?_; refine wl_nil (nrm_then ?_); refine cw_seq ?_; refine cw_region ?_; refine wl_val rfl (ex_fieldAddr rfl Tryz.fld69_0) ?_; refine wl_val rfl (ex_load1 rfl Tryz.agg26 (cell_nth hb3 rfl)) ?_; refine wl_val rfl (ex_len_slice rfl Tryz.underlying26 rfl) ?_; refine wl_m ?_; refine wl_nil (nrm_then ?_); refine cw_block ?_
       refine cw_loop (α := ThJ) (⟨0, ta, tc, tob⟩) (fun x => [(34, .int .i64 (x.j : Nat)), (5, .slice x.ta (lm.length * k + x.j) x.tc)]) [(3, _), (4, _), (7, _), (25, _), (26, _), (27, _), (32, _), (33, _)] (fun x wr => Evo [] w wr ∧ (x.j ≤ lm.length ∧ ThI w wr b3 b4 [.slice ma lm.length mc, .bool mb] (crossL (ll.take k) lm ++ (lm.take x.j).map (ll[k] ++ ·)) (lm.length * k + x.j) x.ta x.tc x.tob)) (fun x => lm.length - x.j) ⟨rfl, rfl, trivial⟩ ⟨rfl, rfl, rfl, rfl, rfl, rfl, rfl, rfl, trivial⟩ ⟨hV62, ⟨Nat.zero_le _, hb3, hb4, (by have h9 := hT; simpa using h9), hge, ha3, ha4⟩⟩ ?_
       rintro ⟨j, ta, tc, tob⟩ wr63 ⟨hV64, ⟨hj, hb3, hb4, hT, hge, ha3, ha4⟩⟩; show CW _ _ _ _ [(34, .int .i64 (j : Nat)), (5, .slice ta (lm.length * k + j) tc), (3, _), (4, _), (7, _), (25, _), (26, _), (27, _), (32, _), (33, _)] _
       try dsimp only at hj
       try dsimp only at hb3
       try dsimp only at hb4
       try dsimp only at hT
       try dsimp only at hge
       try dsimp only at ha3
       try dsimp only at ha4
       have hA3 : Apart (some b3) tob := fun g h1 h2 => ha3 g h2 (by cases h1; rfl)
       have hA4 : Apart (some b4) tob := fun g h1 h2 => ha4 g h2 (by cases h1; rfl)
       refine cw_seq ?_; refine cw_region ?_; refine wl_val rfl (ex_lss rfl rfl) ?_; refine wl_nil (nrm_then ?_); refine cw_seq ?_; refine cw_if rfl (fun hc35 => ?_) (fun hc35 => ?_)
       ·skip
        have hj' : j < lm.length := by omega
        obtain ⟨b8, o8, vs8, ha8, hb8, hvl8, hc8, rfl⟩ := e2 j hj'; refine cw_skip (nrm_then ?_); refine cw_seq ?_; refine cw_block ?_; refine cw_seq ?_; refine cw_region ?_
        refine wl_val rfl (ex_indexAddr (n := j) (by rw [ha8]; rfl) rfl Tryz.elem26 (by omega)) ?_
        refine wl_val rfl (ex_load1 rfl Tryz.agg9 ((hc8.evo hV64 (by simp)) 0 _ rfl)) ?_; refine wl_a ?_; refine wl_nil (nrm_then ?_); refine cw_region ?_; refine wl_m ?_; refine wl_m ?_; refine wl_m ?_
        refine wl_val rfl (ex_sadd rfl rfl (by have h8 := hz1 _ (List.getElem_mem hk'); have h9 := hz2 _ (List.getElem_mem hj'); omega)) ?_
        refine wl_bslice (vs := [_]) rfl Tryz.slice26 rfl rfl rfl rfl fun b65 w66 hO67 hs68 hw69 => ?_; have hA70 := Apart.new (Lt.blk hb3) hs68; have hA71 := Apart.new (Lt.blk hb4) hs68; have hA72 := Apart.new (Lt.own hT) hs68; have hG73 := Ge.new hV64 hs68; have hE74 := hV64.then hw69; have hB75 := hw69.blk0 hb3; have hB76 := hw69.blk0 hb4; have hO77 := hT.evo0 hw69
        refine wl_append rfl rfl rfl rfl Tryz.app26_26 hO77 (Src.ofOwn hO67 ⟨by first | rfl | assumption, trivial⟩) (by have h8 := Nat.mul_le_mul h2 (Nat.le_trans hk h1); omega) fun ta2 tc2 w80 tob2 hT2 hw83 hob84 => ?_
        have hA85 := hA3.app (Lt.blk hB75) hob84; have hA86 := hA4.app (Lt.blk hB76) hob84; have hA87 := hA72.symm.app (Lt.own hO67) hob84; have hG88 := hge.app hE74 hob84; have hE89 := hE74.step hw83 hge.mem; have hB90 := hw83.blk hB75 hA3.nmem; have hB91 := hw83.blk hB76 hA4.nmem; have hO92 := hO67.evo hw83 hA72.symm.own; refine wl_a ?_; refine wl_nil (nrm_block (nrm_then ?_)); refine cw_region ?_; refine wl_val rfl (ex_add_i64 rfl rfl (by omega) (by omega)) ?_; refine wl_m ?_; refine wl_nil (nrm_same ?_); refine ⟨⟨j + 1, ta2, tc2, tob2⟩, ?_, ⟨rfl, rfl, trivial⟩, ⟨rfl, rfl, rfl, rfl, rfl, rfl, rfl, rfl, trivial⟩, hE89, ?_⟩
        · (try dsimp only); omega
        ·skip
         try dsimp only
         refine ⟨by show j + 1 ≤ _; omega, hB90, hB91, ?_, hG88, ?_, ?_⟩
         · have h9 := hT2; show OwnS _ 9 1 _ (lm.length * k + j + 1) _ _ _; rw [mapt_snoc hj', ← List.append_assoc, List.map_append]; exact h9
         · intro g h1 e; subst e; exact hA85 _ rfl h1
         · intro g h1 e; subst e; exact hA86 _ rfl h1
       ·skip
        obtain rfl : j = lm.length := by omega
        refine cw_exit (ex_then (ex_then (ex_here (nrm_block (nrm_then ?_))))); refine cw_region ?_; refine wl_val rfl (ex_add_i64 rfl rfl (by omega) (by omega)) ?_; refine wl_m ?_; refine wl_nil (nrm_same ?_); refine ⟨⟨k + 1, ta, tc, tob⟩, ?_, ⟨rfl, rfl, trivial⟩, ⟨rfl, rfl, rfl, rfl, trivial⟩, hV64, ?_⟩
        · (try dsimp only); omega
        ·skip
         try dsimp only
         refine ⟨by show k + 1 ≤ _; omega, hb3, hb4, ?_, hge, ha3, ha4⟩
         have h9 := hT; rw [List.take_length] at h9; show OwnS _ 9 1 _ (lm.length * (k + 1)) _ _ _
         rw [cross_snoc hk']; exact h9
      ·skip
       have hTT := hT; rw [List.take_of_length_le (show ll.length ≤ k by omega)] at hTT; refine cw_exit (ex_then (ex_then (ex_here (nrm_then ?_)))); refine cw_seq ?_; refine cw_region ?_; refine wl_m ?_
       refine wl_call1 (vs := [_]) Tryz.goes120 rfl (settled_ok (X := X ++ [b4]) (zs := crossL ll lm) hTT (fun g hg hm => by rcases List.mem_append.1 hm with h9 | h9; (have h8 := hge g hg; have h7 := hX g h9; omega); exact ha4 g hg (List.mem_singleton.1 h9)) (by have := Nat.mul_le_mul h2 (Nat.le_trans hk h1); omega)) rfl ?_
       rintro rv w93 ⟨hR, hw94⟩; have hE95 := hV62.step hw94 (hge.mem); have hB96 := hw94.blk hb4 (hA4.nmem); obtain ⟨ra, rn, rc, rfl, hrr⟩ := hR.get; refine wl_storeBlk rfl rfl Tryz.size69 hB96 rfl rfl ⟨by first | rfl | assumption, by first | rfl | assumption, trivial⟩ fun w97 hB98 hw99 => ?_; have hE100 := hE95.step hw99 hG21.mem1
       have hE101 := (Evo.refl (X ++ [b4]) w93).step hw99 (fun y hy => .inl (by rw [List.mem_singleton.1 hy]; simp))
       try simp only [List.setIfInBounds_toArray, List.set_cons_zero, List.set_cons_succ, Nat.reduceAdd, Nat.zero_add, Nat.add_zero] at hB98
       refine wl_nil (nrm_then ?_); refine cw_ret (body_retC1 rfl (ResOk.cellA rfl Tryz.agg69 Tryz.size69 hB98 rfl) ?_); refine ⟨?_, hE100⟩
       rw [lthen, if_neg (fun h => h.elim (fun h => by rw [hs12] at h; cases h) (fun h => by rw [hc15] at h; cases h)), if_neg (fun h => h.elim (fun h => by rw [hs19] at h; cases h) (fun h => by rw [hc22] at h; cases h))]
       exact ⟨_, _, _, rfl, RSl.fresh (by decide) RTs.fresh (fun y hy => .inl (List.mem_append_left _ hy)) (RSl.evo RTs.pers hE101 hrr)⟩
end Go.Proofs.YtgnpldackjbdjaaGreat
namespace Go.Proofs.YtgnpldackjbdjaaGreat
open Go.Proofs Go.W Go.RowKit
set_option linter.unusedVariables false
set_option linter.unusedSimpArgs false
theorem own_rowS {w w' : World} {v : Value} {n : Nat} {xs : List Value} (h : w'.ownsRow w.heap.size 9 1 v n xs) : ∃ a c ob, v = .slice a n c ∧ OwnS w' 9 1 a n c xs ob ∧ Ge w ob := by
  obtain ⟨hl, h⟩ := h
  rcases h with ⟨rfl, rfl⟩ | ⟨g, cap, cur, rfl, hg, hb, hn, hc, hs, ht⟩
  · exact ⟨none, 0, none, rfl, ⟨hl, .inl ⟨rfl, rfl, rfl⟩⟩, Ge.nil _⟩
  · exact ⟨_, cap, some g, rfl, ⟨hl, .inr ⟨g, cap, cur, rfl, rfl, hb, hn, hc, hs, ht⟩⟩, fun g' e => by cases e; exact hg⟩
theorem evo_belowS {w w' : World} (h : RowKit.Below w.heap.size w w') : Evo [] w w' := ⟨h.os, h.tape, h.output, h.size, fun b hb _ => h.block b hb⟩
theorem clone_str {X : List Nat} {w : World} {a : Option Addr} {n c : Nat} {zs : List ByteArray} (h : RSl 1 RTs X w (.slice a n c) zs) (hl : zs.length ≤ 1000000) :
    Calls Tryz.prog 122 #[.slice a n c] w (Ret fun v w' => ∃ a' c' ob', v = .slice a' zs.length c' ∧ OwnS w' 9 1 a' zs.length c' (zs.map sv) ob' ∧ Ge w ob' ∧ Evo [] w w') := by
  obtain ⟨a', c', hv, hcc, e1⟩ := id h
  cases hv
  by_cases h0 : zs.length = 0
  · have hz : zs = [] := List.length_eq_zero_iff.1 h0
    subst hz
    cases a with
    | none =>
      refine (Tryz.slices_Clone_string_nil 0 c w).mono ?_
      rintro e w' ⟨rfl, rfl⟩
      exact ⟨_, rfl, none, 0, none, rfl, OwnS.nil _ _ _, Ge.nil _, Evo.refl _ _⟩
    | some ad =>
      refine (Tryz.slices_Clone_string_zero ad c w).mono ?_
      rintro e w' ⟨v', rfl, h1, _, h2⟩
      obtain ⟨a', c', ob', rfl, h3, h4⟩ := own_rowS h1
      exact ⟨_, rfl, a', c', ob', rfl, h3, h4, evo_belowS h2⟩
  · obtain ⟨b, o, vs, ha, hb, hvl, hc, hvs⟩ := e1 0 (by omega)
    subst ha
    refine (Tryz.slices_Clone_string b o zs.length c zs w (Nat.le_refl _) (by omega) (fun j hj => ?_)).mono ?_
    · obtain ⟨b2, o2, vs2, ha2, hb2, hvl2, hc2, hvs2⟩ := e1 j hj
      cases ha2
      have hvs3 : vs2 = [.string zs[j]] := hvs2
      subst hvs3
      have h5 := hc2 0 (.string zs[j]) rfl
      have e5 : zs.getD j ByteArray.empty = zs[j] := by simp [hj]
      rw [e5]
      simpa using h5
    · rintro e w' ⟨v', rfl, h1, _, h2⟩
      rw [List.take_length] at h1
      obtain ⟨a', c', ob', rfl, h3, h4⟩ := own_rowS h1
      exact ⟨_, rfl, a', c', ob', rfl, h3, h4, evo_belowS h2⟩
end Go.Proofs.YtgnpldackjbdjaaGreat
namespace Go.Proofs.YtgnpldackjbdjaaGreat
open Go.Proofs
open Go.W Go.RowKit
attribute [local irreducible] Decidable.decide
set_option linter.unusedSimpArgs false
set_option linter.unusedVariables false
theorem Tryz.goes122 : Goes Tryz.prog 122 := ⟨_, Tryz.func122, by kernel_rfl, by kernel_rfl⟩
theorem RTs.one : ∀ X w vs d, RTs X w vs d → ∀ u, u ∈ vs → u.oneCell' = true := fun _ _ _ _ h u hu => by
  have e : _ = _ := h
  subst e
  cases hu with | head => rfl | tail _ h => cases h
theorem src_ts {P : Program} {X : List Nat} {w : World} {v : Value} {l : List ByteArray} (h : RSl 1 RTs X w v l) : Src P w 1 v l.length (l.map sv) := by
  obtain ⟨rows, hr, hs⟩ := RSl.rows (P := P) h (Evo.refl _ _) RTs.one
  have : rows = l.map fun b => [sv b] := by
    apply List.ext_getElem (by simpa using hr.1)
    intro k h1 h2
    have := (hr.2 k (by rw [← hr.1]; exact h1) h1).2
    rw [List.getElem_map]; exact this
  rw [this] at hs
  have hf : (l.map fun b => [sv b]).flatten = l.map sv := by clear hs hr this h; induction l with | nil => rfl | cons b l ih => simp [ih]
  rwa [hf] at hs
set_option maxHeartbeats 4000000 in
theorem or_ok {X : List Nat} {w : World} {v1 v2 : Value} {l m : Lv} (hX : ∀ b, b ∈ X → b < w.heap.size) (hL : RLv [] w v1 l) (hM : RLv [] w v2 m) (h1 : l.1.length ≤ 64) (h2 : m.1.length ≤ 64) :
    Calls Tryz.prog 76 #[v1, v2] w (Ret fun r w' => RLv X w' r (lor l m) ∧ Evo [] w w') := by
  have hL0 := hL; have hM0 := hM; obtain ⟨la, ln, lc, rfl, hr1⟩ := hL.get; obtain ⟨_, _, hv, hcc1, e1⟩ := id hr1; cases hv; obtain ⟨ma, mn, mc, rfl, hr2⟩ := hM.get; obtain ⟨_, _, hv, hcc2, e2⟩ := id hr2; cases hv; obtain ⟨ll, lb⟩ := l; obtain ⟨lm, mb⟩ := m; simp only at hcc1 e1 hr1 hcc2 e2 hr2 h1 h2
  try dsimp only
  refine calls_of_cw (N := 19) Tryz.func76 rfl rfl rfl ?_; refine cw_seq ?_; refine cw_region ?_; refine wl_boxA rfl rfl fun b2 w1 hB2 hs3 hw4 => ?_; have hsz_b2 := hs3; have hG5 := Ge.new (Evo.refl [] w) hs3; have hE6 := (Evo.refl [] w).then hw4; refine wl_boxA rfl rfl fun b3 w7 hB8 hs9 hw10 => ?_; have hsz_b3 := hs9; have hA11 := Apart.new (Lt.blk hB2) hs9; have hG12 := Ge.new hE6 hs9; have hE13 := hE6.then hw10; have hB14 := hw10.blk0 hB2; refine wl_alloc rfl Tryz.zero69 fun b4 w15 hB16 hs17 hw18 => ?_; have hsz_b4 := hs17; have hA19 := Apart.new (Lt.blk hB14) hs17; have hA20 := Apart.new (Lt.blk hB8) hs17; have hG21 := Ge.new hE13 hs17; have hE22 := hE13.then hw18; have hB23 := hw18.blk0 hB14; have hB24 := hw18.blk0 hB8; refine wl_nil (nrm_then ?_); refine cw_seq ?_; refine cw_seq ?_; refine cw_region ?_; refine wl_val rfl (ex_fieldAddr rfl Tryz.fld69_1) ?_; refine wl_val rfl (ex_load1 rfl Tryz.agg4 (cell_nth hB23 rfl)) ?_; refine wl_m ?_; refine wl_splitb (t := 7) rfl (fun hs7 => ?_) (fun hs7 => ?_)
  ·skip
   refine wl_n ?_; refine wl_n ?_; refine wl_pt ?_; refine wl_nil (nrm_then ?_); refine cw_true rfl ?_; refine cw_seq ?_; refine cw_region ?_; refine wl_val rfl (ex_build (vs := [(1, _)]) Tryz.build69 rfl (cells := [_, _]) rfl) ?_; refine wl_storeBlk rfl rfl Tryz.size69 hB16 rfl rfl ⟨by first | rfl | assumption, by first | rfl | assumption, trivial⟩ fun w25 hB26 hw27 => ?_; have hE28 := hE22.step hw27 hG21.mem1; have hB29 := hw27.blk hB23 hA19.nmem1; have hB30 := hw27.blk hB24 hA20.nmem1
   try simp only [List.setIfInBounds_toArray, List.set_cons_zero, List.set_cons_succ, Nat.reduceAdd, Nat.zero_add, Nat.add_zero] at hB26
   refine wl_nil (nrm_then ?_); refine cw_ret (ret_then (body_retC1 rfl (ResOk.cellA rfl Tryz.agg69 Tryz.size69 hB26 rfl) ?_))
   exact ⟨by rw [lor, if_pos (.inl hs7)]; exact rlv_none _ _ true, hE28⟩
  ·skip
   refine wl_g ?_; refine wl_val rfl (ex_fieldAddr rfl Tryz.fld69_1) ?_; refine wl_g ?_; refine wl_val rfl (ex_load1 rfl Tryz.agg4 (cell_nth hB24 rfl)) ?_; refine wl_pf ?_; refine wl_nil (nrm_then ?_); refine cw_ifb rfl (fun hc10 => ?_) (fun hc10 => ?_)
   ·skip
    refine cw_seq ?_; refine cw_region ?_; refine wl_val rfl (ex_build (vs := [(1, _)]) Tryz.build69 rfl (cells := [_, _]) rfl) ?_; refine wl_storeBlk rfl rfl Tryz.size69 hB16 rfl rfl ⟨by first | rfl | assumption, by first | rfl | assumption, trivial⟩ fun w31 hB32 hw33 => ?_; have hE34 := hE22.step hw33 hG21.mem1; have hB35 := hw33.blk hB23 hA19.nmem1; have hB36 := hw33.blk hB24 hA20.nmem1
    try simp only [List.setIfInBounds_toArray, List.set_cons_zero, List.set_cons_succ, Nat.reduceAdd, Nat.zero_add, Nat.add_zero] at hB32
    refine wl_nil (nrm_then ?_); refine cw_ret (ret_then (body_retC1 rfl (ResOk.cellA rfl Tryz.agg69 Tryz.size69 hB32 rfl) ?_))
    exact ⟨by rw [lor, if_pos (.inr hc10)]; exact rlv_none _ _ true, hE34⟩
   ·skip
    refine cw_skip (nrm_then ?_); refine cw_seq ?_; refine cw_any (fun w0 w' => Evo [] w0 w') (by kernel_rfl) (fun w37 hw38 => ?_); have hE39 := hE22.then hw38; have hB40 := hw38.blk0 hB23; have hB41 := hw38.blk0 hB24; have hB42 := hw38.blk0 hB16; refine ae_take 0 rfl (by kernel_rfl) (by kernel_rfl) (by kernel_rfl) rfl (fun _ hS => ex_fieldAddr rfl Tryz.fld69_0) (Evo.refl [] w37) ?_; refine ae_take 1 rfl (by kernel_rfl) (by kernel_rfl) (by kernel_rfl) rfl (fun _ hS => ex_load1 rfl Tryz.agg26 (cell_nth (hS.blk0 hB40) rfl)) (Evo.refl [] w37) ?_; refine ae_take 3 rfl (by kernel_rfl) (by kernel_rfl) (by kernel_rfl) rfl (fun _ hS => ex_fieldAddr rfl Tryz.fld69_0) (Evo.refl [] w37) ?_; refine ae_take 4 rfl (by kernel_rfl) (by kernel_rfl) (by kernel_rfl) rfl (fun _ hS => ex_load1 rfl Tryz.agg26 (cell_nth (hS.blk0 hB41) rfl)) (Evo.refl [] w37) ?_; refine ae_loud [2] (by kernel_rfl) rfl ⟨?_, trivial⟩; refine a_step rfl ?_; refine wl_call1 (vs := [_]) Tryz.goes122 rfl (clone_str (RSl.evo RTs.pers hE39 hr1) (by omega)) rfl ?_; rintro _ w43 ⟨ca, cc, co, rfl, hC, hGc, hw44⟩; have hA45 := Apart.fresh (Lt.blk hB40) hGc; have hA46 := Apart.fresh (Lt.blk hB41) hGc; have hA47 := Apart.fresh (Lt.blk hB42) hGc; have hG48 := Ge.fresh hE39 hGc; have hG49 := Ge.fresh (Evo.refl [] w37) hGc; have hE50 := hE39.then hw44; have hE51 := (Evo.refl [] w37).then hw44; have hB52 := hw44.blk0 hB40; have hB53 := hw44.blk0 hB41; have hB54 := hw44.blk0 hB42; refine wl_nil (ae_next (.inl hE51) ?_); refine ae_loud [5] (by kernel_rfl) rfl ⟨?_, trivial⟩; refine a_step rfl ?_; refine wl_append rfl rfl rfl rfl Tryz.app26_26 hC (src_ts (RSl.evo RTs.pers hE50 hr2)) (by omega) fun a2 c2 w57 ob2 hO2 hw60 hob61 => ?_; have hA62 := hA45.app (Lt.blk hB52) hob61; have hA63 := hA46.app (Lt.blk hB53) hob61
    have hA64 := hA47.app (Lt.blk hB54) hob61; have hG65 := hG48.app hE50 hob61; have hG66 := hG49.app hE51 hob61; have hE67 := hE50.step hw60 hG48.mem; have hE68 := hE51.step hw60 hG49.mem; have hB69 := hw60.blk hB52 hA45.nmem; have hB70 := hw60.blk hB53 hA46.nmem; have hB71 := hw60.blk hB54 hA47.nmem; refine wl_nil (ae_next (.inl hE68) ?_); refine ae_loud [6] (by kernel_rfl) rfl ⟨?_, trivial⟩; refine a_step rfl ?_
    refine wl_call1 (vs := [_]) Tryz.goes120 rfl (settled_ok (X := X ++ [b4]) (zs := ll ++ lm) (by rw [List.map_append]; exact hO2) (fun g hg hm => by rcases List.mem_append.1 hm with h9 | h9; (have h8 := hG65 g hg; have h7 := hX g h9; omega); exact hA64 g (by rw [List.mem_singleton.1 h9]) hg) (by omega)) rfl ?_
    rintro rv w72 ⟨hR, hw73⟩; have hE74 := hE67.step hw73 (hG65.mem); have hE75 := hE68.step hw73 (hG66.mem); have hB76 := hw73.blk hB69 (hA62.nmem); have hB77 := hw73.blk hB70 (hA63.nmem); have hB78 := hw73.blk hB71 (hA64.nmem); obtain ⟨ra, rn, rc, rfl, hrr⟩ := hR.get; refine wl_nil (ae_next (.inl hE75) ?_); refine ae_loud [7] (by kernel_rfl) rfl ⟨?_, trivial⟩; refine a_step rfl ?_; refine wl_storeBlk rfl rfl Tryz.size69 hB78 rfl rfl ⟨by first | rfl | assumption, by first | rfl | assumption, trivial⟩ fun w79 hB80 hw81 => ?_; have hE82 := hE74.step hw81 hG21.mem1
    have hE84 := (Evo.refl (X ++ [b4]) w72).step hw81 (fun y hy => .inl (by rw [List.mem_singleton.1 hy]; simp))
    have hB85 := hw81.blk hB76 hA19.nmem1; have hB86 := hw81.blk hB77 hA20.nmem1
    try simp only [List.setIfInBounds_toArray, List.set_cons_zero, List.set_cons_succ, Nat.reduceAdd, Nat.zero_add, Nat.add_zero] at hB80
    refine wl_nil (ae_next (.inr (by kernel_rfl)) ?_); refine ae_done (by kernel_rfl) (nrm_then ?_); refine cw_ret (body_retC1 rfl (ResOk.cellA rfl Tryz.agg69 Tryz.size69 hB80 rfl) ?_); refine ⟨?_, hE82⟩
    rw [lor, if_neg (fun h => h.elim (fun h => by rw [hs7] at h; cases h) (fun h => by rw [hc10] at h; cases h))]
    exact ⟨_, _, _, rfl, RSl.fresh (by decide) RTs.fresh (fun y hy => .inl (List.mem_append_left _ hy)) (RSl.evo RTs.pers hE84 hrr)⟩
end Go.Proofs.YtgnpldackjbdjaaGreat
namespace Go.Proofs.YtgnpldackjbdjaaGreat
open Go.Proofs
open Go.W Go.RowKit
attribute [local irreducible] Decidable.decide
set_option linter.unusedSimpArgs false
set_option linter.unusedVariables false
theorem Tryz.goes74 : Goes Tryz.prog 74 := ⟨_, Tryz.func74, by kernel_rfl, by kernel_rfl⟩
theorem Tryz.goes75 : Goes Tryz.prog 75 := ⟨_, Tryz.func75, by kernel_rfl, by kernel_rfl⟩
theorem Tryz.goes123 : Goes Tryz.prog 123 := ⟨_, Tryz.func123, by kernel_rfl, by kernel_rfl⟩
theorem LIs.size {l : Lv} {B : Nat} {S : Tx} (h : LIs l B S) : ∀ u, u ∈ l.1 → u.size ≤ B := by
  cases h2 : l.2 with
  | false => exact (h.few h2).2.2.2
  | true => intro u hu; rw [(h.lots h2).1] at hu; cases hu
theorem LIs.len {l : Lv} {B : Nat} {S : Tx} (h : LIs l B S) : l.1.length ≤ 64 := by
  cases h2 : l.2 with
  | false => exact (h.few h2).2.1
  | true => rw [(h.lots h2).1]; exact Nat.zero_le _
theorem RLv.sub {X Y : List Nat} {w : World} {v : Value} {l : Lv} (h : RLv X w v l) (hy : ∀ y, y ∈ Y → y ∈ X) : RLv Y w v l := by
  obtain ⟨a, n, c, h1, h2⟩ := h.get
  exact ⟨a, n, c, h1, RSl.fresh (by decide) RTs.fresh (fun y hy' => .inl (hy y hy')) h2⟩
theorem RLv.nil {X : List Nat} {w : World} {v : Value} {l : Lv} (h : RLv X w v l) : RLv [] w v l := h.sub (fun y hy => by cases hy)
theorem RLv.left {X Y : List Nat} {w : World} {v : Value} {l : Lv} (h : RLv (X ++ Y) w v l) : RLv X w v l := h.sub (fun y hy => List.mem_append_left _ hy)
theorem mem_x2 {X Y : List Nat} {w wr : World} {a b : Nat} (hX : ∀ b, b ∈ X → b < w.heap.size) (hE : Evo Y w wr) (ha : a < wr.heap.size) (hb : b < wr.heap.size) : ∀ y, y ∈ X ++ [a, b] → y < wr.heap.size := by
  intro y hy
  have hs := hE.size
  rcases List.mem_append.1 hy with h | h
  · have := hX y h; omega
  · simp at h
    rcases h with rfl | rfl <;> assumption
theorem mem_x3 {X Y : List Nat} {w wr : World} {a b c : Nat} (hX : ∀ b, b ∈ X → b < w.heap.size) (hE : Evo Y w wr) (ha : a < wr.heap.size) (hb : b < wr.heap.size) (hc : c < wr.heap.size) : ∀ y, y ∈ X ++ [a, b, c] → y < wr.heap.size := by
  intro y hy
  have hs := hE.size
  rcases List.mem_append.1 hy with h | h
  · have := hX y h; omega
  · simp at h
    rcases h with rfl | rfl | rfl <;> assumption
theorem mem_x1 {X Y : List Nat} {w wr : World} {a : Nat} (hX : ∀ b, b ∈ X → b < w.heap.size) (hE : Evo Y w wr) (ha : a < wr.heap.size) : ∀ y, y ∈ X ++ [a] → y < wr.heap.size := by
  intro y hy
  have hs := hE.size
  rcases List.mem_append.1 hy with h | h
  · have := hX y h; omega
  · simp at h
    subst h; assumption
theorem mem_x0 {X Y : List Nat} {w wr : World} (hX : ∀ b, b ∈ X → b < w.heap.size) (hE : Evo Y w wr) : ∀ y, y ∈ X → y < wr.heap.size := by
  intro y h
  have hs := hE.size
  have := hX y h; omega
theorem RLv.fresh {X Y : List Nat} {w : World} {v : Value} {l : Lv} (h : RLv X w v l) (hy : ∀ y, y ∈ Y → y ∈ X ∨ w.heap.size ≤ y) : RLv Y w v l := by
  obtain ⟨a, n, c, h1, h2⟩ := h.get
  exact ⟨a, n, c, h1, RSl.fresh (by decide) RTs.fresh hy h2⟩
theorem headD_0 {l : List ByteArray} (h : 0 < l.length) : l.headD nob = l[0] := by cases l with | nil => cases h | cons a l => rfl
theorem tim_stop {l p : Lv} (h : p.2 = true) : ∀ n, ltim l n p = p
  | 0 => rfl
  | n + 1 => by rw [ltim, if_pos h]
theorem tim_go {l p : Lv} {n k : Nat} (h : p.2 = false) (hk : k < n) : ltim l (n - (k + 1)) (lthen p l) = ltim l (n - k) p := by
  have e : n - k = (n - (k + 1)) + 1 := by omega
  rw [e]
  conv => rhs; rw [ltim, if_neg (by rw [h]; decide)]
structure TmG where
  k : Nat
  pa : Option Addr
  pn : Nat
  pc : Nat
  p : Lv
structure TmI (X : List Nat) (wr : World) (b2 b4 b5 : Nat) (lv : Value) (lb : Bool) (l : Lv) (B : Nat) (S : Tx) (n : Nat) (x : TmG) : Prop where
  k : x.k ≤ n
  h2 : wr.heap[b2]? = some (.cells #[lv, .bool lb] 69 (0, 0))
  h4 : wr.heap[b4]? = some (.cells #[.slice none 0 0, .bool false] 69 (0, 0))
  h5 : wr.heap[b5]? = some (.cells #[.slice x.pa x.pn x.pc, .bool x.p.2] 69 (0, 0))
  rl : RLv (X ++ [b4, b5]) wr (.agg #[.slice x.pa x.pn x.pc, .bool x.p.2]) x.p
  is : LIs x.p (x.k * B) (Pw S x.k)
  eq : ltim l (n - x.k) x.p = ltim l n (lone nob)
theorem nob_size : nob.size = 0 := rfl
theorem kB_le {k n B : Nat} (h : k ≤ n) (hb : n * B ≤ 100000) : k * B ≤ 100000 := Nat.le_trans (Nat.mul_le_mul_right B h) hb
set_option maxHeartbeats 4000000 in
theorem times_ok {X : List Nat} {w : World} {v : Value} {l : Lv} {B : Nat} {S : Tx} {m : Int} (hX : ∀ b, b ∈ X → b < w.heap.size) (hL : RLv X w v l) (hI : LIs l B S) (h0 : 0 ≤ m) (h1 : m ≤ 1000) (hB : B ≤ 100000) (hmB : m.toNat * B ≤ 100000) :
    Calls Tryz.prog 124 #[v, .int .i64 m] w (Ret fun r w' => RLv X w' r (ltimes l m.toNat) ∧ Evo [] w w') := by
  have hL0 := hL.nil; obtain ⟨la, ln, lc, rfl, hr1⟩ := hL.get; obtain ⟨_, _, hv, hcc1, e1⟩ := id hr1; cases hv; obtain ⟨ll, lb⟩ := l; simp only at hcc1 e1 hr1
  try dsimp only
  have hI0 := hI; have hlen := hI.len; have hsz := hI.size; simp only at hlen hsz; refine calls_of_cw (N := 45) Tryz.func124 rfl rfl rfl ?_; refine cw_seq ?_; refine cw_region ?_; refine wl_boxA rfl rfl fun b2 w1 hB2 hs3 hw4 => ?_; have hsz_b2 := hs3; have hG5 := Ge.new (Evo.refl [] w) hs3; have hE6 := (Evo.refl [] w).then hw4; refine wl_alloc rfl Tryz.zero69 fun b4 w7 hB8 hs9 hw10 => ?_; have hsz_b4 := hs9; have hA11 := Apart.new (Lt.blk hB2) hs9; have hG12 := Ge.new hE6 hs9; have hE13 := hE6.then hw10; have hB14 := hw10.blk0 hB2; refine wl_nil (nrm_then ?_); refine cw_seq ?_; refine cw_seq ?_; refine cw_region ?_; refine wl_m ?_; refine wl_val rfl (ex_gtr rfl rfl) ?_; refine wl_m ?_; refine wl_split (t := 8) rfl (fun hs8 => ?_) (fun hs8 => ?_)
  ·skip
   refine wl_g ?_; refine wl_val rfl (ex_fieldAddr rfl Tryz.fld69_1) ?_; refine wl_g ?_; refine wl_val rfl (ex_load1 rfl Tryz.agg4 (cell_nth hB14 rfl)) ?_; refine wl_g ?_; refine wl_m ?_; refine wl_splitb (t := 11) rfl (fun hs11 => ?_) (fun hs11 => ?_)
   ·skip
    refine wl_n ?_; refine wl_n ?_; refine wl_n ?_; refine wl_n ?_; refine wl_g ?_; refine wl_pt ?_; refine wl_g ?_; refine wl_m ?_; refine wl_n ?_; refine wl_n ?_; refine wl_g ?_; refine wl_pt ?_; refine wl_pt ?_; refine wl_nil (nrm_then ?_); refine cw_true rfl ?_; refine cw_seq ?_; refine cw_region ?_; refine wl_val rfl (ex_loadBlk rfl Tryz.agg69 Tryz.size69 hB14 rfl) ?_; refine wl_storeBlk rfl rfl Tryz.size69 hB8 rfl rfl ⟨by first | rfl | assumption, by first | rfl | assumption, trivial⟩ fun w15 hB16 hw17 => ?_; have hE18 := hE13.step hw17 hG12.mem1; have hB19 := hw17.blk hB14 hA11.nmem1
    try simp only [List.setIfInBounds_toArray, List.set_cons_zero, List.set_cons_succ, Nat.reduceAdd, Nat.zero_add, Nat.add_zero] at hB16
    refine wl_nil (nrm_then ?_); refine cw_ret (ret_then (body_retC1 rfl (ResOk.cellA rfl Tryz.agg69 Tryz.size69 hB16 rfl) ?_)); refine ⟨?_, hE18⟩
    rw [ltimes, if_pos ⟨by omega, .inl hs11⟩]; exact hL.evo ((hE18).any _)
   ·skip
    refine wl_g ?_; refine wl_val rfl (ex_fieldAddr rfl Tryz.fld69_0) ?_; refine wl_g ?_; refine wl_val rfl (ex_load1 rfl Tryz.agg26 (cell_nth hB14 rfl)) ?_; refine wl_g ?_; refine wl_val rfl (ex_len_slice rfl Tryz.underlying26 rfl) ?_; refine wl_g ?_; refine wl_val rfl (ex_eql rfl rfl) ?_; refine wl_g ?_; refine wl_pf ?_; refine wl_g ?_; refine wl_m ?_; refine wl_split (t := 17) rfl (fun hs17 => ?_) (fun hs17 => ?_)
    ·skip
     refine wl_n ?_; refine wl_n ?_; refine wl_g ?_; refine wl_pt ?_; refine wl_pt ?_; refine wl_nil (nrm_then ?_); refine cw_true rfl ?_; refine cw_seq ?_; refine cw_region ?_; refine wl_val rfl (ex_loadBlk rfl Tryz.agg69 Tryz.size69 hB14 rfl) ?_; refine wl_storeBlk rfl rfl Tryz.size69 hB8 rfl rfl ⟨by first | rfl | assumption, by first | rfl | assumption, trivial⟩ fun w20 hB21 hw22 => ?_; have hE23 := hE13.step hw22 hG12.mem1; have hB24 := hw22.blk hB14 hA11.nmem1
     try simp only [List.setIfInBounds_toArray, List.set_cons_zero, List.set_cons_succ, Nat.reduceAdd, Nat.zero_add, Nat.add_zero] at hB21
     refine wl_nil (nrm_then ?_); refine cw_ret (ret_then (body_retC1 rfl (ResOk.cellA rfl Tryz.agg69 Tryz.size69 hB21 rfl) ?_)); refine ⟨?_, hE23⟩
     rw [ltimes, if_pos ⟨by omega, .inr (.inl (by show ll.length = 0; omega))⟩]; exact hL.evo ((hE23).any _)
    ·skip
     refine wl_g ?_; refine wl_val rfl (ex_loadBlk rfl Tryz.agg69 Tryz.size69 hB14 rfl) ?_; refine wl_g ?_; refine wl_call1 (vs := [_]) Tryz.goes123 rfl (empty_ok (hL0.evo hE13)) rfl ?_; rintro _ w25 ⟨rfl, hw26⟩; have hE27 := hE13.then hw26; have hB28 := hw26.blk0 hB14; have hB29 := hw26.blk0 hB8; refine wl_g ?_; refine wl_pf ?_; refine wl_pt ?_; refine wl_nil (nrm_then ?_); refine cw_ifb rfl (fun hc21 => ?_) (fun hc21 => ?_)
     ·skip
      refine cw_seq ?_; refine cw_region ?_; refine wl_val rfl (ex_loadBlk rfl Tryz.agg69 Tryz.size69 hB28 rfl) ?_; refine wl_storeBlk rfl rfl Tryz.size69 hB29 rfl rfl ⟨by first | rfl | assumption, by first | rfl | assumption, trivial⟩ fun w30 hB31 hw32 => ?_; have hE33 := hE27.step hw32 hG12.mem1; have hB34 := hw32.blk hB28 hA11.nmem1
      try simp only [List.setIfInBounds_toArray, List.set_cons_zero, List.set_cons_succ, Nat.reduceAdd, Nat.zero_add, Nat.add_zero] at hB31
      refine wl_nil (nrm_then ?_); refine cw_ret (ret_then (body_retC1 rfl (ResOk.cellA rfl Tryz.agg69 Tryz.size69 hB31 rfl) ?_)); refine ⟨?_, hE33⟩
      rw [ltimes, if_pos ⟨by omega, .inr (.inr hc21)⟩]; exact hL.evo ((hE33).any _)
     ·skip
      refine cw_skip (nrm_then ?_); refine cw_seq ?_; refine cw_seq ?_; refine cw_region ?_; refine wl_val rfl (ex_fieldAddr rfl Tryz.fld69_0) ?_; refine wl_val rfl (ex_load1 rfl Tryz.agg26 (cell_nth hB28 rfl)) ?_; refine wl_val rfl (ex_len_slice rfl Tryz.underlying26 rfl) ?_; refine wl_val rfl (ex_eql rfl rfl) ?_; refine wl_nil (nrm_then ?_); refine cw_if rfl (fun hc26 => ?_) (fun hc26 => ?_)
      ·skip
       have hk1 : ll.length = 1 := by omega
       obtain ⟨b7, o7, vs7, ha7, hb7, hvl7, hc7, rfl⟩ := e1 0 (by omega); have hs1 := hsz ll[0] (List.getElem_mem (by omega)); refine cw_seq ?_; refine cw_region ?_; refine wl_val rfl (ex_fieldAddr rfl Tryz.fld69_0) ?_; refine wl_val rfl (ex_load1 rfl Tryz.agg26 (cell_nth hB28 rfl)) ?_
       refine wl_val rfl (ex_indexAddrZ (n := 0) (by rw [ha7]; rfl) rfl rfl Tryz.elem26 (by omega)) ?_
       refine wl_val rfl (ex_load1 rfl Tryz.agg9 ((hc7.evo hE27 (by simp)) 0 _ rfl)) ?_; refine wl_m ?_; refine wl_call1 (vs := [_, _]) Tryz.goes128 rfl (repI_ok ll[0] m h0 h1 (by omega)) rfl ?_; rintro _ w35 ⟨rfl, hw36⟩; have hE37 := hE27.then hw36; have hB38 := hw36.blk0 hB28; have hB39 := hw36.blk0 hB29; refine wl_call1 (vs := [_]) Tryz.goes74 rfl (one_ok (X := X ++ [b4]) (mem_x1 hX hE37 (blk_lt hB39)) (brep ll[0] m.toNat)) rfl ?_; rintro rv w40 ⟨hR, hw41⟩; have hE42 := hE37.then hw41; have hB43 := hw41.blk0 hB38; have hB44 := hw41.blk0 hB39; obtain ⟨ra, rn, rc, rfl, hrr⟩ := hR.get; refine wl_storeBlk rfl rfl Tryz.size69 hB44 rfl rfl ⟨by first | rfl | assumption, by first | rfl | assumption, trivial⟩ fun w45 hB46 hw47 => ?_; have hE48 := hE42.step hw47 hG12.mem1
       have hE49 := (Evo.refl (X ++ [b4]) w40).step hw47 (fun y hy => .inl (by rw [List.mem_singleton.1 hy]; simp))
       have hB50 := hw47.blk hB43 hA11.nmem1
       try simp only [List.setIfInBounds_toArray, List.set_cons_zero, List.set_cons_succ, Nat.reduceAdd, Nat.zero_add, Nat.add_zero] at hB46
       refine wl_nil (nrm_then ?_); refine cw_ret (ret_then (body_retC1 rfl (ResOk.cellA rfl Tryz.agg69 Tryz.size69 hB46 rfl) ?_)); refine ⟨?_, hE48⟩; rw [ltimes, if_neg ?_, if_pos hk1]
       rotate_left
       · rintro ⟨h8, h9⟩; first | (exfalso; omega) | (rcases h9 with h9 | h9 | h9 <;> simp_all)
       · rw [headD_0 (show 0 < (ll, lb).1.length by show 0 < ll.length; omega)]; exact (hR.evo hE49).left
      ·skip
       refine cw_skip (nrm_then ?_); refine cw_seq ?_; refine cw_region ?_; refine wl_call1 (vs := [_]) Tryz.goes74 rfl (one_ok (X := X ++ [b4]) (mem_x1 hX hE27 (blk_lt hB29)) nob) rfl ?_; rintro rv w51 ⟨hR, hw52⟩; have hE53 := hE27.then hw52; have hB54 := hw52.blk0 hB28; have hB55 := hw52.blk0 hB29; obtain ⟨ra, rn, rc, rfl, hrr⟩ := hR.get; refine wl_alloc rfl Tryz.zero69 fun b5 w56 hB57 hs58 hw59 => ?_; have hsz_b5 := hs58; have hA60 := Apart.new (Lt.blk hB54) hs58; have hA61 := Apart.new (Lt.blk hB55) hs58; have hG62 := Ge.new hE53 hs58; have hG63 := Ge.new (Evo.refl [] w51) hs58; have hE64 := hE53.then hw59; have hE65 := (Evo.refl [] w51).then hw59; have hB66 := hw59.blk0 hB54; have hB67 := hw59.blk0 hB55
       have hR1 : RLv (X ++ [b4, b5]) w56 _ _ := (hR.fresh (fun y hy => by rcases List.mem_append.1 hy with h | h; exact .inl (List.mem_append_left _ h); simp at h; rcases h with rfl | rfl; exact .inl (by simp); right; omega)).evo ((hE65).any _)
       refine wl_storeBlk rfl rfl Tryz.size69 hB57 rfl rfl ⟨by first | rfl | assumption, by first | rfl | assumption, trivial⟩ fun w68 hB69 hw70 => ?_; have hE71 := hE64.step hw70 hG62.mem1
       have hE72 := (Evo.refl (X ++ [b4, b5]) w56).step hw70 (fun y hy => .inl (by rw [List.mem_singleton.1 hy]; simp))
       have hB73 := hw70.blk hB66 hA60.nmem1; have hB74 := hw70.blk hB67 hA61.nmem1
       try simp only [List.setIfInBounds_toArray, List.set_cons_zero, List.set_cons_succ, Nat.reduceAdd, Nat.zero_add, Nat.add_zero] at hB69
       refine wl_nil (nrm_then ?_); refine cw_seq ?_; refine cw_seq ?_; refine cw_region ?_; refine wl_m ?_; refine wl_m ?_; refine wl_nil (nrm_then ?_); refine cw_block ?_
       refine cw_loop (α := TmG) (⟨0, ra, rn, rc, lone nob⟩) (fun x => [(36, .int .i64 (x.k : Nat))]) [(2, _), (4, _), (5, _), (35, _)] (fun x wr => Evo [] w wr ∧ (TmI X wr b2 b4 b5 (.slice la ll.length lc) lb (ll, lb) B S m.toNat x)) (fun x => m.toNat - x.k) ⟨rfl, trivial⟩ ⟨rfl, rfl, rfl, rfl, trivial⟩ ⟨hE71, ⟨Nat.zero_le _, hB73, hB74, hB69, hR1.evo hE72, (LIs.one nob (by rw [nob_size]; omega)), rfl⟩⟩ ?_
       rintro ⟨k, pa, pn, pc, p⟩ wr75 ⟨hV76, ⟨hk, hb2, hb4, hb5, hrl, his, heq⟩⟩; show CW _ _ _ _ [(36, .int .i64 (k : Nat)), (2, _), (4, _), (5, _), (35, _)] _
       try dsimp only at hk
       try dsimp only at hb2
       try dsimp only at hb4
       try dsimp only at hb5
       try dsimp only at hrl
       try dsimp only at his
       try dsimp only at heq
       have hE77 := Evo.refl (X ++ [b4, b5]) wr75; refine cw_seq ?_; refine cw_region ?_; refine wl_val rfl (ex_lss rfl rfl) ?_; refine wl_nil (nrm_then ?_); refine cw_seq ?_; refine cw_if rfl (fun hc37 => ?_) (fun hc37 => ?_)
       ·skip
        have hk' : k < m.toNat := by omega
        have hkB := kB_le hk hmB; have hpl := his.len; have hps := his.size; refine cw_skip (nrm_then ?_); refine cw_seq ?_; refine cw_block ?_; refine cw_seq ?_; refine cw_seq ?_; refine cw_region ?_; refine wl_val rfl (ex_fieldAddr rfl Tryz.fld69_1) ?_; refine wl_val rfl (ex_load1 rfl Tryz.agg4 (cell_nth hb5 rfl)) ?_; refine wl_nil (nrm_then ?_); refine cw_ifb rfl (fun hc39 => ?_) (fun hc39 => ?_)
        ·skip
         refine cw_exit (ex_then (ex_past rfl (ex_then (ex_then (ex_here (nrm_then ?_)))))); refine cw_seq ?_; refine cw_region ?_; refine wl_val rfl (ex_loadBlk rfl Tryz.agg69 Tryz.size69 hb5 rfl) ?_; refine wl_storeBlk rfl rfl Tryz.size69 hb4 rfl rfl ⟨by first | rfl | assumption, by first | rfl | assumption, trivial⟩ fun w78 hB79 hw80 => ?_; have hE81 := hV76.step hw80 hG12.mem1
         have hE82 := hE77.step hw80 (fun y hy => .inl (by rw [List.mem_singleton.1 hy]; simp))
         have hB83 := hw80.blk hb2 hA11.nmem1; have hB84 := hw80.blk hb5 hA61.symm.nmem1
         try simp only [List.setIfInBounds_toArray, List.set_cons_zero, List.set_cons_succ, Nat.reduceAdd, Nat.zero_add, Nat.add_zero] at hB79
         refine wl_nil (nrm_then ?_); refine cw_ret (body_retC1 rfl (ResOk.cellA rfl Tryz.agg69 Tryz.size69 hB79 rfl) ?_); refine ⟨?_, hE81⟩
         rw [ltimes, if_neg ?_, if_neg (by show ¬ ll.length = 1; omega), ← heq, tim_stop hc39]
         rotate_left
         · rintro ⟨h8, h9⟩; first | (exfalso; omega) | (rcases h9 with h9 | h9 | h9 <;> simp_all)
         · exact (hrl.evo hE82).left
        ·skip
         refine cw_skip (nrm_then ?_); refine cw_region ?_; have hp2 : p.2 = false := hc39; refine wl_val rfl (ex_loadBlk rfl Tryz.agg69 Tryz.size69 hb5 rfl) ?_; refine wl_val rfl (ex_loadBlk rfl Tryz.agg69 Tryz.size69 hb2 rfl) ?_
         refine wl_call1 (vs := [_, _]) Tryz.goes75 rfl (then_ok (X := X ++ [b4, b5]) (mem_x2 hX hV76 (blk_lt hb4) (blk_lt hb5)) ((hrl.evo hE77).nil) (hL0.evo hV76) hpl hlen (fun u hu => by have := hps u hu; omega) (fun u hu => by have := hsz u hu; omega)) rfl ?_
         rintro rv w85 ⟨hR, hw86⟩; have hE87 := hV76.then hw86; have hE88 := hE77.then hw86; have hB89 := hw86.blk0 hb2; have hB90 := hw86.blk0 hb4; have hB91 := hw86.blk0 hb5; obtain ⟨ra, rn, rc, rfl, hrr⟩ := hR.get; refine wl_storeBlk rfl rfl Tryz.size69 hB91 rfl rfl ⟨by first | rfl | assumption, by first | rfl | assumption, trivial⟩ fun w92 hB93 hw94 => ?_; have hE95 := hE87.step hw94 hG62.mem1
         have hE96 := hE88.step hw94 (fun y hy => .inl (by rw [List.mem_singleton.1 hy]; simp))
         have hE97 := (Evo.refl (X ++ [b4, b5]) w85).step hw94 (fun y hy => .inl (by rw [List.mem_singleton.1 hy]; simp))
         have hB98 := hw94.blk hB89 hA60.nmem1; have hB99 := hw94.blk hB90 hA61.nmem1
         try simp only [List.setIfInBounds_toArray, List.set_cons_zero, List.set_cons_succ, Nat.reduceAdd, Nat.zero_add, Nat.add_zero] at hB93
         refine wl_nil (nrm_block (nrm_then ?_)); refine cw_region ?_; refine wl_val rfl (ex_add_i64 rfl rfl (by omega) (by omega)) ?_; refine wl_m ?_; refine wl_nil (nrm_same ?_); refine ⟨⟨k + 1, ra, rn, rc, lthen p (ll, lb)⟩, ?_, ⟨rfl, trivial⟩, ⟨rfl, rfl, rfl, rfl, trivial⟩, hE95, ?_⟩
         · (try dsimp only); omega
         ·skip
          try dsimp only
          refine ⟨by show k + 1 ≤ _; omega, hB98, hB99, hB93, hR.evo hE97, ?_, (tim_go hp2 hk').trans heq⟩
          show LIs _ ((k + 1) * B) _
          rw [Nat.succ_mul]; exact his.then hI0
       ·skip
        refine cw_exit (ex_then (ex_then (ex_here (nrm_then ?_)))); refine cw_seq ?_; refine cw_region ?_; refine wl_val rfl (ex_loadBlk rfl Tryz.agg69 Tryz.size69 hb5 rfl) ?_; refine wl_storeBlk rfl rfl Tryz.size69 hb4 rfl rfl ⟨by first | rfl | assumption, by first | rfl | assumption, trivial⟩ fun w100 hB101 hw102 => ?_; have hE103 := hV76.step hw102 hG12.mem1
        have hE104 := hE77.step hw102 (fun y hy => .inl (by rw [List.mem_singleton.1 hy]; simp))
        have hB105 := hw102.blk hb2 hA11.nmem1; have hB106 := hw102.blk hb5 hA61.symm.nmem1
        try simp only [List.setIfInBounds_toArray, List.set_cons_zero, List.set_cons_succ, Nat.reduceAdd, Nat.zero_add, Nat.add_zero] at hB101
        refine wl_nil (nrm_then ?_); refine cw_ret (body_retC1 rfl (ResOk.cellA rfl Tryz.agg69 Tryz.size69 hB101 rfl) ?_); refine ⟨?_, hE103⟩; rw [show m.toNat - k = 0 from by omega] at heq
        rw [ltimes, if_neg ?_, if_neg (by show ¬ ll.length = 1; omega), ← heq]
        rotate_left
        · rintro ⟨h8, h9⟩; first | (exfalso; omega) | (rcases h9 with h9 | h9 | h9 <;> simp_all)
        · exact (hrl.evo hE104).left
  ·skip
   refine wl_n ?_; refine wl_n ?_; refine wl_n ?_; refine wl_u ?_; refine wl_u ?_; refine wl_u ?_; refine wl_u ?_; refine wl_n ?_; refine wl_n ?_; refine wl_u ?_; refine wl_u ?_; refine wl_n ?_; refine wl_pf ?_; refine wl_nil (nrm_then ?_); refine cw_false rfl ?_; refine cw_skip (nrm_then ?_); refine cw_seq ?_; refine cw_seq ?_; refine cw_region ?_; refine wl_val rfl (ex_fieldAddr rfl Tryz.fld69_0) ?_; refine wl_val rfl (ex_load1 rfl Tryz.agg26 (cell_nth hB14 rfl)) ?_; refine wl_val rfl (ex_len_slice rfl Tryz.underlying26 rfl) ?_; refine wl_val rfl (ex_eql rfl rfl) ?_; refine wl_nil (nrm_then ?_); refine cw_if rfl (fun hc26 => ?_) (fun hc26 => ?_)
   ·skip
    have hk1 : ll.length = 1 := by omega
    obtain ⟨b7, o7, vs7, ha7, hb7, hvl7, hc7, rfl⟩ := e1 0 (by omega); have hs1 := hsz ll[0] (List.getElem_mem (by omega)); refine cw_seq ?_; refine cw_region ?_; refine wl_val rfl (ex_fieldAddr rfl Tryz.fld69_0) ?_; refine wl_val rfl (ex_load1 rfl Tryz.agg26 (cell_nth hB14 rfl)) ?_
    refine wl_val rfl (ex_indexAddrZ (n := 0) (by rw [ha7]; rfl) rfl rfl Tryz.elem26 (by omega)) ?_
    refine wl_val rfl (ex_load1 rfl Tryz.agg9 ((hc7.evo hE13 (by simp)) 0 _ rfl)) ?_; refine wl_m ?_; refine wl_call1 (vs := [_, _]) Tryz.goes128 rfl (repI_ok ll[0] m h0 h1 (by omega)) rfl ?_; rintro _ w107 ⟨rfl, hw108⟩; have hE109 := hE13.then hw108; have hB110 := hw108.blk0 hB14; have hB111 := hw108.blk0 hB8; refine wl_call1 (vs := [_]) Tryz.goes74 rfl (one_ok (X := X ++ [b4]) (mem_x1 hX hE109 (blk_lt hB111)) (brep ll[0] m.toNat)) rfl ?_; rintro rv w112 ⟨hR, hw113⟩; have hE114 := hE109.then hw113; have hB115 := hw113.blk0 hB110; have hB116 := hw113.blk0 hB111; obtain ⟨ra, rn, rc, rfl, hrr⟩ := hR.get; refine wl_storeBlk rfl rfl Tryz.size69 hB116 rfl rfl ⟨by first | rfl | assumption, by first | rfl | assumption, trivial⟩ fun w117 hB118 hw119 => ?_; have hE120 := hE114.step hw119 hG12.mem1
    have hE121 := (Evo.refl (X ++ [b4]) w112).step hw119 (fun y hy => .inl (by rw [List.mem_singleton.1 hy]; simp))
    have hB122 := hw119.blk hB115 hA11.nmem1
    try simp only [List.setIfInBounds_toArray, List.set_cons_zero, List.set_cons_succ, Nat.reduceAdd, Nat.zero_add, Nat.add_zero] at hB118
    refine wl_nil (nrm_then ?_); refine cw_ret (ret_then (body_retC1 rfl (ResOk.cellA rfl Tryz.agg69 Tryz.size69 hB118 rfl) ?_)); refine ⟨?_, hE120⟩; rw [ltimes, if_neg ?_, if_pos hk1]
    rotate_left
    · rintro ⟨h8, h9⟩; first | (exfalso; omega) | (rcases h9 with h9 | h9 | h9 <;> simp_all)
    · rw [headD_0 (show 0 < (ll, lb).1.length by show 0 < ll.length; omega)]; exact (hR.evo hE121).left
   ·skip
    refine cw_skip (nrm_then ?_); refine cw_seq ?_; refine cw_region ?_; refine wl_call1 (vs := [_]) Tryz.goes74 rfl (one_ok (X := X ++ [b4]) (mem_x1 hX hE13 (blk_lt hB8)) nob) rfl ?_; rintro rv w123 ⟨hR, hw124⟩; have hE125 := hE13.then hw124; have hB126 := hw124.blk0 hB14; have hB127 := hw124.blk0 hB8; obtain ⟨ra, rn, rc, rfl, hrr⟩ := hR.get; refine wl_alloc rfl Tryz.zero69 fun b5 w128 hB129 hs130 hw131 => ?_; have hsz_b5 := hs130; have hA132 := Apart.new (Lt.blk hB126) hs130; have hA133 := Apart.new (Lt.blk hB127) hs130; have hG134 := Ge.new hE125 hs130; have hG135 := Ge.new (Evo.refl [] w123) hs130; have hE136 := hE125.then hw131; have hE137 := (Evo.refl [] w123).then hw131; have hB138 := hw131.blk0 hB126; have hB139 := hw131.blk0 hB127
    have hR1 : RLv (X ++ [b4, b5]) w128 _ _ := (hR.fresh (fun y hy => by rcases List.mem_append.1 hy with h | h; exact .inl (List.mem_append_left _ h); simp at h; rcases h with rfl | rfl; exact .inl (by simp); right; omega)).evo ((hE137).any _)
    refine wl_storeBlk rfl rfl Tryz.size69 hB129 rfl rfl ⟨by first | rfl | assumption, by first | rfl | assumption, trivial⟩ fun w140 hB141 hw142 => ?_; have hE143 := hE136.step hw142 hG134.mem1
    have hE144 := (Evo.refl (X ++ [b4, b5]) w128).step hw142 (fun y hy => .inl (by rw [List.mem_singleton.1 hy]; simp))
    have hB145 := hw142.blk hB138 hA132.nmem1; have hB146 := hw142.blk hB139 hA133.nmem1
    try simp only [List.setIfInBounds_toArray, List.set_cons_zero, List.set_cons_succ, Nat.reduceAdd, Nat.zero_add, Nat.add_zero] at hB141
    refine wl_nil (nrm_then ?_); refine cw_seq ?_; refine cw_seq ?_; refine cw_region ?_; refine wl_m ?_; refine wl_m ?_; refine wl_nil (nrm_then ?_); refine cw_block ?_
    refine cw_loop (α := TmG) (⟨0, ra, rn, rc, lone nob⟩) (fun x => [(36, .int .i64 (x.k : Nat))]) [(2, _), (4, _), (5, _), (35, _)] (fun x wr => Evo [] w wr ∧ (TmI X wr b2 b4 b5 (.slice la ll.length lc) lb (ll, lb) B S m.toNat x)) (fun x => m.toNat - x.k) ⟨rfl, trivial⟩ ⟨rfl, rfl, rfl, rfl, trivial⟩ ⟨hE143, ⟨Nat.zero_le _, hB145, hB146, hB141, hR1.evo hE144, (LIs.one nob (by rw [nob_size]; omega)), rfl⟩⟩ ?_
    rintro ⟨k, pa, pn, pc, p⟩ wr147 ⟨hV148, ⟨hk, hb2, hb4, hb5, hrl, his, heq⟩⟩; show CW _ _ _ _ [(36, .int .i64 (k : Nat)), (2, _), (4, _), (5, _), (35, _)] _
    try dsimp only at hk
    try dsimp only at hb2
    try dsimp only at hb4
    try dsimp only at hb5
    try dsimp only at hrl
    try dsimp only at his
    try dsimp only at heq
    have hE149 := Evo.refl (X ++ [b4, b5]) wr147; refine cw_seq ?_; refine cw_region ?_; refine wl_val rfl (ex_lss rfl rfl) ?_; refine wl_nil (nrm_then ?_); refine cw_seq ?_; refine cw_if rfl (fun hc37 => ?_) (fun hc37 => ?_)
    ·skip
     have hk' : k < m.toNat := by omega
     have hkB := kB_le hk hmB; have hpl := his.len; have hps := his.size; refine cw_skip (nrm_then ?_); refine cw_seq ?_; refine cw_block ?_; refine cw_seq ?_; refine cw_seq ?_; refine cw_region ?_; refine wl_val rfl (ex_fieldAddr rfl Tryz.fld69_1) ?_; refine wl_val rfl (ex_load1 rfl Tryz.agg4 (cell_nth hb5 rfl)) ?_; refine wl_nil (nrm_then ?_); refine cw_ifb rfl (fun hc39 => ?_) (fun hc39 => ?_)
     ·skip
      refine cw_exit (ex_then (ex_past rfl (ex_then (ex_then (ex_here (nrm_then ?_)))))); refine cw_seq ?_; refine cw_region ?_; refine wl_val rfl (ex_loadBlk rfl Tryz.agg69 Tryz.size69 hb5 rfl) ?_; refine wl_storeBlk rfl rfl Tryz.size69 hb4 rfl rfl ⟨by first | rfl | assumption, by first | rfl | assumption, trivial⟩ fun w150 hB151 hw152 => ?_; have hE153 := hV148.step hw152 hG12.mem1
      have hE154 := hE149.step hw152 (fun y hy => .inl (by rw [List.mem_singleton.1 hy]; simp))
      have hB155 := hw152.blk hb2 hA11.nmem1; have hB156 := hw152.blk hb5 hA133.symm.nmem1
      try simp only [List.setIfInBounds_toArray, List.set_cons_zero, List.set_cons_succ, Nat.reduceAdd, Nat.zero_add, Nat.add_zero] at hB151
      refine wl_nil (nrm_then ?_); refine cw_ret (body_retC1 rfl (ResOk.cellA rfl Tryz.agg69 Tryz.size69 hB151 rfl) ?_); refine ⟨?_, hE153⟩
      rw [ltimes, if_neg ?_, if_neg (by show ¬ ll.length = 1; omega), ← heq, tim_stop hc39]
      rotate_left
      · rintro ⟨h8, h9⟩; first | (exfalso; omega) | (rcases h9 with h9 | h9 | h9 <;> simp_all)
      · exact (hrl.evo hE154).left
     ·skip
      refine cw_skip (nrm_then ?_); refine cw_region ?_; have hp2 : p.2 = false := hc39; refine wl_val rfl (ex_loadBlk rfl Tryz.agg69 Tryz.size69 hb5 rfl) ?_; refine wl_val rfl (ex_loadBlk rfl Tryz.agg69 Tryz.size69 hb2 rfl) ?_
      refine wl_call1 (vs := [_, _]) Tryz.goes75 rfl (then_ok (X := X ++ [b4, b5]) (mem_x2 hX hV148 (blk_lt hb4) (blk_lt hb5)) ((hrl.evo hE149).nil) (hL0.evo hV148) hpl hlen (fun u hu => by have := hps u hu; omega) (fun u hu => by have := hsz u hu; omega)) rfl ?_
      rintro rv w157 ⟨hR, hw158⟩; have hE159 := hV148.then hw158; have hE160 := hE149.then hw158; have hB161 := hw158.blk0 hb2; have hB162 := hw158.blk0 hb4; have hB163 := hw158.blk0 hb5; obtain ⟨ra, rn, rc, rfl, hrr⟩ := hR.get; refine wl_storeBlk rfl rfl Tryz.size69 hB163 rfl rfl ⟨by first | rfl | assumption, by first | rfl | assumption, trivial⟩ fun w164 hB165 hw166 => ?_; have hE167 := hE159.step hw166 hG134.mem1
      have hE168 := hE160.step hw166 (fun y hy => .inl (by rw [List.mem_singleton.1 hy]; simp))
      have hE169 := (Evo.refl (X ++ [b4, b5]) w157).step hw166 (fun y hy => .inl (by rw [List.mem_singleton.1 hy]; simp))
      have hB170 := hw166.blk hB161 hA132.nmem1; have hB171 := hw166.blk hB162 hA133.nmem1
      try simp only [List.setIfInBounds_toArray, List.set_cons_zero, List.set_cons_succ, Nat.reduceAdd, Nat.zero_add, Nat.add_zero] at hB165
      refine wl_nil (nrm_block (nrm_then ?_)); refine cw_region ?_; refine wl_val rfl (ex_add_i64 rfl rfl (by omega) (by omega)) ?_; refine wl_m ?_; refine wl_nil (nrm_same ?_); refine ⟨⟨k + 1, ra, rn, rc, lthen p (ll, lb)⟩, ?_, ⟨rfl, trivial⟩, ⟨rfl, rfl, rfl, rfl, trivial⟩, hE167, ?_⟩
      · (try dsimp only); omega
      ·skip
       try dsimp only
       refine ⟨by show k + 1 ≤ _; omega, hB170, hB171, hB165, hR.evo hE169, ?_, (tim_go hp2 hk').trans heq⟩
       show LIs _ ((k + 1) * B) _
       rw [Nat.succ_mul]; exact his.then hI0
    ·skip
     refine cw_exit (ex_then (ex_then (ex_here (nrm_then ?_)))); refine cw_seq ?_; refine cw_region ?_; refine wl_val rfl (ex_loadBlk rfl Tryz.agg69 Tryz.size69 hb5 rfl) ?_; refine wl_storeBlk rfl rfl Tryz.size69 hb4 rfl rfl ⟨by first | rfl | assumption, by first | rfl | assumption, trivial⟩ fun w172 hB173 hw174 => ?_; have hE175 := hV148.step hw174 hG12.mem1
     have hE176 := hE149.step hw174 (fun y hy => .inl (by rw [List.mem_singleton.1 hy]; simp))
     have hB177 := hw174.blk hb2 hA11.nmem1; have hB178 := hw174.blk hb5 hA133.symm.nmem1
     try simp only [List.setIfInBounds_toArray, List.set_cons_zero, List.set_cons_succ, Nat.reduceAdd, Nat.zero_add, Nat.add_zero] at hB173
     refine wl_nil (nrm_then ?_); refine cw_ret (body_retC1 rfl (ResOk.cellA rfl Tryz.agg69 Tryz.size69 hB173 rfl) ?_); refine ⟨?_, hE175⟩; rw [show m.toNat - k = 0 from by omega] at heq
     rw [ltimes, if_neg ?_, if_neg (by show ¬ ll.length = 1; omega), ← heq]
     rotate_left
     · rintro ⟨h8, h9⟩; first | (exfalso; omega) | (rcases h9 with h9 | h9 | h9 <;> simp_all)
     · exact (hrl.evo hE176).left
end Go.Proofs.YtgnpldackjbdjaaGreat
namespace Go.Proofs.YtgnpldackjbdjaaGreat
open Go.Proofs
open Go.W Go.RowKit
attribute [local irreducible] Decidable.decide
set_option linter.unusedSimpArgs false
set_option linter.unusedVariables false
theorem Tryz.goes76 : Goes Tryz.prog 76 := ⟨_, Tryz.func76, by kernel_rfl, by kernel_rfl⟩
theorem Tryz.goes124 : Goes Tryz.prog 124 := ⟨_, Tryz.func124, by kernel_rfl, by kernel_rfl⟩
theorem reps_stop {l p al : Lv} (h : al.2 = true) : ∀ n, lreps l n p al = al
  | 0 => rfl
  | n + 1 => by rw [lreps, if_pos h]
theorem reps_go {l p al : Lv} {n k : Nat} (h : al.2 = false) (hk : k < n) : lreps l (n - (k + 1)) (lthen p l) (lor al (lthen p l)) = lreps l (n - k) p al := by
  have e : n - k = (n - (k + 1)) + 1 := by omega
  rw [e]
  conv => rhs; rw [lreps, if_neg (by rw [h]; decide)]
structure RyG where
  k : Nat
  pa : Option Addr
  pn : Nat
  pc : Nat
  p : Lv
  aa : Option Addr
  an : Nat
  ac : Nat
  al : Lv
structure RyI (X : List Nat) (wr : World) (b3 b6 b7 b8 : Nat) (lv : Value) (lb : Bool) (l : Lv) (B : Nat) (S : Tx) (a n : Nat) (x : RyG) : Prop where
  k : x.k ≤ n
  h3 : wr.heap[b3]? = some (.cells #[lv, .bool lb] 69 (0, 0))
  h6 : wr.heap[b6]? = some (.cells #[.slice none 0 0, .bool false] 69 (0, 0))
  h7 : wr.heap[b7]? = some (.cells #[.slice x.pa x.pn x.pc, .bool x.p.2] 69 (0, 0))
  h8 : wr.heap[b8]? = some (.cells #[.slice x.aa x.an x.ac, .bool x.al.2] 69 (0, 0))
  rp : RLv (X ++ [b6, b7, b8]) wr (.agg #[.slice x.pa x.pn x.pc, .bool x.p.2]) x.p
  ra : RLv (X ++ [b6, b7, b8]) wr (.agg #[.slice x.aa x.an x.ac, .bool x.al.2]) x.al
  is : LIs x.p ((a + x.k) * B) (Pw S (a + x.k))
  il : x.al.1.length ≤ 64
  eq : lreps l (n - x.k) x.p x.al = lreps l n (ltimes l a) (ltimes l a)
theorem or_len {l m : Lv} : (lor l m).1.length ≤ 64 := by
  unfold lor
  by_cases h : l.2 = true ∨ m.2 = true
  · rw [if_pos h]; exact Nat.zero_le _
  · rw [if_neg h]; unfold settle; split
    · exact Nat.zero_le _
    · show (scom (ssrt (l.1 ++ m.1))).length ≤ 64; omega
set_option maxHeartbeats 4000000 in
theorem rep_ok {X : List Nat} {w : World} {v : Value} {l : Lv} {B : Nat} {S : Tx} {mn mx : Int} (hX : ∀ b, b ∈ X → b < w.heap.size) (hL : RLv X w v l) (hI : LIs l B S) (h0 : 0 ≤ mn) (h1 : mn ≤ 1000) (h2 : mx = -1 ∨ (mn ≤ mx ∧ mx ≤ 1000)) (hB : B ≤ 100000) (hmB : mn.toNat * B ≤ 100000) (hmB2 : mx.toNat * B ≤ 100000) :
    Calls Tryz.prog 77 #[v, .int .i64 mn, .int .i64 mx] w (Ret fun r w' => RLv X w' r (lrep l mn mx) ∧ Evo [] w w') := by
  have hL0 := hL.nil; obtain ⟨la, ln, lc, rfl, hr1⟩ := hL.get; obtain ⟨_, _, hv, hcc1, e1⟩ := id hr1; cases hv; obtain ⟨ll, lb⟩ := l; simp only at hcc1 e1 hr1
  try dsimp only
  have hI0 := hI; have hlen := hI.len; have hsz := hI.size; simp only at hlen hsz; refine calls_of_cw (N := 56) Tryz.func77 rfl rfl rfl ?_; refine cw_seq ?_; refine cw_region ?_; refine wl_boxA rfl rfl fun b3 w1 hB2 hs3 hw4 => ?_; have hsz_b3 := hs3; have hG5 := Ge.new (Evo.refl [] w) hs3; have hE6 := (Evo.refl [] w).then hw4; refine wl_alloc rfl Tryz.zero69 fun b6 w7 hB8 hs9 hw10 => ?_; have hsz_b6 := hs9; have hA11 := Apart.new (Lt.blk hB2) hs9; have hG12 := Ge.new hE6 hs9; have hE13 := hE6.then hw10; have hB14 := hw10.blk0 hB2; refine wl_nil (nrm_then ?_); refine cw_seq ?_; refine cw_block ?_; refine cw_seq ?_; refine cw_region ?_; refine wl_m ?_; refine wl_val rfl (ex_eql rfl rfl) ?_; refine wl_a ?_; refine wl_nil (nrm_then ?_); refine cw_if rfl (fun hc9 => ?_) (fun hc9 => ?_)
  ·skip
   refine cw_seq ?_; refine cw_region ?_; refine wl_call1 (vs := [_]) Tryz.goes74 rfl (one_ok (X := X ++ [b6]) (mem_x1 hX hE13 (blk_lt hB8)) nob) rfl ?_; rintro rv w15 ⟨hRr, hw16⟩; have hE17 := hE13.then hw16; have hB18 := hw16.blk0 hB14; have hB19 := hw16.blk0 hB8; obtain ⟨ra, rn, rc, rfl, hrr⟩ := hRr.get; refine wl_storeBlk rfl rfl Tryz.size69 hB19 rfl rfl ⟨by first | rfl | assumption, by first | rfl | assumption, trivial⟩ fun w20 hB21 hw22 => ?_; have hE23 := hE17.step hw22 hG12.mem1
   have hE24 := (Evo.refl (X ++ [b6]) w15).step hw22 (fun y hy => .inl (by rw [List.mem_singleton.1 hy]; simp))
   have hB25 := hw22.blk hB18 hA11.nmem1
   try simp only [List.setIfInBounds_toArray, List.set_cons_zero, List.set_cons_succ, Nat.reduceAdd, Nat.zero_add, Nat.add_zero] at hB21
   refine wl_nil (nrm_then ?_); refine cw_ret (ret_block (ret_then (body_retC1 rfl (ResOk.cellA rfl Tryz.agg69 Tryz.size69 hB21 rfl) ?_))); refine ⟨?_, hE23⟩; rw [lrep, if_pos hc9]; exact (hRr.evo hE24).left
  ·skip
   refine cw_seq ?_; refine cw_region ?_; refine wl_val rfl (ex_loadBlk rfl Tryz.agg69 Tryz.size69 hB14 rfl) ?_; refine wl_call1 (vs := [_]) Tryz.goes121 rfl (none_ok (hL0.evo hE13)) rfl ?_; rintro _ w26 ⟨rfl, hw27⟩; have hE28 := hE13.then hw27; have hB29 := hw27.blk0 hB14; have hB30 := hw27.blk0 hB8; refine wl_m ?_; refine wl_splitb (t := 16) rfl (fun hs16 => ?_) (fun hs16 => ?_)
   ·skip
    refine wl_g ?_; refine wl_m ?_; refine wl_g ?_; refine wl_val rfl (ex_eql rfl rfl) ?_; refine wl_pt ?_; refine wl_a ?_; refine wl_nil (nrm_then ?_); refine cw_if rfl (fun hc13 => ?_) (fun hc13 => ?_)
    ·skip
     refine cw_seq ?_; refine cw_region ?_; refine wl_call1 (vs := [_]) Tryz.goes74 rfl (one_ok (X := X ++ [b6]) (mem_x1 hX hE28 (blk_lt hB30)) nob) rfl ?_; rintro rv w31 ⟨hRr, hw32⟩; have hE33 := hE28.then hw32; have hB34 := hw32.blk0 hB29; have hB35 := hw32.blk0 hB30; obtain ⟨ra, rn, rc, rfl, hrr⟩ := hRr.get; refine wl_storeBlk rfl rfl Tryz.size69 hB35 rfl rfl ⟨by first | rfl | assumption, by first | rfl | assumption, trivial⟩ fun w36 hB37 hw38 => ?_; have hE39 := hE33.step hw38 hG12.mem1
     have hE40 := (Evo.refl (X ++ [b6]) w31).step hw38 (fun y hy => .inl (by rw [List.mem_singleton.1 hy]; simp))
     have hB41 := hw38.blk hB34 hA11.nmem1
     try simp only [List.setIfInBounds_toArray, List.set_cons_zero, List.set_cons_succ, Nat.reduceAdd, Nat.zero_add, Nat.add_zero] at hB37
     refine wl_nil (nrm_then ?_); refine cw_ret (ret_block (ret_then (body_retC1 rfl (ResOk.cellA rfl Tryz.agg69 Tryz.size69 hB37 rfl) ?_))); refine ⟨?_, hE39⟩; rw [lrep, if_neg hc9, if_pos ⟨hs16, hc13⟩]; exact (hRr.evo hE40).left
    ·skip
     refine cw_seq ?_; refine cw_region ?_; refine wl_val rfl (ex_loadBlk rfl Tryz.agg69 Tryz.size69 hB29 rfl) ?_; refine wl_call1 (vs := [_]) Tryz.goes121 rfl (none_ok (hL0.evo hE28)) rfl ?_; rintro _ w42 ⟨rfl, hw43⟩; have hE44 := hE28.then hw43; have hB45 := hw43.blk0 hB29; have hB46 := hw43.blk0 hB30; refine wl_m ?_; refine wl_splitb (t := 24) rfl (fun hs24 => ?_) (fun hs24 => ?_)
     ·skip
      refine wl_n ?_; refine wl_n ?_; refine wl_pt ?_; refine wl_m ?_; refine wl_n ?_; refine wl_n ?_; refine wl_pt ?_; refine wl_a ?_; refine wl_nil (nrm_then ?_); refine cw_true rfl ?_; refine cw_seq ?_; refine cw_region ?_; refine wl_val rfl (ex_loadBlk rfl Tryz.agg69 Tryz.size69 hB45 rfl) ?_; refine wl_storeBlk rfl rfl Tryz.size69 hB46 rfl rfl ⟨by first | rfl | assumption, by first | rfl | assumption, trivial⟩ fun w47 hB48 hw49 => ?_; have hE50 := hE44.step hw49 hG12.mem1; have hB51 := hw49.blk hB45 hA11.nmem1
      try simp only [List.setIfInBounds_toArray, List.set_cons_zero, List.set_cons_succ, Nat.reduceAdd, Nat.zero_add, Nat.add_zero] at hB48
      refine wl_nil (nrm_then ?_); refine cw_ret (ret_block (ret_then (body_retC1 rfl (ResOk.cellA rfl Tryz.agg69 Tryz.size69 hB48 rfl) ?_))); refine ⟨?_, hE50⟩
      rw [lrep, if_neg hc9, if_neg (fun h => by first | exact hc13 h.2 | exact absurd (hs16.symm.trans h.1) Bool.false_ne_true), if_pos (.inl hs24)]; exact hL.evo ((hE50).any _)
     ·skip
      refine wl_g ?_; refine wl_val rfl (ex_fieldAddr rfl Tryz.fld69_1) ?_; refine wl_g ?_; refine wl_val rfl (ex_load1 rfl Tryz.agg4 (cell_nth hB45 rfl)) ?_; refine wl_pf ?_; refine wl_m ?_; refine wl_splitb (t := 28) rfl (fun hs28 => ?_) (fun hs28 => ?_)
      ·skip
       refine wl_n ?_; refine wl_n ?_; refine wl_pt ?_; refine wl_a ?_; refine wl_nil (nrm_then ?_); refine cw_true rfl ?_; refine cw_seq ?_; refine cw_region ?_; refine wl_val rfl (ex_loadBlk rfl Tryz.agg69 Tryz.size69 hB45 rfl) ?_; refine wl_storeBlk rfl rfl Tryz.size69 hB46 rfl rfl ⟨by first | rfl | assumption, by first | rfl | assumption, trivial⟩ fun w52 hB53 hw54 => ?_; have hE55 := hE44.step hw54 hG12.mem1; have hB56 := hw54.blk hB45 hA11.nmem1
       try simp only [List.setIfInBounds_toArray, List.set_cons_zero, List.set_cons_succ, Nat.reduceAdd, Nat.zero_add, Nat.add_zero] at hB53
       refine wl_nil (nrm_then ?_); refine cw_ret (ret_block (ret_then (body_retC1 rfl (ResOk.cellA rfl Tryz.agg69 Tryz.size69 hB53 rfl) ?_))); refine ⟨?_, hE55⟩
       rw [lrep, if_neg hc9, if_neg (fun h => by first | exact hc13 h.2 | exact absurd (hs16.symm.trans h.1) Bool.false_ne_true), if_pos (.inr (.inl hs28))]; exact hL.evo ((hE55).any _)
      ·skip
       refine wl_g ?_; refine wl_val rfl (ex_loadBlk rfl Tryz.agg69 Tryz.size69 hB45 rfl) ?_; refine wl_g ?_; refine wl_call1 (vs := [_]) Tryz.goes123 rfl (empty_ok (hL0.evo hE44)) rfl ?_; rintro _ w57 ⟨rfl, hw58⟩; have hE59 := hE44.then hw58; have hB60 := hw58.blk0 hB45; have hB61 := hw58.blk0 hB46; refine wl_pf ?_; refine wl_a ?_; refine wl_nil (nrm_then ?_); refine cw_ifb rfl (fun hc21 => ?_) (fun hc21 => ?_)
       ·skip
        refine cw_seq ?_; refine cw_region ?_; refine wl_val rfl (ex_loadBlk rfl Tryz.agg69 Tryz.size69 hB60 rfl) ?_; refine wl_storeBlk rfl rfl Tryz.size69 hB61 rfl rfl ⟨by first | rfl | assumption, by first | rfl | assumption, trivial⟩ fun w62 hB63 hw64 => ?_; have hE65 := hE59.step hw64 hG12.mem1; have hB66 := hw64.blk hB60 hA11.nmem1
        try simp only [List.setIfInBounds_toArray, List.set_cons_zero, List.set_cons_succ, Nat.reduceAdd, Nat.zero_add, Nat.add_zero] at hB63
        refine wl_nil (nrm_then ?_); refine cw_ret (ret_block (ret_then (body_retC1 rfl (ResOk.cellA rfl Tryz.agg69 Tryz.size69 hB63 rfl) ?_))); refine ⟨?_, hE65⟩
        rw [lrep, if_neg hc9, if_neg (fun h => by first | exact hc13 h.2 | exact absurd (hs16.symm.trans h.1) Bool.false_ne_true), if_pos (.inr (.inr hc21))]; exact hL.evo ((hE65).any _)
       ·skip
        refine cw_seq ?_; refine cw_region ?_; refine wl_m ?_; refine wl_val rfl (ex_lss rfl rfl) ?_; refine wl_a ?_; refine wl_nil (nrm_then ?_); refine cw_if rfl (fun hc33 => ?_) (fun hc33 => ?_)
        ·skip
         refine cw_seq ?_; refine cw_region ?_; refine wl_val rfl (ex_build (vs := [(1, _)]) Tryz.build69 rfl (cells := [_, _]) rfl) ?_; refine wl_storeBlk rfl rfl Tryz.size69 hB61 rfl rfl ⟨by first | rfl | assumption, by first | rfl | assumption, trivial⟩ fun w67 hB68 hw69 => ?_; have hE70 := hE59.step hw69 hG12.mem1; have hB71 := hw69.blk hB60 hA11.nmem1
         try simp only [List.setIfInBounds_toArray, List.set_cons_zero, List.set_cons_succ, Nat.reduceAdd, Nat.zero_add, Nat.add_zero] at hB68
         refine wl_nil (nrm_then ?_); refine cw_ret (ret_block (ret_then (body_retC1 rfl (ResOk.cellA rfl Tryz.agg69 Tryz.size69 hB68 rfl) ?_))); refine ⟨?_, hE70⟩
         rw [lrep, if_neg hc9, if_neg (fun h => by first | exact hc13 h.2 | exact absurd (hs16.symm.trans h.1) Bool.false_ne_true), if_neg (fun h => by rcases h with h | h | h; exact absurd (hs24.symm.trans h) Bool.false_ne_true; exact absurd (hs28.symm.trans h) Bool.false_ne_true; exact absurd (hc21.symm.trans h) Bool.false_ne_true), if_pos hc33]; exact rlv_none _ _ true
        ·skip
         refine cw_skip (nrm_block (nrm_then ?_)); refine cw_seq ?_; refine cw_region ?_
         have hL6 : RLv (X ++ [b6]) w _ _ := hL.fresh (fun y hy => by rcases List.mem_append.1 hy with h | h; exact .inl h; simp at h; subst h; exact .inr (hG12 _ rfl))
         refine wl_val rfl (ex_loadBlk rfl Tryz.agg69 Tryz.size69 hB60 rfl) ?_; refine wl_m ?_; refine wl_call1 (vs := [_, _]) Tryz.goes124 rfl (times_ok (X := X ++ [b6]) (mem_x1 hX hE59 (blk_lt hB61)) (hL6.evo ((hE59).any _)) hI0 h0 h1 hB hmB) rfl ?_; rintro rv w72 ⟨hRr, hw73⟩; have hE74 := hE59.then hw73; have hB75 := hw73.blk0 hB60; have hB76 := hw73.blk0 hB61; obtain ⟨ra, rn, rc, rfl, hrr⟩ := hRr.get; refine wl_alloc rfl Tryz.zero69 fun b7 w77 hB78 hs79 hw80 => ?_; have hsz_b7 := hs79; have hA81 := Apart.new (Lt.blk hB75) hs79; have hA82 := Apart.new (Lt.blk hB76) hs79; have hG83 := Ge.new hE74 hs79; have hG84 := Ge.new (Evo.refl [] w72) hs79; have hE85 := hE74.then hw80; have hE86 := (Evo.refl [] w72).then hw80; have hB87 := hw80.blk0 hB75; have hB88 := hw80.blk0 hB76; refine wl_storeBlk rfl rfl Tryz.size69 hB78 rfl rfl ⟨by first | rfl | assumption, by first | rfl | assumption, trivial⟩ fun w89 hB90 hw91 => ?_; have hE92 := hE85.step hw91 hG83.mem1; have hE93 := hE86.step hw91 hG84.mem1; have hB94 := hw91.blk hB87 hA81.nmem1; have hB95 := hw91.blk hB88 hA82.nmem1
         try simp only [List.setIfInBounds_toArray, List.set_cons_zero, List.set_cons_succ, Nat.reduceAdd, Nat.zero_add, Nat.add_zero] at hB90
         refine wl_nil (nrm_then ?_); refine cw_seq ?_; refine cw_region ?_; refine wl_val rfl (ex_loadBlk rfl Tryz.agg69 Tryz.size69 hB90 rfl) ?_; refine wl_alloc rfl Tryz.zero69 fun b8 w96 hB97 hs98 hw99 => ?_; have hsz_b8 := hs98; have hA100 := Apart.new (Lt.blk hB94) hs98; have hA101 := Apart.new (Lt.blk hB95) hs98; have hA102 := Apart.new (Lt.blk hB90) hs98; have hG103 := Ge.new hE92 hs98; have hG104 := Ge.new hE93 hs98; have hE105 := hE92.then hw99; have hE106 := hE93.then hw99; have hB107 := hw99.blk0 hB94; have hB108 := hw99.blk0 hB95; have hB109 := hw99.blk0 hB90
         have hR1 : RLv (X ++ [b6, b7, b8]) w96 _ _ := (hRr.fresh (fun y hy => by rcases List.mem_append.1 hy with h | h; exact .inl (List.mem_append_left _ h); simp at h; rcases h with rfl | rfl | rfl; exact .inl (by simp); exact .inr (hG84 _ rfl); exact .inr (hG104 _ rfl))).evo ((hE106).any _)
         refine wl_storeBlk rfl rfl Tryz.size69 hB97 rfl rfl ⟨by first | rfl | assumption, by first | rfl | assumption, trivial⟩ fun w110 hB111 hw112 => ?_; have hE113 := hE105.step hw112 hG103.mem1
         have hE114 := (Evo.refl (X ++ [b6, b7, b8]) w96).step hw112 (fun y hy => .inl (by rw [List.mem_singleton.1 hy]; simp))
         have hB115 := hw112.blk hB107 hA100.nmem1; have hB116 := hw112.blk hB108 hA101.nmem1; have hB117 := hw112.blk hB109 hA102.nmem1
         try simp only [List.setIfInBounds_toArray, List.set_cons_zero, List.set_cons_succ, Nat.reduceAdd, Nat.zero_add, Nat.add_zero] at hB111
         refine wl_nil (nrm_then ?_); refine cw_seq ?_; refine cw_seq ?_; refine cw_region ?_; refine wl_m ?_; refine wl_m ?_; refine wl_val rfl (ex_sub_i64 rfl rfl (by omega) (by omega)) ?_; refine wl_m ?_; refine wl_nil (nrm_then ?_); refine cw_block ?_; refine cw_loop (α := RyG) (⟨0, ra, rn, rc, _, ra, rn, rc, _⟩) (fun x => [(44, .int .i64 (x.k : Nat))]) [(3, _), (6, _), (7, _), (8, _), (43, _)] (fun x wr => Evo [] w wr ∧ (RyI X wr b3 b6 b7 b8 (.slice la ll.length lc) lb (ll, lb) B S mn.toNat (mx - mn).toNat x)) (fun x => (mx - mn).toNat - x.k) ⟨rfl, trivial⟩ ⟨rfl, rfl, rfl, rfl, rfl, trivial⟩ ⟨hE113, ⟨Nat.zero_le _, hB115, hB116, hB117, hB111, hR1.evo hE114, hR1.evo hE114, hI0.times _, (hI0.times _).len, rfl⟩⟩ ?_; rintro ⟨k, pa, pn, pc, p, aa, an, ac, al⟩ wr118 ⟨hV119, ⟨hk, hb3, hb6, hb7, hb8, hrp, hra, his, hal, heq⟩⟩; show CW _ _ _ _ [(44, .int .i64 (k : Nat)), (3, _), (6, _), (7, _), (8, _), (43, _)] _
         try dsimp only at hk
         try dsimp only at hb3
         try dsimp only at hb6
         try dsimp only at hb7
         try dsimp only at hb8
         try dsimp only at hrp
         try dsimp only at hra
         try dsimp only at his
         try dsimp only at hal
         try dsimp only at heq
         have hE120 := Evo.refl (X ++ [b6, b7, b8]) wr118; refine cw_seq ?_; refine cw_region ?_; refine wl_val rfl (ex_lss rfl rfl) ?_; refine wl_nil (nrm_then ?_); refine cw_seq ?_; refine cw_if rfl (fun hc45 => ?_) (fun hc45 => ?_)
         ·skip
          have hk' : k < (mx - mn).toNat := by omega
          have hkB := kB_le (show mn.toNat + k ≤ mx.toNat by omega) hmB2; have hpl := his.len; have hps := his.size; refine cw_skip (nrm_then ?_); refine cw_seq ?_; refine cw_block ?_; refine cw_seq ?_; refine cw_seq ?_; refine cw_region ?_; refine wl_val rfl (ex_fieldAddr rfl Tryz.fld69_1) ?_; refine wl_val rfl (ex_load1 rfl Tryz.agg4 (cell_nth hb8 rfl)) ?_; refine wl_nil (nrm_then ?_); refine cw_ifb rfl (fun hc47 => ?_) (fun hc47 => ?_)
          ·skip
           refine cw_exit (ex_then (ex_past rfl (ex_then (ex_then (ex_here (nrm_then ?_)))))); refine cw_seq ?_; refine cw_region ?_; refine wl_val rfl (ex_loadBlk rfl Tryz.agg69 Tryz.size69 hb8 rfl) ?_; refine wl_storeBlk rfl rfl Tryz.size69 hb6 rfl rfl ⟨by first | rfl | assumption, by first | rfl | assumption, trivial⟩ fun w121 hB122 hw123 => ?_; have hE124 := hV119.step hw123 hG12.mem1
           have hE125 := hE120.step hw123 (fun y hy => .inl (by rw [List.mem_singleton.1 hy]; simp))
           have hB126 := hw123.blk hb3 hA11.nmem1; have hB127 := hw123.blk hb7 hA82.symm.nmem1; have hB128 := hw123.blk hb8 hA101.symm.nmem1
           try simp only [List.setIfInBounds_toArray, List.set_cons_zero, List.set_cons_succ, Nat.reduceAdd, Nat.zero_add, Nat.add_zero] at hB122
           refine wl_nil (nrm_then ?_); refine cw_ret (body_retC1 rfl (ResOk.cellA rfl Tryz.agg69 Tryz.size69 hB122 rfl) ?_); refine ⟨?_, hE124⟩
           rw [lrep, if_neg hc9, if_neg (fun h => by first | exact hc13 h.2 | exact absurd (hs16.symm.trans h.1) Bool.false_ne_true), if_neg (fun h => by rcases h with h | h | h; exact absurd (hs24.symm.trans h) Bool.false_ne_true; exact absurd (hs28.symm.trans h) Bool.false_ne_true; exact absurd (hc21.symm.trans h) Bool.false_ne_true), if_neg hc33, ← heq, reps_stop hc47]; exact (hra.evo hE125).left
          ·skip
           refine cw_skip (nrm_then ?_); refine cw_seq ?_; refine cw_region ?_; have hp2 : al.2 = false := hc47; refine wl_val rfl (ex_loadBlk rfl Tryz.agg69 Tryz.size69 hb7 rfl) ?_; refine wl_val rfl (ex_loadBlk rfl Tryz.agg69 Tryz.size69 hb3 rfl) ?_
           refine wl_call1 (vs := [_, _]) Tryz.goes75 rfl (then_ok (X := X ++ [b6, b7, b8]) (mem_x3 hX hV119 (blk_lt hb6) (blk_lt hb7) (blk_lt hb8)) ((hrp.evo hE120).nil) (hL0.evo hV119) hpl hlen (fun u hu => by have := hps u hu; omega) (fun u hu => by have := hsz u hu; omega)) rfl ?_
           rintro rv w129 ⟨hRq, hw130⟩; have hE131 := hV119.then hw130; have hE132 := hE120.then hw130; have hB133 := hw130.blk0 hb3; have hB134 := hw130.blk0 hb6; have hB135 := hw130.blk0 hb7; have hB136 := hw130.blk0 hb8; obtain ⟨qa, qn, qc, rfl, hqr⟩ := hRq.get; refine wl_storeBlk rfl rfl Tryz.size69 hB135 rfl rfl ⟨by first | rfl | assumption, by first | rfl | assumption, trivial⟩ fun w137 hB138 hw139 => ?_; have hE140 := hE131.step hw139 hG83.mem1
           have hE141 := hE132.step hw139 (fun y hy => .inl (by rw [List.mem_singleton.1 hy]; simp))
           have hE142 := (Evo.refl (X ++ [b6, b7, b8]) w129).step hw139 (fun y hy => .inl (by rw [List.mem_singleton.1 hy]; simp))
           have hB143 := hw139.blk hB133 hA81.nmem1; have hB144 := hw139.blk hB134 hA82.nmem1; have hB145 := hw139.blk hB136 hA102.symm.nmem1
           try simp only [List.setIfInBounds_toArray, List.set_cons_zero, List.set_cons_succ, Nat.reduceAdd, Nat.zero_add, Nat.add_zero] at hB138
           refine wl_nil (nrm_then ?_); refine cw_region ?_; refine wl_val rfl (ex_loadBlk rfl Tryz.agg69 Tryz.size69 hB145 rfl) ?_; refine wl_val rfl (ex_loadBlk rfl Tryz.agg69 Tryz.size69 hB138 rfl) ?_; refine wl_call1 (vs := [_, _]) Tryz.goes76 rfl (or_ok (X := X ++ [b6, b7, b8]) (mem_x3 hX hE140 (blk_lt hB144) (blk_lt hB138) (blk_lt hB145)) ((hra.evo hE141).nil) ((hRq.evo hE142).nil) hal (his.then hI0).len) rfl ?_; rintro rv w146 ⟨hRs, hw147⟩; have hE148 := hE140.then hw147; have hE149 := hE141.then hw147; have hE150 := hE142.then hw147; have hB151 := hw147.blk0 hB143; have hB152 := hw147.blk0 hB144; have hB153 := hw147.blk0 hB138; have hB154 := hw147.blk0 hB145; obtain ⟨sa, sn, sc, rfl, hsr⟩ := hRs.get; refine wl_storeBlk rfl rfl Tryz.size69 hB154 rfl rfl ⟨by first | rfl | assumption, by first | rfl | assumption, trivial⟩ fun w155 hB156 hw157 => ?_; have hE158 := hE148.step hw157 hG103.mem1
           have hE159 := hE149.step hw157 (fun y hy => .inl (by rw [List.mem_singleton.1 hy]; simp))
           have hE160 := hE150.step hw157 (fun y hy => .inl (by rw [List.mem_singleton.1 hy]; simp))
           have hE161 := (Evo.refl (X ++ [b6, b7, b8]) w146).step hw157 (fun y hy => .inl (by rw [List.mem_singleton.1 hy]; simp))
           have hB162 := hw157.blk hB151 hA100.nmem1; have hB163 := hw157.blk hB152 hA101.nmem1; have hB164 := hw157.blk hB153 hA102.nmem1
           try simp only [List.setIfInBounds_toArray, List.set_cons_zero, List.set_cons_succ, Nat.reduceAdd, Nat.zero_add, Nat.add_zero] at hB156
           refine wl_nil (nrm_block (nrm_then ?_)); refine cw_region ?_; refine wl_val rfl (ex_add_i64 rfl rfl (by omega) (by omega)) ?_; refine wl_m ?_; refine wl_nil (nrm_same ?_); refine ⟨⟨k + 1, qa, qn, qc, lthen p (ll, lb), sa, sn, sc, lor al (lthen p (ll, lb))⟩, ?_, ⟨rfl, trivial⟩, ⟨rfl, rfl, rfl, rfl, rfl, trivial⟩, hE158, ?_⟩
           · (try dsimp only); omega
           ·skip
            try dsimp only
            refine ⟨by show k + 1 ≤ _; omega, hB162, hB163, hB164, hB156, hRq.evo hE160, hRs.evo hE161, ?_, or_len, (reps_go hp2 hk').trans heq⟩
            show LIs _ ((mn.toNat + k + 1) * B) _
            rw [Nat.succ_mul]; exact his.then hI0
         ·skip
          refine cw_exit (ex_then (ex_then (ex_here (nrm_then ?_)))); refine cw_seq ?_; refine cw_region ?_; refine wl_val rfl (ex_loadBlk rfl Tryz.agg69 Tryz.size69 hb8 rfl) ?_; refine wl_storeBlk rfl rfl Tryz.size69 hb6 rfl rfl ⟨by first | rfl | assumption, by first | rfl | assumption, trivial⟩ fun w165 hB166 hw167 => ?_; have hE168 := hV119.step hw167 hG12.mem1
          have hE169 := hE120.step hw167 (fun y hy => .inl (by rw [List.mem_singleton.1 hy]; simp))
          have hB170 := hw167.blk hb3 hA11.nmem1; have hB171 := hw167.blk hb7 hA82.symm.nmem1; have hB172 := hw167.blk hb8 hA101.symm.nmem1
          try simp only [List.setIfInBounds_toArray, List.set_cons_zero, List.set_cons_succ, Nat.reduceAdd, Nat.zero_add, Nat.add_zero] at hB166
          refine wl_nil (nrm_then ?_); refine cw_ret (body_retC1 rfl (ResOk.cellA rfl Tryz.agg69 Tryz.size69 hB166 rfl) ?_); refine ⟨?_, hE168⟩; rw [show (mx - mn).toNat - k = 0 from by omega] at heq
          rw [lrep, if_neg hc9, if_neg (fun h => by first | exact hc13 h.2 | exact absurd (hs16.symm.trans h.1) Bool.false_ne_true), if_neg (fun h => by rcases h with h | h | h; exact absurd (hs24.symm.trans h) Bool.false_ne_true; exact absurd (hs28.symm.trans h) Bool.false_ne_true; exact absurd (hc21.symm.trans h) Bool.false_ne_true), if_neg hc33, ← heq]; exact (hra.evo hE169).left
   ·skip
    refine wl_n ?_; refine wl_n ?_; refine wl_pf ?_; refine wl_a ?_; refine wl_nil (nrm_then ?_); refine cw_false rfl ?_; refine cw_seq ?_; refine cw_region ?_; refine wl_val rfl (ex_loadBlk rfl Tryz.agg69 Tryz.size69 hB29 rfl) ?_; refine wl_call1 (vs := [_]) Tryz.goes121 rfl (none_ok (hL0.evo hE28)) rfl ?_; rintro _ w173 ⟨rfl, hw174⟩; have hE175 := hE28.then hw174; have hB176 := hw174.blk0 hB29; have hB177 := hw174.blk0 hB30; refine wl_m ?_; refine wl_splitb (t := 24) rfl (fun hs24 => ?_) (fun hs24 => ?_)
    ·skip
     refine wl_n ?_; refine wl_n ?_; refine wl_pt ?_; refine wl_m ?_; refine wl_n ?_; refine wl_n ?_; refine wl_pt ?_; refine wl_a ?_; refine wl_nil (nrm_then ?_); refine cw_true rfl ?_; refine cw_seq ?_; refine cw_region ?_; refine wl_val rfl (ex_loadBlk rfl Tryz.agg69 Tryz.size69 hB176 rfl) ?_; refine wl_storeBlk rfl rfl Tryz.size69 hB177 rfl rfl ⟨by first | rfl | assumption, by first | rfl | assumption, trivial⟩ fun w178 hB179 hw180 => ?_; have hE181 := hE175.step hw180 hG12.mem1; have hB182 := hw180.blk hB176 hA11.nmem1
     try simp only [List.setIfInBounds_toArray, List.set_cons_zero, List.set_cons_succ, Nat.reduceAdd, Nat.zero_add, Nat.add_zero] at hB179
     refine wl_nil (nrm_then ?_); refine cw_ret (ret_block (ret_then (body_retC1 rfl (ResOk.cellA rfl Tryz.agg69 Tryz.size69 hB179 rfl) ?_))); refine ⟨?_, hE181⟩
     rw [lrep, if_neg hc9, if_neg (fun h => by first | exact hc13 h.2 | exact absurd (hs16.symm.trans h.1) Bool.false_ne_true), if_pos (.inl hs24)]; exact hL.evo ((hE181).any _)
    ·skip
     refine wl_g ?_; refine wl_val rfl (ex_fieldAddr rfl Tryz.fld69_1) ?_; refine wl_g ?_; refine wl_val rfl (ex_load1 rfl Tryz.agg4 (cell_nth hB176 rfl)) ?_; refine wl_pf ?_; refine wl_m ?_; refine wl_splitb (t := 28) rfl (fun hs28 => ?_) (fun hs28 => ?_)
     ·skip
      refine wl_n ?_; refine wl_n ?_; refine wl_pt ?_; refine wl_a ?_; refine wl_nil (nrm_then ?_); refine cw_true rfl ?_; refine cw_seq ?_; refine cw_region ?_; refine wl_val rfl (ex_loadBlk rfl Tryz.agg69 Tryz.size69 hB176 rfl) ?_; refine wl_storeBlk rfl rfl Tryz.size69 hB177 rfl rfl ⟨by first | rfl | assumption, by first | rfl | assumption, trivial⟩ fun w183 hB184 hw185 => ?_; have hE186 := hE175.step hw185 hG12.mem1; have hB187 := hw185.blk hB176 hA11.nmem1
      try simp only [List.setIfInBounds_toArray, List.set_cons_zero, List.set_cons_succ, Nat.reduceAdd, Nat.zero_add, Nat.add_zero] at hB184
      refine wl_nil (nrm_then ?_); refine cw_ret (ret_block (ret_then (body_retC1 rfl (ResOk.cellA rfl Tryz.agg69 Tryz.size69 hB184 rfl) ?_))); refine ⟨?_, hE186⟩
      rw [lrep, if_neg hc9, if_neg (fun h => by first | exact hc13 h.2 | exact absurd (hs16.symm.trans h.1) Bool.false_ne_true), if_pos (.inr (.inl hs28))]; exact hL.evo ((hE186).any _)
     ·skip
      refine wl_g ?_; refine wl_val rfl (ex_loadBlk rfl Tryz.agg69 Tryz.size69 hB176 rfl) ?_; refine wl_g ?_; refine wl_call1 (vs := [_]) Tryz.goes123 rfl (empty_ok (hL0.evo hE175)) rfl ?_; rintro _ w188 ⟨rfl, hw189⟩; have hE190 := hE175.then hw189; have hB191 := hw189.blk0 hB176; have hB192 := hw189.blk0 hB177; refine wl_pf ?_; refine wl_a ?_; refine wl_nil (nrm_then ?_); refine cw_ifb rfl (fun hc21 => ?_) (fun hc21 => ?_)
      ·skip
       refine cw_seq ?_; refine cw_region ?_; refine wl_val rfl (ex_loadBlk rfl Tryz.agg69 Tryz.size69 hB191 rfl) ?_; refine wl_storeBlk rfl rfl Tryz.size69 hB192 rfl rfl ⟨by first | rfl | assumption, by first | rfl | assumption, trivial⟩ fun w193 hB194 hw195 => ?_; have hE196 := hE190.step hw195 hG12.mem1; have hB197 := hw195.blk hB191 hA11.nmem1
       try simp only [List.setIfInBounds_toArray, List.set_cons_zero, List.set_cons_succ, Nat.reduceAdd, Nat.zero_add, Nat.add_zero] at hB194
       refine wl_nil (nrm_then ?_); refine cw_ret (ret_block (ret_then (body_retC1 rfl (ResOk.cellA rfl Tryz.agg69 Tryz.size69 hB194 rfl) ?_))); refine ⟨?_, hE196⟩
       rw [lrep, if_neg hc9, if_neg (fun h => by first | exact hc13 h.2 | exact absurd (hs16.symm.trans h.1) Bool.false_ne_true), if_pos (.inr (.inr hc21))]; exact hL.evo ((hE196).any _)
      ·skip
       refine cw_seq ?_; refine cw_region ?_; refine wl_m ?_; refine wl_val rfl (ex_lss rfl rfl) ?_; refine wl_a ?_; refine wl_nil (nrm_then ?_); refine cw_if rfl (fun hc33 => ?_) (fun hc33 => ?_)
       ·skip
        refine cw_seq ?_; refine cw_region ?_; refine wl_val rfl (ex_build (vs := [(1, _)]) Tryz.build69 rfl (cells := [_, _]) rfl) ?_; refine wl_storeBlk rfl rfl Tryz.size69 hB192 rfl rfl ⟨by first | rfl | assumption, by first | rfl | assumption, trivial⟩ fun w198 hB199 hw200 => ?_; have hE201 := hE190.step hw200 hG12.mem1; have hB202 := hw200.blk hB191 hA11.nmem1
        try simp only [List.setIfInBounds_toArray, List.set_cons_zero, List.set_cons_succ, Nat.reduceAdd, Nat.zero_add, Nat.add_zero] at hB199
        refine wl_nil (nrm_then ?_); refine cw_ret (ret_block (ret_then (body_retC1 rfl (ResOk.cellA rfl Tryz.agg69 Tryz.size69 hB199 rfl) ?_))); refine ⟨?_, hE201⟩
        rw [lrep, if_neg hc9, if_neg (fun h => by first | exact hc13 h.2 | exact absurd (hs16.symm.trans h.1) Bool.false_ne_true), if_neg (fun h => by rcases h with h | h | h; exact absurd (hs24.symm.trans h) Bool.false_ne_true; exact absurd (hs28.symm.trans h) Bool.false_ne_true; exact absurd (hc21.symm.trans h) Bool.false_ne_true), if_pos hc33]; exact rlv_none _ _ true
       ·skip
        refine cw_skip (nrm_block (nrm_then ?_)); refine cw_seq ?_; refine cw_region ?_
        have hL6 : RLv (X ++ [b6]) w _ _ := hL.fresh (fun y hy => by rcases List.mem_append.1 hy with h | h; exact .inl h; simp at h; subst h; exact .inr (hG12 _ rfl))
        refine wl_val rfl (ex_loadBlk rfl Tryz.agg69 Tryz.size69 hB191 rfl) ?_; refine wl_m ?_; refine wl_call1 (vs := [_, _]) Tryz.goes124 rfl (times_ok (X := X ++ [b6]) (mem_x1 hX hE190 (blk_lt hB192)) (hL6.evo ((hE190).any _)) hI0 h0 h1 hB hmB) rfl ?_; rintro rv w203 ⟨hRr, hw204⟩; have hE205 := hE190.then hw204; have hB206 := hw204.blk0 hB191; have hB207 := hw204.blk0 hB192; obtain ⟨ra, rn, rc, rfl, hrr⟩ := hRr.get; refine wl_alloc rfl Tryz.zero69 fun b7 w208 hB209 hs210 hw211 => ?_; have hsz_b7 := hs210; have hA212 := Apart.new (Lt.blk hB206) hs210; have hA213 := Apart.new (Lt.blk hB207) hs210; have hG214 := Ge.new hE205 hs210; have hG215 := Ge.new (Evo.refl [] w203) hs210; have hE216 := hE205.then hw211; have hE217 := (Evo.refl [] w203).then hw211; have hB218 := hw211.blk0 hB206; have hB219 := hw211.blk0 hB207; refine wl_storeBlk rfl rfl Tryz.size69 hB209 rfl rfl ⟨by first | rfl | assumption, by first | rfl | assumption, trivial⟩ fun w220 hB221 hw222 => ?_; have hE223 := hE216.step hw222 hG214.mem1; have hE224 := hE217.step hw222 hG215.mem1; have hB225 := hw222.blk hB218 hA212.nmem1; have hB226 := hw222.blk hB219 hA213.nmem1
        try simp only [List.setIfInBounds_toArray, List.set_cons_zero, List.set_cons_succ, Nat.reduceAdd, Nat.zero_add, Nat.add_zero] at hB221
        refine wl_nil (nrm_then ?_); refine cw_seq ?_; refine cw_region ?_; refine wl_val rfl (ex_loadBlk rfl Tryz.agg69 Tryz.size69 hB221 rfl) ?_; refine wl_alloc rfl Tryz.zero69 fun b8 w227 hB228 hs229 hw230 => ?_; have hsz_b8 := hs229; have hA231 := Apart.new (Lt.blk hB225) hs229; have hA232 := Apart.new (Lt.blk hB226) hs229; have hA233 := Apart.new (Lt.blk hB221) hs229; have hG234 := Ge.new hE223 hs229; have hG235 := Ge.new hE224 hs229; have hE236 := hE223.then hw230; have hE237 := hE224.then hw230; have hB238 := hw230.blk0 hB225; have hB239 := hw230.blk0 hB226; have hB240 := hw230.blk0 hB221
        have hR1 : RLv (X ++ [b6, b7, b8]) w227 _ _ := (hRr.fresh (fun y hy => by rcases List.mem_append.1 hy with h | h; exact .inl (List.mem_append_left _ h); simp at h; rcases h with rfl | rfl | rfl; exact .inl (by simp); exact .inr (hG215 _ rfl); exact .inr (hG235 _ rfl))).evo ((hE237).any _)
        refine wl_storeBlk rfl rfl Tryz.size69 hB228 rfl rfl ⟨by first | rfl | assumption, by first | rfl | assumption, trivial⟩ fun w241 hB242 hw243 => ?_; have hE244 := hE236.step hw243 hG234.mem1
        have hE245 := (Evo.refl (X ++ [b6, b7, b8]) w227).step hw243 (fun y hy => .inl (by rw [List.mem_singleton.1 hy]; simp))
        have hB246 := hw243.blk hB238 hA231.nmem1; have hB247 := hw243.blk hB239 hA232.nmem1; have hB248 := hw243.blk hB240 hA233.nmem1
        try simp only [List.setIfInBounds_toArray, List.set_cons_zero, List.set_cons_succ, Nat.reduceAdd, Nat.zero_add, Nat.add_zero] at hB242
        refine wl_nil (nrm_then ?_); refine cw_seq ?_; refine cw_seq ?_; refine cw_region ?_; refine wl_m ?_; refine wl_m ?_; refine wl_val rfl (ex_sub_i64 rfl rfl (by omega) (by omega)) ?_; refine wl_m ?_; refine wl_nil (nrm_then ?_); refine cw_block ?_; refine cw_loop (α := RyG) (⟨0, ra, rn, rc, _, ra, rn, rc, _⟩) (fun x => [(44, .int .i64 (x.k : Nat))]) [(3, _), (6, _), (7, _), (8, _), (43, _)] (fun x wr => Evo [] w wr ∧ (RyI X wr b3 b6 b7 b8 (.slice la ll.length lc) lb (ll, lb) B S mn.toNat (mx - mn).toNat x)) (fun x => (mx - mn).toNat - x.k) ⟨rfl, trivial⟩ ⟨rfl, rfl, rfl, rfl, rfl, trivial⟩ ⟨hE244, ⟨Nat.zero_le _, hB246, hB247, hB248, hB242, hR1.evo hE245, hR1.evo hE245, hI0.times _, (hI0.times _).len, rfl⟩⟩ ?_; rintro ⟨k, pa, pn, pc, p, aa, an, ac, al⟩ wr249 ⟨hV250, ⟨hk, hb3, hb6, hb7, hb8, hrp, hra, his, hal, heq⟩⟩; show CW _ _ _ _ [(44, .int .i64 (k : Nat)), (3, _), (6, _), (7, _), (8, _), (43, _)] _
        try dsimp only at hk
        try dsimp only at hb3
        try dsimp only at hb6
        try dsimp only at hb7
        try dsimp only at hb8
        try dsimp only at hrp
        try dsimp only at hra
        try dsimp only at his
        try dsimp only at hal
        try dsimp only at heq
        have hE251 := Evo.refl (X ++ [b6, b7, b8]) wr249; refine cw_seq ?_; refine cw_region ?_; refine wl_val rfl (ex_lss rfl rfl) ?_; refine wl_nil (nrm_then ?_); refine cw_seq ?_; refine cw_if rfl (fun hc45 => ?_) (fun hc45 => ?_)
        ·skip
         have hk' : k < (mx - mn).toNat := by omega
         have hkB := kB_le (show mn.toNat + k ≤ mx.toNat by omega) hmB2; have hpl := his.len; have hps := his.size; refine cw_skip (nrm_then ?_); refine cw_seq ?_; refine cw_block ?_; refine cw_seq ?_; refine cw_seq ?_; refine cw_region ?_; refine wl_val rfl (ex_fieldAddr rfl Tryz.fld69_1) ?_; refine wl_val rfl (ex_load1 rfl Tryz.agg4 (cell_nth hb8 rfl)) ?_; refine wl_nil (nrm_then ?_); refine cw_ifb rfl (fun hc47 => ?_) (fun hc47 => ?_)
         ·skip
          refine cw_exit (ex_then (ex_past rfl (ex_then (ex_then (ex_here (nrm_then ?_)))))); refine cw_seq ?_; refine cw_region ?_; refine wl_val rfl (ex_loadBlk rfl Tryz.agg69 Tryz.size69 hb8 rfl) ?_; refine wl_storeBlk rfl rfl Tryz.size69 hb6 rfl rfl ⟨by first | rfl | assumption, by first | rfl | assumption, trivial⟩ fun w252 hB253 hw254 => ?_; have hE255 := hV250.step hw254 hG12.mem1
          have hE256 := hE251.step hw254 (fun y hy => .inl (by rw [List.mem_singleton.1 hy]; simp))
          have hB257 := hw254.blk hb3 hA11.nmem1; have hB258 := hw254.blk hb7 hA213.symm.nmem1; have hB259 := hw254.blk hb8 hA232.symm.nmem1
          try simp only [List.setIfInBounds_toArray, List.set_cons_zero, List.set_cons_succ, Nat.reduceAdd, Nat.zero_add, Nat.add_zero] at hB253
          refine wl_nil (nrm_then ?_); refine cw_ret (body_retC1 rfl (ResOk.cellA rfl Tryz.agg69 Tryz.size69 hB253 rfl) ?_); refine ⟨?_, hE255⟩
          rw [lrep, if_neg hc9, if_neg (fun h => by first | exact hc13 h.2 | exact absurd (hs16.symm.trans h.1) Bool.false_ne_true), if_neg (fun h => by rcases h with h | h | h; exact absurd (hs24.symm.trans h) Bool.false_ne_true; exact absurd (hs28.symm.trans h) Bool.false_ne_true; exact absurd (hc21.symm.trans h) Bool.false_ne_true), if_neg hc33, ← heq, reps_stop hc47]; exact (hra.evo hE256).left
         ·skip
          refine cw_skip (nrm_then ?_); refine cw_seq ?_; refine cw_region ?_; have hp2 : al.2 = false := hc47; refine wl_val rfl (ex_loadBlk rfl Tryz.agg69 Tryz.size69 hb7 rfl) ?_; refine wl_val rfl (ex_loadBlk rfl Tryz.agg69 Tryz.size69 hb3 rfl) ?_
          refine wl_call1 (vs := [_, _]) Tryz.goes75 rfl (then_ok (X := X ++ [b6, b7, b8]) (mem_x3 hX hV250 (blk_lt hb6) (blk_lt hb7) (blk_lt hb8)) ((hrp.evo hE251).nil) (hL0.evo hV250) hpl hlen (fun u hu => by have := hps u hu; omega) (fun u hu => by have := hsz u hu; omega)) rfl ?_
          rintro rv w260 ⟨hRq, hw261⟩; have hE262 := hV250.then hw261; have hE263 := hE251.then hw261; have hB264 := hw261.blk0 hb3; have hB265 := hw261.blk0 hb6; have hB266 := hw261.blk0 hb7; have hB267 := hw261.blk0 hb8; obtain ⟨qa, qn, qc, rfl, hqr⟩ := hRq.get; refine wl_storeBlk rfl rfl Tryz.size69 hB266 rfl rfl ⟨by first | rfl | assumption, by first | rfl | assumption, trivial⟩ fun w268 hB269 hw270 => ?_; have hE271 := hE262.step hw270 hG214.mem1
          have hE272 := hE263.step hw270 (fun y hy => .inl (by rw [List.mem_singleton.1 hy]; simp))
          have hE273 := (Evo.refl (X ++ [b6, b7, b8]) w260).step hw270 (fun y hy => .inl (by rw [List.mem_singleton.1 hy]; simp))
          have hB274 := hw270.blk hB264 hA212.nmem1; have hB275 := hw270.blk hB265 hA213.nmem1; have hB276 := hw270.blk hB267 hA233.symm.nmem1
          try simp only [List.setIfInBounds_toArray, List.set_cons_zero, List.set_cons_succ, Nat.reduceAdd, Nat.zero_add, Nat.add_zero] at hB269
          refine wl_nil (nrm_then ?_); refine cw_region ?_; refine wl_val rfl (ex_loadBlk rfl Tryz.agg69 Tryz.size69 hB276 rfl) ?_; refine wl_val rfl (ex_loadBlk rfl Tryz.agg69 Tryz.size69 hB269 rfl) ?_; refine wl_call1 (vs := [_, _]) Tryz.goes76 rfl (or_ok (X := X ++ [b6, b7, b8]) (mem_x3 hX hE271 (blk_lt hB275) (blk_lt hB269) (blk_lt hB276)) ((hra.evo hE272).nil) ((hRq.evo hE273).nil) hal (his.then hI0).len) rfl ?_; rintro rv w277 ⟨hRs, hw278⟩; have hE279 := hE271.then hw278; have hE280 := hE272.then hw278; have hE281 := hE273.then hw278; have hB282 := hw278.blk0 hB274; have hB283 := hw278.blk0 hB275; have hB284 := hw278.blk0 hB269; have hB285 := hw278.blk0 hB276; obtain ⟨sa, sn, sc, rfl, hsr⟩ := hRs.get; refine wl_storeBlk rfl rfl Tryz.size69 hB285 rfl rfl ⟨by first | rfl | assumption, by first | rfl | assumption, trivial⟩ fun w286 hB287 hw288 => ?_; have hE289 := hE279.step hw288 hG234.mem1
          have hE290 := hE280.step hw288 (fun y hy => .inl (by rw [List.mem_singleton.1 hy]; simp))
          have hE291 := hE281.step hw288 (fun y hy => .inl (by rw [List.mem_singleton.1 hy]; simp))
          have hE292 := (Evo.refl (X ++ [b6, b7, b8]) w277).step hw288 (fun y hy => .inl (by rw [List.mem_singleton.1 hy]; simp))
          have hB293 := hw288.blk hB282 hA231.nmem1; have hB294 := hw288.blk hB283 hA232.nmem1; have hB295 := hw288.blk hB284 hA233.nmem1
          try simp only [List.setIfInBounds_toArray, List.set_cons_zero, List.set_cons_succ, Nat.reduceAdd, Nat.zero_add, Nat.add_zero] at hB287
          refine wl_nil (nrm_block (nrm_then ?_)); refine cw_region ?_; refine wl_val rfl (ex_add_i64 rfl rfl (by omega) (by omega)) ?_; refine wl_m ?_; refine wl_nil (nrm_same ?_); refine ⟨⟨k + 1, qa, qn, qc, lthen p (ll, lb), sa, sn, sc, lor al (lthen p (ll, lb))⟩, ?_, ⟨rfl, trivial⟩, ⟨rfl, rfl, rfl, rfl, rfl, trivial⟩, hE289, ?_⟩
          · (try dsimp only); omega
          ·skip
           try dsimp only
           refine ⟨by show k + 1 ≤ _; omega, hB293, hB294, hB295, hB287, hRq.evo hE291, hRs.evo hE292, ?_, or_len, (reps_go hp2 hk').trans heq⟩
           show LIs _ ((mn.toNat + k + 1) * B) _
           rw [Nat.succ_mul]; exact his.then hI0
        ·skip
         refine cw_exit (ex_then (ex_then (ex_here (nrm_then ?_)))); refine cw_seq ?_; refine cw_region ?_; refine wl_val rfl (ex_loadBlk rfl Tryz.agg69 Tryz.size69 hb8 rfl) ?_; refine wl_storeBlk rfl rfl Tryz.size69 hb6 rfl rfl ⟨by first | rfl | assumption, by first | rfl | assumption, trivial⟩ fun w296 hB297 hw298 => ?_; have hE299 := hV250.step hw298 hG12.mem1
         have hE300 := hE251.step hw298 (fun y hy => .inl (by rw [List.mem_singleton.1 hy]; simp))
         have hB301 := hw298.blk hb3 hA11.nmem1; have hB302 := hw298.blk hb7 hA213.symm.nmem1; have hB303 := hw298.blk hb8 hA232.symm.nmem1
         try simp only [List.setIfInBounds_toArray, List.set_cons_zero, List.set_cons_succ, Nat.reduceAdd, Nat.zero_add, Nat.add_zero] at hB297
         refine wl_nil (nrm_then ?_); refine cw_ret (body_retC1 rfl (ResOk.cellA rfl Tryz.agg69 Tryz.size69 hB297 rfl) ?_); refine ⟨?_, hE299⟩; rw [show (mx - mn).toNat - k = 0 from by omega] at heq
         rw [lrep, if_neg hc9, if_neg (fun h => by first | exact hc13 h.2 | exact absurd (hs16.symm.trans h.1) Bool.false_ne_true), if_neg (fun h => by rcases h with h | h | h; exact absurd (hs24.symm.trans h) Bool.false_ne_true; exact absurd (hs28.symm.trans h) Bool.false_ne_true; exact absurd (hc21.symm.trans h) Bool.false_ne_true), if_neg hc33, ← heq]; exact (hra.evo hE300).left
end Go.Proofs.YtgnpldackjbdjaaGreat
namespace Go.Proofs.YtgnpldackjbdjaaGreat
open Go.Proofs
open Go.W Go.RowKit
attribute [local irreducible] Decidable.decide
set_option linter.unusedSimpArgs false
set_option linter.unusedVariables false
abbrev tx (c : Int) : ByteArray := bstr (formB c)
theorem tx_inj {c d : Int} (hc : IsR c) (hd : IsR d) (h : tx c = tx d) : c = d := by
  have h1 := next_txt (p := []) (q := []) hc
  have h2 := next_txt (p := []) (q := []) hd
  have e1 : txt ([] ++ c :: []) = tx c := by simp [txt, frm, tx]
  have e2 : txt ([] ++ d :: []) = tx d := by simp [txt, frm, tx]
  rw [e1] at h1
  rw [e2, ← h, h1] at h2
  exact congrArg Prod.fst h2
theorem tx_size (c : Int) : (tx c).size ≤ 4 := by
  have h : (tx c).size = (formB c).length := bstr_size _
  have := formB_len c
  omega
def Cls (rs : List (Int × Int)) : Prop := ∀ i (h : i < rs.length), 0 ≤ rs[i].1 ∧ rs[i].1 ≤ rs[i].2 ∧ rs[i].2 ≤ 1114111 ∧ ∀ j (hj : j < i), (rs[j]'(Nat.lt_trans hj h)).2 < rs[i].1
theorem cls_of {rs : List (Int × Int)} (h : RangesOk rs) : Cls rs := by
  intro i
  induction i with
  | zero => intro hi; have h1 := h.1 0 hi; exact ⟨h1.1, h1.2.1, h1.2.2.1, fun j hj => by omega⟩
  | succ i ih =>
    intro hi
    have h1 := h.1 (i + 1) hi
    have h2 := h1.2.2.2 i (by omega) rfl
    have h3 := ih (by omega)
    refine ⟨h1.1, h1.2.1, h1.2.2.1, fun j hj => ?_⟩
    by_cases e : j = i
    · subst e; omega
    · have h4 := h3.2.2.2 j (by omega)
      omega
theorem cls_one {r : Int} (h0 : 0 ≤ r) (h1 : r ≤ 1114111) : Cls [(r, r)] := fun i h => by
  have e : i = 0 := by have : i < 1 := h; omega
  subst e
  exact ⟨h0, Int.le_refl _, h1, fun j hj => by omega⟩
def Co (rs : List (Int × Int)) (k : Nat) (cs : List Int) : Prop := cs.Nodup ∧ ∀ c, c ∈ cs ↔ IsR c ∧ InR c (rs.take k)
def Ci (rs : List (Int × Int)) (k : Nat) (g : Int × Int) (r : Int) (cs : List Int) : Prop := cs.Nodup ∧ ∀ c, c ∈ cs ↔ IsR c ∧ (InR c (rs.take k) ∨ (g.1 ≤ c ∧ c ≤ g.2 ∧ c < r))
theorem inR_nil (c : Int) : ¬ InR c [] := by rintro ⟨g, h, -⟩; cases h
theorem co_zero (rs : List (Int × Int)) : Co rs 0 [] := ⟨List.nodup_nil, fun c => ⟨(fun h => by cases h), fun h => (inR_nil c (by simpa using h.2)).elim⟩⟩
theorem inR_snoc {rs : List (Int × Int)} {k : Nat} {c : Int} (h : k < rs.length) : InR c (rs.take (k + 1)) ↔ InR c (rs.take k) ∨ (rs[k].1 ≤ c ∧ c ≤ rs[k].2) := by
  have e : rs.take (k + 1) = rs.take k ++ [rs[k]] := by rw [List.take_add_one, List.getElem?_eq_getElem h]; rfl
  rw [e]
  constructor
  · rintro ⟨g, hg, h1, h2⟩
    rcases List.mem_append.1 hg with h3 | h3
    · exact .inl ⟨g, h3, h1, h2⟩
    · rw [List.mem_singleton.1 h3] at h1 h2; exact .inr ⟨h1, h2⟩
  · rintro (⟨g, hg, h1, h2⟩ | ⟨h1, h2⟩)
    · exact ⟨g, List.mem_append_left _ hg, h1, h2⟩
    · exact ⟨rs[k], List.mem_append_right _ (List.mem_singleton_self _), h1, h2⟩
theorem ci_start {rs : List (Int × Int)} {k : Nat} {g : Int × Int} {cs : List Int} (h : Co rs k cs) : Ci rs k g g.1 cs :=
  ⟨h.1, fun c => by rw [h.2 c]; constructor; exact fun h => ⟨h.1, .inl h.2⟩; rintro ⟨h1, h2 | h2⟩; exact ⟨h1, h2⟩; omega⟩
theorem ci_stop {rs : List (Int × Int)} {k : Nat} {r : Int} {cs : List Int} (hk : k < rs.length) (h : Ci rs k rs[k] r cs) (hr : ¬ r ≤ rs[k].2) : Co rs (k + 1) cs :=
  ⟨h.1, fun c => by rw [h.2 c, inR_snoc hk]; constructor; (rintro ⟨h1, h2 | h2⟩; exact ⟨h1, .inl h2⟩; exact ⟨h1, .inr ⟨h2.1, h2.2.1⟩⟩); (rintro ⟨h1, h2 | h2⟩; exact ⟨h1, .inl h2⟩; exact ⟨h1, .inr ⟨h2.1, h2.2, by omega⟩⟩)⟩
theorem ci_skip {rs : List (Int × Int)} {k : Nat} {g : Int × Int} {r q : Int} {cs : List Int} (h : Ci rs k g r cs) (h1 : r ≤ q) (hq : ∀ c, r ≤ c → c < q → ¬ IsR c) : Ci rs k g q cs :=
  ⟨h.1, fun c => by
    rw [h.2 c]
    constructor
    · rintro ⟨h2, h3 | h3⟩
      · exact ⟨h2, .inl h3⟩
      · exact ⟨h2, .inr ⟨h3.1, h3.2.1, by omega⟩⟩
    · rintro ⟨h2, h3 | h3⟩
      · exact ⟨h2, .inl h3⟩
      · refine ⟨h2, .inr ⟨h3.1, h3.2.1, ?_⟩⟩
        by_cases e : c < r
        · exact e
        · exact (hq c (by omega) h3.2.2 h2).elim⟩
theorem ci_step {rs : List (Int × Int)} {k : Nat} {r : Int} {cs : List Int} (hc : Cls rs) (hk : k < rs.length) (h : Ci rs k rs[k] r cs) (h0 : rs[k].1 ≤ r) (h1 : r ≤ rs[k].2) (hr : IsR r) : Ci rs k rs[k] (r + 1) (cs ++ [r]) := by
  have hn : r ∉ cs := fun hm => by
    rcases ((h.2 r).1 hm).2 with ⟨g, hg, h2, h3⟩ | h2
    · obtain ⟨j, hj, rfl⟩ := List.getElem_of_mem hg
      have hj2 : j < k := by rw [List.length_take] at hj; omega
      have h4 := (hc k hk).2.2.2 j hj2
      rw [List.getElem_take] at h3
      omega
    · omega
  refine ⟨List.nodup_append.2 ⟨h.1, by simp, fun a ha b hb e => hn (by rw [List.mem_singleton.1 hb] at e; exact e ▸ ha)⟩, fun c => ?_⟩
  rw [List.mem_append, h.2 c, List.mem_singleton]
  constructor
  · rintro (⟨h2, h3 | h3⟩ | rfl)
    · exact ⟨h2, .inl h3⟩
    · exact ⟨h2, .inr ⟨h3.1, h3.2.1, by omega⟩⟩
    · exact ⟨hr, .inr ⟨h0, h1, by omega⟩⟩
  · rintro ⟨h2, h3 | h3⟩
    · exact .inl ⟨h2, .inl h3⟩
    · by_cases e : c = r
      · exact .inr e
      · exact .inl ⟨h2, .inr ⟨h3.1, h3.2.1, by omega⟩⟩
def Tcl (rs : List (Int × Int)) : Tx := fun u => ∃ c, IsR c ∧ InR c rs ∧ u = bstr (formB c)
theorem cls_many {rs : List (Int × Int)} {k : Nat} {r : Int} {cs : List Int} (hk : k < rs.length) (h : Ci rs k rs[k] r cs) (hl : 64 < cs.length) : LIs ([], true) 4 (Tcl rs) := by
  refine LIs.many ⟨cs.map tx, ?_, by rwa [List.length_map], fun u hu => ?_⟩
  · exact List.pairwise_map.2 (h.1.imp_of_mem (fun {a b} ha hb hne e => hne (tx_inj ((h.2 a).1 ha).1 ((h.2 b).1 hb).1 e)))
  · obtain ⟨c, hc, rfl⟩ := List.mem_map.1 hu
    obtain ⟨h1, h2⟩ := (h.2 c).1 hc
    refine ⟨c, h1, ?_, rfl⟩
    rcases h2 with ⟨g, hg, h3, h4⟩ | h2
    · exact ⟨g, List.mem_of_mem_take hg, h3, h4⟩
    · exact ⟨rs[k], List.getElem_mem hk, h2.1, h2.2.1⟩
theorem cls_all {rs : List (Int × Int)} {k : Nat} {cs : List Int} (hk : rs.length ≤ k) (h : Co rs k cs) : LIs (settle (cs.map tx)) 4 (Tcl rs) := by
  refine (LIs.settle (cs.map tx) (fun u hu => by obtain ⟨c, -, rfl⟩ := List.mem_map.1 hu; exact tx_size c)).congr fun u => ?_
  unfold Co at h
  rw [List.take_of_length_le hk] at h
  constructor
  · intro hu
    obtain ⟨c, hc, rfl⟩ := List.mem_map.1 hu
    obtain ⟨h1, h2⟩ := (h.2 c).1 hc
    exact ⟨c, h1, h2, rfl⟩
  · rintro ⟨c, h1, h2, rfl⟩
    exact List.mem_map.2 ⟨c, (h.2 c).2 ⟨h1, h2⟩, rfl⟩
structure OcG where
  k : Nat
  cs : List Int
  n : Nat
  ta : Option Addr
  tc : Nat
  tob : Option Nat
structure OcJ where
  r : Int
  cs : List Int
  n : Nat
  ta : Option Addr
  tc : Nat
  tob : Option Nat
structure OcI (w wr : World) (b2 : Nat) (rs : List (Int × Int)) (x : OcG) : Prop where
  k : x.k ≤ rs.length
  h2 : wr.heap[b2]? = some (.cells #[.slice none 0 0, .bool false] 69 (0, 0))
  own : OwnS wr 9 1 x.ta x.n x.tc ((x.cs.map tx).map sv) x.tob
  ge : Ge w x.tob
  a2 : ∀ g, x.tob = some g → g ≠ b2
  len : x.n ≤ 64
  hn : x.cs.length = x.n
  co : Co rs x.k x.cs
structure OcI2 (w wr : World) (b2 b5 : Nat) (rs : List (Int × Int)) (k : Nat) (g : Int × Int) (x : OcJ) : Prop where
  lo : g.1 ≤ x.r
  h2 : wr.heap[b2]? = some (.cells #[.slice none 0 0, .bool false] 69 (0, 0))
  h5 : wr.heap[b5]? = some (.cells #[.int .i32 g.1, .int .i32 g.2] 129 (0, 0))
  own : OwnS wr 9 1 x.ta x.n x.tc ((x.cs.map tx).map sv) x.tob
  ge : Ge w x.tob
  a2 : ∀ g, x.tob = some g → g ≠ b2
  a5 : ∀ g, x.tob = some g → g ≠ b5
  len : x.n ≤ 64
  hn : x.cs.length = x.n
  ci : Ci rs k g x.r x.cs
set_option maxHeartbeats 4000000 in
theorem ofClass_ok {X : List Nat} {w : World} {v : Value} {rs : List (Int × Int)} (hX : ∀ b, b ∈ X → b < w.heap.size) (hs : RSl 2 RRg [] w v rs) (hl : rs.length ≤ 140737488351232) (hc : Cls rs) :
    Calls Tryz.prog 73 #[v] w (Ret fun r w' => ∃ l, RLv X w' r l ∧ LIs l 4 (Tcl rs) ∧ Evo [] w w') := by
  obtain ⟨va, vc, rfl, hcc, e1⟩ := id hs; refine calls_of_cw (N := 48) Tryz.func73 rfl rfl rfl ?_; refine cw_seq ?_; refine cw_region ?_; refine wl_alloc rfl Tryz.zero69 fun b2 w1 hB2 hs3 hw4 => ?_; have hsz_b2 := hs3; have hG5 := Ge.new (Evo.refl [] w) hs3; have hE6 := (Evo.refl [] w).then hw4; refine wl_nil (nrm_then ?_); refine cw_seq ?_; refine cw_region ?_; refine wl_a ?_; refine wl_nil (nrm_then ?_); refine cw_seq ?_; refine cw_seq ?_; refine cw_region ?_; refine wl_m ?_; refine wl_val rfl (ex_len_slice rfl Tryz.underlying22 rfl) ?_; refine wl_m ?_; refine wl_nil (nrm_then ?_); refine cw_block ?_; refine cw_loop (α := OcG) (⟨0, [], 0, none, 0, none⟩) (fun x => [(11, .int .i64 (x.k : Nat)), (3, .slice x.ta x.n x.tc)]) [(2, _), (9, _), (10, _)] (fun x wr => Evo [] w wr ∧ (OcI w wr b2 rs x)) (fun x => rs.length - x.k) ⟨rfl, rfl, trivial⟩ ⟨rfl, rfl, rfl, trivial⟩ ⟨hE6, ⟨Nat.zero_le _, hB2, OwnS.nil _ _ _, Ge.nil _, (fun g h => by cases h), Nat.zero_le _, rfl, co_zero rs⟩⟩ ?_; rintro ⟨k, cs, n, ta, tc, tob⟩ wr7 ⟨hV8, ⟨hk, hb2, hT, hge, ha2, hln, hnn, hco⟩⟩; show CW _ _ _ _ [(11, .int .i64 (k : Nat)), (3, .slice ta n tc), (2, _), (9, _), (10, _)] _
  try dsimp only at hk
  try dsimp only at hb2
  try dsimp only at hT
  try dsimp only at hge
  try dsimp only at ha2
  try dsimp only at hln
  try dsimp only at hnn
  try dsimp only at hco
  have hA2 : Apart (some b2) tob := fun g h1 h2 => ha2 g h2 (by cases h1; rfl)
  refine cw_seq ?_; refine cw_region ?_; refine wl_val rfl (ex_lss rfl rfl) ?_; refine wl_nil (nrm_then ?_); refine cw_seq ?_; refine cw_if rfl (fun hc12 => ?_) (fun hc12 => ?_)
  ·skip
   have hk' : k < rs.length := by omega
   obtain ⟨b7, o7, vs7, ha7, hb7, hvl7, hc7, rfl⟩ := e1 k hk'; have hck := hc k hk'; refine cw_skip (nrm_then ?_); refine cw_seq ?_; refine cw_block ?_; refine cw_seq ?_; refine cw_region ?_
   refine wl_val rfl (ex_indexAddr (n := k) (by rw [ha7]; rfl) rfl Tryz.elem22 (by omega)) ?_
   refine wl_val rfl (ex_loadA rfl Tryz.agg129 Tryz.size129 (vs := [_, _]) rfl (hc7.evo hV8 (by simp))) ?_; refine wl_alloc rfl Tryz.zero129 fun b5 w9 hB10 hs11 hw12 => ?_; have hsz_b5 := hs11; have hA13 := Apart.new (Lt.blk hb2) hs11; have hA14 := Apart.new (Lt.own hT) hs11; have hG15 := Ge.new hV8 hs11; have hE16 := hV8.then hw12; have hB17 := hw12.blk0 hb2; have hO18 := hT.evo0 hw12; refine wl_storeBlk rfl rfl Tryz.size129 hB10 rfl rfl ⟨by first | rfl | assumption, by first | rfl | assumption, trivial⟩ fun w19 hB20 hw21 => ?_; have hE22 := hE16.step hw21 hG15.mem1; have hB23 := hw21.blk hB17 hA13.nmem1; have hO24 := hO18.evo hw21 hA14.own1
   try simp only [List.setIfInBounds_toArray, List.set_cons_zero, List.set_cons_succ, Nat.reduceAdd, Nat.zero_add, Nat.add_zero] at hB20
   refine wl_nil (nrm_then ?_); refine cw_seq ?_; refine cw_region ?_; refine wl_val rfl (ex_fieldAddr rfl Tryz.fld129_0) ?_; refine wl_val rfl (ex_load1 rfl Tryz.agg21 (cell_nth hB20 rfl)) ?_; refine wl_a ?_; refine wl_nil (nrm_then ?_); refine cw_block ?_
   refine cw_loop (α := OcJ) (⟨rs[k].1, cs, n, ta, tc, tob⟩) (fun x => [(6, .int .i32 x.r), (3, .slice x.ta x.n x.tc)]) [(2, _), (5, _), (9, _), (10, _), (11, _)] (fun x wr => Evo [] w wr ∧ (OcI2 w wr b2 b5 rs k rs[k] x)) (fun x => (rs[k].2 + 1 - x.r).toNat) ⟨rfl, rfl, trivial⟩ ⟨rfl, rfl, rfl, rfl, rfl, trivial⟩ ⟨hE22, ⟨Int.le_refl _, hB23, hB20, hO24, hge, ha2, (fun g h1 h2 => by subst h2; exact hA14.symm _ rfl h1), hln, hnn, ci_start hco⟩⟩ ?_
   rintro ⟨r, cs, n, ta, tc, tob⟩ wr25 ⟨hV26, ⟨hlo, hb2, hb5, hT, hge, ha2, ha5, hln, hnn, hci⟩⟩; show CW _ _ _ _ [(6, .int .i32 r), (3, .slice ta n tc), (2, _), (5, _), (9, _), (10, _), (11, _)] _
   try dsimp only at hlo
   try dsimp only at hb2
   try dsimp only at hb5
   try dsimp only at hT
   try dsimp only at hge
   try dsimp only at ha2
   try dsimp only at ha5
   try dsimp only at hln
   try dsimp only at hnn
   try dsimp only at hci
   have hA2 : Apart (some b2) tob := fun g h1 h2 => ha2 g h2 (by cases h1; rfl)
   have hA5 : Apart (some b5) tob := fun g h1 h2 => ha5 g h2 (by cases h1; rfl)
   refine cw_seq ?_; refine cw_seq ?_; refine cw_region ?_; refine wl_m ?_; refine wl_val rfl (ex_fieldAddr rfl Tryz.fld129_1) ?_; refine wl_val rfl (ex_load1 rfl Tryz.agg21 (cell_nth hb5 rfl)) ?_; refine wl_val rfl (ex_leq rfl rfl) ?_; refine wl_nil (nrm_then ?_); refine cw_if rfl (fun hc20 => ?_) (fun hc20 => ?_)
   ·skip
    have hr1 : r ≤ rs[k].2 := by omega
    refine cw_skip (nrm_then ?_); refine cw_seq ?_; refine cw_block ?_; refine cw_seq ?_; refine cw_seq ?_; refine cw_region ?_; refine wl_m ?_; refine wl_val rfl (ex_eql rfl rfl) ?_; refine wl_nil (nrm_then ?_); refine cw_if rfl (fun hc24 => ?_) (fun hc24 => ?_)
    ·skip
     refine cw_seq ?_; refine cw_region ?_; refine wl_a ?_; refine wl_nil (nrm_then ?_); refine cw_exit (ex_then (ex_here (nrm_then ?_))); refine cw_region ?_; refine wl_m ?_; refine wl_val rfl (ex_add_i32 rfl rfl (by omega) (by omega)) ?_; refine wl_a ?_; refine wl_nil (nrm_same ?_); refine ⟨⟨57344, cs, n, ta, tc, tob⟩, ?_, ⟨rfl, rfl, trivial⟩, ⟨rfl, rfl, rfl, rfl, rfl, trivial⟩, hV26, ?_⟩
     · (try dsimp only); show (rs[k].2 + 1 - _).toNat < (rs[k].2 + 1 - r).toNat; omega
     ·skip
      try dsimp only
      exact ⟨by show _ ≤ (57344 : Int); omega, hb2, hb5, hT, hge, ha2, ha5, hln, hnn, ci_skip hci (by show r ≤ (57344 : Int); omega) (fun c h1 h2 h3 => by have h4 : c < 57344 := h2; have := h3.2.2; omega)⟩
    ·skip
     refine cw_skip (nrm_then ?_); refine cw_seq ?_; refine cw_seq ?_; refine cw_region ?_; refine wl_m ?_; refine wl_val rfl (ex_leq rfl rfl) ?_; refine wl_m ?_; refine wl_split (t := 27) rfl (fun hs27 => ?_) (fun hs27 => ?_)
     ·skip
      refine wl_g ?_; refine wl_m ?_; refine wl_g ?_; refine wl_val rfl (ex_leq rfl rfl) ?_; refine wl_pt ?_; refine wl_nil (nrm_then ?_); refine cw_if rfl (fun hc30 => ?_) (fun hc30 => ?_)
      ·skip
       refine cw_exit (ex_then (ex_here (nrm_then ?_))); refine cw_region ?_; refine wl_m ?_; refine wl_val rfl (ex_add_i32 rfl rfl (by omega) (by omega)) ?_; refine wl_a ?_; refine wl_nil (nrm_same ?_); refine ⟨⟨r + 1, cs, n, ta, tc, tob⟩, ?_, ⟨rfl, rfl, trivial⟩, ⟨rfl, rfl, rfl, rfl, rfl, trivial⟩, hV26, ?_⟩
       · (try dsimp only); show (rs[k].2 + 1 - _).toNat < (rs[k].2 + 1 - r).toNat; omega
       ·skip
        try dsimp only
        exact ⟨by show _ ≤ r + 1; omega, hb2, hb5, hT, hge, ha2, ha5, hln, hnn, ci_skip hci (by show r ≤ r + 1; omega) (fun c h1 h2 h3 => by have h4 : c < r + 1 := h2; have := h3.2.2; omega)⟩
      ·skip
       refine cw_skip (nrm_then ?_); refine cw_seq ?_; refine cw_region ?_; have hir : IsR r := ⟨by omega, by omega, by omega⟩; refine wl_m ?_; refine wl_bslice (vs := [_]) rfl Tryz.slice135 rfl rfl rfl rfl fun b27 w28 hO29 hs30 hw31 => ?_; have hA32 := Apart.new (Lt.blk hb2) hs30; have hA33 := Apart.new (Lt.own hT) hs30; have hA34 := Apart.new (Lt.blk hb5) hs30; have hG35 := Ge.new hV26 hs30; have hE36 := hV26.then hw31; have hB37 := hw31.blk0 hb2; have hO38 := hT.evo0 hw31; have hB39 := hw31.blk0 hb5; refine wl_call1 (vs := [_]) Tryz.goes78 rfl (lit_text (r := r) hO29) rfl ?_; rintro _ w40 ⟨rfl, hw41⟩; have hE42 := hE36.then hw41; have hB43 := hw41.blk0 hB37; have hO44 := hO38.evo0 hw41; have hB45 := hw41.blk0 hB39; have hO46 := hO29.evo0 hw41; refine wl_m ?_; refine wl_val rfl (ex_extract rfl rfl) ?_; refine wl_val rfl (ex_extract rfl rfl) ?_; refine wl_a ?_; refine wl_a ?_; refine wl_nil (nrm_then ?_); refine cw_seq ?_; refine cw_region ?_; have hst := ci_step hc hk' hci hlo hr1 hir; refine wl_m ?_; refine wl_m ?_; refine wl_bslice (vs := [_]) rfl Tryz.slice26 rfl rfl rfl rfl fun b47 w48 hO49 hs50 hw51 => ?_; have hA52 := Apart.new (Lt.blk hB43) hs50; have hA53 := Apart.new (Lt.own hO44) hs50; have hA54 := Apart.new (Lt.blk hB45) hs50; have hG55 := Ge.new hE42 hs50; have hE56 := hE42.then hw51; have hB57 := hw51.blk0 hB43; have hO58 := hO44.evo0 hw51; have hB59 := hw51.blk0 hB45; refine wl_append rfl rfl rfl rfl Tryz.app26_26 hO58 (Src.ofOwn hO49 ⟨by first | rfl | assumption, trivial⟩) (by omega) fun ta2 tc2 w62 tob2 hT2 hw65 hob66 => ?_; have hA67 := hA2.app (Lt.blk hB57) hob66; have hA68 := hA5.app (Lt.blk hB59) hob66; have hA69 := hA53.symm.app (Lt.own hO49) hob66; have hG70 := hge.app hE56 hob66; have hE71 := hE56.step hw65 hge.mem
       have hB72 := hw65.blk hB57 hA2.nmem; have hB73 := hw65.blk hB59 hA5.nmem; have hO74 := hO49.evo hw65 hA53.symm.own; refine wl_a ?_; refine wl_nil (nrm_then ?_); refine cw_seq ?_; refine cw_region ?_; refine wl_m ?_; refine wl_val rfl (ex_len_slice rfl Tryz.underlying26 rfl) ?_; refine wl_val rfl (ex_gtr rfl rfl) ?_; refine wl_nil (nrm_then ?_); refine cw_if rfl (fun hc43 => ?_) (fun hc43 => ?_)
       ·skip
        refine cw_seq ?_; refine cw_region ?_; refine wl_val rfl (ex_build (vs := [(1, _)]) Tryz.build69 rfl (cells := [_, _]) rfl) ?_; refine wl_storeBlk rfl rfl Tryz.size69 hB72 rfl rfl ⟨by first | rfl | assumption, by first | rfl | assumption, trivial⟩ fun w75 hB76 hw77 => ?_; have hE78 := hE71.step hw77 hG5.mem1; have hB79 := hw77.blk hB73 hA13.symm.nmem1; have hO80 := hT2.evo hw77 hA67.symm.own1
        try simp only [List.setIfInBounds_toArray, List.set_cons_zero, List.set_cons_succ, Nat.reduceAdd, Nat.zero_add, Nat.add_zero] at hB76
        refine wl_nil (nrm_then ?_); refine cw_ret (ret_block (ret_then (ret_then (ret_block (ret_block (ret_then (ret_then (ret_block (ret_then (body_retC1 rfl (ResOk.cellA rfl Tryz.agg69 Tryz.size69 hB76 rfl) ?_)))))))))); refine ⟨([], true), rlv_none _ _ true, cls_many hk' hst ?_, hE78⟩
        rw [List.length_append]; show 64 < cs.length + 1; omega
       ·skip
        refine cw_skip (nrm_block (nrm_then ?_)); refine cw_region ?_; refine wl_m ?_; refine wl_val rfl (ex_add_i32 rfl rfl (by omega) (by omega)) ?_; refine wl_a ?_; refine wl_nil (nrm_same ?_); refine ⟨⟨r + 1, cs ++ [r], n + 1, ta2, tc2, tob2⟩, ?_, ⟨rfl, rfl, trivial⟩, ⟨rfl, rfl, rfl, rfl, rfl, trivial⟩, hE71, ?_⟩
        · (try dsimp only); show (rs[k].2 + 1 - _).toNat < (rs[k].2 + 1 - r).toNat; omega
        ·skip
         try dsimp only
         refine ⟨by show _ ≤ r + 1; omega, hB72, hB73, ?_, hG70, ?_, ?_, ?_, ?_, hst⟩
         · have h9 := hT2; show OwnS _ 9 1 _ (n + 1) _ _ _; rw [List.map_append, List.map_append]; exact h9
         · intro g h1 e; subst e; exact hA67 _ rfl h1
         · intro g h1 e; subst e; exact hA68 _ rfl h1
         · show n + 1 ≤ 64; omega
         · rw [List.length_append]; show cs.length + 1 = n + 1; omega
     ·skip
      refine wl_n ?_; refine wl_n ?_; refine wl_pf ?_; refine wl_nil (nrm_then ?_); refine cw_false rfl ?_; refine cw_skip (nrm_then ?_); refine cw_seq ?_; refine cw_region ?_; have hir : IsR r := ⟨by omega, by omega, by omega⟩; refine wl_m ?_; refine wl_bslice (vs := [_]) rfl Tryz.slice135 rfl rfl rfl rfl fun b81 w82 hO83 hs84 hw85 => ?_; have hA86 := Apart.new (Lt.blk hb2) hs84; have hA87 := Apart.new (Lt.own hT) hs84; have hA88 := Apart.new (Lt.blk hb5) hs84; have hG89 := Ge.new hV26 hs84; have hE90 := hV26.then hw85; have hB91 := hw85.blk0 hb2; have hO92 := hT.evo0 hw85; have hB93 := hw85.blk0 hb5; refine wl_call1 (vs := [_]) Tryz.goes78 rfl (lit_text (r := r) hO83) rfl ?_; rintro _ w94 ⟨rfl, hw95⟩; have hE96 := hE90.then hw95; have hB97 := hw95.blk0 hB91; have hO98 := hO92.evo0 hw95; have hB99 := hw95.blk0 hB93; have hO100 := hO83.evo0 hw95; refine wl_m ?_; refine wl_val rfl (ex_extract rfl rfl) ?_; refine wl_val rfl (ex_extract rfl rfl) ?_; refine wl_a ?_; refine wl_a ?_; refine wl_nil (nrm_then ?_); refine cw_seq ?_; refine cw_region ?_; have hst := ci_step hc hk' hci hlo hr1 hir; refine wl_m ?_; refine wl_m ?_; refine wl_bslice (vs := [_]) rfl Tryz.slice26 rfl rfl rfl rfl fun b101 w102 hO103 hs104 hw105 => ?_; have hA106 := Apart.new (Lt.blk hB97) hs104; have hA107 := Apart.new (Lt.own hO98) hs104; have hA108 := Apart.new (Lt.blk hB99) hs104; have hG109 := Ge.new hE96 hs104; have hE110 := hE96.then hw105; have hB111 := hw105.blk0 hB97; have hO112 := hO98.evo0 hw105; have hB113 := hw105.blk0 hB99; refine wl_append rfl rfl rfl rfl Tryz.app26_26 hO112 (Src.ofOwn hO103 ⟨by first | rfl | assumption, trivial⟩) (by omega) fun ta2 tc2 w116 tob2 hT2 hw119 hob120 => ?_; have hA121 := hA2.app (Lt.blk hB111) hob120; have hA122 := hA5.app (Lt.blk hB113) hob120
      have hA123 := hA107.symm.app (Lt.own hO103) hob120; have hG124 := hge.app hE110 hob120; have hE125 := hE110.step hw119 hge.mem; have hB126 := hw119.blk hB111 hA2.nmem; have hB127 := hw119.blk hB113 hA5.nmem; have hO128 := hO103.evo hw119 hA107.symm.own; refine wl_a ?_; refine wl_nil (nrm_then ?_); refine cw_seq ?_; refine cw_region ?_; refine wl_m ?_; refine wl_val rfl (ex_len_slice rfl Tryz.underlying26 rfl) ?_; refine wl_val rfl (ex_gtr rfl rfl) ?_; refine wl_nil (nrm_then ?_); refine cw_if rfl (fun hc43 => ?_) (fun hc43 => ?_)
      ·skip
       refine cw_seq ?_; refine cw_region ?_; refine wl_val rfl (ex_build (vs := [(1, _)]) Tryz.build69 rfl (cells := [_, _]) rfl) ?_; refine wl_storeBlk rfl rfl Tryz.size69 hB126 rfl rfl ⟨by first | rfl | assumption, by first | rfl | assumption, trivial⟩ fun w129 hB130 hw131 => ?_; have hE132 := hE125.step hw131 hG5.mem1; have hB133 := hw131.blk hB127 hA13.symm.nmem1; have hO134 := hT2.evo hw131 hA121.symm.own1
       try simp only [List.setIfInBounds_toArray, List.set_cons_zero, List.set_cons_succ, Nat.reduceAdd, Nat.zero_add, Nat.add_zero] at hB130
       refine wl_nil (nrm_then ?_); refine cw_ret (ret_block (ret_then (ret_then (ret_block (ret_block (ret_then (ret_then (ret_block (ret_then (body_retC1 rfl (ResOk.cellA rfl Tryz.agg69 Tryz.size69 hB130 rfl) ?_)))))))))); refine ⟨([], true), rlv_none _ _ true, cls_many hk' hst ?_, hE132⟩
       rw [List.length_append]; show 64 < cs.length + 1; omega
      ·skip
       refine cw_skip (nrm_block (nrm_then ?_)); refine cw_region ?_; refine wl_m ?_; refine wl_val rfl (ex_add_i32 rfl rfl (by omega) (by omega)) ?_; refine wl_a ?_; refine wl_nil (nrm_same ?_); refine ⟨⟨r + 1, cs ++ [r], n + 1, ta2, tc2, tob2⟩, ?_, ⟨rfl, rfl, trivial⟩, ⟨rfl, rfl, rfl, rfl, rfl, trivial⟩, hE125, ?_⟩
       · (try dsimp only); show (rs[k].2 + 1 - _).toNat < (rs[k].2 + 1 - r).toNat; omega
       ·skip
        try dsimp only
        refine ⟨by show _ ≤ r + 1; omega, hB126, hB127, ?_, hG124, ?_, ?_, ?_, ?_, hst⟩
        · have h9 := hT2; show OwnS _ 9 1 _ (n + 1) _ _ _; rw [List.map_append, List.map_append]; exact h9
        · intro g h1 e; subst e; exact hA121 _ rfl h1
        · intro g h1 e; subst e; exact hA122 _ rfl h1
        · show n + 1 ≤ 64; omega
        · rw [List.length_append]; show cs.length + 1 = n + 1; omega
   ·skip
    refine cw_exit (ex_then (ex_then (ex_here (nrm_block (nrm_then ?_))))); refine cw_region ?_; have hco := ci_stop hk' hci (by omega); refine wl_val rfl (ex_add_i64 rfl rfl (by omega) (by omega)) ?_; refine wl_m ?_; refine wl_nil (nrm_same ?_); refine ⟨⟨k + 1, cs, n, ta, tc, tob⟩, ?_, ⟨rfl, rfl, trivial⟩, ⟨rfl, rfl, rfl, trivial⟩, hV26, ?_⟩
    · (try dsimp only); omega
    ·skip
     try dsimp only
     exact ⟨by show k + 1 ≤ _; omega, hb2, hT, hge, ha2, hln, hnn, hco⟩
  ·skip
   refine cw_exit (ex_then (ex_then (ex_here (nrm_then ?_)))); refine cw_seq ?_; refine cw_region ?_; refine wl_m ?_
   refine wl_call1 (vs := [_]) Tryz.goes120 rfl (settled_ok (X := X ++ [b2]) (zs := cs.map tx) hT (fun g hg hm => by rcases List.mem_append.1 hm with h9 | h9; (have h8 := hge g hg; have h7 := hX g h9; omega); exact ha2 g hg (List.mem_singleton.1 h9)) (by omega)) rfl ?_
   rintro rv w135 ⟨hR, hw136⟩; have hE137 := hV8.step hw136 (hge.mem); have hB138 := hw136.blk hb2 (hA2.nmem); obtain ⟨ra, rn, rc, rfl, hrr⟩ := hR.get; refine wl_storeBlk rfl rfl Tryz.size69 hB138 rfl rfl ⟨by first | rfl | assumption, by first | rfl | assumption, trivial⟩ fun w139 hB140 hw141 => ?_; have hE142 := hE137.step hw141 hG5.mem1
   have hE143 := (Evo.refl (X ++ [b2]) w135).step hw141 (fun y hy => .inl (by rw [List.mem_singleton.1 hy]; simp))
   try simp only [List.setIfInBounds_toArray, List.set_cons_zero, List.set_cons_succ, Nat.reduceAdd, Nat.zero_add, Nat.add_zero] at hB140
   refine wl_nil (nrm_then ?_); refine cw_ret (body_retC1 rfl (ResOk.cellA rfl Tryz.agg69 Tryz.size69 hB140 rfl) ?_); refine ⟨settle (cs.map tx), ?_, cls_all (by omega) hco, hE142⟩; exact ⟨_, _, _, rfl, RSl.fresh (by decide) RTs.fresh (fun y hy => .inl (List.mem_append_left _ hy)) (RSl.evo RTs.pers hE143 hrr)⟩
end Go.Proofs.YtgnpldackjbdjaaGreat
namespace Go.Proofs.YtgnpldackjbdjaaGreat
open Go.Proofs
open Go.W Go.RowKit
attribute [local irreducible] Decidable.decide
set_option linter.unusedSimpArgs false
set_option linter.unusedVariables false
theorem Tryz.goes36 : Goes Tryz.prog 36 := ⟨_, Tryz.func36, by kernel_rfl, by kernel_rfl⟩
theorem Tryz.goes73 : Goes Tryz.prog 73 := ⟨_, Tryz.func73, by kernel_rfl, by kernel_rfl⟩
theorem Tryz.goes77 : Goes Tryz.prog 77 := ⟨_, Tryz.func77, by kernel_rfl, by kernel_rfl⟩
theorem nolook_kind {t : Rx} (h : NoLook t) : t.kind < 8 := by cases t; rw [NoLook] at h; exact h.1
theorem nolooks_mem : ∀ {l : List Rx}, NoLooks l → ∀ x, x ∈ l → NoLook x
  | [], _, x, hx => by cases hx
  | y :: l, h, x, hx => by
    rw [NoLooks] at h
    cases hx with
    | head => exact h.1
    | tail _ hx => exact nolooks_mem h.2 x hx
theorem nolook_kid {t : Rx} (h : NoLook t) : ∀ k, k ∈ t.kids → NoLook k := by cases t; rw [NoLook] at h; exact nolooks_mem h.2
theorem nolooks_of : ∀ {l : List Rx}, (∀ x, x ∈ l → NoLook x) → NoLooks l
  | [], _ => by rw [NoLooks]; trivial
  | y :: l, h => by rw [NoLooks]; exact ⟨h y (List.mem_cons_self ..), nolooks_of fun x hx => h x (List.mem_cons_of_mem _ hx)⟩
theorem nolook_of {t : Rx} (h : t.kind < 8) (hk : ∀ k, k ∈ t.kids → NoLook k) : NoLook t := by cases t; rw [NoLook]; exact ⟨h, nolooks_of hk⟩
theorem lis_lit {t : Rx} {l : Lv} (hk : t.kind = 2) (h : LIs l 4 (Tcl [(t.r, t.r)])) : LIs l (4 * t.esz) (Tg t) := by
  have e := esz0 (t := t) (by omega)
  refine (h.wide (by omega)).congr fun u => ?_
  rw [tg2 hk]
  constructor
  · rintro ⟨c, h1, ⟨g, hg, h2, h3⟩, rfl⟩
    rw [List.mem_singleton.1 hg] at h2 h3
    obtain rfl : c = t.r := Int.le_antisymm h3 h2
    exact ⟨h1, rfl⟩
  · rintro ⟨h1, rfl⟩
    exact ⟨t.r, h1, ⟨_, List.mem_singleton_self _, Int.le_refl _, Int.le_refl _⟩, rfl⟩
theorem lis_cls {t : Rx} {l : Lv} (hk : t.kind = 3) (h : LIs l 4 (Tcl t.ranges)) : LIs l (4 * t.esz) (Tg t) := by
  have e := esz0 (t := t) (by omega)
  exact (h.wide (by omega)).congr fun u => (tg3 hk u).symm
theorem lis_eps {t : Rx} (hk : t.kind = 1) : LIs (lone nob) (4 * t.esz) (Tg t) := (LIs.one nob (Nat.zero_le _)).congr fun u => (tg1 hk u).symm
theorem lis_cat0 (t : Rx) : LIs (lone nob) (4 * eszs (t.kids.take 0)) (Tgs (t.kids.take 0)) := (LIs.one nob (Nat.zero_le _)).congr fun u => by rw [List.take_zero]; exact (tgs_nil u).symm
theorem lis_cat_step {t : Rx} {k : Nat} {p m : Lv} (hk : k < t.kids.length) (h : LIs p (4 * eszs (t.kids.take k)) (Tgs (t.kids.take k))) (h2 : LIs m (4 * t.kids[k].esz) (Tg t.kids[k])) : LIs (lthen p m) (4 * eszs (t.kids.take (k + 1))) (Tgs (t.kids.take (k + 1))) := by
  refine ((h.then h2).wide (by rw [eszs_take hk]; omega)).congr fun u => ?_
  rw [take_snoc hk]; exact (tgs_snoc _ _ u).symm
theorem kids_le {t : Rx} (hk : t.kind = 4 ∨ t.kind = 7) : eszs t.kids ≤ t.esz := by
  rcases hk with hk | hk
  · have := esz4 hk; omega
  · have := esz7 hk; omega
theorem kids_le5 {t : Rx} (hk : t.kind = 5) (h2 : 2 ≤ t.kids.length) : eszs t.kids ≤ t.esz := by
  have := esz5 hk (by omega); omega
theorem lis_cat {t : Rx} {k : Nat} {p : Lv} (hk : t.kind = 4 ∨ t.kind = 7) (hj : t.kids.length ≤ k) (h : LIs p (4 * eszs (t.kids.take k)) (Tgs (t.kids.take k))) : LIs p (4 * t.esz) (Tg t) := by
  rw [List.take_of_length_le hj] at h
  have e : eszs t.kids ≤ t.esz := by
    rcases hk with hk | hk
    · have := esz4 hk; omega
    · have := esz7 hk; omega
  exact (h.wide (by omega)).congr fun u => (tg4 hk u).symm
theorem lis_alt0 (t : Rx) : LIs ([], false) (4 * eszs (t.kids.take 0)) (TgA (t.kids.take 0)) := (LIs.nil (fun u h => tga_nil u h)).congr fun u => by rw [List.take_zero]
theorem lis_alt_step {t : Rx} {k : Nat} {p m : Lv} (hk : k < t.kids.length) (h : LIs p (4 * eszs (t.kids.take k)) (TgA (t.kids.take k))) (h2 : LIs m (4 * t.kids[k].esz) (Tg t.kids[k])) : LIs (lor p m) (4 * eszs (t.kids.take (k + 1))) (TgA (t.kids.take (k + 1))) := by
  refine ((h.or h2).wide (by rw [eszs_take hk]; omega)).congr fun u => ?_
  rw [take_snoc hk]; exact (tga_snoc _ _ u).symm
theorem lis_alt {t : Rx} {k : Nat} {p : Lv} (hk : t.kind = 5) (h2 : 2 ≤ t.kids.length) (hj : t.kids.length ≤ k) (h : LIs p (4 * eszs (t.kids.take k)) (TgA (t.kids.take k))) : LIs p (4 * t.esz) (Tg t) := by
  rw [List.take_of_length_le hj] at h
  have e := esz5 hk (by omega)
  exact (h.wide (by omega)).congr fun u => (tg5 hk u).symm
theorem mul_pick {a b e : Nat} {mn mx : Int} (h0 : 0 ≤ mn) (h1 : mn ≤ mx) (h : (b : Int) = mn * (e : Int) + (mx - mn) * ((e : Int) + 1)) : mx.toNat * e ≤ b := by
  have e1 : ((mx.toNat * e : Nat) : Int) = mx * (e : Int) := by push_cast; rw [show ((mx.toNat : Nat) : Int) = mx from by omega]
  have e2 : mn * (e : Int) + (mx - mn) * ((e : Int) + 1) = mx * (e : Int) + (mx - mn) := by rw [Int.mul_add, Int.sub_mul]; omega
  omega
theorem rep_sizes {t : Rx} (hk : t.kind = 6) (h6 : 0 ≤ t.min) (h63 : t.max = -1 ∨ t.min ≤ t.max) {h : Nat} (hh : h ≤ 4 * eszs t.kids) : t.min.toNat * h ≤ 4 * t.esz ∧ t.max.toNat * h ≤ 4 * t.esz := by
  refine ⟨(rep_le hk h6 h63 hh).1, ?_⟩
  rcases h63 with h2 | h2
  · rw [h2]; show 0 * h ≤ _; omega
  · have h3 := mul_pick (a := 0) h6 h2 (esz6b hk h6 h2)
    have h4 : t.max.toNat * h ≤ t.max.toNat * (4 * eszs t.kids) := Nat.mul_le_mul_left _ hh
    have h5 : t.max.toNat * (4 * eszs t.kids) = 4 * (t.max.toNat * eszs t.kids) := by rw [Nat.mul_left_comm]
    omega
theorem lis_rep0 {t : Rx} (hk : t.kind = 6) (h0 : t.max = 0) (h6 : 0 ≤ t.min) (h63 : t.max = -1 ∨ t.min ≤ t.max) : LIs (lone nob) (4 * t.esz) (Tg t) := (LIs.one nob (Nat.zero_le _)).congr fun u => by
  rw [tg6 hk]
  constructor
  · intro hu; exact ⟨0, by omega, .inr (Nat.zero_le _), hu⟩
  · rintro ⟨c, h1, h2, h3⟩
    obtain rfl : c = 0 := by omega
    exact h3
theorem rp_congr {S S' : Tx} (h : ∀ u, S u ↔ S' u) {mn mx : Int} (u : ByteArray) : Rp S mn mx u ↔ Rp S' mn mx u := by
  have e : S = S' := funext fun u => propext (h u)
  rw [e]
theorem lis_rep {t : Rx} {l : Lv} (hk : t.kind = 6) (h6 : 0 ≤ t.min) (h63 : t.max = -1 ∨ t.min ≤ t.max) (hl : t.kids.length = 1) (h0 : t.max ≠ 0) (h : LIs l (4 * (t.kids[0]'(by omega)).esz) (Tg (t.kids[0]'(by omega)))) :
    LIs (lrep l t.min t.max) (4 * t.esz) (Tg t) := by
  have he := eszs_one hl
  have h1 := rep_sizes hk h6 h63 (h := 4 * (t.kids[0]'(by omega)).esz) (by omega)
  have h2 := rep_kid hk h6 h63 h0
  refine ((h.rep h6 h63).wide (by split <;> omega)).congr fun u => ?_
  rw [tg6 hk]
  refine rp_congr (fun v => ?_) u
  have e : t.kids = [t.kids[0]'(by omega)] := single_of hl
  have e2 : Tgs t.kids v ↔ Tgs [t.kids[0]'(by omega)] v := Iff.of_eq (congrArg (fun l => Tgs l v) e)
  exact (e2.trans (tgs_one _ v)).symm
structure LgG where
  k : Nat
  pa : Option Addr
  pn : Nat
  pc : Nat
  p : Lv
structure LgI (X : List Nat) (t : Rx) (T : List Rx → Tx) (wr : World) (b2 b3 : Nat) (x : LgG) : Prop where
  k : x.k ≤ t.kids.length
  h2 : wr.heap[b2]? = some (.cells #[.slice none 0 0, .bool false] 69 (0, 0))
  h3 : wr.heap[b3]? = some (.cells #[.slice x.pa x.pn x.pc, .bool x.p.2] 69 (0, 0))
  rp : RLv (X ++ [b2, b3]) wr (.agg #[.slice x.pa x.pn x.pc, .bool x.p.2]) x.p
  is : LIs x.p (4 * eszs (t.kids.take x.k)) (T (t.kids.take x.k))
set_option maxHeartbeats 8000000 in
theorem lang_step {n : Nat} (ih : ∀ {X Y : List Nat} {w : World} {vs : List Value} {t : Rx} (hX : ∀ b, b ∈ X → b < w.heap.size) (hx : RRx n Y w vs t) (hg : Good t) (hno : NoLook t) (hl : t.esz ≤ 9999), Calls Tryz.prog 36 #[.agg vs.toArray] w (Ret fun r w' => ∃ l, RLv X w' r l ∧ LIs l (4 * t.esz) (Tg t) ∧ Evo [] w w')) {X Y : List Nat} {w : World} {vs : List Value} {t : Rx} (hX : ∀ b, b ∈ X → b < w.heap.size) (hx : RRx (n + 1) Y w vs t) (hg : Good t) (hno : NoLook t) (hl : t.esz ≤ 9999) : Calls Tryz.prog 36 #[.agg vs.toArray] w (Ret fun r w' => ∃ l, RLv X w' r l ∧ LIs l (4 * t.esz) (Tg t) ∧ Evo [] w w') := by
  have hx0 := hx; obtain ⟨m, ra, rc, ka, kc, hm, rfl, hrg, hk, bl1, bl2, bl3⟩ := hx.get
  obtain rfl : m = n := by omega
  obtain ⟨_, _, hke, hkc, e1⟩ := hk; cases hke; have hn := (nodeP_iff t).1 hg.node; have hno8 := nolook_kind hno; refine calls_of_cw (N := 74) Tryz.func36 rfl rfl rfl ?_; refine cw_seq ?_; refine cw_region ?_; refine wl_boxA rfl rfl fun b1 w2 hB3 hs4 hw5 => ?_; have hG6 := Ge.new (Evo.refl [] w) hs4; have hE7 := (Evo.refl [] w).then hw5; refine wl_alloc rfl Tryz.zero69 fun b2 w8 hB9 hs10 hw11 => ?_; have hsz_b2 := hs10; have hA12 := Apart.new (Lt.blk hB3) hs10; have hG13 := Ge.new hE7 hs10; have hE14 := hE7.then hw11; have hB15 := hw11.blk0 hB3; refine wl_nil (nrm_then ?_); refine cw_seq ?_; refine cw_seq ?_; refine cw_region ?_; refine wl_val rfl (ex_fieldAddr rfl Tryz.fld25_0) ?_; refine wl_val rfl (ex_load1 rfl Tryz.agg3 (cell_nth hB15 rfl)) ?_; refine wl_nil (nrm_then ?_); refine cw_block ?_; refine cw_seq ?_; refine cw_region ?_; refine wl_val rfl (ex_eql rfl rfl) ?_; refine wl_a ?_; refine wl_nil (nrm_then ?_); refine cw_if rfl (fun hc11 => ?_) (fun hc11 => ?_)
  ·skip
   refine cw_seq ?_; refine cw_region ?_; refine wl_val rfl (ex_fieldAddr rfl Tryz.fld25_1) ?_; refine wl_val rfl (ex_load1 rfl Tryz.agg21 (cell_nth hB15 rfl)) ?_; refine wl_val rfl (ex_fieldAddr rfl Tryz.fld25_1) ?_; refine wl_val rfl (ex_load1 rfl Tryz.agg21 (cell_nth hB15 rfl)) ?_; refine wl_val rfl (ex_build (vs := [(0, _), (1, _)]) Tryz.build129 rfl (cells := [_, _]) rfl) ?_; refine wl_bslice (vs := [_]) rfl Tryz.slice22 rfl rfl rfl rfl fun b16 w17 hO18 hs19 hw20 => ?_; have hA21 := Apart.new (Lt.blk hB15) hs19; have hA22 := Apart.new (Lt.blk hB9) hs19; have hG23 := Ge.new hE14 hs19; have hE24 := hE14.then hw20; have hB25 := hw20.blk0 hB15; have hB26 := hw20.blk0 hB9
   refine wl_call1 (vs := [_]) Tryz.goes73 rfl (ofClass_ok (X := X ++ [b2]) (rs := [(t.r, t.r)]) (mem_x1 hX hE24 (blk_lt hB26)) (RSl.ofOwn (rows := [[.int .i32 t.r, .int .i32 t.r]]) hO18 (rows_rr _ _ _ _) rfl (fun _ _ h => by cases h)) (by show 1 ≤ _; decide) (cls_one (hn.lit1 (by omega)) (hn.lit2 (by omega)))) rfl ?_
   rintro rv w27 ⟨ol, hR, hI, hw28⟩; have hE29 := hE24.then hw28; have hB30 := hw28.blk0 hB25; have hB31 := hw28.blk0 hB26; have hO32 := hO18.evo0 hw28; obtain ⟨ra, rn, rc, rfl, hrr⟩ := hR.get; refine wl_storeBlk rfl rfl Tryz.size69 hB31 rfl rfl ⟨by first | rfl | assumption, by first | rfl | assumption, trivial⟩ fun w33 hB34 hw35 => ?_; have hE36 := hE29.step hw35 hG13.mem1
   have hE37 := (Evo.refl (X ++ [b2]) w27).step hw35 (fun y hy => .inl (by rw [List.mem_singleton.1 hy]; simp))
   have hB38 := hw35.blk hB30 hA12.nmem1; have hO39 := hO32.evo hw35 hA22.symm.own1
   try simp only [List.setIfInBounds_toArray, List.set_cons_zero, List.set_cons_succ, Nat.reduceAdd, Nat.zero_add, Nat.add_zero] at hB34
   refine wl_nil (nrm_then ?_); refine cw_ret (ret_block (ret_then (body_retC1 rfl (ResOk.cellA rfl Tryz.agg69 Tryz.size69 hB34 rfl) ?_))); exact ⟨ol, (hR.evo hE37).left, lis_lit (by omega) hI, hE36⟩
  ·skip
   refine cw_seq ?_; refine cw_region ?_; refine wl_val rfl (ex_eql rfl rfl) ?_; refine wl_a ?_; refine wl_nil (nrm_then ?_); refine cw_if rfl (fun hc20 => ?_) (fun hc20 => ?_)
   ·skip
    refine cw_seq ?_; refine cw_region ?_; refine wl_val rfl (ex_fieldAddr rfl Tryz.fld25_2) ?_; refine wl_val rfl (ex_load1 rfl Tryz.agg22 (cell_nth hB15 rfl)) ?_; refine wl_call1 (vs := [_]) Tryz.goes73 rfl (ofClass_ok (X := X ++ [b2]) (rs := t.ranges) (mem_x1 hX hE14 (blk_lt hB9)) (RSl.evo RRg.pers hE14 (RSl.fresh (by decide) RRg.fresh (fun y hy => by cases hy) hrg)) (bl1) (cls_of (hn.cls (by omega)))) rfl ?_; rintro rv w40 ⟨ol, hR, hI, hw41⟩; have hE42 := hE14.then hw41; have hB43 := hw41.blk0 hB15; have hB44 := hw41.blk0 hB9; obtain ⟨ra, rn, rc, rfl, hrr⟩ := hR.get; refine wl_storeBlk rfl rfl Tryz.size69 hB44 rfl rfl ⟨by first | rfl | assumption, by first | rfl | assumption, trivial⟩ fun w45 hB46 hw47 => ?_; have hE48 := hE42.step hw47 hG13.mem1
    have hE49 := (Evo.refl (X ++ [b2]) w40).step hw47 (fun y hy => .inl (by rw [List.mem_singleton.1 hy]; simp))
    have hB50 := hw47.blk hB43 hA12.nmem1
    try simp only [List.setIfInBounds_toArray, List.set_cons_zero, List.set_cons_succ, Nat.reduceAdd, Nat.zero_add, Nat.add_zero] at hB46
    refine wl_nil (nrm_then ?_); refine cw_ret (ret_block (ret_then (body_retC1 rfl (ResOk.cellA rfl Tryz.agg69 Tryz.size69 hB46 rfl) ?_))); exact ⟨ol, (hR.evo hE49).left, lis_cls (by omega) hI, hE48⟩
   ·skip
    refine cw_seq ?_; refine cw_seq ?_; refine cw_region ?_; refine wl_val rfl (ex_eql rfl rfl) ?_; refine wl_a ?_; refine wl_nil (nrm_then ?_); refine cw_if rfl (fun hc25 => ?_) (fun hc25 => ?_)
    ·skip
     refine cw_skip (nrm_then ?_); refine cw_if rfl (fun hc25 => ?_) (fun hc25 => ?_)
     ·skip
      refine cw_seq ?_; refine cw_region ?_; refine wl_call1 (vs := [_]) Tryz.goes74 rfl (one_ok (X := X ++ [b2]) (mem_x1 hX hE14 (blk_lt hB9)) nob) rfl ?_; rintro rv w51 ⟨hR, hw52⟩; have hE53 := hE14.then hw52; have hB54 := hw52.blk0 hB15; have hB55 := hw52.blk0 hB9; obtain ⟨ra, rn, rc, rfl, hrr⟩ := hR.get; refine wl_alloc rfl Tryz.zero69 fun b3 w56 hB57 hs58 hw59 => ?_; have hsz_b3 := hs58; have hA60 := Apart.new (Lt.blk hB54) hs58; have hA61 := Apart.new (Lt.blk hB55) hs58; have hG62 := Ge.new hE53 hs58; have hG63 := Ge.new (Evo.refl [] w51) hs58; have hE64 := hE53.then hw59; have hE65 := (Evo.refl [] w51).then hw59; have hB66 := hw59.blk0 hB54; have hB67 := hw59.blk0 hB55
      have hR1 : RLv (X ++ [b2, b3]) w56 _ _ := (hR.fresh (fun y hy => by rcases List.mem_append.1 hy with h | h; exact .inl (List.mem_append_left _ h); simp at h; rcases h with rfl | rfl; exact .inl (by simp); exact .inr (hG63 _ rfl))).evo ((hE65).any _)
      refine wl_storeBlk rfl rfl Tryz.size69 hB57 rfl rfl ⟨by first | rfl | assumption, by first | rfl | assumption, trivial⟩ fun w68 hB69 hw70 => ?_; have hE71 := hE64.step hw70 hG62.mem1
      have hE72 := (Evo.refl (X ++ [b2, b3]) w56).step hw70 (fun y hy => .inl (by rw [List.mem_singleton.1 hy]; simp))
      have hB73 := hw70.blk hB66 hA60.nmem1; have hB74 := hw70.blk hB67 hA61.nmem1
      try simp only [List.setIfInBounds_toArray, List.set_cons_zero, List.set_cons_succ, Nat.reduceAdd, Nat.zero_add, Nat.add_zero] at hB69
      refine wl_nil (nrm_then ?_); refine cw_seq ?_; refine cw_seq ?_; refine cw_region ?_; refine wl_val rfl (ex_fieldAddr rfl Tryz.fld25_8) ?_; refine wl_val rfl (ex_load1 rfl Tryz.agg23 (cell_nth hB73 rfl)) ?_; refine wl_val rfl (ex_len_slice rfl Tryz.underlying23 rfl) ?_; refine wl_m ?_; refine wl_nil (nrm_then ?_); refine cw_block ?_; refine cw_loop (α := LgG) (⟨0, ra, rn, rc, lone nob⟩) (fun x => [(32, .int .i64 (x.k : Nat))]) [(2, _), (3, _), (30, _), (31, _)] (fun x wr => Evo [] w wr ∧ (LgI X t Tgs wr b2 b3 x)) (fun x => t.kids.length - x.k) ⟨rfl, trivial⟩ ⟨rfl, rfl, rfl, rfl, trivial⟩ ⟨hE71, ⟨Nat.zero_le _, hB74, hB69, hR1.evo hE72, lis_cat0 t⟩⟩ ?_; rintro ⟨k, pa, pn, pc, p⟩ wr75 ⟨hV76, ⟨hk, hb2, hb3, hrp, his⟩⟩; show CW _ _ _ _ [(32, .int .i64 (k : Nat)), (2, _), (3, _), (30, _), (31, _)] _
      try dsimp only at hk
      try dsimp only at hb2
      try dsimp only at hb3
      try dsimp only at hrp
      try dsimp only at his
      have hE77 := Evo.refl (X ++ [b2, b3]) wr75; refine cw_seq ?_; refine cw_region ?_; refine wl_val rfl (ex_lss rfl rfl) ?_; refine wl_nil (nrm_then ?_); refine cw_seq ?_; refine cw_if rfl (fun hc33 => ?_) (fun hc33 => ?_)
      ·skip
       have hez := kids_le (t := t) (by omega)
       have hj' : k < t.kids.length := by omega
       obtain ⟨b1, o1, vs1, ha1, hb1, hvl1, hc1, hrk⟩ := e1 k hj'; obtain ⟨m1, ra1, rc1, ka1, kc1, rfl, rfl, -⟩ := id hrk.get; have hek := eszs_le hj'
       have hkk : t.kids[k].esz ≤ 9999 := by omega
       have hpl := his.len; have hps := his.size; refine cw_skip (nrm_then ?_); refine cw_seq ?_; refine cw_block ?_; refine cw_seq ?_; refine cw_region ?_
       refine wl_val rfl (ex_indexAddr (n := k) (by rw [ha1]; rfl) rfl Tryz.elem23 (by omega)) ?_
       refine wl_val rfl (ex_loadA rfl Tryz.agg25 Tryz.size25 (vs := [_, _, _, _, _, _, _, _, _]) rfl (hc1.evo hV76 (by simp))) ?_; refine wl_alloc rfl Tryz.zero25 fun b78 w79 hB80 hs81 hw82 => ?_; have hA83 := Apart.new (Lt.blk hb2) hs81; have hA84 := Apart.new (Lt.blk hb3) hs81; have hG85 := Ge.new hV76 hs81; have hG86 := Ge.new hE77 hs81; have hE87 := hV76.then hw82; have hE88 := hE77.then hw82; have hB89 := hw82.blk0 hb2; have hB90 := hw82.blk0 hb3; refine wl_storeBlk rfl rfl Tryz.size25 hB80 rfl rfl ⟨by first | rfl | assumption, by first | rfl | assumption, by first | rfl | assumption, by first | rfl | assumption, by first | rfl | assumption, by first | rfl | assumption, by first | rfl | assumption, by first | rfl | assumption, by first | rfl | assumption, trivial⟩ fun w91 hB92 hw93 => ?_; have hE94 := hE87.step hw93 hG85.mem1; have hE95 := hE88.step hw93 hG86.mem1; have hB96 := hw93.blk hB89 hA83.nmem1; have hB97 := hw93.blk hB90 hA84.nmem1
       try simp only [List.setIfInBounds_toArray, List.set_cons_zero, List.set_cons_succ, Nat.reduceAdd, Nat.zero_add, Nat.add_zero] at hB92
       refine wl_nil (nrm_then ?_); refine cw_any (fun w0 w' => Evo [] w0 w') (by kernel_rfl) (fun w98 hw99 => ?_); have hE100 := hE94.then hw99; have hE101 := hE95.then hw99; have hB102 := hw99.blk0 hB96; have hB103 := hw99.blk0 hB97; have hB104 := hw99.blk0 hB92; refine ae_take 0 rfl (by kernel_rfl) (by kernel_rfl) (by kernel_rfl) rfl (fun _ hS => ex_loadBlk rfl Tryz.agg69 Tryz.size69 (hS.blk0 hB103) rfl) (Evo.refl [] w98) ?_; refine ae_take 1 rfl (by kernel_rfl) (by kernel_rfl) (by kernel_rfl) rfl (fun _ hS => ex_loadBlk rfl Tryz.agg25 Tryz.size25 (hS.blk0 hB104) rfl) (Evo.refl [] w98) ?_; refine ae_loud [2] (by kernel_rfl) rfl ⟨?_, trivial⟩; refine a_step rfl ?_; refine wl_call1 (vs := [_]) Tryz.goes36 rfl (ih (X := []) (fun b hb => by cases hb) (RRx.pers _ _ _ _ _ _ (hE100.mono (fun b hb => by cases hb)) hrk) (hg.kid _ (List.getElem_mem hj')) (nolook_kid hno _ (List.getElem_mem hj')) hkk) rfl ?_; rintro kv w105 ⟨kl, hkR, hkI, hw106⟩; have hE107 := hE100.then hw106; have hE108 := hE101.then hw106; have hE109 := (Evo.refl [] w98).then hw106; have hB110 := hw106.blk0 hB102; have hB111 := hw106.blk0 hB103; have hB112 := hw106.blk0 hB104; refine wl_nil (ae_next (.inl hE109) ?_); refine ae_loud [3] (by kernel_rfl) rfl ⟨?_, trivial⟩; refine a_step rfl ?_
       refine wl_call1 (vs := [_, _]) Tryz.goes75 rfl (then_ok (X := X ++ [b2, b3]) (mem_x2 hX hE107 (blk_lt hB110) (blk_lt hB111)) ((hrp.evo hE108).nil) (hkR.evo (Evo.refl [] w105)) hpl hkI.len (fun u hu => by have := hps u hu; have := eszs_tk t.kids k; omega) (fun u hu => by have := hkI.size u hu; omega)) rfl ?_
       rintro rv w113 ⟨hR, hw114⟩; have hE115 := hE107.then hw114; have hE116 := hE108.then hw114; have hE117 := hE109.then hw114; have hE118 := (Evo.refl [] w105).then hw114; have hB119 := hw114.blk0 hB110; have hB120 := hw114.blk0 hB111; have hB121 := hw114.blk0 hB112; obtain ⟨ra, rn, rc, rfl, hrr⟩ := hR.get; refine wl_nil (ae_next (.inl hE117) ?_); refine ae_loud [4] (by kernel_rfl) rfl ⟨?_, trivial⟩; refine a_step rfl ?_; refine wl_storeBlk rfl rfl Tryz.size69 hB120 rfl rfl ⟨by first | rfl | assumption, by first | rfl | assumption, trivial⟩ fun w122 hB123 hw124 => ?_; have hE125 := hE115.step hw124 hG62.mem1
       have hE126 := hE116.step hw124 (fun y hy => .inl (by rw [List.mem_singleton.1 hy]; simp))
       have hE129 := (Evo.refl (X ++ [b2, b3]) w113).step hw124 (fun y hy => .inl (by rw [List.mem_singleton.1 hy]; simp))
       have hB130 := hw124.blk hB119 hA61.nmem1; have hB131 := hw124.blk hB121 hA84.symm.nmem1
       try simp only [List.setIfInBounds_toArray, List.set_cons_zero, List.set_cons_succ, Nat.reduceAdd, Nat.zero_add, Nat.add_zero] at hB123
       refine wl_nil (ae_next (.inr (by kernel_rfl)) ?_); refine ae_done (by kernel_rfl) (nrm_block (nrm_then ?_)); refine cw_region ?_; refine wl_val rfl (ex_add_i64 rfl rfl (by omega) (by omega)) ?_; refine wl_m ?_; refine wl_nil (nrm_same ?_); refine ⟨⟨k + 1, ra, rn, rc, lthen p kl⟩, ?_, ⟨rfl, trivial⟩, ⟨rfl, rfl, rfl, rfl, trivial⟩, hE125, ?_⟩
       · (try dsimp only); omega
       ·skip
        try dsimp only
        exact ⟨by show k + 1 ≤ _; omega, hB130, hB123, hR.evo hE129, lis_cat_step hj' his hkI⟩
      ·skip
       refine cw_exit (ex_then (ex_then (ex_here (nrm_then ?_)))); refine cw_seq ?_; refine cw_region ?_; refine wl_val rfl (ex_loadBlk rfl Tryz.agg69 Tryz.size69 hb3 rfl) ?_; refine wl_storeBlk rfl rfl Tryz.size69 hb2 rfl rfl ⟨by first | rfl | assumption, by first | rfl | assumption, trivial⟩ fun w132 hB133 hw134 => ?_; have hE135 := hV76.step hw134 hG13.mem1
       have hE136 := hE77.step hw134 (fun y hy => .inl (by rw [List.mem_singleton.1 hy]; simp))
       have hB137 := hw134.blk hb3 hA61.symm.nmem1
       try simp only [List.setIfInBounds_toArray, List.set_cons_zero, List.set_cons_succ, Nat.reduceAdd, Nat.zero_add, Nat.add_zero] at hB133
       refine wl_nil (nrm_then ?_); refine cw_ret (ret_block (ret_then (body_retC1 rfl (ResOk.cellA rfl Tryz.agg69 Tryz.size69 hB133 rfl) ?_))); refine ⟨p, ?_, lis_cat (by omega) (by omega) his, hE135⟩; exact (hrp.evo hE136).left
     ·skip
      exfalso; omega
    ·skip
     refine cw_region ?_; refine wl_val rfl (ex_eql rfl rfl) ?_; refine wl_a ?_; refine wl_nil (nrm_then ?_); refine cw_if rfl (fun hc25 => ?_) (fun hc25 => ?_)
     ·skip
      refine cw_seq ?_; refine cw_region ?_; refine wl_call1 (vs := [_]) Tryz.goes74 rfl (one_ok (X := X ++ [b2]) (mem_x1 hX hE14 (blk_lt hB9)) nob) rfl ?_; rintro rv w138 ⟨hR, hw139⟩; have hE140 := hE14.then hw139; have hB141 := hw139.blk0 hB15; have hB142 := hw139.blk0 hB9; obtain ⟨ra, rn, rc, rfl, hrr⟩ := hR.get; refine wl_alloc rfl Tryz.zero69 fun b3 w143 hB144 hs145 hw146 => ?_; have hsz_b3 := hs145; have hA147 := Apart.new (Lt.blk hB141) hs145; have hA148 := Apart.new (Lt.blk hB142) hs145; have hG149 := Ge.new hE140 hs145; have hG150 := Ge.new (Evo.refl [] w138) hs145; have hE151 := hE140.then hw146; have hE152 := (Evo.refl [] w138).then hw146; have hB153 := hw146.blk0 hB141; have hB154 := hw146.blk0 hB142
      have hR1 : RLv (X ++ [b2, b3]) w143 _ _ := (hR.fresh (fun y hy => by rcases List.mem_append.1 hy with h | h; exact .inl (List.mem_append_left _ h); simp at h; rcases h with rfl | rfl; exact .inl (by simp); exact .inr (hG150 _ rfl))).evo ((hE152).any _)
      refine wl_storeBlk rfl rfl Tryz.size69 hB144 rfl rfl ⟨by first | rfl | assumption, by first | rfl | assumption, trivial⟩ fun w155 hB156 hw157 => ?_; have hE158 := hE151.step hw157 hG149.mem1
      have hE159 := (Evo.refl (X ++ [b2, b3]) w143).step hw157 (fun y hy => .inl (by rw [List.mem_singleton.1 hy]; simp))
      have hB160 := hw157.blk hB153 hA147.nmem1; have hB161 := hw157.blk hB154 hA148.nmem1
      try simp only [List.setIfInBounds_toArray, List.set_cons_zero, List.set_cons_succ, Nat.reduceAdd, Nat.zero_add, Nat.add_zero] at hB156
      refine wl_nil (nrm_then ?_); refine cw_seq ?_; refine cw_seq ?_; refine cw_region ?_; refine wl_val rfl (ex_fieldAddr rfl Tryz.fld25_8) ?_; refine wl_val rfl (ex_load1 rfl Tryz.agg23 (cell_nth hB160 rfl)) ?_; refine wl_val rfl (ex_len_slice rfl Tryz.underlying23 rfl) ?_; refine wl_m ?_; refine wl_nil (nrm_then ?_); refine cw_block ?_; refine cw_loop (α := LgG) (⟨0, ra, rn, rc, lone nob⟩) (fun x => [(32, .int .i64 (x.k : Nat))]) [(2, _), (3, _), (30, _), (31, _)] (fun x wr => Evo [] w wr ∧ (LgI X t Tgs wr b2 b3 x)) (fun x => t.kids.length - x.k) ⟨rfl, trivial⟩ ⟨rfl, rfl, rfl, rfl, trivial⟩ ⟨hE158, ⟨Nat.zero_le _, hB161, hB156, hR1.evo hE159, lis_cat0 t⟩⟩ ?_; rintro ⟨k, pa, pn, pc, p⟩ wr162 ⟨hV163, ⟨hk, hb2, hb3, hrp, his⟩⟩; show CW _ _ _ _ [(32, .int .i64 (k : Nat)), (2, _), (3, _), (30, _), (31, _)] _
      try dsimp only at hk
      try dsimp only at hb2
      try dsimp only at hb3
      try dsimp only at hrp
      try dsimp only at his
      have hE164 := Evo.refl (X ++ [b2, b3]) wr162; refine cw_seq ?_; refine cw_region ?_; refine wl_val rfl (ex_lss rfl rfl) ?_; refine wl_nil (nrm_then ?_); refine cw_seq ?_; refine cw_if rfl (fun hc33 => ?_) (fun hc33 => ?_)
      ·skip
       have hez := kids_le (t := t) (by omega)
       have hj' : k < t.kids.length := by omega
       obtain ⟨b1, o1, vs1, ha1, hb1, hvl1, hc1, hrk⟩ := e1 k hj'; obtain ⟨m1, ra1, rc1, ka1, kc1, rfl, rfl, -⟩ := id hrk.get; have hek := eszs_le hj'
       have hkk : t.kids[k].esz ≤ 9999 := by omega
       have hpl := his.len; have hps := his.size; refine cw_skip (nrm_then ?_); refine cw_seq ?_; refine cw_block ?_; refine cw_seq ?_; refine cw_region ?_
       refine wl_val rfl (ex_indexAddr (n := k) (by rw [ha1]; rfl) rfl Tryz.elem23 (by omega)) ?_
       refine wl_val rfl (ex_loadA rfl Tryz.agg25 Tryz.size25 (vs := [_, _, _, _, _, _, _, _, _]) rfl (hc1.evo hV163 (by simp))) ?_; refine wl_alloc rfl Tryz.zero25 fun b165 w166 hB167 hs168 hw169 => ?_; have hA170 := Apart.new (Lt.blk hb2) hs168; have hA171 := Apart.new (Lt.blk hb3) hs168; have hG172 := Ge.new hV163 hs168; have hG173 := Ge.new hE164 hs168; have hE174 := hV163.then hw169; have hE175 := hE164.then hw169; have hB176 := hw169.blk0 hb2; have hB177 := hw169.blk0 hb3; refine wl_storeBlk rfl rfl Tryz.size25 hB167 rfl rfl ⟨by first | rfl | assumption, by first | rfl | assumption, by first | rfl | assumption, by first | rfl | assumption, by first | rfl | assumption, by first | rfl | assumption, by first | rfl | assumption, by first | rfl | assumption, by first | rfl | assumption, trivial⟩ fun w178 hB179 hw180 => ?_; have hE181 := hE174.step hw180 hG172.mem1; have hE182 := hE175.step hw180 hG173.mem1; have hB183 := hw180.blk hB176 hA170.nmem1; have hB184 := hw180.blk hB177 hA171.nmem1
       try simp only [List.setIfInBounds_toArray, List.set_cons_zero, List.set_cons_succ, Nat.reduceAdd, Nat.zero_add, Nat.add_zero] at hB179
       refine wl_nil (nrm_then ?_); refine cw_any (fun w0 w' => Evo [] w0 w') (by kernel_rfl) (fun w185 hw186 => ?_); have hE187 := hE181.then hw186; have hE188 := hE182.then hw186; have hB189 := hw186.blk0 hB183; have hB190 := hw186.blk0 hB184; have hB191 := hw186.blk0 hB179; refine ae_take 0 rfl (by kernel_rfl) (by kernel_rfl) (by kernel_rfl) rfl (fun _ hS => ex_loadBlk rfl Tryz.agg69 Tryz.size69 (hS.blk0 hB190) rfl) (Evo.refl [] w185) ?_; refine ae_take 1 rfl (by kernel_rfl) (by kernel_rfl) (by kernel_rfl) rfl (fun _ hS => ex_loadBlk rfl Tryz.agg25 Tryz.size25 (hS.blk0 hB191) rfl) (Evo.refl [] w185) ?_; refine ae_loud [2] (by kernel_rfl) rfl ⟨?_, trivial⟩; refine a_step rfl ?_; refine wl_call1 (vs := [_]) Tryz.goes36 rfl (ih (X := []) (fun b hb => by cases hb) (RRx.pers _ _ _ _ _ _ (hE187.mono (fun b hb => by cases hb)) hrk) (hg.kid _ (List.getElem_mem hj')) (nolook_kid hno _ (List.getElem_mem hj')) hkk) rfl ?_; rintro kv w192 ⟨kl, hkR, hkI, hw193⟩; have hE194 := hE187.then hw193; have hE195 := hE188.then hw193; have hE196 := (Evo.refl [] w185).then hw193; have hB197 := hw193.blk0 hB189; have hB198 := hw193.blk0 hB190; have hB199 := hw193.blk0 hB191; refine wl_nil (ae_next (.inl hE196) ?_); refine ae_loud [3] (by kernel_rfl) rfl ⟨?_, trivial⟩; refine a_step rfl ?_
       refine wl_call1 (vs := [_, _]) Tryz.goes75 rfl (then_ok (X := X ++ [b2, b3]) (mem_x2 hX hE194 (blk_lt hB197) (blk_lt hB198)) ((hrp.evo hE195).nil) (hkR.evo (Evo.refl [] w192)) hpl hkI.len (fun u hu => by have := hps u hu; have := eszs_tk t.kids k; omega) (fun u hu => by have := hkI.size u hu; omega)) rfl ?_
       rintro rv w200 ⟨hR, hw201⟩; have hE202 := hE194.then hw201; have hE203 := hE195.then hw201; have hE204 := hE196.then hw201; have hE205 := (Evo.refl [] w192).then hw201; have hB206 := hw201.blk0 hB197; have hB207 := hw201.blk0 hB198; have hB208 := hw201.blk0 hB199; obtain ⟨ra, rn, rc, rfl, hrr⟩ := hR.get; refine wl_nil (ae_next (.inl hE204) ?_); refine ae_loud [4] (by kernel_rfl) rfl ⟨?_, trivial⟩; refine a_step rfl ?_; refine wl_storeBlk rfl rfl Tryz.size69 hB207 rfl rfl ⟨by first | rfl | assumption, by first | rfl | assumption, trivial⟩ fun w209 hB210 hw211 => ?_; have hE212 := hE202.step hw211 hG149.mem1
       have hE213 := hE203.step hw211 (fun y hy => .inl (by rw [List.mem_singleton.1 hy]; simp))
       have hE216 := (Evo.refl (X ++ [b2, b3]) w200).step hw211 (fun y hy => .inl (by rw [List.mem_singleton.1 hy]; simp))
       have hB217 := hw211.blk hB206 hA148.nmem1; have hB218 := hw211.blk hB208 hA171.symm.nmem1
       try simp only [List.setIfInBounds_toArray, List.set_cons_zero, List.set_cons_succ, Nat.reduceAdd, Nat.zero_add, Nat.add_zero] at hB210
       refine wl_nil (ae_next (.inr (by kernel_rfl)) ?_); refine ae_done (by kernel_rfl) (nrm_block (nrm_then ?_)); refine cw_region ?_; refine wl_val rfl (ex_add_i64 rfl rfl (by omega) (by omega)) ?_; refine wl_m ?_; refine wl_nil (nrm_same ?_); refine ⟨⟨k + 1, ra, rn, rc, lthen p kl⟩, ?_, ⟨rfl, trivial⟩, ⟨rfl, rfl, rfl, rfl, trivial⟩, hE212, ?_⟩
       · (try dsimp only); omega
       ·skip
        try dsimp only
        exact ⟨by show k + 1 ≤ _; omega, hB217, hB210, hR.evo hE216, lis_cat_step hj' his hkI⟩
      ·skip
       refine cw_exit (ex_then (ex_then (ex_here (nrm_then ?_)))); refine cw_seq ?_; refine cw_region ?_; refine wl_val rfl (ex_loadBlk rfl Tryz.agg69 Tryz.size69 hb3 rfl) ?_; refine wl_storeBlk rfl rfl Tryz.size69 hb2 rfl rfl ⟨by first | rfl | assumption, by first | rfl | assumption, trivial⟩ fun w219 hB220 hw221 => ?_; have hE222 := hV163.step hw221 hG13.mem1
       have hE223 := hE164.step hw221 (fun y hy => .inl (by rw [List.mem_singleton.1 hy]; simp))
       have hB224 := hw221.blk hb3 hA148.symm.nmem1
       try simp only [List.setIfInBounds_toArray, List.set_cons_zero, List.set_cons_succ, Nat.reduceAdd, Nat.zero_add, Nat.add_zero] at hB220
       refine wl_nil (nrm_then ?_); refine cw_ret (ret_block (ret_then (body_retC1 rfl (ResOk.cellA rfl Tryz.agg69 Tryz.size69 hB220 rfl) ?_))); refine ⟨p, ?_, lis_cat (by omega) (by omega) his, hE222⟩; exact (hrp.evo hE223).left
     ·skip
      refine cw_seq ?_; refine cw_region ?_; refine wl_val rfl (ex_eql rfl rfl) ?_; refine wl_a ?_; refine wl_nil (nrm_then ?_); refine cw_if rfl (fun hc42 => ?_) (fun hc42 => ?_)
      ·skip
       refine cw_seq ?_; refine cw_region ?_; refine wl_alloc rfl Tryz.zero69 fun b6 w225 hB226 hs227 hw228 => ?_; have hsz_b6 := hs227; have hA229 := Apart.new (Lt.blk hB15) hs227; have hA230 := Apart.new (Lt.blk hB9) hs227; have hG231 := Ge.new hE14 hs227; have hE232 := hE14.then hw228; have hB233 := hw228.blk0 hB15; have hB234 := hw228.blk0 hB9; refine wl_nil (nrm_then ?_); refine cw_seq ?_; refine cw_seq ?_; refine cw_region ?_; have hR1 : RLv (X ++ [b2, b6]) w225 _ _ := rlv_none _ _ false; refine wl_val rfl (ex_fieldAddr rfl Tryz.fld25_8) ?_; refine wl_val rfl (ex_load1 rfl Tryz.agg23 (cell_nth hB233 rfl)) ?_; refine wl_val rfl (ex_len_slice rfl Tryz.underlying23 rfl) ?_; refine wl_m ?_; refine wl_nil (nrm_then ?_); refine cw_block ?_; refine cw_loop (α := LgG) (⟨0, none, 0, 0, ([], false)⟩) (fun x => [(47, .int .i64 (x.k : Nat))]) [(2, _), (6, _), (45, _), (46, _)] (fun x wr => Evo [] w wr ∧ (LgI X t TgA wr b2 b6 x)) (fun x => t.kids.length - x.k) ⟨rfl, trivial⟩ ⟨rfl, rfl, rfl, rfl, trivial⟩ ⟨hE232, ⟨Nat.zero_le _, hB234, hB226, hR1, lis_alt0 t⟩⟩ ?_; rintro ⟨k, pa, pn, pc, p⟩ wr235 ⟨hV236, ⟨hk, hb2, hb6, hrp, his⟩⟩; show CW _ _ _ _ [(47, .int .i64 (k : Nat)), (2, _), (6, _), (45, _), (46, _)] _
       try dsimp only at hk
       try dsimp only at hb2
       try dsimp only at hb6
       try dsimp only at hrp
       try dsimp only at his
       have hE237 := Evo.refl (X ++ [b2, b6]) wr235; refine cw_seq ?_; refine cw_region ?_; refine wl_val rfl (ex_lss rfl rfl) ?_; refine wl_nil (nrm_then ?_); refine cw_seq ?_; refine cw_if rfl (fun hc48 => ?_) (fun hc48 => ?_)
       ·skip
        have hez := kids_le5 (t := t) (by omega) (hn.two (by omega) |> Int.ofNat_le.1)
        have hj' : k < t.kids.length := by omega
        obtain ⟨b1, o1, vs1, ha1, hb1, hvl1, hc1, hrk⟩ := e1 k hj'; obtain ⟨m1, ra1, rc1, ka1, kc1, rfl, rfl, -⟩ := id hrk.get; have hek := eszs_le hj'
        have hkk : t.kids[k].esz ≤ 9999 := by omega
        have hpl := his.len; have hps := his.size; refine cw_skip (nrm_then ?_); refine cw_seq ?_; refine cw_block ?_; refine cw_seq ?_; refine cw_region ?_
        refine wl_val rfl (ex_indexAddr (n := k) (by rw [ha1]; rfl) rfl Tryz.elem23 (by omega)) ?_
        refine wl_val rfl (ex_loadA rfl Tryz.agg25 Tryz.size25 (vs := [_, _, _, _, _, _, _, _, _]) rfl (hc1.evo hV236 (by simp))) ?_; refine wl_alloc rfl Tryz.zero25 fun b238 w239 hB240 hs241 hw242 => ?_; have hA243 := Apart.new (Lt.blk hb2) hs241; have hA244 := Apart.new (Lt.blk hb6) hs241; have hG245 := Ge.new hV236 hs241; have hG246 := Ge.new hE237 hs241; have hE247 := hV236.then hw242; have hE248 := hE237.then hw242; have hB249 := hw242.blk0 hb2; have hB250 := hw242.blk0 hb6; refine wl_storeBlk rfl rfl Tryz.size25 hB240 rfl rfl ⟨by first | rfl | assumption, by first | rfl | assumption, by first | rfl | assumption, by first | rfl | assumption, by first | rfl | assumption, by first | rfl | assumption, by first | rfl | assumption, by first | rfl | assumption, by first | rfl | assumption, trivial⟩ fun w251 hB252 hw253 => ?_; have hE254 := hE247.step hw253 hG245.mem1; have hE255 := hE248.step hw253 hG246.mem1; have hB256 := hw253.blk hB249 hA243.nmem1; have hB257 := hw253.blk hB250 hA244.nmem1
        try simp only [List.setIfInBounds_toArray, List.set_cons_zero, List.set_cons_succ, Nat.reduceAdd, Nat.zero_add, Nat.add_zero] at hB252
        refine wl_nil (nrm_then ?_); refine cw_any (fun w0 w' => Evo [] w0 w') (by kernel_rfl) (fun w258 hw259 => ?_); have hE260 := hE254.then hw259; have hE261 := hE255.then hw259; have hB262 := hw259.blk0 hB256; have hB263 := hw259.blk0 hB257; have hB264 := hw259.blk0 hB252; refine ae_take 0 rfl (by kernel_rfl) (by kernel_rfl) (by kernel_rfl) rfl (fun _ hS => ex_loadBlk rfl Tryz.agg69 Tryz.size69 (hS.blk0 hB263) rfl) (Evo.refl [] w258) ?_; refine ae_take 1 rfl (by kernel_rfl) (by kernel_rfl) (by kernel_rfl) rfl (fun _ hS => ex_loadBlk rfl Tryz.agg25 Tryz.size25 (hS.blk0 hB264) rfl) (Evo.refl [] w258) ?_; refine ae_loud [2] (by kernel_rfl) rfl ⟨?_, trivial⟩; refine a_step rfl ?_; refine wl_call1 (vs := [_]) Tryz.goes36 rfl (ih (X := []) (fun b hb => by cases hb) (RRx.pers _ _ _ _ _ _ (hE260.mono (fun b hb => by cases hb)) hrk) (hg.kid _ (List.getElem_mem hj')) (nolook_kid hno _ (List.getElem_mem hj')) hkk) rfl ?_; rintro kv w265 ⟨kl, hkR, hkI, hw266⟩; have hE267 := hE260.then hw266; have hE268 := hE261.then hw266; have hE269 := (Evo.refl [] w258).then hw266; have hB270 := hw266.blk0 hB262; have hB271 := hw266.blk0 hB263; have hB272 := hw266.blk0 hB264; refine wl_nil (ae_next (.inl hE269) ?_); refine ae_loud [3] (by kernel_rfl) rfl ⟨?_, trivial⟩; refine a_step rfl ?_; refine wl_call1 (vs := [_, _]) Tryz.goes76 rfl (or_ok (X := X ++ [b2, b6]) (mem_x2 hX hE267 (blk_lt hB270) (blk_lt hB271)) ((hrp.evo hE268).nil) (hkR.evo (Evo.refl [] w265)) hpl hkI.len) rfl ?_; rintro rv w273 ⟨hR, hw274⟩; have hE275 := hE267.then hw274; have hE276 := hE268.then hw274; have hE277 := hE269.then hw274; have hE278 := (Evo.refl [] w265).then hw274; have hB279 := hw274.blk0 hB270; have hB280 := hw274.blk0 hB271; have hB281 := hw274.blk0 hB272; obtain ⟨ra, rn, rc, rfl, hrr⟩ := hR.get
        refine wl_nil (ae_next (.inl hE277) ?_); refine ae_loud [4] (by kernel_rfl) rfl ⟨?_, trivial⟩; refine a_step rfl ?_; refine wl_storeBlk rfl rfl Tryz.size69 hB280 rfl rfl ⟨by first | rfl | assumption, by first | rfl | assumption, trivial⟩ fun w282 hB283 hw284 => ?_; have hE285 := hE275.step hw284 hG231.mem1
        have hE286 := hE276.step hw284 (fun y hy => .inl (by rw [List.mem_singleton.1 hy]; simp))
        have hE289 := (Evo.refl (X ++ [b2, b6]) w273).step hw284 (fun y hy => .inl (by rw [List.mem_singleton.1 hy]; simp))
        have hB290 := hw284.blk hB279 hA230.nmem1; have hB291 := hw284.blk hB281 hA244.symm.nmem1
        try simp only [List.setIfInBounds_toArray, List.set_cons_zero, List.set_cons_succ, Nat.reduceAdd, Nat.zero_add, Nat.add_zero] at hB283
        refine wl_nil (ae_next (.inr (by kernel_rfl)) ?_); refine ae_done (by kernel_rfl) (nrm_block (nrm_then ?_)); refine cw_region ?_; refine wl_val rfl (ex_add_i64 rfl rfl (by omega) (by omega)) ?_; refine wl_m ?_; refine wl_nil (nrm_same ?_); refine ⟨⟨k + 1, ra, rn, rc, lor p kl⟩, ?_, ⟨rfl, trivial⟩, ⟨rfl, rfl, rfl, rfl, trivial⟩, hE285, ?_⟩
        · (try dsimp only); omega
        ·skip
         try dsimp only
         exact ⟨by show k + 1 ≤ _; omega, hB290, hB283, hR.evo hE289, lis_alt_step hj' his hkI⟩
       ·skip
        refine cw_exit (ex_then (ex_then (ex_here (nrm_then ?_)))); refine cw_seq ?_; refine cw_region ?_; refine wl_val rfl (ex_loadBlk rfl Tryz.agg69 Tryz.size69 hb6 rfl) ?_; refine wl_storeBlk rfl rfl Tryz.size69 hb2 rfl rfl ⟨by first | rfl | assumption, by first | rfl | assumption, trivial⟩ fun w292 hB293 hw294 => ?_; have hE295 := hV236.step hw294 hG13.mem1
        have hE296 := hE237.step hw294 (fun y hy => .inl (by rw [List.mem_singleton.1 hy]; simp))
        have hB297 := hw294.blk hb6 hA230.symm.nmem1
        try simp only [List.setIfInBounds_toArray, List.set_cons_zero, List.set_cons_succ, Nat.reduceAdd, Nat.zero_add, Nat.add_zero] at hB293
        refine wl_nil (nrm_then ?_); refine cw_ret (ret_block (ret_then (body_retC1 rfl (ResOk.cellA rfl Tryz.agg69 Tryz.size69 hB293 rfl) ?_))); refine ⟨p, ?_, lis_alt (by omega) (hn.two (by omega) |> Int.ofNat_le.1) (by omega) his, hE295⟩; exact (hrp.evo hE296).left
      ·skip
       refine cw_seq ?_; refine cw_region ?_; refine wl_val rfl (ex_eql rfl rfl) ?_; refine wl_a ?_; refine wl_nil (nrm_then ?_); refine cw_if rfl (fun hc57 => ?_) (fun hc57 => ?_)
       ·skip
        refine cw_seq ?_; refine cw_seq ?_; refine cw_region ?_; refine wl_val rfl (ex_fieldAddr rfl Tryz.fld25_4) ?_; refine wl_val rfl (ex_load1 rfl Tryz.agg3 (cell_nth hB15 rfl)) ?_; refine wl_val rfl (ex_eql rfl rfl) ?_; refine wl_nil (nrm_then ?_); refine cw_if rfl (fun hc61 => ?_) (fun hc61 => ?_)
        ·skip
         have h61 : t.max = 0 := by omega
         refine cw_seq ?_; refine cw_region ?_; refine wl_call1 (vs := [_]) Tryz.goes74 rfl (one_ok (X := X ++ [b2]) (mem_x1 hX hE14 (blk_lt hB9)) nob) rfl ?_; rintro rv w298 ⟨hR, hw299⟩; have hE300 := hE14.then hw299; have hB301 := hw299.blk0 hB15; have hB302 := hw299.blk0 hB9; obtain ⟨ra, rn, rc, rfl, hrr⟩ := hR.get; refine wl_storeBlk rfl rfl Tryz.size69 hB302 rfl rfl ⟨by first | rfl | assumption, by first | rfl | assumption, trivial⟩ fun w303 hB304 hw305 => ?_; have hE306 := hE300.step hw305 hG13.mem1
         have hE307 := (Evo.refl (X ++ [b2]) w298).step hw305 (fun y hy => .inl (by rw [List.mem_singleton.1 hy]; simp))
         have hB308 := hw305.blk hB301 hA12.nmem1
         try simp only [List.setIfInBounds_toArray, List.set_cons_zero, List.set_cons_succ, Nat.reduceAdd, Nat.zero_add, Nat.add_zero] at hB304
         refine wl_nil (nrm_then ?_); refine cw_ret (ret_then (ret_block (ret_then (body_retC1 rfl (ResOk.cellA rfl Tryz.agg69 Tryz.size69 hB304 rfl) ?_))))
         exact ⟨_, (hR.evo hE307).left, lis_rep0 (by omega) h61 (hn.rep1 (by omega)) (by have := hn.rep3 (by omega); omega), hE306⟩
        ·skip
         have hl1 : t.kids.length = 1 := by have h1 := hn.rep4; omega
         have hj' : 0 < t.kids.length := by omega
         obtain ⟨b1, o1, vs1, ha1, hb1, hvl1, hc1, hrk⟩ := e1 0 hj'; obtain ⟨m1, ra1, rc1, ka1, kc1, rfl, rfl, -⟩ := id hrk.get; have he1 := eszs_one hl1
         have hkz := rep_kid (by omega) (hn.rep1 (by omega)) (by have := hn.rep3 (by omega); omega) (by omega)
         have hkk : t.kids[0].esz ≤ 9999 := by omega
         have h6 := hn.rep1 (by omega); have h62 := hn.rep2 (by omega); have h63 := hn.rep3 (by omega); have hrs := rep_sizes (t := t) (by omega) h6 (by omega) (h := 4 * t.kids[0].esz) (by omega); refine cw_skip (nrm_then ?_); refine cw_seq ?_; refine cw_any (fun w0 w' => Evo [] w0 w') (by kernel_rfl) (fun w309 hw310 => ?_); have hE311 := hE14.then hw310; have hB312 := hw310.blk0 hB15; have hB313 := hw310.blk0 hB9; refine ae_take 0 rfl (by kernel_rfl) (by kernel_rfl) (by kernel_rfl) rfl (fun _ hS => ex_fieldAddr rfl Tryz.fld25_8) (Evo.refl [] w309) ?_; refine ae_take 1 rfl (by kernel_rfl) (by kernel_rfl) (by kernel_rfl) rfl (fun _ hS => ex_load1 rfl Tryz.agg23 (cell_nth (hS.blk0 hB312) rfl)) (Evo.refl [] w309) ?_
         refine ae_take 2 rfl (by kernel_rfl) (by kernel_rfl) (by kernel_rfl) rfl (fun _ hS => ex_indexAddrZ (n := 0) (by rw [ha1]; rfl) rfl rfl Tryz.elem23 (by omega)) (Evo.refl [] w309) ?_
         refine ae_take 3 rfl (by kernel_rfl) (by kernel_rfl) (by kernel_rfl) rfl (fun _ hS => ex_loadA rfl Tryz.agg25 Tryz.size25 (vs := [_, _, _, _, _, _, _, _, _]) rfl (hc1.evo (hE311.then hS) (by simp))) (Evo.refl [] w309) ?_; refine ae_take 5 rfl (by kernel_rfl) (by kernel_rfl) (by kernel_rfl) rfl (fun _ hS => ex_fieldAddr rfl Tryz.fld25_3) (Evo.refl [] w309) ?_; refine ae_take 6 rfl (by kernel_rfl) (by kernel_rfl) (by kernel_rfl) rfl (fun _ hS => ex_load1 rfl Tryz.agg3 (cell_nth (hS.blk0 hB312) rfl)) (Evo.refl [] w309) ?_; refine ae_take 7 rfl (by kernel_rfl) (by kernel_rfl) (by kernel_rfl) rfl (fun _ hS => ex_fieldAddr rfl Tryz.fld25_4) (Evo.refl [] w309) ?_; refine ae_take 8 rfl (by kernel_rfl) (by kernel_rfl) (by kernel_rfl) rfl (fun _ hS => ex_load1 rfl Tryz.agg3 (cell_nth (hS.blk0 hB312) rfl)) (Evo.refl [] w309) ?_; refine ae_loud [4] (by kernel_rfl) rfl ⟨?_, trivial⟩; refine a_step rfl ?_; refine wl_call1 (vs := [_]) Tryz.goes36 rfl (ih (X := X ++ [b2]) (mem_x1 hX hE311 (blk_lt hB313)) (RRx.pers _ _ _ _ _ _ (hE311.mono (fun b hb => by cases hb)) hrk) (hg.kid _ (List.getElem_mem hj')) (nolook_kid hno _ (List.getElem_mem hj')) hkk) rfl ?_; rintro kv w314 ⟨kl, hkR, hkI, hw315⟩; have hE316 := hE311.then hw315; have hE317 := (Evo.refl [] w309).then hw315; have hB318 := hw315.blk0 hB312; have hB319 := hw315.blk0 hB313; refine wl_nil (ae_next (.inl hE317) ?_); refine ae_loud [9] (by kernel_rfl) rfl ⟨?_, trivial⟩; refine a_step rfl ?_; refine wl_call1 (vs := [_, _, _]) Tryz.goes77 rfl (rep_ok (X := X ++ [b2]) (mem_x1 hX hE316 (blk_lt hB319)) (hkR.evo (((Evo.refl [] w314)).any _)) hkI h6 h62 (by omega) (by omega) (by omega) (by omega)) rfl ?_; rintro rv w320 ⟨hR, hw321⟩; have hE322 := hE316.then hw321; have hE323 := hE317.then hw321
         have hE324 := (Evo.refl [] w314).then hw321; have hB325 := hw321.blk0 hB318; have hB326 := hw321.blk0 hB319; obtain ⟨ra, rn, rc, rfl, hrr⟩ := hR.get; refine wl_nil (ae_next (.inl hE323) ?_); refine ae_loud [10] (by kernel_rfl) rfl ⟨?_, trivial⟩; refine a_step rfl ?_; refine wl_storeBlk rfl rfl Tryz.size69 hB326 rfl rfl ⟨by first | rfl | assumption, by first | rfl | assumption, trivial⟩ fun w327 hB328 hw329 => ?_; have hE330 := hE322.step hw329 hG13.mem1
         have hE333 := (Evo.refl (X ++ [b2]) w320).step hw329 (fun y hy => .inl (by rw [List.mem_singleton.1 hy]; simp))
         have hB334 := hw329.blk hB325 hA12.nmem1
         try simp only [List.setIfInBounds_toArray, List.set_cons_zero, List.set_cons_succ, Nat.reduceAdd, Nat.zero_add, Nat.add_zero] at hB328
         refine wl_nil (ae_next (.inr (by kernel_rfl)) ?_); refine ae_done (by kernel_rfl) (nrm_then ?_); refine cw_ret (ret_block (ret_then (body_retC1 rfl (ResOk.cellA rfl Tryz.agg69 Tryz.size69 hB328 rfl) ?_))); exact ⟨_, (hR.evo hE333).left, lis_rep (by omega) h6 (by omega) hl1 (by omega) hkI, hE330⟩
       ·skip
        refine cw_skip (nrm_block (nrm_then ?_)); refine cw_seq ?_; refine cw_region ?_; refine wl_call1 (vs := [_]) Tryz.goes74 rfl (one_ok (X := X ++ [b2]) (mem_x1 hX hE14 (blk_lt hB9)) nob) rfl ?_; rintro rv w335 ⟨hR, hw336⟩; have hE337 := hE14.then hw336; have hB338 := hw336.blk0 hB15; have hB339 := hw336.blk0 hB9; obtain ⟨ra, rn, rc, rfl, hrr⟩ := hR.get; refine wl_storeBlk rfl rfl Tryz.size69 hB339 rfl rfl ⟨by first | rfl | assumption, by first | rfl | assumption, trivial⟩ fun w340 hB341 hw342 => ?_; have hE343 := hE337.step hw342 hG13.mem1
        have hE344 := (Evo.refl (X ++ [b2]) w335).step hw342 (fun y hy => .inl (by rw [List.mem_singleton.1 hy]; simp))
        have hB345 := hw342.blk hB338 hA12.nmem1
        try simp only [List.setIfInBounds_toArray, List.set_cons_zero, List.set_cons_succ, Nat.reduceAdd, Nat.zero_add, Nat.add_zero] at hB341
        refine wl_nil (nrm_then ?_); refine cw_ret (body_retC1 rfl (ResOk.cellA rfl Tryz.agg69 Tryz.size69 hB341 rfl) ?_)
        exact ⟨_, (hR.evo hE344).left, lis_eps (by have := hn.kind1; omega), hE343⟩
theorem lang_ok : ∀ {n : Nat} {X Y : List Nat} {w : World} {vs : List Value} {t : Rx} (hX : ∀ b, b ∈ X → b < w.heap.size) (hx : RRx n Y w vs t) (hg : Good t) (hno : NoLook t) (hl : t.esz ≤ 9999), Calls Tryz.prog 36 #[.agg vs.toArray] w (Ret fun r w' => ∃ l, RLv X w' r l ∧ LIs l (4 * t.esz) (Tg t) ∧ Evo [] w w')
  | 0, X, Y, w, vs, t, hX, hx, hg, hno, hl => hx.elim
  | n + 1, X, Y, w, vs, t, hX, hx, hg, hno, hl => lang_step (n := n) (fun hX hx hg hno hl => lang_ok hX hx hg hno hl) hX hx hg hno hl
end Go.Proofs.YtgnpldackjbdjaaGreat
namespace Go.Proofs.YtgnpldackjbdjaaGreat
open Go.Proofs
open Go.W Go.RowKit
attribute [local irreducible] Decidable.decide
set_option linter.unusedSimpArgs false
set_option linter.unusedVariables false
theorem Tryz.goes35 : Goes Tryz.prog 35 := ⟨_, Tryz.func35, by kernel_rfl, by kernel_rfl⟩
theorem Tryz.goes72 : Goes Tryz.prog 72 := ⟨_, Tryz.func72, by kernel_rfl, by kernel_rfl⟩
theorem Tryz.goes119 : Goes Tryz.prog 119 := ⟨_, Tryz.func119, by kernel_rfl, by kernel_rfl⟩
structure IdxI (ks : List Rx) (k : Nat) : Prop where
  hk : k ≤ ks.length
  all : ∀ x, x ∈ ks.take k → NoLook x
theorem idxLook_ok {n : Nat} (ih : ∀ {X : List Nat} {w : World} {vs : List Value} {t : Rx} (hx : RRx n X w vs t), Calls Tryz.prog 35 #[.agg vs.toArray] w (Ret fun r w' => r = .bool (tf (¬ NoLook t)) ∧ Evo [] w w')) {X : List Nat} {w : World} {v : Value} {ks : List Rx} (hk : RSl 9 (RRx n) X w v ks) (hl : ks.length ≤ 140737488351232) :
    Calls Tryz.prog 119 #[v, .func (.func 35) #[] #[]] w (Ret fun v w' => ∃ z, v = .int .i64 z ∧ (0 ≤ z ↔ ∃ x, x ∈ ks ∧ ¬ NoLook x) ∧ Evo [] w w') := by
  obtain ⟨ka, kc, rfl, hkc, e1⟩ := hk; refine calls_of_cw (N := 19) Tryz.func119 rfl rfl rfl ?_; refine cw_seq ?_; refine cw_region ?_; refine wl_a ?_; refine wl_nil (nrm_then ?_); refine cw_seq ?_; refine cw_seq ?_; refine cw_region ?_; refine wl_m ?_; refine wl_val rfl (ex_len_slice rfl Tryz.underlying23 rfl) ?_; refine wl_m ?_; refine wl_nil (nrm_then ?_); refine cw_block ?_; refine cw_loop (α := Nat) (0) (fun k => [(8, .int .i64 (k : Nat))]) [(0, _), (1, _), (7, _)] (fun k wr => Evo [] w wr ∧ (IdxI ks k)) (fun k => ks.length - k) ⟨rfl, trivial⟩ ⟨rfl, rfl, rfl, trivial⟩ ⟨Evo.refl _ _, ⟨Nat.zero_le _, fun x hx => by simp at hx⟩⟩ ?_; rintro k wr1 ⟨hV2, ⟨hk, hall⟩⟩; show CW _ _ _ _ [(8, _), (0, _), (1, _), (7, _)] _; have hE3 := (Evo.refl [] w).then hV2; refine cw_seq ?_; refine cw_region ?_; refine wl_val rfl (ex_lss rfl rfl) ?_; refine wl_nil (nrm_then ?_); refine cw_seq ?_; refine cw_if rfl (fun hc9 => ?_) (fun hc9 => ?_)
  ·skip
   have hk' : k < ks.length := by omega
   obtain ⟨b1, o1, vs1, ha1, hb1, hvl1, hc1, hrk⟩ := e1 k hk'; have hrk0 := hrk
   obtain ⟨p0, p1, p2, p3, p4, p5, p6, p7, p8, rfl⟩ : ∃ p0 p1 p2 p3 p4 p5 p6 p7 p8, vs1 = [p0, p1, p2, p3, p4, p5, p6, p7, p8] := by obtain ⟨m1, ra1, rc1, ka1, kc1, _, rfl, -⟩ := id hrk.get; exact ⟨_, _, _, _, _, _, _, _, _, rfl⟩
   refine cw_skip (nrm_then ?_); refine cw_seq ?_; refine cw_block ?_; refine cw_seq ?_; refine cw_region ?_; refine wl_m ?_; refine wl_a ?_; refine wl_nil (nrm_then ?_); refine cw_seq ?_; refine cw_region ?_; refine wl_m ?_; refine wl_m ?_; refine wl_m ?_
   refine wl_val rfl (ex_indexAddr (n := k) (by rw [ha1]; rfl) rfl Tryz.elem23 (by omega)) ?_
   refine wl_val rfl (ex_loadA rfl Tryz.agg25 Tryz.size25 (vs := [_, _, _, _, _, _, _, _, _]) rfl (hc1.evo hE3 (by simp))) ?_; refine wl_callv1 (vs := [_]) Tryz.goes35 rfl rfl (ih (RRx.pers _ _ _ _ _ _ ((hE3).any X) hrk0)) rfl ?_; rintro _ w4 ⟨rfl, hw5⟩; have hE6 := hE3.then hw5; have hE7 := hV2.then hw5; refine wl_nil (nrm_then ?_); refine cw_ifb rfl (fun hc16 => ?_) (fun hc16 => ?_)
   ·skip
    refine cw_seq ?_; refine cw_region ?_; refine wl_m ?_; refine wl_a ?_; refine wl_nil (nrm_then ?_); refine cw_ret (ret_block (ret_then (ret_then (ret_block (ret_then (body_ret1 rfl rfl ?_)))))); exact ⟨_, rfl, ⟨fun _ => ⟨ks[k], List.getElem_mem hk', tf_iff.1 hc16⟩, fun _ => by omega⟩, hE6⟩
   ·skip
    refine cw_skip (nrm_block (nrm_then ?_)); refine cw_region ?_; refine wl_val rfl (ex_add_i64 rfl rfl (by omega) (by omega)) ?_; refine wl_m ?_; refine wl_nil (nrm_same ?_); refine ⟨k + 1, ?_, ⟨rfl, trivial⟩, ⟨rfl, rfl, rfl, trivial⟩, hE7, ?_⟩
    · omega
    ·skip
     refine ⟨by omega, fun x hx => ?_⟩; rw [take_snoc hk'] at hx
     rcases List.mem_append.1 hx with h | h
     · exact hall x h
     · rw [List.mem_singleton.1 h]; exact Classical.not_not.1 (tf_no.1 hc16)
  ·skip
   refine cw_exit (ex_then (ex_then (ex_here (nrm_then ?_)))); refine cw_seq ?_; refine cw_region ?_; refine wl_a ?_; refine wl_nil (nrm_then ?_); refine cw_ret (body_ret1 rfl rfl ?_)
   exact ⟨_, rfl, ⟨fun h => by omega, fun ⟨x, h1, h2⟩ => (h2 (hall x (by rw [List.take_of_length_le (by omega)]; exact h1))).elim⟩, hE3⟩
theorem contLook_ok {n : Nat} (ih : ∀ {X : List Nat} {w : World} {vs : List Value} {t : Rx} (hx : RRx n X w vs t), Calls Tryz.prog 35 #[.agg vs.toArray] w (Ret fun r w' => r = .bool (tf (¬ NoLook t)) ∧ Evo [] w w')) {X : List Nat} {w : World} {v : Value} {ks : List Rx} (hk : RSl 9 (RRx n) X w v ks) (hl : ks.length ≤ 140737488351232) :
    Calls Tryz.prog 72 #[v, .func (.func 35) #[] #[]] w (Ret fun v w' => v = .bool (tf (∃ x, x ∈ ks ∧ ¬ NoLook x)) ∧ Evo [] w w') := by
  refine calls_of_cw (N := 9) Tryz.func72 rfl rfl rfl ?_; refine cw_seq ?_; refine cw_region ?_; refine wl_a ?_; refine wl_nil (nrm_then ?_); refine cw_seq ?_; refine cw_region ?_; refine wl_m ?_; refine wl_m ?_; refine wl_call1 (vs := [_, _]) Tryz.goes119 rfl (idxLook_ok ih (RSl.evo (RRx.pers n) (((Evo.refl [] w)).any X) hk) hl) rfl ?_; rintro _ w1 ⟨z, rfl, hz, hw2⟩; have hE3 := (Evo.refl [] w).then hw2; refine wl_val rfl (ex_geq rfl rfl) ?_; refine wl_a ?_; refine wl_nil (nrm_then ?_); refine cw_ret (body_ret1 rfl rfl ?_); refine ⟨congrArg Value.bool ?_, hE3⟩
  rw [Bool.eq_iff_iff, tf_iff, decide_eq_true_eq]; exact hz
theorem looks_step {n : Nat} (ih : ∀ {X : List Nat} {w : World} {vs : List Value} {t : Rx} (hx : RRx n X w vs t), Calls Tryz.prog 35 #[.agg vs.toArray] w (Ret fun r w' => r = .bool (tf (¬ NoLook t)) ∧ Evo [] w w')) {X : List Nat} {w : World} {vs : List Value} {t : Rx} (hx : RRx (n + 1) X w vs t) : Calls Tryz.prog 35 #[.agg vs.toArray] w (Ret fun r w' => r = .bool (tf (¬ NoLook t)) ∧ Evo [] w w') := by
  have hx0 := hx; obtain ⟨m, ra, rc, ka, kc, hm, rfl, hrg, hk, bl1, bl2, bl3⟩ := hx.get
  obtain rfl : m = n := by omega
  refine calls_of_cw (N := 11) Tryz.func35 rfl rfl rfl ?_; refine cw_seq ?_; refine cw_region ?_; refine wl_boxA rfl rfl fun b1 w2 hB3 hs4 hw5 => ?_; have hG6 := Ge.new (Evo.refl [] w) hs4; have hE7 := (Evo.refl [] w).then hw5; refine wl_a ?_; refine wl_nil (nrm_then ?_); refine cw_seq ?_; refine cw_region ?_; refine wl_val rfl (ex_fieldAddr rfl Tryz.fld25_0) ?_; refine wl_val rfl (ex_load1 rfl Tryz.agg3 (cell_nth hB3 rfl)) ?_; refine wl_val rfl (ex_geq rfl rfl) ?_; refine wl_m ?_; refine wl_split (t := 6) rfl (fun hs6 => ?_) (fun hs6 => ?_)
  ·skip
   refine wl_n ?_; refine wl_n ?_; refine wl_n ?_; refine wl_pt ?_; refine wl_a ?_; refine wl_nil (nrm_then ?_); refine cw_ret (body_ret1 rfl rfl ?_)
   refine ⟨congrArg Value.bool (tf_iff.2 (fun h => by have := nolook_kind h; omega)).symm, hE7⟩
  ·skip
   refine wl_g ?_; refine wl_val rfl (ex_fieldAddr rfl Tryz.fld25_8) ?_; refine wl_g ?_; refine wl_val rfl (ex_load1 rfl Tryz.agg23 (cell_nth hB3 rfl)) ?_; refine wl_g ?_; refine wl_call1 (vs := [_, _]) Tryz.goes72 rfl (contLook_ok ih (RSl.evo (RRx.pers m) ((hE7).any X) hk) bl3) rfl ?_; rintro _ w8 ⟨rfl, hw9⟩; have hE10 := hE7.then hw9; have hB11 := hw9.blk0 hB3; refine wl_pf ?_; refine wl_a ?_; refine wl_nil (nrm_then ?_); refine cw_ret (body_ret1 rfl rfl ?_); refine ⟨congrArg Value.bool (tf_congr ?_), hE10⟩; constructor
   · rintro ⟨x, h1, h2⟩ h; exact h2 (nolook_kid h x h1)
   · intro h; exact Classical.byContradiction fun h1 => h (nolook_of (by omega) (fun x hx => Classical.not_not.1 fun h2 => h1 ⟨x, hx, h2⟩))
theorem looks_ok : ∀ {n : Nat} {X : List Nat} {w : World} {vs : List Value} {t : Rx} (hx : RRx n X w vs t), Calls Tryz.prog 35 #[.agg vs.toArray] w (Ret fun r w' => r = .bool (tf (¬ NoLook t)) ∧ Evo [] w w')
  | 0, X, w, vs, t, hx => hx.elim
  | n + 1, X, w, vs, t, hx => looks_step (n := n) (fun hx => looks_ok hx) hx
def WordsIs (X : List Nat) (t : Rx) (w : World) (a : Option Addr) (n c : Nat) (ok : Bool) (l : List ByteArray) : Prop :=
  (ok = false ∧ a = none ∧ n = 0 ∧ c = 0 ∧ l = [] ∧ (t.Ok → t.esz + 1 ≤ 10000 → NoLook t → LIs ([], true) (4 * t.esz) (Tg t))) ∨ (ok = true ∧ t.Ok ∧ t.esz + 1 ≤ 10000 ∧ NoLook t ∧ RSl 1 RTs X w (.slice a n c) l ∧ LIs (l, false) (4 * t.esz) (Tg t))
theorem words_ok {X : List Nat} {n : Nat} {w : World} {vs : List Value} {t : Rx} (hX : ∀ b, b ∈ X → b < w.heap.size) (hx : RRx n [] w vs t) :
    Calls Tryz.prog 8 #[.agg vs.toArray] w (Ret fun v w' => ∃ a k c ok l, v = .tuple #[.slice a k c, .bool ok] ∧ WordsIs X t w' a k c ok l ∧ Evo [] w w') := by
  have hx0 := hx; obtain ⟨m, ra, rc, ka, kc, hm, rfl, hrg, hk, bl1, bl2, bl3⟩ := hx.get; refine calls_of_cw (N := 24) Tryz.func8 rfl rfl rfl ?_; refine cw_seq ?_; refine cw_region ?_; refine wl_boxA rfl rfl fun b1 w2 hB3 hs4 hw5 => ?_; have hG6 := Ge.new (Evo.refl [] w) hs4; have hE7 := (Evo.refl [] w).then hw5; refine wl_a ?_; refine wl_a ?_; refine wl_nil (nrm_then ?_); refine cw_seq ?_; refine cw_seq ?_; refine cw_region ?_; refine wl_val rfl (ex_loadBlk rfl Tryz.agg25 Tryz.size25 hB3 rfl) ?_; refine wl_call1 (vs := [_]) Tryz.goes34 rfl (Size_ok (RRx.pers _ _ _ _ _ _ hE7 hx0)) rfl ?_; rintro _ w8 ⟨sz, rfl, hsz, hw9⟩; have hE10 := hE7.then hw9; have hB11 := hw9.blk0 hB3; refine wl_a ?_; refine wl_nil (nrm_then ?_); refine cw_seq ?_; refine cw_region ?_; refine wl_m ?_; refine wl_val rfl (ex_eql rfl rfl) ?_; refine wl_m ?_; refine wl_split (t := 10) rfl (fun hs10 => ?_) (fun hs10 => ?_)
  ·skip
   refine wl_n ?_; refine wl_n ?_; refine wl_pt ?_; refine wl_m ?_; refine wl_n ?_; refine wl_n ?_; refine wl_pt ?_; refine wl_nil (nrm_then ?_); refine cw_true rfl ?_; refine cw_seq ?_; refine cw_region ?_; refine wl_a ?_; refine wl_a ?_; refine wl_nil (nrm_then ?_); refine cw_ret (ret_then (body_ret2 rfl rfl rfl ?_))
   exact ⟨none, 0, 0, false, [], rfl, .inl ⟨rfl, rfl, rfl, rfl, rfl, fun h1 h2 h3 => by have := hsz.1 h1; omega⟩, hE10⟩
  ·skip
   refine wl_g ?_; refine wl_m ?_; refine wl_g ?_; refine wl_val rfl (ex_gtr rfl rfl) ?_; refine wl_pf ?_; refine wl_m ?_; refine wl_split (t := 14) rfl (fun hs14 => ?_) (fun hs14 => ?_)
   ·skip
    refine wl_n ?_; refine wl_n ?_; refine wl_pt ?_; refine wl_nil (nrm_then ?_); refine cw_true rfl ?_; refine cw_seq ?_; refine cw_region ?_; refine wl_a ?_; refine wl_a ?_; refine wl_nil (nrm_then ?_); refine cw_ret (ret_then (body_ret2 rfl rfl rfl ?_))
    exact ⟨none, 0, 0, false, [], rfl, .inl ⟨rfl, rfl, rfl, rfl, rfl, fun h1 h2 h3 => by have := hsz.1 h1; omega⟩, hE10⟩
   ·skip
    refine wl_g ?_; refine wl_val rfl (ex_loadBlk rfl Tryz.agg25 Tryz.size25 hB11 rfl) ?_; refine wl_g ?_; refine wl_call1 (vs := [_]) Tryz.goes35 rfl (looks_ok (RRx.pers _ _ _ _ _ _ hE10 hx0)) rfl ?_; rintro _ w12 ⟨rfl, hw13⟩; have hE14 := hE10.then hw13; have hB15 := hw13.blk0 hB11; refine wl_pf ?_; refine wl_nil (nrm_then ?_); refine cw_ifb rfl (fun hc17 => ?_) (fun hc17 => ?_)
    ·skip
     refine cw_seq ?_; refine cw_region ?_; refine wl_a ?_; refine wl_a ?_; refine wl_nil (nrm_then ?_); refine cw_ret (ret_then (body_ret2 rfl rfl rfl ?_)); exact ⟨none, 0, 0, false, [], rfl, .inl ⟨rfl, rfl, rfl, rfl, rfl, fun h1 h2 h3 => (tf_iff.1 hc17 h3).elim⟩, hE14⟩
    ·skip
     refine cw_skip (nrm_then ?_); refine cw_seq ?_; refine cw_region ?_
     have hok : t.Ok := Classical.byContradiction fun h => (by have := hsz.2 h; omega)
     have hszE : t.esz + 1 ≤ 10000 := by have := hsz.1 hok; omega
     refine wl_val rfl (ex_loadBlk rfl Tryz.agg25 Tryz.size25 hB15 rfl) ?_; refine wl_call1 (vs := [_]) Tryz.goes36 rfl (lang_ok (X := X) (mem_x0 hX hE14) (RRx.pers _ _ _ _ _ _ hE14 hx0) hok.good (Classical.not_not.1 (tf_no.1 hc17)) (size_lt2 hszE)) rfl ?_; rintro rv w16 ⟨l, hR, hI, hw17⟩; have hE18 := hE14.then hw17; have hB19 := hw17.blk0 hB15; obtain ⟨ra, rn, rc, rfl, hrr⟩ := hR.get; refine wl_alloc rfl Tryz.zero69 fun b5 w20 hB21 hs22 hw23 => ?_; have hsz_b5 := hs22; have hA24 := Apart.new (Lt.blk hB19) hs22; have hG25 := Ge.new hE18 hs22; have hG26 := Ge.new (Evo.refl X w16) hs22; have hE27 := hE18.then hw23; have hE28 := (Evo.refl X w16).then hw23; have hB29 := hw23.blk0 hB19; refine wl_storeBlk rfl rfl Tryz.size69 hB21 rfl rfl ⟨by first | rfl | assumption, by first | rfl | assumption, trivial⟩ fun w30 hB31 hw32 => ?_; have hE33 := hE27.step hw32 hG25.mem1; have hE34 := hE28.step hw32 hG26.mem1; have hB35 := hw32.blk hB29 hA24.nmem1
     try simp only [List.setIfInBounds_toArray, List.set_cons_zero, List.set_cons_succ, Nat.reduceAdd, Nat.zero_add, Nat.add_zero] at hB31
     refine wl_nil (nrm_then ?_); refine cw_seq ?_; refine cw_seq ?_; refine cw_region ?_; refine wl_val rfl (ex_fieldAddr rfl Tryz.fld69_1) ?_; refine wl_val rfl (ex_load1 rfl Tryz.agg4 (cell_nth hB31 rfl)) ?_; refine wl_nil (nrm_then ?_); refine cw_ifb rfl (fun hc21 => ?_) (fun hc21 => ?_)
     ·skip
      refine cw_seq ?_; refine cw_region ?_; refine wl_a ?_; refine wl_a ?_; refine wl_nil (nrm_then ?_); refine cw_ret (ret_then (body_ret2 rfl rfl rfl ?_)); obtain ⟨lw, lm⟩ := l; obtain rfl : lm = true := hc21; have h9 := (hI.lots rfl).1; subst h9; exact ⟨none, 0, 0, false, [], rfl, .inl ⟨rfl, rfl, rfl, rfl, rfl, fun _ _ _ => hI⟩, hE33⟩
     ·skip
      refine cw_skip (nrm_then ?_); refine cw_seq ?_; refine cw_region ?_; refine wl_val rfl (ex_fieldAddr rfl Tryz.fld69_0) ?_; refine wl_val rfl (ex_load1 rfl Tryz.agg26 (cell_nth hB31 rfl)) ?_; refine wl_a ?_; refine wl_a ?_; refine wl_nil (nrm_then ?_); refine cw_ret (body_ret2 rfl rfl rfl ?_); obtain ⟨lw, lm⟩ := l; obtain rfl : lm = false := hc21; exact ⟨ra, rn, rc, true, lw, rfl, .inr ⟨rfl, hok, hszE, Classical.not_not.1 (tf_no.1 hc17), RSl.evo RTs.pers hE34 hrr, hI⟩, hE33⟩
end Go.Proofs.YtgnpldackjbdjaaGreat
namespace Go.Proofs.YtgnpldackjbdjaaGreat
open Go.W Go.RowKit
set_option linter.unusedVariables false
set_option linter.unusedSimpArgs false
def cpre : List Int → List Int → List Int
  | x :: xs, y :: ys => if x = y then x :: cpre xs ys else []
  | _, _ => []
def repH (mn mx : Int) (h : List Int × Bool) : List Int × Bool :=
  if mx = 0 then ([], true) else if mn = 0 then ([], h.2 && decide (h.1 = [])) else if ¬ h.2 = true ∨ h.1 = [] then h else ((List.replicate mn.toNat h.1).flatten, decide (mx = mn))
mutual
def headR : Rx → List Int × Bool
  | .mk k r _ mn mx _ _ _ ks =>
    if k = 2 then (if IsR r then ([r], true) else ([], false))
    else if k = 3 then ([], false)
    else if k = 7 then headK ks
    else if k = 4 then headC ks []
    else if k = 5 then headB ks
    else if k = 6 then repH mn mx (headK ks)
    else ([], true)
def headK : List Rx → List Int × Bool
  | [] => ([], true)
  | x :: _ => headR x
def headC : List Rx → List Int → List Int × Bool
  | [], b => (b, true)
  | x :: xs, b => if (headR x).2 = true then headC xs (b ++ (headR x).1) else (b ++ (headR x).1, false)
def headB : List Rx → List Int × Bool
  | [] => ([], true)
  | x :: xs => headA xs (headR x)
def headA : List Rx → List Int × Bool → List Int × Bool
  | [], h => h
  | x :: xs, h => headA xs (cpre h.1 (headR x).1, h.2 && (headR x).2 && decide (h.1 = (headR x).1))
end
theorem headR_eq (t : Rx) : headR t = if t.kind = 2 then (if IsR t.r then ([t.r], true) else ([], false)) else if t.kind = 3 then ([], false) else if t.kind = 7 then headK t.kids else if t.kind = 4 then headC t.kids []
    else if t.kind = 5 then headB t.kids else if t.kind = 6 then repH t.min t.max (headK t.kids) else ([], true) := by cases t; rw [headR]; rfl
theorem headK_one {l : List Rx} (h : 0 < l.length) : headK l = headR l[0] := by cases l with | nil => cases h | cons x l => rw [headK]; rfl
theorem headB_one {l : List Rx} (h : 0 < l.length) : headB l = headA (l.drop 1) (headR l[0]) := by cases l with | nil => cases h | cons x l => rw [headB]; rfl
theorem headC_drop {l : List Rx} {k : Nat} (h : k < l.length) (b : List Int) : headC (l.drop k) b = if (headR l[k]).2 = true then headC (l.drop (k + 1)) (b ++ (headR l[k]).1) else (b ++ (headR l[k]).1, false) := by
  rw [List.drop_eq_getElem_cons h, headC]
theorem headA_drop {l : List Rx} {k : Nat} (h : k < l.length) (g : List Int × Bool) : headA (l.drop k) g = headA (l.drop (k + 1)) (cpre g.1 (headR l[k]).1, g.2 && (headR l[k]).2 && decide (g.1 = (headR l[k]).1)) := by
  rw [List.drop_eq_getElem_cons h, headA]
theorem headC_end {l : List Rx} {k : Nat} (h : l.length ≤ k) (b : List Int) : headC (l.drop k) b = (b, true) := by
  rw [List.drop_eq_nil_of_le h, headC]
theorem headA_end {l : List Rx} {k : Nat} (h : l.length ≤ k) (g : List Int × Bool) : headA (l.drop k) g = g := by
  rw [List.drop_eq_nil_of_le h, headA]
theorem cpre_mem : ∀ {x y : List Int} {c : Int}, c ∈ cpre x y → c ∈ x
  | [], _, c, h => by rw [cpre] at h; exact h; intros; contradiction
  | a :: x, [], c, h => by rw [cpre] at h; cases h; intros; contradiction
  | a :: x, b :: y, c, h => by
    rw [cpre] at h
    by_cases e : a = b
    · rw [if_pos e] at h
      cases h with
      | head => exact List.mem_cons_self ..
      | tail _ h => exact List.mem_cons_of_mem _ (cpre_mem h)
    · rw [if_neg e] at h; cases h
theorem cpre_len : ∀ (x y : List Int), (cpre x y).length ≤ x.length
  | [], _ => by rw [cpre]; exact Nat.le_refl _; intros; contradiction
  | a :: x, [] => by rw [cpre]; exact Nat.zero_le _; intros; contradiction
  | a :: x, b :: y => by
    rw [cpre]
    have := cpre_len x y
    by_cases e : a = b
    · rw [if_pos e]; simp; omega
    · rw [if_neg e]; exact Nat.zero_le _
theorem cpre_app : ∀ (a x y : List Int), cpre (a ++ x) (a ++ y) = a ++ cpre x y
  | [], x, y => rfl
  | r :: a, x, y => by rw [List.cons_append, List.cons_append, cpre, if_pos rfl, cpre_app a x y]; rfl
theorem vr_cpre {x y : List Int} (h : VR x) : VR (cpre x y) := fun c hc => h c (cpre_mem hc)
theorem vr_apnd {a b : List Int} (h : VR a) (k : VR b) : VR (a ++ b) := fun r hr => (List.mem_append.1 hr).elim (h r) (k r)
theorem vr_nil : VR [] := fun r hr => by cases hr
theorem vr_repl {x : List Int} (h : VR x) (n : Nat) : VR (List.replicate n x).flatten := fun r hr => by
  obtain ⟨l, h1, h2⟩ := List.mem_flatten.1 hr
  rw [(List.mem_replicate.1 h1).2] at h2
  exact h r h2
theorem vr_repH {mn mx : Int} {h : List Int × Bool} (hv : VR h.1) : VR (repH mn mx h).1 := by
  unfold repH
  split
  · exact vr_nil
  split
  · exact vr_nil
  split
  · exact hv
  · exact vr_repl hv _
mutual
theorem headR_vr : ∀ t : Rx, VR (headR t).1
  | .mk k r g mn mx lz cp nm ks => by
    rw [headR]
    have h1 := headK_vr ks
    have h2 := headC_vr ks [] vr_nil
    have h3 := headB_vr ks
    split
    · split
      · rename_i h; exact fun c hc => by rw [List.mem_singleton.1 hc]; exact h
      · exact vr_nil
    split
    · exact vr_nil
    split
    · exact h1
    split
    · exact h2
    split
    · exact h3
    split
    · exact vr_repH h1
    · exact vr_nil
theorem headK_vr : ∀ l : List Rx, VR (headK l).1
  | [] => vr_nil
  | x :: l => by rw [headK]; exact headR_vr x
theorem headC_vr : ∀ (l : List Rx) (b : List Int), VR b → VR (headC l b).1
  | [], b, hb => by rw [headC]; exact hb
  | x :: l, b, hb => by
    rw [headC]
    have h := headR_vr x
    split
    · exact headC_vr l _ (vr_apnd hb h)
    · exact vr_apnd hb h
theorem headB_vr : ∀ l : List Rx, VR (headB l).1
  | [] => vr_nil
  | x :: l => by rw [headB]; exact headA_vr l _ (headR_vr x)
theorem headA_vr : ∀ (l : List Rx) (h : List Int × Bool), VR h.1 → VR (headA l h).1
  | [], h, hh => by rw [headA]; exact hh
  | x :: l, h, hh => by rw [headA]; exact headA_vr l _ (vr_cpre hh)
end
theorem txt_inj {x y : List Int} (hx : VR x) (hy : VR y) (h : txt x = txt y) : x = y := by
  have h1 := utf_txt hx
  have h2 := utf_txt hy
  rw [← h] at h2
  have e := utf_uniq h1.1.2 (.inl h1.1.1) h2.1
  rw [← h1.2, ← h2.2, e]
theorem txt_eq_iff {x y : List Int} (hx : VR x) (hy : VR y) : txt x = txt y ↔ x = y := ⟨txt_inj hx hy, fun h => by rw [h]⟩
theorem txt_nob {x : List Int} (hx : VR x) : txt x = nob ↔ x = [] := by
  have := txt_eq_iff hx vr_nil
  rwa [txt_nil] at this
theorem txt_len (x : List Int) : (txt x).size ≤ 4 * x.length := by
  rw [txt_size]
  induction x with
  | nil => exact Nat.zero_le _
  | cons a x ih =>
    have h := formB_len a
    have e : frm (a :: x) = formB a ++ frm x := by unfold frm; rw [List.flatMap_cons]
    rw [e, List.length_append, List.length_cons]
    omega
theorem txt_repl (x : List Int) : ∀ n, txt (List.replicate n x).flatten = brep (txt x) n
  | 0 => rfl
  | n + 1 => by rw [List.replicate_succ, List.flatten_cons, txt_app, brep_succ, txt_repl x n]
theorem txt_cons (r : Int) (x : List Int) : txt (r :: x) = bstr (formB r) ++ txt x := by
  have e : r :: x = [r] ++ x := rfl
  rw [e, txt_app]
  congr 1
  simp [txt, frm]
theorem app_canc {c a b : ByteArray} (h : c ++ a = c ++ b) : a = b := by
  have h2 := congrArg ByteArray.data h
  rw [ByteArray.data_append, ByteArray.data_append] at h2
  apply ByteArray.ext
  exact Array.append_right_inj _ |>.1 h2
theorem sb_app {a b : ByteArray} {k : Nat} (h : k < a.size) : sb (a ++ b) k = sb a k := by
  have h2 : k < (a ++ b).size := by rw [ByteArray.size_append]; omega
  rw [sb_get _ _ h, sb_get _ _ h2, ByteArray.getElem_append_left]
theorem pre_runes : ∀ {a y : List Int} {z : ByteArray}, VR a → VR y → txt y = txt a ++ z → ∃ y', y = a ++ y'
  | [], y, z, _, _, _ => ⟨y, rfl⟩
  | r :: a, y, z, ha, hy, h => by
    have hr := ha r (List.mem_cons_self ..)
    have hp := formB_pos hr
    have hz : (bstr (formB r)).size = (formB r).length := bstr_size _
    have h1 : txt y = bstr (formB r) ++ (txt a ++ z) := by rw [h, txt_cons]; apply ByteArray.ext; simp
    have hn : nextR (txt y) 0 = (r, (formB r).length) := by
      refine next_form hr (by rw [h1, ByteArray.size_append]; omega) (fun k hk => ?_)
      rw [Nat.zero_add, h1, sb_app (by omega), sb_bstr hk (formB_lt r)]
    cases y with
    | nil =>
      have e := congrArg ByteArray.size h1
      rw [ByteArray.size_append, hz] at e
      have : (txt []).size = 0 := rfl
      omega
    | cons s y =>
      have hs := hy s (List.mem_cons_self ..)
      have h2 := next_txt (p := []) (q := y) hs
      have e0 : nextR (txt (s :: y)) 0 = (s, (formB s).length) := h2
      rw [hn] at e0
      obtain rfl : r = s := congrArg Prod.fst e0
      rw [txt_cons] at h1
      obtain ⟨y', rfl⟩ := pre_runes (fun c hc => ha c (List.mem_cons_of_mem _ hc)) (fun c hc => hy c (List.mem_cons_of_mem _ hc)) (app_canc h1)
      exact ⟨y', rfl⟩
theorem ext_left {a b : ByteArray} : (a ++ b).extract 0 a.size = a := by
  apply ByteArray.ext
  simp
theorem ext_split {s : ByteArray} {e : Nat} (h : e ≤ s.size) : s = s.extract 0 e ++ s.extract e s.size := by
  rw [← ext_app (Nat.zero_le e) h]; exact (ByteArray.extract_zero_size).symm
theorem next_at {p q : List Int} (hq : VR q) : (nextR (txt (p ++ q)) (frm p).length).1 = q.headD (-1) := by
  cases q with
  | nil =>
    rw [List.append_nil, next_out (by rw [txt_size]; exact Nat.le_refl _)]
    rfl
  | cons r q => rw [next_txt (hq r (List.mem_cons_self ..))]; rfl
theorem comm_eq {x y : List Int} (hx : VR x) (hy : VR y) {k e : Nat} (hk : k ≤ x.length) (he : e = offs (txt x) k) (h1 : e ≤ (txt y).size) (h2 : (txt x).extract 0 e = (txt y).extract 0 e)
    (h3 : e = (txt x).size ∨ (nextR (txt y) e).1 ≠ (nextR (txt x) e).1) : (txt x).extract 0 e = txt (cpre x y) := by
  rw [offs_txt hx k hk] at he
  have ex : x = x.take k ++ x.drop k := (List.take_append_drop k x).symm
  have hva : VR (x.take k) := fun c hc => hx c (List.mem_of_mem_take hc)
  have hvd : VR (x.drop k) := fun c hc => hx c (List.mem_of_mem_drop hc)
  have e1 : (txt x).extract 0 e = txt (x.take k) := by
    have e2 : txt x = txt (x.take k) ++ txt (x.drop k) := by rw [← txt_app, List.take_append_drop]
    rw [e2, he, ← txt_size]; exact ext_left
  have e3 : txt y = txt (x.take k) ++ (txt y).extract e (txt y).size := by
    rw [← e1, h2]; exact ext_split h1
  obtain ⟨y', rfl⟩ := pre_runes hva hy e3
  have hvy : VR y' := fun c hc => hy c (List.mem_append_right _ hc)
  have e4 : cpre x (x.take k ++ y') = x.take k ++ cpre (x.drop k) y' := by
    conv => lhs; rw [ex, List.take_append_drop]
    conv => lhs; arg 1; rw [ex]
    exact cpre_app _ _ _
  rw [e1, e4]
  suffices h : cpre (x.drop k) y' = [] by rw [h, List.append_nil]
  have n1 : (nextR (txt x) e).1 = (x.drop k).headD (-1) := by
    have := next_at (p := x.take k) hvd
    rwa [List.take_append_drop, ← he] at this
  have n2 : (nextR (txt (x.take k ++ y')) e).1 = y'.headD (-1) := by rw [he]; exact next_at hvy
  rw [n1, n2] at h3
  rcases h3 with h3 | h3
  · have e5 : (txt x).size = (txt (x.take k)).size + (txt (x.drop k)).size := by
      rw [← ByteArray.size_append, ← txt_app, List.take_append_drop]
    have e6 : (txt (x.take k)).size = e := by rw [txt_size, he]
    have e7 : txt (x.drop k) = nob := ByteArray.size_eq_zero_iff.1 (by omega)
    rw [(txt_nob hvd).1 e7]
    rfl
  · generalize x.drop k = u at h3 ⊢
    match u, y' with
    | [], _ => rfl
    | _ :: _, [] => rfl
    | a :: u, b :: v => rw [cpre, if_neg (fun e => h3 e.symm)]
end Go.Proofs.YtgnpldackjbdjaaGreat
