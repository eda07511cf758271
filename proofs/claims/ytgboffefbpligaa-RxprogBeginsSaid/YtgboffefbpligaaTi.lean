/- The coder: put, turn, Clone. -/
import Derived.Test.YtgboffefbpligaaTe
import Derived.Test.YtgboffefbpligaaPd
import Derived.Test.YtgboffefbpligaaFw10
namespace Go.Proofs.Ytgboffefbpligaa
open Go.Proofs
open Go.W Go.RowKit
attribute [local irreducible] Decidable.decide
set_option linter.unusedSimpArgs false
set_option linter.unusedVariables false
theorem Try.agg41 : aggB Try.prog 41 = some false := by kernel_rfl
theorem Try.agg44 : aggB Try.prog 44 = some true := by kernel_rfl
theorem Try.app22_22 : appB Try.prog 22 22 = some (51, 2, 8) := by kernel_rfl
theorem Try.app41_41 : appB Try.prog 41 41 = some (44, 5, 56) := by kernel_rfl
theorem Try.elem41 : elemB Try.prog 41 = some 5 := by kernel_rfl
theorem Try.fld44_1 : fieldB Try.prog 44 1 = some 1 := by kernel_rfl
theorem Try.fld44_2 : fieldB Try.prog 44 2 = some 2 := by kernel_rfl
theorem Try.size41 : sizeB Try.prog 41 = some 1 := by kernel_rfl
theorem Try.size44 : sizeB Try.prog 44 = some 5 := by kernel_rfl
theorem Try.slice22 : sliceB Try.prog 22 = some (51, 2) := by kernel_rfl
theorem Try.slice41 : sliceB Try.prog 41 = some (44, 5) := by kernel_rfl


/-- A coder's code: the block that holds its slice, the instructions, their ranges, which stay clear of Z. -/
structure CdAt (w : World) (cb : Nat) (es : List Iv) (a : Option Addr) (c : Nat) (ob : Option Nat) (Z : List Nat) : Prop where
  blk : w.heap[cb]? = some (.cells #[.slice a es.length c] 41 (0, 0))
  own : OwnS w 44 5 a es.length c (flat es) ob
  ne : ∀ g, ob = some g → g ≠ cb
  rs : ∀ e, e ∈ es → RSl 2 RRg (cb :: (ob.toList ++ Z)) w e.2 e.1.rs
theorem CdAt.lt {w : World} {cb : Nat} {es : List Iv} {a : Option Addr} {c : Nat} {ob : Option Nat} {Z : List Nat} (h : CdAt w cb es a c ob Z) : ∀ y, y ∈ cb :: ob.toList → y < w.heap.size := fun y hy => by
  rcases List.mem_cons.1 hy with e | e
  · rw [e]; exact blk_lt h.blk
  · have : ob = some y := by simpa using e
    subst this; exact h.own.lt
theorem mem_ob {w : World} {cb : Nat} {ob ob' : Option Nat} (h : ob' = ob ∨ ∃ g, ob' = some g ∧ w.heap.size ≤ g) : ∀ y, y ∈ cb :: ob'.toList → y ∈ cb :: ob.toList ∨ w.heap.size ≤ y := fun y hy => by
  rcases List.mem_cons.1 hy with e | e
  · left; simp [e]
  · have e' : ob' = some y := by simpa using e
    rcases h with rfl | ⟨g, h1, h2⟩
    · left; simp [e']
    · rw [e'] at h1; cases h1; exact .inr h2
theorem mem_obZ {w : World} {cb : Nat} {ob ob' : Option Nat} {Z : List Nat} (h : ob' = ob ∨ ∃ g, ob' = some g ∧ w.heap.size ≤ g) : ∀ y, y ∈ cb :: (ob'.toList ++ Z) → y ∈ cb :: (ob.toList ++ Z) ∨ w.heap.size ≤ y := fun y hy => by
  rw [← List.cons_append] at hy
  rcases List.mem_append.1 hy with e | e
  · exact (mem_ob h y e).imp (fun h => by rw [← List.cons_append]; exact List.mem_append_left _ h) id
  · left; rw [← List.cons_append]; exact List.mem_append_right _ e
theorem fr_trans {X : List Nat} {w w1 : World} {o o1 o2 : Option Nat} (h1 : o1 = o ∨ ∃ g, o1 = some g ∧ w.heap.size ≤ g) (he : Evo X w w1) (h2 : o2 = o1 ∨ ∃ g, o2 = some g ∧ w1.heap.size ≤ g) : o2 = o ∨ ∃ g, o2 = some g ∧ w.heap.size ≤ g := by
  rcases h2 with rfl | ⟨g, h3, h4⟩
  · exact h1
  · exact .inr ⟨g, h3, Nat.le_trans he.size h4⟩
theorem rrg_step {X Y : List Nat} {w w' : World} {v : Value} {l : List (Int × Int)} (h : RSl 2 RRg X w v l) (he : Evo X w w') (hy : ∀ y, y ∈ Y → y ∈ X ∨ w.heap.size ≤ y) : RSl 2 RRg Y w' v l := by
  have h1 : RSl 2 RRg (Y ++ X) w v l := RSl.fresh (by decide) RRg.fresh (fun y hm => by rcases List.mem_append.1 hm with h | h; exact hy y h; exact .inl h) h
  have h2 := RSl.evo RRg.pers (he.mono (fun b hb => by simp [hb])) h1
  obtain ⟨a, c, hv, hc, h3⟩ := h2
  exact ⟨a, c, hv, hc, fun k hk => by obtain ⟨b, o, vs, ha, hb, hl, hcs, hr⟩ := h3 k hk; exact ⟨b, o, vs, ha, fun hm => hb (by simp [hm]), hl, hcs, hr⟩⟩
theorem RRg.one : ∀ X w vs d, RRg X w vs d → ∀ u, u ∈ vs → u.oneCell' = true := fun _ _ _ _ h u hu => by
  subst h; simp at hu; rcases hu with rfl | rfl <;> rfl
theorem modify_two {α : Type} (f g : α → α) (l : List α) (k : Nat) : (l.modify k f).modify k g = l.modify k (fun e => g (f e)) := by
  apply List.ext_getElem?
  intro i
  rw [List.getElem?_modify, List.getElem?_modify, List.getElem?_modify]
  cases l[i]? with
  | none => rfl
  | some v => by_cases e : k = i <;> simp [e]
/-- What came of a coder's code. -/
def CdTo (w w' : World) (cb : Nat) (ob : Option Nat) (es : List Iv) (Z : List Nat) : Prop := ∃ a c ob', CdAt w' cb es a c ob' Z ∧ (ob' = ob ∨ ∃ g, ob' = some g ∧ w.heap.size ≤ g)
theorem CdAt.evo {w w' : World} {cb : Nat} {es : List Iv} {a : Option Addr} {c : Nat} {ob : Option Nat} {Y Z Z' : List Nat} (h : CdAt w cb es a c ob Z) (he : Evo Y w w') (h1 : cb ∉ Y) (h2 : ∀ g, ob = some g → g ∉ Y) (hY : ∀ y, y ∈ Y → y ∈ Z) (hZ : ∀ z, z ∈ Z' → z ∈ Z ∨ w.heap.size ≤ z) : CdAt w' cb es a c ob Z' :=
  ⟨he.blk h.blk h1, h.own.evo he h2, h.ne, fun e hm => rrg_step (h.rs e hm) (he.mono (fun b hb => List.mem_cons_of_mem _ (List.mem_append_right _ (hY b hb)))) (fun y hy => by
    rw [← List.cons_append] at hy
    rcases List.mem_append.1 hy with e | e
    · left; rw [← List.cons_append]; exact List.mem_append_left _ e
    · exact (hZ y e).imp (fun h => by rw [← List.cons_append]; exact List.mem_append_right _ h) id)⟩
theorem CdAt.evo0 {w w' : World} {cb : Nat} {es : List Iv} {a : Option Addr} {c : Nat} {ob : Option Nat} {Z : List Nat} (h : CdAt w cb es a c ob Z) (he : Evo [] w w') : CdAt w' cb es a c ob Z := h.evo he (by simp) (by simp) (by simp) (fun z hz => .inl hz)
theorem rnil0 {α : Type} {sz : Nat} {R : Rel α} {X : List Nat} {w : World} : RSl sz R X w (.slice none 0 0) [] := ⟨none, 0, rfl, by simp, fun k hk => by simp at hk⟩

theorem put_ok {w : World} {cb : Nat} {es : List Iv} {a : Option Addr} {c : Nat} {ob : Option Nat} {op o al arg : Int} {vr : Value} {rs : List (Int × Int)} {Z : List Nat} (hC : CdAt w cb es a c ob Z) (hr : RSl 2 RRg (cb :: (ob.toList ++ Z)) w vr rs) (hl : es.length ≤ 1000000) :
    Calls Try.prog 31 #[.pointer (some ⟨cb, 0, none⟩), .agg #[iv op, iv o, iv al, iv arg, vr]] w (Ret fun v w' => v = iv (es.length : Nat) ∧ Evo (cb :: ob.toList) w w' ∧ CdTo w w' cb ob (es ++ [(⟨op, (es.length : Nat) + 1, al, arg, rs⟩, vr)]) Z) := by
  have hC0 := hC
  obtain ⟨hB, hO, hne, hrs⟩ := hC
  have hAJN : Apart (some cb) ob := fun g h1 h2 => by cases h1; exact hne cb h2 rfl
  have hone := hr.one
  have hmZ : ∀ b, b ∈ cb :: ob.toList → b ∈ cb :: (ob.toList ++ Z) := fun b hb => by rw [← List.cons_append]; exact List.mem_append_left _ hb
  have hcell := hr.cell
  refine calls_of_cw (N := 22) Try.func31 rfl rfl rfl ?_
  refine cw_seq ?_
  refine cw_region ?_
  refine wl_boxA rfl rfl fun b1 w2 hB3 hs4 hw5 => ?_
  have hA6 := Apart.new (Lt.blk hB) hs4
  have hA7 := Apart.new (Lt.own hO) hs4
  have hG8 := Ge.new (Evo.refl (cb :: ob.toList) w) hs4
  have hE9 := (Evo.refl (cb :: ob.toList) w).then hw5
  have hB10 := hw5.blk0 hB
  have hO11 := hO.evo0 hw5
  refine wl_a ?_
  refine wl_nil (nrm_then ?_)
  refine cw_seq ?_
  refine cw_region ?_
  refine wl_m ?_
  refine wl_val rfl (ex_nilCheck rfl) ?_
  refine wl_val rfl (ex_load1 rfl Try.agg41 (cell_nth hB10 rfl)) ?_
  refine wl_val rfl (ex_len_slice rfl Try.underlying41 rfl) ?_
  refine wl_a ?_
  refine wl_nil (nrm_then ?_)
  refine cw_seq ?_
  refine cw_region ?_
  refine wl_m ?_
  refine wl_val rfl (ex_add_i64 rfl rfl (by omega) (by omega)) ?_
  refine wl_val rfl (ex_fieldAddr rfl Try.fld44_1) ?_
  refine wl_store1 rfl rfl (by first | rfl | assumption) Try.size3 hB3 rfl fun w12 hB13 hw14 => ?_
  have hE15 := hE9.step hw14 hG8.mem1
  have hB16 := hw14.blk hB10 hA6.nmem1
  have hO17 := hO11.evo hw14 hA7.own1
  try simp only [List.setIfInBounds_toArray, List.set_cons_zero, List.set_cons_succ, Nat.reduceAdd, Nat.zero_add, Nat.add_zero] at hB13
  refine wl_nil (nrm_then ?_)
  refine cw_seq ?_
  refine cw_any (fun w0 w' => Evo ob.toList w0 w') (by kernel_rfl) (fun w18 hw19 => ?_)
  have hE20 := hE15.then hw19
  have hB21 := hw19.blk0 hB16
  have hO22 := hO17.evo0 hw19
  have hB23 := hw19.blk0 hB13
  refine ae_take 0 rfl (by kernel_rfl) (by kernel_rfl) (by kernel_rfl) rfl (fun _ hS => ex_move rfl) (Evo.refl ob.toList w18) ?_
  refine ae_take 1 rfl (by kernel_rfl) (by kernel_rfl) (by kernel_rfl) rfl (fun _ hS => ex_move rfl) (Evo.refl ob.toList w18) ?_
  refine ae_take 2 rfl (by kernel_rfl) (by kernel_rfl) (by kernel_rfl) rfl (fun _ hS => ex_nilCheck rfl) (Evo.refl ob.toList w18) ?_
  refine ae_take 3 rfl (by kernel_rfl) (by kernel_rfl) (by kernel_rfl) rfl (fun _ hS => ex_load1 rfl Try.agg41 (cell_nth (hS.blk hB21 (hAJN.nmem)) rfl)) (Evo.refl ob.toList w18) ?_
  refine ae_take 4 rfl (by kernel_rfl) (by kernel_rfl) (by kernel_rfl) rfl (fun _ hS => ex_loadBlk rfl Try.agg44 Try.size44 (hS.blk hB23 (hA7.symm.nmem)) rfl) (Evo.refl ob.toList w18) ?_
  refine ae_loud [5] (by kernel_rfl) rfl ⟨?_, trivial⟩
  refine a_step rfl ?_
  refine wl_bslice (vs := [_]) rfl Try.slice41 rfl rfl rfl rfl fun b24 w25 hO26 hs27 hw28 => ?_
  have hA29 := Apart.new (Lt.blk hB21) hs27
  have hA30 := Apart.new (Lt.own hO22) hs27
  have hA31 := Apart.new (Lt.blk hB23) hs27
  have hG32 := Ge.new hE20 hs27
  have hG33 := Ge.new (Evo.refl ob.toList w18) hs27
  have hE34 := hE20.then hw28
  have hE35 := (Evo.refl ob.toList w18).then hw28
  have hB36 := hw28.blk0 hB21
  have hO37 := hO22.evo0 hw28
  have hB38 := hw28.blk0 hB23
  refine wl_nil (ae_next (.inl hE35) ?_)
  refine ae_loud [6] (by kernel_rfl) rfl ⟨?_, trivial⟩
  refine a_step rfl ?_
  have hszg := (hE34).size
  refine wl_append rfl rfl rfl rfl Try.app41_41 hO37 (Src.ofOwn hO26 ⟨by first | rfl | assumption, by first | rfl | assumption, by first | rfl | assumption, by first | rfl | assumption, by first | rfl | assumption, trivial⟩) (by omega) fun a2 c2 w41 ob2 hO2 hw44 hob45 => ?_
  have hA46 := hAJN.app (Lt.blk hB36) hob45
  have hA47 := hA7.symm.app (Lt.blk hB38) hob45
  have hA48 := hA30.symm.app (Lt.own hO26) hob45
  have hE49 := hE34.step hw44 (fun y hy => .inl (List.mem_cons_of_mem _ hy))
  have hE50 := hE35.step hw44 (fun y hy => .inl hy)
  have hB51 := hw44.blk hB36 hAJN.nmem
  have hB52 := hw44.blk hB38 hA7.symm.nmem
  have hO53 := hO26.evo hw44 hA30.symm.own
  have hob2 : ob2 = ob ∨ ∃ g, ob2 = some g ∧ w.heap.size ≤ g := hob45.imp id (fun ⟨g, h1, h2⟩ => ⟨g, h1, Nat.le_trans hszg h2⟩)
  refine wl_nil (ae_next (.inl hE50) ?_)
  refine ae_take 7 rfl (by kernel_rfl) (by kernel_rfl) (by kernel_rfl) rfl (fun _ hS => ex_nilCheck rfl) hE50 ?_
  refine ae_loud [8] (by kernel_rfl) rfl ⟨?_, trivial⟩
  refine a_step rfl ?_
  refine wl_store1 rfl rfl (by first | rfl | assumption) Try.size41 hB51 rfl fun w54 hB55 hw56 => ?_
  have hE57 := hE49.step hw56 (fun y hy => .inl (by rw [List.mem_singleton.1 hy]; exact List.mem_cons_self ..))
  have hB59 := hw56.blk hB52 hA6.symm.nmem1
  have hO60 := hO53.evo hw56 hA29.symm.own1
  have hO61 := hO2.evo hw56 hA46.symm.own1
  try simp only [List.setIfInBounds_toArray, List.set_cons_zero, List.set_cons_succ, Nat.reduceAdd, Nat.zero_add, Nat.add_zero] at hB55
  refine wl_nil (ae_next (.inr (by kernel_rfl)) ?_)
  refine ae_done (by kernel_rfl) (nrm_then ?_)
  refine cw_seq ?_
  refine cw_region ?_
  refine wl_m ?_
  refine wl_a ?_
  refine wl_nil (nrm_then ?_)
  refine cw_ret (body_ret1 rfl rfl ?_)
  refine ⟨rfl, hE57, a2, c2, ob2, ⟨?_, ?_, own_new hne (blk_lt hC0.blk) hob2, fun e he => ?_⟩, hob2⟩
  · rw [List.length_append]; exact hB55
  · rw [List.length_append, flat_append]; exact hO61
  · rcases List.mem_append.1 he with he | he
    · exact rrg_step (hrs e he) ((hE57).mono hmZ) (mem_obZ hob2)
    · rw [List.mem_singleton] at he; subst he; exact rrg_step hr ((hE57).mono hmZ) (mem_obZ hob2)

theorem turn_ok {w : World} {es : List Iv} {a : Option Addr} {c k : Nat} {ob : Option Nat} {i o : Int} {z : Bool} (hO : OwnS w 44 5 a es.length c (flat es) ob) (hk : k < es.length) :
    Calls Try.prog 55 #[.slice a es.length c, .int .i64 (k : Nat), .int .i64 i, .int .i64 o, .bool z] w (Ret fun v w' => v = .tuple #[] ∧ Evo ob.toList w w' ∧ OwnS w' 44 5 a es.length c (flat (es.modify k (fun e => (⟨e.1.op, if z then o else i, if z then i else o, e.1.arg, e.1.rs⟩, e.2)))) ob) := by
  obtain ⟨g0, hg0, rfl, -⟩ := hO.cells (by omega)
  have hsame : ∀ (f g : Iv → Iv), (∀ e, f e = g e) → es.modify k f = es.modify k g := fun f g h => by rw [show f = g from funext h]
  refine calls_of_cw (N := 23) Try.func55 rfl rfl rfl ?_
  refine cw_seq ?_
  refine cw_seq ?_
  refine cw_region ?_
  refine wl_m ?_
  refine wl_nil (nrm_then ?_)
  refine cw_ifb rfl (fun hc10 => ?_) (fun hc10 => ?_)
  ·skip
   refine cw_region ?_
   refine wl_m ?_
   refine wl_m ?_
   refine wl_a ?_
   refine wl_a ?_
   refine wl_nil (nrm_then ?_)
   refine cw_region ?_
   refine wl_m ?_
   refine wl_m ?_
   refine wl_m ?_
   refine wl_m ?_
   refine wl_m ?_
   refine wl_m ?_
   refine wl_val rfl (ex_indexAddr (n := k) rfl rfl Try.elem41 hk) ?_
   refine wl_val rfl (ex_fieldAddr rfl Try.fld44_1) ?_
   obtain ⟨g10, cur1, hg2, hx3, hcu4, hcs5, -⟩ := hO.at (by omega)
   cases hx3
   refine wl_store1L rfl rfl (rfl) Try.size3 hcu4 (hO.inb hcs5 (k := k) (j := 1) (by omega) (by omega) (by omega)) fun w6 hB7 hw8 => ?_
   replace hw8 := evo_ob hg2 hw8
   have hO9 := hO.set' hg2 hcu4 hB7
   have hE11 := (Evo.refl ob.toList w).step hw8 (fun y hy => .inl hy)
   rw [show 0 + k * 5 + 1 = k * 5 + 1 from by omega, flat_setOut hk] at hO9
   refine wl_val rfl (ex_indexAddr (n := k) rfl rfl Try.elem41 hk) ?_
   refine wl_val rfl (ex_fieldAddr rfl Try.fld44_2) ?_
   obtain ⟨g21, cur12, hg13, hx14, hcu15, hcs16, -⟩ := hO9.at (by omega)
   cases hx14
   refine wl_store1L rfl rfl (rfl) Try.size3 hcu15 (hO9.inb hcs16 (k := k) (j := 2) (by omega) (by omega) (by omega)) fun w17 hB18 hw19 => ?_
   replace hw19 := evo_ob hg13 hw19
   have hO20 := hO9.set' hg13 hcu15 hB18
   have hE22 := hE11.step hw19 (fun y hy => .inl hy)
   rw [show 0 + k * 5 + 2 = k * 5 + 2 from by omega, flat_setAlt (by rw [List.length_modify]; exact hk)] at hO20
   refine wl_nil (body_end0 rfl ?_)
   refine ⟨rfl, hE22, ?_⟩
   have h := hO20
   rw [modify_two] at h
   subst hc10
   exact h
  ·skip
   refine cw_skip (nrm_then ?_)
   refine cw_region ?_
   refine wl_m ?_
   refine wl_m ?_
   refine wl_m ?_
   refine wl_m ?_
   refine wl_m ?_
   refine wl_m ?_
   refine wl_val rfl (ex_indexAddr (n := k) rfl rfl Try.elem41 hk) ?_
   refine wl_val rfl (ex_fieldAddr rfl Try.fld44_1) ?_
   obtain ⟨g32, cur23, hg24, hx25, hcu26, hcs27, -⟩ := hO.at (by omega)
   cases hx25
   refine wl_store1L rfl rfl (rfl) Try.size3 hcu26 (hO.inb hcs27 (k := k) (j := 1) (by omega) (by omega) (by omega)) fun w28 hB29 hw30 => ?_
   replace hw30 := evo_ob hg24 hw30
   have hO31 := hO.set' hg24 hcu26 hB29
   have hE33 := (Evo.refl ob.toList w).step hw30 (fun y hy => .inl hy)
   rw [show 0 + k * 5 + 1 = k * 5 + 1 from by omega, flat_setOut hk] at hO31
   refine wl_val rfl (ex_indexAddr (n := k) rfl rfl Try.elem41 hk) ?_
   refine wl_val rfl (ex_fieldAddr rfl Try.fld44_2) ?_
   obtain ⟨g43, cur34, hg35, hx36, hcu37, hcs38, -⟩ := hO31.at (by omega)
   cases hx36
   refine wl_store1L rfl rfl (rfl) Try.size3 hcu37 (hO31.inb hcs38 (k := k) (j := 2) (by omega) (by omega) (by omega)) fun w39 hB40 hw41 => ?_
   replace hw41 := evo_ob hg35 hw41
   have hO42 := hO31.set' hg35 hcu37 hB40
   have hE44 := hE33.step hw41 (fun y hy => .inl hy)
   rw [show 0 + k * 5 + 2 = k * 5 + 2 from by omega, flat_setAlt (by rw [List.length_modify]; exact hk)] at hO42
   refine wl_nil (body_end0 rfl ?_)
   refine ⟨rfl, hE44, ?_⟩
   have h := hO42
   rw [modify_two] at h
   subst hc10
   exact h

theorem cloneR_ok {X Y : List Nat} {w : World} {v : Value} {l : List (Int × Int)} (hs : RSl 2 RRg Y w v l) (hX : ∀ b, b ∈ X → b < w.heap.size) (hl : l.length ≤ 1048576) :
    Calls Try.prog 32 #[v] w (Ret fun v' w' => RSl 2 RRg X w' v' l ∧ Evo [] w w') := by
  have hs0 := hs
  obtain ⟨sa, sc, rfl, hlc, e1⟩ := hs
  refine calls_of_cw (N := 8) Try.func32 rfl rfl rfl ?_
  refine cw_seq ?_
  refine cw_region ?_
  refine wl_a ?_
  refine wl_nil (nrm_then ?_)
  refine cw_seq ?_
  refine cw_seq ?_
  refine cw_region ?_
  refine wl_m ?_
  refine wl_val rfl (ex_eqSl rfl rfl Try.underlying22) ?_
  refine wl_nil (nrm_then ?_)
  refine cw_ifb rfl (fun hc4 => ?_) (fun hc4 => ?_)
  ·skip
   refine cw_seq ?_
   refine cw_region ?_
   refine wl_a ?_
   refine wl_nil (nrm_then ?_)
   refine cw_ret (ret_then (body_ret1 rfl rfl ?_))
   have h0 : l = [] := by
      cases l with
      | nil => rfl
      | cons x xs => obtain ⟨b, o, vs, ha, -⟩ := e1 0 (by simp); subst ha; cases hc4
   subst h0
   exact ⟨⟨none, 0, rfl, Nat.le_refl _, fun k hk => by cases hk⟩, (Evo.refl [] w)⟩
  ·skip
   refine cw_skip (nrm_then ?_)
   refine cw_seq ?_
   refine cw_region ?_
   refine wl_bslice (vs := []) rfl Try.slice22 rfl rfl rfl rfl fun b1 w2 hO3 hs4 hw5 => ?_
   have hG6 := Ge.new (Evo.refl [] w) hs4
   have hE7 := (Evo.refl [] w).then hw5
   refine wl_m ?_
   obtain ⟨rows, hrow, hsrc⟩ := hs0.rows (P := Try.prog) ((hE7).any _) RRg.one
   refine wl_append rfl rfl rfl rfl Try.app22_22 hO3 hsrc (by omega) fun a2 c2 w10 ob2 hO12 hw13 hob14 => ?_
   have hG15 := hG6.app hE7 hob14
   have hE16 := hE7.step hw13 hG6.mem
   refine wl_a ?_
   refine wl_nil (nrm_then ?_)
   refine cw_ret (body_ret1 rfl rfl ?_)
   refine ⟨?_, hE16⟩
   have hO2 := hO12
   have hge := hG15
   exact RSl.ofOwn (rows := rows) hO2 ⟨hrow.1, fun k hk hk' => hrow.2 k hk hk'⟩ (by omega) (fun g hg hm => by have := hge g hg; have := hX g hm; omega)

end Go.Proofs.Ytgboffefbpligaa
