/- The reference's sheet: all, times. -/
import Derived.Test.YtgboffefbpligaaTu
namespace Go.Proofs.Ytgboffefbpligaa
open Go.Proofs
open Go.W Go.RowKit
attribute [local irreducible] Decidable.decide
set_option linter.unusedSimpArgs false
set_option linter.unusedVariables false
theorem Try.app65_65 : appB Try.prog 65 65 = some (4, 1, 1) := by kernel_rfl
theorem Try.goes25 : Goes Try.prog 25 := ⟨_, Try.func25, by kernel_rfl, by kernel_rfl⟩
theorem Try.goes62 : Goes Try.prog 62 := ⟨_, Try.func62, by kernel_rfl, by kernel_rfl⟩
theorem Try.goes63 : Goes Try.prog 63 := ⟨_, Try.func63, by kernel_rfl, by kernel_rfl⟩
theorem Try.goes82 : Goes Try.prog 82 := ⟨_, Try.func82, by kernel_rfl, by kernel_rfl⟩
theorem Try.slice65 : sliceB Try.prog 65 = some (4, 1) := by kernel_rfl


theorem in_sbe {H : Sheet} {E : List Nat} {b : Nat} (h : b ∈ SB H.nds) : b ∈ SB H.nds ++ E := List.mem_append_left _ h
theorem ex_le_succ {p : Nat → Prop} {k : Nat} : (∃ j, j < k + 1 ∧ p j) ↔ (∃ j, j < k ∧ p j) ∨ p k := ex_lt_succ
structure AaI (H : Sheet) (wr : World) (E : List Nat) (v : Value) (f : Nat → Prop) (x : Rx) (bo : Nat) (k : Nat) : Prop where
  le : k ≤ H.rs.length + 1
  sh : Sh2 H wr ([bo] ++ E)
  own : OwnS wr 4 1 (some ⟨bo, 0, none⟩) (H.rs.length + 1) (H.rs.length + 1) (bvs (bl (H.rs.length + 1) (fun j => ∃ i, i < k ∧ f i ∧ Mt H.rs x i j))) (some bo)
  src : RSl 1 RBool (SB H.nds ++ ([bo] ++ E)) wr v (bl (H.rs.length + 1) f)
theorem RSl.sub {X Y : List Nat} {w : World} {v : Value} {bs : List Bool} (h : RSl 1 RBool X w v bs) (hy : ∀ y, y ∈ Y → y ∈ X) : RSl 1 RBool Y w v bs := rb_step h (Evo.refl _ _) (fun y hm => .inl (hy y hm))

theorem all_ok {H : Sheet} {id : Nat} {x : Rx} (hF : FromSpec Try.prog H id x) {w : World} {E : List Nat} {v : Value} {f : Nat → Prop} (hH : Sh2 H w E) (hv : RSl 1 RBool (SB H.nds ++ E) w v (bl (H.rs.length + 1) f)) :
    Calls Try.prog 62 #[.pointer (some ⟨H.hb, 0, none⟩), iv (id : Nat), v] w (Ret fun r w' => Evo (SB H.nds) w w' ∧ Sh2 H w' E ∧ NewBl w w' (H.rs.length + 1) (fun j => ∃ i, i ≤ H.rs.length ∧ f i ∧ Mt H.rs x i j) r) := by
  have hsml := hH.small
  have hv0 := hv
  obtain ⟨va, vc, rfl, hvc0⟩ := rsl_bl hv
  refine calls_of_cw (N := 29) Try.func62 rfl rfl rfl ?_
  refine cw_seq ?_
  refine cw_region ?_
  refine wl_a ?_
  refine wl_nil (nrm_then ?_)
  refine cw_seq ?_
  refine cw_region ?_
  refine wl_m ?_
  refine wl_val rfl (ex_len_slice rfl Try.underlying65 rfl) ?_
  refine wl_make (len := H.rs.length + 1) (c := H.rs.length + 1) rfl rfl rfl Try.make65 (by rfl) (by rfl) (by omega) (by decide) (by omega) (by omega) fun bo w2 hS0 hs4 hw5 => ?_
  have hG6 := Ge.new (Evo.refl (SB H.nds) w) hs4
  have hG7 := Ge.new (Evo.refl [] w) hs4
  have hE8 := (Evo.refl (SB H.nds) w).then hw5
  have hE9 := (Evo.refl [] w).then hw5
  rw [bvs_zero] at hS0
  have hgbo := hG6
  refine wl_a ?_
  refine wl_nil (nrm_then ?_)
  refine cw_seq ?_
  refine cw_seq ?_
  refine cw_region ?_
  refine wl_a ?_
  refine wl_nil (nrm_then ?_)
  refine cw_block ?_
  refine cw_loop (α := Nat) (0) (fun k => [(8, .int .i64 (k : Nat))]) [(0, _), (1, _), (2, _), (6, _), (7, _)] (fun k wr => Evo (SB H.nds) w wr ∧ (AaI H wr E (.slice va (H.rs.length + 1) vc) f x bo k)) (fun k => H.rs.length + 1 - k) ⟨rfl, trivial⟩ ⟨rfl, rfl, rfl, rfl, rfl, trivial⟩ ⟨hE8, ⟨Nat.zero_le _, hH.more hE9 (fun y hy => by rw [List.mem_singleton.1 hy]; exact ⟨hG6 bo rfl, Lt.own hS0 bo rfl⟩), by rw [bl_congr (g := fun _ => False) (fun j _ => ⟨fun ⟨i, h, _⟩ => absurd h (Nat.not_lt_zero _), fun h => h.elim⟩)]; exact hS0, rb_step hv0 ((hE9).any _) (fun y hy => by rcases List.mem_append.1 hy with e | e; exact .inl (List.mem_append_left _ e); rcases List.mem_append.1 e with e | e; (rw [List.mem_singleton.1 e]; exact .inr (hG6 bo rfl)); exact .inl (List.mem_append_right _ e))⟩⟩ ?_
  rintro k wr10 ⟨hV11, ⟨hk, hsh, hown, hsrc⟩⟩
  show CW _ _ _ _ [(8, _), (0, _), (1, _), (2, _), (6, _), (7, _)] _
  refine cw_seq ?_
  refine cw_seq ?_
  refine cw_region ?_
  refine wl_m ?_
  refine wl_m ?_
  refine wl_val rfl (ex_len_slice rfl Try.underlying65 rfl) ?_
  refine wl_val rfl (ex_lss rfl rfl) ?_
  refine wl_nil (nrm_then ?_)
  refine cw_if rfl (fun hc15 => ?_) (fun hc15 => ?_)
  ·skip
   have hk' : k < H.rs.length + 1 := by omega
   obtain ⟨va2, vc2, hve, hvc⟩ := rsl_bl hsrc
   cases hve
   obtain ⟨bV, oV, rfl, hbV, hcV⟩ := hvc k hk'
   refine cw_skip (nrm_then ?_)
   refine cw_seq ?_
   refine cw_block ?_
   refine cw_seq ?_
   refine cw_region ?_
   refine wl_m ?_
   refine wl_m ?_
   refine wl_val rfl (ex_indexAddr (n := k) rfl rfl Try.elem65 hk') ?_
   refine wl_val rfl (ex_load1 rfl Try.agg4 hcV) ?_
   refine wl_nil (nrm_then ?_)
   refine cw_ifb rfl (fun hc21 => ?_) (fun hc21 => ?_)
   ·skip
    refine cw_region ?_
    refine wl_m ?_
    refine wl_m ?_
    refine wl_m ?_
    refine wl_m ?_
    refine wl_call1 (vs := [_, _, _]) Try.goes25 rfl (hF hsh (by omega)) rfl ?_
    rintro rv w12 ⟨hw13, hS2, hr2⟩
    have hE14 := hV11.step hw13 (fun y hy => .inl hy)
    have hB15 := hown.evo hw13 (fun g hg => by cases hg; exact hsh.dis bo (by simp))
    have hsrc2 := rb_step hsrc (hw13.mono (fun b hb => in_sbe hb)) (fun y hy => .inl hy)
    refine wl_call1 (vs := [_, _]) Try.goes63 rfl (add_ok hB15 (RSl.sub hr2 (fun y hy => List.mem_append_right _ (List.mem_append_left _ (by simpa using hy)))) (by omega)) rfl ?_
    rintro _ w16 ⟨hw17, hO3, hbz⟩
    have hE18 := hE14.step hw17 (hgbo.mem)
    have hS3 := hS2.evo hw17 (fun y hy => List.mem_append_left _ (by simpa using hy))
    have hsrc3 := rb_step hsrc2 (hw17.mono (fun b hb => List.mem_append_right _ (List.mem_append_left _ (by simpa using hb)))) (fun y hy => .inl hy)
    refine wl_nil (nrm_block (nrm_then ?_))
    refine cw_region ?_
    refine wl_m ?_
    refine wl_val rfl (ex_add_i64 rfl rfl (by omega) (by omega)) ?_
    refine wl_a ?_
    refine wl_nil (nrm_same ?_)
    refine ⟨k + 1, ?_, ⟨rfl, trivial⟩, ⟨rfl, rfl, rfl, rfl, rfl, trivial⟩, hE18, ?_⟩
    · omega
    ·skip
     refine ⟨by omega, hS3, ?_, hsrc3⟩
     rw [bl_congr (g := fun j => (∃ i, i < k ∧ f i ∧ Mt H.rs x i j) ∨ Mt H.rs x k j) (fun j _ => by rw [ex_lt_succ (p := fun i => f i ∧ Mt H.rs x i j)]; simp [tf_iff.1 hc21])]
     exact hO3
   ·skip
    refine cw_skip (nrm_block (nrm_then ?_))
    refine cw_region ?_
    refine wl_m ?_
    refine wl_val rfl (ex_add_i64 rfl rfl (by omega) (by omega)) ?_
    refine wl_a ?_
    refine wl_nil (nrm_same ?_)
    refine ⟨k + 1, ?_, ⟨rfl, trivial⟩, ⟨rfl, rfl, rfl, rfl, rfl, trivial⟩, hV11, ?_⟩
    · omega
    ·skip
     refine ⟨by omega, hsh, ?_, hsrc⟩
     rw [bl_congr (g := fun j => ∃ i, i < k ∧ f i ∧ Mt H.rs x i j) (fun j _ => by rw [ex_lt_succ (p := fun i => f i ∧ Mt H.rs x i j)]; simp [tf_no.1 hc21])]
     exact hown
  ·skip
   refine cw_exit (ex_then (ex_then (ex_here (nrm_then ?_))))
   refine cw_seq ?_
   refine cw_region ?_
   refine wl_m ?_
   refine wl_a ?_
   refine wl_nil (nrm_then ?_)
   refine cw_ret (body_ret1 rfl rfl ?_)
   refine ⟨hV11, hsh.less, _, _, _, rfl, ?_, hgbo⟩
   rw [bl_congr (g := fun j => ∃ i, i < k ∧ f i ∧ Mt H.rs x i j) (fun j _ => ⟨fun ⟨i, h1, h2⟩ => ⟨i, by omega, h2⟩, fun ⟨i, h1, h2⟩ => ⟨i, by omega, h2⟩⟩)]
   exact hown


noncomputable def cntNo (n : Nat) (f : Nat → Prop) : Nat := ((List.range n).filter fun j => !tf (f j)).length
theorem cntNo_le (n : Nat) (f : Nat → Prop) : cntNo n f ≤ n := by
  unfold cntNo; exact Nat.le_trans (List.length_filter_le _ _) (by simp)
theorem filter_lt {p q : Nat → Bool} : ∀ {l : List Nat}, (∀ j, j ∈ l → q j = true → p j = true) → (∃ j, j ∈ l ∧ p j = true ∧ q j = false) → (l.filter q).length < (l.filter p).length
  | [], _, ⟨j, h, _⟩ => by cases h
  | x :: l, h, he => by
    have hle : (l.filter q).length ≤ (l.filter p).length := by
      clear he
      have h' : ∀ j, j ∈ l → q j = true → p j = true := fun j hj => h j (by simp [hj])
      clear h
      induction l with
      | nil => simp
      | cons y l ih =>
        have i1 := ih (fun j hj => h' j (by simp [hj]))
        have i2 := h' y (by simp)
        rw [List.filter_cons, List.filter_cons]
        cases hq : q y with
        | false => simp only [Bool.false_eq_true, if_false]; split <;> simp <;> omega
        | true => rw [i2 hq]; simp; exact i1
    rw [List.filter_cons, List.filter_cons]
    by_cases hx : p x = true ∧ q x = false
    · rw [if_pos hx.1, if_neg (by rw [hx.2]; simp)]
      simp; omega
    · have h2 : (l.filter q).length < (l.filter p).length := filter_lt (fun j hj => h j (by simp [hj])) (by
        obtain ⟨j, hj, h1, h2⟩ := he
        rcases List.mem_cons.1 hj with e | e
        · subst e; exact (hx ⟨h1, h2⟩).elim
        · exact ⟨j, e, h1, h2⟩)
      have i2 := h x (by simp)
      cases hq : q x with
      | false =>
        have : p x = false := by cases hp : p x; rfl; exact (hx ⟨hp, hq⟩).elim
        rw [this]; simpa using h2
      | true => rw [i2 hq]; simpa using h2
theorem cntNo_lt {n : Nat} {f g : Nat → Prop} (h : ∀ j, j < n → f j → g j) (he : ∃ j, j < n ∧ g j ∧ ¬ f j) : cntNo n g < cntNo n f := by
  unfold cntNo
  refine filter_lt (fun j hj hq => ?_) ?_
  · rw [Bool.not_eq_true'] at hq ⊢
    rw [tf_no] at hq ⊢
    exact fun hf => hq (h j (List.mem_range.1 hj) hf)
  · obtain ⟨j, hj, h1, h2⟩ := he
    exact ⟨j, List.mem_range.2 hj, by rw [tf_no.2 h2]; rfl, by rw [tf_iff.2 h1]; rfl⟩
/-- One step on. -/
theorem it_all {R : Nat → Nat → Prop} {N i k : Nat} (hR : ∀ a b, R a b → a ≤ N → b ≤ N) (hi : i ≤ N) (j : Nat) : (∃ a, a ≤ N ∧ It R k i a ∧ R a j) ↔ It R (k + 1) i j := by
  rw [it_snoc]
  constructor
  · rintro ⟨a, -, h1, h2⟩; exact ⟨a, h1, h2⟩
  · rintro ⟨a, h1, h2⟩; exact ⟨a, it_le hR h1 hi, h1, h2⟩
theorem it_same {R : Nat → Nat → Prop} {N i k : Nat} (hR : ∀ a b, R a b → a ≤ N → b ≤ N) (hi : i ≤ N) (h : ∀ j, j < N + 1 → (It R (k + 1) i j ↔ It R k i j)) {m : Nat} (hm : k ≤ m) (j : Nat) : It R m i j ↔ It R k i j := by
  have h' : ∀ j, It R (k + 1) i j ↔ It R k i j := fun j => by
    by_cases e : j < N + 1
    · exact h j e
    · exact ⟨fun hj => by have := it_le hR hj hi; omega, fun hj => by have := it_le hR hj hi; omega⟩
  have := it_fix h' (m - k) j
  rwa [show k + (m - k) = m from by omega] at this
theorem bvs_src {P : Program} {X : List Nat} {w w' : World} {v : Value} {bs : List Bool} (h : RSl 1 RBool X w v bs) (he : Evo X w w') : Src P w' 1 v bs.length (bvs bs) := by
  obtain ⟨rows, hr, hs⟩ := h.rows (P := P) he (fun X w vs d h u hu => by rw [show vs = [.bool d] from h] at hu; simp at hu; subst hu; rfl)
  have e : rows = bs.map fun b => [Value.bool b] := by
    apply List.ext_getElem
    · simp [hr.1]
    · intro k h1 h2
      have := (hr.2 k (by simpa using h2) h1).2
      rw [List.getElem_map]; exact this
  rw [e, bvs_rows] at hs
  exact hs
theorem memo3 {w : World} {o : Option Nat} {S E : List Nat} (hg : Ge w o) : ∀ y, y ∈ S ++ (o.toList ++ E) → y ∈ S ++ E ∨ w.heap.size ≤ y := fun y hy => by
  rcases List.mem_append.1 hy with e | e
  · exact .inl (List.mem_append_left _ e)
  · rcases List.mem_append.1 e with e | e
    · exact .inr (hg y (by simpa using e))
    · exact .inl (List.mem_append_right _ e)
structure T1I (H : Sheet) (wr : World) (E : List Nat) (R : Nat → Nat → Prop) (i : Nat) (va : Option Addr) (vc k : Nat) : Prop where
  sh : Sh2 H wr E
  now : RSl 1 RBool (SB H.nds ++ E) wr (.slice va (H.rs.length + 1) vc) (bl (H.rs.length + 1) (It R k i))
structure T2G where
  k : Nat
  va : Option Addr
  vc : Nat
structure T2I (H : Sheet) (w wr : World) (E : List Nat) (R : Nat → Nat → Prop) (i least : Nat) (most : Int) (oa : Option Addr) (oc : Nat) (oo : Option Nat) (x : T2G) : Prop where
  ge : least ≤ x.k
  le : most = -1 ∨ (x.k : Int) ≤ most
  bd : x.k + cntNo (H.rs.length + 1) (Btw R least x.k i) ≤ least + H.rs.length + 1
  sh : Sh2 H wr (oo.toList ++ E)
  now : RSl 1 RBool (SB H.nds ++ (oo.toList ++ E)) wr (.slice x.va (H.rs.length + 1) x.vc) (bl (H.rs.length + 1) (It R x.k i))
  own : OwnS wr 4 1 oa (H.rs.length + 1) oc (bvs (bl (H.rs.length + 1) (Btw R least x.k i))) oo
theorem Sh2.moreo {H : Sheet} {w w' : World} {E : List Nat} {o : Option Nat} (h : Sh2 H w E) (he : Evo [] w w') (hg : Ge w o) (hl : Lt w' o) : Sh2 H w' (o.toList ++ E) := h.more he (fun y hy => ⟨hg y (by simpa using hy), hl y (by simpa using hy)⟩)

set_option maxHeartbeats 4000000 in
theorem times_ok {H : Sheet} {id : Nat} {x : Rx} (hF : FromSpec Try.prog H id x) {w : World} {E : List Nat} {v : Value} {i least : Nat} {most : Int} (hH : Sh2 H w E) (hi : i ≤ H.rs.length) (hl : least ≤ 1000) (hm : most = -1 ∨ ((least : Int) ≤ most ∧ most ≤ 1000)) (hv : RSl 1 RBool (SB H.nds ++ E) w v (bl (H.rs.length + 1) (It (Mt H.rs x) 0 i))) :
    Calls Try.prog 64 #[.pointer (some ⟨H.hb, 0, none⟩), iv (id : Nat), iv (least : Nat), iv most, v] w (Ret fun r w' => Evo (SB H.nds) w w' ∧ Sh2 H w' E ∧ NewBl w w' (H.rs.length + 1) (fun j => ∃ c, least ≤ c ∧ (most = -1 ∨ (c : Int) ≤ most) ∧ It (Mt H.rs x) c i j) r) := by
  obtain ⟨R, hRd⟩ : ∃ R, R = Mt H.rs x := ⟨_, rfl⟩
  rw [← hRd] at hv ⊢
  have hR : ∀ a b, R a b → a ≤ H.rs.length → b ≤ H.rs.length := by subst hRd; exact mt_le H.rs x
  have hF' : FromSpec Try.prog H id x := hF
  have hsml := hH.small
  have hv0 := hv
  obtain ⟨va, vc, rfl, hvc0⟩ := rsl_bl hv
  have all_ok : ∀ {id : Nat}, FromSpec Try.prog H id x → ∀ {w : World} {E : List Nat} {v : Value} {f : Nat → Prop}, Sh2 H w E → RSl 1 RBool (SB H.nds ++ E) w v (bl (H.rs.length + 1) f) →
      Calls Try.prog 62 #[.pointer (some ⟨H.hb, 0, none⟩), iv (id : Nat), v] w (Ret fun r w' => Evo (SB H.nds) w w' ∧ Sh2 H w' E ∧ NewBl w w' (H.rs.length + 1) (fun j => ∃ i, i ≤ H.rs.length ∧ f i ∧ R i j) r) := by
    subst hRd; exact all_ok
  refine calls_of_cw (N := 50) Try.func64 rfl rfl rfl ?_
  refine cw_seq ?_
  refine cw_region ?_
  refine wl_a ?_
  refine wl_nil (nrm_then ?_)
  refine cw_seq ?_
  refine cw_cut (α := Option Addr × Nat) (fun x => [(4, .slice x.1 (H.rs.length + 1) x.2)]) [(0, _), (1, _), (2, _), (3, _), (10, _)] (fun x wr => Evo (SB H.nds) w wr ∧ (T1I H wr E R i x.1 x.2 least)) ⟨rfl, rfl, rfl, rfl, rfl, trivial⟩ ?_ ?_
  ·skip
   refine cw_seq ?_
   refine cw_region ?_
   refine wl_a ?_
   refine wl_nil (nrm_then ?_)
   refine cw_block ?_
   refine cw_loop (α := Nat × Option Addr × Nat) ((0, va, vc)) (fun x => [(11, .int .i64 (x.1 : Nat)), (4, .slice x.2.1 (H.rs.length + 1) x.2.2)]) [(0, _), (1, _), (2, _), (3, _), (10, _)] (fun x wr => Evo (SB H.nds) w wr ∧ (x.1 ≤ least ∧ T1I H wr E R i x.2.1 x.2.2 x.1)) (fun x => least - x.1) ⟨rfl, rfl, trivial⟩ ⟨rfl, rfl, rfl, rfl, rfl, trivial⟩ ⟨(Evo.refl (SB H.nds) w), ⟨Nat.zero_le _, hH, hv0⟩⟩ ?_
   rintro ⟨k, va, vc⟩ wr1 ⟨hV2, ⟨hk, hsh, hnow⟩⟩
   show CW _ _ _ _ [(11, .int .i64 (k : Nat)), (4, .slice va (H.rs.length + 1) vc), (0, _), (1, _), (2, _), (3, _), (10, _)] _
   try dsimp only at hk
   try dsimp only at hsh
   try dsimp only at hnow
   refine cw_seq ?_
   refine cw_seq ?_
   refine cw_region ?_
   refine wl_m ?_
   refine wl_m ?_
   refine wl_val rfl (ex_lss rfl rfl) ?_
   refine wl_nil (nrm_then ?_)
   refine cw_if rfl (fun hc17 => ?_) (fun hc17 => ?_)
   ·skip
    refine cw_skip (nrm_then ?_)
    refine cw_seq ?_
    refine cw_block ?_
    refine cw_seq ?_
    refine cw_region ?_
    refine wl_m ?_
    refine wl_m ?_
    refine wl_m ?_
    refine wl_call1 (vs := [_, _, _]) Try.goes62 rfl (all_ok hF hsh hnow) rfl ?_
    rintro rv w3 ⟨hw4, hS2, hnew⟩
    have hwb := hV2
    have hE5 := hV2.step hw4 (fun y hy => .inl hy)
    have hold := rb_step hnow (hw4.mono (fun b hb => in_sbe hb)) (fun y hy => .inl hy)
    have hnw := hnew.rsl (X := SB H.nds ++ E) hsh.sblt
    rw [bl_congr (fun j _ => it_all hR hi j)] at hnw
    obtain ⟨ra, rc, ro, rfl, -, -⟩ := hnew
    refine wl_a ?_
    refine wl_nil (nrm_then ?_)
    refine cw_seq ?_
    refine cw_seq ?_
    refine cw_region ?_
    refine wl_m ?_
    refine wl_m ?_
    refine wl_call1 (vs := [_, _]) Try.goes82 rfl (same_ok hnw hold (by omega)) rfl ?_
    rintro _ w6 ⟨hw7, bs, rfl, hbs⟩
    have hE8 := hE5.then hw7
    have hE9 := (Evo.refl [] w3).then hw7
    refine wl_nil (nrm_then ?_)
    refine cw_ifb rfl (fun hc26 => ?_) (fun hc26 => ?_)
    ·skip
     refine cw_exit (ex_then (ex_past rfl (ex_then (ex_then (ex_here (nrm_same ?_))))))
     refine ⟨(va, vc), ⟨rfl, trivial⟩, ⟨rfl, rfl, rfl, rfl, rfl, trivial⟩, hE8, ?_⟩
     have hsm := it_same hR hi (fun j hj => (hbs.1 hc26) j hj) (show k ≤ least by omega)
     exact ⟨hS2.evo0 hE9, by rw [bl_congr (fun j _ => hsm j)]; exact rb_step hold ((hE9).any _) (fun y hy => .inl hy)⟩
    ·skip
     refine cw_skip (nrm_then ?_)
     refine cw_region ?_
     refine wl_m ?_
     refine wl_a ?_
     refine wl_nil (nrm_block (nrm_then ?_))
     refine cw_region ?_
     refine wl_m ?_
     refine wl_val rfl (ex_add_i64 rfl rfl (by omega) (by omega)) ?_
     refine wl_a ?_
     refine wl_nil (nrm_same ?_)
     refine ⟨(k + 1, ra, rc), ?_, ⟨rfl, rfl, trivial⟩, ⟨rfl, rfl, rfl, rfl, rfl, trivial⟩, hE8, ?_⟩
     · (try dsimp only); omega
     ·skip
      try dsimp only
      exact ⟨by omega, hS2.evo0 hE9, rb_step hnw ((hE9).any _) (fun y hy => .inl hy)⟩
   ·skip
    refine cw_exit (ex_then (ex_then (ex_here (nrm_same ?_))))
    refine ⟨(va, vc), ⟨rfl, trivial⟩, ⟨rfl, rfl, rfl, rfl, rfl, trivial⟩, hV2, ?_⟩
    obtain rfl : k = least := by omega
    exact ⟨hsh, hnow⟩
  ·skip
   rintro ⟨va, vc⟩ w10 ⟨hV11, ⟨hsh, hnow⟩⟩
   refine nrm_then ?_
   show CW _ _ _ _ [(4, .slice va (H.rs.length + 1) vc), (0, _), (1, _), (2, _), (3, _), (10, _)] _
   try dsimp only at hsh
   try dsimp only at hnow
   refine cw_seq ?_
   refine cw_region ?_
   refine wl_bslice (vs := []) rfl Try.slice65 rfl rfl rfl rfl fun b12 w13 hO14 hs15 hw16 => ?_
   have hG17 := Ge.new hV11 hs15
   have hG18 := Ge.new (Evo.refl [] w10) hs15
   have hE19 := hV11.then hw16
   have hE20 := (Evo.refl [] w10).then hw16
   refine wl_m ?_
   have hsrc30 := bvs_src (P := Try.prog) hnow ((hE20).any _)
   rw [bl_len] at hsrc30
   refine wl_append rfl rfl rfl rfl Try.app65_65 hO14 (hsrc30) (by omega) fun oa oc w23 oo hOo hw26 hob27 => ?_
   have hG28 := hG17.app hE19 hob27
   have hG29 := hG18.app hE20 hob27
   have hE30 := hE19.step hw26 hG17.mem
   have hE31 := hE20.step hw26 hG18.mem
   simp only [List.flatMap_nil, List.nil_append, Nat.zero_add] at hOo
   rw [show 0 + (H.rs.length + 1) = H.rs.length + 1 from Nat.zero_add _]
   have hgoo := hG28
   have hltoo := Lt.own hOo
   have hgcut := hG29
   refine wl_a ?_
   refine wl_nil (nrm_then ?_)
   refine cw_seq ?_
   refine cw_seq ?_
   refine cw_region ?_
   refine wl_m ?_
   refine wl_a ?_
   refine wl_nil (nrm_then ?_)
   refine cw_block ?_
   refine cw_loop (α := T2G) (⟨least, va, vc⟩) (fun x => [(14, .int .i64 (x.k : Nat)), (4, .slice x.va (H.rs.length + 1) x.vc)]) [(0, _), (1, _), (3, _), (10, _), (13, _)] (fun x wr => Evo (SB H.nds) w wr ∧ (T2I H w wr E R i least most oa oc oo x)) (fun x => cntNo (H.rs.length + 1) (Btw R least x.k i)) ⟨rfl, rfl, trivial⟩ ⟨rfl, rfl, rfl, rfl, rfl, trivial⟩ ⟨hE30, ⟨Nat.le_refl _, hm.imp_right (fun h => h.1), by have := cntNo_le (H.rs.length + 1) (Btw R least least i); show least + cntNo (H.rs.length + 1) (Btw R least least i) ≤ least + H.rs.length + 1; omega, hsh.moreo hE31 hgcut hltoo, rb_step hnow ((hE31).any _) (memo3 hgcut), by rw [bl_congr (fun j _ => btw_self)]; exact hOo⟩⟩ ?_
   rintro ⟨k, va, vc⟩ wr32 ⟨hV33, ⟨hge, hle, hbd, hsh, hnow, hown⟩⟩
   show CW _ _ _ _ [(14, .int .i64 (k : Nat)), (4, .slice va (H.rs.length + 1) vc), (0, _), (1, _), (3, _), (10, _), (13, _)] _
   try dsimp only at hge
   try dsimp only at hle
   try dsimp only at hbd
   try dsimp only at hsh
   try dsimp only at hnow
   try dsimp only at hown
   refine cw_seq ?_
   refine cw_seq ?_
   refine cw_region ?_
   refine wl_m ?_
   refine wl_val rfl (ex_eql rfl rfl) ?_
   refine wl_m ?_
   refine wl_split (t := 34) rfl (fun hs34 => ?_) (fun hs34 => ?_)
   ·skip
    refine wl_n ?_
    refine wl_n ?_
    refine wl_n ?_
    refine wl_pt ?_
    refine wl_nil (nrm_then ?_)
    refine cw_true rfl ?_
    refine cw_skip (nrm_then ?_)
    refine cw_seq ?_
    refine cw_block ?_
    refine cw_seq ?_
    refine cw_region ?_
    refine wl_m ?_
    refine wl_m ?_
    refine wl_m ?_
    refine wl_call1 (vs := [_, _, _]) Try.goes62 rfl (all_ok hF hsh hnow) rfl ?_
    rintro rv w34 ⟨hw35, hS2, hnew⟩
    have hE36 := hV33.step hw35 (fun y hy => .inl hy)
    have hB37 := hown.evo hw35 (fun g hg hm => hsh.dis g (by simp [hg]) hm)
    have hnw := hnew.rsl (X := SB H.nds ++ (oo.toList ++ E)) hsh.sblt
    rw [bl_congr (fun j _ => it_all hR hi j)] at hnw
    obtain ⟨ra, rc, ro, rfl, -, -⟩ := hnew
    refine wl_a ?_
    refine wl_nil (nrm_then ?_)
    refine cw_seq ?_
    refine cw_region ?_
    refine wl_m ?_
    refine wl_m ?_
    refine wl_call1 (vs := [_, _]) Try.goes63 rfl (add_ok hB37 (RSl.sub hnw (fun y hy => List.mem_append_right _ (List.mem_append_left _ hy))) (by omega)) rfl ?_
    rintro _ w38 ⟨hw39, hO3, bz, rfl, hbz⟩
    have hE40 := hE36.step hw39 (hgoo.mem)
    have hS3 := hS2.evo hw39 (fun y hy => List.mem_append_left _ hy)
    have hnw3 := rb_step hnw (hw39.mono (fun b hb => List.mem_append_right _ (List.mem_append_left _ hb))) (fun y hy => .inl hy)
    have hO4 := hO3
    rw [bl_congr (g := Btw R least (k + 1) i) (fun j _ => (btw_succ hge).symm)] at hO4
    refine wl_val rfl (ex_notb rfl) ?_
    refine wl_nil (nrm_then ?_)
    refine cw_ifb rfl (fun hc48 => ?_) (fun hc48 => ?_)
    ·skip
     refine cw_exit (ex_past rfl (ex_then (ex_then (ex_here (nrm_then ?_)))))
     refine cw_seq ?_
     refine cw_region ?_
     refine wl_m ?_
     refine wl_a ?_
     refine wl_nil (nrm_then ?_)
     refine cw_ret (body_ret1 rfl rfl ?_)
     have hbf : ¬ bz = true := by simpa using hc48
     have hno : ∀ j, It R (k + 1) i j → Btw R least k i j := fun j hj => Classical.byContradiction fun hb => hbf (hbz.2 ⟨j, by have := it_le hR hj hi; omega, hj, hb⟩)
     refine ⟨hE40, hS3.less, _, _, _, rfl, ?_, hgoo⟩
     rw [bl_congr (g := Btw R least (k + 1) i) (fun j _ => ⟨fun ⟨c, h1, h2, h3⟩ => (btw_succ hge).2 (.inl (btw_shut hge hno c h1 j h3)), fun h => ?_⟩)]
     · exact hO4
     · rcases (btw_succ hge).1 h with h | h
       · obtain ⟨c, h1, h2, h3⟩ := h; exact ⟨c, h1, hle.imp_right (fun h => by omega), h3⟩
       · obtain ⟨c, h1, h2, h3⟩ := hno _ h; exact ⟨c, h1, hle.imp_right (fun h => by omega), h3⟩
    ·skip
     refine cw_skip (nrm_block (nrm_then ?_))
     refine cw_region ?_
     refine wl_m ?_
     refine wl_val rfl (ex_add_i64 rfl rfl (by omega) (by omega)) ?_
     refine wl_a ?_
     refine wl_nil (nrm_same ?_)
     refine ⟨⟨k + 1, ra, rc⟩, ?_, ⟨rfl, rfl, trivial⟩, ⟨rfl, rfl, rfl, rfl, rfl, trivial⟩, hE40, ?_⟩
     · (try dsimp only); exact cntNo_lt (fun j _ h => (btw_succ hge).2 (.inl h)) (by obtain ⟨j, h1, h2, h3⟩ := hbz.1 (by simpa using hc48); exact ⟨j, h1, (btw_succ hge).2 (.inr h2), h3⟩)
     ·skip
      try dsimp only
      have hdec : cntNo (H.rs.length + 1) (Btw R least (k + 1) i) < cntNo (H.rs.length + 1) (Btw R least k i) := cntNo_lt (fun j _ h => (btw_succ hge).2 (.inl h)) (by obtain ⟨j, h1, h2, h3⟩ := hbz.1 (by simpa using hc48); exact ⟨j, h1, (btw_succ hge).2 (.inr h2), h3⟩)
      exact ⟨by show least ≤ k + 1; omega, by show most = -1 ∨ ((k + 1 : Nat) : Int) ≤ most; first | (left; omega) | (right; omega), by show k + 1 + cntNo (H.rs.length + 1) (Btw R least (k + 1) i) ≤ least + H.rs.length + 1; omega, hS3, hnw3, hO4⟩
   ·skip
    refine wl_g ?_
    refine wl_m ?_
    refine wl_g ?_
    refine wl_m ?_
    refine wl_g ?_
    refine wl_val rfl (ex_lss rfl rfl) ?_
    refine wl_pf ?_
    refine wl_nil (nrm_then ?_)
    refine cw_if rfl (fun hc38 => ?_) (fun hc38 => ?_)
    ·skip
     refine cw_skip (nrm_then ?_)
     refine cw_seq ?_
     refine cw_block ?_
     refine cw_seq ?_
     refine cw_region ?_
     refine wl_m ?_
     refine wl_m ?_
     refine wl_m ?_
     refine wl_call1 (vs := [_, _, _]) Try.goes62 rfl (all_ok hF hsh hnow) rfl ?_
     rintro rv w41 ⟨hw42, hS2, hnew⟩
     have hE43 := hV33.step hw42 (fun y hy => .inl hy)
     have hB44 := hown.evo hw42 (fun g hg hm => hsh.dis g (by simp [hg]) hm)
     have hnw := hnew.rsl (X := SB H.nds ++ (oo.toList ++ E)) hsh.sblt
     rw [bl_congr (fun j _ => it_all hR hi j)] at hnw
     obtain ⟨ra, rc, ro, rfl, -, -⟩ := hnew
     refine wl_a ?_
     refine wl_nil (nrm_then ?_)
     refine cw_seq ?_
     refine cw_region ?_
     refine wl_m ?_
     refine wl_m ?_
     refine wl_call1 (vs := [_, _]) Try.goes63 rfl (add_ok hB44 (RSl.sub hnw (fun y hy => List.mem_append_right _ (List.mem_append_left _ hy))) (by omega)) rfl ?_
     rintro _ w45 ⟨hw46, hO3, bz, rfl, hbz⟩
     have hE47 := hE43.step hw46 (hgoo.mem)
     have hS3 := hS2.evo hw46 (fun y hy => List.mem_append_left _ hy)
     have hnw3 := rb_step hnw (hw46.mono (fun b hb => List.mem_append_right _ (List.mem_append_left _ hb))) (fun y hy => .inl hy)
     have hO4 := hO3
     rw [bl_congr (g := Btw R least (k + 1) i) (fun j _ => (btw_succ hge).symm)] at hO4
     refine wl_val rfl (ex_notb rfl) ?_
     refine wl_nil (nrm_then ?_)
     refine cw_ifb rfl (fun hc48 => ?_) (fun hc48 => ?_)
     ·skip
      refine cw_exit (ex_past rfl (ex_then (ex_then (ex_here (nrm_then ?_)))))
      refine cw_seq ?_
      refine cw_region ?_
      refine wl_m ?_
      refine wl_a ?_
      refine wl_nil (nrm_then ?_)
      refine cw_ret (body_ret1 rfl rfl ?_)
      have hbf : ¬ bz = true := by simpa using hc48
      have hno : ∀ j, It R (k + 1) i j → Btw R least k i j := fun j hj => Classical.byContradiction fun hb => hbf (hbz.2 ⟨j, by have := it_le hR hj hi; omega, hj, hb⟩)
      refine ⟨hE47, hS3.less, _, _, _, rfl, ?_, hgoo⟩
      rw [bl_congr (g := Btw R least (k + 1) i) (fun j _ => ⟨fun ⟨c, h1, h2, h3⟩ => (btw_succ hge).2 (.inl (btw_shut hge hno c h1 j h3)), fun h => ?_⟩)]
      · exact hO4
      · rcases (btw_succ hge).1 h with h | h
        · obtain ⟨c, h1, h2, h3⟩ := h; exact ⟨c, h1, hle.imp_right (fun h => by omega), h3⟩
        · obtain ⟨c, h1, h2, h3⟩ := hno _ h; exact ⟨c, h1, hle.imp_right (fun h => by omega), h3⟩
     ·skip
      refine cw_skip (nrm_block (nrm_then ?_))
      refine cw_region ?_
      refine wl_m ?_
      refine wl_val rfl (ex_add_i64 rfl rfl (by omega) (by omega)) ?_
      refine wl_a ?_
      refine wl_nil (nrm_same ?_)
      refine ⟨⟨k + 1, ra, rc⟩, ?_, ⟨rfl, rfl, trivial⟩, ⟨rfl, rfl, rfl, rfl, rfl, trivial⟩, hE47, ?_⟩
      · (try dsimp only); exact cntNo_lt (fun j _ h => (btw_succ hge).2 (.inl h)) (by obtain ⟨j, h1, h2, h3⟩ := hbz.1 (by simpa using hc48); exact ⟨j, h1, (btw_succ hge).2 (.inr h2), h3⟩)
      ·skip
       try dsimp only
       have hdec : cntNo (H.rs.length + 1) (Btw R least (k + 1) i) < cntNo (H.rs.length + 1) (Btw R least k i) := cntNo_lt (fun j _ h => (btw_succ hge).2 (.inl h)) (by obtain ⟨j, h1, h2, h3⟩ := hbz.1 (by simpa using hc48); exact ⟨j, h1, (btw_succ hge).2 (.inr h2), h3⟩)
       exact ⟨by show least ≤ k + 1; omega, by show most = -1 ∨ ((k + 1 : Nat) : Int) ≤ most; first | (left; omega) | (right; omega), by show k + 1 + cntNo (H.rs.length + 1) (Btw R least (k + 1) i) ≤ least + H.rs.length + 1; omega, hS3, hnw3, hO4⟩
    ·skip
     refine cw_exit (ex_then (ex_then (ex_here (nrm_then ?_))))
     refine cw_seq ?_
     refine cw_region ?_
     refine wl_m ?_
     refine wl_a ?_
     refine wl_nil (nrm_then ?_)
     refine cw_ret (body_ret1 rfl rfl ?_)
     refine ⟨hV33, hsh.less, _, _, _, rfl, ?_, hgoo⟩
     rw [bl_congr (g := Btw R least k i) (fun j _ => ⟨fun ⟨c, h1, h2, h3⟩ => ⟨c, h1, by omega, h3⟩, fun ⟨c, h1, h2, h3⟩ => ⟨c, h1, by omega, h3⟩⟩)]
     exact hown

end Go.Proofs.Ytgboffefbpligaa
