import Derived.Test.YtclmkppiolfgbaaDoorKl
namespace Go.Proofs.YtclmkppiolfgbaaDoor
open Go.Proofs
open Go.W
attribute [local irreducible] Decidable.decide i64 u64
set_option linter.unusedSimpArgs false
set_option linter.unusedVariables false
theorem Tryd.build41 : Build Tryd.prog 41 #[(0, 1), (1, 1), (2, 1)] #[.int .i64 0, .float .f64 0, .bool false] := ⟨_, .agg #[.int .i64 0, .float .f64 0, .bool false], Tryd.underlying41, by kernel_rfl, rfl, fun w => by kernel_rfl⟩
theorem Tryd.build90 : Build Tryd.prog 90 #[(0, 1), (1, 1), (2, 1)] #[.slice none 0 0, .int .i64 0, .bool false] := ⟨_, .agg #[.slice none 0 0, .int .i64 0, .bool false], Tryd.underlying90, by kernel_rfl, rfl, fun w => by kernel_rfl⟩
theorem Tryd.goes12 : Goes Tryd.prog 12 := ⟨_, Tryd.func12, by kernel_rfl, by kernel_rfl⟩
theorem Tryd.goes39 : Goes Tryd.prog 39 := ⟨_, Tryd.func39, by kernel_rfl, by kernel_rfl⟩
theorem Tryd.goes40 : Goes Tryd.prog 40 := ⟨_, Tryd.func40, by kernel_rfl, by kernel_rfl⟩
theorem Tryd.goes41 : Goes Tryd.prog 41 := ⟨_, Tryd.func41, by kernel_rfl, by kernel_rfl⟩


/-! ### The reference's reading -/
def rval (B : List Bool) (f : Frm) (r : Rd) : Nat × Bool × Frm × Rd :=
  if (ones B r 3).1 = 0 then (0, false, f, (ones B r 3).2)
  else if (ones B r 3).1 = 1 then
    if f.is = true then ((get B (ones B r 3).2 (64 - f.l - f.r)).1 * 2 ^ f.r % 18446744073709551616, false, f, (get B (ones B r 3).2 (64 - f.l - f.r)).2)
    else (0, false, f, ⟨(ones B r 3).2.at', true⟩)
  else if (ones B r 3).1 = 2 then
    if 64 < (get B (ones B r 3).2 6).1 + ((get B (get B (ones B r 3).2 6).2 6).1 + 1) then (0, false, f, ⟨(get B (get B (ones B r 3).2 6).2 6).2.at', true⟩)
    else ((get B (get B (get B (ones B r 3).2 6).2 6).2 ((get B (get B (ones B r 3).2 6).2 6).1 + 1)).1 * 2 ^ (64 - (get B (ones B r 3).2 6).1 - ((get B (get B (ones B r 3).2 6).2 6).1 + 1)) % 18446744073709551616, false,
      ⟨true, (get B (ones B r 3).2 6).1, 64 - (get B (ones B r 3).2 6).1 - ((get B (get B (ones B r 3).2 6).2 6).1 + 1)⟩, (get B (get B (get B (ones B r 3).2 6).2 6).2 ((get B (get B (ones B r 3).2 6).2 6).1 + 1)).2)
  else (0, true, f, (ones B r 3).2)
section
variable {B : List Bool} {f : Frm} {r : Rd}
theorem rval_0 (h : (ones B r 3).1 = 0) : rval B f r = (0, false, f, (ones B r 3).2) := by unfold rval; rw [if_pos h]
theorem rval_1f (h : (ones B r 3).1 = 1) (hf : ¬ f.is = true) : rval B f r = (0, false, f, ⟨(ones B r 3).2.at', true⟩) := by unfold rval; rw [if_neg (by omega), if_pos h, if_neg hf]
theorem rval_1 (h : (ones B r 3).1 = 1) (hf : f.is = true) : rval B f r = ((get B (ones B r 3).2 (64 - f.l - f.r)).1 * 2 ^ f.r % 18446744073709551616, false, f, (get B (ones B r 3).2 (64 - f.l - f.r)).2) := by unfold rval; rw [if_neg (by omega), if_pos h, if_pos hf]
theorem rval_2f (h : (ones B r 3).1 = 2) {g k : Nat × Rd} (hg : get B (ones B r 3).2 6 = g) (hk : get B g.2 6 = k) (hl : 64 < g.1 + (k.1 + 1)) : rval B f r = (0, false, f, ⟨k.2.at', true⟩) := by
  subst hg hk; unfold rval; rw [if_neg (by omega), if_neg (by omega), if_pos h, if_pos hl]
theorem rval_2 (h : (ones B r 3).1 = 2) {g k q : Nat × Rd} (hg : get B (ones B r 3).2 6 = g) (hk : get B g.2 6 = k) (hl : ¬ 64 < g.1 + (k.1 + 1)) (hq : get B k.2 (k.1 + 1) = q) : rval B f r = (q.1 * 2 ^ (64 - g.1 - (k.1 + 1)) % 18446744073709551616, false, ⟨true, g.1, 64 - g.1 - (k.1 + 1)⟩, q.2) := by
  subst hg hk hq; unfold rval; rw [if_neg (by omega), if_neg (by omega), if_pos h, if_neg hl]
theorem rval_3 (h : ¬ (ones B r 3).1 = 0) (h1 : ¬ (ones B r 3).1 = 1) (h2 : ¬ (ones B r 3).1 = 2) : rval B f r = (0, true, f, (ones B r 3).2) := by unfold rval; rw [if_neg h, if_neg h1, if_neg h2]
theorem rval_ok (hf : f.l + f.r ≤ 64) (ha : r.at' ≤ B.length) : (rval B f r).1 < 18446744073709551616 ∧ (rval B f r).2.2.1.l + (rval B f r).2.2.1.r ≤ 64 ∧ (rval B f r).2.2.2.at' ≤ B.length := by
  have ho := ones_at (k := 3) ha
  unfold rval
  split
  · exact ⟨by simp, hf, ho⟩
  · split
    · split
      · exact ⟨Nat.mod_lt _ (by omega), hf, get_at ho _⟩
      · exact ⟨by simp, hf, ho⟩
    · split
      · split
        · exact ⟨by simp, hf, get_at (get_at ho 6) 6⟩
        · exact ⟨Nat.mod_lt _ (by omega), by dsimp only; omega, get_at (get_at (get_at ho 6) 6) _⟩
      · exact ⟨by simp, hf, ho⟩
end
def rstep (B : List Bool) (z : Stt) (r : Rd) : Smp × Stt × Rd :=
  (if (rval B z.f (rhead B z r).2.2).2.1 = true then ⟨(rhead B z r).1, 0, true⟩ else ⟨(rhead B z r).1, z.b ^^^ (rval B z.f (rhead B z r).2.2).1, false⟩,
   ⟨z.n + 1, (rhead B z r).1, (rhead B z r).2.1, z.b ^^^ (rval B z.f (rhead B z r).2.2).1, (rval B z.f (rhead B z r).2.2).2.2.1⟩, (rval B z.f (rhead B z r).2.2).2.2.2)
theorem rstep_t {B : List Bool} {z : Stt} {r : Rd} (h : (rval B z.f (rhead B z r).2.2).2.1 = true) : rstep B z r = (⟨(rhead B z r).1, 0, true⟩,
   ⟨z.n + 1, (rhead B z r).1, (rhead B z r).2.1, z.b ^^^ (rval B z.f (rhead B z r).2.2).1, (rval B z.f (rhead B z r).2.2).2.2.1⟩, (rval B z.f (rhead B z r).2.2).2.2.2) := by unfold rstep; rw [if_pos h]
theorem rstep_f {B : List Bool} {z : Stt} {r : Rd} (h : (rval B z.f (rhead B z r).2.2).2.1 = false) : rstep B z r = (⟨(rhead B z r).1, z.b ^^^ (rval B z.f (rhead B z r).2.2).1, false⟩,
   ⟨z.n + 1, (rhead B z r).1, (rhead B z r).2.1, z.b ^^^ (rval B z.f (rhead B z r).2.2).1, (rval B z.f (rhead B z r).2.2).2.2.1⟩, (rval B z.f (rhead B z r).2.2).2.2.2) := by unfold rstep; rw [if_neg (by simp [h])]
theorem rstep_eq {B : List Bool} {z : Stt} {r : Rd} (h : (rsmp B z r).2.1 = true) : rstep B z r = ((rsmp B z r).1, (rsmp B z r).2.2.1, (rsmp B z r).2.2.2) := by
  have hl := ones_le B 3 (rhead B z r).2.2
  rcases show (ones B (rhead B z r).2.2 3).1 = 0 ∨ (ones B (rhead B z r).2.2 3).1 = 1 ∨ (ones B (rhead B z r).2.2 3).1 = 2 ∨ (ones B (rhead B z r).2.2 3).1 = 3 by omega with h0 | h0 | h0 | h0
  · have e := rval_0 (f := z.f) h0
    rw [rstep_f (by rw [e]), e, rsmp_0 h0]; simp
  · cases hf : z.f.is with
    | false => rw [rsmp_1f h0 hf] at h; cases h
    | true =>
      have e := rval_1 (f := z.f) h0 hf
      rw [rstep_f (by rw [e]), e, rsmp_1 h0 hf rfl rfl]
  · by_cases hb : 64 < (get B (ones B (rhead B z r).2.2 3).2 6).1 + ((get B (get B (ones B (rhead B z r).2.2 3).2 6).2 6).1 + 1)
    · rw [rsmp_2f h0 rfl rfl hb] at h; cases h
    · have e := rval_2 (f := z.f) h0 rfl rfl hb rfl
      rw [rstep_f (by rw [e]), e, rsmp_2 h0 rfl rfl hb rfl rfl]
      simp only [show 64 - (get B (ones B (rhead B z r).2.2 3).2 6).1 - (64 - (get B (ones B (rhead B z r).2.2 3).2 6).1 - ((get B (get B (ones B (rhead B z r).2.2 3).2 6).2 6).1 + 1)) = (get B (get B (ones B (rhead B z r).2.2 3).2 6).2 6).1 + 1 by omega]
  · have e := rval_3 (f := z.f) (show ¬ (ones B (rhead B z r).2.2 3).1 = 0 by omega) (by omega) (by omega)
    rw [rstep_t (by rw [e]), e, rsmp_3 h0]; simp
def runR (B : List Bool) (r0 : Rd) : Nat → List Smp × Stt × Rd
  | 0 => ([], Stt.zero, r0)
  | j + 1 => ((runR B r0 j).1 ++ [(rstep B (runR B r0 j).2.1 (runR B r0 j).2.2).1], (rstep B (runR B r0 j).2.1 (runR B r0 j).2.2).2)
theorem runR_succ {B : List Bool} {r0 : Rd} {j : Nat} {l : List Smp} {z : Stt} {r : Rd} (h : runR B r0 j = (l, z, r)) {x : Smp × Stt × Rd} (hx : rstep B z r = x) : runR B r0 (j + 1) = (l ++ [x.1], x.2) := by simp only [runR, h, hx]
theorem runR_run {B : List Bool} {r0 : Rd} : ∀ {j : Nat} {x : List Smp × Stt × Rd}, run B r0 j = some x → runR B r0 j = x
  | 0, x, h => by simp only [run, Option.some.injEq] at h; rw [← h]; rfl
  | j + 1, x, h => by
    unfold run at h
    split at h
    · rename_i y hy
      split at h
      · cases h
      · rename_i hn
        have hb : (rsmp B y.2.1 y.2.2).2.1 = true := by
          cases h1 : (rsmp B y.2.1 y.2.2).2.1 with
          | true => rfl
          | false => exact absurd (.inl h1) hn
        have := runR_run hy
        rw [← Option.some.inj h]
        simp only [runR, this, rstep_eq hb]
    · cases h
theorem runR_out {bs : List Nat} {s : List Smp} (hs : Valid s) (hp : Packs bs (form s)) {k : Nat} (hk : k ≤ (get (unpk bs) ⟨0, false⟩ 17).1) : runR (unpk bs) (get (unpk bs) ⟨0, false⟩ 17).2 k = ((s.take k).map canon, stAt s k, ⟨(bitsTo s k).length, false⟩) := by
  rw [head_spec hs hp] at hk ⊢
  exact runR_run (run_all hs hp k hk)
theorem unpR_bad {bs : List Nat} {k : Nat} {l : List Smp} {z : Stt} {q : Rd} (hr : runR (unpk bs) (get (unpk bs) ⟨0, false⟩ 17).2 k = (l, z, q)) (hk : k ≤ (get (unpk bs) ⟨0, false⟩ 17).1) (h : q.sh = true) : NoForm bs := fun ⟨s, hs, hp⟩ => by
  rw [runR_out hs hp hk] at hr
  rw [← congrArg (fun x => x.2.2.sh) hr] at h
  cases h
theorem unpR_end {bs : List Nat} {l : List Smp} {z : Stt} {q : Rd} (hr : runR (unpk bs) (get (unpk bs) ⟨0, false⟩ 17).2 (get (unpk bs) ⟨0, false⟩ 17).1 = (l, z, q)) : ∀ s, Valid s → Packs bs (form s) → l = s.map canon := fun s hs hp => by
  rw [runR_out hs hp (Nat.le_refl _)] at hr
  have h1 := congrArg Prod.fst hr
  dsimp only at h1
  rw [← h1, head_spec hs hp]
  simp
theorem unpR_yes {bs : List Nat} {l : List Smp} {e : Int} (h : ∀ s, Valid s → Packs bs (form s) → l = s.map canon) (hok : ∀ s, s ∈ l → s.Ok) (k : PackIs l bs e) (he : e = 0) : UnpackIs bs l 0 := by
  have k0 := k
  subst he
  rcases k with ⟨_, _, k⟩ | ⟨_, _, _, k⟩ | ⟨k1, k2, k3, _⟩
  · cases k
  · cases k
  · have hl := h l ⟨k1, k2, hok⟩ k3
    refine unp_yes hok (fun s hs => ?_) k0 rfl
    rw [hl] at hs
    obtain ⟨x, _, rfl⟩ := List.mem_map.1 hs
    exact canon_canon x
structure RunRok (B : List Bool) (j : Nat) (x : List Smp × Stt × Rd) : Prop where
  len : x.1.length = j
  ok : ∀ s, s ∈ x.1 → s.Ok
  z : x.2.1.Ok
  n : x.2.1.n = j
  a : x.2.2.at' ≤ B.length
theorem RunRok.zero {B : List Bool} {r : Rd} (ha : r.at' ≤ B.length) : RunRok B 0 ([], Stt.zero, r) where
  len := rfl
  ok := fun _ h => by cases h
  z := Stt.zero_ok
  n := rfl
  a := ha
theorem RunRok.succ {B : List Bool} {j : Nat} {l : List Smp} {z : Stt} {r : Rd} (h : RunRok B j (l, z, r)) {x : Smp × Stt × Rd} (hx : rstep B z r = x) : RunRok B (j + 1) (l ++ [x.1], x.2) := by
  have e1 := h.len
  have e2 := h.n
  have hz := h.z
  have ha := h.a
  simp only at e1 e2 hz ha
  obtain ⟨g1, g2, g3⟩ := rhead_rng (z := z) ha
  obtain ⟨v1, v2, v3⟩ := rval_ok hz.f g3
  have hb := xor_lt hz.b v1
  have hso : x.1.Ok := by
    rw [← hx]; unfold rstep; dsimp only
    split
    · exact ⟨g1, by simp⟩
    · exact ⟨g1, hb⟩
  constructor
  · simp only [List.length_append, List.length_cons, List.length_nil]; omega
  · intro s hs
    rcases List.mem_append.1 hs with hs | hs
    · exact h.ok s hs
    · rw [List.mem_singleton] at hs; rw [hs]; exact hso
  · rw [← hx]; exact ⟨hb, v2, g2, g1⟩
  · rw [← hx]; show z.n + 1 = j + 1; rw [e2]
  · rw [← hx]; exact v3

theorem rval_w {X : List Nat} {w : World} {br : Nat} {U : TypeId} {sv : Value} {bs : List Nat} {r : Rd} {f : Frm} (hf : f.l + f.r ≤ 64) (hB0 : w.heap[br]? = some (.cells (rv sv r).toArray U (0, 0))) (hs : RSl 1 RB X w sv bs) (hx : br ∈ X) (hl : bs.length ≤ 140737488355328) (ha : r.at' ≤ 8 * bs.length) :
    Calls Tryd.prog 40 #[.pointer (some ⟨br, 0, none⟩), .agg #[.bool f.is, .int .i64 f.l, .int .i64 f.r]] w (Ret fun v w' => v = .tuple #[.int .u64 (rval (unpk bs) f r).1, .bool (rval (unpk bs) f r).2.1, .agg #[.bool (rval (unpk bs) f r).2.2.1.is, .int .i64 (rval (unpk bs) f r).2.2.1.l, .int .i64 (rval (unpk bs) f r).2.2.1.r]] ∧ w'.heap[br]? = some (.cells (rv sv (rval (unpk bs) f r).2.2.2).toArray U (0, 0)) ∧ Evo [br] w w') := by
  have hol := ones_le (unpk bs) 3 r
  have hoa := ones_at8 ha 3
  have hmX : ∀ y, y ∈ [br] → y ∈ X := fun y hy => by rw [List.mem_singleton.1 hy]; exact hx
  refine calls_of_cw (N := 67) Tryd.func40 rfl rfl rfl ?_
  refine cw_seq ?_
  refine cw_region ?_
  refine wl_boxA rfl rfl fun b1 w2 hB3 hs4 hw5 => ?_
  have hA6 := Apart.new (Lt.blk hB0) hs4
  have hG7 := Ge.new (Evo.refl [br] w) hs4
  have hE8 := (Evo.refl [br] w).then hw5
  have hB9 := hw5.blk0 hB0
  refine wl_val rfl (ex_assign rfl) ?_
  refine wl_val rfl (ex_assign rfl) ?_
  refine wl_alloc rfl Tryd.zero92 fun b10 w11 hB12 hs13 hw14 => ?_
  have hA15 := Apart.new (Lt.blk hB9) hs13
  have hA16 := Apart.new (Lt.blk hB3) hs13
  have hG17 := Ge.new hE8 hs13
  have hE18 := hE8.then hw14
  have hB19 := hw14.blk0 hB9
  have hB20 := hw14.blk0 hB3
  refine wl_nil (nrm_then ?_)
  refine cw_seq ?_
  refine cw_seq ?_
  refine cw_region ?_
  refine wl_val rfl (ex_move rfl) ?_
  refine wl_call1 (vs := [_, _]) Tryd.goes53 rfl (rones_ok hB19 (RSl.evo RB.pers ((hE18).mono hmX) hs) hx hl ha 3 (by omega)) rfl ?_
  rintro _ w21 ⟨rfl, hR1, hw22⟩
  have hE23 := hE18.step hw22 (fun y hy => .inl (by simp at hy; simp [hy]))
  have hB24 := hw22.blk hB20 hA6.symm.nmem1
  have hB25 := hw22.blk hB12 hA15.symm.nmem1
  refine wl_nil (nrm_then ?_)
  refine cw_block ?_
  refine cw_seq ?_
  refine cw_region ?_
  refine wl_val rfl (ex_eql rfl rfl) ?_
  refine wl_val rfl (ex_assign rfl) ?_
  refine wl_nil (nrm_then ?_)
  refine cw_if rfl (fun hc12 => ?_) (fun hc12 => ?_)
  · skip
    refine cw_seq ?_
    refine cw_any (fun w0 w' => Evo [] w0 w') (by kernel_rfl) (fun w26 hw27 => ?_)
    have hE28 := hE23.then hw27
    have hB29 := hw27.blk0 hR1
    have hB30 := hw27.blk0 hB24
    have hB31 := hw27.blk0 hB25
    refine ae_take 0 rfl (by kernel_rfl) (by kernel_rfl) (by kernel_rfl) rfl (fun _ hS => ex_loadBlk rfl Tryd.agg92 Tryd.size92 (hS.blk0 hB30) rfl) (Evo.refl [] w26) ?_
    refine ae_take 1 rfl (by kernel_rfl) (by kernel_rfl) (by kernel_rfl) rfl (fun _ hS => ex_assign rfl) (Evo.refl [] w26) ?_
    refine ae_take 2 rfl (by kernel_rfl) (by kernel_rfl) (by kernel_rfl) rfl (fun _ hS => ex_assign rfl) (Evo.refl [] w26) ?_
    refine ae_loud [3] (by kernel_rfl) rfl ⟨?_, trivial⟩
    refine a_step rfl ?_
    refine wl_storeBlk rfl rfl Tryd.size92 hB31 rfl rfl ⟨by first | rfl | assumption, by first | rfl | assumption, by first | rfl | assumption, trivial⟩ fun w32 hB33 hw34 => ?_
    have hE35 := hE28.step hw34 hG17.mem1
    have hB37 := hw34.blk hB29 hA15.nmem1
    have hB38 := hw34.blk hB30 hA16.nmem1
    try simp only [List.setIfInBounds_toArray, List.set_cons_zero, List.set_cons_succ, Nat.reduceAdd, Nat.zero_add, Nat.add_zero] at hB33
    refine wl_nil (ae_next (.inr (by kernel_rfl)) ?_)
    refine ae_done (by kernel_rfl) (nrm_then ?_)
    refine cw_ret (ret_block (ret_then (body_retC3 rfl (ResOk.tmp rfl) (ResOk.tmp rfl) (ResOk.cellA rfl Tryd.agg92 Tryd.size92 hB33 rfl) ?_)))
    rw [rval_0 (by omega)]
    exact ⟨rfl, hB37, hE35⟩
  · skip
    refine cw_seq ?_
    refine cw_region ?_
    refine wl_val rfl (ex_eql rfl rfl) ?_
    refine wl_val rfl (ex_assign rfl) ?_
    refine wl_nil (nrm_then ?_)
    refine cw_if rfl (fun hc15 => ?_) (fun hc15 => ?_)
    · skip
      refine cw_seq ?_
      refine cw_seq ?_
      refine cw_region ?_
      refine wl_val rfl (ex_fieldAddr rfl Tryd.fld92_0) ?_
      refine wl_val rfl (ex_load1 rfl Tryd.agg4 (cell_nth hB24 rfl)) ?_
      refine wl_val rfl (ex_notb rfl) ?_
      refine wl_nil (nrm_then ?_)
      refine cw_ifb rfl (fun hc19 => ?_) (fun hc19 => ?_)
      · skip
        refine cw_seq ?_
        refine cw_region ?_
        refine wl_val rfl (ex_move rfl) ?_
        refine wl_val rfl (ex_nilCheck rfl) ?_
        refine wl_val rfl (ex_fieldAddr rfl Tryd.fld90_2) ?_
        refine wl_store1 rfl rfl (by first | rfl | assumption) Tryd.size4 hR1 rfl fun w39 hB40 hw41 => ?_
        have hE42 := hE23.step hw41 (fun y hy => .inl (by simp at hy; simp [hy]))
        have hB43 := hw41.blk hB24 hA6.symm.nmem1
        have hB44 := hw41.blk hB25 hA15.symm.nmem1
        try simp only [List.setIfInBounds_toArray, List.set_cons_zero, List.set_cons_succ, Nat.reduceAdd, Nat.zero_add, Nat.add_zero] at hB40
        refine wl_nil (nrm_then ?_)
        refine cw_seq ?_
        refine cw_any (fun w0 w' => Evo [] w0 w') (by kernel_rfl) (fun w45 hw46 => ?_)
        have hE47 := hE42.then hw46
        have hB48 := hw46.blk0 hB40
        have hB49 := hw46.blk0 hB43
        have hB50 := hw46.blk0 hB44
        refine ae_take 0 rfl (by kernel_rfl) (by kernel_rfl) (by kernel_rfl) rfl (fun _ hS => ex_loadBlk rfl Tryd.agg92 Tryd.size92 (hS.blk0 hB49) rfl) (Evo.refl [] w45) ?_
        refine ae_take 1 rfl (by kernel_rfl) (by kernel_rfl) (by kernel_rfl) rfl (fun _ hS => ex_assign rfl) (Evo.refl [] w45) ?_
        refine ae_take 2 rfl (by kernel_rfl) (by kernel_rfl) (by kernel_rfl) rfl (fun _ hS => ex_assign rfl) (Evo.refl [] w45) ?_
        refine ae_loud [3] (by kernel_rfl) rfl ⟨?_, trivial⟩
        refine a_step rfl ?_
        refine wl_storeBlk rfl rfl Tryd.size92 hB50 rfl rfl ⟨by first | rfl | assumption, by first | rfl | assumption, by first | rfl | assumption, trivial⟩ fun w51 hB52 hw53 => ?_
        have hE54 := hE47.step hw53 hG17.mem1
        have hB56 := hw53.blk hB48 hA15.nmem1
        have hB57 := hw53.blk hB49 hA16.nmem1
        try simp only [List.setIfInBounds_toArray, List.set_cons_zero, List.set_cons_succ, Nat.reduceAdd, Nat.zero_add, Nat.add_zero] at hB52
        refine wl_nil (ae_next (.inr (by kernel_rfl)) ?_)
        refine ae_done (by kernel_rfl) (nrm_then ?_)
        refine cw_ret (ret_then (ret_block (ret_then (body_retC3 rfl (ResOk.tmp rfl) (ResOk.tmp rfl) (ResOk.cellA rfl Tryd.agg92 Tryd.size92 hB52 rfl) ?_))))
        rw [rval_1f (by omega) (by simpa using hc19)]
        exact ⟨rfl, hB56, hE54⟩
      · skip
        refine cw_skip (nrm_then ?_)
        refine cw_seq ?_
        refine cw_any (fun w0 w' => Evo [br] w0 w') (by kernel_rfl) (fun w58 hw59 => ?_)
        have hE60 := hE23.then hw59
        have hB61 := hw59.blk0 hR1
        have hB62 := hw59.blk0 hB24
        have hB63 := hw59.blk0 hB25
        refine ae_take 0 rfl (by kernel_rfl) (by kernel_rfl) (by kernel_rfl) rfl (fun _ hS => ex_move rfl) (Evo.refl [br] w58) ?_
        refine ae_take 1 rfl (by kernel_rfl) (by kernel_rfl) (by kernel_rfl) rfl (fun _ hS => ex_fieldAddr rfl Tryd.fld92_1) (Evo.refl [br] w58) ?_
        refine ae_take 2 rfl (by kernel_rfl) (by kernel_rfl) (by kernel_rfl) rfl (fun _ hS => ex_load1 rfl Tryd.agg3 (cell_nth (hS.blk hB62 (hA6.symm.nmem1)) rfl)) (Evo.refl [br] w58) ?_
        refine ae_take 3 rfl (by kernel_rfl) (by kernel_rfl) (by kernel_rfl) rfl (fun _ hS => ex_sub_i64 rfl rfl (by omega) (by omega)) (Evo.refl [br] w58) ?_
        refine ae_take 4 rfl (by kernel_rfl) (by kernel_rfl) (by kernel_rfl) rfl (fun _ hS => ex_fieldAddr rfl Tryd.fld92_2) (Evo.refl [br] w58) ?_
        refine ae_take 5 rfl (by kernel_rfl) (by kernel_rfl) (by kernel_rfl) rfl (fun _ hS => ex_load1 rfl Tryd.agg3 (cell_nth (hS.blk hB62 (hA6.symm.nmem1)) rfl)) (Evo.refl [br] w58) ?_
        refine ae_take 6 rfl (by kernel_rfl) (by kernel_rfl) (by kernel_rfl) rfl (fun _ hS => ex_sub_i64 rfl rfl (by omega) (by omega)) (Evo.refl [br] w58) ?_
        rw [show ((64 : Int) - (f.l : Nat) - (f.r : Nat)) = ((64 - f.l - f.r : Nat) : Int) by omega]
        refine ae_take 8 rfl (by kernel_rfl) (by kernel_rfl) (by kernel_rfl) rfl (fun _ hS => ex_fieldAddr rfl Tryd.fld92_2) (Evo.refl [br] w58) ?_
        refine ae_take 9 rfl (by kernel_rfl) (by kernel_rfl) (by kernel_rfl) rfl (fun _ hS => ex_load1 rfl Tryd.agg3 (cell_nth (hS.blk hB62 (hA6.symm.nmem1)) rfl)) (Evo.refl [br] w58) ?_
        refine ae_take 11 rfl (by kernel_rfl) (by kernel_rfl) (by kernel_rfl) rfl (fun _ hS => ex_loadBlk rfl Tryd.agg92 Tryd.size92 (hS.blk hB62 (hA6.symm.nmem1)) rfl) (Evo.refl [br] w58) ?_
        refine ae_loud [7] (by kernel_rfl) rfl ⟨?_, trivial⟩
        refine a_step rfl ?_
        refine wl_call1 (vs := [_, _]) Tryd.goes38 rfl (take_ok hB61 (RSl.evo RB.pers ((hE60).mono hmX) hs) hx hl hoa (64 - f.l - f.r) (by omega)) rfl ?_
        rintro _ w64 ⟨rfl, hR2, hw65⟩
        have hE66 := hE60.step hw65 (fun y hy => .inl (by simp at hy; simp [hy]))
        have hE67 := (Evo.refl [br] w58).step hw65 (fun y hy => .inl (by simp at hy; simp [hy]))
        have hB68 := hw65.blk hB62 hA6.symm.nmem1
        have hB69 := hw65.blk hB63 hA15.symm.nmem1
        refine wl_nil (ae_next (.inl hE67) ?_)
        refine ae_take 10 rfl (by kernel_rfl) (by kernel_rfl) (by kernel_rfl) rfl (fun _ hS => ex_shlN (m := (get (unpk bs) (ones (unpk bs) r 3).2 (64 - f.l - f.r)).1) (n := f.r) rfl rfl (by first | rfl | omega) (by first | rfl | omega) (by first | exact Nat.le_of_ble_eq_true rfl | (simp only [IntKind.bits]; omega)) rfl) hE67 ?_
        rw [show (2 : Nat) ^ IntKind.u64.bits = 18446744073709551616 from rfl]
        refine ae_take 12 rfl (by kernel_rfl) (by kernel_rfl) (by kernel_rfl) rfl (fun _ hS => ex_assign rfl) hE67 ?_
        refine ae_take 13 rfl (by kernel_rfl) (by kernel_rfl) (by kernel_rfl) rfl (fun _ hS => ex_assign rfl) hE67 ?_
        refine ae_loud [14] (by kernel_rfl) rfl ⟨?_, trivial⟩
        refine a_step rfl ?_
        refine wl_storeBlk rfl rfl Tryd.size92 hB69 rfl rfl ⟨by first | rfl | assumption, by first | rfl | assumption, by first | rfl | assumption, trivial⟩ fun w70 hB71 hw72 => ?_
        have hE73 := hE66.step hw72 hG17.mem1
        have hB75 := hw72.blk hR2 hA15.nmem1
        have hB76 := hw72.blk hB68 hA16.nmem1
        try simp only [List.setIfInBounds_toArray, List.set_cons_zero, List.set_cons_succ, Nat.reduceAdd, Nat.zero_add, Nat.add_zero] at hB71
        refine wl_nil (ae_next (.inr (by kernel_rfl)) ?_)
        refine ae_done (by kernel_rfl) (nrm_then ?_)
        refine cw_ret (ret_block (ret_then (body_retC3 rfl (ResOk.tmp rfl) (ResOk.tmp rfl) (ResOk.cellA rfl Tryd.agg92 Tryd.size92 hB71 rfl) ?_)))
        rw [rval_1 (by omega) (by simpa using hc19)]
        exact ⟨rfl, hB75, hE73⟩
    · skip
      refine cw_seq ?_
      refine cw_region ?_
      refine wl_val rfl (ex_eql rfl rfl) ?_
      refine wl_val rfl (ex_assign rfl) ?_
      refine wl_nil (nrm_then ?_)
      refine cw_if rfl (fun hc36 => ?_) (fun hc36 => ?_)
      · skip
        refine cw_seq ?_
        refine cw_region ?_
        refine wl_val rfl (ex_move rfl) ?_
        refine wl_call1 (vs := [_, _]) Tryd.goes38 rfl (take_ok hR1 (RSl.evo RB.pers ((hE23).mono hmX) hs) hx hl hoa 6 (by omega)) rfl ?_
        rintro _ w77 ⟨rfl, hR3, hw78⟩
        have hE79 := hE23.step hw78 (fun y hy => .inl (by simp at hy; simp [hy]))
        have hB80 := hw78.blk hB24 hA6.symm.nmem1
        have hB81 := hw78.blk hB25 hA15.symm.nmem1
        refine wl_val rfl (ex_convI rfl Tryd.underlying72 Tryd.underlying3) ?_
        have hg1 := get_lt (unpk bs) (ones (unpk bs) r 3).2 6
        rw [i64_of (n := (((get (unpk bs) (ones (unpk bs) r 3).2 6).1 : Nat) : Int)) (by omega) (by omega)]
        refine wl_val rfl (ex_assign rfl) ?_
        refine wl_nil (nrm_then ?_)
        refine cw_seq ?_
        refine cw_region ?_
        refine wl_val rfl (ex_move rfl) ?_
        refine wl_call1 (vs := [_, _]) Tryd.goes38 rfl (take_ok hR3 (RSl.evo RB.pers ((hE79).mono hmX) hs) hx hl (get_at8 hoa 6) 6 (by omega)) rfl ?_
        rintro _ w82 ⟨rfl, hR4, hw83⟩
        have hE84 := hE79.step hw83 (fun y hy => .inl (by simp at hy; simp [hy]))
        have hB85 := hw83.blk hB80 hA6.symm.nmem1
        have hB86 := hw83.blk hB81 hA15.symm.nmem1
        refine wl_val rfl (ex_convI rfl Tryd.underlying72 Tryd.underlying3) ?_
        have hg2 := get_lt (unpk bs) (get (unpk bs) (ones (unpk bs) r 3).2 6).2 6
        rw [i64_of (n := (((get (unpk bs) (get (unpk bs) (ones (unpk bs) r 3).2 6).2 6).1 : Nat) : Int)) (by omega) (by omega)]
        refine wl_val rfl (ex_add_i64 rfl rfl (by omega) (by omega)) ?_
        refine wl_val rfl (ex_assign rfl) ?_
        refine wl_nil (nrm_then ?_)
        refine cw_seq ?_
        refine cw_seq ?_
        refine cw_region ?_
        refine wl_val rfl (ex_move rfl) ?_
        refine wl_val rfl (ex_move rfl) ?_
        refine wl_val rfl (ex_add_i64 rfl rfl (by omega) (by omega)) ?_
        refine wl_val rfl (ex_gtr rfl rfl) ?_
        refine wl_nil (nrm_then ?_)
        refine cw_if rfl (fun hc48 => ?_) (fun hc48 => ?_)
        · skip
          refine cw_seq ?_
          refine cw_region ?_
          refine wl_val rfl (ex_move rfl) ?_
          refine wl_val rfl (ex_nilCheck rfl) ?_
          refine wl_val rfl (ex_fieldAddr rfl Tryd.fld90_2) ?_
          refine wl_store1 rfl rfl (by first | rfl | assumption) Tryd.size4 hR4 rfl fun w87 hB88 hw89 => ?_
          have hE90 := hE84.step hw89 (fun y hy => .inl (by simp at hy; simp [hy]))
          have hB91 := hw89.blk hB85 hA6.symm.nmem1
          have hB92 := hw89.blk hB86 hA15.symm.nmem1
          try simp only [List.setIfInBounds_toArray, List.set_cons_zero, List.set_cons_succ, Nat.reduceAdd, Nat.zero_add, Nat.add_zero] at hB88
          refine wl_nil (nrm_then ?_)
          refine cw_seq ?_
          refine cw_any (fun w0 w' => Evo [] w0 w') (by kernel_rfl) (fun w93 hw94 => ?_)
          have hE95 := hE90.then hw94
          have hB96 := hw94.blk0 hB88
          have hB97 := hw94.blk0 hB91
          have hB98 := hw94.blk0 hB92
          refine ae_take 0 rfl (by kernel_rfl) (by kernel_rfl) (by kernel_rfl) rfl (fun _ hS => ex_loadBlk rfl Tryd.agg92 Tryd.size92 (hS.blk0 hB97) rfl) (Evo.refl [] w93) ?_
          refine ae_take 1 rfl (by kernel_rfl) (by kernel_rfl) (by kernel_rfl) rfl (fun _ hS => ex_assign rfl) (Evo.refl [] w93) ?_
          refine ae_take 2 rfl (by kernel_rfl) (by kernel_rfl) (by kernel_rfl) rfl (fun _ hS => ex_assign rfl) (Evo.refl [] w93) ?_
          refine ae_loud [3] (by kernel_rfl) rfl ⟨?_, trivial⟩
          refine a_step rfl ?_
          refine wl_storeBlk rfl rfl Tryd.size92 hB98 rfl rfl ⟨by first | rfl | assumption, by first | rfl | assumption, by first | rfl | assumption, trivial⟩ fun w99 hB100 hw101 => ?_
          have hE102 := hE95.step hw101 hG17.mem1
          have hB104 := hw101.blk hB96 hA15.nmem1
          have hB105 := hw101.blk hB97 hA16.nmem1
          try simp only [List.setIfInBounds_toArray, List.set_cons_zero, List.set_cons_succ, Nat.reduceAdd, Nat.zero_add, Nat.add_zero] at hB100
          refine wl_nil (ae_next (.inr (by kernel_rfl)) ?_)
          refine ae_done (by kernel_rfl) (nrm_then ?_)
          refine cw_ret (ret_then (ret_block (ret_then (body_retC3 rfl (ResOk.tmp rfl) (ResOk.tmp rfl) (ResOk.cellA rfl Tryd.agg92 Tryd.size92 hB100 rfl) ?_))))
          rw [rval_2f (by omega) rfl rfl (by omega)]
          exact ⟨rfl, hB104, hE102⟩
        · skip
          refine cw_skip (nrm_then ?_)
          refine cw_seq ?_
          refine cw_region ?_
          refine wl_val rfl (ex_move rfl) ?_
          refine wl_val rfl (ex_move rfl) ?_
          refine wl_val rfl (ex_sub_i64 rfl rfl (by omega) (by omega)) ?_
          refine wl_val rfl (ex_move rfl) ?_
          refine wl_val rfl (ex_sub_i64 rfl rfl (by omega) (by omega)) ?_
          rw [show ((64 : Int) - ((get (unpk bs) (ones (unpk bs) r 3).2 6).1 : Nat) - (((get (unpk bs) (get (unpk bs) (ones (unpk bs) r 3).2 6).2 6).1 : Nat) + 1)) = ((64 - (get (unpk bs) (ones (unpk bs) r 3).2 6).1 - ((get (unpk bs) (get (unpk bs) (ones (unpk bs) r 3).2 6).2 6).1 + 1) : Nat) : Int) by omega]
          refine wl_val rfl (ex_build (vs := [(0, _), (1, _), (2, _)]) Tryd.build92 rfl (cells := [_, _, _]) rfl) ?_
          refine wl_alloc rfl Tryd.zero92 fun b106 w107 hB108 hs109 hw110 => ?_
          have hA111 := Apart.new (Lt.blk hR4) hs109
          have hA112 := Apart.new (Lt.blk hB85) hs109
          have hA113 := Apart.new (Lt.blk hB86) hs109
          have hG114 := Ge.new hE84 hs109
          have hE115 := hE84.then hw110
          have hB116 := hw110.blk0 hR4
          have hB117 := hw110.blk0 hB85
          have hB118 := hw110.blk0 hB86
          refine wl_storeBlk rfl rfl Tryd.size92 hB108 rfl rfl ⟨by first | rfl | assumption, by first | rfl | assumption, by first | rfl | assumption, trivial⟩ fun w119 hB120 hw121 => ?_
          have hE122 := hE115.step hw121 hG114.mem1
          have hB123 := hw121.blk hB116 hA111.nmem1
          have hB124 := hw121.blk hB117 hA112.nmem1
          have hB125 := hw121.blk hB118 hA113.nmem1
          try simp only [List.setIfInBounds_toArray, List.set_cons_zero, List.set_cons_succ, Nat.reduceAdd, Nat.zero_add, Nat.add_zero] at hB120
          refine wl_nil (nrm_then ?_)
          refine cw_seq ?_
          refine cw_any (fun w0 w' => Evo [br] w0 w') (by kernel_rfl) (fun w126 hw127 => ?_)
          have hE128 := hE122.then hw127
          have hB129 := hw127.blk0 hB123
          have hB130 := hw127.blk0 hB124
          have hB131 := hw127.blk0 hB125
          have hB132 := hw127.blk0 hB120
          refine ae_take 0 rfl (by kernel_rfl) (by kernel_rfl) (by kernel_rfl) rfl (fun _ hS => ex_move rfl) (Evo.refl [br] w126) ?_
          refine ae_take 1 rfl (by kernel_rfl) (by kernel_rfl) (by kernel_rfl) rfl (fun _ hS => ex_move rfl) (Evo.refl [br] w126) ?_
          refine ae_take 3 rfl (by kernel_rfl) (by kernel_rfl) (by kernel_rfl) rfl (fun _ hS => ex_fieldAddr rfl Tryd.fld92_2) (Evo.refl [br] w126) ?_
          refine ae_take 4 rfl (by kernel_rfl) (by kernel_rfl) (by kernel_rfl) rfl (fun _ hS => ex_load1 rfl Tryd.agg3 (cell_nth (hS.blk hB132 (hA111.symm.nmem1)) rfl)) (Evo.refl [br] w126) ?_
          refine ae_take 6 rfl (by kernel_rfl) (by kernel_rfl) (by kernel_rfl) rfl (fun _ hS => ex_loadBlk rfl Tryd.agg92 Tryd.size92 (hS.blk hB132 (hA111.symm.nmem1)) rfl) (Evo.refl [br] w126) ?_
          refine ae_loud [2] (by kernel_rfl) rfl ⟨?_, trivial⟩
          refine a_step rfl ?_
          refine wl_call1 (vs := [_, _]) Tryd.goes38 rfl (take_ok hB129 (RSl.evo RB.pers ((hE128).mono hmX) hs) hx hl (get_at8 (get_at8 hoa 6) 6) ((get (unpk bs) (get (unpk bs) (ones (unpk bs) r 3).2 6).2 6).1 + 1) (by omega)) rfl ?_
          rintro _ w133 ⟨rfl, hR5, hw134⟩
          have hE135 := hE128.step hw134 (fun y hy => .inl (by simp at hy; simp [hy]))
          have hE136 := (Evo.refl [br] w126).step hw134 (fun y hy => .inl (by simp at hy; simp [hy]))
          have hB137 := hw134.blk hB130 hA6.symm.nmem1
          have hB138 := hw134.blk hB131 hA15.symm.nmem1
          have hB139 := hw134.blk hB132 hA111.symm.nmem1
          refine wl_nil (ae_next (.inl hE136) ?_)
          refine ae_take 5 rfl (by kernel_rfl) (by kernel_rfl) (by kernel_rfl) rfl (fun _ hS => ex_shlN (m := (get (unpk bs) (get (unpk bs) (get (unpk bs) (ones (unpk bs) r 3).2 6).2 6).2 ((get (unpk bs) (get (unpk bs) (ones (unpk bs) r 3).2 6).2 6).1 + 1)).1) (n := (64 - (get (unpk bs) (ones (unpk bs) r 3).2 6).1 - ((get (unpk bs) (get (unpk bs) (ones (unpk bs) r 3).2 6).2 6).1 + 1))) rfl rfl (by first | rfl | omega) (by first | rfl | omega) (by first | exact Nat.le_of_ble_eq_true rfl | (simp only [IntKind.bits]; omega)) rfl) hE136 ?_
          rw [show (2 : Nat) ^ IntKind.u64.bits = 18446744073709551616 from rfl]
          refine ae_take 7 rfl (by kernel_rfl) (by kernel_rfl) (by kernel_rfl) rfl (fun _ hS => ex_assign rfl) hE136 ?_
          refine ae_take 8 rfl (by kernel_rfl) (by kernel_rfl) (by kernel_rfl) rfl (fun _ hS => ex_assign rfl) hE136 ?_
          refine ae_loud [9] (by kernel_rfl) rfl ⟨?_, trivial⟩
          refine a_step rfl ?_
          refine wl_storeBlk rfl rfl Tryd.size92 hB138 rfl rfl ⟨by first | rfl | assumption, by first | rfl | assumption, by first | rfl | assumption, trivial⟩ fun w140 hB141 hw142 => ?_
          have hE143 := hE135.step hw142 hG17.mem1
          have hB145 := hw142.blk hR5 hA15.nmem1
          have hB146 := hw142.blk hB137 hA16.nmem1
          have hB147 := hw142.blk hB139 hA113.symm.nmem1
          try simp only [List.setIfInBounds_toArray, List.set_cons_zero, List.set_cons_succ, Nat.reduceAdd, Nat.zero_add, Nat.add_zero] at hB141
          refine wl_nil (ae_next (.inr (by kernel_rfl)) ?_)
          refine ae_done (by kernel_rfl) (nrm_then ?_)
          refine cw_ret (ret_block (ret_then (body_retC3 rfl (ResOk.tmp rfl) (ResOk.tmp rfl) (ResOk.cellA rfl Tryd.agg92 Tryd.size92 hB141 rfl) ?_)))
          rw [rval_2 (by omega) rfl rfl (by omega) rfl]
          exact ⟨rfl, hB145, hE143⟩
      · skip
        refine cw_skip (nrm_block (nrm_then ?_))
        refine cw_seq ?_
        refine cw_any (fun w0 w' => Evo [] w0 w') (by kernel_rfl) (fun w148 hw149 => ?_)
        have hE150 := hE23.then hw149
        have hB151 := hw149.blk0 hR1
        have hB152 := hw149.blk0 hB24
        have hB153 := hw149.blk0 hB25
        refine ae_take 0 rfl (by kernel_rfl) (by kernel_rfl) (by kernel_rfl) rfl (fun _ hS => ex_loadBlk rfl Tryd.agg92 Tryd.size92 (hS.blk0 hB152) rfl) (Evo.refl [] w148) ?_
        refine ae_take 1 rfl (by kernel_rfl) (by kernel_rfl) (by kernel_rfl) rfl (fun _ hS => ex_assign rfl) (Evo.refl [] w148) ?_
        refine ae_take 2 rfl (by kernel_rfl) (by kernel_rfl) (by kernel_rfl) rfl (fun _ hS => ex_assign rfl) (Evo.refl [] w148) ?_
        refine ae_loud [3] (by kernel_rfl) rfl ⟨?_, trivial⟩
        refine a_step rfl ?_
        refine wl_storeBlk rfl rfl Tryd.size92 hB153 rfl rfl ⟨by first | rfl | assumption, by first | rfl | assumption, by first | rfl | assumption, trivial⟩ fun w154 hB155 hw156 => ?_
        have hE157 := hE150.step hw156 hG17.mem1
        have hB159 := hw156.blk hB151 hA15.nmem1
        have hB160 := hw156.blk hB152 hA16.nmem1
        try simp only [List.setIfInBounds_toArray, List.set_cons_zero, List.set_cons_succ, Nat.reduceAdd, Nat.zero_add, Nat.add_zero] at hB155
        refine wl_nil (ae_next (.inr (by kernel_rfl)) ?_)
        refine ae_done (by kernel_rfl) (nrm_then ?_)
        refine cw_ret (body_retC3 rfl (ResOk.tmp rfl) (ResOk.tmp rfl) (ResOk.cellA rfl Tryd.agg92 Tryd.size92 hB155 rfl) ?_)
        rw [rval_3 (by omega) (by omega) (by omega)]
        exact ⟨rfl, hB159, hE157⟩

theorem refUnpack_ok {X : List Nat} {w : World} {v0 : Value} {bs : List Nat} (hs : RSl 1 RB X w v0 bs) (hl : bs.length ≤ 140737488355328) :
    Calls Tryd.prog 29 #[v0] w (Ret fun r w' => ∃ v out e, r = .tuple #[v, .int .i64 e] ∧ RSl 3 RSmp [] w' v out ∧ UnpackIs bs out e ∧ Evo [] w w') := by
  have hlt := rsl_lt hs
  have hs0 := hs
  obtain ⟨a0, c0, rfl, hlc, _⟩ := hs
  refine calls_of_cw (N := 95) Tryd.func29 rfl rfl rfl ?_
  refine cw_seq ?_
  refine cw_region ?_
  refine wl_val rfl (ex_assign rfl) ?_
  refine wl_val rfl (ex_assign rfl) ?_
  refine wl_nil (nrm_then ?_)
  refine cw_seq ?_
  refine cw_region ?_
  refine wl_val rfl (ex_move rfl) ?_
  refine wl_val rfl (ex_build (vs := [(0, _)]) Tryd.build90 rfl (cells := [_, _, _]) rfl) ?_
  refine wl_boxA rfl rfl fun b1 w2 hB3 hs4 hw5 => ?_
  have hG6 := Ge.new (Evo.refl [] w) hs4
  have hE7 := (Evo.refl [] w).then hw5
  refine wl_val rfl (ex_assign rfl) ?_
  refine wl_nil (nrm_then ?_)
  refine cw_seq ?_
  refine cw_region ?_
  have hs2 : RSl 1 RB [b1] w (.slice a0 bs.length c0) bs := RSl.fresh (by omega) RB.fresh (hG6).mem1 hs0
  refine wl_val rfl (ex_move rfl) ?_
  refine wl_call1 (vs := [_, _]) Tryd.goes38 rfl (take_ok (X := [b1]) (r := ⟨0, false⟩) hB3 (RSl.evo RB.pers ((hE7).any _) hs2) (by simp) hl (Nat.zero_le _) 17 (by omega)) rfl ?_
  rintro _ w8 ⟨rfl, hR1, hw9⟩
  have hE10 := hE7.step hw9 hG6.mem1
  refine wl_val rfl (ex_convI rfl Tryd.underlying72 Tryd.underlying3) ?_
  have hg17 := get_lt (unpk bs) ⟨0, false⟩ 17
  rw [i64_of (n := (((get (unpk bs) ⟨0, false⟩ 17).1 : Nat) : Int)) (by omega) (by omega)]
  refine wl_val rfl (ex_assign rfl) ?_
  refine wl_nil (nrm_then ?_)
  refine cw_seq ?_
  refine cw_seq ?_
  refine cw_region ?_
  refine wl_val rfl (ex_move rfl) ?_
  refine wl_val rfl (ex_gtr rfl rfl) ?_
  refine wl_nil (nrm_then ?_)
  refine cw_if rfl (fun hc24 => ?_) (fun hc24 => ?_)
  · skip
    refine cw_seq ?_
    refine cw_region ?_
    refine wl_val rfl (ex_assign rfl) ?_
    refine wl_val rfl (ex_assign rfl) ?_
    refine wl_nil (nrm_then ?_)
    refine cw_ret (ret_then (body_ret2 rfl rfl rfl ?_))
    exact ⟨_, [], 171, rfl, rnil, unp_no (unp_head (.inr (by omega))), hE10⟩
  · skip
    refine cw_skip (nrm_then ?_)
    refine cw_seq ?_
    refine cw_region ?_
    refine wl_val rfl (ex_assign rfl) ?_
    refine wl_nil (nrm_then ?_)
    refine cw_seq ?_
    refine cw_region ?_
    refine wl_val rfl (ex_build (vs := []) Tryd.build92 rfl (cells := [_, _, _]) rfl) ?_
    refine wl_alloc rfl Tryd.zero92 fun b11 w12 hB13 hs14 hw15 => ?_
    have hA16 := Apart.new (Lt.blk hR1) hs14
    have hG17 := Ge.new hE10 hs14
    have hE18 := hE10.then hw15
    have hB19 := hw15.blk0 hR1
    refine wl_storeBlk rfl rfl Tryd.size92 hB13 rfl rfl ⟨by first | rfl | assumption, by first | rfl | assumption, by first | rfl | assumption, trivial⟩ fun w20 hB21 hw22 => ?_
    have hE23 := hE18.step hw22 hG17.mem1
    have hB24 := hw22.blk hB19 hA16.nmem1
    try simp only [List.setIfInBounds_toArray, List.set_cons_zero, List.set_cons_succ, Nat.reduceAdd, Nat.zero_add, Nat.add_zero] at hB21
    refine wl_val rfl (ex_assign rfl) ?_
    refine wl_val rfl (ex_assign rfl) ?_
    refine wl_val rfl (ex_assign rfl) ?_
    refine wl_nil (nrm_then ?_)
    refine cw_seq ?_
    refine cw_seq ?_
    refine cw_region ?_
    refine wl_val rfl (ex_assign rfl) ?_
    refine wl_nil (nrm_then ?_)
    refine cw_block ?_
    refine cw_loop (α := Nat × List Smp × Stt × Rd × Option Addr × Nat × Option Nat) ((0, [], Stt.zero, (get (unpk bs) ⟨0, false⟩ 17).2, none, 0, none)) (fun x => [(11, .int .i64 (x.1 : Nat)), (6, .slice x.2.2.2.2.1 x.1 x.2.2.2.2.2.1), (8, .int .u64 (x.2.2.1.b : Nat)), (9, .int .i64 x.2.2.1.d), (10, .int .i64 x.2.2.1.t)]) [(0, _), (2, _), (3, _), (4, _), (5, _), (7, _)] (fun x wr => Evo [b11, b1] w20 wr ∧ (x.1 ≤ (get (unpk bs) ⟨0, false⟩ 17).1 ∧ runR (unpk bs) (get (unpk bs) ⟨0, false⟩ 17).2 x.1 = (x.2.1, x.2.2.1, x.2.2.2.1) ∧ RunRok (unpk bs) x.1 (x.2.1, x.2.2.1, x.2.2.2.1) ∧ OwnS wr 41 3 x.2.2.2.2.1 x.1 x.2.2.2.2.2.1 (srows x.2.1) x.2.2.2.2.2.2 ∧ wr.heap[b11]? = some (.cells ([.bool x.2.2.1.f.is, .int .i64 (x.2.2.1.f.l : Nat), .int .i64 (x.2.2.1.f.r : Nat)] : List Value).toArray 92 (0, 0)) ∧ wr.heap[b1]? = some (.cells (rv (.slice a0 bs.length c0) x.2.2.2.1).toArray 90 (0, 0)) ∧ Apart (some b11) x.2.2.2.2.2.2 ∧ Apart (some b1) x.2.2.2.2.2.2 ∧ Ge w20 x.2.2.2.2.2.2)) (fun x => (get (unpk bs) ⟨0, false⟩ 17).1 - x.1) ⟨rfl, rfl, rfl, rfl, rfl, trivial⟩ ⟨rfl, rfl, rfl, rfl, rfl, rfl, trivial⟩ ⟨Evo.refl _ _, ⟨Nat.zero_le _, rfl, RunRok.zero (by have := get_at8 (bs := bs) (r := ⟨0, false⟩) (Nat.zero_le _) 17; simpa using this), OwnS.nil _ _ _, hB21, hB24, Apart.nil _, Apart.nil _, Ge.nil _⟩⟩ ?_
    rintro ⟨k, l, z, q, a, c, ob⟩ wr25 ⟨hV26, ⟨hk, hrun, hrok, hO, hF, hR, hfo, hro, hgo⟩⟩
    show CW _ _ _ _ [(11, .int .i64 (k : Nat)), (6, .slice a k c), (8, .int .u64 (z.b : Nat)), (9, .int .i64 z.d), (10, .int .i64 z.t), (0, _), (2, _), (3, _), (4, _), (5, _), (7, _)] _
    try dsimp only at hk
    try dsimp only at hrun
    try dsimp only at hrok
    try dsimp only at hO
    try dsimp only at hF
    try dsimp only at hR
    try dsimp only at hfo
    try dsimp only at hro
    try dsimp only at hgo
    have hE27 := hE23.step hV26 (fun y hy => by rcases List.mem_cons.1 hy with h | h; { subst h; exact .inr (hG17 _ rfl) }; { rw [List.mem_singleton.1 h]; exact .inr (hG6 _ rfl) })
    have hgo2 := Ge.fresh hE23 hgo
    have haq : q.at' ≤ 8 * bs.length := by have := hrok.a; simpa using this
    have hzn := hrok.n
    have hll := hrok.len
    have hzz := hrok.z
    dsimp only at hzn hll hzz
    refine cw_seq ?_
    refine cw_seq ?_
    refine cw_region ?_
    refine wl_val rfl (ex_move rfl) ?_
    refine wl_val rfl (ex_move rfl) ?_
    refine wl_val rfl (ex_lss rfl rfl) ?_
    refine wl_val rfl (ex_move rfl) ?_
    refine wl_split (t := 29) rfl (fun hs29 => ?_) (fun hs29 => ?_)
    · skip
      refine wl_go rfl rfl rfl rfl ?_
      refine wl_val rfl (ex_move rfl) ?_
      refine wl_go rfl rfl rfl rfl ?_
      refine wl_val rfl (ex_nilCheck rfl) ?_
      refine wl_go rfl rfl rfl rfl ?_
      refine wl_val rfl (ex_fieldAddr rfl Tryd.fld90_2) ?_
      refine wl_go rfl rfl rfl rfl ?_
      refine wl_val rfl (ex_load1 rfl Tryd.agg4 (cell_nth hR rfl)) ?_
      refine wl_go rfl rfl rfl rfl ?_
      refine wl_val rfl (ex_notb rfl) ?_
      refine wl_val rfl (ex_pick_t rfl rfl) ?_
      refine wl_nil (nrm_then ?_)
      refine cw_ifb rfl (fun hc35 => ?_) (fun hc35 => ?_)
      · skip
        have hkk : k < (get (unpk bs) ⟨0, false⟩ 17).1 := by omega
        refine cw_skip (nrm_then ?_)
        refine cw_seq ?_
        refine cw_block ?_
        refine cw_seq ?_
        refine cw_cut (α := Int × Int) (fun y => [(10, .int .i64 y.1), (9, .int .i64 y.2)]) [(0, _), (2, _), (3, _), (4, _), (5, _), (6, _), (7, _), (8, _), (11, _)] (fun y wr => Evo [b1] wr25 wr ∧ (y.1 = (rhead (unpk bs) z q).1 ∧ y.2 = (rhead (unpk bs) z q).2.1 ∧ wr.heap[b1]? = some (.cells (rv (.slice a0 bs.length c0) (rhead (unpk bs) z q).2.2).toArray 90 (0, 0)))) ⟨rfl, rfl, rfl, rfl, rfl, rfl, rfl, rfl, rfl, trivial⟩ ?_ ?_
        · skip
          refine cw_seq ?_
          refine cw_region ?_
          refine wl_val rfl (ex_move rfl) ?_
          refine wl_val rfl (ex_eql rfl rfl) ?_
          refine wl_nil (nrm_then ?_)
          refine cw_if rfl (fun hc39 => ?_) (fun hc39 => ?_)
          · skip
            refine cw_region ?_
            refine wl_val rfl (ex_move rfl) ?_
            refine wl_call1 (vs := [_, _]) Tryd.goes38 rfl (take_ok hR (RSl.evo RB.pers ((hE27).any _) hs2) (by simp) hl haq 64 (by omega)) rfl ?_
            rintro _ w28 ⟨rfl, hR2, hw29⟩
            have hE30 := hE27.step hw29 hG6.mem1
            have hE31 := hV26.step hw29 (fun y hy => .inl (by simp at hy; simp [hy]))
            have hE32 := (Evo.refl [b1] wr25).step hw29 (by intro y hy; left; simpa using hy)
            have hB33 := hw29.blk hF hA16.symm.nmem1
            have hO34 := hO.evo hw29 hro.symm.own1
            refine wl_val rfl (ex_convI rfl Tryd.underlying72 Tryd.underlying2) ?_
            refine wl_val rfl (ex_assign rfl) ?_
            refine wl_nil (nrm_same ?_)
            refine ⟨(i64 ((get (unpk bs) q 64).1 : Nat), z.d), ⟨rfl, rfl, trivial⟩, ⟨rfl, rfl, rfl, rfl, rfl, rfl, rfl, rfl, rfl, trivial⟩, hE32, ?_⟩
            have hk0 : k = 0 := by omega
            have hz0 : z.n = 0 := by omega
            rw [rhead_0 hz0]
            dsimp only
            refine ⟨rfl, ?_, hR2⟩
            subst hk0
            simp only [runR, Prod.mk.injEq] at hrun
            rw [← hrun.2.1]; rfl
          · skip
            refine cw_seq ?_
            refine cw_region ?_
            refine wl_val rfl (ex_move rfl) ?_
            refine wl_val rfl (ex_move rfl) ?_
            refine wl_call1 (vs := [_]) Tryd.goes39 rfl (time39_ok hR (RSl.evo RB.pers ((hE27).any _) hs2) (by simp) hl haq ) rfl ?_
            rintro _ w35 ⟨rfl, hR3, hw36⟩
            have hE37 := hE27.step hw36 hG6.mem1
            have hE38 := hV26.step hw36 (fun y hy => .inl (by simp at hy; simp [hy]))
            have hE39 := (Evo.refl [b1] wr25).step hw36 (by intro y hy; left; simpa using hy)
            have hB40 := hw36.blk hF hA16.symm.nmem1
            have hO41 := hO.evo hw36 hro.symm.own1
            refine wl_val rfl (ex_addI rfl rfl) ?_
            refine wl_val rfl (ex_assign rfl) ?_
            refine wl_nil (nrm_then ?_)
            refine cw_region ?_
            refine wl_val rfl (ex_move rfl) ?_
            refine wl_val rfl (ex_move rfl) ?_
            refine wl_val rfl (ex_addI rfl rfl) ?_
            refine wl_val rfl (ex_assign rfl) ?_
            refine wl_nil (nrm_same ?_)
            refine ⟨(i64 (z.t + i64 (z.d + (rtime (unpk bs) q).1)), i64 (z.d + (rtime (unpk bs) q).1)), ⟨rfl, rfl, trivial⟩, ⟨rfl, rfl, rfl, rfl, rfl, rfl, rfl, rfl, rfl, trivial⟩, hE39, ?_⟩
            have hz0 : ¬ z.n = 0 := by omega
            rw [rhead_s hz0]
            dsimp only
            exact ⟨rfl, rfl, hR3⟩
        · skip
          rintro ⟨tt, dd⟩ w42 ⟨hV43, ⟨htt, hdd, hR5⟩⟩
          refine nrm_then ?_
          show CW _ _ _ _ [(10, .int .i64 tt), (9, .int .i64 dd), (0, _), (2, _), (3, _), (4, _), (5, _), (6, _), (7, _), (8, _), (11, _)] _
          try dsimp only at htt
          try dsimp only at hdd
          try dsimp only at hR5
          have hE44 := hE27.step hV43 (hG6.mem1)
          have hE45 := hV26.step hV43 (fun y hy => .inl (by simp at hy; simp [hy]))
          have hB46 := hV43.blk hF (hA16.symm.nmem1)
          have hB47 := hO.evo hV43 (hro.symm.own1)
          subst htt hdd
          have hah := rhead_at8 (z := z) haq
          refine cw_seq ?_
          have hv1 := (rval_ok (B := unpk bs) (r := (rhead (unpk bs) z q).2.2) hzz.f (by simpa using hah)).1
          refine cw_region ?_
          refine wl_val rfl (ex_move rfl) ?_
          refine wl_val rfl (ex_loadBlk rfl Tryd.agg92 Tryd.size92 hB46 rfl) ?_
          refine wl_call1 (vs := [_, _]) Tryd.goes40 rfl (rval_w hzz.f hR5 (RSl.evo RB.pers ((hE44).any _) hs2) (by simp) hl hah) rfl ?_
          rintro _ w48 ⟨rfl, hR6, hw49⟩
          have hE50 := hE44.step hw49 hG6.mem1
          have hE51 := hE45.step hw49 (fun y hy => .inl (by simp at hy; simp [hy]))
          have hB52 := hw49.blk hB46 hA16.symm.nmem1
          have hO53 := hB47.evo hw49 hro.symm.own1
          refine wl_val rfl (ex_move rfl) ?_
          refine wl_val rfl (ex_extract rfl rfl) ?_
          refine wl_val rfl (ex_extract rfl rfl) ?_
          refine wl_val rfl (ex_extract rfl rfl) ?_
          refine wl_alloc rfl Tryd.zero92 fun b54 w55 hB56 hs57 hw58 => ?_
          have hA59 := Apart.new (Lt.blk hB52) hs57
          have hA60 := Apart.new (Lt.own hO53) hs57
          have hA61 := Apart.new (Lt.blk hR6) hs57
          have hG62 := Ge.new hE50 hs57
          have hG63 := Ge.new hE51 hs57
          have hE64 := hE50.then hw58
          have hE65 := hE51.then hw58
          have hB66 := hw58.blk0 hB52
          have hO67 := hO53.evo0 hw58
          have hB68 := hw58.blk0 hR6
          refine wl_val rfl (ex_assign rfl) ?_
          refine wl_val rfl (ex_assign rfl) ?_
          refine wl_storeBlk rfl rfl Tryd.size92 hB56 rfl rfl ⟨by first | rfl | assumption, by first | rfl | assumption, by first | rfl | assumption, trivial⟩ fun w69 hB70 hw71 => ?_
          have hE72 := hE64.step hw71 hG62.mem1
          have hE73 := hE65.step hw71 hG63.mem1
          have hB74 := hw71.blk hB66 hA59.nmem1
          have hO75 := hO67.evo hw71 hA60.own1
          have hB76 := hw71.blk hB68 hA61.nmem1
          try simp only [List.setIfInBounds_toArray, List.set_cons_zero, List.set_cons_succ, Nat.reduceAdd, Nat.zero_add, Nat.add_zero] at hB70
          refine wl_nil (nrm_then ?_)
          refine cw_seq ?_
          refine cw_region ?_
          refine wl_val rfl (ex_loadBlk rfl Tryd.agg92 Tryd.size92 hB70 rfl) ?_
          refine wl_storeBlk rfl rfl Tryd.size92 hB74 rfl rfl ⟨by first | rfl | assumption, by first | rfl | assumption, by first | rfl | assumption, trivial⟩ fun w77 hB78 hw79 => ?_
          have hE80 := hE72.step hw79 hG17.mem1
          have hE81 := hE73.step hw79 (fun y hy => .inl (by simp at hy; simp [hy]))
          have hO82 := hO75.evo hw79 hfo.symm.own1
          have hB83 := hw79.blk hB76 hA16.symm.symm.nmem1
          have hB84 := hw79.blk hB70 hA59.symm.nmem1
          try simp only [List.setIfInBounds_toArray, List.set_cons_zero, List.set_cons_succ, Nat.reduceAdd, Nat.zero_add, Nat.add_zero] at hB78
          refine wl_nil (nrm_then ?_)
          refine cw_seq ?_
          refine cw_region ?_
          refine wl_val rfl (ex_move rfl) ?_
          refine wl_val rfl (ex_move rfl) ?_
          refine wl_val rfl (ex_xorN (m := z.b) (n := (rval (unpk bs) z.f (rhead (unpk bs) z q).2.2).1) rfl rfl (by rfl) (by rfl) rfl (hzz.b) (hv1)) ?_
          refine wl_val rfl (ex_assign rfl) ?_
          refine wl_nil (nrm_then ?_)
          refine cw_seq ?_
          refine cw_region ?_
          refine wl_val rfl (ex_move rfl) ?_
          refine wl_nil (nrm_then ?_)
          refine cw_ifb rfl (fun hc61 => ?_) (fun hc61 => ?_)
          · skip
            refine cw_region ?_
            refine wl_val rfl (ex_move rfl) ?_
            refine wl_val rfl (ex_move rfl) ?_
            refine wl_val rfl (ex_build (vs := [(0, _), (2, _)]) Tryd.build41 rfl (cells := [_, _, _]) rfl) ?_
            refine wl_bslice (vs := [_]) rfl Tryd.slice22 rfl rfl rfl rfl fun b85 w86 hO87 hs88 hw89 => ?_
            have hA90 := Apart.new (Lt.blk hB78) hs88
            have hA91 := Apart.new (Lt.own hO82) hs88
            have hA92 := Apart.new (Lt.blk hB83) hs88
            have hG93 := Ge.new hE80 hs88
            have hG94 := Ge.new hE81 hs88
            have hE95 := hE80.then hw89
            have hE96 := hE81.then hw89
            have hB97 := hw89.blk0 hB78
            have hO98 := hO82.evo0 hw89
            have hB99 := hw89.blk0 hB83
            refine wl_append rfl rfl rfl rfl Tryd.app22_22 hO98 (Src.ofOwn hO87 ⟨by first | rfl | assumption, by first | rfl | assumption, by first | rfl | assumption, trivial⟩) (by omega) fun a1 c1 w102 ob1 hO1 hw105 hob106 => ?_
            have hA107 := hfo.app (Lt.blk hB97) hob106
            have hA108 := hro.app (Lt.blk hB99) hob106
            have hA109 := hA91.symm.app (Lt.own hO87) hob106
            have hG110 := hgo2.app hE95 hob106
            have hG111 := hgo.app hE96 hob106
            have hE112 := hE95.step hw105 hgo2.mem
            have hE113 := hE96.step hw105 hgo.mem
            have hB114 := hw105.blk hB97 hfo.nmem
            have hB115 := hw105.blk hB99 hro.nmem
            have hO116 := hO87.evo hw105 hA91.symm.own
            refine wl_val rfl (ex_assign rfl) ?_
            refine wl_nil (nrm_block (nrm_then ?_))
            refine cw_region ?_
            refine wl_val rfl (ex_move rfl) ?_
            refine wl_val rfl (ex_add_i64 rfl rfl (by omega) (by omega)) ?_
            refine wl_val rfl (ex_assign rfl) ?_
            refine wl_nil (nrm_same ?_)
            refine ⟨(k + 1, l ++ [⟨(rhead (unpk bs) z q).1, 0, true⟩], ⟨z.n + 1, (rhead (unpk bs) z q).1, (rhead (unpk bs) z q).2.1, z.b ^^^ (rval (unpk bs) z.f (rhead (unpk bs) z q).2.2).1, (rval (unpk bs) z.f (rhead (unpk bs) z q).2.2).2.2.1⟩, (rval (unpk bs) z.f (rhead (unpk bs) z q).2.2).2.2.2, a1, c1, ob1), ?_, ⟨rfl, rfl, rfl, rfl, rfl, trivial⟩, ⟨rfl, rfl, rfl, rfl, rfl, rfl, trivial⟩, hE113, ?_⟩
            · (try dsimp only); omega
            · skip
              try dsimp only
              have hst := rstep_t (z := z) (r := q) hc61
              refine ⟨by omega, runR_succ hrun hst, hrok.succ hst, by rw [srows_snoc]; exact hO1, hB114, hB115, hA107, hA108, hG111⟩
          · skip
            refine cw_region ?_
            refine wl_val rfl (ex_move rfl) ?_
            refine wl_val rfl (ex_move rfl) ?_
            refine wl_val rfl (ex_move rfl) ?_
            refine wl_call1 (vs := [_]) Tryd.goes41 rfl (fromBits_ok (z.b ^^^ (rval (unpk bs) z.f (rhead (unpk bs) z q).2.2).1)) rfl ?_
            rintro _ w117 ⟨rfl, hw118⟩
            have hE119 := hE80.then hw118
            have hE120 := hE81.then hw118
            have hB121 := hw118.blk0 hB78
            have hO122 := hO82.evo0 hw118
            have hB123 := hw118.blk0 hB83
            refine wl_val rfl (ex_build (vs := [(0, _), (1, _)]) Tryd.build41 rfl (cells := [_, _, _]) rfl) ?_
            refine wl_bslice (vs := [_]) rfl Tryd.slice22 rfl rfl rfl rfl fun b124 w125 hO126 hs127 hw128 => ?_
            have hA129 := Apart.new (Lt.blk hB121) hs127
            have hA130 := Apart.new (Lt.own hO122) hs127
            have hA131 := Apart.new (Lt.blk hB123) hs127
            have hG132 := Ge.new hE119 hs127
            have hG133 := Ge.new hE120 hs127
            have hE134 := hE119.then hw128
            have hE135 := hE120.then hw128
            have hB136 := hw128.blk0 hB121
            have hO137 := hO122.evo0 hw128
            have hB138 := hw128.blk0 hB123
            refine wl_append rfl rfl rfl rfl Tryd.app22_22 hO137 (Src.ofOwn hO126 ⟨by first | rfl | assumption, by first | rfl | assumption, by first | rfl | assumption, trivial⟩) (by omega) fun a2 c2 w141 ob2 hO2 hw144 hob145 => ?_
            have hA146 := hfo.app (Lt.blk hB136) hob145
            have hA147 := hro.app (Lt.blk hB138) hob145
            have hA148 := hA130.symm.app (Lt.own hO126) hob145
            have hG149 := hgo2.app hE134 hob145
            have hG150 := hgo.app hE135 hob145
            have hE151 := hE134.step hw144 hgo2.mem
            have hE152 := hE135.step hw144 hgo.mem
            have hB153 := hw144.blk hB136 hfo.nmem
            have hB154 := hw144.blk hB138 hro.nmem
            have hO155 := hO126.evo hw144 hA130.symm.own
            refine wl_val rfl (ex_assign rfl) ?_
            refine wl_nil (nrm_block (nrm_then ?_))
            refine cw_region ?_
            refine wl_val rfl (ex_move rfl) ?_
            refine wl_val rfl (ex_add_i64 rfl rfl (by omega) (by omega)) ?_
            refine wl_val rfl (ex_assign rfl) ?_
            refine wl_nil (nrm_same ?_)
            refine ⟨(k + 1, l ++ [⟨(rhead (unpk bs) z q).1, z.b ^^^ (rval (unpk bs) z.f (rhead (unpk bs) z q).2.2).1, false⟩], ⟨z.n + 1, (rhead (unpk bs) z q).1, (rhead (unpk bs) z q).2.1, z.b ^^^ (rval (unpk bs) z.f (rhead (unpk bs) z q).2.2).1, (rval (unpk bs) z.f (rhead (unpk bs) z q).2.2).2.2.1⟩, (rval (unpk bs) z.f (rhead (unpk bs) z q).2.2).2.2.2, a2, c2, ob2), ?_, ⟨rfl, rfl, rfl, rfl, rfl, trivial⟩, ⟨rfl, rfl, rfl, rfl, rfl, rfl, trivial⟩, hE152, ?_⟩
            · (try dsimp only); omega
            · skip
              try dsimp only
              have hst := rstep_f (z := z) (r := q) hc61
              refine ⟨by omega, runR_succ hrun hst, hrok.succ hst, by rw [srows_snoc]; exact hO2, hB153, hB154, hA146, hA147, hG150⟩
      · skip
        refine cw_exit (ex_then (ex_then (ex_here (nrm_then ?_))))
        refine cw_seq ?_
        refine cw_region ?_
        refine wl_val rfl (ex_move rfl) ?_
        refine wl_call1 (vs := [_]) Tryd.goes12 rfl (refPack_ok (X := []) (own_smp hO hll hrok.ok (fun _ _ => by simp)) (by omega)) rfl ?_
        rintro _ w156 ⟨v2, bs2, e2, rfl, hs3, hP, hw157⟩
        have hE158 := hE27.then hw157
        have hE159 := hV26.then hw157
        have hB160 := hw157.blk0 hF
        have hB161 := hw157.blk0 hR
        have hO162 := hO.evo0 hw157
        refine wl_val rfl (ex_move rfl) ?_
        refine wl_val rfl (ex_extract rfl rfl) ?_
        refine wl_val rfl (ex_extract rfl rfl) ?_
        refine wl_val rfl (ex_assign rfl) ?_
        refine wl_val rfl (ex_assign rfl) ?_
        refine wl_nil (nrm_then ?_)
        refine cw_seq ?_
        refine cw_seq ?_
        refine cw_region ?_
        refine wl_val rfl (ex_move rfl) ?_
        refine wl_val rfl (ex_nilCheck rfl) ?_
        refine wl_val rfl (ex_fieldAddr rfl Tryd.fld90_2) ?_
        refine wl_val rfl (ex_load1 rfl Tryd.agg4 (cell_nth hB161 rfl)) ?_
        refine wl_val rfl (ex_move rfl) ?_
        refine wl_splitb (t := 83) rfl (fun hs83 => ?_) (fun hs83 => ?_)
        · skip
          refine wl_no rfl rfl rfl rfl rfl rfl ?_
          refine wl_no rfl rfl rfl rfl rfl rfl ?_
          refine wl_val rfl (ex_pick_t rfl rfl) ?_
          refine wl_val rfl (ex_move rfl) ?_
          refine wl_no rfl rfl rfl rfl rfl rfl ?_
          refine wl_no rfl rfl rfl rfl rfl rfl ?_
          refine wl_no rfl rfl rfl rfl rfl rfl ?_
          refine wl_no rfl rfl rfl rfl rfl rfl ?_
          refine wl_no rfl rfl rfl rfl rfl rfl ?_
          refine wl_val rfl (ex_pick_t rfl rfl) ?_
          refine wl_nil (nrm_then ?_)
          refine cw_true rfl ?_
          refine cw_seq ?_
          refine cw_region ?_
          refine wl_val rfl (ex_assign rfl) ?_
          refine wl_val rfl (ex_assign rfl) ?_
          refine wl_nil (nrm_then ?_)
          refine cw_ret (ret_then (body_ret2 rfl rfl rfl ?_))
          exact ⟨_, [], 171, rfl, rnil, unp_no (unpR_bad hrun hk hs83), hE158⟩
        · skip
          refine wl_go rfl rfl rfl rfl ?_
          refine wl_val rfl (ex_move rfl) ?_
          refine wl_go rfl rfl rfl rfl ?_
          refine wl_val rfl (ex_neq rfl rfl) ?_
          refine wl_val rfl (ex_pick_f rfl rfl) ?_
          refine wl_val rfl (ex_move rfl) ?_
          refine wl_split (t := 87) rfl (fun hs87 => ?_) (fun hs87 => ?_)
          · skip
            refine wl_no rfl rfl rfl rfl rfl rfl ?_
            refine wl_no rfl rfl rfl rfl rfl rfl ?_
            refine wl_no rfl rfl rfl rfl rfl rfl ?_
            refine wl_no rfl rfl rfl rfl rfl rfl ?_
            refine wl_no rfl rfl rfl rfl rfl rfl ?_
            refine wl_val rfl (ex_pick_t rfl rfl) ?_
            refine wl_nil (nrm_then ?_)
            refine cw_true rfl ?_
            refine cw_seq ?_
            refine cw_region ?_
            refine wl_val rfl (ex_assign rfl) ?_
            refine wl_val rfl (ex_assign rfl) ?_
            refine wl_nil (nrm_then ?_)
            refine cw_ret (ret_then (body_ret2 rfl rfl rfl ?_))
            exact absurd hc35 (by simp [hs83])
          · skip
            refine wl_go rfl rfl rfl rfl ?_
            refine wl_val rfl (ex_move rfl) ?_
            refine wl_go rfl rfl rfl rfl ?_
            refine wl_val rfl (ex_bstr rfl hs3 Tryd.underlying24 Tryd.underlying5 Tryd.underlying9) ?_
            refine wl_go rfl rfl rfl rfl ?_
            refine wl_val rfl (ex_move rfl) ?_
            refine wl_go rfl rfl rfl rfl ?_
            refine wl_val rfl (ex_bstr rfl (RSl.evo RB.pers ((hE158).any _) hs2) Tryd.underlying24 Tryd.underlying5 Tryd.underlying9) ?_
            refine wl_go rfl rfl rfl rfl ?_
            refine wl_val rfl (ex_neqs rfl rfl) ?_
            refine wl_val rfl (ex_pick_f rfl rfl) ?_
            refine wl_nil (nrm_then ?_)
            refine cw_if rfl (fun hc93 => ?_) (fun hc93 => ?_)
            · skip
              refine cw_seq ?_
              refine cw_region ?_
              refine wl_val rfl (ex_assign rfl) ?_
              refine wl_val rfl (ex_assign rfl) ?_
              refine wl_nil (nrm_then ?_)
              refine cw_ret (ret_then (body_ret2 rfl rfl rfl ?_))
              exact absurd hc35 (by simp [hs83])
            · skip
              refine cw_skip (nrm_then ?_)
              refine cw_seq ?_
              refine cw_region ?_
              refine wl_val rfl (ex_move rfl) ?_
              refine wl_val rfl (ex_assign rfl) ?_
              refine wl_val rfl (ex_assign rfl) ?_
              refine wl_nil (nrm_then ?_)
              refine cw_ret (body_ret2 rfl rfl rfl ?_)
              exact absurd hc35 (by simp [hs83])
    · skip
      refine wl_no rfl rfl rfl rfl rfl rfl ?_
      refine wl_no rfl rfl rfl rfl rfl rfl ?_
      refine wl_no rfl rfl rfl rfl rfl rfl ?_
      refine wl_no rfl rfl rfl rfl rfl rfl ?_
      refine wl_no rfl rfl rfl rfl rfl rfl ?_
      refine wl_val rfl (ex_pick_f rfl rfl) ?_
      refine wl_nil (nrm_then ?_)
      refine cw_false rfl ?_
      refine cw_exit (ex_then (ex_then (ex_here (nrm_then ?_))))
      refine cw_seq ?_
      refine cw_region ?_
      refine wl_val rfl (ex_move rfl) ?_
      refine wl_call1 (vs := [_]) Tryd.goes12 rfl (refPack_ok (X := []) (own_smp hO hll hrok.ok (fun _ _ => by simp)) (by omega)) rfl ?_
      rintro _ w163 ⟨v2, bs2, e2, rfl, hs3, hP, hw164⟩
      have hE165 := hE27.then hw164
      have hE166 := hV26.then hw164
      have hB167 := hw164.blk0 hF
      have hB168 := hw164.blk0 hR
      have hO169 := hO.evo0 hw164
      refine wl_val rfl (ex_move rfl) ?_
      refine wl_val rfl (ex_extract rfl rfl) ?_
      refine wl_val rfl (ex_extract rfl rfl) ?_
      refine wl_val rfl (ex_assign rfl) ?_
      refine wl_val rfl (ex_assign rfl) ?_
      refine wl_nil (nrm_then ?_)
      refine cw_seq ?_
      refine cw_seq ?_
      refine cw_region ?_
      refine wl_val rfl (ex_move rfl) ?_
      refine wl_val rfl (ex_nilCheck rfl) ?_
      refine wl_val rfl (ex_fieldAddr rfl Tryd.fld90_2) ?_
      refine wl_val rfl (ex_load1 rfl Tryd.agg4 (cell_nth hB168 rfl)) ?_
      refine wl_val rfl (ex_move rfl) ?_
      refine wl_splitb (t := 83) rfl (fun hs83 => ?_) (fun hs83 => ?_)
      · skip
        refine wl_no rfl rfl rfl rfl rfl rfl ?_
        refine wl_no rfl rfl rfl rfl rfl rfl ?_
        refine wl_val rfl (ex_pick_t rfl rfl) ?_
        refine wl_val rfl (ex_move rfl) ?_
        refine wl_no rfl rfl rfl rfl rfl rfl ?_
        refine wl_no rfl rfl rfl rfl rfl rfl ?_
        refine wl_no rfl rfl rfl rfl rfl rfl ?_
        refine wl_no rfl rfl rfl rfl rfl rfl ?_
        refine wl_no rfl rfl rfl rfl rfl rfl ?_
        refine wl_val rfl (ex_pick_t rfl rfl) ?_
        refine wl_nil (nrm_then ?_)
        refine cw_true rfl ?_
        refine cw_seq ?_
        refine cw_region ?_
        refine wl_val rfl (ex_assign rfl) ?_
        refine wl_val rfl (ex_assign rfl) ?_
        refine wl_nil (nrm_then ?_)
        refine cw_ret (ret_then (body_ret2 rfl rfl rfl ?_))
        exact ⟨_, [], 171, rfl, rnil, unp_no (unpR_bad hrun hk hs83), hE165⟩
      · skip
        refine wl_go rfl rfl rfl rfl ?_
        refine wl_val rfl (ex_move rfl) ?_
        refine wl_go rfl rfl rfl rfl ?_
        refine wl_val rfl (ex_neq rfl rfl) ?_
        refine wl_val rfl (ex_pick_f rfl rfl) ?_
        refine wl_val rfl (ex_move rfl) ?_
        refine wl_split (t := 87) rfl (fun hs87 => ?_) (fun hs87 => ?_)
        · skip
          refine wl_no rfl rfl rfl rfl rfl rfl ?_
          refine wl_no rfl rfl rfl rfl rfl rfl ?_
          refine wl_no rfl rfl rfl rfl rfl rfl ?_
          refine wl_no rfl rfl rfl rfl rfl rfl ?_
          refine wl_no rfl rfl rfl rfl rfl rfl ?_
          refine wl_val rfl (ex_pick_t rfl rfl) ?_
          refine wl_nil (nrm_then ?_)
          refine cw_true rfl ?_
          refine cw_seq ?_
          refine cw_region ?_
          refine wl_val rfl (ex_assign rfl) ?_
          refine wl_val rfl (ex_assign rfl) ?_
          refine wl_nil (nrm_then ?_)
          refine cw_ret (ret_then (body_ret2 rfl rfl rfl ?_))
          have hkn : k = (get (unpk bs) ⟨0, false⟩ 17).1 := by omega
          subst hkn
          exact ⟨_, [], 171, rfl, rnil, unp_no (unp_end (unpR_end hrun) hP (fun h => by omega)), hE165⟩
        · skip
          refine wl_go rfl rfl rfl rfl ?_
          refine wl_val rfl (ex_move rfl) ?_
          refine wl_go rfl rfl rfl rfl ?_
          refine wl_val rfl (ex_bstr rfl hs3 Tryd.underlying24 Tryd.underlying5 Tryd.underlying9) ?_
          refine wl_go rfl rfl rfl rfl ?_
          refine wl_val rfl (ex_move rfl) ?_
          refine wl_go rfl rfl rfl rfl ?_
          refine wl_val rfl (ex_bstr rfl (RSl.evo RB.pers ((hE165).any _) hs2) Tryd.underlying24 Tryd.underlying5 Tryd.underlying9) ?_
          refine wl_go rfl rfl rfl rfl ?_
          refine wl_val rfl (ex_neqs rfl rfl) ?_
          refine wl_val rfl (ex_pick_f rfl rfl) ?_
          refine wl_nil (nrm_then ?_)
          refine cw_if rfl (fun hc93 => ?_) (fun hc93 => ?_)
          · skip
            refine cw_seq ?_
            refine cw_region ?_
            refine wl_val rfl (ex_assign rfl) ?_
            refine wl_val rfl (ex_assign rfl) ?_
            refine wl_nil (nrm_then ?_)
            refine cw_ret (ret_then (body_ret2 rfl rfl rfl ?_))
            have hkn : k = (get (unpk bs) ⟨0, false⟩ 17).1 := by omega
            subst hkn
            exact ⟨_, [], 171, rfl, rnil, unp_no (unp_end (unpR_end hrun) hP (fun h => hc93 (by rw [h.2]))), hE165⟩
          · skip
            refine cw_skip (nrm_then ?_)
            refine cw_seq ?_
            refine cw_region ?_
            refine wl_val rfl (ex_move rfl) ?_
            refine wl_val rfl (ex_assign rfl) ?_
            refine wl_val rfl (ex_assign rfl) ?_
            refine wl_nil (nrm_then ?_)
            refine cw_ret (body_ret2 rfl rfl rfl ?_)
            have hkn : k = (get (unpk bs) ⟨0, false⟩ 17).1 := by omega
            have hbe : bs2 = bs := (bstr_inj (rsl_lt hs3) hlt).1 (Decidable.of_not_not hc93)
            subst hbe
            subst hkn
            exact ⟨_, l, 0, rfl, own_smp hO169 hll hrok.ok (fun _ _ => by simp), unpR_yes (unpR_end hrun) hrok.ok hP (by omega), hE165⟩

end Go.Proofs.YtclmkppiolfgbaaDoor
