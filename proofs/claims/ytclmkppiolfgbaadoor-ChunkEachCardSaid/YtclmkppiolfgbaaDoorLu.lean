import Derived.Test.YtclmkppiolfgbaaDoorLs
namespace Go.Proofs.YtclmkppiolfgbaaDoor
open Go.Proofs
open Go.W
attribute [local irreducible] Decidable.decide
set_option linter.unusedSimpArgs false
set_option linter.unusedVariables false
theorem Tryd.make22 : makeB Tryd.prog 22 = some (41, 3, 24, #[.int .i64 0, .float .f64 0, .bool false]) := by kernel_rfl

theorem sorted_ok {X : List Nat} {w : World} {v0 : Value} {l : List Smp} (hs : RSl 3 RSmp X w v0 l) (hl : l.length * 24 ≤ 140737488351232) :
    Calls Tryd.prog 15 #[v0] w (Ret fun r w' => ∃ a c ob ds, r = .slice a (List.length (α := Smp) ds) c ∧ OwnS w' 41 3 a ds.length c (srows ds) ob ∧ Rises ds ∧ (∀ s, s ∈ ds → s.Ok) ∧ ds.length ≤ l.length ∧ Ge w ob ∧ Evo [] w w') := by
  have hok := rsl_ok hs
  have hs0 := hs
  obtain ⟨a0, c0, rfl, hlc, _⟩ := hs
  refine calls_of_cw (N := 40) Tryd.func15 rfl rfl rfl ?_
  refine cw_seq ?_
  refine cw_region ?_
  refine wl_val rfl (ex_assign rfl) ?_
  refine wl_nil (nrm_then ?_)
  refine cw_seq ?_
  refine cw_region ?_
  refine wl_val rfl (ex_move rfl) ?_
  refine wl_val rfl (ex_len_slice rfl Tryd.underlying22 rfl) ?_
  refine wl_make (len := 0) (c := l.length) rfl rfl rfl Tryd.make22 (by omega) (by omega) (by omega) (by decide) (by omega) (by omega) fun bm w2 hm hs4 hw5 => ?_
  have hG6 := Ge.new (Evo.refl [] w) hs4
  have hE7 := (Evo.refl [] w).then hw5
  refine wl_val rfl (ex_assign rfl) ?_
  refine wl_nil (nrm_then ?_)
  refine cw_seq ?_
  refine cw_seq ?_
  refine cw_region ?_
  refine wl_val rfl (ex_assign rfl) ?_
  refine wl_nil (nrm_then ?_)
  refine cw_block ?_
  refine cw_loop (α := Nat × Nat × List Smp × Option Addr × Nat × Option Nat) ((0, 0, [], some ⟨bm, 0, none⟩, l.length, some bm)) (fun x => [(4, .int .i64 (x.1 : Nat)), (3, .slice x.2.2.2.1 x.2.1 x.2.2.2.2.1)]) [(0, _), (2, _)] (fun x wr => Evo (some bm).toList w2 wr ∧ (x.1 ≤ l.length ∧ x.2.1 = x.2.2.1.length ∧ x.2.1 ≤ x.1 ∧ OwnS wr 41 3 x.2.2.2.1 x.2.1 x.2.2.2.2.1 (srows x.2.2.1) x.2.2.2.2.2 ∧ Rises x.2.2.1 ∧ (∀ s, s ∈ x.2.2.1 → s.Ok) ∧ (x.2.2.2.2.2 = some bm ∨ Ge w2 x.2.2.2.2.2))) (fun x => l.length - x.1) ⟨rfl, rfl, trivial⟩ ⟨rfl, rfl, trivial⟩ ⟨Evo.refl _ _, ⟨Nat.zero_le _, rfl, Nat.le_refl _, hm, fun i hi => (by simp at hi), fun _ h => (by cases h), .inl rfl⟩⟩ ?_
  rintro ⟨k, m, ds, a, c, ob⟩ wr8 ⟨hV9, ⟨hk, hm, hmk, hO, hup, hds, hob⟩⟩
  show CW _ _ _ _ [(4, .int .i64 (k : Nat)), (3, .slice a m c), (0, _), (2, _)] _
  try dsimp only at hk
  try dsimp only at hm
  try dsimp only at hmk
  try dsimp only at hO
  try dsimp only at hup
  try dsimp only at hds
  try dsimp only at hob
  have hE10 := hE7.step hV9 (hG6.mem)
  have hgo2 := ge_ob hG6 hE7 hob
  refine cw_seq ?_
  refine cw_seq ?_
  refine cw_region ?_
  refine wl_val rfl (ex_move rfl) ?_
  refine wl_val rfl (ex_move rfl) ?_
  refine wl_val rfl (ex_len_slice rfl Tryd.underlying22 rfl) ?_
  refine wl_val rfl (ex_lss rfl rfl) ?_
  refine wl_nil (nrm_then ?_)
  refine cw_if rfl (fun hc11 => ?_) (fun hc11 => ?_)
  · skip
    have hk' : k < l.length := by omega
    obtain ⟨_, b1, o1, rfl, -, hc1⟩ := smp_at hs0 hk'
    have hds1 : ∀ s, s ∈ ds ++ [l[k]] → s.Ok := fun s h => by rcases List.mem_append.1 h with h | h; { exact hds s h }; { rw [List.mem_singleton.1 h]; exact hok _ (List.getElem_mem hk') }
    refine cw_skip (nrm_then ?_)
    refine cw_seq ?_
    refine cw_block ?_
    refine cw_seq ?_
    refine cw_quiet (by kernel_rfl) (by kernel_rfl) ?_
    refine ql_val rfl (fun _ hq12 => ex_move rfl) ?_
    refine ql_val rfl (fun _ hq12 => ex_len_slice rfl Tryd.underlying22 rfl) ?_
    refine ql_val rfl (fun _ hq12 => ex_eql rfl rfl) ?_
    refine ql_val rfl (fun _ hq12 => ex_move rfl) ?_
    refine ql_split (t := 17) rfl (fun hs17 => ?_) (fun hs17 => ?_)
    · skip
      refine ql_no rfl rfl rfl rfl rfl rfl ?_
      refine ql_no rfl rfl rfl rfl rfl rfl ?_
      refine ql_no rfl rfl rfl rfl rfl rfl ?_
      refine ql_no rfl rfl rfl rfl rfl rfl ?_
      refine ql_no rfl rfl rfl rfl rfl rfl ?_
      refine ql_no rfl rfl rfl rfl rfl rfl ?_
      refine ql_no rfl rfl rfl rfl rfl rfl ?_
      refine ql_no rfl rfl rfl rfl rfl rfl ?_
      refine ql_no rfl rfl rfl rfl rfl rfl ?_
      refine ql_no rfl rfl rfl rfl rfl rfl ?_
      refine ql_no rfl rfl rfl rfl rfl rfl ?_
      refine ql_no rfl rfl rfl rfl rfl rfl ?_
      refine ql_no rfl rfl rfl rfl rfl rfl ?_
      refine ql_val rfl (fun _ hq12 => ex_pick_t rfl rfl) ?_
      refine ql_nil (fun wq11 hq12 => nrm_then ?_)
      have hE13 := hE10.then hq12
      have hE14 := hV9.then hq12
      have hE15 := (Evo.refl [] wr8).then hq12
      have hO16 := hO.evo0 hq12
      refine cw_true rfl ?_
      refine cw_region ?_
      refine wl_val rfl (ex_move rfl) ?_
      refine wl_val rfl (ex_move rfl) ?_
      refine wl_val rfl (ex_move rfl) ?_
      refine wl_val rfl (ex_indexAddr (n := k) rfl rfl Tryd.elem22 (by omega)) ?_
      refine wl_val rfl (ex_loadA rfl Tryd.agg41 Tryd.size41 (vs := [_, _, _]) rfl (hc1.evo hE13 (by simp))) ?_
      refine wl_bslice (vs := [_]) rfl Tryd.slice22 rfl rfl rfl rfl fun b17 w18 hO19 hs20 hw21 => ?_
      have hA22 := Apart.new (Lt.own hO16) hs20
      have hG23 := Ge.new hE13 hs20
      have hG24 := Ge.new hE14 hs20
      have hG25 := Ge.new hE15 hs20
      have hE26 := hE13.then hw21
      have hE27 := hE14.then hw21
      have hE28 := hE15.then hw21
      have hO29 := hO16.evo0 hw21
      refine wl_append rfl rfl rfl rfl Tryd.app22_22 hO29 (Src.ofOwn hO19 ⟨by first | rfl | assumption, by first | rfl | assumption, by first | rfl | assumption, trivial⟩) (by omega) fun a1 c1 w32 ob1 hO1 hw35 hob36 => ?_
      have hA37 := hA22.symm.app (Lt.own hO19) hob36
      have hG38 := hgo2.app hE26 hob36
      have hE39 := hE26.step hw35 hgo2.mem
      have hE40 := hE27.step hw35 (memo1 hob)
      have hO42 := hO19.evo hw35 hA22.symm.own
      have hob1 : ob1 = some bm ∨ Ge w2 ob1 := by
        rcases hob36 with h | ⟨g, h, hg⟩
        · subst h; exact hob
        · subst h; exact .inr (Ge.fresh hE27 (fun y hy => by cases hy; exact hg))
      refine wl_val rfl (ex_assign rfl) ?_
      refine wl_nil (nrm_block (nrm_then ?_))
      refine cw_region ?_
      refine wl_val rfl (ex_move rfl) ?_
      refine wl_val rfl (ex_add_i64 rfl rfl (by omega) (by omega)) ?_
      refine wl_val rfl (ex_assign rfl) ?_
      refine wl_nil (nrm_same ?_)
      refine ⟨(k + 1, m + 1, ds ++ [l[k]], a1, c1, ob1), ?_, ⟨rfl, rfl, trivial⟩, ⟨rfl, rfl, trivial⟩, hE40, ?_⟩
      · (try dsimp only); omega
      · skip
        try dsimp only
        refine ⟨by omega, by rw [List.length_append, hm]; rfl, by omega, by rw [srows_snoc]; exact hO1, hup.snoc (fun h => by omega), hds1, hob1⟩
    · skip
      obtain ⟨_, b2, o2, ha2, -, hc2⟩ := smp_at (own_smp (X := []) hO hm.symm hds (fun _ _ => by simp)) (k := m - 1) (by omega)
      refine ql_go rfl rfl rfl rfl ?_
      refine ql_val rfl (fun _ hq12 => ex_move rfl) ?_
      refine ql_go rfl rfl rfl rfl ?_
      refine ql_val rfl (fun _ hq12 => ex_move rfl) ?_
      refine ql_go rfl rfl rfl rfl ?_
      refine ql_val rfl (fun _ hq12 => ex_indexAddr (n := k) rfl rfl Tryd.elem22 (by omega)) ?_
      refine ql_go rfl rfl rfl rfl ?_
      refine ql_val rfl (fun _ hq12 => ex_fieldAddr rfl Tryd.fld41_0) ?_
      refine ql_go rfl rfl rfl rfl ?_
      refine ql_val rfl (fun _ hq12 => ex_load1 rfl Tryd.agg2 ((hc1.evo (hE10.then hq12) (by simp)) 0 _ rfl)) ?_
      refine ql_go rfl rfl rfl rfl ?_
      refine ql_val rfl (fun _ hq12 => ex_move rfl) ?_
      refine ql_go rfl rfl rfl rfl ?_
      refine ql_val rfl (fun _ hq12 => ex_move rfl) ?_
      refine ql_go rfl rfl rfl rfl ?_
      refine ql_val rfl (fun _ hq12 => ex_len_slice rfl Tryd.underlying22 rfl) ?_
      refine ql_go rfl rfl rfl rfl ?_
      refine ql_val rfl (fun _ hq12 => ex_sub_i64 rfl rfl (by omega) (by omega)) ?_
      refine ql_go rfl rfl rfl rfl ?_
      refine ql_val rfl (fun _ hq12 => ex_indexAddrZ (b := b2) (o := o2) (n := m - 1) (by rw [← ha2]; rfl) rfl (by omega) Tryd.elem22 (by omega)) ?_
      refine ql_go rfl rfl rfl rfl ?_
      refine ql_val rfl (fun _ hq12 => ex_fieldAddr rfl Tryd.fld41_0) ?_
      refine ql_go rfl rfl rfl rfl ?_
      refine ql_val rfl (fun _ hq12 => ex_load1 rfl Tryd.agg2 ((hc2.evo ((Evo.refl [] wr8).then hq12) (by simp)) 0 _ rfl)) ?_
      refine ql_go rfl rfl rfl rfl ?_
      refine ql_val rfl (fun _ hq12 => ex_gtr rfl rfl) ?_
      refine ql_val rfl (fun _ hq12 => ex_pick_f rfl rfl) ?_
      refine ql_nil (fun wq11 hq12 => nrm_then ?_)
      have hE43 := hE10.then hq12
      have hE44 := hV9.then hq12
      have hE45 := (Evo.refl [] wr8).then hq12
      have hO46 := hO.evo0 hq12
      refine cw_if rfl (fun hc31 => ?_) (fun hc31 => ?_)
      · skip
        refine cw_region ?_
        refine wl_val rfl (ex_move rfl) ?_
        refine wl_val rfl (ex_move rfl) ?_
        refine wl_val rfl (ex_move rfl) ?_
        refine wl_val rfl (ex_indexAddr (n := k) rfl rfl Tryd.elem22 (by omega)) ?_
        refine wl_val rfl (ex_loadA rfl Tryd.agg41 Tryd.size41 (vs := [_, _, _]) rfl (hc1.evo hE43 (by simp))) ?_
        refine wl_bslice (vs := [_]) rfl Tryd.slice22 rfl rfl rfl rfl fun b47 w48 hO49 hs50 hw51 => ?_
        have hA52 := Apart.new (Lt.own hO46) hs50
        have hG53 := Ge.new hE43 hs50
        have hG54 := Ge.new hE44 hs50
        have hG55 := Ge.new hE45 hs50
        have hE56 := hE43.then hw51
        have hE57 := hE44.then hw51
        have hE58 := hE45.then hw51
        have hO59 := hO46.evo0 hw51
        refine wl_append rfl rfl rfl rfl Tryd.app22_22 hO59 (Src.ofOwn hO49 ⟨by first | rfl | assumption, by first | rfl | assumption, by first | rfl | assumption, trivial⟩) (by omega) fun a1 c1 w62 ob1 hO1 hw65 hob66 => ?_
        have hA67 := hA52.symm.app (Lt.own hO49) hob66
        have hG68 := hgo2.app hE56 hob66
        have hE69 := hE56.step hw65 hgo2.mem
        have hE70 := hE57.step hw65 (memo1 hob)
        have hO72 := hO49.evo hw65 hA52.symm.own
        have hob1 : ob1 = some bm ∨ Ge w2 ob1 := by
          rcases hob66 with h | ⟨g, h, hg⟩
          · subst h; exact hob
          · subst h; exact .inr (Ge.fresh hE57 (fun y hy => by cases hy; exact hg))
        refine wl_val rfl (ex_assign rfl) ?_
        refine wl_nil (nrm_block (nrm_then ?_))
        refine cw_region ?_
        refine wl_val rfl (ex_move rfl) ?_
        refine wl_val rfl (ex_add_i64 rfl rfl (by omega) (by omega)) ?_
        refine wl_val rfl (ex_assign rfl) ?_
        refine wl_nil (nrm_same ?_)
        refine ⟨(k + 1, m + 1, ds ++ [l[k]], a1, c1, ob1), ?_, ⟨rfl, rfl, trivial⟩, ⟨rfl, rfl, trivial⟩, hE70, ?_⟩
        · (try dsimp only); omega
        · skip
          try dsimp only
          refine ⟨by omega, by rw [List.length_append, hm]; rfl, by omega, by rw [srows_snoc]; exact hO1, hup.snoc (fun h => by subst hm; exact hc31), hds1, hob1⟩
      · skip
        refine cw_skip (nrm_block (nrm_then ?_))
        refine cw_region ?_
        refine wl_val rfl (ex_move rfl) ?_
        refine wl_val rfl (ex_add_i64 rfl rfl (by omega) (by omega)) ?_
        refine wl_val rfl (ex_assign rfl) ?_
        refine wl_nil (nrm_same ?_)
        refine ⟨(k + 1, m, ds, a, c, ob), ?_, ⟨rfl, rfl, trivial⟩, ⟨rfl, rfl, trivial⟩, hE44, ?_⟩
        · (try dsimp only); omega
        · skip
          try dsimp only
          exact ⟨by omega, hm, by omega, hO46, hup, hds, hob⟩
  · skip
    refine cw_exit (ex_then (ex_then (ex_here (nrm_then ?_))))
    refine cw_seq ?_
    refine cw_region ?_
    refine wl_val rfl (ex_move rfl) ?_
    refine wl_val rfl (ex_assign rfl) ?_
    refine wl_nil (nrm_then ?_)
    refine cw_ret (body_ret1 rfl rfl ?_)
    subst hm
    exact ⟨a, c, ob, ds, rfl, hO, hup, hds, by omega, hgo2, hE10⟩

theorem bit_ok {X : List Nat} {w : World} {v0 : Value} {bs : List Nat} (hs : RSl 1 RB X w v0 bs) (hl : bs.length ≤ 140737488355328) {k : Nat} (hk : k < 8 * bs.length) :
    Calls Tryd.prog 16 #[v0, .int .i64 k] w (Ret fun r w' => r = .int .u8 (bitAt bs k).toNat ∧ Evo [] w w') := by
  have hlt := rsl_lt hs
  have hs0 := hs
  obtain ⟨a0, c0, rfl, hlc, _⟩ := hs
  obtain ⟨b1, o1, rfl, -, hc1⟩ := byte_at hs0 (k := k / 8) (by omega)
  refine calls_of_cw (N := 15) Tryd.func16 rfl rfl rfl ?_
  refine cw_seq ?_
  refine cw_region ?_
  refine wl_val rfl (ex_assign rfl) ?_
  refine wl_nil (nrm_then ?_)
  refine cw_seq ?_
  refine cw_region ?_
  refine wl_val rfl (ex_move rfl) ?_
  refine wl_val rfl (ex_move rfl) ?_
  refine wl_val rfl (ex_quoN (m := k) (n := 8) rfl rfl (by omega) (by omega) (by omega) (by simp [IntKind.max, IntKind.signed, IntKind.bits]; omega)) ?_
  refine wl_val rfl (ex_indexAddrZ (n := k / 8) rfl rfl (by omega) Tryd.elem24 (by omega)) ?_
  refine wl_val rfl (ex_load1 rfl Tryd.agg5 ((hc1.evo (Evo.refl [] w) (by simp)) 0 _ rfl)) ?_
  refine wl_val rfl (ex_move rfl) ?_
  refine wl_val rfl (ex_remN (m := k) (n := 8) rfl rfl (by omega) (by omega) (by omega)) ?_
  refine wl_val rfl (ex_sub_i64 rfl rfl (by omega) (by omega)) ?_
  refine wl_val rfl (ex_shrN (m := (bs.getD (k / 8) 0)) (n := 7 - k % 8) rfl rfl (by first | rfl | omega) (by first | rfl | omega) (by first | exact Nat.le_of_ble_eq_true rfl | (simp only [IntKind.bits]; omega))) ?_
  refine wl_val rfl (ex_andN (m := bs.getD (k / 8) 0 / 2 ^ (7 - k % 8)) (n := 1) rfl rfl (by rfl) (by rfl) rfl (Nat.lt_of_le_of_lt (Nat.div_le_self _ _) (getD_lt hlt)) (by decide)) ?_
  rw [bit_and]
  refine wl_val rfl (ex_assign rfl) ?_
  refine wl_nil (nrm_then ?_)
  refine cw_ret (body_ret1 rfl rfl ?_)
  exact ⟨rfl, (Evo.refl [] w)⟩


/-- A part of a slice. -/
theorem rsl_sub {α : Type} {sz : Nat} {R : Rel α} {X : List Nat} {w : World} {a : Option Addr} {n c : Nat} {ds : List α} (hs : RSl sz R X w (.slice a n c) ds) {l h : Nat} (hlh : l ≤ h) (hh : h ≤ ds.length) : RSl sz R X w (.slice (if c = l then a else a.map (·.add (l * sz))) (h - l) (c - l)) ((ds.drop l).take (h - l)) := by
  obtain ⟨a', c', hv, hlc, hk⟩ := hs
  cases hv
  have hlen : ((ds.drop l).take (h - l)).length = h - l := by simp only [List.length_take, List.length_drop]; omega
  refine ⟨_, c - l, by rw [hlen], by omega, fun k hk' => ?_⟩
  rw [hlen] at hk'
  obtain ⟨b, o, vs, h1, h2, h3, h4, h5⟩ := hk (l + k) (by omega)
  refine ⟨b, o + l * sz, vs, ?_, h2, h3, ?_, ?_⟩
  · rw [if_neg (by omega), h1]; simp [Addr.add]
  · rw [show o + l * sz + k * sz = o + (l + k) * sz by rw [Nat.add_mul]; omega]; exact h4
  · simp only [List.getElem_take, List.getElem_drop]; exact h5
theorem pack_val {l : List Smp} {bs : List Nat} {e : Int} (hv : Valid l) (h : PackIs l bs e) : e = 0 ∧ Packs bs (form l) := by
  have hl := hv.len
  rcases h with ⟨h, _⟩ | ⟨_, h, _⟩ | ⟨_, _, h, he⟩
  · omega
  · exact absurd hv.up h
  · exact ⟨he, h⟩
theorem Valid.take {l : List Smp} (h : Valid l) (m : Nat) : Valid (l.take m) := by
  have hl := h.len
  refine ⟨by simp only [List.length_take]; omega, fun k hk => ?_, fun s hs => h.ok s (List.mem_of_mem_take hs)⟩
  simp only [List.length_take] at hk
  simp only [List.getElem_take]
  exact h.up k (by omega)

end Go.Proofs.YtclmkppiolfgbaaDoor
