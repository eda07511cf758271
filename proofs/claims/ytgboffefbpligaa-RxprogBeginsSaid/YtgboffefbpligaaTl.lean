/- The coder: code; Compile. -/
import Derived.Test.YtgboffefbpligaaTk
import Derived.Test.YtgboffefbpligaaTh
namespace Go.Proofs.Ytgboffefbpligaa
open Go.Proofs
open Go.W Go.RowKit
attribute [local irreducible] Decidable.decide
set_option linter.unusedSimpArgs false
set_option linter.unusedVariables false
theorem Try.agg29 : aggB Try.prog 29 = some true := by kernel_rfl
theorem Try.build29 : Build Try.prog 29 #[(0, 1), (1, 1), (2, 1), (3, 1)] #[.slice none 0 0, .int .i64 0, .int .i64 0, .slice none 0 0] := ⟨_, .agg #[.slice none 0 0, .int .i64 0, .int .i64 0, .slice none 0 0], Try.underlying29, by kernel_rfl, rfl, fun w => by kernel_rfl⟩
theorem Try.build51 : Build Try.prog 51 #[(0, 1), (1, 1)] #[.int .i32 0, .int .i32 0] := ⟨_, .agg #[.int .i32 0, .int .i32 0], Try.underlying51, by kernel_rfl, rfl, fun w => by kernel_rfl⟩
theorem Try.goes15 : Goes Try.prog 15 := ⟨_, Try.func15, by kernel_rfl, by kernel_rfl⟩
theorem Try.goes17 : Goes Try.prog 17 := ⟨_, Try.func17, by kernel_rfl, by kernel_rfl⟩
theorem Try.goes32 : Goes Try.prog 32 := ⟨_, Try.func32, by kernel_rfl, by kernel_rfl⟩
theorem Try.goes33 : Goes Try.prog 33 := ⟨_, Try.func33, by kernel_rfl, by kernel_rfl⟩
theorem Try.goes34 : Goes Try.prog 34 := ⟨_, Try.func34, by kernel_rfl, by kernel_rfl⟩
theorem Try.size29 : sizeB Try.prog 29 = some 4 := by kernel_rfl
theorem Try.zero29 : zeroB Try.prog 29 = some #[.slice none 0 0, .int .i64 0, .int .i64 0, .slice none 0 0] := by kernel_rfl
theorem Try.zero41 : zeroB Try.prog 41 = some #[.slice none 0 0] := by kernel_rfl


structure CtI (w wr : World) (cb : Nat) (es : List Iv) (ob : Option Nat) (Z : List Nat) (ks : List Rx) (x : RpG) : Prop where
  j : x.k ≤ ks.length
  cd : CdAt wr cb (es ++ x.new) x.pa x.pc x.po Z
  po : x.po = ob ∨ ∃ g, x.po = some g ∧ w.heap.size ≤ g
  pre : CatC (ks.take x.k) es.length (x.new.map (·.1))
  len : x.new.length ≤ eszs (ks.take x.k)
  nice : ∀ e, e ∈ x.new → Nice e.1
theorem RangesOk.low {l : List (Int × Int)} (h : RangesOk l) : ∀ i (hi : i < l.length), 2 * (i : Int) ≤ l[i].1
  | 0, hi => by have := (h.1 0 hi).1; omega
  | i + 1, hi => by
    have h1 := h.low i (by omega)
    have h2 := h.1 i (by omega)
    have h3 := (h.1 (i + 1) hi).2.2.2 i (by omega) rfl
    omega
theorem RangesOk.len {l : List (Int × Int)} (h : RangesOk l) : l.length ≤ 1048576 := by
  by_cases e : l.length = 0
  · omega
  · have h1 := h.low (l.length - 1) (by omega)
    have h2 := h.1 (l.length - 1) (by omega)
    omega
theorem rows_rr (X : List Nat) (w : World) (a b : Int) : RowsOk 2 RRg X w [[.int .i32 a, .int .i32 b]] [(a, b)] := by
  refine ⟨rfl, fun k hk hk' => ?_⟩
  simp at hk
  subst hk
  exact ⟨rfl, rfl⟩
theorem memZ_lt {w w1 : World} {cb : Nat} {es : List Iv} {a : Option Addr} {c : Nat} {ob : Option Nat} {Z X : List Nat} (h : CdAt w cb es a c ob Z) (hZ : ∀ z, z ∈ Z → z < w.heap.size) (he : Evo X w w1) : ∀ z, z ∈ cb :: (ob.toList ++ Z) → z < w1.heap.size := fun z hz => by
  rw [← List.cons_append] at hz
  rcases List.mem_append.1 hz with h1 | h1
  · exact Nat.lt_of_lt_of_le (h.lt z h1) he.size
  · exact Nat.lt_of_lt_of_le (hZ z h1) he.size

set_option maxHeartbeats 8000000 in
theorem code_step {n : Nat} (ih : ∀ {w : World} {cb : Nat} {es : List Iv} {a : Option Addr} {c : Nat} {ob : Option Nat} {Z : List Nat} {vs : List Value} {t : Rx} (hC : CdAt w cb es a c ob Z) (hx : RRx n (cb :: ob.toList) w vs t) (hg : Good t) (hl : es.length + t.esz ≤ 100000) (hZ : ∀ z, z ∈ Z → z < w.heap.size), Calls Try.prog 16 #[.pointer (some ⟨cb, 0, none⟩), .agg vs.toArray] w (Ret fun v w' => v = .tuple #[] ∧ Evo (cb :: ob.toList) w w' ∧ ∃ new, CdTo w w' cb ob (es ++ new) Z ∧ Codes t es.length (new.map (·.1)) ∧ new.length ≤ t.esz ∧ ∀ e, e ∈ new → Nice e.1)) {w : World} {cb : Nat} {es : List Iv} {a : Option Addr} {c : Nat} {ob : Option Nat} {Z : List Nat} {vs : List Value} {t : Rx} (hC : CdAt w cb es a c ob Z) (hx : RRx (n + 1) (cb :: ob.toList) w vs t) (hg : Good t) (hl : es.length + t.esz ≤ 100000) (hZ : ∀ z, z ∈ Z → z < w.heap.size) : Calls Try.prog 16 #[.pointer (some ⟨cb, 0, none⟩), .agg vs.toArray] w (Ret fun v w' => v = .tuple #[] ∧ Evo (cb :: ob.toList) w w' ∧ ∃ new, CdTo w w' cb ob (es ++ new) Z ∧ Codes t es.length (new.map (·.1)) ∧ new.length ≤ t.esz ∧ ∀ e, e ∈ new → Nice e.1) := by
  have hXlt := hC.lt
  have hx0 := hx
  obtain ⟨m, ra, rc, ka, kc, hm, rfl, hrg, hk, bl1, bl2, bl3⟩ := hx.get
  obtain rfl : m = n := by omega
  have hk0 := hk
  obtain ⟨_, _, hke, hkc, e1⟩ := hk
  cases hke
  have hn := (nodeP_iff t).1 hg.node
  have hcap := hg.capb
  have hAJN0 : Apart (some cb) ob := fun g h1 h2 => by cases h1; exact hC.ne cb h2 rfl
  have hmZ : ∀ b, b ∈ cb :: ob.toList → b ∈ cb :: (ob.toList ++ Z) := fun b hb => by rw [← List.cons_append]; exact List.mem_append_left _ hb
  refine calls_of_cw (N := 114) Try.func16 rfl rfl rfl ?_
  refine cw_seq ?_
  refine cw_region ?_
  refine wl_boxA rfl rfl fun b3 w1 hB2 hs3 hw4 => ?_
  have hsz_b3 := hs3
  have hA5 := Apart.new (Lt.blk hC.blk) hs3
  have hA6 := Apart.new (Lt.own hC.own) hs3
  have hG7 := Ge.new (Evo.refl (cb :: ob.toList) w) hs3
  have hG8 := Ge.new (Evo.refl [] w) hs3
  have hE9 := (Evo.refl (cb :: ob.toList) w).then hw4
  have hE10 := (Evo.refl [] w).then hw4
  have hB11 := hw4.blk0 hC.blk
  have hO12 := hC.own.evo0 hw4
  refine wl_nil (nrm_then ?_)
  refine cw_seq ?_
  refine cw_region ?_
  refine wl_val rfl (ex_fieldAddr rfl Try.fld25_0) ?_
  refine wl_val rfl (ex_load1 rfl Try.agg3 (cell_nth hB2 rfl)) ?_
  refine wl_nil (nrm_then ?_)
  refine cw_block ?_
  refine cw_seq ?_
  refine cw_region ?_
  refine wl_val rfl (ex_eql rfl rfl) ?_
  refine wl_a ?_
  refine wl_nil (nrm_then ?_)
  refine cw_if rfl (fun hc8 => ?_) (fun hc8 => ?_)
  ·skip
   have hk2 : t.kind = 2 := by omega
   refine cw_region ?_
   refine wl_m ?_
   refine wl_val rfl (ex_fieldAddr rfl Try.fld25_1) ?_
   refine wl_val rfl (ex_load1 rfl Try.agg21 (cell_nth hB2 rfl)) ?_
   refine wl_val rfl (ex_fieldAddr rfl Try.fld25_1) ?_
   refine wl_val rfl (ex_load1 rfl Try.agg21 (cell_nth hB2 rfl)) ?_
   refine wl_val rfl (ex_build (vs := [(0, _), (1, _)]) Try.build51 rfl (cells := [_, _]) rfl) ?_
   have hev16 := hE9
   refine wl_bslice (vs := [_]) rfl Try.slice22 rfl rfl rfl rfl fun b13 w14 hO15 hs16 hw17 => ?_
   have hA18 := Apart.new (Lt.blk hB11) hs16
   have hA19 := Apart.new (Lt.own hO12) hs16
   have hA20 := Apart.new (Lt.blk hB2) hs16
   have hG21 := Ge.new hE9 hs16
   have hG22 := Ge.new hE10 hs16
   have hE23 := hE9.then hw17
   have hE24 := hE10.then hw17
   have hB25 := hw17.blk0 hB11
   have hO26 := hO12.evo0 hw17
   have hB27 := hw17.blk0 hB2
   refine wl_val rfl (ex_build (vs := [(0, _), (4, _)]) Try.build44 rfl (cells := [_, _, _, _, _]) rfl) ?_
   have hsl := hO15
   have hslx : ∀ g, some b13 = some g → g ∉ cb :: (ob.toList ++ Z) := fun g hg hm => by have h1 := memZ_lt hC hZ (Evo.refl [] w) _ hm; have h2 := hG21 g hg; omega
   refine wl_call1 (vs := [_, _]) Try.goes31 rfl (put_ok (rs := [(t.r, t.r)]) (hC.evo0 hE24) (RSl.ofOwn (rows := [[.int .i32 t.r, .int .i32 t.r]]) hsl (rows_rr _ _ _ _) rfl hslx) (by omega)) rfl ?_
   rintro _ w28 ⟨rfl, hw29, hto1⟩
   have hlt_b3_1 := (Lt.blk hB27)
   have hlt_b13_1 := (Lt.own hO15)
   have hev_1 := hE23
   have hE30 := hE23.step hw29 (mem_ob (.inl rfl))
   have hB31 := hw29.blk hB27 (nmem2 hA5.symm hA6.symm)
   have hB32 := hO15.evo hw29 (nmem2o hA18.symm hA19.symm)
   obtain ⟨pa_1, pc_1, po_1, hC_1, hp_1⟩ := hto1
   have hq_1 := fr_trans (.inl rfl) hev_1 hp_1
   have hA_b3_1 := ap_ob hA6.symm hlt_b3_1 hp_1
   have hA_b13_1 := ap_ob hA19.symm hlt_b13_1 hp_1
   have hAJN_1 : Apart (some cb) po_1 := fun g h1 h2 => by cases h1; exact hC_1.ne cb h2 rfl
   refine wl_nil (nrm_block (body_end0 rfl ?_))
   refine ⟨rfl, hE30, [(⟨2, (es.length : Nat) + 1, 0, 0, [(t.r, t.r)]⟩, _)], ⟨_, _, _, hC_1.evo0 (Evo.refl [] w28), hq_1⟩, codes_lit (by omega), by have := esz0 (t := t) (by omega); show 1 ≤ t.esz; omega, nice_one ⟨by simp, by show (0 : Int) ≤ (es.length : Nat) + 1; omega, Int.le_refl _, by show 1 ≤ 1048576; decide⟩⟩
  ·skip
   refine cw_seq ?_
   refine cw_region ?_
   refine wl_val rfl (ex_eql rfl rfl) ?_
   refine wl_a ?_
   refine wl_nil (nrm_then ?_)
   refine cw_if rfl (fun hc19 => ?_) (fun hc19 => ?_)
   ·skip
    refine cw_seq ?_
    refine cw_seq ?_
    refine cw_region ?_
    refine wl_val rfl (ex_fieldAddr rfl Try.fld25_2) ?_
    refine wl_val rfl (ex_load1 rfl Try.agg22 (cell_nth hB2 rfl)) ?_
    refine wl_val rfl (ex_len_slice rfl Try.underlying22 rfl) ?_
    refine wl_val rfl (ex_eql rfl rfl) ?_
    refine wl_nil (nrm_then ?_)
    refine cw_if rfl (fun hc24 => ?_) (fun hc24 => ?_)
    ·skip
     refine cw_seq ?_
     refine cw_region ?_
     refine wl_m ?_
     refine wl_m ?_
     refine wl_val rfl (ex_nilCheck rfl) ?_
     refine wl_val rfl (ex_load1 rfl Try.agg41 (cell_nth hB11 rfl)) ?_
     refine wl_val rfl (ex_build (vs := [(0, _)]) Try.build44 rfl (cells := [_, _, _, _, _]) rfl) ?_
     refine wl_bslice (vs := [_]) rfl Try.slice41 rfl rfl rfl rfl fun b33 w34 hO35 hs36 hw37 => ?_
     have hA38 := Apart.new (Lt.blk hB11) hs36
     have hA39 := Apart.new (Lt.own hO12) hs36
     have hA40 := Apart.new (Lt.blk hB2) hs36
     have hG41 := Ge.new hE9 hs36
     have hG42 := Ge.new hE10 hs36
     have hE43 := hE9.then hw37
     have hE44 := hE10.then hw37
     have hB45 := hw37.blk0 hB11
     have hO46 := hO12.evo0 hw37
     have hB47 := hw37.blk0 hB2
     have hszg := (hE43).size
     refine wl_append rfl rfl rfl rfl Try.app41_41 hO46 (Src.ofOwn hO35 ⟨by first | rfl | assumption, by first | rfl | assumption, by first | rfl | assumption, by first | rfl | assumption, by first | rfl | assumption, trivial⟩) (by omega) fun a2 c2 w50 ob2 hO2 hw53 hob54 => ?_
     have hA55 := hAJN0.app (Lt.blk hB45) hob54
     have hA56 := hA6.symm.app (Lt.blk hB47) hob54
     have hA57 := hA39.symm.app (Lt.own hO35) hob54
     have hE58 := hE43.step hw53 (fun y hy => .inl (List.mem_cons_of_mem _ hy))
     have hB60 := hw53.blk hB45 hAJN0.nmem
     have hB61 := hw53.blk hB47 hA6.symm.nmem
     have hO62 := hO35.evo hw53 hA39.symm.own
     have hob2 : ob2 = ob ∨ ∃ g, ob2 = some g ∧ w.heap.size ≤ g := hob54.imp id (fun ⟨g, h1, h2⟩ => ⟨g, h1, Nat.le_trans hszg h2⟩)
     refine wl_val rfl (ex_nilCheck rfl) ?_
     refine wl_store1 rfl rfl (by first | rfl | assumption) Try.size41 hB60 rfl fun w63 hB64 hw65 => ?_
     have hE66 := hE58.step hw65 (fun y hy => .inl (by rw [List.mem_singleton.1 hy]; exact List.mem_cons_self ..))
     have hB67 := hw65.blk hB61 hA5.symm.nmem1
     have hO68 := hO62.evo hw65 hA38.symm.own1
     have hO69 := hO2.evo hw65 hA55.symm.own1
     try simp only [List.setIfInBounds_toArray, List.set_cons_zero, List.set_cons_succ, Nat.reduceAdd, Nat.zero_add, Nat.add_zero] at hB64
     refine wl_nil (nrm_then ?_)
     refine cw_ret (ret_then (ret_block (body_ret0 rfl ?_)))
     refine ⟨rfl, hE66, [(⟨11, 0, 0, 0, []⟩, .slice none 0 0)], ⟨a2, c2, ob2, ⟨?_, ?_, own_new hC.ne (blk_lt hC.blk) hob2, fun e he => ?_⟩, hob2⟩, codes_fail (by omega) (List.length_eq_zero_iff.1 (by omega)), by have := esz0 (t := t) (by omega); show 1 ≤ t.esz; omega, nice_one ⟨by simp, Int.le_refl _, Int.le_refl _, Nat.zero_le _⟩⟩
     · rw [List.length_append]; exact hB64
     · rw [List.length_append, flat_append]; exact hO69
     · rcases List.mem_append.1 he with he | he
       · exact rrg_step (hC.rs e he) ((hE66).mono hmZ) (mem_obZ hob2)
       · rw [List.mem_singleton] at he; subst he; exact rnil0
    ·skip
     refine cw_skip (nrm_then ?_)
     refine cw_region ?_
     refine wl_m ?_
     refine wl_val rfl (ex_fieldAddr rfl Try.fld25_2) ?_
     refine wl_val rfl (ex_load1 rfl Try.agg22 (cell_nth hB2 rfl)) ?_
     refine wl_call1 (vs := [_]) Try.goes32 rfl (cloneR_ok (RSl.evo RRg.pers ((hE10).any _) hrg) (memZ_lt hC hZ hE9) (hg.node.cls (by omega)).len) rfl ?_
     rintro vr w70 ⟨hrc, hw71⟩
     have hE72 := hE9.then hw71
     have hE73 := hE10.then hw71
     have hB74 := hw71.blk0 hB11
     have hO75 := hO12.evo0 hw71
     have hB76 := hw71.blk0 hB2
     obtain ⟨va, vc, rfl, -⟩ := id hrc
     refine wl_val rfl (ex_build (vs := [(0, _), (4, _)]) Try.build44 rfl (cells := [_, _, _, _, _]) rfl) ?_
     refine wl_call1 (vs := [_, _]) Try.goes31 rfl (put_ok (rs := t.ranges) (hC.evo0 hE73) hrc (by omega)) rfl ?_
     rintro _ w77 ⟨rfl, hw78, hto1⟩
     have hlt_b3_1 := (Lt.blk hB76)
     have hev_1 := hE72
     have hE79 := hE72.step hw78 (mem_ob (.inl rfl))
     have hB80 := hw78.blk hB76 (nmem2 hA5.symm hA6.symm)
     obtain ⟨pa_1, pc_1, po_1, hC_1, hp_1⟩ := hto1
     have hq_1 := fr_trans (.inl rfl) hev_1 hp_1
     have hA_b3_1 := ap_ob hA6.symm hlt_b3_1 hp_1
     have hAJN_1 : Apart (some cb) po_1 := fun g h1 h2 => by cases h1; exact hC_1.ne cb h2 rfl
     refine wl_nil (nrm_block (body_end0 rfl ?_))
     refine ⟨rfl, hE79, [(⟨2, (es.length : Nat) + 1, 0, 0, t.ranges⟩, _)], ⟨_, _, _, hC_1.evo0 (Evo.refl [] w77), hq_1⟩, codes_class (by omega) (fun h => by rw [h] at hc24; simp at hc24), by have := esz0 (t := t) (by omega); show 1 ≤ t.esz; omega, nice_one ⟨by simp, by show (0 : Int) ≤ (es.length : Nat) + 1; omega, Int.le_refl _, (hg.node.cls (by omega)).len⟩⟩
   ·skip
    refine cw_seq ?_
    refine cw_region ?_
    refine wl_val rfl (ex_eql rfl rfl) ?_
    refine wl_a ?_
    refine wl_nil (nrm_then ?_)
    refine cw_if rfl (fun hc39 => ?_) (fun hc39 => ?_)
    ·skip
     have he4 := esz4 (t := t) (by omega)
     refine cw_seq ?_
     refine cw_region ?_
     refine wl_val rfl (ex_fieldAddr rfl Try.fld25_8) ?_
     refine wl_val rfl (ex_load1 rfl Try.agg23 (cell_nth hB2 rfl)) ?_
     refine wl_val rfl (ex_len_slice rfl Try.underlying23 rfl) ?_
     refine wl_m ?_
     refine wl_nil (nrm_then ?_)
     refine cw_block ?_
     refine cw_loop (α := RpG) (⟨0, [], a, c, ob⟩) (fun x => [(44, .int .i64 (x.k : Nat))]) [(0, _), (42, _), (43, _)] (fun x wr => Evo (cb :: ob.toList) w wr ∧ (CtI w wr cb es ob Z t.kids x)) (fun x => t.kids.length - x.k) ⟨rfl, trivial⟩ ⟨rfl, rfl, rfl, trivial⟩ ⟨hE9, ⟨Nat.zero_le _, by rw [List.append_nil]; exact hC.evo0 hE10, .inl rfl, CatC.nil _, Nat.zero_le _, (fun _ h => by cases h)⟩⟩ ?_
     rintro ⟨k, new, pa, pc, po⟩ wr81 ⟨hV82, ⟨hj, hcd, hq, hpre, hlen, hnice⟩⟩
     show CW _ _ _ _ [(44, .int .i64 (k : Nat)), (0, _), (42, _), (43, _)] _
     try dsimp only at hj
     try dsimp only at hcd
     try dsimp only at hq
     try dsimp only at hpre
     try dsimp only at hlen
     try dsimp only at hnice
     have hAJN : Apart (some cb) po := fun g h1 h2 => by cases h1; exact hcd.ne cb h2 rfl
     refine cw_seq ?_
     refine cw_region ?_
     refine wl_val rfl (ex_lss rfl rfl) ?_
     refine wl_nil (nrm_then ?_)
     refine cw_seq ?_
     refine cw_if rfl (fun hc45 => ?_) (fun hc45 => ?_)
     ·skip
      have hj' : k < t.kids.length := by omega
      obtain ⟨b1, o1, vs1, ha1, hb1, hvl1, hc1, hrk⟩ := e1 k hj'
      obtain ⟨m1, ra1, rc1, ka1, kc1, rfl, rfl, -⟩ := id hrk.get
      have hek := eszs_le hj'
      refine cw_skip (nrm_then ?_)
      refine cw_seq ?_
      refine cw_block ?_
      refine cw_seq ?_
      refine cw_region ?_
      refine wl_val rfl (ex_indexAddr (n := k) (by rw [ha1]; rfl) rfl Try.elem23 (by omega)) ?_
      refine wl_val rfl (ex_loadA rfl Try.agg25 Try.size25 (vs := [_, _, _, _, _, _, _, _, _]) rfl (hc1.evo hV82 hb1)) ?_
      refine wl_alloc rfl Try.zero25 fun b5 w83 hB84 hs85 hw86 => ?_
      have hsz_b5 := hs85
      have hA87 := Apart.new (Lt.blk hcd.blk) hs85
      have hA88 := Apart.new (Lt.own hcd.own) hs85
      have hG89 := Ge.new hV82 hs85
      have hG90 := Ge.new (Evo.refl [] wr81) hs85
      have hE91 := hV82.then hw86
      have hE92 := (Evo.refl [] wr81).then hw86
      have hB93 := hw86.blk0 hcd.blk
      have hO94 := hcd.own.evo0 hw86
      refine wl_storeBlk rfl rfl Try.size25 hB84 rfl rfl ⟨by first | rfl | assumption, by first | rfl | assumption, by first | rfl | assumption, by first | rfl | assumption, by first | rfl | assumption, by first | rfl | assumption, by first | rfl | assumption, by first | rfl | assumption, by first | rfl | assumption, trivial⟩ fun w95 hB96 hw97 => ?_
      have hE98 := hE91.step hw97 hG89.mem1
      have hE99 := hE92.step hw97 hG90.mem1
      have hB100 := hw97.blk hB93 hA87.nmem1
      have hO101 := hO94.evo hw97 hA88.own1
      try simp only [List.setIfInBounds_toArray, List.set_cons_zero, List.set_cons_succ, Nat.reduceAdd, Nat.zero_add, Nat.add_zero] at hB96
      refine wl_nil (nrm_then ?_)
      refine cw_region ?_
      refine wl_m ?_
      refine wl_val rfl (ex_loadBlk rfl Try.agg25 Try.size25 hB96 rfl) ?_
      have hZw : ∀ z, z ∈ Z → z < (w95).heap.size := fun z hz => Nat.lt_of_lt_of_le (hZ z hz) (hE98).size
      refine wl_call1 (vs := [_, _]) Try.goes16 rfl (ih (t := t.kids[k]) (hcd.evo0 hE99) (RRx.step hrk hE98 (mem_ob hq) hXlt) (hg.kid _ (List.getElem_mem hj')) (by simp only [List.length_append, List.length_cons, List.length_nil]; omega) hZw) rfl ?_
      rintro _ w102 ⟨-, hw103, kx1, hto1, hkx1, hkl1, hkn1⟩
      have hlt_b5_1 := (Lt.blk hB96)
      have hev_1 := hE98
      have hE104 := hE98.step hw103 (mem_ob hq)
      have hB105 := hw103.blk hB96 (nmem2 hA87.symm hA88.symm)
      obtain ⟨pa_1, pc_1, po_1, hC_1, hp_1⟩ := hto1
      have hq_1 := fr_trans hq hev_1 hp_1
      have hA_b5_1 := ap_ob hA88.symm hlt_b5_1 hp_1
      have hAJN_1 : Apart (some cb) po_1 := fun g h1 h2 => by cases h1; exact hC_1.ne cb h2 rfl
      refine wl_nil (nrm_block (nrm_then ?_))
      refine cw_region ?_
      refine wl_val rfl (ex_add_i64 rfl rfl (by omega) (by omega)) ?_
      refine wl_m ?_
      refine wl_nil (nrm_same ?_)
      refine ⟨⟨k + 1, new ++ kx1, pa_1, pc_1, po_1⟩, ?_, ⟨rfl, trivial⟩, ⟨rfl, rfl, rfl, trivial⟩, hE104, ?_⟩
      · (try dsimp only); omega
      ·skip
       try dsimp only
       have hx' : Codes t.kids[k] (es.length + (new.map (·.1)).length) (kx1.map (·.1)) := by rw [List.length_map]; have h := hkx1; rwa [List.length_append] at h
       refine ⟨by show k + 1 ≤ _; omega, (hC_1.evo0 (Evo.refl [] w102)).cast (List.append_assoc ..), hq_1, ?_, ?_, nice_app hnice hkn1⟩
       · show CatC (t.kids.take (k + 1)) _ _; rw [List.take_add_one, List.getElem?_eq_getElem hj', List.map_append]; exact hpre.snoc hx'
       · show _ ≤ eszs (t.kids.take (k + 1)); rw [eszs_take hj', List.length_append]; omega
     ·skip
      refine cw_exit (ex_then (ex_then (ex_here (nrm_block (body_end0 rfl ?_)))))
      have hall : t.kids.take k = t.kids := List.take_of_length_le (by omega)
      rw [hall] at hpre hlen
      exact ⟨rfl, hV82, new, ⟨_, _, _, hcd.evo0 (Evo.refl [] wr81), hq⟩, codes_cat (by omega) hpre, by omega, hnice⟩
    ·skip
     refine cw_seq ?_
     refine cw_region ?_
     refine wl_val rfl (ex_eql rfl rfl) ?_
     refine wl_a ?_
     refine wl_nil (nrm_then ?_)
     refine cw_if rfl (fun hc52 => ?_) (fun hc52 => ?_)
     ·skip
      refine cw_region ?_
      refine wl_m ?_
      refine wl_val rfl (ex_fieldAddr rfl Try.fld25_8) ?_
      refine wl_val rfl (ex_load1 rfl Try.agg23 (cell_nth hB2 rfl)) ?_
      have hZw : ∀ z, z ∈ Z → z < (w1).heap.size := fun z hz => Nat.lt_of_lt_of_le (hZ z hz) (hE9).size
      refine wl_call1 (vs := [_, _]) Try.goes33 rfl (choice_step ih (hC.evo0 hE10) (RSl.evo (RRx.pers _) hE9 hk0) (by have := hn.two (by omega); omega) bl3 (fun k hk => hg.kid k hk) (by have h2 := hn.two (by omega); have := esz5 (t := t) (by omega) (by omega); omega) hZw) rfl ?_
      rintro _ w106 ⟨-, hw107, kx1, hto1, hkx1, hkl1, hkn1⟩
      have hlt_b3_1 := (Lt.blk hB2)
      have hev_1 := hE9
      have hE108 := hE9.step hw107 (mem_ob (.inl rfl))
      have hB109 := hw107.blk hB2 (nmem2 hA5.symm hA6.symm)
      obtain ⟨pa_1, pc_1, po_1, hC_1, hp_1⟩ := hto1
      have hq_1 := fr_trans (.inl rfl) hev_1 hp_1
      have hA_b3_1 := ap_ob hA6.symm hlt_b3_1 hp_1
      have hAJN_1 : Apart (some cb) po_1 := fun g h1 h2 => by cases h1; exact hC_1.ne cb h2 rfl
      refine wl_nil (nrm_block (body_end0 rfl ?_))
      exact ⟨rfl, hE108, kx1, ⟨_, _, _, hC_1.evo0 (Evo.refl [] w106), hq_1⟩, codes_alt (by omega) (by intro l hl; rw [List.length_map]; exact hkx1 l hl), by have := esz5 (t := t) (by omega) (by have := hn.two (by omega); omega); have := hn.two (by omega); omega, hkn1⟩
     ·skip
      refine cw_seq ?_
      refine cw_region ?_
      refine wl_val rfl (ex_eql rfl rfl) ?_
      refine wl_a ?_
      refine wl_nil (nrm_then ?_)
      refine cw_if rfl (fun hc58 => ?_) (fun hc58 => ?_)
      ·skip
       refine cw_region ?_
       refine wl_m ?_
       refine wl_val rfl (ex_loadBlk rfl Try.agg25 Try.size25 hB2 rfl) ?_
       have hZw : ∀ z, z ∈ Z → z < (w1).heap.size := fun z hz => Nat.lt_of_lt_of_le (hZ z hz) (hE9).size
       refine wl_call1 (vs := [_, _]) Try.goes34 rfl (repeat_step ih (hC.evo0 hE10) (RRx.pers _ _ _ _ _ _ hE9 hx0) hg hl hZw (by omega)) rfl ?_
       rintro _ w110 ⟨-, hw111, kx1, hto1, hkx1, hkl1, hkn1⟩
       have hlt_b3_1 := (Lt.blk hB2)
       have hev_1 := hE9
       have hE112 := hE9.step hw111 (mem_ob (.inl rfl))
       have hB113 := hw111.blk hB2 (nmem2 hA5.symm hA6.symm)
       obtain ⟨pa_1, pc_1, po_1, hC_1, hp_1⟩ := hto1
       have hq_1 := fr_trans (.inl rfl) hev_1 hp_1
       have hA_b3_1 := ap_ob hA6.symm hlt_b3_1 hp_1
       have hAJN_1 : Apart (some cb) po_1 := fun g h1 h2 => by cases h1; exact hC_1.ne cb h2 rfl
       refine wl_nil (nrm_block (body_end0 rfl ?_))
       exact ⟨rfl, hE112, kx1, ⟨_, _, _, hC_1.evo0 (Evo.refl [] w110), hq_1⟩, hkx1, hkl1, hkn1⟩
      ·skip
       refine cw_seq ?_
       refine cw_region ?_
       refine wl_val rfl (ex_eql rfl rfl) ?_
       refine wl_a ?_
       refine wl_nil (nrm_then ?_)
       refine cw_if rfl (fun hc63 => ?_) (fun hc63 => ?_)
       ·skip
        have hkl : t.kids.length = 1 := by have := hn.grp (by omega); omega
        have hky := single_of hkl
        have he1 := eszs_one hkl
        have he7 := esz7 (t := t) (by omega)
        have hcp := hcap (by omega)
        have hj' : 0 < t.kids.length := by omega
        obtain ⟨b1, o1, vs1, ha1, hb1, hvl1, hc1, hrk⟩ := e1 0 hj'
        obtain ⟨m1, ra1, rc1, ka1, kc1, rfl, rfl, -⟩ := id hrk.get
        refine cw_seq ?_
        refine cw_region ?_
        refine wl_m ?_
        refine wl_val rfl (ex_fieldAddr rfl Try.fld25_6) ?_
        refine wl_val rfl (ex_load1 rfl Try.agg3 (cell_nth hB2 rfl)) ?_
        refine wl_val rfl (ex_mul_i64 rfl rfl (by omega) (by omega)) ?_
        refine wl_val rfl (ex_build (vs := [(0, _), (3, _)]) Try.build44 rfl (cells := [_, _, _, _, _]) rfl) ?_
        refine wl_call1 (vs := [_, _]) Try.goes31 rfl (put_ok (rs := []) (hC.evo0 hE10) rnil0 (by omega)) rfl ?_
        rintro _ w114 ⟨rfl, hw115, hto1⟩
        have hlt_b3_1 := (Lt.blk hB2)
        have hev_1 := hE9
        have hE116 := hE9.step hw115 (mem_ob (.inl rfl))
        have hB117 := hw115.blk hB2 (nmem2 hA5.symm hA6.symm)
        obtain ⟨pa_1, pc_1, po_1, hC_1, hp_1⟩ := hto1
        have hq_1 := fr_trans (.inl rfl) hev_1 hp_1
        have hA_b3_1 := ap_ob hA6.symm hlt_b3_1 hp_1
        have hAJN_1 : Apart (some cb) po_1 := fun g h1 h2 => by cases h1; exact hC_1.ne cb h2 rfl
        refine wl_nil (nrm_then ?_)
        refine cw_seq ?_
        refine cw_region ?_
        refine wl_m ?_
        refine wl_val rfl (ex_fieldAddr rfl Try.fld25_8) ?_
        refine wl_val rfl (ex_load1 rfl Try.agg23 (cell_nth hB117 rfl)) ?_
        refine wl_val rfl (ex_indexAddrZ (n := 0) (by rw [ha1]; rfl) rfl rfl Try.elem23 (by omega)) ?_
        refine wl_val rfl (ex_loadA rfl Try.agg25 Try.size25 (vs := [_, _, _, _, _, _, _, _, _]) rfl (hc1.evo hE116 hb1)) ?_
        have hZw : ∀ z, z ∈ Z → z < (w114).heap.size := fun z hz => Nat.lt_of_lt_of_le (hZ z hz) (hE116).size
        refine wl_call1 (vs := [_, _]) Try.goes16 rfl (ih (t := t.kids[0]) (hC_1.evo0 (Evo.refl [] w114)) (RRx.step hrk hE116 (mem_ob hq_1) hXlt) (hg.kid _ (List.getElem_mem hj')) (by simp only [List.length_append, List.length_cons, List.length_nil]; omega) hZw) rfl ?_
        rintro _ w118 ⟨-, hw119, kx2, hto2, hkx2, hkl2, hkn2⟩
        have hlt_b3_2 := (Lt.blk hB117)
        have hev_2 := hE116
        have hE120 := hE116.step hw119 (mem_ob hq_1)
        have hB121 := hw119.blk hB117 (nmem2 hA5.symm hA_b3_1)
        obtain ⟨pa_2, pc_2, po_2, hC_2, hp_2⟩ := hto2
        have hq_2 := fr_trans hq_1 hev_2 hp_2
        have hA_b3_2 := ap_ob hA_b3_1 hlt_b3_2 hp_2
        have hAJN_2 : Apart (some cb) po_2 := fun g h1 h2 => by cases h1; exact hC_2.ne cb h2 rfl
        refine wl_nil (nrm_then ?_)
        refine cw_region ?_
        refine wl_m ?_
        refine wl_val rfl (ex_fieldAddr rfl Try.fld25_6) ?_
        refine wl_val rfl (ex_load1 rfl Try.agg3 (cell_nth hB121 rfl)) ?_
        refine wl_val rfl (ex_mul_i64 rfl rfl (by omega) (by omega)) ?_
        refine wl_val rfl (ex_add_i64 rfl rfl (by omega) (by omega)) ?_
        refine wl_val rfl (ex_build (vs := [(0, _), (3, _)]) Try.build44 rfl (cells := [_, _, _, _, _]) rfl) ?_
        refine wl_call1 (vs := [_, _]) Try.goes31 rfl (put_ok (rs := []) (hC_2.evo0 (Evo.refl [] w118)) rnil0 (by simp only [List.length_append, List.length_cons, List.length_nil]; omega)) rfl ?_
        rintro _ w122 ⟨rfl, hw123, hto3⟩
        have hlt_b3_3 := (Lt.blk hB121)
        have hev_3 := hE120
        have hE124 := hE120.step hw123 (mem_ob hq_2)
        have hB125 := hw123.blk hB121 (nmem2 hA5.symm hA_b3_2)
        obtain ⟨pa_3, pc_3, po_3, hC_3, hp_3⟩ := hto3
        have hq_3 := fr_trans hq_2 hev_3 hp_3
        have hA_b3_3 := ap_ob hA_b3_2 hlt_b3_3 hp_3
        have hAJN_3 : Apart (some cb) po_3 := fun g h1 h2 => by cases h1; exact hC_3.ne cb h2 rfl
        refine wl_nil (nrm_block (body_end0 rfl ?_))
        refine ⟨rfl, hE124, [(⟨4, (es.length : Nat) + 1, 0, 2 * t.cap, []⟩, .slice none 0 0)] ++ (kx2 ++ [(⟨4, ((es.length + 1 + kx2.length : Nat) : Int) + 1, 0, 2 * t.cap + 1, []⟩, .slice none 0 0)]), ⟨_, _, _, (hC_3.evo0 (Evo.refl [] w122)).cast ?_, hq_3⟩, ?_, ?_, ?_⟩
        · simp [List.append_assoc] <;> omega
        · have h := codes_grp (a := es.length) (k := kx2.map (·.1)) (by omega) hky (by have h := hkx2; rwa [List.length_append] at h)
          rw [List.length_map] at h
          rw [List.map_append, List.map_append]; exact h
        · simp only [List.length_append, List.length_cons, List.length_nil]; omega
        · exact nice_app (nice_one ⟨by simp, by show (0 : Int) ≤ (es.length : Nat) + 1; omega, Int.le_refl _, Nat.zero_le _⟩) (nice_app hkn2 (nice_one ⟨by simp, by show (0 : Int) ≤ ((es.length + 1 + kx2.length : Nat) : Int) + 1; omega, Int.le_refl _, Nat.zero_le _⟩))
       ·skip
        refine cw_seq ?_
        refine cw_region ?_
        refine wl_val rfl (ex_eql rfl rfl) ?_
        refine wl_a ?_
        refine wl_nil (nrm_then ?_)
        refine cw_if rfl (fun hc84 => ?_) (fun hc84 => ?_)
        ·skip
         refine cw_region ?_
         refine wl_m ?_
         refine wl_val rfl (ex_build (vs := [(0, _)]) Try.build44 rfl (cells := [_, _, _, _, _]) rfl) ?_
         refine wl_call1 (vs := [_, _]) Try.goes31 rfl (put_ok (rs := []) (hC.evo0 hE10) rnil0 (by omega)) rfl ?_
         rintro _ w126 ⟨rfl, hw127, hto1⟩
         have hlt_b3_1 := (Lt.blk hB2)
         have hev_1 := hE9
         have hE128 := hE9.step hw127 (mem_ob (.inl rfl))
         have hB129 := hw127.blk hB2 (nmem2 hA5.symm hA6.symm)
         obtain ⟨pa_1, pc_1, po_1, hC_1, hp_1⟩ := hto1
         have hq_1 := fr_trans (.inl rfl) hev_1 hp_1
         have hA_b3_1 := ap_ob hA6.symm hlt_b3_1 hp_1
         have hAJN_1 : Apart (some cb) po_1 := fun g h1 h2 => by cases h1; exact hC_1.ne cb h2 rfl
         refine wl_nil (nrm_block (body_end0 rfl ?_))
         refine ⟨rfl, hE128, [(⟨5, (es.length : Nat) + 1, 0, 0, []⟩, .slice none 0 0)], ⟨_, _, _, hC_1.evo0 (Evo.refl [] w126), hq_1⟩, ?_, by have := esz0 (t := t) (by omega); show 1 ≤ t.esz; omega, nice_one ⟨by simp, by show (0 : Int) ≤ (es.length : Nat) + 1; omega, Int.le_refl _, Nat.zero_le _⟩⟩
         have h := codes_leaf (x := t) (a := es.length) (by omega)
         have e : leafIn t.kind es.length = ⟨5, (es.length : Int) + 1, 0, 0, []⟩ := by rw [show t.kind = 8 from by omega]; rfl
         rw [e] at h; exact h
        ·skip
         refine cw_seq ?_
         refine cw_region ?_
         refine wl_val rfl (ex_eql rfl rfl) ?_
         refine wl_a ?_
         refine wl_nil (nrm_then ?_)
         refine cw_if rfl (fun hc89 => ?_) (fun hc89 => ?_)
         ·skip
          refine cw_region ?_
          refine wl_m ?_
          refine wl_val rfl (ex_build (vs := [(0, _)]) Try.build44 rfl (cells := [_, _, _, _, _]) rfl) ?_
          refine wl_call1 (vs := [_, _]) Try.goes31 rfl (put_ok (rs := []) (hC.evo0 hE10) rnil0 (by omega)) rfl ?_
          rintro _ w130 ⟨rfl, hw131, hto1⟩
          have hlt_b3_1 := (Lt.blk hB2)
          have hev_1 := hE9
          have hE132 := hE9.step hw131 (mem_ob (.inl rfl))
          have hB133 := hw131.blk hB2 (nmem2 hA5.symm hA6.symm)
          obtain ⟨pa_1, pc_1, po_1, hC_1, hp_1⟩ := hto1
          have hq_1 := fr_trans (.inl rfl) hev_1 hp_1
          have hA_b3_1 := ap_ob hA6.symm hlt_b3_1 hp_1
          have hAJN_1 : Apart (some cb) po_1 := fun g h1 h2 => by cases h1; exact hC_1.ne cb h2 rfl
          refine wl_nil (nrm_block (body_end0 rfl ?_))
          refine ⟨rfl, hE132, [(⟨6, (es.length : Nat) + 1, 0, 0, []⟩, .slice none 0 0)], ⟨_, _, _, hC_1.evo0 (Evo.refl [] w130), hq_1⟩, ?_, by have := esz0 (t := t) (by omega); show 1 ≤ t.esz; omega, nice_one ⟨by simp, by show (0 : Int) ≤ (es.length : Nat) + 1; omega, Int.le_refl _, Nat.zero_le _⟩⟩
          have h := codes_leaf (x := t) (a := es.length) (by omega)
          have e : leafIn t.kind es.length = ⟨6, (es.length : Int) + 1, 0, 0, []⟩ := by rw [show t.kind = 9 from by omega]; rfl
          rw [e] at h; exact h
         ·skip
          refine cw_seq ?_
          refine cw_region ?_
          refine wl_val rfl (ex_eql rfl rfl) ?_
          refine wl_a ?_
          refine wl_nil (nrm_then ?_)
          refine cw_if rfl (fun hc94 => ?_) (fun hc94 => ?_)
          ·skip
           refine cw_region ?_
           refine wl_m ?_
           refine wl_val rfl (ex_build (vs := [(0, _)]) Try.build44 rfl (cells := [_, _, _, _, _]) rfl) ?_
           refine wl_call1 (vs := [_, _]) Try.goes31 rfl (put_ok (rs := []) (hC.evo0 hE10) rnil0 (by omega)) rfl ?_
           rintro _ w134 ⟨rfl, hw135, hto1⟩
           have hlt_b3_1 := (Lt.blk hB2)
           have hev_1 := hE9
           have hE136 := hE9.step hw135 (mem_ob (.inl rfl))
           have hB137 := hw135.blk hB2 (nmem2 hA5.symm hA6.symm)
           obtain ⟨pa_1, pc_1, po_1, hC_1, hp_1⟩ := hto1
           have hq_1 := fr_trans (.inl rfl) hev_1 hp_1
           have hA_b3_1 := ap_ob hA6.symm hlt_b3_1 hp_1
           have hAJN_1 : Apart (some cb) po_1 := fun g h1 h2 => by cases h1; exact hC_1.ne cb h2 rfl
           refine wl_nil (nrm_block (body_end0 rfl ?_))
           refine ⟨rfl, hE136, [(⟨7, (es.length : Nat) + 1, 0, 0, []⟩, .slice none 0 0)], ⟨_, _, _, hC_1.evo0 (Evo.refl [] w134), hq_1⟩, ?_, by have := esz0 (t := t) (by omega); show 1 ≤ t.esz; omega, nice_one ⟨by simp, by show (0 : Int) ≤ (es.length : Nat) + 1; omega, Int.le_refl _, Nat.zero_le _⟩⟩
           have h := codes_leaf (x := t) (a := es.length) (by omega)
           have e : leafIn t.kind es.length = ⟨7, (es.length : Int) + 1, 0, 0, []⟩ := by rw [show t.kind = 10 from by omega]; rfl
           rw [e] at h; exact h
          ·skip
           refine cw_seq ?_
           refine cw_region ?_
           refine wl_val rfl (ex_eql rfl rfl) ?_
           refine wl_a ?_
           refine wl_nil (nrm_then ?_)
           refine cw_if rfl (fun hc99 => ?_) (fun hc99 => ?_)
           ·skip
            refine cw_region ?_
            refine wl_m ?_
            refine wl_val rfl (ex_build (vs := [(0, _)]) Try.build44 rfl (cells := [_, _, _, _, _]) rfl) ?_
            refine wl_call1 (vs := [_, _]) Try.goes31 rfl (put_ok (rs := []) (hC.evo0 hE10) rnil0 (by omega)) rfl ?_
            rintro _ w138 ⟨rfl, hw139, hto1⟩
            have hlt_b3_1 := (Lt.blk hB2)
            have hev_1 := hE9
            have hE140 := hE9.step hw139 (mem_ob (.inl rfl))
            have hB141 := hw139.blk hB2 (nmem2 hA5.symm hA6.symm)
            obtain ⟨pa_1, pc_1, po_1, hC_1, hp_1⟩ := hto1
            have hq_1 := fr_trans (.inl rfl) hev_1 hp_1
            have hA_b3_1 := ap_ob hA6.symm hlt_b3_1 hp_1
            have hAJN_1 : Apart (some cb) po_1 := fun g h1 h2 => by cases h1; exact hC_1.ne cb h2 rfl
            refine wl_nil (nrm_block (body_end0 rfl ?_))
            refine ⟨rfl, hE140, [(⟨8, (es.length : Nat) + 1, 0, 0, []⟩, .slice none 0 0)], ⟨_, _, _, hC_1.evo0 (Evo.refl [] w138), hq_1⟩, ?_, by have := esz0 (t := t) (by omega); show 1 ≤ t.esz; omega, nice_one ⟨by simp, by show (0 : Int) ≤ (es.length : Nat) + 1; omega, Int.le_refl _, Nat.zero_le _⟩⟩
            have h := codes_leaf (x := t) (a := es.length) (by omega)
            have e : leafIn t.kind es.length = ⟨8, (es.length : Int) + 1, 0, 0, []⟩ := by rw [show t.kind = 11 from by omega]; rfl
            rw [e] at h; exact h
           ·skip
            refine cw_seq ?_
            refine cw_region ?_
            refine wl_val rfl (ex_eql rfl rfl) ?_
            refine wl_a ?_
            refine wl_nil (nrm_then ?_)
            refine cw_if rfl (fun hc104 => ?_) (fun hc104 => ?_)
            ·skip
             refine cw_region ?_
             refine wl_m ?_
             refine wl_val rfl (ex_build (vs := [(0, _)]) Try.build44 rfl (cells := [_, _, _, _, _]) rfl) ?_
             refine wl_call1 (vs := [_, _]) Try.goes31 rfl (put_ok (rs := []) (hC.evo0 hE10) rnil0 (by omega)) rfl ?_
             rintro _ w142 ⟨rfl, hw143, hto1⟩
             have hlt_b3_1 := (Lt.blk hB2)
             have hev_1 := hE9
             have hE144 := hE9.step hw143 (mem_ob (.inl rfl))
             have hB145 := hw143.blk hB2 (nmem2 hA5.symm hA6.symm)
             obtain ⟨pa_1, pc_1, po_1, hC_1, hp_1⟩ := hto1
             have hq_1 := fr_trans (.inl rfl) hev_1 hp_1
             have hA_b3_1 := ap_ob hA6.symm hlt_b3_1 hp_1
             have hAJN_1 : Apart (some cb) po_1 := fun g h1 h2 => by cases h1; exact hC_1.ne cb h2 rfl
             refine wl_nil (nrm_block (body_end0 rfl ?_))
             refine ⟨rfl, hE144, [(⟨9, (es.length : Nat) + 1, 0, 0, []⟩, .slice none 0 0)], ⟨_, _, _, hC_1.evo0 (Evo.refl [] w142), hq_1⟩, ?_, by have := esz0 (t := t) (by omega); show 1 ≤ t.esz; omega, nice_one ⟨by simp, by show (0 : Int) ≤ (es.length : Nat) + 1; omega, Int.le_refl _, Nat.zero_le _⟩⟩
             have h := codes_leaf (x := t) (a := es.length) (by omega)
             have e : leafIn t.kind es.length = ⟨9, (es.length : Int) + 1, 0, 0, []⟩ := by rw [show t.kind = 12 from by omega]; rfl
             rw [e] at h; exact h
            ·skip
             refine cw_seq ?_
             refine cw_region ?_
             refine wl_val rfl (ex_eql rfl rfl) ?_
             refine wl_a ?_
             refine wl_nil (nrm_then ?_)
             refine cw_if rfl (fun hc109 => ?_) (fun hc109 => ?_)
             ·skip
              refine cw_region ?_
              refine wl_m ?_
              refine wl_val rfl (ex_build (vs := [(0, _), (3, _)]) Try.build44 rfl (cells := [_, _, _, _, _]) rfl) ?_
              refine wl_call1 (vs := [_, _]) Try.goes31 rfl (put_ok (rs := []) (hC.evo0 hE10) rnil0 (by omega)) rfl ?_
              rintro _ w146 ⟨rfl, hw147, hto1⟩
              have hlt_b3_1 := (Lt.blk hB2)
              have hev_1 := hE9
              have hE148 := hE9.step hw147 (mem_ob (.inl rfl))
              have hB149 := hw147.blk hB2 (nmem2 hA5.symm hA6.symm)
              obtain ⟨pa_1, pc_1, po_1, hC_1, hp_1⟩ := hto1
              have hq_1 := fr_trans (.inl rfl) hev_1 hp_1
              have hA_b3_1 := ap_ob hA6.symm hlt_b3_1 hp_1
              have hAJN_1 : Apart (some cb) po_1 := fun g h1 h2 => by cases h1; exact hC_1.ne cb h2 rfl
              refine wl_nil (nrm_block (body_end0 rfl ?_))
              refine ⟨rfl, hE148, [(⟨9, (es.length : Nat) + 1, 0, 1, []⟩, .slice none 0 0)], ⟨_, _, _, hC_1.evo0 (Evo.refl [] w146), hq_1⟩, ?_, by have := esz0 (t := t) (by omega); show 1 ≤ t.esz; omega, nice_one ⟨by simp, by show (0 : Int) ≤ (es.length : Nat) + 1; omega, Int.le_refl _, Nat.zero_le _⟩⟩
              have h := codes_leaf (x := t) (a := es.length) (by omega)
              have e : leafIn t.kind es.length = ⟨9, (es.length : Int) + 1, 0, 1, []⟩ := by rw [show t.kind = 13 from by omega]; rfl
              rw [e] at h; exact h
             ·skip
              refine cw_skip (nrm_block (body_end0 rfl ?_))
              have h1 := hn.kind1; have h2 := hn.kind2
              exact ⟨rfl, hE9, [], ⟨a, c, ob, (by rw [List.append_nil]; exact hC.evo0 hE10), .inl rfl⟩, codes_empty (by omega), Nat.zero_le _, fun _ h => by cases h⟩

theorem code_ok : ∀ {n : Nat} {w : World} {cb : Nat} {es : List Iv} {a : Option Addr} {c : Nat} {ob : Option Nat} {Z : List Nat} {vs : List Value} {t : Rx} (hC : CdAt w cb es a c ob Z) (hx : RRx n (cb :: ob.toList) w vs t) (hg : Good t) (hl : es.length + t.esz ≤ 100000) (hZ : ∀ z, z ∈ Z → z < w.heap.size), Calls Try.prog 16 #[.pointer (some ⟨cb, 0, none⟩), .agg vs.toArray] w (Ret fun v w' => v = .tuple #[] ∧ Evo (cb :: ob.toList) w w' ∧ ∃ new, CdTo w w' cb ob (es ++ new) Z ∧ Codes t es.length (new.map (·.1)) ∧ new.length ≤ t.esz ∧ ∀ e, e ∈ new → Nice e.1)
  | 0, w, cb, es, a, c, ob, Z, vs, t, hC, hx, hg, hl, hZ => hx.elim
  | n + 1, w, cb, es, a, c, ob, Z, vs, t, hC, hx, hg, hl, hZ => code_step (n := n) (fun hC hx hg hl hZ => code_ok hC hx hg hl hZ) hC hx hg hl hZ
def RIn : Rel In := fun X w vs c => ∃ vr, vs = [iv c.op, iv c.out, iv c.alt, iv c.arg, vr] ∧ RSl 2 RRg X w vr c.rs ∧ c.rs.length ≤ 1048576
theorem RIn.pers : RIn.Pers := fun _ _ _ _ _ he ⟨v, h1, h2, h3⟩ => ⟨v, h1, RSl.evo RRg.pers he h2, h3⟩
theorem RIn.fresh : RIn.Fresh := fun _ _ _ _ _ hy ⟨v, h1, h2, h3⟩ => ⟨v, h1, RSl.fresh (by decide) RRg.fresh hy h2, h3⟩
def RProg : Rel (List In) := fun X w vs l => ∃ vi g nm, vs = [vi, iv 0, g, nm] ∧ RSl 5 RIn X w vi l ∧ l.length ≤ 10000 ∧ g.oneCell' = true ∧ nm.oneCell' = true
theorem RProg.pers : RProg.Pers := fun _ _ _ _ _ he ⟨v, g, nm, h1, h2, h3⟩ => ⟨v, g, nm, h1, RSl.evo RIn.pers he h2, h3⟩
theorem RProg.fresh : RProg.Fresh := fun _ _ _ _ _ hy ⟨v, g, nm, h1, h2, h3⟩ => ⟨v, g, nm, h1, RSl.fresh (by decide) RIn.fresh hy h2, h3⟩
theorem flat_rows (es : List Iv) : (es.map Iv.cells).flatten = flat es := by unfold flat; rw [List.flatMap_def]
theorem CdAt.prog {w : World} {cb : Nat} {es : List Iv} {a : Option Addr} {c : Nat} {ob : Option Nat} {Z : List Nat} (h : CdAt w cb es a c ob Z) (hn : ∀ e, e ∈ es → e.1.rs.length ≤ 1048576) : RSl 5 RIn [] w (.slice a es.length c) (es.map (·.1)) := by
  have h1 := h.own
  rw [← flat_rows] at h1
  refine RSl.ofOwn (rows := es.map Iv.cells) h1 ⟨by simp, fun k hk hk' => ?_⟩ (by simp) (fun _ _ => by simp)
  have hk2 : k < es.length := by simpa using hk
  simp only [List.getElem_map]
  exact ⟨rfl, _, rfl, rrg_step (h.rs _ (List.getElem_mem hk2)) ((Evo.refl [] w).any _) (fun y hy => by cases hy), hn _ (List.getElem_mem hk2)⟩
theorem prog_of {X : List Nat} {w : World} {es : List Iv} {a : Option Addr} {n c : Nat} {ob : Option Nat} (h1 : OwnS w 44 5 a n c (flat es) ob) (hx : ∀ g, ob = some g → g ∉ X) (hr : ∀ e, e ∈ es → RSl 2 RRg X w e.2 e.1.rs) (hn : ∀ e, e ∈ es → e.1.rs.length ≤ 1048576) : RSl 5 RIn X w (.slice a n c) (es.map (·.1)) := by
  have hl := h1.length
  rw [flat_length] at hl
  rw [← flat_rows] at h1
  refine RSl.ofOwn (rows := es.map Iv.cells) h1 ⟨by simp, fun k hk hk' => ?_⟩ (by rw [List.length_map]; omega) hx
  have hk2 : k < es.length := by simpa using hk
  simp only [List.getElem_map]
  exact ⟨rfl, _, rfl, hr _ (List.getElem_mem hk2), hn _ (List.getElem_mem hk2)⟩
theorem progOk_of {t : Rx} {new : List Iv} (hg : Good t) (hc : Codes t ([] : List Iv).length (new.map (·.1))) (hn : ∀ e, e ∈ new → Nice e.1) {v : Value} : ProgOk t ((new ++ [((⟨1, 0, 0, 0, []⟩ : In), v)]).map (·.1)) new.length := by
  have e : (new ++ [((⟨1, 0, 0, 0, []⟩ : In), v)]).map (·.1) = new.map (·.1) ++ [⟨1, 0, 0, 0, []⟩] := by simp
  rw [e]
  refine ⟨by simp, by simp, fun p c hp hl => ?_, ?_, hg⟩
  · rw [List.getElem?_append_left (by simpa using hp)] at hl
    obtain ⟨x, hx, rfl⟩ := List.mem_map.1 (List.mem_of_getElem? hl)
    exact hn x hx
  · have := hc (new.map (·.1) ++ [⟨1, 0, 0, 0, []⟩]) (fun i hi => by rw [List.length_nil, Nat.zero_add, List.getElem?_append_left hi, List.getElem?_eq_getElem hi])
    rwa [List.length_nil, Nat.zero_add, List.length_map] at this
theorem CdAt.new {w : World} {cb : Nat} {Z : List Nat} (h : w.heap[cb]? = some (.cells #[.slice none 0 0] 41 (0, 0))) : CdAt w cb [] none 0 none Z := ⟨h, OwnS.nil _ _ _, fun g hg => (by cases hg), fun e he => (by cases he)⟩
theorem SizeIs.zero {t : Rx} {r : Int} (h : SizeIs t r) (h0 : r = 0) : ¬ t.Ok := fun hk => by have := h.1 hk; omega
theorem SizeIs.big {t : Rx} {r : Int} (h : SizeIs t r) (hk : t.Ok) (h0 : 10000 < r) : 10000 < t.esz + 1 := by have := h.1 hk; omega
theorem SizeIs.fits {t : Rx} {r : Int} (h : SizeIs t r) (hk : t.Ok) (h0 : ¬ 10000 < r) : t.esz + 1 ≤ 10000 := by have := h.1 hk; omega
theorem size_lim {t : Rx} (h : t.esz + 1 ≤ 10000) : ([] : List Iv).length + t.esz ≤ 100000 := by rw [List.length_nil]; omega
theorem size_lt {t : Rx} (h : t.esz + 1 ≤ 10000) : t.esz ≤ 9999 := by omega
def Shp (ps : List Value) : Prop := ∃ a n c g nm, ps = [.slice a n c, iv 0, g, nm] ∧ g.oneCell' = true ∧ nm.oneCell' = true
def CompIs (X : List Nat) (t : Rx) (w' : World) (ps : List Value) (e : Int) : Prop := (¬ t.Ok ∧ e = 2 ∧ Shp ps) ∨ (t.Ok ∧ 10000 < t.esz + 1 ∧ e = 90 ∧ Shp ps) ∨ (t.Ok ∧ t.esz + 1 ≤ 10000 ∧ e = 0 ∧ ∃ l n, RProg X w' ps l ∧ ProgOk t l n)

set_option maxHeartbeats 4000000 in
theorem compile_ok {X : List Nat} {n : Nat} {w : World} {vs : List Value} {t : Rx} (hX : ∀ b, b ∈ X → b < w.heap.size) (hx : RRx n [] w vs t) :
    Calls Try.prog 6 #[.agg vs.toArray] w (Ret fun v w' => Evo [] w w' ∧ ∃ ps e, v = .tuple #[.agg ps.toArray, iv e] ∧ CompIs X t w' ps e) := by
  have hx0 := hx
  obtain ⟨m, ra, rc, ka, kc, hm, rfl, hrg, hk, bl1, bl2, bl3⟩ := hx.get
  refine calls_of_cw (N := 28) Try.func6 rfl rfl rfl ?_
  refine cw_seq ?_
  refine cw_region ?_
  refine wl_boxA rfl rfl fun b1 w1 hB2 hs3 hw4 => ?_
  have hsz_b1 := hs3
  have hG5 := Ge.new (Evo.refl [] w) hs3
  have hE6 := (Evo.refl [] w).then hw4
  refine wl_alloc rfl Try.zero29 fun b2 w7 hB8 hs9 hw10 => ?_
  have hsz_b2 := hs9
  have hA11 := Apart.new (Lt.blk hB2) hs9
  have hG12 := Ge.new hE6 hs9
  have hE13 := hE6.then hw10
  have hB14 := hw10.blk0 hB2
  refine wl_a ?_
  refine wl_nil (nrm_then ?_)
  refine cw_seq ?_
  refine cw_region ?_
  refine wl_val rfl (ex_loadBlk rfl Try.agg25 Try.size25 hB14 rfl) ?_
  refine wl_call1 (vs := [_]) Try.goes15 rfl (Size_ok (RRx.pers _ _ _ _ _ _ hE13 hx0)) rfl ?_
  rintro _ w15 ⟨sz, rfl, hsz, hw16⟩
  have hE17 := hE13.then hw16
  have hB18 := hw16.blk0 hB14
  have hB19 := hw16.blk0 hB8
  refine wl_a ?_
  refine wl_nil (nrm_then ?_)
  refine cw_seq ?_
  refine cw_seq ?_
  refine cw_region ?_
  refine wl_m ?_
  refine wl_val rfl (ex_eql rfl rfl) ?_
  refine wl_nil (nrm_then ?_)
  refine cw_if rfl (fun hc10 => ?_) (fun hc10 => ?_)
  ·skip
   refine cw_seq ?_
   refine cw_region ?_
   refine wl_val rfl (ex_build (vs := []) Try.build29 rfl (cells := [_, _, _, _]) rfl) ?_
   refine wl_storeBlk rfl rfl Try.size29 hB19 rfl rfl ⟨by first | rfl | assumption, by first | rfl | assumption, by first | rfl | assumption, by first | rfl | assumption, trivial⟩ fun w20 hB21 hw22 => ?_
   have hE23 := hE17.step hw22 hG12.mem1
   have hB24 := hw22.blk hB18 hA11.nmem1
   try simp only [List.setIfInBounds_toArray, List.set_cons_zero, List.set_cons_succ, Nat.reduceAdd, Nat.zero_add, Nat.add_zero] at hB21
   refine wl_a ?_
   refine wl_nil (nrm_then ?_)
   refine cw_ret (ret_then (body_retC2 rfl (ResOk.cellA rfl Try.agg29 Try.size29 hB21 rfl) (ResOk.tmp rfl) ?_))
   exact ⟨hE23, [_, _, _, _], 2, rfl, .inl ⟨hsz.zero hc10, rfl, _, _, _, _, _, rfl, rfl, rfl⟩⟩
  ·skip
   refine cw_skip (nrm_then ?_)
   refine cw_seq ?_
   refine cw_seq ?_
   refine cw_region ?_
   refine wl_m ?_
   refine wl_val rfl (ex_gtr rfl rfl) ?_
   refine wl_nil (nrm_then ?_)
   refine cw_if rfl (fun hc13 => ?_) (fun hc13 => ?_)
   ·skip
    refine cw_seq ?_
    refine cw_region ?_
    refine wl_val rfl (ex_build (vs := []) Try.build29 rfl (cells := [_, _, _, _]) rfl) ?_
    refine wl_storeBlk rfl rfl Try.size29 hB19 rfl rfl ⟨by first | rfl | assumption, by first | rfl | assumption, by first | rfl | assumption, by first | rfl | assumption, trivial⟩ fun w25 hB26 hw27 => ?_
    have hE28 := hE17.step hw27 hG12.mem1
    have hB29 := hw27.blk hB18 hA11.nmem1
    try simp only [List.setIfInBounds_toArray, List.set_cons_zero, List.set_cons_succ, Nat.reduceAdd, Nat.zero_add, Nat.add_zero] at hB26
    refine wl_a ?_
    refine wl_nil (nrm_then ?_)
    refine cw_ret (ret_then (body_retC2 rfl (ResOk.cellA rfl Try.agg29 Try.size29 hB26 rfl) (ResOk.tmp rfl) ?_))
    have hok : t.Ok := Classical.byContradiction fun h => hc10 (hsz.2 h)
    exact ⟨hE28, [_, _, _, _], 90, rfl, .inr (.inl ⟨hok, hsz.big hok hc13, rfl, _, _, _, _, _, rfl, rfl, rfl⟩)⟩
   ·skip
    have hok : t.Ok := Classical.byContradiction fun h => hc10 (hsz.2 h)
    have hszE := hsz.fits hok hc13
    have hsz4 := size_lt hszE
    refine cw_skip (nrm_then ?_)
    refine cw_seq ?_
    refine cw_region ?_
    refine wl_alloc rfl Try.zero41 fun cb w30 hB31 hs32 hw33 => ?_
    have hsz_cb := hs32
    have hA34 := Apart.new (Lt.blk hB18) hs32
    have hA35 := Apart.new (Lt.blk hB19) hs32
    have hG36 := Ge.new hE17 hs32
    have hE37 := hE17.then hw33
    have hB38 := hw33.blk0 hB18
    have hB39 := hw33.blk0 hB19
    refine wl_nil (nrm_then ?_)
    refine cw_seq ?_
    refine cw_region ?_
    refine wl_val rfl (ex_loadBlk rfl Try.agg25 Try.size25 hB38 rfl) ?_
    refine wl_call1 (vs := [_, _]) Try.goes16 rfl (code_ok (CdAt.new (Z := X ++ [b2]) hB31) (RRx.step hx0 hE37 hG36.mem1 (fun b hb => by cases hb)) hok.good (size_lim hszE) (fun z hz => by rcases List.mem_append.1 hz with e | e; exact Nat.lt_of_lt_of_le (hX z e) (hE37).size; (rw [List.mem_singleton.1 e]; exact blk_lt hB39))) rfl ?_
    rintro _ w40 ⟨-, hw41, new, hto, hcodes, hlen, hnice⟩
    have hltb2 := (Lt.blk hB39)
    have hltb1 := (Lt.blk hB38)
    have hgcb := hG36
    have hev16 := hE37
    have hE42 := hE37.step hw41 (hG36.mem1)
    have hB43 := hw41.blk hB38 (hA34.nmem1)
    have hB44 := hw41.blk hB39 (hA35.nmem1)
    obtain ⟨pa, pc, po, hC0, hp1⟩ := hto
    have hC1 := hC0.cast (List.nil_append _)
    have hgpo : Ge w po := ge_ob (Ge.nil _) hev16.size hp1
    have hA2po := ap_ob (Apart.nil (some b2)) hltb2 hp1
    have hA1po := ap_ob (Apart.nil (some b1)) hltb1 hp1
    have hAcN : Apart (some cb) po := fun g h1 h2 => by cases h1; exact hC1.ne cb h2 rfl
    refine wl_nil (nrm_then ?_)
    refine cw_seq ?_
    refine cw_region ?_
    refine wl_val rfl (ex_load1 rfl Try.agg41 (cell_nth hC1.blk rfl)) ?_
    refine wl_val rfl (ex_build (vs := [(0, _)]) Try.build44 rfl (cells := [_, _, _, _, _]) rfl) ?_
    refine wl_bslice (vs := [_]) rfl Try.slice41 rfl rfl rfl rfl fun b45 w46 hO47 hs48 hw49 => ?_
    have hA50 := Apart.new (Lt.blk hB43) hs48
    have hA51 := Apart.new (Lt.blk hB44) hs48
    have hA52 := Apart.new (Lt.blk hC1.blk) hs48
    have hA53 := Apart.new (Lt.own hC1.own) hs48
    have hG54 := Ge.new hE42 hs48
    have hG55 := Ge.new (Evo.refl (cb :: (po.toList ++ (X ++ [b2]))) w40) hs48
    have hE56 := hE42.then hw49
    have hE57 := (Evo.refl (cb :: (po.toList ++ (X ++ [b2]))) w40).then hw49
    have hB58 := hw49.blk0 hB43
    have hB59 := hw49.blk0 hB44
    have hB60 := hw49.blk0 hC1.blk
    have hO61 := hC1.own.evo0 hw49
    refine wl_append rfl rfl rfl rfl Try.app41_41 hO61 (Src.ofOwn hO47 ⟨by first | rfl | assumption, by first | rfl | assumption, by first | rfl | assumption, by first | rfl | assumption, by first | rfl | assumption, trivial⟩) (by omega) fun a2 c2 w64 ob2 hO2 hw67 hob68 => ?_
    have hA69 := hA1po.app (Lt.blk hB58) hob68
    have hA70 := hA2po.app (Lt.blk hB59) hob68
    have hA71 := hAcN.app (Lt.blk hB60) hob68
    have hA72 := hA53.symm.app (Lt.own hO47) hob68
    have hG73 := hgpo.app hE56 hob68
    have hE74 := hE56.step hw67 hgpo.mem
    have hE75 := hE57.step hw67 (fun y hy => .inl (List.mem_cons_of_mem _ (List.mem_append_left _ hy)))
    have hB76 := hw67.blk hB58 hA1po.nmem
    have hB77 := hw67.blk hB59 hA2po.nmem
    have hB78 := hw67.blk hB60 hAcN.nmem
    have hO79 := hO47.evo hw67 hA53.symm.own
    have hob2 := hob68
    refine wl_store1 rfl rfl (by first | rfl | assumption) Try.size41 hB78 rfl fun w80 hB81 hw82 => ?_
    have hE83 := hE74.step hw82 hgcb.mem1
    have hE84 := hE75.step hw82 (fun y hy => .inl (by rw [List.mem_singleton.1 hy]; exact List.mem_cons_self ..))
    have hB85 := hw82.blk hB76 hA34.nmem1
    have hB86 := hw82.blk hB77 hA35.nmem1
    have hO87 := hO79.evo hw82 hA52.symm.own1
    have hO88 := hO2.evo hw82 hA71.symm.own1
    try simp only [List.setIfInBounds_toArray, List.set_cons_zero, List.set_cons_succ, Nat.reduceAdd, Nat.zero_add, Nat.add_zero] at hB81
    refine wl_nil (nrm_then ?_)
    refine cw_seq ?_
    refine cw_region ?_
    refine wl_val rfl (ex_loadBlk rfl Try.agg25 Try.size25 hB85 rfl) ?_
    refine wl_call1 (vs := [_]) Try.goes17 rfl (groups_ok (RRx.pers _ _ _ _ _ _ hE83 hx0)) rfl ?_
    rintro _ w89 ⟨na, nk, nc, rfl, hw90⟩
    have hE91 := hE83.then hw90
    have hE92 := hE84.then hw90
    have hB93 := hw90.blk0 hB85
    have hB94 := hw90.blk0 hB86
    have hB95 := hw90.blk0 hB81
    have hO96 := hO88.evo0 hw90
    refine wl_a ?_
    refine wl_nil (nrm_then ?_)
    refine cw_seq ?_
    refine cw_region ?_
    refine wl_val rfl (ex_load1 rfl Try.agg41 (cell_nth hB95 rfl)) ?_
    refine wl_m ?_
    refine wl_val rfl (ex_len_slice rfl Try.underlying27 rfl) ?_
    refine wl_m ?_
    refine wl_val rfl (ex_build (vs := [(0, _), (2, _), (3, _)]) Try.build29 rfl (cells := [_, _, _, _]) rfl) ?_
    refine wl_storeBlk rfl rfl Try.size29 hB94 rfl rfl ⟨by first | rfl | assumption, by first | rfl | assumption, by first | rfl | assumption, by first | rfl | assumption, trivial⟩ fun w97 hB98 hw99 => ?_
    have hE100 := hE91.step hw99 hG12.mem1
    have hE101 := hE92.step hw99 (fun y hy => .inl (List.mem_cons_of_mem _ (List.mem_append_right _ (List.mem_append_right _ hy))))
    have hB102 := hw99.blk hB93 hA11.nmem1
    have hB103 := hw99.blk hB95 hA35.symm.nmem1
    have hO104 := hO96.evo hw99 hA70.symm.own1
    try simp only [List.setIfInBounds_toArray, List.set_cons_zero, List.set_cons_succ, Nat.reduceAdd, Nat.zero_add, Nat.add_zero] at hB98
    refine wl_a ?_
    refine wl_nil (nrm_then ?_)
    refine cw_ret (body_retC2 rfl (ResOk.cellA rfl Try.agg29 Try.size29 hB98 rfl) (ResOk.tmp rfl) ?_)
    have hnew : ∀ e, e ∈ new ++ [((⟨1, 0, 0, 0, []⟩ : In), Value.slice none 0 0)] → e.1.rs.length ≤ 1048576 := fun e he => by rcases List.mem_append.1 he with h | h; exact (hnice e h).2.2.2; rw [List.mem_singleton] at h; subst h; exact Nat.zero_le _
    have hrsA : ∀ e, e ∈ new ++ [((⟨1, 0, 0, 0, []⟩ : In), Value.slice none 0 0)] → RSl 2 RRg X w97 e.2 e.1.rs := fun e he => by rcases List.mem_append.1 he with h | h; exact rrg_step (hC1.rs e h) hE101 (fun y hy => .inl (List.mem_cons_of_mem _ (List.mem_append_right _ (List.mem_append_left _ hy)))); rw [List.mem_singleton] at h; subst h; exact rnil0
    have hown : OwnS w97 44 5 a2 (new.length + 1) c2 (flat (new ++ [((⟨1, 0, 0, 0, []⟩ : In), Value.slice none 0 0)])) ob2 := by rw [flat_append]; exact hO104
    have hlen0 := hsz4
    refine ⟨hE100, [_, _, _, _], 0, rfl, .inr (.inr ⟨hok, hszE, rfl, (new ++ [((⟨1, 0, 0, 0, []⟩ : In), Value.slice none 0 0)]).map (·.1), new.length, ⟨_, _, _, rfl, ?_, ?_, rfl, rfl⟩, ?_⟩)⟩
    · have h := prog_of hown (fun g hg hm => by have h1 := hG73 g hg; have h2 := hX g hm; omega) hrsA hnew
      exact h
    · simp only [List.length_map, List.length_append, List.length_cons, List.length_nil]; exact Nat.le_trans (Nat.succ_le_succ (Nat.le_trans hlen hlen0)) (by decide)
    · exact progOk_of hok.good hcodes hnice

end Go.Proofs.Ytgboffefbpligaa
