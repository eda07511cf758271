/- The coder: repeat. -/
import Derived.Test.YtgboffefbpligaaTj
namespace Go.Proofs.Ytgboffefbpligaa
open Go.Proofs
open Go.W Go.RowKit
attribute [local irreducible] Decidable.decide
set_option linter.unusedSimpArgs false
set_option linter.unusedVariables false



structure RpG where
  k : Nat
  new : List Iv
  pa : Option Addr
  pc : Nat
  po : Option Nat
structure RpI (w wr : World) (cb : Nat) (es : List Iv) (ob : Option Nat) (Z : List Nat) (y : Rx) (b3 : Nat) (cs : Array Value) (k : Nat) (x : RpG) : Prop where
  cd : CdAt wr cb (es ++ x.new) x.pa x.pc x.po Z
  po : x.po = ob ∨ ∃ g, x.po = some g ∧ w.heap.size ≤ g
  pre : RepC [y] k es.length (x.new.map (·.1))
  len : x.new.length ≤ k * y.esz
  nice : ∀ e, e ∈ x.new → Nice e.1
  bx : wr.heap[b3]? = some (.cells cs 25 (0, 0))
  a1 : Apart (some b3) (some cb)
  a2 : Apart (some b3) x.po
structure RqG where
  j : Nat
  new2 : List Iv
  pa : Option Addr
  pc : Nat
  po : Option Nat
  js : List Nat
  ja : Option Addr
  jc : Nat
  jo : Option Nat
structure RqI (w wr : World) (cb : Nat) (es new : List Iv) (ob : Option Nat) (Z : List Nat) (z : Bool) (y : Rx) (b3 : Nat) (cs : Array Value) (r : Nat) (x : RqG) : Prop where
  j : x.j ≤ r
  cd : CdAt wr cb (es ++ (new ++ x.new2)) x.pa x.pc x.po (x.jo.toList ++ Z)
  po : x.po = ob ∨ ∃ g, x.po = some g ∧ w.heap.size ≤ g
  pre : OptPre z y x.j (es.length + new.length) (x.new2.map (·.1)) x.js
  len : x.new2.length ≤ x.j * (y.esz + 1)
  jl : x.js.length = x.j
  nice : ∀ e, e ∈ x.new2 → Nice e.1
  jo : OwnS wr 3 1 x.ja x.j x.jc (x.js.map fun p => iv (p : Nat)) x.jo
  ap1 : Apart (some cb) x.jo
  ap2 : Apart x.po x.jo
  ge : Ge w x.jo
  bx : wr.heap[b3]? = some (.cells cs 25 (0, 0))
  a1 : Apart (some b3) (some cb)
  a2 : Apart (some b3) x.po
  a3 : Apart (some b3) x.jo
theorem single_of {l : List Rx} (h : l.length = 1) : l = [l[0]] := by
  apply List.ext_getElem
  · simp [h]
  · intro i h1 h2
    have : i = 0 := by omega
    subst this
    rfl
theorem turnM_ok {w : World} {cb : Nat} {es : List Iv} {a : Option Addr} {c k m : Nat} {ob : Option Nat} {Z : List Nat} {i o : Int} {z : Bool} (h : CdAt w cb es a c ob Z) (hm : m = es.length) (hk : k < es.length) :
    Calls Try.prog 55 #[.slice a m c, .int .i64 (k : Nat), .int .i64 i, .int .i64 o, .bool z] w (Ret fun v w' => v = .tuple #[] ∧ Evo ob.toList w w' ∧ CdAt w' cb (es.modify k (fun e => (⟨e.1.op, if z then o else i, if z then i else o, e.1.arg, e.1.rs⟩, e.2))) a c ob Z) := by
  subst hm; exact turnC_ok h hk
theorem turn_len {es : List Iv} {k n : Nat} {z : Bool} (h : es.length = n) : es.modify k (fun e => (⟨e.1.op, if z then ((es.length : Nat) : Int) else (k : Int) + 1, if z then (k : Int) + 1 else ((es.length : Nat) : Int), e.1.arg, e.1.rs⟩, e.2)) = es.modify k (Iv.turnTo z n k) := by subst h; rfl
theorem mod_last {A : List Iv} {y : Iv} {f : Iv → Iv} {k : Nat} (hk : k = A.length) : (A ++ [y]).modify k f = A ++ [f y] := by
  subst hk
  induction A with
  | nil => simp [List.modify]
  | cons a A ih => rw [List.cons_append, List.length_cons, modify_cons_succ, ih]; rfl
theorem mul_succ_le {k m e : Nat} (h : k < m) : k * e + e ≤ m * e := by rw [← Nat.succ_mul]; exact Nat.mul_le_mul_right _ h

set_option maxHeartbeats 8000000 in
theorem repeat_step {n : Nat} (ih : ∀ {w : World} {cb : Nat} {es : List Iv} {a : Option Addr} {c : Nat} {ob : Option Nat} {Z : List Nat} {vs : List Value} {t : Rx} (hC : CdAt w cb es a c ob Z) (hx : RRx n (cb :: ob.toList) w vs t) (hg : Good t) (hl : es.length + t.esz ≤ 100000) (hZ : ∀ z, z ∈ Z → z < w.heap.size), Calls Try.prog 16 #[.pointer (some ⟨cb, 0, none⟩), .agg vs.toArray] w (Ret fun v w' => v = .tuple #[] ∧ Evo (cb :: ob.toList) w w' ∧ ∃ new, CdTo w w' cb ob (es ++ new) Z ∧ Codes t es.length (new.map (·.1)) ∧ new.length ≤ t.esz ∧ ∀ e, e ∈ new → Nice e.1)) {w : World} {cb : Nat} {es : List Iv} {a : Option Addr} {c : Nat} {ob : Option Nat} {Z : List Nat} {vs : List Value} {t : Rx} (hC : CdAt w cb es a c ob Z) (hx : RRx (n + 1) (cb :: ob.toList) w vs t) (hg : Good t) (hl : es.length + t.esz ≤ 100000) (hZ : ∀ z, z ∈ Z → z < w.heap.size) (h6 : t.kind = 6) : Calls Try.prog 34 #[.pointer (some ⟨cb, 0, none⟩), .agg vs.toArray] w (Ret fun v w' => v = .tuple #[] ∧ Evo (cb :: ob.toList) w w' ∧ ∃ new, CdTo w w' cb ob (es ++ new) Z ∧ Codes t es.length (new.map (·.1)) ∧ new.length ≤ t.esz ∧ ∀ e, e ∈ new → Nice e.1) := by
  have hXlt := hC.lt
  have hx0 := hx
  obtain ⟨m, ra, rc, ka, kc, hm, rfl, hrg, hk, bl1, bl2, bl3⟩ := hx.get
  obtain rfl : m = n := by omega
  obtain ⟨_, _, hke, hkc, e1⟩ := hk
  cases hke
  have hn := (nodeP_iff t).1 hg.node
  have hkl : t.kids.length = 1 := by have := hn.rep4 h6; omega
  have hj' : 0 < t.kids.length := by omega
  have hky : t.kids = [t.kids[0]] := single_of hkl
  obtain ⟨bk, ok, vs1, rfl, hb1, hvl1, hc1, hrk⟩ := e1 0 hj'
  obtain ⟨m1, ra1, rc1, ka1, kc1, rfl, rfl, -⟩ := id hrk.get
  have he1 := eszs_one hkl
  have hr1 := hn.rep1 h6
  have hr2 := hn.rep2 h6
  have hr3 := hn.rep3 h6
  have hrs : t.esz = (if t.max = -1 then t.min.toNat * t.kids[0].esz + t.kids[0].esz + 2 else t.min.toNat * t.kids[0].esz + (t.max - t.min).toNat * (t.kids[0].esz + 1)) := by
    rw [Rx.esz_eq, if_neg (by omega), if_neg (by omega), if_neg (by omega), if_pos h6, he1]
  refine calls_of_cw (N := 106) Try.func34 rfl rfl rfl ?_
  refine cw_seq ?_
  refine cw_region ?_
  refine wl_boxA rfl rfl fun b3 w1 hB2 hs3 hw4 => ?_
  have hsz_b3 := hs3
  have hA5 := Apart.new (Lt.blk hC.blk) hs3
  have hA6 := Apart.new (Lt.own hC.own) hs3
  have hG7 := Ge.new (Evo.refl (cb :: ob.toList) w) hs3
  have hG8 := Ge.new (Evo.refl [] w) hs3
  have hE9 := (Evo.refl (cb :: ob.toList) w).then hw4
  have hE10 := (Evo.refl [] w).then hw4
  have hB11 := hw4.blk0 hC.blk
  have hO12 := hC.own.evo0 hw4
  refine wl_nil (nrm_then ?_)
  refine cw_seq ?_
  refine cw_cut (α := RpG) (fun x => []) [(0, _), (3, _)] (fun x wr => Evo (cb :: ob.toList) w wr ∧ (RpI w wr cb es ob Z t.kids[0] b3 #[iv t.kind, .int .i32 t.r, .slice ra t.ranges.length rc, iv t.min, iv t.max, .bool t.lazy, iv t.cap, .string t.name, .slice (some ⟨bk, ok, none⟩) t.kids.length kc] t.min.toNat x)) ⟨rfl, rfl, trivial⟩ ?_ ?_
  ·skip
   refine cw_seq ?_
   refine cw_region ?_
   refine wl_val rfl (ex_fieldAddr rfl Try.fld25_3) ?_
   refine wl_val rfl (ex_load1 rfl Try.agg3 (cell_nth hB2 rfl)) ?_
   refine wl_m ?_
   refine wl_nil (nrm_then ?_)
   refine cw_block ?_
   refine cw_loop (α := RpG) (⟨0, [], a, c, ob⟩) (fun x => [(12, .int .i64 (x.k : Nat))]) [(0, _), (3, _), (11, _)] (fun x wr => Evo (cb :: ob.toList) w wr ∧ (x.k ≤ t.min.toNat ∧ RpI w wr cb es ob Z t.kids[0] b3 #[iv t.kind, .int .i32 t.r, .slice ra t.ranges.length rc, iv t.min, iv t.max, .bool t.lazy, iv t.cap, .string t.name, .slice (some ⟨bk, ok, none⟩) t.kids.length kc] x.k x)) (fun x => t.min.toNat - x.k) ⟨rfl, trivial⟩ ⟨rfl, rfl, rfl, trivial⟩ ⟨hE9, ⟨Nat.zero_le _, by rw [List.append_nil]; exact hC.evo0 hE10, .inl rfl, RepC.nil _ _, Nat.zero_le _, (fun _ h => by cases h), hB2, hA5.symm, hA6.symm⟩⟩ ?_
   rintro ⟨k, new, pa, pc, po⟩ wr13 ⟨hV14, ⟨hk, hcd, hq, hpre, hlen, hnice, hb3, ha1, ha2⟩⟩
   show CW _ _ _ _ [(12, .int .i64 (k : Nat)), (0, _), (3, _), (11, _)] _
   try dsimp only at hk
   try dsimp only at hcd
   try dsimp only at hq
   try dsimp only at hpre
   try dsimp only at hlen
   try dsimp only at hnice
   try dsimp only at hb3
   try dsimp only at ha1
   try dsimp only at ha2
   have hAJN : Apart (some cb) po := fun g h1 h2 => by cases h1; exact hcd.ne cb h2 rfl
   refine cw_seq ?_
   refine cw_region ?_
   refine wl_val rfl (ex_lss rfl rfl) ?_
   refine wl_nil (nrm_then ?_)
   refine cw_seq ?_
   refine cw_if rfl (fun hc13 => ?_) (fun hc13 => ?_)
   ·skip
    have hkm : k < t.min.toNat := by omega
    have hms := mul_succ_le (e := t.kids[0].esz) hkm
    have hsz : es.length + t.min.toNat * t.kids[0].esz ≤ 100000 := by split at hrs <;> omega
    refine cw_skip (nrm_then ?_)
    refine cw_seq ?_
    refine cw_block ?_
    refine cw_seq ?_
    refine cw_region ?_
    refine wl_m ?_
    refine wl_val rfl (ex_nilCheck rfl) ?_
    refine wl_val rfl (ex_load1 rfl Try.agg41 (cell_nth hcd.blk rfl)) ?_
    refine wl_val rfl (ex_len_slice rfl Try.underlying41 rfl) ?_
    refine wl_a ?_
    refine wl_nil (nrm_then ?_)
    refine cw_seq ?_
    refine cw_region ?_
    refine wl_m ?_
    refine wl_val rfl (ex_fieldAddr rfl Try.fld25_8) ?_
    refine wl_val rfl (ex_load1 rfl Try.agg23 (cell_nth hb3 rfl)) ?_
    refine wl_val rfl (ex_indexAddrZ (n := 0) rfl rfl rfl Try.elem23 (by omega)) ?_
    refine wl_val rfl (ex_loadA rfl Try.agg25 Try.size25 (vs := [_, _, _, _, _, _, _, _, _]) rfl (hc1.evo hV14 hb1)) ?_
    have hZw : ∀ z, z ∈ Z → z < (wr13).heap.size := fun z hz => Nat.lt_of_lt_of_le (hZ z hz) (hV14).size
    refine wl_call1 (vs := [_, _]) Try.goes16 rfl (ih (t := t.kids[0]) (hcd.evo0 (Evo.refl [] wr13)) (RRx.step hrk hV14 (mem_ob hq) hXlt) (hg.kid _ (List.getElem_mem hj')) (by simp only [List.length_append]; omega) hZw) rfl ?_
    rintro _ w15 ⟨-, hw16, kx1, hto1, hkx1, hkl1, hkn1⟩
    have hlt_b3_1 := (Lt.blk hb3)
    have hev_1 := hV14
    have hE17 := hV14.step hw16 (mem_ob hq)
    have hB18 := hw16.blk hb3 (nmem2 ha1 ha2)
    obtain ⟨pa_1, pc_1, po_1, hC_1, hp_1⟩ := hto1
    have hq_1 := fr_trans hq hev_1 hp_1
    have hA_b3_1 := ap_ob ha2 hlt_b3_1 hp_1
    have hAJN_1 : Apart (some cb) po_1 := fun g h1 h2 => by cases h1; exact hC_1.ne cb h2 rfl
    refine wl_nil (nrm_then ?_)
    refine cw_seq ?_
    refine cw_region ?_
    refine wl_m ?_
    refine wl_val rfl (ex_nilCheck rfl) ?_
    refine wl_val rfl (ex_load1 rfl Try.agg41 (cell_nth hC_1.blk rfl)) ?_
    refine wl_val rfl (ex_len_slice rfl Try.underlying41 rfl) ?_
    refine wl_m ?_
    refine wl_val rfl (ex_eql rfl rfl) ?_
    refine wl_nil (nrm_then ?_)
    refine cw_if rfl (fun hc29 => ?_) (fun hc29 => ?_)
    ·skip
     refine cw_exit (ex_past rfl (ex_then (ex_then (ex_here (nrm_same ?_)))))
     refine ⟨⟨k, new ++ kx1, pa_1, pc_1, po_1⟩, trivial, ⟨rfl, rfl, trivial⟩, hE17, ?_⟩
     obtain rfl : kx1 = [] := List.length_eq_zero_iff.1 (by simp only [List.length_append] at hc29; omega)
     have hx' : Codes t.kids[0] (es.length + (new.map (·.1)).length) [] := by rw [List.length_map]; have h := hkx1; rwa [List.length_append] at h
     have hs := hpre.stop hx' (t.min.toNat - k)
     rw [show k + (t.min.toNat - k) = t.min.toNat from by omega] at hs
     refine ⟨(hC_1.evo0 (Evo.refl [] w15)).cast (by simp), hq_1, by rw [List.append_nil]; exact hs, ?_, by rw [List.append_nil]; exact hnice, hB18, ha1, hA_b3_1⟩
     rw [List.append_nil]; show new.length ≤ _; omega
    ·skip
     refine cw_skip (nrm_block (nrm_then ?_))
     refine cw_region ?_
     refine wl_val rfl (ex_add_i64 rfl rfl (by omega) (by omega)) ?_
     refine wl_m ?_
     refine wl_nil (nrm_same ?_)
     refine ⟨⟨k + 1, new ++ kx1, pa_1, pc_1, po_1⟩, ?_, ⟨rfl, trivial⟩, ⟨rfl, rfl, rfl, trivial⟩, hE17, ?_⟩
     · (try dsimp only); omega
     ·skip
      try dsimp only
      have hx' : Codes t.kids[0] (es.length + (new.map (·.1)).length) (kx1.map (·.1)) := by rw [List.length_map]; have h := hkx1; rwa [List.length_append] at h
      refine ⟨by omega, (hC_1.evo0 (Evo.refl [] w15)).cast (List.append_assoc ..), hq_1, ?_, ?_, nice_app hnice hkn1, hB18, ha1, hA_b3_1⟩
      · rw [List.map_append]; exact hpre.snoc hx'
      · rw [List.length_append, Nat.succ_mul]; omega
   ·skip
    refine cw_exit (ex_then (ex_then (ex_here (nrm_same ?_))))
    refine ⟨⟨k, new, pa, pc, po⟩, trivial, ⟨rfl, rfl, trivial⟩, hV14, ?_⟩
    obtain rfl : k = t.min.toNat := by omega
    exact ⟨hcd.evo0 (Evo.refl [] wr13), hq, hpre, hlen, hnice, hb3, ha1, ha2⟩
  ·skip
   rintro ⟨k, new, pa, pc, po⟩ w19 ⟨hV20, ⟨hcd, hq, hpre, hlen, hnice, hb3, ha1, ha2⟩⟩
   refine nrm_then ?_
   show CW _ _ _ _ [(0, _), (3, _)] _
   try dsimp only at hcd
   try dsimp only at hq
   try dsimp only at hpre
   try dsimp only at hlen
   try dsimp only at hnice
   try dsimp only at hb3
   try dsimp only at ha1
   try dsimp only at ha2
   have hAJN : Apart (some cb) po := fun g h1 h2 => by cases h1; exact hcd.ne cb h2 rfl
   refine cw_seq ?_
   refine cw_seq ?_
   refine cw_region ?_
   refine wl_val rfl (ex_fieldAddr rfl Try.fld25_4) ?_
   refine wl_val rfl (ex_load1 rfl Try.agg3 (cell_nth hb3 rfl)) ?_
   refine wl_val rfl (ex_lss rfl rfl) ?_
   refine wl_nil (nrm_then ?_)
   refine cw_if rfl (fun hc33 => ?_) (fun hc33 => ?_)
   ·skip
    have hmx : t.max = -1 := by omega
    rw [if_pos hmx] at hrs
    have hsn : (es ++ new).length = es.length + new.length := List.length_append
    refine cw_seq ?_
    refine cw_region ?_
    refine wl_m ?_
    refine wl_val rfl (ex_build (vs := [(0, _)]) Try.build44 rfl (cells := [_, _, _, _, _]) rfl) ?_
    refine wl_call1 (vs := [_, _]) Try.goes31 rfl (put_ok (rs := []) (hcd.evo0 (Evo.refl [] w19)) rnil0 (by simp only [List.length_append]; omega)) rfl ?_
    rintro _ w21 ⟨rfl, hw22, hto1⟩
    have hlt_b3_1 := (Lt.blk hb3)
    have hev_1 := hV20
    have hE23 := hV20.step hw22 (mem_ob hq)
    have hB24 := hw22.blk hb3 (nmem2 ha1 ha2)
    obtain ⟨pa_1, pc_1, po_1, hC_1, hp_1⟩ := hto1
    have hq_1 := fr_trans hq hev_1 hp_1
    have hA_b3_1 := ap_ob ha2 hlt_b3_1 hp_1
    have hAJN_1 : Apart (some cb) po_1 := fun g h1 h2 => by cases h1; exact hC_1.ne cb h2 rfl
    refine wl_a ?_
    refine wl_nil (nrm_then ?_)
    refine cw_seq ?_
    refine cw_region ?_
    refine wl_m ?_
    refine wl_val rfl (ex_fieldAddr rfl Try.fld25_8) ?_
    refine wl_val rfl (ex_load1 rfl Try.agg23 (cell_nth hB24 rfl)) ?_
    refine wl_val rfl (ex_indexAddrZ (n := 0) rfl rfl rfl Try.elem23 (by omega)) ?_
    refine wl_val rfl (ex_loadA rfl Try.agg25 Try.size25 (vs := [_, _, _, _, _, _, _, _, _]) rfl (hc1.evo hE23 hb1)) ?_
    have hZw : ∀ z, z ∈ Z → z < (w21).heap.size := fun z hz => Nat.lt_of_lt_of_le (hZ z hz) (hE23).size
    refine wl_call1 (vs := [_, _]) Try.goes16 rfl (ih (t := t.kids[0]) (hC_1.evo0 (Evo.refl [] w21)) (RRx.step hrk hE23 (mem_ob hq_1) hXlt) (hg.kid _ (List.getElem_mem hj')) (by simp only [List.length_append, List.length_cons, List.length_nil]; omega) hZw) rfl ?_
    rintro _ w25 ⟨-, hw26, kx2, hto2, hkx2, hkl2, hkn2⟩
    have hlt_b3_2 := (Lt.blk hB24)
    have hev_2 := hE23
    have hE27 := hE23.step hw26 (mem_ob hq_1)
    have hB28 := hw26.blk hB24 (nmem2 ha1 hA_b3_1)
    obtain ⟨pa_2, pc_2, po_2, hC_2, hp_2⟩ := hto2
    have hq_2 := fr_trans hq_1 hev_2 hp_2
    have hA_b3_2 := ap_ob hA_b3_1 hlt_b3_2 hp_2
    have hAJN_2 : Apart (some cb) po_2 := fun g h1 h2 => by cases h1; exact hC_2.ne cb h2 rfl
    refine wl_nil (nrm_then ?_)
    refine cw_seq ?_
    refine cw_region ?_
    refine wl_m ?_
    refine wl_val rfl (ex_build (vs := [(0, _)]) Try.build44 rfl (cells := [_, _, _, _, _]) rfl) ?_
    refine wl_call1 (vs := [_, _]) Try.goes31 rfl (put_ok (rs := []) (hC_2.evo0 (Evo.refl [] w25)) rnil0 (by simp only [List.length_append, List.length_cons, List.length_nil]; omega)) rfl ?_
    rintro _ w29 ⟨rfl, hw30, hto3⟩
    have hlt_b3_3 := (Lt.blk hB28)
    have hev_3 := hE27
    have hE31 := hE27.step hw30 (mem_ob hq_2)
    have hB32 := hw30.blk hB28 (nmem2 ha1 hA_b3_2)
    obtain ⟨pa_3, pc_3, po_3, hC_3, hp_3⟩ := hto3
    have hq_3 := fr_trans hq_2 hev_3 hp_3
    have hA_b3_3 := ap_ob hA_b3_2 hlt_b3_3 hp_3
    have hAJN_3 : Apart (some cb) po_3 := fun g h1 h2 => by cases h1; exact hC_3.ne cb h2 rfl
    refine wl_a ?_
    refine wl_nil (nrm_then ?_)
    refine cw_seq ?_
    refine cw_region ?_
    refine wl_m ?_
    refine wl_val rfl (ex_nilCheck rfl) ?_
    refine wl_val rfl (ex_load1 rfl Try.agg41 (cell_nth hC_3.blk rfl)) ?_
    refine wl_m ?_
    refine wl_m ?_
    obtain ⟨gN, -, rfl, -⟩ := hC_3.own.cells (by simp only [List.length_append, List.length_cons, List.length_nil]; omega)
    have hjp : (es ++ new ++ [((⟨3, ((es ++ new).length : Nat) + 1, 0, 0, []⟩ : In), Value.slice none 0 0)] ++ kx2).length < (es ++ new ++ [((⟨3, ((es ++ new).length : Nat) + 1, 0, 0, []⟩ : In), Value.slice none 0 0)] ++ kx2 ++ [((⟨10, ((es ++ new ++ [((⟨3, ((es ++ new).length : Nat) + 1, 0, 0, []⟩ : In), Value.slice none 0 0)] ++ kx2).length : Nat) + 1, 0, 0, []⟩ : In), Value.slice none 0 0)]).length := by simp only [List.length_append, List.length_cons, List.length_nil]; omega
    refine wl_val rfl (ex_indexAddr (n := (es ++ new ++ [((⟨3, ((es ++ new).length : Nat) + 1, 0, 0, []⟩ : In), Value.slice none 0 0)] ++ kx2).length) rfl rfl Try.elem41 hjp) ?_
    refine wl_val rfl (ex_fieldAddr rfl Try.fld44_1) ?_
    have hcd9 := (Evo.refl [] w29)
    obtain ⟨g42, cur33, hg34, hx35, hcu36, hcs37, -⟩ := hC_3.own.at (by omega)
    cases hx35
    refine wl_store1L rfl rfl (rfl) Try.size3 hcu36 (hC_3.own.inb hcs37 (k := (es ++ new ++ [((⟨3, ((es ++ new).length : Nat) + 1, 0, 0, []⟩ : In), Value.slice none 0 0)] ++ kx2).length) (j := 1) (by omega) (by omega) (by omega)) fun w38 hB39 hw40 => ?_
    replace hw40 := evo_ob hg34 hw40
    have hO41 := hC_3.own.set' hg34 hcu36 hB39
    have hE43 := hE31.step hw40 (fun y hy => mem_ob hq_3 y (List.mem_cons_of_mem _ hy))
    have hB45 := hw40.blk hB32 hA_b3_3.nmem
    have hB46 := hw40.blk hC_3.blk hAJN_3.nmem
    rw [show 0 + (es ++ new ++ [((⟨3, ((es ++ new).length : Nat) + 1, 0, 0, []⟩ : In), Value.slice none 0 0)] ++ kx2).length * 5 + 1 = (es ++ new ++ [((⟨3, ((es ++ new).length : Nat) + 1, 0, 0, []⟩ : In), Value.slice none 0 0)] ++ kx2).length * 5 + 1 from by omega, flat_setOut hjp] at hO41
    have hC_9 := hC_3.evo0 hcd9
    have hC_8 := hC_9.mod hw40 hO41 (fun _ => ⟨rfl, rfl⟩)
    refine wl_nil (nrm_then ?_)
    refine cw_seq ?_
    refine cw_any (fun w0 w' => Evo po_3.toList w0 w') (by kernel_rfl) (fun w47 hw48 => ?_)
    have hE49 := hE43.then hw48
    have hE50 := (Evo.refl [] w38).then hw48
    have hB51 := hw48.blk0 hB45
    have hB52 := hw48.blk0 hB46
    have hO53 := hO41.evo0 hw48
    refine ae_take 0 rfl (by kernel_rfl) (by kernel_rfl) (by kernel_rfl) rfl (fun _ hS => ex_move rfl) (Evo.refl po_3.toList w47) ?_
    refine ae_take 1 rfl (by kernel_rfl) (by kernel_rfl) (by kernel_rfl) rfl (fun _ hS => ex_nilCheck rfl) (Evo.refl po_3.toList w47) ?_
    refine ae_take 2 rfl (by kernel_rfl) (by kernel_rfl) (by kernel_rfl) rfl (fun _ hS => ex_load1 rfl Try.agg41 (cell_nth (hS.blk hB52 (hAJN_3.nmem)) rfl)) (Evo.refl po_3.toList w47) ?_
    refine ae_take 3 rfl (by kernel_rfl) (by kernel_rfl) (by kernel_rfl) rfl (fun _ hS => ex_move rfl) (Evo.refl po_3.toList w47) ?_
    refine ae_take 4 rfl (by kernel_rfl) (by kernel_rfl) (by kernel_rfl) rfl (fun _ hS => ex_move rfl) (Evo.refl po_3.toList w47) ?_
    refine ae_take 5 rfl (by kernel_rfl) (by kernel_rfl) (by kernel_rfl) rfl (fun _ hS => ex_add_i64 rfl rfl (by omega) (by omega)) (Evo.refl po_3.toList w47) ?_
    refine ae_take 6 rfl (by kernel_rfl) (by kernel_rfl) (by kernel_rfl) rfl (fun _ hS => ex_move rfl) (Evo.refl po_3.toList w47) ?_
    refine ae_take 7 rfl (by kernel_rfl) (by kernel_rfl) (by kernel_rfl) rfl (fun _ hS => ex_nilCheck rfl) (Evo.refl po_3.toList w47) ?_
    refine ae_take 8 rfl (by kernel_rfl) (by kernel_rfl) (by kernel_rfl) rfl (fun _ hS => ex_load1 rfl Try.agg41 (cell_nth (hS.blk hB52 (hAJN_3.nmem)) rfl)) (Evo.refl po_3.toList w47) ?_
    refine ae_take 9 rfl (by kernel_rfl) (by kernel_rfl) (by kernel_rfl) rfl (fun _ hS => ex_len_slice rfl Try.underlying41 rfl) (Evo.refl po_3.toList w47) ?_
    refine ae_take 10 rfl (by kernel_rfl) (by kernel_rfl) (by kernel_rfl) rfl (fun _ hS => ex_fieldAddr rfl Try.fld25_5) (Evo.refl po_3.toList w47) ?_
    refine ae_take 11 rfl (by kernel_rfl) (by kernel_rfl) (by kernel_rfl) rfl (fun _ hS => ex_load1 rfl Try.agg4 (cell_nth (hS.blk hB51 (hA_b3_3.nmem)) rfl)) (Evo.refl po_3.toList w47) ?_
    refine ae_loud [12] (by kernel_rfl) rfl ⟨?_, trivial⟩
    refine a_step rfl ?_
    refine wl_call1 (vs := [_, _, _, _, _]) Try.goes55 rfl (turnM_ok (k := (es ++ new).length) (hC_8.evo0 hE50) (by rw [List.length_modify]) (by rw [List.length_modify]; simp only [List.length_append, List.length_cons, List.length_nil]; omega)) rfl ?_
    rintro _ w54 ⟨rfl, hw55, hT_4⟩
    have hE56 := hE49.step hw55 (fun y hy => mem_ob hq_3 y (List.mem_cons_of_mem _ hy))
    have hE57 := (Evo.refl po_3.toList w47).step hw55 (fun y hy => .inl hy)
    have hB58 := hw55.blk hB51 (hA_b3_3.nmem)
    have hB59 := hw55.blk hB52 (hAJN_3.nmem)
    refine wl_nil (ae_next (.inl hE57) ?_)
    refine ae_done (by kernel_rfl) (nrm_then ?_)
    refine cw_ret (ret_then (body_ret0 rfl ?_))
    have hx' : Codes t.kids[0] (es.length + new.length + 1) (kx2.map (·.1)) := by have h := hkx2; rwa [List.length_append, List.length_append] at h
    have hT := hT_4.evo0 (Evo.refl [] w54)
    rw [mod_last rfl, mod_mid rfl] at hT
    refine ⟨rfl, hE56, new ++ ([(In.sp t.lazy (es.length + new.length + 1) (es.length + new.length + 1 + kx2.length + 1), .slice none 0 0)] ++ (kx2 ++ [(⟨10, ((es.length + new.length : Nat) : Int), 0, 0, []⟩, .slice none 0 0)])), ⟨_, _, _, hT.cast ?_, hq_3⟩, ?_, ?_, ?_⟩
    · rw [List.append_assoc]; refine congrArg (es ++ ·) (congrArg (new ++ ·) ?_)
      cases t.lazy <;> (simp only [Iv.setOut, In.sp, List.length_append, List.length_cons, List.length_nil, List.singleton_append, Bool.false_eq_true, if_false, if_true]; push_cast; simp [Int.add_assoc, Nat.add_assoc])
    · rw [List.map_append, List.map_append, List.map_append]
      have h := codes_loop (a := es.length) (k := new.map (·.1)) (kx := kx2.map (·.1)) h6 hky hmx hpre (by rw [List.length_map]; exact hx')
      rw [List.length_map, List.length_map] at h; exact h
    · simp only [List.length_append, List.length_cons, List.length_nil]; omega
    · exact nice_app hnice (nice_app (nice_one (nice_sp _ _ _)) (nice_app hkn2 (nice_one ⟨by simp, Int.natCast_nonneg _, Int.le_refl _, Nat.zero_le _⟩)))
   ·skip
    have hmx : ¬ t.max = -1 := by omega
    rw [if_neg hmx] at hrs
    have hpre0 := hpre
    obtain ⟨r, hr⟩ : ∃ r, r = (t.max - t.min).toNat := ⟨_, rfl⟩
    rw [← hr] at hrs
    refine cw_skip (nrm_then ?_)
    refine cw_seq ?_
    refine cw_region ?_
    refine wl_a ?_
    refine wl_nil (nrm_then ?_)
    refine cw_seq ?_
    refine cw_seq ?_
    refine cw_region ?_
    refine wl_val rfl (ex_fieldAddr rfl Try.fld25_4) ?_
    refine wl_val rfl (ex_load1 rfl Try.agg3 (cell_nth hb3 rfl)) ?_
    refine wl_val rfl (ex_fieldAddr rfl Try.fld25_3) ?_
    refine wl_val rfl (ex_load1 rfl Try.agg3 (cell_nth hb3 rfl)) ?_
    refine wl_val rfl (ex_sub_i64 rfl rfl (by omega) (by omega)) ?_
    refine wl_m ?_
    refine wl_nil (nrm_then ?_)
    refine cw_block ?_
    refine cw_loop (α := RqG) (⟨0, [], pa, pc, po, [], none, 0, none⟩) (fun x => [(71, .int .i64 (x.j : Nat)), (7, .slice x.ja x.j x.jc)]) [(0, _), (3, _), (70, _)] (fun x wr => Evo (cb :: ob.toList) w wr ∧ (RqI w wr cb es new ob Z t.lazy t.kids[0] b3 #[iv t.kind, .int .i32 t.r, .slice ra t.ranges.length rc, iv t.min, iv t.max, .bool t.lazy, iv t.cap, .string t.name, .slice (some ⟨bk, ok, none⟩) t.kids.length kc] r x)) (fun x => r - x.j) ⟨rfl, rfl, trivial⟩ ⟨rfl, rfl, rfl, trivial⟩ ⟨hV20, ⟨Nat.zero_le _, by rw [List.append_nil]; exact hcd.evo0 (Evo.refl [] w19), hq, OptPre.nil _ _ _, Nat.zero_le _, rfl, (fun _ h => by cases h), OwnS.nil _ _ _, Apart.nil _, Apart.nil _, Ge.nil _, hb3, ha1, ha2, Apart.nil _⟩⟩ ?_
    rintro ⟨j, new2, pa, pc, po, js, ja, jc, jo⟩ wr60 ⟨hV61, ⟨hj, hcd, hq, hpre, hlen2, hjl, hnice2, hjo, hap1, hap2, hge, hb3, ha1, ha2, ha3⟩⟩
    show CW _ _ _ _ [(71, .int .i64 (j : Nat)), (7, .slice ja j jc), (0, _), (3, _), (70, _)] _
    try dsimp only at hj
    try dsimp only at hcd
    try dsimp only at hq
    try dsimp only at hpre
    try dsimp only at hlen2
    try dsimp only at hjl
    try dsimp only at hnice2
    try dsimp only at hjo
    try dsimp only at hap1
    try dsimp only at hap2
    try dsimp only at hge
    try dsimp only at hb3
    try dsimp only at ha1
    try dsimp only at ha2
    try dsimp only at ha3
    have hAJN : Apart (some cb) po := fun g h1 h2 => by cases h1; exact hcd.ne cb h2 rfl
    refine cw_seq ?_
    refine cw_region ?_
    refine wl_val rfl (ex_lss rfl rfl) ?_
    refine wl_nil (nrm_then ?_)
    refine cw_seq ?_
    refine cw_if rfl (fun hc72 => ?_) (fun hc72 => ?_)
    ·skip
     have hjr : j < r := by omega
     have hms := mul_succ_le (e := t.kids[0].esz + 1) hjr
     refine cw_skip (nrm_then ?_)
     refine cw_seq ?_
     refine cw_block ?_
     refine cw_seq ?_
     refine cw_region ?_
     refine wl_m ?_
     refine wl_m ?_
     refine wl_val rfl (ex_build (vs := [(0, _)]) Try.build44 rfl (cells := [_, _, _, _, _]) rfl) ?_
     refine wl_call1 (vs := [_, _]) Try.goes31 rfl (put_ok (rs := []) (hcd.evo0 (Evo.refl [] wr60)) rnil0 (by simp only [List.length_append]; omega)) rfl ?_
     rintro _ w62 ⟨rfl, hw63, hto5⟩
     have hlt_b3_5 := (Lt.blk hb3)
     have hlt_JS_5 := (Lt.own hjo)
     have hev_5 := hV61
     have hE64 := hV61.step hw63 (mem_ob hq)
     have hB65 := hw63.blk hb3 (nmem2 ha1 ha2)
     have hB66 := hjo.evo hw63 (nmem2o hap1.symm hap2.symm)
     obtain ⟨pa_5, pc_5, po_5, hC_5, hp_5⟩ := hto5
     have hq_5 := fr_trans hq hev_5 hp_5
     have hA_b3_5 := ap_ob ha2 hlt_b3_5 hp_5
     have hA_JS_5 := ap_ob hap2.symm hlt_JS_5 hp_5
     have hAJN_5 : Apart (some cb) po_5 := fun g h1 h2 => by cases h1; exact hC_5.ne cb h2 rfl
     refine wl_bslice (vs := [_]) rfl Try.slice46 rfl rfl rfl rfl fun b67 w68 hO69 hs70 hw71 => ?_
     have hA72 := Apart.new (Lt.blk hB65) hs70
     have hA73 := Apart.new (Lt.own hB66) hs70
     have hA74 := Apart.new (Lt.blk hC_5.blk) hs70
     have hA75 := Apart.new (Lt.own hC_5.own) hs70
     have hG76 := Ge.new hE64 hs70
     have hG77 := Ge.new (Evo.refl jo.toList w62) hs70
     have hE78 := hE64.then hw71
     have hE79 := (Evo.refl jo.toList w62).then hw71
     have hB80 := hw71.blk0 hB65
     have hO81 := hB66.evo0 hw71
     have hB82 := hw71.blk0 hC_5.blk
     have hO83 := hC_5.own.evo0 hw71
     have hcd4 := hE79
     refine wl_append rfl rfl rfl rfl Try.app46_46 hO81 (Src.ofOwn hO69 ⟨by first | rfl | assumption, trivial⟩) (by omega) fun ja2 jc2 w86 jo2 hO2 hw89 hob90 => ?_
     have hA91 := ha3.app (Lt.blk hB80) hob90
     have hA92 := hap1.app (Lt.blk hB82) hob90
     have hA93 := hA_JS_5.symm.app (Lt.own hO83) hob90
     have hA94 := hA73.symm.app (Lt.own hO69) hob90
     have hG95 := hge.app hE78 hob90
     have hE96 := hE78.step hw89 hge.mem
     have hE97 := hE79.step hw89 (fun y hy => .inl hy)
     have hB98 := hw89.blk hB80 ha3.nmem
     have hB99 := hw89.blk hB82 hap1.nmem
     have hO100 := hO83.evo hw89 hA_JS_5.symm.own
     have hO101 := hO69.evo hw89 hA73.symm.own
     have hjo2 := hob90
     have hC4 := hC_5.evo hE97 hap1.nmem hA_JS_5.symm.own (fun y hy => List.mem_append_left _ hy) (mem_joZ hcd4 hjo2)
     refine wl_a ?_
     refine wl_nil (nrm_then ?_)
     refine cw_region ?_
     refine wl_m ?_
     refine wl_val rfl (ex_fieldAddr rfl Try.fld25_8) ?_
     refine wl_val rfl (ex_load1 rfl Try.agg23 (cell_nth hB98 rfl)) ?_
     refine wl_val rfl (ex_indexAddrZ (n := 0) rfl rfl rfl Try.elem23 (by omega)) ?_
     refine wl_val rfl (ex_loadA rfl Try.agg25 Try.size25 (vs := [_, _, _, _, _, _, _, _, _]) rfl (hc1.evo hE96 hb1)) ?_
     refine wl_call1 (vs := [_, _]) Try.goes16 rfl (ih (t := t.kids[0]) (hC4.evo0 (Evo.refl [] w86)) (RRx.step hrk hE96 (mem_ob hq_5) hXlt) (hg.kid _ (List.getElem_mem hj')) (by simp only [List.length_append, List.length_cons, List.length_nil]; omega) (ltZ hZ hE96 (Lt.own hO2))) rfl ?_
     rintro _ w102 ⟨-, hw103, kx6, hto6, hkx6, hkl6, hkn6⟩
     have hlt_b3_6 := (Lt.blk hB98)
     have hlt_jo2_6 := (Lt.own hO2)
     have hev_6 := hE96
     have hE104 := hE96.step hw103 (mem_ob hq_5)
     have hB105 := hw103.blk hB98 (nmem2 ha1 hA_b3_5)
     have hB106 := hO2.evo hw103 (nmem2o hA92.symm hA93.symm)
     obtain ⟨pa_6, pc_6, po_6, hC_6, hp_6⟩ := hto6
     have hq_6 := fr_trans hq_5 hev_6 hp_6
     have hA_b3_6 := ap_ob hA_b3_5 hlt_b3_6 hp_6
     have hA_jo2_6 := ap_ob hA93.symm hlt_jo2_6 hp_6
     have hAJN_6 : Apart (some cb) po_6 := fun g h1 h2 => by cases h1; exact hC_6.ne cb h2 rfl
     refine wl_nil (nrm_block (nrm_then ?_))
     refine cw_region ?_
     refine wl_val rfl (ex_add_i64 rfl rfl (by omega) (by omega)) ?_
     refine wl_m ?_
     refine wl_nil (nrm_same ?_)
     refine ⟨⟨j + 1, new2 ++ ([(⟨3, ((es ++ (new ++ new2)).length : Nat) + 1, 0, 0, []⟩, .slice none 0 0)] ++ kx6), pa_6, pc_6, po_6, js ++ [(es ++ (new ++ new2)).length], ja2, jc2, jo2⟩, ?_, ⟨rfl, rfl, trivial⟩, ⟨rfl, rfl, rfl, trivial⟩, hE104, ?_⟩
     · (try dsimp only); omega
     ·skip
      try dsimp only
      have hm : (es ++ (new ++ new2)).length = es.length + new.length + (new2.map (·.1)).length := by simp only [List.length_append, List.length_map]; omega
      have hx' : Codes t.kids[0] ((es ++ (new ++ new2)).length + 1) (kx6.map (·.1)) := by have h := hkx6; rwa [List.length_append] at h
      have hs := hpre.snoc (o := ((es ++ (new ++ new2)).length : Nat) + 1) (al := 0) hm hx'
      refine ⟨by show j + 1 ≤ r; omega, hC_6.cast (by simp), hq_6, ?_, ?_, ?_, nice_app hnice2 (nice_app (nice_one (nice_split _ _ (by omega) (Int.le_refl _))) hkn6), ?_, hA92, hA_jo2_6.symm, hG95, hB105, ha1, hA_b3_6, hA91⟩
      · show OptPre _ _ (j + 1) _ _ _; rw [List.map_append, List.map_append]; exact hs
      · show _ ≤ (j + 1) * (t.kids[0].esz + 1); rw [Nat.succ_mul]; simp only [List.length_append, List.length_cons, List.length_nil]; omega
      · show (js ++ [_]).length = j + 1; rw [List.length_append, hjl]; rfl
      · have h : OwnS _ 3 1 ja2 (j + 1) jc2 (js.map (fun p => iv (p : Nat)) ++ [iv ((es ++ (new ++ new2)).length : Nat)]) jo2 := hB106
        show OwnS _ 3 1 ja2 (j + 1) jc2 ((js ++ [_]).map _) jo2; rw [List.map_append]; exact h
    ·skip
     have hjr : j = r := by omega
     subst hjr
     refine cw_exit (ex_then (ex_then (ex_here (nrm_then ?_))))
     refine cw_seq ?_
     refine cw_region ?_
     refine wl_m ?_
     refine wl_val rfl (ex_len_slice rfl Try.underlying46 rfl) ?_
     refine wl_m ?_
     refine wl_nil (nrm_then ?_)
     refine cw_block ?_
     refine cw_loop (α := Nat) (0) (fun i => [(88, .int .i64 (i : Nat))]) [(0, _), (3, _), (86, _), (87, _)] (fun i wr => Evo (cb :: ob.toList) w wr ∧ (i ≤ js.length ∧ CdAt wr cb (patch (Iv.turnTo t.lazy (es.length + new.length + new2.length)) (js.take i) (es ++ (new ++ new2))) pa pc po (jo.toList ++ Z) ∧ OwnS wr 3 1 ja j jc (js.map fun p => iv (p : Nat)) jo ∧ wr.heap[b3]? = some (.cells #[iv t.kind, .int .i32 t.r, .slice ra t.ranges.length rc, iv t.min, iv t.max, .bool t.lazy, iv t.cap, .string t.name, .slice (some ⟨bk, ok, none⟩) t.kids.length kc] 25 (0, 0)))) (fun i => js.length - i) ⟨rfl, trivial⟩ ⟨rfl, rfl, rfl, rfl, trivial⟩ ⟨hV61, ⟨Nat.zero_le _, by rw [List.take_zero]; exact hcd.evo0 (Evo.refl [] wr60), hjo, hb3⟩⟩ ?_
     rintro i wr107 ⟨hV108, ⟨hi, hcd2, hjo2, hb32⟩⟩
     show CW _ _ _ _ [(88, _), (0, _), (3, _), (86, _), (87, _)] _
     have hpl : (patch (Iv.turnTo t.lazy (es.length + new.length + new2.length)) (js.take i) (es ++ (new ++ new2))).length = es.length + new.length + new2.length := by rw [patch_length]; simp only [List.length_append]; omega
     refine cw_seq ?_
     refine cw_region ?_
     refine wl_val rfl (ex_lss rfl rfl) ?_
     refine wl_nil (nrm_then ?_)
     refine cw_seq ?_
     refine cw_if rfl (fun hc89 => ?_) (fun hc89 => ?_)
     ·skip
      have hi' : i < js.length := by omega
      have hat := hpre.at' js[i] (List.getElem_mem hi')
      rw [List.length_map] at hat
      obtain ⟨gJ, haJ, hcJ⟩ := own_ints hjo2 (by omega)
      refine cw_skip (nrm_then ?_)
      refine cw_seq ?_
      refine cw_block ?_
      refine cw_seq ?_
      refine cw_region ?_
      refine wl_val rfl (ex_indexAddr (n := i) (by rw [haJ]; rfl) rfl Try.elem46 (by omega)) ?_
      refine wl_val rfl (ex_load1 rfl Try.agg3 (hcJ i hi')) ?_
      refine wl_a ?_
      refine wl_nil (nrm_then ?_)
      refine cw_any (fun w0 w' => Evo po.toList w0 w') (by kernel_rfl) (fun w109 hw110 => ?_)
      have hE111 := hV108.then hw110
      have hE112 := (Evo.refl [] wr107).then hw110
      have hB113 := hw110.blk0 hcd2.blk
      have hO114 := hcd2.own.evo0 hw110
      have hB115 := hw110.blk0 hb32
      have hO116 := hjo2.evo0 hw110
      refine ae_take 0 rfl (by kernel_rfl) (by kernel_rfl) (by kernel_rfl) rfl (fun _ hS => ex_move rfl) (Evo.refl po.toList w109) ?_
      refine ae_take 1 rfl (by kernel_rfl) (by kernel_rfl) (by kernel_rfl) rfl (fun _ hS => ex_nilCheck rfl) (Evo.refl po.toList w109) ?_
      refine ae_take 2 rfl (by kernel_rfl) (by kernel_rfl) (by kernel_rfl) rfl (fun _ hS => ex_load1 rfl Try.agg41 (cell_nth (hS.blk hB113 (hAJN.nmem)) rfl)) (Evo.refl po.toList w109) ?_
      refine ae_take 3 rfl (by kernel_rfl) (by kernel_rfl) (by kernel_rfl) rfl (fun _ hS => ex_move rfl) (Evo.refl po.toList w109) ?_
      refine ae_take 4 rfl (by kernel_rfl) (by kernel_rfl) (by kernel_rfl) rfl (fun _ hS => ex_move rfl) (Evo.refl po.toList w109) ?_
      refine ae_take 5 rfl (by kernel_rfl) (by kernel_rfl) (by kernel_rfl) rfl (fun _ hS => ex_add_i64 rfl rfl (by omega) (by omega)) (Evo.refl po.toList w109) ?_
      refine ae_take 6 rfl (by kernel_rfl) (by kernel_rfl) (by kernel_rfl) rfl (fun _ hS => ex_move rfl) (Evo.refl po.toList w109) ?_
      refine ae_take 7 rfl (by kernel_rfl) (by kernel_rfl) (by kernel_rfl) rfl (fun _ hS => ex_nilCheck rfl) (Evo.refl po.toList w109) ?_
      refine ae_take 8 rfl (by kernel_rfl) (by kernel_rfl) (by kernel_rfl) rfl (fun _ hS => ex_load1 rfl Try.agg41 (cell_nth (hS.blk hB113 (hAJN.nmem)) rfl)) (Evo.refl po.toList w109) ?_
      refine ae_take 9 rfl (by kernel_rfl) (by kernel_rfl) (by kernel_rfl) rfl (fun _ hS => ex_len_slice rfl Try.underlying41 rfl) (Evo.refl po.toList w109) ?_
      refine ae_take 10 rfl (by kernel_rfl) (by kernel_rfl) (by kernel_rfl) rfl (fun _ hS => ex_fieldAddr rfl Try.fld25_5) (Evo.refl po.toList w109) ?_
      refine ae_take 11 rfl (by kernel_rfl) (by kernel_rfl) (by kernel_rfl) rfl (fun _ hS => ex_load1 rfl Try.agg4 (cell_nth (hS.blk hB115 (ha2.nmem)) rfl)) (Evo.refl po.toList w109) ?_
      refine ae_loud [12] (by kernel_rfl) rfl ⟨?_, trivial⟩
      refine a_step rfl ?_
      refine wl_call1 (vs := [_, _, _, _, _]) Try.goes55 rfl (turnM_ok (k := js[i]) (hcd2.evo0 hE112) (rfl) (by rw [hpl]; omega)) rfl ?_
      rintro _ w117 ⟨rfl, hw118, hT_7⟩
      have hE119 := hE111.step hw118 (fun y hy => mem_ob hq y (List.mem_cons_of_mem _ hy))
      have hE120 := (Evo.refl po.toList w109).step hw118 (fun y hy => .inl hy)
      have hB121 := hw118.blk hB113 (hAJN.nmem)
      have hB122 := hw118.blk hB115 (ha2.nmem)
      have hB123 := hO116.evo hw118 (hap2.symm.own)
      refine wl_nil (ae_next (.inl hE120) ?_)
      refine ae_done (by kernel_rfl) (nrm_block (nrm_then ?_))
      refine cw_region ?_
      refine wl_val rfl (ex_add_i64 rfl rfl (by omega) (by omega)) ?_
      refine wl_m ?_
      refine wl_nil (nrm_same ?_)
      refine ⟨i + 1, ?_, ⟨rfl, trivial⟩, ⟨rfl, rfl, rfl, rfl, trivial⟩, hE119, ?_⟩
      · omega
      ·skip
       refine ⟨by omega, ?_, hB123, hB122⟩
       rw [List.take_add_one, List.getElem?_eq_getElem hi']
       have h := hT_7.evo0 (Evo.refl [] w117)
       rw [turn_len hpl] at h
       rw [show (js.take i ++ (some js[i]).toList) = js.take i ++ [js[i]] from rfl, patch_snoc]
       exact h
     ·skip
      refine cw_exit (ex_then (ex_then (ex_here (body_end0 rfl ?_))))
      have hiE : js.take i = js := List.take_of_length_le (by omega)
      rw [hiE] at hcd2
      have hatJ : ∀ p, p ∈ js → (es ++ new).length ≤ p := fun p hp => by have := (hpre.at' p hp).1; rw [List.length_append]; exact this
      rw [← List.append_assoc] at hcd2
      obtain ⟨new', hn1, hn2, hn3⟩ := patch_tail (f := Iv.turnTo t.lazy (es.length + new.length + new2.length)) (fun p e => rfl) (new := new2) hatJ
      rw [hn1, List.append_assoc] at hcd2
      rw [List.length_append] at hn3
      refine ⟨rfl, hV108, new ++ new', ⟨_, _, _, hcd2.evo (Evo.refl [] _) (by simp) (by simp) (by simp) (fun z hz => .inl (List.mem_append_right _ hz)), hq⟩, ?_, ?_, nice_app hnice (nice_patch hnice2 hn2 hn3 (fun p e h => ⟨h.1, by show (0 : Int) ≤ (if t.lazy then _ else _); split <;> omega, by show (0 : Int) ≤ (if t.lazy then _ else _); split <;> omega, h.2.2.2⟩))⟩
      · rw [List.map_append]
        refine codes_opt (a := es.length) (k := new.map (·.1)) (kp := new'.map (·.1)) (kx := new2.map (·.1)) (js := js) (r := j) h6 hky hmx hpre0 hr (by rw [List.length_map]; exact hpre) (by rw [List.length_map, List.length_map]; exact hn2) (fun l hl => ?_)
        rw [List.length_map] at hl ⊢
        rw [List.length_map]
        exact pat_of (g := turnTo t.lazy (es.length + new.length + new2.length)) (fun _ _ => rfl) hn2 hn3 hl
      · simp only [List.length_append]; omega

end Go.Proofs.Ytgboffefbpligaa
