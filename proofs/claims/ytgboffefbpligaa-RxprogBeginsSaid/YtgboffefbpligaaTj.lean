/- The coder: choice. -/
import Derived.Test.YtgboffefbpligaaTi
import Derived.Test.YtgboffefbpligaaPe
namespace Go.Proofs.Ytgboffefbpligaa
open Go.Proofs
open Go.W Go.RowKit
attribute [local irreducible] Decidable.decide
set_option linter.unusedSimpArgs false
set_option linter.unusedVariables false
theorem Try.app46_46 : appB Try.prog 46 46 = some (3, 1, 8) := by kernel_rfl
theorem Try.build44 : Build Try.prog 44 #[(0, 1), (1, 1), (2, 1), (3, 1), (4, 1)] #[.int .i64 0, .int .i64 0, .int .i64 0, .int .i64 0, .slice none 0 0] := ⟨_, .agg #[.int .i64 0, .int .i64 0, .int .i64 0, .int .i64 0, .slice none 0 0], Try.underlying44, by kernel_rfl, rfl, fun w => by kernel_rfl⟩
theorem Try.elem46 : elemB Try.prog 46 = some 1 := by kernel_rfl
theorem Try.goes16 : Goes Try.prog 16 := ⟨_, Try.func16, by kernel_rfl, by kernel_rfl⟩
theorem Try.goes31 : Goes Try.prog 31 := ⟨_, Try.func31, by kernel_rfl, by kernel_rfl⟩
theorem Try.goes55 : Goes Try.prog 55 := ⟨_, Try.func55, by kernel_rfl, by kernel_rfl⟩
theorem Try.slice46 : sliceB Try.prog 46 = some (3, 1) := by kernel_rfl


theorem CdAt.mod {w w' : World} {cb : Nat} {es : List Iv} {a : Option Addr} {c k : Nat} {ob : Option Nat} {Z : List Nat} {f : Iv → Iv} (h : CdAt w cb es a c ob Z) (he : Evo ob.toList w w') (ho : OwnS w' 44 5 a es.length c (flat (es.modify k f)) ob) (hf : ∀ e, (f e).2 = e.2 ∧ (f e).1.rs = e.1.rs) : CdAt w' cb (es.modify k f) a c ob Z := by
  refine ⟨?_, by rw [List.length_modify]; exact ho, h.ne, fun e hm => ?_⟩
  · rw [List.length_modify]
    exact he.blk h.blk (fun hm => h.ne cb (by simpa using hm) rfl)
  · obtain ⟨i, hi, rfl⟩ := List.getElem_of_mem hm
    rw [List.getElem_modify]
    have hi' : i < es.length := by simpa using hi
    have h1 := rrg_step (h.rs es[i] (List.getElem_mem hi')) (he.mono (fun b hb => List.mem_cons_of_mem _ (List.mem_append_left _ hb))) (fun y hy => .inl hy)
    split
    · rw [(hf _).1, (hf _).2]; exact h1
    · exact h1
theorem turnC_ok {w : World} {cb : Nat} {es : List Iv} {a : Option Addr} {c k : Nat} {ob : Option Nat} {Z : List Nat} {i o : Int} {z : Bool} (h : CdAt w cb es a c ob Z) (hk : k < es.length) :
    Calls Try.prog 55 #[.slice a es.length c, .int .i64 (k : Nat), .int .i64 i, .int .i64 o, .bool z] w (Ret fun v w' => v = .tuple #[] ∧ Evo ob.toList w w' ∧ CdAt w' cb (es.modify k (fun e => (⟨e.1.op, if z then o else i, if z then i else o, e.1.arg, e.1.rs⟩, e.2))) a c ob Z) :=
  (turn_ok h.own hk).mono fun e w' ⟨v, h1, h2, h3, h4⟩ => ⟨v, h1, h2, h3, h.mod h3 h4 (fun _ => ⟨rfl, rfl⟩)⟩
theorem nmem2o {jb : Nat} {o ob : Option Nat} (h1 : Apart o (some jb)) (h2 : Apart o ob) : ∀ g, o = some g → g ∉ jb :: ob.toList := fun g hg => by subst hg; exact nmem2 h1 h2
theorem addr0 {b o c sz : Nat} : (if c = 0 then (some (⟨b, o, none⟩ : Addr)) else (some (⟨b, o, none⟩ : Addr)).map (·.add (0 * sz))) = some ⟨b, o, none⟩ := by
  split
  · rfl
  · simp [Addr.add]
theorem mod_mid {A B : List Iv} {x y : Iv} {f : Iv → Iv} {k : Nat} (hk : k = A.length) : (((A ++ [x]) ++ B) ++ [y]).modify k f = A ++ ([f x] ++ (B ++ [y])) := by
  subst hk
  rw [List.append_assoc, List.append_assoc]
  induction A with
  | nil => simp [List.modify]
  | cons a A ih => rw [List.cons_append, List.length_cons, modify_cons_succ, ih]; rfl
theorem nice_split (o al : Int) (ho : 0 ≤ o) (ha : 0 ≤ al) : Nice ⟨3, o, al, 0, []⟩ := ⟨by simp, ho, ha, Nat.zero_le _⟩
theorem nice_sp (z : Bool) (a b : Nat) : Nice (In.sp z a b) := by unfold In.sp; split <;> exact ⟨by simp, Int.natCast_nonneg _, Int.natCast_nonneg _, Nat.zero_le _⟩
theorem nice_jump (n : Nat) : Nice ⟨10, (n : Int) + 1, 0, 0, []⟩ := ⟨by simp, by show (0 : Int) ≤ (n : Int) + 1; omega, Int.le_refl _, Nat.zero_le _⟩
theorem nice_app {A B : List Iv} (hA : ∀ e, e ∈ A → Nice e.1) (hB : ∀ e, e ∈ B → Nice e.1) : ∀ e, e ∈ A ++ B → Nice e.1 := fun e he => by rcases List.mem_append.1 he with h | h; exact hA e h; exact hB e h
theorem nice_one {x : Iv} (h : Nice x.1) : ∀ e, e ∈ [x] → Nice e.1 := fun e he => by rw [List.mem_singleton] at he; subst he; exact h
theorem nice_patch {f : Nat → Iv → Iv} {new new' : List Iv} {js : List Nat} {n : Nat} (h : ∀ e, e ∈ new → Nice e.1) (hl : new'.length = new.length) (hg : ∀ i (h : i < new.length), new'[i]? = some (if n + i ∈ js then f (n + i) new[i] else new[i])) (hf : ∀ p e, Nice e.1 → Nice (f p e).1) : ∀ e, e ∈ new' → Nice e.1 := fun e he => by
  obtain ⟨i, hi, rfl⟩ := List.getElem_of_mem he
  have h1 := hg i (by omega)
  rw [List.getElem?_eq_getElem hi, Option.some.injEq] at h1
  rw [h1]
  have h2 := h _ (List.getElem_mem (show i < new.length by omega))
  split
  · exact hf _ _ h2
  · exact h2
theorem setOut_len {es : List Iv} {k n : Nat} (h : es.length = n) : es.modify k (Iv.setOut (es.length : Nat)) = es.modify k (Iv.outTo n k) := by subst h; rfl
theorem CdAt.cast {w : World} {cb : Nat} {es es' : List Iv} {a : Option Addr} {c : Nat} {ob : Option Nat} {Z : List Nat} (h : CdAt w cb es a c ob Z) (e : es = es') : CdAt w cb es' a c ob Z := e ▸ h
theorem own_ints {w : World} {e : TypeId} {a : Option Addr} {n c : Nat} {ys : List Nat} {ob : Option Nat} (h : OwnS w e 1 a n c (ys.map fun p => iv (p : Nat)) ob) (h0 : 0 < n) : ∃ g, a = some ⟨g, 0, none⟩ ∧ ∀ k (hk : k < ys.length), w.cell? ⟨g, 0 + k * 1, none⟩ = some (iv (ys[k] : Nat)) := by
  obtain ⟨g, hg, ha, hc⟩ := h.cells h0
  refine ⟨g, ha, fun k hk => ?_⟩
  rw [Nat.mul_one]
  exact hc k _ (by simp [hk])
theorem eszs_le {l : List Rx} {j : Nat} (h : j < l.length) : eszs (l.take j) + l[j].esz ≤ eszs l := by
  rw [← eszs_take h]
  have : ∀ (l : List Rx) (k : Nat), eszs (l.take k) ≤ eszs l := by
    intro l
    induction l with
    | nil => intro k; simp
    | cons x xs ih =>
      intro k
      cases k with
      | zero => rw [List.take_zero, eszs]; exact Nat.zero_le _
      | succ k => rw [List.take_succ_cons, eszs, eszs]; have := ih k; omega
  exact this l (j + 1)
structure ChG where
  j : Nat
  new : List Iv
  pa : Option Addr
  pc : Nat
  po : Option Nat
  js : List Nat
  ja : Option Addr
  jc : Nat
  jo : Option Nat
structure ChI (w wr : World) (cb : Nat) (es : List Iv) (ob : Option Nat) (Z : List Nat) (ks : List Rx) (x : ChG) : Prop where
  j : x.j + 1 ≤ ks.length
  cd : CdAt wr cb (es ++ x.new) x.pa x.pc x.po (x.jo.toList ++ Z)
  po : x.po = ob ∨ ∃ g, x.po = some g ∧ w.heap.size ≤ g
  pre : AltPre (ks.take x.j) es.length (x.new.map (·.1)) x.js
  len : x.new.length ≤ eszs (ks.take x.j) + 2 * x.j
  jl : x.js.length = x.j
  nice : ∀ e, e ∈ x.new → Nice e.1
  jo : OwnS wr 3 1 x.ja x.j x.jc (x.js.map fun p => iv (p : Nat)) x.jo
  ap1 : Apart (some cb) x.jo
  ap2 : Apart x.po x.jo
  ge : Ge w x.jo
theorem mem_joZ {w1 wb : World} {jo jo2 : Option Nat} {Z : List Nat} {X : List Nat} (he : Evo X w1 wb) (h : jo2 = jo ∨ ∃ g, jo2 = some g ∧ wb.heap.size ≤ g) : ∀ z, z ∈ jo2.toList ++ Z → z ∈ jo.toList ++ Z ∨ w1.heap.size ≤ z := fun z hz => by
  rcases List.mem_append.1 hz with h1 | h1
  · rcases h with rfl | ⟨g, h2, h3⟩
    · left; exact List.mem_append_left _ h1
    · right; have := he.size; rw [h2] at h1; simp at h1; omega
  · left; exact List.mem_append_right _ h1
theorem ltZ {w w1 : World} {X : List Nat} {o : Option Nat} {Z : List Nat} (hZ : ∀ z, z ∈ Z → z < w.heap.size) (he : Evo X w w1) (ho : Lt w1 o) : ∀ z, z ∈ o.toList ++ Z → z < w1.heap.size := fun z hz => by
  rcases List.mem_append.1 hz with h | h
  · exact ho z (by simpa using h)
  · exact Nat.lt_of_lt_of_le (hZ z h) he.size

set_option maxHeartbeats 4000000 in
theorem choice_step {n : Nat} (ih : ∀ {w : World} {cb : Nat} {es : List Iv} {a : Option Addr} {c : Nat} {ob : Option Nat} {Z : List Nat} {vs : List Value} {t : Rx} (hC : CdAt w cb es a c ob Z) (hx : RRx n (cb :: ob.toList) w vs t) (hg : Good t) (hl : es.length + t.esz ≤ 100000) (hZ : ∀ z, z ∈ Z → z < w.heap.size), Calls Try.prog 16 #[.pointer (some ⟨cb, 0, none⟩), .agg vs.toArray] w (Ret fun v w' => v = .tuple #[] ∧ Evo (cb :: ob.toList) w w' ∧ ∃ new, CdTo w w' cb ob (es ++ new) Z ∧ Codes t es.length (new.map (·.1)) ∧ new.length ≤ t.esz ∧ ∀ e, e ∈ new → Nice e.1)) {w : World} {cb : Nat} {es : List Iv} {a : Option Addr} {c : Nat} {ob : Option Nat} {Z : List Nat} {vk : Value} {ks : List Rx} (hC : CdAt w cb es a c ob Z) (hk : RSl 9 (RRx n) (cb :: ob.toList) w vk ks) (hkl : 2 ≤ ks.length) (hkb : ks.length ≤ 140737488351232) (hg : ∀ k, k ∈ ks → Good k) (hl : es.length + (eszs ks + 2 * (ks.length - 1)) ≤ 100000) (hZ : ∀ z, z ∈ Z → z < w.heap.size) : Calls Try.prog 33 #[.pointer (some ⟨cb, 0, none⟩), vk] w (Ret fun v w' => v = .tuple #[] ∧ Evo (cb :: ob.toList) w w' ∧ ∃ new, CdTo w w' cb ob (es ++ new) Z ∧ (∀ l, Has l es.length (new.map (·.1)) → BlkA l ks es.length (es.length + new.length)) ∧ new.length ≤ eszs ks + 2 * (ks.length - 1) ∧ ∀ e, e ∈ new → Nice e.1) := by
  have hXlt := hC.lt
  obtain ⟨ka, kc, rfl, hkc, e1⟩ := hk
  obtain ⟨bk, ok, vk0, rfl, -⟩ := id (e1 0 (by omega))
  refine calls_of_cw (N := 69) Try.func33 rfl rfl rfl ?_
  refine cw_seq ?_
  refine cw_region ?_
  refine wl_a ?_
  refine wl_nil (nrm_then ?_)
  refine cw_seq ?_
  refine cw_seq ?_
  refine cw_region ?_
  refine wl_m ?_
  refine wl_m ?_
  refine wl_val rfl (ex_len_slice rfl Try.underlying23 rfl) ?_
  refine wl_val rfl (ex_sub_i64 rfl rfl (by omega) (by omega)) ?_
  refine wl_val rfl (ex_sliceTo (h := ks.length - 1) rfl rfl Try.underlying23 Try.size25 (by omega) (by omega) hkc) ?_
  rw [addr0]
  refine wl_val rfl (ex_len_slice rfl Try.underlying23 rfl) ?_
  refine wl_m ?_
  refine wl_nil (nrm_then ?_)
  refine cw_block ?_
  refine cw_loop (α := ChG) (⟨0, [], a, c, ob, [], none, 0, none⟩) (fun x => [(16, .int .i64 (x.j : Nat)), (4, .slice x.ja x.j x.jc)]) [(0, _), (1, _), (14, _), (15, _)] (fun x wr => Evo (cb :: ob.toList) w wr ∧ (ChI w wr cb es ob Z ks x)) (fun x => ks.length - x.j) ⟨rfl, rfl, trivial⟩ ⟨rfl, rfl, rfl, rfl, trivial⟩ ⟨(Evo.refl (cb :: ob.toList) w), ⟨by show 0 + 1 ≤ _; omega, by rw [List.append_nil]; exact hC.evo0 (Evo.refl [] w), .inl rfl, AltPre.nil _, Nat.zero_le _, rfl, (fun _ h => by cases h), OwnS.nil _ _ _, Apart.nil _, Apart.nil _, Ge.nil _⟩⟩ ?_
  rintro ⟨j, new, pa, pc, po, js, ja, jc, jo⟩ wr1 ⟨hV2, ⟨hj, hcd, hq, hpre, hlen, hjl, hnice, hjo, hap1, hap2, hge⟩⟩
  show CW _ _ _ _ [(16, .int .i64 (j : Nat)), (4, .slice ja j jc), (0, _), (1, _), (14, _), (15, _)] _
  try dsimp only at hj
  try dsimp only at hcd
  try dsimp only at hq
  try dsimp only at hpre
  try dsimp only at hlen
  try dsimp only at hjl
  try dsimp only at hnice
  try dsimp only at hjo
  try dsimp only at hap1
  try dsimp only at hap2
  try dsimp only at hge
  have hE3 := Evo.refl ([]) wr1
  have hAJN : Apart (some cb) po := fun g h1 h2 => by cases h1; exact hcd.ne cb h2 rfl
  refine cw_seq ?_
  refine cw_region ?_
  refine wl_val rfl (ex_lss rfl rfl) ?_
  refine wl_nil (nrm_then ?_)
  refine cw_seq ?_
  refine cw_if rfl (fun hc17 => ?_) (fun hc17 => ?_)
  ·skip
   have hj' : j < ks.length := by omega
   obtain ⟨_, _, vs1, ha1, hb1, hvl1, hc1, hrk⟩ := e1 j hj'
   cases ha1
   obtain ⟨m1, ra1, rc1, ka1, kc1, rfl, rfl, -⟩ := id hrk.get
   have hek := eszs_le hj'
   have hsn : (es ++ new).length = es.length + new.length := List.length_append
   refine cw_skip (nrm_then ?_)
   refine cw_seq ?_
   refine cw_block ?_
   refine cw_seq ?_
   refine cw_region ?_
   refine wl_val rfl (ex_indexAddr (n := j) rfl rfl Try.elem23 (by omega)) ?_
   refine wl_val rfl (ex_loadA rfl Try.agg25 Try.size25 (vs := [_, _, _, _, _, _, _, _, _]) rfl (hc1.evo hV2 hb1)) ?_
   refine wl_alloc rfl Try.zero25 fun b6 w4 hB5 hs6 hw7 => ?_
   have hsz_b6 := hs6
   have hA8 := Apart.new (Lt.blk hcd.blk) hs6
   have hA9 := Apart.new (Lt.own hcd.own) hs6
   have hA10 := Apart.new (Lt.own hjo) hs6
   have hG11 := Ge.new hV2 hs6
   have hG12 := Ge.new hE3 hs6
   have hG13 := Ge.new hE3 hs6
   have hE14 := hV2.then hw7
   have hE15 := hE3.then hw7
   have hE16 := hE3.then hw7
   have hB17 := hw7.blk0 hcd.blk
   have hO18 := hcd.own.evo0 hw7
   have hO19 := hjo.evo0 hw7
   refine wl_storeBlk rfl rfl Try.size25 hB5 rfl rfl ⟨by first | rfl | assumption, by first | rfl | assumption, by first | rfl | assumption, by first | rfl | assumption, by first | rfl | assumption, by first | rfl | assumption, by first | rfl | assumption, by first | rfl | assumption, by first | rfl | assumption, trivial⟩ fun w20 hB21 hw22 => ?_
   have hE23 := hE14.step hw22 hG11.mem1
   have hE24 := hE15.step hw22 hG12.mem1
   have hE25 := hE16.step hw22 hG13.mem1
   have hB26 := hw22.blk hB17 hA8.nmem1
   have hO27 := hO18.evo hw22 hA9.own1
   have hO28 := hO19.evo hw22 hA10.own1
   try simp only [List.setIfInBounds_toArray, List.set_cons_zero, List.set_cons_succ, Nat.reduceAdd, Nat.zero_add, Nat.add_zero] at hB21
   refine wl_nil (nrm_then ?_)
   refine cw_seq ?_
   refine cw_region ?_
   refine wl_m ?_
   refine wl_val rfl (ex_build (vs := [(0, _)]) Try.build44 rfl (cells := [_, _, _, _, _]) rfl) ?_
   refine wl_call1 (vs := [_, _]) Try.goes31 rfl (put_ok (rs := []) (hcd.evo0 hE25) rnil0 (by rw [List.length_append]; omega)) rfl ?_
   rintro _ w29 ⟨rfl, hw30, hto1⟩
   have hlt_JS_1 := (Lt.own hO28)
   have hlt_b6_1 := (Lt.blk hB21)
   have hev_1 := hE23
   have hE31 := hE23.step hw30 (mem_ob hq)
   have hB32 := hO28.evo hw30 (nmem2o hap1.symm hap2.symm)
   have hB33 := hw30.blk hB21 (nmem2 hA8.symm hA9.symm)
   obtain ⟨pa_1, pc_1, po_1, hC_1, hp_1⟩ := hto1
   have hq_1 := fr_trans hq hev_1 hp_1
   have hA_JS_1 := ap_ob hap2.symm hlt_JS_1 hp_1
   have hA_b6_1 := ap_ob hA9.symm hlt_b6_1 hp_1
   have hAJN_1 : Apart (some cb) po_1 := fun g h1 h2 => by cases h1; exact hC_1.ne cb h2 rfl
   refine wl_a ?_
   refine wl_nil (nrm_then ?_)
   refine cw_seq ?_
   refine cw_region ?_
   refine wl_m ?_
   refine wl_val rfl (ex_loadBlk rfl Try.agg25 Try.size25 hB33 rfl) ?_
   refine wl_call1 (vs := [_, _]) Try.goes16 rfl (ih (t := ks[j]) (hC_1.evo (Evo.refl jo.toList w29) hap1.nmem hA_JS_1.symm.own (fun y hy => List.mem_append_left _ hy) (fun z hz => .inl hz)) (RRx.step hrk hE31 (mem_ob hq_1) hXlt) (hg _ (List.getElem_mem hj')) (by have := hek; simp only [List.length_append, List.length_cons, List.length_nil]; omega) (ltZ hZ hE31 (Lt.own hB32))) rfl ?_
   rintro _ w34 ⟨-, hw35, kx, hto2, hkx, hkl, hkn⟩
   have hlt_JS_2 := (Lt.own hB32)
   have hlt_b6_2 := (Lt.blk hB33)
   have hev_2 := hE31
   have hE36 := hE31.step hw35 (mem_ob hq_1)
   have hB37 := hB32.evo hw35 (nmem2o hap1.symm hA_JS_1)
   have hB38 := hw35.blk hB33 (nmem2 hA8.symm hA_b6_1)
   obtain ⟨pa_2, pc_2, po_2, hC_2, hp_2⟩ := hto2
   have hq_2 := fr_trans hq_1 hev_2 hp_2
   have hA_JS_2 := ap_ob hA_JS_1 hlt_JS_2 hp_2
   have hA_b6_2 := ap_ob hA_b6_1 hlt_b6_2 hp_2
   have hAJN_2 : Apart (some cb) po_2 := fun g h1 h2 => by cases h1; exact hC_2.ne cb h2 rfl
   refine wl_nil (nrm_then ?_)
   refine cw_seq ?_
   refine cw_region ?_
   refine wl_m ?_
   refine wl_m ?_
   refine wl_val rfl (ex_build (vs := [(0, _)]) Try.build44 rfl (cells := [_, _, _, _, _]) rfl) ?_
   refine wl_call1 (vs := [_, _]) Try.goes31 rfl (put_ok (rs := []) (hC_2.evo (Evo.refl jo.toList w34) hap1.nmem hA_JS_2.symm.own (fun y hy => List.mem_append_left _ hy) (fun z hz => .inl hz)) rnil0 (by have := hek; simp only [List.length_append, List.length_cons, List.length_nil]; omega)) rfl ?_
   rintro _ w39 ⟨rfl, hw40, hto3⟩
   have hlt_JS_3 := (Lt.own hB37)
   have hlt_b6_3 := (Lt.blk hB38)
   have hev_3 := hE36
   have hE41 := hE36.step hw40 (mem_ob hq_2)
   have hB42 := hB37.evo hw40 (nmem2o hap1.symm hA_JS_2)
   have hB43 := hw40.blk hB38 (nmem2 hA8.symm hA_b6_2)
   obtain ⟨pa_3, pc_3, po_3, hC_3, hp_3⟩ := hto3
   have hq_3 := fr_trans hq_2 hev_3 hp_3
   have hA_JS_3 := ap_ob hA_JS_2 hlt_JS_3 hp_3
   have hA_b6_3 := ap_ob hA_b6_2 hlt_b6_3 hp_3
   have hAJN_3 : Apart (some cb) po_3 := fun g h1 h2 => by cases h1; exact hC_3.ne cb h2 rfl
   refine wl_bslice (vs := [_]) rfl Try.slice46 rfl rfl rfl rfl fun b44 w45 hO46 hs47 hw48 => ?_
   have hA49 := Apart.new (Lt.own hB42) hs47
   have hA50 := Apart.new (Lt.blk hB43) hs47
   have hA51 := Apart.new (Lt.blk hC_3.blk) hs47
   have hA52 := Apart.new (Lt.own hC_3.own) hs47
   have hG53 := Ge.new hE41 hs47
   have hG54 := Ge.new (Evo.refl jo.toList w39) hs47
   have hE55 := hE41.then hw48
   have hE56 := (Evo.refl jo.toList w39).then hw48
   have hO57 := hB42.evo0 hw48
   have hB58 := hw48.blk0 hB43
   have hB59 := hw48.blk0 hC_3.blk
   have hO60 := hC_3.own.evo0 hw48
   have hev4 := hE55
   have hcd4 := hE56
   have hge4 := hge
   refine wl_append rfl rfl rfl rfl Try.app46_46 hO57 (Src.ofOwn hO46 ⟨by first | rfl | assumption, trivial⟩) (by omega) fun ja2 jc2 w63 jo2 hO2 hw66 hob67 => ?_
   have hA68 := hA10.symm.app (Lt.blk hB58) hob67
   have hA69 := hap1.app (Lt.blk hB59) hob67
   have hA70 := hA_JS_3.symm.app (Lt.own hO60) hob67
   have hA71 := hA49.symm.app (Lt.own hO46) hob67
   have hG72 := hge.app hE55 hob67
   have hE73 := hE55.step hw66 hge.mem
   have hE74 := hE56.step hw66 (fun y hy => .inl hy)
   have hB75 := hw66.blk hB58 hA10.symm.nmem
   have hB76 := hw66.blk hB59 hap1.nmem
   have hO77 := hO60.evo hw66 hA_JS_3.symm.own
   have hO78 := hO46.evo hw66 hA49.symm.own
   have hjo2 := hob67
   refine wl_a ?_
   refine wl_nil (nrm_then ?_)
   refine cw_any (fun w0 w' => Evo po_3.toList w0 w') (by kernel_rfl) (fun w79 hw80 => ?_)
   have hE81 := hE73.then hw80
   have hE82 := hE74.then hw80
   have hB83 := hw80.blk0 hB75
   have hB84 := hw80.blk0 hB76
   have hO85 := hO77.evo0 hw80
   have hO86 := hO2.evo0 hw80
   refine ae_take 0 rfl (by kernel_rfl) (by kernel_rfl) (by kernel_rfl) rfl (fun _ hS => ex_move rfl) (Evo.refl po_3.toList w79) ?_
   refine ae_take 1 rfl (by kernel_rfl) (by kernel_rfl) (by kernel_rfl) rfl (fun _ hS => ex_nilCheck rfl) (Evo.refl po_3.toList w79) ?_
   refine ae_take 2 rfl (by kernel_rfl) (by kernel_rfl) (by kernel_rfl) rfl (fun _ hS => ex_load1 rfl Try.agg41 (cell_nth (hS.blk hB84 (hAJN_3.nmem)) rfl)) (Evo.refl po_3.toList w79) ?_
   refine ae_take 3 rfl (by kernel_rfl) (by kernel_rfl) (by kernel_rfl) rfl (fun _ hS => ex_move rfl) (Evo.refl po_3.toList w79) ?_
   refine ae_take 4 rfl (by kernel_rfl) (by kernel_rfl) (by kernel_rfl) rfl (fun _ hS => ex_move rfl) (Evo.refl po_3.toList w79) ?_
   refine ae_take 5 rfl (by kernel_rfl) (by kernel_rfl) (by kernel_rfl) rfl (fun _ hS => ex_add_i64 rfl rfl (by omega) (by omega)) (Evo.refl po_3.toList w79) ?_
   refine ae_take 6 rfl (by kernel_rfl) (by kernel_rfl) (by kernel_rfl) rfl (fun _ hS => ex_move rfl) (Evo.refl po_3.toList w79) ?_
   refine ae_take 7 rfl (by kernel_rfl) (by kernel_rfl) (by kernel_rfl) rfl (fun _ hS => ex_nilCheck rfl) (Evo.refl po_3.toList w79) ?_
   refine ae_take 8 rfl (by kernel_rfl) (by kernel_rfl) (by kernel_rfl) rfl (fun _ hS => ex_load1 rfl Try.agg41 (cell_nth (hS.blk hB84 (hAJN_3.nmem)) rfl)) (Evo.refl po_3.toList w79) ?_
   refine ae_take 9 rfl (by kernel_rfl) (by kernel_rfl) (by kernel_rfl) rfl (fun _ hS => ex_len_slice rfl Try.underlying41 rfl) (Evo.refl po_3.toList w79) ?_
   refine ae_loud [10] (by kernel_rfl) rfl ⟨?_, trivial⟩
   refine a_step rfl ?_
   have hC4 := hC_3.evo hE82 hap1.nmem hA_JS_3.symm.own (fun y hy => List.mem_append_left _ hy) (mem_joZ hcd4 hjo2)
   refine wl_call1 (vs := [_, _, _, _, _]) Try.goes55 rfl (turnC_ok (k := (es ++ new).length) (hC4.evo0 (Evo.refl [] w79)) (by simp only [List.length_append, List.length_cons, List.length_nil]; omega)) rfl ?_
   rintro _ w87 ⟨rfl, hw88, hT_5⟩
   have hE89 := hE81.step hw88 (fun y hy => mem_ob hq_3 y (List.mem_cons_of_mem _ hy))
   have hE90 := (Evo.refl po_3.toList w79).step hw88 (fun y hy => .inl hy)
   have hB91 := hw88.blk hB83 (hA_b6_3.nmem)
   have hB92 := hw88.blk hB84 (hAJN_3.nmem)
   have hB93 := hO86.evo hw88 (hA70.symm.own)
   refine wl_nil (ae_next (.inl hE90) ?_)
   refine ae_done (by kernel_rfl) (nrm_block (nrm_then ?_))
   refine cw_region ?_
   refine wl_val rfl (ex_add_i64 rfl rfl (by omega) (by omega)) ?_
   refine wl_m ?_
   refine wl_nil (nrm_same ?_)
   refine ⟨⟨j + 1, new ++ ([(In.sp false (es.length + new.length + 1) (es.length + new.length + 1 + kx.length + 1), .slice none 0 0)] ++ (kx ++ [(⟨10, ((es.length + new.length + 1 + kx.length : Nat) : Int) + 1, 0, 0, []⟩, .slice none 0 0)])), pa_3, pc_3, po_3, js ++ [es.length + new.length + 1 + kx.length], ja2, jc2, jo2⟩, ?_, ⟨rfl, rfl, trivial⟩, ⟨rfl, rfl, rfl, rfl, trivial⟩, hE89, ?_⟩
   · (try dsimp only); omega
   ·skip
    try dsimp only
    have hkx' : Codes ks[j] (es.length + new.length + 1) (kx.map (·.1)) := by have h := hkx; rwa [List.length_append, List.length_append] at h
    have hs := hpre.snoc (x := ks[j]) (kx := kx.map (·.1)) (o := ((es.length + new.length + 1 + kx.length : Nat) : Int) + 1) (m' := es.length + new.length + 1 + kx.length) (by rw [List.length_map]; exact hkx') (by rw [List.length_map, List.length_map])
    rw [List.length_map] at hs
    have hT := hT_5
    rw [mod_mid rfl] at hT
    refine ⟨by show j + 1 + 1 ≤ _; omega, hT.cast ?_, hq_3, ?_, ?_, ?_, ?_, ?_, hA69, hA70, hG72⟩
    · rw [List.append_assoc]; refine congrArg (es ++ ·) (congrArg (new ++ ·) ?_)
      simp only [In.sp, List.length_append, List.length_cons, List.length_nil, List.singleton_append, Bool.false_eq_true, if_false]; push_cast; simp [Int.add_assoc, Nat.add_assoc]
    · show AltPre (ks.take (j + 1)) _ _ _
      rw [List.take_add_one, List.getElem?_eq_getElem hj']; rw [List.map_append, List.map_append, List.map_append]; exact hs
    · show _ ≤ eszs (ks.take (j + 1)) + 2 * (j + 1)
      rw [eszs_take hj']; simp only [List.length_append, List.length_cons, List.length_nil]; omega
    · show (js ++ [_]).length = j + 1; rw [List.length_append, hjl]; rfl
    · exact nice_app hnice (nice_app (nice_one (nice_sp _ _ _)) (nice_app hkn (nice_one (nice_jump _))))
    · have h : OwnS _ 3 1 ja2 (j + 1) jc2 (js.map (fun p => iv (p : Nat)) ++ [iv (((((es ++ new) ++ [_]) ++ kx).length : Nat))]) jo2 := hB93
      simp only [List.length_append, List.length_cons, List.length_nil, Nat.zero_add] at h
      show OwnS _ 3 1 ja2 (j + 1) jc2 ((js ++ [_]).map _) jo2; rw [List.map_append]; exact h
  ·skip
   obtain rfl : j = ks.length - 1 := by omega
   have hj' : ks.length - 1 < ks.length := by omega
   obtain ⟨_, _, vs1, ha1, hb1, hvl1, hc1, hrk⟩ := e1 (ks.length - 1) hj'
   cases ha1
   obtain ⟨m1, ra1, rc1, ka1, kc1, rfl, rfl, -⟩ := id hrk.get
   have hek := eszs_le hj'
   have hsn : (es ++ new).length = es.length + new.length := List.length_append
   refine cw_exit (ex_then (ex_then (ex_here (nrm_then ?_))))
   refine cw_seq ?_
   refine cw_region ?_
   refine wl_m ?_
   refine wl_m ?_
   refine wl_m ?_
   refine wl_val rfl (ex_len_slice rfl Try.underlying23 rfl) ?_
   refine wl_val rfl (ex_sub_i64 rfl rfl (by omega) (by omega)) ?_
   refine wl_val rfl (ex_indexAddrZ (n := ks.length - 1) rfl rfl (by omega) Try.elem23 (by omega)) ?_
   refine wl_val rfl (ex_loadA rfl Try.agg25 Try.size25 (vs := [_, _, _, _, _, _, _, _, _]) rfl (hc1.evo hV2 hb1)) ?_
   refine wl_call1 (vs := [_, _]) Try.goes16 rfl (ih (t := ks[ks.length - 1]) (hcd.evo0 hE3) (RRx.step hrk hV2 (mem_ob hq) hXlt) (hg _ (List.getElem_mem hj')) (by have := hek; simp only [List.length_append]; omega) (ltZ hZ hV2 (Lt.own hjo))) rfl ?_
   rintro _ w94 ⟨-, hw95, kx, hto7, hkx, hkl, hkn⟩
   have hlt_JS_7 := (Lt.own hjo)
   have hev_7 := hV2
   have hE96 := hV2.step hw95 (mem_ob hq)
   have hB97 := hjo.evo hw95 (nmem2o hap1.symm hap2.symm)
   obtain ⟨pa_7, pc_7, po_7, hC_7, hp_7⟩ := hto7
   have hq_7 := fr_trans hq hev_7 hp_7
   have hA_JS_7 := ap_ob hap2.symm hlt_JS_7 hp_7
   have hAJN_7 : Apart (some cb) po_7 := fun g h1 h2 => by cases h1; exact hC_7.ne cb h2 rfl
   refine wl_nil (nrm_then ?_)
   refine cw_seq ?_
   refine cw_region ?_
   refine wl_m ?_
   refine wl_val rfl (ex_len_slice rfl Try.underlying46 rfl) ?_
   refine wl_m ?_
   refine wl_nil (nrm_then ?_)
   refine cw_block ?_
   refine cw_loop (α := Nat) (0) (fun i => [(54, .int .i64 (i : Nat))]) [(0, _), (52, _), (53, _)] (fun i wr => Evo (cb :: ob.toList) w wr ∧ (i ≤ js.length ∧ CdAt wr cb (patch (Iv.outTo (es.length + new.length + kx.length)) (js.take i) (es ++ (new ++ kx))) pa_7 pc_7 po_7 (jo.toList ++ Z) ∧ OwnS wr 3 1 ja (ks.length - 1) jc (js.map fun p => iv (p : Nat)) jo)) (fun i => js.length - i) ⟨rfl, trivial⟩ ⟨rfl, rfl, rfl, trivial⟩ ⟨hE96, ⟨Nat.zero_le _, by rw [List.take_zero, ← List.append_assoc]; exact hC_7.evo0 (Evo.refl [] w94), hB97⟩⟩ ?_
   rintro i wr98 ⟨hV99, ⟨hi, hcd2, hjo2⟩⟩
   show CW _ _ _ _ [(54, _), (0, _), (52, _), (53, _)] _
   have hE100 := Evo.refl (po_7.toList) wr98
   have hpl : (patch (Iv.outTo (es.length + new.length + kx.length)) (js.take i) (es ++ (new ++ kx))).length = es.length + new.length + kx.length := by rw [patch_length]; simp only [List.length_append]; omega
   refine cw_seq ?_
   refine cw_region ?_
   refine wl_val rfl (ex_lss rfl rfl) ?_
   refine wl_nil (nrm_then ?_)
   refine cw_seq ?_
   refine cw_if rfl (fun hc55 => ?_) (fun hc55 => ?_)
   ·skip
    have hi' : i < js.length := by omega
    have hat := hpre.at' js[i] (List.getElem_mem hi')
    rw [List.length_map] at hat
    obtain ⟨gJ, haJ, hcJ⟩ := own_ints hjo2 (by omega)
    refine cw_skip (nrm_then ?_)
    refine cw_seq ?_
    refine cw_block ?_
    refine cw_seq ?_
    refine cw_region ?_
    refine wl_val rfl (ex_indexAddr (n := i) (by rw [haJ]; rfl) rfl Try.elem46 (by omega)) ?_
    refine wl_val rfl (ex_load1 rfl Try.agg3 (hcJ i hi')) ?_
    refine wl_a ?_
    refine wl_nil (nrm_then ?_)
    refine cw_any (fun w0 w' => Evo po_7.toList w0 w') (by kernel_rfl) (fun w101 hw102 => ?_)
    have hE103 := hV99.then hw102
    have hE104 := hE100.then hw102
    have hB105 := hw102.blk0 hcd2.blk
    have hO106 := hcd2.own.evo0 hw102
    have hO107 := hjo2.evo0 hw102
    refine ae_take 0 rfl (by kernel_rfl) (by kernel_rfl) (by kernel_rfl) rfl (fun _ hS => ex_move rfl) (Evo.refl po_7.toList w101) ?_
    refine ae_take 1 rfl (by kernel_rfl) (by kernel_rfl) (by kernel_rfl) rfl (fun _ hS => ex_nilCheck rfl) (Evo.refl po_7.toList w101) ?_
    refine ae_take 2 rfl (by kernel_rfl) (by kernel_rfl) (by kernel_rfl) rfl (fun _ hS => ex_load1 rfl Try.agg41 (cell_nth (hS.blk hB105 (hAJN_7.nmem)) rfl)) (Evo.refl po_7.toList w101) ?_
    refine ae_take 3 rfl (by kernel_rfl) (by kernel_rfl) (by kernel_rfl) rfl (fun _ hS => ex_move rfl) (Evo.refl po_7.toList w101) ?_
    refine ae_take 4 rfl (by kernel_rfl) (by kernel_rfl) (by kernel_rfl) rfl (fun _ hS => ex_move rfl) (Evo.refl po_7.toList w101) ?_
    refine ae_take 5 rfl (by kernel_rfl) (by kernel_rfl) (by kernel_rfl) rfl (fun _ hS => ex_nilCheck rfl) (Evo.refl po_7.toList w101) ?_
    refine ae_take 6 rfl (by kernel_rfl) (by kernel_rfl) (by kernel_rfl) rfl (fun _ hS => ex_load1 rfl Try.agg41 (cell_nth (hS.blk hB105 (hAJN_7.nmem)) rfl)) (Evo.refl po_7.toList w101) ?_
    refine ae_take 7 rfl (by kernel_rfl) (by kernel_rfl) (by kernel_rfl) rfl (fun _ hS => ex_len_slice rfl Try.underlying41 rfl) (Evo.refl po_7.toList w101) ?_
    obtain ⟨gN, -, rfl, -⟩ := hO106.cells (by omega)
    have hjp : js[i] < (patch (Iv.outTo (es.length + new.length + kx.length)) (js.take i) (es ++ (new ++ kx))).length := by omega
    refine ae_take 8 rfl (by kernel_rfl) (by kernel_rfl) (by kernel_rfl) rfl (fun _ hS => ex_indexAddr (n := js[i]) rfl rfl Try.elem41 hjp) (Evo.refl po_7.toList w101) ?_
    refine ae_take 9 rfl (by kernel_rfl) (by kernel_rfl) (by kernel_rfl) rfl (fun _ hS => ex_fieldAddr rfl Try.fld44_1) (Evo.refl po_7.toList w101) ?_
    refine ae_loud [10] (by kernel_rfl) rfl ⟨?_, trivial⟩
    refine a_step rfl ?_
    obtain ⟨g117, cur108, hg109, hx110, hcu111, hcs112, -⟩ := hO106.at (by omega)
    cases hx110
    refine wl_store1L rfl rfl (rfl) Try.size3 hcu111 (hO106.inb hcs112 (k := js[i]) (j := 1) (by omega) (by omega) (by omega)) fun w113 hB114 hw115 => ?_
    replace hw115 := evo_ob hg109 hw115
    have hO116 := hO106.set' hg109 hcu111 hB114
    have hE118 := hE103.step hw115 (fun y hy => mem_ob hq_7 y (List.mem_cons_of_mem _ hy))
    have hE119 := hE104.step hw115 (fun y hy => .inl hy)
    have hE120 := (Evo.refl po_7.toList w101).step hw115 (fun y hy => .inl hy)
    have hB121 := hw115.blk hB105 hAJN_7.nmem
    have hO122 := hO107.evo hw115 hA_JS_7.own
    rw [show 0 + js[i] * 5 + 1 = js[i] * 5 + 1 from by omega, flat_setOut (by rw [hpl]; omega), setOut_len hpl] at hO116
    refine wl_nil (ae_next (.inl hE120) ?_)
    refine ae_done (by kernel_rfl) (nrm_block (nrm_then ?_))
    refine cw_region ?_
    refine wl_val rfl (ex_add_i64 rfl rfl (by omega) (by omega)) ?_
    refine wl_m ?_
    refine wl_nil (nrm_same ?_)
    refine ⟨i + 1, ?_, ⟨rfl, trivial⟩, ⟨rfl, rfl, rfl, trivial⟩, hE118, ?_⟩
    · omega
    ·skip
     refine ⟨by omega, ?_, hO122⟩
     rw [List.take_add_one, List.getElem?_eq_getElem hi']
     have := hcd2.mod hE119 hO116 (fun _ => ⟨rfl, rfl⟩)
     rw [show (js.take i ++ (some js[i]).toList) = js.take i ++ [js[i]] from rfl, patch_snoc]
     exact this
   ·skip
    refine cw_exit (ex_then (ex_then (ex_here (body_end0 rfl ?_))))
    have hiE : js.take i = js := List.take_of_length_le (by omega)
    rw [hiE] at hcd2
    have hatJ : ∀ p, p ∈ js → es.length ≤ p := fun p hp => (hpre.at' p hp).1
    obtain ⟨new', hn1, hn2, hn3⟩ := patch_tail (f := Iv.outTo (es.length + new.length + kx.length)) (fun _ _ => rfl) (new := new ++ kx) hatJ
    rw [hn1] at hcd2
    have hnl : new'.length = new.length + kx.length := by rw [hn2, List.length_append]
    have hkx' : Codes ks[ks.length - 1] (es.length + new.length) (kx.map (·.1)) := by have h := hkx; rwa [List.length_append] at h
    have hks : ks = ks.take (ks.length - 1) ++ [ks[ks.length - 1]] := by rw [List.take_append_getElem, List.take_of_length_le (by omega)]
    refine ⟨rfl, hV99, new', ⟨_, _, _, hcd2.evo (Evo.refl [] _) (by simp) (by simp) (by simp) (fun z hz => .inl (List.mem_append_right _ hz)), hq_7⟩, fun l hl => ?_, by omega, nice_patch (nice_app hnice hkn) hn2 hn3 (fun p e h => ⟨h.1, Int.natCast_nonneg _, h.2.2⟩)⟩
    have hp := pat_of (g := outTo (es.length + new.length + kx.length)) (fun _ _ => rfl) hn2 hn3 hl
    rw [List.map_append] at hp
    have hd := hpre.done (x := ks[ks.length - 1]) (kx := kx.map (·.1)) (l := l) (by rw [List.length_map]; exact hkx') (by rw [List.length_map, List.length_map]; exact hp)
    rw [List.length_map, List.length_map, ← hks] at hd
    rw [hnl, ← Nat.add_assoc]; exact hd

end Go.Proofs.Ytgboffefbpligaa
