/- The law's own run of a program: spread. -/
import Derived.Test.YtgboffefbpligaaTm
import Derived.Test.YtgboffefbpligaaTl
namespace Go.Proofs.Ytgboffefbpligaa
open Go.Proofs
open Go.W Go.RowKit
attribute [local irreducible] Decidable.decide
set_option linter.unusedSimpArgs false
set_option linter.unusedVariables false
theorem Try.agg26 : aggB Try.prog 26 = some false := by kernel_rfl
theorem Try.elem26 : elemB Try.prog 26 = some 5 := by kernel_rfl
theorem Try.elem65 : elemB Try.prog 65 = some 1 := by kernel_rfl
theorem Try.fld29_0 : fieldB Try.prog 29 0 = some 0 := by kernel_rfl
theorem Try.goes36 : Goes Try.prog 36 := ⟨_, Try.func36, by kernel_rfl, by kernel_rfl⟩
theorem Try.make65 : makeB Try.prog 65 = some (4, 1, 1, #[.bool false]) := by kernel_rfl
theorem Try.zero44 : zeroB Try.prog 44 = some #[.int .i64 0, .int .i64 0, .int .i64 0, .int .i64 0, .slice none 0 0] := by kernel_rfl


abbrev ivs (l : List Nat) : List Value := l.map fun p => iv (p : Nat)
def seenL (m : Nat) (out : List Nat) : List Value := (List.range m).map fun j => Value.bool (decide (j ∈ out))
theorem seenL_len (m : Nat) (out : List Nat) : (seenL m out).length = m := by simp [seenL]
theorem seenL_get {m k : Nat} (out : List Nat) (h : k < m) : (seenL m out)[k]? = some (Value.bool (decide (k ∈ out))) := by simp [seenL, h]
theorem seenL_zero (m : Nat) : zeros #[.bool false] m = seenL m [] := by
  apply List.ext_getElem?
  intro k
  by_cases h : k < m
  · rw [zeros_get (by decide) (by simpa using h), seenL_get _ h]; simp
  · rw [List.getElem?_eq_none (by rw [zeros_len]; simp; omega), List.getElem?_eq_none (by rw [seenL_len]; omega)]
theorem seenL_set {m k : Nat} (out : List Nat) (h : k < m) : (seenL m out).set k (.bool true) = seenL m (out ++ [k]) := by
  apply List.ext_getElem?
  intro j
  by_cases hj : j < m
  · rw [seenL_get _ hj, List.getElem?_set]
    by_cases e : k = j
    · subst e; rw [if_pos rfl, if_pos (by rw [seenL_len]; exact h)]; simp
    · rw [if_neg e, seenL_get _ hj]; simp [show ¬ j = k from fun h => e h.symm]
  · rw [List.getElem?_eq_none (by rw [List.length_set, seenL_len]; omega), List.getElem?_eq_none (by rw [seenL_len]; omega)]
structure SpG where
  k : Nat
  ls : List Nat
  ln : Nat
  la : Option Addr
  lc : Nat
  lo : Option Nat
  out : List Nat
  on : Nat
  oa : Option Addr
  oc : Nat
  oo : Option Nat
structure SpI (w wr : World) (l : List In) (s : ByteArray) (i : Nat) (init : List Nat) (ob : Option Nat) (sa : Option Addr) (sc : Nat) (so : Option Nat) (b4 : Nat) (cs : Array Value) (x : SpG) : Prop where
  si : SI l s i init x.ls x.k x.out
  ln : x.ln = x.ls.length
  on : x.on = x.out.length
  ol : OwnS wr 3 1 x.la x.ln x.lc (ivs x.ls) x.lo
  oo : OwnS wr 3 1 x.oa x.on x.oc (ivs x.out) x.oo
  os : OwnS wr 4 1 sa l.length sc (seenL l.length x.out) so
  bx : wr.heap[b4]? = some (.cells cs 29 (0, 0))
  a1 : Apart x.lo x.oo
  a2 : Apart x.lo so
  a3 : Apart x.oo so
  a4 : Apart (some b4) x.lo
  a5 : Apart (some b4) x.oo
  a6 : Apart (some b4) so
  hl : x.lo = ob ∨ ∃ g, x.lo = some g ∧ w.heap.size ≤ g
  go : Ge w x.oo
  gs : Ge w so
  nz : x.oa ≠ none
theorem own_some {w : World} {e : TypeId} {sz : Nat} {a : Option Addr} {n c : Nat} {xs : List Value} {ob : Option Nat} (h : OwnS w e sz a n c xs ob) (h0 : 0 < n) : a ≠ none := by
  obtain ⟨g, -, rfl, -⟩ := h.cells h0
  simp
theorem eps_at {l : List In} {s : ByteArray} {i p q : Nat} {c : In} (h : l[p]? = some c) : EpsB l s i p q ↔ GoesB s c i ∧ ((q : Int) = c.out ∨ (c.op = 3 ∧ (q : Int) = c.alt)) := by
  unfold EpsB
  constructor
  · rintro ⟨c', h1, h2⟩; rw [h] at h1; cases h1; exact h2
  · exact fun h2 => ⟨c, h, h2⟩
theorem goes_ops {s : ByteArray} {c : In} {i : Nat} (h : GoesB s c i) : 3 ≤ c.op ∧ c.op ≤ 10 := by unfold GoesB at h; omega
theorem ob_mem {w : World} {ob o : Option Nat} (h : o = ob ∨ ∃ g, o = some g ∧ w.heap.size ≤ g) : ∀ y, y ∈ o.toList → y ∈ ob.toList ∨ w.heap.size ≤ y := fun y hy => by
  rcases h with rfl | ⟨g, h1, h2⟩
  · exact .inl hy
  · rw [h1] at hy; simp at hy; right; omega

set_option maxHeartbeats 4000000 in
theorem spread_ok {w : World} {ps : List Value} {l : List In} {s : ByteArray} {i : Nat} {init : List Nat} {a : Option Addr} {c : Nat} {ob : Option Nat} (hp : RProg ob.toList w ps l) (hO : OwnS w 3 1 a init.length c (ivs init) ob) (hini : ∀ q, q ∈ init → q < l.length) (hR : Rng l) (hi : i ≤ s.size) (hs : s.size ≤ 1000000000) (hil : init.length ≤ 100000) :
    Calls Try.prog 18 #[.agg ps.toArray, .string s, .int .i64 (i : Nat), .slice a init.length c] w (Ret fun v w' => ∃ a' c' ob' out, v = .slice a' out.length c' ∧ a' ≠ none ∧ OwnS w' 3 1 a' out.length c' (ivs out) ob' ∧ Evo ob.toList w w' ∧ Ge w ob' ∧ (∀ q, q ∈ out ↔ EpsS l s i init q) ∧ out.length ≤ l.length ∧ ∀ q, q ∈ out → q < l.length) := by
  obtain ⟨vi, pg, nm, rfl, hpi, hpl, hpg, hpn⟩ := hp
  have hpi0 := hpi
  obtain ⟨pa, pc, rfl, hpc, e1⟩ := hpi
  refine calls_of_cw (N := 72) Try.func18 rfl rfl rfl ?_
  refine cw_seq ?_
  refine cw_region ?_
  refine wl_boxA rfl rfl fun b4 w1 hB2 hs3 hw4 => ?_
  have hsz_b4 := hs3
  have hA5 := Apart.new (Lt.own hO) hs3
  have hG6 := Ge.new (Evo.refl ob.toList w) hs3
  have hE7 := (Evo.refl ob.toList w).then hw4
  have hO8 := hO.evo0 hw4
  refine wl_a ?_
  refine wl_nil (nrm_then ?_)
  refine cw_seq ?_
  refine cw_region ?_
  refine wl_val rfl (ex_fieldAddr rfl Try.fld29_0) ?_
  refine wl_val rfl (ex_load1 rfl Try.agg26 (cell_nth hB2 rfl)) ?_
  refine wl_val rfl (ex_len_slice rfl Try.underlying26 rfl) ?_
  refine wl_make (len := l.length) (c := l.length) rfl rfl rfl Try.make65 (by rfl) (by rfl) (by omega) (by decide) (by omega) (by omega) fun sb w10 hS0 hs12 hw13 => ?_
  have hA14 := Apart.new (Lt.own hO8) hs12
  have hA15 := Apart.new (Lt.blk hB2) hs12
  have hG16 := Ge.new hE7 hs12
  have hE17 := hE7.then hw13
  have hO18 := hO8.evo0 hw13
  have hB19 := hw13.blk0 hB2
  rw [seenL_zero] at hS0
  refine wl_a ?_
  refine wl_nil (nrm_then ?_)
  refine cw_seq ?_
  refine cw_region ?_
  refine wl_bslice (vs := []) rfl Try.slice46 rfl rfl rfl rfl fun b20 w21 hO22 hs23 hw24 => ?_
  have hA25 := Apart.new (Lt.own hO18) hs23
  have hA26 := Apart.new (Lt.blk hB19) hs23
  have hA27 := Apart.new (Lt.own hS0) hs23
  have hG28 := Ge.new hE17 hs23
  have hE29 := hE17.then hw24
  have hO30 := hO18.evo0 hw24
  have hB31 := hw24.blk0 hB19
  have hO32 := hS0.evo0 hw24
  refine wl_a ?_
  refine wl_nil (nrm_then ?_)
  refine cw_seq ?_
  refine cw_seq ?_
  refine cw_region ?_
  refine wl_a ?_
  refine wl_nil (nrm_then ?_)
  refine cw_block ?_
  refine cw_loop (α := SpG) (⟨0, init, init.length, a, c, ob, [], 0, _, _, _⟩) (fun x => [(11, .int .i64 (x.k : Nat)), (3, .slice x.la x.ln x.lc), (10, .slice x.oa x.on x.oc)]) [(1, _), (2, _), (4, _), (9, _)] (fun x wr => Evo ob.toList w wr ∧ (SpI w wr l s i init ob _ _ _ b4 #[.slice pa l.length pc, iv 0, pg, nm] x)) (fun x => init.length + 2 * l.length + 1 - x.k) ⟨rfl, rfl, rfl, trivial⟩ ⟨rfl, rfl, rfl, rfl, trivial⟩ ⟨hE29, ⟨SI.start hini, rfl, rfl, hO30, hO22, hO32, hB31, hA25, hA14, hA27.symm, hA5.symm, hA26, hA15, .inl rfl, hG28, hG16, by simp⟩⟩ ?_
  rintro ⟨k, ls, ln, la, lc, lo, out, on, oa, oc, oo⟩ wr33 ⟨hV34, ⟨hsi, hln, hon, hol, hoo, hos, hb4, ha1, ha2, ha3, ha4, ha5, ha6, hhl, hgo, hgs, hnz⟩⟩
  show CW _ _ _ _ [(11, .int .i64 (k : Nat)), (3, .slice la ln lc), (10, .slice oa on oc), (1, _), (2, _), (4, _), (9, _)] _
  try dsimp only at hsi
  try dsimp only at hln
  try dsimp only at hon
  try dsimp only at hol
  try dsimp only at hoo
  try dsimp only at hos
  try dsimp only at hb4
  try dsimp only at ha1
  try dsimp only at ha2
  try dsimp only at ha3
  try dsimp only at ha4
  try dsimp only at ha5
  try dsimp only at ha6
  try dsimp only at hhl
  try dsimp only at hgo
  try dsimp only at hgs
  try dsimp only at hnz
  refine cw_seq ?_
  refine cw_seq ?_
  refine cw_region ?_
  refine wl_m ?_
  refine wl_m ?_
  refine wl_val rfl (ex_len_slice rfl Try.underlying46 rfl) ?_
  refine wl_val rfl (ex_lss rfl rfl) ?_
  refine wl_nil (nrm_then ?_)
  refine cw_if rfl (fun hc22 => ?_) (fun hc22 => ?_)
  ·skip
   have hk' : k < ls.length := by omega
   have hbd := hsi.bound
   have hole := hsi.olen
   have hlm := hsi.rng _ (List.getElem_mem hk')
   obtain ⟨gL, haL, hcL⟩ := own_ints hol (by omega)
   refine cw_skip (nrm_then ?_)
   refine cw_seq ?_
   refine cw_block ?_
   refine cw_seq ?_
   refine cw_region ?_
   refine wl_m ?_
   refine wl_m ?_
   refine wl_val rfl (ex_indexAddr (n := k) (by rw [haL]; rfl) rfl Try.elem46 (by omega)) ?_
   refine wl_val rfl (ex_load1 rfl Try.agg3 (hcL k hk')) ?_
   refine wl_a ?_
   refine wl_nil (nrm_then ?_)
   refine cw_seq ?_
   refine cw_seq ?_
   refine cw_region ?_
   refine wl_m ?_
   refine wl_val rfl (ex_lss rfl rfl) ?_
   refine wl_m ?_
   refine wl_split (t := 31) rfl (fun hs31 => ?_) (fun hs31 => ?_)
   ·skip
    exact absurd hs31 (by omega)
   ·skip
    refine wl_g ?_
    refine wl_m ?_
    refine wl_g ?_
    refine wl_val rfl (ex_fieldAddr rfl Try.fld29_0) ?_
    refine wl_g ?_
    refine wl_val rfl (ex_load1 rfl Try.agg26 (cell_nth hb4 rfl)) ?_
    refine wl_g ?_
    refine wl_val rfl (ex_len_slice rfl Try.underlying26 rfl) ?_
    refine wl_g ?_
    refine wl_val rfl (ex_geq rfl rfl) ?_
    refine wl_pf ?_
    refine wl_nil (nrm_then ?_)
    refine cw_if rfl (fun hc37 => ?_) (fun hc37 => ?_)
    ·skip
     exact absurd hc37 (by omega)
    ·skip
     refine cw_skip (nrm_then ?_)
     refine cw_seq ?_
     refine cw_seq ?_
     refine cw_region ?_
     refine wl_m ?_
     refine wl_m ?_
     obtain ⟨gS, -, haS, hcS⟩ := hos.cells (by omega)
     cases haS
     refine wl_val rfl (ex_indexAddr (n := ls[k]) rfl rfl Try.elem65 hlm) ?_
     refine wl_val rfl (ex_load1 rfl Try.agg4 (by rw [Nat.mul_one]; exact hcS ls[k] _ (seenL_get out hlm))) ?_
     refine wl_nil (nrm_then ?_)
     refine cw_if rfl (fun hc41 => ?_) (fun hc41 => ?_)
     ·skip
      refine cw_exit (ex_then (ex_here (nrm_then ?_)))
      refine cw_region ?_
      refine wl_m ?_
      refine wl_val rfl (ex_add_i64 rfl rfl (by omega) (by omega)) ?_
      refine wl_a ?_
      refine wl_nil (nrm_same ?_)
      refine ⟨⟨k + 1, ls, ln, la, lc, lo, out, on, oa, oc, oo⟩, ?_, ⟨rfl, rfl, rfl, trivial⟩, ⟨rfl, rfl, rfl, rfl, trivial⟩, hV34, ?_⟩
      · (try dsimp only); have := hsi.bound; have := hsi.olen; omega
      ·skip
       try dsimp only
       exact ⟨hsi.skip hk' hc41, hln, hon, hol, hoo, hos, hb4, ha1, ha2, ha3, ha4, ha5, ha6, hhl, hgo, hgs, hnz⟩
     ·skip
      obtain ⟨bP, oP, vsP, haP, hbP, -, hcP, vr, rfl, hrr, hrl⟩ := e1 ls[k] hlm
      have hc0 : l[ls[k]]? = some l[ls[k]] := List.getElem?_eq_getElem hlm
      have hrg := hR _ _ hc0
      have hsz9 := (hV34).size
      have hone := hrr.one
      refine cw_skip (nrm_then ?_)
      refine cw_seq ?_
      refine cw_region ?_
      refine wl_m ?_
      refine wl_m ?_
      refine wl_val rfl (ex_indexAddr (n := ls[k]) rfl rfl Try.elem65 hlm) ?_
      obtain ⟨g44, cur35, hg36, hx37, hcu38, hcs39, -⟩ := hos.at (by omega)
      cases hx37
      refine wl_store1L rfl rfl (rfl) Try.size4 hcu38 (hos.inb hcs39 (k := ls[k]) (j := 0) (by omega) (by omega) (by omega)) fun w40 hB41 hw42 => ?_
      replace hw42 := evo_ob hg36 hw42
      have hO43 := hos.set' hg36 hcu38 hB41
      have hE45 := hV34.step hw42 hgs.mem
      have hO46 := hol.evo hw42 ha2.own
      have hO47 := hoo.evo hw42 ha3.own
      have hB48 := hw42.blk hb4 ha6.nmem
      rw [show 0 + ls[k] * 1 = ls[k] from by omega, seenL_set out hlm] at hO43
      refine wl_nil (nrm_then ?_)
      refine cw_seq ?_
      refine cw_region ?_
      refine wl_m ?_
      refine wl_m ?_
      refine wl_bslice (vs := [_]) rfl Try.slice46 rfl rfl rfl rfl fun b49 w50 hO51 hs52 hw53 => ?_
      have hA54 := Apart.new (Lt.own hO46) hs52
      have hA55 := Apart.new (Lt.own hO47) hs52
      have hA56 := Apart.new (Lt.own hO43) hs52
      have hA57 := Apart.new (Lt.blk hB48) hs52
      have hG58 := Ge.new hE45 hs52
      have hE59 := hE45.then hw53
      have hO60 := hO46.evo0 hw53
      have hO61 := hO47.evo0 hw53
      have hO62 := hO43.evo0 hw53
      have hB63 := hw53.blk0 hB48
      refine wl_append rfl rfl rfl rfl Try.app46_46 hO61 (Src.ofOwn hO51 ⟨by first | rfl | assumption, trivial⟩) (by omega) fun oa2 oc2 w66 oo2 hOo2 hw69 hob70 => ?_
      have hA71 := ha1.app (Lt.own hO60) hob70
      have hA72 := ha3.symm.app (Lt.own hO62) hob70
      have hA73 := ha5.app (Lt.blk hB63) hob70
      have hA74 := hA55.symm.app (Lt.own hO51) hob70
      have hG75 := hgo.app hE59 hob70
      have hE76 := hE59.step hw69 hgo.mem
      have hO77 := hO60.evo hw69 ha1.own
      have hO78 := hO62.evo hw69 ha3.symm.own
      have hB79 := hw69.blk hB63 ha5.nmem
      have hO80 := hO51.evo hw69 hA55.symm.own
      have hnz2 : oa2 ≠ none := own_some hOo2 (by omega)
      refine wl_a ?_
      refine wl_nil (nrm_then ?_)
      refine cw_seq ?_
      refine cw_region ?_
      refine wl_val rfl (ex_fieldAddr rfl Try.fld29_0) ?_
      refine wl_val rfl (ex_load1 rfl Try.agg26 (cell_nth hB79 rfl)) ?_
      refine wl_m ?_
      refine wl_val rfl (ex_indexAddr (n := ls[k]) (by rw [haP]; rfl) rfl Try.elem26 hlm) ?_
      refine wl_val rfl (ex_loadA rfl Try.agg44 Try.size44 (vs := [_, _, _, _, _]) rfl (hcP.evo hE76 hbP)) ?_
      refine wl_alloc rfl Try.zero44 fun b13 w81 hB82 hs83 hw84 => ?_
      have hsz_b13 := hs83
      have hA85 := Apart.new (Lt.own hO77) hs83
      have hA86 := Apart.new (Lt.own hO78) hs83
      have hA87 := Apart.new (Lt.blk hB79) hs83
      have hA88 := Apart.new (Lt.own hOo2) hs83
      have hG89 := Ge.new hE76 hs83
      have hE90 := hE76.then hw84
      have hO91 := hO77.evo0 hw84
      have hO92 := hO78.evo0 hw84
      have hB93 := hw84.blk0 hB79
      have hO94 := hOo2.evo0 hw84
      refine wl_storeBlk rfl rfl Try.size44 hB82 rfl rfl ⟨by first | rfl | assumption, by first | rfl | assumption, by first | rfl | assumption, by first | rfl | assumption, by first | rfl | assumption, trivial⟩ fun w95 hB96 hw97 => ?_
      have hE98 := hE90.step hw97 hG89.mem1
      have hO99 := hO91.evo hw97 hA85.own1
      have hO100 := hO92.evo hw97 hA86.own1
      have hB101 := hw97.blk hB93 hA87.nmem1
      have hO102 := hO94.evo hw97 hA88.own1
      try simp only [List.setIfInBounds_toArray, List.set_cons_zero, List.set_cons_succ, Nat.reduceAdd, Nat.zero_add, Nat.add_zero] at hB96
      refine wl_nil (nrm_then ?_)
      refine cw_seq ?_
      refine cw_region ?_
      refine wl_val rfl (ex_loadBlk rfl Try.agg44 Try.size44 hB96 rfl) ?_
      refine wl_m ?_
      refine wl_m ?_
      refine wl_call1 (vs := [_, _, _]) Try.goes36 rfl (goes_ok s l[ls[k]] i hi hs hrr.cell) rfl ?_
      rintro _ w103 ⟨rfl, hw104⟩
      have hE105 := hE98.then hw104
      have hO106 := hO99.evo0 hw104
      have hO107 := hO100.evo0 hw104
      have hB108 := hw104.blk0 hB101
      have hO109 := hO102.evo0 hw104
      have hB110 := hw104.blk0 hB96
      refine wl_nil (nrm_then ?_)
      refine cw_if rfl (fun hc57 => ?_) (fun hc57 => ?_)
      ·skip
       refine cw_seq ?_
       refine cw_region ?_
       refine wl_m ?_
       refine wl_val rfl (ex_fieldAddr rfl Try.fld44_1) ?_
       refine wl_val rfl (ex_load1 rfl Try.agg3 (cell_nth hB110 rfl)) ?_
       refine wl_bslice (vs := [_]) rfl Try.slice46 rfl rfl rfl rfl fun b111 w112 hO113 hs114 hw115 => ?_
       have hA116 := Apart.new (Lt.own hO106) hs114
       have hA117 := Apart.new (Lt.own hO107) hs114
       have hA118 := Apart.new (Lt.blk hB108) hs114
       have hA119 := Apart.new (Lt.own hO109) hs114
       have hA120 := Apart.new (Lt.blk hB110) hs114
       have hG121 := Ge.new hE105 hs114
       have hE122 := hE105.then hw115
       have hO123 := hO106.evo0 hw115
       have hO124 := hO107.evo0 hw115
       have hB125 := hw115.blk0 hB108
       have hO126 := hO109.evo0 hw115
       have hB127 := hw115.blk0 hB110
       have hsza := (hE122).size
       refine wl_append rfl rfl rfl rfl Try.app46_46 hO123 (Src.ofOwn hO113 ⟨by first | rfl | assumption, trivial⟩) (by omega) fun la2 lc2 w130 lo2 hLo2 hw133 hob134 => ?_
       have hA135 := ha2.symm.app (Lt.own hO124) hob134
       have hA136 := ha4.app (Lt.blk hB125) hob134
       have hA137 := hA71.symm.app (Lt.own hO126) hob134
       have hA138 := hA85.symm.app (Lt.blk hB127) hob134
       have hA139 := hA116.symm.app (Lt.own hO113) hob134
       have hE140 := hE122.step hw133 (ob_mem hhl)
       have hO141 := hO124.evo hw133 ha2.symm.own
       have hB142 := hw133.blk hB125 ha4.nmem
       have hO143 := hO126.evo hw133 hA71.symm.own
       have hB144 := hw133.blk hB127 hA85.symm.nmem
       have hO145 := hO113.evo hw133 hA116.symm.own
       have hh2 : lo2 = ob ∨ ∃ g, lo2 = some g ∧ w.heap.size ≤ g := by rcases hob134 with h | ⟨g, h1, h2⟩; (rw [h]; exact hhl); exact .inr ⟨g, h1, Nat.le_trans hsza h2⟩
       refine wl_a ?_
       refine wl_nil (nrm_then ?_)
       refine cw_seq ?_
       refine cw_region ?_
       refine wl_val rfl (ex_fieldAddr rfl Try.fld44_0) ?_
       refine wl_val rfl (ex_load1 rfl Try.agg3 (cell_nth hB144 rfl)) ?_
       refine wl_val rfl (ex_eql rfl rfl) ?_
       refine wl_nil (nrm_then ?_)
       refine cw_if rfl (fun hc65 => ?_) (fun hc65 => ?_)
       ·skip
        refine cw_region ?_
        refine wl_m ?_
        refine wl_val rfl (ex_fieldAddr rfl Try.fld44_2) ?_
        refine wl_val rfl (ex_load1 rfl Try.agg3 (cell_nth hB144 rfl)) ?_
        refine wl_bslice (vs := [_]) rfl Try.slice46 rfl rfl rfl rfl fun b146 w147 hO148 hs149 hw150 => ?_
        have hA151 := Apart.new (Lt.own hO141) hs149
        have hA152 := Apart.new (Lt.blk hB142) hs149
        have hA153 := Apart.new (Lt.own hO143) hs149
        have hA154 := Apart.new (Lt.blk hB144) hs149
        have hA155 := Apart.new (Lt.own hLo2) hs149
        have hG156 := Ge.new hE140 hs149
        have hE157 := hE140.then hw150
        have hO158 := hO141.evo0 hw150
        have hB159 := hw150.blk0 hB142
        have hO160 := hO143.evo0 hw150
        have hB161 := hw150.blk0 hB144
        have hO162 := hLo2.evo0 hw150
        have hszb := (hE157).size
        refine wl_append rfl rfl rfl rfl Try.app46_46 hO162 (Src.ofOwn hO148 ⟨by first | rfl | assumption, trivial⟩) (by omega) fun la3 lc3 w165 lo3 hLo3 hw168 hob169 => ?_
        have hA170 := hA135.app (Lt.own hO158) hob169
        have hA171 := hA136.app (Lt.blk hB159) hob169
        have hA172 := hA137.app (Lt.own hO160) hob169
        have hA173 := hA138.app (Lt.blk hB161) hob169
        have hA174 := hA155.symm.app (Lt.own hO148) hob169
        have hE175 := hE157.step hw168 (ob_mem hh2)
        have hO176 := hO158.evo hw168 hA135.own
        have hB177 := hw168.blk hB159 hA136.nmem
        have hO178 := hO160.evo hw168 hA137.own
        have hB179 := hw168.blk hB161 hA138.nmem
        have hO180 := hO148.evo hw168 hA155.symm.own
        have hh3 : lo3 = ob ∨ ∃ g, lo3 = some g ∧ w.heap.size ≤ g := by rcases hob169 with h | ⟨g, h1, h2⟩; (rw [h]; exact hh2); exact .inr ⟨g, h1, Nat.le_trans hszb h2⟩
        refine wl_a ?_
        refine wl_nil (nrm_block (nrm_then ?_))
        refine cw_region ?_
        refine wl_m ?_
        refine wl_val rfl (ex_add_i64 rfl rfl (by omega) (by omega)) ?_
        refine wl_a ?_
        refine wl_nil (nrm_same ?_)
        refine ⟨⟨k + 1, ls ++ [l[ls[k]].out.toNat, l[ls[k]].alt.toNat], ln + 1 + 1, la3, lc3, lo3, out ++ [ls[k]], on + 1, oa2, oc2, oo2⟩, ?_, ⟨rfl, rfl, rfl, trivial⟩, ⟨rfl, rfl, rfl, rfl, trivial⟩, hE175, ?_⟩
        · (try dsimp only); have := hsi.bound; have := hsi.olen; omega
        ·skip
         try dsimp only
         have hgo : GoesB s l[ls[k]] i := hc57
         have hop := goes_ops hgo
         have hout := hrg.eps hop
         have halt := hrg.alt hc65
         have hm : (l[ls[k]].out.toNat : Int) = l[ls[k]].out := by omega
         have hm2 : (l[ls[k]].alt.toNat : Int) = l[ls[k]].alt := by omega
         have hmore : ∀ q, q ∈ [l[ls[k]].out.toNat, l[ls[k]].alt.toNat] ↔ EpsB l s i ls[k] q := fun q => by rw [eps_at hc0, List.mem_cons, List.mem_singleton]; constructor; (rintro (h | h); exact ⟨hgo, .inl (by omega)⟩; exact ⟨hgo, .inr ⟨hc65, by omega⟩⟩); (rintro ⟨-, h | ⟨-, h⟩⟩; left; omega; right; omega)
         have hO2' : OwnS w165 3 1 oa2 (on + 1) oc2 (ivs (out ++ [ls[k]])) oo2 := by have h := hO178; rw [show ivs (out ++ [ls[k]]) = ivs out ++ [iv (ls[k] : Nat)] from by simp [ivs]]; exact h
         have hL2' : OwnS w165 3 1 la3 (ln + 1 + 1) lc3 (ivs (ls ++ [l[ls[k]].out.toNat, l[ls[k]].alt.toNat])) lo3 := by have h := hLo3; rw [show ivs (ls ++ [l[ls[k]].out.toNat, l[ls[k]].alt.toNat]) = (ivs ls ++ [iv l[ls[k]].out]) ++ [iv l[ls[k]].alt] from by simp [ivs, hm, hm2]]; exact h
         have h1 := hsi.take hk' hc41 (by simp) hmore (fun q h => by rw [List.mem_cons, List.mem_singleton] at h; omega)
         exact ⟨h1, by show ln + 1 + 1 = (ls ++ [_, _]).length; rw [List.length_append, hln]; rfl, by show on + 1 = (out ++ [_]).length; rw [List.length_append, hon]; rfl, hL2', hO2', hO176, hB177, hA172.symm, hA170.symm, hA72.symm, hA171, hA73, ha6, hh3, hG75, hgs, hnz2⟩
       ·skip
        refine cw_skip (nrm_block (nrm_then ?_))
        refine cw_region ?_
        refine wl_m ?_
        refine wl_val rfl (ex_add_i64 rfl rfl (by omega) (by omega)) ?_
        refine wl_a ?_
        refine wl_nil (nrm_same ?_)
        refine ⟨⟨k + 1, ls ++ [l[ls[k]].out.toNat], ln + 1, la2, lc2, lo2, out ++ [ls[k]], on + 1, oa2, oc2, oo2⟩, ?_, ⟨rfl, rfl, rfl, trivial⟩, ⟨rfl, rfl, rfl, rfl, trivial⟩, hE140, ?_⟩
        · (try dsimp only); have := hsi.bound; have := hsi.olen; omega
        ·skip
         try dsimp only
         have hgo : GoesB s l[ls[k]] i := hc57
         have hop := goes_ops hgo
         have hout := hrg.eps hop
         have hm : (l[ls[k]].out.toNat : Int) = l[ls[k]].out := by omega
         have hmore : ∀ q, q ∈ [l[ls[k]].out.toNat] ↔ EpsB l s i ls[k] q := fun q => by rw [eps_at hc0, List.mem_singleton]; constructor; (intro h; exact ⟨hgo, .inl (by omega)⟩); (rintro ⟨-, h | ⟨h, -⟩⟩; omega; omega)
         have hO2' : OwnS w130 3 1 oa2 (on + 1) oc2 (ivs (out ++ [ls[k]])) oo2 := by have h := hO143; rw [show ivs (out ++ [ls[k]]) = ivs out ++ [iv (ls[k] : Nat)] from by simp [ivs]]; exact h
         have hL2' : OwnS w130 3 1 la2 (ln + 1) lc2 (ivs (ls ++ [l[ls[k]].out.toNat])) lo2 := by have h := hLo2; rw [show ivs (ls ++ [l[ls[k]].out.toNat]) = ivs ls ++ [iv l[ls[k]].out] from by simp [ivs, hm]]; exact h
         have h1 := hsi.take hk' hc41 (by simp) hmore (fun q h => by rw [List.mem_singleton] at h; omega)
         exact ⟨h1, by show ln + 1 = (ls ++ [_]).length; rw [List.length_append, hln]; rfl, by show on + 1 = (out ++ [_]).length; rw [List.length_append, hon]; rfl, hL2', hO2', hO141, hB142, hA137.symm, hA135.symm, hA72.symm, hA136, hA73, ha6, hh2, hG75, hgs, hnz2⟩
      ·skip
       refine cw_skip (nrm_block (nrm_then ?_))
       refine cw_region ?_
       refine wl_m ?_
       refine wl_val rfl (ex_add_i64 rfl rfl (by omega) (by omega)) ?_
       refine wl_a ?_
       refine wl_nil (nrm_same ?_)
       refine ⟨⟨k + 1, ls, ln, la, lc, lo, out ++ [ls[k]], on + 1, oa2, oc2, oo2⟩, ?_, ⟨rfl, rfl, rfl, trivial⟩, ⟨rfl, rfl, rfl, rfl, trivial⟩, hE105, ?_⟩
       · (try dsimp only); have := hsi.bound; have := hsi.olen; omega
       ·skip
        try dsimp only
        have hmore : ∀ q, q ∈ ([] : List Nat) ↔ EpsB l s i ls[k] q := fun q => by rw [eps_at hc0]; exact ⟨fun h => (by cases h), fun h => (hc57 h.1).elim⟩
        have hO2' : OwnS w103 3 1 oa2 (on + 1) oc2 (ivs (out ++ [ls[k]])) oo2 := by have h := hO109; rw [show ivs (out ++ [ls[k]]) = ivs out ++ [iv (ls[k] : Nat)] from by simp [ivs]]; exact h
        have h1 := hsi.take hk' hc41 (by simp) hmore (fun q h => by cases h)
        rw [List.append_nil] at h1
        exact ⟨h1, hln, by show on + 1 = (out ++ [_]).length; rw [List.length_append, hon]; rfl, hO106, hO2', hO107, hB108, hA71, ha2, hA72.symm, ha4, hA73, ha6, hhl, hG75, hgs, hnz2⟩
  ·skip
   refine cw_exit (ex_then (ex_then (ex_here (nrm_then ?_))))
   refine cw_seq ?_
   refine cw_region ?_
   refine wl_m ?_
   refine wl_a ?_
   refine wl_nil (nrm_then ?_)
   refine cw_ret (body_ret1 rfl rfl ?_)
   subst hon
   exact ⟨_, _, _, out, rfl, hnz, hoo, hV34, hgo, hsi.stop (by omega), hsi.olen, fun q hq => hsi.rng q (hsi.sub q hq)⟩

end Go.Proofs.Ytgboffefbpligaa
