/- The walk of the reference's Run: the search that goes back on its steps. -/
import Derived.Test.YtopjnoblhleimaaRp
namespace Go.Proofs.Ytopjnoblhleimaa
open Go.Proofs
open Go.W
attribute [local irreducible] Decidable.decide
set_option linter.unusedSimpArgs false
set_option linter.unusedVariables false
theorem Try.agg25 : aggB Try.prog 25 = some true := by kernel_rfl
theorem Try.agg4 : aggB Try.prog 4 = some false := by kernel_rfl
theorem Try.agg58 : aggB Try.prog 58 = some true := by kernel_rfl
theorem Try.app33_33 : appB Try.prog 33 33 = some (3, 1, 8) := by kernel_rfl
theorem Try.app59_59 : appB Try.prog 59 59 = some (58, 4, 32) := by kernel_rfl
theorem Try.build58 : Build Try.prog 58 #[(0, 1), (1, 1), (2, 1), (3, 1)] #[.int .i64 0, .int .i64 0, .int .i64 0, .int .i64 0] := ⟨_, .agg #[.int .i64 0, .int .i64 0, .int .i64 0, .int .i64 0], Try.underlying58, by kernel_rfl, rfl, fun w => by kernel_rfl⟩
theorem Try.elem33 : elemB Try.prog 33 = some 1 := by kernel_rfl
theorem Try.elem56 : elemB Try.prog 56 = some 1 := by kernel_rfl
theorem Try.elem59 : elemB Try.prog 59 = some 4 := by kernel_rfl
theorem Try.fld58_0 : fieldB Try.prog 58 0 = some 0 := by kernel_rfl
theorem Try.fld58_1 : fieldB Try.prog 58 1 = some 1 := by kernel_rfl
theorem Try.fld58_2 : fieldB Try.prog 58 2 = some 2 := by kernel_rfl
theorem Try.fld58_3 : fieldB Try.prog 58 3 = some 3 := by kernel_rfl
theorem Try.goes29 : Goes Try.prog 29 := ⟨_, Try.func29, by kernel_rfl, by kernel_rfl⟩
theorem Try.goes30 : Goes Try.prog 30 := ⟨_, Try.func30, by kernel_rfl, by kernel_rfl⟩
theorem Try.goes31 : Goes Try.prog 31 := ⟨_, Try.func31, by kernel_rfl, by kernel_rfl⟩
theorem Try.goes7 : Goes Try.prog 7 := ⟨_, Try.func7, by kernel_rfl, by kernel_rfl⟩
theorem Try.make56 : makeB Try.prog 56 = some (4, 1, 1, #[.bool false]) := by kernel_rfl
theorem Try.size25 : sizeB Try.prog 25 = some 4 := by kernel_rfl
theorem Try.size4 : sizeB Try.prog 4 = some 1 := by kernel_rfl
theorem Try.size58 : sizeB Try.prog 58 = some 4 := by kernel_rfl
theorem Try.slice33 : sliceB Try.prog 33 = some (3, 1) := by kernel_rfl
theorem Try.slice59 : sliceB Try.prog 59 = some (58, 4) := by kernel_rfl
theorem Try.zero58 : zeroB Try.prog 58 = some #[.int .i64 0, .int .i64 0, .int .i64 0, .int .i64 0] := by kernel_rfl

set_option maxHeartbeats 4000000 in
theorem refRun_ok {X : List Nat} {w : World} {vs : List Value} {p : Prg} (hp : RPrg X w vs p) (s : ByteArray) (hs : s.size ≤ 2097152) :
    Calls Try.prog 12 #[.agg vs.toArray, .string s] w (Ret fun v w' => ∃ a n c l ob, v = .slice a n c ∧ OwnS w' 3 1 a n c (List.map iv l) ob ∧ Ge w ob ∧ RunIs p s l ∧ Evo [] w w') := by
  have hp0 := hp
  obtain ⟨hok, pi0, pn0, rfl, hiv, hnv⟩ := hp
  have hst := hok.start
  have hgr := hok.groups
  have hil := hok.ilen
  have hnl := hok.nlen
  obtain ⟨a3, c3, rfl, hl3, e3⟩ := hiv
  obtain ⟨a4, c4, rfl, hl4, e4⟩ := hnv
  refine calls_of_cw (N := 192) Try.func12 rfl rfl rfl ?_
  refine cw_seq ?_
  refine cw_region ?_
  refine wl_boxA rfl rfl fun b1 w2 hB3 hs4 hw5 => ?_
  have hG6 := Ge.new (Evo.refl [] w) hs4
  have hE7 := (Evo.refl [] w).then hw5
  refine wl_val rfl (ex_assign rfl) ?_
  refine wl_nil (nrm_then ?_)
  refine cw_seq ?_
  refine cw_seq ?_
  refine cw_region ?_
  refine wl_val rfl (ex_loadBlk rfl Try.agg25 Try.size25 hB3 rfl) ?_
  refine wl_call1 (vs := [_]) Try.goes7 rfl (rSound_ok (p := p) (RPrg.pers _ _ _ _ _ ((hE7).any X) hp0)) rfl ?_
  rintro _ w8 ⟨bi, rfl, hbi, hw9⟩
  have hE10 := hE7.then hw9
  have hB11 := hw9.blk0 hB3
  refine wl_val rfl (ex_notb rfl) ?_
  refine wl_nil (nrm_then ?_)
  refine cw_ifb rfl (fun hc16 => ?_) (fun hc16 => ?_)
  · skip
    refine cw_seq ?_
    refine cw_region ?_
    refine wl_val rfl (ex_assign rfl) ?_
    refine wl_nil (nrm_then ?_)
    refine cw_ret (ret_then (body_ret1 rfl rfl ?_))
    exact ⟨none, 0, 0, [], none, rfl, OwnS.nil _ _ _, Ge.nil _, .inl ⟨fun h => (by rw [hbi.2 h] at hc16; cases hc16), rfl⟩, hE10⟩
  · skip
    have hsp : SoundP p := hbi.1 (by simpa using hc16)
    obtain ⟨hh1, hh2, hh3, hh4, hh5, hh6, hh7⟩ := hsp.1
    have hN : ((nSlots p : Nat) : Int) = 2 * (p.groups + 1) := by unfold nSlots; omega
    obtain ⟨N, hNN⟩ : ∃ N, nSlots p = N := ⟨_, rfl⟩
    rw [hNN] at hN
    obtain ⟨M, hM⟩ : ∃ M, M = p.insts.length * (s.size + 1) := ⟨_, rfl⟩
    have hMi : ((p.insts.length : Nat) : Int) * (((s.size : Nat) : Int) + 1) = (M : Nat) := by rw [hM]; simp
    have hMb : M ≤ 10000 * 2097153 := by rw [hM]; exact Nat.mul_le_mul (by omega) (by omega)
    refine cw_skip (nrm_then ?_)
    refine cw_seq ?_
    refine cw_region ?_
    refine wl_val rfl (ex_assign rfl) ?_
    refine wl_nil (nrm_then ?_)
    refine cw_seq ?_
    refine cw_seq ?_
    refine cw_region ?_
    refine wl_val rfl (ex_assign rfl) ?_
    refine wl_nil (nrm_then ?_)
    refine cw_block ?_
    refine cw_loop (α := Nat × Option Addr × Nat × Option Nat) ((0, none, 0, none)) (fun x => [(6, .int .i64 (x.1 : Nat)), (5, .slice x.2.1 x.1 x.2.2.1)]) [(1, _), (2, _), (4, _)] (fun x wr => Evo [] w wr ∧ (x.1 ≤ N ∧ OwnS wr 3 1 x.2.1 x.1 x.2.2.1 (List.replicate x.1 (iv (-1))) x.2.2.2 ∧ Ge w x.2.2.2 ∧ wr.heap[b1]? = some (.cells #[.slice a3 p.insts.length c3, iv p.start, iv p.groups, .slice a4 p.names.length c4] 25 (0, 0)) ∧ Apart (some b1) x.2.2.2)) (fun x => N - x.1) ⟨rfl, rfl, trivial⟩ ⟨rfl, rfl, rfl, trivial⟩ ⟨hE10, ⟨Nat.zero_le _, OwnS.nil _ _ _, Ge.nil _, hB11, Apart.nil _⟩⟩ ?_
    rintro ⟨k, a, c5, ob⟩ wr12 ⟨hV13, ⟨hk, hS, hgS, hP, hpS⟩⟩
    show CW _ _ _ _ [(6, .int .i64 (k : Nat)), (5, .slice a k c5), (1, _), (2, _), (4, _)] _
    try dsimp only at hk
    try dsimp only at hS
    try dsimp only at hgS
    try dsimp only at hP
    try dsimp only at hpS
    refine cw_seq ?_
    refine cw_seq ?_
    refine cw_region ?_
    refine wl_val rfl (ex_move rfl) ?_
    refine wl_val rfl (ex_fieldAddr rfl Try.fld25_2) ?_
    refine wl_val rfl (ex_load1 rfl Try.agg3 (cell_nth hP rfl)) ?_
    refine wl_val rfl (ex_add_i64 rfl rfl (by omega) (by omega)) ?_
    refine wl_val rfl (ex_mul_i64 rfl rfl (by omega) (by omega)) ?_
    refine wl_val rfl (ex_lss rfl rfl) ?_
    refine wl_nil (nrm_then ?_)
    refine cw_if rfl (fun hc22 => ?_) (fun hc22 => ?_)
    · skip
      refine cw_skip (nrm_then ?_)
      refine cw_seq ?_
      refine cw_block ?_
      refine cw_region ?_
      refine wl_val rfl (ex_move rfl) ?_
      refine wl_bslice (vs := [_]) rfl Try.slice33 rfl rfl rfl rfl fun b14 w15 hO16 hs17 hw18 => ?_
      have hA19 := Apart.new (Lt.blk hP) hs17
      have hA20 := Apart.new (Lt.own hS) hs17
      have hG21 := Ge.new hV13 hs17
      have hE22 := hV13.then hw18
      have hB23 := hw18.blk0 hP
      have hO24 := hS.evo0 hw18
      refine wl_append rfl rfl rfl rfl Try.app33_33 hO24 (Src.ofOwn hO16 ⟨by first | rfl | assumption, trivial⟩) (by omega) fun a1 c1 w27 ob1 hS1 hw30 hob31 => ?_
      have hA32 := hpS.app (Lt.blk hB23) hob31
      have hA33 := hA20.symm.app (Lt.own hO16) hob31
      have hG34 := hgS.app hE22 hob31
      have hE35 := hE22.step hw30 hgS.mem
      have hB36 := hw30.blk hB23 hpS.nmem
      have hO37 := hO16.evo hw30 hA20.symm.own
      refine wl_val rfl (ex_assign rfl) ?_
      refine wl_nil (nrm_block (nrm_then ?_))
      refine cw_region ?_
      refine wl_val rfl (ex_move rfl) ?_
      refine wl_val rfl (ex_add_i64 rfl rfl (by omega) (by omega)) ?_
      refine wl_val rfl (ex_assign rfl) ?_
      refine wl_nil (nrm_then ?_)
      refine ⟨(k + 1, a1, c1, ob1), ?_, ⟨rfl, rfl, trivial⟩, ⟨rfl, rfl, rfl, trivial⟩, hE35, ?_⟩
      · (try dsimp only); omega
      · skip
        try dsimp only
        refine ⟨by omega, by rw [List.replicate_succ']; exact hS1, hG34, hB36, hA32⟩
    · skip
      have hkN : N = k := by omega
      subst hkN
      obtain ⟨g5, e5, e6, -⟩ := hS.cells (by omega)
      subst e5 e6
      rw [← List.map_replicate (f := iv) (a := (-1 : Int)), ← slotsOf_nil] at hS
      refine cw_exit (ex_then (ex_then (ex_here (nrm_then ?_))))
      refine cw_seq ?_
      refine cw_region ?_
      refine wl_val rfl (ex_fieldAddr rfl Try.fld25_0) ?_
      refine wl_val rfl (ex_load1 rfl Try.agg22 (cell_nth hP rfl)) ?_
      refine wl_val rfl (ex_len_slice rfl Try.underlying22 rfl) ?_
      refine wl_val rfl (ex_move rfl) ?_
      refine wl_val rfl (ex_len_str rfl Try.underlying9 rfl) ?_
      refine wl_val rfl (ex_add_i64 rfl rfl (by omega) (by omega)) ?_
      refine wl_val rfl (ex_mul_i64 rfl rfl (by rw [hMi]; omega) (by rw [hMi]; omega)) ?_
      refine wl_make (len := M) (c := M) rfl rfl rfl Try.make56 (by exact hMi) (by exact hMi) (by omega) (by decide) (by omega) (by omega) fun bT w39 hT0 hs41 hw42 => ?_
      have hA43 := Apart.new (Lt.blk hP) hs41
      have hA44 := Apart.new (Lt.own hS) hs41
      have hG45 := Ge.new hV13 hs41
      have hE46 := hV13.then hw42
      have hB47 := hw42.blk0 hP
      have hO48 := hS.evo0 hw42
      rw [cellsW_zero p.insts.length M] at hT0
      refine wl_val rfl (ex_assign rfl) ?_
      refine wl_nil (nrm_then ?_)
      refine cw_seq ?_
      refine cw_region ?_
      refine wl_val rfl (ex_fieldAddr rfl Try.fld25_1) ?_
      refine wl_val rfl (ex_load1 rfl Try.agg3 (cell_nth hB47 rfl)) ?_
      refine wl_val rfl (ex_build (vs := [(0, _), (1, _), (2, _), (3, _)]) Try.build58 rfl (cells := [_, _, _, _]) rfl) ?_
      refine wl_bslice (vs := [_]) rfl Try.slice59 rfl rfl rfl rfl fun b49 w50 hO51 hs52 hw53 => ?_
      have hA54 := Apart.new (Lt.blk hB47) hs52
      have hA55 := Apart.new (Lt.own hO48) hs52
      have hA56 := Apart.new (Lt.own hT0) hs52
      have hG57 := Ge.new hE46 hs52
      have hE58 := hE46.then hw53
      have hB59 := hw53.blk0 hB47
      have hO60 := hO48.evo0 hw53
      have hO61 := hT0.evo0 hw53
      refine wl_val rfl (ex_assign rfl) ?_
      refine wl_nil (nrm_then ?_)
      refine cw_seq ?_
      refine cw_block ?_
      refine cw_loop (α := List Fr × List (Nat × Nat × Notes) × Wt × List Int × Option Addr × Nat × Option Nat) (([.pt p.start.toNat 0], [(0, p.start.toNat, [])], (fun _ _ => false), slotsOf N [], some ⟨b49, 0, none⟩, 1, some b49)) (fun x => [(8, .slice x.2.2.2.2.1 x.1.length x.2.2.2.2.2.1)]) [(1, _), (2, _), (5, _), (7, _)] (fun x wr => Evo [] w wr ∧ (OwnS wr 58 4 x.2.2.2.2.1 x.1.length x.2.2.2.2.2.1 (frs x.1) x.2.2.2.2.2.2 ∧ OwnS wr 3 1 (some ⟨g5, 0, none⟩) N c5 (x.2.2.2.1.map iv) (some g5) ∧ OwnS wr 4 1 (some ⟨bT, 0, none⟩) M M (cellsW p.insts.length M x.2.2.1) (some bT) ∧ wr.heap[b1]? = some (.cells #[.slice a3 p.insts.length c3, iv p.start, iv p.groups, .slice a4 p.names.length c4] 25 (0, 0)) ∧ x.2.2.2.1.length = N ∧ WFr p s x.2.2.2.1 x.1 x.2.1 ∧ 3 * unt p.insts.length M x.2.2.1 + x.1.length ≤ 3 * M + 1 ∧ (∀ r W', Dr (mvOf p s) (nxtOf s) s.size x.2.1 x.2.2.1 r W' → Dr (mvOf p s) (nxtOf s) s.size [(0, p.start.toNat, [])] (fun _ _ => false) r W') ∧ Apart (some b1) x.2.2.2.2.2.2 ∧ Apart (some g5) x.2.2.2.2.2.2 ∧ Apart (some bT) x.2.2.2.2.2.2 ∧ Ge w x.2.2.2.2.2.2)) (fun x => 3 * unt p.insts.length M x.2.2.1 + x.1.length) ⟨rfl, trivial⟩ ⟨rfl, rfl, rfl, rfl, trivial⟩ ⟨hE58, ⟨(by rw [show frs [.pt p.start.toNat 0] = [iv p.start, iv 0, iv 0, iv 0] from by rw [show ([.pt p.start.toNat 0] : List Fr) = .pt p.start.toNat 0 :: [] from rfl, frs_cons, ← row_pt hh3]; rfl]; exact hO51), hO60, hO61, hB59, slotsOf_len _ _, WFr.push rfl (by omega) (Nat.zero_le _) (by rw [hNN]), by have := unt_le p.insts.length M (fun _ _ => false); simp only [List.length_cons, List.length_nil]; omega, fun _ _ h => h, hA54, hA55, hA56, hG57⟩⟩ ?_
      rintro ⟨fr, g, W, sl, a, c, ob⟩ wr62 ⟨hV63, ⟨hK, hS, hT, hP, hsl, hWF, hm, hD, hpk, hsk, htk, hgk⟩⟩
      show CW _ _ _ _ [(8, .slice a fr.length c), (1, _), (2, _), (5, _), (7, _)] _
      try dsimp only at hK
      try dsimp only at hS
      try dsimp only at hT
      try dsimp only at hP
      try dsimp only at hsl
      try dsimp only at hWF
      try dsimp only at hm
      try dsimp only at hD
      try dsimp only at hpk
      try dsimp only at hsk
      try dsimp only at htk
      try dsimp only at hgk
      refine cw_seq ?_
      refine cw_seq ?_
      refine cw_region ?_
      refine wl_val rfl (ex_move rfl) ?_
      refine wl_val rfl (ex_len_slice rfl Try.underlying59 rfl) ?_
      refine wl_val rfl (ex_gtr rfl rfl) ?_
      refine wl_nil (nrm_then ?_)
      refine cw_if rfl (fun hc42 => ?_) (fun hc42 => ?_)
      · skip
        obtain ⟨f, fr1, rfl⟩ := List.exists_cons_of_length_pos (by omega : 0 < fr.length)
        have hfl : (f :: fr1).length = fr1.length + 1 := rfl
        have hK1 := hK
        rw [frs_cons] at hK1
        obtain ⟨gk, ek, ek2, hck⟩ := OwnS.top (m := fr1.length) hK1 rfl
        subst ek ek2
        refine cw_skip (nrm_then ?_)
        refine cw_block ?_
        refine cw_seq ?_
        refine cw_region ?_
        refine wl_val rfl (ex_move rfl) ?_
        refine wl_val rfl (ex_move rfl) ?_
        refine wl_val rfl (ex_len_slice rfl Try.underlying59 rfl) ?_
        refine wl_val rfl (ex_sub_i64 rfl rfl (by omega) (by omega)) ?_
        refine wl_val rfl (ex_indexAddrZ (n := fr1.length) rfl rfl (by omega) Try.elem59 (by omega)) ?_
        refine wl_val rfl (ex_loadA rfl Try.agg58 Try.size58 (vs := f.row) rfl hck) ?_
        refine wl_alloc rfl Try.zero58 fun b64 w65 hB66 hs67 hw68 => ?_
        have hA69 := Apart.new (Lt.blk hP) hs67
        have hA70 := Apart.new (Lt.own hS) hs67
        have hA71 := Apart.new (Lt.own hT) hs67
        have hA72 := Apart.new (Lt.own hK) hs67
        have hG73 := Ge.new hV63 hs67
        have hE74 := hV63.then hw68
        have hB75 := hw68.blk0 hP
        have hO76 := hS.evo0 hw68
        have hO77 := hT.evo0 hw68
        have hO78 := hK.evo0 hw68
        refine wl_storeBlk rfl rfl Try.size58 hB66 rfl rfl ⟨by first | rfl | assumption, by first | rfl | assumption, by first | rfl | assumption, by first | rfl | assumption, trivial⟩ fun w79 hB80 hw81 => ?_
        have hE82 := hE74.step hw81 hG73.mem1
        have hB83 := hw81.blk hB75 hA69.nmem1
        have hO84 := hO76.evo hw81 hA70.own1
        have hO85 := hO77.evo hw81 hA71.own1
        have hO86 := hO78.evo hw81 hA72.own1
        refine wl_nil (nrm_then ?_)
        refine cw_seq ?_
        refine cw_region ?_
        refine wl_val rfl (ex_move rfl) ?_
        refine wl_val rfl (ex_move rfl) ?_
        refine wl_val rfl (ex_len_slice rfl Try.underlying59 rfl) ?_
        refine wl_val rfl (ex_sub_i64 rfl rfl (by omega) (by omega)) ?_
        refine wl_val rfl (ex_ownTo (h := fr1.length) hK1 rfl rfl Try.underlying59 Try.size58 (by omega) (by have := hK1.le; omega)) ?_
        have hK2 := OwnS.pop (m := fr1.length) (xs := frs fr1) (r := f.row) (by rw [← frs_cons]; exact hO86) rfl
        refine wl_val rfl (ex_assign rfl) ?_
        refine wl_nil (nrm_then ?_)
        refine cw_seq ?_
        refine cw_seq ?_
        refine cw_region ?_
        refine wl_val rfl (ex_fieldAddr rfl Try.fld58_0) ?_
        refine wl_val rfl (ex_load1 rfl Try.agg3 (cell_nth hB80 rfl)) ?_
        refine wl_val rfl (ex_lss rfl rfl) ?_
        refine wl_nil (nrm_then ?_)
        refine cw_if rfl (fun hc56 => ?_) (fun hc56 => ?_)
        · skip
          obtain ⟨k, old, rfl, hk2, hwf⟩ := hWF.pop_re hc56
          refine cw_seq ?_
          refine cw_region ?_
          refine wl_val rfl (ex_move rfl) ?_
          refine wl_val rfl (ex_fieldAddr rfl Try.fld58_2) ?_
          refine wl_val rfl (ex_load1 rfl Try.agg3 (cell_nth hB80 rfl)) ?_
          refine wl_val rfl (ex_fieldAddr rfl Try.fld58_3) ?_
          refine wl_val rfl (ex_load1 rfl Try.agg3 (cell_nth hB80 rfl)) ?_
          refine wl_val rfl (ex_indexAddr (n := k) rfl rfl Try.elem33 (by omega)) ?_
          obtain ⟨g96, cur87, hg88, hx89, hcu90, hcs91, -⟩ := hO84.at (by omega)
          cases hx89
          refine wl_store1L rfl rfl (rfl) Try.size3 hcu90 (hO84.inb hcs91 (k := k) (j := 0) (by omega) (by omega) (by omega)) fun w92 hB93 hw94 => ?_
          replace hw94 := evo_ob hg88 hw94
          have hO95 := hO84.set' hg88 hcu90 hB93
          have hE97 := hE82.step hw94 hgS.mem
          have hB98 := hw94.blk hB83 hpS.nmem
          have hO99 := hO85.evo hw94 hA44.symm.own
          have hO100 := hK2.evo hw94 hsk.symm.own
          have hB101 := hw94.blk hB80 hA70.symm.nmem
          have hS2 : OwnS w92 3 1 (some ⟨g5, 0, none⟩) N c5 ((List.map iv sl).set (0 + k * 1) (iv old)) (some g5) := hO95
          rw [show 0 + k * 1 = k by omega, ← List.map_set] at hS2
          refine wl_nil (nrm_then ?_)
          refine cw_exit (ex_then (ex_here (nrm_then ?_)))
          refine ⟨(fr1, g, W, sl.set k old, some ⟨gk, 0, none⟩, c, some gk), ?_, ⟨rfl, trivial⟩, ⟨rfl, rfl, rfl, rfl, trivial⟩, hE97, ?_⟩
          · (try dsimp only); first | omega | (simp only [List.length_cons]; omega) | (simp only [List.length_cons] at *; omega)
          · skip
            try dsimp only
            refine ⟨hO100, hS2, hO99, hB98, by rw [List.length_set]; exact hsl, hwf, by omega, hD, hpk, hsk, htk, hgk⟩
        · skip
          obtain ⟨i, pa, t, g1, rfl, rfl, hi, ha, hsl2, hwf⟩ := hWF.pop_pt hc56
          have hpt : pa * p.insts.length + i < M := by rw [hM]; exact point_lt ha hi
          have hmul : ((pa : Nat) : Int) * ((p.insts.length : Nat) : Int) = ((pa * p.insts.length : Nat) : Int) := by simp
          refine cw_skip (nrm_then ?_)
          refine cw_seq ?_
          refine cw_region ?_
          refine wl_val rfl (ex_fieldAddr rfl Try.fld58_1) ?_
          refine wl_val rfl (ex_load1 (v := iv (pa : Nat)) rfl Try.agg3 (cell_nth hB80 rfl)) ?_
          refine wl_val rfl (ex_fieldAddr rfl Try.fld25_0) ?_
          refine wl_val rfl (ex_load1 rfl Try.agg22 (cell_nth hB83 rfl)) ?_
          refine wl_val rfl (ex_len_slice rfl Try.underlying22 rfl) ?_
          refine wl_val rfl (ex_mul_i64 rfl rfl (by rw [hmul]; omega) (by rw [hmul]; omega)) ?_
          refine wl_val rfl (ex_fieldAddr rfl Try.fld58_0) ?_
          refine wl_val rfl (ex_load1 (v := iv (i : Nat)) rfl Try.agg3 (cell_nth hB80 rfl)) ?_
          refine wl_val rfl (ex_add_i64 rfl rfl (by rw [hmul]; omega) (by rw [hmul]; omega)) ?_
          refine wl_val rfl (ex_assign rfl) ?_
          refine wl_nil (nrm_then ?_)
          refine cw_seq ?_
          refine cw_seq ?_
          refine cw_region ?_
          refine wl_val rfl (ex_move rfl) ?_
          refine wl_val rfl (ex_move rfl) ?_
          refine wl_val rfl (ex_indexAddrZ (n := pa * p.insts.length + i) rfl rfl (by rw [hmul]; omega) Try.elem56 (by omega)) ?_
          refine wl_val rfl (ex_load1 rfl Try.agg4 (hO85.get1 (cellsW_get hi hpt))) ?_
          refine wl_nil (nrm_then ?_)
          refine cw_ifb rfl (fun hc75 => ?_) (fun hc75 => ?_)
          · skip
            refine cw_exit (ex_then (ex_here (nrm_then ?_)))
            refine ⟨(fr1, g1, W, sl, some ⟨gk, 0, none⟩, c, some gk), ?_, ⟨rfl, trivial⟩, ⟨rfl, rfl, rfl, rfl, trivial⟩, hE82, ?_⟩
            · (try dsimp only); first | omega | (simp only [List.length_cons]; omega) | (simp only [List.length_cons] at *; omega)
            · skip
              try dsimp only
              refine ⟨hK2, hO84, hO85, hB83, hsl, hwf, by first | omega | (simp only [List.length_cons] at *; omega), fun r W' h => hD r W' (.seen hc75 h), hpk, hsk, htk, hgk⟩
          · skip
            have hsi := hsp.2 i hi hi
            have hmv := mvOf_at (p := p) (s := s) (a := pa) hi
            obtain ⟨b1, o1, vs1, ha1, -, -, hc1, hr1⟩ := e3 i hi
            generalize p.insts[i] = ci at hsi hmv hr1
            obtain ⟨hi1, rv1, rfl, hr2⟩ := hr1
            obtain ⟨n1, n2, n3, n4, n5, n6, n7, n8, n9, n10⟩ := hsi.1
            have hci := hi1.len
            have hrv := hr2.one
            have hnw := next_w s pa
            refine cw_skip (nrm_then ?_)
            refine cw_seq ?_
            refine cw_region ?_
            refine wl_val rfl (ex_move rfl) ?_
            refine wl_val rfl (ex_move rfl) ?_
            refine wl_val rfl (ex_indexAddrZ (n := pa * p.insts.length + i) rfl rfl (by rw [hmul]; omega) Try.elem56 (by omega)) ?_
            obtain ⟨g111, cur102, hg103, hx104, hcu105, hcs106, -⟩ := hO85.at (by omega)
            cases hx104
            refine wl_store1L rfl rfl (rfl) Try.size4 hcu105 (hO85.inb hcs106 (k := (pa * p.insts.length + i)) (j := 0) (by omega) (by omega) (by omega)) fun w107 hB108 hw109 => ?_
            replace hw109 := evo_ob hg103 hw109
            have hO110 := hO85.set' hg103 hcu105 hB108
            have hE112 := hE82.step hw109 hG45.mem
            have hB113 := hw109.blk hB83 hA43.nmem
            have hO114 := hO84.evo hw109 hA44.own
            have hO115 := hK2.evo hw109 htk.symm.own
            have hB116 := hw109.blk hB80 hA71.symm.nmem
            have hT2 := hO110
            rw [show 0 + (pa * p.insts.length + i) * 1 = pa * p.insts.length + i by omega, cellsW_set hi] at hT2
            have hum := unt_mark hi hpt hc75
            refine wl_nil (nrm_then ?_)
            refine cw_seq ?_
            refine cw_region ?_
            refine wl_val rfl (ex_fieldAddr rfl Try.fld25_0) ?_
            refine wl_val rfl (ex_load1 rfl Try.agg22 (cell_nth hB113 rfl)) ?_
            refine wl_val rfl (ex_fieldAddr rfl Try.fld58_0) ?_
            refine wl_val rfl (ex_load1 (v := iv (i : Nat)) rfl Try.agg3 (cell_nth hB116 rfl)) ?_
            refine wl_val rfl (ex_indexAddr (n := i) (by rw [ha1]; rfl) rfl Try.elem22 hi) ?_
            refine wl_val rfl (ex_loadA rfl Try.agg29 Try.size29 (vs := [_, _, _, _, _]) rfl (hc1.evo hE112 (by simp))) ?_
            refine wl_alloc rfl Try.zero29 fun b117 w118 hB119 hs120 hw121 => ?_
            have hA122 := Apart.new (Lt.blk hB113) hs120
            have hA123 := Apart.new (Lt.own hO114) hs120
            have hA124 := Apart.new (Lt.own hT2) hs120
            have hA125 := Apart.new (Lt.own hO115) hs120
            have hA126 := Apart.new (Lt.blk hB116) hs120
            have hG127 := Ge.new hE112 hs120
            have hE128 := hE112.then hw121
            have hB129 := hw121.blk0 hB113
            have hO130 := hO114.evo0 hw121
            have hO131 := hT2.evo0 hw121
            have hO132 := hO115.evo0 hw121
            have hB133 := hw121.blk0 hB116
            refine wl_storeBlk rfl rfl Try.size29 hB119 rfl rfl ⟨by first | rfl | assumption, by first | rfl | assumption, by first | rfl | assumption, by first | rfl | assumption, by first | rfl | assumption, trivial⟩ fun w134 hB135 hw136 => ?_
            have hE137 := hE128.step hw136 hG127.mem1
            have hB138 := hw136.blk hB129 hA122.nmem1
            have hO139 := hO130.evo hw136 hA123.own1
            have hO140 := hO131.evo hw136 hA124.own1
            have hO141 := hO132.evo hw136 hA125.own1
            have hB142 := hw136.blk hB133 hA126.nmem1
            refine wl_nil (nrm_then ?_)
            refine cw_seq ?_
            refine cw_seq ?_
            refine cw_region ?_
            refine wl_val rfl (ex_fieldAddr rfl Try.fld29_0) ?_
            refine wl_val rfl (ex_load1 rfl Try.agg3 (cell_nth hB135 rfl)) ?_
            refine wl_val rfl (ex_eql rfl rfl) ?_
            refine wl_val rfl (ex_move rfl) ?_
            refine wl_split (t := 88) rfl (fun hs88 => ?_) (fun hs88 => ?_)
            · skip
              refine wl_go rfl rfl rfl rfl ?_
              refine wl_val rfl (ex_fieldAddr rfl Try.fld58_1) ?_
              refine wl_go rfl rfl rfl rfl ?_
              refine wl_val rfl (ex_load1 (v := iv (pa : Nat)) rfl Try.agg3 (cell_nth hB142 rfl)) ?_
              refine wl_go rfl rfl rfl rfl ?_
              refine wl_val rfl (ex_move rfl) ?_
              refine wl_go rfl rfl rfl rfl ?_
              refine wl_val rfl (ex_len_str rfl Try.underlying9 rfl) ?_
              refine wl_go rfl rfl rfl rfl ?_
              refine wl_val rfl (ex_eql rfl rfl) ?_
              refine wl_val rfl (ex_pick_t rfl rfl) ?_
              refine wl_nil (nrm_then ?_)
              refine cw_if rfl (fun hc94 => ?_) (fun hc94 => ?_)
              · skip
                refine cw_seq ?_
                refine cw_region ?_
                refine wl_val rfl (ex_move rfl) ?_
                refine wl_val rfl (ex_move rfl) ?_
                refine wl_val rfl (ex_move rfl) ?_
                refine wl_val rfl (ex_len_str rfl Try.underlying9 rfl) ?_
                refine wl_val rfl (ex_indexAddr (n := 0) rfl rfl Try.elem33 (by omega)) ?_
                obtain ⟨g152, cur143, hg144, hx145, hcu146, hcs147, -⟩ := hO139.at (by omega)
                cases hx145
                refine wl_store1L rfl rfl (rfl) Try.size3 hcu146 (hO139.inb hcs147 (k := 0) (j := 0) (by omega) (by omega) (by omega)) fun w148 hB149 hw150 => ?_
                replace hw150 := evo_ob hg144 hw150
                have hO151 := hO139.set' hg144 hcu146 hB149
                have hE153 := hE137.step hw150 hgS.mem
                have hB154 := hw150.blk hB138 hpS.nmem
                have hO155 := hO140.evo hw150 hA44.symm.own
                have hO156 := hO141.evo hw150 hsk.symm.own
                have hB157 := hw150.blk hB142 hA70.symm.nmem
                have hB158 := hw150.blk hB135 hA123.symm.nmem
                refine wl_val rfl (ex_indexAddr (n := 1) rfl rfl Try.elem33 (by omega)) ?_
                obtain ⟨g168, cur159, hg160, hx161, hcu162, hcs163, -⟩ := hO151.at (by omega)
                cases hx161
                refine wl_store1L rfl rfl (rfl) Try.size3 hcu162 (hO151.inb hcs163 (k := 1) (j := 0) (by omega) (by omega) (by omega)) fun w164 hB165 hw166 => ?_
                replace hw166 := evo_ob hg160 hw166
                have hO167 := hO151.set' hg160 hcu162 hB165
                have hE169 := hE153.step hw166 hgS.mem
                have hB170 := hw166.blk hB154 hpS.nmem
                have hO171 := hO155.evo hw166 hA44.symm.own
                have hO172 := hO156.evo hw166 hsk.symm.own
                have hB173 := hw166.blk hB157 hA70.symm.nmem
                have hB174 := hw166.blk hB158 hA123.symm.nmem
                refine wl_nil (nrm_then ?_)
                refine cw_seq ?_
                refine cw_region ?_
                refine wl_val rfl (ex_move rfl) ?_
                refine wl_val rfl (ex_assign rfl) ?_
                refine wl_nil (nrm_then ?_)
                refine cw_ret (ret_then (ret_block (ret_then (ret_block (ret_then (body_ret1 rfl rfl ?_))))))
                have e : List.map iv (findOf N s.size (some t)) = ((List.map iv sl).set (0 + 0 * 1) (iv 0)).set (0 + 1 * 1) (iv (s.size : Nat)) := by rw [hsl2, hNN]; simp [findOf, List.map_set]
                exact ⟨_, _, _, findOf N s.size (some t), _, rfl, by rw [e]; exact hO167, hgS, .inr ⟨hsp, some t, W, hD _ _ (.found hc75 (by rw [hmv]; unfold mvI; rw [if_pos hs88]) (by omega)), by rw [hNN]⟩, hE169⟩
              · skip
                refine cw_skip (nrm_then ?_)
                refine cw_seq ?_
                refine cw_region ?_
                refine wl_val rfl (ex_fieldAddr rfl Try.fld29_0) ?_
                refine wl_val rfl (ex_load1 rfl Try.agg3 (cell_nth hB135 rfl)) ?_
                refine wl_nil (nrm_then ?_)
                refine cw_block ?_
                refine cw_seq ?_
                refine cw_region ?_
                refine wl_val rfl (ex_eql rfl rfl) ?_
                refine wl_val rfl (ex_assign rfl) ?_
                refine wl_nil (nrm_then ?_)
                refine cw_if rfl (fun hc120 => ?_) (fun hc120 => ?_)
                · skip
                  have hout : 0 ≤ ci.out ∧ ci.out < p.insts.length := n4 (by omega)
                  refine cw_seq ?_
                  refine cw_region ?_
                  refine wl_val rfl (ex_move rfl) ?_
                  refine wl_val rfl (ex_fieldAddr rfl Try.fld58_1) ?_
                  refine wl_val rfl (ex_load1 (v := iv (pa : Nat)) rfl Try.agg3 (cell_nth hB142 rfl)) ?_
                  refine wl_call1 (vs := [_, _]) Try.goes29 rfl (refNext_ok s pa ha (by omega)) rfl ?_
                  rintro _ w175 ⟨rfl, hw176⟩
                  have hE177 := hE137.then hw176
                  have hB178 := hw176.blk0 hB138
                  have hO179 := hO139.evo0 hw176
                  have hO180 := hO140.evo0 hw176
                  have hO181 := hO141.evo0 hw176
                  have hB182 := hw176.blk0 hB142
                  have hB183 := hw176.blk0 hB135
                  refine wl_val rfl (ex_move rfl) ?_
                  refine wl_val rfl (ex_extract rfl rfl) ?_
                  refine wl_val rfl (ex_extract rfl rfl) ?_
                  refine wl_val rfl (ex_assign rfl) ?_
                  refine wl_val rfl (ex_assign rfl) ?_
                  refine wl_nil (nrm_then ?_)
                  refine cw_seq ?_
                  refine cw_region ?_
                  refine wl_val rfl (ex_move rfl) ?_
                  refine wl_val rfl (ex_gtr rfl rfl) ?_
                  refine wl_val rfl (ex_move rfl) ?_
                  refine wl_split (t := 131) rfl (fun hs131 => ?_) (fun hs131 => ?_)
                  · skip
                    refine wl_go rfl rfl rfl rfl ?_
                    refine wl_val rfl (ex_move rfl) ?_
                    refine wl_go rfl rfl rfl rfl ?_
                    refine wl_val rfl (ex_fieldAddr rfl Try.fld29_4) ?_
                    refine wl_go rfl rfl rfl rfl ?_
                    refine wl_val rfl (ex_load1 rfl Try.agg27 (cell_nth hB183 rfl)) ?_
                    refine wl_go rfl rfl rfl rfl ?_
                    refine wl_call1 (vs := [_, _]) Try.goes30 rfl (inside_ok _ (hr2.evo RRange.pers ((hE177).any X)) (by omega)) rfl ?_
                    rintro _ w184 ⟨rfl, hw185⟩
                    have hE186 := hE177.then hw185
                    have hB187 := hw185.blk0 hB178
                    have hO188 := hO179.evo0 hw185
                    have hO189 := hO180.evo0 hw185
                    have hO190 := hO181.evo0 hw185
                    have hB191 := hw185.blk0 hB182
                    have hB192 := hw185.blk0 hB183
                    refine wl_val rfl (ex_pick_t rfl rfl) ?_
                    refine wl_nil (nrm_then ?_)
                    refine cw_if rfl (fun hc136 => ?_) (fun hc136 => ?_)
                    · skip
                      refine cw_region ?_
                      refine wl_val rfl (ex_move rfl) ?_
                      refine wl_val rfl (ex_fieldAddr rfl Try.fld29_1) ?_
                      refine wl_val rfl (ex_load1 rfl Try.agg3 (cell_nth hB192 rfl)) ?_
                      refine wl_val rfl (ex_fieldAddr rfl Try.fld58_1) ?_
                      refine wl_val rfl (ex_load1 (v := iv (pa : Nat)) rfl Try.agg3 (cell_nth hB191 rfl)) ?_
                      refine wl_val rfl (ex_move rfl) ?_
                      refine wl_val rfl (ex_add_i64 rfl rfl (by omega) (by omega)) ?_
                      rw [show ((pa : Nat) : Int) + (((nextR s pa).2 : Nat) : Int) = ((pa + (nextR s pa).2 : Nat) : Int) from by omega]
                      refine wl_val rfl (ex_build (vs := [(0, _), (1, _), (2, _), (3, _)]) Try.build58 rfl (cells := [_, _, _, _]) rfl) ?_
                      refine wl_bslice (vs := [_]) rfl Try.slice59 rfl rfl rfl rfl fun b193 w194 hO195 hs196 hw197 => ?_
                      have hA198 := Apart.new (Lt.blk hB187) hs196
                      have hA199 := Apart.new (Lt.own hO188) hs196
                      have hA200 := Apart.new (Lt.own hO189) hs196
                      have hA201 := Apart.new (Lt.own hO190) hs196
                      have hA202 := Apart.new (Lt.blk hB191) hs196
                      have hA203 := Apart.new (Lt.blk hB192) hs196
                      have hG204 := Ge.new hE186 hs196
                      have hE205 := hE186.then hw197
                      have hB206 := hw197.blk0 hB187
                      have hO207 := hO188.evo0 hw197
                      have hO208 := hO189.evo0 hw197
                      have hO209 := hO190.evo0 hw197
                      have hB210 := hw197.blk0 hB191
                      have hB211 := hw197.blk0 hB192
                      refine wl_append rfl rfl rfl rfl Try.app59_59 hO209 (Src.ofOwn hO195 ⟨by first | rfl | assumption, by first | rfl | assumption, by first | rfl | assumption, by first | rfl | assumption, trivial⟩) (by omega) fun ak ck w214 obk hKa hw217 hob218 => ?_
                      have hA219 := hpk.app (Lt.blk hB206) hob218
                      have hA220 := hsk.app (Lt.own hO207) hob218
                      have hA221 := htk.app (Lt.own hO208) hob218
                      have hA222 := hA72.symm.app (Lt.blk hB210) hob218
                      have hA223 := hA125.symm.app (Lt.blk hB211) hob218
                      have hA224 := hA201.symm.app (Lt.own hO195) hob218
                      have hG225 := hgk.app hE205 hob218
                      have hE226 := hE205.step hw217 hgk.mem
                      have hB227 := hw217.blk hB206 hpk.nmem
                      have hO228 := hO207.evo hw217 hsk.own
                      have hO229 := hO208.evo hw217 htk.own
                      have hB230 := hw217.blk hB210 hA72.symm.nmem
                      have hB231 := hw217.blk hB211 hA125.symm.nmem
                      have hO232 := hO195.evo hw217 hA201.symm.own
                      refine wl_val rfl (ex_assign rfl) ?_
                      refine wl_nil (nrm_block (nrm_block (nrm_then ?_)))
                      refine ⟨(.pt ci.out.toNat (pa + (nextR s pa).2) :: fr1, (pa + (nextR s pa).2, ci.out.toNat, t) :: g1, (W.lay pa ((W pa).add i)), sl, ak, ck, obk), ?_, ⟨rfl, trivial⟩, ⟨rfl, rfl, rfl, rfl, trivial⟩, hE226, ?_⟩
                      · (try dsimp only); first | omega | (simp only [List.length_cons]; omega) | (simp only [List.length_cons] at *; omega)
                      · skip
                        try dsimp only
                        have hmv2 : mvOf p s pa i = .rune (some ci.out.toNat) := by rw [hmv]; unfold mvI; rw [if_neg (by omega), if_pos hc120, if_pos hc136]
                        refine ⟨(by rw [frs_cons, ← row_pt hout.1]; exact hKa), hO228, hO229, hB227, hsl, hwf.push (by omega) (by omega) hsl2, by first | omega | (simp only [List.length_cons] at *; omega), fun r W' h => hD r W' (.rune hc75 hmv2 (by omega) (nxt_some (by omega)) h), hA219, hA220, hA221, hG225⟩
                    · skip
                      refine cw_skip (nrm_block (nrm_block (nrm_then ?_)))
                      refine ⟨(fr1, g1, (W.lay pa ((W pa).add i)), sl, some ⟨gk, 0, none⟩, c, some gk), ?_, ⟨rfl, trivial⟩, ⟨rfl, rfl, rfl, rfl, trivial⟩, hE186, ?_⟩
                      · (try dsimp only); first | omega | (simp only [List.length_cons]; omega) | (simp only [List.length_cons] at *; omega)
                      · skip
                        try dsimp only
                        have hmv2 : mvOf p s pa i = .rune none := by rw [hmv]; unfold mvI; rw [if_neg (by omega), if_pos hc120, if_neg hc136]
                        refine ⟨hO190, hO188, hO189, hB187, hsl, hwf, by first | omega | (simp only [List.length_cons] at *; omega), fun r W' h => hD r W' (.miss hc75 (.inl hmv2) h), hpk, hsk, htk, hgk⟩
                  · skip
                    refine wl_no rfl rfl rfl rfl rfl rfl ?_
                    refine wl_no rfl rfl rfl rfl rfl rfl ?_
                    refine wl_no rfl rfl rfl rfl rfl rfl ?_
                    refine wl_no rfl rfl rfl rfl rfl rfl ?_
                    refine wl_val rfl (ex_pick_f rfl rfl) ?_
                    refine wl_nil (nrm_then ?_)
                    refine cw_false rfl ?_
                    refine cw_skip (nrm_block (nrm_block (nrm_then ?_)))
                    refine ⟨(fr1, g1, (W.lay pa ((W pa).add i)), sl, some ⟨gk, 0, none⟩, c, some gk), ?_, ⟨rfl, trivial⟩, ⟨rfl, rfl, rfl, rfl, trivial⟩, hE177, ?_⟩
                    · (try dsimp only); first | omega | (simp only [List.length_cons]; omega) | (simp only [List.length_cons] at *; omega)
                    · skip
                      try dsimp only
                      have hmv2 : mvOf p s pa i = .rune (if Inside (nextR s pa).1 ci.rs then some ci.out.toNat else none) := by rw [hmv]; unfold mvI; rw [if_neg (by omega), if_pos hc120]
                      refine ⟨hO181, hO179, hO180, hB178, hsl, hwf, by first | omega | (simp only [List.length_cons] at *; omega), fun r W' h => hD r W' (.miss hc75 (.inr ⟨⟨_, hmv2⟩, .inr (nxt_none (by omega))⟩) h), hpk, hsk, htk, hgk⟩
                · skip
                  refine cw_seq ?_
                  refine cw_region ?_
                  refine wl_val rfl (ex_eql rfl rfl) ?_
                  refine wl_val rfl (ex_assign rfl) ?_
                  refine wl_nil (nrm_then ?_)
                  refine cw_if rfl (fun hc147 => ?_) (fun hc147 => ?_)
                  · skip
                    have hout : 0 ≤ ci.out ∧ ci.out < p.insts.length := n4 (by omega)
                    have halt := n5 hc147
                    refine cw_seq ?_
                    refine cw_region ?_
                    refine wl_val rfl (ex_move rfl) ?_
                    refine wl_val rfl (ex_fieldAddr rfl Try.fld29_2) ?_
                    refine wl_val rfl (ex_load1 rfl Try.agg3 (cell_nth hB135 rfl)) ?_
                    refine wl_val rfl (ex_fieldAddr rfl Try.fld58_1) ?_
                    refine wl_val rfl (ex_load1 (v := iv (pa : Nat)) rfl Try.agg3 (cell_nth hB142 rfl)) ?_
                    refine wl_val rfl (ex_build (vs := [(0, _), (1, _), (2, _), (3, _)]) Try.build58 rfl (cells := [_, _, _, _]) rfl) ?_
                    refine wl_bslice (vs := [_]) rfl Try.slice59 rfl rfl rfl rfl fun b233 w234 hO235 hs236 hw237 => ?_
                    have hA238 := Apart.new (Lt.blk hB138) hs236
                    have hA239 := Apart.new (Lt.own hO139) hs236
                    have hA240 := Apart.new (Lt.own hO140) hs236
                    have hA241 := Apart.new (Lt.own hO141) hs236
                    have hA242 := Apart.new (Lt.blk hB142) hs236
                    have hA243 := Apart.new (Lt.blk hB135) hs236
                    have hG244 := Ge.new hE137 hs236
                    have hE245 := hE137.then hw237
                    have hB246 := hw237.blk0 hB138
                    have hO247 := hO139.evo0 hw237
                    have hO248 := hO140.evo0 hw237
                    have hO249 := hO141.evo0 hw237
                    have hB250 := hw237.blk0 hB142
                    have hB251 := hw237.blk0 hB135
                    refine wl_append rfl rfl rfl rfl Try.app59_59 hO249 (Src.ofOwn hO235 ⟨by first | rfl | assumption, by first | rfl | assumption, by first | rfl | assumption, by first | rfl | assumption, trivial⟩) (by omega) fun ak ck w254 obk hKa hw257 hob258 => ?_
                    have hA259 := hpk.app (Lt.blk hB246) hob258
                    have hA260 := hsk.app (Lt.own hO247) hob258
                    have hA261 := htk.app (Lt.own hO248) hob258
                    have hA262 := hA72.symm.app (Lt.blk hB250) hob258
                    have hA263 := hA125.symm.app (Lt.blk hB251) hob258
                    have hA264 := hA241.symm.app (Lt.own hO235) hob258
                    have hG265 := hgk.app hE245 hob258
                    have hE266 := hE245.step hw257 hgk.mem
                    have hB267 := hw257.blk hB246 hpk.nmem
                    have hO268 := hO247.evo hw257 hsk.own
                    have hO269 := hO248.evo hw257 htk.own
                    have hB270 := hw257.blk hB250 hA72.symm.nmem
                    have hB271 := hw257.blk hB251 hA125.symm.nmem
                    have hO272 := hO235.evo hw257 hA241.symm.own
                    refine wl_val rfl (ex_assign rfl) ?_
                    refine wl_nil (nrm_then ?_)
                    refine cw_region ?_
                    refine wl_val rfl (ex_move rfl) ?_
                    refine wl_val rfl (ex_fieldAddr rfl Try.fld29_1) ?_
                    refine wl_val rfl (ex_load1 rfl Try.agg3 (cell_nth hB271 rfl)) ?_
                    refine wl_val rfl (ex_fieldAddr rfl Try.fld58_1) ?_
                    refine wl_val rfl (ex_load1 (v := iv (pa : Nat)) rfl Try.agg3 (cell_nth hB270 rfl)) ?_
                    refine wl_val rfl (ex_build (vs := [(0, _), (1, _), (2, _), (3, _)]) Try.build58 rfl (cells := [_, _, _, _]) rfl) ?_
                    refine wl_bslice (vs := [_]) rfl Try.slice59 rfl rfl rfl rfl fun b273 w274 hO275 hs276 hw277 => ?_
                    have hA278 := Apart.new (Lt.blk hB267) hs276
                    have hA279 := Apart.new (Lt.own hO268) hs276
                    have hA280 := Apart.new (Lt.own hO269) hs276
                    have hA281 := Apart.new (Lt.blk hB270) hs276
                    have hA282 := Apart.new (Lt.blk hB271) hs276
                    have hA283 := Apart.new (Lt.own hKa) hs276
                    have hG284 := Ge.new hE266 hs276
                    have hE285 := hE266.then hw277
                    have hB286 := hw277.blk0 hB267
                    have hO287 := hO268.evo0 hw277
                    have hO288 := hO269.evo0 hw277
                    have hB289 := hw277.blk0 hB270
                    have hB290 := hw277.blk0 hB271
                    have hO291 := hKa.evo0 hw277
                    refine wl_append rfl rfl rfl rfl Try.app59_59 hO291 (Src.ofOwn hO275 ⟨by first | rfl | assumption, by first | rfl | assumption, by first | rfl | assumption, by first | rfl | assumption, trivial⟩) (by omega) fun ak2 ck2 w294 obk2 hKb hw297 hob298 => ?_
                    have hA299 := hA259.app (Lt.blk hB286) hob298
                    have hA300 := hA260.app (Lt.own hO287) hob298
                    have hA301 := hA261.app (Lt.own hO288) hob298
                    have hA302 := hA262.app (Lt.blk hB289) hob298
                    have hA303 := hA263.app (Lt.blk hB290) hob298
                    have hA304 := hA283.symm.app (Lt.own hO275) hob298
                    have hG305 := hG265.app hE285 hob298
                    have hE306 := hE285.step hw297 hG265.mem
                    have hB307 := hw297.blk hB286 hA259.nmem
                    have hO308 := hO287.evo hw297 hA260.own
                    have hO309 := hO288.evo hw297 hA261.own
                    have hB310 := hw297.blk hB289 hA262.nmem
                    have hB311 := hw297.blk hB290 hA263.nmem
                    have hO312 := hO275.evo hw297 hA283.symm.own
                    refine wl_val rfl (ex_assign rfl) ?_
                    refine wl_nil (nrm_block (nrm_block (nrm_then ?_)))
                    refine ⟨(.pt ci.out.toNat pa :: .pt ci.alt.toNat pa :: fr1, (pa, ci.out.toNat, t) :: (pa, ci.alt.toNat, t) :: g1, (W.lay pa ((W pa).add i)), sl, ak2, ck2, obk2), ?_, ⟨rfl, trivial⟩, ⟨rfl, rfl, rfl, rfl, trivial⟩, hE306, ?_⟩
                    · (try dsimp only); first | omega | (simp only [List.length_cons]; omega) | (simp only [List.length_cons] at *; omega)
                    · skip
                      try dsimp only
                      have hmv2 : mvOf p s pa i = .split ci.out.toNat ci.alt.toNat := by rw [hmv]; unfold mvI; rw [if_neg (by omega), if_neg hc120, if_pos hc147]
                      refine ⟨(by rw [frs_cons, frs_cons, ← row_pt hout.1, ← row_pt halt.1]; exact hKb), hO308, hO309, hB307, hsl, (hwf.push (by omega) ha hsl2).push (by omega) ha hsl2, by first | omega | (simp only [List.length_cons] at *; omega), fun r W' h => hD r W' (.split hc75 hmv2 h), hA299, hA300, hA301, hG305⟩
                  · skip
                    refine cw_seq ?_
                    refine cw_region ?_
                    refine wl_val rfl (ex_eql rfl rfl) ?_
                    refine wl_val rfl (ex_assign rfl) ?_
                    refine wl_nil (nrm_then ?_)
                    refine cw_if rfl (fun hc165 => ?_) (fun hc165 => ?_)
                    · skip
                      have hout : 0 ≤ ci.out ∧ ci.out < p.insts.length := n4 (by omega)
                      have harg := n7 hc165
                      have hget : (sl.map iv)[ci.arg.toNat]? = some (iv (sl.getD ci.arg.toNat 0)) := by simp [show ci.arg.toNat < sl.length by omega]
                      refine cw_seq ?_
                      refine cw_any (fun w0 w' => Evo [gk] w0 w') (by kernel_rfl) (fun w313 hw314 => ?_)
                      have hE315 := hE137.then hw314
                      have hB316 := hw314.blk0 hB138
                      have hO317 := hO139.evo0 hw314
                      have hO318 := hO140.evo0 hw314
                      have hO319 := hO141.evo0 hw314
                      have hB320 := hw314.blk0 hB142
                      have hB321 := hw314.blk0 hB135
                      refine ae_take 0 rfl (by kernel_rfl) (by kernel_rfl) (by kernel_rfl) rfl (fun _ hS => ex_move rfl) (Evo.refl [gk] w313) ?_
                      refine ae_take 1 rfl (by kernel_rfl) (by kernel_rfl) (by kernel_rfl) rfl (fun _ hS => ex_fieldAddr rfl Try.fld29_3) (Evo.refl [gk] w313) ?_
                      refine ae_take 2 rfl (by kernel_rfl) (by kernel_rfl) (by kernel_rfl) rfl (fun _ hS => ex_load1 rfl Try.agg3 (cell_nth (hS.blk hB321 (hA125.symm.nmem1)) rfl)) (Evo.refl [gk] w313) ?_
                      refine ae_take 3 rfl (by kernel_rfl) (by kernel_rfl) (by kernel_rfl) rfl (fun _ hS => ex_move rfl) (Evo.refl [gk] w313) ?_
                      refine ae_take 4 rfl (by kernel_rfl) (by kernel_rfl) (by kernel_rfl) rfl (fun _ hS => ex_fieldAddr rfl Try.fld29_3) (Evo.refl [gk] w313) ?_
                      refine ae_take 5 rfl (by kernel_rfl) (by kernel_rfl) (by kernel_rfl) rfl (fun _ hS => ex_load1 rfl Try.agg3 (cell_nth (hS.blk hB321 (hA125.symm.nmem1)) rfl)) (Evo.refl [gk] w313) ?_
                      refine ae_take 6 rfl (by kernel_rfl) (by kernel_rfl) (by kernel_rfl) rfl (fun _ hS => ex_indexAddrZ (n := ci.arg.toNat) rfl rfl (by omega) Try.elem33 (by omega)) (Evo.refl [gk] w313) ?_
                      refine ae_take 7 rfl (by kernel_rfl) (by kernel_rfl) (by kernel_rfl) rfl (fun _ hS => ex_load1 (v := iv (sl.getD ci.arg.toNat 0)) rfl Try.agg3 ((hO317.evo hS hsk.own1).get1 hget)) (Evo.refl [gk] w313) ?_
                      refine ae_take 8 rfl (by kernel_rfl) (by kernel_rfl) (by kernel_rfl) rfl (fun _ hS => ex_build (vs := [(0, _), (1, _), (2, _), (3, _)]) Try.build58 rfl (cells := [_, _, _, _]) rfl) (Evo.refl [gk] w313) ?_
                      refine ae_loud [9] (by kernel_rfl) rfl ⟨?_, trivial⟩
                      refine a_step rfl ?_
                      refine wl_bslice (vs := [_]) rfl Try.slice59 rfl rfl rfl rfl fun b322 w323 hO324 hs325 hw326 => ?_
                      have hA327 := Apart.new (Lt.blk hB316) hs325
                      have hA328 := Apart.new (Lt.own hO317) hs325
                      have hA329 := Apart.new (Lt.own hO318) hs325
                      have hA330 := Apart.new (Lt.own hO319) hs325
                      have hA331 := Apart.new (Lt.blk hB320) hs325
                      have hA332 := Apart.new (Lt.blk hB321) hs325
                      have hG333 := Ge.new hE315 hs325
                      have hG334 := Ge.new (Evo.refl [gk] w313) hs325
                      have hE335 := hE315.then hw326
                      have hE336 := (Evo.refl [gk] w313).then hw326
                      have hB337 := hw326.blk0 hB316
                      have hO338 := hO317.evo0 hw326
                      have hO339 := hO318.evo0 hw326
                      have hO340 := hO319.evo0 hw326
                      have hB341 := hw326.blk0 hB320
                      have hB342 := hw326.blk0 hB321
                      refine wl_nil (ae_next (.inl hE336) ?_)
                      refine ae_loud [10] (by kernel_rfl) rfl ⟨?_, trivial⟩
                      refine a_step rfl ?_
                      refine wl_append rfl rfl rfl rfl Try.app59_59 hO340 (Src.ofOwn hO324 ⟨by first | rfl | assumption, by first | rfl | assumption, by first | rfl | assumption, by first | rfl | assumption, trivial⟩) (by omega) fun ak ck w345 obk hKa hw348 hob349 => ?_
                      have hA350 := hpk.app (Lt.blk hB337) hob349
                      have hA351 := hsk.app (Lt.own hO338) hob349
                      have hA352 := htk.app (Lt.own hO339) hob349
                      have hA353 := hA72.symm.app (Lt.blk hB341) hob349
                      have hA354 := hA125.symm.app (Lt.blk hB342) hob349
                      have hA355 := hA330.symm.app (Lt.own hO324) hob349
                      have hG356 := hgk.app hE335 hob349
                      have hE357 := hE335.step hw348 hgk.mem
                      have hE358 := hE336.step hw348 (fun y hy => .inl (by simpa using hy))
                      have hB359 := hw348.blk hB337 hpk.nmem
                      have hO360 := hO338.evo hw348 hsk.own
                      have hO361 := hO339.evo hw348 htk.own
                      have hB362 := hw348.blk hB341 hA72.symm.nmem
                      have hB363 := hw348.blk hB342 hA125.symm.nmem
                      have hO364 := hO324.evo hw348 hA330.symm.own
                      refine wl_nil (ae_next (.inl hE358) ?_)
                      refine ae_take 11 rfl (by kernel_rfl) (by kernel_rfl) (by kernel_rfl) rfl (fun _ hS => ex_assign rfl) hE358 ?_
                      refine ae_done (by kernel_rfl) (nrm_then ?_)
                      refine cw_seq ?_
                      refine cw_region ?_
                      refine wl_val rfl (ex_move rfl) ?_
                      refine wl_val rfl (ex_fieldAddr rfl Try.fld29_3) ?_
                      refine wl_val rfl (ex_load1 rfl Try.agg3 (cell_nth hB363 rfl)) ?_
                      refine wl_val rfl (ex_fieldAddr rfl Try.fld58_1) ?_
                      refine wl_val rfl (ex_load1 (v := iv (pa : Nat)) rfl Try.agg3 (cell_nth hB362 rfl)) ?_
                      refine wl_val rfl (ex_indexAddrZ (n := ci.arg.toNat) rfl rfl (by omega) Try.elem33 (by omega)) ?_
                      obtain ⟨g374, cur365, hg366, hx367, hcu368, hcs369, -⟩ := hO360.at (by omega)
                      cases hx367
                      refine wl_store1L rfl rfl (rfl) Try.size3 hcu368 (hO360.inb hcs369 (k := ci.arg.toNat) (j := 0) (by omega) (by omega) (by omega)) fun w370 hB371 hw372 => ?_
                      replace hw372 := evo_ob hg366 hw372
                      have hO373 := hO360.set' hg366 hcu368 hB371
                      have hE375 := hE357.step hw372 hgS.mem
                      have hB376 := hw372.blk hB359 hpS.nmem
                      have hO377 := hO361.evo hw372 hA44.symm.own
                      have hB378 := hw372.blk hB362 hA70.symm.nmem
                      have hB379 := hw372.blk hB363 hA123.symm.nmem
                      have hO380 := hKa.evo hw372 hA351.symm.own
                      have hS3 : OwnS w370 3 1 (some ⟨g5, 0, none⟩) N c5 ((List.map iv sl).set (0 + ci.arg.toNat * 1) (iv pa)) (some g5) := hO373
                      rw [show 0 + ci.arg.toNat * 1 = ci.arg.toNat by omega, ← List.map_set] at hS3
                      refine wl_nil (nrm_then ?_)
                      refine cw_region ?_
                      refine wl_val rfl (ex_move rfl) ?_
                      refine wl_val rfl (ex_fieldAddr rfl Try.fld29_1) ?_
                      refine wl_val rfl (ex_load1 rfl Try.agg3 (cell_nth hB379 rfl)) ?_
                      refine wl_val rfl (ex_fieldAddr rfl Try.fld58_1) ?_
                      refine wl_val rfl (ex_load1 (v := iv (pa : Nat)) rfl Try.agg3 (cell_nth hB378 rfl)) ?_
                      refine wl_val rfl (ex_build (vs := [(0, _), (1, _), (2, _), (3, _)]) Try.build58 rfl (cells := [_, _, _, _]) rfl) ?_
                      refine wl_bslice (vs := [_]) rfl Try.slice59 rfl rfl rfl rfl fun b381 w382 hO383 hs384 hw385 => ?_
                      have hA386 := Apart.new (Lt.blk hB376) hs384
                      have hA387 := Apart.new (Lt.own hS3) hs384
                      have hA388 := Apart.new (Lt.own hO377) hs384
                      have hA389 := Apart.new (Lt.blk hB378) hs384
                      have hA390 := Apart.new (Lt.blk hB379) hs384
                      have hA391 := Apart.new (Lt.own hO380) hs384
                      have hG392 := Ge.new hE375 hs384
                      have hE393 := hE375.then hw385
                      have hB394 := hw385.blk0 hB376
                      have hO395 := hS3.evo0 hw385
                      have hO396 := hO377.evo0 hw385
                      have hB397 := hw385.blk0 hB378
                      have hB398 := hw385.blk0 hB379
                      have hO399 := hO380.evo0 hw385
                      refine wl_append rfl rfl rfl rfl Try.app59_59 hO399 (Src.ofOwn hO383 ⟨by first | rfl | assumption, by first | rfl | assumption, by first | rfl | assumption, by first | rfl | assumption, trivial⟩) (by omega) fun ak2 ck2 w402 obk2 hKb hw405 hob406 => ?_
                      have hA407 := hA350.app (Lt.blk hB394) hob406
                      have hA408 := hA351.app (Lt.own hO395) hob406
                      have hA409 := hA352.app (Lt.own hO396) hob406
                      have hA410 := hA353.app (Lt.blk hB397) hob406
                      have hA411 := hA354.app (Lt.blk hB398) hob406
                      have hA412 := hA391.symm.app (Lt.own hO383) hob406
                      have hG413 := hG356.app hE393 hob406
                      have hE414 := hE393.step hw405 hG356.mem
                      have hB415 := hw405.blk hB394 hA350.nmem
                      have hO416 := hO395.evo hw405 hA351.own
                      have hO417 := hO396.evo hw405 hA352.own
                      have hB418 := hw405.blk hB397 hA353.nmem
                      have hB419 := hw405.blk hB398 hA354.nmem
                      have hO420 := hO383.evo hw405 hA391.symm.own
                      refine wl_val rfl (ex_assign rfl) ?_
                      refine wl_nil (nrm_block (nrm_block (nrm_then ?_)))
                      refine ⟨(.pt ci.out.toNat pa :: .re ci.arg.toNat (sl.getD ci.arg.toNat 0) :: fr1, (pa, ci.out.toNat, (ci.arg.toNat, pa) :: t) :: g1, (W.lay pa ((W pa).add i)), sl.set ci.arg.toNat pa, ak2, ck2, obk2), ?_, ⟨rfl, trivial⟩, ⟨rfl, rfl, rfl, rfl, trivial⟩, hE414, ?_⟩
                      · (try dsimp only); first | omega | (simp only [List.length_cons]; omega) | (simp only [List.length_cons] at *; omega)
                      · skip
                        try dsimp only
                        have hmv2 : mvOf p s pa i = .save ci.arg.toNat ci.out.toNat := by rw [hmv]; unfold mvI; rw [if_neg (by omega), if_neg hc120, if_neg hc147, if_pos hc165]
                        refine ⟨(by rw [frs_cons, frs_cons, ← row_pt hout.1, ← row_re (show 0 ≤ ci.arg by omega)]; exact hKb), hO416, hO417, hB415, (by rw [List.length_set]; exact hsl), hwf.save (by omega) ha hsl2 (by omega), by first | omega | (simp only [List.length_cons] at *; omega), fun r W' h => hD r W' (.save hc75 hmv2 h), hA407, hA408, hA409, hG413⟩
                    · skip
                      refine cw_seq ?_
                      refine cw_region ?_
                      refine wl_val rfl (ex_fieldAddr rfl Try.fld29_0) ?_
                      refine wl_val rfl (ex_load1 rfl Try.agg3 (cell_nth hB135 rfl)) ?_
                      refine wl_val rfl (ex_fieldAddr rfl Try.fld29_3) ?_
                      refine wl_val rfl (ex_load1 rfl Try.agg3 (cell_nth hB135 rfl)) ?_
                      refine wl_val rfl (ex_move rfl) ?_
                      refine wl_val rfl (ex_fieldAddr rfl Try.fld58_1) ?_
                      refine wl_val rfl (ex_load1 (v := iv (pa : Nat)) rfl Try.agg3 (cell_nth hB142 rfl)) ?_
                      refine wl_call1 (vs := [_, _, _, _]) Try.goes31 rfl (stands_ok _ _ s pa ha (by omega)) rfl ?_
                      rintro _ w421 ⟨rfl, hw422⟩
                      have hE423 := hE137.then hw422
                      have hB424 := hw422.blk0 hB138
                      have hO425 := hO139.evo0 hw422
                      have hO426 := hO140.evo0 hw422
                      have hO427 := hO141.evo0 hw422
                      have hB428 := hw422.blk0 hB142
                      have hB429 := hw422.blk0 hB135
                      refine wl_nil (nrm_then ?_)
                      refine cw_if rfl (fun hc111 => ?_) (fun hc111 => ?_)
                      · skip
                        have hop1 : ¬ ci.op = 1 := fun e => by rw [e] at hc111; simp [Stands] at hc111
                        have hop2 : ¬ ci.op = 11 := fun e => by rw [e] at hc111; simp [Stands] at hc111
                        have hout : 0 ≤ ci.out ∧ ci.out < p.insts.length := n4 (by omega)
                        refine cw_region ?_
                        refine wl_val rfl (ex_move rfl) ?_
                        refine wl_val rfl (ex_fieldAddr rfl Try.fld29_1) ?_
                        refine wl_val rfl (ex_load1 rfl Try.agg3 (cell_nth hB429 rfl)) ?_
                        refine wl_val rfl (ex_fieldAddr rfl Try.fld58_1) ?_
                        refine wl_val rfl (ex_load1 (v := iv (pa : Nat)) rfl Try.agg3 (cell_nth hB428 rfl)) ?_
                        refine wl_val rfl (ex_build (vs := [(0, _), (1, _), (2, _), (3, _)]) Try.build58 rfl (cells := [_, _, _, _]) rfl) ?_
                        refine wl_bslice (vs := [_]) rfl Try.slice59 rfl rfl rfl rfl fun b430 w431 hO432 hs433 hw434 => ?_
                        have hA435 := Apart.new (Lt.blk hB424) hs433
                        have hA436 := Apart.new (Lt.own hO425) hs433
                        have hA437 := Apart.new (Lt.own hO426) hs433
                        have hA438 := Apart.new (Lt.own hO427) hs433
                        have hA439 := Apart.new (Lt.blk hB428) hs433
                        have hA440 := Apart.new (Lt.blk hB429) hs433
                        have hG441 := Ge.new hE423 hs433
                        have hE442 := hE423.then hw434
                        have hB443 := hw434.blk0 hB424
                        have hO444 := hO425.evo0 hw434
                        have hO445 := hO426.evo0 hw434
                        have hO446 := hO427.evo0 hw434
                        have hB447 := hw434.blk0 hB428
                        have hB448 := hw434.blk0 hB429
                        refine wl_append rfl rfl rfl rfl Try.app59_59 hO446 (Src.ofOwn hO432 ⟨by first | rfl | assumption, by first | rfl | assumption, by first | rfl | assumption, by first | rfl | assumption, trivial⟩) (by omega) fun ak ck w451 obk hKa hw454 hob455 => ?_
                        have hA456 := hpk.app (Lt.blk hB443) hob455
                        have hA457 := hsk.app (Lt.own hO444) hob455
                        have hA458 := htk.app (Lt.own hO445) hob455
                        have hA459 := hA72.symm.app (Lt.blk hB447) hob455
                        have hA460 := hA125.symm.app (Lt.blk hB448) hob455
                        have hA461 := hA438.symm.app (Lt.own hO432) hob455
                        have hG462 := hgk.app hE442 hob455
                        have hE463 := hE442.step hw454 hgk.mem
                        have hB464 := hw454.blk hB443 hpk.nmem
                        have hO465 := hO444.evo hw454 hsk.own
                        have hO466 := hO445.evo hw454 htk.own
                        have hB467 := hw454.blk hB447 hA72.symm.nmem
                        have hB468 := hw454.blk hB448 hA125.symm.nmem
                        have hO469 := hO432.evo hw454 hA438.symm.own
                        refine wl_val rfl (ex_assign rfl) ?_
                        refine wl_nil (nrm_block (nrm_block (nrm_then ?_)))
                        refine ⟨(.pt ci.out.toNat pa :: fr1, (pa, ci.out.toNat, t) :: g1, (W.lay pa ((W pa).add i)), sl, ak, ck, obk), ?_, ⟨rfl, trivial⟩, ⟨rfl, rfl, rfl, rfl, trivial⟩, hE463, ?_⟩
                        · (try dsimp only); first | omega | (simp only [List.length_cons]; omega) | (simp only [List.length_cons] at *; omega)
                        · skip
                          try dsimp only
                          have hmv2 : mvOf p s pa i = .go ci.out.toNat := by rw [hmv]; unfold mvI; rw [if_neg hop1, if_neg hc120, if_neg hc147, if_neg hc165, if_pos hc111]
                          refine ⟨(by rw [frs_cons, ← row_pt hout.1]; exact hKa), hO465, hO466, hB464, hsl, hwf.push (by omega) ha hsl2, by first | omega | (simp only [List.length_cons] at *; omega), fun r W' h => hD r W' (.go hc75 hmv2 h), hA456, hA457, hA458, hG462⟩
                      · skip
                        refine cw_skip (nrm_block (nrm_block (nrm_then ?_)))
                        refine ⟨(fr1, g1, (W.lay pa ((W pa).add i)), sl, some ⟨gk, 0, none⟩, c, some gk), ?_, ⟨rfl, trivial⟩, ⟨rfl, rfl, rfl, rfl, trivial⟩, hE423, ?_⟩
                        · (try dsimp only); first | omega | (simp only [List.length_cons]; omega) | (simp only [List.length_cons] at *; omega)
                        · skip
                          try dsimp only
                          refine ⟨hO427, hO425, hO426, hB424, hsl, hwf, by omega, fun r W' h => hD r W' ?_, hpk, hsk, htk, hgk⟩
                          by_cases hop1 : ci.op = 1
                          · exact .mat hc75 (by rw [hmv]; unfold mvI; rw [if_pos hop1]) (by first | omega | exact fun e => hc94 (by omega)) h
                          · exact .dead hc75 (by rw [hmv]; unfold mvI; rw [if_neg hop1, if_neg hc120, if_neg hc147, if_neg hc165, if_neg hc111]) h
            · skip
              refine wl_no rfl rfl rfl rfl rfl rfl ?_
              refine wl_no rfl rfl rfl rfl rfl rfl ?_
              refine wl_no rfl rfl rfl rfl rfl rfl ?_
              refine wl_no rfl rfl rfl rfl rfl rfl ?_
              refine wl_no rfl rfl rfl rfl rfl rfl ?_
              refine wl_val rfl (ex_pick_f rfl rfl) ?_
              refine wl_nil (nrm_then ?_)
              refine cw_false rfl ?_
              refine cw_skip (nrm_then ?_)
              refine cw_seq ?_
              refine cw_region ?_
              refine wl_val rfl (ex_fieldAddr rfl Try.fld29_0) ?_
              refine wl_val rfl (ex_load1 rfl Try.agg3 (cell_nth hB135 rfl)) ?_
              refine wl_nil (nrm_then ?_)
              refine cw_block ?_
              refine cw_seq ?_
              refine cw_region ?_
              refine wl_val rfl (ex_eql rfl rfl) ?_
              refine wl_val rfl (ex_assign rfl) ?_
              refine wl_nil (nrm_then ?_)
              refine cw_if rfl (fun hc120 => ?_) (fun hc120 => ?_)
              · skip
                have hout : 0 ≤ ci.out ∧ ci.out < p.insts.length := n4 (by omega)
                refine cw_seq ?_
                refine cw_region ?_
                refine wl_val rfl (ex_move rfl) ?_
                refine wl_val rfl (ex_fieldAddr rfl Try.fld58_1) ?_
                refine wl_val rfl (ex_load1 (v := iv (pa : Nat)) rfl Try.agg3 (cell_nth hB142 rfl)) ?_
                refine wl_call1 (vs := [_, _]) Try.goes29 rfl (refNext_ok s pa ha (by omega)) rfl ?_
                rintro _ w470 ⟨rfl, hw471⟩
                have hE472 := hE137.then hw471
                have hB473 := hw471.blk0 hB138
                have hO474 := hO139.evo0 hw471
                have hO475 := hO140.evo0 hw471
                have hO476 := hO141.evo0 hw471
                have hB477 := hw471.blk0 hB142
                have hB478 := hw471.blk0 hB135
                refine wl_val rfl (ex_move rfl) ?_
                refine wl_val rfl (ex_extract rfl rfl) ?_
                refine wl_val rfl (ex_extract rfl rfl) ?_
                refine wl_val rfl (ex_assign rfl) ?_
                refine wl_val rfl (ex_assign rfl) ?_
                refine wl_nil (nrm_then ?_)
                refine cw_seq ?_
                refine cw_region ?_
                refine wl_val rfl (ex_move rfl) ?_
                refine wl_val rfl (ex_gtr rfl rfl) ?_
                refine wl_val rfl (ex_move rfl) ?_
                refine wl_split (t := 131) rfl (fun hs131 => ?_) (fun hs131 => ?_)
                · skip
                  refine wl_go rfl rfl rfl rfl ?_
                  refine wl_val rfl (ex_move rfl) ?_
                  refine wl_go rfl rfl rfl rfl ?_
                  refine wl_val rfl (ex_fieldAddr rfl Try.fld29_4) ?_
                  refine wl_go rfl rfl rfl rfl ?_
                  refine wl_val rfl (ex_load1 rfl Try.agg27 (cell_nth hB478 rfl)) ?_
                  refine wl_go rfl rfl rfl rfl ?_
                  refine wl_call1 (vs := [_, _]) Try.goes30 rfl (inside_ok _ (hr2.evo RRange.pers ((hE472).any X)) (by omega)) rfl ?_
                  rintro _ w479 ⟨rfl, hw480⟩
                  have hE481 := hE472.then hw480
                  have hB482 := hw480.blk0 hB473
                  have hO483 := hO474.evo0 hw480
                  have hO484 := hO475.evo0 hw480
                  have hO485 := hO476.evo0 hw480
                  have hB486 := hw480.blk0 hB477
                  have hB487 := hw480.blk0 hB478
                  refine wl_val rfl (ex_pick_t rfl rfl) ?_
                  refine wl_nil (nrm_then ?_)
                  refine cw_if rfl (fun hc136 => ?_) (fun hc136 => ?_)
                  · skip
                    refine cw_region ?_
                    refine wl_val rfl (ex_move rfl) ?_
                    refine wl_val rfl (ex_fieldAddr rfl Try.fld29_1) ?_
                    refine wl_val rfl (ex_load1 rfl Try.agg3 (cell_nth hB487 rfl)) ?_
                    refine wl_val rfl (ex_fieldAddr rfl Try.fld58_1) ?_
                    refine wl_val rfl (ex_load1 (v := iv (pa : Nat)) rfl Try.agg3 (cell_nth hB486 rfl)) ?_
                    refine wl_val rfl (ex_move rfl) ?_
                    refine wl_val rfl (ex_add_i64 rfl rfl (by omega) (by omega)) ?_
                    rw [show ((pa : Nat) : Int) + (((nextR s pa).2 : Nat) : Int) = ((pa + (nextR s pa).2 : Nat) : Int) from by omega]
                    refine wl_val rfl (ex_build (vs := [(0, _), (1, _), (2, _), (3, _)]) Try.build58 rfl (cells := [_, _, _, _]) rfl) ?_
                    refine wl_bslice (vs := [_]) rfl Try.slice59 rfl rfl rfl rfl fun b488 w489 hO490 hs491 hw492 => ?_
                    have hA493 := Apart.new (Lt.blk hB482) hs491
                    have hA494 := Apart.new (Lt.own hO483) hs491
                    have hA495 := Apart.new (Lt.own hO484) hs491
                    have hA496 := Apart.new (Lt.own hO485) hs491
                    have hA497 := Apart.new (Lt.blk hB486) hs491
                    have hA498 := Apart.new (Lt.blk hB487) hs491
                    have hG499 := Ge.new hE481 hs491
                    have hE500 := hE481.then hw492
                    have hB501 := hw492.blk0 hB482
                    have hO502 := hO483.evo0 hw492
                    have hO503 := hO484.evo0 hw492
                    have hO504 := hO485.evo0 hw492
                    have hB505 := hw492.blk0 hB486
                    have hB506 := hw492.blk0 hB487
                    refine wl_append rfl rfl rfl rfl Try.app59_59 hO504 (Src.ofOwn hO490 ⟨by first | rfl | assumption, by first | rfl | assumption, by first | rfl | assumption, by first | rfl | assumption, trivial⟩) (by omega) fun ak ck w509 obk hKa hw512 hob513 => ?_
                    have hA514 := hpk.app (Lt.blk hB501) hob513
                    have hA515 := hsk.app (Lt.own hO502) hob513
                    have hA516 := htk.app (Lt.own hO503) hob513
                    have hA517 := hA72.symm.app (Lt.blk hB505) hob513
                    have hA518 := hA125.symm.app (Lt.blk hB506) hob513
                    have hA519 := hA496.symm.app (Lt.own hO490) hob513
                    have hG520 := hgk.app hE500 hob513
                    have hE521 := hE500.step hw512 hgk.mem
                    have hB522 := hw512.blk hB501 hpk.nmem
                    have hO523 := hO502.evo hw512 hsk.own
                    have hO524 := hO503.evo hw512 htk.own
                    have hB525 := hw512.blk hB505 hA72.symm.nmem
                    have hB526 := hw512.blk hB506 hA125.symm.nmem
                    have hO527 := hO490.evo hw512 hA496.symm.own
                    refine wl_val rfl (ex_assign rfl) ?_
                    refine wl_nil (nrm_block (nrm_block (nrm_then ?_)))
                    refine ⟨(.pt ci.out.toNat (pa + (nextR s pa).2) :: fr1, (pa + (nextR s pa).2, ci.out.toNat, t) :: g1, (W.lay pa ((W pa).add i)), sl, ak, ck, obk), ?_, ⟨rfl, trivial⟩, ⟨rfl, rfl, rfl, rfl, trivial⟩, hE521, ?_⟩
                    · (try dsimp only); first | omega | (simp only [List.length_cons]; omega) | (simp only [List.length_cons] at *; omega)
                    · skip
                      try dsimp only
                      have hmv2 : mvOf p s pa i = .rune (some ci.out.toNat) := by rw [hmv]; unfold mvI; rw [if_neg (by omega), if_pos hc120, if_pos hc136]
                      refine ⟨(by rw [frs_cons, ← row_pt hout.1]; exact hKa), hO523, hO524, hB522, hsl, hwf.push (by omega) (by omega) hsl2, by first | omega | (simp only [List.length_cons] at *; omega), fun r W' h => hD r W' (.rune hc75 hmv2 (by omega) (nxt_some (by omega)) h), hA514, hA515, hA516, hG520⟩
                  · skip
                    refine cw_skip (nrm_block (nrm_block (nrm_then ?_)))
                    refine ⟨(fr1, g1, (W.lay pa ((W pa).add i)), sl, some ⟨gk, 0, none⟩, c, some gk), ?_, ⟨rfl, trivial⟩, ⟨rfl, rfl, rfl, rfl, trivial⟩, hE481, ?_⟩
                    · (try dsimp only); first | omega | (simp only [List.length_cons]; omega) | (simp only [List.length_cons] at *; omega)
                    · skip
                      try dsimp only
                      have hmv2 : mvOf p s pa i = .rune none := by rw [hmv]; unfold mvI; rw [if_neg (by omega), if_pos hc120, if_neg hc136]
                      refine ⟨hO485, hO483, hO484, hB482, hsl, hwf, by first | omega | (simp only [List.length_cons] at *; omega), fun r W' h => hD r W' (.miss hc75 (.inl hmv2) h), hpk, hsk, htk, hgk⟩
                · skip
                  refine wl_no rfl rfl rfl rfl rfl rfl ?_
                  refine wl_no rfl rfl rfl rfl rfl rfl ?_
                  refine wl_no rfl rfl rfl rfl rfl rfl ?_
                  refine wl_no rfl rfl rfl rfl rfl rfl ?_
                  refine wl_val rfl (ex_pick_f rfl rfl) ?_
                  refine wl_nil (nrm_then ?_)
                  refine cw_false rfl ?_
                  refine cw_skip (nrm_block (nrm_block (nrm_then ?_)))
                  refine ⟨(fr1, g1, (W.lay pa ((W pa).add i)), sl, some ⟨gk, 0, none⟩, c, some gk), ?_, ⟨rfl, trivial⟩, ⟨rfl, rfl, rfl, rfl, trivial⟩, hE472, ?_⟩
                  · (try dsimp only); first | omega | (simp only [List.length_cons]; omega) | (simp only [List.length_cons] at *; omega)
                  · skip
                    try dsimp only
                    have hmv2 : mvOf p s pa i = .rune (if Inside (nextR s pa).1 ci.rs then some ci.out.toNat else none) := by rw [hmv]; unfold mvI; rw [if_neg (by omega), if_pos hc120]
                    refine ⟨hO476, hO474, hO475, hB473, hsl, hwf, by first | omega | (simp only [List.length_cons] at *; omega), fun r W' h => hD r W' (.miss hc75 (.inr ⟨⟨_, hmv2⟩, .inr (nxt_none (by omega))⟩) h), hpk, hsk, htk, hgk⟩
              · skip
                refine cw_seq ?_
                refine cw_region ?_
                refine wl_val rfl (ex_eql rfl rfl) ?_
                refine wl_val rfl (ex_assign rfl) ?_
                refine wl_nil (nrm_then ?_)
                refine cw_if rfl (fun hc147 => ?_) (fun hc147 => ?_)
                · skip
                  have hout : 0 ≤ ci.out ∧ ci.out < p.insts.length := n4 (by omega)
                  have halt := n5 hc147
                  refine cw_seq ?_
                  refine cw_region ?_
                  refine wl_val rfl (ex_move rfl) ?_
                  refine wl_val rfl (ex_fieldAddr rfl Try.fld29_2) ?_
                  refine wl_val rfl (ex_load1 rfl Try.agg3 (cell_nth hB135 rfl)) ?_
                  refine wl_val rfl (ex_fieldAddr rfl Try.fld58_1) ?_
                  refine wl_val rfl (ex_load1 (v := iv (pa : Nat)) rfl Try.agg3 (cell_nth hB142 rfl)) ?_
                  refine wl_val rfl (ex_build (vs := [(0, _), (1, _), (2, _), (3, _)]) Try.build58 rfl (cells := [_, _, _, _]) rfl) ?_
                  refine wl_bslice (vs := [_]) rfl Try.slice59 rfl rfl rfl rfl fun b528 w529 hO530 hs531 hw532 => ?_
                  have hA533 := Apart.new (Lt.blk hB138) hs531
                  have hA534 := Apart.new (Lt.own hO139) hs531
                  have hA535 := Apart.new (Lt.own hO140) hs531
                  have hA536 := Apart.new (Lt.own hO141) hs531
                  have hA537 := Apart.new (Lt.blk hB142) hs531
                  have hA538 := Apart.new (Lt.blk hB135) hs531
                  have hG539 := Ge.new hE137 hs531
                  have hE540 := hE137.then hw532
                  have hB541 := hw532.blk0 hB138
                  have hO542 := hO139.evo0 hw532
                  have hO543 := hO140.evo0 hw532
                  have hO544 := hO141.evo0 hw532
                  have hB545 := hw532.blk0 hB142
                  have hB546 := hw532.blk0 hB135
                  refine wl_append rfl rfl rfl rfl Try.app59_59 hO544 (Src.ofOwn hO530 ⟨by first | rfl | assumption, by first | rfl | assumption, by first | rfl | assumption, by first | rfl | assumption, trivial⟩) (by omega) fun ak ck w549 obk hKa hw552 hob553 => ?_
                  have hA554 := hpk.app (Lt.blk hB541) hob553
                  have hA555 := hsk.app (Lt.own hO542) hob553
                  have hA556 := htk.app (Lt.own hO543) hob553
                  have hA557 := hA72.symm.app (Lt.blk hB545) hob553
                  have hA558 := hA125.symm.app (Lt.blk hB546) hob553
                  have hA559 := hA536.symm.app (Lt.own hO530) hob553
                  have hG560 := hgk.app hE540 hob553
                  have hE561 := hE540.step hw552 hgk.mem
                  have hB562 := hw552.blk hB541 hpk.nmem
                  have hO563 := hO542.evo hw552 hsk.own
                  have hO564 := hO543.evo hw552 htk.own
                  have hB565 := hw552.blk hB545 hA72.symm.nmem
                  have hB566 := hw552.blk hB546 hA125.symm.nmem
                  have hO567 := hO530.evo hw552 hA536.symm.own
                  refine wl_val rfl (ex_assign rfl) ?_
                  refine wl_nil (nrm_then ?_)
                  refine cw_region ?_
                  refine wl_val rfl (ex_move rfl) ?_
                  refine wl_val rfl (ex_fieldAddr rfl Try.fld29_1) ?_
                  refine wl_val rfl (ex_load1 rfl Try.agg3 (cell_nth hB566 rfl)) ?_
                  refine wl_val rfl (ex_fieldAddr rfl Try.fld58_1) ?_
                  refine wl_val rfl (ex_load1 (v := iv (pa : Nat)) rfl Try.agg3 (cell_nth hB565 rfl)) ?_
                  refine wl_val rfl (ex_build (vs := [(0, _), (1, _), (2, _), (3, _)]) Try.build58 rfl (cells := [_, _, _, _]) rfl) ?_
                  refine wl_bslice (vs := [_]) rfl Try.slice59 rfl rfl rfl rfl fun b568 w569 hO570 hs571 hw572 => ?_
                  have hA573 := Apart.new (Lt.blk hB562) hs571
                  have hA574 := Apart.new (Lt.own hO563) hs571
                  have hA575 := Apart.new (Lt.own hO564) hs571
                  have hA576 := Apart.new (Lt.blk hB565) hs571
                  have hA577 := Apart.new (Lt.blk hB566) hs571
                  have hA578 := Apart.new (Lt.own hKa) hs571
                  have hG579 := Ge.new hE561 hs571
                  have hE580 := hE561.then hw572
                  have hB581 := hw572.blk0 hB562
                  have hO582 := hO563.evo0 hw572
                  have hO583 := hO564.evo0 hw572
                  have hB584 := hw572.blk0 hB565
                  have hB585 := hw572.blk0 hB566
                  have hO586 := hKa.evo0 hw572
                  refine wl_append rfl rfl rfl rfl Try.app59_59 hO586 (Src.ofOwn hO570 ⟨by first | rfl | assumption, by first | rfl | assumption, by first | rfl | assumption, by first | rfl | assumption, trivial⟩) (by omega) fun ak2 ck2 w589 obk2 hKb hw592 hob593 => ?_
                  have hA594 := hA554.app (Lt.blk hB581) hob593
                  have hA595 := hA555.app (Lt.own hO582) hob593
                  have hA596 := hA556.app (Lt.own hO583) hob593
                  have hA597 := hA557.app (Lt.blk hB584) hob593
                  have hA598 := hA558.app (Lt.blk hB585) hob593
                  have hA599 := hA578.symm.app (Lt.own hO570) hob593
                  have hG600 := hG560.app hE580 hob593
                  have hE601 := hE580.step hw592 hG560.mem
                  have hB602 := hw592.blk hB581 hA554.nmem
                  have hO603 := hO582.evo hw592 hA555.own
                  have hO604 := hO583.evo hw592 hA556.own
                  have hB605 := hw592.blk hB584 hA557.nmem
                  have hB606 := hw592.blk hB585 hA558.nmem
                  have hO607 := hO570.evo hw592 hA578.symm.own
                  refine wl_val rfl (ex_assign rfl) ?_
                  refine wl_nil (nrm_block (nrm_block (nrm_then ?_)))
                  refine ⟨(.pt ci.out.toNat pa :: .pt ci.alt.toNat pa :: fr1, (pa, ci.out.toNat, t) :: (pa, ci.alt.toNat, t) :: g1, (W.lay pa ((W pa).add i)), sl, ak2, ck2, obk2), ?_, ⟨rfl, trivial⟩, ⟨rfl, rfl, rfl, rfl, trivial⟩, hE601, ?_⟩
                  · (try dsimp only); first | omega | (simp only [List.length_cons]; omega) | (simp only [List.length_cons] at *; omega)
                  · skip
                    try dsimp only
                    have hmv2 : mvOf p s pa i = .split ci.out.toNat ci.alt.toNat := by rw [hmv]; unfold mvI; rw [if_neg (by omega), if_neg hc120, if_pos hc147]
                    refine ⟨(by rw [frs_cons, frs_cons, ← row_pt hout.1, ← row_pt halt.1]; exact hKb), hO603, hO604, hB602, hsl, (hwf.push (by omega) ha hsl2).push (by omega) ha hsl2, by first | omega | (simp only [List.length_cons] at *; omega), fun r W' h => hD r W' (.split hc75 hmv2 h), hA594, hA595, hA596, hG600⟩
                · skip
                  refine cw_seq ?_
                  refine cw_region ?_
                  refine wl_val rfl (ex_eql rfl rfl) ?_
                  refine wl_val rfl (ex_assign rfl) ?_
                  refine wl_nil (nrm_then ?_)
                  refine cw_if rfl (fun hc165 => ?_) (fun hc165 => ?_)
                  · skip
                    have hout : 0 ≤ ci.out ∧ ci.out < p.insts.length := n4 (by omega)
                    have harg := n7 hc165
                    have hget : (sl.map iv)[ci.arg.toNat]? = some (iv (sl.getD ci.arg.toNat 0)) := by simp [show ci.arg.toNat < sl.length by omega]
                    refine cw_seq ?_
                    refine cw_any (fun w0 w' => Evo [gk] w0 w') (by kernel_rfl) (fun w608 hw609 => ?_)
                    have hE610 := hE137.then hw609
                    have hB611 := hw609.blk0 hB138
                    have hO612 := hO139.evo0 hw609
                    have hO613 := hO140.evo0 hw609
                    have hO614 := hO141.evo0 hw609
                    have hB615 := hw609.blk0 hB142
                    have hB616 := hw609.blk0 hB135
                    refine ae_take 0 rfl (by kernel_rfl) (by kernel_rfl) (by kernel_rfl) rfl (fun _ hS => ex_move rfl) (Evo.refl [gk] w608) ?_
                    refine ae_take 1 rfl (by kernel_rfl) (by kernel_rfl) (by kernel_rfl) rfl (fun _ hS => ex_fieldAddr rfl Try.fld29_3) (Evo.refl [gk] w608) ?_
                    refine ae_take 2 rfl (by kernel_rfl) (by kernel_rfl) (by kernel_rfl) rfl (fun _ hS => ex_load1 rfl Try.agg3 (cell_nth (hS.blk hB616 (hA125.symm.nmem1)) rfl)) (Evo.refl [gk] w608) ?_
                    refine ae_take 3 rfl (by kernel_rfl) (by kernel_rfl) (by kernel_rfl) rfl (fun _ hS => ex_move rfl) (Evo.refl [gk] w608) ?_
                    refine ae_take 4 rfl (by kernel_rfl) (by kernel_rfl) (by kernel_rfl) rfl (fun _ hS => ex_fieldAddr rfl Try.fld29_3) (Evo.refl [gk] w608) ?_
                    refine ae_take 5 rfl (by kernel_rfl) (by kernel_rfl) (by kernel_rfl) rfl (fun _ hS => ex_load1 rfl Try.agg3 (cell_nth (hS.blk hB616 (hA125.symm.nmem1)) rfl)) (Evo.refl [gk] w608) ?_
                    refine ae_take 6 rfl (by kernel_rfl) (by kernel_rfl) (by kernel_rfl) rfl (fun _ hS => ex_indexAddrZ (n := ci.arg.toNat) rfl rfl (by omega) Try.elem33 (by omega)) (Evo.refl [gk] w608) ?_
                    refine ae_take 7 rfl (by kernel_rfl) (by kernel_rfl) (by kernel_rfl) rfl (fun _ hS => ex_load1 (v := iv (sl.getD ci.arg.toNat 0)) rfl Try.agg3 ((hO612.evo hS hsk.own1).get1 hget)) (Evo.refl [gk] w608) ?_
                    refine ae_take 8 rfl (by kernel_rfl) (by kernel_rfl) (by kernel_rfl) rfl (fun _ hS => ex_build (vs := [(0, _), (1, _), (2, _), (3, _)]) Try.build58 rfl (cells := [_, _, _, _]) rfl) (Evo.refl [gk] w608) ?_
                    refine ae_loud [9] (by kernel_rfl) rfl ⟨?_, trivial⟩
                    refine a_step rfl ?_
                    refine wl_bslice (vs := [_]) rfl Try.slice59 rfl rfl rfl rfl fun b617 w618 hO619 hs620 hw621 => ?_
                    have hA622 := Apart.new (Lt.blk hB611) hs620
                    have hA623 := Apart.new (Lt.own hO612) hs620
                    have hA624 := Apart.new (Lt.own hO613) hs620
                    have hA625 := Apart.new (Lt.own hO614) hs620
                    have hA626 := Apart.new (Lt.blk hB615) hs620
                    have hA627 := Apart.new (Lt.blk hB616) hs620
                    have hG628 := Ge.new hE610 hs620
                    have hG629 := Ge.new (Evo.refl [gk] w608) hs620
                    have hE630 := hE610.then hw621
                    have hE631 := (Evo.refl [gk] w608).then hw621
                    have hB632 := hw621.blk0 hB611
                    have hO633 := hO612.evo0 hw621
                    have hO634 := hO613.evo0 hw621
                    have hO635 := hO614.evo0 hw621
                    have hB636 := hw621.blk0 hB615
                    have hB637 := hw621.blk0 hB616
                    refine wl_nil (ae_next (.inl hE631) ?_)
                    refine ae_loud [10] (by kernel_rfl) rfl ⟨?_, trivial⟩
                    refine a_step rfl ?_
                    refine wl_append rfl rfl rfl rfl Try.app59_59 hO635 (Src.ofOwn hO619 ⟨by first | rfl | assumption, by first | rfl | assumption, by first | rfl | assumption, by first | rfl | assumption, trivial⟩) (by omega) fun ak ck w640 obk hKa hw643 hob644 => ?_
                    have hA645 := hpk.app (Lt.blk hB632) hob644
                    have hA646 := hsk.app (Lt.own hO633) hob644
                    have hA647 := htk.app (Lt.own hO634) hob644
                    have hA648 := hA72.symm.app (Lt.blk hB636) hob644
                    have hA649 := hA125.symm.app (Lt.blk hB637) hob644
                    have hA650 := hA625.symm.app (Lt.own hO619) hob644
                    have hG651 := hgk.app hE630 hob644
                    have hE652 := hE630.step hw643 hgk.mem
                    have hE653 := hE631.step hw643 (fun y hy => .inl (by simpa using hy))
                    have hB654 := hw643.blk hB632 hpk.nmem
                    have hO655 := hO633.evo hw643 hsk.own
                    have hO656 := hO634.evo hw643 htk.own
                    have hB657 := hw643.blk hB636 hA72.symm.nmem
                    have hB658 := hw643.blk hB637 hA125.symm.nmem
                    have hO659 := hO619.evo hw643 hA625.symm.own
                    refine wl_nil (ae_next (.inl hE653) ?_)
                    refine ae_take 11 rfl (by kernel_rfl) (by kernel_rfl) (by kernel_rfl) rfl (fun _ hS => ex_assign rfl) hE653 ?_
                    refine ae_done (by kernel_rfl) (nrm_then ?_)
                    refine cw_seq ?_
                    refine cw_region ?_
                    refine wl_val rfl (ex_move rfl) ?_
                    refine wl_val rfl (ex_fieldAddr rfl Try.fld29_3) ?_
                    refine wl_val rfl (ex_load1 rfl Try.agg3 (cell_nth hB658 rfl)) ?_
                    refine wl_val rfl (ex_fieldAddr rfl Try.fld58_1) ?_
                    refine wl_val rfl (ex_load1 (v := iv (pa : Nat)) rfl Try.agg3 (cell_nth hB657 rfl)) ?_
                    refine wl_val rfl (ex_indexAddrZ (n := ci.arg.toNat) rfl rfl (by omega) Try.elem33 (by omega)) ?_
                    obtain ⟨g669, cur660, hg661, hx662, hcu663, hcs664, -⟩ := hO655.at (by omega)
                    cases hx662
                    refine wl_store1L rfl rfl (rfl) Try.size3 hcu663 (hO655.inb hcs664 (k := ci.arg.toNat) (j := 0) (by omega) (by omega) (by omega)) fun w665 hB666 hw667 => ?_
                    replace hw667 := evo_ob hg661 hw667
                    have hO668 := hO655.set' hg661 hcu663 hB666
                    have hE670 := hE652.step hw667 hgS.mem
                    have hB671 := hw667.blk hB654 hpS.nmem
                    have hO672 := hO656.evo hw667 hA44.symm.own
                    have hB673 := hw667.blk hB657 hA70.symm.nmem
                    have hB674 := hw667.blk hB658 hA123.symm.nmem
                    have hO675 := hKa.evo hw667 hA646.symm.own
                    have hS3 : OwnS w665 3 1 (some ⟨g5, 0, none⟩) N c5 ((List.map iv sl).set (0 + ci.arg.toNat * 1) (iv pa)) (some g5) := hO668
                    rw [show 0 + ci.arg.toNat * 1 = ci.arg.toNat by omega, ← List.map_set] at hS3
                    refine wl_nil (nrm_then ?_)
                    refine cw_region ?_
                    refine wl_val rfl (ex_move rfl) ?_
                    refine wl_val rfl (ex_fieldAddr rfl Try.fld29_1) ?_
                    refine wl_val rfl (ex_load1 rfl Try.agg3 (cell_nth hB674 rfl)) ?_
                    refine wl_val rfl (ex_fieldAddr rfl Try.fld58_1) ?_
                    refine wl_val rfl (ex_load1 (v := iv (pa : Nat)) rfl Try.agg3 (cell_nth hB673 rfl)) ?_
                    refine wl_val rfl (ex_build (vs := [(0, _), (1, _), (2, _), (3, _)]) Try.build58 rfl (cells := [_, _, _, _]) rfl) ?_
                    refine wl_bslice (vs := [_]) rfl Try.slice59 rfl rfl rfl rfl fun b676 w677 hO678 hs679 hw680 => ?_
                    have hA681 := Apart.new (Lt.blk hB671) hs679
                    have hA682 := Apart.new (Lt.own hS3) hs679
                    have hA683 := Apart.new (Lt.own hO672) hs679
                    have hA684 := Apart.new (Lt.blk hB673) hs679
                    have hA685 := Apart.new (Lt.blk hB674) hs679
                    have hA686 := Apart.new (Lt.own hO675) hs679
                    have hG687 := Ge.new hE670 hs679
                    have hE688 := hE670.then hw680
                    have hB689 := hw680.blk0 hB671
                    have hO690 := hS3.evo0 hw680
                    have hO691 := hO672.evo0 hw680
                    have hB692 := hw680.blk0 hB673
                    have hB693 := hw680.blk0 hB674
                    have hO694 := hO675.evo0 hw680
                    refine wl_append rfl rfl rfl rfl Try.app59_59 hO694 (Src.ofOwn hO678 ⟨by first | rfl | assumption, by first | rfl | assumption, by first | rfl | assumption, by first | rfl | assumption, trivial⟩) (by omega) fun ak2 ck2 w697 obk2 hKb hw700 hob701 => ?_
                    have hA702 := hA645.app (Lt.blk hB689) hob701
                    have hA703 := hA646.app (Lt.own hO690) hob701
                    have hA704 := hA647.app (Lt.own hO691) hob701
                    have hA705 := hA648.app (Lt.blk hB692) hob701
                    have hA706 := hA649.app (Lt.blk hB693) hob701
                    have hA707 := hA686.symm.app (Lt.own hO678) hob701
                    have hG708 := hG651.app hE688 hob701
                    have hE709 := hE688.step hw700 hG651.mem
                    have hB710 := hw700.blk hB689 hA645.nmem
                    have hO711 := hO690.evo hw700 hA646.own
                    have hO712 := hO691.evo hw700 hA647.own
                    have hB713 := hw700.blk hB692 hA648.nmem
                    have hB714 := hw700.blk hB693 hA649.nmem
                    have hO715 := hO678.evo hw700 hA686.symm.own
                    refine wl_val rfl (ex_assign rfl) ?_
                    refine wl_nil (nrm_block (nrm_block (nrm_then ?_)))
                    refine ⟨(.pt ci.out.toNat pa :: .re ci.arg.toNat (sl.getD ci.arg.toNat 0) :: fr1, (pa, ci.out.toNat, (ci.arg.toNat, pa) :: t) :: g1, (W.lay pa ((W pa).add i)), sl.set ci.arg.toNat pa, ak2, ck2, obk2), ?_, ⟨rfl, trivial⟩, ⟨rfl, rfl, rfl, rfl, trivial⟩, hE709, ?_⟩
                    · (try dsimp only); first | omega | (simp only [List.length_cons]; omega) | (simp only [List.length_cons] at *; omega)
                    · skip
                      try dsimp only
                      have hmv2 : mvOf p s pa i = .save ci.arg.toNat ci.out.toNat := by rw [hmv]; unfold mvI; rw [if_neg (by omega), if_neg hc120, if_neg hc147, if_pos hc165]
                      refine ⟨(by rw [frs_cons, frs_cons, ← row_pt hout.1, ← row_re (show 0 ≤ ci.arg by omega)]; exact hKb), hO711, hO712, hB710, (by rw [List.length_set]; exact hsl), hwf.save (by omega) ha hsl2 (by omega), by first | omega | (simp only [List.length_cons] at *; omega), fun r W' h => hD r W' (.save hc75 hmv2 h), hA702, hA703, hA704, hG708⟩
                  · skip
                    refine cw_seq ?_
                    refine cw_region ?_
                    refine wl_val rfl (ex_fieldAddr rfl Try.fld29_0) ?_
                    refine wl_val rfl (ex_load1 rfl Try.agg3 (cell_nth hB135 rfl)) ?_
                    refine wl_val rfl (ex_fieldAddr rfl Try.fld29_3) ?_
                    refine wl_val rfl (ex_load1 rfl Try.agg3 (cell_nth hB135 rfl)) ?_
                    refine wl_val rfl (ex_move rfl) ?_
                    refine wl_val rfl (ex_fieldAddr rfl Try.fld58_1) ?_
                    refine wl_val rfl (ex_load1 (v := iv (pa : Nat)) rfl Try.agg3 (cell_nth hB142 rfl)) ?_
                    refine wl_call1 (vs := [_, _, _, _]) Try.goes31 rfl (stands_ok _ _ s pa ha (by omega)) rfl ?_
                    rintro _ w716 ⟨rfl, hw717⟩
                    have hE718 := hE137.then hw717
                    have hB719 := hw717.blk0 hB138
                    have hO720 := hO139.evo0 hw717
                    have hO721 := hO140.evo0 hw717
                    have hO722 := hO141.evo0 hw717
                    have hB723 := hw717.blk0 hB142
                    have hB724 := hw717.blk0 hB135
                    refine wl_nil (nrm_then ?_)
                    refine cw_if rfl (fun hc111 => ?_) (fun hc111 => ?_)
                    · skip
                      have hop1 : ¬ ci.op = 1 := fun e => by rw [e] at hc111; simp [Stands] at hc111
                      have hop2 : ¬ ci.op = 11 := fun e => by rw [e] at hc111; simp [Stands] at hc111
                      have hout : 0 ≤ ci.out ∧ ci.out < p.insts.length := n4 (by omega)
                      refine cw_region ?_
                      refine wl_val rfl (ex_move rfl) ?_
                      refine wl_val rfl (ex_fieldAddr rfl Try.fld29_1) ?_
                      refine wl_val rfl (ex_load1 rfl Try.agg3 (cell_nth hB724 rfl)) ?_
                      refine wl_val rfl (ex_fieldAddr rfl Try.fld58_1) ?_
                      refine wl_val rfl (ex_load1 (v := iv (pa : Nat)) rfl Try.agg3 (cell_nth hB723 rfl)) ?_
                      refine wl_val rfl (ex_build (vs := [(0, _), (1, _), (2, _), (3, _)]) Try.build58 rfl (cells := [_, _, _, _]) rfl) ?_
                      refine wl_bslice (vs := [_]) rfl Try.slice59 rfl rfl rfl rfl fun b725 w726 hO727 hs728 hw729 => ?_
                      have hA730 := Apart.new (Lt.blk hB719) hs728
                      have hA731 := Apart.new (Lt.own hO720) hs728
                      have hA732 := Apart.new (Lt.own hO721) hs728
                      have hA733 := Apart.new (Lt.own hO722) hs728
                      have hA734 := Apart.new (Lt.blk hB723) hs728
                      have hA735 := Apart.new (Lt.blk hB724) hs728
                      have hG736 := Ge.new hE718 hs728
                      have hE737 := hE718.then hw729
                      have hB738 := hw729.blk0 hB719
                      have hO739 := hO720.evo0 hw729
                      have hO740 := hO721.evo0 hw729
                      have hO741 := hO722.evo0 hw729
                      have hB742 := hw729.blk0 hB723
                      have hB743 := hw729.blk0 hB724
                      refine wl_append rfl rfl rfl rfl Try.app59_59 hO741 (Src.ofOwn hO727 ⟨by first | rfl | assumption, by first | rfl | assumption, by first | rfl | assumption, by first | rfl | assumption, trivial⟩) (by omega) fun ak ck w746 obk hKa hw749 hob750 => ?_
                      have hA751 := hpk.app (Lt.blk hB738) hob750
                      have hA752 := hsk.app (Lt.own hO739) hob750
                      have hA753 := htk.app (Lt.own hO740) hob750
                      have hA754 := hA72.symm.app (Lt.blk hB742) hob750
                      have hA755 := hA125.symm.app (Lt.blk hB743) hob750
                      have hA756 := hA733.symm.app (Lt.own hO727) hob750
                      have hG757 := hgk.app hE737 hob750
                      have hE758 := hE737.step hw749 hgk.mem
                      have hB759 := hw749.blk hB738 hpk.nmem
                      have hO760 := hO739.evo hw749 hsk.own
                      have hO761 := hO740.evo hw749 htk.own
                      have hB762 := hw749.blk hB742 hA72.symm.nmem
                      have hB763 := hw749.blk hB743 hA125.symm.nmem
                      have hO764 := hO727.evo hw749 hA733.symm.own
                      refine wl_val rfl (ex_assign rfl) ?_
                      refine wl_nil (nrm_block (nrm_block (nrm_then ?_)))
                      refine ⟨(.pt ci.out.toNat pa :: fr1, (pa, ci.out.toNat, t) :: g1, (W.lay pa ((W pa).add i)), sl, ak, ck, obk), ?_, ⟨rfl, trivial⟩, ⟨rfl, rfl, rfl, rfl, trivial⟩, hE758, ?_⟩
                      · (try dsimp only); first | omega | (simp only [List.length_cons]; omega) | (simp only [List.length_cons] at *; omega)
                      · skip
                        try dsimp only
                        have hmv2 : mvOf p s pa i = .go ci.out.toNat := by rw [hmv]; unfold mvI; rw [if_neg hop1, if_neg hc120, if_neg hc147, if_neg hc165, if_pos hc111]
                        refine ⟨(by rw [frs_cons, ← row_pt hout.1]; exact hKa), hO760, hO761, hB759, hsl, hwf.push (by omega) ha hsl2, by first | omega | (simp only [List.length_cons] at *; omega), fun r W' h => hD r W' (.go hc75 hmv2 h), hA751, hA752, hA753, hG757⟩
                    · skip
                      refine cw_skip (nrm_block (nrm_block (nrm_then ?_)))
                      refine ⟨(fr1, g1, (W.lay pa ((W pa).add i)), sl, some ⟨gk, 0, none⟩, c, some gk), ?_, ⟨rfl, trivial⟩, ⟨rfl, rfl, rfl, rfl, trivial⟩, hE718, ?_⟩
                      · (try dsimp only); first | omega | (simp only [List.length_cons]; omega) | (simp only [List.length_cons] at *; omega)
                      · skip
                        try dsimp only
                        refine ⟨hO722, hO720, hO721, hB719, hsl, hwf, by omega, fun r W' h => hD r W' ?_, hpk, hsk, htk, hgk⟩
                        by_cases hop1 : ci.op = 1
                        · exact .mat hc75 (by rw [hmv]; unfold mvI; rw [if_pos hop1]) (by first | omega | exact fun e => hc94 (by omega)) h
                        · exact .dead hc75 (by rw [hmv]; unfold mvI; rw [if_neg hop1, if_neg hc120, if_neg hc147, if_neg hc165, if_neg hc111]) h
      · skip
        refine cw_exit (ex_then (ex_then (ex_here (nrm_then ?_))))
        refine cw_seq ?_
        refine cw_region ?_
        refine wl_val rfl (ex_assign rfl) ?_
        refine wl_nil (nrm_then ?_)
        refine cw_ret (body_ret1 rfl rfl ?_)
        have hfr : fr = [] := List.eq_nil_of_length_eq_zero (by omega)
        subst hfr
        have hg0 : g = [] := hWF
        subst hg0
        exact ⟨none, 0, 0, [], none, rfl, OwnS.nil _ _ _, Ge.nil _, .inr ⟨hsp, none, W, hD _ _ .nil, rfl⟩, hV63⟩

end Go.Proofs.Ytopjnoblhleimaa
