import Derived.Test.YtopjnoblhleimaaSd
namespace Go.Proofs.Ytopjnoblhleimaa
open Go.Proofs
open Go.W
attribute [local irreducible] Decidable.decide
theorem Try.agg25 : aggB Try.prog 25 = some true := by kernel_rfl
theorem Try.app22_22 : appB Try.prog 22 22 = some (29, 5, 56) := by kernel_rfl
theorem Try.app23_23 : appB Try.prog 23 23 = some (9, 1, 16) := by kernel_rfl
theorem Try.app27_27 : appB Try.prog 27 27 = some (66, 2, 8) := by kernel_rfl
theorem Try.build25 : Build Try.prog 25 #[(0, 1), (1, 1), (2, 1), (3, 1)] #[.slice none 0 0, .int .i64 0, .int .i64 0, .slice none 0 0] := ⟨_, .agg #[.slice none 0 0, .int .i64 0, .int .i64 0, .slice none 0 0], Try.underlying25, by kernel_rfl, rfl, fun w => by kernel_rfl⟩
theorem Try.build29 : Build Try.prog 29 #[(0, 1), (1, 1), (2, 1), (3, 1), (4, 1)] #[.int .i64 0, .int .i64 0, .int .i64 0, .int .i64 0, .slice none 0 0] := ⟨_, .agg #[.int .i64 0, .int .i64 0, .int .i64 0, .int .i64 0, .slice none 0 0], Try.underlying29, by kernel_rfl, rfl, fun w => by kernel_rfl⟩
theorem Try.goes6 : Goes Try.prog 6 := ⟨_, Try.func6, by kernel_rfl, by kernel_rfl⟩
theorem Try.goes7 : Goes Try.prog 7 := ⟨_, Try.func7, by kernel_rfl, by kernel_rfl⟩
theorem Try.goes8 : Goes Try.prog 8 := ⟨_, Try.func8, by kernel_rfl, by kernel_rfl⟩
theorem Try.size22 : sizeB Try.prog 22 = some 1 := by kernel_rfl
theorem Try.size23 : sizeB Try.prog 23 = some 1 := by kernel_rfl
theorem Try.size25 : sizeB Try.prog 25 = some 4 := by kernel_rfl
theorem Try.size27 : sizeB Try.prog 27 = some 1 := by kernel_rfl
theorem Try.slice22 : sliceB Try.prog 22 = some (29, 5) := by kernel_rfl
theorem Try.slice23 : sliceB Try.prog 23 = some (9, 1) := by kernel_rfl
theorem Try.slice27 : sliceB Try.prog 27 = some (66, 2) := by kernel_rfl
theorem Try.zero25 : zeroB Try.prog 25 = some #[.slice none 0 0, .int .i64 0, .int .i64 0, .slice none 0 0] := by kernel_rfl


def P0 : Prg := { insts := [{ op := 1, out := 0, alt := 0, arg := 0, rs := [] }], start := 0, groups := 0, names := [] }
theorem P0.ok : P0.Ok := by constructor <;> simp [P0]
theorem P0.sound : SoundP P0 := by
  refine ⟨by simp [HeadOk, P0], fun i hi _ => ?_⟩
  simp [P0] at hi
  subst hi
  exact ⟨by simp [NumOk, P0], fun j hj => by simp [P0] at hj⟩
theorem rnil {X : List Nat} {w : World} {α : Type} {sz : Nat} {R : Rel α} : RSl sz R X w (.slice none 0 0) [] := ⟨none, 0, rfl, by simp, fun k hk => by simp at hk⟩
theorem P0.rows {X : List Nat} {w : World} : RowsOk 5 RInst X w [[.int .i64 1, .int .i64 0, .int .i64 0, .int .i64 0, .slice none 0 0]] P0.insts := by
  refine ⟨rfl, fun k hk hk' => ?_⟩
  simp at hk'
  subst hk'
  exact ⟨rfl, ⟨by constructor <;> simp [P0], _, rfl, rnil⟩⟩


theorem row_set {vs : List Value} {w : World} {X : List Nat} {c : Inst} {v : Value} (h : RInst X w vs c) (hv : RSl 2 RRange X w v c.rs) : (vs.set 4 v).length = 5 ∧ RInst X w (vs.set 4 v) c := by
  obtain ⟨h0, rv, rfl, _⟩ := h
  exact ⟨rfl, h0, v, rfl, hv⟩

theorem law_ok {w : World} {vs : List Value} {p : Prg} (hp : RPrg [] w vs p) :
    Calls Try.prog 3 #[.agg vs.toArray] w (Ret fun v w' => v = .bool true ∧ Evo [] w w') := by
  have hp0 := hp
  obtain ⟨hok, iv, nv, rfl, hiv, hnv⟩ := hp
  have hil := hok.ilen
  have hnl := hok.nlen
  have hiv0 := hiv
  have hnv0 := hnv
  obtain ⟨a3, c3, rfl, hl3, e3⟩ := hiv
  obtain ⟨a4, c4, rfl, hl4, e4⟩ := hnv
  refine calls_of_cw (N := 53) Try.func3 rfl rfl rfl ?_
  refine cw_seq ?_
  refine cw_region ?_
  refine wl_boxA rfl rfl fun b1 w2 hB3 hs4 hw5 => ?_
  have hG6 := Ge.new (Evo.refl [] w) hs4
  have hE7 := (Evo.refl [] w).then hw5
  refine wl_val rfl (ex_assign rfl) ?_
  refine wl_nil (nrm_then ?_)
  refine cw_seq ?_
  refine cw_seq ?_
  refine cw_region ?_
  refine wl_val rfl (ex_build (vs := [(0, _)]) Try.build29 rfl (cells := [_, _, _, _, _]) rfl) ?_
  refine wl_bslice (vs := [_]) rfl Try.slice22 rfl rfl rfl rfl fun b8 w9 hO10 hs11 hw12 => ?_
  have hA13 := Apart.new (Lt.blk hB3) hs11
  have hG14 := Ge.new hE7 hs11
  have hE15 := hE7.then hw12
  have hB16 := hw12.blk0 hB3
  refine wl_val rfl (ex_build (vs := [(0, _)]) Try.build25 rfl (cells := [_, _, _, _]) rfl) ?_
  refine wl_call1 (vs := [_]) Try.goes6 rfl (Sound_ok (X := []) (p := P0) ⟨P0.ok, _, _, rfl, RSl.ofOwn (rows := [[_, _, _, _, _]]) hO10 P0.rows rfl (fun _ _ => by simp), rnil⟩) rfl ?_
  rintro _ w17 ⟨b0, rfl, hb0, hw18⟩
  have hE19 := hE15.then hw18
  have hB20 := hw18.blk0 hB16
  have hO21 := hO10.evo0 hw18
  have hb0' := hb0.2 P0.sound
  subst hb0'
  refine wl_val rfl (ex_notb rfl) ?_
  refine wl_nil (nrm_then ?_)
  refine cw_ifb rfl (fun hc10 => ?_) (fun hc10 => ?_)
  · skip
    simp at hc10
  · skip
    refine cw_skip (nrm_then ?_)
    refine cw_seq ?_
    refine cw_region ?_
    refine wl_val rfl (ex_loadBlk rfl Try.agg25 Try.size25 hB20 rfl) ?_
    refine wl_call1 (vs := [_]) Try.goes7 rfl (rSound_ok (RPrg.pers _ _ _ _ _ hE19 hp0)) rfl ?_
    rintro _ w22 ⟨want, rfl, hwant, hw23⟩
    have hE24 := hE19.then hw23
    have hB25 := hw23.blk0 hB20
    refine wl_val rfl (ex_assign rfl) ?_
    refine wl_nil (nrm_then ?_)
    refine cw_seq ?_
    refine cw_region ?_
    refine wl_val rfl (ex_loadBlk rfl Try.agg25 Try.size25 hB25 rfl) ?_
    refine wl_alloc rfl Try.zero25 fun b26 w27 hB28 hs29 hw30 => ?_
    have hA31 := Apart.new (Lt.blk hB25) hs29
    have hG32 := Ge.new hE24 hs29
    have hE33 := hE24.then hw30
    have hB34 := hw30.blk0 hB25
    refine wl_storeBlk rfl rfl Try.size25 hB28 rfl rfl ⟨by first | rfl | assumption, by first | rfl | assumption, by first | rfl | assumption, by first | rfl | assumption, trivial⟩ fun w35 hB36 hw37 => ?_
    have hE38 := hE33.step hw37 hG32.mem1
    have hB39 := hw37.blk hB34 hA31.nmem1
    refine wl_nil (nrm_then ?_)
    refine cw_seq ?_
    refine cw_region ?_
    refine wl_bslice (vs := []) rfl Try.slice23 rfl rfl rfl rfl fun b40 w41 hO42 hs43 hw44 => ?_
    have hA45 := Apart.new (Lt.blk hB39) hs43
    have hA46 := Apart.new (Lt.blk hB36) hs43
    have hG47 := Ge.new hE38 hs43
    have hE48 := hE38.then hw44
    have hB49 := hw44.blk0 hB39
    have hB50 := hw44.blk0 hB36
    refine wl_val rfl (ex_fieldAddr rfl Try.fld25_3) ?_
    refine wl_val rfl (ex_load1 rfl Try.agg23 (cell_nth hB49 rfl)) ?_
    obtain ⟨nrows, hnr, hns⟩ := hnv0.rows (P := Try.prog) hE48 RStr.one
    refine wl_append rfl rfl rfl rfl Try.app23_23 hO42 hns (by omega) fun an cn w53 obn hO55 hw56 hob57 => ?_
    have hA58 := hA45.app (Lt.blk hB49) hob57
    have hA59 := hA46.app (Lt.blk hB50) hob57
    have hG60 := hG47.app hE48 hob57
    have hE61 := hE48.step hw56 hG47.mem
    have hB62 := hw56.blk hB49 hA45.nmem
    have hB63 := hw56.blk hB50 hA46.nmem
    refine wl_val rfl (ex_fieldAddr rfl Try.fld25_3) ?_
    refine wl_store1 rfl rfl (by first | rfl | assumption) Try.size23 hB63 rfl fun w64 hB65 hw66 => ?_
    have hE67 := hE61.step hw66 hG32.mem1
    have hB68 := hw66.blk hB62 hA31.nmem1
    have hO69 := hO55.evo hw66 hA59.symm.own1
    refine wl_nil (nrm_then ?_)
    refine cw_seq ?_
    refine cw_region ?_
    refine wl_bslice (vs := []) rfl Try.slice22 rfl rfl rfl rfl fun b70 w71 hO72 hs73 hw74 => ?_
    have hA75 := Apart.new (Lt.blk hB68) hs73
    have hA76 := Apart.new (Lt.blk hB65) hs73
    have hA77 := Apart.new (Lt.own hO69) hs73
    have hG78 := Ge.new hE67 hs73
    have hE79 := hE67.then hw74
    have hB80 := hw74.blk0 hB68
    have hB81 := hw74.blk0 hB65
    have hO82 := hO69.evo0 hw74
    refine wl_val rfl (ex_fieldAddr rfl Try.fld25_0) ?_
    refine wl_val rfl (ex_load1 rfl Try.agg22 (cell_nth hB80 rfl)) ?_
    obtain ⟨irows, hir, his⟩ := hiv0.rows (P := Try.prog) hE79 RInst.one
    refine wl_append rfl rfl rfl rfl Try.app22_22 hO72 his (by omega) fun aq cq w85 obq hO87 hw88 hob89 => ?_
    have hA90 := hA75.app (Lt.blk hB80) hob89
    have hA91 := hA76.app (Lt.blk hB81) hob89
    have hA92 := hA77.app (Lt.own hO82) hob89
    have hG93 := hG78.app hE79 hob89
    have hE94 := hE79.step hw88 hG78.mem
    have hB95 := hw88.blk hB80 hA75.nmem
    have hB96 := hw88.blk hB81 hA76.nmem
    have hO97 := hO82.evo hw88 hA77.own
    refine wl_val rfl (ex_fieldAddr rfl Try.fld25_0) ?_
    refine wl_store1 rfl rfl (by first | rfl | assumption) Try.size22 hB96 rfl fun w98 hB99 hw100 => ?_
    have hE101 := hE94.step hw100 hG32.mem1
    have hB102 := hw100.blk hB95 hA31.nmem1
    have hO103 := hO97.evo hw100 hA59.symm.own1
    have hO104 := hO87.evo hw100 hA91.symm.own1
    refine wl_nil (nrm_then ?_)
    refine cw_seq ?_
    refine cw_seq ?_
    refine cw_region ?_
    refine wl_val rfl (ex_assign rfl) ?_
    refine wl_nil (nrm_then ?_)
    refine cw_block ?_
    refine cw_loop (α := Nat × List (List Value)) ((0, irows)) (fun x => [(5, .int .i64 (x.1 : Nat))]) [(1, _), (2, _), (3, _), (4, _)] (fun x wr => Evo obq.toList w98 wr ∧ (x.1 ≤ p.insts.length ∧ OwnS wr 29 5 aq (0 + p.insts.length) cq x.2.flatten obq ∧ RowsOk 5 RInst obq.toList wr x.2 p.insts)) (fun x => p.insts.length - x.1) ⟨rfl, trivial⟩ ⟨rfl, rfl, rfl, rfl, trivial⟩ ⟨Evo.refl _ _, ⟨Nat.zero_le _, hO104, (hir.fresh RInst.fresh (Ge.mem hG93)).evo RInst.pers ((hE101).any _)⟩⟩ ?_
    rintro ⟨k, rows⟩ wr105 ⟨hV106, ⟨hk, hOq, hrows⟩⟩
    show CW _ _ _ _ [(5, _), (1, _), (2, _), (3, _), (4, _)] _
    have hE107 := hE101.step hV106 (hG93.mem)
    have hB108 := hV106.blk hB102 (hA90.nmem)
    have hB109 := hV106.blk hB99 (hA91.nmem)
    have hB110 := hO103.evo hV106 (hA92.own)
    refine cw_seq ?_
    refine cw_seq ?_
    refine cw_region ?_
    refine wl_val rfl (ex_move rfl) ?_
    refine wl_val rfl (ex_fieldAddr rfl Try.fld25_0) ?_
    refine wl_val rfl (ex_load1 rfl Try.agg22 (cell_nth hB109 rfl)) ?_
    refine wl_val rfl (ex_len_slice rfl Try.underlying22 rfl) ?_
    refine wl_val rfl (ex_lss rfl rfl) ?_
    refine wl_nil (nrm_then ?_)
    refine cw_if rfl (fun hc28 => ?_) (fun hc28 => ?_)
    · skip
      have hk' : k < p.insts.length := by omega
      have hkr : k < rows.length := by rw [hrows.1]; exact hk'
      obtain ⟨g, cur, hg, haq, -, -, -⟩ := hOq.at (by omega)
      obtain ⟨b1', o1, vs1, ha1, -, -, hc1, hi1, rv1, rfl, hr1⟩ := e3 k hk'
      refine cw_skip (nrm_then ?_)
      refine cw_seq ?_
      refine cw_block ?_
      refine cw_any (fun w0 w' => Evo obq.toList w0 w') (by kernel_rfl) (fun w111 hw112 => ?_)
      have hE113 := hE107.then hw112
      have hE114 := hV106.then hw112
      have hE115 := (Evo.refl (obq.toList) wr105).then hw112
      have hB116 := hw112.blk0 hB108
      have hB117 := hw112.blk0 hB109
      have hO118 := hB110.evo0 hw112
      have hO119 := hOq.evo0 hw112
      refine ae_take 0 rfl (by kernel_rfl) (by kernel_rfl) (by kernel_rfl) rfl (fun _ hS => ex_fieldAddr rfl Try.fld25_0) (Evo.refl obq.toList w111) ?_
      refine ae_take 1 rfl (by kernel_rfl) (by kernel_rfl) (by kernel_rfl) rfl (fun _ hS => ex_load1 rfl Try.agg22 (cell_nth (hS.blk hB117 (hA91.nmem)) rfl)) (Evo.refl obq.toList w111) ?_
      refine ae_take 2 rfl (by kernel_rfl) (by kernel_rfl) (by kernel_rfl) rfl (fun _ hS => ex_move rfl) (Evo.refl obq.toList w111) ?_
      refine ae_take 4 rfl (by kernel_rfl) (by kernel_rfl) (by kernel_rfl) rfl (fun _ hS => ex_fieldAddr rfl Try.fld25_0) (Evo.refl obq.toList w111) ?_
      refine ae_take 5 rfl (by kernel_rfl) (by kernel_rfl) (by kernel_rfl) rfl (fun _ hS => ex_load1 rfl Try.agg22 (cell_nth (hS.blk hB116 (hA90.nmem)) rfl)) (Evo.refl obq.toList w111) ?_
      refine ae_take 6 rfl (by kernel_rfl) (by kernel_rfl) (by kernel_rfl) rfl (fun _ hS => ex_move rfl) (Evo.refl obq.toList w111) ?_
      refine ae_take 7 rfl (by kernel_rfl) (by kernel_rfl) (by kernel_rfl) rfl (fun _ hS => ex_indexAddr (n := k) (by rw [ha1]; rfl) rfl Try.elem22 hk') (Evo.refl obq.toList w111) ?_
      refine ae_take 8 rfl (by kernel_rfl) (by kernel_rfl) (by kernel_rfl) rfl (fun _ hS => ex_fieldAddr rfl Try.fld29_4) (Evo.refl obq.toList w111) ?_
      refine ae_take 9 rfl (by kernel_rfl) (by kernel_rfl) (by kernel_rfl) rfl (fun _ hS => ex_load1 rfl Try.agg27 ((hc1.evo (hE113.step hS (hG93.mem)) (by simp)) 4 _ rfl)) (Evo.refl obq.toList w111) ?_
      refine ae_loud [3] (by kernel_rfl) rfl ⟨?_, trivial⟩
      refine a_step rfl ?_
      refine wl_bslice (vs := []) rfl Try.slice27 rfl rfl rfl rfl fun b120 w121 hO122 hs123 hw124 => ?_
      have hA125 := Apart.new (Lt.blk hB116) hs123
      have hA126 := Apart.new (Lt.blk hB117) hs123
      have hA127 := Apart.new (Lt.own hO118) hs123
      have hA128 := Apart.new (Lt.own hO119) hs123
      have hG129 := Ge.new hE113 hs123
      have hG130 := Ge.new hE114 hs123
      have hG131 := Ge.new hE115 hs123
      have hG132 := Ge.new (Evo.refl obq.toList w111) hs123
      have hE133 := hE113.then hw124
      have hE134 := hE114.then hw124
      have hE135 := hE115.then hw124
      have hE136 := (Evo.refl obq.toList w111).then hw124
      have hB137 := hw124.blk0 hB116
      have hB138 := hw124.blk0 hB117
      have hO139 := hO118.evo0 hw124
      have hO140 := hO119.evo0 hw124
      refine wl_nil (ae_next (.inl hE136) ?_)
      refine ae_loud [10] (by kernel_rfl) rfl ⟨?_, trivial⟩
      refine a_step rfl ?_
      obtain ⟨rrows, hrr, hrs⟩ := hr1.rows (P := Try.prog) hE133 RRange.one
      have hrl := hi1.len
      refine wl_append rfl rfl rfl rfl Try.app27_27 hO122 hrs (by omega) fun ar cr w143 obr hO145 hw146 hob147 => ?_
      have hA148 := hA125.app (Lt.blk hB137) hob147
      have hA149 := hA126.app (Lt.blk hB138) hob147
      have hA150 := hA127.app (Lt.own hO139) hob147
      have hA151 := hA128.app (Lt.own hO140) hob147
      have hG152 := hG129.app hE133 hob147
      have hG153 := hG130.app hE134 hob147
      have hG154 := hG131.app hE135 hob147
      have hG155 := hG132.app hE136 hob147
      have hE156 := hE133.step hw146 hG129.mem
      have hE157 := hE134.step hw146 hG130.mem
      have hE158 := hE135.step hw146 hG131.mem
      have hE159 := hE136.step hw146 hG132.mem
      have hB160 := hw146.blk hB137 hA125.nmem
      have hB161 := hw146.blk hB138 hA126.nmem
      have hO162 := hO139.evo hw146 hA127.own
      have hO163 := hO140.evo hw146 hA128.own
      refine wl_nil (ae_next (.inl hE159) ?_)
      refine ae_take 11 rfl (by kernel_rfl) (by kernel_rfl) (by kernel_rfl) rfl (fun _ hS => ex_indexAddr (n := k) (by rw [haq]; rfl) rfl Try.elem22 (by omega)) hE159 ?_
      refine ae_take 12 rfl (by kernel_rfl) (by kernel_rfl) (by kernel_rfl) rfl (fun _ hS => ex_fieldAddr rfl Try.fld29_4) hE159 ?_
      refine ae_loud [13] (by kernel_rfl) rfl ⟨?_, trivial⟩
      refine a_step rfl ?_
      obtain ⟨g173, cur164, hg165, hx166, hcu167, hcs168, -⟩ := hO163.at (by omega)
      rw [haq] at hx166; cases hx166
      refine wl_store1L rfl rfl (rfl) Try.size27 hcu167 (hO163.inb hcs168 (k := k) (j := 4) (by omega) (by omega) (by omega)) fun w169 hB170 hw171 => ?_
      replace hw171 := evo_ob hg165 hw171
      have hO172 := hO163.set' hg165 hcu167 hB170
      have hE174 := hE156.step hw171 hG93.mem
      have hE175 := hE157.step hw171 (by intro y hy; left; simpa using hy)
      have hE176 := hE158.step hw171 (by intro y hy; left; simpa using hy)
      have hE177 := hE159.step hw171 (by intro y hy; left; simpa using hy)
      have hB178 := hw171.blk hB160 hA90.nmem
      have hB179 := hw171.blk hB161 hA91.nmem
      have hO180 := hO162.evo hw171 hA92.own
      have hO181 := hO145.evo hw171 hA151.symm.own
      rw [show 0 + k * 5 + 4 = k * 5 + 4 by omega, flatten_set hrows.flen (k := k) (j := 4) (by rw [hrows.1]; exact hk') (by omega)] at hO172
      refine wl_nil (ae_next (.inl hE177) ?_)
      refine ae_done (by kernel_rfl) (nrm_block (nrm_then ?_))
      refine cw_region ?_
      refine wl_val rfl (ex_move rfl) ?_
      refine wl_val rfl (ex_add_i64 rfl rfl (by omega) (by omega)) ?_
      refine wl_val rfl (ex_assign rfl) ?_
      refine wl_nil (nrm_then ?_)
      refine ⟨(k + 1, rows.set k (rows[k].set 4 (.slice ar (0 + p.insts[k].rs.length) cr))), ?_, ⟨rfl, trivial⟩, ⟨rfl, rfl, rfl, rfl, trivial⟩, hE175, ?_⟩
      · omega
      · skip
        have hev := hE176
        have hrng : RSl 2 RRange obq.toList w169 (.slice ar (0 + p.insts[k].rs.length) cr) p.insts[k].rs := RSl.ofOwn (rows := rrows) hO181 ⟨hrr.1, fun j h h' => hrr.2 j h h'⟩ (by omega) hA151.symm.own
        have hrs2 := row_set (hrows.2 k hk' (by rw [hrows.1]; exact hk')).2 (v := .slice ar (0 + p.insts[k].rs.length) cr)
        have hold := (hrows.evo RInst.pers hev)
        have hrow := row_set (hold.2 k hk' (by rw [hrows.1]; exact hk')).2 hrng
        exact ⟨by omega, hO172, hold.set hk' hrow.1 hrow.2⟩
    · skip
      refine cw_exit (ex_then (ex_then (ex_here (nrm_then ?_))))
      refine cw_seq ?_
      refine cw_region ?_
      refine wl_val rfl (ex_loadBlk rfl Try.agg25 Try.size25 hB109 rfl) ?_
      have hqi : RSl 5 RInst [] wr105 (.slice aq (0 + p.insts.length) cq) p.insts := RSl.ofOwn hOq (hrows.fresh RInst.fresh (fun y hy => by cases hy)) (by omega) (fun _ _ => by simp)
      have hqn : RSl 1 RStr [] wr105 (.slice an (0 + p.names.length) cn) p.names := RSl.ofOwn (rows := nrows) hB110 ⟨hnr.1, fun j h h' => hnr.2 j h h'⟩ (by omega) (fun _ _ => by simp)
      refine wl_call1 (vs := [_]) Try.goes6 rfl (Sound_ok (X := []) (p := p) ⟨hok, _, _, rfl, hqi, hqn⟩) rfl ?_
      rintro _ w182 ⟨got, rfl, hgot, hw183⟩
      have hE184 := hE107.then hw183
      have hE185 := hV106.then hw183
      have hE186 := (Evo.refl (obq.toList) wr105).then hw183
      have hB187 := hw183.blk0 hB108
      have hB188 := hw183.blk0 hB109
      have hO189 := hB110.evo0 hw183
      have hO190 := hOq.evo0 hw183
      have hX := hw183
      refine wl_val rfl (ex_move rfl) ?_
      obtain rfl : got = want := by cases got <;> cases want <;> simp_all
      refine wl_val rfl (ex_eqB rfl rfl Try.underlying4) ?_
      refine wl_val rfl (ex_move rfl) ?_
      refine wl_splitb (t := 48) rfl (fun hs48 => ?_) (fun hs48 => ?_)
      · skip
        refine wl_go rfl rfl rfl rfl ?_
        refine wl_val rfl (ex_loadBlk rfl Try.agg25 Try.size25 hB187 rfl) ?_
        refine wl_go rfl rfl rfl rfl ?_
        refine wl_val rfl (ex_loadBlk rfl Try.agg25 Try.size25 hB188 rfl) ?_
        refine wl_go rfl rfl rfl rfl ?_
        refine wl_call1 (vs := [_, _]) Try.goes8 rfl (sameProg_ok (X := []) (p := p) (q := p) (RPrg.pers _ _ _ _ _ hE184 hp0) ⟨hok, _, _, rfl, RSl.evo RInst.pers hX hqi, RSl.evo RStr.pers hX hqn⟩) rfl ?_
        rintro _ w191 ⟨same, rfl, hsame, hw192⟩
        have hE193 := hE184.then hw192
        have hE194 := hE185.then hw192
        have hE195 := hE186.then hw192
        have hB196 := hw192.blk0 hB187
        have hB197 := hw192.blk0 hB188
        have hO198 := hO189.evo0 hw192
        have hO199 := hO190.evo0 hw192
        refine wl_val rfl (ex_pick_t rfl rfl) ?_
        refine wl_val rfl (ex_assign rfl) ?_
        refine wl_nil (nrm_then ?_)
        refine cw_ret (body_ret1 rfl rfl ?_)
        have hs := hsame.2 rfl
        exact ⟨by rw [hs], hE193⟩
      · skip
        simp at hs48

end Go.Proofs.Ytopjnoblhleimaa
