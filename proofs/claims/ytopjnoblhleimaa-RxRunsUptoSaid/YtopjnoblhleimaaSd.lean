import Derived.Test.YtopjnoblhleimaaSc
namespace Go.Proofs.Ytopjnoblhleimaa
open Go.Proofs
open Go.W
attribute [local irreducible] Decidable.decide
set_option linter.unusedSimpArgs false
set_option linter.unusedVariables false
theorem Try.goes26 : Goes Try.prog 26 := ⟨_, Try.func26, by kernel_rfl, by kernel_rfl⟩
theorem Try.goes27 : Goes Try.prog 27 := ⟨_, Try.func27, by kernel_rfl, by kernel_rfl⟩
theorem Try.zero29 : zeroB Try.prog 29 = some #[.int .i64 0, .int .i64 0, .int .i64 0, .int .i64 0, .slice none 0 0] := by kernel_rfl


theorem Inst.ext' {c d : Inst} (h1 : c.op = d.op) (h2 : c.out = d.out) (h3 : c.alt = d.alt) (h4 : c.arg = d.arg) (h5 : c.rs = d.rs) : c = d := by cases c; cases d; simp_all
theorem Prg.ext' {p q : Prg} (h1 : p.insts = q.insts) (h2 : p.start = q.start) (h3 : p.groups = q.groups) (h4 : p.names = q.names) : p = q := by cases p; cases q; simp_all
def icells (c : Inst) (rv : Value) : Array Value := #[.int .i64 c.op, .int .i64 c.out, .int .i64 c.alt, .int .i64 c.arg, rv]

theorem sameProg_ok {X : List Nat} {w : World} {vs us : List Value} {p q : Prg} (hp : RPrg X w vs p) (hq : RPrg X w us q) :
    Calls Try.prog 8 #[.agg vs.toArray, .agg us.toArray] w (Ret fun v w' => ∃ b, v = .bool b ∧ (b = true ↔ p = q) ∧ Evo [] w w') := by
  obtain ⟨hok, iv, nv, rfl, hiv, hnv⟩ := hp
  have hil := hok.ilen
  have hnl := hok.nlen
  obtain ⟨hokq, iu, nu, rfl, hiu, hnu⟩ := hq
  have hilq := hokq.ilen
  obtain ⟨a3, c3, rfl, hl3, e3⟩ := hiv
  obtain ⟨a5, c5, rfl, hl5, e5⟩ := hiu
  refine calls_of_cw (N := 88) Try.func8 rfl rfl rfl ?_
  refine cw_seq ?_
  refine cw_region ?_
  refine wl_boxA rfl rfl fun b1 w2 hB3 hs4 hw5 => ?_
  have hG6 := Ge.new (Evo.refl [] w) hs4
  have hE7 := (Evo.refl [] w).then hw5
  refine wl_boxA rfl rfl fun b8 w9 hB10 hs11 hw12 => ?_
  have hA13 := Apart.new (Lt.blk hB3) hs11
  have hG14 := Ge.new hE7 hs11
  have hE15 := hE7.then hw12
  have hB16 := hw12.blk0 hB3
  refine wl_val rfl (ex_assign rfl) ?_
  refine wl_nil (nrm_then ?_)
  refine cw_seq ?_
  refine cw_seq ?_
  refine cw_region ?_
  refine wl_val rfl (ex_fieldAddr rfl Try.fld25_1) ?_
  refine wl_val rfl (ex_load1 rfl Try.agg3 (cell_nth hB16 rfl)) ?_
  refine wl_val rfl (ex_fieldAddr rfl Try.fld25_1) ?_
  refine wl_val rfl (ex_load1 rfl Try.agg3 (cell_nth hB10 rfl)) ?_
  refine wl_val rfl (ex_neq rfl rfl) ?_
  refine wl_val rfl (ex_move rfl) ?_
  refine wl_split (t := 13) rfl (fun hs13 => ?_) (fun hs13 => ?_)
  · skip
    refine wl_no rfl rfl rfl rfl rfl rfl ?_
    refine wl_no rfl rfl rfl rfl rfl rfl ?_
    refine wl_no rfl rfl rfl rfl rfl rfl ?_
    refine wl_no rfl rfl rfl rfl rfl rfl ?_
    refine wl_no rfl rfl rfl rfl rfl rfl ?_
    refine wl_val rfl (ex_pick_t rfl rfl) ?_
    refine wl_val rfl (ex_move rfl) ?_
    refine wl_no rfl rfl rfl rfl rfl rfl ?_
    refine wl_no rfl rfl rfl rfl rfl rfl ?_
    refine wl_no rfl rfl rfl rfl rfl rfl ?_
    refine wl_no rfl rfl rfl rfl rfl rfl ?_
    refine wl_no rfl rfl rfl rfl rfl rfl ?_
    refine wl_no rfl rfl rfl rfl rfl rfl ?_
    refine wl_val rfl (ex_pick_t rfl rfl) ?_
    refine wl_val rfl (ex_move rfl) ?_
    refine wl_no rfl rfl rfl rfl rfl rfl ?_
    refine wl_no rfl rfl rfl rfl rfl rfl ?_
    refine wl_no rfl rfl rfl rfl rfl rfl ?_
    refine wl_no rfl rfl rfl rfl rfl rfl ?_
    refine wl_no rfl rfl rfl rfl rfl rfl ?_
    refine wl_no rfl rfl rfl rfl rfl rfl ?_
    refine wl_no rfl rfl rfl rfl rfl rfl ?_
    refine wl_val rfl (ex_pick_t rfl rfl) ?_
    refine wl_nil (nrm_then ?_)
    refine cw_true rfl ?_
    refine cw_seq ?_
    refine cw_region ?_
    refine wl_val rfl (ex_assign rfl) ?_
    refine wl_nil (nrm_then ?_)
    refine cw_ret (ret_then (body_ret1 rfl rfl ?_))
    exact ⟨_, rfl, ⟨fun h => (by cases h), fun h => (by subst h; exact (hs13 rfl).elim)⟩, hE15⟩
  · skip
    refine wl_go rfl rfl rfl rfl ?_
    refine wl_val rfl (ex_fieldAddr rfl Try.fld25_2) ?_
    refine wl_go rfl rfl rfl rfl ?_
    refine wl_val rfl (ex_load1 rfl Try.agg3 (cell_nth hB16 rfl)) ?_
    refine wl_go rfl rfl rfl rfl ?_
    refine wl_val rfl (ex_fieldAddr rfl Try.fld25_2) ?_
    refine wl_go rfl rfl rfl rfl ?_
    refine wl_val rfl (ex_load1 rfl Try.agg3 (cell_nth hB10 rfl)) ?_
    refine wl_go rfl rfl rfl rfl ?_
    refine wl_val rfl (ex_neq rfl rfl) ?_
    refine wl_val rfl (ex_pick_f rfl rfl) ?_
    refine wl_val rfl (ex_move rfl) ?_
    refine wl_split (t := 20) rfl (fun hs20 => ?_) (fun hs20 => ?_)
    · skip
      refine wl_no rfl rfl rfl rfl rfl rfl ?_
      refine wl_no rfl rfl rfl rfl rfl rfl ?_
      refine wl_no rfl rfl rfl rfl rfl rfl ?_
      refine wl_no rfl rfl rfl rfl rfl rfl ?_
      refine wl_no rfl rfl rfl rfl rfl rfl ?_
      refine wl_no rfl rfl rfl rfl rfl rfl ?_
      refine wl_val rfl (ex_pick_t rfl rfl) ?_
      refine wl_val rfl (ex_move rfl) ?_
      refine wl_no rfl rfl rfl rfl rfl rfl ?_
      refine wl_no rfl rfl rfl rfl rfl rfl ?_
      refine wl_no rfl rfl rfl rfl rfl rfl ?_
      refine wl_no rfl rfl rfl rfl rfl rfl ?_
      refine wl_no rfl rfl rfl rfl rfl rfl ?_
      refine wl_no rfl rfl rfl rfl rfl rfl ?_
      refine wl_no rfl rfl rfl rfl rfl rfl ?_
      refine wl_val rfl (ex_pick_t rfl rfl) ?_
      refine wl_nil (nrm_then ?_)
      refine cw_true rfl ?_
      refine cw_seq ?_
      refine cw_region ?_
      refine wl_val rfl (ex_assign rfl) ?_
      refine wl_nil (nrm_then ?_)
      refine cw_ret (ret_then (body_ret1 rfl rfl ?_))
      exact ⟨_, rfl, ⟨fun h => (by cases h), fun h => (by subst h; exact (hs20 rfl).elim)⟩, hE15⟩
    · skip
      refine wl_go rfl rfl rfl rfl ?_
      refine wl_val rfl (ex_fieldAddr rfl Try.fld25_3) ?_
      refine wl_go rfl rfl rfl rfl ?_
      refine wl_val rfl (ex_load1 rfl Try.agg23 (cell_nth hB16 rfl)) ?_
      refine wl_go rfl rfl rfl rfl ?_
      refine wl_val rfl (ex_fieldAddr rfl Try.fld25_3) ?_
      refine wl_go rfl rfl rfl rfl ?_
      refine wl_val rfl (ex_load1 rfl Try.agg23 (cell_nth hB10 rfl)) ?_
      refine wl_go rfl rfl rfl rfl ?_
      refine wl_call1 (vs := [_, _]) Try.goes26 rfl (sameTexts_ok (X := X) (d1 := p.names) (d2 := q.names) (hnv.evo RStr.pers ((hE15).any X)) (hnu.evo RStr.pers ((hE15).any X)) (by omega)) rfl ?_
      rintro _ w17 ⟨rfl, hw18⟩
      have hE19 := hE15.then hw18
      have hB20 := hw18.blk0 hB16
      have hB21 := hw18.blk0 hB10
      refine wl_go rfl rfl rfl rfl ?_
      refine wl_val rfl (ex_not rfl) ?_
      refine wl_val rfl (ex_pick_f rfl rfl) ?_
      refine wl_val rfl (ex_move rfl) ?_
      refine wl_split (t := 28) rfl (fun hs28 => ?_) (fun hs28 => ?_)
      · skip
        refine wl_no rfl rfl rfl rfl rfl rfl ?_
        refine wl_no rfl rfl rfl rfl rfl rfl ?_
        refine wl_no rfl rfl rfl rfl rfl rfl ?_
        refine wl_no rfl rfl rfl rfl rfl rfl ?_
        refine wl_no rfl rfl rfl rfl rfl rfl ?_
        refine wl_no rfl rfl rfl rfl rfl rfl ?_
        refine wl_no rfl rfl rfl rfl rfl rfl ?_
        refine wl_val rfl (ex_pick_t rfl rfl) ?_
        refine wl_nil (nrm_then ?_)
        refine cw_true rfl ?_
        refine cw_seq ?_
        refine cw_region ?_
        refine wl_val rfl (ex_assign rfl) ?_
        refine wl_nil (nrm_then ?_)
        refine cw_ret (ret_then (body_ret1 rfl rfl ?_))
        exact ⟨_, rfl, ⟨fun h => (by cases h), fun h => (by subst h; exact (hs28 rfl).elim)⟩, hE19⟩
      · skip
        refine wl_go rfl rfl rfl rfl ?_
        refine wl_val rfl (ex_fieldAddr rfl Try.fld25_0) ?_
        refine wl_go rfl rfl rfl rfl ?_
        refine wl_val rfl (ex_load1 rfl Try.agg22 (cell_nth hB20 rfl)) ?_
        refine wl_go rfl rfl rfl rfl ?_
        refine wl_val rfl (ex_len_slice rfl Try.underlying22 rfl) ?_
        refine wl_go rfl rfl rfl rfl ?_
        refine wl_val rfl (ex_fieldAddr rfl Try.fld25_0) ?_
        refine wl_go rfl rfl rfl rfl ?_
        refine wl_val rfl (ex_load1 rfl Try.agg22 (cell_nth hB21 rfl)) ?_
        refine wl_go rfl rfl rfl rfl ?_
        refine wl_val rfl (ex_len_slice rfl Try.underlying22 rfl) ?_
        refine wl_go rfl rfl rfl rfl ?_
        refine wl_val rfl (ex_neq rfl rfl) ?_
        refine wl_val rfl (ex_pick_f rfl rfl) ?_
        refine wl_nil (nrm_then ?_)
        refine cw_if rfl (fun hc36 => ?_) (fun hc36 => ?_)
        · skip
          refine cw_seq ?_
          refine cw_region ?_
          refine wl_val rfl (ex_assign rfl) ?_
          refine wl_nil (nrm_then ?_)
          refine cw_ret (ret_then (body_ret1 rfl rfl ?_))
          exact ⟨_, rfl, ⟨fun h => (by cases h), fun h => (by subst h; exact (hc36 rfl).elim)⟩, hE19⟩
        · skip
          refine cw_skip (nrm_then ?_)
          refine cw_seq ?_
          refine cw_seq ?_
          refine cw_region ?_
          refine wl_val rfl (ex_assign rfl) ?_
          refine wl_nil (nrm_then ?_)
          refine cw_block ?_
          refine cw_loop (α := Nat) (0) (fun k => [(5, .int .i64 (k : Nat))]) [(2, _), (3, _)] (fun k wr => Evo [] w17 wr ∧ (k ≤ p.insts.length ∧ p.insts.take k = q.insts.take k)) (fun k => p.insts.length - k) ⟨rfl, trivial⟩ ⟨rfl, rfl, trivial⟩ ⟨Evo.refl _ _, ⟨Nat.zero_le _, rfl⟩⟩ ?_
          rintro k wr22 ⟨hV23, ⟨hk, hpre⟩⟩
          show CW _ _ _ _ [(5, _), (2, _), (3, _)] _
          have hE24 := hE19.then hV23
          have hB25 := hV23.blk0 hB20
          have hB26 := hV23.blk0 hB21
          refine cw_seq ?_
          refine cw_seq ?_
          refine cw_region ?_
          refine wl_val rfl (ex_move rfl) ?_
          refine wl_val rfl (ex_fieldAddr rfl Try.fld25_0) ?_
          refine wl_val rfl (ex_load1 rfl Try.agg22 (cell_nth hB25 rfl)) ?_
          refine wl_val rfl (ex_len_slice rfl Try.underlying22 rfl) ?_
          refine wl_val rfl (ex_lss rfl rfl) ?_
          refine wl_nil (nrm_then ?_)
          refine cw_if rfl (fun hc41 => ?_) (fun hc41 => ?_)
          · skip
            have hkp : k < p.insts.length := by omega
            have hkq : k < q.insts.length := by omega
            obtain ⟨b1, o1, vs1, ha1, -, -, hc1, hi1, rv1, rfl, hr1⟩ := e3 k hkp
            obtain ⟨b2, o2, vs2, ha2, -, -, hc2, hi2, rv2, rfl, hr2⟩ := e5 k hkq
            have ho1 := hr1.one
            have ho2 := hr2.one
            refine cw_skip (nrm_then ?_)
            refine cw_seq ?_
            refine cw_block ?_
            refine cw_seq ?_
            refine cw_cut (α := Nat × Nat) (fun x => [(6, .pointer (some ⟨x.1, 0, none⟩)), (7, .pointer (some ⟨x.2, 0, none⟩))]) [(2, _), (3, _), (5, _)] (fun x wr => Evo [] wr22 wr ∧ (wr.heap[x.1]? = some (.cells (icells p.insts[k] rv1) 29 (0, 0)) ∧ wr.heap[x.2]? = some (.cells (icells q.insts[k] rv2) 29 (0, 0)))) ⟨rfl, rfl, rfl, trivial⟩ ?_ ?_
            · skip
              refine cw_any (fun w0 w' => Evo [] w0 w') (by kernel_rfl) (fun w27 hw28 => ?_)
              have hE29 := hE24.then hw28
              have hE30 := hV23.then hw28
              have hE31 := (Evo.refl [] wr22).then hw28
              have hB32 := hw28.blk0 hB25
              have hB33 := hw28.blk0 hB26
              refine ae_take 0 rfl (by kernel_rfl) (by kernel_rfl) (by kernel_rfl) rfl (fun _ hS => ex_fieldAddr rfl Try.fld25_0) (Evo.refl [] w27) ?_
              refine ae_take 1 rfl (by kernel_rfl) (by kernel_rfl) (by kernel_rfl) rfl (fun _ hS => ex_load1 rfl Try.agg22 (cell_nth (hS.blk0 hB32) rfl)) (Evo.refl [] w27) ?_
              refine ae_take 2 rfl (by kernel_rfl) (by kernel_rfl) (by kernel_rfl) rfl (fun _ hS => ex_move rfl) (Evo.refl [] w27) ?_
              refine ae_take 3 rfl (by kernel_rfl) (by kernel_rfl) (by kernel_rfl) rfl (fun _ hS => ex_indexAddr (n := k) (by rw [ha1]; rfl) rfl Try.elem22 hkp) (Evo.refl [] w27) ?_
              refine ae_take 4 rfl (by kernel_rfl) (by kernel_rfl) (by kernel_rfl) rfl (fun _ hS => ex_loadA rfl Try.agg29 Try.size29 (vs := [_, _, _, _, _]) rfl (hc1.evo (hE29.then hS) (by simp))) (Evo.refl [] w27) ?_
              refine ae_take 5 rfl (by kernel_rfl) (by kernel_rfl) (by kernel_rfl) rfl (fun _ hS => ex_fieldAddr rfl Try.fld25_0) (Evo.refl [] w27) ?_
              refine ae_take 6 rfl (by kernel_rfl) (by kernel_rfl) (by kernel_rfl) rfl (fun _ hS => ex_load1 rfl Try.agg22 (cell_nth (hS.blk0 hB33) rfl)) (Evo.refl [] w27) ?_
              refine ae_take 7 rfl (by kernel_rfl) (by kernel_rfl) (by kernel_rfl) rfl (fun _ hS => ex_move rfl) (Evo.refl [] w27) ?_
              refine ae_take 8 rfl (by kernel_rfl) (by kernel_rfl) (by kernel_rfl) rfl (fun _ hS => ex_indexAddr (n := k) (by rw [ha2]; rfl) rfl Try.elem22 hkq) (Evo.refl [] w27) ?_
              refine ae_take 9 rfl (by kernel_rfl) (by kernel_rfl) (by kernel_rfl) rfl (fun _ hS => ex_loadA rfl Try.agg29 Try.size29 (vs := [_, _, _, _, _]) rfl (hc2.evo (hE29.then hS) (by simp))) (Evo.refl [] w27) ?_
              refine ae_loud [10, 11] (by kernel_rfl) rfl ⟨?_, ?_, trivial⟩
              · skip
                refine a_step rfl ?_
                refine wl_alloc rfl Try.zero29 fun b34 w35 hB36 hs37 hw38 => ?_
                have hA39 := Apart.new (Lt.blk hB32) hs37
                have hA40 := Apart.new (Lt.blk hB33) hs37
                have hG41 := Ge.new hE29 hs37
                have hG42 := Ge.new hE30 hs37
                have hG43 := Ge.new hE31 hs37
                have hG44 := Ge.new (Evo.refl [] w27) hs37
                have hE45 := hE29.then hw38
                have hE46 := hE30.then hw38
                have hE47 := hE31.then hw38
                have hE48 := (Evo.refl [] w27).then hw38
                have hB49 := hw38.blk0 hB32
                have hB50 := hw38.blk0 hB33
                refine wl_nil (ae_next (.inl hE48) ?_)
                refine ae_loud [11] (by kernel_rfl) rfl ⟨?_, trivial⟩
                refine a_step rfl ?_
                refine wl_alloc rfl Try.zero29 fun b51 w52 hB53 hs54 hw55 => ?_
                have hA56 := Apart.new (Lt.blk hB49) hs54
                have hA57 := Apart.new (Lt.blk hB50) hs54
                have hA58 := Apart.new (Lt.blk hB36) hs54
                have hG59 := Ge.new hE45 hs54
                have hG60 := Ge.new hE46 hs54
                have hG61 := Ge.new hE47 hs54
                have hG62 := Ge.new hE48 hs54
                have hE63 := hE45.then hw55
                have hE64 := hE46.then hw55
                have hE65 := hE47.then hw55
                have hE66 := hE48.then hw55
                have hB67 := hw55.blk0 hB49
                have hB68 := hw55.blk0 hB50
                have hB69 := hw55.blk0 hB36
                refine wl_nil (ae_next (.inl hE66) ?_)
                refine ae_loud [12] (by kernel_rfl) rfl ⟨?_, trivial⟩
                refine a_step rfl ?_
                refine wl_storeBlk rfl rfl Try.size29 hB69 rfl rfl ⟨by first | rfl | assumption, by first | rfl | assumption, by first | rfl | assumption, by first | rfl | assumption, by first | rfl | assumption, trivial⟩ fun w70 hB71 hw72 => ?_
                have hE73 := hE63.step hw72 hG41.mem1
                have hE74 := hE64.step hw72 hG42.mem1
                have hE75 := hE65.step hw72 hG43.mem1
                have hE76 := hE66.step hw72 hG44.mem1
                have hB77 := hw72.blk hB67 hA39.nmem1
                have hB78 := hw72.blk hB68 hA40.nmem1
                have hB79 := hw72.blk hB53 hA58.symm.nmem1
                refine wl_nil (ae_next (.inl hE76) ?_)
                refine ae_loud [13] (by kernel_rfl) rfl ⟨?_, trivial⟩
                refine a_step rfl ?_
                refine wl_storeBlk rfl rfl Try.size29 hB79 rfl rfl ⟨by first | rfl | assumption, by first | rfl | assumption, by first | rfl | assumption, by first | rfl | assumption, by first | rfl | assumption, trivial⟩ fun w80 hB81 hw82 => ?_
                have hE83 := hE73.step hw82 hG59.mem1
                have hE84 := hE74.step hw82 hG60.mem1
                have hE85 := hE75.step hw82 hG61.mem1
                have hE86 := hE76.step hw82 hG62.mem1
                have hB87 := hw82.blk hB77 hA56.nmem1
                have hB88 := hw82.blk hB78 hA57.nmem1
                have hB89 := hw82.blk hB71 hA58.nmem1
                refine wl_nil (ae_next (.inl hE86) ?_)
                refine ae_done (by kernel_rfl) (nrm_then ?_)
                refine ⟨(b34, b51), ⟨rfl, rfl, trivial⟩, ⟨rfl, rfl, rfl, trivial⟩, hE85, ?_⟩
                exact ⟨hB89, hB81⟩
              · skip
                refine a_step rfl ?_
                refine wl_alloc rfl Try.zero29 fun b90 w91 hB92 hs93 hw94 => ?_
                have hA95 := Apart.new (Lt.blk hB32) hs93
                have hA96 := Apart.new (Lt.blk hB33) hs93
                have hG97 := Ge.new hE29 hs93
                have hG98 := Ge.new hE30 hs93
                have hG99 := Ge.new hE31 hs93
                have hG100 := Ge.new (Evo.refl [] w27) hs93
                have hE101 := hE29.then hw94
                have hE102 := hE30.then hw94
                have hE103 := hE31.then hw94
                have hE104 := (Evo.refl [] w27).then hw94
                have hB105 := hw94.blk0 hB32
                have hB106 := hw94.blk0 hB33
                refine wl_nil (ae_next (.inl hE104) ?_)
                refine ae_loud [10] (by kernel_rfl) rfl ⟨?_, trivial⟩
                refine a_step rfl ?_
                refine wl_alloc rfl Try.zero29 fun b107 w108 hB109 hs110 hw111 => ?_
                have hA112 := Apart.new (Lt.blk hB105) hs110
                have hA113 := Apart.new (Lt.blk hB106) hs110
                have hA114 := Apart.new (Lt.blk hB92) hs110
                have hG115 := Ge.new hE101 hs110
                have hG116 := Ge.new hE102 hs110
                have hG117 := Ge.new hE103 hs110
                have hG118 := Ge.new hE104 hs110
                have hE119 := hE101.then hw111
                have hE120 := hE102.then hw111
                have hE121 := hE103.then hw111
                have hE122 := hE104.then hw111
                have hB123 := hw111.blk0 hB105
                have hB124 := hw111.blk0 hB106
                have hB125 := hw111.blk0 hB92
                refine wl_nil (ae_next (.inl hE122) ?_)
                refine ae_loud [12] (by kernel_rfl) rfl ⟨?_, trivial⟩
                refine a_step rfl ?_
                refine wl_storeBlk rfl rfl Try.size29 hB109 rfl rfl ⟨by first | rfl | assumption, by first | rfl | assumption, by first | rfl | assumption, by first | rfl | assumption, by first | rfl | assumption, trivial⟩ fun w126 hB127 hw128 => ?_
                have hE129 := hE119.step hw128 hG115.mem1
                have hE130 := hE120.step hw128 hG116.mem1
                have hE131 := hE121.step hw128 hG117.mem1
                have hE132 := hE122.step hw128 hG118.mem1
                have hB133 := hw128.blk hB123 hA112.nmem1
                have hB134 := hw128.blk hB124 hA113.nmem1
                have hB135 := hw128.blk hB125 hA114.nmem1
                refine wl_nil (ae_next (.inl hE132) ?_)
                refine ae_loud [13] (by kernel_rfl) rfl ⟨?_, trivial⟩
                refine a_step rfl ?_
                refine wl_storeBlk rfl rfl Try.size29 hB135 rfl rfl ⟨by first | rfl | assumption, by first | rfl | assumption, by first | rfl | assumption, by first | rfl | assumption, by first | rfl | assumption, trivial⟩ fun w136 hB137 hw138 => ?_
                have hE139 := hE129.step hw138 hG97.mem1
                have hE140 := hE130.step hw138 hG98.mem1
                have hE141 := hE131.step hw138 hG99.mem1
                have hE142 := hE132.step hw138 hG100.mem1
                have hB143 := hw138.blk hB133 hA95.nmem1
                have hB144 := hw138.blk hB134 hA96.nmem1
                have hB145 := hw138.blk hB127 hA114.symm.nmem1
                refine wl_nil (ae_next (.inl hE142) ?_)
                refine ae_done (by kernel_rfl) (nrm_then ?_)
                refine ⟨(b107, b90), ⟨rfl, rfl, trivial⟩, ⟨rfl, rfl, rfl, trivial⟩, hE141, ?_⟩
                exact ⟨hB145, hB137⟩
            · skip
              rintro ⟨b6, b7⟩ w146 ⟨hV147, ⟨hb6, hb7⟩⟩
              refine nrm_then ?_
              show CW _ _ _ _ [(6, .pointer (some ⟨b6, 0, none⟩)), (7, .pointer (some ⟨b7, 0, none⟩)), (2, _), (3, _), (5, _)] _
              try dsimp only at hb6
              try dsimp only at hb7
              have hE148 := hE24.then hV147
              have hE149 := hV23.then hV147
              have hB150 := hV147.blk0 hB25
              have hB151 := hV147.blk0 hB26
              refine cw_seq ?_
              refine cw_region ?_
              refine wl_val rfl (ex_fieldAddr rfl Try.fld29_0) ?_
              refine wl_val rfl (ex_load1 rfl Try.agg3 (cell_nth hb6 rfl)) ?_
              refine wl_val rfl (ex_fieldAddr rfl Try.fld29_0) ?_
              refine wl_val rfl (ex_load1 rfl Try.agg3 (cell_nth hb7 rfl)) ?_
              refine wl_val rfl (ex_neq rfl rfl) ?_
              refine wl_val rfl (ex_move rfl) ?_
              refine wl_split (t := 59) rfl (fun hs59 => ?_) (fun hs59 => ?_)
              · skip
                refine wl_no rfl rfl rfl rfl rfl rfl ?_
                refine wl_no rfl rfl rfl rfl rfl rfl ?_
                refine wl_no rfl rfl rfl rfl rfl rfl ?_
                refine wl_no rfl rfl rfl rfl rfl rfl ?_
                refine wl_no rfl rfl rfl rfl rfl rfl ?_
                refine wl_val rfl (ex_pick_t rfl rfl) ?_
                refine wl_val rfl (ex_move rfl) ?_
                refine wl_no rfl rfl rfl rfl rfl rfl ?_
                refine wl_no rfl rfl rfl rfl rfl rfl ?_
                refine wl_no rfl rfl rfl rfl rfl rfl ?_
                refine wl_no rfl rfl rfl rfl rfl rfl ?_
                refine wl_no rfl rfl rfl rfl rfl rfl ?_
                refine wl_val rfl (ex_pick_t rfl rfl) ?_
                refine wl_val rfl (ex_move rfl) ?_
                refine wl_no rfl rfl rfl rfl rfl rfl ?_
                refine wl_no rfl rfl rfl rfl rfl rfl ?_
                refine wl_no rfl rfl rfl rfl rfl rfl ?_
                refine wl_no rfl rfl rfl rfl rfl rfl ?_
                refine wl_no rfl rfl rfl rfl rfl rfl ?_
                refine wl_val rfl (ex_pick_t rfl rfl) ?_
                refine wl_val rfl (ex_move rfl) ?_
                refine wl_no rfl rfl rfl rfl rfl rfl ?_
                refine wl_no rfl rfl rfl rfl rfl rfl ?_
                refine wl_no rfl rfl rfl rfl rfl rfl ?_
                refine wl_no rfl rfl rfl rfl rfl rfl ?_
                refine wl_no rfl rfl rfl rfl rfl rfl ?_
                refine wl_no rfl rfl rfl rfl rfl rfl ?_
                refine wl_val rfl (ex_pick_t rfl rfl) ?_
                refine wl_nil (nrm_then ?_)
                refine cw_true rfl ?_
                refine cw_seq ?_
                refine cw_region ?_
                refine wl_val rfl (ex_assign rfl) ?_
                refine wl_nil (nrm_then ?_)
                refine cw_ret (ret_block (ret_then (ret_then (ret_block (ret_then (body_ret1 rfl rfl ?_))))))
                exact ⟨_, rfl, ⟨fun h => (by cases h), fun h => (by subst h; exact (hs59 rfl).elim)⟩, hE148⟩
              · skip
                refine wl_go rfl rfl rfl rfl ?_
                refine wl_val rfl (ex_fieldAddr rfl Try.fld29_1) ?_
                refine wl_go rfl rfl rfl rfl ?_
                refine wl_val rfl (ex_load1 rfl Try.agg3 (cell_nth hb6 rfl)) ?_
                refine wl_go rfl rfl rfl rfl ?_
                refine wl_val rfl (ex_fieldAddr rfl Try.fld29_1) ?_
                refine wl_go rfl rfl rfl rfl ?_
                refine wl_val rfl (ex_load1 rfl Try.agg3 (cell_nth hb7 rfl)) ?_
                refine wl_go rfl rfl rfl rfl ?_
                refine wl_val rfl (ex_neq rfl rfl) ?_
                refine wl_val rfl (ex_pick_f rfl rfl) ?_
                refine wl_val rfl (ex_move rfl) ?_
                refine wl_split (t := 66) rfl (fun hs66 => ?_) (fun hs66 => ?_)
                · skip
                  refine wl_no rfl rfl rfl rfl rfl rfl ?_
                  refine wl_no rfl rfl rfl rfl rfl rfl ?_
                  refine wl_no rfl rfl rfl rfl rfl rfl ?_
                  refine wl_no rfl rfl rfl rfl rfl rfl ?_
                  refine wl_no rfl rfl rfl rfl rfl rfl ?_
                  refine wl_val rfl (ex_pick_t rfl rfl) ?_
                  refine wl_val rfl (ex_move rfl) ?_
                  refine wl_no rfl rfl rfl rfl rfl rfl ?_
                  refine wl_no rfl rfl rfl rfl rfl rfl ?_
                  refine wl_no rfl rfl rfl rfl rfl rfl ?_
                  refine wl_no rfl rfl rfl rfl rfl rfl ?_
                  refine wl_no rfl rfl rfl rfl rfl rfl ?_
                  refine wl_val rfl (ex_pick_t rfl rfl) ?_
                  refine wl_val rfl (ex_move rfl) ?_
                  refine wl_no rfl rfl rfl rfl rfl rfl ?_
                  refine wl_no rfl rfl rfl rfl rfl rfl ?_
                  refine wl_no rfl rfl rfl rfl rfl rfl ?_
                  refine wl_no rfl rfl rfl rfl rfl rfl ?_
                  refine wl_no rfl rfl rfl rfl rfl rfl ?_
                  refine wl_no rfl rfl rfl rfl rfl rfl ?_
                  refine wl_val rfl (ex_pick_t rfl rfl) ?_
                  refine wl_nil (nrm_then ?_)
                  refine cw_true rfl ?_
                  refine cw_seq ?_
                  refine cw_region ?_
                  refine wl_val rfl (ex_assign rfl) ?_
                  refine wl_nil (nrm_then ?_)
                  refine cw_ret (ret_block (ret_then (ret_then (ret_block (ret_then (body_ret1 rfl rfl ?_))))))
                  exact ⟨_, rfl, ⟨fun h => (by cases h), fun h => (by subst h; exact (hs66 rfl).elim)⟩, hE148⟩
                · skip
                  refine wl_go rfl rfl rfl rfl ?_
                  refine wl_val rfl (ex_fieldAddr rfl Try.fld29_2) ?_
                  refine wl_go rfl rfl rfl rfl ?_
                  refine wl_val rfl (ex_load1 rfl Try.agg3 (cell_nth hb6 rfl)) ?_
                  refine wl_go rfl rfl rfl rfl ?_
                  refine wl_val rfl (ex_fieldAddr rfl Try.fld29_2) ?_
                  refine wl_go rfl rfl rfl rfl ?_
                  refine wl_val rfl (ex_load1 rfl Try.agg3 (cell_nth hb7 rfl)) ?_
                  refine wl_go rfl rfl rfl rfl ?_
                  refine wl_val rfl (ex_neq rfl rfl) ?_
                  refine wl_val rfl (ex_pick_f rfl rfl) ?_
                  refine wl_val rfl (ex_move rfl) ?_
                  refine wl_split (t := 73) rfl (fun hs73 => ?_) (fun hs73 => ?_)
                  · skip
                    refine wl_no rfl rfl rfl rfl rfl rfl ?_
                    refine wl_no rfl rfl rfl rfl rfl rfl ?_
                    refine wl_no rfl rfl rfl rfl rfl rfl ?_
                    refine wl_no rfl rfl rfl rfl rfl rfl ?_
                    refine wl_no rfl rfl rfl rfl rfl rfl ?_
                    refine wl_val rfl (ex_pick_t rfl rfl) ?_
                    refine wl_val rfl (ex_move rfl) ?_
                    refine wl_no rfl rfl rfl rfl rfl rfl ?_
                    refine wl_no rfl rfl rfl rfl rfl rfl ?_
                    refine wl_no rfl rfl rfl rfl rfl rfl ?_
                    refine wl_no rfl rfl rfl rfl rfl rfl ?_
                    refine wl_no rfl rfl rfl rfl rfl rfl ?_
                    refine wl_no rfl rfl rfl rfl rfl rfl ?_
                    refine wl_val rfl (ex_pick_t rfl rfl) ?_
                    refine wl_nil (nrm_then ?_)
                    refine cw_true rfl ?_
                    refine cw_seq ?_
                    refine cw_region ?_
                    refine wl_val rfl (ex_assign rfl) ?_
                    refine wl_nil (nrm_then ?_)
                    refine cw_ret (ret_block (ret_then (ret_then (ret_block (ret_then (body_ret1 rfl rfl ?_))))))
                    exact ⟨_, rfl, ⟨fun h => (by cases h), fun h => (by subst h; exact (hs73 rfl).elim)⟩, hE148⟩
                  · skip
                    refine wl_go rfl rfl rfl rfl ?_
                    refine wl_val rfl (ex_fieldAddr rfl Try.fld29_3) ?_
                    refine wl_go rfl rfl rfl rfl ?_
                    refine wl_val rfl (ex_load1 rfl Try.agg3 (cell_nth hb6 rfl)) ?_
                    refine wl_go rfl rfl rfl rfl ?_
                    refine wl_val rfl (ex_fieldAddr rfl Try.fld29_3) ?_
                    refine wl_go rfl rfl rfl rfl ?_
                    refine wl_val rfl (ex_load1 rfl Try.agg3 (cell_nth hb7 rfl)) ?_
                    refine wl_go rfl rfl rfl rfl ?_
                    refine wl_val rfl (ex_neq rfl rfl) ?_
                    refine wl_val rfl (ex_pick_f rfl rfl) ?_
                    refine wl_val rfl (ex_move rfl) ?_
                    refine wl_split (t := 80) rfl (fun hs80 => ?_) (fun hs80 => ?_)
                    · skip
                      refine wl_no rfl rfl rfl rfl rfl rfl ?_
                      refine wl_no rfl rfl rfl rfl rfl rfl ?_
                      refine wl_no rfl rfl rfl rfl rfl rfl ?_
                      refine wl_no rfl rfl rfl rfl rfl rfl ?_
                      refine wl_no rfl rfl rfl rfl rfl rfl ?_
                      refine wl_no rfl rfl rfl rfl rfl rfl ?_
                      refine wl_val rfl (ex_pick_t rfl rfl) ?_
                      refine wl_nil (nrm_then ?_)
                      refine cw_true rfl ?_
                      refine cw_seq ?_
                      refine cw_region ?_
                      refine wl_val rfl (ex_assign rfl) ?_
                      refine wl_nil (nrm_then ?_)
                      refine cw_ret (ret_block (ret_then (ret_then (ret_block (ret_then (body_ret1 rfl rfl ?_))))))
                      exact ⟨_, rfl, ⟨fun h => (by cases h), fun h => (by subst h; exact (hs80 rfl).elim)⟩, hE148⟩
                    · skip
                      refine wl_go rfl rfl rfl rfl ?_
                      refine wl_val rfl (ex_fieldAddr rfl Try.fld29_4) ?_
                      refine wl_go rfl rfl rfl rfl ?_
                      refine wl_val rfl (ex_load1 rfl Try.agg27 (cell_nth hb6 rfl)) ?_
                      refine wl_go rfl rfl rfl rfl ?_
                      refine wl_val rfl (ex_fieldAddr rfl Try.fld29_4) ?_
                      refine wl_go rfl rfl rfl rfl ?_
                      refine wl_val rfl (ex_load1 rfl Try.agg27 (cell_nth hb7 rfl)) ?_
                      refine wl_go rfl rfl rfl rfl ?_
                      refine wl_call1 (vs := [_, _]) Try.goes27 rfl (sameRanges_ok (X := X) (d1 := p.insts[k].rs) (d2 := q.insts[k].rs) (hr1.evo RRange.pers ((hE148).any X)) (hr2.evo RRange.pers ((hE148).any X)) (by have := hi1.len; omega)) rfl ?_
                      rintro _ w152 ⟨rfl, hw153⟩
                      have hE154 := hE148.then hw153
                      have hE155 := hE149.then hw153
                      have hB156 := hw153.blk0 hB150
                      have hB157 := hw153.blk0 hB151
                      have hB158 := hw153.blk0 hb6
                      have hB159 := hw153.blk0 hb7
                      refine wl_go rfl rfl rfl rfl ?_
                      refine wl_val rfl (ex_not rfl) ?_
                      refine wl_val rfl (ex_pick_f rfl rfl) ?_
                      refine wl_nil (nrm_then ?_)
                      refine cw_if rfl (fun hc87 => ?_) (fun hc87 => ?_)
                      · skip
                        refine cw_seq ?_
                        refine cw_region ?_
                        refine wl_val rfl (ex_assign rfl) ?_
                        refine wl_nil (nrm_then ?_)
                        refine cw_ret (ret_block (ret_then (ret_then (ret_block (ret_then (body_ret1 rfl rfl ?_))))))
                        exact ⟨_, rfl, ⟨fun h => (by cases h), fun h => (by subst h; exact (hc87 rfl).elim)⟩, hE154⟩
                      · skip
                        refine cw_skip (nrm_block (nrm_then ?_))
                        refine cw_region ?_
                        refine wl_val rfl (ex_move rfl) ?_
                        refine wl_val rfl (ex_add_i64 rfl rfl (by omega) (by omega)) ?_
                        refine wl_val rfl (ex_assign rfl) ?_
                        refine wl_nil (nrm_then ?_)
                        refine ⟨k + 1, ?_, ⟨rfl, trivial⟩, ⟨rfl, rfl, trivial⟩, hE155, ?_⟩
                        · omega
                        · skip
                          have h3 : p.insts[k] = q.insts[k] := Inst.ext' (by simpa using hs59) (by simpa using hs66) (by simpa using hs73) (by simpa using hs80) (by simpa using hc87)
                          exact ⟨by omega, by rw [List.take_succ_eq_append_getElem hkp, List.take_succ_eq_append_getElem hkq, hpre, h3]⟩
          · skip
            refine cw_exit (ex_then (ex_then (ex_here (nrm_then ?_))))
            refine cw_seq ?_
            refine cw_region ?_
            refine wl_val rfl (ex_assign rfl) ?_
            refine wl_nil (nrm_then ?_)
            refine cw_ret (body_ret1 rfl rfl ?_)
            refine ⟨_, rfl, ⟨fun _ => ?_, fun _ => rfl⟩, hE24⟩
            rw [List.take_of_length_le (by omega), List.take_of_length_le (by omega)] at hpre
            exact Prg.ext' hpre (by simpa using hs13) (by simpa using hs20) (by simpa using hs28)

end Go.Proofs.Ytopjnoblhleimaa
