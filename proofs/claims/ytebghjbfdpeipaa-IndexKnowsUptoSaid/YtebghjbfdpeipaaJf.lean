/- The walk of index.New. -/
import Derived.Test.YtebghjbfdpeipaaJc
import Derived.Test.YtebghjbfdpeipaaJa
import Derived.Test.YtebghjbfdpeipaaJe
namespace Go.Proofs.Ytebghjbfdpeipaa
open Go.Proofs
open Go.W Go.RowKit
attribute [local irreducible] Decidable.decide
set_option linter.unusedSimpArgs false
set_option linter.unusedVariables false
theorem Try.agg31 : aggB Try.prog 31 = some false := by kernel_rfl
theorem Try.app22_22 : appB Try.prog 22 22 = some (3, 1, 8) := by kernel_rfl
theorem Try.build49 : Build Try.prog 49 #[(0, 1), (1, 1)] #[.int .i64 0, .map none] := ⟨_, .agg #[.int .i64 0, .map none], Try.underlying49, by kernel_rfl, rfl, fun w => by kernel_rfl⟩
theorem Try.elem25 : elemB Try.prog 25 = some 1 := by kernel_rfl
theorem Try.fld49_1 : fieldB Try.prog 49 1 = some 1 := by kernel_rfl
theorem Try.goes26 : Goes Try.prog 26 := ⟨_, Try.func26, by kernel_rfl, by kernel_rfl⟩
theorem Try.size31 : sizeB Try.prog 31 = some 1 := by kernel_rfl
theorem Try.size47 : sizeB Try.prog 47 = some 1 := by kernel_rfl
theorem Try.slice22 : sliceB Try.prog 22 = some (3, 1) := by kernel_rfl

set_option maxHeartbeats 4000000 in
theorem new_ok {w : World} {v : Value} {sets : List (List LB)} (hs : RSl 1 (RSlice 2 RLB) [] w v sets) (hl1 : sets.length ≤ 2000000) (hl2 : ∀ i (h : i < sets.length), sets[i].length ≤ 2000000) (hl3 : (rowsTo sets sets.length).length ≤ 100000000) :
    Calls Try.prog 13 #[v] w (Ret fun r w' => (r = .tuple #[.pointer none, .int .i64 160] ∧ (∃ i, ∃ h : i < sets.length, ¬ lbOk sets[i]) ∧ Evo [] w w') ∨
      ∃ bx mb D, r = .tuple #[.pointer (some ⟨bx, 0, none⟩), .int .i64 0] ∧ (∀ i (h : i < sets.length), lbOk sets[i]) ∧ IxAt w' w.heap.size bx sets.length mb D ∧ Knows D (rowsTo sets sets.length) ∧ Evo [] w w') := by
  obtain ⟨sa, sc, rfl, hlc, e1⟩ := hs
  refine calls_of_cw (N := 61) Try.func13 rfl rfl rfl ?_
  refine cw_seq ?_
  refine cw_region ?_
  refine wl_val rfl (ex_assign rfl) ?_
  refine wl_val rfl (ex_assign rfl) ?_
  refine wl_nil (nrm_then ?_)
  refine cw_seq ?_
  refine cw_region ?_
  refine wl_val rfl (ex_move rfl) ?_
  refine wl_val rfl (ex_len_slice rfl Try.underlying25 rfl) ?_
  refine wl_makeMap rfl fun mb w1 hM2 hs3 hw4 => ?_
  have hsz_mb := hs3
  have hG5 := Ge.new (Evo.refl [] w) hs3
  have hE6 := (Evo.refl [] w).then hw4
  refine wl_val rfl (ex_build (vs := [(0, _), (1, _)]) Try.build49 rfl (cells := [_, _]) rfl) ?_
  refine wl_boxA rfl rfl fun bx w7 hB8 hs9 hw10 => ?_
  have hsz_bx := hs9
  have hA11 := Apart.new (Lt.map hM2) hs9
  have hG12 := Ge.new hE6 hs9
  have hE13 := hE6.then hw10
  have hO14 := hM2.evo0 hw10
  have hI0 : IxAt w7 w.heap.size bx sets.length mb [] := IxAt.nil hB8 hO14 (hG5 _ rfl) (hG12 _ rfl) (fun e => hA11 mb rfl (congrArg some e))
  refine wl_val rfl (ex_assign rfl) ?_
  refine wl_nil (nrm_then ?_)
  refine cw_seq ?_
  refine cw_seq ?_
  refine cw_region ?_
  refine wl_val rfl (ex_move rfl) ?_
  refine wl_val rfl (ex_len_slice rfl Try.underlying25 rfl) ?_
  refine wl_val rfl (ex_move rfl) ?_
  refine wl_nil (nrm_then ?_)
  refine cw_block ?_
  refine cw_loop (α := Nat × List En) ((0, [])) (fun x => [(17, .int .i64 (x.1 : Nat))]) [(4, _), (15, _), (16, _)] (fun x wr => Evo [] w wr ∧ (x.1 ≤ sets.length ∧ (∀ j (h : j < sets.length), j < x.1 → lbOk sets[j]) ∧ IxAt wr w.heap.size bx sets.length mb x.2 ∧ Knows x.2 (rowsTo sets x.1))) (fun x => sets.length - x.1) ⟨rfl, trivial⟩ ⟨rfl, rfl, rfl, trivial⟩ ⟨hE13, ⟨Nat.zero_le _, fun j h h2 => absurd h2 (Nat.not_lt_zero _), hI0, Knows.nil⟩⟩ ?_
  rintro ⟨i, D⟩ wr15 ⟨hV16, ⟨hi, hvd, hI, hKn⟩⟩
  show CW _ _ _ _ [(17, .int .i64 (i : Nat)), (4, _), (15, _), (16, _)] _
  try dsimp only at hi
  try dsimp only at hvd
  try dsimp only at hI
  try dsimp only at hKn
  refine cw_seq ?_
  refine cw_region ?_
  refine wl_val rfl (ex_lss rfl rfl) ?_
  refine wl_nil (nrm_then ?_)
  refine cw_seq ?_
  refine cw_if rfl (fun hc18 => ?_) (fun hc18 => ?_)
  · skip
    have hi' : i < sets.length := by omega
    obtain ⟨b1, o1, vs1, ha1, -, -, hc1, va, rfl, hrs0⟩ := e1 i hi'
    obtain ⟨ls, hls⟩ : ∃ l, l = sets[i] := ⟨_, rfl⟩
    have hrs := RSl.evo RLB.pers hV16 hrs0
    rw [← hls] at hrs hrs0
    have hll : ls.length ≤ 2000000 := by rw [hls]; exact hl2 i hi'
    obtain ⟨la, lc, rfl, hlc2, e2⟩ := id hrs0
    refine cw_skip (nrm_then ?_)
    refine cw_seq ?_
    refine cw_block ?_
    refine cw_seq ?_
    refine cw_region ?_
    refine wl_val rfl (ex_move rfl) ?_
    refine wl_val rfl (ex_indexAddr (n := i) (by rw [ha1]; rfl) rfl Try.elem25 (by omega)) ?_
    refine wl_val rfl (ex_load1 rfl Try.agg31 ((hc1.evo hV16 (by simp)) 0 _ rfl)) ?_
    refine wl_val rfl (ex_assign rfl) ?_
    refine wl_val rfl (ex_assign rfl) ?_
    refine wl_nil (nrm_then ?_)
    refine cw_seq ?_
    refine cw_seq ?_
    refine cw_region ?_
    refine wl_val rfl (ex_move rfl) ?_
    refine wl_call1 (vs := [_]) Try.goes26 rfl (valid_ok hrs (by omega)) rfl ?_
    rintro _ w17 ⟨bv, rfl, hbv, hw18⟩
    have hE19 := hV16.then hw18
    have hF20 := hI.evo0 hw18
    refine wl_val rfl (ex_notb rfl) ?_
    refine wl_nil (nrm_then ?_)
    refine cw_ifb rfl (fun hc24 => ?_) (fun hc24 => ?_)
    · skip
      refine cw_seq ?_
      refine cw_region ?_
      refine wl_val rfl (ex_assign rfl) ?_
      refine wl_val rfl (ex_assign rfl) ?_
      refine wl_nil (nrm_then ?_)
      refine cw_ret (ret_then (ret_block (ret_then (ret_then (ret_block (ret_then (body_ret2 rfl rfl rfl ?_)))))))
      exact .inl ⟨rfl, ⟨i, hi', fun h => by rw [← hls] at h; rw [hbv.2 h] at hc24; cases hc24⟩, hE19⟩
    · skip
      refine cw_skip (nrm_then ?_)
      refine cw_seq ?_
      refine cw_region ?_
      refine wl_val rfl (ex_move rfl) ?_
      refine wl_val rfl (ex_len_slice rfl Try.underlying31 rfl) ?_
      refine wl_val rfl (ex_move rfl) ?_
      refine wl_nil (nrm_then ?_)
      refine cw_block ?_
      refine cw_loop (α := Nat × List En) ((0, D)) (fun x => [(27, .int .i64 (x.1 : Nat))]) [(4, _), (5, _), (15, _), (16, _), (17, _), (25, _), (26, _)] (fun x wr => Evo [] w wr ∧ (x.1 ≤ ls.length ∧ IxAt wr w.heap.size bx sets.length mb x.2 ∧ Knows x.2 (rowsTo sets i ++ rowsOf (ls.take x.1) i))) (fun x => ls.length - x.1) ⟨rfl, trivial⟩ ⟨rfl, rfl, rfl, rfl, rfl, rfl, rfl, trivial⟩ ⟨hE19, ⟨Nat.zero_le _, hF20, by simpa [rowsOf] using hKn⟩⟩ ?_
      rintro ⟨k, D⟩ wr21 ⟨hV22, ⟨hk, hI, hKn⟩⟩
      show CW _ _ _ _ [(27, .int .i64 (k : Nat)), (4, _), (5, _), (15, _), (16, _), (17, _), (25, _), (26, _)] _
      try dsimp only at hk
      try dsimp only at hI
      try dsimp only at hKn
      refine cw_seq ?_
      refine cw_region ?_
      refine wl_val rfl (ex_lss rfl rfl) ?_
      refine wl_nil (nrm_then ?_)
      refine cw_seq ?_
      refine cw_if rfl (fun hc28 => ?_) (fun hc28 => ?_)
      · skip
        have hk' : k < ls.length := by omega
        obtain ⟨b2, o2, vs2, ha2, -, -, hc2, rfl, hz1, hz2⟩ := e2 k hk'
        refine cw_skip (nrm_then ?_)
        refine cw_seq ?_
        refine cw_block ?_
        refine cw_seq ?_
        refine cw_region ?_
        refine wl_val rfl (ex_indexAddr (n := k) (by rw [ha2]; rfl) rfl Try.elem31 (by omega)) ?_
        refine wl_val rfl (ex_loadA rfl Try.agg33 Try.size33 (vs := [_, _]) rfl (hc2.evo hV22 (by simp))) ?_
        have hIlt9 := (hI).lt
        refine wl_alloc rfl Try.zero33 fun b8 w23 hB24 hs25 hw26 => ?_
        have hsz_b8 := hs25
        have hG27 := Ge.new hV22 hs25
        have hE28 := hV22.then hw26
        have hF29 := hI.evo0 hw26
        have hb8I : b8 ∉ Ixl bx mb D := fun hb => by have := hIlt9 b8 hb; have := hsz_b8; omega
        refine wl_storeBlk rfl rfl Try.size33 hB24 rfl rfl ⟨by first | rfl | assumption, by first | rfl | assumption, trivial⟩ fun w30 hB31 hw32 => ?_
        have hE33 := hE28.step hw32 hG27.mem1
        have hF34 := hF29.evo hw32 (fun b hb hm => by simp at hm; subst hm; exact hb8I hb)
        refine wl_nil (nrm_then ?_)
        refine cw_seq ?_
        rcases hlk : mlook (D.map En.kv) ls[k].1 with _ | vv
        · skip
          refine cw_any (fun w0 w' => Evo [] w0 w') (by kernel_rfl) (fun w35 hw36 => ?_)
          have hE37 := hE33.then hw36
          have hF38 := hF34.evo0 hw36
          have hB39 := hw36.blk0 hB31
          refine ae_take 0 rfl (by kernel_rfl) (by kernel_rfl) (by kernel_rfl) rfl (fun _ hS => ex_move rfl) (Evo.refl [] w35) ?_
          refine ae_take 1 rfl (by kernel_rfl) (by kernel_rfl) (by kernel_rfl) rfl (fun _ hS => ex_nilCheck rfl) (Evo.refl [] w35) ?_
          refine ae_take 2 rfl (by kernel_rfl) (by kernel_rfl) (by kernel_rfl) rfl (fun _ hS => ex_fieldAddr rfl Try.fld49_1) (Evo.refl [] w35) ?_
          refine ae_take 3 rfl (by kernel_rfl) (by kernel_rfl) (by kernel_rfl) rfl (fun _ hS => ex_load1 rfl Try.agg47 (cell_nth ((hF38.evo0 hS)).box rfl)) (Evo.refl [] w35) ?_
          refine ae_take 4 rfl (by kernel_rfl) (by kernel_rfl) (by kernel_rfl) rfl (fun _ hS => ex_fieldAddr rfl Try.fld33_0) (Evo.refl [] w35) ?_
          refine ae_take 5 rfl (by kernel_rfl) (by kernel_rfl) (by kernel_rfl) rfl (fun _ hS => ex_load1 rfl Try.agg9 (cell_nth (hS.blk0 hB39) rfl)) (Evo.refl [] w35) ?_
          refine ae_take 6 rfl (by kernel_rfl) (by kernel_rfl) (by kernel_rfl) rfl (fun _ hS => ex_lookup_eq rfl rfl Try.underlying47 Try.underlying9 (z := .map none) (by kernel_rfl) ((hF38.evo0 hS)).map (r := .map none) (by rw [hlk]; rfl)) (Evo.refl [] w35) ?_
          refine ae_take 7 rfl (by kernel_rfl) (by kernel_rfl) (by kernel_rfl) rfl (fun _ hS => ex_assign rfl) (Evo.refl [] w35) ?_
          refine ae_done (by kernel_rfl) (nrm_then ?_)
          refine cw_seq ?_
          refine cw_seq ?_
          refine cw_region ?_
          refine wl_val rfl (ex_move rfl) ?_
          refine wl_val rfl (ex_eqMap rfl rfl Try.underlying51) ?_
          refine wl_nil (nrm_then ?_)
          refine cw_true rfl ?_
          refine cw_seq ?_
          refine cw_region ?_
          have hIlt := (hF38).lt
          refine wl_makeMap rfl fun nb w40 hM41 hs42 hw43 => ?_
          have hsz_nb := hs42
          have hA44 := Apart.new (Lt.blk hB39) hs42
          have hG45 := Ge.new hE37 hs42
          have hE46 := hE37.then hw43
          have hF47 := hF38.evo0 hw43
          have hB48 := hw43.blk0 hB39
          have hnbI : nb ∉ Ixl bx mb D := fun hb => by have := hIlt nb hb; omega
          have hnbg : w.heap.size ≤ nb := hG45 _ rfl
          have hb8n : b8 ≠ nb := fun e => hA44 _ (congrArg some e) rfl
          refine wl_val rfl (ex_assign rfl) ?_
          refine wl_nil (nrm_then ?_)
          refine cw_any (fun w0 w' => Evo [] w0 w') (by kernel_rfl) (fun w49 hw50 => ?_)
          have hE51 := hE46.then hw50
          have hF52 := hF47.evo0 hw50
          have hB53 := hw50.blk0 hB48
          have hO54 := hM41.evo0 hw50
          refine ae_take 0 rfl (by kernel_rfl) (by kernel_rfl) (by kernel_rfl) rfl (fun _ hS => ex_move rfl) (Evo.refl [] w49) ?_
          refine ae_take 1 rfl (by kernel_rfl) (by kernel_rfl) (by kernel_rfl) rfl (fun _ hS => ex_nilCheck rfl) (Evo.refl [] w49) ?_
          refine ae_take 2 rfl (by kernel_rfl) (by kernel_rfl) (by kernel_rfl) rfl (fun _ hS => ex_fieldAddr rfl Try.fld49_1) (Evo.refl [] w49) ?_
          refine ae_take 3 rfl (by kernel_rfl) (by kernel_rfl) (by kernel_rfl) rfl (fun _ hS => ex_load1 rfl Try.agg47 (cell_nth ((hF52.evo0 hS)).box rfl)) (Evo.refl [] w49) ?_
          refine ae_take 4 rfl (by kernel_rfl) (by kernel_rfl) (by kernel_rfl) rfl (fun _ hS => ex_fieldAddr rfl Try.fld33_0) (Evo.refl [] w49) ?_
          refine ae_take 5 rfl (by kernel_rfl) (by kernel_rfl) (by kernel_rfl) rfl (fun _ hS => ex_load1 rfl Try.agg9 (cell_nth (hS.blk0 hB53) rfl)) (Evo.refl [] w49) ?_
          refine ae_take 6 rfl (by kernel_rfl) (by kernel_rfl) (by kernel_rfl) rfl (fun _ hS => ex_move rfl) (Evo.refl [] w49) ?_
          refine ae_loud [7] (by kernel_rfl) rfl ⟨?_, trivial⟩
          refine a_step rfl ?_
          refine wl_mapUpdate rfl rfl rfl Try.underlying47 Try.underlying9 (hF52).map fun w7 hM7 hE7 => ?_
          have hI7 := IxAt.addName hF52 hnbg hnbI hO54 hM7 hE7 hlk
          have hE55 := hE51.step hE7 (by intro y hy; simp at hy; subst hy; exact .inr (hF52).ge)
          have hB56 := hE7.blk hB53 (by simp; exact fun e => hb8I (by rw [e]; simp [Ixl]))
          refine wl_nil (ae_next (.inr (by kernel_rfl)) ?_)
          refine ae_done (by kernel_rfl) (nrm_then ?_)
          have hem := (hI7).ent (e := (⟨ls[k].1, nb, []⟩ : En)) (by simp)
          obtain ⟨V1, o, V2, va, vn, vc, ids, ob, hvs, hgv, hown, hfo, hput, hcase⟩ := hem.find ls[k].2
          obtain ⟨hemo, hobI⟩ := (hI7).obs (e := (⟨ls[k].1, nb, []⟩ : En)) (by simp) hvs hfo
          have hemI := (hI7).gee (e := (⟨ls[k].1, nb, []⟩ : En)) (by simp)
          have hM9 := hem.1
          have hb8J : b8 ∉ Ixl bx mb (D ++ [(⟨ls[k].1, nb, []⟩ : En)]) := by intro hb; simp only [Ixl, List.flatMap_append, List.flatMap_cons, List.flatMap_nil, List.append_nil, En.bl, List.mem_append, List.mem_cons, List.not_mem_nil, or_false] at hb hb8I; simp only [not_or] at hb8I; rcases hb with h | h | h | h; exact hb8I.1 h; exact hb8I.2.1 h; exact hb8I.2.2 h; exact hb8n h
          have hb8o : b8 ∉ ob.toList := fun hb => hb8J (hobI b8 hb).2
          have hA8 : Apart (some b8) ob := fun g h1 h2 => by cases h1; exact hb8o (by simp [h2])
          have hA9 : Apart (some (⟨ls[k].1, nb, []⟩ : En).mb) ob := fun g h1 h2 => by cases h1; exact hemo (by simp [h2])
          have hGob : Ge w ob := fun g hg => (hobI g (by simp [hg])).1
          have hidl : ids.length ≤ (rowsTo sets i ++ rowsOf (ls.take k) i).length := by rcases hcase with ⟨_, _, rfl⟩ | ⟨x, hx, _⟩; exact Nat.zero_le _; have := (nil_parts hvs).2.1; rw [this] at hx; cases hx
          have hrl : (rowsTo sets i ++ rowsOf (ls.take k) i).length ≤ 100000000 := by have := rows_le (k := k) hi'; rw [← hls] at this; omega
          have hvn := own_n hown
          refine cw_any (fun w0 w' => Evo ob.toList w0 w') (by kernel_rfl) (fun w57 hw58 => ?_)
          have hE59 := hE55.then hw58
          have hB60 := hw58.blk0 hB56
          have hF61 := hI7.evo0 hw58
          have hO62 := hown.evo0 hw58
          have hO63 := hM9.evo0 hw58
          refine ae_take 0 rfl (by kernel_rfl) (by kernel_rfl) (by kernel_rfl) rfl (fun _ hS => ex_move rfl) (Evo.refl ob.toList w57) ?_
          refine ae_take 1 rfl (by kernel_rfl) (by kernel_rfl) (by kernel_rfl) rfl (fun _ hS => ex_fieldAddr rfl Try.fld33_1) (Evo.refl ob.toList w57) ?_
          refine ae_take 2 rfl (by kernel_rfl) (by kernel_rfl) (by kernel_rfl) rfl (fun _ hS => ex_load1 rfl Try.agg9 (cell_nth (hS.blk hB60 (hb8o)) rfl)) (Evo.refl ob.toList w57) ?_
          refine ae_take 3 rfl (by kernel_rfl) (by kernel_rfl) (by kernel_rfl) rfl (fun _ hS => ex_move rfl) (Evo.refl ob.toList w57) ?_
          refine ae_take 4 rfl (by kernel_rfl) (by kernel_rfl) (by kernel_rfl) rfl (fun _ hS => ex_fieldAddr rfl Try.fld33_1) (Evo.refl ob.toList w57) ?_
          refine ae_take 5 rfl (by kernel_rfl) (by kernel_rfl) (by kernel_rfl) rfl (fun _ hS => ex_load1 rfl Try.agg9 (cell_nth (hS.blk hB60 (hb8o)) rfl)) (Evo.refl ob.toList w57) ?_
          refine ae_take 6 rfl (by kernel_rfl) (by kernel_rfl) (by kernel_rfl) rfl (fun _ hS => ex_lookup_eq rfl rfl Try.underlying51 Try.underlying9 (z := .slice none 0 0) (by kernel_rfl) (hO63.evo hS (hemo)) (r := .slice va vn vc) hgv) (Evo.refl ob.toList w57) ?_
          refine ae_take 7 rfl (by kernel_rfl) (by kernel_rfl) (by kernel_rfl) rfl (fun _ hS => ex_move rfl) (Evo.refl ob.toList w57) ?_
          refine ae_loud [8] (by kernel_rfl) rfl ⟨?_, trivial⟩
          refine a_step rfl ?_
          refine wl_bslice (vs := [_]) rfl Try.slice22 rfl rfl rfl rfl fun b64 w65 hO66 hs67 hw68 => ?_
          have hA69 := Apart.new (Lt.blk hB60) hs67
          have hA70 := Apart.new (Lt.own hO62) hs67
          have hA71 := Apart.new (Lt.map hO63) hs67
          have hG72 := Ge.new hE59 hs67
          have hG73 := Ge.new (Evo.refl ob.toList w57) hs67
          have hE74 := hE59.then hw68
          have hE75 := (Evo.refl ob.toList w57).then hw68
          have hB76 := hw68.blk0 hB60
          have hO77 := hO62.evo0 hw68
          have hO78 := hO63.evo0 hw68
          refine wl_nil (ae_next (.inl hE75) ?_)
          refine ae_loud [9] (by kernel_rfl) rfl ⟨?_, trivial⟩
          refine a_step rfl ?_
          have hsz14 := (hE75).size
          refine wl_append rfl rfl rfl rfl Try.app22_22 hO77 (Src.ofOwn hO66 ⟨by first | rfl | assumption, trivial⟩) (by omega) fun a7 c7 w81 ob7 hO7 hw84 hob85 => ?_
          have hA86 := hA8.app (Lt.blk hB76) hob85
          have hA87 := hA9.app (Lt.map hO78) hob85
          have hA88 := hA70.symm.app (Lt.own hO66) hob85
          have hG89 := hGob.app hE74 hob85
          have hE90 := hE74.step hw84 hGob.mem
          have hE91 := hE75.step hw84 (fun y hy => .inl hy)
          have hB92 := hw84.blk hB76 hA8.nmem
          have hO93 := hO78.evo hw84 hA9.nmem
          have hO94 := hO66.evo hw84 hA70.symm.own
          have hob7 : ob7 = ob ∨ ∃ g, ob7 = some g ∧ w57.heap.size ≤ g := hob85.imp id (fun ⟨g, h1, h2⟩ => ⟨g, h1, Nat.le_trans hsz14 h2⟩)
          refine wl_nil (ae_next (.inl hE91) ?_)
          refine ae_loud [10] (by kernel_rfl) rfl ⟨?_, trivial⟩
          refine a_step rfl ?_
          refine wl_mapUpdate rfl rfl rfl Try.underlying51 Try.underlying9 hO93 fun w7 hM7 hE7 => ?_
          obtain ⟨x7, hx7⟩ : ∃ x : Vl, x = ⟨ls[k].2, a7, vn + 1, c7, ids ++ [(i : Int)], ob7⟩ := ⟨_, rfl⟩
          have hx7a : x7.At w81 := by subst hx7; unfold Vl.At; rw [List.map_append]; exact hO7
          have hM8 : MapAt w7 (⟨ls[k].1, nb, []⟩ : En).mb ((V1 ++ x7 :: V2).map Vl.kv) := by rw [← hput x7 (by subst hx7; rfl)]; subst hx7; exact hM7
          have hI9 := IxAt.put hF61 hvs hfo (Evo.size hE59) hx7a hE91 (by subst hx7; exact hob7) hM8 hE7
          obtain ⟨rfl, rfl, rfl⟩ := nil_parts hvs
          have hids0 : ids = [] := by rcases hcase with ⟨_, _, h⟩ | ⟨x, h, _⟩; exact h; cases h
          have hK9 := hKn.newName (n := ls[k].1) (v := ls[k].2) (i := (i : Int)) (e := { (⟨ls[k].1, nb, []⟩ : En) with vs := [] ++ x7 :: [] }) (x := x7) (mlook_nm hlk) rfl (by subst hx7; rfl) (by subst hx7; subst hids0; rfl) rfl
          rw [List.append_assoc, ← rowsOf_succ hk'] at hK9
          have hE95 := hE90.step hE7 (by intro y hy; simp at hy; subst hy; exact .inr hemI.1)
          refine wl_nil (ae_next (.inr (by kernel_rfl)) ?_)
          refine ae_done (by kernel_rfl) (nrm_block (nrm_then ?_))
          refine cw_region ?_
          refine wl_val rfl (ex_add_i64 rfl rfl (by omega) (by omega)) ?_
          refine wl_val rfl (ex_move rfl) ?_
          refine wl_nil (nrm_same ?_)
          refine ⟨(k + 1, D ++ [{ (⟨ls[k].1, nb, []⟩ : En) with vs := [] ++ x7 :: [] }]), ?_, ⟨rfl, trivial⟩, ⟨rfl, rfl, rfl, rfl, rfl, rfl, rfl, trivial⟩, hE95, ?_⟩
          · (try dsimp only); omega
          · skip
            try dsimp only
            exact ⟨by omega, hI9, hK9⟩
        · skip
          obtain ⟨D1, e, D2, rfl, hen, hnn⟩ := mlook_some hlk
          obtain ⟨hnm, hvv⟩ := Prod.mk.inj (show (e.nm, Value.map (some e.mb)) = (ls[k].1, vv) from hen)
          subst hvv
          refine cw_any (fun w0 w' => Evo [] w0 w') (by kernel_rfl) (fun w96 hw97 => ?_)
          have hE98 := hE33.then hw97
          have hF99 := hF34.evo0 hw97
          have hB100 := hw97.blk0 hB31
          refine ae_take 0 rfl (by kernel_rfl) (by kernel_rfl) (by kernel_rfl) rfl (fun _ hS => ex_move rfl) (Evo.refl [] w96) ?_
          refine ae_take 1 rfl (by kernel_rfl) (by kernel_rfl) (by kernel_rfl) rfl (fun _ hS => ex_nilCheck rfl) (Evo.refl [] w96) ?_
          refine ae_take 2 rfl (by kernel_rfl) (by kernel_rfl) (by kernel_rfl) rfl (fun _ hS => ex_fieldAddr rfl Try.fld49_1) (Evo.refl [] w96) ?_
          refine ae_take 3 rfl (by kernel_rfl) (by kernel_rfl) (by kernel_rfl) rfl (fun _ hS => ex_load1 rfl Try.agg47 (cell_nth ((hF99.evo0 hS)).box rfl)) (Evo.refl [] w96) ?_
          refine ae_take 4 rfl (by kernel_rfl) (by kernel_rfl) (by kernel_rfl) rfl (fun _ hS => ex_fieldAddr rfl Try.fld33_0) (Evo.refl [] w96) ?_
          refine ae_take 5 rfl (by kernel_rfl) (by kernel_rfl) (by kernel_rfl) rfl (fun _ hS => ex_load1 rfl Try.agg9 (cell_nth (hS.blk0 hB100) rfl)) (Evo.refl [] w96) ?_
          refine ae_take 6 rfl (by kernel_rfl) (by kernel_rfl) (by kernel_rfl) rfl (fun _ hS => ex_lookup_eq rfl rfl Try.underlying47 Try.underlying9 (z := .map none) (by kernel_rfl) ((hF99.evo0 hS)).map (r := .map (some e.mb)) (by rw [hlk]; rfl)) (Evo.refl [] w96) ?_
          refine ae_take 7 rfl (by kernel_rfl) (by kernel_rfl) (by kernel_rfl) rfl (fun _ hS => ex_assign rfl) (Evo.refl [] w96) ?_
          refine ae_done (by kernel_rfl) (nrm_then ?_)
          refine cw_seq ?_
          refine cw_seq ?_
          refine cw_region ?_
          refine wl_val rfl (ex_move rfl) ?_
          refine wl_val rfl (ex_eqMap rfl rfl Try.underlying51) ?_
          refine wl_nil (nrm_then ?_)
          refine cw_false rfl ?_
          refine cw_skip (nrm_then ?_)
          have hem := (hF99).ent (e := e) (by simp)
          obtain ⟨V1, o, V2, va, vn, vc, ids, ob, hvs, hgv, hown, hfo, hput, hcase⟩ := hem.find ls[k].2
          obtain ⟨hemo, hobI⟩ := (hF99).obs (e := e) (by simp) hvs hfo
          have hemI := (hF99).gee (e := e) (by simp)
          have hM9 := hem.1
          have hb8J := hb8I
          have hb8o : b8 ∉ ob.toList := fun hb => hb8J (hobI b8 hb).2
          have hA8 : Apart (some b8) ob := fun g h1 h2 => by cases h1; exact hb8o (by simp [h2])
          have hA9 : Apart (some e.mb) ob := fun g h1 h2 => by cases h1; exact hemo (by simp [h2])
          have hGob : Ge w ob := fun g hg => (hobI g (by simp [hg])).1
          have hidl := hKn.ids_le (e := e) (by simp) hvs hcase
          have hrl : (rowsTo sets i ++ rowsOf (ls.take k) i).length ≤ 100000000 := by have := rows_le (k := k) hi'; rw [← hls] at this; omega
          have hvn := own_n hown
          refine cw_any (fun w0 w' => Evo ob.toList w0 w') (by kernel_rfl) (fun w101 hw102 => ?_)
          have hE103 := hE98.then hw102
          have hF104 := hF99.evo0 hw102
          have hB105 := hw102.blk0 hB100
          have hO106 := hown.evo0 hw102
          have hO107 := hM9.evo0 hw102
          refine ae_take 0 rfl (by kernel_rfl) (by kernel_rfl) (by kernel_rfl) rfl (fun _ hS => ex_move rfl) (Evo.refl ob.toList w101) ?_
          refine ae_take 1 rfl (by kernel_rfl) (by kernel_rfl) (by kernel_rfl) rfl (fun _ hS => ex_fieldAddr rfl Try.fld33_1) (Evo.refl ob.toList w101) ?_
          refine ae_take 2 rfl (by kernel_rfl) (by kernel_rfl) (by kernel_rfl) rfl (fun _ hS => ex_load1 rfl Try.agg9 (cell_nth (hS.blk hB105 (hb8o)) rfl)) (Evo.refl ob.toList w101) ?_
          refine ae_take 3 rfl (by kernel_rfl) (by kernel_rfl) (by kernel_rfl) rfl (fun _ hS => ex_move rfl) (Evo.refl ob.toList w101) ?_
          refine ae_take 4 rfl (by kernel_rfl) (by kernel_rfl) (by kernel_rfl) rfl (fun _ hS => ex_fieldAddr rfl Try.fld33_1) (Evo.refl ob.toList w101) ?_
          refine ae_take 5 rfl (by kernel_rfl) (by kernel_rfl) (by kernel_rfl) rfl (fun _ hS => ex_load1 rfl Try.agg9 (cell_nth (hS.blk hB105 (hb8o)) rfl)) (Evo.refl ob.toList w101) ?_
          refine ae_take 6 rfl (by kernel_rfl) (by kernel_rfl) (by kernel_rfl) rfl (fun _ hS => ex_lookup_eq rfl rfl Try.underlying51 Try.underlying9 (z := .slice none 0 0) (by kernel_rfl) (hO107.evo hS (hemo)) (r := .slice va vn vc) hgv) (Evo.refl ob.toList w101) ?_
          refine ae_take 7 rfl (by kernel_rfl) (by kernel_rfl) (by kernel_rfl) rfl (fun _ hS => ex_move rfl) (Evo.refl ob.toList w101) ?_
          refine ae_loud [8] (by kernel_rfl) rfl ⟨?_, trivial⟩
          refine a_step rfl ?_
          refine wl_bslice (vs := [_]) rfl Try.slice22 rfl rfl rfl rfl fun b108 w109 hO110 hs111 hw112 => ?_
          have hA113 := Apart.new (Lt.blk hB105) hs111
          have hA114 := Apart.new (Lt.own hO106) hs111
          have hA115 := Apart.new (Lt.map hO107) hs111
          have hG116 := Ge.new hE103 hs111
          have hG117 := Ge.new (Evo.refl ob.toList w101) hs111
          have hE118 := hE103.then hw112
          have hE119 := (Evo.refl ob.toList w101).then hw112
          have hB120 := hw112.blk0 hB105
          have hO121 := hO106.evo0 hw112
          have hO122 := hO107.evo0 hw112
          refine wl_nil (ae_next (.inl hE119) ?_)
          refine ae_loud [9] (by kernel_rfl) rfl ⟨?_, trivial⟩
          refine a_step rfl ?_
          have hsz14 := (hE119).size
          refine wl_append rfl rfl rfl rfl Try.app22_22 hO121 (Src.ofOwn hO110 ⟨by first | rfl | assumption, trivial⟩) (by omega) fun a7 c7 w125 ob7 hO7 hw128 hob129 => ?_
          have hA130 := hA8.app (Lt.blk hB120) hob129
          have hA131 := hA9.app (Lt.map hO122) hob129
          have hA132 := hA114.symm.app (Lt.own hO110) hob129
          have hG133 := hGob.app hE118 hob129
          have hE134 := hE118.step hw128 hGob.mem
          have hE135 := hE119.step hw128 (fun y hy => .inl hy)
          have hB136 := hw128.blk hB120 hA8.nmem
          have hO137 := hO122.evo hw128 hA9.nmem
          have hO138 := hO110.evo hw128 hA114.symm.own
          have hob7 : ob7 = ob ∨ ∃ g, ob7 = some g ∧ w101.heap.size ≤ g := hob129.imp id (fun ⟨g, h1, h2⟩ => ⟨g, h1, Nat.le_trans hsz14 h2⟩)
          refine wl_nil (ae_next (.inl hE135) ?_)
          refine ae_loud [10] (by kernel_rfl) rfl ⟨?_, trivial⟩
          refine a_step rfl ?_
          refine wl_mapUpdate rfl rfl rfl Try.underlying51 Try.underlying9 hO137 fun w7 hM7 hE7 => ?_
          obtain ⟨x7, hx7⟩ : ∃ x : Vl, x = ⟨ls[k].2, a7, vn + 1, c7, ids ++ [(i : Int)], ob7⟩ := ⟨_, rfl⟩
          have hx7a : x7.At w125 := by subst hx7; unfold Vl.At; rw [List.map_append]; exact hO7
          have hM8 : MapAt w7 e.mb ((V1 ++ x7 :: V2).map Vl.kv) := by rw [← hput x7 (by subst hx7; rfl)]; subst hx7; exact hM7
          have hI9 := IxAt.put hF104 hvs hfo (Evo.size hE103) hx7a hE135 (by subst hx7; exact hob7) hM8 hE7
          have hK9 := hKn.put' hvs hnm (x' := x7) (ids := ids) (i := (i : Int)) (v := ls[k].2) (by subst hx7; rfl) (by subst hx7; rfl) hcase
          rw [List.append_assoc, ← rowsOf_succ hk'] at hK9
          have hE139 := hE134.step hE7 (by intro y hy; simp at hy; subst hy; exact .inr hemI.1)
          refine wl_nil (ae_next (.inr (by kernel_rfl)) ?_)
          refine ae_done (by kernel_rfl) (nrm_block (nrm_then ?_))
          refine cw_region ?_
          refine wl_val rfl (ex_add_i64 rfl rfl (by omega) (by omega)) ?_
          refine wl_val rfl (ex_move rfl) ?_
          refine wl_nil (nrm_same ?_)
          refine ⟨(k + 1, D1 ++ { e with vs := V1 ++ x7 :: V2 } :: D2), ?_, ⟨rfl, trivial⟩, ⟨rfl, rfl, rfl, rfl, rfl, rfl, rfl, trivial⟩, hE139, ?_⟩
          · (try dsimp only); omega
          · skip
            try dsimp only
            exact ⟨by omega, hI9, hK9⟩
      · skip
        refine cw_exit (ex_then (ex_then (ex_here (nrm_block (nrm_then ?_)))))
        refine cw_region ?_
        refine wl_val rfl (ex_add_i64 rfl rfl (by omega) (by omega)) ?_
        refine wl_val rfl (ex_move rfl) ?_
        refine wl_nil (nrm_same ?_)
        refine ⟨(i + 1, D), ?_, ⟨rfl, trivial⟩, ⟨rfl, rfl, rfl, trivial⟩, hV22, ?_⟩
        · (try dsimp only); omega
        · skip
          try dsimp only
          refine ⟨by omega, fun j h hj => ?_, hI, ?_⟩
          · by_cases e : j = i
            · subst e; rw [← hls]; exact hbv.1 (by simpa using hc24)
            · exact hvd j h (by omega)
          · rw [List.take_of_length_le (by omega)] at hKn; rw [rowsTo_succ hi', ← hls]; exact hKn
  · skip
    refine cw_exit (ex_then (ex_then (ex_here (nrm_then ?_))))
    refine cw_seq ?_
    refine cw_region ?_
    refine wl_val rfl (ex_move rfl) ?_
    refine wl_val rfl (ex_assign rfl) ?_
    refine wl_val rfl (ex_assign rfl) ?_
    refine wl_nil (nrm_then ?_)
    refine cw_ret (body_ret2 rfl rfl rfl ?_)
    obtain rfl : i = sets.length := by omega
    exact .inr ⟨bx, mb, D, rfl, fun j h => hvd j h h, hI, hKn, hV16⟩

end Go.Proofs.Ytebghjbfdpeipaa
