/- The walk of the law IndexKnows. -/
import Derived.Test.YtebghjbfdpeipaaJh
namespace Go.Proofs.Ytebghjbfdpeipaa
open Go.Proofs
open Go.W Go.RowKit
attribute [local irreducible] Decidable.decide
set_option linter.unusedSimpArgs false
set_option linter.unusedVariables false
theorem Try.elem35 : elemB Try.prog 35 = some 1 := by kernel_rfl
theorem Try.goes12 : Goes Try.prog 12 := ⟨_, Try.func12, by kernel_rfl, by kernel_rfl⟩
theorem Try.goes15 : Goes Try.prog 15 := ⟨_, Try.func15, by kernel_rfl, by kernel_rfl⟩
theorem Try.goes16 : Goes Try.prog 16 := ⟨_, Try.func16, by kernel_rfl, by kernel_rfl⟩


section
variable {P : Program} {σ : Env} {w : World} {dst : Option Nat} {T : TypeId} {pos : String} {after : Array Edge} {g : Option (Nat × Bool)}
theorem ex_eqlF {x y : Operand} {t t' : TypeId} {k : IntKind} {m n : Int} (hx : σ.ev x = some (.int k m)) (hy : σ.ev y = some (.int k n)) (h : ¬ m = n) : Ex P σ ⟨dst, .binOp .eql t x y t', T, pos, after, g⟩ w (.bool false) w := by
  have := ex_eql (P := P) (σ := σ) (dst := dst) (T := T) (pos := pos) (after := after) (g := g) (w := w) (t := t) (t' := t') hx hy
  rwa [decide_eq_false h] at this
theorem ex_neqF {x y : Operand} {t t' : TypeId} {k : IntKind} {m n : Int} (hx : σ.ev x = some (.int k m)) (hy : σ.ev y = some (.int k n)) (h : m = n) : Ex P σ ⟨dst, .binOp .neq t x y t', T, pos, after, g⟩ w (.bool false) w := by
  have := ex_neq (P := P) (σ := σ) (dst := dst) (T := T) (pos := pos) (after := after) (g := g) (w := w) (t := t) (t' := t') hx hy
  rwa [decide_eq_false (not_not_intro h)] at this
theorem ex_sleqF {x y : Operand} {t t' : TypeId} {a b : ByteArray} (hx : σ.ev x = some (.string a)) (hy : σ.ev y = some (.string b)) (h : ¬ (a.toList < b.toList ∨ a.toList = b.toList)) : Ex P σ ⟨dst, .binOp .leq t x y t', T, pos, after, g⟩ w (.bool false) w := by
  have := ex_sleq (P := P) (σ := σ) (dst := dst) (T := T) (pos := pos) (after := after) (g := g) (w := w) (t := t) (t' := t') hx hy
  rwa [decide_eq_false h] at this
end
theorem take_le {α : Type} (f : α → Nat) {l : List α} (k : Nat) : ((l.take k).map f).sum ≤ (l.map f).sum := by
  conv => rhs; rw [← List.take_append_drop k l, List.map_append, List.sum_append]
  omega
theorem own_strs {w : World} {e : TypeId} {a : Option Addr} {n c : Nat} {ys : List ByteArray} {ob : Option Nat} (h : OwnS w e 1 a n c (ys.map sv) ob) (h0 : 0 < n) : ∃ g, a = some ⟨g, 0, none⟩ ∧ ∀ k (hk : k < ys.length), w.cell? ⟨g, 0 + k * 1, none⟩ = some (sv ys[k]) := by
  obtain ⟨g, hg, ha, hc⟩ := h.cells h0
  refine ⟨g, ha, fun k hk => ?_⟩
  rw [Nat.mul_one]
  exact hc k _ (by simp [hk])
theorem new_ok2 {w : World} {v : Value} {sets : List (List LB)} (hs : RSl 1 (RSlice 2 RLB) [] w v sets) (hl1 : sets.length ≤ 2000000) (hl2 : ∀ i (h : i < sets.length), sets[i].length ≤ 2000000) (hl3 : (rowsTo sets sets.length).length ≤ 100000000) :
    Calls Try.prog 13 #[v] w (Ret fun r w' => ∃ (q : Option Addr) (c : Int), r = .tuple #[.pointer q, .int .i64 c] ∧ ((q = none ∧ c = 160) ∨ ∃ bx mb D, q = some ⟨bx, 0, none⟩ ∧ c = 0 ∧ (∀ i (h : i < sets.length), lbOk sets[i]) ∧ IxAt w' w.heap.size bx sets.length mb D ∧ Knows D (rowsTo sets sets.length)) ∧ Evo [] w w') := by
  refine (new_ok hs hl1 hl2 hl3).mono ?_
  rintro e w' ⟨r, rfl, ⟨h1, _, h3⟩ | ⟨bx, mb, D, h1, h2, h3, h4, h5⟩⟩
  · exact ⟨_, rfl, none, 160, h1, .inl ⟨rfl, rfl⟩, h3⟩
  · exact ⟨_, rfl, _, 0, h1, .inr ⟨bx, mb, D, rfl, rfl, h2, h3, h4⟩, h5⟩
theorem values_nm {w : World} {n0 bx N mb : Nat} {D : List En} {T : List Tr} {e : En} {n : ByteArray} (hn : e.nm = n) (h : IxAt w n0 bx N mb D) (hK : Knows D T) (he : e ∈ D) (hT : T.length ≤ 100000000) : Calls Try.prog 16 #[.pointer (some ⟨bx, 0, none⟩), .string n] w (Ret fun v w' => ∃ (ys : List ByteArray) (a : Option Addr) (c : Nat) (ob : Option Nat), v = .slice a ys.length c ∧ ys.Perm (e.vs.map Vl.v) ∧ SRs ys ∧ OwnS w' 9 1 a ys.length c (ys.map sv) ob ∧ Ge w ob ∧ Evo [] w w') := by
  subst hn; exact values_ok' h hK he hT

set_option maxHeartbeats 4000000 in
theorem law_knows {w : World} {v : Value} {sets : List (List LB)} (hs : RSl 1 (RSlice 2 RLB) [] w v sets) (hl1 : sets.length ≤ 2000000) (hl2 : ∀ i (h : i < sets.length), sets[i].length ≤ 2000000) (hl4 : (rowsTo sets sets.length).length ≤ 2000000) :
    Calls Try.prog 4 #[v] w (Ret fun r w' => r = .bool true ∧ Evo [] w w') := by
  have hs0 := hs
  obtain ⟨sa, sc, rfl, hlc, e1⟩ := hs
  have hl3 : (rowsTo sets sets.length).length ≤ 100000000 := by omega
  refine calls_of_cw (N := 152) Try.func4 rfl rfl rfl ?_
  refine cw_seq ?_
  refine cw_region ?_
  refine wl_val rfl (ex_assign rfl) ?_
  refine wl_nil (nrm_then ?_)
  refine cw_seq ?_
  refine cw_seq ?_
  refine cw_region ?_
  refine wl_call1 (vs := []) Try.goes12 rfl (awake_ok) rfl ?_
  rintro _ w1 ⟨rfl, hw2⟩
  have hE3 := (Evo.refl [] w).then hw2
  refine wl_val rfl (ex_notb rfl) ?_
  refine wl_nil (nrm_then ?_)
  refine cw_false rfl ?_
  refine cw_skip (nrm_then ?_)
  refine cw_seq ?_
  refine cw_region ?_
  refine wl_val rfl (ex_move rfl) ?_
  refine wl_call1 (vs := [_]) Try.goes13 rfl (new_ok2 (RSl.evo (RSlice.pers RLB.pers) hE3 hs0) hl1 hl2 hl3) rfl ?_
  rintro _ w4 ⟨q, c, rfl, hN, hw5⟩
  have hE6 := hE3.then hw5
  refine wl_val rfl (ex_move rfl) ?_
  refine wl_val rfl (ex_extract rfl rfl) ?_
  refine wl_val rfl (ex_extract rfl rfl) ?_
  refine wl_val rfl (ex_assign rfl) ?_
  refine wl_val rfl (ex_assign rfl) ?_
  refine wl_nil (nrm_then ?_)
  refine cw_seq ?_
  refine cw_seq ?_
  refine cw_region ?_
  refine wl_val rfl (ex_move rfl) ?_
  refine wl_val rfl (ex_neq rfl rfl) ?_
  refine wl_nil (nrm_then ?_)
  refine cw_if rfl (fun hc24 => ?_) (fun hc24 => ?_)
  · skip
    obtain rfl : q = none := by rcases hN with ⟨h, -⟩ | ⟨_, _, _, _, h, -⟩; exact h; exact absurd h hc24
    refine cw_seq ?_
    refine cw_region ?_
    refine wl_val rfl (ex_move rfl) ?_
    refine wl_val rfl (ex_eqPn rfl rfl Try.ptr27) ?_
    refine wl_val rfl (ex_assign rfl) ?_
    refine wl_nil (nrm_then ?_)
    refine cw_ret (ret_then (body_ret1 rfl rfl ?_))
    exact ⟨rfl, hE6⟩
  · skip
    obtain ⟨bx, mb, D, rfl, hval, hI, hK⟩ : ∃ bx mb D, q = some ⟨bx, 0, none⟩ ∧ (∀ i (h : i < sets.length), lbOk sets[i]) ∧ IxAt _ _ bx sets.length mb D ∧ Knows D (rowsTo sets sets.length) := by
      rcases hN with ⟨_, h⟩ | ⟨bx, mb, D, h1, h2, h3, h4, h5⟩
      · exact absurd h (by omega)
      · exact ⟨bx, mb, D, h1, h3, h4, h5⟩
    refine cw_skip (nrm_then ?_)
    refine cw_seq ?_
    refine cw_region ?_
    refine wl_val rfl (ex_assign rfl) ?_
    refine wl_nil (nrm_then ?_)
    refine cw_seq ?_
    refine cw_seq ?_
    refine cw_region ?_
    refine wl_val rfl (ex_assign rfl) ?_
    refine wl_nil (nrm_then ?_)
    refine cw_block ?_
    refine cw_loop (α := Nat) (0) (fun i => [(6, .int .i64 (i : Nat)), (5, .int .i64 ((rowsTo sets i).length : Nat))]) [(0, _), (3, _)] (fun i wr => Evo [] w4 wr ∧ (i ≤ sets.length)) (fun i => sets.length - i) ⟨rfl, rfl, trivial⟩ ⟨rfl, rfl, trivial⟩ ⟨Evo.refl _ _, Nat.zero_le _⟩ ?_
    rintro i wr7 ⟨hV8, hi⟩
    show CW _ _ _ _ [(6, _), (5, _), (0, _), (3, _)] _
    have hE9 := hE6.then hV8
    have hF10 := hI.evo0 hV8
    refine cw_seq ?_
    refine cw_seq ?_
    refine cw_region ?_
    refine wl_val rfl (ex_move rfl) ?_
    refine wl_val rfl (ex_move rfl) ?_
    refine wl_val rfl (ex_len_slice rfl Try.underlying25 rfl) ?_
    refine wl_val rfl (ex_lss rfl rfl) ?_
    refine wl_nil (nrm_then ?_)
    refine cw_if rfl (fun hc30 => ?_) (fun hc30 => ?_)
    · skip
      have hi' : i < sets.length := by omega
      obtain ⟨b1, o1, vs1, ha1, -, -, hc1, va, rfl, hrs0⟩ := e1 i hi'
      obtain ⟨ls, hls⟩ : ∃ l, l = sets[i] := ⟨_, rfl⟩
      rw [← hls] at hrs0
      have hll : ls.length ≤ 2000000 := by rw [hls]; exact hl2 i hi'
      obtain ⟨la, lc, rfl, hlc2, e2⟩ := id hrs0
      refine cw_skip (nrm_then ?_)
      refine cw_seq ?_
      refine cw_block ?_
      refine cw_seq ?_
      refine cw_region ?_
      refine wl_val rfl (ex_move rfl) ?_
      refine wl_val rfl (ex_move rfl) ?_
      refine wl_val rfl (ex_move rfl) ?_
      refine wl_val rfl (ex_indexAddr (n := i) (by rw [ha1]; rfl) rfl Try.elem25 (by omega)) ?_
      refine wl_val rfl (ex_load1 rfl Try.agg31 ((hc1.evo hE9 (by simp)) 0 _ rfl)) ?_
      refine wl_val rfl (ex_len_slice rfl Try.underlying31 rfl) ?_
      refine wl_val rfl (ex_add_i64 rfl rfl (by have := rows_le (k := ls.length) hi'; rw [← hls] at this; simp [rowsOf] at this; omega) (by have := rows_le (k := ls.length) hi'; rw [← hls] at this; simp [rowsOf] at this; omega)) ?_
      rw [show ((rowsTo sets i).length : Int) + (ls.length : Int) = ((rowsTo sets (i + 1)).length : Nat) from by rw [rowsTo_succ hi', ← hls]; simp [rowsOf]]
      refine wl_val rfl (ex_assign rfl) ?_
      refine wl_nil (nrm_then ?_)
      refine cw_seq ?_
      refine cw_region ?_
      refine wl_val rfl (ex_assign rfl) ?_
      refine wl_nil (nrm_then ?_)
      refine cw_block ?_
      refine cw_loop (α := Nat) (0) (fun k => [(7, .int .i64 (k : Nat))]) [(0, _), (3, _), (5, _), (6, _)] (fun k wr => Evo [] wr7 wr ∧ (k ≤ ls.length)) (fun k => ls.length - k) ⟨rfl, trivial⟩ ⟨rfl, rfl, rfl, rfl, trivial⟩ ⟨Evo.refl _ _, Nat.zero_le _⟩ ?_
      rintro k wr11 ⟨hV12, hk⟩
      show CW _ _ _ _ [(7, _), (0, _), (3, _), (5, _), (6, _)] _
      have hE13 := hE9.then hV12
      have hE14 := hV8.then hV12
      have hF15 := hF10.evo0 hV12
      refine cw_seq ?_
      refine cw_seq ?_
      refine cw_region ?_
      refine wl_val rfl (ex_move rfl) ?_
      refine wl_val rfl (ex_move rfl) ?_
      refine wl_val rfl (ex_move rfl) ?_
      refine wl_val rfl (ex_indexAddr (n := i) (by rw [ha1]; rfl) rfl Try.elem25 (by omega)) ?_
      refine wl_val rfl (ex_load1 rfl Try.agg31 ((hc1.evo hE13 (by simp)) 0 _ rfl)) ?_
      refine wl_val rfl (ex_len_slice rfl Try.underlying31 rfl) ?_
      refine wl_val rfl (ex_lss rfl rfl) ?_
      refine wl_nil (nrm_then ?_)
      refine cw_if rfl (fun hc46 => ?_) (fun hc46 => ?_)
      · skip
        have hk' : k < ls.length := by omega
        obtain ⟨b2, o2, vs2, ha2, -, -, hc2, rfl, hz1, hz2⟩ := e2 k hk'
        have hrow : (ls[k].1, ls[k].2, (i : Int)) ∈ rowsTo sets sets.length := by subst hls; exact row_here hi' hk'
        have hne : ¬ ls[k].2 = ByteArray.mk #[] := by subst hls; exact (hval i hi' k hk').2.1
        refine cw_skip (nrm_then ?_)
        refine cw_seq ?_
        refine cw_block ?_
        refine cw_seq ?_
        refine cw_region ?_
        refine wl_val rfl (ex_move rfl) ?_
        refine wl_val rfl (ex_move rfl) ?_
        refine wl_val rfl (ex_indexAddr (n := i) (by rw [ha1]; rfl) rfl Try.elem25 (by omega)) ?_
        refine wl_val rfl (ex_load1 rfl Try.agg31 ((hc1.evo hE13 (by simp)) 0 _ rfl)) ?_
        refine wl_val rfl (ex_move rfl) ?_
        refine wl_val rfl (ex_indexAddr (n := k) (by rw [ha2]; rfl) rfl Try.elem31 (by omega)) ?_
        refine wl_val rfl (ex_loadA rfl Try.agg33 Try.size33 (vs := [_, _]) rfl (hc2.evo hE13 (by simp))) ?_
        have hIlt9 := (hF15).lt
        refine wl_alloc rfl Try.zero33 fun b8 w16 hB17 hs18 hw19 => ?_
        have hsz_b8 := hs18
        have hG20 := Ge.new hE13 hs18
        have hG21 := Ge.new hE14 hs18
        have hG22 := Ge.new hV12 hs18
        have hE23 := hE13.then hw19
        have hE24 := hE14.then hw19
        have hE25 := hV12.then hw19
        have hF26 := hF15.evo0 hw19
        have hb8I : b8 ∉ Ixl bx mb D := fun hb => by have := hIlt9 b8 hb; have := hsz_b8; omega
        refine wl_storeBlk rfl rfl Try.size33 hB17 rfl rfl ⟨by first | rfl | assumption, by first | rfl | assumption, trivial⟩ fun w27 hB28 hw29 => ?_
        have hE30 := hE23.step hw29 hG20.mem1
        have hE31 := hE24.step hw29 hG21.mem1
        have hE32 := hE25.step hw29 hG22.mem1
        have hF33 := hF26.evo hw29 (fun b hb hm => by simp at hm; subst hm; exact hb8I hb)
        refine wl_nil (nrm_then ?_)
        refine cw_seq ?_
        refine cw_region ?_
        refine wl_val rfl (ex_move rfl) ?_
        refine wl_val rfl (ex_fieldAddr rfl Try.fld33_0) ?_
        refine wl_val rfl (ex_load1 rfl Try.agg9 (cell_nth hB28 rfl)) ?_
        refine wl_val rfl (ex_fieldAddr rfl Try.fld33_1) ?_
        refine wl_val rfl (ex_load1 rfl Try.agg9 (cell_nth hB28 rfl)) ?_
        refine wl_call1 (vs := [_, _, _]) Try.goes14 rfl (ids_ok (n := ls[k].1) (v := ls[k].2) hF33 hK (⟨_, hrow, rfl⟩) (hne) hl3) rfl ?_
        rintro _ w34 ⟨aA, cA, oA, rfl, hOA, hGA, hw35⟩
        have hA36 := Apart.fresh (Lt.blk hB28) hGA
        have hG37 := Ge.fresh hE30 hGA
        have hG38 := Ge.fresh hE31 hGA
        have hG39 := Ge.fresh hE32 hGA
        have hE40 := hE30.then hw35
        have hE41 := hE31.then hw35
        have hE42 := hE32.then hw35
        have hF43 := hF33.evo0 hw35
        have hB44 := hw35.blk0 hB28
        refine wl_val rfl (ex_assign rfl) ?_
        refine wl_nil (nrm_then ?_)
        refine cw_seq ?_
        refine cw_region ?_
        refine wl_val rfl (ex_move rfl) ?_
        refine wl_val rfl (ex_move rfl) ?_
        refine wl_bslice (vs := [_]) rfl Try.slice22 rfl rfl rfl rfl fun b45 w46 hO47 hs48 hw49 => ?_
        have hA50 := Apart.new (Lt.blk hB44) hs48
        have hA51 := Apart.new (Lt.own hOA) hs48
        have hG52 := Ge.new hE40 hs48
        have hG53 := Ge.new hE41 hs48
        have hG54 := Ge.new hE42 hs48
        have hE55 := hE40.then hw49
        have hE56 := hE41.then hw49
        have hE57 := hE42.then hw49
        have hF58 := hF43.evo0 hw49
        have hB59 := hw49.blk0 hB44
        have hO60 := hOA.evo0 hw49
        refine wl_call1 (vs := [_, _]) Try.goes6 rfl (and_ok (own_rz (X := []) hO60 (fun _ _ => by simp)) (own_rz (X := []) (l := [(i : Int)]) hO47 (fun _ _ => by simp)) (by have := idsOf_le (rowsTo sets sets.length) ls[k].1 ls[k].2; omega) (by simp)) rfl ?_
        rintro _ w61 ⟨rB, ⟨aB, cB, oB, rfl, hOB, hGB, hw62⟩, hsB, hmB, hlB⟩
        have hA63 := Apart.fresh (Lt.blk hB59) hGB
        have hA64 := Apart.fresh (Lt.own hO60) hGB
        have hA65 := Apart.fresh (Lt.own hO47) hGB
        have hG66 := Ge.fresh hE55 hGB
        have hG67 := Ge.fresh hE56 hGB
        have hG68 := Ge.fresh hE57 hGB
        have hE69 := hE55.then hw62
        have hE70 := hE56.then hw62
        have hE71 := hE57.then hw62
        have hF72 := hF58.evo0 hw62
        have hB73 := hw62.blk0 hB59
        have hO74 := hO60.evo0 hw62
        have hO75 := hO47.evo0 hw62
        refine wl_val rfl (ex_len_slice rfl Try.underlying22 rfl) ?_
        refine wl_val rfl (ex_neqF rfl rfl (by have := sr_one hsB (i := (i : Int)) (fun x => by rw [hmB x]; simp only [List.mem_singleton]; constructor; exact fun h => h.2; rintro rfl; exact ⟨mem_ids.2 hrow, rfl⟩); omega)) ?_
        refine wl_val rfl (ex_move rfl) ?_
        refine wl_go rfl rfl rfl rfl ?_
        refine wl_val rfl (ex_move rfl) ?_
        refine wl_go rfl rfl rfl rfl ?_
        refine wl_val rfl (ex_fieldAddr rfl Try.fld33_0) ?_
        refine wl_go rfl rfl rfl rfl ?_
        refine wl_val rfl (ex_load1 rfl Try.agg9 (cell_nth hB73 rfl)) ?_
        refine wl_go rfl rfl rfl rfl ?_
        refine wl_val rfl (ex_fieldAddr rfl Try.fld33_1) ?_
        refine wl_go rfl rfl rfl rfl ?_
        refine wl_val rfl (ex_load1 rfl Try.agg9 (cell_nth hB73 rfl)) ?_
        refine wl_go rfl rfl rfl rfl ?_
        refine wl_val rfl (ex_sadd rfl rfl (by have : (ByteArray.mk #[120]).size = 1 := rfl; omega)) ?_
        refine wl_go rfl rfl rfl rfl ?_
        refine wl_call1 (vs := [_, _, _]) Try.goes14 rfl (ids_ok (n := ls[k].1) (v := (ls[k].2 ++ ByteArray.mk #[120])) hF72 hK (⟨_, hrow, rfl⟩) ((app_ne _).2) hl3) rfl ?_
        rintro _ w76 ⟨aC, cC, oC, rfl, hOC, hGC, hw77⟩
        have hA78 := Apart.fresh (Lt.blk hB73) hGC
        have hA79 := Apart.fresh (Lt.own hO74) hGC
        have hA80 := Apart.fresh (Lt.own hO75) hGC
        have hA81 := Apart.fresh (Lt.own hOB) hGC
        have hG82 := Ge.fresh hE69 hGC
        have hG83 := Ge.fresh hE70 hGC
        have hG84 := Ge.fresh hE71 hGC
        have hE85 := hE69.then hw77
        have hE86 := hE70.then hw77
        have hE87 := hE71.then hw77
        have hF88 := hF72.evo0 hw77
        have hB89 := hw77.blk0 hB73
        have hO90 := hO74.evo0 hw77
        have hO91 := hO75.evo0 hw77
        have hO92 := hOB.evo0 hw77
        refine wl_go rfl rfl rfl rfl ?_
        refine wl_val rfl (ex_move rfl) ?_
        refine wl_go rfl rfl rfl rfl ?_
        refine wl_bslice (vs := [_]) rfl Try.slice22 rfl rfl rfl rfl fun b93 w94 hO95 hs96 hw97 => ?_
        have hA98 := Apart.new (Lt.blk hB89) hs96
        have hA99 := Apart.new (Lt.own hO90) hs96
        have hA100 := Apart.new (Lt.own hO91) hs96
        have hA101 := Apart.new (Lt.own hO92) hs96
        have hA102 := Apart.new (Lt.own hOC) hs96
        have hG103 := Ge.new hE85 hs96
        have hG104 := Ge.new hE86 hs96
        have hG105 := Ge.new hE87 hs96
        have hE106 := hE85.then hw97
        have hE107 := hE86.then hw97
        have hE108 := hE87.then hw97
        have hF109 := hF88.evo0 hw97
        have hB110 := hw97.blk0 hB89
        have hO111 := hO90.evo0 hw97
        have hO112 := hO91.evo0 hw97
        have hO113 := hO92.evo0 hw97
        have hO114 := hOC.evo0 hw97
        refine wl_go rfl rfl rfl rfl ?_
        refine wl_call1 (vs := [_, _]) Try.goes6 rfl (and_ok (own_rz (X := []) hO114 (fun _ _ => by simp)) (own_rz (X := []) (l := [(i : Int)]) hO95 (fun _ _ => by simp)) (by have := idsOf_le (rowsTo sets sets.length) ls[k].1 (ls[k].2 ++ ByteArray.mk #[120]); omega) (by simp)) rfl ?_
        rintro _ w115 ⟨rE, ⟨aE, cE, oE, rfl, hOE, hGE, hw116⟩, hsE, hmE, hlE⟩
        have hA117 := Apart.fresh (Lt.blk hB110) hGE
        have hA118 := Apart.fresh (Lt.own hO111) hGE
        have hA119 := Apart.fresh (Lt.own hO112) hGE
        have hA120 := Apart.fresh (Lt.own hO113) hGE
        have hA121 := Apart.fresh (Lt.own hO114) hGE
        have hA122 := Apart.fresh (Lt.own hO95) hGE
        have hG123 := Ge.fresh hE106 hGE
        have hG124 := Ge.fresh hE107 hGE
        have hG125 := Ge.fresh hE108 hGE
        have hE126 := hE106.then hw116
        have hE127 := hE107.then hw116
        have hE128 := hE108.then hw116
        have hF129 := hF109.evo0 hw116
        have hB130 := hw116.blk0 hB110
        have hO131 := hO111.evo0 hw116
        have hO132 := hO112.evo0 hw116
        have hO133 := hO113.evo0 hw116
        have hO134 := hO114.evo0 hw116
        have hO135 := hO95.evo0 hw116
        refine wl_go rfl rfl rfl rfl ?_
        refine wl_val rfl (ex_len_slice rfl Try.underlying22 rfl) ?_
        refine wl_go rfl rfl rfl rfl ?_
        refine wl_val rfl (ex_neqF rfl rfl (by have := sr_none (l := rE) (fun x h => by have h2 := (hmE x).1 h; have h3 := List.mem_singleton.1 h2.2; subst h3; have h4 := mem_ids.1 h2.1; subst hls; exact row_other hi' hk' (hval i hi') (app_ne _).1 h4); omega)) ?_
        refine wl_val rfl (ex_pick_f rfl rfl) ?_
        refine wl_nil (nrm_then ?_)
        refine cw_false rfl ?_
        refine cw_skip (nrm_block (nrm_then ?_))
        refine cw_region ?_
        refine wl_val rfl (ex_move rfl) ?_
        refine wl_val rfl (ex_add_i64 rfl rfl (by omega) (by omega)) ?_
        refine wl_val rfl (ex_assign rfl) ?_
        refine wl_nil (nrm_same ?_)
        refine ⟨k + 1, ?_, ⟨rfl, trivial⟩, ⟨rfl, rfl, rfl, rfl, trivial⟩, hE128, ?_⟩
        · omega
        · skip
          omega
      · skip
        refine cw_exit (ex_then (ex_then (ex_here (nrm_block (nrm_then ?_)))))
        refine cw_region ?_
        refine wl_val rfl (ex_move rfl) ?_
        refine wl_val rfl (ex_add_i64 rfl rfl (by omega) (by omega)) ?_
        refine wl_val rfl (ex_assign rfl) ?_
        refine wl_nil (nrm_same ?_)
        refine ⟨i + 1, ?_, ⟨rfl, rfl, trivial⟩, ⟨rfl, rfl, trivial⟩, hE14, ?_⟩
        · omega
        · skip
          omega
    · skip
      obtain rfl : i = sets.length := by omega
      refine cw_exit (ex_then (ex_then (ex_here (nrm_then ?_))))
      refine cw_seq ?_
      refine cw_region ?_
      refine wl_val rfl (ex_move rfl) ?_
      refine wl_call1 (vs := [_]) Try.goes15 rfl (names_ok hF10 hK hl3) rfl ?_
      rintro _ w136 ⟨names, na, nc, nob, rfl, hNP, hNS, hNO, hNG, hw137⟩
      have hG138 := Ge.fresh hE9 hNG
      have hG139 := Ge.fresh hV8 hNG
      have hE140 := hE9.then hw137
      have hE141 := hV8.then hw137
      have hF142 := hF10.evo0 hw137
      have hNl := hNP.length_eq
      rw [List.length_map] at hNl
      have hDl := hK.len_le
      refine wl_val rfl (ex_assign rfl) ?_
      refine wl_nil (nrm_then ?_)
      refine cw_seq ?_
      refine cw_region ?_
      refine wl_val rfl (ex_assign rfl) ?_
      refine wl_nil (nrm_then ?_)
      refine cw_seq ?_
      refine cw_seq ?_
      refine cw_region ?_
      refine wl_val rfl (ex_assign rfl) ?_
      refine wl_nil (nrm_then ?_)
      refine cw_block ?_
      refine cw_loop (α := Nat) (0) (fun j => [(12, .int .i64 (j : Nat)), (11, .int .i64 ((((names.take j).map (fcnt D)).sum : Nat) : Int))]) [(3, _), (5, _), (10, _)] (fun j wr => Evo [] w136 wr ∧ (j ≤ names.length)) (fun j => names.length - j) ⟨rfl, rfl, trivial⟩ ⟨rfl, rfl, rfl, trivial⟩ ⟨Evo.refl _ _, Nat.zero_le _⟩ ?_
      rintro j wr143 ⟨hV144, hj⟩
      show CW _ _ _ _ [(12, _), (11, _), (3, _), (5, _), (10, _)] _
      have hE145 := hE140.then hV144
      have hE146 := hE141.then hV144
      have hF147 := hF142.evo0 hV144
      have hO148 := hNO.evo0 hV144
      refine cw_seq ?_
      refine cw_seq ?_
      refine cw_region ?_
      refine wl_val rfl (ex_move rfl) ?_
      refine wl_val rfl (ex_move rfl) ?_
      refine wl_val rfl (ex_len_slice rfl Try.underlying35 rfl) ?_
      refine wl_val rfl (ex_lss rfl rfl) ?_
      refine wl_nil (nrm_then ?_)
      refine cw_if rfl (fun hc87 => ?_) (fun hc87 => ?_)
      · skip
        have hj' : j < names.length := by omega
        obtain ⟨e, he, hen⟩ := List.mem_map.1 (hNP.mem_iff.1 (List.getElem_mem hj'))
        refine cw_skip (nrm_then ?_)
        refine cw_seq ?_
        refine cw_block ?_
        refine cw_seq ?_
        refine cw_cut (α := Unit) (fun x => [(103, .bool false)]) [(3, _), (5, _), (10, _), (11, _), (12, _)] (fun x wr => Evo [] wr143 wr ∧ (True)) ⟨rfl, rfl, rfl, rfl, rfl, trivial⟩ ?_ ?_
        · skip
          refine cw_seq ?_
          obtain ⟨gN, haN, hcN⟩ := own_strs hO148 (by omega)
          refine cw_quiet (by kernel_rfl) (by kernel_rfl) ?_
          refine ql_val rfl (fun _ hq150 => ex_move rfl) ?_
          refine ql_val rfl (fun _ hq150 => ex_gtr rfl rfl) ?_
          refine ql_val rfl (fun _ hq150 => ex_move rfl) ?_
          refine ql_split (t := 92) rfl (fun hs92 => ?_) (fun hs92 => ?_)
          · skip
            refine ql_go rfl rfl rfl rfl ?_
            refine ql_val rfl (fun _ hq150 => ex_move rfl) ?_
            refine ql_go rfl rfl rfl rfl ?_
            refine ql_val rfl (fun _ hq150 => ex_move rfl) ?_
            refine ql_go rfl rfl rfl rfl ?_
            refine ql_val rfl (fun _ hq150 => ex_indexAddrZ (n := j) (by rw [haN]; rfl) rfl (by omega) Try.elem35 (by omega)) ?_
            refine ql_go rfl rfl rfl rfl ?_
            refine ql_val rfl (fun _ hq150 => ex_load1 rfl Try.agg9 ((((Evo.refl [] wr143).then hq150)).cell (hcN (j) (by omega)) (by simp))) ?_
            refine ql_go rfl rfl rfl rfl ?_
            refine ql_val rfl (fun _ hq150 => ex_move rfl) ?_
            refine ql_go rfl rfl rfl rfl ?_
            refine ql_val rfl (fun _ hq150 => ex_move rfl) ?_
            refine ql_go rfl rfl rfl rfl ?_
            refine ql_val rfl (fun _ hq150 => ex_sub_i64 rfl rfl (by omega) (by omega)) ?_
            refine ql_go rfl rfl rfl rfl ?_
            refine ql_val rfl (fun _ hq150 => ex_indexAddrZ (n := j - 1) (by rw [haN]; rfl) rfl (by omega) Try.elem35 (by omega)) ?_
            refine ql_go rfl rfl rfl rfl ?_
            refine ql_val rfl (fun _ hq150 => ex_load1 rfl Try.agg9 ((((Evo.refl [] wr143).then hq150)).cell (hcN (j - 1) (by omega)) (by simp))) ?_
            refine ql_go rfl rfl rfl rfl ?_
            refine ql_val rfl (fun _ hq150 => ex_sleqF rfl rfl (hNS.at hj' (by omega))) ?_
            refine ql_val rfl (fun _ hq150 => ex_pick_t rfl rfl) ?_
            refine ql_nil (fun wq149 hq150 => nrm_then ?_)
            have hE151 := hE145.then hq150
            have hE152 := hE146.then hq150
            have hE153 := hV144.then hq150
            have hE154 := (Evo.refl [] wr143).then hq150
            have hE155 := (Evo.refl [] wr143).then hq150
            have hF156 := hF147.evo0 hq150
            have hO157 := hO148.evo0 hq150
            refine cw_false rfl ?_
            refine cw_skip (nrm_same ?_)
            refine ⟨(), ⟨rfl, trivial⟩, ⟨rfl, rfl, rfl, rfl, rfl, trivial⟩, hE154, ?_⟩
            trivial
          · skip
            refine ql_no rfl rfl rfl rfl rfl rfl ?_
            refine ql_no rfl rfl rfl rfl rfl rfl ?_
            refine ql_no rfl rfl rfl rfl rfl rfl ?_
            refine ql_no rfl rfl rfl rfl rfl rfl ?_
            refine ql_no rfl rfl rfl rfl rfl rfl ?_
            refine ql_no rfl rfl rfl rfl rfl rfl ?_
            refine ql_no rfl rfl rfl rfl rfl rfl ?_
            refine ql_no rfl rfl rfl rfl rfl rfl ?_
            refine ql_no rfl rfl rfl rfl rfl rfl ?_
            refine ql_no rfl rfl rfl rfl rfl rfl ?_
            refine ql_val rfl (fun _ hq150 => ex_pick_f rfl rfl) ?_
            refine ql_nil (fun wq149 hq150 => nrm_then ?_)
            have hE158 := hE145.then hq150
            have hE159 := hE146.then hq150
            have hE160 := hV144.then hq150
            have hE161 := (Evo.refl [] wr143).then hq150
            have hE162 := (Evo.refl [] wr143).then hq150
            have hF163 := hF147.evo0 hq150
            have hO164 := hO148.evo0 hq150
            refine cw_false rfl ?_
            refine cw_skip (nrm_same ?_)
            refine ⟨(), ⟨rfl, trivial⟩, ⟨rfl, rfl, rfl, rfl, rfl, trivial⟩, hE161, ?_⟩
            trivial
        · skip
          rintro x w165 ⟨hV166, _⟩
          refine nrm_then ?_
          show CW _ _ _ _ [(103, _), (3, _), (5, _), (10, _), (11, _), (12, _)] _
          have hE167 := hE145.then hV166
          have hE168 := hE146.then hV166
          have hE169 := hV144.then hV166
          have hF170 := hF147.evo0 hV166
          have hO171 := hO148.evo0 hV166
          refine cw_seq ?_
          obtain ⟨gN, haN, hcN⟩ := own_strs hO171 (by omega)
          refine cw_region ?_
          refine wl_val rfl (ex_move rfl) ?_
          refine wl_val rfl (ex_move rfl) ?_
          refine wl_val rfl (ex_move rfl) ?_
          refine wl_val rfl (ex_indexAddrZ (n := j) (by rw [haN]; rfl) rfl (by omega) Try.elem35 (by omega)) ?_
          refine wl_val rfl (ex_load1 rfl Try.agg9 (((Evo.refl [] w165)).cell (hcN (j) (by omega)) (by simp))) ?_
          refine wl_call1 (vs := [_, _]) Try.goes16 rfl (values_nm hen hF170 hK he hl3) rfl ?_
          rintro _ w172 ⟨vals, ua, uc, uob, rfl, hVP, hVS, hVO, hVG, hw173⟩
          have hA174 := Apart.fresh (Lt.own hO171) hVG
          have hG175 := Ge.fresh hE167 hVG
          have hG176 := Ge.fresh hE168 hVG
          have hG177 := Ge.fresh hE169 hVG
          have hG178 := Ge.fresh (Evo.refl [] w165) hVG
          have hE179 := hE167.then hw173
          have hE180 := hE168.then hw173
          have hE181 := hE169.then hw173
          have hE182 := (Evo.refl [] w165).then hw173
          have hF183 := hF170.evo0 hw173
          have hO184 := hO171.evo0 hw173
          have hVl := hVP.length_eq
          rw [List.length_map] at hVl
          have hvl2 := hK.vs_le he
          have hcl2 := hK.cnt_le he
          have hvne := List.length_pos_iff.2 (hK.ne e he)
          refine wl_val rfl (ex_assign rfl) ?_
          refine wl_nil (nrm_then ?_)
          refine cw_seq ?_
          refine cw_seq ?_
          refine cw_region ?_
          refine wl_val rfl (ex_move rfl) ?_
          refine wl_val rfl (ex_len_slice rfl Try.underlying35 rfl) ?_
          refine wl_val rfl (ex_eqlF rfl rfl (by omega)) ?_
          refine wl_nil (nrm_then ?_)
          refine cw_false rfl ?_
          refine cw_skip (nrm_then ?_)
          refine cw_seq ?_
          refine cw_region ?_
          refine wl_val rfl (ex_assign rfl) ?_
          refine wl_nil (nrm_then ?_)
          refine cw_block ?_
          refine cw_loop (α := Nat) (0) (fun l => [(14, .int .i64 (l : Nat)), (11, .int .i64 ((((names.take j).map (fcnt D)).sum + ((vals.take l).map fun v => (idsOf (rowsTo sets sets.length) e.nm v).length).sum : Nat) : Int))]) [(3, _), (5, _), (10, _), (12, _), (13, _)] (fun l wr => Evo [] w172 wr ∧ (l ≤ vals.length)) (fun l => vals.length - l) ⟨rfl, rfl, trivial⟩ ⟨rfl, rfl, rfl, rfl, rfl, trivial⟩ ⟨Evo.refl _ _, Nat.zero_le _⟩ ?_
          rintro l wr185 ⟨hV186, hl⟩
          show CW _ _ _ _ [(14, _), (11, _), (3, _), (5, _), (10, _), (12, _), (13, _)] _
          have hE187 := hE179.then hV186
          have hE188 := hE180.then hV186
          have hE189 := hE181.then hV186
          have hE190 := hE182.then hV186
          have hF191 := hF183.evo0 hV186
          have hO192 := hO184.evo0 hV186
          have hO193 := hVO.evo0 hV186
          refine cw_seq ?_
          refine cw_seq ?_
          refine cw_region ?_
          refine wl_val rfl (ex_move rfl) ?_
          refine wl_val rfl (ex_move rfl) ?_
          refine wl_val rfl (ex_len_slice rfl Try.underlying35 rfl) ?_
          refine wl_val rfl (ex_lss rfl rfl) ?_
          refine wl_nil (nrm_then ?_)
          refine cw_if rfl (fun hc116 => ?_) (fun hc116 => ?_)
          · skip
            have hl' : l < vals.length := by omega
            have hidn : idsOf (rowsTo sets sets.length) names[j] vals[l] ≠ [] := by
              obtain ⟨x, hx, hxv⟩ := List.mem_map.1 (hVP.mem_iff.1 (List.getElem_mem hl'))
              have h1 := hK.ids e he x hx
              rw [← hen, ← hxv, ← h1.1]; exact h1.2
            refine cw_skip (nrm_then ?_)
            refine cw_seq ?_
            refine cw_block ?_
            refine cw_seq ?_
            refine cw_cut (α := Unit) (fun x => [(132, .bool false)]) [(3, _), (5, _), (10, _), (11, _), (12, _), (13, _), (14, _)] (fun x wr => Evo [] wr185 wr ∧ (True)) ⟨rfl, rfl, rfl, rfl, rfl, rfl, rfl, trivial⟩ ?_ ?_
            · skip
              refine cw_seq ?_
              obtain ⟨gV, haV, hcV⟩ := own_strs hO193 (by omega)
              refine cw_quiet (by kernel_rfl) (by kernel_rfl) ?_
              refine ql_val rfl (fun _ hq195 => ex_move rfl) ?_
              refine ql_val rfl (fun _ hq195 => ex_gtr rfl rfl) ?_
              refine ql_val rfl (fun _ hq195 => ex_move rfl) ?_
              refine ql_split (t := 121) rfl (fun hs121 => ?_) (fun hs121 => ?_)
              · skip
                refine ql_go rfl rfl rfl rfl ?_
                refine ql_val rfl (fun _ hq195 => ex_move rfl) ?_
                refine ql_go rfl rfl rfl rfl ?_
                refine ql_val rfl (fun _ hq195 => ex_move rfl) ?_
                refine ql_go rfl rfl rfl rfl ?_
                refine ql_val rfl (fun _ hq195 => ex_indexAddrZ (n := l) (by rw [haV]; rfl) rfl (by omega) Try.elem35 (by omega)) ?_
                refine ql_go rfl rfl rfl rfl ?_
                refine ql_val rfl (fun _ hq195 => ex_load1 rfl Try.agg9 ((((Evo.refl [] wr185).then hq195)).cell (hcV (l) (by omega)) (by simp))) ?_
                refine ql_go rfl rfl rfl rfl ?_
                refine ql_val rfl (fun _ hq195 => ex_move rfl) ?_
                refine ql_go rfl rfl rfl rfl ?_
                refine ql_val rfl (fun _ hq195 => ex_move rfl) ?_
                refine ql_go rfl rfl rfl rfl ?_
                refine ql_val rfl (fun _ hq195 => ex_sub_i64 rfl rfl (by omega) (by omega)) ?_
                refine ql_go rfl rfl rfl rfl ?_
                refine ql_val rfl (fun _ hq195 => ex_indexAddrZ (n := l - 1) (by rw [haV]; rfl) rfl (by omega) Try.elem35 (by omega)) ?_
                refine ql_go rfl rfl rfl rfl ?_
                refine ql_val rfl (fun _ hq195 => ex_load1 rfl Try.agg9 ((((Evo.refl [] wr185).then hq195)).cell (hcV (l - 1) (by omega)) (by simp))) ?_
                refine ql_go rfl rfl rfl rfl ?_
                refine ql_val rfl (fun _ hq195 => ex_sleqF rfl rfl (hVS.at hl' (by omega))) ?_
                refine ql_val rfl (fun _ hq195 => ex_pick_t rfl rfl) ?_
                refine ql_nil (fun wq194 hq195 => nrm_then ?_)
                have hE196 := hE187.then hq195
                have hE197 := hE188.then hq195
                have hE198 := hE189.then hq195
                have hE199 := hE190.then hq195
                have hE200 := hV186.then hq195
                have hE201 := (Evo.refl [] wr185).then hq195
                have hE202 := (Evo.refl [] wr185).then hq195
                have hF203 := hF191.evo0 hq195
                have hO204 := hO192.evo0 hq195
                have hO205 := hO193.evo0 hq195
                refine cw_false rfl ?_
                refine cw_skip (nrm_same ?_)
                refine ⟨(), ⟨rfl, trivial⟩, ⟨rfl, rfl, rfl, rfl, rfl, rfl, rfl, trivial⟩, hE201, ?_⟩
                trivial
              · skip
                refine ql_no rfl rfl rfl rfl rfl rfl ?_
                refine ql_no rfl rfl rfl rfl rfl rfl ?_
                refine ql_no rfl rfl rfl rfl rfl rfl ?_
                refine ql_no rfl rfl rfl rfl rfl rfl ?_
                refine ql_no rfl rfl rfl rfl rfl rfl ?_
                refine ql_no rfl rfl rfl rfl rfl rfl ?_
                refine ql_no rfl rfl rfl rfl rfl rfl ?_
                refine ql_no rfl rfl rfl rfl rfl rfl ?_
                refine ql_no rfl rfl rfl rfl rfl rfl ?_
                refine ql_no rfl rfl rfl rfl rfl rfl ?_
                refine ql_val rfl (fun _ hq195 => ex_pick_f rfl rfl) ?_
                refine ql_nil (fun wq194 hq195 => nrm_then ?_)
                have hE206 := hE187.then hq195
                have hE207 := hE188.then hq195
                have hE208 := hE189.then hq195
                have hE209 := hE190.then hq195
                have hE210 := hV186.then hq195
                have hE211 := (Evo.refl [] wr185).then hq195
                have hE212 := (Evo.refl [] wr185).then hq195
                have hF213 := hF191.evo0 hq195
                have hO214 := hO192.evo0 hq195
                have hO215 := hO193.evo0 hq195
                refine cw_false rfl ?_
                refine cw_skip (nrm_same ?_)
                refine ⟨(), ⟨rfl, trivial⟩, ⟨rfl, rfl, rfl, rfl, rfl, rfl, rfl, trivial⟩, hE211, ?_⟩
                trivial
            · skip
              rintro x w216 ⟨hV217, _⟩
              refine nrm_then ?_
              show CW _ _ _ _ [(132, _), (3, _), (5, _), (10, _), (11, _), (12, _), (13, _), (14, _)] _
              have hE218 := hE187.then hV217
              have hE219 := hE188.then hV217
              have hE220 := hE189.then hV217
              have hE221 := hE190.then hV217
              have hE222 := hV186.then hV217
              have hF223 := hF191.evo0 hV217
              have hO224 := hO192.evo0 hV217
              have hO225 := hO193.evo0 hV217
              refine cw_seq ?_
              obtain ⟨gN, haN, hcN⟩ := own_strs hO224 (by omega)
              obtain ⟨gV, haV, hcV⟩ := own_strs hO225 (by omega)
              refine cw_any (fun w0 w' => Evo [] w0 w') (by kernel_rfl) (fun w226 hw227 => ?_)
              have hE228 := hE218.then hw227
              have hE229 := hE219.then hw227
              have hE230 := hE220.then hw227
              have hE231 := hE221.then hw227
              have hE232 := hE222.then hw227
              have hE233 := (Evo.refl [] w216).then hw227
              have hF234 := hF223.evo0 hw227
              have hO235 := hO224.evo0 hw227
              have hO236 := hO225.evo0 hw227
              refine ae_take 0 rfl (by kernel_rfl) (by kernel_rfl) (by kernel_rfl) rfl (fun _ hS => ex_move rfl) (Evo.refl [] w226) ?_
              refine ae_take 1 rfl (by kernel_rfl) (by kernel_rfl) (by kernel_rfl) rfl (fun _ hS => ex_move rfl) (Evo.refl [] w226) ?_
              refine ae_take 2 rfl (by kernel_rfl) (by kernel_rfl) (by kernel_rfl) rfl (fun _ hS => ex_move rfl) (Evo.refl [] w226) ?_
              refine ae_take 3 rfl (by kernel_rfl) (by kernel_rfl) (by kernel_rfl) rfl (fun _ hS => ex_indexAddrZ (n := j) (by rw [haN]; rfl) rfl (by omega) Try.elem35 (by omega)) (Evo.refl [] w226) ?_
              refine ae_take 4 rfl (by kernel_rfl) (by kernel_rfl) (by kernel_rfl) rfl (fun _ hS => ex_load1 rfl Try.agg9 (((hE233.then hS)).cell (hcN (j) (by omega)) (by simp))) (Evo.refl [] w226) ?_
              refine ae_take 5 rfl (by kernel_rfl) (by kernel_rfl) (by kernel_rfl) rfl (fun _ hS => ex_move rfl) (Evo.refl [] w226) ?_
              refine ae_take 6 rfl (by kernel_rfl) (by kernel_rfl) (by kernel_rfl) rfl (fun _ hS => ex_move rfl) (Evo.refl [] w226) ?_
              refine ae_take 7 rfl (by kernel_rfl) (by kernel_rfl) (by kernel_rfl) rfl (fun _ hS => ex_indexAddrZ (n := l) (by rw [haV]; rfl) rfl (by omega) Try.elem35 (by omega)) (Evo.refl [] w226) ?_
              refine ae_take 8 rfl (by kernel_rfl) (by kernel_rfl) (by kernel_rfl) rfl (fun _ hS => ex_load1 rfl Try.agg9 (((hE233.then hS)).cell (hcV (l) (by omega)) (by simp))) (Evo.refl [] w226) ?_
              refine ae_loud [9] (by kernel_rfl) rfl ⟨?_, trivial⟩
              refine a_step rfl ?_
              refine wl_call1 (vs := [_, _, _]) Try.goes14 rfl (ids_ok (n := names[j]) (v := vals[l]) hF234 hK (val_has hidn) (val_ne hval hidn) hl3) rfl ?_
              rintro _ w237 ⟨aA, cA, oA, rfl, hOA, hGA, hw238⟩
              have hA239 := Apart.fresh (Lt.own hO235) hGA
              have hA240 := Apart.fresh (Lt.own hO236) hGA
              have hG241 := Ge.fresh hE228 hGA
              have hG242 := Ge.fresh hE229 hGA
              have hG243 := Ge.fresh hE230 hGA
              have hG244 := Ge.fresh hE231 hGA
              have hG245 := Ge.fresh hE232 hGA
              have hG246 := Ge.fresh hE233 hGA
              have hG247 := Ge.fresh (Evo.refl [] w226) hGA
              have hE248 := hE228.then hw238
              have hE249 := hE229.then hw238
              have hE250 := hE230.then hw238
              have hE251 := hE231.then hw238
              have hE252 := hE232.then hw238
              have hE253 := hE233.then hw238
              have hE254 := (Evo.refl [] w226).then hw238
              have hF255 := hF234.evo0 hw238
              have hO256 := hO235.evo0 hw238
              have hO257 := hO236.evo0 hw238
              refine wl_nil (ae_next (.inl hE254) ?_)
              refine ae_take 10 rfl (by kernel_rfl) (by kernel_rfl) (by kernel_rfl) rfl (fun _ hS => ex_len_slice rfl Try.underlying22 rfl) hE254 ?_
              refine ae_take 11 rfl (by kernel_rfl) (by kernel_rfl) (by kernel_rfl) rfl (fun _ hS => ex_assign rfl) hE254 ?_
              refine ae_done (by kernel_rfl) (nrm_then ?_)
              refine cw_seq ?_
              refine cw_seq ?_
              refine cw_region ?_
              refine wl_val rfl (ex_move rfl) ?_
              refine wl_val rfl (ex_eqlF rfl rfl (by have := List.length_pos_iff.2 hidn; omega)) ?_
              refine wl_nil (nrm_then ?_)
              refine cw_false rfl ?_
              refine cw_skip (nrm_then ?_)
              have hb1 := take_le (fcnt D) (l := names) j
              rw [hK.total hNP (fun e he => fcnt_of hK.nmN he)] at hb1
              have hb2 := take_le (fun v => (idsOf (rowsTo sets sets.length) e.nm v).length) (l := vals) l
              rw [hK.valsum he hVP] at hb2
              have hcl3 := hK.cnt_le he
              have hil := idsOf_le (rowsTo sets sets.length) names[j] vals[l]
              refine cw_region ?_
              refine wl_val rfl (ex_move rfl) ?_
              refine wl_val rfl (ex_move rfl) ?_
              refine wl_val rfl (ex_add_i64 rfl rfl (by omega) (by omega)) ?_
              rw [show (((((names.take j).map (fcnt D)).sum + ((vals.take l).map fun v => (idsOf (rowsTo sets sets.length) e.nm v).length).sum : Nat) : Int) + ((idsOf (rowsTo sets sets.length) names[j] vals[l]).length : Int)) = ((((names.take j).map (fcnt D)).sum + ((vals.take (l + 1)).map fun v => (idsOf (rowsTo sets sets.length) e.nm v).length).sum : Nat) : Int) from by rw [take_sum _ hl']; simp only [hen]; omega]
              refine wl_val rfl (ex_assign rfl) ?_
              refine wl_nil (nrm_block (nrm_then ?_))
              refine cw_region ?_
              refine wl_val rfl (ex_move rfl) ?_
              refine wl_val rfl (ex_add_i64 rfl rfl (by omega) (by omega)) ?_
              refine wl_val rfl (ex_assign rfl) ?_
              refine wl_nil (nrm_same ?_)
              refine ⟨l + 1, ?_, ⟨rfl, rfl, trivial⟩, ⟨rfl, rfl, rfl, rfl, rfl, trivial⟩, hE252, ?_⟩
              · omega
              · skip
                omega
          · skip
            obtain rfl : l = vals.length := by omega
            rw [show ((((names.take j).map (fcnt D)).sum + ((vals.take vals.length).map fun v => (idsOf (rowsTo sets sets.length) e.nm v).length).sum : Nat) : Int) = ((((names.take (j + 1)).map (fcnt D)).sum : Nat) : Int) from by rw [List.take_length, hK.valsum he hVP, take_sum _ hj', ← hen, fcnt_of hK.nmN he]]
            refine cw_exit (ex_then (ex_then (ex_here (nrm_block (nrm_then ?_)))))
            refine cw_region ?_
            refine wl_val rfl (ex_move rfl) ?_
            refine wl_val rfl (ex_add_i64 rfl rfl (by omega) (by omega)) ?_
            refine wl_val rfl (ex_assign rfl) ?_
            refine wl_nil (nrm_same ?_)
            refine ⟨j + 1, ?_, ⟨rfl, rfl, trivial⟩, ⟨rfl, rfl, rfl, trivial⟩, hE189, ?_⟩
            · omega
            · skip
              omega
      · skip
        obtain rfl : j = names.length := by omega
        refine cw_exit (ex_then (ex_then (ex_here (nrm_then ?_))))
        refine cw_seq ?_
        refine cw_region ?_
        refine wl_val rfl (ex_move rfl) ?_
        refine wl_val rfl (ex_move rfl) ?_
        refine wl_val rfl (ex_eqlT rfl rfl (by rw [List.take_length, hK.total hNP (fun e he => fcnt_of hK.nmN he)])) ?_
        refine wl_val rfl (ex_assign rfl) ?_
        refine wl_nil (nrm_then ?_)
        refine cw_ret (body_ret1 rfl rfl ?_)
        exact ⟨rfl, hE145⟩

end Go.Proofs.Ytebghjbfdpeipaa
