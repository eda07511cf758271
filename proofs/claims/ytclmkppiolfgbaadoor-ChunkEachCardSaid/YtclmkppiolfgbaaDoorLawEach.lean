/- The law ChunkEach answers true at all bytes and places to stop: the iterator gives what Unpack answers, in order: gone over whole, left early, gone over again, the bytes written over meanwhile. Condition: the table math/bits.deBruijn64tab holds what the text of the program lays there (the card ties it). -/
import Derived.Test.YtclmkppiolfgbaaDoorKq
import Derived.Test.YtclmkppiolfgbaaDoorLy
import Derived.Test.YtclmkppiolfgbaaDoorMa
namespace Go.Proofs.YtclmkppiolfgbaaDoor
open Go.Proofs
open Go.W Go.ChangeShapes Go.WideShapes Go.ChangeAt Go.RowKit
set_option linter.unusedVariables false
attribute [local irreducible] Decidable.decide
set_option linter.unusedSimpArgs false
set_option linter.unusedVariables false
theorem Tryd.goes11 : Goes Tryd.prog 11 := ⟨_, Tryd.func11, by kernel_rfl, by kernel_rfl⟩
theorem Tryd.goes20 : Goes Tryd.prog 20 := ⟨_, Tryd.func20, by kernel_rfl, by kernel_rfl⟩
theorem Tryd.goes26 : Goes Tryd.prog 26 := ⟨_, Tryd.func26, by kernel_rfl, by kernel_rfl⟩
theorem Tryd.goes37 : Goes Tryd.prog 37 := ⟨_, Tryd.func37, by kernel_rfl, by kernel_rfl⟩
theorem Tryd.zero22 : zeroB Tryd.prog 22 = some #[.slice none 0 0] := by kernel_rfl
theorem Tryd.zero3 : zeroB Tryd.prog 3 = some #[.int .i64 0] := by kernel_rfl
theorem Tryd.zero4 : zeroB Tryd.prog 4 = some #[.bool false] := by kernel_rfl

theorem each_ok {X : List Nat} {w : World} {v0 : Value} {bs : List Nat} (hs : RSl 1 RB X w v0 bs) (hl : bs.length ≤ 140737488355328) (ht : Tab w) :
    Calls Tryd.prog 26 #[v0] w (Ret fun r w' => ∃ b a n c out e ob, r = .func (.func 37) #[] #[.pointer (some ⟨b, 0, none⟩)] ∧ w'.heap[b]? = some (.cells #[.slice a n c] 22 (0, 0)) ∧ OwnS w' 41 3 a n c (srows out) ob ∧ List.length (α := Smp) out = n ∧ (∀ s, s ∈ out → s.Ok) ∧ Ge w ob ∧ Ge w (some b) ∧ Apart ob (some b) ∧ UnpackIs bs out e ∧ Evo [] w w') := by
  refine calls_of_cw (N := 11) Tryd.func26 rfl rfl rfl ?_
  refine cw_seq ?_
  refine cw_region ?_
  refine wl_val rfl (ex_assign rfl) ?_
  refine wl_nil (nrm_then ?_)
  refine cw_seq ?_
  refine cw_region ?_
  refine wl_val rfl (ex_move rfl) ?_
  refine wl_call1 (vs := [_]) Tryd.goes17 rfl (unpack_new (RSl.evo RB.pers (((Evo.refl [] w)).any _) hs) hl (ht.evo (Evo.refl [] w) (by simp))) rfl ?_
  rintro _ w1 ⟨sa, sn, sc, out, e1, oS, rfl, hS, hlen, hok, hGS, hU, hw2⟩
  have hG3 := Ge.fresh (Evo.refl [] w) hGS
  have hE4 := (Evo.refl [] w).then hw2
  refine wl_val rfl (ex_move rfl) ?_
  refine wl_val rfl (ex_extract rfl rfl) ?_
  refine wl_val rfl (ex_extract rfl rfl) ?_
  refine wl_alloc rfl Tryd.zero22 fun be w5 hB6 hs7 hw8 => ?_
  have hA9 := Apart.new (Lt.own hS) hs7
  have hG10 := Ge.new hE4 hs7
  have hE11 := hE4.then hw8
  have hO12 := hS.evo0 hw8
  refine wl_store1 rfl rfl (by first | rfl | assumption) Tryd.size22 hB6 rfl fun w13 hB14 hw15 => ?_
  have hE16 := hE11.step hw15 hG10.mem1
  have hO17 := hO12.evo hw15 hA9.own1
  try simp only [List.setIfInBounds_toArray, List.set_cons_zero, List.set_cons_succ, Nat.reduceAdd, Nat.zero_add, Nat.add_zero] at hB14
  refine wl_val rfl (ex_assign rfl) ?_
  refine wl_nil (nrm_then ?_)
  refine cw_seq ?_
  refine cw_region ?_
  refine wl_val rfl (ex_makeFunc (vs := [_]) rfl) ?_
  refine wl_val rfl (ex_assign rfl) ?_
  refine wl_nil (nrm_then ?_)
  refine cw_ret (body_ret1 rfl rfl ?_)
  exact ⟨be, sa, sn, sc, out, e1, oS, rfl, hB14, hO17, hlen, hok, hG3, hG10, hA9, hU, hE16⟩


section
variable {P : Program} {σ : Env} {w : World} {dst : Option Nat} {T : TypeId} {pos : String} {after : Array Edge} {g : Option (Nat × Bool)}
theorem run_eqFn (d : Nat) {t : TypeId} {f : FuncId} {cap : Array Value} {ps rs : Array TypeId} {vr : Bool} (ht : P.underlying t = some (.func ps rs vr)) : (Op.equalIn (d + 1) t (.func (.func f) #[] cap) .nilFunc).run P w = .ok false w := by
  simp [Op.equalIn, run_underlying ht]
theorem ex_eqFn {x y : Operand} {t t' : TypeId} {f : FuncId} {cap : Array Value} {ps rs : Array TypeId} {vr : Bool} (hx : σ.ev x = some (.func (.func f) #[] cap)) (hy : σ.ev y = some .nilFunc) (ht : P.underlying t = some (.func ps rs vr)) : Ex P σ ⟨dst, .binOp .eql t x y t', T, pos, after, g⟩ w (.bool false) w := fun ρ hρ => by
  have h1 : (Op.equal t (.func (.func f) #[] cap) .nilFunc).run P w = .ok false w := run_eqFn 9999 ht
  simp [execOp, hρ x _ hx, hρ y _ hy, eqGuard, Go.binOp, h1]
end
theorem set_lt {ys : List Nat} (h : ∀ b, b ∈ ys → b < 256) {k v : Nat} (hv : v < 256) : ∀ b, b ∈ ys.set k v → b < 256 := fun b hb => by
  rcases List.mem_or_eq_of_mem_set hb with h1 | h1
  · exact h b h1
  · omega
/-- The list that a round fills: its box, its own memory, and what is known of its length. -/
def LI (bx : Nat) (w1 : World) (Q : Nat → Prop) (pre : List Smp) (W : World) : Prop := ∃ la lc lob, W.heap[bx]? = some (.cells #[.slice la pre.length lc] 22 (0, 0)) ∧ OwnS W 41 3 la pre.length lc (srows pre) lob ∧ Ge w1 lob ∧ Evo [bx] w1 W ∧ Q pre.length
def LX (bx : Nat) (w1 : World) (r : Nat) (stop : Int) (c : Code) (pre : List Smp) (W : World) : Prop := c = .exit 4 ∧ r = 1 ∧ ∃ p x, pre = p ++ [x] ∧ LI bx w1 (fun n => (n = 0 ∧ stop ≤ 0) ∨ (n : Int) = stop) p W
theorem LI.turn {bx : Nat} {w1 : World} {Q : Nat → Prop} {pre : List Smp} {W W' : World} {row : Option Nat} (h : LI bx w1 Q pre W) (hg : W.grownBy W' row) (hr : ∀ r, row = some r → w1.heap.size ≤ r ∧ ∃ o : Obj, W.heap[r]? = some o ∧ o.isCells = false) : LI bx w1 Q pre W' := by
  obtain ⟨la, lc, lob, h1, h2, h3, h4, h5⟩ := h
  exact ⟨la, lc, lob, blk_turn h1 hg (fun r e => (hr r e).2), own_turn h2 hg (fun r e => (hr r e).2), h3, evo_turn h4 hg (fun r e => (hr r e).1), h5⟩
theorem LI.own (bx : Nat) (w1 : World) (Q : Nat → Prop) : OwnFrom w1.heap.size (LI bx w1 Q) := fun _ _ _ _ h hg hr => h.turn hg hr
theorem LX.own (bx : Nat) (w1 : World) (r : Nat) (stop : Int) (c : Code) : OwnFrom w1.heap.size (LX bx w1 r stop c) := fun _ _ _ _ ⟨h1, h2, p, x, h3, h4⟩ hg hr => ⟨h1, h2, p, x, h3, h4.turn hg hr⟩
theorem LI.evo {bx : Nat} {w1 : World} {Q : Nat → Prop} {pre : List Smp} {W W' : World} (h : LI bx w1 Q pre W) (he : Evo [] W W') : LI bx w1 Q pre W' := by
  obtain ⟨la, lc, lob, h1, h2, h3, h4, h5⟩ := h
  exact ⟨la, lc, lob, he.blk0 h1, h2.evo0 he, h3, h4.then he, h5⟩
theorem keep_l {bx B : Nat} {W : World} {a : Option Addr} {n c : Nat} {xs : List Value} {ob : Option Nat} (hb : bx < B) (h : OwnS W 41 3 a n c xs ob) : ∀ b, b ∈ bx :: ob.toList → b < B ∨ ∃ cs t fz, W.heap[b]? = some (.cells cs t fz) := fun b hm => by
  rcases List.mem_cons.1 hm with rfl | hm
  · exact .inl hb
  · right
    rcases h.2 with ⟨_, _, h3⟩ | ⟨g, cap, cur, hg, _, hbk, _⟩
    · rw [h3] at hm; simp at hm
    · rw [hg] at hm; have : b = g := by simpa using hm
      subst this; exact ⟨_, _, _, hbk⟩
theorem low_l {bx n0 : Nat} {w1 : World} {ob : Option Nat} (hb : n0 ≤ bx) (h1 : n0 ≤ w1.heap.size) (h : Ge w1 ob) : ∀ b, b ∈ bx :: ob.toList → n0 ≤ b := fun b hm => by
  rcases List.mem_cons.1 hm with rfl | hm
  · exact hb
  · have := h b (by simpa using hm); omega
theorem own_take {w : World} {a : Option Addr} {n c m : Nat} {out : List Smp} {ob : Option Nat} (h : OwnS w 41 3 a n c (srows out) ob) (hm : m ≤ out.length) (hn : out.length = n) : OwnS w 41 3 a m c (srows (out.take m)) ob := by
  have h1 := h.cut (m := m) (by omega)
  have e : (srows out).take (m * 3) = srows (out.take m) := by
    have h2 : out = out.take m ++ out.drop m := (List.take_append_drop m out).symm
    have h3 : srows out = srows (out.take m) ++ srows (out.drop m) := by
      show (out.map srow).flatten = ((out.take m).map srow).flatten ++ ((out.drop m).map srow).flatten
      rw [← List.flatten_append, ← List.map_append, List.take_append_drop]
    rw [h3, List.take_left']
    have h4 : ∀ l : List Smp, (srows l).length = l.length * 3 := fun l => by induction l with | nil => rfl | cons s l ih => simp only [srows, List.map_cons, List.flatten_cons, List.length_append, List.length_cons] at ih ⊢; rw [ih]; simp [srow]; omega
    rw [h4, List.length_take, Nat.min_eq_left hm]
  rw [e] at h1
  exact h1
structure RG where
  r : Nat
  bt : Nat
  Ds : List Nat

set_option maxHeartbeats 4000000 in
theorem walk_ok {X : List Nat} {w : World} {v0 : Value} {bs : List Nat} {stop : Int} (hs : RSl 1 RB X w v0 bs) (hl : bs.length * 1 ≤ 140737488351232) (ht : Tab w) :
    Calls Tryd.prog 7 #[v0, .int .i64 stop] w (Ret fun r w' => r = .bool true ∧ Evo [] w w') := by
  have hs0 := hs
  have hb0 := rsl_lt hs
  obtain ⟨a0, c0, rfl, hc0, -⟩ := hs
  refine calls_of_cwM (N := 78) Tryd.func7 rfl rfl rfl ?_
  refine cw_seq ?_
  refine cw_region ?_
  refine wl_box1 rfl rfl rfl fun b3 w1 hB2 hs3 hw4 => ?_
  have hG5 := Ge.new (Evo.refl [] w) hs3
  have hE6 := (Evo.refl [] w).then hw4
  refine wl_alloc rfl Tryd.zero4 fun b4 w7 hB8 hs9 hw10 => ?_
  have hA11 := Apart.new (Lt.blk hB2) hs9
  have hG12 := Ge.new hE6 hs9
  have hE13 := hE6.then hw10
  have hB14 := hw10.blk0 hB2
  refine wl_nil (nrm_then ?_)
  refine cw_seq ?_
  refine cw_seq ?_
  refine cw_region ?_
  refine wl_call1 (vs := []) Tryd.goes11 rfl (alive_ok (Tab.evo ht hE13 (by simp))) rfl ?_
  rintro _ w15 ⟨rfl, hw16⟩
  have hE17 := hE13.then hw16
  have hB18 := hw16.blk0 hB14
  have hB19 := hw16.blk0 hB8
  refine wl_val rfl (ex_notb rfl) ?_
  refine wl_nil (nrm_then ?_)
  refine cw_false rfl ?_
  refine cw_skip (nrm_then ?_)
  refine cw_seq ?_
  refine cw_region ?_
  refine wl_bslice (vs := []) rfl Tryd.slice24 rfl rfl rfl rfl fun b20 w21 hO22 hs23 hw24 => ?_
  have hA25 := Apart.new (Lt.blk hB18) hs23
  have hA26 := Apart.new (Lt.blk hB19) hs23
  have hG27 := Ge.new hE17 hs23
  have hE28 := hE17.then hw24
  have hB29 := hw24.blk0 hB18
  have hB30 := hw24.blk0 hB19
  refine wl_val rfl (ex_move rfl) ?_
  refine wl_append rfl rfl rfl rfl Tryd.app24_24 hO22 (src_byte (RSl.evo RB.pers ((hE28).any _) hs0)) (by omega) fun aA cA w33 oA hA1 hw36 hob37 => ?_
  have hA38 := hA25.app (Lt.blk hB29) hob37
  have hA39 := hA26.app (Lt.blk hB30) hob37
  have hG40 := hG27.app hE28 hob37
  have hE41 := hE28.step hw36 hG27.mem
  have hB42 := hw36.blk hB29 hA25.nmem
  have hB43 := hw36.blk hB30 hA26.nmem
  have hA2 : OwnS w33 5 1 aA bs.length cA (bs.map bv) oA := by have h := hA1; rw [Nat.zero_add] at h; exact h
  rw [Nat.zero_add]
  refine wl_val rfl (ex_assign rfl) ?_
  refine wl_nil (nrm_then ?_)
  refine cw_seq ?_
  refine cw_region ?_
  refine wl_val rfl (ex_move rfl) ?_
  refine wl_call1 (vs := [_]) Tryd.goes17 rfl (unpack_new (RSl.evo RB.pers ((hE41).any _) hs0) (by omega) (ht.evo hE41 (by simp))) rfl ?_
  rintro _ w44 ⟨sa, sn, sc, out, e1, oS, rfl, hS, rfl, hok, hGS, hU, hw45⟩
  have hA46 := Apart.fresh (Lt.blk hB42) hGS
  have hA47 := Apart.fresh (Lt.blk hB43) hGS
  have hA48 := Apart.fresh (Lt.own hA2) hGS
  have hG49 := Ge.fresh hE41 hGS
  have hE50 := hE41.then hw45
  have hB51 := hw45.blk0 hB42
  have hB52 := hw45.blk0 hB43
  have hO53 := hA2.evo0 hw45
  have hol := upk_len hU
  refine wl_val rfl (ex_move rfl) ?_
  refine wl_val rfl (ex_extract rfl rfl) ?_
  refine wl_val rfl (ex_extract rfl rfl) ?_
  refine wl_alloc rfl Tryd.zero22 fun b6 w54 hB55 hs56 hw57 => ?_
  have hA58 := Apart.new (Lt.blk hB51) hs56
  have hA59 := Apart.new (Lt.blk hB52) hs56
  have hA60 := Apart.new (Lt.own hO53) hs56
  have hA61 := Apart.new (Lt.own hS) hs56
  have hG62 := Ge.new hE50 hs56
  have hE63 := hE50.then hw57
  have hB64 := hw57.blk0 hB51
  have hB65 := hw57.blk0 hB52
  have hO66 := hO53.evo0 hw57
  have hO67 := hS.evo0 hw57
  refine wl_store1 rfl rfl (by first | rfl | assumption) Tryd.size22 hB55 rfl fun w68 hB69 hw70 => ?_
  have hE71 := hE63.step hw70 hG62.mem1
  have hB72 := hw70.blk hB64 hA58.nmem1
  have hB73 := hw70.blk hB65 hA59.nmem1
  have hO74 := hO66.evo hw70 hA60.own1
  have hO75 := hO67.evo hw70 hA61.own1
  try simp only [List.setIfInBounds_toArray, List.set_cons_zero, List.set_cons_succ, Nat.reduceAdd, Nat.zero_add, Nat.add_zero] at hB69
  refine wl_val rfl (ex_assign rfl) ?_
  refine wl_nil (nrm_then ?_)
  refine cw_seq ?_
  refine cw_region ?_
  refine wl_val rfl (ex_move rfl) ?_
  refine wl_call1 (vs := [_]) Tryd.goes26 rfl (each_ok (rbs (X := []) hO74 hb0 (fun _ _ => by simp)) (by omega) (ht.evo hE71 (by simp))) rfl ?_
  rintro _ w76 ⟨bE, ea, en, ec, out2, e2, oE, rfl, hBE, hE, rfl, hok2, hGE, hGbE, hAp, hU2, hw77⟩
  have hA78 := Apart.fresh (Lt.blk hB72) hGE
  have hA79 := Apart.fresh (Lt.blk hB73) hGE
  have hA80 := Apart.fresh (Lt.own hO74) hGE
  have hA81 := Apart.fresh (Lt.own hO75) hGE
  have hA82 := Apart.fresh (Lt.blk hB69) hGE
  have hG83 := Ge.fresh hE71 hGE
  have hA84 := Apart.fresh (Lt.blk hB72) hGbE
  have hA85 := Apart.fresh (Lt.blk hB73) hGbE
  have hA86 := Apart.fresh (Lt.own hO74) hGbE
  have hA87 := Apart.fresh (Lt.own hO75) hGbE
  have hA88 := Apart.fresh (Lt.blk hB69) hGbE
  have hG89 := Ge.fresh hE71 hGbE
  have hE90 := hE71.then hw77
  have hB91 := hw77.blk0 hB72
  have hB92 := hw77.blk0 hB73
  have hO93 := hO74.evo0 hw77
  have hO94 := hO75.evo0 hw77
  have hB95 := hw77.blk0 hB69
  obtain ⟨rfl, rfl⟩ := hU.uniq hU2
  refine wl_val rfl (ex_assign rfl) ?_
  refine wl_nil (nrm_then ?_)
  refine cw_seq ?_
  refine cw_seq ?_
  refine cw_region ?_
  refine wl_val rfl (ex_assign rfl) ?_
  refine wl_nil (nrm_then ?_)
  refine cw_block ?_
  refine cw_loop (α := Nat) (0) (fun k => [(9, .int .i64 (k : Nat))]) [(3, _), (4, _), (5, _), (6, _), (8, _)] (fun k wr => Evo oA.toList w76 wr ∧ (k ≤ bs.length ∧ ∃ ys : List Nat, OwnS wr 5 1 aA bs.length cA (ys.map bv) oA ∧ (∀ b, b ∈ ys → b < 256))) (fun k => bs.length - k) ⟨rfl, trivial⟩ ⟨rfl, rfl, rfl, rfl, rfl, trivial⟩ ⟨Evo.refl _ _, ⟨Nat.zero_le _, bs, hO93, hb0⟩⟩ ?_
  rintro k wr96 ⟨hV97, ⟨hk, ys, hA3, hy⟩⟩
  show CW _ _ _ _ [(9, _), (3, _), (4, _), (5, _), (6, _), (8, _)] _
  have hE98 := hE90.step hV97 (hG40.mem)
  have hB99 := hV97.blk hB91 (hA38.nmem)
  have hB100 := hV97.blk hB92 (hA39.nmem)
  have hB101 := hO94.evo hV97 (hA48.symm.own)
  have hB102 := hV97.blk hB95 (hA60.symm.nmem)
  have hB103 := hE.evo hV97 (hA80.symm.own)
  have hB104 := hV97.blk hBE (hA86.symm.nmem)
  refine cw_seq ?_
  refine cw_seq ?_
  refine cw_region ?_
  refine wl_val rfl (ex_move rfl) ?_
  refine wl_val rfl (ex_move rfl) ?_
  refine wl_val rfl (ex_len_slice rfl Tryd.underlying24 rfl) ?_
  refine wl_val rfl (ex_lss rfl rfl) ?_
  refine wl_nil (nrm_then ?_)
  refine cw_if rfl (fun hc29 => ?_) (fun hc29 => ?_)
  · skip
    have hk' : k < bs.length := by omega
    have hyl := own_len hA3
    obtain ⟨gA, cuA, hgA, haA, -⟩ := (hA3).at (by omega)
    have hcA := own_byte hA3 haA (k := k) (by omega)
    have hyb := getD_lt (k := k) hy
    have hx8 : ys.getD k 0 ^^^ 165 < 256 := Nat.xor_lt_two_pow (n := 8) hyb (by decide)
    refine cw_skip (nrm_then ?_)
    refine cw_seq ?_
    refine cw_block ?_
    refine cw_region ?_
    refine wl_val rfl (ex_move rfl) ?_
    refine wl_val rfl (ex_move rfl) ?_
    refine wl_val rfl (ex_indexAddr (n := k) (by rw [haA]; rfl) rfl Tryd.elem24 (by omega)) ?_
    refine wl_val rfl (ex_load1 rfl Tryd.agg5 hcA) ?_
    refine wl_val rfl (ex_xorN (m := ys.getD k 0) (n := 165) rfl rfl (by omega) (by omega) rfl (by simp only [IntKind.bits]; omega) (by simp only [IntKind.bits]; omega)) ?_
    refine wl_val rfl (ex_indexAddr (n := k) (by rw [haA]; rfl) rfl Tryd.elem24 (by omega)) ?_
    obtain ⟨g114, cur105, hg106, hx107, hcu108, hcs109, -⟩ := hA3.at (by omega)
    rw [haA] at hx107; cases hx107
    refine wl_store1L rfl rfl (rfl) Tryd.size5 hcu108 (hA3.inb hcs109 (k := k) (j := 0) (by omega) (by omega) (by omega)) fun w110 hB111 hw112 => ?_
    replace hw112 := evo_ob hg106 hw112
    have hO113 := hA3.set' hg106 hcu108 hB111
    have hE115 := hE98.step hw112 hG40.mem
    have hE116 := hV97.step hw112 (by intro y hy; left; simpa using hy)
    have hB117 := hw112.blk hB99 hA38.nmem
    have hB118 := hw112.blk hB100 hA39.nmem
    have hO119 := hB101.evo hw112 hA48.symm.own
    have hB120 := hw112.blk hB102 hA60.symm.nmem
    have hO121 := hB103.evo hw112 hA80.symm.own
    have hB122 := hw112.blk hB104 hA86.symm.nmem
    refine wl_nil (nrm_block (nrm_then ?_))
    refine cw_region ?_
    refine wl_val rfl (ex_move rfl) ?_
    refine wl_val rfl (ex_add_i64 rfl rfl (by omega) (by omega)) ?_
    refine wl_val rfl (ex_assign rfl) ?_
    refine wl_nil (nrm_same ?_)
    refine ⟨k + 1, ?_, ⟨rfl, trivial⟩, ⟨rfl, rfl, rfl, rfl, rfl, trivial⟩, hE116, ?_⟩
    · omega
    · skip
      have h9 : OwnS w110 5 1 aA bs.length cA ((ys.set k (ys.getD k 0 ^^^ 165)).map bv) oA := by rw [List.map_set]; have h := hO113; rw [Nat.zero_add, Nat.mul_one] at h; exact h
      exact ⟨by omega, _, h9, set_lt hy hx8⟩
  · skip
    refine cw_exit (ex_then (ex_then (ex_here (nrm_then ?_))))
    refine cw_seq ?_
    refine cw_seq ?_
    refine cw_region ?_
    refine wl_val rfl (ex_move rfl) ?_
    refine wl_val rfl (ex_eqFn rfl rfl Tryd.underlying57) ?_
    refine wl_nil (nrm_then ?_)
    refine cw_false rfl ?_
    refine cw_skip (nrm_then ?_)
    refine cw_seq ?_
    refine cw_seq ?_
    refine cw_region ?_
    refine wl_alloc rfl Tryd.zero3 fun b10 w123 hB124 hs125 hw126 => ?_
    have hA127 := Apart.new (Lt.blk hB99) hs125
    have hA128 := Apart.new (Lt.blk hB100) hs125
    have hA129 := Apart.new (Lt.own hB101) hs125
    have hA130 := Apart.new (Lt.blk hB102) hs125
    have hA131 := Apart.new (Lt.own hB103) hs125
    have hA132 := Apart.new (Lt.blk hB104) hs125
    have hA133 := Apart.new (Lt.own hA3) hs125
    have hG134 := Ge.new hE98 hs125
    have hG135 := Ge.new hV97 hs125
    have hE136 := hE98.then hw126
    have hE137 := hV97.then hw126
    have hB138 := hw126.blk0 hB99
    have hB139 := hw126.blk0 hB100
    have hO140 := hB101.evo0 hw126
    have hB141 := hw126.blk0 hB102
    have hO142 := hB103.evo0 hw126
    have hB143 := hw126.blk0 hB104
    have hO144 := hA3.evo0 hw126
    refine wl_store1 rfl rfl (by first | rfl | assumption) Tryd.size3 hB124 rfl fun w145 hB146 hw147 => ?_
    have hE148 := hE136.step hw147 hG134.mem1
    have hE149 := hE137.step hw147 hG135.mem1
    have hB150 := hw147.blk hB138 hA127.nmem1
    have hB151 := hw147.blk hB139 hA128.nmem1
    have hO152 := hO140.evo hw147 hA129.own1
    have hB153 := hw147.blk hB141 hA130.nmem1
    have hO154 := hO142.evo hw147 hA131.own1
    have hB155 := hw147.blk hB143 hA132.nmem1
    have hO156 := hO144.evo hw147 hA133.own1
    try simp only [List.setIfInBounds_toArray, List.set_cons_zero, List.set_cons_succ, Nat.reduceAdd, Nat.zero_add, Nat.add_zero] at hB146
    refine wl_nil (nrm_then ?_)
    refine cw_block ?_
    have hb4l := Lt.blk hB151 _ rfl
    have hszw := (hE148).size
    refine cw_loopN (α := RG) (⟨0, b10, []⟩) (fun x => (78, x.Ds.map Go.W.mark)) rfl (fun x => [(10, .pointer (some ⟨x.bt, 0, none⟩))]) [(3, _), (4, _), (6, _), (8, _)] (fun x wr => Evo [] w145 wr ∧ (x.r ≤ 3 ∧ wr.heap[x.bt]? = some (.cells #[.int .i64 (x.r : Nat)] 3 (0, 0)) ∧ x.Ds.Nodup ∧ (∀ D, D ∈ x.Ds → wr.heap[D]? = some (.deferred (some [])) ∧ w145.heap.size ≤ D))) (fun x => 3 - x.r) ⟨rfl, trivial⟩ ⟨rfl, rfl, rfl, rfl, trivial⟩ ⟨Evo.refl _ _, ⟨Nat.zero_le _, hB146, List.nodup_nil, fun _ h => by cases h⟩⟩ ?_
    rintro ⟨r, bt, Ds⟩ wr157 ⟨hV158, ⟨hr, hBt, hnd, hDs⟩⟩
    show CW _ _ _ _ [(10, .pointer (some ⟨bt, 0, none⟩)), (3, _), (4, _), (6, _), (8, _)] _
    try dsimp only at hr
    try dsimp only at hBt
    try dsimp only at hnd
    try dsimp only at hDs
    have hE159 := hE148.then hV158
    have hE160 := hE149.then hV158
    have hB161 := hV158.blk0 hB150
    have hB162 := hV158.blk0 hB151
    have hO163 := hO152.evo0 hV158
    have hB164 := hV158.blk0 hB153
    have hO165 := hO154.evo0 hV158
    have hB166 := hV158.blk0 hB155
    have hO167 := hO156.evo0 hV158
    refine cw_seq ?_
    refine cw_seq ?_
    refine cw_region ?_
    refine wl_val rfl (ex_load1 rfl Tryd.agg3 (cell_nth hBt rfl)) ?_
    refine wl_val rfl (ex_lss rfl rfl) ?_
    refine wl_nil (nrm_then ?_)
    refine cw_if rfl (fun hc41 => ?_) (fun hc41 => ?_)
    · skip
      refine cw_skip (nrm_then ?_)
      refine cw_seq ?_
      refine cw_block ?_
      refine cw_seq ?_
      have hltE := Lt.own hO165
      refine cw_region ?_
      refine wl_alloc rfl Tryd.zero22 fun b11 w168 hB169 hs170 hw171 => ?_
      have hA172 := Apart.new (Lt.blk hB161) hs170
      have hA173 := Apart.new (Lt.blk hB162) hs170
      have hA174 := Apart.new (Lt.own hO163) hs170
      have hA175 := Apart.new (Lt.blk hB164) hs170
      have hA176 := Apart.new (Lt.own hO165) hs170
      have hA177 := Apart.new (Lt.blk hB166) hs170
      have hA178 := Apart.new (Lt.own hO167) hs170
      have hA179 := Apart.new (Lt.blk hBt) hs170
      have hG180 := Ge.new hE159 hs170
      have hG181 := Ge.new hE160 hs170
      have hG182 := Ge.new hV158 hs170
      have hG183 := Ge.new (Evo.refl ([]) wr157) hs170
      have hG184 := Ge.new (Evo.refl [] wr157) hs170
      have hE185 := hE159.then hw171
      have hE186 := hE160.then hw171
      have hE187 := hV158.then hw171
      have hE188 := (Evo.refl ([]) wr157).then hw171
      have hE189 := (Evo.refl [] wr157).then hw171
      have hB190 := hw171.blk0 hB161
      have hB191 := hw171.blk0 hB162
      have hO192 := hO163.evo0 hw171
      have hB193 := hw171.blk0 hB164
      have hO194 := hO165.evo0 hw171
      have hB195 := hw171.blk0 hB166
      have hO196 := hO167.evo0 hw171
      have hB197 := hw171.blk0 hBt
      refine wl_nil (nrm_then ?_)
      refine cw_seq ?_
      refine cw_seq ?_
      refine cw_region ?_
      refine wl_val rfl (ex_move rfl) ?_
      refine wl_nil (nrm_then ?_)
      refine cw_block ?_
      have hn0 := (hE189).size
      have hszr := (hE188).size
      have hszl := (hE187).size
      have hb11l := Lt.blk hB169 _ rfl
      have hb11g := hG184 _ rfl
      refine cw_rangeFunc (α := Smp) (dv := 12) (n0 := wr157.heap.size) rfl (enters_goes Tryd.goes37) rfl (each_stops (hE189).size hB195 (own_smp hO194 rfl hok (fun g hg hm => by have h1 := hltE g hg; have h2 := (mem_xb.1 hm).2; omega)) (by omega)) ((hE189).size) (LI b11 w168 (fun n => (r = 1 → n = 0 ∨ (n : Int) ≤ stop))) (LX b11 w168 r stop) (LI.own _ _ _) (LX.own _ _ _ _) (⟨none, 0, none, hB169, OwnS.nil _ _ _, Ge.nil _, Evo.refl _ _, fun _ => .inl rfl⟩) (fun x bx W => W.heap[bx]? = some (.cells (srow x).toArray 41 (0, 0)) ∧ w168.heap.size ≤ bx) (fun x bx s A B row hs hg hr => ⟨blk_turn hs.1 hg (fun r e => (hr r e).2), hs.2⟩) ?_ ?_ ?_ ?_
      · skip
        intro l pre x W hi
        obtain ⟨la, lc, lob, hB11, hOl, hGl, hE1, hst⟩ := id hi
        have hn0W := Nat.le_trans hn0 hE1.size
        refine cwi_region rfl (fun _ _ h => h) ?_
        refine wl_alloc rfl Tryd.zero41 fun b12 w198 hB199 hs200 hw201 => ?_
        have hG202 := Ge.new (Evo.refl [] W) hs200
        have hG203 := Ge.new hE1 hs200
        have hE204 := (Evo.refl [] W).then hw201
        have hE205 := hE1.then hw201
        refine wl_storeBlk rfl rfl Tryd.size41 hB199 rfl rfl ⟨by first | rfl | assumption, by first | rfl | assumption, by first | rfl | assumption, trivial⟩ fun w206 hB207 hw208 => ?_
        have hE209 := hE204.step hw208 hG202.mem1
        have hE210 := hE205.step hw208 hG203.mem1
        try simp only [List.setIfInBounds_toArray, List.set_cons_zero, List.set_cons_succ, Nat.reduceAdd, Nat.zero_add, Nat.add_zero] at hB207
        refine wl_nil (?_)
        exact nrm_only ⟨b12, rfl, keeps_evo hE209 (fun _ h => by cases h), evo_below' hE209 (fun _ h => by cases h) hn0W, hi.evo hE209, hB207, hG203 _ rfl⟩
      · skip
        intro l pre x bx W hi hax hlt
        obtain ⟨la, lc, lob, hB11, hOl, hGl, hE1, hst⟩ := hi
        have hn0W := Nat.le_trans hn0 hE1.size
        have hA211 := Apart.fresh (Lt.blk hB190) hGl
        have hA212 := Apart.fresh (Lt.blk hB191) hGl
        have hA213 := Apart.fresh (Lt.own hO192) hGl
        have hA214 := Apart.fresh (Lt.blk hB193) hGl
        have hA215 := Apart.fresh (Lt.own hO194) hGl
        have hA216 := Apart.fresh (Lt.blk hB195) hGl
        have hA217 := Apart.fresh (Lt.own hO196) hGl
        have hA218 := Apart.fresh (Lt.blk hB197) hGl
        have hA219 := Apart.fresh (Lt.blk hB169) hGl
        have hG220 := Ge.fresh hE185 hGl
        have hG221 := Ge.fresh hE186 hGl
        have hG222 := Ge.fresh hE187 hGl
        have hG223 := Ge.fresh hE188 hGl
        have hG224 := Ge.fresh hE189 hGl
        have hE225 := hE185.step hE1 hG180.mem1
        have hE226 := hE186.step hE1 hG181.mem1
        have hE227 := hE187.step hE1 hG182.mem1
        have hE228 := hE188.step hE1 hG183.mem1
        have hE229 := hE189.step hE1 hG184.mem1
        have hB230 := hE1.blk hB190 hA172.nmem1
        have hB231 := hE1.blk hB191 hA173.nmem1
        have hO232 := hO192.evo hE1 hA174.own1
        have hB233 := hE1.blk hB193 hA175.nmem1
        have hO234 := hO194.evo hE1 hA176.own1
        have hB235 := hE1.blk hB195 hA177.nmem1
        have hO236 := hO196.evo hE1 hA178.own1
        have hB237 := hE1.blk hB197 hA179.nmem1
        have hkl := keep_l hb11l hOl
        have hbl := low_l hb11g hn0 hGl
        refine cwi_block ?_
        refine cwi_seq ?_
        refine cwi_seq ?_
        refine cwi_region rfl (fun _ _ h => h) ?_
        refine wl_val rfl (ex_load1 rfl Tryd.agg3 (cell_nth hB237 rfl)) ?_
        refine wl_val rfl (ex_eql rfl rfl) ?_
        refine wl_val rfl (ex_move rfl) ?_
        refine wl_split (t := 48) rfl (fun hs48 => ?_) (fun hs48 => ?_)
        · skip
          refine wl_go rfl rfl rfl rfl ?_
          refine wl_val rfl (ex_load1 rfl Tryd.agg22 (cell_nth hB11 rfl)) ?_
          refine wl_go rfl rfl rfl rfl ?_
          refine wl_val rfl (ex_len_slice rfl Tryd.underlying22 rfl) ?_
          refine wl_go rfl rfl rfl rfl ?_
          refine wl_val rfl (ex_load1 rfl Tryd.agg3 (cell_nth hB230 rfl)) ?_
          refine wl_go rfl rfl rfl rfl ?_
          refine wl_val rfl (ex_geq rfl rfl) ?_
          refine wl_val rfl (ex_pick_t rfl rfl) ?_
          refine wl_nil (nrm_then ?_)
          refine cwi_if rfl (fun hc53 => ?_) (fun hc53 => ?_)
          · skip
            refine cwi_exit (ex_then (ex_past rfl ?_))
            exact ⟨keeps_evo (Evo.refl (b11 :: lob.toList) W) hkl, rfl, by omega, pre, x, rfl, ⟨la, lc, lob, hB11, hOl, hGl, hE1, by have := hst (by omega); omega⟩⟩
          · skip
            refine cwi_skip (nrm_then ?_)
            refine cwi_seq ?_
            refine cwi_seq ?_
            refine cwi_region rfl (fun _ _ h => h) ?_
            refine wl_val rfl (ex_load1 rfl Tryd.agg22 (cell_nth hB11 rfl)) ?_
            refine wl_val rfl (ex_len_slice rfl Tryd.underlying22 rfl) ?_
            refine wl_val rfl (ex_load1 rfl Tryd.agg22 (cell_nth hB233 rfl)) ?_
            refine wl_val rfl (ex_len_slice rfl Tryd.underlying22 rfl) ?_
            refine wl_val rfl (ex_gtr rfl rfl) ?_
            refine wl_nil (nrm_then ?_)
            refine cwi_if rfl (fun hc58 => ?_) (fun hc58 => ?_)
            · skip
              exfalso; omega
            · skip
              refine cwi_skip (nrm_then ?_)
              refine cwi_region rfl (fun _ _ h => h) ?_
              refine wl_val rfl (ex_load1 rfl Tryd.agg22 (cell_nth hB11 rfl)) ?_
              refine wl_val rfl (ex_loadBlk rfl Tryd.agg41 Tryd.size41 hax.1 rfl) ?_
              refine wl_bslice (vs := [_]) rfl Tryd.slice22 rfl rfl rfl rfl fun b238 w239 hO240 hs241 hw242 => ?_
              have hA243 := Apart.new (Lt.blk hB230) hs241
              have hA244 := Apart.new (Lt.blk hB231) hs241
              have hA245 := Apart.new (Lt.own hO232) hs241
              have hA246 := Apart.new (Lt.blk hB233) hs241
              have hA247 := Apart.new (Lt.own hO236) hs241
              have hA248 := Apart.new (Lt.blk hB237) hs241
              have hA249 := Apart.new (Lt.blk hB11) hs241
              have hA250 := Apart.new (Lt.own hOl) hs241
              have hG251 := Ge.new (Evo.refl (b11 :: lob.toList) W) hs241
              have hG252 := Ge.new hE1 hs241
              have hE253 := (Evo.refl (b11 :: lob.toList) W).then hw242
              have hE254 := hE1.then hw242
              have hB255 := hw242.blk0 hB230
              have hB256 := hw242.blk0 hB231
              have hO257 := hO232.evo0 hw242
              have hB258 := hw242.blk0 hB233
              have hO259 := hO236.evo0 hw242
              have hB260 := hw242.blk0 hB237
              have hB261 := hw242.blk0 hB11
              have hO262 := hOl.evo0 hw242
              refine wl_append rfl rfl rfl rfl Tryd.app22_22 hO262 (Src.ofOwn hO240 ⟨by first | rfl | assumption, by first | rfl | assumption, by first | rfl | assumption, trivial⟩) (by omega) fun a9 c9 w265 ob9 hO9 hw268 hob269 => ?_
              have hA270 := hA211.app (Lt.blk hB255) hob269
              have hA271 := hA212.app (Lt.blk hB256) hob269
              have hA272 := hA213.app (Lt.own hO257) hob269
              have hA273 := hA214.app (Lt.blk hB258) hob269
              have hA274 := hA217.app (Lt.own hO259) hob269
              have hA275 := hA218.app (Lt.blk hB260) hob269
              have hA276 := hA219.app (Lt.blk hB261) hob269
              have hA277 := hA250.symm.app (Lt.own hO240) hob269
              have hG278 := hGl.app hE254 hob269
              have hE279 := hE253.step hw268 (fun y hy => .inl (List.mem_cons_of_mem _ hy))
              have hE280 := hE254.step hw268 hGl.mem
              have hB281 := hw268.blk hB255 hA211.nmem
              have hB282 := hw268.blk hB256 hA212.nmem
              have hO283 := hO257.evo hw268 hA213.own
              have hB284 := hw268.blk hB258 hA214.nmem
              have hO285 := hO259.evo hw268 hA217.own
              have hB286 := hw268.blk hB260 hA218.nmem
              have hB287 := hw268.blk hB261 hA219.nmem
              have hO288 := hO240.evo hw268 hA250.symm.own
              refine wl_store1 rfl rfl (by first | rfl | assumption) Tryd.size22 hB287 rfl fun w289 hB290 hw291 => ?_
              have hE292 := hE279.step hw291 (fun y hy => .inl (by rw [List.mem_singleton.1 hy]; exact List.mem_cons_self ..))
              have hE293 := hE280.step hw291 (fun y hy => .inl hy)
              have hB294 := hw291.blk hB281 hA172.nmem1
              have hB295 := hw291.blk hB282 hA173.nmem1
              have hO296 := hO283.evo hw291 hA174.own1
              have hB297 := hw291.blk hB284 hA175.nmem1
              have hO298 := hO285.evo hw291 hA178.own1
              have hB299 := hw291.blk hB286 hA179.nmem1
              have hO300 := hO288.evo hw291 hA249.symm.own1
              have hO301 := hO9.evo hw291 hA276.symm.own1
              try simp only [List.setIfInBounds_toArray, List.set_cons_zero, List.set_cons_succ, Nat.reduceAdd, Nat.zero_add, Nat.add_zero] at hB290
              refine wl_nil (nrm_block ?_)
              refine ⟨keeps_evo hE292 hkl, evo_below' hE292 hbl hn0W, ?_⟩
              have hpl : (pre ++ [x]).length = pre.length + 1 := by simp
              exact ⟨a9, c9, ob9, by rw [hpl]; exact hB290, by rw [hpl, srows_snoc]; exact hO301, hG278, hE293, fun h => by have := hst h; right; rw [hpl]; omega⟩
        · skip
          refine wl_no rfl rfl rfl rfl rfl rfl ?_
          refine wl_no rfl rfl rfl rfl rfl rfl ?_
          refine wl_no rfl rfl rfl rfl rfl rfl ?_
          refine wl_no rfl rfl rfl rfl rfl rfl ?_
          refine wl_val rfl (ex_pick_f rfl rfl) ?_
          refine wl_nil (nrm_then ?_)
          refine cwi_false rfl ?_
          refine cwi_skip (nrm_then ?_)
          refine cwi_seq ?_
          refine cwi_seq ?_
          refine cwi_region rfl (fun _ _ h => h) ?_
          refine wl_val rfl (ex_load1 rfl Tryd.agg22 (cell_nth hB11 rfl)) ?_
          refine wl_val rfl (ex_len_slice rfl Tryd.underlying22 rfl) ?_
          refine wl_val rfl (ex_load1 rfl Tryd.agg22 (cell_nth hB233 rfl)) ?_
          refine wl_val rfl (ex_len_slice rfl Tryd.underlying22 rfl) ?_
          refine wl_val rfl (ex_gtr rfl rfl) ?_
          refine wl_nil (nrm_then ?_)
          refine cwi_if rfl (fun hc58 => ?_) (fun hc58 => ?_)
          · skip
            exfalso; omega
          · skip
            refine cwi_skip (nrm_then ?_)
            refine cwi_region rfl (fun _ _ h => h) ?_
            refine wl_val rfl (ex_load1 rfl Tryd.agg22 (cell_nth hB11 rfl)) ?_
            refine wl_val rfl (ex_loadBlk rfl Tryd.agg41 Tryd.size41 hax.1 rfl) ?_
            refine wl_bslice (vs := [_]) rfl Tryd.slice22 rfl rfl rfl rfl fun b302 w303 hO304 hs305 hw306 => ?_
            have hA307 := Apart.new (Lt.blk hB230) hs305
            have hA308 := Apart.new (Lt.blk hB231) hs305
            have hA309 := Apart.new (Lt.own hO232) hs305
            have hA310 := Apart.new (Lt.blk hB233) hs305
            have hA311 := Apart.new (Lt.own hO236) hs305
            have hA312 := Apart.new (Lt.blk hB237) hs305
            have hA313 := Apart.new (Lt.blk hB11) hs305
            have hA314 := Apart.new (Lt.own hOl) hs305
            have hG315 := Ge.new (Evo.refl (b11 :: lob.toList) W) hs305
            have hG316 := Ge.new hE1 hs305
            have hE317 := (Evo.refl (b11 :: lob.toList) W).then hw306
            have hE318 := hE1.then hw306
            have hB319 := hw306.blk0 hB230
            have hB320 := hw306.blk0 hB231
            have hO321 := hO232.evo0 hw306
            have hB322 := hw306.blk0 hB233
            have hO323 := hO236.evo0 hw306
            have hB324 := hw306.blk0 hB237
            have hB325 := hw306.blk0 hB11
            have hO326 := hOl.evo0 hw306
            refine wl_append rfl rfl rfl rfl Tryd.app22_22 hO326 (Src.ofOwn hO304 ⟨by first | rfl | assumption, by first | rfl | assumption, by first | rfl | assumption, trivial⟩) (by omega) fun a9 c9 w329 ob9 hO9 hw332 hob333 => ?_
            have hA334 := hA211.app (Lt.blk hB319) hob333
            have hA335 := hA212.app (Lt.blk hB320) hob333
            have hA336 := hA213.app (Lt.own hO321) hob333
            have hA337 := hA214.app (Lt.blk hB322) hob333
            have hA338 := hA217.app (Lt.own hO323) hob333
            have hA339 := hA218.app (Lt.blk hB324) hob333
            have hA340 := hA219.app (Lt.blk hB325) hob333
            have hA341 := hA314.symm.app (Lt.own hO304) hob333
            have hG342 := hGl.app hE318 hob333
            have hE343 := hE317.step hw332 (fun y hy => .inl (List.mem_cons_of_mem _ hy))
            have hE344 := hE318.step hw332 hGl.mem
            have hB345 := hw332.blk hB319 hA211.nmem
            have hB346 := hw332.blk hB320 hA212.nmem
            have hO347 := hO321.evo hw332 hA213.own
            have hB348 := hw332.blk hB322 hA214.nmem
            have hO349 := hO323.evo hw332 hA217.own
            have hB350 := hw332.blk hB324 hA218.nmem
            have hB351 := hw332.blk hB325 hA219.nmem
            have hO352 := hO304.evo hw332 hA314.symm.own
            refine wl_store1 rfl rfl (by first | rfl | assumption) Tryd.size22 hB351 rfl fun w353 hB354 hw355 => ?_
            have hE356 := hE343.step hw355 (fun y hy => .inl (by rw [List.mem_singleton.1 hy]; exact List.mem_cons_self ..))
            have hE357 := hE344.step hw355 (fun y hy => .inl hy)
            have hB358 := hw355.blk hB345 hA172.nmem1
            have hB359 := hw355.blk hB346 hA173.nmem1
            have hO360 := hO347.evo hw355 hA174.own1
            have hB361 := hw355.blk hB348 hA175.nmem1
            have hO362 := hO349.evo hw355 hA178.own1
            have hB363 := hw355.blk hB350 hA179.nmem1
            have hO364 := hO352.evo hw355 hA313.symm.own1
            have hO365 := hO9.evo hw355 hA340.symm.own1
            try simp only [List.setIfInBounds_toArray, List.set_cons_zero, List.set_cons_succ, Nat.reduceAdd, Nat.zero_add, Nat.add_zero] at hB354
            refine wl_nil (nrm_block ?_)
            refine ⟨keeps_evo hE356 hkl, evo_below' hE356 hbl hn0W, ?_⟩
            have hpl : (pre ++ [x]).length = pre.length + 1 := by simp
            exact ⟨a9, c9, ob9, by rw [hpl]; exact hB354, by rw [hpl, srows_snoc]; exact hO365, hG342, hE357, fun h => by have := hst h; right; rw [hpl]; omega⟩
      · skip
        intro D pre W hD hS hi hK
        obtain ⟨la, lc, lob, hB11, hOl, hGl, hE1, hst⟩ := hi
        have hS := hS.symm
        subst hS
        have hA366 := Apart.fresh (Lt.blk hB190) hGl
        have hA367 := Apart.fresh (Lt.blk hB191) hGl
        have hA368 := Apart.fresh (Lt.own hO192) hGl
        have hA369 := Apart.fresh (Lt.blk hB193) hGl
        have hA370 := Apart.fresh (Lt.own hO194) hGl
        have hA371 := Apart.fresh (Lt.blk hB195) hGl
        have hA372 := Apart.fresh (Lt.own hO196) hGl
        have hA373 := Apart.fresh (Lt.blk hB197) hGl
        have hA374 := Apart.fresh (Lt.blk hB169) hGl
        have hG375 := Ge.fresh hE185 hGl
        have hG376 := Ge.fresh hE186 hGl
        have hG377 := Ge.fresh hE187 hGl
        have hG378 := Ge.fresh hE188 hGl
        have hG379 := Ge.fresh hE189 hGl
        have hE380 := hE185.step hE1 hG180.mem1
        have hE381 := hE186.step hE1 hG181.mem1
        have hE382 := hE187.step hE1 hG182.mem1
        have hE383 := hE188.step hE1 hG183.mem1
        have hE384 := hE189.step hE1 hG184.mem1
        have hB385 := hE1.blk hB190 hA172.nmem1
        have hB386 := hE1.blk hB191 hA173.nmem1
        have hO387 := hO192.evo hE1 hA174.own1
        have hB388 := hE1.blk hB193 hA175.nmem1
        have hO389 := hO194.evo hE1 hA176.own1
        have hB390 := hE1.blk hB195 hA177.nmem1
        have hO391 := hO196.evo hE1 hA178.own1
        have hB392 := hE1.blk hB197 hA179.nmem1
        skip
        skip
        refine nrm_block (nrm_then ?_)
        refine cw_seq ?_
        refine cw_region ?_
        refine wl_val rfl (ex_load1 rfl Tryd.agg22 (cell_nth hB388 rfl)) ?_
        refine wl_val rfl (ex_assign rfl) ?_
        refine wl_nil (nrm_then ?_)
        refine cw_seq ?_
        refine cw_seq ?_
        refine cw_region ?_
        refine wl_val rfl (ex_load1 rfl Tryd.agg3 (cell_nth hB392 rfl)) ?_
        refine wl_val rfl (ex_eql rfl rfl) ?_
        refine wl_nil (nrm_then ?_)
        refine cw_if rfl (fun hc65 => ?_) (fun hc65 => ?_)
        · skip
          refine cw_region ?_
          refine wl_val rfl (ex_load1 rfl Tryd.agg22 (cell_nth hB388 rfl)) ?_
          refine wl_val rfl (ex_load1 rfl Tryd.agg3 (cell_nth hB385 rfl)) ?_
          refine wl_val rfl (ex_load1 rfl Tryd.agg22 (cell_nth hB388 rfl)) ?_
          refine wl_val rfl (ex_len_slice rfl Tryd.underlying22 rfl) ?_
          refine wl_val rfl (ex_min rfl rfl) ?_
          refine wl_val rfl (ex_max rfl rfl) ?_
          refine wl_val rfl (ex_ownTo (h := out.length) hO387 rfl rfl Tryd.underlying22 Tryd.size41 (by have := hst (by omega); split <;> split <;> omega) (hO387).le) ?_
          refine wl_val rfl (ex_assign rfl) ?_
          refine wl_nil (nrm_then ?_)
          refine cw_seq ?_
          refine cw_region ?_
          refine wl_val rfl (ex_load1 rfl Tryd.agg22 (cell_nth hB11 rfl)) ?_
          refine wl_val rfl (ex_move rfl) ?_
          refine wl_call1 (vs := [_, _, _]) Tryd.goes20 rfl (alike_ok (own_smp (X := []) hOl rfl hok (fun _ _ => by simp)) (own_smp (X := []) hO387 rfl hok (fun _ _ => by simp)) (Alike.refl _ _) (by omega)) rfl ?_
          rintro _ w393 ⟨rfl, hw394⟩
          have hE395 := hE380.then hw394
          have hE396 := hE381.then hw394
          have hE397 := hE382.then hw394
          have hE398 := hE383.then hw394
          have hE399 := hE384.then hw394
          have hB400 := hw394.blk0 hB385
          have hB401 := hw394.blk0 hB386
          have hO402 := hO387.evo0 hw394
          have hB403 := hw394.blk0 hB388
          have hO404 := hO389.evo0 hw394
          have hB405 := hw394.blk0 hB390
          have hO406 := hO391.evo0 hw394
          have hB407 := hw394.blk0 hB392
          have hB408 := hw394.blk0 hB11
          have hO409 := hOl.evo0 hw394
          have hB410 := hw394.blk0 hK
          refine wl_val rfl (ex_notb rfl) ?_
          refine wl_nil (nrm_then ?_)
          refine cw_false rfl ?_
          refine cw_skip (nrm_block (nrm_then ?_))
          refine cw_seq ?_
          refine cw_seq ?_
          refine cw_region ?_
          refine wl_val rfl (ex_load1 rfl Tryd.agg3 (cell_nth hB407 rfl)) ?_
          refine wl_nil (nrm_then ?_)
          refine cw_region ?_
          refine wl_alloc rfl Tryd.zero3 fun b10 w411 hB412 hs413 hw414 => ?_
          have hA415 := Apart.new (Lt.blk hB400) hs413
          have hA416 := Apart.new (Lt.blk hB401) hs413
          have hA417 := Apart.new (Lt.own hO402) hs413
          have hA418 := Apart.new (Lt.blk hB403) hs413
          have hA419 := Apart.new (Lt.own hO404) hs413
          have hA420 := Apart.new (Lt.blk hB405) hs413
          have hA421 := Apart.new (Lt.own hO406) hs413
          have hA422 := Apart.new (Lt.blk hB407) hs413
          have hA423 := Apart.new (Lt.blk hB408) hs413
          have hA424 := Apart.new (Lt.own hO409) hs413
          have hA425 := Apart.new (Lt.blk hB410) hs413
          have hG426 := Ge.new hE395 hs413
          have hG427 := Ge.new hE396 hs413
          have hG428 := Ge.new hE397 hs413
          have hG429 := Ge.new hE398 hs413
          have hG430 := Ge.new hE399 hs413
          have hE431 := hE395.then hw414
          have hE432 := hE396.then hw414
          have hE433 := hE397.then hw414
          have hE434 := hE398.then hw414
          have hE435 := hE399.then hw414
          have hB436 := hw414.blk0 hB400
          have hB437 := hw414.blk0 hB401
          have hO438 := hO402.evo0 hw414
          have hB439 := hw414.blk0 hB403
          have hO440 := hO404.evo0 hw414
          have hB441 := hw414.blk0 hB405
          have hO442 := hO406.evo0 hw414
          have hB443 := hw414.blk0 hB407
          have hB444 := hw414.blk0 hB408
          have hO445 := hO409.evo0 hw414
          have hB446 := hw414.blk0 hB410
          refine wl_store1 rfl rfl (by first | rfl | assumption) Tryd.size3 hB412 rfl fun w447 hB448 hw449 => ?_
          have hE450 := hE431.step hw449 hG426.mem1
          have hE451 := hE432.step hw449 hG427.mem1
          have hE452 := hE433.step hw449 hG428.mem1
          have hE453 := hE434.step hw449 hG429.mem1
          have hE454 := hE435.step hw449 hG430.mem1
          have hB455 := hw449.blk hB436 hA415.nmem1
          have hB456 := hw449.blk hB437 hA416.nmem1
          have hO457 := hO438.evo hw449 hA417.own1
          have hB458 := hw449.blk hB439 hA418.nmem1
          have hO459 := hO440.evo hw449 hA419.own1
          have hB460 := hw449.blk hB441 hA420.nmem1
          have hO461 := hO442.evo hw449 hA421.own1
          have hB462 := hw449.blk hB443 hA422.nmem1
          have hB463 := hw449.blk hB444 hA423.nmem1
          have hO464 := hO445.evo hw449 hA424.own1
          have hB465 := hw449.blk hB446 hA425.nmem1
          try simp only [List.setIfInBounds_toArray, List.set_cons_zero, List.set_cons_succ, Nat.reduceAdd, Nat.zero_add, Nat.add_zero] at hB448
          refine wl_nil (nrm_then ?_)
          refine cw_region ?_
          refine wl_val rfl (ex_load1 rfl Tryd.agg3 (cell_nth hB448 rfl)) ?_
          refine wl_val rfl (ex_add_i64 rfl rfl (by omega) (by omega)) ?_
          refine wl_store1 rfl rfl (by first | rfl | assumption) Tryd.size3 hB448 rfl fun w466 hB467 hw468 => ?_
          have hE469 := hE450.step hw468 hG426.mem1
          have hE470 := hE451.step hw468 hG427.mem1
          have hE471 := hE452.step hw468 hG428.mem1
          have hE472 := hE453.step hw468 hG429.mem1
          have hE473 := hE454.step hw468 hG430.mem1
          have hB474 := hw468.blk hB455 hA415.nmem1
          have hB475 := hw468.blk hB456 hA416.nmem1
          have hO476 := hO457.evo hw468 hA417.own1
          have hB477 := hw468.blk hB458 hA418.nmem1
          have hO478 := hO459.evo hw468 hA419.own1
          have hB479 := hw468.blk hB460 hA420.nmem1
          have hO480 := hO461.evo hw468 hA421.own1
          have hB481 := hw468.blk hB462 hA422.nmem1
          have hB482 := hw468.blk hB463 hA423.nmem1
          have hO483 := hO464.evo hw468 hA424.own1
          have hB484 := hw468.blk hB465 hA425.nmem1
          try simp only [List.setIfInBounds_toArray, List.set_cons_zero, List.set_cons_succ, Nat.reduceAdd, Nat.zero_add, Nat.add_zero] at hB467
          refine wl_nil (nrm_then ?_)
          refine ⟨⟨r + 1, b10, D :: Ds⟩, rfl, ?_, ⟨rfl, trivial⟩, ⟨rfl, rfl, rfl, rfl, trivial⟩, hE471, ?_⟩
          · (try dsimp only); omega
          · skip
            try dsimp only
            refine ⟨by omega, hB467, List.nodup_cons.2 ⟨fun hm => ?_, hnd⟩, fun D' hD' => ?_⟩
            · have h1 := blk_lt (hDs D hm).1; omega
            · rcases List.mem_cons.1 hD' with rfl | hD'
              · exact ⟨hB484, by omega⟩
              · exact ⟨(hE472).blk0 (hDs D' hD').1, (hDs D' hD').2⟩
        · skip
          refine cw_skip (nrm_then ?_)
          refine cw_seq ?_
          refine cw_region ?_
          refine wl_val rfl (ex_load1 rfl Tryd.agg22 (cell_nth hB11 rfl)) ?_
          refine wl_val rfl (ex_move rfl) ?_
          refine wl_call1 (vs := [_, _, _]) Tryd.goes20 rfl (alike_ok (own_smp (X := []) hOl rfl hok (fun _ _ => by simp)) (own_smp (X := []) hO387 rfl hok (fun _ _ => by simp)) (Alike.refl _ _) (by omega)) rfl ?_
          rintro _ w485 ⟨rfl, hw486⟩
          have hE487 := hE380.then hw486
          have hE488 := hE381.then hw486
          have hE489 := hE382.then hw486
          have hE490 := hE383.then hw486
          have hE491 := hE384.then hw486
          have hB492 := hw486.blk0 hB385
          have hB493 := hw486.blk0 hB386
          have hO494 := hO387.evo0 hw486
          have hB495 := hw486.blk0 hB388
          have hO496 := hO389.evo0 hw486
          have hB497 := hw486.blk0 hB390
          have hO498 := hO391.evo0 hw486
          have hB499 := hw486.blk0 hB392
          have hB500 := hw486.blk0 hB11
          have hO501 := hOl.evo0 hw486
          have hB502 := hw486.blk0 hK
          refine wl_val rfl (ex_notb rfl) ?_
          refine wl_nil (nrm_then ?_)
          refine cw_false rfl ?_
          refine cw_skip (nrm_block (nrm_then ?_))
          refine cw_seq ?_
          refine cw_seq ?_
          refine cw_region ?_
          refine wl_val rfl (ex_load1 rfl Tryd.agg3 (cell_nth hB499 rfl)) ?_
          refine wl_nil (nrm_then ?_)
          refine cw_region ?_
          refine wl_alloc rfl Tryd.zero3 fun b10 w503 hB504 hs505 hw506 => ?_
          have hA507 := Apart.new (Lt.blk hB492) hs505
          have hA508 := Apart.new (Lt.blk hB493) hs505
          have hA509 := Apart.new (Lt.own hO494) hs505
          have hA510 := Apart.new (Lt.blk hB495) hs505
          have hA511 := Apart.new (Lt.own hO496) hs505
          have hA512 := Apart.new (Lt.blk hB497) hs505
          have hA513 := Apart.new (Lt.own hO498) hs505
          have hA514 := Apart.new (Lt.blk hB499) hs505
          have hA515 := Apart.new (Lt.blk hB500) hs505
          have hA516 := Apart.new (Lt.own hO501) hs505
          have hA517 := Apart.new (Lt.blk hB502) hs505
          have hG518 := Ge.new hE487 hs505
          have hG519 := Ge.new hE488 hs505
          have hG520 := Ge.new hE489 hs505
          have hG521 := Ge.new hE490 hs505
          have hG522 := Ge.new hE491 hs505
          have hE523 := hE487.then hw506
          have hE524 := hE488.then hw506
          have hE525 := hE489.then hw506
          have hE526 := hE490.then hw506
          have hE527 := hE491.then hw506
          have hB528 := hw506.blk0 hB492
          have hB529 := hw506.blk0 hB493
          have hO530 := hO494.evo0 hw506
          have hB531 := hw506.blk0 hB495
          have hO532 := hO496.evo0 hw506
          have hB533 := hw506.blk0 hB497
          have hO534 := hO498.evo0 hw506
          have hB535 := hw506.blk0 hB499
          have hB536 := hw506.blk0 hB500
          have hO537 := hO501.evo0 hw506
          have hB538 := hw506.blk0 hB502
          refine wl_store1 rfl rfl (by first | rfl | assumption) Tryd.size3 hB504 rfl fun w539 hB540 hw541 => ?_
          have hE542 := hE523.step hw541 hG518.mem1
          have hE543 := hE524.step hw541 hG519.mem1
          have hE544 := hE525.step hw541 hG520.mem1
          have hE545 := hE526.step hw541 hG521.mem1
          have hE546 := hE527.step hw541 hG522.mem1
          have hB547 := hw541.blk hB528 hA507.nmem1
          have hB548 := hw541.blk hB529 hA508.nmem1
          have hO549 := hO530.evo hw541 hA509.own1
          have hB550 := hw541.blk hB531 hA510.nmem1
          have hO551 := hO532.evo hw541 hA511.own1
          have hB552 := hw541.blk hB533 hA512.nmem1
          have hO553 := hO534.evo hw541 hA513.own1
          have hB554 := hw541.blk hB535 hA514.nmem1
          have hB555 := hw541.blk hB536 hA515.nmem1
          have hO556 := hO537.evo hw541 hA516.own1
          have hB557 := hw541.blk hB538 hA517.nmem1
          try simp only [List.setIfInBounds_toArray, List.set_cons_zero, List.set_cons_succ, Nat.reduceAdd, Nat.zero_add, Nat.add_zero] at hB540
          refine wl_nil (nrm_then ?_)
          refine cw_region ?_
          refine wl_val rfl (ex_load1 rfl Tryd.agg3 (cell_nth hB540 rfl)) ?_
          refine wl_val rfl (ex_add_i64 rfl rfl (by omega) (by omega)) ?_
          refine wl_store1 rfl rfl (by first | rfl | assumption) Tryd.size3 hB540 rfl fun w558 hB559 hw560 => ?_
          have hE561 := hE542.step hw560 hG518.mem1
          have hE562 := hE543.step hw560 hG519.mem1
          have hE563 := hE544.step hw560 hG520.mem1
          have hE564 := hE545.step hw560 hG521.mem1
          have hE565 := hE546.step hw560 hG522.mem1
          have hB566 := hw560.blk hB547 hA507.nmem1
          have hB567 := hw560.blk hB548 hA508.nmem1
          have hO568 := hO549.evo hw560 hA509.own1
          have hB569 := hw560.blk hB550 hA510.nmem1
          have hO570 := hO551.evo hw560 hA511.own1
          have hB571 := hw560.blk hB552 hA512.nmem1
          have hO572 := hO553.evo hw560 hA513.own1
          have hB573 := hw560.blk hB554 hA514.nmem1
          have hB574 := hw560.blk hB555 hA515.nmem1
          have hO575 := hO556.evo hw560 hA516.own1
          have hB576 := hw560.blk hB557 hA517.nmem1
          try simp only [List.setIfInBounds_toArray, List.set_cons_zero, List.set_cons_succ, Nat.reduceAdd, Nat.zero_add, Nat.add_zero] at hB559
          refine wl_nil (nrm_then ?_)
          refine ⟨⟨r + 1, b10, D :: Ds⟩, rfl, ?_, ⟨rfl, trivial⟩, ⟨rfl, rfl, rfl, rfl, trivial⟩, hE563, ?_⟩
          · (try dsimp only); omega
          · skip
            try dsimp only
            refine ⟨by omega, hB559, List.nodup_cons.2 ⟨fun hm => ?_, hnd⟩, fun D' hD' => ?_⟩
            · have h1 := blk_lt (hDs D hm).1; omega
            · rcases List.mem_cons.1 hD' with rfl | hD'
              · exact ⟨hB576, by omega⟩
              · exact ⟨(hE564).blk0 (hDs D' hD').1, (hDs D' hD').2⟩
      · skip
        intro D c pre W hD hS hi hK
        obtain ⟨rfl, hr1, p, x, rfl, hi⟩ := hi
        obtain ⟨la, lc, lob, hB11, hOl, hGl, hE1, hst⟩ := hi
        have hpl : p.length < out.length := by have := hS.length_le; simp at this; omega
        have hpo : out.take p.length = p := by obtain ⟨t, ht⟩ := hS; rw [← ht, List.append_assoc, List.take_left]
        have hA577 := Apart.fresh (Lt.blk hB190) hGl
        have hA578 := Apart.fresh (Lt.blk hB191) hGl
        have hA579 := Apart.fresh (Lt.own hO192) hGl
        have hA580 := Apart.fresh (Lt.blk hB193) hGl
        have hA581 := Apart.fresh (Lt.own hO194) hGl
        have hA582 := Apart.fresh (Lt.blk hB195) hGl
        have hA583 := Apart.fresh (Lt.own hO196) hGl
        have hA584 := Apart.fresh (Lt.blk hB197) hGl
        have hA585 := Apart.fresh (Lt.blk hB169) hGl
        have hG586 := Ge.fresh hE185 hGl
        have hG587 := Ge.fresh hE186 hGl
        have hG588 := Ge.fresh hE187 hGl
        have hG589 := Ge.fresh hE188 hGl
        have hG590 := Ge.fresh hE189 hGl
        have hE591 := hE185.step hE1 hG180.mem1
        have hE592 := hE186.step hE1 hG181.mem1
        have hE593 := hE187.step hE1 hG182.mem1
        have hE594 := hE188.step hE1 hG183.mem1
        have hE595 := hE189.step hE1 hG184.mem1
        have hB596 := hE1.blk hB190 hA172.nmem1
        have hB597 := hE1.blk hB191 hA173.nmem1
        have hO598 := hO192.evo hE1 hA174.own1
        have hB599 := hE1.blk hB193 hA175.nmem1
        have hO600 := hO194.evo hE1 hA176.own1
        have hB601 := hE1.blk hB195 hA177.nmem1
        have hO602 := hO196.evo hE1 hA178.own1
        have hB603 := hE1.blk hB197 hA179.nmem1
        refine cw_exit (ex_here (nrm_then ?_))
        refine cw_seq ?_
        refine cw_region ?_
        refine wl_val rfl (ex_load1 rfl Tryd.agg22 (cell_nth hB599 rfl)) ?_
        refine wl_val rfl (ex_assign rfl) ?_
        refine wl_nil (nrm_then ?_)
        refine cw_seq ?_
        refine cw_seq ?_
        refine cw_region ?_
        refine wl_val rfl (ex_load1 rfl Tryd.agg3 (cell_nth hB603 rfl)) ?_
        refine wl_val rfl (ex_eql rfl rfl) ?_
        refine wl_nil (nrm_then ?_)
        refine cw_if rfl (fun hc65 => ?_) (fun hc65 => ?_)
        · skip
          refine cw_region ?_
          refine wl_val rfl (ex_load1 rfl Tryd.agg22 (cell_nth hB599 rfl)) ?_
          refine wl_val rfl (ex_load1 rfl Tryd.agg3 (cell_nth hB596 rfl)) ?_
          refine wl_val rfl (ex_load1 rfl Tryd.agg22 (cell_nth hB599 rfl)) ?_
          refine wl_val rfl (ex_len_slice rfl Tryd.underlying22 rfl) ?_
          refine wl_val rfl (ex_min rfl rfl) ?_
          refine wl_val rfl (ex_max rfl rfl) ?_
          refine wl_val rfl (ex_ownTo (h := p.length) hO598 rfl rfl Tryd.underlying22 Tryd.size41 (by split <;> split <;> omega) (by have := (hO598).le; omega)) ?_
          refine wl_val rfl (ex_assign rfl) ?_
          refine wl_nil (nrm_then ?_)
          refine cw_seq ?_
          refine cw_region ?_
          refine wl_val rfl (ex_load1 rfl Tryd.agg22 (cell_nth hB11 rfl)) ?_
          refine wl_val rfl (ex_move rfl) ?_
          refine wl_call1 (vs := [_, _, _]) Tryd.goes20 rfl (alike_ok (own_smp (X := []) hOl rfl (fun s hs => hok s (by rw [← hpo] at hs; exact List.mem_of_mem_take hs)) (fun _ _ => by simp)) (own_smp (X := []) (own_take hO598 (by omega) rfl) (by rw [List.length_take]; omega) (fun s hs => hok s (List.mem_of_mem_take hs)) (fun _ _ => by simp)) (by rw [hpo]; exact Alike.refl _ _) (by omega)) rfl ?_
          rintro _ w604 ⟨rfl, hw605⟩
          have hE606 := hE591.then hw605
          have hE607 := hE592.then hw605
          have hE608 := hE593.then hw605
          have hE609 := hE594.then hw605
          have hE610 := hE595.then hw605
          have hB611 := hw605.blk0 hB596
          have hB612 := hw605.blk0 hB597
          have hO613 := hO598.evo0 hw605
          have hB614 := hw605.blk0 hB599
          have hO615 := hO600.evo0 hw605
          have hB616 := hw605.blk0 hB601
          have hO617 := hO602.evo0 hw605
          have hB618 := hw605.blk0 hB603
          have hB619 := hw605.blk0 hB11
          have hO620 := hOl.evo0 hw605
          have hB621 := hw605.blk0 hK
          refine wl_val rfl (ex_notb rfl) ?_
          refine wl_nil (nrm_then ?_)
          refine cw_false rfl ?_
          refine cw_skip (nrm_block (nrm_then ?_))
          refine cw_seq ?_
          refine cw_seq ?_
          refine cw_region ?_
          refine wl_val rfl (ex_load1 rfl Tryd.agg3 (cell_nth hB618 rfl)) ?_
          refine wl_nil (nrm_then ?_)
          refine cw_region ?_
          refine wl_alloc rfl Tryd.zero3 fun b10 w622 hB623 hs624 hw625 => ?_
          have hA626 := Apart.new (Lt.blk hB611) hs624
          have hA627 := Apart.new (Lt.blk hB612) hs624
          have hA628 := Apart.new (Lt.own hO613) hs624
          have hA629 := Apart.new (Lt.blk hB614) hs624
          have hA630 := Apart.new (Lt.own hO615) hs624
          have hA631 := Apart.new (Lt.blk hB616) hs624
          have hA632 := Apart.new (Lt.own hO617) hs624
          have hA633 := Apart.new (Lt.blk hB618) hs624
          have hA634 := Apart.new (Lt.blk hB619) hs624
          have hA635 := Apart.new (Lt.own hO620) hs624
          have hA636 := Apart.new (Lt.blk hB621) hs624
          have hG637 := Ge.new hE606 hs624
          have hG638 := Ge.new hE607 hs624
          have hG639 := Ge.new hE608 hs624
          have hG640 := Ge.new hE609 hs624
          have hG641 := Ge.new hE610 hs624
          have hE642 := hE606.then hw625
          have hE643 := hE607.then hw625
          have hE644 := hE608.then hw625
          have hE645 := hE609.then hw625
          have hE646 := hE610.then hw625
          have hB647 := hw625.blk0 hB611
          have hB648 := hw625.blk0 hB612
          have hO649 := hO613.evo0 hw625
          have hB650 := hw625.blk0 hB614
          have hO651 := hO615.evo0 hw625
          have hB652 := hw625.blk0 hB616
          have hO653 := hO617.evo0 hw625
          have hB654 := hw625.blk0 hB618
          have hB655 := hw625.blk0 hB619
          have hO656 := hO620.evo0 hw625
          have hB657 := hw625.blk0 hB621
          refine wl_store1 rfl rfl (by first | rfl | assumption) Tryd.size3 hB623 rfl fun w658 hB659 hw660 => ?_
          have hE661 := hE642.step hw660 hG637.mem1
          have hE662 := hE643.step hw660 hG638.mem1
          have hE663 := hE644.step hw660 hG639.mem1
          have hE664 := hE645.step hw660 hG640.mem1
          have hE665 := hE646.step hw660 hG641.mem1
          have hB666 := hw660.blk hB647 hA626.nmem1
          have hB667 := hw660.blk hB648 hA627.nmem1
          have hO668 := hO649.evo hw660 hA628.own1
          have hB669 := hw660.blk hB650 hA629.nmem1
          have hO670 := hO651.evo hw660 hA630.own1
          have hB671 := hw660.blk hB652 hA631.nmem1
          have hO672 := hO653.evo hw660 hA632.own1
          have hB673 := hw660.blk hB654 hA633.nmem1
          have hB674 := hw660.blk hB655 hA634.nmem1
          have hO675 := hO656.evo hw660 hA635.own1
          have hB676 := hw660.blk hB657 hA636.nmem1
          try simp only [List.setIfInBounds_toArray, List.set_cons_zero, List.set_cons_succ, Nat.reduceAdd, Nat.zero_add, Nat.add_zero] at hB659
          refine wl_nil (nrm_then ?_)
          refine cw_region ?_
          refine wl_val rfl (ex_load1 rfl Tryd.agg3 (cell_nth hB659 rfl)) ?_
          refine wl_val rfl (ex_add_i64 rfl rfl (by omega) (by omega)) ?_
          refine wl_store1 rfl rfl (by first | rfl | assumption) Tryd.size3 hB659 rfl fun w677 hB678 hw679 => ?_
          have hE680 := hE661.step hw679 hG637.mem1
          have hE681 := hE662.step hw679 hG638.mem1
          have hE682 := hE663.step hw679 hG639.mem1
          have hE683 := hE664.step hw679 hG640.mem1
          have hE684 := hE665.step hw679 hG641.mem1
          have hB685 := hw679.blk hB666 hA626.nmem1
          have hB686 := hw679.blk hB667 hA627.nmem1
          have hO687 := hO668.evo hw679 hA628.own1
          have hB688 := hw679.blk hB669 hA629.nmem1
          have hO689 := hO670.evo hw679 hA630.own1
          have hB690 := hw679.blk hB671 hA631.nmem1
          have hO691 := hO672.evo hw679 hA632.own1
          have hB692 := hw679.blk hB673 hA633.nmem1
          have hB693 := hw679.blk hB674 hA634.nmem1
          have hO694 := hO675.evo hw679 hA635.own1
          have hB695 := hw679.blk hB676 hA636.nmem1
          try simp only [List.setIfInBounds_toArray, List.set_cons_zero, List.set_cons_succ, Nat.reduceAdd, Nat.zero_add, Nat.add_zero] at hB678
          refine wl_nil (nrm_then ?_)
          refine ⟨⟨r + 1, b10, D :: Ds⟩, rfl, ?_, ⟨rfl, trivial⟩, ⟨rfl, rfl, rfl, rfl, trivial⟩, hE682, ?_⟩
          · (try dsimp only); omega
          · skip
            try dsimp only
            refine ⟨by omega, hB678, List.nodup_cons.2 ⟨fun hm => ?_, hnd⟩, fun D' hD' => ?_⟩
            · have h1 := blk_lt (hDs D hm).1; omega
            · rcases List.mem_cons.1 hD' with rfl | hD'
              · exact ⟨hB695, by omega⟩
              · exact ⟨(hE683).blk0 (hDs D' hD').1, (hDs D' hD').2⟩
        · skip
          exfalso; omega
    · skip
      refine cw_exit (ex_then (ex_then (ex_here (nrm_then ?_))))
      refine cw_seq ?_
      have hszl := (hV158).size
      refine cw_region ?_
      refine wl_store1 rfl rfl (by first | rfl | assumption) Tryd.size4 hB162 rfl fun w696 hB697 hw698 => ?_
      have hE699 := hE159.step hw698 hG12.mem1
      have hE703 := (Evo.refl [b4] wr157).step hw698 (by intro y hy; left; simpa using hy)
      have hB704 := hw698.blk hB161 hA11.nmem1
      have hO705 := hO163.evo hw698 hA47.symm.own1
      have hB706 := hw698.blk hB164 hA59.symm.nmem1
      have hO707 := hO165.evo hw698 hA79.symm.own1
      have hB708 := hw698.blk hB166 hA85.symm.nmem1
      have hO709 := hO167.evo hw698 hA39.symm.own1
      try simp only [List.setIfInBounds_toArray, List.set_cons_zero, List.set_cons_succ, Nat.reduceAdd, Nat.zero_add, Nat.add_zero] at hB697
      refine wl_nil (nrm_then ?_)
      refine cw_ret (?_)
      exact body_retM1 Ds rfl hnd (fun D hD => (hE703).blk (hDs D hD).1 (fun hm => by have h1 := (hDs D hD).2; rw [List.mem_singleton.1 hm] at h1; omega)) (fun w' hw' => ResOk.cell1 rfl Tryd.agg4 (hw'.blk hB697 (fun hm => by have h1 := (hDs b4 hm).2; omega)) rfl) (fun w' hw' => ⟨rfl, (hE699).step hw' (fun y hy => .inr (by have h1 := (hDs y hy).2; omega))⟩)

set_option maxRecDepth 100000 in
theorem contract (H : Type) (enc : TypeId × Value → H) (W : World) (base : Nat) (args : Array Value) (ds gs : List (DataW H)) (before : List MemPlace)
    (hval : ∀ (j : Nat) t v, Tryd.f7.params[j]? = some t → args[j]? = some v → Value.okWide Tryd.prog W .any base t v)
    (hW : DataW.Whole enc Tryd.prog Tryd.f7.params.toList Rows.chunkEachSpec.vars false W args.toList ds gs before)
    (hsz : (DataW.weightsEach Tryd.prog (Tryd.f7.params.toList ++ Rows.chunkEachSpec.plain.varTypes Tryd.prog) (ds ++ gs)).all (· ≤ reachBytes) = true) (hL : laidMetH Tryd.prog laidL W) :
    Calls Tryd.prog 7 args W fun e W' => ∃ v, e = .returned v ∧ Rows.chunkEachSpec.post enc Tryd.prog Tryd.f7 false true false false W args v W' := by
  have hW' := hW
  obtain ⟨p, q, hA0, hV, rfl, hfz, hnd⟩ := hW
  have hA : DataW.TrodAll enc Tryd.prog W 0 (fun _ => true) true Tryd.f7.params.toList args.toList ds p := hA0
  rw [Tryd.params7] at hA hval hsz
  obtain ⟨v0, vs0, d0, ds0, p0, q0, hargs0, rfl, rfl, h0, r0⟩ := trodAll_cons hA
  obtain ⟨v1, vs1, d1, ds1, p1, q1, hargs1, rfl, rfl, h1, r1⟩ := trodAll_cons r0
  obtain ⟨hn1, rfl, rfl⟩ := trodAll_nil r1
  subst hn1
  subst hargs1
  obtain rfl : args = #[v0, v1] := by cases args; simp_all
  obtain ⟨rfl, rfl⟩ := trodVars_none hV
  have k0 := h0
  have k1 := h1
  obtain ⟨l0, hs0, hb0⟩ := came Tryd.underlying24 opens24 (hval 0 24 _ rfl rfl) h0 (fun n hn => by have := List.all_eq_true.1 hsz n (DataW.weights_mem_each (j := 0) rfl rfl n hn); simpa using this)
  obtain ⟨n1, rfl, rfl, rfl, hr1⟩ := open_int Tryd.underlying3 (hval 1 3 _ rfl rfl) h1
  have hT : Tab W := table hL
  refine (walk_ok (stop := n1) hs0 hb0 hT).mono fun e W' ⟨v, he, hv, bel⟩ => ?_
  subst he hv
  exact ⟨_, rfl, _, _, _, [], _, [], hW', trodAll_mk1 (shut_bool Tryd.underlying4 _), (trodAll_cons_mk (Below.trod laidOut (by kernel_rfl) (of_decide_eq_true (by kernel_rfl)) k0 bel.below (trod_lt k0)) (trodAll_cons_mk (Below.trod laidOut (by kernel_rfl) (of_decide_eq_true (by kernel_rfl)) k1 bel.below (trod_lt k1)) trodAll_mk0)), rfl, bel.below.frame _, fun h => by cases h⟩
theorem laid_met (os : Os) : laidMet Tryd.prog laidL ((laidWorld os #[]).forCall (fun _ _ => 0) ⟨#[], #[.slice none 0 0, .int .i64 0], []⟩).memory :=
  laidMet_of_run' 8 (by kernel_rfl) (by kernel_rfl)
theorem reads (os : Os) {H : Type} (enc : TypeId × Value → H) : ∃ places, DataW.whole enc Tryd.prog ((laidWorld os #[]).forCall (fun _ _ => 0) ⟨#[], #[.slice none 0 0, .int .i64 0], []⟩).memory Tryd.f7.params.toList Rows.chunkEachSpec.vars false (#[.slice none 0 0, .int .i64 0] : Array Value).toList 8 = some ([.nil, .lit (.int .i64 0)], [], places) :=
  ⟨[], by kernel_rfl⟩
set_option maxRecDepth 100000 in
theorem lifted (os : Os) (started : os.Started) (H : Type) (enc : TypeId × Value → H) (F : Stop.Interp) :
    ReturnsInHanded {} Tryd.checked os 7 .any ((OpenSpec.ofChange Rows.chunkEachSpec).preRow enc Tryd.prog Tryd.f7 Rows.chunkEachRow.domain false Rows.chunkEachRow.laid) (((OpenSpec.ofChange Rows.chunkEachSpec).at F).post enc Tryd.prog Tryd.f7 false true false false) := by
  obtain ⟨places, hx⟩ := reads os enc
  refine returnsInHanded_of_row (C := Tryd.checked) (s := OpenSpec.ofChange Rows.chunkEachSpec) own started (by kernel_rfl) Tryd.func7
    (witness_row_at (enc := enc) (C := Tryd.checked) false (laidWorld os #[]) #[.slice none 0 0, .int .i64 0] rfl (by kernel_rfl) (by kernel_rfl) (by kernel_rfl)
      (OpenSpec.preRow_of_cond 8 hx (by kernel_rfl) (fun k hk => by cases hk) (by kernel_rfl) (laid_met os))) ?_
  intro W base args ds gs before hval hW _ _ hsz hL _ _
  exact contract H enc W base args ds gs before hval hW hsz hL
theorem said : Rows.ChunkEachSaid :=
  OpenClaim.holds_of_cond 7 Tryd.f7 rfl rfl rfl rfl rfl rfl rfl ⟨rfl, rfl, rfl, rfl, rfl⟩ rfl rfl rfl rfl rfl (by kernel_rfl) Tryd.func7 (by kernel_rfl)
    (of_decide_eq_true (by kernel_rfl)) (by unfold Func.isWrapper; first | (rw [if_pos (by decide +kernel)]; kernel_rfl) | (rw [if_neg (by decide +kernel)]; exact ⟨rfl, rfl⟩))
    (fun os started H enc _ F => by rw [OpenClaim.pre_eq_preRow]; exact lifted os started H enc F)
theorem plain (f : FuncId) (fn : Func) (hf : Tryd.pinned.checked.prog.funcNamed "weir/weirlaw17.ChunkEach" = some f) (hfn : Tryd.pinned.checked.prog.funcs[f]? = some fn) :
    false = Tryd.pinned.checked.prog.looks [] ∧ ∀ (j : Nat) t, fn.params[j]? = some t → Tryd.pinned.checked.prog.wantsStandIn t = false := by
  obtain rfl : f = 7 := Option.some.inj ((show Tryd.prog.funcNamed "weir/weirlaw17.ChunkEach" = some 7 by kernel_rfl).symm.trans hf) |>.symm
  obtain rfl : fn = Tryd.f7 := (Option.some.inj (Tryd.func7.symm.trans hfn)).symm
  refine ⟨looks_off, fun j t ht => ?_⟩
  rw [Tryd.params7] at ht
  rcases j with _ | _ | j
  · obtain rfl : t = 24 := by simpa using ht.symm
    exact (show Tryd.prog.wantsStandIn 24 = false by kernel_rfl)
  · obtain rfl : t = 3 := by simpa using ht.symm
    exact (show Tryd.prog.wantsStandIn 3 = false by kernel_rfl)
  · simp at ht

theorem chunkEach_card : Rows.ChunkEachCardSaid :=
  Claim7.holds_tied_plain_at .later [] _ _ _ _ said (fun _ h => by cases h) (by kernel_rfl) (fun _ h => by cases h) chunkEach_row_tie rfl ⟨rfl, rfl⟩ (by kernel_rfl) rfl plain (by kernel_rfl)
#print axioms chunkEach_card

end Go.Proofs.YtclmkppiolfgbaaDoor
