/- The law's own run of a program: taken. -/
import Derived.Test.YtgboffefbpligaaTn
namespace Go.Proofs.Ytgboffefbpligaa
open Go.Proofs
open Go.W Go.RowKit
attribute [local irreducible] Decidable.decide
set_option linter.unusedSimpArgs false
set_option linter.unusedVariables false
theorem Try.fld29_1 : fieldB Try.prog 29 1 = some 1 := by kernel_rfl
theorem Try.fld44_4 : fieldB Try.prog 44 4 = some 4 := by kernel_rfl
theorem Try.goes18 : Goes Try.prog 18 := ⟨_, Try.func18, by kernel_rfl, by kernel_rfl⟩
theorem Try.goes19 : Goes Try.prog 19 := ⟨_, Try.func19, by kernel_rfl, by kernel_rfl⟩


theorem RProg.own {w w' : World} {ps : List Value} {l : List In} {o : Option Nat} (h : RProg [] w ps l) (he : Evo [] w w') (hg : Ge w o) : RProg o.toList w' ps l := by
  have h1 : RProg (o.toList ++ []) w ps l := RProg.fresh [] _ w ps l (fun y hy => by rw [List.append_nil] at hy; exact .inr (hg y (by simpa using hy))) h
  rw [List.append_nil] at h1
  exact RProg.pers _ _ _ _ _ (he.mono (fun b hb => by cases hb)) h1
theorem rAt_two {s : ByteArray} {i : Nat} (h : (runeAtR s i).1 = -2) : i < s.size ∧ (nextR s i).2 = 0 := by
  unfold runeAtR at h
  split at h
  · simp at h
  · split at h
    · exact ⟨by omega, by assumption⟩
    · rcases next_cases s i with e | e
      · rename_i h1; exact (h1 (by rw [e])).elim
      · simp only at h; omega
theorem rAt_zero {s : ByteArray} {i : Nat} (h : ¬ (runeAtR s i).1 = -2) (h0 : (runeAtR s i).2 = 0) : s.size ≤ i := by
  unfold runeAtR at h h0
  split at h
  · assumption
  · rename_i h1
    rw [if_neg h1] at h0
    split at h
    · simp at h
    · rename_i h2
      rw [if_neg h2] at h0
      simp only at h0; omega
theorem rAt_go {s : ByteArray} {i : Nat} (h : ¬ (runeAtR s i).1 = -2) (h0 : ¬ (runeAtR s i).2 = 0) : i < s.size ∧ 0 < (nextR s i).2 ∧ (runeAtR s i).1 = (nextR s i).1 ∧ (runeAtR s i).2 = ((nextR s i).2 : Nat) := by
  unfold runeAtR at h h0 ⊢
  split at h
  · rename_i h1; rw [if_pos h1] at h0; simp at h0
  · rename_i h1
    rw [if_neg h1] at h0 ⊢
    split at h
    · simp at h
    · rename_i h2
      rw [if_neg h2]
      exact ⟨by omega, by omega, rfl, rfl⟩
theorem utf_bad {s : ByteArray} {k : Nat} (hw : ∀ j, j < k → 0 < (nextR s (offs s j)).2) (h : offs s k < s.size) (h0 : (nextR s (offs s k)).2 = 0) : ¬ ∃ N, Utf s N := by
  rintro ⟨N, h1, h2⟩
  by_cases e : N ≤ k
  · have := offs_mono s e; omega
  · have := h2 k (by omega); omega
theorem eat_at {l : List In} {s : ByteArray} {i p q : Nat} {c : In} (h : l[p]? = some c) : EatB l s i p q ↔ c.op = 2 ∧ (q : Int) = c.out ∧ 0 < (nextR s i).2 ∧ InR (nextR s i).1 c.rs := by
  unfold EatB
  constructor
  · rintro ⟨c', h1, h2⟩; rw [h] at h1; cases h1; exact h2
  · exact fun h2 => ⟨c, h, h2⟩
structure TkG where
  k : Nat
  ls : List Nat
  ln : Nat
  la : Option Addr
  lc : Nat
  lo : Option Nat
structure TkI (w wr : World) (l : List In) (s : ByteArray) (b2 : Nat) (cs : Array Value) (x : TkG) : Prop where
  hw : ∀ j, j < x.k → 0 < (nextR s (offs s j)).2
  fr : ∀ q, q ∈ x.ls ↔ Front l s x.k q
  rng : ∀ q, q ∈ x.ls → q < l.length
  ln : x.ln = x.ls.length
  bd : x.ln ≤ 10000
  ol : OwnS wr 3 1 x.la x.ln x.lc (ivs x.ls) x.lo
  go : Ge w x.lo
  bx : wr.heap[b2]? = some (.cells cs 29 (0, 0))
  ap : Apart (some b2) x.lo
structure EtG where
  j : Nat
  ls : List Nat
  ln : Nat
  la : Option Addr
  lc : Nat
  lo : Option Nat
structure EtI (w wr : World) (l : List In) (s : ByteArray) (k : Nat) (now : List Nat) (na : Option Addr) (nc : Nat) (no : Option Nat) (b2 : Nat) (cs : Array Value) (x : EtG) : Prop where
  j : x.j ≤ now.length
  eat : ∀ q, q ∈ x.ls ↔ ∃ i, ∃ h : i < now.length, i < x.j ∧ EatB l s (offs s k) now[i] q
  ln : x.ln = x.ls.length
  bd : x.ln ≤ x.j
  ol : OwnS wr 3 1 x.la x.ln x.lc (ivs x.ls) x.lo
  nw : OwnS wr 3 1 na now.length nc (ivs now) no
  go : Ge w x.lo
  bx : wr.heap[b2]? = some (.cells cs 29 (0, 0))
  ap : Apart (some b2) x.lo
  a2 : Apart no x.lo
theorem eat_skip {l : List In} {s : ByteArray} {i j : Nat} {now ls : List Nat} (h : ∀ q, q ∈ ls ↔ ∃ k, ∃ h : k < now.length, k < j ∧ EatB l s i now[k] q) (hj : j < now.length) (hno : ∀ q, ¬ EatB l s i now[j] q) : ∀ q, q ∈ ls ↔ ∃ k, ∃ h : k < now.length, k < j + 1 ∧ EatB l s i now[k] q := fun q => by
  rw [h q]
  constructor
  · rintro ⟨k, hk, h1, h2⟩; exact ⟨k, hk, by omega, h2⟩
  · rintro ⟨k, hk, h1, h2⟩
    by_cases e : k = j
    · subst e; exact (hno q h2).elim
    · exact ⟨k, hk, by omega, h2⟩
theorem eat_more {l : List In} {s : ByteArray} {i j o : Nat} {now ls : List Nat} (h : ∀ q, q ∈ ls ↔ ∃ k, ∃ h : k < now.length, k < j ∧ EatB l s i now[k] q) (hj : j < now.length) (ho : ∀ q, EatB l s i now[j] q ↔ q = o) : ∀ q, q ∈ ls ++ [o] ↔ ∃ k, ∃ h : k < now.length, k < j + 1 ∧ EatB l s i now[k] q := fun q => by
  rw [List.mem_append, List.mem_singleton, h q]
  constructor
  · rintro (⟨k, hk, h1, h2⟩ | rfl)
    · exact ⟨k, hk, by omega, h2⟩
    · exact ⟨j, hj, by omega, (ho _).2 rfl⟩
  · rintro ⟨k, hk, h1, h2⟩
    by_cases e : k = j
    · subst e; exact .inr ((ho q).1 h2)
    · exact .inl ⟨k, hk, by omega, h2⟩
theorem front_next {l : List In} {s : ByteArray} {k : Nat} {now ls : List Nat} (hn : ∀ q, q ∈ now ↔ WB l s q k) (h : ∀ q, q ∈ ls ↔ ∃ i, ∃ h : i < now.length, i < now.length ∧ EatB l s (offs s k) now[i] q) : ∀ q, q ∈ ls ↔ Front l s (k + 1) q := fun q => by
  rw [h q]
  constructor
  · rintro ⟨i, hi, -, h2⟩; exact .inr ⟨k, now[i], rfl, (hn _).1 (List.getElem_mem hi), h2⟩
  · rintro (⟨h1, -⟩ | ⟨k', p, h1, h2, h3⟩)
    · omega
    · obtain rfl : k' = k := by omega
      obtain ⟨i, hi, rfl⟩ := List.getElem_of_mem ((hn p).2 h2)
      exact ⟨i, hi, hi, h3⟩
theorem front0 (l : List In) (s : ByteArray) (q : Nat) : q ∈ [0] ↔ Front l s 0 q := by
  rw [List.mem_singleton]
  constructor
  · intro h; exact .inl ⟨rfl, h⟩
  · rintro (⟨-, h⟩ | ⟨k', p, h, -⟩)
    · exact h
    · omega
theorem not_inR {c : Int} {l : List (Int × Int)} (h : ∀ i (hi : i < l.length), ¬ (l[i].1 ≤ c ∧ c ≤ l[i].2)) : ¬ InR c l := fun ⟨g, hg, h1⟩ => by
  obtain ⟨i, hi, rfl⟩ := List.getElem_of_mem hg
  exact h i hi h1
theorem ivs_snoc {ls : List Nat} {o : Int} (h : (o.toNat : Int) = o) : ivs (ls ++ [o.toNat]) = ivs ls ++ [iv o] := by simp [ivs, h]
/-- What taken answers. -/
def TakenIs (l : List In) (s : ByteArray) (r : Int) : Prop := (r = 2 ∧ ¬ ∃ N, Utf s N) ∨ ∃ N, Utf s N ∧ ((r = 1 ∧ ∃ p c, WB l s p N ∧ l[p]? = some c ∧ c.op = 1) ∨ (r = 0 ∧ ¬ ∃ p c, WB l s p N ∧ l[p]? = some c ∧ c.op = 1))


theorem own_ints_at {w : World} {e : TypeId} {g n c : Nat} {ys : List Nat} {a : Option Addr} {ob : Option Nat} (h : OwnS w e 1 a n c (ys.map fun p => iv (p : Nat)) ob) (ha : a = some ⟨g, 0, none⟩) : ∀ k (hk : k < ys.length), w.cell? ⟨g, 0 + k * 1, none⟩ = some (iv (ys[k] : Nat)) := fun k hk => by
  have hl := h.length
  rw [List.length_map] at hl
  obtain ⟨g', -, ha', hc⟩ := h.cells (by omega)
  rw [ha] at ha'
  cases ha'
  rw [Nat.mul_one]
  exact hc k _ (by simp [hk])

set_option maxHeartbeats 8000000 in
theorem taken_ok {w : World} {ps : List Value} {l : List In} {s : ByteArray} (hp : RProg [] w ps l) (hR : Rng l) (h0 : 0 < l.length) (hs : s.size ≤ 1000000000) :
    Calls Try.prog 8 #[.agg ps.toArray, .string s] w (Ret fun v w' => Evo [] w w' ∧ ∃ r, v = iv r ∧ TakenIs l s r) := by
  have hp0 := hp
  obtain ⟨vi, pg, nm, rfl, hpi, hpl, hpg, hpn⟩ := hp
  obtain ⟨pa, pc, rfl, hpc, e1⟩ := hpi
  refine calls_of_cw (N := 101) Try.func8 rfl rfl rfl ?_
  refine cw_seq ?_
  refine cw_region ?_
  refine wl_boxA rfl rfl fun b2 w1 hB2 hs3 hw4 => ?_
  have hsz_b2 := hs3
  have hG5 := Ge.new (Evo.refl [] w) hs3
  have hE6 := (Evo.refl [] w).then hw4
  refine wl_a ?_
  refine wl_nil (nrm_then ?_)
  refine cw_seq ?_
  refine cw_region ?_
  refine wl_val rfl (ex_fieldAddr rfl Try.fld29_1) ?_
  refine wl_val rfl (ex_load1 rfl Try.agg3 (cell_nth hB2 rfl)) ?_
  refine wl_bslice (vs := [_]) rfl Try.slice46 rfl rfl rfl rfl fun b7 w8 hO9 hs10 hw11 => ?_
  have hA12 := Apart.new (Lt.blk hB2) hs10
  have hG13 := Ge.new hE6 hs10
  have hE14 := hE6.then hw11
  have hB15 := hw11.blk0 hB2
  refine wl_a ?_
  refine wl_nil (nrm_then ?_)
  refine cw_seq ?_
  refine cw_region ?_
  refine wl_a ?_
  refine wl_nil (nrm_then ?_)
  refine cw_block ?_
  refine cw_loop (α := TkG) (⟨0, [0], 1, _, _, _⟩) (fun x => [(6, .int .i64 (offs s x.k : Nat)), (5, .slice x.la x.ln x.lc)]) [(1, _), (2, _)] (fun x wr => Evo [] w wr ∧ (TkI w wr l s b2 #[.slice pa l.length pc, iv 0, pg, nm] x)) (fun x => s.size - offs s x.k) ⟨rfl, rfl, trivial⟩ ⟨rfl, rfl, trivial⟩ ⟨hE14, ⟨(fun j h => (by cases h)), front0 l s, (fun q h => (by rw [List.mem_singleton] at h; omega)), rfl, (by show 1 ≤ 10000; decide), hO9, hG13, hB15, hA12⟩⟩ ?_
  rintro ⟨k, ls, ln, la, lc, lo⟩ wr16 ⟨hV17, ⟨hw, hfr, hrng, hln, hbd, hol, hgo, hb2, hap⟩⟩
  show CW _ _ _ _ [(6, .int .i64 (offs s k : Nat)), (5, .slice la ln lc), (1, _), (2, _)] _
  try dsimp only at hw
  try dsimp only at hfr
  try dsimp only at hrng
  try dsimp only at hln
  try dsimp only at hbd
  try dsimp only at hol
  try dsimp only at hgo
  try dsimp only at hb2
  try dsimp only at hap
  subst hln
  refine cw_block ?_
  refine cw_seq ?_
  refine cw_region ?_
  refine wl_val rfl (ex_loadBlk rfl Try.agg29 Try.size29 hb2 rfl) ?_
  refine wl_m ?_
  refine wl_m ?_
  refine wl_m ?_
  refine wl_call1 (vs := [_, _, _, _]) Try.goes18 rfl (spread_ok (i := offs s k) (init := ls) (hp0.own hV17 hgo) hol hrng hR (offs_le s k) hs (by omega)) rfl ?_
  rintro _ w18 ⟨na, nc, no, now, rfl, hnn, hNow, hw19, hgn, hnow, hnl, hnr⟩
  have hlt2 := (Lt.blk hb2)
  have hev21 := hV17
  have hE20 := hV17.step hw19 (hgo.mem)
  have hB21 := hw19.blk hb2 (hap.nmem)
  have hA2n : Apart (some b2) no := Apart.fresh hlt2 hgn
  have hGn : Ge w no := Ge.fresh hev21 hgn
  have hwb : ∀ q, q ∈ now ↔ WB l s q k := fun q => by rw [hnow q]; exact spread_wb hfr q
  refine wl_a ?_
  refine wl_nil (nrm_then ?_)
  refine cw_seq ?_
  refine cw_seq ?_
  refine cw_region ?_
  refine wl_m ?_
  refine wl_val rfl (ex_eqSl rfl rfl Try.underlying46) ?_
  refine wl_nil (nrm_then ?_)
  refine cw_ifb rfl (fun hc23 => ?_) (fun hc23 => ?_)
  ·skip
   exact absurd hc23 (by cases na with | none => exact (hnn rfl).elim | some a => simp)
  ·skip
   refine cw_skip (nrm_then ?_)
   refine cw_seq ?_
   refine cw_region ?_
   refine wl_m ?_
   refine wl_m ?_
   refine wl_call1 (vs := [_, _]) Try.goes19 rfl (runeAt_ok s (offs s k) (offs_le s k) hs) rfl ?_
   rintro _ w22 ⟨rfl, hw23⟩
   have hE24 := hE20.then hw23
   have hB25 := hw23.blk0 hB21
   have hO26 := hNow.evo0 hw23
   refine wl_m ?_
   refine wl_val rfl (ex_extract rfl rfl) ?_
   refine wl_val rfl (ex_extract rfl rfl) ?_
   refine wl_a ?_
   refine wl_a ?_
   refine wl_nil (nrm_then ?_)
   refine cw_seq ?_
   refine cw_seq ?_
   refine cw_region ?_
   refine wl_m ?_
   refine wl_val rfl (ex_eql rfl rfl) ?_
   refine wl_nil (nrm_then ?_)
   refine cw_if rfl (fun hc31 => ?_) (fun hc31 => ?_)
   ·skip
    refine cw_seq ?_
    refine cw_region ?_
    refine wl_a ?_
    refine wl_nil (nrm_then ?_)
    refine cw_ret (ret_then (ret_block (ret_then (ret_block (body_ret1 rfl rfl ?_)))))
    exact ⟨hE24, 2, rfl, .inl ⟨rfl, utf_bad hw (rAt_two hc31).1 (rAt_two hc31).2⟩⟩
   ·skip
    refine cw_skip (nrm_then ?_)
    refine cw_seq ?_
    refine cw_seq ?_
    refine cw_region ?_
    refine wl_m ?_
    refine wl_val rfl (ex_eql rfl rfl) ?_
    refine wl_nil (nrm_then ?_)
    refine cw_if rfl (fun hc33 => ?_) (fun hc33 => ?_)
    ·skip
     refine cw_seq ?_
     refine cw_seq ?_
     refine cw_region ?_
     refine wl_a ?_
     refine wl_nil (nrm_then ?_)
     refine cw_block ?_
     refine cw_loop (α := Nat) (0) (fun j => [(10, .int .i64 (j : Nat))]) [(1, _), (2, _), (5, _), (6, _), (7, _), (8, _), (9, _)] (fun j wr => Evo [] w22 wr ∧ (j ≤ now.length ∧ ∀ i (h : i < now.length), i < j → ∀ c, l[now[i]]? = some c → c.op ≠ 1)) (fun j => now.length - j) ⟨rfl, trivial⟩ ⟨rfl, rfl, rfl, rfl, rfl, rfl, rfl, trivial⟩ ⟨Evo.refl _ _, ⟨Nat.zero_le _, fun i _ h => by omega⟩⟩ ?_
     rintro j wr27 ⟨hV28, ⟨hj, hno⟩⟩
     show CW _ _ _ _ [(10, _), (1, _), (2, _), (5, _), (6, _), (7, _), (8, _), (9, _)] _
     have hE29 := hE24.then hV28
     have hB30 := hV28.blk0 hB25
     have hO31 := hO26.evo0 hV28
     refine cw_seq ?_
     refine cw_seq ?_
     refine cw_region ?_
     refine wl_m ?_
     refine wl_m ?_
     refine wl_val rfl (ex_len_slice rfl Try.underlying46 rfl) ?_
     refine wl_val rfl (ex_lss rfl rfl) ?_
     refine wl_nil (nrm_then ?_)
     refine cw_if rfl (fun hc37 => ?_) (fun hc37 => ?_)
     ·skip
      have hj' : j < now.length := by omega
      have hnj : now[j] < l.length := hnr _ (List.getElem_mem hj')
      obtain ⟨bP, oP, vsP, rfl, hbP, -, hcP, vr, rfl, hrr, hrl⟩ := e1 now[j] hnj
      obtain ⟨gN, rfl, hcN⟩ := own_ints hO31 (by omega)
      have hc0 : l[now[j]]? = some l[now[j]] := List.getElem?_eq_getElem hnj
      have hone := hrr.one
      refine cw_skip (nrm_then ?_)
      refine cw_seq ?_
      refine cw_block ?_
      refine cw_seq ?_
      refine cw_any (fun w0 w' => Evo [] w0 w') (by kernel_rfl) (fun w32 hw33 => ?_)
      have hE34 := hE29.then hw33
      have hE35 := hV28.then hw33
      have hB36 := hw33.blk0 hB30
      have hO37 := hO31.evo0 hw33
      refine ae_take 0 rfl (by kernel_rfl) (by kernel_rfl) (by kernel_rfl) rfl (fun _ hS => ex_fieldAddr rfl Try.fld29_0) (Evo.refl [] w32) ?_
      refine ae_take 1 rfl (by kernel_rfl) (by kernel_rfl) (by kernel_rfl) rfl (fun _ hS => ex_load1 rfl Try.agg26 (cell_nth (hS.blk0 hB36) rfl)) (Evo.refl [] w32) ?_
      refine ae_take 2 rfl (by kernel_rfl) (by kernel_rfl) (by kernel_rfl) rfl (fun _ hS => ex_move rfl) (Evo.refl [] w32) ?_
      refine ae_take 3 rfl (by kernel_rfl) (by kernel_rfl) (by kernel_rfl) rfl (fun _ hS => ex_move rfl) (Evo.refl [] w32) ?_
      refine ae_take 4 rfl (by kernel_rfl) (by kernel_rfl) (by kernel_rfl) rfl (fun _ hS => ex_indexAddr (n := j) rfl rfl Try.elem46 hj') (Evo.refl [] w32) ?_
      refine ae_take 5 rfl (by kernel_rfl) (by kernel_rfl) (by kernel_rfl) rfl (fun _ hS => ex_load1 rfl Try.agg3 ((own_ints_at (hO37.evo0 hS) rfl) j hj')) (Evo.refl [] w32) ?_
      refine ae_take 6 rfl (by kernel_rfl) (by kernel_rfl) (by kernel_rfl) rfl (fun _ hS => ex_indexAddr (n := now[j]) rfl rfl Try.elem26 hnj) (Evo.refl [] w32) ?_
      refine ae_take 7 rfl (by kernel_rfl) (by kernel_rfl) (by kernel_rfl) rfl (fun _ hS => ex_fieldAddr rfl Try.fld44_0) (Evo.refl [] w32) ?_
      refine ae_take 8 rfl (by kernel_rfl) (by kernel_rfl) (by kernel_rfl) rfl (fun _ hS => ex_load1 rfl Try.agg3 ((hcP.evo (hE34.then hS) hbP) 0 _ rfl)) (Evo.refl [] w32) ?_
      refine ae_take 9 rfl (by kernel_rfl) (by kernel_rfl) (by kernel_rfl) rfl (fun _ hS => ex_eql rfl rfl) (Evo.refl [] w32) ?_
      refine ae_done (by kernel_rfl) (nrm_then ?_)
      refine cw_if rfl (fun hc49 => ?_) (fun hc49 => ?_)
      ·skip
       refine cw_seq ?_
       refine cw_region ?_
       refine wl_a ?_
       refine wl_nil (nrm_then ?_)
       refine cw_ret (ret_block (ret_then (ret_then (ret_block (ret_then (ret_then (ret_block (ret_then (ret_block (body_ret1 rfl rfl ?_))))))))))
       have hU : Utf s k := ⟨Nat.le_antisymm (offs_le s k) (rAt_zero hc31 hc33), hw⟩
       exact ⟨hE34, 1, rfl, .inr ⟨k, hU, .inl ⟨rfl, now[j], _, (hwb _).1 (List.getElem_mem hj'), hc0, hc49⟩⟩⟩
      ·skip
       refine cw_skip (nrm_block (nrm_then ?_))
       refine cw_region ?_
       refine wl_m ?_
       refine wl_val rfl (ex_add_i64 rfl rfl (by omega) (by omega)) ?_
       refine wl_a ?_
       refine wl_nil (nrm_same ?_)
       refine ⟨j + 1, ?_, ⟨rfl, trivial⟩, ⟨rfl, rfl, rfl, rfl, rfl, rfl, rfl, trivial⟩, hE35, ?_⟩
       · omega
       ·skip
        refine ⟨by omega, fun i hi hij c hc => ?_⟩
        by_cases e : i < j
        · exact hno i hi e c hc
        · obtain rfl : i = j := by omega
          rw [hc0] at hc; cases hc; exact hc49
     ·skip
      refine cw_exit (ex_then (ex_then (ex_here (nrm_then ?_))))
      refine cw_seq ?_
      refine cw_region ?_
      refine wl_a ?_
      refine wl_nil (nrm_then ?_)
      refine cw_ret (ret_then (ret_block (ret_then (ret_block (body_ret1 rfl rfl ?_)))))
      have hU : Utf s k := ⟨Nat.le_antisymm (offs_le s k) (rAt_zero hc31 hc33), hw⟩
      refine ⟨hE29, 0, rfl, .inr ⟨k, hU, .inr ⟨rfl, ?_⟩⟩⟩
      rintro ⟨p, c, h1, h2, h3⟩
      obtain ⟨i, hi, rfl⟩ := List.getElem_of_mem ((hwb p).2 h1)
      exact hno i hi (by omega) c h2 h3
    ·skip
     obtain ⟨hi1, hi2, hi3, hi4⟩ := rAt_go hc31 hc33
     refine cw_skip (nrm_then ?_)
     refine cw_seq ?_
     refine cw_region ?_
     refine wl_bslice (vs := []) rfl Try.slice46 rfl rfl rfl rfl fun b38 w39 hO40 hs41 hw42 => ?_
     have hA43 := Apart.new (Lt.blk hB25) hs41
     have hA44 := Apart.new (Lt.own hO26) hs41
     have hG45 := Ge.new hE24 hs41
     have hE46 := hE24.then hw42
     have hB47 := hw42.blk0 hB25
     have hO48 := hO26.evo0 hw42
     refine wl_a ?_
     refine wl_nil (nrm_then ?_)
     refine cw_seq ?_
     refine cw_seq ?_
     refine cw_region ?_
     refine wl_a ?_
     refine wl_nil (nrm_then ?_)
     refine cw_block ?_
     refine cw_loop (α := EtG) (⟨0, [], 0, _, _, _⟩) (fun x => [(11, .int .i64 (x.j : Nat)), (5, .slice x.la x.ln x.lc)]) [(1, _), (2, _), (6, _), (7, _), (8, _), (9, _)] (fun x wr => Evo [] w wr ∧ (EtI w wr l s k now na nc no b2 #[.slice pa l.length pc, iv 0, pg, nm] x)) (fun x => now.length - x.j) ⟨rfl, rfl, trivial⟩ ⟨rfl, rfl, rfl, rfl, rfl, rfl, trivial⟩ ⟨hE46, ⟨Nat.zero_le _, fun q => ⟨fun h => (by cases h), fun ⟨i, hi, h, _⟩ => (by cases h)⟩, rfl, Nat.le_refl _, hO40, hO48, hG45, hB47, hA43, hA44⟩⟩ ?_
     rintro ⟨j, ls, ln, la, lc, lo⟩ wr49 ⟨hV50, ⟨hj, heat, hln2, hbd2, hol2, hnw, hgo2, hb22, hap2, ha22⟩⟩
     show CW _ _ _ _ [(11, .int .i64 (j : Nat)), (5, .slice la ln lc), (1, _), (2, _), (6, _), (7, _), (8, _), (9, _)] _
     try dsimp only at hj
     try dsimp only at heat
     try dsimp only at hln2
     try dsimp only at hbd2
     try dsimp only at hol2
     try dsimp only at hnw
     try dsimp only at hgo2
     try dsimp only at hb22
     try dsimp only at hap2
     try dsimp only at ha22
     refine cw_seq ?_
     refine cw_seq ?_
     refine cw_region ?_
     refine wl_m ?_
     refine wl_m ?_
     refine wl_val rfl (ex_len_slice rfl Try.underlying46 rfl) ?_
     refine wl_val rfl (ex_lss rfl rfl) ?_
     refine wl_nil (nrm_then ?_)
     refine cw_if rfl (fun hc54 => ?_) (fun hc54 => ?_)
     ·skip
      have hj' : j < now.length := by omega
      have hnj : now[j] < l.length := hnr _ (List.getElem_mem hj')
      obtain ⟨bP, oP, vsP, rfl, hbP, -, hcP, vr, rfl, hrr, hrl⟩ := e1 now[j] hnj
      obtain ⟨gN, rfl, hcN⟩ := own_ints hnw (by omega)
      have hc0 : l[now[j]]? = some l[now[j]] := List.getElem?_eq_getElem hnj
      have hone := hrr.one
      refine cw_skip (nrm_then ?_)
      refine cw_seq ?_
      refine cw_block ?_
      refine cw_seq ?_
      refine cw_any (fun w0 w' => Evo [] w0 w') (by kernel_rfl) (fun w51 hw52 => ?_)
      have hE53 := hV50.then hw52
      have hO54 := hol2.evo0 hw52
      have hB55 := hw52.blk0 hb22
      have hO56 := hnw.evo0 hw52
      refine ae_take 0 rfl (by kernel_rfl) (by kernel_rfl) (by kernel_rfl) rfl (fun _ hS => ex_fieldAddr rfl Try.fld29_0) (Evo.refl [] w51) ?_
      refine ae_take 1 rfl (by kernel_rfl) (by kernel_rfl) (by kernel_rfl) rfl (fun _ hS => ex_load1 rfl Try.agg26 (cell_nth (hS.blk0 hB55) rfl)) (Evo.refl [] w51) ?_
      refine ae_take 2 rfl (by kernel_rfl) (by kernel_rfl) (by kernel_rfl) rfl (fun _ hS => ex_move rfl) (Evo.refl [] w51) ?_
      refine ae_take 3 rfl (by kernel_rfl) (by kernel_rfl) (by kernel_rfl) rfl (fun _ hS => ex_move rfl) (Evo.refl [] w51) ?_
      refine ae_take 4 rfl (by kernel_rfl) (by kernel_rfl) (by kernel_rfl) rfl (fun _ hS => ex_indexAddr (n := j) rfl rfl Try.elem46 hj') (Evo.refl [] w51) ?_
      refine ae_take 5 rfl (by kernel_rfl) (by kernel_rfl) (by kernel_rfl) rfl (fun _ hS => ex_load1 rfl Try.agg3 ((own_ints_at (hO56.evo0 hS) rfl) j hj')) (Evo.refl [] w51) ?_
      refine ae_take 6 rfl (by kernel_rfl) (by kernel_rfl) (by kernel_rfl) rfl (fun _ hS => ex_indexAddr (n := now[j]) rfl rfl Try.elem26 hnj) (Evo.refl [] w51) ?_
      refine ae_take 7 rfl (by kernel_rfl) (by kernel_rfl) (by kernel_rfl) rfl (fun _ hS => ex_loadA rfl Try.agg44 Try.size44 (vs := [_, _, _, _, _]) rfl (hcP.evo (hE53.then hS) hbP)) (Evo.refl [] w51) ?_
      refine ae_loud [8] (by kernel_rfl) rfl ⟨?_, trivial⟩
      refine a_step rfl ?_
      refine wl_alloc rfl Try.zero44 fun b12 w57 hB58 hs59 hw60 => ?_
      have hsz_b12 := hs59
      have hA61 := Apart.new (Lt.own hO54) hs59
      have hA62 := Apart.new (Lt.blk hB55) hs59
      have hA63 := Apart.new (Lt.own hO56) hs59
      have hG64 := Ge.new hE53 hs59
      have hG65 := Ge.new (Evo.refl [] w51) hs59
      have hE66 := hE53.then hw60
      have hE67 := (Evo.refl [] w51).then hw60
      have hO68 := hO54.evo0 hw60
      have hB69 := hw60.blk0 hB55
      have hO70 := hO56.evo0 hw60
      refine wl_nil (ae_next (.inl hE67) ?_)
      refine ae_loud [9] (by kernel_rfl) rfl ⟨?_, trivial⟩
      refine a_step rfl ?_
      refine wl_storeBlk rfl rfl Try.size44 hB58 rfl rfl ⟨by first | rfl | assumption, by first | rfl | assumption, by first | rfl | assumption, by first | rfl | assumption, by first | rfl | assumption, trivial⟩ fun w71 hB72 hw73 => ?_
      have hE74 := hE66.step hw73 hG64.mem1
      have hE75 := hE67.step hw73 hG65.mem1
      have hO76 := hO68.evo hw73 hA61.own1
      have hB77 := hw73.blk hB69 hA62.nmem1
      have hO78 := hO70.evo hw73 hA63.own1
      try simp only [List.setIfInBounds_toArray, List.set_cons_zero, List.set_cons_succ, Nat.reduceAdd, Nat.zero_add, Nat.add_zero] at hB72
      refine wl_nil (ae_next (.inr (by kernel_rfl)) ?_)
      refine ae_done (by kernel_rfl) (nrm_then ?_)
      refine cw_seq ?_
      refine cw_seq ?_
      refine cw_region ?_
      refine wl_val rfl (ex_fieldAddr rfl Try.fld44_0) ?_
      refine wl_val rfl (ex_load1 rfl Try.agg3 (cell_nth hB72 rfl)) ?_
      refine wl_val rfl (ex_neq rfl rfl) ?_
      refine wl_nil (nrm_then ?_)
      refine cw_if rfl (fun hc67 => ?_) (fun hc67 => ?_)
      ·skip
       refine cw_exit (ex_then (ex_here (nrm_then ?_)))
       refine cw_region ?_
       refine wl_m ?_
       refine wl_val rfl (ex_add_i64 rfl rfl (by omega) (by omega)) ?_
       refine wl_a ?_
       refine wl_nil (nrm_same ?_)
       refine ⟨⟨j + 1, ls, ln, la, lc, lo⟩, ?_, ⟨rfl, rfl, trivial⟩, ⟨rfl, rfl, rfl, rfl, rfl, rfl, trivial⟩, hE74, ?_⟩
       · (try dsimp only); omega
       ·skip
        try dsimp only
        exact ⟨by show j + 1 ≤ now.length; omega, eat_skip heat hj' (fun q h => hc67 ((eat_at hc0).1 h).1), hln2, by show ln ≤ j + 1; omega, hO76, hO78, hgo2, hB77, hap2, ha22⟩
      ·skip
       obtain ⟨ra, rc, rfl, hrc, e2⟩ := hrr
       refine cw_skip (nrm_then ?_)
       refine cw_seq ?_
       refine cw_region ?_
       refine wl_a ?_
       refine wl_nil (nrm_then ?_)
       refine cw_block ?_
       refine cw_loop (α := Nat) (0) (fun r => [(13, .int .i64 (r : Nat)), (5, .slice la ln lc)]) [(1, _), (2, _), (6, _), (7, _), (8, _), (9, _), (11, _), (12, _)] (fun r wr => Evo [] w71 wr ∧ (r ≤ l[now[j]].rs.length ∧ ∀ i (h : i < l[now[j]].rs.length), i < r → ¬ (l[now[j]].rs[i].1 ≤ (runeAtR s (offs s k)).1 ∧ (runeAtR s (offs s k)).1 ≤ l[now[j]].rs[i].2))) (fun r => l[now[j]].rs.length - r) ⟨rfl, rfl, trivial⟩ ⟨rfl, rfl, rfl, rfl, rfl, rfl, rfl, rfl, trivial⟩ ⟨Evo.refl _ _, ⟨Nat.zero_le _, fun i _ h => by omega⟩⟩ ?_
       rintro r wr79 ⟨hV80, ⟨hr, hnr2⟩⟩
       show CW _ _ _ _ [(13, _), (5, _), (1, _), (2, _), (6, _), (7, _), (8, _), (9, _), (11, _), (12, _)] _
       have hE81 := hE74.then hV80
       have hO82 := hO76.evo0 hV80
       have hB83 := hV80.blk0 hB77
       have hO84 := hO78.evo0 hV80
       have hB85 := hV80.blk0 hB72
       refine cw_seq ?_
       refine cw_seq ?_
       refine cw_region ?_
       refine wl_m ?_
       refine wl_val rfl (ex_fieldAddr rfl Try.fld44_4) ?_
       refine wl_val rfl (ex_load1 rfl Try.agg22 (cell_nth hB85 rfl)) ?_
       refine wl_val rfl (ex_len_slice rfl Try.underlying22 rfl) ?_
       refine wl_val rfl (ex_lss rfl rfl) ?_
       refine wl_nil (nrm_then ?_)
       refine cw_if rfl (fun hc72 => ?_) (fun hc72 => ?_)
       ·skip
        have hr' : r < l[now[j]].rs.length := by omega
        obtain ⟨bR, oR, vsR, haR, hbR, -, hcR, rfl⟩ := e2 r hr'
        refine cw_skip (nrm_then ?_)
        refine cw_seq ?_
        refine cw_block ?_
        refine cw_seq ?_
        refine cw_region ?_
        refine wl_val rfl (ex_fieldAddr rfl Try.fld44_4) ?_
        refine wl_val rfl (ex_load1 rfl Try.agg22 (cell_nth hB85 rfl)) ?_
        refine wl_m ?_
        refine wl_val rfl (ex_indexAddr (n := r) (by rw [haR]; rfl) rfl Try.elem22 (by omega)) ?_
        refine wl_val rfl (ex_fieldAddr rfl Try.fld51_0) ?_
        refine wl_val rfl (ex_load1 rfl Try.agg21 ((hcR.evo hE81 (by simp)) 0 _ rfl)) ?_
        refine wl_m ?_
        refine wl_val rfl (ex_leq rfl rfl) ?_
        refine wl_m ?_
        refine wl_split (t := 83) rfl (fun hs83 => ?_) (fun hs83 => ?_)
        ·skip
         refine wl_g ?_
         refine wl_m ?_
         refine wl_g ?_
         refine wl_val rfl (ex_fieldAddr rfl Try.fld44_4) ?_
         refine wl_g ?_
         refine wl_val rfl (ex_load1 rfl Try.agg22 (cell_nth hB85 rfl)) ?_
         refine wl_g ?_
         refine wl_m ?_
         refine wl_g ?_
         refine wl_val rfl (ex_indexAddr (n := r) (by rw [haR]; rfl) rfl Try.elem22 (by omega)) ?_
         refine wl_g ?_
         refine wl_val rfl (ex_fieldAddr rfl Try.fld51_1) ?_
         refine wl_g ?_
         refine wl_val rfl (ex_load1 rfl Try.agg21 ((hcR.evo hE81 (by simp)) 1 _ rfl)) ?_
         refine wl_g ?_
         refine wl_val rfl (ex_leq rfl rfl) ?_
         refine wl_pt ?_
         refine wl_nil (nrm_then ?_)
         refine cw_if rfl (fun hc92 => ?_) (fun hc92 => ?_)
         ·skip
          refine cw_seq ?_
          refine cw_region ?_
          refine wl_m ?_
          refine wl_val rfl (ex_fieldAddr rfl Try.fld44_1) ?_
          refine wl_val rfl (ex_load1 rfl Try.agg3 (cell_nth hB85 rfl)) ?_
          refine wl_bslice (vs := [_]) rfl Try.slice46 rfl rfl rfl rfl fun b86 w87 hO88 hs89 hw90 => ?_
          have hA91 := Apart.new (Lt.own hO82) hs89
          have hA92 := Apart.new (Lt.blk hB83) hs89
          have hA93 := Apart.new (Lt.own hO84) hs89
          have hA94 := Apart.new (Lt.blk hB85) hs89
          have hG95 := Ge.new hE81 hs89
          have hG96 := Ge.new hV80 hs89
          have hE97 := hE81.then hw90
          have hE98 := hV80.then hw90
          have hO99 := hO82.evo0 hw90
          have hB100 := hw90.blk0 hB83
          have hO101 := hO84.evo0 hw90
          have hB102 := hw90.blk0 hB85
          have hszb := (hE97).size
          refine wl_append rfl rfl rfl rfl Try.app46_46 hO99 (Src.ofOwn hO88 ⟨by first | rfl | assumption, trivial⟩) (by omega) fun la2 lc2 w105 lo2 hLo2 hw108 hob109 => ?_
          have hA110 := hap2.app (Lt.blk hB100) hob109
          have hA111 := ha22.app (Lt.own hO101) hob109
          have hA112 := hA61.symm.app (Lt.blk hB102) hob109
          have hA113 := hA91.symm.app (Lt.own hO88) hob109
          have hG114 := hgo2.app hE97 hob109
          have hE115 := hE97.step hw108 hgo2.mem
          have hB117 := hw108.blk hB100 hap2.nmem
          have hO118 := hO101.evo hw108 ha22.own
          have hB119 := hw108.blk hB102 hA61.symm.nmem
          have hO120 := hO88.evo hw108 hA91.symm.own
          refine wl_a ?_
          refine wl_nil (nrm_then ?_)
          refine cw_exit (ex_past rfl (ex_then (ex_then (ex_here (nrm_block (nrm_then ?_))))))
          refine cw_region ?_
          refine wl_m ?_
          refine wl_val rfl (ex_add_i64 rfl rfl (by omega) (by omega)) ?_
          refine wl_a ?_
          refine wl_nil (nrm_same ?_)
          refine ⟨⟨j + 1, ls ++ [l[now[j]].out.toNat], ln + 1, la2, lc2, lo2⟩, ?_, ⟨rfl, rfl, trivial⟩, ⟨rfl, rfl, rfl, rfl, rfl, rfl, trivial⟩, hE115, ?_⟩
          · (try dsimp only); omega
          ·skip
           try dsimp only
           have hop : l[now[j]].op = 2 := by omega
           have hin : InR (nextR s (offs s k)).1 l[now[j]].rs := ⟨l[now[j]].rs[r], List.getElem_mem hr', by omega, by omega⟩
           have hout := (hR _ _ hc0).eat hop ⟨_, hin⟩
           have heq : ∀ q, EatB l s (offs s k) now[j] q ↔ q = l[now[j]].out.toNat := fun q => by rw [eat_at hc0]; constructor; (rintro ⟨-, h, -⟩; omega); (intro h; exact ⟨hop, by omega, hi2, hin⟩)
           have hL2' : OwnS w105 3 1 la2 (ln + 1) lc2 (ivs (ls ++ [l[now[j]].out.toNat])) lo2 := by have h := hLo2; rw [show ivs (ls ++ [l[now[j]].out.toNat]) = ivs ls ++ [iv l[now[j]].out] from ivs_snoc (by omega)]; exact h
           exact ⟨by show j + 1 ≤ now.length; omega, eat_more heat hj' heq, by show ln + 1 = (ls ++ [_]).length; rw [List.length_append, hln2]; rfl, by show ln + 1 ≤ j + 1; omega, hL2', hO118, hG114, hB117, hA110, hA111⟩
         ·skip
          refine cw_skip (nrm_block (nrm_then ?_))
          refine cw_region ?_
          refine wl_m ?_
          refine wl_val rfl (ex_add_i64 rfl rfl (by omega) (by omega)) ?_
          refine wl_a ?_
          refine wl_nil (nrm_same ?_)
          refine ⟨r + 1, ?_, ⟨rfl, rfl, trivial⟩, ⟨rfl, rfl, rfl, rfl, rfl, rfl, rfl, rfl, trivial⟩, hV80, ?_⟩
          · omega
          ·skip
           refine ⟨by omega, fun i hi hir hh => ?_⟩
           by_cases e : i < r
           · exact hnr2 i hi e hh
           · obtain rfl : i = r := by omega
             omega
        ·skip
         refine wl_n ?_
         refine wl_n ?_
         refine wl_n ?_
         refine wl_n ?_
         refine wl_n ?_
         refine wl_n ?_
         refine wl_n ?_
         refine wl_n ?_
         refine wl_pf ?_
         refine wl_nil (nrm_then ?_)
         refine cw_false rfl ?_
         refine cw_skip (nrm_block (nrm_then ?_))
         refine cw_region ?_
         refine wl_m ?_
         refine wl_val rfl (ex_add_i64 rfl rfl (by omega) (by omega)) ?_
         refine wl_a ?_
         refine wl_nil (nrm_same ?_)
         refine ⟨r + 1, ?_, ⟨rfl, rfl, trivial⟩, ⟨rfl, rfl, rfl, rfl, rfl, rfl, rfl, rfl, trivial⟩, hV80, ?_⟩
         · omega
         ·skip
          refine ⟨by omega, fun i hi hir hh => ?_⟩
          by_cases e : i < r
          · exact hnr2 i hi e hh
          · obtain rfl : i = r := by omega
            omega
       ·skip
        refine cw_exit (ex_then (ex_then (ex_here (nrm_block (nrm_then ?_)))))
        refine cw_region ?_
        refine wl_m ?_
        refine wl_val rfl (ex_add_i64 rfl rfl (by omega) (by omega)) ?_
        refine wl_a ?_
        refine wl_nil (nrm_same ?_)
        refine ⟨⟨j + 1, ls, ln, la, lc, lo⟩, ?_, ⟨rfl, rfl, trivial⟩, ⟨rfl, rfl, rfl, rfl, rfl, rfl, trivial⟩, hE81, ?_⟩
        · (try dsimp only); omega
        ·skip
         try dsimp only
         have hno : ¬ InR (nextR s (offs s k)).1 l[now[j]].rs := not_inR (fun i hi => by rw [← hi3]; exact hnr2 i hi (by omega))
         exact ⟨by show j + 1 ≤ now.length; omega, eat_skip heat hj' (fun q h => hno ((eat_at hc0).1 h).2.2.2), hln2, by show ln ≤ j + 1; omega, hO82, hO84, hgo2, hB83, hap2, ha22⟩
     ·skip
      refine cw_exit (ex_then (ex_then (ex_here (nrm_then ?_))))
      refine cw_region ?_
      refine wl_m ?_
      refine wl_m ?_
      refine wl_val rfl (ex_add_i64 rfl rfl (by have := next_byte hi2; omega) (by have := next_byte hi2; omega)) ?_
      rw [show ((offs s k : Nat) : Int) + (runeAtR s (offs s k)).2 = ((offs s (k + 1) : Nat) : Int) from by rw [hi4]; rfl]
      refine wl_a ?_
      refine wl_nil (nrm_block (nrm_same ?_))
      refine ⟨⟨k + 1, ls, ln, la, lc, lo⟩, ?_, ⟨rfl, rfl, trivial⟩, ⟨rfl, rfl, trivial⟩, hV50, ?_⟩
      · (try dsimp only); rw [show offs s (k + 1) = offs s k + (nextR s (offs s k)).2 from rfl]; omega
      ·skip
       try dsimp only
       obtain rfl : j = now.length := by omega
       refine ⟨fun j hj => ?_, front_next hwb heat, fun q hq => ?_, hln2, by show ln ≤ 10000; omega, hol2, hgo2, hb22, hap2⟩
       · by_cases e : j < k
         · exact hw j e
         · obtain rfl : j = k := by have : j < k + 1 := hj; omega
           exact hi2
       · obtain ⟨i, hi, -, he⟩ := (heat q).1 hq
         have hni := hnr _ (List.getElem_mem hi)
         have h2 := (eat_at (List.getElem?_eq_getElem hni)).1 he
         have h3 := (hR _ _ (List.getElem?_eq_getElem hni)).eat h2.1 ⟨_, h2.2.2.2⟩
         omega

end Go.Proofs.Ytgboffefbpligaa
