/- The reference's sheet: reckon. -/
import Derived.Test.YtgboffefbpligaaTv
namespace Go.Proofs.Ytgboffefbpligaa
open Go.Proofs
open Go.W Go.RowKit
attribute [local irreducible] Decidable.decide
set_option linter.unusedSimpArgs false
set_option linter.unusedVariables false
theorem Try.fld89_0 : fieldB Try.prog 89 0 = some 0 := by kernel_rfl
theorem Try.goes61 : Goes Try.prog 61 := ⟨_, Try.func61, by kernel_rfl, by kernel_rfl⟩
theorem Try.goes64 : Goes Try.prog 64 := ⟨_, Try.func64, by kernel_rfl, by kernel_rfl⟩
theorem Try.goes65 : Goes Try.prog 65 := ⟨_, Try.func65, by kernel_rfl, by kernel_rfl⟩


theorem rsl_nat {X : List Nat} {w : World} {v : Value} {l : List Nat} (h : RSl 1 RNatV X w v l) : ∃ a c, v = .slice a l.length c ∧ ∀ k (hk : k < l.length), ∃ b o, a = some ⟨b, o, none⟩ ∧ b ∉ X ∧ w.cell? ⟨b, o + k * 1, none⟩ = some (iv (l[k] : Nat)) := by
  obtain ⟨a, c, hv, hc, h1⟩ := h
  refine ⟨a, c, hv, fun k hk => ?_⟩
  obtain ⟨b, o, vs, ha, hb, hl, hcs, hr⟩ := h1 k hk
  refine ⟨b, o, ha, hb, hcs 0 _ ?_⟩
  rw [show vs = [iv (l[k] : Nat)] from hr]; rfl
section
variable {rs : List Int} {x : Rx} {i j : Nat}
theorem mt_k1 (h : x.kind = 1) : Mt rs x i j ↔ i = j := by rw [mt_eq]; simp [h]
theorem mt_k2 (h : x.kind = 2) : Mt rs x i j ↔ j = i + 1 ∧ rs[i]? = some x.r := by rw [mt_eq]; simp [h]
theorem mt_k3 (h : x.kind = 3) : Mt rs x i j ↔ j = i + 1 ∧ ∃ c, rs[i]? = some c ∧ InR c x.ranges := by rw [mt_eq]; simp [h]
theorem mt_k4 (h : x.kind = 4) : Mt rs x i j ↔ Mts rs x.kids i j := by rw [mt_eq]; simp [h]
theorem mt_k5 (h : x.kind = 5) : Mt rs x i j ↔ MtA rs x.kids i j := by rw [mt_eq]; simp [h]
theorem mt_k6 (h : x.kind = 6) : Mt rs x i j ↔ ∃ c, x.min.toNat ≤ c ∧ (x.max = -1 ∨ c ≤ x.max.toNat) ∧ It (Mts rs x.kids) c i j := by rw [mt_eq]; simp [h]
theorem mt_k7 (h : x.kind = 7) : Mt rs x i j ↔ Mts rs x.kids i j := by rw [mt_eq]; simp [h]
theorem mt_pl (h : 8 ≤ x.kind) : Mt rs x i j ↔ i = j ∧ Plc rs x.kind i := by
  rw [mt_eq]
  have e : x.kind ≠ 1 ∧ x.kind ≠ 2 ∧ x.kind ≠ 3 ∧ x.kind ≠ 4 ∧ x.kind ≠ 5 ∧ x.kind ≠ 6 ∧ x.kind ≠ 7 := by omega
  simp [e.1, e.2.1, e.2.2.1, e.2.2.2.1, e.2.2.2.2.1, e.2.2.2.2.2.1, e.2.2.2.2.2.2, h]
theorem it_congr {R S : Nat → Nat → Prop} (h : ∀ a b, R a b ↔ S a b) (c : Nat) : ∀ i j, It R c i j ↔ It S c i j := by
  rw [show R = S from funext fun a => funext fun b => propext (h a b)]; exact fun _ _ => Iff.rfl
end
theorem mt_out {rs : List Int} {x : Rx} {i : Nat} (h : x.kind = 2 ∨ x.kind = 3) (hn : rs[i]? = none) (j : Nat) : ¬ Mt rs x i j := fun hm => by
  rcases h with e | e
  · rw [mt_k2 e, hn] at hm; cases hm.2
  · rw [mt_k3 e, hn] at hm; obtain ⟨-, c, hc, -⟩ := hm; cases hc
theorem mts_step {rs : List Int} {ks : List Rx} {i k : Nat} (hk : k < ks.length) (hi : i ≤ rs.length) (j : Nat) : Mts rs (ks.take (k + 1)) i j ↔ ∃ a, a ≤ rs.length ∧ Mts rs (ks.take k) i a ∧ Mt rs ks[k] a j := by
  rw [List.take_add_one, List.getElem?_eq_getElem hk, show (some ks[k]).toList = [ks[k]] from rfl, mts_snoc]
  exact ⟨fun ⟨a, h1, h2⟩ => ⟨a, mts_le rs _ i a h1 hi, h1, h2⟩, fun ⟨a, _, h1, h2⟩ => ⟨a, h1, h2⟩⟩
theorem mt_grp {rs : List Int} {x y : Rx} {i j : Nat} (h7 : x.kind = 7) (hk : x.kids = [y]) : Mt rs x i j ↔ Mt rs y i j := by rw [mt_k7 h7, hk, mts_one]
theorem mt_rep {rs : List Int} {x y : Rx} {i : Nat} (h6 : x.kind = 6) (hk : x.kids = [y]) (h0 : 0 ≤ x.min) (h3 : x.max = -1 ∨ (x.min ≤ x.max ∧ x.max ≤ 1000)) (j : Nat) : Mt rs x i j ↔ ∃ c, x.min.toNat ≤ c ∧ (x.max = -1 ∨ (c : Int) ≤ x.max) ∧ It (Mt rs y) c i j := by
  rw [mt_k6 h6, hk]
  constructor
  · rintro ⟨c, h1, h2, h4⟩; exact ⟨c, h1, by omega, (it_congr (fun a b => mts_one) c i j).1 h4⟩
  · rintro ⟨c, h1, h2, h4⟩; exact ⟨c, h1, by omega, (it_congr (fun a b => mts_one) c i j).2 h4⟩
theorem times_okZ {H : Sheet} {id : Nat} {x : Rx} (hF : FromSpec Try.prog H id x) {w : World} {E : List Nat} {v : Value} {i least : Nat} {z most : Int} (hz : z = (least : Nat)) (hH : Sh2 H w E) (hi : i ≤ H.rs.length) (hl : least ≤ 1000) (hm : most = -1 ∨ ((least : Int) ≤ most ∧ most ≤ 1000)) (hv : RSl 1 RBool (SB H.nds ++ E) w v (bl (H.rs.length + 1) (It (Mt H.rs x) 0 i))) :
    Calls Try.prog 64 #[.pointer (some ⟨H.hb, 0, none⟩), iv (id : Nat), iv z, iv most, v] w (Ret fun r w' => Evo (SB H.nds) w w' ∧ Sh2 H w' E ∧ NewBl w w' (H.rs.length + 1) (fun j => ∃ c, least ≤ c ∧ (most = -1 ∨ (c : Int) ≤ most) ∧ It (Mt H.rs x) c i j) r) := by
  subst hz; exact times_ok hF hH hi hl hm hv
structure RcG where
  k : Nat
  oa : Option Addr
  oc : Nat
  oo : Option Nat
structure RcI (H : Sheet) (w wr : World) (E : List Nat) (ks : List Rx) (i : Nat) (x : RcG) : Prop where
  le : x.k ≤ ks.length
  sh : Sh2 H wr E
  own : OwnS wr 4 1 x.oa (H.rs.length + 1) x.oc (bvs (bl (H.rs.length + 1) (Mts H.rs (ks.take x.k) i))) x.oo
  ge : Ge w x.oo
structure RaI (H : Sheet) (wr : World) (E : List Nat) (ks : List Rx) (i bo k : Nat) : Prop where
  le : k ≤ ks.length
  sh : Sh2 H wr ([bo] ++ E)
  own : OwnS wr 4 1 (some ⟨bo, 0, none⟩) (H.rs.length + 1) (H.rs.length + 1) (bvs (bl (H.rs.length + 1) (MtA H.rs (ks.take k) i))) (some bo)

set_option maxHeartbeats 8000000 in
theorem reckon_of {H : Sheet} {id : Nat} {x : Rx} (hid : id < H.nds.length) (hx : H.nds[id].x = x) (hg : Good x) (hlen : H.nds[id].ks.length = x.kids.length) (hK : ∀ j (h : j < H.nds[id].ks.length) (h' : j < x.kids.length), FromSpec Try.prog H H.nds[id].ks[j] x.kids[j]) : RckSpec Try.prog H id x := by
  intro w E i hH hi
  have hsml := hH.small
  obtain ⟨gN, hgN, haN, hcN⟩ := hH.node hid
  have h9 := hH.nine _ (List.getElem_mem hid)
  have hnd := hH.nd _ (List.getElem_mem hid)
  obtain ⟨d, hrx⟩ := hnd.rx
  rw [hx] at hrx
  obtain ⟨m, xa, xc, ka, kc, -, hvx, hrg, -, bl1, bl2, bl3⟩ := hrx.get
  have hcx : CellsAt w gN (0 + id * 11 + 0) [iv x.kind, .int .i32 x.r, .slice xa x.ranges.length xc, iv x.min, iv x.max, .bool x.lazy, iv x.cap, .string x.name, .slice ka x.kids.length kc] := fun j v hv => hcN j v (by
    have hj : j < 9 := (List.getElem?_eq_some_iff.1 hv).1
    rw [nd_rx h9 hj, hvx]; exact hv)
  obtain ⟨ia, ic, hvk, hkids⟩ := rsl_nat hnd.ks
  have hn := (nodeP_iff x).1 hg.node
  refine calls_of_cw (N := 160) Try.func43 rfl rfl rfl ?_
  refine cw_seq ?_
  refine cw_region ?_
  refine wl_a ?_
  refine wl_nil (nrm_then ?_)
  refine cw_seq ?_
  refine cw_any (fun w0 w' => Evo [] w0 w') (by kernel_rfl) (fun w1 hw2 => ?_)
  have hE3 := (Evo.refl (SB H.nds) w).then hw2
  have hE4 := (Evo.refl [] w).then hw2
  have hB5 := hw2.blk0 hH.blk
  refine ae_take 0 rfl (by kernel_rfl) (by kernel_rfl) (by kernel_rfl) rfl (fun _ hS => ex_move rfl) (Evo.refl [] w1) ?_
  refine ae_take 1 rfl (by kernel_rfl) (by kernel_rfl) (by kernel_rfl) rfl (fun _ hS => ex_nilCheck rfl) (Evo.refl [] w1) ?_
  refine ae_take 2 rfl (by kernel_rfl) (by kernel_rfl) (by kernel_rfl) rfl (fun _ hS => ex_fieldAddr rfl Try.fld64_0) (Evo.refl [] w1) ?_
  refine ae_take 3 rfl (by kernel_rfl) (by kernel_rfl) (by kernel_rfl) rfl (fun _ hS => ex_load1 rfl Try.agg62 (cell_nth (hS.blk0 hB5) rfl)) (Evo.refl [] w1) ?_
  refine ae_take 4 rfl (by kernel_rfl) (by kernel_rfl) (by kernel_rfl) rfl (fun _ hS => ex_move rfl) (Evo.refl [] w1) ?_
  refine ae_take 5 rfl (by kernel_rfl) (by kernel_rfl) (by kernel_rfl) rfl (fun _ hS => ex_indexAddrA (n := id) rfl rfl haN Try.elem62 hid) (Evo.refl [] w1) ?_
  refine ae_take 6 rfl (by kernel_rfl) (by kernel_rfl) (by kernel_rfl) rfl (fun _ hS => ex_fieldAddr rfl Try.fld89_0) (Evo.refl [] w1) ?_
  refine ae_take 7 rfl (by kernel_rfl) (by kernel_rfl) (by kernel_rfl) rfl (fun _ hS => ex_loadA rfl Try.agg25 Try.size25 (vs := [_, _, _, _, _, _, _, _, _]) rfl (hcx.evo (hE3.then hS) (hH.obn hgN))) (Evo.refl [] w1) ?_
  refine ae_take 8 rfl (by kernel_rfl) (by kernel_rfl) (by kernel_rfl) rfl (fun _ hS => ex_move rfl) (Evo.refl [] w1) ?_
  refine ae_take 9 rfl (by kernel_rfl) (by kernel_rfl) (by kernel_rfl) rfl (fun _ hS => ex_nilCheck rfl) (Evo.refl [] w1) ?_
  refine ae_take 10 rfl (by kernel_rfl) (by kernel_rfl) (by kernel_rfl) rfl (fun _ hS => ex_fieldAddr rfl Try.fld64_0) (Evo.refl [] w1) ?_
  refine ae_take 11 rfl (by kernel_rfl) (by kernel_rfl) (by kernel_rfl) rfl (fun _ hS => ex_load1 rfl Try.agg62 (cell_nth (hS.blk0 hB5) rfl)) (Evo.refl [] w1) ?_
  refine ae_take 12 rfl (by kernel_rfl) (by kernel_rfl) (by kernel_rfl) rfl (fun _ hS => ex_move rfl) (Evo.refl [] w1) ?_
  refine ae_take 13 rfl (by kernel_rfl) (by kernel_rfl) (by kernel_rfl) rfl (fun _ hS => ex_indexAddrA (n := id) rfl rfl haN Try.elem62 hid) (Evo.refl [] w1) ?_
  refine ae_take 14 rfl (by kernel_rfl) (by kernel_rfl) (by kernel_rfl) rfl (fun _ hS => ex_fieldAddr rfl Try.fld89_1) (Evo.refl [] w1) ?_
  refine ae_take 15 rfl (by kernel_rfl) (by kernel_rfl) (by kernel_rfl) rfl (fun _ hS => ex_load1 rfl Try.agg46 (((hE3.then hS)).cell (hcN 9 _ (by rw [nd_kids h9, hvk])) (hH.obn hgN))) (Evo.refl [] w1) ?_
  refine ae_loud [16] (by kernel_rfl) rfl ⟨?_, trivial⟩
  refine a_step rfl ?_
  refine wl_alloc rfl Try.zero25 fun b7 w6 hB7 hs8 hw9 => ?_
  have hsz_b7 := hs8
  have hA10 := Apart.new (Lt.blk hB5) hs8
  have hG11 := Ge.new hE3 hs8
  have hG12 := Ge.new hE4 hs8
  have hG13 := Ge.new (Evo.refl [] w1) hs8
  have hE14 := hE3.then hw9
  have hE15 := hE4.then hw9
  have hE16 := (Evo.refl [] w1).then hw9
  have hB17 := hw9.blk0 hB5
  refine wl_nil (ae_next (.inl hE16) ?_)
  refine ae_loud [17] (by kernel_rfl) rfl ⟨?_, trivial⟩
  refine a_step rfl ?_
  refine wl_storeBlk rfl rfl Try.size25 hB7 rfl rfl ⟨by first | rfl | assumption, by first | rfl | assumption, by first | rfl | assumption, by first | rfl | assumption, by first | rfl | assumption, by first | rfl | assumption, by first | rfl | assumption, by first | rfl | assumption, by first | rfl | assumption, trivial⟩ fun w18 hB19 hw20 => ?_
  have hE21 := hE14.step hw20 hG11.mem1
  have hE22 := hE15.step hw20 hG12.mem1
  have hE23 := hE16.step hw20 hG13.mem1
  have hB24 := hw20.blk hB17 hA10.nmem1
  try simp only [List.setIfInBounds_toArray, List.set_cons_zero, List.set_cons_succ, Nat.reduceAdd, Nat.zero_add, Nat.add_zero] at hB19
  refine wl_nil (ae_next (.inl hE23) ?_)
  refine ae_take 18 rfl (by kernel_rfl) (by kernel_rfl) (by kernel_rfl) rfl (fun _ hS => ex_assign rfl) hE23 ?_
  refine ae_done (by kernel_rfl) (nrm_then ?_)
  refine cw_seq ?_
  refine cw_region ?_
  refine wl_m ?_
  refine wl_val rfl (ex_nilCheck rfl) ?_
  refine wl_val rfl (ex_fieldAddr rfl Try.fld64_1) ?_
  refine wl_val rfl (ex_load1 rfl Try.agg58 (cell_nth hB24 rfl)) ?_
  refine wl_val rfl (ex_len_slice rfl Try.underlying58 rfl) ?_
  refine wl_val rfl (ex_add_i64 rfl rfl (by omega) (by omega)) ?_
  refine wl_make (len := H.rs.length + 1) (c := H.rs.length + 1) rfl rfl rfl Try.make65 (by rfl) (by rfl) (by omega) (by decide) (by omega) (by omega) fun bo w26 hS0 hs28 hw29 => ?_
  have hA30 := Apart.new (Lt.blk hB24) hs28
  have hA31 := Apart.new (Lt.blk hB19) hs28
  have hG32 := Ge.new hE21 hs28
  have hG33 := Ge.new hE22 hs28
  have hE34 := hE21.then hw29
  have hE35 := hE22.then hw29
  have hB36 := hw29.blk0 hB24
  have hB37 := hw29.blk0 hB19
  rw [bvs_zero] at hS0
  have hgbo := hG32
  refine wl_a ?_
  refine wl_nil (nrm_then ?_)
  refine cw_seq ?_
  refine cw_seq ?_
  refine cw_region ?_
  refine wl_val rfl (ex_fieldAddr rfl Try.fld25_0) ?_
  refine wl_val rfl (ex_load1 rfl Try.agg3 (cell_nth hB37 rfl)) ?_
  refine wl_nil (nrm_then ?_)
  refine cw_block ?_
  refine cw_seq ?_
  refine cw_region ?_
  refine wl_val rfl (ex_eql rfl rfl) ?_
  refine wl_a ?_
  refine wl_nil (nrm_then ?_)
  refine cw_if rfl (fun hc48 => ?_) (fun hc48 => ?_)
  ·skip
   refine cw_region ?_
   refine wl_m ?_
   refine wl_m ?_
   refine wl_val rfl (ex_indexAddr (n := i) rfl rfl Try.elem65 (by omega)) ?_
   obtain ⟨g47, cur38, hg39, hx40, hcu41, hcs42, -⟩ := hS0.at (by omega)
   cases hx40
   refine wl_store1L rfl rfl (rfl) Try.size4 hcu41 (hS0.inb hcs42 (k := i) (j := 0) (by omega) (by omega) (by omega)) fun w43 hB44 hw45 => ?_
   replace hw45 := evo_ob hg39 hw45
   have hO46 := hS0.set' hg39 hcu41 hB44
   have hE48 := hE34.step hw45 hG32.mem
   have hE49 := hE35.step hw45 hG33.mem
   have hB50 := hw45.blk hB36 hA30.nmem
   have hB51 := hw45.blk hB37 hA31.nmem
   rw [show 0 + (i) * 1 = i from by omega, bvs_set (g := Mt H.rs x i) (by omega) (by rw [mt_k1 (by omega)]; simp) (fun j hj => by rw [mt_k1 (by omega)]; simp; exact fun h => hj h.symm)] at hO46
   refine wl_nil (nrm_block (nrm_then ?_))
   refine cw_seq ?_
   refine cw_region ?_
   refine wl_m ?_
   refine wl_a ?_
   refine wl_nil (nrm_then ?_)
   refine cw_ret (body_ret1 rfl rfl ?_)
   refine ⟨hE48, hH.evo0 hE49, _, _, _, rfl, hO46, hgbo⟩
  ·skip
   refine cw_seq ?_
   refine cw_seq ?_
   refine cw_region ?_
   refine wl_val rfl (ex_eql rfl rfl) ?_
   refine wl_a ?_
   refine wl_nil (nrm_then ?_)
   refine cw_if rfl (fun hc53 => ?_) (fun hc53 => ?_)
   ·skip
    refine cw_skip (nrm_then ?_)
    refine cw_if rfl (fun hc53 => ?_) (fun hc53 => ?_)
    ·skip
     refine cw_seq ?_
     refine cw_region ?_
     refine wl_m ?_
     refine wl_m ?_
     refine wl_val rfl (ex_nilCheck rfl) ?_
     refine wl_val rfl (ex_fieldAddr rfl Try.fld64_1) ?_
     refine wl_val rfl (ex_load1 rfl Try.agg58 (cell_nth hB36 rfl)) ?_
     refine wl_val rfl (ex_len_slice rfl Try.underlying58 rfl) ?_
     refine wl_val rfl (ex_lss rfl rfl) ?_
     refine wl_nil (nrm_then ?_)
     refine cw_if rfl (fun hc62 => ?_) (fun hc62 => ?_)
     ·skip
      have hiN : i < H.rs.length := by omega
      have hiN1 : i + 1 < H.rs.length + 1 := by omega
      have hz1 : (i : Int) + 1 = ((i + 1 : Nat) : Int) := by omega
      have hrsi : H.rs[i]? = some H.rs[i] := List.getElem?_eq_getElem hiN
      obtain ⟨gR, hgR, haR, hcR⟩ := own_i32 hH.run (by omega)
      have hgRn : gR ∉ SB H.nds := fun hm => (hH.clr _ (in_sbe hm)).2.2 gR hgR rfl
      have hk2 : x.kind = 2 := by omega
      refine cw_any (fun w0 w' => Evo [] w0 w') (by kernel_rfl) (fun w52 hw53 => ?_)
      have hE54 := hE34.then hw53
      have hE55 := hE35.then hw53
      have hB56 := hw53.blk0 hB36
      have hB57 := hw53.blk0 hB37
      have hO58 := hS0.evo0 hw53
      refine ae_take 0 rfl (by kernel_rfl) (by kernel_rfl) (by kernel_rfl) rfl (fun _ hS => ex_move rfl) (Evo.refl [] w52) ?_
      refine ae_take 1 rfl (by kernel_rfl) (by kernel_rfl) (by kernel_rfl) rfl (fun _ hS => ex_move rfl) (Evo.refl [] w52) ?_
      refine ae_take 2 rfl (by kernel_rfl) (by kernel_rfl) (by kernel_rfl) rfl (fun _ hS => ex_add_i64 rfl rfl (by omega) (by omega)) (Evo.refl [] w52) ?_
      refine ae_take 3 rfl (by kernel_rfl) (by kernel_rfl) (by kernel_rfl) rfl (fun _ hS => ex_fieldAddr rfl Try.fld25_0) (Evo.refl [] w52) ?_
      refine ae_take 4 rfl (by kernel_rfl) (by kernel_rfl) (by kernel_rfl) rfl (fun _ hS => ex_load1 rfl Try.agg3 (cell_nth (hS.blk0 hB57) rfl)) (Evo.refl [] w52) ?_
      refine ae_take 5 rfl (by kernel_rfl) (by kernel_rfl) (by kernel_rfl) rfl (fun _ hS => ex_eql rfl rfl) (Evo.refl [] w52) ?_
      refine ae_take 6 rfl (by kernel_rfl) (by kernel_rfl) (by kernel_rfl) rfl (fun _ hS => ex_move rfl) (Evo.refl [] w52) ?_
      refine ae_split (t := 69) rfl (fun hs69 => ?_) (fun hs69 => ?_)
      ·skip
       refine ae_takeG 7 rfl rfl rfl rfl rfl (by kernel_rfl) (by kernel_rfl) (by kernel_rfl) rfl (fun _ hS => ex_move rfl) (Evo.refl [] w52) ?_
       refine ae_takeG 8 rfl rfl rfl rfl rfl (by kernel_rfl) (by kernel_rfl) (by kernel_rfl) rfl (fun _ hS => ex_nilCheck rfl) (Evo.refl [] w52) ?_
       refine ae_takeG 9 rfl rfl rfl rfl rfl (by kernel_rfl) (by kernel_rfl) (by kernel_rfl) rfl (fun _ hS => ex_fieldAddr rfl Try.fld64_1) (Evo.refl [] w52) ?_
       refine ae_takeG 10 rfl rfl rfl rfl rfl (by kernel_rfl) (by kernel_rfl) (by kernel_rfl) rfl (fun _ hS => ex_load1 rfl Try.agg58 (cell_nth (hS.blk0 hB56) rfl)) (Evo.refl [] w52) ?_
       refine ae_takeG 11 rfl rfl rfl rfl rfl (by kernel_rfl) (by kernel_rfl) (by kernel_rfl) rfl (fun _ hS => ex_move rfl) (Evo.refl [] w52) ?_
       refine ae_takeG 12 rfl rfl rfl rfl rfl (by kernel_rfl) (by kernel_rfl) (by kernel_rfl) rfl (fun _ hS => ex_indexAddrA (n := i) rfl rfl haR Try.elem58 hiN) (Evo.refl [] w52) ?_
       refine ae_takeG 13 rfl rfl rfl rfl rfl (by kernel_rfl) (by kernel_rfl) (by kernel_rfl) rfl (fun _ hS => ex_load1 rfl Try.agg21 (((hE54.then hS)).cell (hcR i hiN) hgRn)) (Evo.refl [] w52) ?_
       refine ae_takeG 14 rfl rfl rfl rfl rfl (by kernel_rfl) (by kernel_rfl) (by kernel_rfl) rfl (fun _ hS => ex_fieldAddr rfl Try.fld25_1) (Evo.refl [] w52) ?_
       refine ae_takeG 15 rfl rfl rfl rfl rfl (by kernel_rfl) (by kernel_rfl) (by kernel_rfl) rfl (fun _ hS => ex_load1 rfl Try.agg21 (cell_nth (hS.blk0 hB57) rfl)) (Evo.refl [] w52) ?_
       refine ae_takeG 16 rfl rfl rfl rfl rfl (by kernel_rfl) (by kernel_rfl) (by kernel_rfl) rfl (fun _ hS => ex_eql rfl rfl) (Evo.refl [] w52) ?_
       refine ae_take 17 rfl (by kernel_rfl) (by kernel_rfl) (by kernel_rfl) rfl (fun _ hS => ex_pick_t rfl rfl) (Evo.refl [] w52) ?_
       refine ae_take 18 rfl (by kernel_rfl) (by kernel_rfl) (by kernel_rfl) rfl (fun _ hS => ex_move rfl) (Evo.refl [] w52) ?_
       refine ae_split (t := 81) rfl (fun hs81 => ?_) (fun hs81 => ?_)
       ·skip
        refine ae_takeN 19 rfl rfl rfl rfl rfl rfl (by kernel_rfl) (by kernel_rfl) (by kernel_rfl) rfl (Evo.refl [] w52) ?_
        refine ae_takeN 20 rfl rfl rfl rfl rfl rfl (by kernel_rfl) (by kernel_rfl) (by kernel_rfl) rfl (Evo.refl [] w52) ?_
        refine ae_takeN 21 rfl rfl rfl rfl rfl rfl (by kernel_rfl) (by kernel_rfl) (by kernel_rfl) rfl (Evo.refl [] w52) ?_
        refine ae_takeN 22 rfl rfl rfl rfl rfl rfl (by kernel_rfl) (by kernel_rfl) (by kernel_rfl) rfl (Evo.refl [] w52) ?_
        refine ae_takeU 23 rfl rfl rfl rfl rfl (by kernel_rfl) (by kernel_rfl) (by kernel_rfl) rfl (Evo.refl [] w52) ?_
        refine ae_takeU 24 rfl rfl rfl rfl rfl (by kernel_rfl) (by kernel_rfl) (by kernel_rfl) rfl (Evo.refl [] w52) ?_
        refine ae_takeU 25 rfl rfl rfl rfl rfl (by kernel_rfl) (by kernel_rfl) (by kernel_rfl) rfl (Evo.refl [] w52) ?_
        refine ae_takeU 26 rfl rfl rfl rfl rfl (by kernel_rfl) (by kernel_rfl) (by kernel_rfl) rfl (Evo.refl [] w52) ?_
        refine ae_takeU 27 rfl rfl rfl rfl rfl (by kernel_rfl) (by kernel_rfl) (by kernel_rfl) rfl (Evo.refl [] w52) ?_
        refine ae_takeU 28 rfl rfl rfl rfl rfl (by kernel_rfl) (by kernel_rfl) (by kernel_rfl) rfl (Evo.refl [] w52) ?_
        refine ae_takeU 29 rfl rfl rfl rfl rfl (by kernel_rfl) (by kernel_rfl) (by kernel_rfl) rfl (Evo.refl [] w52) ?_
        refine ae_takeU 30 rfl rfl rfl rfl rfl (by kernel_rfl) (by kernel_rfl) (by kernel_rfl) rfl (Evo.refl [] w52) ?_
        refine ae_takeU 31 rfl rfl rfl rfl rfl (by kernel_rfl) (by kernel_rfl) (by kernel_rfl) rfl (Evo.refl [] w52) ?_
        refine ae_loud [32] (by kernel_rfl) rfl ⟨?_, trivial⟩
        refine a_step rfl ?_
        refine wl_u ?_
        refine wl_nil (ae_next (.inl (Evo.refl [] w52)) ?_)
        refine ae_takeN 33 rfl rfl rfl rfl rfl rfl (by kernel_rfl) (by kernel_rfl) (by kernel_rfl) rfl (Evo.refl [] w52) ?_
        refine ae_take 34 rfl (by kernel_rfl) (by kernel_rfl) (by kernel_rfl) rfl (fun _ hS => ex_pick_t rfl rfl) (Evo.refl [] w52) ?_
        refine ae_take 35 rfl (by kernel_rfl) (by kernel_rfl) (by kernel_rfl) rfl (fun _ hS => ex_indexAddrZ (n := i + 1) rfl rfl hz1 Try.elem65 hiN1) (Evo.refl [] w52) ?_
        refine ae_loud [36] (by kernel_rfl) rfl ⟨?_, trivial⟩
        refine a_step rfl ?_
        obtain ⟨g68, cur59, hg60, hx61, hcu62, hcs63, -⟩ := hO58.at (by omega)
        cases hx61
        refine wl_store1L rfl rfl (rfl) Try.size4 hcu62 (hO58.inb hcs63 (k := i + 1) (j := 0) (by omega) (by omega) (by omega)) fun w64 hB65 hw66 => ?_
        replace hw66 := evo_ob hg60 hw66
        have hO67 := hO58.set' hg60 hcu62 hB65
        have hE69 := hE54.step hw66 hG32.mem
        have hE70 := hE55.step hw66 hG33.mem
        have hB72 := hw66.blk hB56 hA30.nmem
        have hB73 := hw66.blk hB57 hA31.nmem
        rw [show 0 + (i + 1) * 1 = i + 1 from by omega, bvs_set (g := Mt H.rs x i) (by omega) (by rw [mt_k2 hk2, hrsi]; simp [hs81]) (fun j hj => by rw [mt_k2 hk2]; simp [hj])] at hO67
        refine wl_nil (ae_next (.inr (by kernel_rfl)) ?_)
        refine ae_done (by kernel_rfl) (nrm_block (nrm_then ?_))
        refine cw_seq ?_
        refine cw_region ?_
        refine wl_m ?_
        refine wl_a ?_
        refine wl_nil (nrm_then ?_)
        refine cw_ret (body_ret1 rfl rfl ?_)
        refine ⟨hE69, hH.evo0 hE70, _, _, _, rfl, hO67, hgbo⟩
       ·skip
        refine ae_takeG 19 rfl rfl rfl rfl rfl (by kernel_rfl) (by kernel_rfl) (by kernel_rfl) rfl (fun _ hS => ex_fieldAddr rfl Try.fld25_0) (Evo.refl [] w52) ?_
        refine ae_takeG 20 rfl rfl rfl rfl rfl (by kernel_rfl) (by kernel_rfl) (by kernel_rfl) rfl (fun _ hS => ex_load1 rfl Try.agg3 (cell_nth (hS.blk0 hB57) rfl)) (Evo.refl [] w52) ?_
        refine ae_takeG 21 rfl rfl rfl rfl rfl (by kernel_rfl) (by kernel_rfl) (by kernel_rfl) rfl (fun _ hS => ex_eql rfl rfl) (Evo.refl [] w52) ?_
        refine ae_takeG 22 rfl rfl rfl rfl rfl (by kernel_rfl) (by kernel_rfl) (by kernel_rfl) rfl (fun _ hS => ex_move rfl) (Evo.refl [] w52) ?_
        refine ae_split (t := 85) rfl (fun hs85 => ?_) (fun hs85 => ?_)
        ·skip
         exact absurd hs85 (by omega)
        ·skip
         refine ae_takeN 23 rfl rfl rfl rfl rfl rfl (by kernel_rfl) (by kernel_rfl) (by kernel_rfl) rfl (Evo.refl [] w52) ?_
         refine ae_takeN 24 rfl rfl rfl rfl rfl rfl (by kernel_rfl) (by kernel_rfl) (by kernel_rfl) rfl (Evo.refl [] w52) ?_
         refine ae_takeN 25 rfl rfl rfl rfl rfl rfl (by kernel_rfl) (by kernel_rfl) (by kernel_rfl) rfl (Evo.refl [] w52) ?_
         refine ae_takeN 26 rfl rfl rfl rfl rfl rfl (by kernel_rfl) (by kernel_rfl) (by kernel_rfl) rfl (Evo.refl [] w52) ?_
         refine ae_takeN 27 rfl rfl rfl rfl rfl rfl (by kernel_rfl) (by kernel_rfl) (by kernel_rfl) rfl (Evo.refl [] w52) ?_
         refine ae_takeN 28 rfl rfl rfl rfl rfl rfl (by kernel_rfl) (by kernel_rfl) (by kernel_rfl) rfl (Evo.refl [] w52) ?_
         refine ae_takeN 29 rfl rfl rfl rfl rfl rfl (by kernel_rfl) (by kernel_rfl) (by kernel_rfl) rfl (Evo.refl [] w52) ?_
         refine ae_takeN 30 rfl rfl rfl rfl rfl rfl (by kernel_rfl) (by kernel_rfl) (by kernel_rfl) rfl (Evo.refl [] w52) ?_
         refine ae_takeN 31 rfl rfl rfl rfl rfl rfl (by kernel_rfl) (by kernel_rfl) (by kernel_rfl) rfl (Evo.refl [] w52) ?_
         refine ae_loud [32] (by kernel_rfl) rfl ⟨?_, trivial⟩
         refine a_step rfl ?_
         refine wl_n ?_
         refine wl_nil (ae_next (.inl (Evo.refl [] w52)) ?_)
         refine ae_takeG 33 rfl rfl rfl rfl rfl (by kernel_rfl) (by kernel_rfl) (by kernel_rfl) rfl (fun _ hS => ex_pick_f rfl rfl) (Evo.refl [] w52) ?_
         refine ae_take 34 rfl (by kernel_rfl) (by kernel_rfl) (by kernel_rfl) rfl (fun _ hS => ex_pick_f rfl rfl) (Evo.refl [] w52) ?_
         refine ae_take 35 rfl (by kernel_rfl) (by kernel_rfl) (by kernel_rfl) rfl (fun _ hS => ex_indexAddrZ (n := i + 1) rfl rfl hz1 Try.elem65 hiN1) (Evo.refl [] w52) ?_
         refine ae_loud [36] (by kernel_rfl) rfl ⟨?_, trivial⟩
         refine a_step rfl ?_
         obtain ⟨g83, cur74, hg75, hx76, hcu77, hcs78, -⟩ := hO58.at (by omega)
         cases hx76
         refine wl_store1L rfl rfl (rfl) Try.size4 hcu77 (hO58.inb hcs78 (k := i + 1) (j := 0) (by omega) (by omega) (by omega)) fun w79 hB80 hw81 => ?_
         replace hw81 := evo_ob hg75 hw81
         have hO82 := hO58.set' hg75 hcu77 hB80
         have hE84 := hE54.step hw81 hG32.mem
         have hE85 := hE55.step hw81 hG33.mem
         have hB87 := hw81.blk hB56 hA30.nmem
         have hB88 := hw81.blk hB57 hA31.nmem
         rw [show 0 + (i + 1) * 1 = i + 1 from by omega, bvs_set (g := Mt H.rs x i) (by omega) (by rw [mt_k2 hk2, hrsi]; simp [hs81]) (fun j hj => by rw [mt_k2 hk2]; simp [hj])] at hO82
         refine wl_nil (ae_next (.inr (by kernel_rfl)) ?_)
         refine ae_done (by kernel_rfl) (nrm_block (nrm_then ?_))
         refine cw_seq ?_
         refine cw_region ?_
         refine wl_m ?_
         refine wl_a ?_
         refine wl_nil (nrm_then ?_)
         refine cw_ret (body_ret1 rfl rfl ?_)
         refine ⟨hE84, hH.evo0 hE85, _, _, _, rfl, hO82, hgbo⟩
      ·skip
       exact absurd hs69 (by omega)
     ·skip
      refine cw_skip (nrm_block (nrm_then ?_))
      refine cw_seq ?_
      refine cw_region ?_
      refine wl_m ?_
      refine wl_a ?_
      refine wl_nil (nrm_then ?_)
      refine cw_ret (body_ret1 rfl rfl ?_)
      have hrn : H.rs[i]? = none := List.getElem?_eq_none (by omega)
      refine ⟨hE34, hH.evo0 hE35, _, _, _, rfl, ?_, hgbo⟩
      have hmn := mt_out (x := x) (by omega) hrn
      rw [bl_congr (g := fun _ => False) (fun j _ => iff_of_false (hmn j) (fun h => h))]
      exact hS0
    ·skip
     exact (hc53 (by omega)).elim
   ·skip
    refine cw_region ?_
    refine wl_val rfl (ex_eql rfl rfl) ?_
    refine wl_a ?_
    refine wl_nil (nrm_then ?_)
    refine cw_if rfl (fun hc53 => ?_) (fun hc53 => ?_)
    ·skip
     refine cw_seq ?_
     refine cw_region ?_
     refine wl_m ?_
     refine wl_m ?_
     refine wl_val rfl (ex_nilCheck rfl) ?_
     refine wl_val rfl (ex_fieldAddr rfl Try.fld64_1) ?_
     refine wl_val rfl (ex_load1 rfl Try.agg58 (cell_nth hB36 rfl)) ?_
     refine wl_val rfl (ex_len_slice rfl Try.underlying58 rfl) ?_
     refine wl_val rfl (ex_lss rfl rfl) ?_
     refine wl_nil (nrm_then ?_)
     refine cw_if rfl (fun hc62 => ?_) (fun hc62 => ?_)
     ·skip
      have hiN : i < H.rs.length := by omega
      have hiN1 : i + 1 < H.rs.length + 1 := by omega
      have hz1 : (i : Int) + 1 = ((i + 1 : Nat) : Int) := by omega
      have hrsi : H.rs[i]? = some H.rs[i] := List.getElem?_eq_getElem hiN
      obtain ⟨gR, hgR, haR, hcR⟩ := own_i32 hH.run (by omega)
      have hgRn : gR ∉ SB H.nds := fun hm => (hH.clr _ (in_sbe hm)).2.2 gR hgR rfl
      have hk3 : x.kind = 3 := by omega
      refine cw_any (fun w0 w' => Evo [] w0 w') (by kernel_rfl) (fun w89 hw90 => ?_)
      have hE91 := hE34.then hw90
      have hE92 := hE35.then hw90
      have hB93 := hw90.blk0 hB36
      have hB94 := hw90.blk0 hB37
      have hO95 := hS0.evo0 hw90
      refine ae_take 0 rfl (by kernel_rfl) (by kernel_rfl) (by kernel_rfl) rfl (fun _ hS => ex_move rfl) (Evo.refl [] w89) ?_
      refine ae_take 1 rfl (by kernel_rfl) (by kernel_rfl) (by kernel_rfl) rfl (fun _ hS => ex_move rfl) (Evo.refl [] w89) ?_
      refine ae_take 2 rfl (by kernel_rfl) (by kernel_rfl) (by kernel_rfl) rfl (fun _ hS => ex_add_i64 rfl rfl (by omega) (by omega)) (Evo.refl [] w89) ?_
      refine ae_take 3 rfl (by kernel_rfl) (by kernel_rfl) (by kernel_rfl) rfl (fun _ hS => ex_fieldAddr rfl Try.fld25_0) (Evo.refl [] w89) ?_
      refine ae_take 4 rfl (by kernel_rfl) (by kernel_rfl) (by kernel_rfl) rfl (fun _ hS => ex_load1 rfl Try.agg3 (cell_nth (hS.blk0 hB94) rfl)) (Evo.refl [] w89) ?_
      refine ae_take 5 rfl (by kernel_rfl) (by kernel_rfl) (by kernel_rfl) rfl (fun _ hS => ex_eql rfl rfl) (Evo.refl [] w89) ?_
      refine ae_take 6 rfl (by kernel_rfl) (by kernel_rfl) (by kernel_rfl) rfl (fun _ hS => ex_move rfl) (Evo.refl [] w89) ?_
      refine ae_split (t := 69) rfl (fun hs69 => ?_) (fun hs69 => ?_)
      ·skip
       exact absurd hs69 (by omega)
      ·skip
       refine ae_takeN 7 rfl rfl rfl rfl rfl rfl (by kernel_rfl) (by kernel_rfl) (by kernel_rfl) rfl (Evo.refl [] w89) ?_
       refine ae_takeN 8 rfl rfl rfl rfl rfl rfl (by kernel_rfl) (by kernel_rfl) (by kernel_rfl) rfl (Evo.refl [] w89) ?_
       refine ae_takeN 9 rfl rfl rfl rfl rfl rfl (by kernel_rfl) (by kernel_rfl) (by kernel_rfl) rfl (Evo.refl [] w89) ?_
       refine ae_takeN 10 rfl rfl rfl rfl rfl rfl (by kernel_rfl) (by kernel_rfl) (by kernel_rfl) rfl (Evo.refl [] w89) ?_
       refine ae_takeN 11 rfl rfl rfl rfl rfl rfl (by kernel_rfl) (by kernel_rfl) (by kernel_rfl) rfl (Evo.refl [] w89) ?_
       refine ae_takeN 12 rfl rfl rfl rfl rfl rfl (by kernel_rfl) (by kernel_rfl) (by kernel_rfl) rfl (Evo.refl [] w89) ?_
       refine ae_takeN 13 rfl rfl rfl rfl rfl rfl (by kernel_rfl) (by kernel_rfl) (by kernel_rfl) rfl (Evo.refl [] w89) ?_
       refine ae_takeN 14 rfl rfl rfl rfl rfl rfl (by kernel_rfl) (by kernel_rfl) (by kernel_rfl) rfl (Evo.refl [] w89) ?_
       refine ae_takeN 15 rfl rfl rfl rfl rfl rfl (by kernel_rfl) (by kernel_rfl) (by kernel_rfl) rfl (Evo.refl [] w89) ?_
       refine ae_takeN 16 rfl rfl rfl rfl rfl rfl (by kernel_rfl) (by kernel_rfl) (by kernel_rfl) rfl (Evo.refl [] w89) ?_
       refine ae_take 17 rfl (by kernel_rfl) (by kernel_rfl) (by kernel_rfl) rfl (fun _ hS => ex_pick_f rfl rfl) (Evo.refl [] w89) ?_
       refine ae_take 18 rfl (by kernel_rfl) (by kernel_rfl) (by kernel_rfl) rfl (fun _ hS => ex_move rfl) (Evo.refl [] w89) ?_
       refine ae_takeG 19 rfl rfl rfl rfl rfl (by kernel_rfl) (by kernel_rfl) (by kernel_rfl) rfl (fun _ hS => ex_fieldAddr rfl Try.fld25_0) (Evo.refl [] w89) ?_
       refine ae_takeG 20 rfl rfl rfl rfl rfl (by kernel_rfl) (by kernel_rfl) (by kernel_rfl) rfl (fun _ hS => ex_load1 rfl Try.agg3 (cell_nth (hS.blk0 hB94) rfl)) (Evo.refl [] w89) ?_
       refine ae_takeG 21 rfl rfl rfl rfl rfl (by kernel_rfl) (by kernel_rfl) (by kernel_rfl) rfl (fun _ hS => ex_eql rfl rfl) (Evo.refl [] w89) ?_
       refine ae_takeG 22 rfl rfl rfl rfl rfl (by kernel_rfl) (by kernel_rfl) (by kernel_rfl) rfl (fun _ hS => ex_move rfl) (Evo.refl [] w89) ?_
       refine ae_split (t := 85) rfl (fun hs85 => ?_) (fun hs85 => ?_)
       ·skip
        refine ae_takeG 23 rfl rfl rfl rfl rfl (by kernel_rfl) (by kernel_rfl) (by kernel_rfl) rfl (fun _ hS => ex_move rfl) (Evo.refl [] w89) ?_
        refine ae_takeG 24 rfl rfl rfl rfl rfl (by kernel_rfl) (by kernel_rfl) (by kernel_rfl) rfl (fun _ hS => ex_nilCheck rfl) (Evo.refl [] w89) ?_
        refine ae_takeG 25 rfl rfl rfl rfl rfl (by kernel_rfl) (by kernel_rfl) (by kernel_rfl) rfl (fun _ hS => ex_fieldAddr rfl Try.fld64_1) (Evo.refl [] w89) ?_
        refine ae_takeG 26 rfl rfl rfl rfl rfl (by kernel_rfl) (by kernel_rfl) (by kernel_rfl) rfl (fun _ hS => ex_load1 rfl Try.agg58 (cell_nth (hS.blk0 hB93) rfl)) (Evo.refl [] w89) ?_
        refine ae_takeG 27 rfl rfl rfl rfl rfl (by kernel_rfl) (by kernel_rfl) (by kernel_rfl) rfl (fun _ hS => ex_move rfl) (Evo.refl [] w89) ?_
        refine ae_takeG 28 rfl rfl rfl rfl rfl (by kernel_rfl) (by kernel_rfl) (by kernel_rfl) rfl (fun _ hS => ex_indexAddrA (n := i) rfl rfl haR Try.elem58 hiN) (Evo.refl [] w89) ?_
        refine ae_takeG 29 rfl rfl rfl rfl rfl (by kernel_rfl) (by kernel_rfl) (by kernel_rfl) rfl (fun _ hS => ex_load1 rfl Try.agg21 (((hE91.then hS)).cell (hcR i hiN) hgRn)) (Evo.refl [] w89) ?_
        refine ae_takeG 30 rfl rfl rfl rfl rfl (by kernel_rfl) (by kernel_rfl) (by kernel_rfl) rfl (fun _ hS => ex_fieldAddr rfl Try.fld25_2) (Evo.refl [] w89) ?_
        refine ae_takeG 31 rfl rfl rfl rfl rfl (by kernel_rfl) (by kernel_rfl) (by kernel_rfl) rfl (fun _ hS => ex_load1 rfl Try.agg22 (cell_nth (hS.blk0 hB94) rfl)) (Evo.refl [] w89) ?_
        refine ae_loud [32] (by kernel_rfl) rfl ⟨?_, trivial⟩
        refine a_step rfl ?_
        refine wl_g ?_
        refine wl_call1 (vs := [_, _]) Try.goes61 rfl (in_ok H.rs[i] (RSl.evo RRg.pers ((hE91).mono (fun b hb => in_sbe hb)) hrg) bl1) rfl ?_
        rintro _ w96 ⟨bi, rfl, hbin, hw97⟩
        have hE98 := hE91.then hw97
        have hE99 := hE92.then hw97
        have hE100 := (Evo.refl [] w89).then hw97
        have hB101 := hw97.blk0 hB93
        have hB102 := hw97.blk0 hB94
        have hO103 := hO95.evo0 hw97
        refine wl_nil (ae_next (.inl hE100) ?_)
        refine ae_takeG 33 rfl rfl rfl rfl rfl (by kernel_rfl) (by kernel_rfl) (by kernel_rfl) rfl (fun _ hS => ex_pick_t rfl rfl) hE100 ?_
        refine ae_take 34 rfl (by kernel_rfl) (by kernel_rfl) (by kernel_rfl) rfl (fun _ hS => ex_pick_f rfl rfl) hE100 ?_
        refine ae_take 35 rfl (by kernel_rfl) (by kernel_rfl) (by kernel_rfl) rfl (fun _ hS => ex_indexAddrZ (n := i + 1) rfl rfl hz1 Try.elem65 hiN1) hE100 ?_
        refine ae_loud [36] (by kernel_rfl) rfl ⟨?_, trivial⟩
        refine a_step rfl ?_
        obtain ⟨g113, cur104, hg105, hx106, hcu107, hcs108, -⟩ := hO103.at (by omega)
        cases hx106
        refine wl_store1L rfl rfl (rfl) Try.size4 hcu107 (hO103.inb hcs108 (k := i + 1) (j := 0) (by omega) (by omega) (by omega)) fun w109 hB110 hw111 => ?_
        replace hw111 := evo_ob hg105 hw111
        have hO112 := hO103.set' hg105 hcu107 hB110
        have hE114 := hE98.step hw111 hG32.mem
        have hE115 := hE99.step hw111 hG33.mem
        have hB117 := hw111.blk hB101 hA30.nmem
        have hB118 := hw111.blk hB102 hA31.nmem
        rw [show 0 + (i + 1) * 1 = i + 1 from by omega, bvs_set (g := Mt H.rs x i) (by omega) (by rw [hbin, mt_k3 hk3, hrsi]; simp) (fun j hj => by rw [mt_k3 hk3]; simp [hj])] at hO112
        refine wl_nil (ae_next (.inr (by kernel_rfl)) ?_)
        refine ae_done (by kernel_rfl) (nrm_block (nrm_then ?_))
        refine cw_seq ?_
        refine cw_region ?_
        refine wl_m ?_
        refine wl_a ?_
        refine wl_nil (nrm_then ?_)
        refine cw_ret (body_ret1 rfl rfl ?_)
        refine ⟨hE114, hH.evo0 hE115, _, _, _, rfl, hO112, hgbo⟩
       ·skip
        exact absurd hs85 (by omega)
     ·skip
      refine cw_skip (nrm_block (nrm_then ?_))
      refine cw_seq ?_
      refine cw_region ?_
      refine wl_m ?_
      refine wl_a ?_
      refine wl_nil (nrm_then ?_)
      refine cw_ret (body_ret1 rfl rfl ?_)
      have hrn : H.rs[i]? = none := List.getElem?_eq_none (by omega)
      refine ⟨hE34, hH.evo0 hE35, _, _, _, rfl, ?_, hgbo⟩
      have hmn := mt_out (x := x) (by omega) hrn
      rw [bl_congr (g := fun _ => False) (fun j _ => iff_of_false (hmn j) (fun h => h))]
      exact hS0
    ·skip
     refine cw_seq ?_
     refine cw_region ?_
     refine wl_val rfl (ex_eql rfl rfl) ?_
     refine wl_a ?_
     refine wl_nil (nrm_then ?_)
     refine cw_if rfl (fun hc99 => ?_) (fun hc99 => ?_)
     ·skip
      refine cw_seq ?_
      refine cw_region ?_
      refine wl_m ?_
      refine wl_m ?_
      refine wl_val rfl (ex_indexAddr (n := i) rfl rfl Try.elem65 (by omega)) ?_
      obtain ⟨g128, cur119, hg120, hx121, hcu122, hcs123, -⟩ := hS0.at (by omega)
      cases hx121
      refine wl_store1L rfl rfl (rfl) Try.size4 hcu122 (hS0.inb hcs123 (k := i) (j := 0) (by omega) (by omega) (by omega)) fun w124 hB125 hw126 => ?_
      replace hw126 := evo_ob hg120 hw126
      have hO127 := hS0.set' hg120 hcu122 hB125
      have hE129 := hE34.step hw126 hG32.mem
      have hE130 := hE35.step hw126 hG33.mem
      have hB131 := hw126.blk hB36 hA30.nmem
      have hB132 := hw126.blk hB37 hA31.nmem
      rw [show 0 + (i) * 1 = i from by omega, bvs_set (g := fun j => j = i) (by omega) (by simp) (fun j hj => by simp [hj])] at hO127
      refine wl_nil (nrm_then ?_)
      refine cw_seq ?_
      refine cw_region ?_
      refine wl_a ?_
      refine wl_nil (nrm_then ?_)
      refine cw_block ?_
      refine cw_loop (α := RcG) (⟨0, _, _, _⟩) (fun y => [(10, .int .i64 (y.k : Nat)), (9, .slice y.oa (H.rs.length + 1) y.oc)]) [(0, _), (6, _), (8, _)] (fun y wr => Evo (SB H.nds) w wr ∧ (RcI H w wr E x.kids i y)) (fun y => x.kids.length - y.k) ⟨rfl, rfl, trivial⟩ ⟨rfl, rfl, rfl, trivial⟩ ⟨hE129, ⟨Nat.zero_le _, hH.evo0 hE130, by rw [bl_congr (g := fun j => j = i) (fun j _ => by rw [List.take_zero, Mts]; exact eq_comm)]; exact hO127, hG32⟩⟩ ?_
      rintro ⟨k, oa, oc, oo⟩ wr133 ⟨hV134, ⟨hk, hsh, hown, hgo⟩⟩
      show CW _ _ _ _ [(10, .int .i64 (k : Nat)), (9, .slice oa (H.rs.length + 1) oc), (0, _), (6, _), (8, _)] _
      try dsimp only at hk
      try dsimp only at hsh
      try dsimp only at hown
      try dsimp only at hgo
      refine cw_seq ?_
      refine cw_seq ?_
      refine cw_region ?_
      refine wl_m ?_
      refine wl_m ?_
      refine wl_val rfl (ex_len_slice rfl Try.underlying46 rfl) ?_
      refine wl_val rfl (ex_lss rfl rfl) ?_
      refine wl_nil (nrm_then ?_)
      refine cw_if rfl (fun hc107 => ?_) (fun hc107 => ?_)
      ·skip
       have hj' : k < x.kids.length := by omega
       have hjk : k < H.nds[id].ks.length := by omega
       obtain ⟨bK, oK, haK, hbK, hcK⟩ := hkids k hjk
       refine cw_skip (nrm_then ?_)
       refine cw_seq ?_
       refine cw_block ?_
       refine cw_region ?_
       refine wl_m ?_
       refine wl_m ?_
       refine wl_m ?_
       refine wl_val rfl (ex_indexAddrA (n := k) rfl rfl haK Try.elem46 (by omega)) ?_
       refine wl_val rfl (ex_load1 rfl Try.agg3 ((hV134).cell hcK (fun hm => hbK (List.mem_append_left _ hm)))) ?_
       refine wl_m ?_
       refine wl_call1 (vs := [_, _, _]) Try.goes62 rfl (all_ok (hK k hjk hj') hsh (own_rsl hown (bl_len _ _) (fun g hg hm => by have h1 := hgo g hg; have h2 := hH.sblt g hm; omega))) rfl ?_
       rintro rv w135 ⟨hw136, hS2, hnew⟩
       have hevb := hV134
       have hE137 := hV134.step hw136 (fun y hy => .inl hy)
       have hB138 := hw136.blk hsh.blk (hH.hbn)
       obtain ⟨ra2, rc2, ro2, rfl, hro, hrg2⟩ := hnew
       refine wl_a ?_
       refine wl_nil (nrm_block (nrm_then ?_))
       refine cw_region ?_
       refine wl_m ?_
       refine wl_val rfl (ex_add_i64 rfl rfl (by omega) (by omega)) ?_
       refine wl_a ?_
       refine wl_nil (nrm_same ?_)
       refine ⟨⟨k + 1, ra2, rc2, ro2⟩, ?_, ⟨rfl, rfl, trivial⟩, ⟨rfl, rfl, rfl, trivial⟩, hE137, ?_⟩
       · (try dsimp only); omega
       ·skip
        try dsimp only
        refine ⟨by show k + 1 ≤ _; omega, hS2, ?_, Ge.fresh hevb hrg2⟩
        show OwnS _ 4 1 ra2 _ rc2 (bvs (bl _ (Mts H.rs (x.kids.take (k + 1)) i))) ro2
        rw [bl_congr (fun j _ => mts_step hj' hi j)]
        exact hro
      ·skip
       refine cw_exit (ex_then (ex_then (ex_here (nrm_block (nrm_then ?_)))))
       refine cw_seq ?_
       refine cw_region ?_
       refine wl_m ?_
       refine wl_a ?_
       refine wl_nil (nrm_then ?_)
       refine cw_ret (body_ret1 rfl rfl ?_)
       have hkl : x.kids.take k = x.kids := List.take_of_length_le (by omega)
       refine ⟨hV134, hsh, _, _, _, rfl, ?_, hgo⟩
       rw [bl_congr (g := Mts H.rs (x.kids.take k) i) (fun j _ => by rw [hkl, mt_k4 (by omega)])]
       exact hown
     ·skip
      refine cw_seq ?_
      refine cw_region ?_
      refine wl_val rfl (ex_eql rfl rfl) ?_
      refine wl_a ?_
      refine wl_nil (nrm_then ?_)
      refine cw_if rfl (fun hc117 => ?_) (fun hc117 => ?_)
      ·skip
       refine cw_seq ?_
       refine cw_region ?_
       refine wl_a ?_
       refine wl_nil (nrm_then ?_)
       refine cw_block ?_
       refine cw_loop (α := Nat) (0) (fun k => [(11, .int .i64 (k : Nat))]) [(0, _), (2, _), (6, _), (8, _), (9, _)] (fun k wr => Evo (SB H.nds) w wr ∧ (RaI H wr E x.kids i bo k)) (fun k => x.kids.length - k) ⟨rfl, trivial⟩ ⟨rfl, rfl, rfl, rfl, rfl, trivial⟩ ⟨hE34, ⟨Nat.zero_le _, (hH.more hE35 (fun y hy => by rw [List.mem_singleton.1 hy]; exact ⟨hG32 bo rfl, Lt.own hS0 bo rfl⟩)), by rw [bl_congr (g := fun _ => False) (fun j _ => by rw [List.take_zero, MtA])]; exact hS0⟩⟩ ?_
       rintro k wr139 ⟨hV140, ⟨hk, hsh, hown⟩⟩
       show CW _ _ _ _ [(11, _), (0, _), (2, _), (6, _), (8, _), (9, _)] _
       have hAJbo : Apart (some H.hb) (some bo) := fun g h1 h2 => by cases h1; have h3 := hgbo bo rfl; have h4 := blk_lt hH.blk; cases h2; omega
       refine cw_seq ?_
       refine cw_seq ?_
       refine cw_region ?_
       refine wl_m ?_
       refine wl_m ?_
       refine wl_val rfl (ex_len_slice rfl Try.underlying46 rfl) ?_
       refine wl_val rfl (ex_lss rfl rfl) ?_
       refine wl_nil (nrm_then ?_)
       refine cw_if rfl (fun hc122 => ?_) (fun hc122 => ?_)
       ·skip
        have hj' : k < x.kids.length := by omega
        have hjk : k < H.nds[id].ks.length := by omega
        obtain ⟨bK, oK, haK, hbK, hcK⟩ := hkids k hjk
        refine cw_skip (nrm_then ?_)
        refine cw_seq ?_
        refine cw_block ?_
        refine cw_region ?_
        refine wl_m ?_
        refine wl_m ?_
        refine wl_m ?_
        refine wl_m ?_
        refine wl_val rfl (ex_indexAddrA (n := k) rfl rfl haK Try.elem46 (by omega)) ?_
        refine wl_val rfl (ex_load1 rfl Try.agg3 ((hV140).cell hcK (fun hm => hbK (List.mem_append_left _ hm)))) ?_
        refine wl_m ?_
        refine wl_call1 (vs := [_, _, _]) Try.goes25 rfl (hK k hjk hj' hsh hi) rfl ?_
        rintro rv w141 ⟨hw142, hS2, hr2⟩
        have hE143 := hV140.step hw142 (fun y hy => .inl hy)
        have hB144 := hw142.blk hsh.blk (hH.hbn)
        have hB145 := hown.evo hw142 (fun g hg hm => by cases hg; have h1 := hgbo bo rfl; have h2 := hH.sblt bo (List.mem_append_left _ hm); omega)
        refine wl_call1 (vs := [_, _]) Try.goes63 rfl (add_ok hB145 (RSl.sub hr2 (fun y hy => List.mem_append_right _ (List.mem_append_left _ (by simpa using hy)))) (by omega)) rfl ?_
        rintro _ w146 ⟨hw147, hO3, hbz⟩
        have hE148 := hE143.step hw147 (hgbo.mem)
        have hB149 := hw147.blk hB144 (hAJbo.nmem)
        have hS3 := hS2.evo hw147 (fun y hy => List.mem_append_left _ (by simpa using hy))
        refine wl_nil (nrm_block (nrm_then ?_))
        refine cw_region ?_
        refine wl_m ?_
        refine wl_val rfl (ex_add_i64 rfl rfl (by omega) (by omega)) ?_
        refine wl_a ?_
        refine wl_nil (nrm_same ?_)
        refine ⟨k + 1, ?_, ⟨rfl, trivial⟩, ⟨rfl, rfl, rfl, rfl, rfl, trivial⟩, hE148, ?_⟩
        · omega
        ·skip
         refine ⟨by omega, hS3, ?_⟩
         rw [bl_congr (g := fun j => MtA H.rs (x.kids.take k) i j ∨ Mt H.rs x.kids[k] i j) (fun j _ => by rw [List.take_add_one, List.getElem?_eq_getElem hj']; exact mta_snoc)]
         exact hO3
       ·skip
        refine cw_exit (ex_then (ex_then (ex_here (nrm_block (nrm_then ?_)))))
        refine cw_seq ?_
        refine cw_region ?_
        refine wl_m ?_
        refine wl_a ?_
        refine wl_nil (nrm_then ?_)
        refine cw_ret (body_ret1 rfl rfl ?_)
        have hkl : x.kids.take k = x.kids := List.take_of_length_le (by omega)
        refine ⟨hV140, hsh.less, _, _, _, rfl, ?_, hgbo⟩
        rw [bl_congr (g := MtA H.rs (x.kids.take k) i) (fun j _ => by rw [hkl, mt_k5 (by omega)])]
        exact hown
      ·skip
       refine cw_seq ?_
       refine cw_region ?_
       refine wl_val rfl (ex_eql rfl rfl) ?_
       refine wl_a ?_
       refine wl_nil (nrm_then ?_)
       refine cw_if rfl (fun hc134 => ?_) (fun hc134 => ?_)
       ·skip
        have hl1 : x.kids.length = 1 := by have := hn.grp (by omega); omega
        have hj' : 0 < x.kids.length := by omega
        have hjk : 0 < H.nds[id].ks.length := by omega
        obtain ⟨bK, oK, haK, hbK, hcK⟩ := hkids 0 hjk
        have hsh := (hH.more hE35 (fun y hy => by rw [List.mem_singleton.1 hy]; exact ⟨hG32 bo rfl, Lt.own hS0 bo rfl⟩))
        refine cw_region ?_
        refine wl_m ?_
        refine wl_m ?_
        refine wl_m ?_
        refine wl_val rfl (ex_indexAddrA (n := 0) rfl rfl haK Try.elem46 (by omega)) ?_
        refine wl_val rfl (ex_load1 rfl Try.agg3 ((hE34).cell hcK (fun hm => hbK (List.mem_append_left _ hm)))) ?_
        refine wl_m ?_
        refine wl_call1 (vs := [_, _, _]) Try.goes25 rfl (hK 0 hjk hj' hsh hi) rfl ?_
        rintro rv w150 ⟨hw151, hS2, hr2⟩
        have hE152 := hE34.step hw151 (fun y hy => .inl hy)
        have hB153 := hw151.blk hB36 (hH.hbn)
        have hB154 := hS0.evo hw151 (fun g hg hm => by cases hg; have h1 := hgbo bo rfl; have h2 := hH.sblt bo (List.mem_append_left _ hm); omega)
        refine wl_call1 (vs := [_, _]) Try.goes63 rfl (add_ok hB154 (RSl.sub hr2 (fun y hy => List.mem_append_right _ (List.mem_append_left _ (by simpa using hy)))) (by omega)) rfl ?_
        rintro _ w155 ⟨hw156, hO3, hbz⟩
        have hE157 := hE152.step hw156 (hgbo.mem)
        have hB158 := hw156.blk hB153 (hA30.nmem)
        have hS3 := hS2.evo hw156 (fun y hy => List.mem_append_left _ (by simpa using hy))
        refine wl_nil (nrm_block (nrm_then ?_))
        refine cw_seq ?_
        refine cw_region ?_
        refine wl_m ?_
        refine wl_a ?_
        refine wl_nil (nrm_then ?_)
        refine cw_ret (body_ret1 rfl rfl ?_)
        have hks := single_of hl1
        refine ⟨hE157, hS3.less, _, _, _, rfl, ?_, hgbo⟩
        rw [bl_congr (g := fun j => False ∨ Mt H.rs x.kids[0] i j) (fun j _ => by rw [mt_grp (by omega) hks]; simp)]
        exact hO3
       ·skip
        refine cw_seq ?_
        refine cw_region ?_
        refine wl_val rfl (ex_eql rfl rfl) ?_
        refine wl_a ?_
        refine wl_nil (nrm_then ?_)
        refine cw_if rfl (fun hc144 => ?_) (fun hc144 => ?_)
        ·skip
         refine cw_seq ?_
         have hk6 : x.kind = 6 := by omega
         have hl1 : x.kids.length = 1 := by have := hn.rep4 hk6; omega
         have hr1 := hn.rep1 hk6
         have hr2 := hn.rep2 hk6
         have hr3 := hn.rep3 hk6
         have hj' : 0 < x.kids.length := by omega
         have hjk : 0 < H.nds[id].ks.length := by omega
         obtain ⟨bK, oK, haK, hbK, hcK⟩ := hkids 0 hjk
         refine cw_region ?_
         refine wl_m ?_
         refine wl_m ?_
         refine wl_val rfl (ex_indexAddr (n := i) rfl rfl Try.elem65 (by omega)) ?_
         obtain ⟨g168, cur159, hg160, hx161, hcu162, hcs163, -⟩ := hS0.at (by omega)
         cases hx161
         refine wl_store1L rfl rfl (rfl) Try.size4 hcu162 (hS0.inb hcs163 (k := i) (j := 0) (by omega) (by omega) (by omega)) fun w164 hB165 hw166 => ?_
         replace hw166 := evo_ob hg160 hw166
         have hO167 := hS0.set' hg160 hcu162 hB165
         have hE169 := hE34.step hw166 hG32.mem
         have hE170 := hE35.step hw166 hG33.mem
         have hB171 := hw166.blk hB36 hA30.nmem
         have hB172 := hw166.blk hB37 hA31.nmem
         rw [show 0 + (i) * 1 = i from by omega, bvs_set (g := fun j => j = i) (by omega) (by simp) (fun j hj => by simp [hj])] at hO167
         refine wl_nil (nrm_then ?_)
         refine cw_seq ?_
         refine cw_any (fun w0 w' => Evo (SB H.nds) w0 w') (by kernel_rfl) (fun w173 hw174 => ?_)
         have hE175 := hE169.then hw174
         have hE176 := hE170.then hw174
         have hB177 := hw174.blk0 hB171
         have hB178 := hw174.blk0 hB172
         have hO179 := hO167.evo0 hw174
         refine ae_take 0 rfl (by kernel_rfl) (by kernel_rfl) (by kernel_rfl) rfl (fun _ hS => ex_move rfl) (Evo.refl (SB H.nds) w173) ?_
         refine ae_take 1 rfl (by kernel_rfl) (by kernel_rfl) (by kernel_rfl) rfl (fun _ hS => ex_move rfl) (Evo.refl (SB H.nds) w173) ?_
         refine ae_take 2 rfl (by kernel_rfl) (by kernel_rfl) (by kernel_rfl) rfl (fun _ hS => ex_indexAddrA (n := 0) rfl rfl haK Try.elem46 hjk) (Evo.refl (SB H.nds) w173) ?_
         refine ae_take 3 rfl (by kernel_rfl) (by kernel_rfl) (by kernel_rfl) rfl (fun _ hS => ex_load1 rfl Try.agg3 (((hE175.step hS (fun y hy => .inl hy))).cell hcK (fun hm => hbK (List.mem_append_left _ hm)))) (Evo.refl (SB H.nds) w173) ?_
         refine ae_take 4 rfl (by kernel_rfl) (by kernel_rfl) (by kernel_rfl) rfl (fun _ hS => ex_fieldAddr rfl Try.fld25_3) (Evo.refl (SB H.nds) w173) ?_
         refine ae_take 5 rfl (by kernel_rfl) (by kernel_rfl) (by kernel_rfl) rfl (fun _ hS => ex_load1 rfl Try.agg3 (cell_nth (hS.blk hB178 (fun hm => by have h1 := hG11 b7 rfl; have h2 := hH.sblt b7 (in_sbe hm); omega)) rfl)) (Evo.refl (SB H.nds) w173) ?_
         refine ae_take 6 rfl (by kernel_rfl) (by kernel_rfl) (by kernel_rfl) rfl (fun _ hS => ex_fieldAddr rfl Try.fld25_4) (Evo.refl (SB H.nds) w173) ?_
         refine ae_take 7 rfl (by kernel_rfl) (by kernel_rfl) (by kernel_rfl) rfl (fun _ hS => ex_load1 rfl Try.agg3 (cell_nth (hS.blk hB178 (fun hm => by have h1 := hG11 b7 rfl; have h2 := hH.sblt b7 (in_sbe hm); omega)) rfl)) (Evo.refl (SB H.nds) w173) ?_
         refine ae_take 8 rfl (by kernel_rfl) (by kernel_rfl) (by kernel_rfl) rfl (fun _ hS => ex_move rfl) (Evo.refl (SB H.nds) w173) ?_
         refine ae_loud [9] (by kernel_rfl) rfl ⟨?_, trivial⟩
         refine a_step rfl ?_
         have hrsl26 : RSl 1 RBool (SB H.nds ++ E) w173 (.slice (some ⟨bo, 0, none⟩) (H.rs.length + 1) (H.rs.length + 1)) (bl (H.rs.length + 1) (It (Mt H.rs x.kids[0]) 0 i)) := by rw [bl_congr (f := It (Mt H.rs x.kids[0]) 0 i) (g := fun j => j = i) (fun j _ => eq_comm)]; exact own_rsl hO179 (bl_len _ _) (fun g hg hm => by have h1 := hgbo g hg; have h2 := hH.sblt g hm; omega)
         refine wl_call1 (vs := [_, _, _, _, _]) Try.goes64 rfl (times_okZ (least := x.min.toNat) (hK 0 hjk hj') (by omega) (hH.evo0 hE176) hi (by omega) (by omega) hrsl26) rfl ?_
         rintro rv w180 ⟨hw181, hS2, hnew⟩
         have hevb := hE175
         have hE182 := hE175.step hw181 (fun y hy => .inl hy)
         have hE183 := (Evo.refl (SB H.nds) w173).step hw181 (fun y hy => .inl hy)
         have hB184 := hw181.blk hB177 (hH.hbn)
         obtain ⟨ra2, rc2, ro2, rfl, hro, hrg2⟩ := hnew
         refine wl_nil (ae_next (.inl hE183) ?_)
         refine ae_take 10 rfl (by kernel_rfl) (by kernel_rfl) (by kernel_rfl) rfl (fun _ hS => ex_assign rfl) hE183 ?_
         refine ae_done (by kernel_rfl) (nrm_then ?_)
         refine cw_ret (ret_block (ret_then (body_ret1 rfl rfl ?_)))
         have hks := single_of hl1
         refine ⟨hE182, hS2, _, _, _, rfl, ?_, Ge.fresh hevb hrg2⟩
         rw [bl_congr (fun j _ => mt_rep hk6 hks hr1 hr3 j)]
         exact hro
        ·skip
         have hi1 : i < H.rs.length + 1 := by omega
         have hk8 : 8 ≤ x.kind ∧ x.kind ≤ 13 := by have h1 := hn.kind1; have h2 := hn.kind2; omega
         refine cw_any (fun w0 w' => Evo [] w0 w') (by kernel_rfl) (fun w185 hw186 => ?_)
         have hE187 := hE34.then hw186
         have hE188 := hE35.then hw186
         have hB189 := hw186.blk0 hB36
         have hB190 := hw186.blk0 hB37
         have hO191 := hS0.evo0 hw186
         refine ae_take 0 rfl (by kernel_rfl) (by kernel_rfl) (by kernel_rfl) rfl (fun _ hS => ex_move rfl) (Evo.refl [] w185) ?_
         refine ae_take 1 rfl (by kernel_rfl) (by kernel_rfl) (by kernel_rfl) rfl (fun _ hS => ex_move rfl) (Evo.refl [] w185) ?_
         refine ae_take 2 rfl (by kernel_rfl) (by kernel_rfl) (by kernel_rfl) rfl (fun _ hS => ex_fieldAddr rfl Try.fld25_0) (Evo.refl [] w185) ?_
         refine ae_take 3 rfl (by kernel_rfl) (by kernel_rfl) (by kernel_rfl) rfl (fun _ hS => ex_load1 rfl Try.agg3 (cell_nth (hS.blk0 hB190) rfl)) (Evo.refl [] w185) ?_
         refine ae_take 4 rfl (by kernel_rfl) (by kernel_rfl) (by kernel_rfl) rfl (fun _ hS => ex_move rfl) (Evo.refl [] w185) ?_
         refine ae_take 5 rfl (by kernel_rfl) (by kernel_rfl) (by kernel_rfl) rfl (fun _ hS => ex_nilCheck rfl) (Evo.refl [] w185) ?_
         refine ae_take 6 rfl (by kernel_rfl) (by kernel_rfl) (by kernel_rfl) rfl (fun _ hS => ex_fieldAddr rfl Try.fld64_1) (Evo.refl [] w185) ?_
         refine ae_take 7 rfl (by kernel_rfl) (by kernel_rfl) (by kernel_rfl) rfl (fun _ hS => ex_load1 rfl Try.agg58 (cell_nth (hS.blk0 hB189) rfl)) (Evo.refl [] w185) ?_
         refine ae_take 8 rfl (by kernel_rfl) (by kernel_rfl) (by kernel_rfl) rfl (fun _ hS => ex_move rfl) (Evo.refl [] w185) ?_
         refine ae_loud [9] (by kernel_rfl) rfl ⟨?_, trivial⟩
         refine a_step rfl ?_
         refine wl_call1 (vs := [_, _, _]) Try.goes65 rfl (place_ok x.kind hk8.1 hk8.2 (hH.evo0 hE188).run hi (by omega)) rfl ?_
         rintro _ w192 ⟨pb, rfl, hpb, hw193⟩
         have hE194 := hE187.then hw193
         have hE195 := hE188.then hw193
         have hE196 := (Evo.refl [] w185).then hw193
         have hB197 := hw193.blk0 hB189
         have hB198 := hw193.blk0 hB190
         have hO199 := hO191.evo0 hw193
         refine wl_nil (ae_next (.inl hE196) ?_)
         refine ae_take 10 rfl (by kernel_rfl) (by kernel_rfl) (by kernel_rfl) rfl (fun _ hS => ex_indexAddr (n := i) rfl rfl Try.elem65 hi1) hE196 ?_
         refine ae_loud [11] (by kernel_rfl) rfl ⟨?_, trivial⟩
         refine a_step rfl ?_
         obtain ⟨g209, cur200, hg201, hx202, hcu203, hcs204, -⟩ := hO199.at (by omega)
         cases hx202
         refine wl_store1L rfl rfl (rfl) Try.size4 hcu203 (hO199.inb hcs204 (k := i) (j := 0) (by omega) (by omega) (by omega)) fun w205 hB206 hw207 => ?_
         replace hw207 := evo_ob hg201 hw207
         have hO208 := hO199.set' hg201 hcu203 hB206
         have hE210 := hE194.step hw207 hG32.mem
         have hE211 := hE195.step hw207 hG33.mem
         have hB213 := hw207.blk hB197 hA30.nmem
         have hB214 := hw207.blk hB198 hA31.nmem
         rw [show 0 + (i) * 1 = i from by omega, bvs_set (g := Mt H.rs x i) (by omega) (by rw [hpb, mt_pl (by omega)]; simp) (fun j hj => by rw [mt_pl (by omega)]; simp; exact fun h => absurd h.symm hj)] at hO208
         refine wl_nil (ae_next (.inr (by kernel_rfl)) ?_)
         refine ae_done (by kernel_rfl) (nrm_block (nrm_then ?_))
         refine cw_seq ?_
         refine cw_region ?_
         refine wl_m ?_
         refine wl_a ?_
         refine wl_nil (nrm_then ?_)
         refine cw_ret (body_ret1 rfl rfl ?_)
         refine ⟨hE210, hH.evo0 hE211, _, _, _, rfl, hO208, hgbo⟩

end Go.Proofs.Ytgboffefbpligaa
