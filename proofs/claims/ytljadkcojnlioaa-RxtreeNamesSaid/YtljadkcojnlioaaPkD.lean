/- Names: part 4 of 6 of what the law rests on. -/
import Derived.Test.YtljadkcojnlioaaPkC
namespace Go.Proofs.Ytljadkcojnlioaa
open Go.Proofs
open Go.W Go.RowKit
attribute [local irreducible] Decidable.decide
set_option linter.unusedSimpArgs false
set_option linter.unusedVariables false
theorem Try.goes34 : Goes Try.prog 34 := ⟨_, Try.func34, by kernel_rfl, by kernel_rfl⟩
theorem ap_old {w : World} {o p : Option Nat} (h : Lt w o) (hp : Ge w p) : Apart o p := fun g h1 h2 => by have := h g h1; have := hp g h2; omega
section
variable {s : ByteArray} {f i j : Nat} {fst : Bool} {S T : Int → Prop} {e : Int} {fl : Fl}
theorem its_end (h : s.size ≤ i) : pItems s (f + 1) fst S i = .error 81 := by rw [pItems, if_pos h]
theorem its_stop (h : i < s.size) (h2 : sb s i = 93) : pItems s (f + 1) false S i = .ok (S, i + 1) := by rw [pItems, if_neg (by omega), if_pos ⟨rfl, h2⟩]
theorem its_err (h : i < s.size) (h2 : ¬ (fst = false ∧ sb s i = 93)) (h3 : pItem s i = .error e) : pItems s (f + 1) fst S i = .error e := by rw [pItems, if_neg (by omega), if_neg h2, h3]
theorem its_go (h : i < s.size) (h2 : ¬ (fst = false ∧ sb s i = 93)) (h3 : pItem s i = .ok (T, j)) : pItems s (f + 1) fst S i = pItems s f false (unS S T) j := by rw [pItems, if_neg (by omega), if_neg h2, h3]
theorem cls_err (h : pItems s (s.size + 1) true (fun _ => False) (if isB s i 94 then i + 1 else i) = .error e) : pClass s fl i = .error e := by unfold pClass; rw [h]
theorem cls_ok (h : pItems s (s.size + 1) true (fun _ => False) (if isB s i 94 then i + 1 else i) = .ok (S, j)) :
    pClass s fl i = .ok (nodeS (if isB s i 94 then negS (if fl.fold = true then foldS S else S) else if fl.fold = true then foldS S else S), j) := by unfold pClass; rw [h]
end
structure ClG where
  f : Nat
  i : Nat
  n : Nat
  fst : Bool
  S : Int → Prop
  l : List (Int × Int)
  sa : Option Addr
  sc : Nat
  so : Option Nat
structure ClI (w wr : World) (b : Nat) (s : ByteArray) (st : PS) (a : Option Addr) (c : Nat) (ob : Option Nat) (b2 i0 : Nat) (x : ClG) : Prop where
  hr : RdAt wr b s (pset st x.i) a c ob
  bd : Bd s x.i
  eq : pItems s (s.size + 1) true (fun _ => False) i0 = pItems s x.f x.fst x.S x.i
  hf : s.size + 1 ≤ x.f + x.i
  own : OwnS wr 66 2 x.sa x.n x.sc (rcells x.l) x.so
  ge : Ge w x.so
  vr : Vr x.l
  hS : ∀ c, InR c x.l ↔ x.S c
  len : x.n ≤ 16 * x.i
  hb2 : wr.heap[b2]? = some (.cells #[iv 0, .int .i32 0, .slice none 0 0, iv 0, iv 0, .bool false, iv 0, .string ByteArray.empty, .slice none 0 0] 25 (0, 0))
  g2 : Ge w (some b2)
  a2 : Apart (some b2) x.so
theorem un_in {l m : List (Int × Int)} {S T : Int → Prop} (h1 : ∀ c, InR c l ↔ S c) (h2 : ∀ c, InR c m ↔ T c) (c : Int) : InR c (l ++ m) ↔ unS S T c := by rw [inR_app, h1, h2]; exact Iff.rfl
theorem class_ok {w : World} {b : Nat} {s : ByteArray} {st : PS} {a : Option Addr} {c : Nat} {ob : Option Nat} (hR : RdAt w b s st a c ob) (hs : s.size ≤ 10000) (hb : Bd s st.pos) (hG : Glb w) :
    Calls Try.prog 24 #[.pointer (some ⟨b, 0, none⟩)] w (RetP (fun v w' => ∃ x j, pClass s st.now st.pos = .ok (x, j) ∧ TOut w w' v x ∧ Evo [b] w w' ∧ RdAt w' b s (pset st j) a c ob) (fun v w' => ∃ e, pClass s st.now st.pos = .error e ∧ v = flt e ∧ Evo [b] w w')) := by
  have hap := hR.ap; have hgb : GMax ∉ [b] := fun h => hR.glb hG (List.mem_singleton.1 h).symm; have hbw : Lt w (some b) := Lt.blk hR.blk; have how : Lt w ob := Lt.own hR.own; refine calls_of_cw (N := 41) Try.func24 rfl rfl rfl ?_; refine cw_seq ?_; refine cw_region ?_; refine wl_alloc rfl Try.zero25 fun b2 w1 hB2 hs3 hw4 => ?_; have hsz_b2 := hs3; have hA5 := Apart.new (Lt.blk hR.blk) hs3; have hA6 := Apart.new (Lt.own hR.own) hs3; have hG7 := Ge.new (Evo.refl [b] w) hs3; have hE8 := (Evo.refl [b] w).then hw4; have hB9 := hw4.blk0 hR.blk; have hO10 := hR.own.evo0 hw4; refine wl_nil (nrm_then ?_); refine cw_seq ?_; refine cw_region ?_; refine wl_m ?_; refine wl_call1 (vs := [_, _]) Try.goes14 rfl (take_ok ⟨hB9, hO10, hR.ne⟩ (by omega) 94 (by decide)) rfl ?_; rintro _ w11 ⟨rfl, hw12, hR1⟩; have hE13 := hE8.step hw12 (fun y hy => .inl hy); have hB14 := hw12.blk hB2 ((by first | exact hA5.symm.own1 | exact hA5.symm.nmem1)); refine wl_a ?_; refine wl_nil (nrm_then ?_); refine cw_seq ?_
  have hR1' : RdAt w11 b s (pset st (if isB s st.pos 94 then st.pos + 1 else st.pos)) a c ob := by by_cases h94 : isB s st.pos 94; { rw [if_pos h94] at hR1 ⊢; exact hR1 }; { rw [if_neg h94] at hR1 ⊢; exact hR1 }
  generalize hi0 : (if isB s st.pos 94 then st.pos + 1 else st.pos) = i0 at *
  have hbd0 : Bd s i0 := by rw [← hi0]; split; (rename_i h94; exact h94.asc (by decide) hb); exact hb
  refine cw_region ?_; refine wl_a ?_; refine wl_nil (nrm_then ?_); refine cw_seq ?_; refine cw_seq ?_; refine cw_region ?_; refine wl_a ?_; refine wl_nil (nrm_then ?_); refine cw_block ?_
  refine cw_loop (α := ClG) (⟨s.size + 1, i0, 0, true, fun _ => False, [], none, 0, none⟩) (fun x => [(4, .slice x.sa x.n x.sc), (5, .bool x.fst)]) [(0, _), (2, _), (3, _)] (fun x wr => Evo [b] w wr ∧ (ClI w wr b s st a c ob b2 i0 x)) (fun x => x.f) ⟨rfl, rfl, trivial⟩ ⟨rfl, rfl, rfl, trivial⟩ ⟨hE13, ⟨hR1', hbd0, rfl, by show s.size + 1 ≤ s.size + 1 + i0; omega, OwnS.nil _ _ _, Ge.nil _, fun g hg => (by cases hg), fun c => ⟨fun h => (inR_none c h).elim, False.elim⟩, Nat.zero_le _, hB14, hG7, Apart.nil _⟩⟩ ?_
  rintro ⟨f, i, n, fst, S, l, sa, sc, so⟩ wr15 ⟨hV16, ⟨hR9, hbi, heq, hfi, hown, hge, hvr, hSl, hlen, hb2, hg2, ha2⟩⟩; show CW _ _ _ _ [(4, .slice sa n sc), (5, .bool fst), (0, _), (2, _), (3, _)] _
  try dsimp only at hR9
  try dsimp only at hbi
  try dsimp only at heq
  try dsimp only at hfi
  try dsimp only at hown
  try dsimp only at hge
  try dsimp only at hvr
  try dsimp only at hSl
  try dsimp only at hlen
  try dsimp only at hb2
  try dsimp only at hg2
  try dsimp only at ha2
  have hil := hbi.le; have hA1 : Apart (some b) so := ap_old hbw hge; have hA2 : Apart ob so := ap_old how hge; have hA3 : Apart (some b) (some b2) := ap_old hbw hg2; have hA4 : Apart ob (some b2) := ap_old how hg2; have hpi : (pset st i).pos = i := rfl; obtain ⟨f', hff⟩ : ∃ f', f = f' + 1 := ⟨f - 1, by omega⟩; refine cw_seq ?_; refine cw_block ?_; refine cw_seq ?_; refine cw_seq ?_; refine cw_quiet (by kernel_rfl) (by kernel_rfl) ?_; refine ql_val rfl (fun _ hq18 => ex_move rfl) ?_; refine ql_val rfl (fun _ hq18 => ex_nilCheck rfl) ?_; refine ql_val rfl (fun _ hq18 => ex_fieldAddr rfl Try.fld41_1) ?_; refine ql_val rfl (fun _ hq18 => ex_load1 rfl Try.agg3 (cell_nth (hq18.blk0 hR9.blk) rfl)) ?_; refine ql_val rfl (fun _ hq18 => ex_move rfl) ?_; refine ql_val rfl (fun _ hq18 => ex_nilCheck rfl) ?_; refine ql_val rfl (fun _ hq18 => ex_fieldAddr rfl Try.fld41_0) ?_; refine ql_val rfl (fun _ hq18 => ex_load1 rfl Try.agg9 (cell_nth (hq18.blk0 hR9.blk) rfl)) ?_; refine ql_val rfl (fun _ hq18 => ex_len_str rfl Try.underlying9 rfl) ?_; refine ql_val rfl (fun _ hq18 => ex_eql rfl rfl) ?_; refine ql_nil (fun wq17 hq18 => nrm_then ?_); have hE19 := hV16.then hq18; have hB20 := hq18.blk0 hR9.blk; have hO21 := hR9.own.evo0 hq18; have hO22 := hown.evo0 hq18; have hB23 := hq18.blk0 hb2; refine cw_if rfl (fun hc17 => ?_) (fun hc17 => ?_)
  ·skip
   refine cw_region ?_; refine wl_callP1 (vs := [_]) Try.goes10 rfl (fail_ok 81) rfl ?_ ?_
   ·skip
    intro pv wp hpp; obtain ⟨rfl, hpw⟩ := hpp
    exact And.intro rfl ⟨_, rfl, _, cls_err (by rw [hi0, heq, hff]; exact its_end (by omega)), rfl, (hE19).then hpw⟩
   intro _ _ hF; exact hF.elim
  ·skip
   have hii : i < s.size := by omega
   refine cw_skip (nrm_then ?_); refine cw_seq ?_; refine cw_seq ?_; refine cw_region ?_; refine wl_m ?_; refine wl_val rfl (ex_notb rfl) ?_; refine wl_m ?_; refine wl_splitb (t := 21) rfl (fun hs21 => ?_) (fun hs21 => ?_)
   ·skip
    replace hs21 := congrArg Bool.not hs21; simp only [Bool.not_not, Bool.not_true, Bool.not_false] at hs21; subst hs21
    refine wl_g ?_; refine wl_m ?_; refine wl_g ?_; refine wl_call1 (vs := [_, _]) Try.goes14 rfl (take_ok ⟨hB20, hO21, hR9.ne⟩ (by omega) 93 (by decide)) rfl ?_; rintro _ w26 ⟨rfl, hw27, hR2⟩; have hE28 := hE19.step hw27 (fun y hy => .inl hy); have hB29 := hO22.evo hw27 ((by first | exact hA1.symm.own1 | exact hA1.symm.nmem1)); have hB30 := hw27.blk hB23 ((by first | exact hA3.symm.own1 | exact hA3.symm.nmem1)); refine wl_pt ?_; refine wl_nil (nrm_then ?_); refine cw_if rfl (fun hc24 => ?_) (fun hc24 => ?_)
    ·skip
     rw [if_pos hc24] at hR2; have hst := (heq.trans (congrArg (fun f => pItems s f false S i) hff)).trans (its_stop hii hc24.2); have hn9 := own_rn hown; subst hn9; refine cw_exit (ex_then (ex_past rfl (ex_then (ex_then (ex_here (nrm_then ?_)))))); refine cw_seq ?_; refine cw_seq ?_; refine cw_region ?_; refine wl_m ?_; refine wl_val rfl (ex_nilCheck rfl) ?_; refine wl_val rfl (ex_fieldAddr rfl Try.fld41_2) ?_; refine wl_val rfl (ex_fieldAddr rfl Try.fld38_0) ?_; refine wl_val rfl (ex_load1 rfl Try.agg4 (cell_nth hR2.blk rfl)) ?_; refine wl_nil (nrm_then ?_); refine cw_ifb rfl (fun hc33 => ?_) (fun hc33 => ?_)
     ·skip
      replace hc33 : st.now.fold = true := hc33; refine cw_region ?_; refine wl_m ?_; refine wl_call1 (vs := [_]) Try.goes35 rfl (folded_ok hB29 hvr (by omega) hSl) rfl ?_; rintro rv w31 ⟨a4, c4, ob4, rfl, hO4, hg4, hl4, hcan4, heq4, hw32⟩; have hA33 := Apart.fresh (Lt.own hB29) hg4; have hA34 := Apart.fresh (Lt.blk hB30) hg4; have hA35 := Apart.fresh (Lt.blk hR2.blk) hg4; have hA36 := Apart.fresh (Lt.own hR2.own) hg4; have hG37 := Ge.fresh hE28 hg4; have hE38 := hE28.then hw32; have hO39 := hB29.evo0 hw32; have hB40 := hw32.blk0 hB30; have hB41 := hw32.blk0 hR2.blk; have hO42 := hR2.own.evo0 hw32; refine wl_a ?_; refine wl_nil (nrm_then ?_); refine cw_seq ?_; refine cw_seq ?_; refine cw_region ?_; refine wl_m ?_; refine wl_nil (nrm_then ?_); refine cw_if rfl (fun hc36 => ?_) (fun hc36 => ?_)
      ·skip
       refine cw_region ?_; refine wl_m ?_; refine wl_call1 (vs := [_]) Try.goes36 rfl (negated_ok hO4 (can_vr hcan4) (by omega) heq4) rfl ?_; rintro rv w43 ⟨a5, c5, ob5, rfl, hO5, hg5, hl5, hcan5, heq5, hw44⟩; have hA45 := Apart.fresh (Lt.own hO39) hg5; have hA46 := Apart.fresh (Lt.blk hB40) hg5; have hA47 := Apart.fresh (Lt.blk hB41) hg5; have hA48 := Apart.fresh (Lt.own hO42) hg5; have hA49 := Apart.fresh (Lt.own hO4) hg5; have hG50 := Ge.fresh hE38 hg5; have hE51 := hE38.then hw44; have hO52 := hO39.evo0 hw44; have hB53 := hw44.blk0 hB40; have hB54 := hw44.blk0 hB41; have hO55 := hO42.evo0 hw44; have hO56 := hO4.evo0 hw44; refine wl_a ?_; refine wl_nil (nrm_then ?_); refine cw_seq ?_; refine cw_region ?_; refine wl_m ?_; refine wl_call1 (vs := [_]) Try.goes27 rfl (node_ok hO5 (can_vr hcan5) (by omega) heq5) rfl ?_; rintro rv w57 ⟨hT9, hw58⟩; have hV9 := hE51; have hb29 := blk_lt hB53; have hE59 := hE51.then hw58; have hO60 := hO52.evo0 hw58; have hB61 := hw58.blk0 hB53; have hB62 := hw58.blk0 hB54; have hO63 := hO55.evo0 hw58; have hO64 := hO5.evo0 hw58; obtain ⟨vs9, bs9, rfl, hOT, hFr⟩ := hT9; obtain ⟨ra, rc, ka, kc, rfl⟩ := id hOT.nine; refine wl_storeBlk rfl rfl Try.size25 hB61 rfl rfl ⟨by first | rfl | assumption, by first | rfl | assumption, by first | rfl | assumption, by first | rfl | assumption, by first | rfl | assumption, by first | rfl | assumption, by first | rfl | assumption, by first | rfl | assumption, by first | rfl | assumption, trivial⟩ fun w65 hB66 hw67 => ?_; have hE68 := hE59.step hw67 hg2.mem1; have hE69 := (Evo.refl ([b2]) w57).step hw67 (fun y hy => .inl hy); have hO70 := hO60.evo hw67 ha2.symm.own1; have hB71 := hw67.blk hB62 hA3.nmem1; have hO72 := hO63.evo hw67 hA4.own1; have hO73 := hO64.evo hw67 hA46.symm.own1
       try simp only [List.setIfInBounds_toArray, List.set_cons_zero, List.set_cons_succ, Nat.reduceAdd, Nat.zero_add, Nat.add_zero] at hB66
       refine wl_nil (nrm_then ?_); refine cw_ret (bodyp_ret (body_retC1 rfl (ResOk.cellA rfl Try.agg25 Try.size25 hB66 rfl) ?_))
       have hcl := cls_ok (fl := st.now) (by rw [hi0]; exact hst)
       rw [if_pos hc36, if_pos hc33] at hcl; refine ⟨_, _, hcl, ⟨_, bs9, rfl, hOT.evo hE69 (fun q hq h => ?_), hFr.older hV9.size⟩, hE68, ⟨hB71, hO72, hR2.ne⟩⟩
       have := hFr.ge q hq; rw [List.mem_singleton.1 h] at this; omega
      ·skip
       refine cw_skip (nrm_then ?_); refine cw_seq ?_; refine cw_region ?_; refine wl_m ?_; refine wl_call1 (vs := [_]) Try.goes27 rfl (node_ok hO4 (can_vr hcan4) (by omega) heq4) rfl ?_; rintro rv w74 ⟨hT9, hw75⟩; have hV9 := hE38; have hb29 := blk_lt hB40; have hE76 := hE38.then hw75; have hO77 := hO39.evo0 hw75; have hB78 := hw75.blk0 hB40; have hB79 := hw75.blk0 hB41; have hO80 := hO42.evo0 hw75; have hO81 := hO4.evo0 hw75; obtain ⟨vs9, bs9, rfl, hOT, hFr⟩ := hT9; obtain ⟨ra, rc, ka, kc, rfl⟩ := id hOT.nine; refine wl_storeBlk rfl rfl Try.size25 hB78 rfl rfl ⟨by first | rfl | assumption, by first | rfl | assumption, by first | rfl | assumption, by first | rfl | assumption, by first | rfl | assumption, by first | rfl | assumption, by first | rfl | assumption, by first | rfl | assumption, by first | rfl | assumption, trivial⟩ fun w82 hB83 hw84 => ?_; have hE85 := hE76.step hw84 hg2.mem1; have hE86 := (Evo.refl ([b2]) w74).step hw84 (fun y hy => .inl hy); have hO87 := hO77.evo hw84 ha2.symm.own1; have hB88 := hw84.blk hB79 hA3.nmem1; have hO89 := hO80.evo hw84 hA4.own1; have hO90 := hO81.evo hw84 hA34.symm.own1
       try simp only [List.setIfInBounds_toArray, List.set_cons_zero, List.set_cons_succ, Nat.reduceAdd, Nat.zero_add, Nat.add_zero] at hB83
       refine wl_nil (nrm_then ?_); refine cw_ret (bodyp_ret (body_retC1 rfl (ResOk.cellA rfl Try.agg25 Try.size25 hB83 rfl) ?_))
       have hcl := cls_ok (fl := st.now) (by rw [hi0]; exact hst)
       rw [if_neg hc36, if_pos hc33] at hcl; refine ⟨_, _, hcl, ⟨_, bs9, rfl, hOT.evo hE86 (fun q hq h => ?_), hFr.older hV9.size⟩, hE85, ⟨hB88, hO89, hR2.ne⟩⟩
       have := hFr.ge q hq; rw [List.mem_singleton.1 h] at this; omega
     ·skip
      replace hc33 : st.now.fold = false := hc33; refine cw_skip (nrm_then ?_); refine cw_seq ?_; refine cw_seq ?_; refine cw_region ?_; refine wl_m ?_; refine wl_nil (nrm_then ?_); refine cw_if rfl (fun hc36 => ?_) (fun hc36 => ?_)
      ·skip
       refine cw_region ?_; refine wl_m ?_; refine wl_call1 (vs := [_]) Try.goes36 rfl (negated_ok hB29 hvr (by omega) hSl) rfl ?_; rintro rv w91 ⟨a5, c5, ob5, rfl, hO5, hg5, hl5, hcan5, heq5, hw92⟩; have hA93 := Apart.fresh (Lt.own hB29) hg5; have hA94 := Apart.fresh (Lt.blk hB30) hg5; have hA95 := Apart.fresh (Lt.blk hR2.blk) hg5; have hA96 := Apart.fresh (Lt.own hR2.own) hg5; have hG97 := Ge.fresh hE28 hg5; have hE98 := hE28.then hw92; have hO99 := hB29.evo0 hw92; have hB100 := hw92.blk0 hB30; have hB101 := hw92.blk0 hR2.blk; have hO102 := hR2.own.evo0 hw92; refine wl_a ?_; refine wl_nil (nrm_then ?_); refine cw_seq ?_; refine cw_region ?_; refine wl_m ?_; refine wl_call1 (vs := [_]) Try.goes27 rfl (node_ok hO5 (can_vr hcan5) (by omega) heq5) rfl ?_; rintro rv w103 ⟨hT9, hw104⟩; have hV9 := hE98; have hb29 := blk_lt hB100; have hE105 := hE98.then hw104; have hO106 := hO99.evo0 hw104; have hB107 := hw104.blk0 hB100; have hB108 := hw104.blk0 hB101; have hO109 := hO102.evo0 hw104; have hO110 := hO5.evo0 hw104; obtain ⟨vs9, bs9, rfl, hOT, hFr⟩ := hT9; obtain ⟨ra, rc, ka, kc, rfl⟩ := id hOT.nine; refine wl_storeBlk rfl rfl Try.size25 hB107 rfl rfl ⟨by first | rfl | assumption, by first | rfl | assumption, by first | rfl | assumption, by first | rfl | assumption, by first | rfl | assumption, by first | rfl | assumption, by first | rfl | assumption, by first | rfl | assumption, by first | rfl | assumption, trivial⟩ fun w111 hB112 hw113 => ?_; have hE114 := hE105.step hw113 hg2.mem1; have hE115 := (Evo.refl ([b2]) w103).step hw113 (fun y hy => .inl hy); have hO116 := hO106.evo hw113 ha2.symm.own1; have hB117 := hw113.blk hB108 hA3.nmem1; have hO118 := hO109.evo hw113 hA4.own1; have hO119 := hO110.evo hw113 hA94.symm.own1
       try simp only [List.setIfInBounds_toArray, List.set_cons_zero, List.set_cons_succ, Nat.reduceAdd, Nat.zero_add, Nat.add_zero] at hB112
       refine wl_nil (nrm_then ?_); refine cw_ret (bodyp_ret (body_retC1 rfl (ResOk.cellA rfl Try.agg25 Try.size25 hB112 rfl) ?_))
       have hcl := cls_ok (fl := st.now) (by rw [hi0]; exact hst)
       rw [if_pos hc36, if_neg (show ¬ st.now.fold = true by simp [hc33])] at hcl; refine ⟨_, _, hcl, ⟨_, bs9, rfl, hOT.evo hE115 (fun q hq h => ?_), hFr.older hV9.size⟩, hE114, ⟨hB117, hO118, hR2.ne⟩⟩
       have := hFr.ge q hq; rw [List.mem_singleton.1 h] at this; omega
      ·skip
       refine cw_skip (nrm_then ?_); refine cw_seq ?_; refine cw_region ?_; refine wl_m ?_; refine wl_call1 (vs := [_]) Try.goes27 rfl (node_ok hB29 hvr (by omega) hSl) rfl ?_; rintro rv w120 ⟨hT9, hw121⟩; have hV9 := hE28; have hb29 := blk_lt hB30; have hE122 := hE28.then hw121; have hO123 := hB29.evo0 hw121; have hB124 := hw121.blk0 hB30; have hB125 := hw121.blk0 hR2.blk; have hO126 := hR2.own.evo0 hw121; obtain ⟨vs9, bs9, rfl, hOT, hFr⟩ := hT9; obtain ⟨ra, rc, ka, kc, rfl⟩ := id hOT.nine; refine wl_storeBlk rfl rfl Try.size25 hB124 rfl rfl ⟨by first | rfl | assumption, by first | rfl | assumption, by first | rfl | assumption, by first | rfl | assumption, by first | rfl | assumption, by first | rfl | assumption, by first | rfl | assumption, by first | rfl | assumption, by first | rfl | assumption, trivial⟩ fun w127 hB128 hw129 => ?_; have hE130 := hE122.step hw129 hg2.mem1; have hE131 := (Evo.refl ([b2]) w120).step hw129 (fun y hy => .inl hy); have hO132 := hO123.evo hw129 ha2.symm.own1; have hB133 := hw129.blk hB125 hA3.nmem1; have hO134 := hO126.evo hw129 hA4.own1
       try simp only [List.setIfInBounds_toArray, List.set_cons_zero, List.set_cons_succ, Nat.reduceAdd, Nat.zero_add, Nat.add_zero] at hB128
       refine wl_nil (nrm_then ?_); refine cw_ret (bodyp_ret (body_retC1 rfl (ResOk.cellA rfl Try.agg25 Try.size25 hB128 rfl) ?_))
       have hcl := cls_ok (fl := st.now) (by rw [hi0]; exact hst)
       rw [if_neg hc36, if_neg (show ¬ st.now.fold = true by simp [hc33])] at hcl; refine ⟨_, _, hcl, ⟨_, bs9, rfl, hOT.evo hE131 (fun q hq h => ?_), hFr.older hV9.size⟩, hE130, ⟨hB133, hO134, hR2.ne⟩⟩
       have := hFr.ge q hq; rw [List.mem_singleton.1 h] at this; omega
    ·skip
     rw [if_neg hc24] at hR2; refine cw_skip (nrm_then ?_); refine cw_region ?_; refine wl_m ?_; refine wl_m ?_; refine wl_callP1 (vs := [_]) Try.goes34 rfl (item_ok ⟨hR2.blk, hR2.own, hR2.ne⟩ (by omega) hii hbi (hG.evo hE28 hgb)) rfl ?_ ?_
     ·skip
      intro pv wp hpp; obtain ⟨e9, hpe, rfl, hpw⟩ := hpp
      exact And.intro rfl ⟨_, rfl, _, cls_err (by rw [hi0, heq, hff]; exact its_err hii (fun h => hc24 ⟨hii, h.2⟩) hpe), rfl, (hE28).step hpw (fun y hy => .inl hy)⟩
     rintro rv w135 ⟨T, j, hx, hT, hw136, hR3⟩; obtain ⟨a3, c3, ob3, li, rfl, hO3, hg3, hv3, hS3, hl3⟩ := hT; have hA137 := Apart.fresh (Lt.own hB29) hg3; have hA138 := Apart.fresh (Lt.blk hB30) hg3; have hA139 := Apart.fresh (Lt.blk hR2.blk) hg3; have hA140 := Apart.fresh (Lt.own hR2.own) hg3; have hG141 := Ge.fresh hE28 hg3; have hE142 := hE28.step hw136 (fun y hy => .inl hy); have hB143 := hB29.evo hw136 ((by first | exact hA1.symm.own1 | exact hA1.symm.nmem1)); have hB144 := hw136.blk hB30 ((by first | exact hA3.symm.own1 | exact hA3.symm.nmem1)); obtain ⟨hbj, hij⟩ := pItem_b hx hbi hii; have hjl := hbj.le; refine wl_append rfl rfl rfl rfl Try.app22_22 hB143 (Src.ofOwn hO3 (rcells_one li)) (by omega) fun a2 c2 w147 ob2 hO2 hw150 hob151 => ?_; have hA152 := ha2.app (Lt.blk hB144) hob151; have hA153 := hA137.symm.app (Lt.own hO3) hob151; have hA154 := hA1.app (Lt.blk hR3.blk) hob151; have hA155 := hA2.app (Lt.own hR3.own) hob151; have hG156 := hge.app hE142 hob151; have hE157 := hE142.step hw150 hge.mem; have hB158 := hw150.blk hB144 ha2.nmem; have hO159 := hO3.evo hw150 hA137.symm.own; have hB160 := hw150.blk hR3.blk hA1.nmem; have hO161 := hR3.own.evo hw150 hA2.own; refine wl_a ?_; refine wl_nil (nrm_block (nrm_then ?_)); refine cw_region ?_; refine wl_a ?_; refine wl_nil (nrm_same ?_); refine ⟨⟨f', j, n + li.length, false, unS S T, l ++ li, a2, c2, ob2⟩, ?_, ⟨rfl, rfl, trivial⟩, ⟨rfl, rfl, rfl, trivial⟩, hE157, ?_⟩
     · (try dsimp only); omega
     ·skip
      try dsimp only
      refine ⟨⟨hB160, hO161, hR3.ne⟩, hbj, ?_, (by show s.size + 1 ≤ f' + j; omega), ?_, hG156, vr_app hvr hv3, un_in hSl hS3, (by show n + li.length ≤ 16 * j; omega), hB158, hg2, hA152⟩
      · rw [heq, hff]; exact its_go hii (fun h => hc24 ⟨hii, h.2⟩) hx
      · rw [rcells_app]; exact hO2
   ·skip
    replace hs21 := congrArg Bool.not hs21; simp only [Bool.not_not, Bool.not_true, Bool.not_false] at hs21; subst hs21
    refine wl_n ?_; refine wl_n ?_; refine wl_pf ?_; refine wl_nil (nrm_then ?_); refine cw_false rfl ?_; refine cw_skip (nrm_then ?_); refine cw_region ?_; refine wl_m ?_; refine wl_m ?_; refine wl_callP1 (vs := [_]) Try.goes34 rfl (item_ok ⟨hB20, hO21, hR9.ne⟩ (by omega) hii hbi (hG.evo hE19 hgb)) rfl ?_ ?_
    ·skip
     intro pv wp hpp; obtain ⟨e9, hpe, rfl, hpw⟩ := hpp
     exact And.intro rfl ⟨_, rfl, _, cls_err (by rw [hi0, heq, hff]; exact its_err hii (fun h => (by cases h.1)) hpe), rfl, (hE19).step hpw (fun y hy => .inl hy)⟩
    rintro rv w162 ⟨T, j, hx, hT, hw163, hR3⟩; obtain ⟨a3, c3, ob3, li, rfl, hO3, hg3, hv3, hS3, hl3⟩ := hT; have hA164 := Apart.fresh (Lt.blk hB20) hg3; have hA165 := Apart.fresh (Lt.own hO21) hg3; have hA166 := Apart.fresh (Lt.own hO22) hg3; have hA167 := Apart.fresh (Lt.blk hB23) hg3; have hG168 := Ge.fresh hE19 hg3; have hE169 := hE19.step hw163 (fun y hy => .inl hy); have hB170 := hO22.evo hw163 ((by first | exact hA1.symm.own1 | exact hA1.symm.nmem1)); have hB171 := hw163.blk hB23 ((by first | exact hA3.symm.own1 | exact hA3.symm.nmem1)); obtain ⟨hbj, hij⟩ := pItem_b hx hbi hii; have hjl := hbj.le; refine wl_append rfl rfl rfl rfl Try.app22_22 hB170 (Src.ofOwn hO3 (rcells_one li)) (by omega) fun a2 c2 w174 ob2 hO2 hw177 hob178 => ?_; have hA179 := ha2.app (Lt.blk hB171) hob178; have hA180 := hA166.symm.app (Lt.own hO3) hob178; have hA181 := hA1.app (Lt.blk hR3.blk) hob178; have hA182 := hA2.app (Lt.own hR3.own) hob178; have hG183 := hge.app hE169 hob178; have hE184 := hE169.step hw177 hge.mem; have hB185 := hw177.blk hB171 ha2.nmem; have hO186 := hO3.evo hw177 hA166.symm.own; have hB187 := hw177.blk hR3.blk hA1.nmem; have hO188 := hR3.own.evo hw177 hA2.own; refine wl_a ?_; refine wl_nil (nrm_block (nrm_then ?_)); refine cw_region ?_; refine wl_a ?_; refine wl_nil (nrm_same ?_); refine ⟨⟨f', j, n + li.length, false, unS S T, l ++ li, a2, c2, ob2⟩, ?_, ⟨rfl, rfl, trivial⟩, ⟨rfl, rfl, rfl, trivial⟩, hE184, ?_⟩
    · (try dsimp only); omega
    ·skip
     try dsimp only
     refine ⟨⟨hB187, hO188, hR3.ne⟩, hbj, ?_, (by show s.size + 1 ≤ f' + j; omega), ?_, hG183, vr_app hvr hv3, un_in hSl hS3, (by show n + li.length ≤ 16 * j; omega), hB185, hg2, hA179⟩
     · rw [heq, hff]; exact its_go hii (fun h => (by cases h.1)) hx
     · rw [rcells_app]; exact hO2
end Go.Proofs.Ytljadkcojnlioaa
namespace Go.Proofs.Ytljadkcojnlioaa
open Go.Proofs
open Go.W Go.RowKit
attribute [local irreducible] Decidable.decide
set_option linter.unusedSimpArgs false
set_option linter.unusedVariables false
theorem Try.goes22 : Goes Try.prog 22 := ⟨_, Try.func22, by kernel_rfl, by kernel_rfl⟩
theorem pNum_b {r : ByteArray} : ∀ {f i : Nat} {n : Int}, 0 ≤ n → n ≤ 1001 → i ≤ r.size → 0 ≤ (pNum r f i n).1 ∧ (pNum r f i n).1 ≤ 1001 ∧ i ≤ (pNum r f i n).2 ∧ (pNum r f i n).2 ≤ r.size
  | 0, i, n, h0, h1, hi => ⟨h0, h1, Nat.le_refl _, hi⟩
  | f + 1, i, n, h0, h1, hi => by
    rw [pNum]
    split
    · rename_i h
      have h2 : 48 ≤ sb r i ∧ sb r i ≤ 57 := h.2
      obtain ⟨i1, i2, i3, i4⟩ := pNum_b (r := r) (f := f) (i := i + 1) (n := min (n * 10 + ((sb r i : Int) - 48)) 1001) (by omega) (by omega) (by omega)
      exact ⟨i1, i2, by omega, i4⟩
    · exact ⟨h0, h1, Nat.le_refl _, hi⟩
theorem pNum_go {r : ByteArray} {f i : Nat} {n : Int} (h : i < r.size) (h2 : 48 ≤ sb r i) (h3 : sb r i ≤ 57) : pNum r (f + 1) i n = pNum r f (i + 1) (min (n * 10 + ((sb r i : Int) - 48)) 1001) := by rw [pNum, if_pos ⟨h, h2, h3⟩]
theorem pNum_end {r : ByteArray} {f i : Nat} {n : Int} (h : ¬ (i < r.size ∧ digN (sb r i))) : pNum r f i n = (n, i) := by
  cases f with
  | zero => rfl
  | succ f => rw [pNum, if_neg h]
structure NuG where
  f : Nat
  i : Nat
  n : Int
structure NuI (r : ByteArray) (i0 : Nat) (x : NuG) : Prop where
  hi : x.i ≤ r.size
  n0 : 0 ≤ x.n
  n1 : x.n ≤ 1001
  hf : r.size ≤ x.f + x.i
  eq : pNum r r.size i0 0 = pNum r x.f x.i x.n
theorem number_ok {w : World} (r : ByteArray) (i0 : Nat) (hi : i0 ≤ r.size) (hs : r.size ≤ 1000000) :
    Calls Try.prog 22 #[.string r, .int .i64 (i0 : Nat)] w (Ret fun v w' => v = .tuple #[iv (pNum r r.size i0 0).1, iv ((pNum r r.size i0 0).2 : Nat)] ∧ Evo [] w w') := by
  refine calls_of_cw (N := 36) Try.func22 rfl rfl rfl ?_; refine cw_seq ?_; refine cw_region ?_; refine wl_a ?_; refine wl_a ?_; refine wl_nil (nrm_then ?_); refine cw_seq ?_; refine cw_region ?_; refine wl_a ?_; refine wl_nil (nrm_then ?_); refine cw_seq ?_; refine cw_block ?_
  refine cw_loop (α := NuG) (⟨r.size, i0, 0⟩) (fun x => [(6, .int .i64 x.n), (1, .int .i64 (x.i : Nat))]) [(0, _), (4, _), (5, _)] (fun x wr => Evo [] w wr ∧ (NuI r i0 x)) (fun x => x.f) ⟨rfl, rfl, trivial⟩ ⟨rfl, rfl, rfl, trivial⟩ ⟨(Evo.refl [] w), ⟨hi, Int.le_refl _, (by show (0 : Int) ≤ 1001; omega), Nat.le_add_right _ _, rfl⟩⟩ ?_
  rintro ⟨f, i, n⟩ wr1 ⟨hV2, ⟨hi1, hn0, hn1, hf, heq⟩⟩; show CW _ _ _ _ [(6, .int .i64 n), (1, .int .i64 (i : Nat)), (0, _), (4, _), (5, _)] _
  try dsimp only at hi1
  try dsimp only at hn0
  try dsimp only at hn1
  try dsimp only at hf
  try dsimp only at heq
  have hb := sb_lt r i; refine cw_seq ?_; refine cw_seq ?_; refine cw_region ?_; refine wl_m ?_; refine wl_m ?_; refine wl_val rfl (ex_len_str rfl Try.underlying9 rfl) ?_; refine wl_val rfl (ex_lss rfl rfl) ?_; refine wl_m ?_; refine wl_split (t := 11) rfl (fun hs11 => ?_) (fun hs11 => ?_)
  ·skip
   refine wl_g ?_; refine wl_m ?_; refine wl_g ?_; refine wl_m ?_; refine wl_g ?_; refine wl_val rfl (ex_sidx (n := i) rfl rfl Try.underlying9 rfl (by omega)) ?_; refine wl_g ?_; refine wl_val rfl (ex_geq rfl rfl) ?_; refine wl_pt ?_; refine wl_m ?_; refine wl_split (t := 17) rfl (fun hs17 => ?_) (fun hs17 => ?_)
   ·skip
    refine wl_g ?_; refine wl_m ?_; refine wl_g ?_; refine wl_m ?_; refine wl_g ?_; refine wl_val rfl (ex_sidx (n := i) rfl rfl Try.underlying9 rfl (by omega)) ?_; refine wl_g ?_; refine wl_val rfl (ex_leq rfl rfl) ?_; refine wl_pt ?_; refine wl_nil (nrm_then ?_); refine cw_if rfl (fun hc22 => ?_) (fun hc22 => ?_)
    ·skip
     refine cw_skip (nrm_then ?_); refine cw_block ?_; refine cw_seq ?_; refine cw_region ?_; refine wl_m ?_; refine wl_val rfl (ex_mul_i64 rfl rfl (by omega) (by omega)) ?_; refine wl_m ?_; refine wl_m ?_; refine wl_val rfl (ex_sidx (n := i) rfl rfl Try.underlying9 rfl (by omega)) ?_; refine wl_val rfl (ex_sub_u8 rfl rfl (by omega) (by omega)) ?_; refine wl_val rfl (ex_convF rfl Try.underlying5 Try.underlying3 (i64r (by omega) (by omega)).1 (i64r (by omega) (by omega)).2) ?_; refine wl_val rfl (ex_add_i64 rfl rfl (by omega) (by omega)) ?_; refine wl_val rfl (ex_min rfl rfl) ?_; rw [min_i]; refine wl_a ?_; refine wl_nil (nrm_then ?_); refine cw_region ?_; refine wl_m ?_; refine wl_val rfl (ex_add_i64 rfl rfl (by omega) (by omega)) ?_; refine wl_a ?_; refine wl_nil (nrm_block (nrm_same ?_)); refine ⟨⟨f - 1, i + 1, min (n * 10 + ((sb r i : Int) - 48)) 1001⟩, ?_, ⟨rfl, rfl, trivial⟩, ⟨rfl, rfl, rfl, trivial⟩, hV2, ?_⟩
     · (try dsimp only); show f - 1 < f; omega
     ·skip
      try dsimp only
      have hf2 : f = f - 1 + 1 := by omega
      exact ⟨(by show i + 1 ≤ r.size; omega), (by show 0 ≤ min _ _; omega), (by show min _ _ ≤ _; omega), (by show r.size ≤ f - 1 + (i + 1); omega), heq.trans (by rw [hf2]; exact pNum_go (by omega) (by omega) (by omega))⟩
    ·skip
     refine cw_exit (ex_then (ex_then (ex_here (nrm_then ?_)))); refine cw_seq ?_; refine cw_region ?_; refine wl_m ?_; refine wl_m ?_; refine wl_a ?_; refine wl_a ?_; refine wl_nil (nrm_then ?_); refine cw_ret (body_ret2 rfl rfl rfl ?_)
     have hend := heq.trans (pNum_end (by rintro ⟨h1, h2, h3⟩; omega))
     rw [hend]; exact ⟨rfl, hV2⟩
   ·skip
    refine wl_n ?_; refine wl_n ?_; refine wl_n ?_; refine wl_n ?_; refine wl_pf ?_; refine wl_nil (nrm_then ?_); refine cw_false rfl ?_; refine cw_exit (ex_then (ex_then (ex_here (nrm_then ?_)))); refine cw_seq ?_; refine cw_region ?_; refine wl_m ?_; refine wl_m ?_; refine wl_a ?_; refine wl_a ?_; refine wl_nil (nrm_then ?_); refine cw_ret (body_ret2 rfl rfl rfl ?_)
    have hend := heq.trans (pNum_end (by rintro ⟨h1, h2, h3⟩; omega))
    rw [hend]; exact ⟨rfl, hV2⟩
  ·skip
   refine wl_n ?_; refine wl_n ?_; refine wl_n ?_; refine wl_n ?_; refine wl_pf ?_; refine wl_m ?_; refine wl_n ?_; refine wl_n ?_; refine wl_n ?_; refine wl_n ?_; refine wl_pf ?_; refine wl_nil (nrm_then ?_); refine cw_false rfl ?_; refine cw_exit (ex_then (ex_then (ex_here (nrm_then ?_)))); refine cw_seq ?_; refine cw_region ?_; refine wl_m ?_; refine wl_m ?_; refine wl_a ?_; refine wl_a ?_; refine wl_nil (nrm_then ?_); refine cw_ret (body_ret2 rfl rfl rfl ?_)
   have hend := heq.trans (pNum_end (by rintro ⟨h1, h2, h3⟩; omega))
   rw [hend]; exact ⟨rfl, hV2⟩
section
variable {r : ByteArray}
theorem pr_star (h : sb r 0 = 42) : pRep r = (0, -1, 1) := by unfold pRep; rw [if_pos h]
theorem pr_plus (h : sb r 0 = 43) : pRep r = (1, -1, 1) := by unfold pRep; rw [if_neg (by omega), if_pos h]
theorem pr_qu (h : sb r 0 = 63) : pRep r = (0, 1, 1) := by unfold pRep; rw [if_neg (by omega), if_neg (by omega), if_pos h]
theorem pr_no (h : ¬ sb r 0 = 42) (h2 : ¬ sb r 0 = 43) (h3 : ¬ sb r 0 = 63) (h4 : ¬ sb r 0 = 123) : pRep r = (0, 0, 0) := by unfold pRep; rw [if_neg h, if_neg h2, if_neg h3, if_pos h4]
theorem pr_br (h : sb r 0 = 123) {lo : Int} {i : Nat} (h2 : pNum r r.size 1 0 = (lo, i)) : pRep r = if 1 < i ∧ isB r i 44 then (if isB r (pNum r r.size (i + 1) 0).2 125 then (lo, (if (pNum r r.size (i + 1) 0).2 = i + 1 then -1 else (pNum r r.size (i + 1) 0).1), (pNum r r.size (i + 1) 0).2 + 1) else (0, 0, 0))
    else if i = 1 ∨ ¬ isB r i 125 then (0, 0, 0) else (lo, lo, i + 1) := by
  unfold pRep
  rw [if_neg (by omega), if_neg (by omega), if_neg (by omega), if_neg (by omega), h2]
end
theorem tup3 {p : Int × Int × Nat} {a b : Int} {c : Nat} (h : p = (a, b, c)) : (Value.tuple #[iv a, iv b, iv (c : Nat)]) = .tuple #[iv p.1, iv p.2.1, iv (p.2.2 : Nat)] := by rw [h]
theorem repeatP_ok {w : World} {b : Nat} {s : ByteArray} {st : PS} {a : Option Addr} {c : Nat} {ob : Option Nat} (hR : RdAt w b s st a c ob) (hs : s.size ≤ 1000000) (hlt : st.pos < s.size) :
    Calls Try.prog 18 #[.pointer (some ⟨b, 0, none⟩)] w (Ret fun v w' => v = .tuple #[iv (pRep (s.extract st.pos s.size)).1, iv (pRep (s.extract st.pos s.size)).2.1, iv ((pRep (s.extract st.pos s.size)).2.2 : Nat)] ∧ Evo [] w w') := by
  have hap := hR.ap; have hrs := sub_sz (s := s) (a := st.pos) (Nat.le_refl s.size); refine calls_of_cw (N := 78) Try.func18 rfl rfl rfl ?_; refine cw_seq ?_; refine cw_region ?_; refine wl_a ?_; refine wl_a ?_; refine wl_a ?_; refine wl_nil (nrm_then ?_); refine cw_seq ?_; refine cw_quiet (by kernel_rfl) (by kernel_rfl) ?_; refine ql_val rfl (fun _ hq2 => ex_move rfl) ?_; refine ql_val rfl (fun _ hq2 => ex_nilCheck rfl) ?_; refine ql_val rfl (fun _ hq2 => ex_fieldAddr rfl Try.fld41_0) ?_; refine ql_val rfl (fun _ hq2 => ex_load1 rfl Try.agg9 (cell_nth (hq2.blk0 hR.blk) rfl)) ?_; refine ql_val rfl (fun _ hq2 => ex_move rfl) ?_; refine ql_val rfl (fun _ hq2 => ex_nilCheck rfl) ?_; refine ql_val rfl (fun _ hq2 => ex_fieldAddr rfl Try.fld41_1) ?_; refine ql_val rfl (fun _ hq2 => ex_load1 rfl Try.agg3 (cell_nth (hq2.blk0 hR.blk) rfl)) ?_; refine ql_val rfl (fun _ hq2 => ex_ssubFrom (l := st.pos) rfl rfl Try.underlying9 rfl (by omega)) ?_; refine ql_val rfl (fun _ hq2 => ex_assign rfl) ?_; refine ql_nil (fun wq1 hq2 => nrm_then ?_); have hE3 := (Evo.refl [] w).then hq2; have hB4 := hq2.blk0 hR.blk; have hO5 := hR.own.evo0 hq2; refine cw_seq ?_; refine cw_seq ?_
  generalize s.extract st.pos s.size = r at *
  refine cw_region ?_; refine wl_m ?_; refine wl_val rfl (ex_sidx (n := 0) rfl rfl Try.underlying9 rfl (by omega)) ?_; refine wl_nil (nrm_then ?_); refine cw_block ?_; refine cw_seq ?_; refine cw_region ?_; refine wl_val rfl (ex_eql rfl rfl) ?_; refine wl_a ?_; refine wl_nil (nrm_then ?_); refine cw_if rfl (fun hc21 => ?_) (fun hc21 => ?_)
  ·skip
   refine cw_seq ?_; refine cw_region ?_; refine wl_a ?_; refine wl_a ?_; refine wl_a ?_; refine wl_nil (nrm_then ?_); refine cw_ret (ret_block (ret_then (body_ret3 rfl rfl rfl rfl ?_))); exact ⟨tup3 (pr_star (by omega)), hE3⟩
  ·skip
   refine cw_seq ?_; refine cw_region ?_; refine wl_val rfl (ex_eql rfl rfl) ?_; refine wl_a ?_; refine wl_nil (nrm_then ?_); refine cw_if rfl (fun hc23 => ?_) (fun hc23 => ?_)
   ·skip
    refine cw_seq ?_; refine cw_region ?_; refine wl_a ?_; refine wl_a ?_; refine wl_a ?_; refine wl_nil (nrm_then ?_); refine cw_ret (ret_block (ret_then (body_ret3 rfl rfl rfl rfl ?_))); exact ⟨tup3 (pr_plus (by omega)), hE3⟩
   ·skip
    refine cw_seq ?_; refine cw_region ?_; refine wl_val rfl (ex_eql rfl rfl) ?_; refine wl_a ?_; refine wl_nil (nrm_then ?_); refine cw_if rfl (fun hc25 => ?_) (fun hc25 => ?_)
    ·skip
     refine cw_seq ?_; refine cw_region ?_; refine wl_a ?_; refine wl_a ?_; refine wl_a ?_; refine wl_nil (nrm_then ?_); refine cw_ret (ret_block (ret_then (body_ret3 rfl rfl rfl rfl ?_))); exact ⟨tup3 (pr_qu (by omega)), hE3⟩
    ·skip
     refine cw_seq ?_; refine cw_region ?_; refine wl_val rfl (ex_eql rfl rfl) ?_; refine wl_a ?_; refine wl_nil (nrm_then ?_); refine cw_if rfl (fun hc27 => ?_) (fun hc27 => ?_)
     ·skip
      refine cw_skip (nrm_block (nrm_then ?_)); refine cw_seq ?_; refine cw_region ?_; refine wl_m ?_; refine wl_call1 (vs := [_, _]) Try.goes22 rfl (number_ok r 1 (by omega) (by omega)) rfl ?_; rintro _ w6 ⟨rfl, hw7⟩; obtain ⟨lo, i, hp1⟩ : ∃ lo i, pNum r r.size 1 0 = (lo, i) := ⟨_, _, rfl⟩; have hb1 := pNum_b (r := r) (f := r.size) (i := 1) (n := 0) (by omega) (by omega) (by omega); have hbr := pr_br (r := r) (by omega) hp1; rw [hp1] at hb1 ⊢; simp only at hb1; have hE8 := hE3.then hw7; have hB9 := hw7.blk0 hB4; have hO10 := hO5.evo0 hw7; refine wl_m ?_; refine wl_val rfl (ex_extract rfl rfl) ?_; refine wl_val rfl (ex_extract rfl rfl) ?_; refine wl_a ?_; refine wl_a ?_; refine wl_nil (nrm_then ?_); refine cw_seq ?_; refine cw_region ?_; refine wl_m ?_; refine wl_a ?_; refine wl_nil (nrm_then ?_); refine cw_seq ?_; refine cw_seq ?_; refine cw_region ?_; refine wl_m ?_; refine wl_val rfl (ex_gtr rfl rfl) ?_; refine wl_m ?_; refine wl_split (t := 37) rfl (fun hs37 => ?_) (fun hs37 => ?_)
      ·skip
       refine wl_g ?_; refine wl_m ?_; refine wl_g ?_; refine wl_m ?_; refine wl_g ?_; refine wl_val rfl (ex_len_str rfl Try.underlying9 rfl) ?_; refine wl_g ?_; refine wl_val rfl (ex_lss rfl rfl) ?_; refine wl_pt ?_; refine wl_m ?_; refine wl_split (t := 43) rfl (fun hs43 => ?_) (fun hs43 => ?_)
       ·skip
        refine wl_g ?_; refine wl_m ?_; refine wl_g ?_; refine wl_m ?_; refine wl_g ?_; refine wl_val rfl (ex_sidx (n := i) rfl rfl Try.underlying9 rfl (by omega)) ?_; refine wl_g ?_; refine wl_val rfl (ex_eql rfl rfl) ?_; refine wl_pt ?_; refine wl_nil (nrm_then ?_); refine cw_if rfl (fun hc48 => ?_) (fun hc48 => ?_)
        ·skip
         have hcm : 1 < i ∧ isB r i 44 := ⟨by omega, by omega, by omega⟩; refine cw_seq ?_; refine cw_region ?_; refine wl_m ?_; refine wl_val rfl (ex_add_i64 rfl rfl (by omega) (by omega)) ?_; refine wl_a ?_; refine wl_nil (nrm_then ?_); refine cw_seq ?_; refine cw_region ?_; refine wl_m ?_; refine wl_m ?_; refine wl_call1 (vs := [_, _]) Try.goes22 rfl (number_ok r (i + 1) (by omega) (by omega)) rfl ?_; rintro _ w11 ⟨rfl, hw12⟩; obtain ⟨hi2, m, hp2⟩ : ∃ hi2 m, pNum r r.size (i + 1) 0 = (hi2, m) := ⟨_, _, rfl⟩; have hb2 := pNum_b (r := r) (f := r.size) (i := i + 1) (n := 0) (by omega) (by omega) (by omega); rw [if_pos hcm, hp2] at hbr; rw [hp2] at hb2 ⊢; simp only at hb2 hbr; have hE13 := hE8.then hw12; have hB14 := hw12.blk0 hB9; have hO15 := hO10.evo0 hw12; refine wl_m ?_; refine wl_val rfl (ex_extract rfl rfl) ?_; refine wl_val rfl (ex_extract rfl rfl) ?_; refine wl_a ?_; refine wl_a ?_; refine wl_nil (nrm_then ?_); refine cw_seq ?_; refine cw_region ?_; refine wl_m ?_; refine wl_m ?_; refine wl_val rfl (ex_eql rfl rfl) ?_; refine wl_nil (nrm_then ?_); refine cw_if rfl (fun hc59 => ?_) (fun hc59 => ?_)
         ·skip
          have hmi : m = i + 1 := by omega
          refine cw_region ?_; refine wl_a ?_; refine wl_nil (nrm_then ?_); refine cw_seq ?_; refine cw_seq ?_; refine cw_region ?_; refine wl_m ?_; refine wl_val rfl (ex_eql rfl rfl) ?_; refine wl_m ?_; refine wl_split (t := 62) rfl (fun hs62 => ?_) (fun hs62 => ?_)
          ·skip
           refine wl_n ?_; refine wl_n ?_; refine wl_n ?_; refine wl_n ?_; refine wl_pt ?_; refine wl_m ?_; refine wl_n ?_; refine wl_n ?_; refine wl_n ?_; refine wl_n ?_; refine wl_pt ?_; refine wl_nil (nrm_then ?_); refine cw_true rfl ?_; refine cw_seq ?_; refine cw_region ?_; refine wl_a ?_; refine wl_a ?_; refine wl_a ?_; refine wl_nil (nrm_then ?_); refine cw_ret (ret_then (body_ret3 rfl rfl rfl rfl ?_))
           exact ⟨tup3 (hbr.trans (if_neg (fun h => by have h1 := h.1; have h2 := h.2; omega))), hE13⟩
          ·skip
           refine wl_g ?_; refine wl_m ?_; refine wl_g ?_; refine wl_m ?_; refine wl_g ?_; refine wl_val rfl (ex_len_str rfl Try.underlying9 rfl) ?_; refine wl_g ?_; refine wl_val rfl (ex_geq rfl rfl) ?_; refine wl_pf ?_; refine wl_m ?_; refine wl_split (t := 68) rfl (fun hs68 => ?_) (fun hs68 => ?_)
           ·skip
            refine wl_n ?_; refine wl_n ?_; refine wl_n ?_; refine wl_n ?_; refine wl_pt ?_; refine wl_nil (nrm_then ?_); refine cw_true rfl ?_; refine cw_seq ?_; refine cw_region ?_; refine wl_a ?_; refine wl_a ?_; refine wl_a ?_; refine wl_nil (nrm_then ?_); refine cw_ret (ret_then (body_ret3 rfl rfl rfl rfl ?_))
            exact ⟨tup3 (hbr.trans (if_neg (fun h => by have h1 := h.1; have h2 := h.2; omega))), hE13⟩
           ·skip
            refine wl_g ?_; refine wl_m ?_; refine wl_g ?_; refine wl_m ?_; refine wl_g ?_; refine wl_val rfl (ex_sidx (n := m) rfl rfl Try.underlying9 rfl (by omega)) ?_; refine wl_g ?_; refine wl_val rfl (ex_neq rfl rfl) ?_; refine wl_pf ?_; refine wl_nil (nrm_then ?_); refine cw_if rfl (fun hc73 => ?_) (fun hc73 => ?_)
            ·skip
             refine cw_seq ?_; refine cw_region ?_; refine wl_a ?_; refine wl_a ?_; refine wl_a ?_; refine wl_nil (nrm_then ?_); refine cw_ret (ret_then (body_ret3 rfl rfl rfl rfl ?_))
             exact ⟨tup3 (hbr.trans (if_neg (fun h => by have h1 := h.1; have h2 := h.2; omega))), hE13⟩
            ·skip
             refine cw_skip (nrm_then ?_); refine cw_seq ?_; refine cw_region ?_; refine wl_m ?_; refine wl_m ?_; refine wl_m ?_; refine wl_val rfl (ex_add_i64 rfl rfl (by omega) (by omega)) ?_; refine wl_a ?_; refine wl_a ?_; refine wl_a ?_; refine wl_nil (nrm_then ?_); refine cw_ret (body_ret3 rfl rfl rfl rfl ?_); exact ⟨tup3 (hbr.trans ((if_pos ⟨by omega, by omega⟩).trans (by rw [if_pos hmi]))), hE13⟩
         ·skip
          refine cw_skip (nrm_then ?_); refine cw_seq ?_; refine cw_seq ?_; refine cw_region ?_; refine wl_m ?_; refine wl_val rfl (ex_eql rfl rfl) ?_; refine wl_m ?_; refine wl_split (t := 62) rfl (fun hs62 => ?_) (fun hs62 => ?_)
          ·skip
           refine wl_n ?_; refine wl_n ?_; refine wl_n ?_; refine wl_n ?_; refine wl_pt ?_; refine wl_m ?_; refine wl_n ?_; refine wl_n ?_; refine wl_n ?_; refine wl_n ?_; refine wl_pt ?_; refine wl_nil (nrm_then ?_); refine cw_true rfl ?_; refine cw_seq ?_; refine cw_region ?_; refine wl_a ?_; refine wl_a ?_; refine wl_a ?_; refine wl_nil (nrm_then ?_); refine cw_ret (ret_then (body_ret3 rfl rfl rfl rfl ?_))
           exact ⟨tup3 (hbr.trans (if_neg (fun h => by have h1 := h.1; have h2 := h.2; omega))), hE13⟩
          ·skip
           refine wl_g ?_; refine wl_m ?_; refine wl_g ?_; refine wl_m ?_; refine wl_g ?_; refine wl_val rfl (ex_len_str rfl Try.underlying9 rfl) ?_; refine wl_g ?_; refine wl_val rfl (ex_geq rfl rfl) ?_; refine wl_pf ?_; refine wl_m ?_; refine wl_split (t := 68) rfl (fun hs68 => ?_) (fun hs68 => ?_)
           ·skip
            refine wl_n ?_; refine wl_n ?_; refine wl_n ?_; refine wl_n ?_; refine wl_pt ?_; refine wl_nil (nrm_then ?_); refine cw_true rfl ?_; refine cw_seq ?_; refine cw_region ?_; refine wl_a ?_; refine wl_a ?_; refine wl_a ?_; refine wl_nil (nrm_then ?_); refine cw_ret (ret_then (body_ret3 rfl rfl rfl rfl ?_))
            exact ⟨tup3 (hbr.trans (if_neg (fun h => by have h1 := h.1; have h2 := h.2; omega))), hE13⟩
           ·skip
            refine wl_g ?_; refine wl_m ?_; refine wl_g ?_; refine wl_m ?_; refine wl_g ?_; refine wl_val rfl (ex_sidx (n := m) rfl rfl Try.underlying9 rfl (by omega)) ?_; refine wl_g ?_; refine wl_val rfl (ex_neq rfl rfl) ?_; refine wl_pf ?_; refine wl_nil (nrm_then ?_); refine cw_if rfl (fun hc73 => ?_) (fun hc73 => ?_)
            ·skip
             refine cw_seq ?_; refine cw_region ?_; refine wl_a ?_; refine wl_a ?_; refine wl_a ?_; refine wl_nil (nrm_then ?_); refine cw_ret (ret_then (body_ret3 rfl rfl rfl rfl ?_))
             exact ⟨tup3 (hbr.trans (if_neg (fun h => by have h1 := h.1; have h2 := h.2; omega))), hE13⟩
            ·skip
             refine cw_skip (nrm_then ?_); refine cw_seq ?_; refine cw_region ?_; refine wl_m ?_; refine wl_m ?_; refine wl_m ?_; refine wl_val rfl (ex_add_i64 rfl rfl (by omega) (by omega)) ?_; refine wl_a ?_; refine wl_a ?_; refine wl_a ?_; refine wl_nil (nrm_then ?_); refine cw_ret (body_ret3 rfl rfl rfl rfl ?_); exact ⟨tup3 (hbr.trans ((if_pos ⟨by omega, by omega⟩).trans (by rw [if_neg (by omega)]))), hE13⟩
        ·skip
         refine cw_skip (nrm_then ?_); refine cw_seq ?_; refine cw_seq ?_; refine cw_region ?_; refine wl_m ?_; refine wl_val rfl (ex_eql rfl rfl) ?_; refine wl_m ?_; refine wl_split (t := 62) rfl (fun hs62 => ?_) (fun hs62 => ?_)
         ·skip
          refine wl_n ?_; refine wl_n ?_; refine wl_n ?_; refine wl_n ?_; refine wl_pt ?_; refine wl_m ?_; refine wl_n ?_; refine wl_n ?_; refine wl_n ?_; refine wl_n ?_; refine wl_pt ?_; refine wl_nil (nrm_then ?_); refine cw_true rfl ?_; refine cw_seq ?_; refine cw_region ?_; refine wl_a ?_; refine wl_a ?_; refine wl_a ?_; refine wl_nil (nrm_then ?_); refine cw_ret (ret_then (body_ret3 rfl rfl rfl rfl ?_))
          exact ⟨tup3 (hbr.trans ((if_neg (by rintro ⟨h1, h2, h3⟩; omega)).trans (if_pos (.inl (by omega))))), hE8⟩
         ·skip
          refine wl_g ?_; refine wl_m ?_; refine wl_g ?_; refine wl_m ?_; refine wl_g ?_; refine wl_val rfl (ex_len_str rfl Try.underlying9 rfl) ?_; refine wl_g ?_; refine wl_val rfl (ex_geq rfl rfl) ?_; refine wl_pf ?_; refine wl_m ?_; refine wl_split (t := 68) rfl (fun hs68 => ?_) (fun hs68 => ?_)
          ·skip
           refine wl_n ?_; refine wl_n ?_; refine wl_n ?_; refine wl_n ?_; refine wl_pt ?_; refine wl_nil (nrm_then ?_); refine cw_true rfl ?_; refine cw_seq ?_; refine cw_region ?_; refine wl_a ?_; refine wl_a ?_; refine wl_a ?_; refine wl_nil (nrm_then ?_); refine cw_ret (ret_then (body_ret3 rfl rfl rfl rfl ?_))
           exact ⟨tup3 (hbr.trans ((if_neg (by rintro ⟨h1, h2, h3⟩; omega)).trans (if_pos (.inr (fun h => by have h1 := h.1; have h2 := h.2; omega))))), hE8⟩
          ·skip
           refine wl_g ?_; refine wl_m ?_; refine wl_g ?_; refine wl_m ?_; refine wl_g ?_; refine wl_val rfl (ex_sidx (n := i) rfl rfl Try.underlying9 rfl (by omega)) ?_; refine wl_g ?_; refine wl_val rfl (ex_neq rfl rfl) ?_; refine wl_pf ?_; refine wl_nil (nrm_then ?_); refine cw_if rfl (fun hc73 => ?_) (fun hc73 => ?_)
           ·skip
            refine cw_seq ?_; refine cw_region ?_; refine wl_a ?_; refine wl_a ?_; refine wl_a ?_; refine wl_nil (nrm_then ?_); refine cw_ret (ret_then (body_ret3 rfl rfl rfl rfl ?_))
            exact ⟨tup3 (hbr.trans ((if_neg (by rintro ⟨h1, h2, h3⟩; omega)).trans (if_pos (.inr (fun h => by have h1 := h.1; have h2 := h.2; omega))))), hE8⟩
           ·skip
            refine cw_skip (nrm_then ?_); refine cw_seq ?_; refine cw_region ?_; refine wl_m ?_; refine wl_m ?_; refine wl_m ?_; refine wl_val rfl (ex_add_i64 rfl rfl (by omega) (by omega)) ?_; refine wl_a ?_; refine wl_a ?_; refine wl_a ?_; refine wl_nil (nrm_then ?_); refine cw_ret (body_ret3 rfl rfl rfl rfl ?_)
            exact ⟨tup3 (hbr.trans ((if_neg (by rintro ⟨h1, h2, h3⟩; omega)).trans (if_neg (by rintro (h | h); omega; exact h ⟨by omega, by omega⟩)))), hE8⟩
       ·skip
        refine wl_n ?_; refine wl_n ?_; refine wl_n ?_; refine wl_n ?_; refine wl_pf ?_; refine wl_nil (nrm_then ?_); refine cw_false rfl ?_; refine cw_skip (nrm_then ?_); refine cw_seq ?_; refine cw_seq ?_; refine cw_region ?_; refine wl_m ?_; refine wl_val rfl (ex_eql rfl rfl) ?_; refine wl_m ?_; refine wl_split (t := 62) rfl (fun hs62 => ?_) (fun hs62 => ?_)
        ·skip
         refine wl_n ?_; refine wl_n ?_; refine wl_n ?_; refine wl_n ?_; refine wl_pt ?_; refine wl_m ?_; refine wl_n ?_; refine wl_n ?_; refine wl_n ?_; refine wl_n ?_; refine wl_pt ?_; refine wl_nil (nrm_then ?_); refine cw_true rfl ?_; refine cw_seq ?_; refine cw_region ?_; refine wl_a ?_; refine wl_a ?_; refine wl_a ?_; refine wl_nil (nrm_then ?_); refine cw_ret (ret_then (body_ret3 rfl rfl rfl rfl ?_))
         exact ⟨tup3 (hbr.trans ((if_neg (by rintro ⟨h1, h2, h3⟩; omega)).trans (if_pos (.inl (by omega))))), hE8⟩
        ·skip
         refine wl_g ?_; refine wl_m ?_; refine wl_g ?_; refine wl_m ?_; refine wl_g ?_; refine wl_val rfl (ex_len_str rfl Try.underlying9 rfl) ?_; refine wl_g ?_; refine wl_val rfl (ex_geq rfl rfl) ?_; refine wl_pf ?_; refine wl_m ?_; refine wl_split (t := 68) rfl (fun hs68 => ?_) (fun hs68 => ?_)
         ·skip
          refine wl_n ?_; refine wl_n ?_; refine wl_n ?_; refine wl_n ?_; refine wl_pt ?_; refine wl_nil (nrm_then ?_); refine cw_true rfl ?_; refine cw_seq ?_; refine cw_region ?_; refine wl_a ?_; refine wl_a ?_; refine wl_a ?_; refine wl_nil (nrm_then ?_); refine cw_ret (ret_then (body_ret3 rfl rfl rfl rfl ?_))
          exact ⟨tup3 (hbr.trans ((if_neg (by rintro ⟨h1, h2, h3⟩; omega)).trans (if_pos (.inr (fun h => by have h1 := h.1; have h2 := h.2; omega))))), hE8⟩
         ·skip
          refine wl_g ?_; refine wl_m ?_; refine wl_g ?_; refine wl_m ?_; refine wl_g ?_; refine wl_val rfl (ex_sidx (n := i) rfl rfl Try.underlying9 rfl (by omega)) ?_; refine wl_g ?_; refine wl_val rfl (ex_neq rfl rfl) ?_; refine wl_pf ?_; refine wl_nil (nrm_then ?_); refine cw_if rfl (fun hc73 => ?_) (fun hc73 => ?_)
          ·skip
           refine cw_seq ?_; refine cw_region ?_; refine wl_a ?_; refine wl_a ?_; refine wl_a ?_; refine wl_nil (nrm_then ?_); refine cw_ret (ret_then (body_ret3 rfl rfl rfl rfl ?_))
           exact ⟨tup3 (hbr.trans ((if_neg (by rintro ⟨h1, h2, h3⟩; omega)).trans (if_pos (.inr (fun h => by have h1 := h.1; have h2 := h.2; omega))))), hE8⟩
          ·skip
           refine cw_skip (nrm_then ?_); refine cw_seq ?_; refine cw_region ?_; refine wl_m ?_; refine wl_m ?_; refine wl_m ?_; refine wl_val rfl (ex_add_i64 rfl rfl (by omega) (by omega)) ?_; refine wl_a ?_; refine wl_a ?_; refine wl_a ?_; refine wl_nil (nrm_then ?_); refine cw_ret (body_ret3 rfl rfl rfl rfl ?_)
           exact ⟨tup3 (hbr.trans ((if_neg (by rintro ⟨h1, h2, h3⟩; omega)).trans (if_neg (by rintro (h | h); omega; exact h ⟨by omega, by omega⟩)))), hE8⟩
      ·skip
       refine wl_n ?_; refine wl_n ?_; refine wl_n ?_; refine wl_n ?_; refine wl_pf ?_; refine wl_m ?_; refine wl_n ?_; refine wl_n ?_; refine wl_n ?_; refine wl_n ?_; refine wl_pf ?_; refine wl_nil (nrm_then ?_); refine cw_false rfl ?_; refine cw_skip (nrm_then ?_); refine cw_seq ?_; refine cw_seq ?_; refine cw_region ?_; refine wl_m ?_; refine wl_val rfl (ex_eql rfl rfl) ?_; refine wl_m ?_; refine wl_split (t := 62) rfl (fun hs62 => ?_) (fun hs62 => ?_)
       ·skip
        refine wl_n ?_; refine wl_n ?_; refine wl_n ?_; refine wl_n ?_; refine wl_pt ?_; refine wl_m ?_; refine wl_n ?_; refine wl_n ?_; refine wl_n ?_; refine wl_n ?_; refine wl_pt ?_; refine wl_nil (nrm_then ?_); refine cw_true rfl ?_; refine cw_seq ?_; refine cw_region ?_; refine wl_a ?_; refine wl_a ?_; refine wl_a ?_; refine wl_nil (nrm_then ?_); refine cw_ret (ret_then (body_ret3 rfl rfl rfl rfl ?_))
        exact ⟨tup3 (hbr.trans ((if_neg (by rintro ⟨h1, h2, h3⟩; omega)).trans (if_pos (.inl (by omega))))), hE8⟩
       ·skip
        refine wl_g ?_; refine wl_m ?_; refine wl_g ?_; refine wl_m ?_; refine wl_g ?_; refine wl_val rfl (ex_len_str rfl Try.underlying9 rfl) ?_; refine wl_g ?_; refine wl_val rfl (ex_geq rfl rfl) ?_; refine wl_pf ?_; refine wl_m ?_; refine wl_split (t := 68) rfl (fun hs68 => ?_) (fun hs68 => ?_)
        ·skip
         refine wl_n ?_; refine wl_n ?_; refine wl_n ?_; refine wl_n ?_; refine wl_pt ?_; refine wl_nil (nrm_then ?_); refine cw_true rfl ?_; refine cw_seq ?_; refine cw_region ?_; refine wl_a ?_; refine wl_a ?_; refine wl_a ?_; refine wl_nil (nrm_then ?_); refine cw_ret (ret_then (body_ret3 rfl rfl rfl rfl ?_))
         exact ⟨tup3 (hbr.trans ((if_neg (by rintro ⟨h1, h2, h3⟩; omega)).trans (if_pos (.inr (fun h => by have h1 := h.1; have h2 := h.2; omega))))), hE8⟩
        ·skip
         refine wl_g ?_; refine wl_m ?_; refine wl_g ?_; refine wl_m ?_; refine wl_g ?_; refine wl_val rfl (ex_sidx (n := i) rfl rfl Try.underlying9 rfl (by omega)) ?_; refine wl_g ?_; refine wl_val rfl (ex_neq rfl rfl) ?_; refine wl_pf ?_; refine wl_nil (nrm_then ?_); refine cw_if rfl (fun hc73 => ?_) (fun hc73 => ?_)
         ·skip
          refine cw_seq ?_; refine cw_region ?_; refine wl_a ?_; refine wl_a ?_; refine wl_a ?_; refine wl_nil (nrm_then ?_); refine cw_ret (ret_then (body_ret3 rfl rfl rfl rfl ?_))
          exact ⟨tup3 (hbr.trans ((if_neg (by rintro ⟨h1, h2, h3⟩; omega)).trans (if_pos (.inr (fun h => by have h1 := h.1; have h2 := h.2; omega))))), hE8⟩
         ·skip
          refine cw_skip (nrm_then ?_); refine cw_seq ?_; refine cw_region ?_; refine wl_m ?_; refine wl_m ?_; refine wl_m ?_; refine wl_val rfl (ex_add_i64 rfl rfl (by omega) (by omega)) ?_; refine wl_a ?_; refine wl_a ?_; refine wl_a ?_; refine wl_nil (nrm_then ?_); refine cw_ret (body_ret3 rfl rfl rfl rfl ?_)
          exact ⟨tup3 (hbr.trans ((if_neg (by rintro ⟨h1, h2, h3⟩; omega)).trans (if_neg (by rintro (h | h); omega; exact h ⟨by omega, by omega⟩)))), hE8⟩
     ·skip
      refine cw_seq ?_; refine cw_region ?_; refine wl_a ?_; refine wl_a ?_; refine wl_a ?_; refine wl_nil (nrm_then ?_); refine cw_ret (ret_block (ret_then (body_ret3 rfl rfl rfl rfl ?_))); exact ⟨tup3 (pr_no (by omega) (by omega) (by omega) (by omega)), hE3⟩
end Go.Proofs.Ytljadkcojnlioaa
namespace Go.Proofs.Ytljadkcojnlioaa
open Go.Proofs
open Go.W Go.RowKit
attribute [local irreducible] Decidable.decide
set_option linter.unusedSimpArgs false
set_option linter.unusedVariables false
theorem Try.slice23 : sliceB Try.prog 23 = some (25, 9) := by kernel_rfl
def KOut (w w' : World) (v : Value) (l : List Rx) : Prop := ∃ a c ob cs bs, v = .slice a l.length c ∧ OwnS w' 25 9 a l.length c cs ob ∧ OTs l w' cs bs ∧ Fr w (ob.toList ++ bs)
theorem kout_one {X : List Nat} {w w1 w2 : World} {x : Rx} {vs : List Value} {bs : List Nat} {g : Nat} (hO : OwnS w2 25 9 (some ⟨g, 0, none⟩) 1 1 vs (some g)) (hT : OT x w1 vs bs) (hF : Fr w bs) (hg : w1.heap.size ≤ g) (he : Evo X w1 w2) (hx : ∀ b, b ∈ bs → b ∉ X) (hw : w.heap.size ≤ w1.heap.size) : KOut w w2 (.slice (some ⟨g, 0, none⟩) 1 1) [x] := by
  refine ⟨_, _, some g, vs, bs, rfl, hO, OTs.single (hT.evo he hx), ⟨List.nodup_cons.2 ⟨fun h => ?_, hF.nd⟩, fun b hb => ?_⟩⟩
  · have := hT.lt g h; omega
  · rcases List.mem_cons.1 hb with rfl | hb
    · omega
    · exact hF.ge b hb
theorem ot_row (k : Int) {l : List Rx} {w : World} {a : Option Addr} {n c : Nat} {cs : List Value} {ob : Option Nat} {bs : List Nat} (hO : OwnS w 25 9 a n c cs ob) (hT : OTs l w cs bs) (hl : l.length ≤ 1000000) :
    OT (rxRow k l) w [iv k, .int .i32 0, .slice none 0 0, iv 0, iv 0, .bool false, iv 0, .string ByteArray.empty, .slice a n c] (ob.toList ++ bs) := by
  have h1 := hO.length
  have h2 := hT.len
  obtain rfl : n = l.length := by omega
  unfold rxRow
  rw [OT]
  exact ⟨none, 0, none, a, c, ob, cs, bs, rfl, OwnS.nil _ _ _, hO, hT, rfl, by simp, by show (0 : Nat) ≤ 1000000; omega, hl⟩
theorem rowP_many {k : Int} {l : List Rx} (h : 2 ≤ l.length) : rowP k l = rxRow k l := by
  match l, h with
  | x :: y :: l, _ => rfl
theorem row_ok {w : World} (k : Int) {l : List Rx} {a : Option Addr} {n c : Nat} {cs : List Value} {ob : Option Nat} {bs : List Nat} (hO : OwnS w 25 9 a n c cs ob) (hT : OTs l w cs bs) (hl : l.length ≤ 1000000) :
    Calls Try.prog 15 #[iv k, .slice a n c] w (Ret fun v w' => (∃ vs bs', v = .agg vs.toArray ∧ OT (rowP k l) w' vs bs' ∧ bs'.Sublist (ob.toList ++ bs)) ∧ Evo [] w w') := by
  have h1 := hO.length; have h2 := hT.len
  obtain rfl : n = l.length := by omega
  refine calls_of_cw (N := 18) Try.func15 rfl rfl rfl ?_; refine cw_seq ?_; refine cw_region ?_; refine wl_alloc rfl Try.zero25 fun b4 w1 hB2 hs3 hw4 => ?_; have hsz_b4 := hs3; have hA5 := Apart.new (Lt.own hO) hs3; have hG6 := Ge.new (Evo.refl [] w) hs3; have hE7 := (Evo.refl [] w).then hw4; have hO8 := hO.evo0 hw4; refine wl_nil (nrm_then ?_); refine cw_seq ?_; refine cw_seq ?_; refine cw_region ?_; refine wl_m ?_; refine wl_val rfl (ex_len_slice rfl Try.underlying23 rfl) ?_; refine wl_nil (nrm_then ?_); refine cw_block ?_; refine cw_seq ?_; refine cw_region ?_; refine wl_val rfl (ex_eql rfl rfl) ?_; refine wl_a ?_; refine wl_nil (nrm_then ?_); refine cw_if rfl (fun hc7 => ?_) (fun hc7 => ?_)
  ·skip
   refine cw_seq ?_; refine cw_region ?_; refine wl_val rfl (ex_build (vs := [(0, _)]) Try.build25 rfl (cells := [_, _, _, _, _, _, _, _, _]) rfl) ?_; refine wl_storeBlk rfl rfl Try.size25 hB2 rfl rfl ⟨by first | rfl | assumption, by first | rfl | assumption, by first | rfl | assumption, by first | rfl | assumption, by first | rfl | assumption, by first | rfl | assumption, by first | rfl | assumption, by first | rfl | assumption, by first | rfl | assumption, trivial⟩ fun w9 hB10 hw11 => ?_; have hE12 := hE7.step hw11 hG6.mem1; have hO13 := hO8.evo hw11 hA5.own1
   try simp only [List.setIfInBounds_toArray, List.set_cons_zero, List.set_cons_succ, Nat.reduceAdd, Nat.zero_add, Nat.add_zero] at hB10
   refine wl_nil (nrm_then ?_); refine cw_ret (ret_block (ret_then (body_retC1 rfl (ResOk.cellA rfl Try.agg25 Try.size25 hB10 rfl) ?_))); obtain rfl := List.length_eq_zero_iff.1 (show l.length = 0 by omega); exact ⟨⟨_, [], rfl, ot_leaf 1 _, List.nil_sublist _⟩, hE12⟩
  ·skip
   refine cw_seq ?_; refine cw_region ?_; refine wl_val rfl (ex_eql rfl rfl) ?_; refine wl_a ?_; refine wl_nil (nrm_then ?_); refine cw_if rfl (fun hc10 => ?_) (fun hc10 => ?_)
   ·skip
    obtain ⟨x, rfl⟩ := List.length_eq_one_iff.1 (show l.length = 1 by omega); obtain ⟨g1, hg1', ha1, hc1⟩ := hO.cells (by simp); have hX := hT.one'; obtain ⟨ra, rc, ka, kc, rfl⟩ := id hX.nine; refine cw_seq ?_; refine cw_region ?_; refine wl_m ?_; refine wl_val rfl (ex_indexAddrA (n := 0) rfl rfl ha1 Try.elem23 (by omega)) ?_; refine wl_val rfl (ex_loadA rfl Try.agg25 Try.size25 (vs := [_, _, _, _, _, _, _, _, _]) rfl (hc1.evo hE7 (by simp))) ?_; refine wl_storeBlk rfl rfl Try.size25 hB2 rfl rfl ⟨by first | rfl | assumption, by first | rfl | assumption, by first | rfl | assumption, by first | rfl | assumption, by first | rfl | assumption, by first | rfl | assumption, by first | rfl | assumption, by first | rfl | assumption, by first | rfl | assumption, trivial⟩ fun w14 hB15 hw16 => ?_; have hE17 := hE7.step hw16 hG6.mem1; have hO18 := hO8.evo hw16 hA5.own1
    try simp only [List.setIfInBounds_toArray, List.set_cons_zero, List.set_cons_succ, Nat.reduceAdd, Nat.zero_add, Nat.add_zero] at hB15
    refine wl_nil (nrm_then ?_); refine cw_ret (ret_block (ret_then (body_retC1 rfl (ResOk.cellA rfl Try.agg25 Try.size25 hB15 rfl) ?_))); exact ⟨⟨_, bs, rfl, hX.evo hE17 (fun b hb h => by cases h), List.sublist_append_right _ _⟩, hE17⟩
   ·skip
    refine cw_skip (nrm_block (nrm_then ?_)); refine cw_seq ?_; refine cw_region ?_; refine wl_m ?_; refine wl_m ?_; refine wl_val rfl (ex_build (vs := [(0, _), (8, _)]) Try.build25 rfl (cells := [_, _, _, _, _, _, _, _, _]) rfl) ?_; refine wl_storeBlk rfl rfl Try.size25 hB2 rfl rfl ⟨by first | rfl | assumption, by first | rfl | assumption, by first | rfl | assumption, by first | rfl | assumption, by first | rfl | assumption, by first | rfl | assumption, by first | rfl | assumption, by first | rfl | assumption, by first | rfl | assumption, trivial⟩ fun w19 hB20 hw21 => ?_; have hE22 := hE7.step hw21 hG6.mem1; have hO23 := hO8.evo hw21 hA5.own1
    try simp only [List.setIfInBounds_toArray, List.set_cons_zero, List.set_cons_succ, Nat.reduceAdd, Nat.zero_add, Nat.add_zero] at hB20
    refine wl_nil (nrm_then ?_); refine cw_ret (body_retC1 rfl (ResOk.cellA rfl Try.agg25 Try.size25 hB20 rfl) ?_); rw [rowP_many (by omega)]; exact ⟨⟨_, _, rfl, ot_row k hO23 (hT.evo hE22 (fun b hb h => by cases h)) hl, List.Sublist.refl _⟩, hE22⟩
theorem one_ok {w : World} (k k2 : Int) (t : Bool) : Calls Try.prog 29 #[iv k, iv k2, .bool t] w (Ret fun v w' => KOut w w' v [rxK (if t = true then k2 else k)] ∧ Evo [] w w') := by
  refine calls_of_cw (N := 12) Try.func29 rfl rfl rfl ?_; refine cw_seq ?_; refine cw_region ?_; refine wl_a ?_; refine wl_nil (nrm_then ?_); refine cw_seq ?_; refine cw_seq ?_; refine cw_region ?_; refine wl_m ?_; refine wl_nil (nrm_then ?_); refine cw_ifb rfl (fun hc7 => ?_) (fun hc7 => ?_)
  ·skip
   refine cw_region ?_; refine wl_m ?_; refine wl_a ?_; refine wl_nil (nrm_then ?_); refine cw_seq ?_; refine cw_region ?_; refine wl_m ?_; refine wl_val rfl (ex_build (vs := [(0, _)]) Try.build25 rfl (cells := [_, _, _, _, _, _, _, _, _]) rfl) ?_; refine wl_bslice (vs := [_]) rfl Try.slice23 rfl rfl rfl rfl fun b11 w1 hO2 hs3 hw4 => ?_; have hG5 := Ge.new (Evo.refl [] w) hs3; have hE6 := (Evo.refl [] w).then hw4; refine wl_a ?_; refine wl_nil (nrm_then ?_); refine cw_ret (body_ret1 rfl rfl ?_); rw [if_pos hc7]; exact ⟨kout_one hO2 (ot_leaf k2 _) (Fr.nil _) (hG5 _ rfl) hE6 (fun b hb => by cases hb) (Nat.le_refl _), hE6⟩
  ·skip
   refine cw_skip (nrm_then ?_); refine cw_seq ?_; refine cw_region ?_; refine wl_m ?_; refine wl_val rfl (ex_build (vs := [(0, _)]) Try.build25 rfl (cells := [_, _, _, _, _, _, _, _, _]) rfl) ?_; refine wl_bslice (vs := [_]) rfl Try.slice23 rfl rfl rfl rfl fun b11 w7 hO8 hs9 hw10 => ?_; have hG11 := Ge.new (Evo.refl [] w) hs9; have hE12 := (Evo.refl [] w).then hw10; refine wl_a ?_; refine wl_nil (nrm_then ?_); refine cw_ret (body_ret1 rfl rfl ?_); rw [if_neg (by simp [hc7])]; exact ⟨kout_one hO8 (ot_leaf k _) (Fr.nil _) (hG11 _ rfl) hE12 (fun b hb => by cases hb) (Nat.le_refl _), hE12⟩
end Go.Proofs.Ytljadkcojnlioaa
namespace Go.Proofs.Ytljadkcojnlioaa
open Go.Proofs
open Go.W Go.RowKit
attribute [local irreducible] Decidable.decide
set_option linter.unusedSimpArgs false
set_option linter.unusedVariables false
theorem Try.agg26 : aggB Try.prog 26 = some false := by kernel_rfl
theorem Try.agg38 : aggB Try.prog 38 = some true := by kernel_rfl
theorem Try.agg68 : aggB Try.prog 68 = some true := by kernel_rfl
theorem Try.fld41_4 : fieldB Try.prog 41 4 = some 7 := by kernel_rfl
theorem Try.size38 : sizeB Try.prog 38 = some 4 := by kernel_rfl
theorem Try.size68 : sizeB Try.prog 68 = some 9 := by kernel_rfl
theorem Try.zero79 : zeroB Try.prog 79 = some #[.string ByteArray.empty, .string ByteArray.empty] := by kernel_rfl
theorem RdAt.mk' {w : World} {b : Nat} {s : ByteArray} {st : PS} {a : Option Addr} {n c : Nat} {ob : Option Nat} (hn : n = st.names.length)
    (hb : w.heap[b]? = some (.cells #[.string s, iv (st.pos : Nat), .bool st.now.fold, .bool st.now.lines, .bool st.now.dots, .bool st.now.lazy, iv (st.opn : Nat), .slice a n c] 41 (0, 0)))
    (ho : OwnS w 9 1 a n c (st.names.map sv) ob) (hne : ∀ g, ob = some g → g ≠ b) : RdAt w b s st a c ob := by subst hn; exact ⟨hb, ho, hne⟩
theorem own_strs' {w : World} {e : TypeId} {a : Option Addr} {n c : Nat} {l : List ByteArray} {ob : Option Nat} (h : OwnS w e 1 a n c (l.map sv) ob) {k : Nat} (hk : k < l.length) : ∃ g, ob = some g ∧ a = some ⟨g, 0, none⟩ ∧ w.cell? ⟨g, 0 + k * 1, none⟩ = some (sv l[k]) := by
  have hl : l.length = n * 1 := by have := h.length; simpa using this
  obtain ⟨g, hg, ha, hc⟩ := h.cells (by omega)
  refine ⟨g, hg, ha, ?_⟩
  rw [Nat.mul_one]
  exact hc k _ (by simp [hk])
def Full (nm : ByteArray) (ns : List ByteArray) : Prop := ns.length = 100 ∨ (nm ≠ emp ∧ nm ∈ ns)
structure NgP (nm : ByteArray) (ns : List ByteArray) (k : Nat) : Prop where
  hk : k ≤ ns.length
  all : ∀ i (h : i < ns.length), i < k → nm = emp ∨ ns[i] ≠ nm
theorem ng_end {nm : ByteArray} {ns : List ByteArray} {k : Nat} (h : NgP nm ns k) (hk : ns.length ≤ k) (h1 : ns.length ≠ 100) : ¬ Full nm ns := by
  rintro (h2 | ⟨h2, h3⟩)
  · exact h1 h2
  · obtain ⟨i, hi, he⟩ := List.getElem_of_mem h3
    rcases h.all i hi (by omega) with h4 | h4
    · exact h2 h4
    · exact h4 he
theorem newGroup_ok {w : World} {b : Nat} {s : ByteArray} {st : PS} {a : Option Addr} {c : Nat} {ob : Option Nat} (hR : RdAt w b s st a c ob) (nm : ByteArray) (hnl : st.names.length ≤ 100) :
    Calls Try.prog 33 #[.pointer (some ⟨b, 0, none⟩), .string nm] w (RetP (fun v w' => ¬ Full nm st.names ∧ v = iv ((st.names.length : Int) + 1) ∧ Evo (b :: ob.toList) w w' ∧ ∃ a' c' ob', RdAt w' b s { st with names := st.names ++ [nm] } a' c' ob' ∧ (ob' = ob ∨ ∃ g, ob' = some g ∧ w.heap.size ≤ g)) (fun v w' => Full nm st.names ∧ v = flt 85 ∧ Evo [] w w')) := by
  have hap := hR.ap; refine calls_of_cw (N := 47) Try.func33 rfl rfl rfl ?_; refine cw_seq ?_; refine cw_region ?_; refine wl_a ?_; refine wl_nil (nrm_then ?_); refine cw_seq ?_; refine cw_seq ?_; refine cw_region ?_; refine wl_m ?_; refine wl_val rfl (ex_nilCheck rfl) ?_; refine wl_val rfl (ex_fieldAddr rfl Try.fld41_4) ?_; refine wl_val rfl (ex_load1 rfl Try.agg39 (cell_nth hR.blk rfl)) ?_; refine wl_val rfl (ex_len_slice rfl Try.underlying39 rfl) ?_; refine wl_val rfl (ex_eql rfl rfl) ?_; refine wl_nil (nrm_then ?_); refine cw_if rfl (fun hc12 => ?_) (fun hc12 => ?_)
  ·skip
   refine cw_region ?_; refine wl_callP1 (vs := [_]) Try.goes10 rfl (fail_ok 85) rfl ?_ ?_
   ·skip
    intro pv wp hpp; obtain ⟨rfl, hpw⟩ := hpp; exact And.intro rfl ⟨_, rfl, .inl (by omega), rfl, ((Evo.refl [] w)).then hpw⟩
   intro _ _ hF; exact hF.elim
  ·skip
   refine cw_skip (nrm_then ?_); refine cw_seq ?_; refine cw_seq ?_; refine cw_region ?_; refine wl_m ?_; refine wl_val rfl (ex_nilCheck rfl) ?_; refine wl_val rfl (ex_fieldAddr rfl Try.fld41_4) ?_; refine wl_val rfl (ex_load1 rfl Try.agg39 (cell_nth hR.blk rfl)) ?_; refine wl_val rfl (ex_len_slice rfl Try.underlying39 rfl) ?_; refine wl_m ?_; refine wl_nil (nrm_then ?_); refine cw_block ?_; refine cw_loop (α := Nat) (0) (fun k => [(19, .int .i64 (k : Nat))]) [(0, _), (1, _), (4, _), (17, _), (18, _)] (fun k wr => Evo [] w wr ∧ (NgP nm st.names k)) (fun k => st.names.length - k) ⟨rfl, trivial⟩ ⟨rfl, rfl, rfl, rfl, rfl, trivial⟩ ⟨Evo.refl _ _, ⟨Nat.zero_le _, fun i h h2 => by omega⟩⟩ ?_; rintro k wr3 ⟨hV4, hng⟩; show CW _ _ _ _ [(19, _), (0, _), (1, _), (4, _), (17, _), (18, _)] _; have hE5 := (Evo.refl [] w).then hV4; have hE6 := (Evo.refl (b :: ob.toList) w).then hV4; have hB7 := hV4.blk0 hR.blk; have hO8 := hR.own.evo0 hV4; have hngk := hng.hk; refine cw_seq ?_; refine cw_region ?_; refine wl_val rfl (ex_lss rfl rfl) ?_; refine wl_nil (nrm_then ?_); refine cw_seq ?_; refine cw_if rfl (fun hc20 => ?_) (fun hc20 => ?_)
   ·skip
    have hk' : k < st.names.length := by omega
    obtain ⟨g1, hg1, ha1, hc1⟩ := own_strs' hR.own hk'; refine cw_skip (nrm_then ?_); refine cw_seq ?_; refine cw_block ?_; refine cw_seq ?_; refine cw_region ?_; refine wl_val rfl (ex_indexAddrA (n := k) rfl rfl ha1 Try.elem39 (by omega)) ?_; refine wl_val rfl (ex_load1 rfl Try.agg9 ((hE5).cell hc1 (by simp))) ?_; refine wl_a ?_; refine wl_nil (nrm_then ?_); refine cw_seq ?_; refine cw_region ?_; refine wl_m ?_; refine wl_val rfl (ex_neqs rfl rfl) ?_; refine wl_m ?_; refine wl_split (t := 25) rfl (fun hs25 => ?_) (fun hs25 => ?_)
    ·skip
     refine wl_g ?_; refine wl_m ?_; refine wl_g ?_; refine wl_m ?_; refine wl_g ?_; refine wl_val rfl (ex_eqs rfl rfl) ?_; refine wl_pt ?_; refine wl_nil (nrm_then ?_); refine cw_if rfl (fun hc29 => ?_) (fun hc29 => ?_)
     ·skip
      refine cw_region ?_; refine wl_callP1 (vs := [_]) Try.goes10 rfl (fail_ok 85) rfl ?_ ?_
      ·skip
       intro pv wp hpp; obtain ⟨rfl, hpw⟩ := hpp; exact And.intro rfl ⟨_, rfl, .inr ⟨hs25, hc29 ▸ List.getElem_mem hk'⟩, rfl, (hE5).then hpw⟩
      intro _ _ hF; exact hF.elim
     ·skip
      refine cw_skip (nrm_block (nrm_then ?_)); refine cw_region ?_; refine wl_val rfl (ex_add_i64 rfl rfl (by omega) (by omega)) ?_; refine wl_m ?_; refine wl_nil (nrm_same ?_); refine ⟨k + 1, ?_, ⟨rfl, trivial⟩, ⟨rfl, rfl, rfl, rfl, rfl, trivial⟩, hV4, ?_⟩
      · omega
      ·skip
       refine ⟨hk', fun i h h2 => ?_⟩
       by_cases e : i = k
       · subst e; exact .inr hc29
       · exact hng.all i h (by omega)
    ·skip
     refine wl_n ?_; refine wl_n ?_; refine wl_n ?_; refine wl_pf ?_; refine wl_nil (nrm_then ?_); refine cw_false rfl ?_; refine cw_skip (nrm_block (nrm_then ?_)); refine cw_region ?_; refine wl_val rfl (ex_add_i64 rfl rfl (by omega) (by omega)) ?_; refine wl_m ?_; refine wl_nil (nrm_same ?_); refine ⟨k + 1, ?_, ⟨rfl, trivial⟩, ⟨rfl, rfl, rfl, rfl, rfl, trivial⟩, hV4, ?_⟩
     · omega
     ·skip
      refine ⟨hk', fun i h h2 => ?_⟩
      by_cases e : i = k
      · subst e; exact .inl (Classical.not_not.1 hs25)
      · exact hng.all i h (by omega)
   ·skip
    refine cw_exit (ex_then (ex_then (ex_here (nrm_then ?_)))); refine cw_seq ?_; refine cw_region ?_; refine wl_m ?_; refine wl_m ?_; refine wl_val rfl (ex_nilCheck rfl) ?_; refine wl_val rfl (ex_fieldAddr rfl Try.fld41_4) ?_; refine wl_val rfl (ex_load1 rfl Try.agg39 (cell_nth hB7 rfl)) ?_; refine wl_m ?_; refine wl_bslice (vs := [_]) rfl Try.slice39 rfl rfl rfl rfl fun b11 w12 hO13 hs14 hw15 => ?_; have hA16 := Apart.new (Lt.blk hB7) hs14; have hA17 := Apart.new (Lt.own hO8) hs14; have hG18 := Ge.new hE5 hs14; have hG19 := Ge.new hE6 hs14; have hG20 := Ge.new hV4 hs14; have hE21 := hE5.then hw15; have hE22 := hE6.then hw15; have hE23 := hV4.then hw15; have hB24 := hw15.blk0 hB7; have hO25 := hO8.evo0 hw15; have hx12 := hE21; refine wl_append rfl rfl rfl rfl Try.app39_39 hO25 (Src.ofOwn hO13 ⟨by first | rfl | assumption, trivial⟩) (by omega) fun a2 c2 w28 ob2 hO2 hw31 hob32 => ?_; have hA33 := hap.app (Lt.blk hB24) hob32; have hA34 := hA17.symm.app (Lt.own hO13) hob32; have hE36 := hE22.step hw31 (fun y hy => .inl (List.mem_cons_of_mem _ hy)); have hB38 := hw31.blk hB24 hap.nmem; have hO39 := hO13.evo hw31 hA17.symm.own; have hob2 := hob32; refine wl_val rfl (ex_nilCheck rfl) ?_; refine wl_val rfl (ex_fieldAddr rfl Try.fld41_4) ?_; refine wl_store1 rfl rfl (by first | rfl | assumption) Try.size39 hB38 rfl fun w40 hB41 hw42 => ?_
    have hE43 := hE36.step hw42 (fun y hy => .inl (by rw [List.mem_singleton.1 hy]; simp))
    have hO44 := hO39.evo hw42 hA16.symm.own1; have hO45 := hO2.evo hw42 hA33.symm.own1
    try simp only [List.setIfInBounds_toArray, List.set_cons_zero, List.set_cons_succ, Nat.reduceAdd, Nat.zero_add, Nat.add_zero] at hB41
    refine wl_nil (nrm_then ?_); refine cw_seq ?_; refine cw_region ?_; refine wl_m ?_; refine wl_val rfl (ex_nilCheck rfl) ?_; refine wl_val rfl (ex_fieldAddr rfl Try.fld41_4) ?_; refine wl_val rfl (ex_load1 rfl Try.agg39 (cell_nth hB41 rfl)) ?_; refine wl_val rfl (ex_len_slice rfl Try.underlying39 rfl) ?_; refine wl_a ?_; refine wl_nil (nrm_then ?_); refine cw_ret (bodyp_ret (body_ret1 rfl rfl ?_))
    refine ⟨ng_end hng (by omega) (by omega), by rfl, hE43, a2, c2, ob2, RdAt.mk' (by simp) hB41 (by rw [List.map_append]; exact hO45) (fun g hg e => (hA33) g (congrArg some e.symm) hg), ?_⟩
    rcases hob2 with h | ⟨g, h, h2⟩
    · exact .inl h
    · exact .inr ⟨g, h, Nat.le_trans hx12.size h2⟩
end Go.Proofs.Ytljadkcojnlioaa
namespace Go.Proofs.Ytljadkcojnlioaa
open Go.Proofs
open Go.W Go.RowKit
attribute [local irreducible] Decidable.decide
set_option linter.unusedSimpArgs false
set_option linter.unusedVariables false
theorem Try.fld38_1 : fieldB Try.prog 38 1 = some 1 := by kernel_rfl
theorem Try.fld38_2 : fieldB Try.prog 38 2 = some 2 := by kernel_rfl
theorem Try.fld38_3 : fieldB Try.prog 38 3 = some 3 := by kernel_rfl
theorem Try.fld68_0 : fieldB Try.prog 68 0 = some 0 := by kernel_rfl
theorem Try.fld68_2 : fieldB Try.prog 68 2 = some 2 := by kernel_rfl
theorem Try.fld68_4 : fieldB Try.prog 68 4 = some 7 := by kernel_rfl
theorem Try.fld68_5 : fieldB Try.prog 68 5 = some 8 := by kernel_rfl
theorem Try.size26 : sizeB Try.prog 26 = some 1 := by kernel_rfl
theorem Try.zero68 : zeroB Try.prog 68 = some #[.int .i64 0, .string ByteArray.empty, .bool false, .bool false, .bool false, .bool false, .bool false, .bool false, .int .i64 0] := by kernel_rfl
def opV (o : Opn) : Array Value := #[iv (o.size : Nat), .string o.name, .bool o.thn.fold, .bool o.thn.lines, .bool o.thn.dots, .bool o.thn.lazy, .bool o.capt, .bool o.sett, iv o.err]
section
variable {s : ByteArray} {i f j : Nat} {b m : Bool} {n : Int} {fl : Fl}
theorem ps_end (h : s.size ≤ j) : pSet s i f j b n m fl = ⟨0, emp, fl, false, false, 84⟩ := by
  cases f with
  | zero => rfl
  | succ f => rw [pSet, if_pos h]
theorem ps_i (h : j < s.size) (hc : sb s j = 105) : pSet s i (f + 1) j b n m fl = pSet s i f (j + 1) b (n + 1) m { fl with fold := b } := by rw [pSet, if_neg (by omega), if_pos hc]
theorem ps_m (h : j < s.size) (hc : sb s j = 109) : pSet s i (f + 1) j b n m fl = pSet s i f (j + 1) b (n + 1) m { fl with lines := b } := by rw [pSet, if_neg (by omega), if_neg (by omega), if_pos hc]
theorem ps_s (h : j < s.size) (hc : sb s j = 115) : pSet s i (f + 1) j b n m fl = pSet s i f (j + 1) b (n + 1) m { fl with dots := b } := by rw [pSet, if_neg (by omega), if_neg (by omega), if_neg (by omega), if_pos hc]
theorem ps_u (h : j < s.size) (hc : sb s j = 85) : pSet s i (f + 1) j b n m fl = pSet s i f (j + 1) b (n + 1) m { fl with lazy := b } := by rw [pSet, if_neg (by omega), if_neg (by omega), if_neg (by omega), if_neg (by omega), if_pos hc]
theorem ps_mm (h : j < s.size) (hc : sb s j = 45) : pSet s i (f + 1) j b n true fl = ⟨0, emp, fl, false, false, 84⟩ := by rw [pSet, if_neg (by omega), if_neg (by omega), if_neg (by omega), if_neg (by omega), if_neg (by omega), if_pos hc, if_pos rfl]
theorem ps_m1 (h : j < s.size) (hc : sb s j = 45) : pSet s i (f + 1) j b n false fl = pSet s i f (j + 1) false 0 true fl := by rw [pSet, if_neg (by omega), if_neg (by omega), if_neg (by omega), if_neg (by omega), if_neg (by omega), if_pos hc, if_neg (by simp)]
theorem ps_c (h : j < s.size) (hc : sb s j = 58 ∨ sb s j = 41) : pSet s i (f + 1) j b n m fl = ⟨j + 1 - i, emp, fl, false, decide (sb s j = 41), if n = 0 then 84 else 0⟩ := by rw [pSet, if_neg (by omega), if_neg (by omega), if_neg (by omega), if_neg (by omega), if_neg (by omega), if_neg (by omega), if_pos hc]
theorem ps_no (h : j < s.size) (h1 : ¬ sb s j = 105) (h2 : ¬ sb s j = 109) (h3 : ¬ sb s j = 115) (h4 : ¬ sb s j = 85) (h5 : ¬ sb s j = 45) (h6 : ¬ (sb s j = 58 ∨ sb s j = 41)) : pSet s i (f + 1) j b n m fl = ⟨0, emp, fl, false, false, 84⟩ := by rw [pSet, if_neg (by omega), if_neg h1, if_neg h2, if_neg h3, if_neg h4, if_neg h5, if_neg h6]
end
structure SeG where
  f : Nat
  k : Nat
  q : Bool
  n : Int
  m : Bool
  fl : Fl
structure SeI (w wr : World) (b3 b4 : Nat) (s : ByteArray) (i : Nat) (fl0 : Fl) (x : SeG) : Prop where
  hk : i + x.k ≤ s.size
  hf : s.size ≤ x.f + (i + x.k)
  n0 : 0 ≤ x.n
  n1 : x.n ≤ x.k
  eq : pSet s i s.size (i + 2) true 0 false fl0 = pSet s i x.f (i + x.k) x.q x.n x.m x.fl
  hb3 : wr.heap[b3]? = some (.cells #[iv 0, .string emp, .bool x.fl.fold, .bool x.fl.lines, .bool x.fl.dots, .bool x.fl.lazy, .bool false, .bool false, iv 0] 68 (0, 0))
  hb4 : wr.heap[b4]? = some (.cells #[iv 0, .string emp, .bool false, .bool false, .bool false, .bool false, .bool false, .bool false, iv 0] 68 (0, 0))
  g3 : Ge w (some b3)
  g4 : Ge w (some b4)
  a34 : Apart (some b3) (some b4)
theorem setting_ok {w : World} (s : ByteArray) (i : Nat) (fl0 : Fl) (hi : i + 2 ≤ s.size) (hs : s.size ≤ 1000000) :
    Calls Try.prog 43 #[.string (s.extract i s.size), .agg (opV ⟨0, emp, fl0, false, false, 0⟩)] w (Ret fun v w' => v = .agg (opV (pSet s i s.size (i + 2) true 0 false fl0)) ∧ Evo [] w w') := by
  have hrs := sub_sz (s := s) (a := i) (Nat.le_refl s.size); show Calls Try.prog 43 #[.string (s.extract i s.size), .agg #[iv 0, .string emp, .bool fl0.fold, .bool fl0.lines, .bool fl0.dots, .bool fl0.lazy, .bool false, .bool false, iv 0]] w _; refine calls_of_cw (N := 64) Try.func43 rfl rfl rfl ?_; refine cw_seq ?_; refine cw_region ?_; refine wl_boxA rfl rfl fun b3 w1 hB2 hs3 hw4 => ?_; have hsz_b3 := hs3; have hG5 := Ge.new (Evo.refl [] w) hs3; have hE6 := (Evo.refl [] w).then hw4; refine wl_alloc rfl Try.zero68 fun b4 w7 hB8 hs9 hw10 => ?_; have hsz_b4 := hs9; have hA11 := Apart.new (Lt.blk hB2) hs9; have hG12 := Ge.new hE6 hs9; have hE13 := hE6.then hw10; have hB14 := hw10.blk0 hB2; refine wl_nil (nrm_then ?_); refine cw_seq ?_; refine cw_region ?_; refine wl_a ?_; refine wl_a ?_; refine wl_a ?_; refine wl_nil (nrm_then ?_); refine cw_seq ?_; refine cw_seq ?_; refine cw_region ?_; refine wl_a ?_; refine wl_nil (nrm_then ?_); refine cw_block ?_
  refine cw_loop (α := SeG) (⟨s.size, 2, true, 0, false, fl0⟩) (fun x => [(8, .int .i64 (x.k : Nat)), (5, .bool x.q), (6, .int .i64 x.n), (7, .bool x.m)]) [(0, _), (3, _), (4, _)] (fun x wr => Evo [] w wr ∧ (SeI w wr b3 b4 s i fl0 x)) (fun x => x.f) ⟨rfl, rfl, rfl, rfl, trivial⟩ ⟨rfl, rfl, rfl, trivial⟩ ⟨hE13, ⟨hi, (by show s.size ≤ s.size + (i + 2); omega), Int.le_refl _, (by show (0 : Int) ≤ ((2 : Nat) : Int); omega), rfl, hB14, hB8, hG5, hG12, hA11⟩⟩ ?_
  rintro ⟨f, k, q, n, m, fl⟩ wr15 ⟨hV16, ⟨hk, hf, hn0, hn1, heq, hb3, hb4, hg3, hg4, ha34⟩⟩; show CW _ _ _ _ [(8, .int .i64 (k : Nat)), (5, .bool q), (6, .int .i64 n), (7, .bool m), (0, _), (3, _), (4, _)] _
  try dsimp only at hk
  try dsimp only at hf
  try dsimp only at hn0
  try dsimp only at hn1
  try dsimp only at heq
  try dsimp only at hb3
  try dsimp only at hb4
  try dsimp only at hg3
  try dsimp only at hg4
  try dsimp only at ha34
  refine cw_seq ?_; refine cw_seq ?_; refine cw_region ?_; refine wl_m ?_; refine wl_m ?_; refine wl_val rfl (ex_len_str rfl Try.underlying9 rfl) ?_; refine wl_val rfl (ex_lss rfl rfl) ?_; refine wl_nil (nrm_then ?_); refine cw_if rfl (fun hc12 => ?_) (fun hc12 => ?_)
  ·skip
   have hik : i + k < s.size := by omega
   have e0 : sb (s.extract i s.size) k = sb s (i + k) := sb_from hik; obtain ⟨f', rfl⟩ : ∃ f', f = f' + 1 := ⟨f - 1, by omega⟩; have hb9 := sb_lt s (i + k); refine cw_skip (nrm_then ?_); refine cw_seq ?_; refine cw_block ?_; refine cw_seq ?_; refine cw_seq ?_; refine cw_region ?_; refine wl_m ?_; refine wl_m ?_; refine wl_val rfl (ex_sidxE (n := k) rfl rfl Try.underlying9 rfl (by omega) e0) ?_; refine wl_nil (nrm_then ?_); refine cw_block ?_; refine cw_seq ?_; refine cw_region ?_; refine wl_val rfl (ex_eql rfl rfl) ?_; refine wl_a ?_; refine wl_nil (nrm_then ?_); refine cw_if rfl (fun hc20 => ?_) (fun hc20 => ?_)
   ·skip
    refine cw_region ?_; refine wl_m ?_; refine wl_val rfl (ex_fieldAddr rfl Try.fld68_2) ?_; refine wl_val rfl (ex_fieldAddr rfl Try.fld38_0) ?_; refine wl_store1 rfl rfl (by first | rfl | assumption) Try.size4 hb3 rfl fun w17 hB18 hw19 => ?_; have hE20 := hV16.step hw19 hg3.mem1; have hB21 := hw19.blk hb4 ha34.symm.nmem1
    try simp only [List.setIfInBounds_toArray, List.set_cons_zero, List.set_cons_succ, Nat.reduceAdd, Nat.zero_add, Nat.add_zero] at hB18
    refine wl_nil (nrm_block (nrm_then ?_)); refine cw_region ?_; refine wl_m ?_; refine wl_val rfl (ex_add_i64 rfl rfl (by omega) (by omega)) ?_; refine wl_a ?_; refine wl_nil (nrm_block (nrm_then ?_)); refine cw_region ?_; refine wl_m ?_; refine wl_val rfl (ex_add_i64 rfl rfl (by omega) (by omega)) ?_; refine wl_a ?_; refine wl_nil (nrm_same ?_); refine ⟨⟨f', k + 1, q, n + 1, m, { fl with fold := q }⟩, ?_, ⟨rfl, rfl, rfl, rfl, trivial⟩, ⟨rfl, rfl, rfl, trivial⟩, hE20, ?_⟩
    · (try dsimp only); show f' < f' + 1; omega
    ·skip
     try dsimp only
     exact ⟨(by show i + (k + 1) ≤ s.size; omega), (by show s.size ≤ f' + (i + (k + 1)); omega), (by show 0 ≤ n + 1; omega), (by show n + 1 ≤ ((k + 1 : Nat) : Int); omega), heq.trans (ps_i (by omega) (by omega)), hB18, hB21, hg3, hg4, ha34⟩
   ·skip
    refine cw_seq ?_; refine cw_region ?_; refine wl_val rfl (ex_eql rfl rfl) ?_; refine wl_a ?_; refine wl_nil (nrm_then ?_); refine cw_if rfl (fun hc25 => ?_) (fun hc25 => ?_)
    ·skip
     refine cw_region ?_; refine wl_m ?_; refine wl_val rfl (ex_fieldAddr rfl Try.fld68_2) ?_; refine wl_val rfl (ex_fieldAddr rfl Try.fld38_1) ?_; refine wl_store1 rfl rfl (by first | rfl | assumption) Try.size4 hb3 rfl fun w22 hB23 hw24 => ?_; have hE25 := hV16.step hw24 hg3.mem1; have hB26 := hw24.blk hb4 ha34.symm.nmem1
     try simp only [List.setIfInBounds_toArray, List.set_cons_zero, List.set_cons_succ, Nat.reduceAdd, Nat.zero_add, Nat.add_zero] at hB23
     refine wl_nil (nrm_block (nrm_then ?_)); refine cw_region ?_; refine wl_m ?_; refine wl_val rfl (ex_add_i64 rfl rfl (by omega) (by omega)) ?_; refine wl_a ?_; refine wl_nil (nrm_block (nrm_then ?_)); refine cw_region ?_; refine wl_m ?_; refine wl_val rfl (ex_add_i64 rfl rfl (by omega) (by omega)) ?_; refine wl_a ?_; refine wl_nil (nrm_same ?_); refine ⟨⟨f', k + 1, q, n + 1, m, { fl with lines := q }⟩, ?_, ⟨rfl, rfl, rfl, rfl, trivial⟩, ⟨rfl, rfl, rfl, trivial⟩, hE25, ?_⟩
     · (try dsimp only); show f' < f' + 1; omega
     ·skip
      try dsimp only
      exact ⟨(by show i + (k + 1) ≤ s.size; omega), (by show s.size ≤ f' + (i + (k + 1)); omega), (by show 0 ≤ n + 1; omega), (by show n + 1 ≤ ((k + 1 : Nat) : Int); omega), heq.trans (ps_m (by omega) (by omega)), hB23, hB26, hg3, hg4, ha34⟩
    ·skip
     refine cw_seq ?_; refine cw_region ?_; refine wl_val rfl (ex_eql rfl rfl) ?_; refine wl_a ?_; refine wl_nil (nrm_then ?_); refine cw_if rfl (fun hc30 => ?_) (fun hc30 => ?_)
     ·skip
      refine cw_region ?_; refine wl_m ?_; refine wl_val rfl (ex_fieldAddr rfl Try.fld68_2) ?_; refine wl_val rfl (ex_fieldAddr rfl Try.fld38_2) ?_; refine wl_store1 rfl rfl (by first | rfl | assumption) Try.size4 hb3 rfl fun w27 hB28 hw29 => ?_; have hE30 := hV16.step hw29 hg3.mem1; have hB31 := hw29.blk hb4 ha34.symm.nmem1
      try simp only [List.setIfInBounds_toArray, List.set_cons_zero, List.set_cons_succ, Nat.reduceAdd, Nat.zero_add, Nat.add_zero] at hB28
      refine wl_nil (nrm_block (nrm_then ?_)); refine cw_region ?_; refine wl_m ?_; refine wl_val rfl (ex_add_i64 rfl rfl (by omega) (by omega)) ?_; refine wl_a ?_; refine wl_nil (nrm_block (nrm_then ?_)); refine cw_region ?_; refine wl_m ?_; refine wl_val rfl (ex_add_i64 rfl rfl (by omega) (by omega)) ?_; refine wl_a ?_; refine wl_nil (nrm_same ?_); refine ⟨⟨f', k + 1, q, n + 1, m, { fl with dots := q }⟩, ?_, ⟨rfl, rfl, rfl, rfl, trivial⟩, ⟨rfl, rfl, rfl, trivial⟩, hE30, ?_⟩
      · (try dsimp only); show f' < f' + 1; omega
      ·skip
       try dsimp only
       exact ⟨(by show i + (k + 1) ≤ s.size; omega), (by show s.size ≤ f' + (i + (k + 1)); omega), (by show 0 ≤ n + 1; omega), (by show n + 1 ≤ ((k + 1 : Nat) : Int); omega), heq.trans (ps_s (by omega) (by omega)), hB28, hB31, hg3, hg4, ha34⟩
     ·skip
      refine cw_seq ?_; refine cw_region ?_; refine wl_val rfl (ex_eql rfl rfl) ?_; refine wl_a ?_; refine wl_nil (nrm_then ?_); refine cw_if rfl (fun hc35 => ?_) (fun hc35 => ?_)
      ·skip
       refine cw_region ?_; refine wl_m ?_; refine wl_val rfl (ex_fieldAddr rfl Try.fld68_2) ?_; refine wl_val rfl (ex_fieldAddr rfl Try.fld38_3) ?_; refine wl_store1 rfl rfl (by first | rfl | assumption) Try.size4 hb3 rfl fun w32 hB33 hw34 => ?_; have hE35 := hV16.step hw34 hg3.mem1; have hB36 := hw34.blk hb4 ha34.symm.nmem1
       try simp only [List.setIfInBounds_toArray, List.set_cons_zero, List.set_cons_succ, Nat.reduceAdd, Nat.zero_add, Nat.add_zero] at hB33
       refine wl_nil (nrm_block (nrm_then ?_)); refine cw_region ?_; refine wl_m ?_; refine wl_val rfl (ex_add_i64 rfl rfl (by omega) (by omega)) ?_; refine wl_a ?_; refine wl_nil (nrm_block (nrm_then ?_)); refine cw_region ?_; refine wl_m ?_; refine wl_val rfl (ex_add_i64 rfl rfl (by omega) (by omega)) ?_; refine wl_a ?_; refine wl_nil (nrm_same ?_); refine ⟨⟨f', k + 1, q, n + 1, m, { fl with lazy := q }⟩, ?_, ⟨rfl, rfl, rfl, rfl, trivial⟩, ⟨rfl, rfl, rfl, trivial⟩, hE35, ?_⟩
       · (try dsimp only); show f' < f' + 1; omega
       ·skip
        try dsimp only
        exact ⟨(by show i + (k + 1) ≤ s.size; omega), (by show s.size ≤ f' + (i + (k + 1)); omega), (by show 0 ≤ n + 1; omega), (by show n + 1 ≤ ((k + 1 : Nat) : Int); omega), heq.trans (ps_u (by omega) (by omega)), hB33, hB36, hg3, hg4, ha34⟩
      ·skip
       refine cw_seq ?_; refine cw_region ?_; refine wl_val rfl (ex_eql rfl rfl) ?_; refine wl_a ?_; refine wl_nil (nrm_then ?_); refine cw_if rfl (fun hc40 => ?_) (fun hc40 => ?_)
       ·skip
        refine cw_seq ?_; refine cw_seq ?_; refine cw_region ?_; refine wl_m ?_; refine wl_nil (nrm_then ?_); refine cw_ifb rfl (fun hc42 => ?_) (fun hc42 => ?_)
        ·skip
         subst hc42; refine cw_seq ?_; refine cw_region ?_; refine wl_val rfl (ex_fieldAddr rfl Try.fld68_5) ?_; refine wl_store1 rfl rfl (by first | rfl | assumption) Try.size26 hb3 rfl fun w37 hB38 hw39 => ?_; have hE40 := hV16.step hw39 hg3.mem1; have hB41 := hw39.blk hb4 ha34.symm.nmem1
         try simp only [List.setIfInBounds_toArray, List.set_cons_zero, List.set_cons_succ, Nat.reduceAdd, Nat.zero_add, Nat.add_zero] at hB38
         refine wl_nil (nrm_then ?_); refine cw_seq ?_; refine cw_region ?_; refine wl_val rfl (ex_loadBlk rfl Try.agg68 Try.size68 hB38 rfl) ?_; refine wl_storeBlk rfl rfl Try.size68 hB41 rfl rfl ⟨by first | rfl | assumption, by first | rfl | assumption, by first | rfl | assumption, by first | rfl | assumption, by first | rfl | assumption, by first | rfl | assumption, by first | rfl | assumption, by first | rfl | assumption, by first | rfl | assumption, trivial⟩ fun w42 hB43 hw44 => ?_; have hE45 := hE40.step hw44 hg4.mem1; have hB46 := hw44.blk hB38 ha34.nmem1
         try simp only [List.setIfInBounds_toArray, List.set_cons_zero, List.set_cons_succ, Nat.reduceAdd, Nat.zero_add, Nat.add_zero] at hB43
         refine wl_nil (nrm_then ?_); refine cw_ret (ret_then (ret_block (ret_then (ret_block (ret_then (ret_then (ret_block (ret_then (body_retC1 rfl (ResOk.cellA rfl Try.agg68 Try.size68 hB43 rfl) ?_))))))))); have hfin := heq.trans (ps_mm (by omega) (by omega)); rw [hfin]; exact ⟨rfl, hE45⟩
        ·skip
         subst hc42; refine cw_skip (nrm_then ?_); refine cw_region ?_; refine wl_a ?_; refine wl_a ?_; refine wl_a ?_; refine wl_nil (nrm_block (nrm_then ?_)); refine cw_region ?_; refine wl_m ?_; refine wl_val rfl (ex_add_i64 rfl rfl (by omega) (by omega)) ?_; refine wl_a ?_; refine wl_nil (nrm_block (nrm_then ?_)); refine cw_region ?_; refine wl_m ?_; refine wl_val rfl (ex_add_i64 rfl rfl (by omega) (by omega)) ?_; refine wl_a ?_; refine wl_nil (nrm_same ?_); refine ⟨⟨f', k + 1, false, 0, true, fl⟩, ?_, ⟨rfl, rfl, rfl, rfl, trivial⟩, ⟨rfl, rfl, rfl, trivial⟩, hV16, ?_⟩
         · (try dsimp only); show f' < f' + 1; omega
         ·skip
          try dsimp only
          exact ⟨(by show i + (k + 1) ≤ s.size; omega), (by show s.size ≤ f' + (i + (k + 1)); omega), Int.le_refl _, (by show (0 : Int) ≤ ((k + 1 : Nat) : Int); omega), heq.trans (ps_m1 (by omega) (by omega)), hb3, hb4, hg3, hg4, ha34⟩
       ·skip
        refine cw_seq ?_; refine cw_seq ?_; refine cw_region ?_; refine wl_val rfl (ex_eql rfl rfl) ?_; refine wl_a ?_; refine wl_nil (nrm_then ?_); refine cw_if rfl (fun hc45 => ?_) (fun hc45 => ?_)
        ·skip
         refine cw_skip (nrm_then ?_); refine cw_if rfl (fun hc45 => ?_) (fun hc45 => ?_)
         ·skip
          refine cw_seq ?_; refine cw_seq ?_; refine cw_region ?_; refine wl_m ?_; refine wl_val rfl (ex_eql rfl rfl) ?_; refine wl_nil (nrm_then ?_); refine cw_if rfl (fun hc49 => ?_) (fun hc49 => ?_)
          ·skip
           refine cw_region ?_; refine wl_val rfl (ex_fieldAddr rfl Try.fld68_5) ?_; refine wl_store1 rfl rfl (by first | rfl | assumption) Try.size26 hb3 rfl fun w47 hB48 hw49 => ?_; have hE50 := hV16.step hw49 hg3.mem1; have hB51 := hw49.blk hb4 ha34.symm.nmem1
           try simp only [List.setIfInBounds_toArray, List.set_cons_zero, List.set_cons_succ, Nat.reduceAdd, Nat.zero_add, Nat.add_zero] at hB48
           refine wl_nil (nrm_then ?_); refine cw_seq ?_; refine cw_any (fun w0 w' => Evo [b3] w0 w') (by kernel_rfl) (fun w52 hw53 => ?_); have hE54 := hE50.then hw53; have hB55 := hw53.blk0 hB48; have hB56 := hw53.blk0 hB51; refine ae_take 0 rfl (by kernel_rfl) (by kernel_rfl) (by kernel_rfl) rfl (fun _ hS => ex_move rfl) (Evo.refl [b3] w52) ?_; refine ae_take 1 rfl (by kernel_rfl) (by kernel_rfl) (by kernel_rfl) rfl (fun _ hS => ex_add_i64 rfl rfl (by omega) (by omega)) (Evo.refl [b3] w52) ?_; refine ae_take 2 rfl (by kernel_rfl) (by kernel_rfl) (by kernel_rfl) rfl (fun _ hS => ex_move rfl) (Evo.refl [b3] w52) ?_; refine ae_take 3 rfl (by kernel_rfl) (by kernel_rfl) (by kernel_rfl) rfl (fun _ hS => ex_move rfl) (Evo.refl [b3] w52) ?_; refine ae_take 4 rfl (by kernel_rfl) (by kernel_rfl) (by kernel_rfl) rfl (fun _ hS => ex_sidxE (n := k) rfl rfl Try.underlying9 rfl (by omega) e0) (Evo.refl [b3] w52) ?_; refine ae_take 5 rfl (by kernel_rfl) (by kernel_rfl) (by kernel_rfl) rfl (fun _ hS => ex_eql rfl rfl) (Evo.refl [b3] w52) ?_; refine ae_take 6 rfl (by kernel_rfl) (by kernel_rfl) (by kernel_rfl) rfl (fun _ hS => ex_fieldAddr rfl Try.fld68_0) (Evo.refl [b3] w52) ?_; refine ae_loud [7] (by kernel_rfl) rfl ⟨?_, trivial⟩; refine a_step rfl ?_; refine wl_store1 rfl rfl (by first | rfl | assumption) Try.size3 hB55 rfl fun w57 hB58 hw59 => ?_; have hE60 := hE54.step hw59 hg3.mem1; have hE61 := (Evo.refl [b3] w52).step hw59 (fun y hy => .inl hy); have hB62 := hw59.blk hB56 ha34.symm.nmem1
           try simp only [List.setIfInBounds_toArray, List.set_cons_zero, List.set_cons_succ, Nat.reduceAdd, Nat.zero_add, Nat.add_zero] at hB58
           refine wl_nil (ae_next (.inl hE61) ?_); refine ae_take 8 rfl (by kernel_rfl) (by kernel_rfl) (by kernel_rfl) rfl (fun _ hS => ex_fieldAddr rfl Try.fld68_4) hE61 ?_; refine ae_loud [9] (by kernel_rfl) rfl ⟨?_, trivial⟩; refine a_step rfl ?_; refine wl_store1 rfl rfl (by first | rfl | assumption) Try.size4 hB58 rfl fun w63 hB64 hw65 => ?_; have hE66 := hE60.step hw65 hg3.mem1; have hE67 := hE61.step hw65 (fun y hy => .inl hy); have hB68 := hw65.blk hB62 ha34.symm.nmem1
           try simp only [List.setIfInBounds_toArray, List.set_cons_zero, List.set_cons_succ, Nat.reduceAdd, Nat.zero_add, Nat.add_zero] at hB64
           refine wl_nil (ae_next (.inl hE67) ?_); refine ae_done (by kernel_rfl) (nrm_then ?_); refine cw_seq ?_; refine cw_region ?_; refine wl_val rfl (ex_loadBlk rfl Try.agg68 Try.size68 hB64 rfl) ?_; refine wl_storeBlk rfl rfl Try.size68 hB68 rfl rfl ⟨by first | rfl | assumption, by first | rfl | assumption, by first | rfl | assumption, by first | rfl | assumption, by first | rfl | assumption, by first | rfl | assumption, by first | rfl | assumption, by first | rfl | assumption, by first | rfl | assumption, trivial⟩ fun w69 hB70 hw71 => ?_; have hE72 := hE66.step hw71 hg4.mem1; have hB73 := hw71.blk hB64 ha34.nmem1
           try simp only [List.setIfInBounds_toArray, List.set_cons_zero, List.set_cons_succ, Nat.reduceAdd, Nat.zero_add, Nat.add_zero] at hB70
           refine wl_nil (nrm_then ?_); refine cw_ret (ret_block (ret_then (ret_block (ret_then (ret_then (ret_block (ret_then (body_retC1 rfl (ResOk.cellA rfl Try.agg68 Try.size68 hB70 rfl) ?_)))))))); have hfin := heq.trans (ps_c (by omega) (by omega)); rw [if_pos hc49] at hfin; rw [hfin]
           have e1 : (((i + k + 1 - i : Nat)) : Int) = (k : Int) + 1 := by omega
           have e2 : decide (((sb s (i + k) : Nat) : Int) = 41) = decide (sb s (i + k) = 41) := decide_eq_decide.2 (by omega); refine ⟨?_, hE72⟩; simp only [opV, e1, e2]
          ·skip
           refine cw_skip (nrm_then ?_); refine cw_seq ?_; refine cw_any (fun w0 w' => Evo [b3] w0 w') (by kernel_rfl) (fun w74 hw75 => ?_); have hE76 := hV16.then hw75; have hB77 := hw75.blk0 hb3; have hB78 := hw75.blk0 hb4; refine ae_take 0 rfl (by kernel_rfl) (by kernel_rfl) (by kernel_rfl) rfl (fun _ hS => ex_move rfl) (Evo.refl [b3] w74) ?_; refine ae_take 1 rfl (by kernel_rfl) (by kernel_rfl) (by kernel_rfl) rfl (fun _ hS => ex_add_i64 rfl rfl (by omega) (by omega)) (Evo.refl [b3] w74) ?_; refine ae_take 2 rfl (by kernel_rfl) (by kernel_rfl) (by kernel_rfl) rfl (fun _ hS => ex_move rfl) (Evo.refl [b3] w74) ?_; refine ae_take 3 rfl (by kernel_rfl) (by kernel_rfl) (by kernel_rfl) rfl (fun _ hS => ex_move rfl) (Evo.refl [b3] w74) ?_; refine ae_take 4 rfl (by kernel_rfl) (by kernel_rfl) (by kernel_rfl) rfl (fun _ hS => ex_sidxE (n := k) rfl rfl Try.underlying9 rfl (by omega) e0) (Evo.refl [b3] w74) ?_; refine ae_take 5 rfl (by kernel_rfl) (by kernel_rfl) (by kernel_rfl) rfl (fun _ hS => ex_eql rfl rfl) (Evo.refl [b3] w74) ?_; refine ae_take 6 rfl (by kernel_rfl) (by kernel_rfl) (by kernel_rfl) rfl (fun _ hS => ex_fieldAddr rfl Try.fld68_0) (Evo.refl [b3] w74) ?_; refine ae_loud [7] (by kernel_rfl) rfl ⟨?_, trivial⟩; refine a_step rfl ?_; refine wl_store1 rfl rfl (by first | rfl | assumption) Try.size3 hB77 rfl fun w79 hB80 hw81 => ?_; have hE82 := hE76.step hw81 hg3.mem1; have hE83 := (Evo.refl [b3] w74).step hw81 (fun y hy => .inl hy); have hB84 := hw81.blk hB78 ha34.symm.nmem1
           try simp only [List.setIfInBounds_toArray, List.set_cons_zero, List.set_cons_succ, Nat.reduceAdd, Nat.zero_add, Nat.add_zero] at hB80
           refine wl_nil (ae_next (.inl hE83) ?_); refine ae_take 8 rfl (by kernel_rfl) (by kernel_rfl) (by kernel_rfl) rfl (fun _ hS => ex_fieldAddr rfl Try.fld68_4) hE83 ?_; refine ae_loud [9] (by kernel_rfl) rfl ⟨?_, trivial⟩; refine a_step rfl ?_; refine wl_store1 rfl rfl (by first | rfl | assumption) Try.size4 hB80 rfl fun w85 hB86 hw87 => ?_; have hE88 := hE82.step hw87 hg3.mem1; have hE89 := hE83.step hw87 (fun y hy => .inl hy); have hB90 := hw87.blk hB84 ha34.symm.nmem1
           try simp only [List.setIfInBounds_toArray, List.set_cons_zero, List.set_cons_succ, Nat.reduceAdd, Nat.zero_add, Nat.add_zero] at hB86
           refine wl_nil (ae_next (.inl hE89) ?_); refine ae_done (by kernel_rfl) (nrm_then ?_); refine cw_seq ?_; refine cw_region ?_; refine wl_val rfl (ex_loadBlk rfl Try.agg68 Try.size68 hB86 rfl) ?_; refine wl_storeBlk rfl rfl Try.size68 hB90 rfl rfl ⟨by first | rfl | assumption, by first | rfl | assumption, by first | rfl | assumption, by first | rfl | assumption, by first | rfl | assumption, by first | rfl | assumption, by first | rfl | assumption, by first | rfl | assumption, by first | rfl | assumption, trivial⟩ fun w91 hB92 hw93 => ?_; have hE94 := hE88.step hw93 hg4.mem1; have hB95 := hw93.blk hB86 ha34.nmem1
           try simp only [List.setIfInBounds_toArray, List.set_cons_zero, List.set_cons_succ, Nat.reduceAdd, Nat.zero_add, Nat.add_zero] at hB92
           refine wl_nil (nrm_then ?_); refine cw_ret (ret_block (ret_then (ret_block (ret_then (ret_then (ret_block (ret_then (body_retC1 rfl (ResOk.cellA rfl Try.agg68 Try.size68 hB92 rfl) ?_)))))))); have hfin := heq.trans (ps_c (by omega) (by omega)); rw [if_neg hc49] at hfin; rw [hfin]
           have e1 : (((i + k + 1 - i : Nat)) : Int) = (k : Int) + 1 := by omega
           have e2 : decide (((sb s (i + k) : Nat) : Int) = 41) = decide (sb s (i + k) = 41) := decide_eq_decide.2 (by omega); refine ⟨?_, hE94⟩; simp only [opV, e1, e2]
         ·skip
          exfalso; omega
        ·skip
         refine cw_region ?_; refine wl_val rfl (ex_eql rfl rfl) ?_; refine wl_a ?_; refine wl_nil (nrm_then ?_); refine cw_if rfl (fun hc45 => ?_) (fun hc45 => ?_)
         ·skip
          refine cw_seq ?_; refine cw_seq ?_; refine cw_region ?_; refine wl_m ?_; refine wl_val rfl (ex_eql rfl rfl) ?_; refine wl_nil (nrm_then ?_); refine cw_if rfl (fun hc49 => ?_) (fun hc49 => ?_)
          ·skip
           refine cw_region ?_; refine wl_val rfl (ex_fieldAddr rfl Try.fld68_5) ?_; refine wl_store1 rfl rfl (by first | rfl | assumption) Try.size26 hb3 rfl fun w96 hB97 hw98 => ?_; have hE99 := hV16.step hw98 hg3.mem1; have hB100 := hw98.blk hb4 ha34.symm.nmem1
           try simp only [List.setIfInBounds_toArray, List.set_cons_zero, List.set_cons_succ, Nat.reduceAdd, Nat.zero_add, Nat.add_zero] at hB97
           refine wl_nil (nrm_then ?_); refine cw_seq ?_; refine cw_any (fun w0 w' => Evo [b3] w0 w') (by kernel_rfl) (fun w101 hw102 => ?_); have hE103 := hE99.then hw102; have hB104 := hw102.blk0 hB97; have hB105 := hw102.blk0 hB100; refine ae_take 0 rfl (by kernel_rfl) (by kernel_rfl) (by kernel_rfl) rfl (fun _ hS => ex_move rfl) (Evo.refl [b3] w101) ?_; refine ae_take 1 rfl (by kernel_rfl) (by kernel_rfl) (by kernel_rfl) rfl (fun _ hS => ex_add_i64 rfl rfl (by omega) (by omega)) (Evo.refl [b3] w101) ?_; refine ae_take 2 rfl (by kernel_rfl) (by kernel_rfl) (by kernel_rfl) rfl (fun _ hS => ex_move rfl) (Evo.refl [b3] w101) ?_; refine ae_take 3 rfl (by kernel_rfl) (by kernel_rfl) (by kernel_rfl) rfl (fun _ hS => ex_move rfl) (Evo.refl [b3] w101) ?_; refine ae_take 4 rfl (by kernel_rfl) (by kernel_rfl) (by kernel_rfl) rfl (fun _ hS => ex_sidxE (n := k) rfl rfl Try.underlying9 rfl (by omega) e0) (Evo.refl [b3] w101) ?_; refine ae_take 5 rfl (by kernel_rfl) (by kernel_rfl) (by kernel_rfl) rfl (fun _ hS => ex_eql rfl rfl) (Evo.refl [b3] w101) ?_; refine ae_take 6 rfl (by kernel_rfl) (by kernel_rfl) (by kernel_rfl) rfl (fun _ hS => ex_fieldAddr rfl Try.fld68_0) (Evo.refl [b3] w101) ?_; refine ae_loud [7] (by kernel_rfl) rfl ⟨?_, trivial⟩; refine a_step rfl ?_; refine wl_store1 rfl rfl (by first | rfl | assumption) Try.size3 hB104 rfl fun w106 hB107 hw108 => ?_; have hE109 := hE103.step hw108 hg3.mem1; have hE110 := (Evo.refl [b3] w101).step hw108 (fun y hy => .inl hy); have hB111 := hw108.blk hB105 ha34.symm.nmem1
           try simp only [List.setIfInBounds_toArray, List.set_cons_zero, List.set_cons_succ, Nat.reduceAdd, Nat.zero_add, Nat.add_zero] at hB107
           refine wl_nil (ae_next (.inl hE110) ?_); refine ae_take 8 rfl (by kernel_rfl) (by kernel_rfl) (by kernel_rfl) rfl (fun _ hS => ex_fieldAddr rfl Try.fld68_4) hE110 ?_; refine ae_loud [9] (by kernel_rfl) rfl ⟨?_, trivial⟩; refine a_step rfl ?_; refine wl_store1 rfl rfl (by first | rfl | assumption) Try.size4 hB107 rfl fun w112 hB113 hw114 => ?_; have hE115 := hE109.step hw114 hg3.mem1; have hE116 := hE110.step hw114 (fun y hy => .inl hy); have hB117 := hw114.blk hB111 ha34.symm.nmem1
           try simp only [List.setIfInBounds_toArray, List.set_cons_zero, List.set_cons_succ, Nat.reduceAdd, Nat.zero_add, Nat.add_zero] at hB113
           refine wl_nil (ae_next (.inl hE116) ?_); refine ae_done (by kernel_rfl) (nrm_then ?_); refine cw_seq ?_; refine cw_region ?_; refine wl_val rfl (ex_loadBlk rfl Try.agg68 Try.size68 hB113 rfl) ?_; refine wl_storeBlk rfl rfl Try.size68 hB117 rfl rfl ⟨by first | rfl | assumption, by first | rfl | assumption, by first | rfl | assumption, by first | rfl | assumption, by first | rfl | assumption, by first | rfl | assumption, by first | rfl | assumption, by first | rfl | assumption, by first | rfl | assumption, trivial⟩ fun w118 hB119 hw120 => ?_; have hE121 := hE115.step hw120 hg4.mem1; have hB122 := hw120.blk hB113 ha34.nmem1
           try simp only [List.setIfInBounds_toArray, List.set_cons_zero, List.set_cons_succ, Nat.reduceAdd, Nat.zero_add, Nat.add_zero] at hB119
           refine wl_nil (nrm_then ?_); refine cw_ret (ret_block (ret_then (ret_block (ret_then (ret_then (ret_block (ret_then (body_retC1 rfl (ResOk.cellA rfl Try.agg68 Try.size68 hB119 rfl) ?_)))))))); have hfin := heq.trans (ps_c (by omega) (by omega)); rw [if_pos hc49] at hfin; rw [hfin]
           have e1 : (((i + k + 1 - i : Nat)) : Int) = (k : Int) + 1 := by omega
           have e2 : decide (((sb s (i + k) : Nat) : Int) = 41) = decide (sb s (i + k) = 41) := decide_eq_decide.2 (by omega); refine ⟨?_, hE121⟩; simp only [opV, e1, e2]
          ·skip
           refine cw_skip (nrm_then ?_); refine cw_seq ?_; refine cw_any (fun w0 w' => Evo [b3] w0 w') (by kernel_rfl) (fun w123 hw124 => ?_); have hE125 := hV16.then hw124; have hB126 := hw124.blk0 hb3; have hB127 := hw124.blk0 hb4; refine ae_take 0 rfl (by kernel_rfl) (by kernel_rfl) (by kernel_rfl) rfl (fun _ hS => ex_move rfl) (Evo.refl [b3] w123) ?_; refine ae_take 1 rfl (by kernel_rfl) (by kernel_rfl) (by kernel_rfl) rfl (fun _ hS => ex_add_i64 rfl rfl (by omega) (by omega)) (Evo.refl [b3] w123) ?_; refine ae_take 2 rfl (by kernel_rfl) (by kernel_rfl) (by kernel_rfl) rfl (fun _ hS => ex_move rfl) (Evo.refl [b3] w123) ?_; refine ae_take 3 rfl (by kernel_rfl) (by kernel_rfl) (by kernel_rfl) rfl (fun _ hS => ex_move rfl) (Evo.refl [b3] w123) ?_; refine ae_take 4 rfl (by kernel_rfl) (by kernel_rfl) (by kernel_rfl) rfl (fun _ hS => ex_sidxE (n := k) rfl rfl Try.underlying9 rfl (by omega) e0) (Evo.refl [b3] w123) ?_; refine ae_take 5 rfl (by kernel_rfl) (by kernel_rfl) (by kernel_rfl) rfl (fun _ hS => ex_eql rfl rfl) (Evo.refl [b3] w123) ?_; refine ae_take 6 rfl (by kernel_rfl) (by kernel_rfl) (by kernel_rfl) rfl (fun _ hS => ex_fieldAddr rfl Try.fld68_0) (Evo.refl [b3] w123) ?_; refine ae_loud [7] (by kernel_rfl) rfl ⟨?_, trivial⟩; refine a_step rfl ?_; refine wl_store1 rfl rfl (by first | rfl | assumption) Try.size3 hB126 rfl fun w128 hB129 hw130 => ?_; have hE131 := hE125.step hw130 hg3.mem1; have hE132 := (Evo.refl [b3] w123).step hw130 (fun y hy => .inl hy); have hB133 := hw130.blk hB127 ha34.symm.nmem1
           try simp only [List.setIfInBounds_toArray, List.set_cons_zero, List.set_cons_succ, Nat.reduceAdd, Nat.zero_add, Nat.add_zero] at hB129
           refine wl_nil (ae_next (.inl hE132) ?_); refine ae_take 8 rfl (by kernel_rfl) (by kernel_rfl) (by kernel_rfl) rfl (fun _ hS => ex_fieldAddr rfl Try.fld68_4) hE132 ?_; refine ae_loud [9] (by kernel_rfl) rfl ⟨?_, trivial⟩; refine a_step rfl ?_; refine wl_store1 rfl rfl (by first | rfl | assumption) Try.size4 hB129 rfl fun w134 hB135 hw136 => ?_; have hE137 := hE131.step hw136 hg3.mem1; have hE138 := hE132.step hw136 (fun y hy => .inl hy); have hB139 := hw136.blk hB133 ha34.symm.nmem1
           try simp only [List.setIfInBounds_toArray, List.set_cons_zero, List.set_cons_succ, Nat.reduceAdd, Nat.zero_add, Nat.add_zero] at hB135
           refine wl_nil (ae_next (.inl hE138) ?_); refine ae_done (by kernel_rfl) (nrm_then ?_); refine cw_seq ?_; refine cw_region ?_; refine wl_val rfl (ex_loadBlk rfl Try.agg68 Try.size68 hB135 rfl) ?_; refine wl_storeBlk rfl rfl Try.size68 hB139 rfl rfl ⟨by first | rfl | assumption, by first | rfl | assumption, by first | rfl | assumption, by first | rfl | assumption, by first | rfl | assumption, by first | rfl | assumption, by first | rfl | assumption, by first | rfl | assumption, by first | rfl | assumption, trivial⟩ fun w140 hB141 hw142 => ?_; have hE143 := hE137.step hw142 hg4.mem1; have hB144 := hw142.blk hB135 ha34.nmem1
           try simp only [List.setIfInBounds_toArray, List.set_cons_zero, List.set_cons_succ, Nat.reduceAdd, Nat.zero_add, Nat.add_zero] at hB141
           refine wl_nil (nrm_then ?_); refine cw_ret (ret_block (ret_then (ret_block (ret_then (ret_then (ret_block (ret_then (body_retC1 rfl (ResOk.cellA rfl Try.agg68 Try.size68 hB141 rfl) ?_)))))))); have hfin := heq.trans (ps_c (by omega) (by omega)); rw [if_neg hc49] at hfin; rw [hfin]
           have e1 : (((i + k + 1 - i : Nat)) : Int) = (k : Int) + 1 := by omega
           have e2 : decide (((sb s (i + k) : Nat) : Int) = 41) = decide (sb s (i + k) = 41) := decide_eq_decide.2 (by omega); refine ⟨?_, hE143⟩; simp only [opV, e1, e2]
         ·skip
          refine cw_seq ?_; refine cw_region ?_; refine wl_val rfl (ex_fieldAddr rfl Try.fld68_5) ?_; refine wl_store1 rfl rfl (by first | rfl | assumption) Try.size26 hb3 rfl fun w145 hB146 hw147 => ?_; have hE148 := hV16.step hw147 hg3.mem1; have hB149 := hw147.blk hb4 ha34.symm.nmem1
          try simp only [List.setIfInBounds_toArray, List.set_cons_zero, List.set_cons_succ, Nat.reduceAdd, Nat.zero_add, Nat.add_zero] at hB146
          refine wl_nil (nrm_then ?_); refine cw_seq ?_; refine cw_region ?_; refine wl_val rfl (ex_loadBlk rfl Try.agg68 Try.size68 hB146 rfl) ?_; refine wl_storeBlk rfl rfl Try.size68 hB149 rfl rfl ⟨by first | rfl | assumption, by first | rfl | assumption, by first | rfl | assumption, by first | rfl | assumption, by first | rfl | assumption, by first | rfl | assumption, by first | rfl | assumption, by first | rfl | assumption, by first | rfl | assumption, trivial⟩ fun w150 hB151 hw152 => ?_; have hE153 := hE148.step hw152 hg4.mem1; have hB154 := hw152.blk hB146 ha34.nmem1
          try simp only [List.setIfInBounds_toArray, List.set_cons_zero, List.set_cons_succ, Nat.reduceAdd, Nat.zero_add, Nat.add_zero] at hB151
          refine wl_nil (nrm_then ?_); refine cw_ret (ret_block (ret_then (ret_block (ret_then (ret_then (ret_block (ret_then (body_retC1 rfl (ResOk.cellA rfl Try.agg68 Try.size68 hB151 rfl) ?_)))))))); have hfin := heq.trans (ps_no (by omega) (by omega) (by omega) (by omega) (by omega) (by omega) (by omega)); rw [hfin]; exact ⟨rfl, hE153⟩
  ·skip
   refine cw_exit (ex_then (ex_then (ex_here (nrm_then ?_)))); refine cw_seq ?_; refine cw_region ?_; refine wl_val rfl (ex_fieldAddr rfl Try.fld68_5) ?_; refine wl_store1 rfl rfl (by first | rfl | assumption) Try.size26 hb3 rfl fun w155 hB156 hw157 => ?_; have hE158 := hV16.step hw157 hg3.mem1; have hB159 := hw157.blk hb4 ha34.symm.nmem1
   try simp only [List.setIfInBounds_toArray, List.set_cons_zero, List.set_cons_succ, Nat.reduceAdd, Nat.zero_add, Nat.add_zero] at hB156
   refine wl_nil (nrm_then ?_); refine cw_seq ?_; refine cw_region ?_; refine wl_val rfl (ex_loadBlk rfl Try.agg68 Try.size68 hB156 rfl) ?_; refine wl_storeBlk rfl rfl Try.size68 hB159 rfl rfl ⟨by first | rfl | assumption, by first | rfl | assumption, by first | rfl | assumption, by first | rfl | assumption, by first | rfl | assumption, by first | rfl | assumption, by first | rfl | assumption, by first | rfl | assumption, by first | rfl | assumption, trivial⟩ fun w160 hB161 hw162 => ?_; have hE163 := hE158.step hw162 hg4.mem1; have hB164 := hw162.blk hB156 ha34.nmem1
   try simp only [List.setIfInBounds_toArray, List.set_cons_zero, List.set_cons_succ, Nat.reduceAdd, Nat.zero_add, Nat.add_zero] at hB161
   refine wl_nil (nrm_then ?_); refine cw_ret (body_retC1 rfl (ResOk.cellA rfl Try.agg68 Try.size68 hB161 rfl) ?_); have hfin := heq.trans (ps_end (by omega)); rw [hfin]; exact ⟨rfl, hE163⟩
end Go.Proofs.Ytljadkcojnlioaa
namespace Go.Proofs.Ytljadkcojnlioaa
open Go.Proofs
open Go.W Go.RowKit
attribute [local irreducible] Decidable.decide
set_option linter.unusedSimpArgs false
set_option linter.unusedVariables false
theorem Try.build68 : Build Try.prog 68 #[(0, 1), (1, 1), (2, 4), (6, 1), (7, 1), (8, 1)] #[.int .i64 0, .string ByteArray.empty, .bool false, .bool false, .bool false, .bool false, .bool false, .bool false, .int .i64 0] := ⟨_, .agg #[.int .i64 0, .string ByteArray.empty, .bool false, .bool false, .bool false, .bool false, .bool false, .bool false, .int .i64 0], Try.underlying68, by kernel_rfl, rfl, fun w => by kernel_rfl⟩
theorem Try.fld68_1 : fieldB Try.prog 68 1 = some 1 := by kernel_rfl
theorem Try.fld68_3 : fieldB Try.prog 68 3 = some 6 := by kernel_rfl
theorem Try.goes43 : Goes Try.prog 43 := ⟨_, Try.func43, by kernel_rfl, by kernel_rfl⟩
def hd (k : Nat) : ByteArray := if k = 0 then ByteArray.mk #[40, 63, 80, 60] else ByteArray.mk #[40, 63, 60]
theorem hd_sz (k : Nat) : (k = 0 ∧ (hd k).size = 4) ∨ (k ≠ 0 ∧ (hd k).size = 3) := by
  unfold hd
  by_cases h : k = 0
  · rw [if_pos h]; exact .inl ⟨h, rfl⟩
  · rw [if_neg h]; exact .inr ⟨h, rfl⟩
theorem part_hd {k : Nat} (hk : k < 2) (w : World) : (part 9 #[.string (ByteArray.mk #[40, 63, 80, 60]), .string (ByteArray.mk #[40, 63, 60])] (k * 1)).run Try.prog w = .ok (.string (hd k)) w := by
  match k, hk with
  | 0, _ => exact run_part1 w Try.agg9 rfl
  | 1, _ => exact run_part1 w Try.agg9 rfl
theorem hd_pre {s : ByteArray} {i k : Nat} (hi : i ≤ s.size) (h0 : isB s i 40 ∧ isB s (i + 1) 63) : Pre (s.extract i s.size) (hd k) ↔ (k = 0 ∧ isB s (i + 2) 80 ∧ isB s (i + 3) 60) ∨ (k ≠ 0 ∧ isB s (i + 2) 60) := by
  unfold hd
  by_cases h : k = 0
  · rw [if_pos h, pre4 hi]
    exact ⟨fun h1 => .inl ⟨h, h1.2.2⟩, fun h1 => by rcases h1 with h1 | h1; exact ⟨h0.1, h0.2, h1.2⟩; exact absurd h h1.1⟩
  · rw [if_neg h, pre3 hi]
    exact ⟨fun h1 => .inr ⟨h, h1.2.2⟩, fun h1 => by rcases h1 with h1 | h1; exact absurd h1.1 h; exact ⟨h0.1, h0.2, h1.2⟩⟩
theorem open_grp {s : ByteArray} {i : Nat} {fl : Fl} (h : ¬ (isB s i 40 ∧ isB s (i + 1) 63)) : pOpen s i fl = ⟨1, emp, fl, true, false, 0⟩ := by unfold pOpen; rw [if_pos h]
theorem open_name {s : ByteArray} {i k : Nat} {fl : Fl} (hi : i ≤ s.size) (h0 : isB s i 40 ∧ isB s (i + 1) 63) (hk : k < 2) (h1 : Pre (s.extract i s.size) (hd k)) (h2 : ∀ j, j < k → ¬ Pre (s.extract i s.size) (hd j)) : pOpen s i fl = pName s i (hd k).size fl := by
  rcases (show k = 0 ∨ k = 1 by omega) with rfl | rfl
  · unfold pOpen
    rw [if_neg (fun h => h h0), show (hd 0).size = 4 from rfl]
    rcases (hd_pre hi h0).1 h1 with h3 | h3
    · exact if_pos h3.2
    · exact absurd rfl h3.1
  · unfold pOpen
    rw [if_neg (fun h => h h0), show (hd 1).size = 3 from rfl, if_neg (fun h => h2 0 (by omega) ((hd_pre hi h0).2 (.inl ⟨rfl, h⟩)))]
    rcases (hd_pre hi h0).1 h1 with h3 | h3
    · exact absurd h3.1 (by omega)
    · exact if_pos h3.2
theorem open_no {s : ByteArray} {i : Nat} {fl : Fl} (hi : i ≤ s.size) (h0 : isB s i 40 ∧ isB s (i + 1) 63) (h2 : ∀ j, j < 2 → ¬ Pre (s.extract i s.size) (hd j)) : pOpen s i fl = if isB s (i + 2) 58 then ⟨3, emp, fl, false, false, 0⟩ else pSet s i s.size (i + 2) true 0 false fl := by
  unfold pOpen
  rw [if_neg (fun h => h h0), if_neg (fun h => h2 0 (by omega) ((hd_pre hi h0).2 (.inl ⟨rfl, h⟩))), if_neg (fun h => h2 1 (by omega) ((hd_pre hi h0).2 (.inr ⟨by omega, h⟩)))]
theorem flag_cells {w : World} {b : Nat} {s : ByteArray} {st : PS} {a : Option Addr} {c : Nat} {T : TypeId} {z : Nat × Nat} (h : w.heap[b]? = some (.cells (rdc s st a c) T z)) : ∀ j v, ([.bool st.now.fold, .bool st.now.lines, .bool st.now.dots, .bool st.now.lazy] : List Value)[j]? = some v → w.cell? ⟨b, 2 + j, none⟩ = some v
  | 0, v, e => by cases e; exact cell_blk h rfl
  | 1, v, e => by cases e; exact cell_blk h rfl
  | 2, v, e => by cases e; exact cell_blk h rfl
  | 3, v, e => by cases e; exact cell_blk h rfl
  | j + 4, v, e => by cases e
theorem pWord_go {s : ByteArray} {f j : Nat} (h : j < s.size) (h2 : wordN (sb s j)) : pWord s (f + 1) j = pWord s f (j + 1) := by rw [pWord, if_pos ⟨h, h2⟩]
theorem pWord_end {s : ByteArray} {f j : Nat} (h : ¬ (j < s.size ∧ wordN (sb s j))) : pWord s f j = j := by
  cases f with
  | zero => rfl
  | succ f => rw [pWord, if_neg h]
theorem pName_bad {s : ByteArray} {i h : Nat} {fl : Fl} {j : Nat} (e : pWord s s.size (i + h) = j) (hc : j = i + h ∨ ¬ isB s j 62) : pName s i h fl = ⟨0, emp, fl, false, false, 85⟩ := by unfold pName; rw [e, if_pos hc]
theorem pName_ok {s : ByteArray} {i h : Nat} {fl : Fl} {j : Nat} (e : pWord s s.size (i + h) = j) (hc : ¬ (j = i + h ∨ ¬ isB s j 62)) : pName s i h fl = ⟨j + 1 - i, s.extract (i + h) j, fl, true, false, 0⟩ := by unfold pName; rw [e, if_neg hc]
structure HdI (w wr : World) (b2 b4 : Nat) (s : ByteArray) (i : Nat) (fl : Fl) (k : Nat) : Prop where
  hk : k ≤ 2
  no : ∀ j, j < k → ¬ Pre (s.extract i s.size) (hd j)
structure WdG where
  f : Nat
  m : Nat
structure WdI (s : ByteArray) (i h : Nat) (x : WdG) : Prop where
  hm : i + x.m ≤ s.size
  hh : h ≤ x.m
  hf : s.size ≤ x.f + (i + x.m)
  eq : pWord s s.size (i + h) = pWord s x.f (i + x.m)
theorem opening_ok {w : World} {b : Nat} {s : ByteArray} {st : PS} {a : Option Addr} {c : Nat} {ob : Option Nat} (hR : RdAt w b s st a c ob) (hs : s.size ≤ 1000000) (hlt : st.pos < s.size) :
    Calls Try.prog 32 #[.pointer (some ⟨b, 0, none⟩)] w (Ret fun v w' => v = .agg (opV (pOpen s st.pos st.now)) ∧ Evo [] w w') := by
  have hap := hR.ap
  have hle : st.pos ≤ s.size := by omega
  have hrs := sub_sz (s := s) (a := st.pos) (Nat.le_refl s.size); refine calls_of_cw (N := 87) Try.func32 rfl rfl rfl ?_; refine cw_seq ?_; refine cw_region ?_; refine wl_alloc rfl Try.zero68 fun b2 w1 hB2 hs3 hw4 => ?_; have hsz_b2 := hs3; have hA5 := Apart.new (Lt.blk hR.blk) hs3; have hA6 := Apart.new (Lt.own hR.own) hs3; have hG7 := Ge.new (Evo.refl [] w) hs3; have hE8 := (Evo.refl [] w).then hw4; have hB9 := hw4.blk0 hR.blk; have hO10 := hR.own.evo0 hw4; refine wl_nil (nrm_then ?_); refine cw_seq ?_; refine cw_quiet (by kernel_rfl) (by kernel_rfl) ?_; refine ql_val rfl (fun _ hq12 => ex_move rfl) ?_; refine ql_val rfl (fun _ hq12 => ex_nilCheck rfl) ?_; refine ql_val rfl (fun _ hq12 => ex_fieldAddr rfl Try.fld41_0) ?_; refine ql_val rfl (fun _ hq12 => ex_load1 rfl Try.agg9 (cell_nth (hq12.blk0 hB9) rfl)) ?_; refine ql_val rfl (fun _ hq12 => ex_move rfl) ?_; refine ql_val rfl (fun _ hq12 => ex_nilCheck rfl) ?_; refine ql_val rfl (fun _ hq12 => ex_fieldAddr rfl Try.fld41_1) ?_; refine ql_val rfl (fun _ hq12 => ex_load1 rfl Try.agg3 (cell_nth (hq12.blk0 hB9) rfl)) ?_; refine ql_val rfl (fun _ hq12 => ex_ssubFrom (l := st.pos) rfl rfl Try.underlying9 rfl hle) ?_; refine ql_val rfl (fun _ hq12 => ex_assign rfl) ?_; refine ql_nil (fun wq11 hq12 => nrm_then ?_); have hE13 := hE8.then hq12; have hB14 := hq12.blk0 hB9; have hO15 := hO10.evo0 hq12; have hB16 := hq12.blk0 hB2; refine cw_seq ?_; refine cw_region ?_; refine wl_m ?_; refine wl_val rfl (ex_nilCheck rfl) ?_; refine wl_val rfl (ex_fieldAddr rfl Try.fld41_2) ?_; refine wl_val rfl (ex_loadA (o := 2) rfl Try.agg38 Try.size38 (vs := [.bool st.now.fold, .bool st.now.lines, .bool st.now.dots, .bool st.now.lazy]) rfl (flag_cells hB14)) ?_
  refine wl_val rfl (ex_build (vs := [(2, _)]) Try.build68 rfl (cells := [_, _, _, _, _, _, _, _, _]) rfl) ?_; refine wl_alloc rfl Try.zero68 fun b4 w17 hB18 hs19 hw20 => ?_; have hsz_b4 := hs19; have hA21 := Apart.new (Lt.blk hB14) hs19; have hA22 := Apart.new (Lt.own hO15) hs19; have hA23 := Apart.new (Lt.blk hB16) hs19; have hG24 := Ge.new hE13 hs19; have hE25 := hE13.then hw20; have hB26 := hw20.blk0 hB14; have hO27 := hO15.evo0 hw20; have hB28 := hw20.blk0 hB16; refine wl_storeBlk rfl rfl Try.size68 hB18 rfl rfl ⟨by first | rfl | assumption, by first | rfl | assumption, by first | rfl | assumption, by first | rfl | assumption, by first | rfl | assumption, by first | rfl | assumption, by first | rfl | assumption, by first | rfl | assumption, by first | rfl | assumption, trivial⟩ fun w29 hB30 hw31 => ?_; have hE32 := hE25.step hw31 hG24.mem1; have hB33 := hw31.blk hB26 hA21.nmem1; have hO34 := hO27.evo hw31 hA22.own1; have hB35 := hw31.blk hB28 hA23.nmem1
  try simp only [List.setIfInBounds_toArray, List.set_cons_zero, List.set_cons_succ, Nat.reduceAdd, Nat.zero_add, Nat.add_zero] at hB30
  refine wl_nil (nrm_then ?_); refine cw_seq ?_; refine cw_seq ?_; refine cw_region ?_; refine wl_m ?_; refine wl_call1 (vs := [_, _]) Try.goes42 rfl (hpre_ok (s.extract st.pos s.size) (ByteArray.mk #[40, 63]) (by omega) (show 2 ≤ 140737488355328 by omega)) rfl ?_; rintro _ w36 ⟨rfl, hw37⟩; have hE38 := hE32.then hw37; have hB39 := hw37.blk0 hB33; have hO40 := hO34.evo0 hw37; have hB41 := hw37.blk0 hB35; have hB42 := hw37.blk0 hB30; refine wl_val rfl (ex_not rfl) ?_; refine wl_nil (nrm_then ?_); refine cw_if rfl (fun hc24 => ?_) (fun hc24 => ?_)
  ·skip
   refine cw_seq ?_; refine cw_region ?_; refine wl_val rfl (ex_fieldAddr rfl Try.fld68_0) ?_; refine wl_store1 rfl rfl (by first | rfl | assumption) Try.size3 hB42 rfl fun w43 hB44 hw45 => ?_; have hE46 := hE38.step hw45 hG24.mem1; have hB47 := hw45.blk hB39 hA21.nmem1; have hO48 := hO40.evo hw45 hA22.own1; have hB49 := hw45.blk hB41 hA23.nmem1
   try simp only [List.setIfInBounds_toArray, List.set_cons_zero, List.set_cons_succ, Nat.reduceAdd, Nat.zero_add, Nat.add_zero] at hB44
   refine wl_val rfl (ex_fieldAddr rfl Try.fld68_3) ?_; refine wl_store1 rfl rfl (by first | rfl | assumption) Try.size4 hB44 rfl fun w50 hB51 hw52 => ?_; have hE53 := hE46.step hw52 hG24.mem1; have hB54 := hw52.blk hB47 hA21.nmem1; have hO55 := hO48.evo hw52 hA22.own1; have hB56 := hw52.blk hB49 hA23.nmem1
   try simp only [List.setIfInBounds_toArray, List.set_cons_zero, List.set_cons_succ, Nat.reduceAdd, Nat.zero_add, Nat.add_zero] at hB51
   refine wl_nil (nrm_then ?_); refine cw_seq ?_; refine cw_region ?_; refine wl_val rfl (ex_loadBlk rfl Try.agg68 Try.size68 hB51 rfl) ?_; refine wl_storeBlk rfl rfl Try.size68 hB56 rfl rfl ⟨by first | rfl | assumption, by first | rfl | assumption, by first | rfl | assumption, by first | rfl | assumption, by first | rfl | assumption, by first | rfl | assumption, by first | rfl | assumption, by first | rfl | assumption, by first | rfl | assumption, trivial⟩ fun w57 hB58 hw59 => ?_; have hE60 := hE53.step hw59 hG7.mem1; have hB61 := hw59.blk hB54 hA5.nmem1; have hO62 := hO55.evo hw59 hA6.own1; have hB63 := hw59.blk hB51 hA23.symm.nmem1
   try simp only [List.setIfInBounds_toArray, List.set_cons_zero, List.set_cons_succ, Nat.reduceAdd, Nat.zero_add, Nat.add_zero] at hB58
   refine wl_nil (nrm_then ?_); refine cw_ret (ret_then (body_retC1 rfl (ResOk.cellA rfl Try.agg68 Try.size68 hB58 rfl) ?_)); rw [open_grp (fun h => hc24 ((pre2 hle).2 h))]; exact ⟨rfl, hE60⟩
  ·skip
   have h40 := (pre2 hle).1 (Classical.not_not.1 hc24); refine cw_skip (nrm_then ?_); refine cw_seq ?_; refine cw_seq ?_; refine cw_region ?_; refine wl_val rfl (ex_buildA (vs := [(0, _), (1, _)]) Try.underlying79 Try.zero79 Try.size9 rfl (cells := #[.string (ByteArray.mk #[40, 63, 80, 60]), .string (ByteArray.mk #[40, 63, 60])]) (by kernel_rfl)) ?_; refine wl_m ?_; refine wl_nil (nrm_then ?_); refine cw_block ?_; refine cw_loop (α := Nat) (0) (fun k => [(29, .int .i64 (k : Nat))]) [(2, _), (3, _), (4, _), (28, _)] (fun k wr => Evo [] w36 wr ∧ (HdI w wr b2 b4 s st.pos st.now k)) (fun k => 2 - k) ⟨rfl, trivial⟩ ⟨rfl, rfl, rfl, rfl, trivial⟩ ⟨Evo.refl _ _, ⟨Nat.zero_le _, fun j h => by cases h⟩⟩ ?_; rintro k wr64 ⟨hV65, ⟨hk2, hno⟩⟩; show CW _ _ _ _ [(29, _), (2, _), (3, _), (4, _), (28, _)] _; have hE66 := hE38.then hV65; have hB67 := hV65.blk0 hB39; have hO68 := hO40.evo0 hV65; have hB69 := hV65.blk0 hB41; have hB70 := hV65.blk0 hB42; refine cw_seq ?_; refine cw_region ?_; refine wl_val rfl (ex_lss rfl rfl) ?_; refine wl_nil (nrm_then ?_); refine cw_seq ?_; refine cw_if rfl (fun hc30 => ?_) (fun hc30 => ?_)
   ·skip
    refine cw_skip (nrm_then ?_); refine cw_seq ?_; refine cw_block ?_; refine cw_seq ?_; refine cw_region ?_; refine wl_val rfl (ex_aidx (n := k) rfl rfl Try.underlying79 rfl (by omega) Try.size9 (part_hd (by omega))) ?_; refine wl_a ?_; refine wl_nil (nrm_then ?_); refine cw_seq ?_; refine cw_seq ?_; refine cw_region ?_; refine wl_m ?_; refine wl_m ?_
    refine wl_call1 (vs := [_, _]) Try.goes42 rfl (hpre_ok (s.extract st.pos s.size) (hd k) (by omega) (by have := hd_sz k; omega)) rfl ?_
    rintro _ w71 ⟨rfl, hw72⟩; have hE73 := hE66.then hw72; have hE74 := hV65.then hw72; have hB75 := hw72.blk0 hB67; have hO76 := hO68.evo0 hw72; have hB77 := hw72.blk0 hB69; have hB78 := hw72.blk0 hB70; refine wl_val rfl (ex_not rfl) ?_; refine wl_nil (nrm_then ?_); refine cw_if rfl (fun hc35 => ?_) (fun hc35 => ?_)
    ·skip
     refine cw_exit (ex_then (ex_here (nrm_then ?_))); refine cw_region ?_; refine wl_val rfl (ex_add_i64 rfl rfl (by omega) (by omega)) ?_; refine wl_m ?_; refine wl_nil (nrm_same ?_); refine ⟨k + 1, ?_, ⟨rfl, trivial⟩, ⟨rfl, rfl, rfl, rfl, trivial⟩, hE74, ?_⟩
     · omega
     ·skip
      refine ⟨by omega, fun j hj => ?_⟩
      by_cases e : j = k
      · subst e; exact hc35
      · exact hno j (by omega)
    ·skip
     have hpk := Classical.not_not.1 hc35; have hsz := hd_sz k; have hsl : (hd k).size ≤ (s.extract st.pos s.size).size := hpk.1; have hop := open_name (fl := st.now) hle h40 (by omega) hpk hno; refine cw_skip (nrm_then ?_); refine cw_seq ?_; refine cw_region ?_; refine wl_m ?_; refine wl_val rfl (ex_len_str rfl Try.underlying9 rfl) ?_; refine wl_a ?_; refine wl_nil (nrm_then ?_); refine cw_seq ?_; refine cw_block ?_
     refine cw_loop (α := WdG) (⟨s.size, (hd k).size⟩) (fun x => [(7, .int .i64 (x.m : Nat))]) [(2, _), (3, _), (4, _), (6, _), (28, _), (29, _)] (fun x wr => Evo [] w71 wr ∧ (WdI s st.pos (hd k).size x)) (fun x => x.f) ⟨rfl, trivial⟩ ⟨rfl, rfl, rfl, rfl, rfl, rfl, trivial⟩ ⟨Evo.refl _ _, ⟨by show st.pos + (hd k).size ≤ s.size; omega, Nat.le_refl _, Nat.le_add_right _ _, rfl⟩⟩ ?_
     rintro ⟨f, m⟩ wr79 ⟨hV80, ⟨hm, hhm, hf, heq⟩⟩; show CW _ _ _ _ [(7, .int .i64 (m : Nat)), (2, _), (3, _), (4, _), (6, _), (28, _), (29, _)] _
     try dsimp only at hm
     try dsimp only at hhm
     try dsimp only at hf
     try dsimp only at heq
     have hE81 := hE73.then hV80; have hE82 := hE74.then hV80; have hB83 := hV80.blk0 hB75; have hO84 := hO76.evo0 hV80; have hB85 := hV80.blk0 hB77; have hB86 := hV80.blk0 hB78; refine cw_seq ?_; refine cw_seq ?_; refine cw_region ?_; refine wl_m ?_; refine wl_m ?_; refine wl_val rfl (ex_len_str rfl Try.underlying9 rfl) ?_; refine wl_val rfl (ex_lss rfl rfl) ?_; refine wl_m ?_; refine wl_split (t := 42) rfl (fun hs42 => ?_) (fun hs42 => ?_)
     ·skip
      have e0 : sb (s.extract st.pos s.size) m = sb s (st.pos + m) := sb_from (by omega); refine wl_g ?_; refine wl_m ?_; refine wl_g ?_; refine wl_m ?_; refine wl_g ?_; refine wl_val rfl (ex_sidxE (n := m) rfl rfl Try.underlying9 rfl (by omega) e0) ?_; refine wl_g ?_; refine wl_call1 (vs := [_]) Try.goes31 rfl (word_ok (sb s (st.pos + m))) rfl ?_; rintro _ w87 ⟨rfl, hw88⟩; have hE89 := hE81.then hw88; have hE90 := hE82.then hw88; have hE91 := hV80.then hw88; have hB92 := hw88.blk0 hB83; have hO93 := hO84.evo0 hw88; have hB94 := hw88.blk0 hB85; have hB95 := hw88.blk0 hB86; refine wl_pt ?_; refine wl_nil (nrm_then ?_); refine cw_if rfl (fun hc47 => ?_) (fun hc47 => ?_)
      ·skip
       refine cw_skip (nrm_then ?_); refine cw_block ?_; refine cw_region ?_; refine wl_m ?_; refine wl_val rfl (ex_add_i64 rfl rfl (by omega) (by omega)) ?_; refine wl_a ?_; refine wl_nil (nrm_block (nrm_same ?_)); refine ⟨⟨f - 1, m + 1⟩, ?_, ⟨rfl, trivial⟩, ⟨rfl, rfl, rfl, rfl, rfl, rfl, trivial⟩, hE91, ?_⟩
       · (try dsimp only); show f - 1 < f; omega
       ·skip
        try dsimp only
        have hf2 : f = f - 1 + 1 := by omega
        exact ⟨(by show st.pos + (m + 1) ≤ s.size; omega), Nat.le_succ_of_le hhm, (by show s.size ≤ f - 1 + (st.pos + (m + 1)); omega), heq.trans (by rw [hf2]; exact pWord_go (by omega) hc47)⟩
      ·skip
       refine cw_exit (ex_then (ex_then (ex_here (nrm_then ?_)))); refine cw_seq ?_; refine cw_seq ?_; refine cw_region ?_; refine wl_m ?_; refine wl_m ?_; refine wl_val rfl (ex_len_str rfl Try.underlying9 rfl) ?_; refine wl_val rfl (ex_eql rfl rfl) ?_; refine wl_m ?_; refine wl_split (t := 54) rfl (fun hs54 => ?_) (fun hs54 => ?_)
       ·skip
        refine wl_n ?_; refine wl_n ?_; refine wl_n ?_; refine wl_n ?_; refine wl_pt ?_; refine wl_m ?_; refine wl_n ?_; refine wl_n ?_; refine wl_n ?_; refine wl_n ?_; refine wl_pt ?_; refine wl_nil (nrm_then ?_); refine cw_true rfl ?_; refine cw_seq ?_; refine cw_region ?_; refine wl_val rfl (ex_fieldAddr rfl Try.fld68_5) ?_; refine wl_store1 rfl rfl (by first | rfl | assumption) Try.size26 hB95 rfl fun w96 hB97 hw98 => ?_; have hE99 := hE89.step hw98 hG24.mem1; have hB102 := hw98.blk hB92 hA21.nmem1; have hO103 := hO93.evo hw98 hA22.own1; have hB104 := hw98.blk hB94 hA23.nmem1
        try simp only [List.setIfInBounds_toArray, List.set_cons_zero, List.set_cons_succ, Nat.reduceAdd, Nat.zero_add, Nat.add_zero] at hB97
        refine wl_nil (nrm_then ?_); refine cw_seq ?_; refine cw_region ?_; refine wl_val rfl (ex_loadBlk rfl Try.agg68 Try.size68 hB97 rfl) ?_; refine wl_storeBlk rfl rfl Try.size68 hB104 rfl rfl ⟨by first | rfl | assumption, by first | rfl | assumption, by first | rfl | assumption, by first | rfl | assumption, by first | rfl | assumption, by first | rfl | assumption, by first | rfl | assumption, by first | rfl | assumption, by first | rfl | assumption, trivial⟩ fun w105 hB106 hw107 => ?_; have hE108 := hE99.step hw107 hG7.mem1; have hB109 := hw107.blk hB102 hA5.nmem1; have hO110 := hO103.evo hw107 hA6.own1; have hB111 := hw107.blk hB97 hA23.symm.nmem1
        try simp only [List.setIfInBounds_toArray, List.set_cons_zero, List.set_cons_succ, Nat.reduceAdd, Nat.zero_add, Nat.add_zero] at hB106
        refine wl_nil (nrm_then ?_); refine cw_ret (ret_then (ret_block (ret_then (ret_then (ret_block (ret_then (body_retC1 rfl (ResOk.cellA rfl Try.agg68 Try.size68 hB106 rfl) ?_)))))))
        have hend := heq.trans (pWord_end (by rintro ⟨h1, h2⟩; first | omega | exact hc47 h2))
        rw [hop, pName_bad hend (.inl (by omega))]; exact ⟨rfl, hE108⟩
       ·skip
        refine wl_g ?_; refine wl_m ?_; refine wl_g ?_; refine wl_m ?_; refine wl_g ?_; refine wl_val rfl (ex_len_str rfl Try.underlying9 rfl) ?_; refine wl_g ?_; refine wl_val rfl (ex_eql rfl rfl) ?_; refine wl_pf ?_; refine wl_m ?_; refine wl_split (t := 60) rfl (fun hs60 => ?_) (fun hs60 => ?_)
        ·skip
         refine wl_n ?_; refine wl_n ?_; refine wl_n ?_; refine wl_n ?_; refine wl_pt ?_; refine wl_nil (nrm_then ?_); refine cw_true rfl ?_; refine cw_seq ?_; refine cw_region ?_; refine wl_val rfl (ex_fieldAddr rfl Try.fld68_5) ?_; refine wl_store1 rfl rfl (by first | rfl | assumption) Try.size26 hB95 rfl fun w112 hB113 hw114 => ?_; have hE115 := hE89.step hw114 hG24.mem1; have hB118 := hw114.blk hB92 hA21.nmem1; have hO119 := hO93.evo hw114 hA22.own1; have hB120 := hw114.blk hB94 hA23.nmem1
         try simp only [List.setIfInBounds_toArray, List.set_cons_zero, List.set_cons_succ, Nat.reduceAdd, Nat.zero_add, Nat.add_zero] at hB113
         refine wl_nil (nrm_then ?_); refine cw_seq ?_; refine cw_region ?_; refine wl_val rfl (ex_loadBlk rfl Try.agg68 Try.size68 hB113 rfl) ?_; refine wl_storeBlk rfl rfl Try.size68 hB120 rfl rfl ⟨by first | rfl | assumption, by first | rfl | assumption, by first | rfl | assumption, by first | rfl | assumption, by first | rfl | assumption, by first | rfl | assumption, by first | rfl | assumption, by first | rfl | assumption, by first | rfl | assumption, trivial⟩ fun w121 hB122 hw123 => ?_; have hE124 := hE115.step hw123 hG7.mem1; have hB125 := hw123.blk hB118 hA5.nmem1; have hO126 := hO119.evo hw123 hA6.own1; have hB127 := hw123.blk hB113 hA23.symm.nmem1
         try simp only [List.setIfInBounds_toArray, List.set_cons_zero, List.set_cons_succ, Nat.reduceAdd, Nat.zero_add, Nat.add_zero] at hB122
         refine wl_nil (nrm_then ?_); refine cw_ret (ret_then (ret_block (ret_then (ret_then (ret_block (ret_then (body_retC1 rfl (ResOk.cellA rfl Try.agg68 Try.size68 hB122 rfl) ?_)))))))
         have hend := heq.trans (pWord_end (by rintro ⟨h1, h2⟩; first | omega | exact hc47 h2))
         rw [hop, pName_bad hend (.inr (fun h => by have := h.1; omega))]
         exact ⟨rfl, hE124⟩
        ·skip
         have e0 : sb (s.extract st.pos s.size) m = sb s (st.pos + m) := sb_from (by omega); refine wl_g ?_; refine wl_m ?_; refine wl_g ?_; refine wl_m ?_; refine wl_g ?_; refine wl_val rfl (ex_sidxE (n := m) rfl rfl Try.underlying9 rfl (by omega) e0) ?_; refine wl_g ?_; refine wl_val rfl (ex_neq rfl rfl) ?_; refine wl_pf ?_; refine wl_nil (nrm_then ?_); refine cw_if rfl (fun hc65 => ?_) (fun hc65 => ?_)
         ·skip
          refine cw_seq ?_; refine cw_region ?_; refine wl_val rfl (ex_fieldAddr rfl Try.fld68_5) ?_; refine wl_store1 rfl rfl (by first | rfl | assumption) Try.size26 hB95 rfl fun w128 hB129 hw130 => ?_; have hE131 := hE89.step hw130 hG24.mem1; have hB134 := hw130.blk hB92 hA21.nmem1; have hO135 := hO93.evo hw130 hA22.own1; have hB136 := hw130.blk hB94 hA23.nmem1
          try simp only [List.setIfInBounds_toArray, List.set_cons_zero, List.set_cons_succ, Nat.reduceAdd, Nat.zero_add, Nat.add_zero] at hB129
          refine wl_nil (nrm_then ?_); refine cw_seq ?_; refine cw_region ?_; refine wl_val rfl (ex_loadBlk rfl Try.agg68 Try.size68 hB129 rfl) ?_; refine wl_storeBlk rfl rfl Try.size68 hB136 rfl rfl ⟨by first | rfl | assumption, by first | rfl | assumption, by first | rfl | assumption, by first | rfl | assumption, by first | rfl | assumption, by first | rfl | assumption, by first | rfl | assumption, by first | rfl | assumption, by first | rfl | assumption, trivial⟩ fun w137 hB138 hw139 => ?_; have hE140 := hE131.step hw139 hG7.mem1; have hB141 := hw139.blk hB134 hA5.nmem1; have hO142 := hO135.evo hw139 hA6.own1; have hB143 := hw139.blk hB129 hA23.symm.nmem1
          try simp only [List.setIfInBounds_toArray, List.set_cons_zero, List.set_cons_succ, Nat.reduceAdd, Nat.zero_add, Nat.add_zero] at hB138
          refine wl_nil (nrm_then ?_); refine cw_ret (ret_then (ret_block (ret_then (ret_then (ret_block (ret_then (body_retC1 rfl (ResOk.cellA rfl Try.agg68 Try.size68 hB138 rfl) ?_)))))))
          have hend := heq.trans (pWord_end (by rintro ⟨h1, h2⟩; first | omega | exact hc47 h2))
          rw [hop, pName_bad hend (.inr (fun h => by have := h.2; omega))]
          exact ⟨rfl, hE140⟩
         ·skip
          have e74 : (s.extract st.pos s.size).extract (hd k).size m = s.extract (st.pos + (hd k).size) (st.pos + m) := ext_part (by omega) hhm; refine cw_skip (nrm_then ?_); refine cw_seq ?_; refine cw_any (fun w0 w' => Evo [b4] w0 w') (by kernel_rfl) (fun w144 hw145 => ?_); have hE146 := hE89.then hw145; have hE147 := hE90.then hw145; have hE148 := hE91.then hw145; have hB149 := hw145.blk0 hB92; have hO150 := hO93.evo0 hw145; have hB151 := hw145.blk0 hB94; have hB152 := hw145.blk0 hB95; refine ae_take 0 rfl (by kernel_rfl) (by kernel_rfl) (by kernel_rfl) rfl (fun _ hS => ex_move rfl) (Evo.refl [b4] w144) ?_; refine ae_take 1 rfl (by kernel_rfl) (by kernel_rfl) (by kernel_rfl) rfl (fun _ hS => ex_add_i64 rfl rfl (by omega) (by omega)) (Evo.refl [b4] w144) ?_; refine ae_take 2 rfl (by kernel_rfl) (by kernel_rfl) (by kernel_rfl) rfl (fun _ hS => ex_move rfl) (Evo.refl [b4] w144) ?_; refine ae_take 3 rfl (by kernel_rfl) (by kernel_rfl) (by kernel_rfl) rfl (fun _ hS => ex_move rfl) (Evo.refl [b4] w144) ?_; refine ae_take 4 rfl (by kernel_rfl) (by kernel_rfl) (by kernel_rfl) rfl (fun _ hS => ex_len_str rfl Try.underlying9 rfl) (Evo.refl [b4] w144) ?_; refine ae_take 5 rfl (by kernel_rfl) (by kernel_rfl) (by kernel_rfl) rfl (fun _ hS => ex_move rfl) (Evo.refl [b4] w144) ?_; refine ae_take 7 rfl (by kernel_rfl) (by kernel_rfl) (by kernel_rfl) rfl (fun _ hS => ex_fieldAddr rfl Try.fld68_0) (Evo.refl [b4] w144) ?_; refine ae_loud [6, 8] (by kernel_rfl) rfl ⟨?_, ?_, trivial⟩
          ·skip
           refine a_step rfl ?_; refine wl_val rfl (ex_ssubE (l := (hd k).size) (h := m) rfl rfl rfl Try.underlying9 rfl rfl hhm (by omega) e74) ?_; refine wl_nil (ae_next (.inl (Evo.refl [b4] w144)) ?_); refine ae_loud [8] (by kernel_rfl) rfl ⟨?_, trivial⟩; refine a_step rfl ?_; refine wl_store1 rfl rfl (by first | rfl | assumption) Try.size3 hB152 rfl fun w153 hB154 hw155 => ?_; have hE156 := hE146.step hw155 hG24.mem1; have hE159 := (Evo.refl [b4] w144).step hw155 (fun y hy => .inl hy); have hB160 := hw155.blk hB149 hA21.nmem1; have hO161 := hO150.evo hw155 hA22.own1; have hB162 := hw155.blk hB151 hA23.nmem1
           try simp only [List.setIfInBounds_toArray, List.set_cons_zero, List.set_cons_succ, Nat.reduceAdd, Nat.zero_add, Nat.add_zero] at hB154
           refine wl_nil (ae_next (.inl hE159) ?_); refine ae_take 9 rfl (by kernel_rfl) (by kernel_rfl) (by kernel_rfl) rfl (fun _ hS => ex_fieldAddr rfl Try.fld68_1) hE159 ?_; refine ae_loud [10] (by kernel_rfl) rfl ⟨?_, trivial⟩; refine a_step rfl ?_; refine wl_store1 rfl rfl (by first | rfl | assumption) Try.size9 hB154 rfl fun w163 hB164 hw165 => ?_; have hE166 := hE156.step hw165 hG24.mem1; have hE167 := hE159.step hw165 (fun y hy => .inl hy); have hB168 := hw165.blk hB160 hA21.nmem1; have hO169 := hO161.evo hw165 hA22.own1; have hB170 := hw165.blk hB162 hA23.nmem1
           try simp only [List.setIfInBounds_toArray, List.set_cons_zero, List.set_cons_succ, Nat.reduceAdd, Nat.zero_add, Nat.add_zero] at hB164
           refine wl_nil (ae_next (.inl hE167) ?_); refine ae_take 11 rfl (by kernel_rfl) (by kernel_rfl) (by kernel_rfl) rfl (fun _ hS => ex_fieldAddr rfl Try.fld68_3) hE167 ?_; refine ae_loud [12] (by kernel_rfl) rfl ⟨?_, trivial⟩; refine a_step rfl ?_; refine wl_store1 rfl rfl (by first | rfl | assumption) Try.size4 hB164 rfl fun w171 hB172 hw173 => ?_; have hE174 := hE166.step hw173 hG24.mem1; have hE175 := hE167.step hw173 (fun y hy => .inl hy); have hB176 := hw173.blk hB168 hA21.nmem1; have hO177 := hO169.evo hw173 hA22.own1; have hB178 := hw173.blk hB170 hA23.nmem1
           try simp only [List.setIfInBounds_toArray, List.set_cons_zero, List.set_cons_succ, Nat.reduceAdd, Nat.zero_add, Nat.add_zero] at hB172
           refine wl_nil (ae_next (.inl hE175) ?_); refine ae_done (by kernel_rfl) (nrm_then ?_); refine cw_seq ?_; refine cw_region ?_; refine wl_val rfl (ex_loadBlk rfl Try.agg68 Try.size68 hB172 rfl) ?_; refine wl_storeBlk rfl rfl Try.size68 hB178 rfl rfl ⟨by first | rfl | assumption, by first | rfl | assumption, by first | rfl | assumption, by first | rfl | assumption, by first | rfl | assumption, by first | rfl | assumption, by first | rfl | assumption, by first | rfl | assumption, by first | rfl | assumption, trivial⟩ fun w179 hB180 hw181 => ?_; have hE182 := hE174.step hw181 hG7.mem1; have hB183 := hw181.blk hB176 hA5.nmem1; have hO184 := hO177.evo hw181 hA6.own1; have hB185 := hw181.blk hB172 hA23.symm.nmem1
           try simp only [List.setIfInBounds_toArray, List.set_cons_zero, List.set_cons_succ, Nat.reduceAdd, Nat.zero_add, Nat.add_zero] at hB180
           refine wl_nil (nrm_then ?_); refine cw_ret (ret_block (ret_then (ret_then (ret_block (ret_then (body_retC1 rfl (ResOk.cellA rfl Try.agg68 Try.size68 hB180 rfl) ?_))))))
           have hend := heq.trans (pWord_end (by rintro ⟨h1, h2⟩; first | omega | exact hc47 h2))
           rw [hop, pName_ok hend (by rintro (h | h); omega; exact h ⟨by omega, by omega⟩)]
           refine ⟨?_, hE182⟩; simp only [opV]; rw [show ((st.pos + m + 1 - st.pos : Nat) : Int) = (m : Int) + 1 by omega]
          ·skip
           refine a_step rfl ?_; refine wl_store1 rfl rfl (by first | rfl | assumption) Try.size3 hB152 rfl fun w186 hB187 hw188 => ?_; have hE189 := hE146.step hw188 hG24.mem1; have hE192 := (Evo.refl [b4] w144).step hw188 (fun y hy => .inl hy); have hB193 := hw188.blk hB149 hA21.nmem1; have hO194 := hO150.evo hw188 hA22.own1; have hB195 := hw188.blk hB151 hA23.nmem1
           try simp only [List.setIfInBounds_toArray, List.set_cons_zero, List.set_cons_succ, Nat.reduceAdd, Nat.zero_add, Nat.add_zero] at hB187
           refine wl_nil (ae_next (.inl hE192) ?_); refine ae_loud [6] (by kernel_rfl) rfl ⟨?_, trivial⟩; refine a_step rfl ?_; refine wl_val rfl (ex_ssubE (l := (hd k).size) (h := m) rfl rfl rfl Try.underlying9 rfl rfl hhm (by omega) e74) ?_; refine wl_nil (ae_next (.inl hE192) ?_); refine ae_take 9 rfl (by kernel_rfl) (by kernel_rfl) (by kernel_rfl) rfl (fun _ hS => ex_fieldAddr rfl Try.fld68_1) hE192 ?_; refine ae_loud [10] (by kernel_rfl) rfl ⟨?_, trivial⟩; refine a_step rfl ?_; refine wl_store1 rfl rfl (by first | rfl | assumption) Try.size9 hB187 rfl fun w196 hB197 hw198 => ?_; have hE199 := hE189.step hw198 hG24.mem1; have hE200 := hE192.step hw198 (fun y hy => .inl hy); have hB201 := hw198.blk hB193 hA21.nmem1; have hO202 := hO194.evo hw198 hA22.own1; have hB203 := hw198.blk hB195 hA23.nmem1
           try simp only [List.setIfInBounds_toArray, List.set_cons_zero, List.set_cons_succ, Nat.reduceAdd, Nat.zero_add, Nat.add_zero] at hB197
           refine wl_nil (ae_next (.inl hE200) ?_); refine ae_take 11 rfl (by kernel_rfl) (by kernel_rfl) (by kernel_rfl) rfl (fun _ hS => ex_fieldAddr rfl Try.fld68_3) hE200 ?_; refine ae_loud [12] (by kernel_rfl) rfl ⟨?_, trivial⟩; refine a_step rfl ?_; refine wl_store1 rfl rfl (by first | rfl | assumption) Try.size4 hB197 rfl fun w204 hB205 hw206 => ?_; have hE207 := hE199.step hw206 hG24.mem1; have hE208 := hE200.step hw206 (fun y hy => .inl hy); have hB209 := hw206.blk hB201 hA21.nmem1; have hO210 := hO202.evo hw206 hA22.own1; have hB211 := hw206.blk hB203 hA23.nmem1
           try simp only [List.setIfInBounds_toArray, List.set_cons_zero, List.set_cons_succ, Nat.reduceAdd, Nat.zero_add, Nat.add_zero] at hB205
           refine wl_nil (ae_next (.inl hE208) ?_); refine ae_done (by kernel_rfl) (nrm_then ?_); refine cw_seq ?_; refine cw_region ?_; refine wl_val rfl (ex_loadBlk rfl Try.agg68 Try.size68 hB205 rfl) ?_; refine wl_storeBlk rfl rfl Try.size68 hB211 rfl rfl ⟨by first | rfl | assumption, by first | rfl | assumption, by first | rfl | assumption, by first | rfl | assumption, by first | rfl | assumption, by first | rfl | assumption, by first | rfl | assumption, by first | rfl | assumption, by first | rfl | assumption, trivial⟩ fun w212 hB213 hw214 => ?_; have hE215 := hE207.step hw214 hG7.mem1; have hB216 := hw214.blk hB209 hA5.nmem1; have hO217 := hO210.evo hw214 hA6.own1; have hB218 := hw214.blk hB205 hA23.symm.nmem1
           try simp only [List.setIfInBounds_toArray, List.set_cons_zero, List.set_cons_succ, Nat.reduceAdd, Nat.zero_add, Nat.add_zero] at hB213
           refine wl_nil (nrm_then ?_); refine cw_ret (ret_block (ret_then (ret_then (ret_block (ret_then (body_retC1 rfl (ResOk.cellA rfl Try.agg68 Try.size68 hB213 rfl) ?_))))))
           have hend := heq.trans (pWord_end (by rintro ⟨h1, h2⟩; first | omega | exact hc47 h2))
           rw [hop, pName_ok hend (by rintro (h | h); omega; exact h ⟨by omega, by omega⟩)]
           refine ⟨?_, hE215⟩; simp only [opV]; rw [show ((st.pos + m + 1 - st.pos : Nat) : Int) = (m : Int) + 1 by omega]
     ·skip
      refine wl_n ?_; refine wl_n ?_; refine wl_n ?_; refine wl_n ?_; refine wl_pf ?_; refine wl_nil (nrm_then ?_); refine cw_false rfl ?_; refine cw_exit (ex_then (ex_then (ex_here (nrm_then ?_)))); refine cw_seq ?_; refine cw_seq ?_; refine cw_region ?_; refine wl_m ?_; refine wl_m ?_; refine wl_val rfl (ex_len_str rfl Try.underlying9 rfl) ?_; refine wl_val rfl (ex_eql rfl rfl) ?_; refine wl_m ?_; refine wl_split (t := 54) rfl (fun hs54 => ?_) (fun hs54 => ?_)
      ·skip
       refine wl_n ?_; refine wl_n ?_; refine wl_n ?_; refine wl_n ?_; refine wl_pt ?_; refine wl_m ?_; refine wl_n ?_; refine wl_n ?_; refine wl_n ?_; refine wl_n ?_; refine wl_pt ?_; refine wl_nil (nrm_then ?_); refine cw_true rfl ?_; refine cw_seq ?_; refine cw_region ?_; refine wl_val rfl (ex_fieldAddr rfl Try.fld68_5) ?_; refine wl_store1 rfl rfl (by first | rfl | assumption) Try.size26 hB86 rfl fun w219 hB220 hw221 => ?_; have hE222 := hE81.step hw221 hG24.mem1; have hB225 := hw221.blk hB83 hA21.nmem1; have hO226 := hO84.evo hw221 hA22.own1; have hB227 := hw221.blk hB85 hA23.nmem1
       try simp only [List.setIfInBounds_toArray, List.set_cons_zero, List.set_cons_succ, Nat.reduceAdd, Nat.zero_add, Nat.add_zero] at hB220
       refine wl_nil (nrm_then ?_); refine cw_seq ?_; refine cw_region ?_; refine wl_val rfl (ex_loadBlk rfl Try.agg68 Try.size68 hB220 rfl) ?_; refine wl_storeBlk rfl rfl Try.size68 hB227 rfl rfl ⟨by first | rfl | assumption, by first | rfl | assumption, by first | rfl | assumption, by first | rfl | assumption, by first | rfl | assumption, by first | rfl | assumption, by first | rfl | assumption, by first | rfl | assumption, by first | rfl | assumption, trivial⟩ fun w228 hB229 hw230 => ?_; have hE231 := hE222.step hw230 hG7.mem1; have hB232 := hw230.blk hB225 hA5.nmem1; have hO233 := hO226.evo hw230 hA6.own1; have hB234 := hw230.blk hB220 hA23.symm.nmem1
       try simp only [List.setIfInBounds_toArray, List.set_cons_zero, List.set_cons_succ, Nat.reduceAdd, Nat.zero_add, Nat.add_zero] at hB229
       refine wl_nil (nrm_then ?_); refine cw_ret (ret_then (ret_block (ret_then (ret_then (ret_block (ret_then (body_retC1 rfl (ResOk.cellA rfl Try.agg68 Try.size68 hB229 rfl) ?_)))))))
       have hend := heq.trans (pWord_end (by rintro ⟨h1, h2⟩; first | omega | exact hc47 h2))
       rw [hop, pName_bad hend (.inl (by omega))]; exact ⟨rfl, hE231⟩
      ·skip
       refine wl_g ?_; refine wl_m ?_; refine wl_g ?_; refine wl_m ?_; refine wl_g ?_; refine wl_val rfl (ex_len_str rfl Try.underlying9 rfl) ?_; refine wl_g ?_; refine wl_val rfl (ex_eql rfl rfl) ?_; refine wl_pf ?_; refine wl_m ?_; refine wl_split (t := 60) rfl (fun hs60 => ?_) (fun hs60 => ?_)
       ·skip
        refine wl_n ?_; refine wl_n ?_; refine wl_n ?_; refine wl_n ?_; refine wl_pt ?_; refine wl_nil (nrm_then ?_); refine cw_true rfl ?_; refine cw_seq ?_; refine cw_region ?_; refine wl_val rfl (ex_fieldAddr rfl Try.fld68_5) ?_; refine wl_store1 rfl rfl (by first | rfl | assumption) Try.size26 hB86 rfl fun w235 hB236 hw237 => ?_; have hE238 := hE81.step hw237 hG24.mem1; have hB241 := hw237.blk hB83 hA21.nmem1; have hO242 := hO84.evo hw237 hA22.own1; have hB243 := hw237.blk hB85 hA23.nmem1
        try simp only [List.setIfInBounds_toArray, List.set_cons_zero, List.set_cons_succ, Nat.reduceAdd, Nat.zero_add, Nat.add_zero] at hB236
        refine wl_nil (nrm_then ?_); refine cw_seq ?_; refine cw_region ?_; refine wl_val rfl (ex_loadBlk rfl Try.agg68 Try.size68 hB236 rfl) ?_; refine wl_storeBlk rfl rfl Try.size68 hB243 rfl rfl ⟨by first | rfl | assumption, by first | rfl | assumption, by first | rfl | assumption, by first | rfl | assumption, by first | rfl | assumption, by first | rfl | assumption, by first | rfl | assumption, by first | rfl | assumption, by first | rfl | assumption, trivial⟩ fun w244 hB245 hw246 => ?_; have hE247 := hE238.step hw246 hG7.mem1; have hB248 := hw246.blk hB241 hA5.nmem1; have hO249 := hO242.evo hw246 hA6.own1; have hB250 := hw246.blk hB236 hA23.symm.nmem1
        try simp only [List.setIfInBounds_toArray, List.set_cons_zero, List.set_cons_succ, Nat.reduceAdd, Nat.zero_add, Nat.add_zero] at hB245
        refine wl_nil (nrm_then ?_); refine cw_ret (ret_then (ret_block (ret_then (ret_then (ret_block (ret_then (body_retC1 rfl (ResOk.cellA rfl Try.agg68 Try.size68 hB245 rfl) ?_)))))))
        have hend := heq.trans (pWord_end (by rintro ⟨h1, h2⟩; first | omega | exact hc47 h2))
        rw [hop, pName_bad hend (.inr (fun h => by have := h.1; omega))]
        exact ⟨rfl, hE247⟩
       ·skip
        have e0 : sb (s.extract st.pos s.size) m = sb s (st.pos + m) := sb_from (by omega); refine wl_g ?_; refine wl_m ?_; refine wl_g ?_; refine wl_m ?_; refine wl_g ?_; refine wl_val rfl (ex_sidxE (n := m) rfl rfl Try.underlying9 rfl (by omega) e0) ?_; refine wl_g ?_; refine wl_val rfl (ex_neq rfl rfl) ?_; refine wl_pf ?_; refine wl_nil (nrm_then ?_); refine cw_if rfl (fun hc65 => ?_) (fun hc65 => ?_)
        ·skip
         refine cw_seq ?_; refine cw_region ?_; refine wl_val rfl (ex_fieldAddr rfl Try.fld68_5) ?_; refine wl_store1 rfl rfl (by first | rfl | assumption) Try.size26 hB86 rfl fun w251 hB252 hw253 => ?_; have hE254 := hE81.step hw253 hG24.mem1; have hB257 := hw253.blk hB83 hA21.nmem1; have hO258 := hO84.evo hw253 hA22.own1; have hB259 := hw253.blk hB85 hA23.nmem1
         try simp only [List.setIfInBounds_toArray, List.set_cons_zero, List.set_cons_succ, Nat.reduceAdd, Nat.zero_add, Nat.add_zero] at hB252
         refine wl_nil (nrm_then ?_); refine cw_seq ?_; refine cw_region ?_; refine wl_val rfl (ex_loadBlk rfl Try.agg68 Try.size68 hB252 rfl) ?_; refine wl_storeBlk rfl rfl Try.size68 hB259 rfl rfl ⟨by first | rfl | assumption, by first | rfl | assumption, by first | rfl | assumption, by first | rfl | assumption, by first | rfl | assumption, by first | rfl | assumption, by first | rfl | assumption, by first | rfl | assumption, by first | rfl | assumption, trivial⟩ fun w260 hB261 hw262 => ?_; have hE263 := hE254.step hw262 hG7.mem1; have hB264 := hw262.blk hB257 hA5.nmem1; have hO265 := hO258.evo hw262 hA6.own1; have hB266 := hw262.blk hB252 hA23.symm.nmem1
         try simp only [List.setIfInBounds_toArray, List.set_cons_zero, List.set_cons_succ, Nat.reduceAdd, Nat.zero_add, Nat.add_zero] at hB261
         refine wl_nil (nrm_then ?_); refine cw_ret (ret_then (ret_block (ret_then (ret_then (ret_block (ret_then (body_retC1 rfl (ResOk.cellA rfl Try.agg68 Try.size68 hB261 rfl) ?_)))))))
         have hend := heq.trans (pWord_end (by rintro ⟨h1, h2⟩; first | omega | exact hc47 h2))
         rw [hop, pName_bad hend (.inr (fun h => by have := h.2; omega))]
         exact ⟨rfl, hE263⟩
        ·skip
         have e74 : (s.extract st.pos s.size).extract (hd k).size m = s.extract (st.pos + (hd k).size) (st.pos + m) := ext_part (by omega) hhm; refine cw_skip (nrm_then ?_); refine cw_seq ?_; refine cw_any (fun w0 w' => Evo [b4] w0 w') (by kernel_rfl) (fun w267 hw268 => ?_); have hE269 := hE81.then hw268; have hE270 := hE82.then hw268; have hE271 := hV80.then hw268; have hB272 := hw268.blk0 hB83; have hO273 := hO84.evo0 hw268; have hB274 := hw268.blk0 hB85; have hB275 := hw268.blk0 hB86; refine ae_take 0 rfl (by kernel_rfl) (by kernel_rfl) (by kernel_rfl) rfl (fun _ hS => ex_move rfl) (Evo.refl [b4] w267) ?_; refine ae_take 1 rfl (by kernel_rfl) (by kernel_rfl) (by kernel_rfl) rfl (fun _ hS => ex_add_i64 rfl rfl (by omega) (by omega)) (Evo.refl [b4] w267) ?_; refine ae_take 2 rfl (by kernel_rfl) (by kernel_rfl) (by kernel_rfl) rfl (fun _ hS => ex_move rfl) (Evo.refl [b4] w267) ?_; refine ae_take 3 rfl (by kernel_rfl) (by kernel_rfl) (by kernel_rfl) rfl (fun _ hS => ex_move rfl) (Evo.refl [b4] w267) ?_; refine ae_take 4 rfl (by kernel_rfl) (by kernel_rfl) (by kernel_rfl) rfl (fun _ hS => ex_len_str rfl Try.underlying9 rfl) (Evo.refl [b4] w267) ?_; refine ae_take 5 rfl (by kernel_rfl) (by kernel_rfl) (by kernel_rfl) rfl (fun _ hS => ex_move rfl) (Evo.refl [b4] w267) ?_; refine ae_take 7 rfl (by kernel_rfl) (by kernel_rfl) (by kernel_rfl) rfl (fun _ hS => ex_fieldAddr rfl Try.fld68_0) (Evo.refl [b4] w267) ?_; refine ae_loud [6, 8] (by kernel_rfl) rfl ⟨?_, ?_, trivial⟩
         ·skip
          refine a_step rfl ?_; refine wl_val rfl (ex_ssubE (l := (hd k).size) (h := m) rfl rfl rfl Try.underlying9 rfl rfl hhm (by omega) e74) ?_; refine wl_nil (ae_next (.inl (Evo.refl [b4] w267)) ?_); refine ae_loud [8] (by kernel_rfl) rfl ⟨?_, trivial⟩; refine a_step rfl ?_; refine wl_store1 rfl rfl (by first | rfl | assumption) Try.size3 hB275 rfl fun w276 hB277 hw278 => ?_; have hE279 := hE269.step hw278 hG24.mem1; have hE282 := (Evo.refl [b4] w267).step hw278 (fun y hy => .inl hy); have hB283 := hw278.blk hB272 hA21.nmem1; have hO284 := hO273.evo hw278 hA22.own1; have hB285 := hw278.blk hB274 hA23.nmem1
          try simp only [List.setIfInBounds_toArray, List.set_cons_zero, List.set_cons_succ, Nat.reduceAdd, Nat.zero_add, Nat.add_zero] at hB277
          refine wl_nil (ae_next (.inl hE282) ?_); refine ae_take 9 rfl (by kernel_rfl) (by kernel_rfl) (by kernel_rfl) rfl (fun _ hS => ex_fieldAddr rfl Try.fld68_1) hE282 ?_; refine ae_loud [10] (by kernel_rfl) rfl ⟨?_, trivial⟩; refine a_step rfl ?_; refine wl_store1 rfl rfl (by first | rfl | assumption) Try.size9 hB277 rfl fun w286 hB287 hw288 => ?_; have hE289 := hE279.step hw288 hG24.mem1; have hE290 := hE282.step hw288 (fun y hy => .inl hy); have hB291 := hw288.blk hB283 hA21.nmem1; have hO292 := hO284.evo hw288 hA22.own1; have hB293 := hw288.blk hB285 hA23.nmem1
          try simp only [List.setIfInBounds_toArray, List.set_cons_zero, List.set_cons_succ, Nat.reduceAdd, Nat.zero_add, Nat.add_zero] at hB287
          refine wl_nil (ae_next (.inl hE290) ?_); refine ae_take 11 rfl (by kernel_rfl) (by kernel_rfl) (by kernel_rfl) rfl (fun _ hS => ex_fieldAddr rfl Try.fld68_3) hE290 ?_; refine ae_loud [12] (by kernel_rfl) rfl ⟨?_, trivial⟩; refine a_step rfl ?_; refine wl_store1 rfl rfl (by first | rfl | assumption) Try.size4 hB287 rfl fun w294 hB295 hw296 => ?_; have hE297 := hE289.step hw296 hG24.mem1; have hE298 := hE290.step hw296 (fun y hy => .inl hy); have hB299 := hw296.blk hB291 hA21.nmem1; have hO300 := hO292.evo hw296 hA22.own1; have hB301 := hw296.blk hB293 hA23.nmem1
          try simp only [List.setIfInBounds_toArray, List.set_cons_zero, List.set_cons_succ, Nat.reduceAdd, Nat.zero_add, Nat.add_zero] at hB295
          refine wl_nil (ae_next (.inl hE298) ?_); refine ae_done (by kernel_rfl) (nrm_then ?_); refine cw_seq ?_; refine cw_region ?_; refine wl_val rfl (ex_loadBlk rfl Try.agg68 Try.size68 hB295 rfl) ?_; refine wl_storeBlk rfl rfl Try.size68 hB301 rfl rfl ⟨by first | rfl | assumption, by first | rfl | assumption, by first | rfl | assumption, by first | rfl | assumption, by first | rfl | assumption, by first | rfl | assumption, by first | rfl | assumption, by first | rfl | assumption, by first | rfl | assumption, trivial⟩ fun w302 hB303 hw304 => ?_; have hE305 := hE297.step hw304 hG7.mem1; have hB306 := hw304.blk hB299 hA5.nmem1; have hO307 := hO300.evo hw304 hA6.own1; have hB308 := hw304.blk hB295 hA23.symm.nmem1
          try simp only [List.setIfInBounds_toArray, List.set_cons_zero, List.set_cons_succ, Nat.reduceAdd, Nat.zero_add, Nat.add_zero] at hB303
          refine wl_nil (nrm_then ?_); refine cw_ret (ret_block (ret_then (ret_then (ret_block (ret_then (body_retC1 rfl (ResOk.cellA rfl Try.agg68 Try.size68 hB303 rfl) ?_))))))
          have hend := heq.trans (pWord_end (by rintro ⟨h1, h2⟩; first | omega | exact hc47 h2))
          rw [hop, pName_ok hend (by rintro (h | h); omega; exact h ⟨by omega, by omega⟩)]
          refine ⟨?_, hE305⟩; simp only [opV]; rw [show ((st.pos + m + 1 - st.pos : Nat) : Int) = (m : Int) + 1 by omega]
         ·skip
          refine a_step rfl ?_; refine wl_store1 rfl rfl (by first | rfl | assumption) Try.size3 hB275 rfl fun w309 hB310 hw311 => ?_; have hE312 := hE269.step hw311 hG24.mem1; have hE315 := (Evo.refl [b4] w267).step hw311 (fun y hy => .inl hy); have hB316 := hw311.blk hB272 hA21.nmem1; have hO317 := hO273.evo hw311 hA22.own1; have hB318 := hw311.blk hB274 hA23.nmem1
          try simp only [List.setIfInBounds_toArray, List.set_cons_zero, List.set_cons_succ, Nat.reduceAdd, Nat.zero_add, Nat.add_zero] at hB310
          refine wl_nil (ae_next (.inl hE315) ?_); refine ae_loud [6] (by kernel_rfl) rfl ⟨?_, trivial⟩; refine a_step rfl ?_; refine wl_val rfl (ex_ssubE (l := (hd k).size) (h := m) rfl rfl rfl Try.underlying9 rfl rfl hhm (by omega) e74) ?_; refine wl_nil (ae_next (.inl hE315) ?_); refine ae_take 9 rfl (by kernel_rfl) (by kernel_rfl) (by kernel_rfl) rfl (fun _ hS => ex_fieldAddr rfl Try.fld68_1) hE315 ?_; refine ae_loud [10] (by kernel_rfl) rfl ⟨?_, trivial⟩; refine a_step rfl ?_; refine wl_store1 rfl rfl (by first | rfl | assumption) Try.size9 hB310 rfl fun w319 hB320 hw321 => ?_; have hE322 := hE312.step hw321 hG24.mem1; have hE323 := hE315.step hw321 (fun y hy => .inl hy); have hB324 := hw321.blk hB316 hA21.nmem1; have hO325 := hO317.evo hw321 hA22.own1; have hB326 := hw321.blk hB318 hA23.nmem1
          try simp only [List.setIfInBounds_toArray, List.set_cons_zero, List.set_cons_succ, Nat.reduceAdd, Nat.zero_add, Nat.add_zero] at hB320
          refine wl_nil (ae_next (.inl hE323) ?_); refine ae_take 11 rfl (by kernel_rfl) (by kernel_rfl) (by kernel_rfl) rfl (fun _ hS => ex_fieldAddr rfl Try.fld68_3) hE323 ?_; refine ae_loud [12] (by kernel_rfl) rfl ⟨?_, trivial⟩; refine a_step rfl ?_; refine wl_store1 rfl rfl (by first | rfl | assumption) Try.size4 hB320 rfl fun w327 hB328 hw329 => ?_; have hE330 := hE322.step hw329 hG24.mem1; have hE331 := hE323.step hw329 (fun y hy => .inl hy); have hB332 := hw329.blk hB324 hA21.nmem1; have hO333 := hO325.evo hw329 hA22.own1; have hB334 := hw329.blk hB326 hA23.nmem1
          try simp only [List.setIfInBounds_toArray, List.set_cons_zero, List.set_cons_succ, Nat.reduceAdd, Nat.zero_add, Nat.add_zero] at hB328
          refine wl_nil (ae_next (.inl hE331) ?_); refine ae_done (by kernel_rfl) (nrm_then ?_); refine cw_seq ?_; refine cw_region ?_; refine wl_val rfl (ex_loadBlk rfl Try.agg68 Try.size68 hB328 rfl) ?_; refine wl_storeBlk rfl rfl Try.size68 hB334 rfl rfl ⟨by first | rfl | assumption, by first | rfl | assumption, by first | rfl | assumption, by first | rfl | assumption, by first | rfl | assumption, by first | rfl | assumption, by first | rfl | assumption, by first | rfl | assumption, by first | rfl | assumption, trivial⟩ fun w335 hB336 hw337 => ?_; have hE338 := hE330.step hw337 hG7.mem1; have hB339 := hw337.blk hB332 hA5.nmem1; have hO340 := hO333.evo hw337 hA6.own1; have hB341 := hw337.blk hB328 hA23.symm.nmem1
          try simp only [List.setIfInBounds_toArray, List.set_cons_zero, List.set_cons_succ, Nat.reduceAdd, Nat.zero_add, Nat.add_zero] at hB336
          refine wl_nil (nrm_then ?_); refine cw_ret (ret_block (ret_then (ret_then (ret_block (ret_then (body_retC1 rfl (ResOk.cellA rfl Try.agg68 Try.size68 hB336 rfl) ?_))))))
          have hend := heq.trans (pWord_end (by rintro ⟨h1, h2⟩; first | omega | exact hc47 h2))
          rw [hop, pName_ok hend (by rintro (h | h); omega; exact h ⟨by omega, by omega⟩)]
          refine ⟨?_, hE338⟩; simp only [opV]; rw [show ((st.pos + m + 1 - st.pos : Nat) : Int) = (m : Int) + 1 by omega]
   ·skip
    have hnn : ∀ j, j < 2 → ¬ Pre (s.extract st.pos s.size) (hd j) := fun j hj => hno j (by omega); have hop := open_no (fl := st.now) hle h40 hnn; refine cw_exit (ex_then (ex_then (ex_here (nrm_then ?_)))); refine cw_seq ?_; refine cw_seq ?_; refine cw_region ?_; refine wl_m ?_; refine wl_call1 (vs := [_, _]) Try.goes42 rfl (hpre_ok (s.extract st.pos s.size) (ByteArray.mk #[40, 63, 58]) (by omega) (show 3 ≤ 140737488355328 by omega)) rfl ?_; rintro _ w342 ⟨rfl, hw343⟩; have hE344 := hE66.then hw343; have hE345 := hV65.then hw343; have hB346 := hw343.blk0 hB67; have hO347 := hO68.evo0 hw343; have hB348 := hw343.blk0 hB69; have hB349 := hw343.blk0 hB70; refine wl_nil (nrm_then ?_); refine cw_if rfl (fun hc81 => ?_) (fun hc81 => ?_)
    ·skip
     refine cw_seq ?_; refine cw_region ?_; refine wl_val rfl (ex_fieldAddr rfl Try.fld68_0) ?_; refine wl_store1 rfl rfl (by first | rfl | assumption) Try.size3 hB349 rfl fun w350 hB351 hw352 => ?_; have hE353 := hE344.step hw352 hG24.mem1; have hB355 := hw352.blk hB346 hA21.nmem1; have hO356 := hO347.evo hw352 hA22.own1; have hB357 := hw352.blk hB348 hA23.nmem1
     try simp only [List.setIfInBounds_toArray, List.set_cons_zero, List.set_cons_succ, Nat.reduceAdd, Nat.zero_add, Nat.add_zero] at hB351
     refine wl_nil (nrm_then ?_); refine cw_seq ?_; refine cw_region ?_; refine wl_val rfl (ex_loadBlk rfl Try.agg68 Try.size68 hB351 rfl) ?_; refine wl_storeBlk rfl rfl Try.size68 hB357 rfl rfl ⟨by first | rfl | assumption, by first | rfl | assumption, by first | rfl | assumption, by first | rfl | assumption, by first | rfl | assumption, by first | rfl | assumption, by first | rfl | assumption, by first | rfl | assumption, by first | rfl | assumption, trivial⟩ fun w358 hB359 hw360 => ?_; have hE361 := hE353.step hw360 hG7.mem1; have hB362 := hw360.blk hB355 hA5.nmem1; have hO363 := hO356.evo hw360 hA6.own1; have hB364 := hw360.blk hB351 hA23.symm.nmem1
     try simp only [List.setIfInBounds_toArray, List.set_cons_zero, List.set_cons_succ, Nat.reduceAdd, Nat.zero_add, Nat.add_zero] at hB359
     refine wl_nil (nrm_then ?_); refine cw_ret (ret_then (body_retC1 rfl (ResOk.cellA rfl Try.agg68 Try.size68 hB359 rfl) ?_)); have h58 : isB s (st.pos + 2) 58 := ((pre3 hle).1 hc81).2.2; rw [hop, if_pos h58]; exact ⟨rfl, hE361⟩
    ·skip
     refine cw_skip (nrm_then ?_); refine cw_seq ?_; refine cw_region ?_; refine wl_m ?_; refine wl_val rfl (ex_loadBlk rfl Try.agg68 Try.size68 hB349 rfl) ?_
     refine wl_call1 (vs := [_, _]) Try.goes43 rfl (setting_ok s st.pos st.now (by have := h40.2.1; omega) hs) rfl ?_
     rintro _ w365 ⟨rfl, hw366⟩; have hE367 := hE344.then hw366; have hE368 := hE345.then hw366; have hB369 := hw366.blk0 hB346; have hO370 := hO347.evo0 hw366; have hB371 := hw366.blk0 hB348; have hB372 := hw366.blk0 hB349; refine wl_storeBlk rfl rfl Try.size68 hB371 rfl rfl ⟨by first | rfl | assumption, by first | rfl | assumption, by first | rfl | assumption, by first | rfl | assumption, by first | rfl | assumption, by first | rfl | assumption, by first | rfl | assumption, by first | rfl | assumption, by first | rfl | assumption, trivial⟩ fun w373 hB374 hw375 => ?_; have hE376 := hE367.step hw375 hG7.mem1; have hB378 := hw375.blk hB369 hA5.nmem1; have hO379 := hO370.evo hw375 hA6.own1; have hB380 := hw375.blk hB372 hA23.symm.nmem1
     try simp only [List.setIfInBounds_toArray, List.set_cons_zero, List.set_cons_succ, Nat.reduceAdd, Nat.zero_add, Nat.add_zero] at hB374
     refine wl_nil (nrm_then ?_); refine cw_ret (body_retC1 rfl (ResOk.cellA rfl Try.agg68 Try.size68 hB374 rfl) ?_); have h58 : ¬ isB s (st.pos + 2) 58 := fun h => hc81 ((pre3 hle).2 ⟨h40.1, h40.2, h⟩); rw [hop, if_neg h58]; exact ⟨rfl, hE376⟩
end Go.Proofs.Ytljadkcojnlioaa
namespace Go.Proofs.Ytljadkcojnlioaa
open Go.Proofs
open Go.W Go.RowKit
attribute [local irreducible] Decidable.decide
set_option linter.unusedSimpArgs false
set_option linter.unusedVariables false
theorem Try.app23_23 : appB Try.prog 23 23 = some (25, 9, 112) := by kernel_rfl
theorem Try.goes30 : Goes Try.prog 30 := ⟨_, Try.func30, by kernel_rfl, by kernel_rfl⟩
theorem OTs.evo0 {l : List Rx} {w w' : World} {cs : List Value} {bs : List Nat} (h : OTs l w cs bs) (he : Evo [] w w') : OTs l w' cs bs := h.evo he (fun b hb h => by cases h)
theorem OT.evo0 {x : Rx} {w w' : World} {vs : List Value} {bs : List Nat} (h : OT x w vs bs) (he : Evo [] w w') : OT x w' vs bs := h.evo he (fun b hb h => by cases h)
theorem fr_ap {w : World} {o : Option Nat} {bs : List Nat} (h : Fr w (o.toList ++ bs)) : ∀ q, q ∈ bs → q ∉ o.toList := fun q hq ho => (List.nodup_append.1 h.nd).2.2 q ho q hq rfl
theorem fr_ge {w : World} {o : Option Nat} {bs : List Nat} (h : Fr w (o.toList ++ bs)) : Ge w o := fun g hg => h.ge g (by simp [hg])
theorem Fr.grow {w w1 w2 : World} {o o2 : Option Nat} {bs bx : List Nat} (h : Fr w (o.toList ++ bs)) (hl : ∀ b, b ∈ o.toList ++ bs → b < w1.heap.size) (hx : Fr w1 bx) (hx2 : ∀ b, b ∈ bx → b < w2.heap.size) (hw : w.heap.size ≤ w1.heap.size) (h12 : w1.heap.size ≤ w2.heap.size)
    (hob : o2 = o ∨ ∃ g, o2 = some g ∧ w2.heap.size ≤ g) : Fr w (o2.toList ++ (bs ++ bx)) := by
  rcases hob with rfl | ⟨g, rfl, hg⟩
  · rw [← List.append_assoc]
    exact h.app hx hw hl
  · have hb : Fr w (bs ++ bx) := Fr.app ⟨(List.nodup_append.1 h.nd).2.1, fun b hb => h.ge b (List.mem_append_right _ hb)⟩ hx hw (fun b hb => hl b (List.mem_append_right _ hb))
    refine ⟨List.nodup_cons.2 ⟨fun hm => ?_, hb.nd⟩, fun b hb2 => ?_⟩
    · have hm' : g ∈ bs ++ bx := by simpa using hm
      rcases List.mem_append.1 hm' with hm' | hm'
      · have := hl g (List.mem_append_right _ hm'); omega
      · have := hx2 g hm'; omega
    · rcases List.mem_cons.1 hb2 with rfl | hb2
      · omega
      · exact hb.ge b hb2
theorem ots_lt {w : World} {a : Option Addr} {n c : Nat} {cs : List Value} {o : Option Nat} {l : List Rx} {bs : List Nat} (hO : OwnS w 25 9 a n c cs o) (hT : OTs l w cs bs) : ∀ b, b ∈ o.toList ++ bs → b < w.heap.size := fun b hb => (List.mem_append.1 hb).elim (own_blk hO b) (hT.lt b)
theorem nb_fr {w : World} {o : Option Nat} {bs : List Nat} {b : Nat} (h : Fr w (o.toList ++ bs)) (hb : Lt w (some b)) : ∀ q, q ∈ bs → q ∉ [b] := fun q hq hm => by
  have h1 := h.ge q (List.mem_append_right _ hq)
  have h2 := hb b rfl
  rw [List.mem_singleton.1 hm] at h1; omega
theorem fnd_occ {s : ByteArray} {a b j k : Nat} (h : pFind s a b s.size j = some k) : sb s k = a ∧ sb s (k + 1) = b := ((find_ok s a b s.size j (by omega)).1 k h).2.1.2
structure QuG where
  f : Nat
  i : Nat
  n : Nat
  l : List Rx
  qa : Option Addr
  qc : Nat
  qo : Option Nat
  bs : List Nat
structure QuI (w wr : World) (b : Nat) (s : ByteArray) (st : PS) (a : Option Addr) (c : Nat) (ob : Option Nat) (e i0 : Nat) (x : QuG) : Prop where
  hr : RdAt wr b s (pset st x.i) a c ob
  bd : Bd s x.i
  eq : pQuo s st.now e s.size [] i0 = pQuo s st.now e x.f x.l x.i
  hf : s.size ≤ x.f + x.i
  kt : ∃ cs, OwnS wr 25 9 x.qa x.n x.qc cs x.qo ∧ OTs x.l wr cs x.bs
  fr : Fr w (x.qo.toList ++ x.bs)
  len : x.l.length + i0 ≤ x.i
  ie : x.i ≤ e
theorem quo_go {s : ByteArray} {fl : Fl} {e f i : Nat} {l : List Rx} (h : i < e) : pQuo s fl e (f + 1) l i = pQuo s fl e f (l ++ [litP fl (nextR s i).1]) (i + (nextR s i).2) := by rw [pQuo, if_pos h]
theorem quo_end {s : ByteArray} {fl : Fl} {e f i : Nat} {l : List Rx} (h : ¬ i < e) : pQuo s fl e f l i = (l, i) := by
  cases f with
  | zero => rfl
  | succ f => rw [pQuo, if_neg h]
theorem own_tn {w : World} {a : Option Addr} {n c : Nat} {cs : List Value} {o : Option Nat} {l : List Rx} {bs : List Nat} (hO : OwnS w 25 9 a n c cs o) (hT : OTs l w cs bs) : n = l.length := by have h1 := hO.length; have h2 := hT.len; omega
theorem pq_some {s : ByteArray} {st : PS} {k : Nat} (h : pFind s 92 69 s.size (st.pos + 2) = some k) : pQuote s st = .ok ((pQuo s st.now k s.size [] (st.pos + 2)).1, { st with pos := (pQuo s st.now k s.size [] (st.pos + 2)).2 + 2 }) := by unfold pQuote; rw [h]
theorem pq_none {s : ByteArray} {st : PS} (h : pFind s 92 69 s.size (st.pos + 2) = none) : pQuote s st = .ok ((pQuo s st.now s.size s.size [] (st.pos + 2)).1, { st with pos := (pQuo s st.now s.size s.size [] (st.pos + 2)).2 }) := by unfold pQuote; rw [h]
theorem bd_step {s : ByteArray} {i e : Nat} (h : Bd s i) (hi : i < e) (he : Bd s e) : i + (nextR s i).2 ≤ e := by
  obtain ⟨N, k, hU, hk, rfl⟩ := h
  obtain ⟨M, m, hV, hm, rfl⟩ := he
  have hkm : k < m := by
    rcases Nat.lt_or_ge k m with h | h
    · exact h
    · have := offs_mono s h; omega
  exact offs_mono s (show k + 1 ≤ m from hkm)
theorem Bd.size {s : ByteArray} {i : Nat} (h : Bd s i) : Bd s s.size := by obtain ⟨N, k, hU, hk, _⟩ := h; exact ⟨N, N, hU, Nat.le_refl _, hU.1⟩
theorem quotation_ok {w : World} {b : Nat} {s : ByteArray} {st : PS} {a : Option Addr} {c : Nat} {ob : Option Nat} (hR : RdAt w b s st a c ob) (hs : s.size ≤ 10000) (hb : Bd s (st.pos + 2)) (hG : Glb w) :
    Calls Try.prog 37 #[.pointer (some ⟨b, 0, none⟩)] w (Ret fun v w' => ∃ l st', pQuote s st = .ok (l, st') ∧ KOut w w' v l ∧ Evo [b] w w' ∧ RdAt w' b s st' a c ob ∧ st'.opn = st.opn ∧ st'.names = st.names ∧ st.pos + 2 ≤ st'.pos ∧ Bd s st'.pos ∧ l.length + st.pos ≤ st'.pos) := by
  have hap := hR.ap; have hgb : GMax ∉ [b] := fun h => hR.glb hG (List.mem_singleton.1 h).symm; have hle := hb.le; have hbw : Lt w (some b) := Lt.blk hR.blk; have how : Lt w ob := Lt.own hR.own; refine calls_of_cw (N := 59) Try.func37 rfl rfl rfl ?_; refine cw_seq ?_; refine cw_region ?_; refine wl_a ?_; refine wl_nil (nrm_then ?_); refine cw_seq ?_; refine cw_region ?_; refine wl_m ?_; refine wl_val rfl (ex_nilCheck rfl) ?_; refine wl_val rfl (ex_fieldAddr rfl Try.fld41_1) ?_; refine wl_val rfl (ex_load1 rfl Try.agg3 (cell_nth hR.blk rfl)) ?_; refine wl_val rfl (ex_add_i64 rfl rfl (by omega) (by omega)) ?_; refine wl_val rfl (ex_nilCheck rfl) ?_; refine wl_val rfl (ex_fieldAddr rfl Try.fld41_1) ?_; refine wl_store1 rfl rfl (by first | rfl | assumption) Try.size3 hR.blk rfl fun w1 hB2 hw3 => ?_; have hE4 := (Evo.refl [b] w).step hw3 (fun y hy => .inl hy); have hO5 := hR.own.evo hw3 hap.symm.own1
  try simp only [List.setIfInBounds_toArray, List.set_cons_zero, List.set_cons_succ, Nat.reduceAdd, Nat.zero_add, Nat.add_zero] at hB2
  refine wl_nil (nrm_then ?_); refine cw_seq ?_; refine cw_region ?_; refine wl_m ?_; refine wl_val rfl (ex_nilCheck rfl) ?_; refine wl_val rfl (ex_fieldAddr rfl Try.fld41_0) ?_; refine wl_val rfl (ex_load1 rfl Try.agg9 (cell_nth hB2 rfl)) ?_; refine wl_val rfl (ex_len_str rfl Try.underlying9 rfl) ?_; refine wl_a ?_; refine wl_a ?_; refine wl_nil (nrm_then ?_); refine cw_seq ?_; refine cw_seq ?_; refine cw_any (fun w0 w' => Evo [] w0 w') (by kernel_rfl) (fun w6 hw7 => ?_); have hE8 := hE4.then hw7; have hB9 := hw7.blk0 hB2; have hO10 := hO5.evo0 hw7; refine ae_take 0 rfl (by kernel_rfl) (by kernel_rfl) (by kernel_rfl) rfl (fun _ hS => ex_move rfl) (Evo.refl [] w6) ?_; refine ae_take 1 rfl (by kernel_rfl) (by kernel_rfl) (by kernel_rfl) rfl (fun _ hS => ex_nilCheck rfl) (Evo.refl [] w6) ?_; refine ae_take 2 rfl (by kernel_rfl) (by kernel_rfl) (by kernel_rfl) rfl (fun _ hS => ex_fieldAddr rfl Try.fld41_0) (Evo.refl [] w6) ?_; refine ae_take 3 rfl (by kernel_rfl) (by kernel_rfl) (by kernel_rfl) rfl (fun _ hS => ex_load1 rfl Try.agg9 (cell_nth (hS.blk0 hB9) rfl)) (Evo.refl [] w6) ?_; refine ae_take 4 rfl (by kernel_rfl) (by kernel_rfl) (by kernel_rfl) rfl (fun _ hS => ex_move rfl) (Evo.refl [] w6) ?_; refine ae_take 5 rfl (by kernel_rfl) (by kernel_rfl) (by kernel_rfl) rfl (fun _ hS => ex_nilCheck rfl) (Evo.refl [] w6) ?_; refine ae_take 6 rfl (by kernel_rfl) (by kernel_rfl) (by kernel_rfl) rfl (fun _ hS => ex_fieldAddr rfl Try.fld41_1) (Evo.refl [] w6) ?_; refine ae_take 7 rfl (by kernel_rfl) (by kernel_rfl) (by kernel_rfl) rfl (fun _ hS => ex_load1 rfl Try.agg3 (cell_nth (hS.blk0 hB9) rfl)) (Evo.refl [] w6) ?_; refine ae_loud [8] (by kernel_rfl) rfl ⟨?_, trivial⟩; refine a_step rfl ?_; refine wl_val rfl (ex_ssubFrom (l := st.pos + 2) rfl rfl Try.underlying9 rfl hle) ?_
  refine wl_nil (ae_next (.inl (Evo.refl [] w6)) ?_); refine ae_loud [9] (by kernel_rfl) rfl ⟨?_, trivial⟩; refine a_step rfl ?_; refine wl_call1 (vs := [_, _]) Try.goes44 rfl (idx2_ok s 92 69 (st.pos + 2) hle (by omega) (hG.evo hE8 hgb)) rfl ?_; rintro _ w11 ⟨rfl, hw12⟩; have hE13 := hE8.then hw12; have hE14 := (Evo.refl [] w6).then hw12; have hB15 := hw12.blk0 hB9; have hO16 := hO10.evo0 hw12; refine wl_nil (ae_next (.inl hE14) ?_); refine ae_take 10 rfl (by kernel_rfl) (by kernel_rfl) (by kernel_rfl) rfl (fun _ hS => ex_assign rfl) hE14 ?_; refine ae_done (by kernel_rfl) (nrm_then ?_); refine cw_seq ?_; refine cw_region ?_; refine wl_m ?_; refine wl_val rfl (ex_geq rfl rfl) ?_; refine wl_nil (nrm_then ?_); refine cw_if rfl (fun hc30 => ?_) (fun hc30 => ?_)
  ·skip
   obtain ⟨k, hk, hfk, hk2, hk3⟩ := fnd_yes hc30; rw [hfk]
   have hbk : Bd s k := bd_of_asc hb (by omega) (by omega) (by have h9 : sb s k = 92 := (fnd_occ hk).1; omega)
   refine cw_region ?_; refine wl_m ?_; refine wl_val rfl (ex_nilCheck rfl) ?_; refine wl_val rfl (ex_fieldAddr rfl Try.fld41_1) ?_; refine wl_val rfl (ex_load1 rfl Try.agg3 (cell_nth hB15 rfl)) ?_; refine wl_m ?_; refine wl_val rfl (ex_addE (r := ((k : Nat) : Int)) rfl rfl (by omega) (by omega) (by omega)) ?_; refine wl_a ?_; refine wl_a ?_; refine wl_nil (nrm_then ?_); refine cw_seq ?_; refine cw_region ?_; refine wl_a ?_; refine wl_nil (nrm_then ?_); refine cw_seq ?_; refine cw_block ?_
   refine cw_loop (α := QuG) (⟨s.size, st.pos + 2, 0, [], none, 0, none, []⟩) (fun x => [(6, .slice x.qa x.n x.qc)]) [(0, _), (2, _), (3, _), (4, _)] (fun x wr => Evo [b] w wr ∧ (QuI w wr b s st a c ob k (st.pos + 2) x)) (fun x => x.f) ⟨rfl, trivial⟩ ⟨rfl, rfl, rfl, rfl, trivial⟩ ⟨hE13, ⟨⟨hB15, hO16, hR.ne⟩, hb, rfl, Nat.le_add_right _ _, ⟨[], OwnS.nil _ _ _, OTs.nil _⟩, Fr.nil _, (by show 0 + (st.pos + 2) ≤ st.pos + 2; omega), (by show st.pos + 2 ≤ _; omega)⟩⟩ ?_
   rintro ⟨f, i, n, l, qa, qc, qo, bs⟩ wr17 ⟨hV18, ⟨hR9, hbi, heq, hfi, ⟨cs, hown, hts⟩, hfr, hlen, hie⟩⟩; show CW _ _ _ _ [(6, .slice qa n qc), (0, _), (2, _), (3, _), (4, _)] _
   try dsimp only at hR9
   try dsimp only at hbi
   try dsimp only at heq
   try dsimp only at hfi
   try dsimp only at cs
   try dsimp only at hown
   try dsimp only at hts
   try dsimp only at hfr
   try dsimp only at hlen
   try dsimp only at hie
   have hpi : (pset st i).pos = i := rfl; have hil := hbi.le; have hA2 : Apart ob qo := ap_old how (fr_ge hfr); have hA1 : Apart (some b) qo := ap_old hbw (fr_ge hfr); refine cw_seq ?_; refine cw_seq ?_; refine cw_region ?_; refine wl_m ?_; refine wl_val rfl (ex_nilCheck rfl) ?_; refine wl_val rfl (ex_fieldAddr rfl Try.fld41_1) ?_; refine wl_val rfl (ex_load1 rfl Try.agg3 (cell_nth hR9.blk rfl)) ?_; refine wl_m ?_; refine wl_val rfl (ex_lss rfl rfl) ?_; refine wl_nil (nrm_then ?_); refine cw_if rfl (fun hc42 => ?_) (fun hc42 => ?_)
   ·skip
    have hii : i < k := by omega
    have hsz2 := (hbk).le; obtain ⟨hn0, hn1, hn2, hr0, hr1⟩ := hbi.next (by omega); have hn3 := bd_step hbi hii (hbk); obtain ⟨f', rfl⟩ : ∃ f', f = f' + 1 := ⟨f - 1, by omega⟩; have hql := ots_lt hown hts; refine cw_skip (nrm_then ?_); refine cw_block ?_; refine cw_region ?_; refine wl_m ?_; refine wl_m ?_; refine wl_m ?_; refine wl_call1 (vs := [_]) Try.goes26 rfl (rune_ok ⟨hR9.blk, hR9.own, hR9.ne⟩ (by omega) hbi) rfl ?_; rintro _ w19 ⟨rfl, hw20, hR2⟩; have hE21 := hV18.step hw20 (fun y hy => .inl hy); have hB22 := hown.evo hw20 ((by first | exact hA1.symm.own1 | exact hA1.symm.nmem1)); have hB23 := hts.evo hw20 (nb_fr hfr hbw); refine wl_call1 (vs := [_, _]) Try.goes30 rfl (lit_ok hR2 (nextR s i).1 hr0 hr1) rfl ?_; rintro rv w24 ⟨hT, hw25⟩; have hcall9 := hw25; have hV9 := hE21; have hl1 := ots_lt hB22 hB23; have hql2 : ∀ q, q ∈ qo.toList → q < _ := fun q hq => hl1 q (List.mem_append_left _ hq); have hE26 := hE21.then hw25; have hO27 := hB22.evo0 hw25; have hF28 := hB23.evo0 hw25; have hB29 := hw25.blk0 hR2.blk; have hO30 := hR2.own.evo0 hw25; obtain ⟨vs, bx, rfl, hOT, hFx⟩ := hT; obtain ⟨ra, rc, ka, kc, rfl⟩ := id hOT.nine; refine wl_bslice (vs := [_]) rfl Try.slice23 rfl rfl rfl rfl fun b31 w32 hO33 hs34 hw35 => ?_; have hA36 := Apart.new (Lt.own hO27) hs34; have hA37 := Apart.new (Lt.blk hB29) hs34; have hA38 := Apart.new (Lt.own hO30) hs34; have hG39 := Ge.new hE26 hs34; have hG40 := Ge.new (Evo.refl [] w24) hs34; have hE41 := hE26.then hw35; have hE42 := (Evo.refl [] w24).then hw35; have hO43 := hO27.evo0 hw35; have hF44 := hF28.evo0 hw35; have hB45 := hw35.blk0 hB29; have hO46 := hO30.evo0 hw35; have hF47 := hOT.evo0 hw35; have hLT9 := hF47; have hVV := hE42
    refine wl_append rfl rfl rfl rfl Try.app23_23 hO43 (Src.ofOwn hO33 ⟨by first | rfl | assumption, by first | rfl | assumption, by first | rfl | assumption, by first | rfl | assumption, by first | rfl | assumption, by first | rfl | assumption, by first | rfl | assumption, by first | rfl | assumption, by first | rfl | assumption, trivial⟩) (by have := own_tn hown hts; omega) fun a2 c2 w50 ob2 hO2 hw53 hob54 => ?_
    have hA55 := hA1.app (Lt.blk hB45) hob54; have hA56 := hA2.app (Lt.own hO46) hob54; have hA57 := hA36.symm.app (Lt.own hO33) hob54; have hG58 := (fr_ge hfr).app hE41 hob54; have hE59 := hE41.step hw53 (fr_ge hfr).mem; have hF61 := hF44.evo hw53 (fr_ap hfr); have hB62 := hw53.blk hB45 hA1.nmem; have hO63 := hO46.evo hw53 hA2.own
    have hF64 := hF47.evo hw53 (fun q hq h => by have h8 := hFx.ge q hq; have h9 := hql2 q h; omega)
    have hO65 := hO33.evo hw53 hA36.symm.own; have hob2 := hob54; have hFr9 := Fr.grow hfr hl1 hFx (OT.lt hLT9) hV9.size (Nat.le_trans hcall9.size hVV.size) hob2; refine wl_a ?_; refine wl_nil (nrm_block (nrm_same ?_)); refine ⟨⟨f', i + (nextR s i).2, n + 1, l ++ [litP st.now (nextR s i).1], a2, c2, ob2, bs ++ bx⟩, ?_, ⟨rfl, trivial⟩, ⟨rfl, rfl, rfl, rfl, trivial⟩, hE59, ?_⟩
    · (try dsimp only); omega
    ·skip
     try dsimp only
     have hTs := OTs.app hF61 (OTs.single hF64)
     refine ⟨⟨hB62, hO63, hR2.ne⟩, hn2, ?_, (by show s.size ≤ f' + (i + (nextR s i).2); omega), ⟨_, hO2, hTs⟩, hFr9, ?_, hn3⟩
     · rw [heq]; exact quo_go hii
     · show (l ++ [litP st.now (nextR s i).1]).length + (st.pos + 2) ≤ i + (nextR s i).2; rw [List.length_append]; simp; omega
   ·skip
    refine cw_exit (ex_then (ex_then (ex_here (nrm_then ?_)))); refine cw_seq ?_; refine cw_region ?_; refine wl_m ?_; refine wl_val rfl (ex_nilCheck rfl) ?_; refine wl_val rfl (ex_fieldAddr rfl Try.fld41_1) ?_; refine wl_val rfl (ex_load1 rfl Try.agg3 (cell_nth hR9.blk rfl)) ?_; refine wl_m ?_; refine wl_val rfl (ex_add_i64 rfl rfl (by omega) (by omega)) ?_; refine wl_val rfl (ex_nilCheck rfl) ?_; refine wl_val rfl (ex_fieldAddr rfl Try.fld41_1) ?_; refine wl_store1 rfl rfl (by first | rfl | assumption) Try.size3 hR9.blk rfl fun w66 hB67 hw68 => ?_; have hE69 := hV18.step hw68 (fun y hy => .inl hy); have hO70 := hR9.own.evo hw68 hR9.ap.symm.own1; have hO71 := hown.evo hw68 hA1.symm.own1; have hF72 := hts.evo hw68 (nb_fr hfr hbw)
    try simp only [List.setIfInBounds_toArray, List.set_cons_zero, List.set_cons_succ, Nat.reduceAdd, Nat.zero_add, Nat.add_zero] at hB67
    refine wl_nil (nrm_then ?_); refine cw_seq ?_; refine cw_region ?_; refine wl_m ?_; refine wl_a ?_; refine wl_nil (nrm_then ?_); refine cw_ret (body_ret1 rfl rfl ?_); have hend := heq.trans (quo_end (by omega)); obtain rfl := own_tn hown hts; have h69 : sb s k = 92 ∧ sb s (k + 1) = 69 := fnd_occ hk
    obtain rfl : i = k := by omega
    have hb2 : Bd s (i + 1) := isB.asc (b := 92) ⟨by omega, h69.1⟩ (by decide) hbi; have hb3 : Bd s (i + 2) := isB.asc (b := 69) ⟨by omega, h69.2⟩ (by decide) hb2
    exact ⟨l, pset st (i + 2), (pq_some hk).trans (by rw [hend]; rfl), ⟨_, _, _, _, _, rfl, hO71, hF72, hfr⟩, hE69, ⟨hB67, hO70, hR9.ne⟩, rfl, rfl, (by show st.pos + 2 ≤ i + 2; omega), hb3, (by show l.length + st.pos ≤ i + 2; omega)⟩
  ·skip
   refine cw_skip (nrm_then ?_); refine cw_seq ?_; refine cw_region ?_; refine wl_a ?_; refine wl_nil (nrm_then ?_); refine cw_seq ?_; refine cw_block ?_
   refine cw_loop (α := QuG) (⟨s.size, st.pos + 2, 0, [], none, 0, none, []⟩) (fun x => [(6, .slice x.qa x.n x.qc)]) [(0, _), (2, _), (3, _), (4, _)] (fun x wr => Evo [b] w wr ∧ (QuI w wr b s st a c ob s.size (st.pos + 2) x)) (fun x => x.f) ⟨rfl, trivial⟩ ⟨rfl, rfl, rfl, rfl, trivial⟩ ⟨hE13, ⟨⟨hB15, hO16, hR.ne⟩, hb, rfl, Nat.le_add_right _ _, ⟨[], OwnS.nil _ _ _, OTs.nil _⟩, Fr.nil _, (by show 0 + (st.pos + 2) ≤ st.pos + 2; omega), (by show st.pos + 2 ≤ _; omega)⟩⟩ ?_
   rintro ⟨f, i, n, l, qa, qc, qo, bs⟩ wr73 ⟨hV74, ⟨hR9, hbi, heq, hfi, ⟨cs, hown, hts⟩, hfr, hlen, hie⟩⟩; show CW _ _ _ _ [(6, .slice qa n qc), (0, _), (2, _), (3, _), (4, _)] _
   try dsimp only at hR9
   try dsimp only at hbi
   try dsimp only at heq
   try dsimp only at hfi
   try dsimp only at cs
   try dsimp only at hown
   try dsimp only at hts
   try dsimp only at hfr
   try dsimp only at hlen
   try dsimp only at hie
   have hpi : (pset st i).pos = i := rfl; have hil := hbi.le; have hA2 : Apart ob qo := ap_old how (fr_ge hfr); have hA1 : Apart (some b) qo := ap_old hbw (fr_ge hfr); refine cw_seq ?_; refine cw_seq ?_; refine cw_region ?_; refine wl_m ?_; refine wl_val rfl (ex_nilCheck rfl) ?_; refine wl_val rfl (ex_fieldAddr rfl Try.fld41_1) ?_; refine wl_val rfl (ex_load1 rfl Try.agg3 (cell_nth hR9.blk rfl)) ?_; refine wl_m ?_; refine wl_val rfl (ex_lss rfl rfl) ?_; refine wl_nil (nrm_then ?_); refine cw_if rfl (fun hc42 => ?_) (fun hc42 => ?_)
   ·skip
    have hii : i < s.size := by omega
    have hsz2 := (hb.size).le; obtain ⟨hn0, hn1, hn2, hr0, hr1⟩ := hbi.next (by omega); have hn3 := bd_step hbi hii (hb.size); obtain ⟨f', rfl⟩ : ∃ f', f = f' + 1 := ⟨f - 1, by omega⟩; have hql := ots_lt hown hts; refine cw_skip (nrm_then ?_); refine cw_block ?_; refine cw_region ?_; refine wl_m ?_; refine wl_m ?_; refine wl_m ?_; refine wl_call1 (vs := [_]) Try.goes26 rfl (rune_ok ⟨hR9.blk, hR9.own, hR9.ne⟩ (by omega) hbi) rfl ?_; rintro _ w75 ⟨rfl, hw76, hR2⟩; have hE77 := hV74.step hw76 (fun y hy => .inl hy); have hB78 := hown.evo hw76 ((by first | exact hA1.symm.own1 | exact hA1.symm.nmem1)); have hB79 := hts.evo hw76 (nb_fr hfr hbw); refine wl_call1 (vs := [_, _]) Try.goes30 rfl (lit_ok hR2 (nextR s i).1 hr0 hr1) rfl ?_; rintro rv w80 ⟨hT, hw81⟩; have hcall9 := hw81; have hV9 := hE77; have hl1 := ots_lt hB78 hB79; have hql2 : ∀ q, q ∈ qo.toList → q < _ := fun q hq => hl1 q (List.mem_append_left _ hq); have hE82 := hE77.then hw81; have hO83 := hB78.evo0 hw81; have hF84 := hB79.evo0 hw81; have hB85 := hw81.blk0 hR2.blk; have hO86 := hR2.own.evo0 hw81; obtain ⟨vs, bx, rfl, hOT, hFx⟩ := hT; obtain ⟨ra, rc, ka, kc, rfl⟩ := id hOT.nine; refine wl_bslice (vs := [_]) rfl Try.slice23 rfl rfl rfl rfl fun b87 w88 hO89 hs90 hw91 => ?_; have hA92 := Apart.new (Lt.own hO83) hs90; have hA93 := Apart.new (Lt.blk hB85) hs90; have hA94 := Apart.new (Lt.own hO86) hs90; have hG95 := Ge.new hE82 hs90; have hG96 := Ge.new (Evo.refl [] w80) hs90; have hE97 := hE82.then hw91; have hE98 := (Evo.refl [] w80).then hw91; have hO99 := hO83.evo0 hw91; have hF100 := hF84.evo0 hw91; have hB101 := hw91.blk0 hB85; have hO102 := hO86.evo0 hw91; have hF103 := hOT.evo0 hw91; have hLT9 := hF103; have hVV := hE98
    refine wl_append rfl rfl rfl rfl Try.app23_23 hO99 (Src.ofOwn hO89 ⟨by first | rfl | assumption, by first | rfl | assumption, by first | rfl | assumption, by first | rfl | assumption, by first | rfl | assumption, by first | rfl | assumption, by first | rfl | assumption, by first | rfl | assumption, by first | rfl | assumption, trivial⟩) (by have := own_tn hown hts; omega) fun a2 c2 w106 ob2 hO2 hw109 hob110 => ?_
    have hA111 := hA1.app (Lt.blk hB101) hob110; have hA112 := hA2.app (Lt.own hO102) hob110; have hA113 := hA92.symm.app (Lt.own hO89) hob110; have hG114 := (fr_ge hfr).app hE97 hob110; have hE115 := hE97.step hw109 (fr_ge hfr).mem; have hF117 := hF100.evo hw109 (fr_ap hfr); have hB118 := hw109.blk hB101 hA1.nmem; have hO119 := hO102.evo hw109 hA2.own
    have hF120 := hF103.evo hw109 (fun q hq h => by have h8 := hFx.ge q hq; have h9 := hql2 q h; omega)
    have hO121 := hO89.evo hw109 hA92.symm.own; have hob2 := hob110; have hFr9 := Fr.grow hfr hl1 hFx (OT.lt hLT9) hV9.size (Nat.le_trans hcall9.size hVV.size) hob2; refine wl_a ?_; refine wl_nil (nrm_block (nrm_same ?_)); refine ⟨⟨f', i + (nextR s i).2, n + 1, l ++ [litP st.now (nextR s i).1], a2, c2, ob2, bs ++ bx⟩, ?_, ⟨rfl, trivial⟩, ⟨rfl, rfl, rfl, rfl, trivial⟩, hE115, ?_⟩
    · (try dsimp only); omega
    ·skip
     try dsimp only
     have hTs := OTs.app hF117 (OTs.single hF120)
     refine ⟨⟨hB118, hO119, hR2.ne⟩, hn2, ?_, (by show s.size ≤ f' + (i + (nextR s i).2); omega), ⟨_, hO2, hTs⟩, hFr9, ?_, hn3⟩
     · rw [heq]; exact quo_go hii
     · show (l ++ [litP st.now (nextR s i).1]).length + (st.pos + 2) ≤ i + (nextR s i).2; rw [List.length_append]; simp; omega
   ·skip
    refine cw_exit (ex_then (ex_then (ex_here (nrm_then ?_)))); refine cw_seq ?_; refine cw_region ?_; refine wl_m ?_; refine wl_val rfl (ex_nilCheck rfl) ?_; refine wl_val rfl (ex_fieldAddr rfl Try.fld41_1) ?_; refine wl_val rfl (ex_load1 rfl Try.agg3 (cell_nth hR9.blk rfl)) ?_; refine wl_m ?_; refine wl_val rfl (ex_add_i64 rfl rfl (by omega) (by omega)) ?_; refine wl_val rfl (ex_nilCheck rfl) ?_; refine wl_val rfl (ex_fieldAddr rfl Try.fld41_1) ?_; refine wl_store1 rfl rfl (by first | rfl | assumption) Try.size3 hR9.blk rfl fun w122 hB123 hw124 => ?_; have hE125 := hV74.step hw124 (fun y hy => .inl hy); have hO126 := hR9.own.evo hw124 hR9.ap.symm.own1; have hO127 := hown.evo hw124 hA1.symm.own1; have hF128 := hts.evo hw124 (nb_fr hfr hbw)
    try simp only [List.setIfInBounds_toArray, List.set_cons_zero, List.set_cons_succ, Nat.reduceAdd, Nat.zero_add, Nat.add_zero] at hB123
    refine wl_nil (nrm_then ?_); refine cw_seq ?_; refine cw_region ?_; refine wl_m ?_; refine wl_a ?_; refine wl_nil (nrm_then ?_); refine cw_ret (body_ret1 rfl rfl ?_); have hend := heq.trans (quo_end (by omega)); obtain rfl := own_tn hown hts
    exact ⟨l, pset st (i), (pq_none (fnd_no hc30)).trans (by rw [hend]; rfl), ⟨_, _, _, _, _, rfl, hO127, hF128, hfr⟩, hE125, ⟨hB123, hO126, hR9.ne⟩, rfl, rfl, (by show st.pos + 2 ≤ i; omega), hbi, (by show l.length + st.pos ≤ i; omega)⟩
end Go.Proofs.Ytljadkcojnlioaa
namespace Go.Proofs.Ytljadkcojnlioaa
open Go.Proofs
open Go.W Go.RowKit
attribute [local irreducible] Decidable.decide
set_option linter.unusedSimpArgs false
set_option linter.unusedVariables false
theorem Try.goes37 : Goes Try.prog 37 := ⟨_, Try.func37, by kernel_rfl, by kernel_rfl⟩
section
variable {s : ByteArray} {st : PS} {S : Int → Prop} {v j : Nat} {e : Int}
theorem es_end (h : s.size ≤ st.pos + 1) : pEscape s st = .error 83 := by unfold pEscape; rw [if_pos h]
theorem es_A (h : ¬ s.size ≤ st.pos + 1) (c : sb s (st.pos + 1) = 65) : pEscape s st = .ok ([rxK 8], pset st (st.pos + 2)) := by unfold pEscape; rw [if_neg h, if_pos c]; rfl
theorem es_z (h : ¬ s.size ≤ st.pos + 1) (c : sb s (st.pos + 1) = 122) : pEscape s st = .ok ([rxK 9], pset st (st.pos + 2)) := by unfold pEscape; rw [if_neg h, if_neg (by omega), if_pos c]; rfl
theorem es_b (h : ¬ s.size ≤ st.pos + 1) (c : sb s (st.pos + 1) = 98) : pEscape s st = .ok ([rxK 12], pset st (st.pos + 2)) := by unfold pEscape; rw [if_neg h, if_neg (by omega), if_neg (by omega), if_pos c]; rfl
theorem es_B (h : ¬ s.size ≤ st.pos + 1) (c : sb s (st.pos + 1) = 66) : pEscape s st = .ok ([rxK 13], pset st (st.pos + 2)) := by unfold pEscape; rw [if_neg h, if_neg (by omega), if_neg (by omega), if_neg (by omega), if_pos c]; rfl
theorem es_Q (h : ¬ s.size ≤ st.pos + 1) (c : sb s (st.pos + 1) = 81) : pEscape s st = pQuote s st := by unfold pEscape; rw [if_neg h, if_neg (by omega), if_neg (by omega), if_neg (by omega), if_neg (by omega), if_pos c]
theorem es_rest (h : ¬ s.size ≤ st.pos + 1) (c1 : ¬ sb s (st.pos + 1) = 65) (c2 : ¬ sb s (st.pos + 1) = 122) (c3 : ¬ sb s (st.pos + 1) = 98) (c4 : ¬ sb s (st.pos + 1) = 66) (c5 : ¬ sb s (st.pos + 1) = 81) : pEscape s st = (match letS (sb s (st.pos + 1)) with
    | some S => .ok ([nodeS S], { st with pos := st.pos + 2 })
    | none => match pEsc s st.pos with
      | .error e => .error e
      | .ok (v, j) => .ok ([litP st.now v], { st with pos := j })) := by unfold pEscape; rw [if_neg h, if_neg c1, if_neg c2, if_neg c3, if_neg c4, if_neg c5]; rfl
end
theorem KOut.older {w w1 w' : World} {v : Value} {l : List Rx} (h : KOut w1 w' v l) (hw : w.heap.size ≤ w1.heap.size) : KOut w w' v l := by
  obtain ⟨a, c, o, cs, bs, h1, h2, h3, h4⟩ := h
  exact ⟨a, c, o, cs, bs, h1, h2, h3, h4.older hw⟩
theorem letS_lo {c : Nat} {S : Int → Prop} (h : letS c = some S) : c < 128 := by
  rcases Nat.lt_or_ge c 128 with h1 | h1
  · exact h1
  · rw [letS_none (by omega)] at h; cases h
theorem escape_ok {w : World} {b : Nat} {s : ByteArray} {st : PS} {a : Option Addr} {c : Nat} {ob : Option Nat} (hR : RdAt w b s st a c ob) (hs : s.size ≤ 10000) (hlt : st.pos < s.size) (h92 : sb s st.pos = 92) (hb : Bd s st.pos) (hG : Glb w) :
    Calls Try.prog 25 #[.pointer (some ⟨b, 0, none⟩)] w (RetP (fun v w' => ∃ l st', pEscape s st = .ok (l, st') ∧ KOut w w' v l ∧ Evo [b] w w' ∧ RdAt w' b s st' a c ob ∧ st'.opn = st.opn ∧ st'.names = st.names ∧ st.pos < st'.pos ∧ Bd s st'.pos ∧ l.length + st.pos ≤ st'.pos) (fun v w' => ∃ e, pEscape s st = .error e ∧ v = flt e ∧ Evo [b] w w')) := by
  have hap := hR.ap; have hgb : GMax ∉ [b] := fun h => hR.glb hG (List.mem_singleton.1 h).symm; have hb1 := (hb.asc hlt (by omega)).1; have hb9 := sb_lt s (st.pos + 1); refine calls_of_cw (N := 98) Try.func25 rfl rfl rfl ?_; refine cw_seq ?_; refine cw_region ?_; refine wl_a ?_; refine wl_nil (nrm_then ?_); refine cw_seq ?_; refine cw_seq ?_; refine cw_quiet (by kernel_rfl) (by kernel_rfl) ?_; refine ql_val rfl (fun _ hq2 => ex_move rfl) ?_; refine ql_val rfl (fun _ hq2 => ex_nilCheck rfl) ?_; refine ql_val rfl (fun _ hq2 => ex_fieldAddr rfl Try.fld41_1) ?_; refine ql_val rfl (fun _ hq2 => ex_load1 rfl Try.agg3 (cell_nth (hq2.blk0 hR.blk) rfl)) ?_; refine ql_val rfl (fun _ hq2 => ex_add_i64 rfl rfl (by omega) (by omega)) ?_; refine ql_val rfl (fun _ hq2 => ex_move rfl) ?_; refine ql_val rfl (fun _ hq2 => ex_nilCheck rfl) ?_; refine ql_val rfl (fun _ hq2 => ex_fieldAddr rfl Try.fld41_0) ?_; refine ql_val rfl (fun _ hq2 => ex_load1 rfl Try.agg9 (cell_nth (hq2.blk0 hR.blk) rfl)) ?_; refine ql_val rfl (fun _ hq2 => ex_len_str rfl Try.underlying9 rfl) ?_; refine ql_val rfl (fun _ hq2 => ex_eql rfl rfl) ?_; refine ql_nil (fun wq1 hq2 => nrm_then ?_); have hE3 := (Evo.refl [b] w).then hq2; have hB4 := hq2.blk0 hR.blk; have hO5 := hR.own.evo0 hq2; refine cw_if rfl (fun hc16 => ?_) (fun hc16 => ?_)
  ·skip
   refine cw_region ?_; refine wl_callP1 (vs := [_]) Try.goes10 rfl (fail_ok 83) rfl ?_ ?_
   ·skip
    intro pv wp hpp; obtain ⟨rfl, hpw⟩ := hpp; exact And.intro rfl ⟨_, rfl, _, es_end (by omega), rfl, (hE3).then hpw⟩
   intro _ _ hF; exact hF.elim
  ·skip
   have hle2 : ¬ s.size ≤ st.pos + 1 := by omega
   refine cw_skip (nrm_then ?_); refine cw_seq ?_; refine cw_seq ?_; refine cw_quiet (by kernel_rfl) (by kernel_rfl) ?_; refine ql_val rfl (fun _ hq9 => ex_move rfl) ?_; refine ql_val rfl (fun _ hq9 => ex_nilCheck rfl) ?_; refine ql_val rfl (fun _ hq9 => ex_fieldAddr rfl Try.fld41_0) ?_; refine ql_val rfl (fun _ hq9 => ex_load1 rfl Try.agg9 (cell_nth (hq9.blk0 hB4) rfl)) ?_; refine ql_val rfl (fun _ hq9 => ex_move rfl) ?_; refine ql_val rfl (fun _ hq9 => ex_nilCheck rfl) ?_; refine ql_val rfl (fun _ hq9 => ex_fieldAddr rfl Try.fld41_1) ?_; refine ql_val rfl (fun _ hq9 => ex_load1 rfl Try.agg3 (cell_nth (hq9.blk0 hB4) rfl)) ?_; refine ql_val rfl (fun _ hq9 => ex_add_i64 rfl rfl (by omega) (by omega)) ?_; refine ql_val rfl (fun _ hq9 => ex_sidx (n := st.pos + 1) rfl rfl Try.underlying9 rfl (by omega)) ?_; refine ql_val rfl (fun _ hq9 => ex_assign rfl) ?_; refine ql_nil (fun wq8 hq9 => nrm_then ?_); have hE10 := hE3.then hq9; have hB11 := hq9.blk0 hB4; have hO12 := hO5.evo0 hq9; refine cw_seq ?_; refine cw_region ?_; refine wl_m ?_; refine wl_nil (nrm_then ?_); refine cw_block ?_; refine cw_seq ?_; refine cw_region ?_; refine wl_val rfl (ex_eql rfl rfl) ?_; refine wl_a ?_; refine wl_nil (nrm_then ?_); refine cw_if rfl (fun hc45 => ?_) (fun hc45 => ?_)
   ·skip
    refine cw_seq ?_; refine cw_region ?_; refine wl_m ?_; refine wl_val rfl (ex_nilCheck rfl) ?_; refine wl_val rfl (ex_fieldAddr rfl Try.fld41_1) ?_; refine wl_val rfl (ex_load1 rfl Try.agg3 (cell_nth hB11 rfl)) ?_; refine wl_val rfl (ex_add_i64 rfl rfl (by omega) (by omega)) ?_; refine wl_val rfl (ex_nilCheck rfl) ?_; refine wl_val rfl (ex_fieldAddr rfl Try.fld41_1) ?_; refine wl_store1 rfl rfl (by first | rfl | assumption) Try.size3 hB11 rfl fun w13 hB14 hw15 => ?_; have hE16 := hE10.step hw15 (fun y hy => .inl hy); have hO17 := hO12.evo hw15 hap.symm.own1
    try simp only [List.setIfInBounds_toArray, List.set_cons_zero, List.set_cons_succ, Nat.reduceAdd, Nat.zero_add, Nat.add_zero] at hB14
    refine wl_nil (nrm_then ?_); refine cw_seq ?_; refine cw_region ?_; refine wl_val rfl (ex_build (vs := [(0, _)]) Try.build25 rfl (cells := [_, _, _, _, _, _, _, _, _]) rfl) ?_; refine wl_bslice (vs := [_]) rfl Try.slice23 rfl rfl rfl rfl fun b55 w18 hO19 hs20 hw21 => ?_; have hA22 := Apart.new (Lt.blk hB14) hs20; have hA23 := Apart.new (Lt.own hO17) hs20; have hG24 := Ge.new hE16 hs20; have hE25 := hE16.then hw21; have hB26 := hw21.blk0 hB14; have hO27 := hO17.evo0 hw21; refine wl_a ?_; refine wl_nil (nrm_then ?_); refine cw_ret (ret_block (ret_then (bodyp_ret (body_ret1 rfl rfl ?_))))
    exact ⟨_, _, es_A hle2 (by omega), kout_one hO19 (ot_leaf 8 _) (Fr.nil _) (hG24 _ rfl) hE25 (fun b hb => by cases hb) (Nat.le_refl _), hE25, ⟨hB26, hO27, hR.ne⟩, rfl, rfl, (by show st.pos < st.pos + 2; omega), (hb1.asc (by omega) (by omega)).1, (by show 1 + st.pos ≤ st.pos + 2; omega)⟩
   ·skip
    refine cw_seq ?_; refine cw_region ?_; refine wl_val rfl (ex_eql rfl rfl) ?_; refine wl_a ?_; refine wl_nil (nrm_then ?_); refine cw_if rfl (fun hc56 => ?_) (fun hc56 => ?_)
    ·skip
     refine cw_seq ?_; refine cw_region ?_; refine wl_m ?_; refine wl_val rfl (ex_nilCheck rfl) ?_; refine wl_val rfl (ex_fieldAddr rfl Try.fld41_1) ?_; refine wl_val rfl (ex_load1 rfl Try.agg3 (cell_nth hB11 rfl)) ?_; refine wl_val rfl (ex_add_i64 rfl rfl (by omega) (by omega)) ?_; refine wl_val rfl (ex_nilCheck rfl) ?_; refine wl_val rfl (ex_fieldAddr rfl Try.fld41_1) ?_; refine wl_store1 rfl rfl (by first | rfl | assumption) Try.size3 hB11 rfl fun w28 hB29 hw30 => ?_; have hE31 := hE10.step hw30 (fun y hy => .inl hy); have hO32 := hO12.evo hw30 hap.symm.own1
     try simp only [List.setIfInBounds_toArray, List.set_cons_zero, List.set_cons_succ, Nat.reduceAdd, Nat.zero_add, Nat.add_zero] at hB29
     refine wl_nil (nrm_then ?_); refine cw_seq ?_; refine cw_region ?_; refine wl_val rfl (ex_build (vs := [(0, _)]) Try.build25 rfl (cells := [_, _, _, _, _, _, _, _, _]) rfl) ?_; refine wl_bslice (vs := [_]) rfl Try.slice23 rfl rfl rfl rfl fun b66 w33 hO34 hs35 hw36 => ?_; have hA37 := Apart.new (Lt.blk hB29) hs35; have hA38 := Apart.new (Lt.own hO32) hs35; have hG39 := Ge.new hE31 hs35; have hE40 := hE31.then hw36; have hB41 := hw36.blk0 hB29; have hO42 := hO32.evo0 hw36; refine wl_a ?_; refine wl_nil (nrm_then ?_); refine cw_ret (ret_block (ret_then (bodyp_ret (body_ret1 rfl rfl ?_))))
     exact ⟨_, _, es_z hle2 (by omega), kout_one hO34 (ot_leaf 9 _) (Fr.nil _) (hG39 _ rfl) hE40 (fun b hb => by cases hb) (Nat.le_refl _), hE40, ⟨hB41, hO42, hR.ne⟩, rfl, rfl, (by show st.pos < st.pos + 2; omega), (hb1.asc (by omega) (by omega)).1, (by show 1 + st.pos ≤ st.pos + 2; omega)⟩
    ·skip
     refine cw_seq ?_; refine cw_region ?_; refine wl_val rfl (ex_eql rfl rfl) ?_; refine wl_a ?_; refine wl_nil (nrm_then ?_); refine cw_if rfl (fun hc67 => ?_) (fun hc67 => ?_)
     ·skip
      refine cw_seq ?_; refine cw_region ?_; refine wl_m ?_; refine wl_val rfl (ex_nilCheck rfl) ?_; refine wl_val rfl (ex_fieldAddr rfl Try.fld41_1) ?_; refine wl_val rfl (ex_load1 rfl Try.agg3 (cell_nth hB11 rfl)) ?_; refine wl_val rfl (ex_add_i64 rfl rfl (by omega) (by omega)) ?_; refine wl_val rfl (ex_nilCheck rfl) ?_; refine wl_val rfl (ex_fieldAddr rfl Try.fld41_1) ?_; refine wl_store1 rfl rfl (by first | rfl | assumption) Try.size3 hB11 rfl fun w43 hB44 hw45 => ?_; have hE46 := hE10.step hw45 (fun y hy => .inl hy); have hO47 := hO12.evo hw45 hap.symm.own1
      try simp only [List.setIfInBounds_toArray, List.set_cons_zero, List.set_cons_succ, Nat.reduceAdd, Nat.zero_add, Nat.add_zero] at hB44
      refine wl_nil (nrm_then ?_); refine cw_seq ?_; refine cw_region ?_; refine wl_val rfl (ex_build (vs := [(0, _)]) Try.build25 rfl (cells := [_, _, _, _, _, _, _, _, _]) rfl) ?_; refine wl_bslice (vs := [_]) rfl Try.slice23 rfl rfl rfl rfl fun b77 w48 hO49 hs50 hw51 => ?_; have hA52 := Apart.new (Lt.blk hB44) hs50; have hA53 := Apart.new (Lt.own hO47) hs50; have hG54 := Ge.new hE46 hs50; have hE55 := hE46.then hw51; have hB56 := hw51.blk0 hB44; have hO57 := hO47.evo0 hw51; refine wl_a ?_; refine wl_nil (nrm_then ?_); refine cw_ret (ret_block (ret_then (bodyp_ret (body_ret1 rfl rfl ?_))))
      exact ⟨_, _, es_b hle2 (by omega), kout_one hO49 (ot_leaf 12 _) (Fr.nil _) (hG54 _ rfl) hE55 (fun b hb => by cases hb) (Nat.le_refl _), hE55, ⟨hB56, hO57, hR.ne⟩, rfl, rfl, (by show st.pos < st.pos + 2; omega), (hb1.asc (by omega) (by omega)).1, (by show 1 + st.pos ≤ st.pos + 2; omega)⟩
     ·skip
      refine cw_seq ?_; refine cw_region ?_; refine wl_val rfl (ex_eql rfl rfl) ?_; refine wl_a ?_; refine wl_nil (nrm_then ?_); refine cw_if rfl (fun hc78 => ?_) (fun hc78 => ?_)
      ·skip
       refine cw_seq ?_; refine cw_region ?_; refine wl_m ?_; refine wl_val rfl (ex_nilCheck rfl) ?_; refine wl_val rfl (ex_fieldAddr rfl Try.fld41_1) ?_; refine wl_val rfl (ex_load1 rfl Try.agg3 (cell_nth hB11 rfl)) ?_; refine wl_val rfl (ex_add_i64 rfl rfl (by omega) (by omega)) ?_; refine wl_val rfl (ex_nilCheck rfl) ?_; refine wl_val rfl (ex_fieldAddr rfl Try.fld41_1) ?_; refine wl_store1 rfl rfl (by first | rfl | assumption) Try.size3 hB11 rfl fun w58 hB59 hw60 => ?_; have hE61 := hE10.step hw60 (fun y hy => .inl hy); have hO62 := hO12.evo hw60 hap.symm.own1
       try simp only [List.setIfInBounds_toArray, List.set_cons_zero, List.set_cons_succ, Nat.reduceAdd, Nat.zero_add, Nat.add_zero] at hB59
       refine wl_nil (nrm_then ?_); refine cw_seq ?_; refine cw_region ?_; refine wl_val rfl (ex_build (vs := [(0, _)]) Try.build25 rfl (cells := [_, _, _, _, _, _, _, _, _]) rfl) ?_; refine wl_bslice (vs := [_]) rfl Try.slice23 rfl rfl rfl rfl fun b88 w63 hO64 hs65 hw66 => ?_; have hA67 := Apart.new (Lt.blk hB59) hs65; have hA68 := Apart.new (Lt.own hO62) hs65; have hG69 := Ge.new hE61 hs65; have hE70 := hE61.then hw66; have hB71 := hw66.blk0 hB59; have hO72 := hO62.evo0 hw66; refine wl_a ?_; refine wl_nil (nrm_then ?_); refine cw_ret (ret_block (ret_then (bodyp_ret (body_ret1 rfl rfl ?_))))
       exact ⟨_, _, es_B hle2 (by omega), kout_one hO64 (ot_leaf 13 _) (Fr.nil _) (hG69 _ rfl) hE70 (fun b hb => by cases hb) (Nat.le_refl _), hE70, ⟨hB71, hO72, hR.ne⟩, rfl, rfl, (by show st.pos < st.pos + 2; omega), (hb1.asc (by omega) (by omega)).1, (by show 1 + st.pos ≤ st.pos + 2; omega)⟩
      ·skip
       refine cw_seq ?_; refine cw_region ?_; refine wl_val rfl (ex_eql rfl rfl) ?_; refine wl_a ?_; refine wl_nil (nrm_then ?_); refine cw_if rfl (fun hc89 => ?_) (fun hc89 => ?_)
       ·skip
        refine cw_seq ?_; refine cw_region ?_; refine wl_m ?_
        refine wl_call1 (vs := [_]) Try.goes37 rfl (quotation_ok ⟨hB11, hO12, hR.ne⟩ hs (by have := hb1.asc (by omega) (by omega); exact this.1) (hG.evo hE10 hgb)) rfl ?_
        rintro rv w73 ⟨l, st', hq, hK, hw74, hR2, ho, hnm, hp, hbd, hll⟩; have hV9 := hE10; have hE75 := hE10.step hw74 (fun y hy => .inl hy); refine wl_a ?_; refine wl_nil (nrm_then ?_); refine cw_ret (ret_block (ret_then (bodyp_ret (body_ret1 rfl rfl ?_)))); exact ⟨_, _, (es_Q hle2 (by omega)).trans hq, hK.older hV9.size, hE75, hR2, ho, hnm, by omega, hbd, hll⟩
       ·skip
        have hrest := es_rest hle2 (by omega) (by omega) (by omega) (by omega) (by omega); refine cw_seq ?_; refine cw_region ?_; refine wl_m ?_; refine wl_call1 (vs := [_]) Try.goes38 rfl (letterSet_ok (sb s (st.pos + 1)) hb9) rfl ?_; rintro rv w76 ⟨hL, hw77⟩; obtain ⟨a1, c1, ob1, l1, rfl, hO1, hg1, hv1, hl1, hS1⟩ := hL.uni; have hA78 := Apart.fresh (Lt.blk hB11) hg1; have hA79 := Apart.fresh (Lt.own hO12) hg1; have hG80 := Ge.fresh hE10 hg1; have hE81 := hE10.then hw77; have hB82 := hw77.blk0 hB11; have hO83 := hO12.evo0 hw77; refine wl_m ?_; refine wl_val rfl (ex_extract rfl rfl) ?_; refine wl_val rfl (ex_extract rfl rfl) ?_; refine wl_a ?_; refine wl_a ?_; refine wl_nil (nrm_then ?_); refine cw_seq ?_; refine cw_region ?_; refine wl_m ?_; refine wl_nil (nrm_then ?_); refine cw_ifb rfl (fun hc34 => ?_) (fun hc34 => ?_)
        ·skip
         obtain ⟨S1, hS1'⟩ := some_of hc34; refine cw_seq ?_; refine cw_region ?_; refine wl_m ?_; refine wl_val rfl (ex_nilCheck rfl) ?_; refine wl_val rfl (ex_fieldAddr rfl Try.fld41_1) ?_; refine wl_val rfl (ex_load1 rfl Try.agg3 (cell_nth hB82 rfl)) ?_; refine wl_val rfl (ex_add_i64 rfl rfl (by omega) (by omega)) ?_; refine wl_val rfl (ex_nilCheck rfl) ?_; refine wl_val rfl (ex_fieldAddr rfl Try.fld41_1) ?_; refine wl_store1 rfl rfl (by first | rfl | assumption) Try.size3 hB82 rfl fun w84 hB85 hw86 => ?_; have hE87 := hE81.step hw86 (fun y hy => .inl hy); have hO88 := hO83.evo hw86 hap.symm.own1; have hO89 := hO1.evo hw86 hA78.symm.own1
         try simp only [List.setIfInBounds_toArray, List.set_cons_zero, List.set_cons_succ, Nat.reduceAdd, Nat.zero_add, Nat.add_zero] at hB85
         refine wl_nil (nrm_then ?_); refine cw_seq ?_; refine cw_region ?_; refine wl_m ?_; refine wl_call1 (vs := [_]) Try.goes27 rfl (node_ok hO89 hv1 (by omega) (hS1 S1 hS1')) rfl ?_; rintro rv w90 ⟨hT, hw91⟩; have hcall9 := hw91; have hV9 := hE87; have hE92 := hE87.then hw91; have hB93 := hw91.blk0 hB85; have hO94 := hO88.evo0 hw91; have hO95 := hO89.evo0 hw91; obtain ⟨vs, bx, rfl, hOT, hFx⟩ := hT; obtain ⟨ra, rc, ka, kc, rfl⟩ := id hOT.nine; refine wl_bslice (vs := [_]) rfl Try.slice23 rfl rfl rfl rfl fun b44 w96 hO97 hs98 hw99 => ?_; have hA100 := Apart.new (Lt.blk hB93) hs98; have hA101 := Apart.new (Lt.own hO94) hs98; have hA102 := Apart.new (Lt.own hO95) hs98; have hG103 := Ge.new hE92 hs98; have hG104 := Ge.new (Evo.refl ([]) w90) hs98; have hE105 := hE92.then hw99; have hE106 := (Evo.refl ([]) w90).then hw99; have hB107 := hw99.blk0 hB93; have hO108 := hO94.evo0 hw99; have hO109 := hO95.evo0 hw99; refine wl_a ?_; refine wl_nil (nrm_then ?_); refine cw_ret (ret_block (ret_then (bodyp_ret (body_ret1 rfl rfl ?_))))
         exact ⟨[nodeS S1], pset st (st.pos + 2), hrest.trans (by rw [hS1']; rfl), kout_one hO97 hOT (hFx.older hV9.size) (hG104 _ rfl) hE106 (fun b hb h => by cases h) (Nat.le_trans hV9.size hcall9.size), hE105, ⟨hB107, hO108, hR.ne⟩, rfl, rfl, (by show st.pos < st.pos + 2; omega), (hb1.asc (by omega) (letS_lo hS1')).1, (by show 1 + st.pos ≤ st.pos + 2; omega)⟩
        ·skip
         refine cw_skip (nrm_block (nrm_then ?_)); refine cw_seq ?_; refine cw_region ?_; refine wl_m ?_; refine wl_m ?_; refine wl_callP1 (vs := [_]) Try.goes39 rfl (escaped_ok ⟨hB82, hO83, hR.ne⟩ (by omega) hlt) rfl ?_ ?_
         ·skip
          intro pv wp hpp; obtain ⟨hpe, rfl, hpw⟩ := hpp; exact And.intro rfl ⟨_, rfl, _, hrest.trans (by rw [none_of' hc34, hpe]), rfl, (hE81).step hpw (fun y hy => .inl hy)⟩
         rintro _ w110 ⟨n, j, hx, rfl, hw111, hR3⟩; have hE112 := hE81.step hw111 (fun y hy => .inl hy); have hB113 := hO1.evo hw111 ((by first | exact hA78.symm.own1 | exact hA78.symm.nmem1)); obtain ⟨hbj, hij, hn1⟩ := pEsc_b hx hb h92; have hjl := hbj.le; refine wl_call1 (vs := [_, _]) Try.goes30 rfl (lit_ok (st := pset st j) ⟨hR3.blk, hR3.own, hR3.ne⟩ ((n : Nat) : Int) (by omega) (by omega)) rfl ?_; rintro rv w114 ⟨hT, hw115⟩; have hcall9 := hw115; have hV9 := hE112; have hE116 := hE112.then hw115; have hO117 := hB113.evo0 hw115; have hB118 := hw115.blk0 hR3.blk; have hO119 := hR3.own.evo0 hw115; obtain ⟨vs, bx, rfl, hOT, hFx⟩ := hT; obtain ⟨ra, rc, ka, kc, rfl⟩ := id hOT.nine; refine wl_bslice (vs := [_]) rfl Try.slice23 rfl rfl rfl rfl fun b97 w120 hO121 hs122 hw123 => ?_; have hA124 := Apart.new (Lt.own hO117) hs122; have hA125 := Apart.new (Lt.blk hB118) hs122; have hA126 := Apart.new (Lt.own hO119) hs122; have hG127 := Ge.new hE116 hs122; have hG128 := Ge.new (Evo.refl ([]) w114) hs122; have hE129 := hE116.then hw123; have hE130 := (Evo.refl ([]) w114).then hw123; have hO131 := hO117.evo0 hw123; have hB132 := hw123.blk0 hB118; have hO133 := hO119.evo0 hw123; refine wl_a ?_; refine wl_nil (nrm_then ?_); refine cw_ret (bodyp_ret (body_ret1 rfl rfl ?_))
         exact ⟨[litP st.now ((n : Nat) : Int)], pset st j, hrest.trans (by rw [none_of' hc34, hx]; rfl), kout_one hO121 hOT (hFx.older hV9.size) (hG128 _ rfl) hE130 (fun b hb h => by cases h) (Nat.le_trans hV9.size hcall9.size), hE129, ⟨hB132, hO133, hR3.ne⟩, rfl, rfl, hij, hbj, (by show 1 + st.pos ≤ j; omega)⟩
end Go.Proofs.Ytljadkcojnlioaa
namespace Go.Proofs.Ytljadkcojnlioaa
open Go.Proofs Go.W Go.RowKit
set_option linter.unusedVariables false
set_option linter.unusedSimpArgs false
theorem pWord_ge {s : ByteArray} : ∀ {f j : Nat}, j ≤ pWord s f j
  | 0, j => Nat.le_refl _
  | f + 1, j => by
    rw [pWord]
    split
    · exact Nat.le_trans (Nat.le_succ j) pWord_ge
    · exact Nat.le_refl _
theorem pSet_b {s : ByteArray} {i : Nat} : ∀ {f j : Nat} {b m : Bool} {n : Int} {fl : Fl}, (pSet s i f j b n m fl).err = 0 → ∃ k, j ≤ k ∧ k < s.size ∧ (sb s k = 58 ∨ sb s k = 41) ∧ (pSet s i f j b n m fl).size = k + 1 - i ∧ (pSet s i f j b n m fl).name = emp
  | 0, j, b, m, n, fl, h => absurd h (show ¬ (84 : Int) = 0 by omega)
  | f + 1, j, b, m, n, fl, h => by
    have step : ∀ {b' m' : Bool} {n' : Int} {fl' : Fl}, pSet s i (f + 1) j b n m fl = pSet s i f (j + 1) b' n' m' fl' → ∃ k, j ≤ k ∧ k < s.size ∧ (sb s k = 58 ∨ sb s k = 41) ∧ (pSet s i (f + 1) j b n m fl).size = k + 1 - i ∧ (pSet s i (f + 1) j b n m fl).name = emp := by
      intro b' m' n' fl' e
      rw [e] at h ⊢
      obtain ⟨k, h1, h2⟩ := pSet_b h
      exact ⟨k, by omega, h2⟩
    have no : ∀ {fl' : Fl}, pSet s i (f + 1) j b n m fl = ⟨0, emp, fl', false, false, 84⟩ → False := fun e => by rw [e] at h; exact absurd h (show ¬ (84 : Int) = 0 by omega)
    by_cases h0 : s.size ≤ j
    · exact (no (ps_end h0)).elim
    · by_cases h1 : sb s j = 105
      · exact step (ps_i (by omega) h1)
      · by_cases h2 : sb s j = 109
        · exact step (ps_m (by omega) h2)
        · by_cases h3 : sb s j = 115
          · exact step (ps_s (by omega) h3)
          · by_cases h4 : sb s j = 85
            · exact step (ps_u (by omega) h4)
            · by_cases h5 : sb s j = 45
              · cases m with
                | true => exact (no (ps_mm (by omega) h5)).elim
                | false => exact step (ps_m1 (by omega) h5)
              · by_cases h6 : sb s j = 58 ∨ sb s j = 41
                · have e := ps_c (i := i) (f := f) (b := b) (n := n) (m := m) (fl := fl) (show j < s.size by omega) h6
                  rw [e]
                  exact ⟨j, Nat.le_refl _, by omega, h6, rfl, rfl⟩
                · exact (no (ps_no (by omega) h1 h2 h3 h4 h5 h6)).elim
theorem pName_b {s : ByteArray} {i h : Nat} {fl : Fl} (he : (pName s i h fl).err = 0) : ∃ k, i + h ≤ k ∧ isB s k 62 ∧ (pName s i h fl).size = k + 1 - i ∧ (pName s i h fl).name.size ≤ s.size := by
  have hge : i + h ≤ pWord s s.size (i + h) := pWord_ge
  generalize e : pWord s s.size (i + h) = j at hge
  by_cases hc : j = i + h ∨ ¬ isB s j 62
  · rw [pName_bad e hc] at he
    exact absurd he (show ¬ (85 : Int) = 0 by omega)
  · rw [pName_ok e hc]
    have hj : isB s j 62 := Classical.not_not.1 (fun h => hc (.inr h))
    refine ⟨j, hge, hj, rfl, ?_⟩
    show (s.extract (i + h) j).size ≤ _
    rw [sub_sz (by have := hj.1; omega)]
    have := hj.1; omega
theorem pOpen_b {s : ByteArray} {i : Nat} {fl : Fl} (hb : Bd s i) (h40 : isB s i 40) (he : (pOpen s i fl).err = 0) : 1 ≤ (pOpen s i fl).size ∧ Bd s (i + (pOpen s i fl).size) ∧ (pOpen s i fl).name.size ≤ s.size := by
  have h1 := h40.asc (by decide) hb
  by_cases h : isB s i 40 ∧ isB s (i + 1) 63
  · by_cases ha : isB s (i + 2) 80 ∧ isB s (i + 3) 60
    · have e : pOpen s i fl = pName s i 4 fl := by unfold pOpen; rw [if_neg (fun h9 => h9 h), if_pos ha]
      rw [e] at he ⊢
      obtain ⟨k, h2, h3, h4, h5⟩ := pName_b he
      have h6 : Bd s (k + 1) := h3.asc (by decide) (bd_of_asc hb (by omega) h3.1 (by rw [h3.2]; decide))
      exact ⟨by omega, by rw [h4, show i + (k + 1 - i) = k + 1 by omega]; exact h6, h5⟩
    · by_cases hc : isB s (i + 2) 60
      · have e : pOpen s i fl = pName s i 3 fl := by unfold pOpen; rw [if_neg (fun h9 => h9 h), if_neg ha, if_pos hc]
        rw [e] at he ⊢
        obtain ⟨k, h2, h3, h4, h5⟩ := pName_b he
        have h6 : Bd s (k + 1) := h3.asc (by decide) (bd_of_asc hb (by omega) h3.1 (by rw [h3.2]; decide))
        exact ⟨by omega, by rw [h4, show i + (k + 1 - i) = k + 1 by omega]; exact h6, h5⟩
      · by_cases hd : isB s (i + 2) 58
        · have e : pOpen s i fl = ⟨3, emp, fl, false, false, 0⟩ := by unfold pOpen; rw [if_neg (fun h9 => h9 h), if_neg ha, if_neg hc, if_pos hd]
          rw [e]
          exact ⟨by show 1 ≤ 3; omega, hd.asc (by decide) (h.2.asc (by decide) h1), Nat.zero_le _⟩
        · have e : pOpen s i fl = pSet s i s.size (i + 2) true 0 false fl := by unfold pOpen; rw [if_neg (fun h9 => h9 h), if_neg ha, if_neg hc, if_neg hd]
          rw [e] at he ⊢
          obtain ⟨k, h2, h3, h4, h5, h6⟩ := pSet_b he
          have h7 : Bd s (k + 1) := ((bd_of_asc hb (by omega) h3 (by omega)).asc h3 (by omega)).1
          exact ⟨by omega, by rw [h5, show i + (k + 1 - i) = k + 1 by omega]; exact h7, by rw [h6]; exact Nat.zero_le _⟩
  · have e : pOpen s i fl = ⟨1, emp, fl, true, false, 0⟩ := open_grp h
    rw [e]
    exact ⟨Nat.le_refl _, h1, Nat.zero_le _⟩
theorem pOpen_e {s : ByteArray} {i : Nat} {fl : Fl} : (pOpen s i fl).size ≤ s.size + 3 := by
  have hn : ∀ h, (pName s i h fl).size ≤ s.size + 3 := fun h => by
    by_cases hc : pWord s s.size (i + h) = i + h ∨ ¬ isB s (pWord s s.size (i + h)) 62
    · rw [pName_bad rfl hc]; exact Nat.zero_le _
    · rw [pName_ok rfl hc]
      have hj : isB s (pWord s s.size (i + h)) 62 := Classical.not_not.1 (fun h => hc (.inr h))
      have := hj.1
      show pWord s s.size (i + h) + 1 - i ≤ _
      omega
  have hs : ∀ {f j : Nat} {b m : Bool} {n : Int} {fl : Fl}, (pSet s i f j b n m fl).size ≤ s.size + 3 := by
    intro f
    induction f with
    | zero => intro j b m n fl; exact Nat.zero_le _
    | succ f ih =>
      intro j b m n fl
      by_cases h0 : s.size ≤ j
      · rw [ps_end h0]; exact Nat.zero_le _
      · by_cases h1 : sb s j = 105
        · rw [ps_i (by omega) h1]; exact ih
        · by_cases h2 : sb s j = 109
          · rw [ps_m (by omega) h2]; exact ih
          · by_cases h3 : sb s j = 115
            · rw [ps_s (by omega) h3]; exact ih
            · by_cases h4 : sb s j = 85
              · rw [ps_u (by omega) h4]; exact ih
              · by_cases h5 : sb s j = 45
                · cases m with
                  | true => rw [ps_mm (by omega) h5]; exact Nat.zero_le _
                  | false => rw [ps_m1 (by omega) h5]; exact ih
                · by_cases h6 : sb s j = 58 ∨ sb s j = 41
                  · rw [ps_c (by omega) h6]; show j + 1 - i ≤ _; omega
                  · rw [ps_no (by omega) h1 h2 h3 h4 h5 h6]; exact Nat.zero_le _
  unfold pOpen
  split
  · show 1 ≤ _; omega
  · split
    · exact hn 4
    · split
      · exact hn 3
      · split
        · show 3 ≤ _; omega
        · exact hs
def NB (w : World) (o o' : Option Nat) : Prop := o' = o ∨ ∃ g, o' = some g ∧ w.heap.size ≤ g
structure Mv (s : ByteArray) (st st' : PS) : Prop where
  opn : st'.opn = st.opn
  le : st.pos ≤ st'.pos
  bd : Bd s st'.pos
  nm : st'.names.length ≤ 100
def ExPost (b : Nat) (s : ByteArray) (ex : PS → PX Rx) (st : PS) (ob : Option Nat) (w : World) (v : Value) (w' : World) : Prop :=
  ∃ x st', ex st = .ok (x, st') ∧ Evo (b :: ob.toList) w w' ∧ Mv s st st' ∧ ∃ a' c' ob' vs bs, v = .agg vs.toArray ∧ OT x w' vs bs ∧ Fr w bs ∧ RdAt w' b s st' a' c' ob' ∧ NB w ob ob'
def ExPan (b : Nat) {α : Type} (ex : PS → PX α) (st : PS) (ob : Option Nat) (w : World) (v : Value) (w' : World) : Prop := ∃ e, ex st = .error e ∧ v = flt e ∧ Evo (b :: ob.toList) w w'
def PcPost (b : Nat) (s : ByteArray) (pp : PS → PL) (st : PS) (ob : Option Nat) (w : World) (v : Value) (w' : World) : Prop :=
  ∃ l st', pp st = .ok (l, st') ∧ Evo (b :: ob.toList) w w' ∧ Mv s st st' ∧ st.pos < st'.pos ∧ l.length + st.pos ≤ st'.pos ∧
    ∃ a' c' ob' ka kc ko cs bs, v = .slice ka l.length kc ∧ OwnS w' 25 9 ka l.length kc cs ko ∧ OTs l w' cs bs ∧ Fr w (ko.toList ++ bs) ∧ RdAt w' b s st' a' c' ob' ∧ NB w ob ob'
def ExHyp (b : Nat) (s : ByteArray) (ex : PS → PX Rx) (m : Nat) : Prop := ∀ {w : World} {st : PS} {a : Option Addr} {c : Nat} {ob : Option Nat}, RdAt w b s st a c ob → st.opn = m → Bd s st.pos → st.names.length ≤ 100 → Glb w → Apart (some GMax) ob →
  Calls Try.prog 9 #[.pointer (some ⟨b, 0, none⟩)] w (RetP (ExPost b s ex st ob w) (ExPan b ex st ob w))
theorem nb_mem {w : World} {b : Nat} {o o1 : Option Nat} (h : NB w o o1) : ∀ y, y ∈ b :: o1.toList → y ∈ b :: o.toList ∨ w.heap.size ≤ y := fun y hy => by
  rcases List.mem_cons.1 hy with rfl | hy
  · exact .inl (List.mem_cons_self ..)
  · rcases h with rfl | ⟨g, rfl, hg⟩
    · exact .inl (List.mem_cons_of_mem _ hy)
    · rw [List.mem_singleton.1 hy]; exact .inr hg
theorem NB.older {w w1 : World} {o o1 o2 : Option Nat} (h : NB w o o1) (h2 : NB w1 o1 o2) (hw : w.heap.size ≤ w1.heap.size) : NB w o o2 := by
  rcases h2 with rfl | ⟨g, rfl, hg⟩
  · exact h
  · exact .inr ⟨g, rfl, Nat.le_trans hw hg⟩
theorem pc_of {b : Nat} {s : ByteArray} {pp : PS → PL} {st st' : PS} {a : Option Addr} {c : Nat} {ob : Option Nat} {w w' : World} {v : Value} {l : List Rx} (hR : RdAt w b s st a c ob) (h1 : pp st = .ok (l, st')) (hK : KOut w w' v l) (he : Evo [b] w w') (hR' : RdAt w' b s st' a c ob)
    (ho : st'.opn = st.opn) (hn : st'.names = st.names) (hn2 : st.names.length ≤ 100) (hp : st.pos < st'.pos) (hb : Bd s st'.pos) (hl : l.length + st.pos ≤ st'.pos) : PcPost b s pp st ob w v w' := by
  obtain ⟨ka, kc, ko, cs, bs, rfl, h2, h3, h4⟩ := hK
  exact ⟨l, st', h1, he.mono (fun q hq => by rw [List.mem_singleton.1 hq]; simp), ⟨ho, by omega, hb, by rw [hn]; exact hn2⟩, hp, hl, a, c, ob, ka, kc, ko, cs, bs, rfl, h2, h3, h4, hR', .inl rfl⟩
theorem pan_of {b : Nat} {α : Type} {pp : PS → PX α} {st : PS} {ob : Option Nat} {w w' : World} {e : Int} (h : pp st = .error e) (he : Evo [b] w w') : ExPan b pp st ob w (flt e) w' := ⟨e, h, rfl, he.mono (fun q hq => by rw [List.mem_singleton.1 hq]; simp)⟩
end Go.Proofs.Ytljadkcojnlioaa
