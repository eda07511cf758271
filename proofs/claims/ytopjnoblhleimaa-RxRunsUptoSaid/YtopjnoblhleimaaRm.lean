/- The walk of the law RxRuns. -/
import Derived.Test.YtopjnoblhleimaaRk
namespace Go.Proofs.Ytopjnoblhleimaa
open Go.Proofs
open Go.W
attribute [local irreducible] Decidable.decide
set_option linter.unusedSimpArgs false
set_option linter.unusedVariables false
theorem Try.agg36 : aggB Try.prog 36 = some true := by kernel_rfl
theorem Try.build29 : Build Try.prog 29 #[(0, 1), (1, 1), (2, 1), (3, 1), (4, 1)] #[.int .i64 0, .int .i64 0, .int .i64 0, .int .i64 0, .slice none 0 0] := ⟨_, .agg #[.int .i64 0, .int .i64 0, .int .i64 0, .int .i64 0, .slice none 0 0], Try.underlying29, by kernel_rfl, rfl, fun w => by kernel_rfl⟩
theorem Try.elem31 : elemB Try.prog 31 = some 5 := by kernel_rfl
theorem Try.fld36_0 : fieldB Try.prog 36 0 = some 0 := by kernel_rfl
theorem Try.fld36_1 : fieldB Try.prog 36 1 = some 4 := by kernel_rfl
theorem Try.goes10 : Goes Try.prog 10 := ⟨_, Try.func10, by kernel_rfl, by kernel_rfl⟩
theorem Try.goes11 : Goes Try.prog 11 := ⟨_, Try.func11, by kernel_rfl, by kernel_rfl⟩
theorem Try.goes12 : Goes Try.prog 12 := ⟨_, Try.func12, by kernel_rfl, by kernel_rfl⟩
theorem Try.goes13 : Goes Try.prog 13 := ⟨_, Try.func13, by kernel_rfl, by kernel_rfl⟩
theorem Try.goes14 : Goes Try.prog 14 := ⟨_, Try.func14, by kernel_rfl, by kernel_rfl⟩
theorem Try.goes9 : Goes Try.prog 9 := ⟨_, Try.func9, by kernel_rfl, by kernel_rfl⟩
theorem Try.size36 : sizeB Try.prog 36 = some 5 := by kernel_rfl
theorem Try.slice64 : sliceB Try.prog 64 = some (33, 1) := by kernel_rfl
theorem Try.zero36 : zeroB Try.prog 36 = some #[.slice none 0 0, .int .i64 0, .int .i64 0, .slice none 0 0, .string ByteArray.empty] := by kernel_rfl


structure Play where
  p : Prg
  s : ByteArray
def RPlay : Rel Play := fun X w vs d => d.s.size ≤ 1048576 ∧ ∃ pv, vs = pv ++ [.string d.s] ∧ RPrg X w pv d.p
theorem rnil0 {α : Type} {sz : Nat} {R : Rel α} {X : List Nat} {w : World} : RSl sz R X w (.slice none 0 0) [] := ⟨none, 0, rfl, by simp, fun k hk => by simp at hk⟩
theorem blk_pre {w : World} {b o : Nat} {cs : Array Value} {e : TypeId} {fz : Nat × Nat} {vs : List Value} (hb : w.heap[b]? = some (.cells cs e fz)) (pre post : List Value) (h : cs.toList = pre ++ vs ++ post) (ho : pre.length = o) : ∀ j v, vs[j]? = some v → w.cell? ⟨b, o + j, none⟩ = some v := fun j v hj => by
  refine cell_nth hb ?_
  have hl := (List.getElem?_eq_some_iff.1 hj).1
  rw [nth_eq, h, List.append_assoc, List.getElem?_append_right (by omega), ho, Nat.add_sub_cancel_left, List.getElem?_append_left hl]
  exact hj
/-- The smallest program that goes round. -/
def P1 : Prg := ⟨[⟨3, 0, 1, 0, []⟩, ⟨1, 0, 0, 0, []⟩], 0, 0, []⟩
theorem P1.ok : P1.Ok := ⟨by simp [P1], by simp [P1], by simp [P1], by simp [P1]⟩
theorem P1.sound : SoundP P1 := by
  refine ⟨by simp [HeadOk, P1], fun i h _ => ?_⟩
  have : i = 0 ∨ i = 1 := by simp [P1] at h; omega
  rcases this with rfl | rfl
  · refine ⟨by simp [NumOk, P1], fun j hj => by simp [P1] at hj⟩
  · refine ⟨by simp [NumOk, P1], fun j hj => by simp [P1] at hj⟩
theorem P1.runs : RunIs P1 (ByteArray.mk #[]) [0, 0] := by
  refine .inr ⟨P1.sound, some [], (WZ : Wt).lay 0 (((WZ : Wt) 0).add 0), ?_, rfl⟩
  refine .split (o := 0) (b := 1) rfl rfl ?_
  refine .seen (by simp [Wt.lay, Vis.add, P1]) ?_
  exact .found (by simp [Wt.lay, Vis.add, WZ, P1]) rfl rfl
theorem I1ok : (⟨1, 0, 0, 0, []⟩ : Inst).Ok := ⟨by simp, by simp, by simp, by simp, by simp⟩
theorem runIs_len {p : Prg} {s : ByteArray} {l : List Int} (h : RunIs p s l) : l.length ≤ 202 := by
  rcases h with ⟨_, rfl⟩ | ⟨hs, r, _, _, rfl⟩
  · simp
  · obtain ⟨_, _, _, _, _, h6, _⟩ := hs.1
    cases r with
    | none => simp [findOf]
    | some t => simp [findOf, slotsOf, nSlots]; omega
def S4 (a b c d : Sl) : Nat → Sl := fun k => if k = 0 then a else if k = 1 then b else if k = 2 then c else d
theorem s4_cases {a b c d : Sl} {k : Nat} {p : Sl → Prop} (ha : p a) (hb : p b) (hc : p c) (hd : p d) : p (S4 a b c d k) := by
  unfold S4
  repeat' split
  all_goals assumption
theorem sv4 (a b c d : Sl) : sv 4 (S4 a b c d) = [a.v, b.v, c.v, d.v] := rfl
theorem f4_nmem {a b c d : Sl} {o : Option Nat} (h0 : Apart o a.ob) (h1 : Apart o b.ob) (h2 : Apart o c.ob) (h3 : Apart o d.ob) : ∀ g, o = some g → g ∉ fobs 4 (S4 a b c d) := fobs_nmem fun k _ => s4_cases (p := fun s => Apart o s.ob) h0 h1 h2 h3
theorem f4_ge {a b c d : Sl} {X : List Nat} {w : World} (h0 : Ge w a.ob) (h1 : Ge w b.ob) (h2 : Ge w c.ob) (h3 : Ge w d.ob) : ∀ y, y ∈ fobs 4 (S4 a b c d) → y ∈ X ∨ w.heap.size ≤ y := fun y hy => by
  obtain ⟨k, _, hk⟩ := fobs_mem.1 hy
  exact .inr (s4_cases (p := fun s => ∀ y, s.ob = some y → w.heap.size ≤ y) h0 h1 h2 h3 y hk)
theorem fam4 {w : World} {a b c d : Sl} {la lb lc ld : List Int} (ha : OwnS w 3 1 a.a a.n a.c (la.map iv) a.ob) (hb : OwnS w 3 1 b.a b.n b.c (lb.map iv) b.ob) (hc : OwnS w 3 1 c.a c.n c.c (lc.map iv) c.ob) (hd : OwnS w 3 1 d.a d.n d.c (ld.map iv) d.ob)
    (hab : Apart a.ob b.ob) (hac : Apart a.ob c.ob) (had : Apart a.ob d.ob) (hbc : Apart b.ob c.ob) (hbd : Apart b.ob d.ob) (hcd : Apart c.ob d.ob) : Fam w 3 1 4 (S4 a b c d) (fun k => if k = 0 then la.map iv else if k = 1 then lb.map iv else if k = 2 then lc.map iv else ld.map iv) where
  own := fun k hk => by
    have : k = 0 ∨ k = 1 ∨ k = 2 ∨ k = 3 := by omega
    rcases this with rfl | rfl | rfl | rfl <;> simp [S4] <;> assumption
  ap := fun i j hi hj hij => by
    have h1 : i = 0 ∨ i = 1 ∨ i = 2 ∨ i = 3 := by omega
    have h2 : j = 0 ∨ j = 1 ∨ j = 2 ∨ j = 3 := by omega
    rcases h1 with rfl | rfl | rfl | rfl <;> rcases h2 with rfl | rfl | rfl | rfl <;> first | exact absurd rfl hij | (simp only [S4]; simp; first | assumption | (exact Apart.symm (by assumption)))
theorem same_tt {X Y : List Nat} {w : World} {v1 v2 : Value} {d1 d2 : List Int} (h1 : RSl 1 RZ X w v1 d1) (h2 : RSl 1 RZ Y w v2 d2) (hl : d1.length ≤ 202) (he : d1 = d2) : Calls Try.prog 9 #[v1, v2] w (Ret fun v w' => v = .bool true ∧ Evo [] w w') := by
  subst he
  exact (same_ok h1 h2 (by omega) (by omega)).mono fun _ _ ⟨v, he, hv, hw⟩ => ⟨v, he, by rw [hv, decide_eq_true rfl], hw⟩
theorem own_n {w : World} {e : TypeId} {a : Option Addr} {n c : Nat} {l : List Int} {ob : Option Nat} (h : OwnS w e 1 a n c (l.map iv) ob) : n = l.length := by have := h.length; simpa using this.symm
def mrow : List Value := [iv 1, iv 0, iv 0, iv 0, .slice none 0 0]
theorem mrow_one : ∀ u, u ∈ mrow → u.oneCell' = true := fun u hu => by simp [mrow] at hu; rcases hu with rfl | rfl | rfl <;> rfl
/-- The program when all its instructions are written over. -/
def over1 (p : Prg) : Prg := ⟨List.replicate p.insts.length ⟨1, 0, 0, 0, []⟩, p.start, p.groups, p.names⟩
theorem over_rows {X : List Nat} {w : World} (n : Nat) : RowsOk 5 RInst X w (List.replicate n mrow) (List.replicate n ⟨1, 0, 0, 0, []⟩) :=
  ⟨by simp, fun k h1 h2 => by simp only [List.getElem_replicate]; exact ⟨rfl, I1ok, _, rfl, rnil0⟩⟩
theorem rp_one {X : List Nat} {w : World} {vs : List Value} {p : Prg} (h : RPrg X w vs p) : ∃ a c b d, vs = [.slice a p.insts.length c, iv p.start, iv p.groups, .slice b p.names.length d] := by
  obtain ⟨_, iv0, nv0, rfl, ⟨a, c, rfl, _⟩, ⟨b, d, rfl, _⟩⟩ := h
  exact ⟨a, c, b, d, rfl⟩


theorem P1.rows {X : List Nat} {w : World} : RowsOk 5 RInst X w [[iv 3, iv 0, iv 1, iv 0, .slice none 0 0], [iv 1, iv 0, iv 0, iv 0, .slice none 0 0]] P1.insts := by
  refine ⟨rfl, fun k h1 h2 => ?_⟩
  have : k = 0 ∨ k = 1 := by simp [P1] at h1; omega
  rcases this with rfl | rfl
  · exact ⟨rfl, ⟨by simp [P1], by simp [P1], by simp [P1], by simp [P1], by simp [P1]⟩, _, rfl, rnil0⟩
  · exact ⟨rfl, ⟨by simp [P1], by simp [P1], by simp [P1], by simp [P1], by simp [P1]⟩, _, rfl, rnil0⟩

set_option maxHeartbeats 4000000 in
theorem law_ok {w : World} {v : Value} {ps : List Play} (h : RSl 5 RPlay [] w v ps) (hl : ps.length ≤ 140737488355328) : Calls Try.prog 4 #[v] w (Ret fun r w' => r = .bool true ∧ Evo [] w w') := by
  obtain ⟨a3, c3, rfl, hl3, e3⟩ := h
  refine calls_of_cw (N := 128) Try.func4 rfl rfl rfl ?_
  refine cw_seq ?_
  refine cw_region ?_
  refine wl_val rfl (ex_assign rfl) ?_
  refine wl_nil (nrm_then ?_)
  refine cw_seq ?_
  refine cw_region ?_
  refine wl_val rfl (ex_build (vs := [(0, _), (1, _), (2, _)]) Try.build29 rfl (cells := [_, _, _, _, _]) rfl) ?_
  refine wl_val rfl (ex_build (vs := [(0, _)]) Try.build29 rfl (cells := [_, _, _, _, _]) rfl) ?_
  refine wl_bslice (vs := [_, _]) rfl Try.slice22 rfl rfl rfl rfl fun b1 w2 hO3 hs4 hw5 => ?_
  have hG6 := Ge.new (Evo.refl [] w) hs4
  have hE7 := (Evo.refl [] w).then hw5
  refine wl_val rfl (ex_build (vs := [(0, _)]) Try.build25 rfl (cells := [_, _, _, _]) rfl) ?_
  refine wl_alloc rfl Try.zero25 fun b3 w8 hB9 hs10 hw11 => ?_
  have hA12 := Apart.new (Lt.own hO3) hs10
  have hG13 := Ge.new hE7 hs10
  have hE14 := hE7.then hw11
  have hO15 := hO3.evo0 hw11
  refine wl_storeBlk rfl rfl Try.size25 hB9 rfl rfl ⟨by first | rfl | assumption, by first | rfl | assumption, by first | rfl | assumption, by first | rfl | assumption, trivial⟩ fun w16 hB17 hw18 => ?_
  have hE19 := hE14.step hw18 hG13.mem1
  have hO20 := hO15.evo hw18 hA12.own1
  try simp only [List.setIfInBounds_toArray, List.set_cons_zero, List.set_cons_succ, Nat.reduceAdd, Nat.zero_add, Nat.add_zero] at hB17
  refine wl_nil (nrm_then ?_)
  refine cw_seq ?_
  refine cw_seq ?_
  refine cw_region ?_
  refine wl_val rfl (ex_loadBlk rfl Try.agg25 Try.size25 hB17 rfl) ?_
  refine wl_call1 (vs := [_, _]) Try.goes10 rfl (run_ok (⟨P1.ok, _, _, rfl, RSl.ofOwn (rows := [[iv 3, iv 0, iv 1, iv 0, .slice none 0 0], [iv 1, iv 0, iv 0, iv 0, .slice none 0 0]]) hO20 P1.rows rfl (fun _ _ => by simp), rnil0⟩ : RPrg [] w16 _ P1) (ByteArray.mk #[]) (by decide)) rfl ?_
  rintro _ w21 ⟨aM1, nM1, cM1, lM1, obM1, rfl, hOM1, hgM1, hRM1, hw22⟩
  have hA23 := Apart.fresh (Lt.own hO20) hgM1
  have hA24 := Apart.fresh (Lt.blk hB17) hgM1
  have hG25 := Ge.fresh hE19 hgM1
  have hE26 := hE19.then hw22
  have hO27 := hO20.evo0 hw22
  have hB28 := hw22.blk0 hB17
  refine wl_bslice (vs := [_, _]) rfl Try.slice33 rfl rfl rfl rfl fun b29 w30 hO31 hs32 hw33 => ?_
  have hA34 := Apart.new (Lt.own hO27) hs32
  have hA35 := Apart.new (Lt.blk hB28) hs32
  have hA36 := Apart.new (Lt.own hOM1) hs32
  have hG37 := Ge.new hE26 hs32
  have hE38 := hE26.then hw33
  have hO39 := hO27.evo0 hw33
  have hB40 := hw33.blk0 hB28
  have hO41 := hOM1.evo0 hw33
  refine wl_call1 (vs := [_, _]) Try.goes9 rfl (same_tt (own_rz (X := []) hO41 (fun _ _ => by simp)) (own_rz (X := []) (l := [0, 0]) hO31 (fun _ _ => by simp)) (runIs_len hRM1) (hRM1.uniq P1.runs)) rfl ?_
  rintro _ w42 ⟨rfl, hw43⟩
  have hE44 := hE38.then hw43
  have hO45 := hO39.evo0 hw43
  have hB46 := hw43.blk0 hB40
  have hO47 := hO41.evo0 hw43
  have hO48 := hO31.evo0 hw43
  refine wl_val rfl (ex_notb rfl) ?_
  refine wl_nil (nrm_then ?_)
  refine cw_false rfl ?_
  refine cw_skip (nrm_then ?_)
  refine cw_seq ?_
  refine cw_seq ?_
  refine cw_region ?_
  refine wl_val rfl (ex_move rfl) ?_
  refine wl_val rfl (ex_len_slice rfl Try.underlying31 rfl) ?_
  refine wl_val rfl (ex_move rfl) ?_
  refine wl_nil (nrm_then ?_)
  refine cw_block ?_
  refine cw_loop (α := Nat) (0) (fun k => [(25, .int .i64 (k : Nat))]) [(23, _), (24, _)] (fun k wr => Evo [] w wr ∧ (k ≤ ps.length)) (fun k => ps.length - k) ⟨rfl, trivial⟩ ⟨rfl, rfl, trivial⟩ ⟨hE44, Nat.zero_le _⟩ ?_
  rintro k wr49 ⟨hV50, hk⟩
  show CW _ _ _ _ [(25, _), (23, _), (24, _)] _
  refine cw_seq ?_
  refine cw_region ?_
  refine wl_val rfl (ex_lss rfl rfl) ?_
  refine wl_nil (nrm_then ?_)
  refine cw_seq ?_
  refine cw_if rfl (fun hc26 => ?_) (fun hc26 => ?_)
  · skip
    have hk' : k < ps.length := by omega
    obtain ⟨bx, ox, vsx, hax, -, -, hcx, hrx⟩ := e3 k hk'
    generalize ps[k] = x at hrx
    obtain ⟨hxs, pv, rfl, hxp⟩ := hrx
    have hxok := hxp.1
    have hil := hxok.ilen
    obtain ⟨xa, xc, xb, xd, rfl⟩ := rp_one hxp
    refine cw_skip (nrm_then ?_)
    refine cw_seq ?_
    refine cw_block ?_
    refine cw_seq ?_
    refine cw_region ?_
    refine wl_val rfl (ex_indexAddr (n := k) (by rw [hax]; rfl) rfl Try.elem31 hk') ?_
    refine wl_val rfl (ex_loadA rfl Try.agg36 Try.size36 (vs := [.slice xa x.p.insts.length xc, iv x.p.start, iv x.p.groups, .slice xb x.p.names.length xd, .string x.s]) rfl (hcx.evo hV50 (by simp))) ?_
    refine wl_alloc rfl Try.zero36 fun b5 w51 hB52 hs53 hw54 => ?_
    have hG55 := Ge.new hV50 hs53
    have hE56 := hV50.then hw54
    refine wl_storeBlk rfl rfl Try.size36 hB52 rfl rfl ⟨by first | rfl | assumption, by first | rfl | assumption, by first | rfl | assumption, by first | rfl | assumption, by first | rfl | assumption, trivial⟩ fun w57 hB58 hw59 => ?_
    have hE60 := hE56.step hw59 hG55.mem1
    try simp only [List.setIfInBounds_toArray, List.set_cons_zero, List.set_cons_succ, Nat.reduceAdd, Nat.zero_add, Nat.add_zero] at hB58
    refine wl_nil (nrm_then ?_)
    refine cw_seq ?_
    refine cw_region ?_
    refine wl_val rfl (ex_fieldAddr rfl Try.fld36_0) ?_
    refine wl_val rfl (ex_loadA rfl Try.agg25 Try.size25 (vs := [.slice xa x.p.insts.length xc, iv x.p.start, iv x.p.groups, .slice xb x.p.names.length xd]) rfl (blk_pre hB58 [] [.string x.s] rfl rfl)) ?_
    refine wl_call1 (vs := [_]) Try.goes11 rfl (copied_ok (RPrg.pers _ _ _ _ _ hE60 hxp)) rfl ?_
    rintro _ w61 ⟨qa, qc, qn, rows, obq, rfl, hqI, hqR, hqN, hgq, hw62⟩
    have hA63 := Apart.fresh (Lt.blk hB58) hgq
    have hG64 := Ge.fresh hE60 hgq
    have hE65 := hE60.then hw62
    have hB66 := hw62.blk0 hB58
    have hq : RPrg [] w61 [.slice qa x.p.insts.length qc, iv x.p.start, iv x.p.groups, qn] x.p := ⟨hxok, _, _, rfl, RSl.ofOwn hqI (hqR.fresh RInst.fresh (fun y hy => by cases hy)) rfl (fun _ _ => by simp), RSl.fresh (by decide) RStr.fresh (fun y hy => by cases hy) hqN⟩
    have hqn1 := hqN.one
    refine wl_alloc rfl Try.zero25 fun b6 w67 hB68 hs69 hw70 => ?_
    have hA71 := Apart.new (Lt.blk hB66) hs69
    have hA72 := Apart.new (Lt.own hqI) hs69
    have hG73 := Ge.new hE65 hs69
    have hG74 := Ge.new (Evo.refl [] w61) hs69
    have hE75 := hE65.then hw70
    have hE76 := (Evo.refl [] w61).then hw70
    have hB77 := hw70.blk0 hB66
    have hO78 := hqI.evo0 hw70
    refine wl_storeBlk rfl rfl Try.size25 hB68 rfl rfl ⟨by first | rfl | assumption, by first | rfl | assumption, by first | rfl | assumption, by first | rfl | assumption, trivial⟩ fun w79 hB80 hw81 => ?_
    have hE82 := hE75.step hw81 hG73.mem1
    have hE83 := hE76.step hw81 hG74.mem1
    have hB84 := hw81.blk hB77 hA71.nmem1
    have hO85 := hO78.evo hw81 hA72.own1
    try simp only [List.setIfInBounds_toArray, List.set_cons_zero, List.set_cons_succ, Nat.reduceAdd, Nat.zero_add, Nat.add_zero] at hB80
    refine wl_nil (nrm_then ?_)
    refine cw_seq ?_
    refine cw_region ?_
    refine wl_val rfl (ex_fieldAddr rfl Try.fld36_0) ?_
    refine wl_val rfl (ex_loadA rfl Try.agg25 Try.size25 (vs := [.slice xa x.p.insts.length xc, iv x.p.start, iv x.p.groups, .slice xb x.p.names.length xd]) rfl (blk_pre hB84 [] [.string x.s] rfl rfl)) ?_
    refine wl_val rfl (ex_fieldAddr rfl Try.fld36_1) ?_
    refine wl_val rfl (ex_load1 rfl Try.agg9 (cell_nth hB84 rfl)) ?_
    refine wl_call1 (vs := [_, _]) Try.goes12 rfl (refRun_ok (RPrg.pers _ _ _ _ _ hE82 hxp) x.s (by omega)) rfl ?_
    rintro _ w86 ⟨aW, nW, cW, lW, obW, rfl, hOW, hgW, hRW, hw87⟩
    have hA88 := Apart.fresh (Lt.blk hB84) hgW
    have hA89 := Apart.fresh (Lt.own hO85) hgW
    have hA90 := Apart.fresh (Lt.blk hB80) hgW
    have hG91 := Ge.fresh hE82 hgW
    have hG92 := Ge.fresh hE83 hgW
    have hE93 := hE82.then hw87
    have hE94 := hE83.then hw87
    have hB95 := hw87.blk0 hB84
    have hO96 := hO85.evo0 hw87
    have hB97 := hw87.blk0 hB80
    refine wl_val rfl (ex_assign rfl) ?_
    refine wl_nil (nrm_then ?_)
    refine cw_seq ?_
    refine cw_region ?_
    refine wl_val rfl (ex_loadBlk rfl Try.agg25 Try.size25 hB97 rfl) ?_
    refine wl_val rfl (ex_fieldAddr rfl Try.fld36_1) ?_
    refine wl_val rfl (ex_load1 rfl Try.agg9 (cell_nth hB95 rfl)) ?_
    refine wl_call1 (vs := [_, _]) Try.goes10 rfl (run_ok (RPrg.pers _ _ _ _ _ hE94 hq) x.s (by omega)) rfl ?_
    rintro _ w98 ⟨aa, na, ca, la, oba, rfl, hOa, hga, hRa, hw99⟩
    have hA100 := Apart.fresh (Lt.blk hB95) hga
    have hA101 := Apart.fresh (Lt.own hO96) hga
    have hA102 := Apart.fresh (Lt.blk hB97) hga
    have hA103 := Apart.fresh (Lt.own hOW) hga
    have hG104 := Ge.fresh hE93 hga
    have hG105 := Ge.fresh hE94 hga
    have hE106 := hE93.then hw99
    have hE107 := hE94.then hw99
    have hB108 := hw99.blk0 hB95
    have hO109 := hO96.evo0 hw99
    have hB110 := hw99.blk0 hB97
    have hO111 := hOW.evo0 hw99
    refine wl_val rfl (ex_assign rfl) ?_
    refine wl_nil (nrm_then ?_)
    refine cw_seq ?_
    refine cw_region ?_
    refine wl_val rfl (ex_loadBlk rfl Try.agg25 Try.size25 hB110 rfl) ?_
    refine wl_val rfl (ex_fieldAddr rfl Try.fld36_1) ?_
    refine wl_val rfl (ex_load1 rfl Try.agg9 (cell_nth hB108 rfl)) ?_
    refine wl_call1 (vs := [_, _]) Try.goes10 rfl (run_ok (RPrg.pers _ _ _ _ _ hE107 hq) x.s (by omega)) rfl ?_
    rintro _ w112 ⟨ab, nb, cb, lb, obb, rfl, hOb, hgb, hRb, hw113⟩
    have hA114 := Apart.fresh (Lt.blk hB108) hgb
    have hA115 := Apart.fresh (Lt.own hO109) hgb
    have hA116 := Apart.fresh (Lt.blk hB110) hgb
    have hA117 := Apart.fresh (Lt.own hO111) hgb
    have hA118 := Apart.fresh (Lt.own hOa) hgb
    have hG119 := Ge.fresh hE106 hgb
    have hG120 := Ge.fresh hE107 hgb
    have hE121 := hE106.then hw113
    have hE122 := hE107.then hw113
    have hB123 := hw113.blk0 hB108
    have hO124 := hO109.evo0 hw113
    have hB125 := hw113.blk0 hB110
    have hO126 := hO111.evo0 hw113
    have hO127 := hOa.evo0 hw113
    refine wl_val rfl (ex_assign rfl) ?_
    refine wl_nil (nrm_then ?_)
    refine cw_seq ?_
    refine cw_region ?_
    refine wl_val rfl (ex_loadBlk rfl Try.agg25 Try.size25 hB125 rfl) ?_
    refine wl_val rfl (ex_fieldAddr rfl Try.fld36_1) ?_
    refine wl_val rfl (ex_load1 rfl Try.agg9 (cell_nth hB123 rfl)) ?_
    refine wl_val rfl (ex_sadd rfl rfl (by have h1 : (ByteArray.mk #[97]).size = 1 := rfl; omega)) ?_
    refine wl_call1 (vs := [_, _]) Try.goes10 rfl (run_ok (RPrg.pers _ _ _ _ _ hE122 hq) (ByteArray.mk #[97] ++ x.s) (by rw [ByteArray.size_append]; have h1 : (ByteArray.mk #[97]).size = 1 := rfl; omega)) rfl ?_
    rintro _ w128 ⟨ac, nc, cc, lc, obc, rfl, hOc, hgc, hRc, hw129⟩
    have hA130 := Apart.fresh (Lt.blk hB123) hgc
    have hA131 := Apart.fresh (Lt.own hO124) hgc
    have hA132 := Apart.fresh (Lt.blk hB125) hgc
    have hA133 := Apart.fresh (Lt.own hO126) hgc
    have hA134 := Apart.fresh (Lt.own hO127) hgc
    have hA135 := Apart.fresh (Lt.own hOb) hgc
    have hG136 := Ge.fresh hE121 hgc
    have hG137 := Ge.fresh hE122 hgc
    have hE138 := hE121.then hw129
    have hE139 := hE122.then hw129
    have hB140 := hw129.blk0 hB123
    have hO141 := hO124.evo0 hw129
    have hB142 := hw129.blk0 hB125
    have hO143 := hO126.evo0 hw129
    have hO144 := hO127.evo0 hw129
    have hO145 := hOb.evo0 hw129
    refine wl_val rfl (ex_assign rfl) ?_
    refine wl_nil (nrm_then ?_)
    refine cw_seq ?_
    refine cw_region ?_
    refine wl_val rfl (ex_loadBlk rfl Try.agg25 Try.size25 hB142 rfl) ?_
    refine wl_val rfl (ex_fieldAddr rfl Try.fld36_1) ?_
    refine wl_val rfl (ex_load1 rfl Try.agg9 (cell_nth hB140 rfl)) ?_
    refine wl_call1 (vs := [_, _]) Try.goes10 rfl (run_ok (RPrg.pers _ _ _ _ _ hE139 hq) x.s (by omega)) rfl ?_
    rintro _ w146 ⟨ad, nd, cd, ld, obd, rfl, hOd, hgd, hRd, hw147⟩
    have hA148 := Apart.fresh (Lt.blk hB140) hgd
    have hA149 := Apart.fresh (Lt.own hO141) hgd
    have hA150 := Apart.fresh (Lt.blk hB142) hgd
    have hA151 := Apart.fresh (Lt.own hO143) hgd
    have hA152 := Apart.fresh (Lt.own hO144) hgd
    have hA153 := Apart.fresh (Lt.own hO145) hgd
    have hA154 := Apart.fresh (Lt.own hOc) hgd
    have hG155 := Ge.fresh hE138 hgd
    have hG156 := Ge.fresh hE139 hgd
    have hE157 := hE138.then hw147
    have hE158 := hE139.then hw147
    have hB159 := hw147.blk0 hB140
    have hO160 := hO141.evo0 hw147
    have hB161 := hw147.blk0 hB142
    have hO162 := hO143.evo0 hw147
    have hO163 := hO144.evo0 hw147
    have hO164 := hO145.evo0 hw147
    have hO165 := hOc.evo0 hw147
    refine wl_val rfl (ex_assign rfl) ?_
    refine wl_nil (nrm_then ?_)
    refine cw_seq ?_
    refine cw_seq ?_
    refine cw_region ?_
    refine wl_val rfl (ex_move rfl) ?_
    refine wl_val rfl (ex_move rfl) ?_
    refine wl_call1 (vs := [_, _]) Try.goes9 rfl (same_tt (own_rz (X := []) hO163 (fun _ _ => by simp)) (own_rz (X := []) hO162 (fun _ _ => by simp)) (runIs_len hRa) (hRa.uniq hRW)) rfl ?_
    rintro _ w166 ⟨rfl, hw167⟩
    have hE168 := hE157.then hw167
    have hE169 := hE158.then hw167
    have hB170 := hw167.blk0 hB159
    have hO171 := hO160.evo0 hw167
    have hB172 := hw167.blk0 hB161
    have hO173 := hO162.evo0 hw167
    have hO174 := hO163.evo0 hw167
    have hO175 := hO164.evo0 hw167
    have hO176 := hO165.evo0 hw167
    have hO177 := hOd.evo0 hw167
    refine wl_val rfl (ex_notb rfl) ?_
    refine wl_val rfl (ex_move rfl) ?_
    refine wl_go rfl rfl rfl rfl ?_
    refine wl_val rfl (ex_move rfl) ?_
    refine wl_go rfl rfl rfl rfl ?_
    refine wl_val rfl (ex_move rfl) ?_
    refine wl_go rfl rfl rfl rfl ?_
    refine wl_call1 (vs := [_, _]) Try.goes9 rfl (same_tt (own_rz (X := []) hO175 (fun _ _ => by simp)) (own_rz (X := []) hO173 (fun _ _ => by simp)) (runIs_len hRb) (hRb.uniq hRW)) rfl ?_
    rintro _ w178 ⟨rfl, hw179⟩
    have hE180 := hE168.then hw179
    have hE181 := hE169.then hw179
    have hB182 := hw179.blk0 hB170
    have hO183 := hO171.evo0 hw179
    have hB184 := hw179.blk0 hB172
    have hO185 := hO173.evo0 hw179
    have hO186 := hO174.evo0 hw179
    have hO187 := hO175.evo0 hw179
    have hO188 := hO176.evo0 hw179
    have hO189 := hO177.evo0 hw179
    refine wl_go rfl rfl rfl rfl ?_
    refine wl_val rfl (ex_notb rfl) ?_
    refine wl_val rfl (ex_pick_f rfl rfl) ?_
    refine wl_val rfl (ex_move rfl) ?_
    refine wl_go rfl rfl rfl rfl ?_
    refine wl_val rfl (ex_move rfl) ?_
    refine wl_go rfl rfl rfl rfl ?_
    refine wl_val rfl (ex_fieldAddr rfl Try.fld36_0) ?_
    refine wl_go rfl rfl rfl rfl ?_
    refine wl_val rfl (ex_loadA rfl Try.agg25 Try.size25 (vs := [.slice xa x.p.insts.length xc, iv x.p.start, iv x.p.groups, .slice xb x.p.names.length xd]) rfl (blk_pre hB182 [] [.string x.s] rfl rfl)) ?_
    refine wl_go rfl rfl rfl rfl ?_
    refine wl_val rfl (ex_fieldAddr rfl Try.fld36_1) ?_
    refine wl_go rfl rfl rfl rfl ?_
    refine wl_val rfl (ex_load1 rfl Try.agg9 (cell_nth hB182 rfl)) ?_
    refine wl_go rfl rfl rfl rfl ?_
    refine wl_val rfl (ex_sadd rfl rfl (by have h1 : (ByteArray.mk #[97]).size = 1 := rfl; omega)) ?_
    refine wl_go rfl rfl rfl rfl ?_
    refine wl_call1 (vs := [_, _]) Try.goes12 rfl (refRun_ok (RPrg.pers _ _ _ _ _ hE180 hxp) (ByteArray.mk #[97] ++ x.s) (by rw [ByteArray.size_append]; have h1 : (ByteArray.mk #[97]).size = 1 := rfl; omega)) rfl ?_
    rintro _ w190 ⟨aV, nV, cV, lV, obV, rfl, hOV, hgV, hRV, hw191⟩
    have hA192 := Apart.fresh (Lt.blk hB182) hgV
    have hA193 := Apart.fresh (Lt.own hO183) hgV
    have hA194 := Apart.fresh (Lt.blk hB184) hgV
    have hA195 := Apart.fresh (Lt.own hO185) hgV
    have hA196 := Apart.fresh (Lt.own hO186) hgV
    have hA197 := Apart.fresh (Lt.own hO187) hgV
    have hA198 := Apart.fresh (Lt.own hO188) hgV
    have hA199 := Apart.fresh (Lt.own hO189) hgV
    have hG200 := Ge.fresh hE180 hgV
    have hG201 := Ge.fresh hE181 hgV
    have hE202 := hE180.then hw191
    have hE203 := hE181.then hw191
    have hB204 := hw191.blk0 hB182
    have hO205 := hO183.evo0 hw191
    have hB206 := hw191.blk0 hB184
    have hO207 := hO185.evo0 hw191
    have hO208 := hO186.evo0 hw191
    have hO209 := hO187.evo0 hw191
    have hO210 := hO188.evo0 hw191
    have hO211 := hO189.evo0 hw191
    refine wl_go rfl rfl rfl rfl ?_
    refine wl_call1 (vs := [_, _]) Try.goes9 rfl (same_tt (own_rz (X := []) hO210 (fun _ _ => by simp)) (own_rz (X := []) hOV (fun _ _ => by simp)) (runIs_len hRc) (hRc.uniq hRV)) rfl ?_
    rintro _ w212 ⟨rfl, hw213⟩
    have hE214 := hE202.then hw213
    have hE215 := hE203.then hw213
    have hB216 := hw213.blk0 hB204
    have hO217 := hO205.evo0 hw213
    have hB218 := hw213.blk0 hB206
    have hO219 := hO207.evo0 hw213
    have hO220 := hO208.evo0 hw213
    have hO221 := hO209.evo0 hw213
    have hO222 := hO210.evo0 hw213
    have hO223 := hO211.evo0 hw213
    have hO224 := hOV.evo0 hw213
    refine wl_go rfl rfl rfl rfl ?_
    refine wl_val rfl (ex_notb rfl) ?_
    refine wl_val rfl (ex_pick_f rfl rfl) ?_
    refine wl_val rfl (ex_move rfl) ?_
    refine wl_go rfl rfl rfl rfl ?_
    refine wl_val rfl (ex_move rfl) ?_
    refine wl_go rfl rfl rfl rfl ?_
    refine wl_val rfl (ex_move rfl) ?_
    refine wl_go rfl rfl rfl rfl ?_
    refine wl_call1 (vs := [_, _]) Try.goes9 rfl (same_tt (own_rz (X := []) hO223 (fun _ _ => by simp)) (own_rz (X := []) hO219 (fun _ _ => by simp)) (runIs_len hRd) (hRd.uniq hRW)) rfl ?_
    rintro _ w225 ⟨rfl, hw226⟩
    have hE227 := hE214.then hw226
    have hE228 := hE215.then hw226
    have hB229 := hw226.blk0 hB216
    have hO230 := hO217.evo0 hw226
    have hB231 := hw226.blk0 hB218
    have hO232 := hO219.evo0 hw226
    have hO233 := hO220.evo0 hw226
    have hO234 := hO221.evo0 hw226
    have hO235 := hO222.evo0 hw226
    have hO236 := hO223.evo0 hw226
    have hO237 := hO224.evo0 hw226
    refine wl_go rfl rfl rfl rfl ?_
    refine wl_val rfl (ex_notb rfl) ?_
    refine wl_val rfl (ex_pick_f rfl rfl) ?_
    refine wl_nil (nrm_then ?_)
    refine cw_false rfl ?_
    refine cw_skip (nrm_then ?_)
    refine cw_seq ?_
    refine cw_seq ?_
    refine cw_region ?_
    refine wl_val rfl (ex_move rfl) ?_
    refine wl_val rfl (ex_move rfl) ?_
    refine wl_val rfl (ex_move rfl) ?_
    refine wl_val rfl (ex_move rfl) ?_
    refine wl_bslice (vs := [_, _, _, _]) rfl Try.slice64 rfl rfl rfl rfl fun b238 w239 hO240 hs241 hw242 => ?_
    have hA243 := Apart.new (Lt.blk hB229) hs241
    have hA244 := Apart.new (Lt.own hO230) hs241
    have hA245 := Apart.new (Lt.blk hB231) hs241
    have hA246 := Apart.new (Lt.own hO232) hs241
    have hA247 := Apart.new (Lt.own hO233) hs241
    have hA248 := Apart.new (Lt.own hO234) hs241
    have hA249 := Apart.new (Lt.own hO235) hs241
    have hA250 := Apart.new (Lt.own hO236) hs241
    have hA251 := Apart.new (Lt.own hO237) hs241
    have hG252 := Ge.new hE227 hs241
    have hG253 := Ge.new hE228 hs241
    have hE254 := hE227.then hw242
    have hE255 := hE228.then hw242
    have hB256 := hw242.blk0 hB229
    have hO257 := hO230.evo0 hw242
    have hB258 := hw242.blk0 hB231
    have hO259 := hO232.evo0 hw242
    have hO260 := hO233.evo0 hw242
    have hO261 := hO234.evo0 hw242
    have hO262 := hO235.evo0 hw242
    have hO263 := hO236.evo0 hw242
    have hO264 := hO237.evo0 hw242
    have hna : na ≤ 1000000000 := by have h1 := runIs_len hRa; have h2 := own_n hOa; omega
    have hnb : nb ≤ 1000000000 := by have h1 := runIs_len hRb; have h2 := own_n hOb; omega
    have hnc : nc ≤ 1000000000 := by have h1 := runIs_len hRc; have h2 := own_n hOc; omega
    have hnd : nd ≤ 1000000000 := by have h1 := runIs_len hRd; have h2 := own_n hOd; omega
    refine wl_call1 (vs := [_]) Try.goes13 rfl (apart_ok (S := S4 ⟨aa, na, ca, oba⟩ ⟨ab, nb, cb, obb⟩ ⟨ac, nc, cc, obc⟩ ⟨ad, nd, cd, obd⟩) (by rw [sv4]; exact hO240) (fam4 (a := ⟨aa, na, ca, oba⟩) (b := ⟨ab, nb, cb, obb⟩) (c := ⟨ac, nc, cc, obc⟩) (d := ⟨ad, nd, cd, obd⟩) hO260 hO261 hO262 hO263 hA118 hA134 hA152 hA135 hA153 hA154) (fun k _ => s4_cases (p := fun s => Apart _ s.ob) hA247.symm hA248.symm hA249.symm hA250.symm) (fun k _ => s4_cases (p := fun s => s.n ≤ 1000000000) hna hnb hnc hnd) (by omega)) rfl ?_
    rintro _ w265 ⟨rfl, hw266⟩
    have hE267 := hE254.step hw266 (f4_ge hG104 hG119 hG136 hG155)
    have hE268 := hE255.step hw266 (f4_ge hG105 hG120 hG137 hG156)
    have hB269 := hw266.blk hB256 ((f4_nmem hA100 hA114 hA130 hA148) _ rfl)
    have hB270 := hO257.evo hw266 (f4_nmem hA101 hA115 hA131 hA149)
    have hB271 := hw266.blk hB258 ((f4_nmem hA102 hA116 hA132 hA150) _ rfl)
    have hB272 := hO259.evo hw266 (f4_nmem hA103 hA117 hA133 hA151)
    have hB273 := hO264.evo hw266 (f4_nmem hA196.symm hA197.symm hA198.symm hA199.symm)
    have hB274 := hO240.evo hw266 (f4_nmem hA247.symm hA248.symm hA249.symm hA250.symm)
    refine wl_val rfl (ex_notb rfl) ?_
    refine wl_val rfl (ex_move rfl) ?_
    refine wl_go rfl rfl rfl rfl ?_
    refine wl_val rfl (ex_loadBlk rfl Try.agg25 Try.size25 hB271 rfl) ?_
    refine wl_go rfl rfl rfl rfl ?_
    refine wl_val rfl (ex_fieldAddr rfl Try.fld36_0) ?_
    refine wl_go rfl rfl rfl rfl ?_
    refine wl_val rfl (ex_loadA rfl Try.agg25 Try.size25 (vs := [.slice xa x.p.insts.length xc, iv x.p.start, iv x.p.groups, .slice xb x.p.names.length xd]) rfl (blk_pre hB269 [] [.string x.s] rfl rfl)) ?_
    refine wl_go rfl rfl rfl rfl ?_
    refine wl_call1 (vs := [_, _]) Try.goes14 rfl (unchanged_ok (RPrg.pers _ _ _ _ _ hE268 hq) (RPrg.pers _ _ _ _ _ hE267 hxp)) rfl ?_
    rintro _ w275 ⟨rfl, hw276⟩
    have hE277 := hE267.then hw276
    have hE278 := hE268.then hw276
    have hB279 := hw276.blk0 hB269
    have hO280 := hB270.evo0 hw276
    have hB281 := hw276.blk0 hB271
    have hO282 := hB272.evo0 hw276
    have hO283 := hB273.evo0 hw276
    have hO284 := hB274.evo0 hw276
    refine wl_go rfl rfl rfl rfl ?_
    refine wl_val rfl (ex_notb rfl) ?_
    refine wl_val rfl (ex_pick_f rfl rfl) ?_
    refine wl_nil (nrm_then ?_)
    refine cw_false rfl ?_
    refine cw_skip (nrm_then ?_)
    refine cw_seq ?_
    refine cw_region ?_
    refine wl_val rfl (ex_loadBlk rfl Try.agg25 Try.size25 hB281 rfl) ?_
    refine wl_val rfl (ex_fieldAddr rfl Try.fld36_1) ?_
    refine wl_val rfl (ex_load1 rfl Try.agg9 (cell_nth hB279 rfl)) ?_
    refine wl_call1 (vs := [_, _]) Try.goes10 rfl (run_ok (RPrg.pers _ _ _ _ _ hE278 hq) x.s (by omega)) rfl ?_
    rintro _ w285 ⟨aE, nE, cE, lE, obE, rfl, hOE, hgE, hRE, hw286⟩
    have hA287 := Apart.fresh (Lt.blk hB279) hgE
    have hA288 := Apart.fresh (Lt.own hO280) hgE
    have hA289 := Apart.fresh (Lt.blk hB281) hgE
    have hA290 := Apart.fresh (Lt.own hO282) hgE
    have hA291 := Apart.fresh (Lt.own hO283) hgE
    have hG292 := Ge.fresh hE277 hgE
    have hG293 := Ge.fresh hE278 hgE
    have hE294 := hE277.then hw286
    have hE295 := hE278.then hw286
    have hB296 := hw286.blk0 hB279
    have hO297 := hO280.evo0 hw286
    have hB298 := hw286.blk0 hB281
    have hO299 := hO282.evo0 hw286
    have hO300 := hO283.evo0 hw286
    refine wl_val rfl (ex_assign rfl) ?_
    refine wl_nil (nrm_then ?_)
    refine cw_seq ?_
    refine cw_seq ?_
    have hrl : rows.flatten.length = x.p.insts.length * 5 := hqI.length
    refine cw_region ?_
    refine wl_val rfl (ex_fieldAddr rfl Try.fld25_0) ?_
    refine wl_val rfl (ex_load1 rfl Try.agg22 (cell_nth hB298 rfl)) ?_
    refine wl_val rfl (ex_len_slice rfl Try.underlying22 rfl) ?_
    refine wl_val rfl (ex_move rfl) ?_
    refine wl_nil (nrm_then ?_)
    refine cw_block ?_
    refine cw_loop (α := Nat) (0) (fun j => [(102, .int .i64 (j : Nat))]) [(5, _), (6, _), (7, _), (12, _), (23, _), (24, _), (25, _), (101, _)] (fun j wr => Evo [] w wr ∧ (j ≤ x.p.insts.length ∧ OwnS wr 29 5 qa x.p.insts.length qc (rep j mrow ++ rows.flatten.drop (j * 5)) obq ∧ RSl 1 RStr obq.toList wr qn x.p.names ∧ OwnS wr 3 1 aE nE cE (lE.map iv) obE ∧ OwnS wr 3 1 aW nW cW (lW.map iv) obW ∧ wr.heap[b6]? = some (.cells #[.slice qa x.p.insts.length qc, iv x.p.start, iv x.p.groups, qn] 25 (0, 0)) ∧ wr.heap[b5]? = some (.cells #[.slice xa x.p.insts.length xc, iv x.p.start, iv x.p.groups, .slice xb x.p.names.length xd, .string x.s] 36 (0, 0)))) (fun j => x.p.insts.length - j) ⟨rfl, trivial⟩ ⟨rfl, rfl, rfl, rfl, rfl, rfl, rfl, rfl, trivial⟩ ⟨hE294, ⟨Nat.zero_le _, by rw [Nat.zero_mul]; exact hO297, hqN.evo RStr.pers (hE295.any _), hOE, hO299, hB298, hB296⟩⟩ ?_
    rintro j wr301 ⟨hV302, ⟨hj, hI, hqN2, hE, hW, h6, h5⟩⟩
    show CW _ _ _ _ [(102, _), (5, _), (6, _), (7, _), (12, _), (23, _), (24, _), (25, _), (101, _)] _
    have hE303 := Evo.refl (obq.toList) wr301
    refine cw_seq ?_
    refine cw_region ?_
    refine wl_val rfl (ex_lss rfl rfl) ?_
    refine wl_nil (nrm_then ?_)
    refine cw_seq ?_
    refine cw_if rfl (fun hc103 => ?_) (fun hc103 => ?_)
    · skip
      have hj' : j < x.p.insts.length := by omega
      have ho8 := hI
      obtain ⟨ge8, cu8, hge8, hae8, hce8, hse8, -⟩ := ho8.at (by omega)
      refine cw_skip (nrm_then ?_)
      refine cw_seq ?_
      refine cw_block ?_
      refine cw_seq ?_
      refine cw_region ?_
      refine wl_val rfl (ex_move rfl) ?_
      refine wl_val rfl (ex_assign rfl) ?_
      refine wl_nil (nrm_then ?_)
      refine cw_region ?_
      refine wl_val rfl (ex_fieldAddr rfl Try.fld25_0) ?_
      refine wl_val rfl (ex_load1 rfl Try.agg22 (cell_nth h6 rfl)) ?_
      refine wl_val rfl (ex_move rfl) ?_
      refine wl_val rfl (ex_build (vs := [(0, _)]) Try.build29 rfl (cells := [_, _, _, _, _]) rfl) ?_
      refine wl_val rfl (ex_indexAddr (n := j) (by rw [hae8]; rfl) rfl Try.elem22 hj') ?_
      refine wl_storeG (n := 5) rfl rfl Try.size29 rfl mrow_one hce8 (inbN ho8 hse8 (by omega)) fun w8 hb8 hw8 => ?_
      replace hw8 := evo_ob hge8 hw8
      have hI8 := ho8.put (k := j) (vs := mrow) hge8 hce8 (by omega) (by omega) rfl hb8
      have hE304 := hV302.step hw8 hG64.mem
      have hE305 := hE303.step hw8 (fun y hy => .inl hy)
      have hO306 := hE.evo hw8 hA288.symm.own
      have hO307 := hW.evo hw8 hA89.symm.own
      have hB308 := hw8.blk h6 hA72.symm.nmem
      have hB309 := hw8.blk h5 hA63.nmem
      refine wl_nil (nrm_block (nrm_then ?_))
      refine cw_region ?_
      refine wl_val rfl (ex_add_i64 rfl rfl (by omega) (by omega)) ?_
      refine wl_val rfl (ex_move rfl) ?_
      refine wl_nil (nrm_then ?_)
      refine ⟨j + 1, ?_, ⟨rfl, trivial⟩, ⟨rfl, rfl, rfl, rfl, rfl, rfl, rfl, rfl, trivial⟩, hE304, ?_⟩
      · omega
      · skip
        exact ⟨by omega, by rw [← put_rep (sz := 5) rfl hrl hj']; exact hI8, hqN2.evo RStr.pers hE305, hO306, hO307, hB308, hB309⟩
    · skip
      have hjn : j = x.p.insts.length := by omega
      have hIZ := hI
      rw [hjn, List.drop_of_length_le (by omega), List.append_nil] at hIZ
      have hz : RPrg [] wr301 [.slice qa x.p.insts.length qc, iv x.p.start, iv x.p.groups, qn] (over1 x.p) := (⟨⟨hxok.start, hxok.groups, by simpa [over1] using hxok.ilen, hxok.nlen⟩, _, _, rfl, RSl.ofOwn (rows := List.replicate x.p.insts.length mrow) hIZ (over_rows _) (by simp [over1]) (fun _ _ => by simp), RSl.fresh (by decide) RStr.fresh (fun y hy => by cases hy) hqN2⟩ : RPrg [] wr301 _ (over1 x.p))
      refine cw_exit (ex_then (ex_then (ex_here (nrm_then ?_))))
      refine cw_seq ?_
      refine cw_any (fun w0 w' => Evo [] w0 w') (by kernel_rfl) (fun w310 hw311 => ?_)
      have hE312 := hV302.then hw311
      have hE313 := hE303.then hw311
      have hE314 := (Evo.refl [] wr301).then hw311
      have hO315 := hI.evo0 hw311
      have hO316 := hE.evo0 hw311
      have hO317 := hW.evo0 hw311
      have hB318 := hw311.blk0 h6
      have hB319 := hw311.blk0 h5
      refine ae_take 0 rfl (by kernel_rfl) (by kernel_rfl) (by kernel_rfl) rfl (fun _ hS => ex_move rfl) (Evo.refl [] w310) ?_
      refine ae_take 1 rfl (by kernel_rfl) (by kernel_rfl) (by kernel_rfl) rfl (fun _ hS => ex_move rfl) (Evo.refl [] w310) ?_
      refine ae_loud [2] (by kernel_rfl) rfl ⟨?_, trivial⟩
      refine a_step rfl ?_
      refine wl_call1 (vs := [_, _]) Try.goes9 rfl (same_tt (own_rz (X := []) hO316 (fun _ _ => by simp)) (own_rz (X := []) hO317 (fun _ _ => by simp)) (runIs_len hRE) (hRE.uniq hRW)) rfl ?_
      rintro _ w320 ⟨rfl, hw321⟩
      have hE322 := hE312.then hw321
      have hE323 := hE313.then hw321
      have hE324 := hE314.then hw321
      have hE325 := (Evo.refl [] w310).then hw321
      have hO326 := hO315.evo0 hw321
      have hO327 := hO316.evo0 hw321
      have hO328 := hO317.evo0 hw321
      have hB329 := hw321.blk0 hB318
      have hB330 := hw321.blk0 hB319
      refine wl_nil (ae_next (.inl hE325) ?_)
      refine ae_take 3 rfl (by kernel_rfl) (by kernel_rfl) (by kernel_rfl) rfl (fun _ hS => ex_notb rfl) hE325 ?_
      refine ae_take 4 rfl (by kernel_rfl) (by kernel_rfl) (by kernel_rfl) rfl (fun _ hS => ex_move rfl) hE325 ?_
      refine ae_takeG 5 rfl rfl rfl rfl rfl (by kernel_rfl) (by kernel_rfl) (by kernel_rfl) rfl (fun _ hS => ex_loadBlk rfl Try.agg25 Try.size25 (hS.blk0 hB318) rfl) hE325 ?_
      refine ae_takeG 6 rfl rfl rfl rfl rfl (by kernel_rfl) (by kernel_rfl) (by kernel_rfl) rfl (fun _ hS => ex_fieldAddr rfl Try.fld36_1) hE325 ?_
      refine ae_takeG 7 rfl rfl rfl rfl rfl (by kernel_rfl) (by kernel_rfl) (by kernel_rfl) rfl (fun _ hS => ex_load1 rfl Try.agg9 (cell_nth (hS.blk0 hB319) rfl)) hE325 ?_
      refine ae_takeG 9 rfl rfl rfl rfl rfl (by kernel_rfl) (by kernel_rfl) (by kernel_rfl) rfl (fun _ hS => ex_loadBlk rfl Try.agg25 Try.size25 (hS.blk0 hB318) rfl) hE325 ?_
      refine ae_takeG 10 rfl rfl rfl rfl rfl (by kernel_rfl) (by kernel_rfl) (by kernel_rfl) rfl (fun _ hS => ex_fieldAddr rfl Try.fld36_1) hE325 ?_
      refine ae_takeG 11 rfl rfl rfl rfl rfl (by kernel_rfl) (by kernel_rfl) (by kernel_rfl) rfl (fun _ hS => ex_load1 rfl Try.agg9 (cell_nth (hS.blk0 hB319) rfl)) hE325 ?_
      refine ae_loud [8] (by kernel_rfl) rfl ⟨?_, trivial⟩
      refine a_step rfl ?_
      refine wl_go rfl rfl rfl rfl ?_
      refine wl_call1 (vs := [_, _]) Try.goes10 rfl (run_ok (RPrg.pers _ _ _ _ _ hE324 hz) x.s (by omega)) rfl ?_
      rintro _ w331 ⟨aZ, nZ, cZ, lZ, obZ, rfl, hOZ, hgZ, hRZ, hw332⟩
      have hA333 := Apart.fresh (Lt.own hO326) hgZ
      have hA334 := Apart.fresh (Lt.own hO327) hgZ
      have hA335 := Apart.fresh (Lt.own hO328) hgZ
      have hA336 := Apart.fresh (Lt.blk hB329) hgZ
      have hA337 := Apart.fresh (Lt.blk hB330) hgZ
      have hG338 := Ge.fresh hE322 hgZ
      have hG339 := Ge.fresh hE323 hgZ
      have hG340 := Ge.fresh hE324 hgZ
      have hG341 := Ge.fresh hE325 hgZ
      have hE342 := hE322.then hw332
      have hE343 := hE323.then hw332
      have hE344 := hE324.then hw332
      have hE345 := hE325.then hw332
      have hO346 := hO326.evo0 hw332
      have hO347 := hO327.evo0 hw332
      have hO348 := hO328.evo0 hw332
      have hB349 := hw332.blk0 hB329
      have hB350 := hw332.blk0 hB330
      refine wl_nil (ae_next (.inl hE345) ?_)
      refine ae_loud [12] (by kernel_rfl) rfl ⟨?_, trivial⟩
      refine a_step rfl ?_
      refine wl_go rfl rfl rfl rfl ?_
      refine wl_call1 (vs := [_, _]) Try.goes12 rfl (refRun_ok (RPrg.pers _ _ _ _ _ hE344 hz) x.s (by omega)) rfl ?_
      rintro _ w351 ⟨aV, nV, cV, lV, obV, rfl, hOV, hgV, hRV, hw352⟩
      have hA353 := Apart.fresh (Lt.own hO346) hgV
      have hA354 := Apart.fresh (Lt.own hO347) hgV
      have hA355 := Apart.fresh (Lt.own hO348) hgV
      have hA356 := Apart.fresh (Lt.blk hB349) hgV
      have hA357 := Apart.fresh (Lt.blk hB350) hgV
      have hA358 := Apart.fresh (Lt.own hOZ) hgV
      have hG359 := Ge.fresh hE342 hgV
      have hG360 := Ge.fresh hE343 hgV
      have hG361 := Ge.fresh hE344 hgV
      have hG362 := Ge.fresh hE345 hgV
      have hE363 := hE342.then hw352
      have hE364 := hE343.then hw352
      have hE365 := hE344.then hw352
      have hE366 := hE345.then hw352
      have hO367 := hO346.evo0 hw352
      have hO368 := hO347.evo0 hw352
      have hO369 := hO348.evo0 hw352
      have hB370 := hw352.blk0 hB349
      have hB371 := hw352.blk0 hB350
      have hO372 := hOZ.evo0 hw352
      refine wl_nil (ae_next (.inl hE366) ?_)
      refine ae_loud [13] (by kernel_rfl) rfl ⟨?_, trivial⟩
      refine a_step rfl ?_
      refine wl_go rfl rfl rfl rfl ?_
      refine wl_call1 (vs := [_, _]) Try.goes9 rfl (same_tt (own_rz (X := []) hO372 (fun _ _ => by simp)) (own_rz (X := []) hOV (fun _ _ => by simp)) (runIs_len hRZ) (hRZ.uniq hRV)) rfl ?_
      rintro _ w373 ⟨rfl, hw374⟩
      have hE375 := hE363.then hw374
      have hE376 := hE364.then hw374
      have hE377 := hE365.then hw374
      have hE378 := hE366.then hw374
      have hO379 := hO367.evo0 hw374
      have hO380 := hO368.evo0 hw374
      have hO381 := hO369.evo0 hw374
      have hB382 := hw374.blk0 hB370
      have hB383 := hw374.blk0 hB371
      have hO384 := hO372.evo0 hw374
      have hO385 := hOV.evo0 hw374
      refine wl_nil (ae_next (.inl hE378) ?_)
      refine ae_takeG 14 rfl rfl rfl rfl rfl (by kernel_rfl) (by kernel_rfl) (by kernel_rfl) rfl (fun _ hS => ex_notb rfl) hE378 ?_
      refine ae_take 15 rfl (by kernel_rfl) (by kernel_rfl) (by kernel_rfl) rfl (fun _ hS => ex_pick_f rfl rfl) hE378 ?_
      refine ae_done (by kernel_rfl) (nrm_then ?_)
      refine cw_false rfl ?_
      refine cw_skip (nrm_block (nrm_then ?_))
      refine cw_region ?_
      refine wl_val rfl (ex_add_i64 rfl rfl (by omega) (by omega)) ?_
      refine wl_val rfl (ex_move rfl) ?_
      refine wl_nil (nrm_then ?_)
      refine ⟨k + 1, ?_, ⟨rfl, trivial⟩, ⟨rfl, rfl, trivial⟩, hE375, ?_⟩
      · omega
      · skip
        omega
  · skip
    refine cw_exit (ex_then (ex_then (ex_here (nrm_then ?_))))
    refine cw_seq ?_
    refine cw_region ?_
    refine wl_val rfl (ex_assign rfl) ?_
    refine wl_nil (nrm_then ?_)
    refine cw_ret (body_ret1 rfl rfl ?_)
    exact ⟨rfl, hV50⟩

end Go.Proofs.Ytopjnoblhleimaa
