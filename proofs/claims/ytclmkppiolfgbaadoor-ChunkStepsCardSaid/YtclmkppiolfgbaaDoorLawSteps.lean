/- For every script the law ChunkSteps answers true and leaves the script as it is: every answer of several packers in turns is the expected one, and the bytes that are answered share no memory. Condition: the table math/bits.deBruijn64tab holds what the text of the program lays there (the card ties it). -/
import Derived.Test.YtclmkppiolfgbaaDoorKq
import Derived.Test.YtclmkppiolfgbaaDoorLz3
namespace Go.Proofs.YtclmkppiolfgbaaDoor
open Go.Proofs
open Go.W Go.ChangeShapes Go.WideShapes Go.ChangeAt Go.RowKit
set_option linter.unusedVariables false
attribute [local irreducible] Decidable.decide
set_option linter.unusedSimpArgs false
set_option linter.unusedVariables false
theorem Tryd.agg44 : aggB Tryd.prog 44 = some false := by kernel_rfl
theorem Tryd.agg50 : aggB Tryd.prog 50 = some true := by kernel_rfl
theorem Tryd.app48_48 : appB Tryd.prog 48 48 = some (24, 1, 24) := by kernel_rfl
theorem Tryd.fld50_0 : fieldB Tryd.prog 50 0 = some 0 := by kernel_rfl
theorem Tryd.fld50_1 : fieldB Tryd.prog 50 1 = some 1 := by kernel_rfl
theorem Tryd.fld50_2 : fieldB Tryd.prog 50 2 = some 2 := by kernel_rfl
theorem Tryd.goes11 : Goes Tryd.prog 11 := ⟨_, Tryd.func11, by kernel_rfl, by kernel_rfl⟩
theorem Tryd.goes14 : Goes Tryd.prog 14 := ⟨_, Tryd.func14, by kernel_rfl, by kernel_rfl⟩
theorem Tryd.goes24 : Goes Tryd.prog 24 := ⟨_, Tryd.func24, by kernel_rfl, by kernel_rfl⟩
theorem Tryd.goes25 : Goes Tryd.prog 25 := ⟨_, Tryd.func25, by kernel_rfl, by kernel_rfl⟩
theorem Tryd.size44 : sizeB Tryd.prog 44 = some 1 := by kernel_rfl
theorem Tryd.size50 : sizeB Tryd.prog 50 = some 5 := by kernel_rfl
theorem Tryd.slice46 : sliceB Tryd.prog 46 = some (44, 1) := by kernel_rfl
theorem Tryd.slice48 : sliceB Tryd.prog 48 = some (24, 1) := by kernel_rfl
theorem Tryd.zero50 : zeroB Tryd.prog 50 = some #[.int .i64 0, .int .i64 0, .int .i64 0, .float .f64 0, .bool false] := by kernel_rfl


theorem opens50 : Opens Tryd.prog 50 ROp := by
  intro H enc w fuel cs x h hw
  obtain ⟨a, ea, _⟩ := opens_fieldN (T := 3) (off := 0) (m := 1) Tryd.underlying50 h hw 0 rfl rfl rfl (by kernel_rfl) (opens_int Tryd.underlying3)
  obtain ⟨b, eb, _⟩ := opens_fieldN (T := 3) (off := 1) (m := 1) Tryd.underlying50 h hw 1 rfl rfl rfl (by kernel_rfl) (opens_int Tryd.underlying3)
  obtain ⟨s, es, hs⟩ := opens_fieldN (T := 41) (off := 2) (m := 3) Tryd.underlying50 h hw 2 rfl rfl rfl (by kernel_rfl) opens41
  have hl := opens_len Tryd.underlying50 h
  rw [show Tryd.prog.cellsOf 50 = 5 from by kernel_rfl] at hl
  match cs, hl with
  | [c0, c1, c2, c3, c4], _ =>
    simp at ea eb es
    obtain ⟨e1, e2, e3⟩ := es
    subst ea eb e1 e2 e3
    exact ⟨⟨a, b, s⟩, rfl, hs⟩
theorem opens43 : Opens Tryd.prog 43 (RSlB 5 40 ROp) := opens_slice Tryd.underlying43 (by kernel_rfl) (by kernel_rfl) (by decide) opens50
section
variable {w w0 w' : World} {gps ghs : Nat} {f : Nat → Option Nat} {g : Gh} {q : Nat}
theorem hs_cell (st : St w w0 gps ghs f g) (hq : q < 4) : w.cell? ⟨ghs, 0 + q * 1, none⟩ = some (g.hv q).v := by
  obtain ⟨gl, h1, _, h3⟩ := own_cell1 st.hs (sv_get hq)
  rw [st.f1] at h1; cases h1; exact h3
theorem ps_cell (st : St w w0 gps ghs f g) (hq : q < 4) : w.cell? ⟨gps, 0 + q * 1, none⟩ = some (g.pv q) := by
  obtain ⟨gl, h1, _, h3⟩ := own_cell1 st.ps (pvs_get hq)
  rw [st.f0] at h1; cases h1; exact h3
theorem box3 {b : Nat} {U : TypeId} {c0 c1 c2 c3 c4 : Value} (h : w.heap[b]? = some (.cells ([c0, c1, c2, c3, c4] : List Value).toArray U (0, 0))) : CellsAt w b (0 + 2) [c2, c3, c4] := fun j v hv => by
  rcases show j = 0 ∨ j = 1 ∨ j = 2 by have := (List.getElem?_eq_some_iff.1 hv).1; simp at this; omega with rfl | rfl | rfl
  · simp at hv; subst hv; exact cell_nth h rfl
  · simp at hv; subst hv; exact cell_nth h rfl
  · simp at hv; subst hv; exact cell_nth h rfl
/-- A change elsewhere. -/
theorem St.evo {X : List Nat} (st : St w w0 gps ghs f g) (he : Evo X w w') (hx : ∀ i p, f i = some p → p ∉ X) : St w' w0 gps ghs f g where
  own := st.own.evo he
  f0 := st.f0
  f1 := st.f1
  ps := st.ps.evo he (hx 0)
  hs := st.hs.evo he (hx 1)
  ks := st.ks.evo he (hx 2)
  ts := st.ts.evo he (hx 3)
  held := fun k hk => ⟨(st.held k hk).1.evo he (hx _), (st.held k hk).2⟩
  pk := fun k hk h0 => ⟨(st.pk k hk h0).1.keep (st.pk k hk h0).2 he (hx _) (hx _), (st.pk k hk h0).2⟩
  kept := fun i hi => ⟨(st.kept i hi).1.evo he (hx _), (st.kept i hi).2⟩
  told := fun i hi => ⟨(st.told i hi).1.evo he (hx _), (st.told i hi).2⟩
end
abbrev f00 (gps ghs bk bt b1 b2 b3 : Nat) (o1 o2 o3 : Option Nat) : Nat → Option Nat := updF (updF (updF (updF (updF (updF (updF (updF (updF (updF (fun _ => none) 8 (some b1)) 11 o1) 9 (some b2)) 12 o2) 10 (some b3)) 13 o3) 0 (some gps)) 1 (some ghs)) 2 (some bk)) 3 (some bt)
def g00 (bk bt b1 b2 b3 : Nat) : Gh where
  pv := fun k => match k with | 0 => .pointer none | 1 => .pointer (some ⟨b1, 0, none⟩) | 2 => .pointer (some ⟨b2, 0, none⟩) | _ => .pointer (some ⟨b3, 0, none⟩)
  hv := fun _ => ⟨none, 0, 0, none⟩
  H := fun _ => ⟨none, 0, 0, none⟩
  h := fun _ => []
  d := fun _ => []
  bp := fun k => match k with | 1 => b1 | 2 => b2 | _ => b3
  MK := 0
  MT := 0
  K := fun _ => ⟨none, 0, 0, none⟩
  T := fun _ => ⟨none, 0, 0, none⟩
  kb := fun _ => []
  tb := fun _ => []
  ka := some ⟨bk, 0, none⟩
  ta := some ⟨bt, 0, none⟩
  kc := 0
  tc := 0
theorem good00 (bk bt b1 b2 b3 : Nat) : Good (g00 bk bt b1 b2 b3) where
  hv := fun _ _ => rfl
  d := fun _ _ => rfl
  d0 := rfl
  ok := fun _ _ => PkOk.nil
  p0 := rfl
  pp := fun k hk h0 => by rcases show k = 1 ∨ k = 2 ∨ k = 3 by omega with rfl | rfl | rfl <;> rfl
  m := rfl
  ml := Nat.zero_le _
  b := fun _ _ => rfl
theorem st00 {w w0 : World} {gps ghs bk bt b1 b2 b3 : Nat} {o1 o2 o3 : Option Nat} (ho : Ow w w0 (f00 gps ghs bk bt b1 b2 b3 o1 o2 o3)) (hp : OwnS w 44 1 (some ⟨gps, 0, none⟩) 4 4 [.pointer none, .pointer (some ⟨b1, 0, none⟩), .pointer (some ⟨b2, 0, none⟩), .pointer (some ⟨b3, 0, none⟩)] (some gps))
    (hh : OwnS w 22 1 (some ⟨ghs, 0, none⟩) 4 4 (zeros #[nilv] 4) (some ghs)) (hk : OwnS w 24 1 (some ⟨bk, 0, none⟩) 0 0 [] (some bk)) (ht : OwnS w 24 1 (some ⟨bt, 0, none⟩) 0 0 [] (some bt)) (h1 : Pkr w b1 [] o1) (h2 : Pkr w b2 [] o2) (h3 : Pkr w b3 [] o3) :
    St w w0 gps ghs (f00 gps ghs bk bt b1 b2 b3 o1 o2 o3) (g00 bk bt b1 b2 b3) where
  own := ho
  f0 := rfl
  f1 := rfl
  ps := hp
  hs := hh
  ks := hk
  ts := ht
  held := fun k hk => by rcases show k = 0 ∨ k = 1 ∨ k = 2 ∨ k = 3 by omega with rfl | rfl | rfl | rfl <;> exact ⟨OwnS.nil _ _ _, rfl⟩
  pk := fun k hk h0 => by
    rcases show k = 1 ∨ k = 2 ∨ k = 3 by omega with rfl | rfl | rfl
    · exact ⟨h1, rfl⟩
    · exact ⟨h2, rfl⟩
    · exact ⟨h3, rfl⟩
  kept := fun i hi => absurd hi (Nat.not_lt_zero i)
  told := fun i hi => absurd hi (Nat.not_lt_zero i)

set_option maxHeartbeats 2000000 in
theorem walk_ok {X : List Nat} {w : World} {v0 : Value} {ops : List Opn} (hs : RSl 5 ROp X w v0 ops) (hl : ops.length * 40 ≤ 140737488351232) (ht : Tab w) :
    Calls Tryd.prog 6 #[v0] w (Ret fun r w' => r = .bool true ∧ Evo [] w w') := by
  have hs0 := hs
  obtain ⟨a0, c0, rfl, hlc, _⟩ := hs
  have hOw0 := Ow.nil w
  refine calls_of_cw (N := 163) Tryd.func6 rfl rfl rfl ?_
  refine cw_seq ?_
  refine cw_region ?_
  refine wl_val rfl (ex_assign rfl) ?_
  refine wl_nil (nrm_then ?_)
  refine cw_seq ?_
  refine cw_seq ?_
  refine cw_region ?_
  refine wl_call1 (vs := []) Tryd.goes11 rfl (alive_ok (Tab.evo ht (Evo.refl [] w) (by simp))) rfl ?_
  rintro _ w1 ⟨rfl, hw2⟩
  have hE3 := (Evo.refl [] w).then hw2
  have hF4 := hOw0.evo0 hw2
  refine wl_val rfl (ex_notb rfl) ?_
  refine wl_nil (nrm_then ?_)
  refine cw_false rfl ?_
  refine cw_skip (nrm_then ?_)
  refine cw_seq ?_
  refine cw_region ?_
  refine wl_val rfl (ex_assign rfl) ?_
  refine wl_nil (nrm_then ?_)
  refine cw_seq ?_
  refine cw_region ?_
  refine wl_val rfl (ex_move rfl) ?_
  refine wl_call1 (vs := []) Tryd.goes21 rfl (new_ok) rfl ?_
  rintro _ w5 ⟨bp1, oq1, rfl, hp1, hw6, hgp1, hgq1⟩
  have hOw1 := Ow.pk (c1 := 8) (c2 := 11) hF4 hE3 (by omega) hp1 hw6 hgp1 hgq1
  have hE7 := hE3.then hw6
  have hF8 := hF4.evo0 hw6
  refine wl_call1 (vs := []) Tryd.goes21 rfl (new_ok) rfl ?_
  rintro _ w9 ⟨bp2, oq2, rfl, hp2, hw10, hgp2, hgq2⟩
  have hOw2 := Ow.pk (c1 := 9) (c2 := 12) hOw1 hE7 (by omega) hp2 hw10 hgp2 hgq2
  have hE11 := hE7.then hw10
  have hE12 := (Evo.refl [] w5).then hw10
  have hF13 := hOw1.evo0 hw10
  refine wl_call1 (vs := []) Tryd.goes21 rfl (new_ok) rfl ?_
  rintro _ w14 ⟨bp3, oq3, rfl, hp3, hw15, hgp3, hgq3⟩
  have hOw3 := Ow.pk (c1 := 10) (c2 := 13) hOw2 hE11 (by omega) hp3 hw15 hgp3 hgq3
  have hE16 := hE11.then hw15
  have hE17 := hE12.then hw15
  have hE18 := (Evo.refl [] w9).then hw15
  have hF19 := hOw2.evo0 hw15
  refine wl_bslice (vs := [_, _, _, _]) rfl Tryd.slice46 rfl rfl rfl rfl fun b20 w21 hO22 hs23 hw24 => ?_
  have hG25 := Ge.new hE16 hs23
  have hG26 := Ge.new hE17 hs23
  have hG27 := Ge.new hE18 hs23
  have hG28 := Ge.new (Evo.refl [] w14) hs23
  have hG29 := Ge.new (Evo.refl [] w14) hs23
  have hE30 := hE16.then hw24
  have hE31 := hE17.then hw24
  have hE32 := hE18.then hw24
  have hE33 := (Evo.refl [] w14).then hw24
  have hE34 := (Evo.refl [] w14).then hw24
  have hF35 := hOw3.evo0 hw24
  have hOwP0 := Ow.push (c := 0) (o := (some b20)) hF35 (fun i => (Apart.fresh (hOw3.lt i) hG29).symm) (Lt.own hO22) hG25
  refine wl_val rfl (ex_assign rfl) ?_
  refine wl_nil (nrm_then ?_)
  refine cw_seq ?_
  refine cw_region ?_
  refine wl_make (len := 4) (c := 4) rfl rfl rfl Tryd.make47 (by omega) (by omega) (by omega) (by decide) (by omega) (by omega) fun bH w37 hbH hs39 hw40 => ?_
  have hA41 := Apart.new (Lt.own hO22) hs39
  have hG42 := Ge.new hE30 hs39
  have hG43 := Ge.new hE31 hs39
  have hG44 := Ge.new hE32 hs39
  have hG45 := Ge.new hE33 hs39
  have hG46 := Ge.new hE34 hs39
  have hG47 := Ge.new (Evo.refl [] w21) hs39
  have hE48 := hE30.then hw40
  have hE49 := hE31.then hw40
  have hE50 := hE32.then hw40
  have hE51 := hE33.then hw40
  have hE52 := hE34.then hw40
  have hE53 := (Evo.refl [] w21).then hw40
  have hF54 := hOwP0.evo0 hw40
  have hO55 := hO22.evo0 hw40
  have hOwP1 := Ow.push (c := 1) (o := (some bH)) hF54 (fun i => (Apart.fresh (hOwP0.lt i) hG47).symm) (Lt.own hbH) hG42
  refine wl_val rfl (ex_assign rfl) ?_
  refine wl_nil (nrm_then ?_)
  refine cw_seq ?_
  refine cw_region ?_
  refine wl_bslice (vs := []) rfl Tryd.slice48 rfl rfl rfl rfl fun b56 w57 hO58 hs59 hw60 => ?_
  have hA61 := Apart.new (Lt.own hO55) hs59
  have hA62 := Apart.new (Lt.own hbH) hs59
  have hG63 := Ge.new hE48 hs59
  have hG64 := Ge.new hE49 hs59
  have hG65 := Ge.new hE50 hs59
  have hG66 := Ge.new hE51 hs59
  have hG67 := Ge.new hE52 hs59
  have hG68 := Ge.new hE53 hs59
  have hG69 := Ge.new (Evo.refl [] w37) hs59
  have hE70 := hE48.then hw60
  have hE71 := hE49.then hw60
  have hE72 := hE50.then hw60
  have hE73 := hE51.then hw60
  have hE74 := hE52.then hw60
  have hE75 := hE53.then hw60
  have hE76 := (Evo.refl [] w37).then hw60
  have hF77 := hOwP1.evo0 hw60
  have hO78 := hO55.evo0 hw60
  have hO79 := hbH.evo0 hw60
  have hOwP2 := Ow.push (c := 2) (o := (some b56)) hF77 (fun i => (Apart.fresh (hOwP1.lt i) hG69).symm) (Lt.own hO58) hG63
  refine wl_bslice (vs := []) rfl Tryd.slice48 rfl rfl rfl rfl fun b80 w81 hO82 hs83 hw84 => ?_
  have hA85 := Apart.new (Lt.own hO78) hs83
  have hA86 := Apart.new (Lt.own hO79) hs83
  have hA87 := Apart.new (Lt.own hO58) hs83
  have hG88 := Ge.new hE70 hs83
  have hG89 := Ge.new hE71 hs83
  have hG90 := Ge.new hE72 hs83
  have hG91 := Ge.new hE73 hs83
  have hG92 := Ge.new hE74 hs83
  have hG93 := Ge.new hE75 hs83
  have hG94 := Ge.new hE76 hs83
  have hG95 := Ge.new (Evo.refl [] w57) hs83
  have hE96 := hE70.then hw84
  have hE97 := hE71.then hw84
  have hE98 := hE72.then hw84
  have hE99 := hE73.then hw84
  have hE100 := hE74.then hw84
  have hE101 := hE75.then hw84
  have hE102 := hE76.then hw84
  have hE103 := (Evo.refl [] w57).then hw84
  have hF104 := hOwP2.evo0 hw84
  have hO105 := hO78.evo0 hw84
  have hO106 := hO79.evo0 hw84
  have hO107 := hO58.evo0 hw84
  have hOwP3 := Ow.push (c := 3) (o := (some b80)) hF104 (fun i => (Apart.fresh (hOwP2.lt i) hG95).symm) (Lt.own hO82) hG88
  refine wl_val rfl (ex_assign rfl) ?_
  refine wl_val rfl (ex_assign rfl) ?_
  refine wl_nil (nrm_then ?_)
  refine cw_seq ?_
  refine cw_seq ?_
  have hst0 := st00 (gps := b20) (ghs := bH) (bk := b56) (bt := b80) (b1 := bp1) (b2 := bp2) (b3 := bp3) (o1 := oq1) (o2 := oq2) (o3 := oq3) hOwP3 hO105 hO106 hO107 hO82 (hp1.evo hE97 (by simp) (fun _ _ => by simp)) (hp2.evo hE98 (by simp) (fun _ _ => by simp)) (hp3.evo hE99 (by simp) (fun _ _ => by simp))
  refine cw_region ?_
  refine wl_val rfl (ex_assign rfl) ?_
  refine wl_nil (nrm_then ?_)
  refine cw_block ?_
  refine cw_loop (α := Nat × (Nat → Option Nat) × Gh) ((0, f00 b20 bH b56 b80 bp1 bp2 bp3 oq1 oq2 oq3, g00 b56 b80 bp1 bp2 bp3)) (fun x => [(8, .int .i64 (x.1 : Nat)), (6, .slice x.2.2.ka x.2.2.MK x.2.2.kc), (7, .slice x.2.2.ta x.2.2.MT x.2.2.tc)]) [(0, _), (4, _), (5, _)] (fun x wr => Evo (newX w w81) w81 wr ∧ (x.1 ≤ ops.length ∧ St wr w b20 bH x.2.1 x.2.2 ∧ Good x.2.2)) (fun x => ops.length - x.1) ⟨rfl, rfl, rfl, trivial⟩ ⟨rfl, rfl, rfl, trivial⟩ ⟨Evo.refl _ _, ⟨Nat.zero_le _, hst0, good00 _ _ _ _ _⟩⟩ ?_
  rintro ⟨k, f, g⟩ wr108 ⟨hV109, ⟨hk, hST, hG⟩⟩
  show CW _ _ _ _ [(8, .int .i64 (k : Nat)), (6, .slice g.ka g.MK g.kc), (7, .slice g.ta g.MT g.tc), (0, _), (4, _), (5, _)] _
  try dsimp only at hk
  try dsimp only at hST
  try dsimp only at hG
  have hE110 := hE96.step hV109 (fun y hy => .inr (newX_ge hy))
  refine cw_seq ?_
  refine cw_seq ?_
  refine cw_region ?_
  refine wl_val rfl (ex_move rfl) ?_
  refine wl_val rfl (ex_move rfl) ?_
  refine wl_val rfl (ex_len_slice rfl Tryd.underlying43 rfl) ?_
  refine wl_val rfl (ex_lss rfl rfl) ?_
  refine wl_nil (nrm_then ?_)
  refine cw_if rfl (fun hc30 => ?_) (fun hc30 => ?_)
  · skip
    have hk' : k < ops.length := by omega
    obtain ⟨bO, oO, rfl, hcO, hsO⟩ := op_at hs0 hk'
    refine cw_skip (nrm_then ?_)
    refine cw_seq ?_
    refine cw_block ?_
    refine cw_seq ?_
    have hstA := hST
    refine cw_region ?_
    refine wl_val rfl (ex_move rfl) ?_
    refine wl_val rfl (ex_move rfl) ?_
    refine wl_val rfl (ex_indexAddr (n := k) rfl rfl Tryd.elem43 (by omega)) ?_
    refine wl_val rfl (ex_loadA rfl Tryd.agg50 Tryd.size50 (vs := [_, _, _, _, _]) rfl (hcO.evo hE110 (by simp))) ?_
    refine wl_alloc rfl Tryd.zero50 fun b111 w112 hB113 hs114 hw115 => ?_
    have hG116 := Ge.new hE110 hs114
    have hG117 := Ge.new hV109 hs114
    have hG118 := Ge.new (Evo.refl [] wr108) hs114
    have hE119 := hE110.then hw115
    have hE120 := hV109.then hw115
    have hE121 := (Evo.refl [] wr108).then hw115
    have hF122 := hST.evo0 hw115
    refine wl_storeBlk rfl rfl Tryd.size50 hB113 rfl rfl ⟨by first | rfl | assumption, by first | rfl | assumption, by first | rfl | assumption, by first | rfl | assumption, by first | rfl | assumption, trivial⟩ fun w123 hB124 hw125 => ?_
    have hE126 := hE119.step hw125 hG116.mem1
    have hE127 := hE120.step hw125 hG117.mem1
    have hE128 := hE121.step hw125 hG118.mem1
    have hF129 := hF122.evo hw125 (fun i => (Apart.fresh (hstA.own.lt i) hG118).own1)
    refine wl_nil (nrm_then ?_)
    refine cw_seq ?_
    have hbx : ∀ i, Apart (some b111) (f i) := fun i => (Apart.fresh (hstA.own.lt i) hG118).symm
    refine cw_region ?_
    refine wl_val rfl (ex_fieldAddr rfl Tryd.fld50_0) ?_
    refine wl_val rfl (ex_load1 rfl Tryd.agg3 (cell_nth hB124 rfl)) ?_
    refine wl_val rfl (ex_and3 rfl rfl) ?_
    have hq4 := and3_lt ops[k].who
    refine wl_val rfl (ex_assign rfl) ?_
    refine wl_nil (nrm_then ?_)
    refine cw_seq ?_
    refine cw_region ?_
    refine wl_val rfl (ex_fieldAddr rfl Tryd.fld50_1) ?_
    refine wl_val rfl (ex_load1 rfl Tryd.agg3 (cell_nth hB124 rfl)) ?_
    refine wl_val rfl (ex_and3 rfl rfl) ?_
    have hk4 := and3_lt ops[k].kind
    refine wl_nil (nrm_then ?_)
    refine cw_block ?_
    refine cw_seq ?_
    refine cw_region ?_
    refine wl_val rfl (ex_eql rfl rfl) ?_
    refine wl_val rfl (ex_assign rfl) ?_
    refine wl_nil (nrm_then ?_)
    refine cw_if rfl (fun hc43 => ?_) (fun hc43 => ?_)
    · skip
      refine cw_seq ?_
      refine cw_region ?_
      refine wl_val rfl (ex_assign rfl) ?_
      refine wl_nil (nrm_then ?_)
      refine cw_seq ?_
      have hcl15 := hs_cell hF129 hq4
      have hlen15 := ((hF129).held _ hq4).2
      refine cw_region ?_
      refine wl_val rfl (ex_move rfl) ?_
      refine wl_val rfl (ex_move rfl) ?_
      refine wl_val rfl (ex_indexAddr (n := (and3 ops[k].who)) rfl rfl Tryd.elem47 (by omega)) ?_
      refine wl_val rfl (ex_load1 rfl Tryd.agg22 hcl15) ?_
      rw [hG.hv _ hq4]
      refine wl_val rfl (ex_len_slice rfl Tryd.underlying22 rfl) ?_
      refine wl_val rfl (ex_assign rfl) ?_
      refine wl_nil (nrm_then ?_)
      have hlen := ((hF129).held _ hq4).2
      have hok := hG.ok _ hq4
      have hokl := hok.len
      have hbxX : b111 ∉ bH :: (f (4 + (and3 ops[k].who))).toList := fun h => by rcases List.mem_cons.1 h with h | h; { exact hbx 1 _ rfl (by rw [(hF129).f1, h]) }; { exact (hbx (4 + (and3 ops[k].who))).nmem h }
      refine cw_seq ?_
      refine cw_cut (α := Int × (Nat → Option Nat) × Sl × List Smp) (fun y => [(11, .int .i64 y.1)]) [(0, _), (4, _), (5, _), (6, _), (7, _), (8, _), (9, _), (10, _)] (fun y wr => Evo (bH :: (f (4 + (and3 ops[k].who))).toList) w123 wr ∧ (St wr w b20 bH y.2.1 (mid g (and3 ops[k].who) y.2.2.1 y.2.2.2) ∧ y.1 = (if (and3 ops[k].who) = 0 then 2 else addRes (g.d (and3 ops[k].who)) ops[k].s) ∧ y.2.2.2 = (if (and3 ops[k].who) = 0 then g.d (and3 ops[k].who) else addL (g.d (and3 ops[k].who)) ops[k].s))) ⟨rfl, rfl, rfl, rfl, rfl, rfl, rfl, rfl, trivial⟩ ?_ ?_
      · skip
        refine cw_seq ?_
        refine cw_region ?_
        refine wl_val rfl (ex_move rfl) ?_
        refine wl_val rfl (ex_eql rfl rfl) ?_
        refine wl_nil (nrm_then ?_)
        refine cw_if rfl (fun hc51 => ?_) (fun hc51 => ?_)
        · skip
          refine cw_region ?_
          refine wl_val rfl (ex_assign rfl) ?_
          refine wl_nil (nrm_then ?_)
          refine ⟨(2, f, g.H (and3 ops[k].who), g.h (and3 ops[k].who)), ⟨rfl, trivial⟩, ⟨rfl, rfl, rfl, rfl, rfl, rfl, rfl, rfl, trivial⟩, (Evo.refl (bH :: (f (4 + (and3 ops[k].who))).toList) w123), ?_⟩
          have hq0 : (and3 ops[k].who) = 0 := by omega
          exact ⟨(hF129).same (hG.hv _ hq4), by rw [if_pos hq0], by rw [if_pos hq0, hG.d _ hq4]⟩
        · skip
          refine cw_seq ?_
          refine cw_region ?_
          refine wl_val rfl (ex_move rfl) ?_
          refine wl_val rfl (ex_geq rfl rfl) ?_
          refine wl_nil (nrm_then ?_)
          refine cw_if rfl (fun hc53 => ?_) (fun hc53 => ?_)
          · skip
            refine cw_region ?_
            refine wl_val rfl (ex_assign rfl) ?_
            refine wl_nil (nrm_then ?_)
            refine ⟨(1, f, g.H (and3 ops[k].who), g.h (and3 ops[k].who)), ⟨rfl, trivial⟩, ⟨rfl, rfl, rfl, rfl, rfl, rfl, rfl, rfl, trivial⟩, (Evo.refl (bH :: (f (4 + (and3 ops[k].who))).toList) w123), ?_⟩
            have hq0 : ¬ (and3 ops[k].who) = 0 := by omega
            have hfu := add_full (ds := g.h (and3 ops[k].who)) (s := ops[k].s) (by omega)
            rw [← hG.d _ hq4] at hfu
            exact ⟨(hF129).same (hG.hv _ hq4), by rw [if_neg hq0, hfu.1], by rw [if_neg hq0, hfu.2, hG.d _ hq4]⟩
          · skip
            refine cw_seq ?_
            have hcl20 := hs_cell hF129 hq4
            have hlen20 := ((hF129).held _ hq4).2
            refine cw_quiet (by kernel_rfl) (by kernel_rfl) ?_
            refine ql_val rfl (fun _ hq131 => ex_move rfl) ?_
            refine ql_val rfl (fun _ hq131 => ex_gtr rfl rfl) ?_
            refine ql_val rfl (fun _ hq131 => ex_move rfl) ?_
            refine ql_split (t := 56) rfl (fun hs56 => ?_) (fun hs56 => ?_)
            · skip
              obtain ⟨-, bh, oh, hah, -, hch⟩ := smp_at (own_smp (X := []) ((hF129).held _ hq4).1 hlen hok.ok (fun _ _ => by simp)) (k := (g.H (and3 ops[k].who)).n - 1) (by omega)
              refine ql_go rfl rfl rfl rfl ?_
              refine ql_val rfl (fun _ hq131 => ex_fieldAddr rfl Tryd.fld50_2) ?_
              refine ql_go rfl rfl rfl rfl ?_
              refine ql_val rfl (fun _ hq131 => ex_fieldAddr rfl Tryd.fld41_0) ?_
              refine ql_go rfl rfl rfl rfl ?_
              refine ql_val rfl (fun _ hq131 => ex_load1 rfl Tryd.agg2 (cell_nth (hq131.blk0 hB124) rfl)) ?_
              refine ql_go rfl rfl rfl rfl ?_
              refine ql_val rfl (fun _ hq131 => ex_move rfl) ?_
              refine ql_go rfl rfl rfl rfl ?_
              refine ql_val rfl (fun _ hq131 => ex_move rfl) ?_
              refine ql_go rfl rfl rfl rfl ?_
              refine ql_val rfl (fun _ hq131 => ex_indexAddr (n := (and3 ops[k].who)) rfl rfl Tryd.elem47 (by omega)) ?_
              refine ql_go rfl rfl rfl rfl ?_
              refine ql_val rfl (fun _ hq131 => ex_load1 rfl Tryd.agg22 (((Evo.refl [] w123).then hq131).cell hcl20 (by simp))) ?_
              rw [hG.hv _ hq4, slv2 hah]
              refine ql_go rfl rfl rfl rfl ?_
              refine ql_val rfl (fun _ hq131 => ex_move rfl) ?_
              refine ql_go rfl rfl rfl rfl ?_
              refine ql_val rfl (fun _ hq131 => ex_sub_i64 rfl rfl (by omega) (by omega)) ?_
              refine ql_go rfl rfl rfl rfl ?_
              refine ql_val rfl (fun _ hq131 => ex_indexAddrZ (b := bh) (o := oh) (len := (g.H (and3 ops[k].who)).n) (c := (g.H (and3 ops[k].who)).c) (z := ((g.H (and3 ops[k].who)).n : Int) - 1) (n := (g.H (and3 ops[k].who)).n - 1) rfl rfl (by omega) Tryd.elem22 (by omega)) ?_
              refine ql_go rfl rfl rfl rfl ?_
              refine ql_val rfl (fun _ hq131 => ex_fieldAddr rfl Tryd.fld41_0) ?_
              refine ql_go rfl rfl rfl rfl ?_
              refine ql_val rfl (fun _ hq131 => ex_load1 rfl Tryd.agg2 ((hch.evo ((Evo.refl [] w123).then hq131) (by simp)) 0 _ rfl)) ?_
              refine ql_go rfl rfl rfl rfl ?_
              refine ql_val rfl (fun _ hq131 => ex_leq rfl rfl) ?_
              refine ql_val rfl (fun _ hq131 => ex_pick_t rfl rfl) ?_
              refine ql_nil (fun wq130 hq131 => nrm_then ?_)
              have hE132 := hE126.then hq131
              have hE133 := hE127.then hq131
              have hE134 := hE128.then hq131
              have hE135 := (Evo.refl [] w123).then hq131
              have hE136 := (Evo.refl (bH :: (f (4 + (and3 ops[k].who))).toList) w123).then hq131
              have hE137 := (Evo.refl [] w123).then hq131
              have hF138 := hF129.evo0 hq131
              have hB139 := hq131.blk0 hB124
              refine cw_if rfl (fun hc70 => ?_) (fun hc70 => ?_)
              · skip
                refine cw_region ?_
                refine wl_val rfl (ex_assign rfl) ?_
                refine wl_nil (nrm_then ?_)
                refine ⟨(170, f, g.H (and3 ops[k].who), g.h (and3 ops[k].who)), ⟨rfl, trivial⟩, ⟨rfl, rfl, rfl, rfl, rfl, rfl, rfl, rfl, trivial⟩, hE136, ?_⟩
                have hq0 : ¬ (and3 ops[k].who) = 0 := by omega
                have hfu := add_low (ds := g.h (and3 ops[k].who)) (s := ops[k].s) (by omega) (by omega) (by rw [zaf_t (by omega)]; simp only [hlen]; exact hc70)
                rw [← hG.d _ hq4] at hfu
                exact ⟨(hF138).same (hG.hv _ hq4), by rw [if_neg hq0, hfu.1], by rw [if_neg hq0, hfu.2, hG.d _ hq4]⟩
              · skip
                have hcl22 := hs_cell hF138 hq4
                have hnx22 := (hF138).nx (i := 1) (c := 4 + (and3 ops[k].who)) (by omega) _ (hF138).f1
                refine cw_any (fun w0 w' => Evo (f (4 + (and3 ops[k].who))).toList w0 w') (by kernel_rfl) (fun w140 hw141 => ?_)
                have hE142 := hE132.then hw141
                have hE143 := hE133.then hw141
                have hE144 := hE134.then hw141
                have hE145 := hE135.then hw141
                have hE146 := hE136.then hw141
                have hE147 := hE137.then hw141
                have hE148 := (Evo.refl (f (4 + (and3 ops[k].who))).toList wq130).then hw141
                have hF149 := hF138.evo0 hw141
                have hB150 := hw141.blk0 hB139
                refine ae_take 0 rfl (by kernel_rfl) (by kernel_rfl) (by kernel_rfl) rfl (fun _ hS => ex_move rfl) (Evo.refl (f (4 + (and3 ops[k].who))).toList w140) ?_
                refine ae_take 1 rfl (by kernel_rfl) (by kernel_rfl) (by kernel_rfl) rfl (fun _ hS => ex_move rfl) (Evo.refl (f (4 + (and3 ops[k].who))).toList w140) ?_
                refine ae_take 2 rfl (by kernel_rfl) (by kernel_rfl) (by kernel_rfl) rfl (fun _ hS => ex_move rfl) (Evo.refl (f (4 + (and3 ops[k].who))).toList w140) ?_
                refine ae_take 3 rfl (by kernel_rfl) (by kernel_rfl) (by kernel_rfl) rfl (fun _ hS => ex_move rfl) (Evo.refl (f (4 + (and3 ops[k].who))).toList w140) ?_
                refine ae_take 4 rfl (by kernel_rfl) (by kernel_rfl) (by kernel_rfl) rfl (fun _ hS => ex_indexAddr (n := (and3 ops[k].who)) rfl rfl Tryd.elem47 (by omega)) (Evo.refl (f (4 + (and3 ops[k].who))).toList w140) ?_
                refine ae_take 5 rfl (by kernel_rfl) (by kernel_rfl) (by kernel_rfl) rfl (fun _ hS => ex_load1 rfl Tryd.agg22 ((hE148.step hS (fun y hy => .inl hy)).cell hcl22 hnx22)) (Evo.refl (f (4 + (and3 ops[k].who))).toList w140) ?_
                rw [hG.hv _ hq4]
                refine ae_take 6 rfl (by kernel_rfl) (by kernel_rfl) (by kernel_rfl) rfl (fun _ hS => ex_fieldAddr rfl Tryd.fld50_2) (Evo.refl (f (4 + (and3 ops[k].who))).toList w140) ?_
                refine ae_take 7 rfl (by kernel_rfl) (by kernel_rfl) (by kernel_rfl) rfl (fun _ hS => ex_loadA rfl Tryd.agg41 Tryd.size41 (vs := [_, _, _]) rfl (box3 (hS.blk hB150 ((hbx (4 + (and3 ops[k].who))).nmem)))) (Evo.refl (f (4 + (and3 ops[k].who))).toList w140) ?_
                refine ae_loud [8] (by kernel_rfl) rfl ⟨?_, trivial⟩
                refine a_step rfl ?_
                refine wl_bslice (vs := [_]) rfl Tryd.slice22 rfl rfl rfl rfl fun b151 w152 hO153 hs154 hw155 => ?_
                have hA156 := Apart.new (Lt.blk hB150) hs154
                have hG157 := Ge.new hE142 hs154
                have hG158 := Ge.new hE143 hs154
                have hG159 := Ge.new hE144 hs154
                have hG160 := Ge.new hE145 hs154
                have hG161 := Ge.new hE146 hs154
                have hG162 := Ge.new hE147 hs154
                have hG163 := Ge.new hE148 hs154
                have hG164 := Ge.new (Evo.refl (f (4 + (and3 ops[k].who))).toList w140) hs154
                have hE165 := hE142.then hw155
                have hE166 := hE143.then hw155
                have hE167 := hE144.then hw155
                have hE168 := hE145.then hw155
                have hE169 := hE146.then hw155
                have hE170 := hE147.then hw155
                have hE171 := hE148.then hw155
                have hE172 := (Evo.refl (f (4 + (and3 ops[k].who))).toList w140).then hw155
                have hF173 := hF149.evo0 hw155
                have hB174 := hw155.blk0 hB150
                refine wl_nil (ae_next (.inl hE172) ?_)
                refine ae_loud [9] (by kernel_rfl) rfl ⟨?_, trivial⟩
                refine a_step rfl ?_
                refine wl_append rfl rfl rfl rfl Tryd.app22_22 ((hF173).held _ hq4).1 (Src.ofOwn hO153 ⟨by first | rfl | assumption, by first | rfl | assumption, by first | rfl | assumption, trivial⟩) (by omega) fun a9 c9 w9 ob9 hO9 hw9 hob9 => ?_
                have hO9' : OwnS w9 41 3 a9 ((g.H (and3 ops[k].who)).n + 1) c9 (srows (g.h (and3 ops[k].who) ++ [ops[k].s])) ob9 := by rw [srows_snoc]; exact hO9
                have hob9' : ob9 = f (4 + (and3 ops[k].who)) ∨ Ge w152 ob9 := hob9.imp id fun ⟨g', h1, h2⟩ => fun q' hq' => by rw [h1] at hq'; cases hq'; exact h2
                have hS9 := (hF173).heldSet hE165 hq4 (r := ⟨a9, (g.H (and3 ops[k].who)).n + 1, c9, ob9⟩) hO9' (by rw [List.length_append, hlen]; rfl) hw9 hob9'
                have hE175 := hE165.step hw9 (fun y hy => .inr ((hF173).gx _ y hy))
                have hE176 := hE166.step hw9 (fun y hy => newX_in ((hF173).gx _ y hy))
                have hE177 := hE169.step hw9 (fun y hy => .inl (List.mem_cons_of_mem _ hy))
                have hE178 := hE171.step hw9 (fun y hy => .inl hy)
                have hE179 := hE172.step hw9 (fun y hy => .inl hy)
                have hB180 := hw9.blk hB174 ((hbx (4 + (and3 ops[k].who))).nmem)
                refine wl_nil (ae_next (.inl hE179) ?_)
                refine ae_take 10 rfl (by kernel_rfl) (by kernel_rfl) (by kernel_rfl) rfl (fun _ hS => ex_indexAddr (n := (and3 ops[k].who)) rfl rfl Tryd.elem47 (by omega)) hE179 ?_
                refine ae_loud [11] (by kernel_rfl) rfl ⟨?_, trivial⟩
                refine a_step rfl ?_
                obtain ⟨g5, cu5, hg5, ha5, hcu5, hcs5, -⟩ := (hS9).hs.at (by omega)
                cases ha5
                refine wl_store1L rfl rfl rfl Tryd.size22 hcu5 ((hS9).hs.inb hcs5 (k := (and3 ops[k].who)) (j := 0) (by omega) (by omega) (by omega)) fun w8 hb8 hw8 => ?_
                have hw8' := evo_ob hg5 hw8
                have hO8 := (hS9).hs.set' hg5 hcu5 hb8
                rw [show 0 + (and3 ops[k].who) * 1 = (and3 ops[k].who) by omega] at hO8
                have hS8 := (hS9).hsSet (k := (and3 ops[k].who)) (r := ⟨a9, (g.H (and3 ops[k].who)).n + 1, c9, ob9⟩) hO8 hw8'
                have hE181 := hE175.step hw8 (fun y hy => .inr ((hS9).gx 1 y (by rw [hg5]; simpa using hy)))
                have hE182 := hE176.step hw8 (fun y hy => newX_in ((hS9).gx 1 y (by rw [hg5]; simpa using hy)))
                have hE183 := hE177.step hw8 (fun y hy => .inl (by simp at hy; simp [hy]))
                have hB184 := hw8.blk hB180 ((fun h => hbx 1 _ rfl (by rw [← show updF f (4 + (and3 ops[k].who)) ob9 1 = f 1 from upd_ne (by omega), hg5, List.mem_singleton.1 h])))
                refine wl_nil (ae_next (.inr (by kernel_rfl)) ?_)
                refine ae_done (by kernel_rfl) (nrm_then ?_)
                refine ⟨(0, updF f (4 + (and3 ops[k].who)) ob9, ⟨a9, (g.H (and3 ops[k].who)).n + 1, c9, ob9⟩, g.h (and3 ops[k].who) ++ [ops[k].s]), ⟨rfl, trivial⟩, ⟨rfl, rfl, rfl, rfl, rfl, rfl, rfl, rfl, trivial⟩, hE183, ?_⟩
                have hq0 : ¬ (and3 ops[k].who) = 0 := by omega
                have hfu := add_one (ds := g.h (and3 ops[k].who)) (s := ops[k].s) (by omega) (fun h => by have h2 := h.2; rw [zaf_t h.1] at h2; simp only [hlen] at h2; exact hc70 h2)
                rw [← hG.d _ hq4] at hfu
                refine ⟨hS8, by rw [if_neg hq0, hfu.1], by rw [if_neg hq0, hfu.2, hG.d _ hq4]⟩
            · skip
              refine ql_no rfl rfl rfl rfl rfl rfl ?_
              refine ql_no rfl rfl rfl rfl rfl rfl ?_
              refine ql_no rfl rfl rfl rfl rfl rfl ?_
              refine ql_no rfl rfl rfl rfl rfl rfl ?_
              refine ql_no rfl rfl rfl rfl rfl rfl ?_
              refine ql_no rfl rfl rfl rfl rfl rfl ?_
              refine ql_no rfl rfl rfl rfl rfl rfl ?_
              refine ql_no rfl rfl rfl rfl rfl rfl ?_
              refine ql_no rfl rfl rfl rfl rfl rfl ?_
              refine ql_no rfl rfl rfl rfl rfl rfl ?_
              refine ql_no rfl rfl rfl rfl rfl rfl ?_
              refine ql_no rfl rfl rfl rfl rfl rfl ?_
              refine ql_no rfl rfl rfl rfl rfl rfl ?_
              refine ql_val rfl (fun _ hq131 => ex_pick_f rfl rfl) ?_
              refine ql_nil (fun wq130 hq131 => nrm_then ?_)
              have hE185 := hE126.then hq131
              have hE186 := hE127.then hq131
              have hE187 := hE128.then hq131
              have hE188 := (Evo.refl [] w123).then hq131
              have hE189 := (Evo.refl (bH :: (f (4 + (and3 ops[k].who))).toList) w123).then hq131
              have hE190 := (Evo.refl [] w123).then hq131
              have hF191 := hF129.evo0 hq131
              have hB192 := hq131.blk0 hB124
              refine cw_false rfl ?_
              have hcl22 := hs_cell hF191 hq4
              have hnx22 := (hF191).nx (i := 1) (c := 4 + (and3 ops[k].who)) (by omega) _ (hF191).f1
              refine cw_any (fun w0 w' => Evo (f (4 + (and3 ops[k].who))).toList w0 w') (by kernel_rfl) (fun w193 hw194 => ?_)
              have hE195 := hE185.then hw194
              have hE196 := hE186.then hw194
              have hE197 := hE187.then hw194
              have hE198 := hE188.then hw194
              have hE199 := hE189.then hw194
              have hE200 := hE190.then hw194
              have hE201 := (Evo.refl (f (4 + (and3 ops[k].who))).toList wq130).then hw194
              have hF202 := hF191.evo0 hw194
              have hB203 := hw194.blk0 hB192
              refine ae_take 0 rfl (by kernel_rfl) (by kernel_rfl) (by kernel_rfl) rfl (fun _ hS => ex_move rfl) (Evo.refl (f (4 + (and3 ops[k].who))).toList w193) ?_
              refine ae_take 1 rfl (by kernel_rfl) (by kernel_rfl) (by kernel_rfl) rfl (fun _ hS => ex_move rfl) (Evo.refl (f (4 + (and3 ops[k].who))).toList w193) ?_
              refine ae_take 2 rfl (by kernel_rfl) (by kernel_rfl) (by kernel_rfl) rfl (fun _ hS => ex_move rfl) (Evo.refl (f (4 + (and3 ops[k].who))).toList w193) ?_
              refine ae_take 3 rfl (by kernel_rfl) (by kernel_rfl) (by kernel_rfl) rfl (fun _ hS => ex_move rfl) (Evo.refl (f (4 + (and3 ops[k].who))).toList w193) ?_
              refine ae_take 4 rfl (by kernel_rfl) (by kernel_rfl) (by kernel_rfl) rfl (fun _ hS => ex_indexAddr (n := (and3 ops[k].who)) rfl rfl Tryd.elem47 (by omega)) (Evo.refl (f (4 + (and3 ops[k].who))).toList w193) ?_
              refine ae_take 5 rfl (by kernel_rfl) (by kernel_rfl) (by kernel_rfl) rfl (fun _ hS => ex_load1 rfl Tryd.agg22 ((hE201.step hS (fun y hy => .inl hy)).cell hcl22 hnx22)) (Evo.refl (f (4 + (and3 ops[k].who))).toList w193) ?_
              rw [hG.hv _ hq4]
              refine ae_take 6 rfl (by kernel_rfl) (by kernel_rfl) (by kernel_rfl) rfl (fun _ hS => ex_fieldAddr rfl Tryd.fld50_2) (Evo.refl (f (4 + (and3 ops[k].who))).toList w193) ?_
              refine ae_take 7 rfl (by kernel_rfl) (by kernel_rfl) (by kernel_rfl) rfl (fun _ hS => ex_loadA rfl Tryd.agg41 Tryd.size41 (vs := [_, _, _]) rfl (box3 (hS.blk hB203 ((hbx (4 + (and3 ops[k].who))).nmem)))) (Evo.refl (f (4 + (and3 ops[k].who))).toList w193) ?_
              refine ae_loud [8] (by kernel_rfl) rfl ⟨?_, trivial⟩
              refine a_step rfl ?_
              refine wl_bslice (vs := [_]) rfl Tryd.slice22 rfl rfl rfl rfl fun b204 w205 hO206 hs207 hw208 => ?_
              have hA209 := Apart.new (Lt.blk hB203) hs207
              have hG210 := Ge.new hE195 hs207
              have hG211 := Ge.new hE196 hs207
              have hG212 := Ge.new hE197 hs207
              have hG213 := Ge.new hE198 hs207
              have hG214 := Ge.new hE199 hs207
              have hG215 := Ge.new hE200 hs207
              have hG216 := Ge.new hE201 hs207
              have hG217 := Ge.new (Evo.refl (f (4 + (and3 ops[k].who))).toList w193) hs207
              have hE218 := hE195.then hw208
              have hE219 := hE196.then hw208
              have hE220 := hE197.then hw208
              have hE221 := hE198.then hw208
              have hE222 := hE199.then hw208
              have hE223 := hE200.then hw208
              have hE224 := hE201.then hw208
              have hE225 := (Evo.refl (f (4 + (and3 ops[k].who))).toList w193).then hw208
              have hF226 := hF202.evo0 hw208
              have hB227 := hw208.blk0 hB203
              refine wl_nil (ae_next (.inl hE225) ?_)
              refine ae_loud [9] (by kernel_rfl) rfl ⟨?_, trivial⟩
              refine a_step rfl ?_
              refine wl_append rfl rfl rfl rfl Tryd.app22_22 ((hF226).held _ hq4).1 (Src.ofOwn hO206 ⟨by first | rfl | assumption, by first | rfl | assumption, by first | rfl | assumption, trivial⟩) (by omega) fun a9 c9 w9 ob9 hO9 hw9 hob9 => ?_
              have hO9' : OwnS w9 41 3 a9 ((g.H (and3 ops[k].who)).n + 1) c9 (srows (g.h (and3 ops[k].who) ++ [ops[k].s])) ob9 := by rw [srows_snoc]; exact hO9
              have hob9' : ob9 = f (4 + (and3 ops[k].who)) ∨ Ge w205 ob9 := hob9.imp id fun ⟨g', h1, h2⟩ => fun q' hq' => by rw [h1] at hq'; cases hq'; exact h2
              have hS9 := (hF226).heldSet hE218 hq4 (r := ⟨a9, (g.H (and3 ops[k].who)).n + 1, c9, ob9⟩) hO9' (by rw [List.length_append, hlen]; rfl) hw9 hob9'
              have hE228 := hE218.step hw9 (fun y hy => .inr ((hF226).gx _ y hy))
              have hE229 := hE219.step hw9 (fun y hy => newX_in ((hF226).gx _ y hy))
              have hE230 := hE222.step hw9 (fun y hy => .inl (List.mem_cons_of_mem _ hy))
              have hE231 := hE224.step hw9 (fun y hy => .inl hy)
              have hE232 := hE225.step hw9 (fun y hy => .inl hy)
              have hB233 := hw9.blk hB227 ((hbx (4 + (and3 ops[k].who))).nmem)
              refine wl_nil (ae_next (.inl hE232) ?_)
              refine ae_take 10 rfl (by kernel_rfl) (by kernel_rfl) (by kernel_rfl) rfl (fun _ hS => ex_indexAddr (n := (and3 ops[k].who)) rfl rfl Tryd.elem47 (by omega)) hE232 ?_
              refine ae_loud [11] (by kernel_rfl) rfl ⟨?_, trivial⟩
              refine a_step rfl ?_
              obtain ⟨g5, cu5, hg5, ha5, hcu5, hcs5, -⟩ := (hS9).hs.at (by omega)
              cases ha5
              refine wl_store1L rfl rfl rfl Tryd.size22 hcu5 ((hS9).hs.inb hcs5 (k := (and3 ops[k].who)) (j := 0) (by omega) (by omega) (by omega)) fun w8 hb8 hw8 => ?_
              have hw8' := evo_ob hg5 hw8
              have hO8 := (hS9).hs.set' hg5 hcu5 hb8
              rw [show 0 + (and3 ops[k].who) * 1 = (and3 ops[k].who) by omega] at hO8
              have hS8 := (hS9).hsSet (k := (and3 ops[k].who)) (r := ⟨a9, (g.H (and3 ops[k].who)).n + 1, c9, ob9⟩) hO8 hw8'
              have hE234 := hE228.step hw8 (fun y hy => .inr ((hS9).gx 1 y (by rw [hg5]; simpa using hy)))
              have hE235 := hE229.step hw8 (fun y hy => newX_in ((hS9).gx 1 y (by rw [hg5]; simpa using hy)))
              have hE236 := hE230.step hw8 (fun y hy => .inl (by simp at hy; simp [hy]))
              have hB237 := hw8.blk hB233 ((fun h => hbx 1 _ rfl (by rw [← show updF f (4 + (and3 ops[k].who)) ob9 1 = f 1 from upd_ne (by omega), hg5, List.mem_singleton.1 h])))
              refine wl_nil (ae_next (.inr (by kernel_rfl)) ?_)
              refine ae_done (by kernel_rfl) (nrm_then ?_)
              refine ⟨(0, updF f (4 + (and3 ops[k].who)) ob9, ⟨a9, (g.H (and3 ops[k].who)).n + 1, c9, ob9⟩, g.h (and3 ops[k].who) ++ [ops[k].s]), ⟨rfl, trivial⟩, ⟨rfl, rfl, rfl, rfl, rfl, rfl, rfl, rfl, trivial⟩, hE236, ?_⟩
              have hq0 : ¬ (and3 ops[k].who) = 0 := by omega
              have hfu := add_one (ds := g.h (and3 ops[k].who)) (s := ops[k].s) (by omega) (fun h => by have := h.1; omega)
              rw [← hG.d _ hq4] at hfu
              refine ⟨hS8, by rw [if_neg hq0, hfu.1], by rw [if_neg hq0, hfu.2, hG.d _ hq4]⟩
      · skip
        rintro ⟨wa, f2, r, L⟩ w238 ⟨hV239, ⟨hS2, hwa, hL⟩⟩
        refine nrm_then ?_
        show CW _ _ _ _ [(11, .int .i64 wa), (0, _), (4, _), (5, _), (6, _), (7, _), (8, _), (9, _), (10, _)] _
        try dsimp only at hS2
        try dsimp only at hwa
        try dsimp only at hL
        have hE240 := hE126.step hV239 (fun y hy => .inr (by rcases List.mem_cons.1 hy with h | h; { rw [h]; exact (hF129).own.ge 1 _ (hF129).f1 }; { exact (hF129).gx _ y h }))
        have hE241 := hE127.step hV239 (fun y hy => newX_in (by rcases List.mem_cons.1 hy with h | h; { rw [h]; exact (hF129).own.ge 1 _ (hF129).f1 }; { exact (hF129).gx _ y h }))
        have hB242 := hV239.blk hB124 (hbxX)
        refine cw_seq ?_
        refine cw_any (fun w0 w' => Evo (newX w w0) w0 w') (by kernel_rfl) (fun w243 hw244 => ?_)
        have hE245 := hE240.then hw244
        have hE246 := hE241.then hw244
        have hB247 := hw244.blk0 hB242
        have hF248 := hS2.evo0 hw244
        refine ae_take 0 rfl (by kernel_rfl) (by kernel_rfl) (by kernel_rfl) rfl (fun _ hS => ex_move rfl) (Evo.refl (newX w w243) w243) ?_
        refine ae_take 1 rfl (by kernel_rfl) (by kernel_rfl) (by kernel_rfl) rfl (fun _ hS => ex_move rfl) (Evo.refl (newX w w243) w243) ?_
        refine ae_take 2 rfl (by kernel_rfl) (by kernel_rfl) (by kernel_rfl) rfl (fun _ hS => ex_indexAddr (n := (and3 ops[k].who)) rfl rfl Tryd.elem46 (by omega)) (Evo.refl (newX w w243) w243) ?_
        refine ae_take 4 rfl (by kernel_rfl) (by kernel_rfl) (by kernel_rfl) rfl (fun _ hS => ex_fieldAddr rfl Tryd.fld50_2) (Evo.refl (newX w w243) w243) ?_
        refine ae_take 7 rfl (by kernel_rfl) (by kernel_rfl) (by kernel_rfl) rfl (fun _ hS => ex_move rfl) (Evo.refl (newX w w243) w243) ?_
        refine ae_loud [3, 5] (by kernel_rfl) rfl ⟨?_, ?_, trivial⟩
        · skip
          refine a_step rfl ?_
          refine wl_val rfl (ex_load1 rfl Tryd.agg44 (ps_cell hF248 hq4)) ?_
          refine wl_nil (ae_next (.inl (Evo.refl (newX w w243) w243)) ?_)
          refine ae_loud [5] (by kernel_rfl) rfl ⟨?_, trivial⟩
          refine a_step rfl ?_
          refine wl_val rfl (ex_loadA rfl Tryd.agg41 Tryd.size41 (vs := [_, _, _]) rfl (box3 hB247)) ?_
          refine wl_nil (ae_next (.inl (Evo.refl (newX w w243) w243)) ?_)
          refine ae_loud [6] (by kernel_rfl) rfl ⟨?_, trivial⟩
          refine a_step rfl ?_
          refine wl_call1 (vs := [_, _]) Tryd.goes22 rfl ((hF248).add hE245 hq4 hG.p0 hG.pp hsO ht) rfl ?_
          rintro _ w249 ⟨rfl, f3, Xa, hS3, hw250, hXa⟩
          have hE251 := hE245.step hw250 (fun y hy => .inr (hXa y hy))
          have hE252 := hE246.step hw250 (fun y hy => newX_in (hXa y hy))
          have hE253 := (Evo.refl (newX w w243) w243).step hw250 (fun y hy => newX_in (hXa y hy))
          refine wl_nil (ae_next (.inl hE253) ?_)
          refine ae_take 8 rfl (by kernel_rfl) (by kernel_rfl) (by kernel_rfl) rfl (fun _ hS => ex_neq rfl rfl) hE253 ?_
          refine ae_done (by kernel_rfl) (nrm_then ?_)
          refine cw_if rfl (fun hc90 => ?_) (fun hc90 => ?_)
          · skip
            exact absurd hwa.symm hc90
          · skip
            refine cw_skip (nrm_block (nrm_block (nrm_then ?_)))
            refine cw_region ?_
            refine wl_val rfl (ex_move rfl) ?_
            refine wl_val rfl (ex_add_i64 rfl rfl (by omega) (by omega)) ?_
            refine wl_val rfl (ex_assign rfl) ?_
            refine wl_nil (nrm_then ?_)
            refine ⟨(k + 1, f3, { mid g (and3 ops[k].who) r L with d := fun i => if i = (and3 ops[k].who) then (if (and3 ops[k].who) = 0 then g.d (and3 ops[k].who) else addL (g.d (and3 ops[k].who)) ops[k].s) else g.d i }), ?_, ⟨rfl, rfl, rfl, trivial⟩, ⟨rfl, rfl, rfl, trivial⟩, hE252, ?_⟩
            · (try dsimp only); omega
            · skip
              try dsimp only
              exact ⟨by omega, hS3, hG.add hsO hq4 hL⟩
        · skip
          refine a_step rfl ?_
          refine wl_val rfl (ex_loadA rfl Tryd.agg41 Tryd.size41 (vs := [_, _, _]) rfl (box3 hB247)) ?_
          refine wl_nil (ae_next (.inl (Evo.refl (newX w w243) w243)) ?_)
          refine ae_loud [3] (by kernel_rfl) rfl ⟨?_, trivial⟩
          refine a_step rfl ?_
          refine wl_val rfl (ex_load1 rfl Tryd.agg44 (ps_cell hF248 hq4)) ?_
          refine wl_nil (ae_next (.inl (Evo.refl (newX w w243) w243)) ?_)
          refine ae_loud [6] (by kernel_rfl) rfl ⟨?_, trivial⟩
          refine a_step rfl ?_
          refine wl_call1 (vs := [_, _]) Tryd.goes22 rfl ((hF248).add hE245 hq4 hG.p0 hG.pp hsO ht) rfl ?_
          rintro _ w254 ⟨rfl, f3, Xa, hS3, hw255, hXa⟩
          have hE256 := hE245.step hw255 (fun y hy => .inr (hXa y hy))
          have hE257 := hE246.step hw255 (fun y hy => newX_in (hXa y hy))
          have hE258 := (Evo.refl (newX w w243) w243).step hw255 (fun y hy => newX_in (hXa y hy))
          refine wl_nil (ae_next (.inl hE258) ?_)
          refine ae_take 8 rfl (by kernel_rfl) (by kernel_rfl) (by kernel_rfl) rfl (fun _ hS => ex_neq rfl rfl) hE258 ?_
          refine ae_done (by kernel_rfl) (nrm_then ?_)
          refine cw_if rfl (fun hc90 => ?_) (fun hc90 => ?_)
          · skip
            exact absurd hwa.symm hc90
          · skip
            refine cw_skip (nrm_block (nrm_block (nrm_then ?_)))
            refine cw_region ?_
            refine wl_val rfl (ex_move rfl) ?_
            refine wl_val rfl (ex_add_i64 rfl rfl (by omega) (by omega)) ?_
            refine wl_val rfl (ex_assign rfl) ?_
            refine wl_nil (nrm_then ?_)
            refine ⟨(k + 1, f3, { mid g (and3 ops[k].who) r L with d := fun i => if i = (and3 ops[k].who) then (if (and3 ops[k].who) = 0 then g.d (and3 ops[k].who) else addL (g.d (and3 ops[k].who)) ops[k].s) else g.d i }), ?_, ⟨rfl, rfl, rfl, trivial⟩, ⟨rfl, rfl, rfl, trivial⟩, hE257, ?_⟩
            · (try dsimp only); omega
            · skip
              try dsimp only
              exact ⟨by omega, hS3, hG.add hsO hq4 hL⟩
    · skip
      refine cw_seq ?_
      refine cw_region ?_
      refine wl_val rfl (ex_eql rfl rfl) ?_
      refine wl_val rfl (ex_assign rfl) ?_
      refine wl_nil (nrm_then ?_)
      refine cw_if rfl (fun hc91 => ?_) (fun hc91 => ?_)
      · skip
        refine cw_seq ?_
        have hcl26 := hs_cell hF129 hq4
        have hcp26 := ps_cell hF129 hq4
        have hlen26 := ((hF129).held _ hq4).2
        refine cw_any (fun w0 w' => Evo [] w0 w') (by kernel_rfl) (fun w259 hw260 => ?_)
        have hE261 := hE126.then hw260
        have hE262 := hE127.then hw260
        have hE263 := hE128.then hw260
        have hE264 := (Evo.refl [] w123).then hw260
        have hF265 := hF129.evo0 hw260
        have hB266 := hw260.blk0 hB124
        refine ae_take 0 rfl (by kernel_rfl) (by kernel_rfl) (by kernel_rfl) rfl (fun _ hS => ex_move rfl) (Evo.refl [] w259) ?_
        refine ae_take 1 rfl (by kernel_rfl) (by kernel_rfl) (by kernel_rfl) rfl (fun _ hS => ex_move rfl) (Evo.refl [] w259) ?_
        refine ae_take 2 rfl (by kernel_rfl) (by kernel_rfl) (by kernel_rfl) rfl (fun _ hS => ex_indexAddr (n := (and3 ops[k].who)) rfl rfl Tryd.elem46 (by omega)) (Evo.refl [] w259) ?_
        refine ae_take 3 rfl (by kernel_rfl) (by kernel_rfl) (by kernel_rfl) rfl (fun _ hS => ex_load1 rfl Tryd.agg44 ((hE264.then hS).cell hcp26 (by simp))) (Evo.refl [] w259) ?_
        refine ae_take 5 rfl (by kernel_rfl) (by kernel_rfl) (by kernel_rfl) rfl (fun _ hS => ex_move rfl) (Evo.refl [] w259) ?_
        refine ae_take 6 rfl (by kernel_rfl) (by kernel_rfl) (by kernel_rfl) rfl (fun _ hS => ex_move rfl) (Evo.refl [] w259) ?_
        refine ae_take 7 rfl (by kernel_rfl) (by kernel_rfl) (by kernel_rfl) rfl (fun _ hS => ex_indexAddr (n := (and3 ops[k].who)) rfl rfl Tryd.elem47 (by omega)) (Evo.refl [] w259) ?_
        refine ae_take 8 rfl (by kernel_rfl) (by kernel_rfl) (by kernel_rfl) rfl (fun _ hS => ex_load1 rfl Tryd.agg22 ((hE264.then hS).cell hcl26 (by simp))) (Evo.refl [] w259) ?_
        rw [hG.hv _ hq4]
        refine ae_take 9 rfl (by kernel_rfl) (by kernel_rfl) (by kernel_rfl) rfl (fun _ hS => ex_len_slice rfl Tryd.underlying22 rfl) (Evo.refl [] w259) ?_
        refine ae_loud [4] (by kernel_rfl) rfl ⟨?_, trivial⟩
        refine a_step rfl ?_
        refine wl_call1 (vs := [_]) Tryd.goes23 rfl ((hF265).len hG hq4) rfl ?_
        rintro _ w267 ⟨rfl, hw268⟩
        have hE269 := hE261.then hw268
        have hE270 := hE262.then hw268
        have hE271 := hE263.then hw268
        have hE272 := hE264.then hw268
        have hE273 := (Evo.refl [] w259).then hw268
        have hF274 := hF265.evo0 hw268
        have hB275 := hw268.blk0 hB266
        refine wl_nil (ae_next (.inl hE273) ?_)
        refine ae_take 10 rfl (by kernel_rfl) (by kernel_rfl) (by kernel_rfl) rfl (fun _ hS => ex_neq rfl rfl) hE273 ?_
        refine ae_done (by kernel_rfl) (nrm_then ?_)
        refine cw_if rfl (fun hc103 => ?_) (fun hc103 => ?_)
        · skip
          exact absurd (by rw [hG.d _ hq4, hlen26]) hc103
        · skip
          refine cw_skip (nrm_block (nrm_block (nrm_then ?_)))
          refine cw_region ?_
          refine wl_val rfl (ex_move rfl) ?_
          refine wl_val rfl (ex_add_i64 rfl rfl (by omega) (by omega)) ?_
          refine wl_val rfl (ex_assign rfl) ?_
          refine wl_nil (nrm_then ?_)
          refine ⟨(k + 1, f, g), ?_, ⟨rfl, rfl, rfl, trivial⟩, ⟨rfl, rfl, rfl, trivial⟩, hE270, ?_⟩
          · (try dsimp only); omega
          · skip
            try dsimp only
            exact ⟨by omega, hF274, hG⟩
      · skip
        refine cw_seq ?_
        refine cw_region ?_
        refine wl_val rfl (ex_eql rfl rfl) ?_
        refine wl_val rfl (ex_assign rfl) ?_
        refine wl_nil (nrm_then ?_)
        refine cw_if rfl (fun hc104 => ?_) (fun hc104 => ?_)
        · skip
          refine cw_seq ?_
          refine cw_seq ?_
          refine cw_region ?_
          refine wl_val rfl (ex_move rfl) ?_
          refine wl_val rfl (ex_len_slice rfl Tryd.underlying48 rfl) ?_
          refine wl_val rfl (ex_gtr rfl rfl) ?_
          refine wl_nil (nrm_then ?_)
          refine cw_if rfl (fun hc108 => ?_) (fun hc108 => ?_)
          · skip
            refine cw_exit (ex_then (ex_past rfl (ex_here (nrm_then ?_))))
            refine cw_region ?_
            refine wl_val rfl (ex_move rfl) ?_
            refine wl_val rfl (ex_add_i64 rfl rfl (by omega) (by omega)) ?_
            refine wl_val rfl (ex_assign rfl) ?_
            refine wl_nil (nrm_then ?_)
            refine ⟨(k + 1, f, g), ?_, ⟨rfl, rfl, rfl, trivial⟩, ⟨rfl, rfl, rfl, trivial⟩, hE127, ?_⟩
            · (try dsimp only); omega
            · skip
              try dsimp only
              exact ⟨by omega, hF129, hG⟩
          · skip
            refine cw_skip (nrm_then ?_)
            refine cw_seq ?_
            have hcl30 := hs_cell hF129 hq4
            have hlen30 := ((hF129).held _ hq4).2
            have hok30 := hG.ok _ hq4
            have hl30 := hok30.len
            refine cw_region ?_
            refine wl_val rfl (ex_move rfl) ?_
            refine wl_val rfl (ex_move rfl) ?_
            refine wl_val rfl (ex_indexAddr (n := (and3 ops[k].who)) rfl rfl Tryd.elem47 (by omega)) ?_
            refine wl_val rfl (ex_load1 rfl Tryd.agg22 hcl30) ?_
            rw [hG.hv _ hq4]
            refine wl_call1 (vs := [_]) Tryd.goes12 rfl (refPack_new (own_smp (X := []) ((hF129).held _ hq4).1 hlen30 hok30.ok (fun _ _ => by simp)) (by omega)) rfl ?_
            rintro _ w276 ⟨aT, nT, cT, bsT, eT, obT, rfl, hOT, hbT, hgT, hPT, hw277⟩
            have haT : ∀ i, Apart obT (f i) := fun i => (Apart.fresh ((hF129).own.lt i) hgT).symm
            have hA278 := Apart.fresh (Lt.blk hB124) hgT
            have hG279 := Ge.fresh hE126 hgT
            have hG280 := Ge.fresh hE127 hgT
            have hG281 := Ge.fresh hE128 hgT
            have hG282 := Ge.fresh (Evo.refl [] w123) hgT
            have hE283 := hE126.then hw277
            have hE284 := hE127.then hw277
            have hE285 := hE128.then hw277
            have hE286 := (Evo.refl [] w123).then hw277
            have hF287 := hF129.evo0 hw277
            have hB288 := hw277.blk0 hB124
            obtain ⟨rfl, hpT⟩ := pack_val ⟨hok30.len, hok30.up, hok30.ok⟩ hPT
            have hnT := own_len hOT
            have hlT := hpT.len
            have hfT := form_len (g.h (and3 ops[k].who))
            refine wl_val rfl (ex_move rfl) ?_
            refine wl_val rfl (ex_extract rfl rfl) ?_
            refine wl_val rfl (ex_extract rfl rfl) ?_
            refine wl_val rfl (ex_assign rfl) ?_
            refine wl_val rfl (ex_assign rfl) ?_
            refine wl_nil (nrm_then ?_)
            refine cw_seq ?_
            refine cw_region ?_
            refine wl_val rfl (ex_move rfl) ?_
            refine wl_val rfl (ex_move rfl) ?_
            refine wl_val rfl (ex_indexAddr (n := (and3 ops[k].who)) rfl rfl Tryd.elem46 (by omega)) ?_
            refine wl_val rfl (ex_load1 rfl Tryd.agg44 (ps_cell hF287 hq4)) ?_
            refine wl_call1 (vs := [_]) Tryd.goes24 rfl ((hF287).bytes hG hq4) rfl ?_
            rintro _ w289 ⟨aB, nB, cB, bsB, obB, rfl, hOB, hpB, hgB, hw290⟩
            have haB : ∀ i, Apart obB (f i) := fun i => (Apart.fresh ((hF287).own.lt i) hgB).symm
            have hA291 := Apart.fresh (Lt.blk hB288) hgB
            have hA292 := Apart.fresh (Lt.own hOT) hgB
            have hG293 := Ge.fresh hE283 hgB
            have hG294 := Ge.fresh hE284 hgB
            have hG295 := Ge.fresh hE285 hgB
            have hG296 := Ge.fresh hE286 hgB
            have hE297 := hE283.then hw290
            have hE298 := hE284.then hw290
            have hE299 := hE285.then hw290
            have hE300 := hE286.then hw290
            have hF301 := hF287.evo0 hw290
            have hB302 := hw290.blk0 hB288
            have hO303 := hOT.evo0 hw290
            rw [hG.d _ hq4] at hpB
            obtain rfl : bsT = bsB := PacksN.uniq hpT hpB
            have hnB := own_len hOB
            refine wl_val rfl (ex_assign rfl) ?_
            refine wl_nil (nrm_then ?_)
            refine cw_seq ?_
            refine cw_seq ?_
            refine cw_region ?_
            refine wl_val rfl (ex_move rfl) ?_
            refine wl_val rfl (ex_move rfl) ?_
            refine wl_call1 (vs := [_, _]) Tryd.goes14 rfl (same_ok (rbs (X := []) hOB hbT (fun _ _ => by simp)) (rbs (X := []) hO303 hbT (fun _ _ => by simp))) rfl ?_
            rintro _ w304 ⟨rfl, hw305⟩
            have hE306 := hE297.then hw305
            have hE307 := hE298.then hw305
            have hE308 := hE299.then hw305
            have hE309 := hE300.then hw305
            have hF310 := hF301.evo0 hw305
            have hB311 := hw305.blk0 hB302
            have hO312 := hO303.evo0 hw305
            have hO313 := hOB.evo0 hw305
            refine wl_val rfl (ex_not rfl) ?_
            refine wl_nil (nrm_then ?_)
            refine cw_if rfl (fun hc125 => ?_) (fun hc125 => ?_)
            · skip
              exact absurd rfl hc125
            · skip
              refine cw_skip (nrm_then ?_)
              refine cw_seq ?_
              refine cw_region ?_
              refine wl_val rfl (ex_move rfl) ?_
              refine wl_val rfl (ex_move rfl) ?_
              refine wl_bslice (vs := [_]) rfl Tryd.slice48 rfl rfl rfl rfl fun b314 w315 hO316 hs317 hw318 => ?_
              have hA319 := Apart.new (Lt.blk hB311) hs317
              have hA320 := Apart.new (Lt.own hO312) hs317
              have hA321 := Apart.new (Lt.own hO313) hs317
              have hG322 := Ge.new hE306 hs317
              have hG323 := Ge.new hE307 hs317
              have hG324 := Ge.new hE308 hs317
              have hG325 := Ge.new hE309 hs317
              have hE326 := hE306.then hw318
              have hE327 := hE307.then hw318
              have hE328 := hE308.then hw318
              have hE329 := hE309.then hw318
              have hF330 := hF310.evo0 hw318
              have hB331 := hw318.blk0 hB311
              have hO332 := hO312.evo0 hw318
              have hO333 := hO313.evo0 hw318
              refine wl_append rfl rfl rfl rfl Tryd.app48_48 (hF330).ks (Src.ofOwn hO316 ⟨by first | rfl | assumption, trivial⟩) (by omega) fun a8 c8 w8 ob8 hO8 hw8 hob8 => ?_
              have hob8' : ob8 = f 2 ∨ Ge w315 ob8 := hob8.imp id fun ⟨g', h1, h2⟩ => fun q' hq' => by rw [h1] at hq'; cases hq'; exact h2
              have haoB := ap_ob (haB 2) (Lt.own hO333) hob8'
              have haoT := ap_ob (haT 2) (Lt.own hO332) hob8'
              have hE334 := hE326.step hw8 (fun y hy => .inr ((hF330).gx 2 y hy))
              have hE335 := hE327.step hw8 (fun y hy => newX_in ((hF330).gx 2 y hy))
              have hB336 := hO332.evo hw8 ((haT 2).own)
              have hB337 := hO333.evo hw8 ((haB 2).own)
              have hS8 := (hF330).ksApp hE326 (s := ⟨aB, nB, cB, obB⟩) hO8 hw8 hob8' hB337 hbT (show nB ≤ 1000000000 by omega) haB haoB hG293
              have haT2 : ∀ i, Apart obT (updF (updF f 2 ob8) (14 + 2 * g.MK) obB i) := ap_upd (ap_upd haT haoT) hA292
              refine wl_val rfl (ex_assign rfl) ?_
              refine wl_nil (nrm_then ?_)
              refine cw_region ?_
              refine wl_val rfl (ex_move rfl) ?_
              refine wl_val rfl (ex_move rfl) ?_
              refine wl_bslice (vs := [_]) rfl Tryd.slice48 rfl rfl rfl rfl fun b338 w339 hO340 hs341 hw342 => ?_
              have hA343 := Apart.new (Lt.own hB336) hs341
              have hG344 := Ge.new hE334 hs341
              have hG345 := Ge.new hE335 hs341
              have hE346 := hE334.then hw342
              have hE347 := hE335.then hw342
              have hO348 := hB336.evo0 hw342
              have hF349 := hS8.evo0 hw342
              have hmm := hG.m
              refine wl_append rfl rfl rfl rfl Tryd.app48_48 (hF349).ts (Src.ofOwn hO340 ⟨by first | rfl | assumption, trivial⟩) (by first | omega | (dsimp only; omega)) fun a7 c7 w7 ob7 hO7 hw7 hob7 => ?_
              have hob7' : ob7 = (updF (updF f 2 ob8) (14 + 2 * g.MK) obB) 3 ∨ Ge w339 ob7 := hob7.imp id fun ⟨g', h1, h2⟩ => fun q' hq' => by rw [h1] at hq'; cases hq'; exact h2
              have haoT2 := ap_ob (haT2 3) (Lt.own hO348) hob7'
              have hE350 := hE346.step hw7 (fun y hy => .inr ((hF349).gx 3 y hy))
              have hE351 := hE347.step hw7 (fun y hy => newX_in ((hF349).gx 3 y hy))
              have hB352 := hO348.evo hw7 ((haT2 3).own)
              have hS7 := (hF349).tsApp hE346 (s := ⟨aT, nT, cT, obT⟩) hO7 hw7 hob7' hB352 hbT haT2 haoT2 hG279
              refine wl_val rfl (ex_assign rfl) ?_
              refine wl_nil (nrm_block (nrm_block (nrm_then ?_)))
              refine cw_region ?_
              refine wl_val rfl (ex_move rfl) ?_
              refine wl_val rfl (ex_add_i64 rfl rfl (by omega) (by omega)) ?_
              refine wl_val rfl (ex_assign rfl) ?_
              refine wl_nil (nrm_then ?_)
              refine ⟨(k + 1, (updF (updF (updF (updF f 2 ob8) (14 + 2 * g.MK) obB) 3 ob7) (15 + 2 * g.MT) obT), { { g with MK := g.MK + 1, K := fun i => if i = g.MK then ⟨aB, nB, cB, obB⟩ else g.K i, kb := fun i => if i = g.MK then bsT else g.kb i, ka := a8, kc := c8 } with MT := g.MT + 1, T := fun i => if i = g.MT then ⟨aT, nT, cT, obT⟩ else g.T i, tb := fun i => if i = g.MT then bsT else g.tb i, ta := a7, tc := c7 }), ?_, ⟨rfl, rfl, rfl, trivial⟩, ⟨rfl, rfl, rfl, trivial⟩, hE351, ?_⟩
              · (try dsimp only); omega
              · skip
                try dsimp only
                exact ⟨by omega, hS7, hG.push (by omega)⟩
        · skip
          refine cw_seq ?_
          refine cw_region ?_
          refine wl_val rfl (ex_eql rfl rfl) ?_
          refine wl_val rfl (ex_assign rfl) ?_
          refine wl_nil (nrm_then ?_)
          refine cw_if rfl (fun hc134 => ?_) (fun hc134 => ?_)
          · skip
            refine cw_seq ?_
            refine cw_region ?_
            refine wl_val rfl (ex_move rfl) ?_
            refine wl_val rfl (ex_gtr rfl rfl) ?_
            refine wl_nil (nrm_then ?_)
            refine cw_if rfl (fun hc137 => ?_) (fun hc137 => ?_)
            · skip
              refine cw_seq ?_
              refine cw_region ?_
              refine wl_val rfl (ex_move rfl) ?_
              refine wl_val rfl (ex_move rfl) ?_
              refine wl_call1 (vs := []) Tryd.goes21 rfl (new_ok) rfl ?_
              rintro _ w353 ⟨bN, oN, rfl, hpN, hw354, hgN, hoN⟩
              have hSN := (hF129).pkNew hE126 hq4 (by omega) hpN hw354 hgN hoN
              have hE355 := hE126.then hw354
              have hE356 := hE127.then hw354
              have hE357 := hE128.then hw354
              have hF358 := hF129.evo0 hw354
              have hB359 := hw354.blk0 hB124
              refine wl_val rfl (ex_indexAddr (n := (and3 ops[k].who)) rfl rfl Tryd.elem46 (by omega)) ?_
              obtain ⟨g5, cu5, hg5, ha5, hcu5, hcs5, -⟩ := (hSN).ps.at (by omega)
              cases ha5
              refine wl_store1L rfl rfl rfl Tryd.size44 hcu5 ((hSN).ps.inb hcs5 (k := (and3 ops[k].who)) (j := 0) (by omega) (by omega) (by omega)) fun w6 hb6 hw6 => ?_
              have hw6' := evo_ob hg5 hw6
              have hO6 := (hSN).ps.set' hg5 hcu5 hb6
              rw [show 0 + (and3 ops[k].who) * 1 = (and3 ops[k].who) by omega] at hO6
              have hS6 := (hSN).psSet (k := (and3 ops[k].who)) (v := .pointer (some ⟨bN, 0, none⟩)) hO6 hw6'
              have hE360 := hE355.step hw6 (fun y hy => .inr ((hSN).gx 0 y (by rw [hg5]; simpa using hy)))
              have hE361 := hE356.step hw6 (fun y hy => newX_in ((hSN).gx 0 y (by rw [hg5]; simpa using hy)))
              refine wl_nil (nrm_then ?_)
              refine cw_region ?_
              refine wl_val rfl (ex_move rfl) ?_
              refine wl_val rfl (ex_move rfl) ?_
              refine wl_val rfl (ex_indexAddr (n := (and3 ops[k].who)) rfl rfl Tryd.elem47 (by omega)) ?_
              obtain ⟨g5, cu5, hg5, ha5, hcu5, hcs5, -⟩ := (hS6).hs.at (by omega)
              cases ha5
              refine wl_store1L rfl rfl rfl Tryd.size22 hcu5 ((hS6).hs.inb hcs5 (k := (and3 ops[k].who)) (j := 0) (by omega) (by omega) (by omega)) fun w8 hb8 hw8 => ?_
              have hw8' := evo_ob hg5 hw8
              have hO8 := (hS6).hs.set' hg5 hcu5 hb8
              rw [show 0 + (and3 ops[k].who) * 1 = (and3 ops[k].who) by omega] at hO8
              have hS8 := (hS6).hsSet (k := (and3 ops[k].who)) (r := ⟨none, 0, 0, none⟩) hO8 hw8'
              have hE362 := hE360.step hw8 (fun y hy => .inr ((hS6).gx 1 y (by rw [hg5]; simpa using hy)))
              have hE363 := hE361.step hw8 (fun y hy => newX_in ((hS6).gx 1 y (by rw [hg5]; simpa using hy)))
              have hS7 := hS8.heldSet hE362 hq4 (r := ⟨none, 0, 0, none⟩) (l := []) (OwnS.nil _ _ _) rfl (Evo.refl _ _) (.inr (Ge.nil _))
              refine wl_nil (nrm_block (nrm_block (nrm_then ?_)))
              refine cw_region ?_
              refine wl_val rfl (ex_move rfl) ?_
              refine wl_val rfl (ex_add_i64 rfl rfl (by omega) (by omega)) ?_
              refine wl_val rfl (ex_assign rfl) ?_
              refine wl_nil (nrm_then ?_)
              refine ⟨(k + 1, (updF (updF (updF f (7 + (and3 ops[k].who)) (some bN)) (10 + (and3 ops[k].who)) oN) (4 + (and3 ops[k].who)) none), { g with bp := fun i => if i = (and3 ops[k].who) then bN else g.bp i, d := fun i => if i = (and3 ops[k].who) then [] else g.d i, pv := fun i => if i = (and3 ops[k].who) then .pointer (some ⟨bN, 0, none⟩) else g.pv i, hv := fun i => if i = (and3 ops[k].who) then ⟨none, 0, 0, none⟩ else g.hv i, H := fun i => if i = (and3 ops[k].who) then ⟨none, 0, 0, none⟩ else g.H i, h := fun i => if i = (and3 ops[k].who) then [] else g.h i }), ?_, ⟨rfl, rfl, rfl, trivial⟩, ⟨rfl, rfl, rfl, trivial⟩, hE363, ?_⟩
              · (try dsimp only); omega
              · skip
                try dsimp only
                exact ⟨by omega, hS7, hG.new hq4 (by omega)⟩
            · skip
              refine cw_skip (nrm_block (nrm_block (nrm_then ?_)))
              refine cw_region ?_
              refine wl_val rfl (ex_move rfl) ?_
              refine wl_val rfl (ex_add_i64 rfl rfl (by omega) (by omega)) ?_
              refine wl_val rfl (ex_assign rfl) ?_
              refine wl_nil (nrm_then ?_)
              refine ⟨(k + 1, f, g), ?_, ⟨rfl, rfl, rfl, trivial⟩, ⟨rfl, rfl, rfl, trivial⟩, hE127, ?_⟩
              · (try dsimp only); omega
              · skip
                try dsimp only
                exact ⟨by omega, hF129, hG⟩
          · skip
            refine cw_skip (nrm_block (nrm_block (nrm_then ?_)))
            refine cw_region ?_
            refine wl_val rfl (ex_move rfl) ?_
            refine wl_val rfl (ex_add_i64 rfl rfl (by omega) (by omega)) ?_
            refine wl_val rfl (ex_assign rfl) ?_
            refine wl_nil (nrm_then ?_)
            refine ⟨(k + 1, f, g), ?_, ⟨rfl, rfl, rfl, trivial⟩, ⟨rfl, rfl, rfl, trivial⟩, hE127, ?_⟩
            · (try dsimp only); omega
            · skip
              try dsimp only
              exact ⟨by omega, hF129, hG⟩
  · skip
    refine cw_exit (ex_then (ex_then (ex_here (nrm_then ?_))))
    refine cw_seq ?_
    refine cw_seq ?_
    refine cw_region ?_
    refine wl_val rfl (ex_assign rfl) ?_
    refine wl_nil (nrm_then ?_)
    refine cw_block ?_
    refine cw_loop (α := Nat) (0) (fun j => [(16, .int .i64 (j : Nat))]) [(6, _), (7, _)] (fun j wr => Evo [] wr108 wr ∧ (j ≤ g.MK)) (fun j => g.MK - j) ⟨rfl, trivial⟩ ⟨rfl, rfl, trivial⟩ ⟨Evo.refl _ _, Nat.zero_le _⟩ ?_
    rintro j wr364 ⟨hV365, hj⟩
    show CW _ _ _ _ [(16, _), (6, _), (7, _)] _
    have hE366 := hE110.then hV365
    have hE367 := hV109.then hV365
    have hF368 := hST.evo0 hV365
    refine cw_seq ?_
    refine cw_seq ?_
    refine cw_region ?_
    refine wl_val rfl (ex_move rfl) ?_
    refine wl_val rfl (ex_move rfl) ?_
    refine wl_val rfl (ex_len_slice rfl Tryd.underlying48 rfl) ?_
    refine wl_val rfl (ex_lss rfl rfl) ?_
    refine wl_nil (nrm_then ?_)
    refine cw_if rfl (fun hc148 => ?_) (fun hc148 => ?_)
    · skip
      have hj' : j < g.MK := by omega
      have hml := hG.ml
      refine cw_skip (nrm_then ?_)
      refine cw_seq ?_
      refine cw_block ?_
      refine cw_seq ?_
      have hmm := hG.m
      obtain ⟨gk, hgk, hak, hck⟩ := own_cell1 (hF368).ks (sv_get hj')
      obtain ⟨gt, hgt, hat, hct⟩ := own_cell1 (hF368).ts (sv_get (k := j) (S := g.T) (by omega))
      refine cw_any (fun w0 w' => Evo [] w0 w') (by kernel_rfl) (fun w369 hw370 => ?_)
      have hE371 := hE366.then hw370
      have hE372 := hE367.then hw370
      have hE373 := hV365.then hw370
      have hE374 := (Evo.refl [] wr364).then hw370
      have hF375 := hF368.evo0 hw370
      refine ae_take 0 rfl (by kernel_rfl) (by kernel_rfl) (by kernel_rfl) rfl (fun _ hS => ex_move rfl) (Evo.refl [] w369) ?_
      refine ae_take 1 rfl (by kernel_rfl) (by kernel_rfl) (by kernel_rfl) rfl (fun _ hS => ex_move rfl) (Evo.refl [] w369) ?_
      refine ae_take 2 rfl (by kernel_rfl) (by kernel_rfl) (by kernel_rfl) rfl (fun _ hS => ex_indexAddr (n := j) (by first | (rw [hak]; done) | (rw [hak]; rfl)) rfl Tryd.elem48 (by omega)) (Evo.refl [] w369) ?_
      refine ae_take 3 rfl (by kernel_rfl) (by kernel_rfl) (by kernel_rfl) rfl (fun _ hS => ex_load1 rfl Tryd.agg24 ((hE374.then hS).cell hck (by simp))) (Evo.refl [] w369) ?_
      refine ae_take 4 rfl (by kernel_rfl) (by kernel_rfl) (by kernel_rfl) rfl (fun _ hS => ex_move rfl) (Evo.refl [] w369) ?_
      refine ae_take 5 rfl (by kernel_rfl) (by kernel_rfl) (by kernel_rfl) rfl (fun _ hS => ex_move rfl) (Evo.refl [] w369) ?_
      refine ae_take 6 rfl (by kernel_rfl) (by kernel_rfl) (by kernel_rfl) rfl (fun _ hS => ex_indexAddr (n := j) (by first | (rw [hat]; done) | (rw [hat]; rfl)) rfl Tryd.elem48 (by omega)) (Evo.refl [] w369) ?_
      refine ae_take 7 rfl (by kernel_rfl) (by kernel_rfl) (by kernel_rfl) rfl (fun _ hS => ex_load1 rfl Tryd.agg24 ((hE374.then hS).cell hct (by simp))) (Evo.refl [] w369) ?_
      refine ae_loud [8] (by kernel_rfl) rfl ⟨?_, trivial⟩
      refine a_step rfl ?_
      refine wl_call1 (vs := [_, _]) Tryd.goes14 rfl (same_ok (rbs (X := []) ((hF375).kept j hj').1 ((hF375).kept j hj').2.1 (fun _ _ => by simp)) (rbs (X := []) ((hF375).told j (by omega)).1 ((hF375).told j (by omega)).2 (fun _ _ => by simp))) rfl ?_
      rintro _ w376 ⟨rfl, hw377⟩
      have hE378 := hE371.then hw377
      have hE379 := hE372.then hw377
      have hE380 := hE373.then hw377
      have hE381 := hE374.then hw377
      have hE382 := (Evo.refl [] w369).then hw377
      have hF383 := hF375.evo0 hw377
      refine wl_nil (ae_next (.inl hE382) ?_)
      refine ae_take 9 rfl (by kernel_rfl) (by kernel_rfl) (by kernel_rfl) rfl (fun _ hS => ex_not rfl) hE382 ?_
      refine ae_done (by kernel_rfl) (nrm_then ?_)
      refine cw_if rfl (fun hc160 => ?_) (fun hc160 => ?_)
      · skip
        exact absurd (hG.b j hj') hc160
      · skip
        refine cw_skip (nrm_block (nrm_then ?_))
        refine cw_region ?_
        refine wl_val rfl (ex_move rfl) ?_
        refine wl_val rfl (ex_add_i64 rfl rfl (by omega) (by omega)) ?_
        refine wl_val rfl (ex_assign rfl) ?_
        refine wl_nil (nrm_then ?_)
        refine ⟨j + 1, ?_, ⟨rfl, trivial⟩, ⟨rfl, rfl, trivial⟩, hE380, ?_⟩
        · omega
        · skip
          exact (by omega)
    · skip
      refine cw_exit (ex_then (ex_then (ex_here (nrm_then ?_))))
      refine cw_seq ?_
      refine cw_region ?_
      refine wl_val rfl (ex_move rfl) ?_
      refine wl_call1 (vs := [_]) Tryd.goes25 rfl (apart_ok (N := g.MK) (S := kS f g) (obl := f 2) (hF368).ks (hF368).famK (fun i hi => (hF368).own.dis 2 (14 + 2 * i) (by omega)) (fun i hi => ((hF368).kept i hi).2.2) (by have := hG.ml; omega)) rfl ?_
      rintro _ w384 ⟨rfl, hw385⟩
      have hE386 := hE366.step hw385 (fobs_ge (fun i hi => (hF368).own.ge (14 + 2 * i)))
      refine wl_val rfl (ex_assign rfl) ?_
      refine wl_nil (nrm_then ?_)
      refine cw_ret (body_ret1 rfl rfl ?_)
      exact ⟨rfl, hE386⟩

set_option maxRecDepth 100000 in
theorem contract (H : Type) (enc : TypeId × Value → H) (W : World) (base : Nat) (args : Array Value) (ds gs : List (DataW H)) (before : List MemPlace)
    (hval : ∀ (j : Nat) t v, Tryd.f6.params[j]? = some t → args[j]? = some v → Value.okWide Tryd.prog W .any base t v)
    (hW : DataW.Whole enc Tryd.prog Tryd.f6.params.toList Rows.chunkStepsSpec.vars false W args.toList ds gs before)
    (hsz : (DataW.weightsEach Tryd.prog (Tryd.f6.params.toList ++ Rows.chunkStepsSpec.plain.varTypes Tryd.prog) (ds ++ gs)).all (· ≤ reachBytes) = true) (hL : laidMetH Tryd.prog laidL W) :
    Calls Tryd.prog 6 args W fun e W' => ∃ v, e = .returned v ∧ Rows.chunkStepsSpec.post enc Tryd.prog Tryd.f6 false true false false W args v W' := by
  have hW' := hW
  obtain ⟨p, q, hA0, hV, rfl, hfz, hnd⟩ := hW
  have hA : DataW.TrodAll enc Tryd.prog W 0 (fun _ => true) true Tryd.f6.params.toList args.toList ds p := hA0
  rw [Tryd.params6] at hA hval hsz
  obtain ⟨v0, vs0, d0, ds0, p0, q0, hargs0, rfl, rfl, h0, r0⟩ := trodAll_cons hA
  obtain ⟨hn1, rfl, rfl⟩ := trodAll_nil r0
  subst hn1
  obtain rfl : args = #[v0] := by cases args; simp_all
  obtain ⟨rfl, rfl⟩ := trodVars_none hV
  have k0 := h0
  obtain ⟨l0, hs0, hb0⟩ := came Tryd.underlying43 opens43 (hval 0 43 _ rfl rfl) h0 (fun n hn => by have := List.all_eq_true.1 hsz n (DataW.weights_mem_each (j := 0) rfl rfl n hn); simpa using this)
  have hT : Tab W := table hL
  refine (walk_ok hs0 hb0 hT).mono fun e W' ⟨v, he, hv, bel⟩ => ?_
  subst he hv
  exact ⟨_, rfl, _, _, _, [], _, [], hW', trodAll_mk1 (shut_bool Tryd.underlying4 _), (trodAll_cons_mk (Below.trod laidOut (by kernel_rfl) (of_decide_eq_true (by kernel_rfl)) k0 bel.below (trod_lt k0)) trodAll_mk0), rfl, bel.below.frame _, fun h => by cases h⟩
theorem laid_met (os : Os) : laidMet Tryd.prog laidL ((laidWorld os #[]).forCall (fun _ _ => 0) ⟨#[], #[.slice none 0 0], []⟩).memory :=
  laidMet_of_run' 8 (by kernel_rfl) (by kernel_rfl)
theorem reads (os : Os) {H : Type} (enc : TypeId × Value → H) : ∃ places, DataW.whole enc Tryd.prog ((laidWorld os #[]).forCall (fun _ _ => 0) ⟨#[], #[.slice none 0 0], []⟩).memory Tryd.f6.params.toList Rows.chunkStepsSpec.vars false (#[.slice none 0 0] : Array Value).toList 8 = some ([.nil], [], places) :=
  ⟨[], by kernel_rfl⟩
set_option maxRecDepth 100000 in
theorem lifted (os : Os) (started : os.Started) (H : Type) (enc : TypeId × Value → H) (F : Stop.Interp) :
    ReturnsInHanded {} Tryd.checked os 6 .any ((OpenSpec.ofChange Rows.chunkStepsSpec).preRow enc Tryd.prog Tryd.f6 Rows.chunkStepsRow.domain false Rows.chunkStepsRow.laid) (((OpenSpec.ofChange Rows.chunkStepsSpec).at F).post enc Tryd.prog Tryd.f6 false true false false) := by
  obtain ⟨places, hx⟩ := reads os enc
  refine returnsInHanded_of_row (C := Tryd.checked) (s := OpenSpec.ofChange Rows.chunkStepsSpec) own started (by kernel_rfl) Tryd.func6
    (witness_row_at (enc := enc) (C := Tryd.checked) false (laidWorld os #[]) #[.slice none 0 0] rfl (by kernel_rfl) (by kernel_rfl) (by kernel_rfl)
      (OpenSpec.preRow_of_cond 8 hx (by kernel_rfl) (fun k hk => by cases hk) (by kernel_rfl) (laid_met os))) ?_
  intro W base args ds gs before hval hW _ _ hsz hL _ _
  exact contract H enc W base args ds gs before hval hW hsz hL
theorem said : Rows.ChunkStepsSaid :=
  OpenClaim.holds_of_cond 6 Tryd.f6 rfl rfl rfl rfl rfl rfl rfl ⟨rfl, rfl, rfl, rfl, rfl⟩ rfl rfl rfl rfl rfl (by kernel_rfl) Tryd.func6 (by kernel_rfl)
    (of_decide_eq_true (by kernel_rfl)) (by unfold Func.isWrapper; first | (rw [if_pos (by decide +kernel)]; kernel_rfl) | (rw [if_neg (by decide +kernel)]; exact ⟨rfl, rfl⟩))
    (fun os started H enc _ F => by rw [OpenClaim.pre_eq_preRow]; exact lifted os started H enc F)
theorem plain (f : FuncId) (fn : Func) (hf : Tryd.pinned.checked.prog.funcNamed "weir/weirlaw17.ChunkSteps" = some f) (hfn : Tryd.pinned.checked.prog.funcs[f]? = some fn) :
    false = Tryd.pinned.checked.prog.looks [] ∧ ∀ (j : Nat) t, fn.params[j]? = some t → Tryd.pinned.checked.prog.wantsStandIn t = false := by
  obtain rfl : f = 6 := Option.some.inj ((show Tryd.prog.funcNamed "weir/weirlaw17.ChunkSteps" = some 6 by kernel_rfl).symm.trans hf) |>.symm
  obtain rfl : fn = Tryd.f6 := (Option.some.inj (Tryd.func6.symm.trans hfn)).symm
  refine ⟨looks_off, fun j t ht => ?_⟩
  rw [Tryd.params6] at ht
  rcases j with _ | j
  · obtain rfl : t = 43 := by simpa using ht.symm
    exact (show Tryd.prog.wantsStandIn 43 = false by kernel_rfl)
  · simp at ht

theorem chunkSteps_card : Rows.ChunkStepsCardSaid :=
  Claim7.holds_tied_plain_at .later [] _ _ _ _ said (fun _ h => by cases h) (by kernel_rfl) (fun _ h => by cases h) chunkSteps_row_tie rfl ⟨rfl, rfl⟩ (by kernel_rfl) rfl plain (by kernel_rfl)
#print axioms chunkSteps_card

end Go.Proofs.YtclmkppiolfgbaaDoor
