/- The reference's sheet: from. -/
import Derived.Test.YtgboffefbpligaaTt
namespace Go.Proofs.Ytgboffefbpligaa
open Go.Proofs
open Go.W Go.RowKit
attribute [local irreducible] Decidable.decide
set_option linter.unusedSimpArgs false
set_option linter.unusedVariables false
theorem Try.agg65 : aggB Try.prog 65 = some false := by kernel_rfl
theorem Try.agg87 : aggB Try.prog 87 = some false := by kernel_rfl
theorem Try.elem87 : elemB Try.prog 87 = some 1 := by kernel_rfl
theorem Try.fld89_2 : fieldB Try.prog 89 2 = some 10 := by kernel_rfl
theorem Try.goes43 : Goes Try.prog 43 := ⟨_, Try.func43, by kernel_rfl, by kernel_rfl⟩
theorem Try.size65 : sizeB Try.prog 65 = some 1 := by kernel_rfl


theorem Sh2.hbn {H : Sheet} {w : World} {E : List Nat} (h : Sh2 H w E) : H.hb ∉ SB H.nds := fun hm => (h.clr _ (List.mem_append_left _ hm)).1 rfl
theorem Sh2.obn {H : Sheet} {w : World} {E : List Nat} (h : Sh2 H w E) {g : Nat} (hg : H.ob = some g) : g ∉ SB H.nds := fun hm => (h.clr _ (List.mem_append_left _ hm)).2.1 g hg rfl
theorem NewBl.some {w w' : World} {n : Nat} {f : Nat → Prop} {v : Value} (h : NewBl w w' n f v) (h0 : 0 < n) : ∃ a n c, v = .slice (some a) n c := by
  obtain ⟨a, c, o, rfl, h1, h2⟩ := h
  obtain ⟨g, -, rfl, -⟩ := h1.cells h0
  exact ⟨_, _, _, rfl⟩

theorem from_of {H : Sheet} {id : Nat} {x : Rx} (hid : id < H.nds.length) (hx : H.nds[id].x = x) (hR : RckSpec Try.prog H id x) : FromSpec Try.prog H id x := by
  intro w E i hH hi
  subst hx
  have hsml := hH.small
  obtain ⟨gN, hgN, haN, hcN⟩ := hH.node hid
  have h9 := hH.nine _ (List.getElem_mem hid)
  obtain ⟨vals, hV, hvals⟩ := hH.notes _ (List.getElem_mem hid)
  obtain ⟨v0, hv0, hN0⟩ := hvals i hi
  have hsl : ∃ va vn vc, v0 = .slice va vn vc := by rcases hN0 with rfl | ⟨⟨a, n, c, rfl⟩, -⟩ <;> exact ⟨_, _, _, rfl⟩
  obtain ⟨va, vn, vc, rfl⟩ := hsl
  have hAJS : Apart (some H.hb) (some H.nds[id].sb) := fun g h1 h2 => by cases h1; exact hH.hbn (List.mem_map.2 ⟨_, List.getElem_mem hid, by simpa using h2⟩)
  refine calls_of_cw (N := 44) Try.func25 rfl rfl rfl ?_
  refine cw_seq ?_
  refine cw_region ?_
  refine wl_a ?_
  refine wl_nil (nrm_then ?_)
  refine cw_seq ?_
  refine cw_seq ?_
  refine cw_region ?_
  refine wl_m ?_
  refine wl_val rfl (ex_nilCheck rfl) ?_
  refine wl_val rfl (ex_fieldAddr rfl Try.fld64_0) ?_
  refine wl_val rfl (ex_load1 rfl Try.agg62 (cell_nth hH.blk rfl)) ?_
  refine wl_m ?_
  refine wl_val rfl (ex_indexAddrA (n := id) rfl rfl haN Try.elem62 hid) ?_
  refine wl_val rfl (ex_fieldAddr rfl Try.fld89_2) ?_
  refine wl_val rfl (ex_load1 rfl Try.agg87 (((Evo.refl (SB H.nds) w)).cell (hcN 10 _ (nd_seen h9)) (hH.obn hgN))) ?_
  refine wl_m ?_
  refine wl_val rfl (ex_indexAddr (n := i) rfl rfl Try.elem87 (by omega)) ?_
  refine wl_val rfl (ex_load1 rfl Try.agg65 (OwnS.get1 hV hv0)) ?_
  refine wl_val rfl (ex_eqSl rfl rfl Try.underlying65) ?_
  refine wl_nil (nrm_then ?_)
  refine cw_ifb rfl (fun hc18 => ?_) (fun hc18 => ?_)
  ·skip
   have hiN : i < H.rs.length + 1 := by omega
   refine cw_any (fun w0 w' => Evo (SB H.nds) w0 w') (by kernel_rfl) (fun w1 hw2 => ?_)
   have hE3 := (Evo.refl (SB H.nds) w).then hw2
   have hE4 := (Evo.refl [] w).then hw2
   have hB5 := hw2.blk0 hH.blk
   refine ae_take 0 rfl (by kernel_rfl) (by kernel_rfl) (by kernel_rfl) rfl (fun _ hS => ex_move rfl) (Evo.refl (SB H.nds) w1) ?_
   refine ae_take 1 rfl (by kernel_rfl) (by kernel_rfl) (by kernel_rfl) rfl (fun _ hS => ex_nilCheck rfl) (Evo.refl (SB H.nds) w1) ?_
   refine ae_take 2 rfl (by kernel_rfl) (by kernel_rfl) (by kernel_rfl) rfl (fun _ hS => ex_fieldAddr rfl Try.fld64_0) (Evo.refl (SB H.nds) w1) ?_
   refine ae_take 3 rfl (by kernel_rfl) (by kernel_rfl) (by kernel_rfl) rfl (fun _ hS => ex_load1 rfl Try.agg62 (cell_nth (hS.blk hB5 (hH.hbn)) rfl)) (Evo.refl (SB H.nds) w1) ?_
   refine ae_take 4 rfl (by kernel_rfl) (by kernel_rfl) (by kernel_rfl) rfl (fun _ hS => ex_move rfl) (Evo.refl (SB H.nds) w1) ?_
   refine ae_take 5 rfl (by kernel_rfl) (by kernel_rfl) (by kernel_rfl) rfl (fun _ hS => ex_indexAddrA (n := id) rfl rfl haN Try.elem62 hid) (Evo.refl (SB H.nds) w1) ?_
   refine ae_take 6 rfl (by kernel_rfl) (by kernel_rfl) (by kernel_rfl) rfl (fun _ hS => ex_fieldAddr rfl Try.fld89_2) (Evo.refl (SB H.nds) w1) ?_
   refine ae_take 7 rfl (by kernel_rfl) (by kernel_rfl) (by kernel_rfl) rfl (fun _ hS => ex_load1 rfl Try.agg87 (((hE3.step hS (fun y hy => .inl hy))).cell (hcN 10 _ (nd_seen h9)) (hH.obn hgN))) (Evo.refl (SB H.nds) w1) ?_
   refine ae_take 8 rfl (by kernel_rfl) (by kernel_rfl) (by kernel_rfl) rfl (fun _ hS => ex_move rfl) (Evo.refl (SB H.nds) w1) ?_
   refine ae_take 9 rfl (by kernel_rfl) (by kernel_rfl) (by kernel_rfl) rfl (fun _ hS => ex_move rfl) (Evo.refl (SB H.nds) w1) ?_
   refine ae_take 10 rfl (by kernel_rfl) (by kernel_rfl) (by kernel_rfl) rfl (fun _ hS => ex_move rfl) (Evo.refl (SB H.nds) w1) ?_
   refine ae_take 11 rfl (by kernel_rfl) (by kernel_rfl) (by kernel_rfl) rfl (fun _ hS => ex_move rfl) (Evo.refl (SB H.nds) w1) ?_
   refine ae_loud [12] (by kernel_rfl) rfl ⟨?_, trivial⟩
   refine a_step rfl ?_
   refine wl_call1 (vs := [_, _, _]) Try.goes43 rfl (hR (hH.evo0 hE4) hi) rfl ?_
   rintro rv w6 ⟨hw7, hS2, hnew⟩
   have hSx := hH.evo0 hE4
   have hE8 := hE3.step hw7 (fun y hy => .inl hy)
   have hE9 := (Evo.refl (SB H.nds) w1).step hw7 (fun y hy => .inl hy)
   have hB10 := hw7.blk hB5 (hH.hbn)
   have hnew' := hnew
   have hrsl := hnew.rsl (X := SB H.nds ++ E) hSx.sblt
   obtain ⟨ra2, rc2, ro2, rfl, hro2, hrg2⟩ := hnew
   refine wl_nil (ae_next (.inl hE9) ?_)
   refine ae_take 13 rfl (by kernel_rfl) (by kernel_rfl) (by kernel_rfl) rfl (fun _ hS => ex_indexAddrA (n := i) rfl rfl rfl Try.elem87 hiN) hE9 ?_
   refine ae_loud [14] (by kernel_rfl) rfl ⟨?_, trivial⟩
   refine a_step rfl ?_
   obtain ⟨vals2, hV2, hvals2⟩ := hS2.notes _ (List.getElem_mem hid)
   obtain ⟨v2, hv2, -⟩ := hvals2 i hi
   obtain ⟨g20, cur11, hg12, hx13, hcu14, hcs15, -⟩ := hV2.at (by omega)
   cases hx13
   refine wl_store1L rfl rfl (rfl) Try.size65 hcu14 (hV2.inb hcs15 (k := i) (j := 0) (by omega) (by omega) (by omega)) fun w16 hB17 hw18 => ?_
   replace hw18 := evo_ob hg12 hw18
   have hO19 := hV2.set' hg12 hcu14 hB17
   have hE21 := hE8.step hw18 (fun y hy => .inl (by have e : y = H.nds[id].sb := (by simpa using hy); rw [e]; exact List.mem_map.2 ⟨_, List.getElem_mem hid, rfl⟩))
   have hE22 := hE9.step hw18 (fun y hy => .inl (by have e : y = H.nds[id].sb := (by simpa using hy); rw [e]; exact List.mem_map.2 ⟨_, List.getElem_mem hid, rfl⟩))
   have hB23 := hw18.blk hB10 hAJS.nmem
   rw [show 0 + i * 1 = i from by omega] at hO19
   have hO9 := hO19
   have hE9 := hw18
   have hS3 := hS2.note (List.getElem_mem hid) hE9 hi hV2 hO9 (.inr ⟨NewBl.some hnew' (by omega), hrsl⟩)
   refine wl_nil (ae_next (.inl hE22) ?_)
   refine ae_done (by kernel_rfl) (nrm_then ?_)
   refine cw_seq ?_
   refine cw_region ?_
   refine wl_m ?_
   refine wl_val rfl (ex_nilCheck rfl) ?_
   refine wl_val rfl (ex_fieldAddr rfl Try.fld64_0) ?_
   refine wl_val rfl (ex_load1 rfl Try.agg62 (cell_nth hB23 rfl)) ?_
   refine wl_m ?_
   refine wl_val rfl (ex_indexAddrA (n := id) rfl rfl haN Try.elem62 hid) ?_
   refine wl_val rfl (ex_fieldAddr rfl Try.fld89_2) ?_
   refine wl_val rfl (ex_load1 rfl Try.agg87 ((hE21).cell (hcN 10 _ (nd_seen h9)) (hH.obn hgN))) ?_
   refine wl_m ?_
   refine wl_val rfl (ex_indexAddr (n := i) rfl rfl Try.elem87 (by omega)) ?_
   refine wl_val rfl (ex_load1 rfl Try.agg65 (OwnS.get1 hO9 (by rw [List.getElem?_set, if_pos rfl, if_pos (List.getElem?_eq_some_iff.1 hv2).1]))) ?_
   refine wl_a ?_
   refine wl_nil (nrm_then ?_)
   refine cw_ret (body_ret1 rfl rfl ?_)
   exact ⟨hE21, hS3, rb_step hrsl (hE9.mono (fun b hb => List.mem_append_left _ (by rw [List.mem_singleton.1 hb]; exact List.mem_map.2 ⟨_, List.getElem_mem hid, rfl⟩))) (fun y hy => .inl hy)⟩
  ·skip
   refine cw_skip (nrm_then ?_)
   refine cw_seq ?_
   refine cw_region ?_
   refine wl_m ?_
   refine wl_val rfl (ex_nilCheck rfl) ?_
   refine wl_val rfl (ex_fieldAddr rfl Try.fld64_0) ?_
   refine wl_val rfl (ex_load1 rfl Try.agg62 (cell_nth hH.blk rfl)) ?_
   refine wl_m ?_
   refine wl_val rfl (ex_indexAddrA (n := id) rfl rfl haN Try.elem62 hid) ?_
   refine wl_val rfl (ex_fieldAddr rfl Try.fld89_2) ?_
   refine wl_val rfl (ex_load1 rfl Try.agg87 (((Evo.refl (SB H.nds) w)).cell (hcN 10 _ (nd_seen h9)) (hH.obn hgN))) ?_
   refine wl_m ?_
   refine wl_val rfl (ex_indexAddr (n := i) rfl rfl Try.elem87 (by omega)) ?_
   refine wl_val rfl (ex_load1 rfl Try.agg65 (OwnS.get1 hV hv0)) ?_
   refine wl_a ?_
   refine wl_nil (nrm_then ?_)
   refine cw_ret (body_ret1 rfl rfl ?_)
   refine ⟨(Evo.refl (SB H.nds) w), hH, ?_⟩
   rcases hN0 with h | ⟨-, h⟩
   · cases h; cases hc18
   · exact h

end Go.Proofs.Ytgboffefbpligaa
