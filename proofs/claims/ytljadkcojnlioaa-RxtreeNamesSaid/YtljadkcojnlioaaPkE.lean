/- Names: part 5 of 6 of what the law rests on. -/
import Derived.Test.YtljadkcojnlioaaPkD
namespace Go.Proofs.Ytljadkcojnlioaa
open Go.Proofs
open Go.W Go.RowKit
attribute [local irreducible] Decidable.decide
set_option linter.unusedSimpArgs false
set_option linter.unusedVariables false
theorem Try.fld41_3 : fieldB Try.prog 41 3 = some 6 := by kernel_rfl
theorem Try.goes32 : Goes Try.prog 32 := ⟨_, Try.func32, by kernel_rfl, by kernel_rfl⟩
theorem Try.goes33 : Goes Try.prog 33 := ⟨_, Try.func33, by kernel_rfl, by kernel_rfl⟩
theorem Try.goes9 : Goes Try.prog 9 := ⟨_, Try.func9, by kernel_rfl, by kernel_rfl⟩
theorem Try.zero38 : zeroB Try.prog 38 = some #[.bool false, .bool false, .bool false, .bool false] := by kernel_rfl
structure BrG where
  b3 : Nat
  b4 : Nat
structure BrI (w wr : World) (b : Nat) (s : ByteArray) (st : PS) (a : Option Addr) (c : Nat) (ob : Option Nat) (x : BrG) : Prop where
  hr : RdAt wr b s st a c ob
  h3 : wr.heap[x.b3]? = some (.cells (opV (pOpen s st.pos st.now)) 68 (0, 0))
  h4 : wr.heap[x.b4]? = some (.cells #[.bool st.now.fold, .bool st.now.lines, .bool st.now.dots, .bool st.now.lazy] 38 (0, 0))
  g3 : Ge w (some x.b3)
  g4 : Ge w (some x.b4)
  a34 : Apart (some x.b3) (some x.b4)
theorem opv_flags {w : World} {b : Nat} {o : Opn} {T : TypeId} {z : Nat × Nat} (h : w.heap[b]? = some (.cells (opV o) T z)) : ∀ j v, ([.bool o.thn.fold, .bool o.thn.lines, .bool o.thn.dots, .bool o.thn.lazy] : List Value)[j]? = some v → w.cell? ⟨b, 2 + j, none⟩ = some v
  | 0, v, e => by cases e; exact cell_blk h rfl
  | 1, v, e => by cases e; exact cell_blk h rfl
  | 2, v, e => by cases e; exact cell_blk h rfl
  | 3, v, e => by cases e; exact cell_blk h rfl
  | j + 4, v, e => by cases e
section
variable {s : ByteArray} {ex : PS → PX Rx} {st : PS} {o : Opn} {e : Int} {x : Rx} {st2 : PS}
theorem br_set (ho : pOpen s st.pos st.now = o) (h : o.err = 0) (h2 : o.sett = true) : pBrk s ex st = .ok ([], { st with pos := st.pos + o.size, now := o.thn }) := by unfold pBrk; rw [ho]; exact if_pos ⟨h, h2⟩
theorem br_deep (ho : pOpen s st.pos st.now = o) (h : ¬ (o.err = 0 ∧ o.sett = true)) (h2 : st.opn = 250) : pBrk s ex st = .error 3 := by unfold pBrk; rw [ho]; exact (if_neg h).trans (if_pos h2)
theorem br_err (ho : pOpen s st.pos st.now = o) (h : ¬ (o.err = 0 ∧ o.sett = true)) (h2 : ¬ st.opn = 250) (h3 : o.err ≠ 0) : pBrk s ex st = .error o.err := by unfold pBrk; rw [ho]; exact (if_neg h).trans ((if_neg h2).trans (if_pos h3))
theorem br_full (ho : pOpen s st.pos st.now = o) (h : ¬ (o.err = 0 ∧ o.sett = true)) (h2 : ¬ st.opn = 250) (h3 : ¬ o.err ≠ 0) (h4 : o.capt = true) (h5 : Full o.name st.names) : pBrk s ex st = .error 85 := by unfold pBrk; rw [ho]; exact (if_neg h).trans ((if_neg h2).trans ((if_neg h3).trans (if_pos ⟨h4, h5⟩)))
theorem br_go (ho : pOpen s st.pos st.now = o) (h : ¬ (o.err = 0 ∧ o.sett = true)) (h2 : ¬ st.opn = 250) (h3 : ¬ o.err ≠ 0) (h4 : ¬ (o.capt = true ∧ Full o.name st.names)) : pBrk s ex st = match ex ⟨st.pos + o.size, o.thn, st.opn + 1, if o.capt = true then st.names ++ [o.name] else st.names⟩ with
    | .error e => .error e
    | .ok (x, st2) => if isB s st2.pos 41 then
        .ok ([if o.capt = true then rxGrp ((st.names.length : Int) + 1) o.name x else x], { st2 with pos := st2.pos + 1, opn := st2.opn - 1, now := st.now })
      else .error 80 := by unfold pBrk; rw [ho]; exact (if_neg h).trans ((if_neg h2).trans ((if_neg h3).trans (if_neg h4)))
end
theorem ot_grp {X : List Nat} {w w1 w2 : World} {x : Rx} {vs : List Value} {bs : List Nat} {g : Nat} {n : Int} {nm : ByteArray} (hO : OwnS w2 25 9 (some ⟨g, 0, none⟩) 1 1 vs (some g)) (hT : OT x w1 vs bs) (hF : Fr w bs) (hg : w1.heap.size ≤ g) (he : Evo X w1 w2) (hx : ∀ b, b ∈ bs → b ∉ X) (hw : w.heap.size ≤ w1.heap.size) (hn : nm.size ≤ 1000000) :
    OT (rxGrp n nm x) w2 [iv 7, .int .i32 0, .slice none 0 0, iv 0, iv 0, .bool false, iv n, .string nm, .slice (some ⟨g, 0, none⟩) 1 1] (g :: bs) ∧ Fr w (g :: bs) := by
  refine ⟨?_, ⟨List.nodup_cons.2 ⟨fun h => ?_, hF.nd⟩, fun b hb => ?_⟩⟩
  · unfold rxGrp
    rw [OT]
    exact ⟨none, 0, none, _, 1, some g, vs, bs, rfl, OwnS.nil _ _ _, hO, OTs.single (hT.evo he hx), rfl, by simp, hn, by simp⟩
  · have := hT.lt g h; omega
  · rcases List.mem_cons.1 hb with rfl | hb
    · omega
    · exact hF.ge b hb
theorem nm_2 {q b : Nat} {o : Option Nat} (h1 : Apart (some q) (some b)) (h2 : Apart (some q) o) : q ∉ b :: o.toList := fun h => by
  rcases List.mem_cons.1 h with rfl | h
  · exact h1 q rfl rfl
  · exact h2 q rfl (Option.mem_toList.1 h)
theorem glb_lt {w : World} (h : Glb w) : Lt w (some GMax) := fun g e => by
  cases e
  obtain ⟨m, hm⟩ := h
  rcases Nat.lt_or_ge GMax w.heap.size with h1 | h1
  · exact h1
  · have h2 : w.heap[GMax]? = none := Array.getElem?_eq_none h1
    simp [World.cell?, h2] at hm
theorem gm_nm {b : Nat} {o : Option Nat} (h1 : GMax ∉ [b]) (h2 : Apart (some GMax) o) : GMax ∉ b :: o.toList := fun h => by
  rcases List.mem_cons.1 h with e | h
  · exact h1 (by rw [e]; simp)
  · exact h2 _ rfl (Option.mem_toList.1 h)
theorem fr_b {w w1 : World} {b : Nat} {bs : List Nat} (h : Fr w1 bs) (hb : Lt w (some b)) (hw : w.heap.size ≤ w1.heap.size) : ∀ q, q ∈ bs → q ∉ [b] := fun q hq hm => by
  have h1 := h.ge q hq
  have h2 := hb b rfl
  rw [List.mem_singleton.1 hm] at h1; omega
theorem bracket_ok {ex : PS → PX Rx} {w : World} {b : Nat} {s : ByteArray} {st : PS} {a : Option Addr} {c : Nat} {ob : Option Nat} (hex : st.opn < 250 → ExHyp b s ex (st.opn + 1)) (hR : RdAt w b s st a c ob) (hs : s.size ≤ 4096) (h40 : isB s st.pos 40) (hop : st.opn ≤ 250) (hb : Bd s st.pos) (hnl : st.names.length ≤ 100) (hG : Glb w) (hGo : Apart (some GMax) ob) :
    Calls Try.prog 23 #[.pointer (some ⟨b, 0, none⟩)] w (RetP (PcPost b s (pBrk s ex) st ob w) (ExPan b (pBrk s ex) st ob w)) := by
  have hap := hR.ap; have hgb : GMax ∉ [b] := fun h => hR.glb hG (List.mem_singleton.1 h).symm; have hgw := gm_nm hgb hGo; have hbw : Lt w (some b) := Lt.blk hR.blk; have how : Lt w ob := Lt.own hR.own; refine calls_of_cw (N := 100) Try.func23 rfl rfl rfl ?_; refine cw_seq ?_; refine cw_region ?_; refine wl_a ?_; refine wl_nil (nrm_then ?_); refine cw_seq ?_; refine cw_cut (α := BrG) (fun x => [(3, .pointer (some ⟨x.b3, 0, none⟩)), (4, .pointer (some ⟨x.b4, 0, none⟩))]) [(0, _), (2, _)] (fun x wr => Evo (b :: ob.toList) w wr ∧ (BrI w wr b s st a c ob x)) ⟨rfl, rfl, trivial⟩ ?_ ?_
  ·skip
   refine cw_any (fun w0 w' => Evo [] w0 w') (by kernel_rfl) (fun w1 hw2 => ?_); have hE3 := (Evo.refl (b :: ob.toList) w).then hw2; have hB4 := hw2.blk0 hR.blk; have hO5 := hR.own.evo0 hw2; refine ae_take 0 rfl (by kernel_rfl) (by kernel_rfl) (by kernel_rfl) rfl (fun _ hS => ex_move rfl) (Evo.refl [] w1) ?_; refine ae_take 2 rfl (by kernel_rfl) (by kernel_rfl) (by kernel_rfl) rfl (fun _ hS => ex_move rfl) (Evo.refl [] w1) ?_; refine ae_take 3 rfl (by kernel_rfl) (by kernel_rfl) (by kernel_rfl) rfl (fun _ hS => ex_nilCheck rfl) (Evo.refl [] w1) ?_; refine ae_take 4 rfl (by kernel_rfl) (by kernel_rfl) (by kernel_rfl) rfl (fun _ hS => ex_fieldAddr rfl Try.fld41_2) (Evo.refl [] w1) ?_; refine ae_take 5 rfl (by kernel_rfl) (by kernel_rfl) (by kernel_rfl) rfl (fun _ hS => ex_loadA (o := 2) rfl Try.agg38 Try.size38 (vs := [.bool st.now.fold, .bool st.now.lines, .bool st.now.dots, .bool st.now.lazy]) rfl (flag_cells (hS.blk0 hB4))) (Evo.refl [] w1) ?_; refine ae_loud [1, 6, 7] (by kernel_rfl) rfl ⟨?_, ?_, ?_, trivial⟩
   ·skip
    refine a_step rfl ?_; refine wl_call1 (vs := [_]) Try.goes32 rfl (opening_ok ⟨hB4, hO5, hR.ne⟩ (by omega) h40.1) rfl ?_; rintro _ w6 ⟨rfl, hw7⟩; have hE8 := hE3.then hw7; have hE9 := (Evo.refl [] w1).then hw7; have hB10 := hw7.blk0 hB4; have hO11 := hO5.evo0 hw7; refine wl_nil (ae_next (.inl hE9) ?_); refine ae_loud [6, 7] (by kernel_rfl) rfl ⟨?_, ?_, trivial⟩
    ·skip
     refine a_step rfl ?_; refine wl_alloc rfl Try.zero68 fun b3 w12 hB13 hs14 hw15 => ?_; have hsz_b3 := hs14; have hA16 := Apart.new (Lt.blk hB10) hs14; have hA17 := Apart.new (Lt.own hO11) hs14; have hG18 := Ge.new hE8 hs14; have hG19 := Ge.new hE9 hs14; have hE20 := hE8.then hw15; have hE21 := hE9.then hw15; have hB22 := hw15.blk0 hB10; have hO23 := hO11.evo0 hw15; refine wl_nil (ae_next (.inl hE21) ?_); refine ae_loud [7] (by kernel_rfl) rfl ⟨?_, trivial⟩; refine a_step rfl ?_; refine wl_alloc rfl Try.zero38 fun b4 w24 hB25 hs26 hw27 => ?_; have hsz_b4 := hs26; have hA28 := Apart.new (Lt.blk hB22) hs26; have hA29 := Apart.new (Lt.own hO23) hs26; have hA30 := Apart.new (Lt.blk hB13) hs26; have hG31 := Ge.new hE20 hs26; have hG32 := Ge.new hE21 hs26; have hE33 := hE20.then hw27; have hE34 := hE21.then hw27; have hB35 := hw27.blk0 hB22; have hO36 := hO23.evo0 hw27; have hB37 := hw27.blk0 hB13; refine wl_nil (ae_next (.inl hE34) ?_); refine ae_loud [8] (by kernel_rfl) rfl ⟨?_, trivial⟩; refine a_step rfl ?_; refine wl_storeBlk rfl rfl Try.size68 hB37 rfl rfl ⟨by first | rfl | assumption, by first | rfl | assumption, by first | rfl | assumption, by first | rfl | assumption, by first | rfl | assumption, by first | rfl | assumption, by first | rfl | assumption, by first | rfl | assumption, by first | rfl | assumption, trivial⟩ fun w38 hB39 hw40 => ?_; have hE41 := hE33.step hw40 hG18.mem1; have hE42 := hE34.step hw40 hG19.mem1; have hB43 := hw40.blk hB35 hA16.nmem1; have hO44 := hO36.evo hw40 hA17.own1; have hB45 := hw40.blk hB25 hA30.symm.nmem1
     try simp only [List.setIfInBounds_toArray, List.set_cons_zero, List.set_cons_succ, Nat.reduceAdd, Nat.zero_add, Nat.add_zero] at hB39
     refine wl_nil (ae_next (.inl hE42) ?_); refine ae_loud [9] (by kernel_rfl) rfl ⟨?_, trivial⟩; refine a_step rfl ?_; refine wl_storeBlk rfl rfl Try.size38 hB45 rfl rfl ⟨by first | rfl | assumption, by first | rfl | assumption, by first | rfl | assumption, by first | rfl | assumption, trivial⟩ fun w46 hB47 hw48 => ?_; have hE49 := hE41.step hw48 hG31.mem1; have hE50 := hE42.step hw48 hG32.mem1; have hB51 := hw48.blk hB43 hA28.nmem1; have hO52 := hO44.evo hw48 hA29.own1; have hB53 := hw48.blk hB39 hA30.nmem1
     try simp only [List.setIfInBounds_toArray, List.set_cons_zero, List.set_cons_succ, Nat.reduceAdd, Nat.zero_add, Nat.add_zero] at hB47
     refine wl_nil (ae_next (.inl hE50) ?_); refine ae_done (by kernel_rfl) (nrm_same ?_); refine ⟨⟨b3, b4⟩, ⟨rfl, rfl, trivial⟩, ⟨rfl, rfl, trivial⟩, hE49, ?_⟩; exact ⟨⟨hB51, hO52, hR.ne⟩, hB53, hB47, hG18, hG31, hA30⟩
    ·skip
     refine a_step rfl ?_; refine wl_alloc rfl Try.zero38 fun b4 w54 hB55 hs56 hw57 => ?_; have hsz_b4 := hs56; have hA58 := Apart.new (Lt.blk hB10) hs56; have hA59 := Apart.new (Lt.own hO11) hs56; have hG60 := Ge.new hE8 hs56; have hG61 := Ge.new hE9 hs56; have hE62 := hE8.then hw57; have hE63 := hE9.then hw57; have hB64 := hw57.blk0 hB10; have hO65 := hO11.evo0 hw57; refine wl_nil (ae_next (.inl hE63) ?_); refine ae_loud [6] (by kernel_rfl) rfl ⟨?_, trivial⟩; refine a_step rfl ?_; refine wl_alloc rfl Try.zero68 fun b3 w66 hB67 hs68 hw69 => ?_; have hsz_b3 := hs68; have hA70 := Apart.new (Lt.blk hB64) hs68; have hA71 := Apart.new (Lt.own hO65) hs68; have hA72 := Apart.new (Lt.blk hB55) hs68; have hG73 := Ge.new hE62 hs68; have hG74 := Ge.new hE63 hs68; have hE75 := hE62.then hw69; have hE76 := hE63.then hw69; have hB77 := hw69.blk0 hB64; have hO78 := hO65.evo0 hw69; have hB79 := hw69.blk0 hB55; refine wl_nil (ae_next (.inl hE76) ?_); refine ae_loud [8] (by kernel_rfl) rfl ⟨?_, trivial⟩; refine a_step rfl ?_; refine wl_storeBlk rfl rfl Try.size68 hB67 rfl rfl ⟨by first | rfl | assumption, by first | rfl | assumption, by first | rfl | assumption, by first | rfl | assumption, by first | rfl | assumption, by first | rfl | assumption, by first | rfl | assumption, by first | rfl | assumption, by first | rfl | assumption, trivial⟩ fun w80 hB81 hw82 => ?_; have hE83 := hE75.step hw82 hG73.mem1; have hE84 := hE76.step hw82 hG74.mem1; have hB85 := hw82.blk hB77 hA70.nmem1; have hO86 := hO78.evo hw82 hA71.own1; have hB87 := hw82.blk hB79 hA72.nmem1
     try simp only [List.setIfInBounds_toArray, List.set_cons_zero, List.set_cons_succ, Nat.reduceAdd, Nat.zero_add, Nat.add_zero] at hB81
     refine wl_nil (ae_next (.inl hE84) ?_); refine ae_loud [9] (by kernel_rfl) rfl ⟨?_, trivial⟩; refine a_step rfl ?_; refine wl_storeBlk rfl rfl Try.size38 hB87 rfl rfl ⟨by first | rfl | assumption, by first | rfl | assumption, by first | rfl | assumption, by first | rfl | assumption, trivial⟩ fun w88 hB89 hw90 => ?_; have hE91 := hE83.step hw90 hG60.mem1; have hE92 := hE84.step hw90 hG61.mem1; have hB93 := hw90.blk hB85 hA58.nmem1; have hO94 := hO86.evo hw90 hA59.own1; have hB95 := hw90.blk hB81 hA72.symm.nmem1
     try simp only [List.setIfInBounds_toArray, List.set_cons_zero, List.set_cons_succ, Nat.reduceAdd, Nat.zero_add, Nat.add_zero] at hB89
     refine wl_nil (ae_next (.inl hE92) ?_); refine ae_done (by kernel_rfl) (nrm_same ?_); refine ⟨⟨b3, b4⟩, ⟨rfl, rfl, trivial⟩, ⟨rfl, rfl, trivial⟩, hE91, ?_⟩; exact ⟨⟨hB93, hO94, hR.ne⟩, hB95, hB89, hG73, hG60, hA72.symm⟩
   ·skip
    refine a_step rfl ?_; refine wl_alloc rfl Try.zero68 fun b3 w96 hB97 hs98 hw99 => ?_; have hsz_b3 := hs98; have hA100 := Apart.new (Lt.blk hB4) hs98; have hA101 := Apart.new (Lt.own hO5) hs98; have hG102 := Ge.new hE3 hs98; have hG103 := Ge.new (Evo.refl [] w1) hs98; have hE104 := hE3.then hw99; have hE105 := (Evo.refl [] w1).then hw99; have hB106 := hw99.blk0 hB4; have hO107 := hO5.evo0 hw99; refine wl_nil (ae_next (.inl hE105) ?_); refine ae_loud [1, 7] (by kernel_rfl) rfl ⟨?_, ?_, trivial⟩
    ·skip
     refine a_step rfl ?_; refine wl_call1 (vs := [_]) Try.goes32 rfl (opening_ok ⟨hB106, hO107, hR.ne⟩ (by omega) h40.1) rfl ?_; rintro _ w108 ⟨rfl, hw109⟩; have hE110 := hE104.then hw109; have hE111 := hE105.then hw109; have hB112 := hw109.blk0 hB106; have hO113 := hO107.evo0 hw109; have hB114 := hw109.blk0 hB97; refine wl_nil (ae_next (.inl hE111) ?_); refine ae_loud [7] (by kernel_rfl) rfl ⟨?_, trivial⟩; refine a_step rfl ?_; refine wl_alloc rfl Try.zero38 fun b4 w115 hB116 hs117 hw118 => ?_; have hsz_b4 := hs117; have hA119 := Apart.new (Lt.blk hB112) hs117; have hA120 := Apart.new (Lt.own hO113) hs117; have hA121 := Apart.new (Lt.blk hB114) hs117; have hG122 := Ge.new hE110 hs117; have hG123 := Ge.new hE111 hs117; have hE124 := hE110.then hw118; have hE125 := hE111.then hw118; have hB126 := hw118.blk0 hB112; have hO127 := hO113.evo0 hw118; have hB128 := hw118.blk0 hB114; refine wl_nil (ae_next (.inl hE125) ?_); refine ae_loud [8] (by kernel_rfl) rfl ⟨?_, trivial⟩; refine a_step rfl ?_; refine wl_storeBlk rfl rfl Try.size68 hB128 rfl rfl ⟨by first | rfl | assumption, by first | rfl | assumption, by first | rfl | assumption, by first | rfl | assumption, by first | rfl | assumption, by first | rfl | assumption, by first | rfl | assumption, by first | rfl | assumption, by first | rfl | assumption, trivial⟩ fun w129 hB130 hw131 => ?_; have hE132 := hE124.step hw131 hG102.mem1; have hE133 := hE125.step hw131 hG103.mem1; have hB134 := hw131.blk hB126 hA100.nmem1; have hO135 := hO127.evo hw131 hA101.own1; have hB136 := hw131.blk hB116 hA121.symm.nmem1
     try simp only [List.setIfInBounds_toArray, List.set_cons_zero, List.set_cons_succ, Nat.reduceAdd, Nat.zero_add, Nat.add_zero] at hB130
     refine wl_nil (ae_next (.inl hE133) ?_); refine ae_loud [9] (by kernel_rfl) rfl ⟨?_, trivial⟩; refine a_step rfl ?_; refine wl_storeBlk rfl rfl Try.size38 hB136 rfl rfl ⟨by first | rfl | assumption, by first | rfl | assumption, by first | rfl | assumption, by first | rfl | assumption, trivial⟩ fun w137 hB138 hw139 => ?_; have hE140 := hE132.step hw139 hG122.mem1; have hE141 := hE133.step hw139 hG123.mem1; have hB142 := hw139.blk hB134 hA119.nmem1; have hO143 := hO135.evo hw139 hA120.own1; have hB144 := hw139.blk hB130 hA121.nmem1
     try simp only [List.setIfInBounds_toArray, List.set_cons_zero, List.set_cons_succ, Nat.reduceAdd, Nat.zero_add, Nat.add_zero] at hB138
     refine wl_nil (ae_next (.inl hE141) ?_); refine ae_done (by kernel_rfl) (nrm_same ?_); refine ⟨⟨b3, b4⟩, ⟨rfl, rfl, trivial⟩, ⟨rfl, rfl, trivial⟩, hE140, ?_⟩; exact ⟨⟨hB142, hO143, hR.ne⟩, hB144, hB138, hG102, hG122, hA121⟩
    ·skip
     refine a_step rfl ?_; refine wl_alloc rfl Try.zero38 fun b4 w145 hB146 hs147 hw148 => ?_; have hsz_b4 := hs147; have hA149 := Apart.new (Lt.blk hB106) hs147; have hA150 := Apart.new (Lt.own hO107) hs147; have hA151 := Apart.new (Lt.blk hB97) hs147; have hG152 := Ge.new hE104 hs147; have hG153 := Ge.new hE105 hs147; have hE154 := hE104.then hw148; have hE155 := hE105.then hw148; have hB156 := hw148.blk0 hB106; have hO157 := hO107.evo0 hw148; have hB158 := hw148.blk0 hB97; refine wl_nil (ae_next (.inl hE155) ?_); refine ae_loud [1] (by kernel_rfl) rfl ⟨?_, trivial⟩; refine a_step rfl ?_; refine wl_call1 (vs := [_]) Try.goes32 rfl (opening_ok ⟨hB156, hO157, hR.ne⟩ (by omega) h40.1) rfl ?_; rintro _ w159 ⟨rfl, hw160⟩; have hE161 := hE154.then hw160; have hE162 := hE155.then hw160; have hB163 := hw160.blk0 hB156; have hO164 := hO157.evo0 hw160; have hB165 := hw160.blk0 hB158; have hB166 := hw160.blk0 hB146; refine wl_nil (ae_next (.inl hE162) ?_); refine ae_loud [8] (by kernel_rfl) rfl ⟨?_, trivial⟩; refine a_step rfl ?_; refine wl_storeBlk rfl rfl Try.size68 hB165 rfl rfl ⟨by first | rfl | assumption, by first | rfl | assumption, by first | rfl | assumption, by first | rfl | assumption, by first | rfl | assumption, by first | rfl | assumption, by first | rfl | assumption, by first | rfl | assumption, by first | rfl | assumption, trivial⟩ fun w167 hB168 hw169 => ?_; have hE170 := hE161.step hw169 hG102.mem1; have hE171 := hE162.step hw169 hG103.mem1; have hB172 := hw169.blk hB163 hA100.nmem1; have hO173 := hO164.evo hw169 hA101.own1; have hB174 := hw169.blk hB166 hA151.symm.nmem1
     try simp only [List.setIfInBounds_toArray, List.set_cons_zero, List.set_cons_succ, Nat.reduceAdd, Nat.zero_add, Nat.add_zero] at hB168
     refine wl_nil (ae_next (.inl hE171) ?_); refine ae_loud [9] (by kernel_rfl) rfl ⟨?_, trivial⟩; refine a_step rfl ?_; refine wl_storeBlk rfl rfl Try.size38 hB174 rfl rfl ⟨by first | rfl | assumption, by first | rfl | assumption, by first | rfl | assumption, by first | rfl | assumption, trivial⟩ fun w175 hB176 hw177 => ?_; have hE178 := hE170.step hw177 hG152.mem1; have hE179 := hE171.step hw177 hG153.mem1; have hB180 := hw177.blk hB172 hA149.nmem1; have hO181 := hO173.evo hw177 hA150.own1; have hB182 := hw177.blk hB168 hA151.nmem1
     try simp only [List.setIfInBounds_toArray, List.set_cons_zero, List.set_cons_succ, Nat.reduceAdd, Nat.zero_add, Nat.add_zero] at hB176
     refine wl_nil (ae_next (.inl hE179) ?_); refine ae_done (by kernel_rfl) (nrm_same ?_); refine ⟨⟨b3, b4⟩, ⟨rfl, rfl, trivial⟩, ⟨rfl, rfl, trivial⟩, hE178, ?_⟩; exact ⟨⟨hB180, hO181, hR.ne⟩, hB182, hB176, hG102, hG152, hA151⟩
   ·skip
    refine a_step rfl ?_; refine wl_alloc rfl Try.zero38 fun b4 w183 hB184 hs185 hw186 => ?_; have hsz_b4 := hs185; have hA187 := Apart.new (Lt.blk hB4) hs185; have hA188 := Apart.new (Lt.own hO5) hs185; have hG189 := Ge.new hE3 hs185; have hG190 := Ge.new (Evo.refl [] w1) hs185; have hE191 := hE3.then hw186; have hE192 := (Evo.refl [] w1).then hw186; have hB193 := hw186.blk0 hB4; have hO194 := hO5.evo0 hw186; refine wl_nil (ae_next (.inl hE192) ?_); refine ae_loud [1, 6] (by kernel_rfl) rfl ⟨?_, ?_, trivial⟩
    ·skip
     refine a_step rfl ?_; refine wl_call1 (vs := [_]) Try.goes32 rfl (opening_ok ⟨hB193, hO194, hR.ne⟩ (by omega) h40.1) rfl ?_; rintro _ w195 ⟨rfl, hw196⟩; have hE197 := hE191.then hw196; have hE198 := hE192.then hw196; have hB199 := hw196.blk0 hB193; have hO200 := hO194.evo0 hw196; have hB201 := hw196.blk0 hB184; refine wl_nil (ae_next (.inl hE198) ?_); refine ae_loud [6] (by kernel_rfl) rfl ⟨?_, trivial⟩; refine a_step rfl ?_; refine wl_alloc rfl Try.zero68 fun b3 w202 hB203 hs204 hw205 => ?_; have hsz_b3 := hs204; have hA206 := Apart.new (Lt.blk hB199) hs204; have hA207 := Apart.new (Lt.own hO200) hs204; have hA208 := Apart.new (Lt.blk hB201) hs204; have hG209 := Ge.new hE197 hs204; have hG210 := Ge.new hE198 hs204; have hE211 := hE197.then hw205; have hE212 := hE198.then hw205; have hB213 := hw205.blk0 hB199; have hO214 := hO200.evo0 hw205; have hB215 := hw205.blk0 hB201; refine wl_nil (ae_next (.inl hE212) ?_); refine ae_loud [8] (by kernel_rfl) rfl ⟨?_, trivial⟩; refine a_step rfl ?_; refine wl_storeBlk rfl rfl Try.size68 hB203 rfl rfl ⟨by first | rfl | assumption, by first | rfl | assumption, by first | rfl | assumption, by first | rfl | assumption, by first | rfl | assumption, by first | rfl | assumption, by first | rfl | assumption, by first | rfl | assumption, by first | rfl | assumption, trivial⟩ fun w216 hB217 hw218 => ?_; have hE219 := hE211.step hw218 hG209.mem1; have hE220 := hE212.step hw218 hG210.mem1; have hB221 := hw218.blk hB213 hA206.nmem1; have hO222 := hO214.evo hw218 hA207.own1; have hB223 := hw218.blk hB215 hA208.nmem1
     try simp only [List.setIfInBounds_toArray, List.set_cons_zero, List.set_cons_succ, Nat.reduceAdd, Nat.zero_add, Nat.add_zero] at hB217
     refine wl_nil (ae_next (.inl hE220) ?_); refine ae_loud [9] (by kernel_rfl) rfl ⟨?_, trivial⟩; refine a_step rfl ?_; refine wl_storeBlk rfl rfl Try.size38 hB223 rfl rfl ⟨by first | rfl | assumption, by first | rfl | assumption, by first | rfl | assumption, by first | rfl | assumption, trivial⟩ fun w224 hB225 hw226 => ?_; have hE227 := hE219.step hw226 hG189.mem1; have hE228 := hE220.step hw226 hG190.mem1; have hB229 := hw226.blk hB221 hA187.nmem1; have hO230 := hO222.evo hw226 hA188.own1; have hB231 := hw226.blk hB217 hA208.symm.nmem1
     try simp only [List.setIfInBounds_toArray, List.set_cons_zero, List.set_cons_succ, Nat.reduceAdd, Nat.zero_add, Nat.add_zero] at hB225
     refine wl_nil (ae_next (.inl hE228) ?_); refine ae_done (by kernel_rfl) (nrm_same ?_); refine ⟨⟨b3, b4⟩, ⟨rfl, rfl, trivial⟩, ⟨rfl, rfl, trivial⟩, hE227, ?_⟩; exact ⟨⟨hB229, hO230, hR.ne⟩, hB231, hB225, hG209, hG189, hA208.symm⟩
    ·skip
     refine a_step rfl ?_; refine wl_alloc rfl Try.zero68 fun b3 w232 hB233 hs234 hw235 => ?_; have hsz_b3 := hs234; have hA236 := Apart.new (Lt.blk hB193) hs234; have hA237 := Apart.new (Lt.own hO194) hs234; have hA238 := Apart.new (Lt.blk hB184) hs234; have hG239 := Ge.new hE191 hs234; have hG240 := Ge.new hE192 hs234; have hE241 := hE191.then hw235; have hE242 := hE192.then hw235; have hB243 := hw235.blk0 hB193; have hO244 := hO194.evo0 hw235; have hB245 := hw235.blk0 hB184; refine wl_nil (ae_next (.inl hE242) ?_); refine ae_loud [1] (by kernel_rfl) rfl ⟨?_, trivial⟩; refine a_step rfl ?_; refine wl_call1 (vs := [_]) Try.goes32 rfl (opening_ok ⟨hB243, hO244, hR.ne⟩ (by omega) h40.1) rfl ?_; rintro _ w246 ⟨rfl, hw247⟩; have hE248 := hE241.then hw247; have hE249 := hE242.then hw247; have hB250 := hw247.blk0 hB243; have hO251 := hO244.evo0 hw247; have hB252 := hw247.blk0 hB245; have hB253 := hw247.blk0 hB233; refine wl_nil (ae_next (.inl hE249) ?_); refine ae_loud [8] (by kernel_rfl) rfl ⟨?_, trivial⟩; refine a_step rfl ?_; refine wl_storeBlk rfl rfl Try.size68 hB253 rfl rfl ⟨by first | rfl | assumption, by first | rfl | assumption, by first | rfl | assumption, by first | rfl | assumption, by first | rfl | assumption, by first | rfl | assumption, by first | rfl | assumption, by first | rfl | assumption, by first | rfl | assumption, trivial⟩ fun w254 hB255 hw256 => ?_; have hE257 := hE248.step hw256 hG239.mem1; have hE258 := hE249.step hw256 hG240.mem1; have hB259 := hw256.blk hB250 hA236.nmem1; have hO260 := hO251.evo hw256 hA237.own1; have hB261 := hw256.blk hB252 hA238.nmem1
     try simp only [List.setIfInBounds_toArray, List.set_cons_zero, List.set_cons_succ, Nat.reduceAdd, Nat.zero_add, Nat.add_zero] at hB255
     refine wl_nil (ae_next (.inl hE258) ?_); refine ae_loud [9] (by kernel_rfl) rfl ⟨?_, trivial⟩; refine a_step rfl ?_; refine wl_storeBlk rfl rfl Try.size38 hB261 rfl rfl ⟨by first | rfl | assumption, by first | rfl | assumption, by first | rfl | assumption, by first | rfl | assumption, trivial⟩ fun w262 hB263 hw264 => ?_; have hE265 := hE257.step hw264 hG189.mem1; have hE266 := hE258.step hw264 hG190.mem1; have hB267 := hw264.blk hB259 hA187.nmem1; have hO268 := hO260.evo hw264 hA188.own1; have hB269 := hw264.blk hB255 hA238.symm.nmem1
     try simp only [List.setIfInBounds_toArray, List.set_cons_zero, List.set_cons_succ, Nat.reduceAdd, Nat.zero_add, Nat.add_zero] at hB263
     refine wl_nil (ae_next (.inl hE266) ?_); refine ae_done (by kernel_rfl) (nrm_same ?_); refine ⟨⟨b3, b4⟩, ⟨rfl, rfl, trivial⟩, ⟨rfl, rfl, trivial⟩, hE265, ?_⟩; exact ⟨⟨hB267, hO268, hR.ne⟩, hB269, hB263, hG239, hG189, hA238.symm⟩
  ·skip
   rintro ⟨b3, b4⟩ w270 ⟨hV271, ⟨hR1, hb3, hb4, hg3, hg4, ha34⟩⟩; refine nrm_then ?_; show CW _ _ _ _ [(3, .pointer (some ⟨b3, 0, none⟩)), (4, .pointer (some ⟨b4, 0, none⟩)), (0, _), (2, _)] _
   try dsimp only at hR1
   try dsimp only at hb3
   try dsimp only at hb4
   try dsimp only at hg3
   try dsimp only at hg4
   try dsimp only at ha34
   have hA1 : Apart (some b) (some b3) := ap_old hbw hg3; have hA2 : Apart (some b) (some b4) := ap_old hbw hg4; have hA3 : Apart ob (some b3) := ap_old how hg3; have hA4 : Apart ob (some b4) := ap_old how hg4; have hob0 := pOpen_b (fl := st.now) hb h40; have hoe := pOpen_e (s := s) (i := st.pos) (fl := st.now)
   generalize ho : pOpen s st.pos st.now = o at *
   have hbdl := hb.le; refine cw_seq ?_; refine cw_seq ?_; refine cw_region ?_; refine wl_val rfl (ex_fieldAddr rfl Try.fld68_5) ?_; refine wl_val rfl (ex_load1 rfl Try.agg26 (cell_nth hb3 rfl)) ?_; refine wl_val rfl (ex_eql rfl rfl) ?_; refine wl_m ?_; refine wl_split (t := 16) rfl (fun hs16 => ?_) (fun hs16 => ?_)
   ·skip
    refine wl_g ?_; refine wl_val rfl (ex_fieldAddr rfl Try.fld68_4) ?_; refine wl_g ?_; refine wl_val rfl (ex_load1 rfl Try.agg4 (cell_nth hb3 rfl)) ?_; refine wl_pt ?_; refine wl_nil (nrm_then ?_); refine cw_ifb rfl (fun hc19 => ?_) (fun hc19 => ?_)
    ·skip
     obtain ⟨hz1, hz2, hz3⟩ := hob0 hs16; refine cw_seq ?_; refine cw_any (fun w0 w' => Evo [b] w0 w') (by kernel_rfl) (fun w272 hw273 => ?_); have hE274 := hV271.then hw273; have hB275 := hw273.blk0 hR1.blk; have hO276 := hR1.own.evo0 hw273; have hB277 := hw273.blk0 hb3; have hB278 := hw273.blk0 hb4; refine ae_take 0 rfl (by kernel_rfl) (by kernel_rfl) (by kernel_rfl) rfl (fun _ hS => ex_move rfl) (Evo.refl [b] w272) ?_; refine ae_take 1 rfl (by kernel_rfl) (by kernel_rfl) (by kernel_rfl) rfl (fun _ hS => ex_nilCheck rfl) (Evo.refl [b] w272) ?_; refine ae_take 2 rfl (by kernel_rfl) (by kernel_rfl) (by kernel_rfl) rfl (fun _ hS => ex_fieldAddr rfl Try.fld41_1) (Evo.refl [b] w272) ?_; refine ae_take 4 rfl (by kernel_rfl) (by kernel_rfl) (by kernel_rfl) rfl (fun _ hS => ex_fieldAddr rfl Try.fld68_0) (Evo.refl [b] w272) ?_; refine ae_take 5 rfl (by kernel_rfl) (by kernel_rfl) (by kernel_rfl) rfl (fun _ hS => ex_load1 rfl Try.agg3 (cell_nth (hS.blk hB277 (hA1.symm.nmem1)) rfl)) (Evo.refl [b] w272) ?_; refine ae_loud [3] (by kernel_rfl) rfl ⟨?_, trivial⟩; refine a_step rfl ?_; refine wl_val rfl (ex_load1 rfl Try.agg3 (cell_nth hB275 rfl)) ?_; refine wl_nil (ae_next (.inl (Evo.refl [b] w272)) ?_); refine ae_take 6 rfl (by kernel_rfl) (by kernel_rfl) (by kernel_rfl) rfl (fun _ hS => ex_add_i64 rfl rfl (by omega) (by omega)) (Evo.refl [b] w272) ?_; refine ae_take 7 rfl (by kernel_rfl) (by kernel_rfl) (by kernel_rfl) rfl (fun _ hS => ex_nilCheck rfl) (Evo.refl [b] w272) ?_; refine ae_take 8 rfl (by kernel_rfl) (by kernel_rfl) (by kernel_rfl) rfl (fun _ hS => ex_fieldAddr rfl Try.fld41_1) (Evo.refl [b] w272) ?_; refine ae_loud [9] (by kernel_rfl) rfl ⟨?_, trivial⟩; refine a_step rfl ?_
     refine wl_store1 rfl rfl (by first | rfl | assumption) Try.size3 hB275 rfl fun w279 hB280 hw281 => ?_
     have hE282 := hE274.step hw281 (fun y hy => .inl (by rw [List.mem_singleton.1 hy]; simp))
     have hE283 := (Evo.refl [b] w272).step hw281 (fun y hy => .inl hy); have hO284 := hO276.evo hw281 hR1.ap.symm.own1; have hB285 := hw281.blk hB277 hA1.symm.nmem1; have hB286 := hw281.blk hB278 hA2.symm.nmem1
     try simp only [List.setIfInBounds_toArray, List.set_cons_zero, List.set_cons_succ, Nat.reduceAdd, Nat.zero_add, Nat.add_zero] at hB280
     refine wl_nil (ae_next (.inl hE283) ?_); refine ae_done (by kernel_rfl) (nrm_then ?_); refine cw_seq ?_; refine cw_region ?_; refine wl_m ?_; refine wl_val rfl (ex_fieldAddr rfl Try.fld68_2) ?_; refine wl_val rfl (ex_loadA (o := 2) rfl Try.agg38 Try.size38 (vs := [.bool o.thn.fold, .bool o.thn.lines, .bool o.thn.dots, .bool o.thn.lazy]) rfl (opv_flags hB285)) ?_; refine wl_val rfl (ex_nilCheck rfl) ?_; refine wl_val rfl (ex_fieldAddr rfl Try.fld41_2) ?_; refine wl_store4 (f1 := .bool o.thn.fold) (f2 := .bool o.thn.lines) (f3 := .bool o.thn.dots) (f4 := .bool o.thn.lazy) rfl rfl Try.size38 ⟨rfl, rfl, rfl, rfl, trivial⟩ hB280 fun w287 hB288 hw289 => ?_
     have hE290 := hE282.step hw289 (fun y hy => .inl (by rw [List.mem_singleton.1 hy]; simp))
     have hO291 := hO284.evo hw289 hR1.ap.symm.own1; have hB292 := hw289.blk hB285 hA1.symm.nmem1; have hB293 := hw289.blk hB286 hA2.symm.nmem1; refine wl_nil (nrm_then ?_); refine cw_seq ?_; refine cw_region ?_; refine wl_a ?_; refine wl_nil (nrm_then ?_); refine cw_ret (ret_then (bodyp_ret (body_ret1 rfl rfl ?_)))
     exact ⟨[], { st with pos := st.pos + o.size, now := o.thn }, br_set ho hs16 hc19, hE290, ⟨rfl, Nat.le_add_right _ _, hz2, hnl⟩, (by show st.pos < st.pos + o.size; omega), (by show 0 + st.pos ≤ st.pos + o.size; omega), a, c, ob, none, 0, none, [], [], rfl, OwnS.nil _ _ _, OTs.nil _, Fr.nil _, ⟨hB288, hO291, hR.ne⟩, .inl rfl⟩
    ·skip
     refine cw_skip (nrm_then ?_); refine cw_seq ?_; refine cw_seq ?_
     have hno : ¬ (o.err = 0 ∧ o.sett = true) := fun h => by rw [h.2] at hc19; cases hc19
     refine cw_region ?_; refine wl_m ?_; refine wl_val rfl (ex_nilCheck rfl) ?_; refine wl_val rfl (ex_fieldAddr rfl Try.fld41_3) ?_; refine wl_val rfl (ex_load1 rfl Try.agg3 (cell_nth hR1.blk rfl)) ?_; refine wl_val rfl (ex_eql rfl rfl) ?_; refine wl_nil (nrm_then ?_); refine cw_if rfl (fun hc38 => ?_) (fun hc38 => ?_)
     ·skip
      refine cw_region ?_; refine wl_callP1 (vs := [_]) Try.goes10 rfl (fail_ok 3) rfl ?_ ?_
      ·skip
       intro pv wp hpp; obtain ⟨rfl, hpw⟩ := hpp; exact And.intro rfl ⟨_, rfl, _, br_deep ho hno (by omega), rfl, (hV271).then hpw⟩
      intro _ _ hF; exact hF.elim
     ·skip
      refine cw_skip (nrm_then ?_); refine cw_seq ?_; refine cw_seq ?_
      have hne250 : ¬ st.opn = 250 := by omega
      refine cw_region ?_; refine wl_val rfl (ex_fieldAddr rfl Try.fld68_5) ?_; refine wl_val rfl (ex_load1 rfl Try.agg26 (cell_nth hb3 rfl)) ?_; refine wl_val rfl (ex_neq rfl rfl) ?_; refine wl_nil (nrm_then ?_); refine cw_if rfl (fun hc42 => ?_) (fun hc42 => ?_)
      ·skip
       refine cw_region ?_; refine wl_val rfl (ex_fieldAddr rfl Try.fld68_5) ?_; refine wl_val rfl (ex_load1 rfl Try.agg26 (cell_nth hb3 rfl)) ?_; refine wl_callP1 (vs := [_]) Try.goes10 rfl (fail_ok o.err) rfl ?_ ?_
       ·skip
        intro pv wp hpp; obtain ⟨rfl, hpw⟩ := hpp; exact And.intro rfl ⟨_, rfl, _, br_err ho hno hne250 hc42, rfl, (hV271).then hpw⟩
       intro _ _ hF; exact hF.elim
      ·skip
       refine cw_skip (nrm_then ?_); refine cw_seq ?_; have herr : o.err = 0 := Classical.not_not.1 hc42; obtain ⟨hz1, hz2, hz3⟩ := hob0 herr; refine cw_region ?_; refine wl_a ?_; refine wl_nil (nrm_then ?_); refine cw_seq ?_; refine cw_seq ?_; refine cw_region ?_; refine wl_val rfl (ex_fieldAddr rfl Try.fld68_3) ?_; refine wl_val rfl (ex_load1 rfl Try.agg4 (cell_nth hb3 rfl)) ?_; refine wl_nil (nrm_then ?_); refine cw_ifb rfl (fun hc47 => ?_) (fun hc47 => ?_)
       ·skip
        have hVW9 := hV271; refine cw_region ?_; refine wl_m ?_; refine wl_val rfl (ex_fieldAddr rfl Try.fld68_1) ?_; refine wl_val rfl (ex_load1 rfl Try.agg9 (cell_nth hb3 rfl)) ?_; refine wl_callP1 (vs := [_, _]) Try.goes33 rfl (newGroup_ok ⟨hR1.blk, hR1.own, hR1.ne⟩ o.name hnl) rfl ?_ ?_
        ·skip
         intro pv wp hpp; obtain ⟨hfl, rfl, hpw⟩ := hpp; exact And.intro rfl ⟨_, rfl, _, br_full ho hno hne250 hc42 hc47 hfl, rfl, (hV271).then hpw⟩
        rintro _ w298 ⟨hnf, rfl, hw299, a2, c2, ob2, hR2, hnb⟩; have hA53 := ap_ob hA3.symm (Lt.blk hb3) hnb; have hA54 := ap_ob hA4.symm (Lt.blk hb4) hnb; have hGo2 := ap_ob hGo (glb_lt (hG.evo hV271 hgw)) hnb; have hnb2 : NB w ob ob2 := (show NB w ob ob from .inl rfl).older hnb hVW9.size; have hE300 := hV271.step hw299 (fun y hy => .inl hy); have hB301 := hw299.blk hb3 (nm_2 hA1.symm hA3.symm); have hB302 := hw299.blk hb4 (nm_2 hA2.symm hA4.symm); have hpp2 : ({ st with names := st.names ++ [o.name] } : PS).pos = st.pos := rfl; have hpo2 : ({ st with names := st.names ++ [o.name] } : PS).opn = st.opn := rfl
        have hnl2 : (st.names ++ [o.name]).length ≤ 100 := by rw [List.length_append]; have : st.names.length ≠ 100 := fun h => hnf (.inl h); simp; omega
        refine wl_a ?_; refine wl_nil (nrm_then ?_); refine cw_seq ?_; refine cw_any (fun w0 w' => Evo [b] w0 w') (by kernel_rfl) (fun w303 hw304 => ?_); have hE305 := hE300.then hw304; have hB306 := hw304.blk0 hB301; have hB307 := hw304.blk0 hB302; have hB308 := hw304.blk0 hR2.blk; have hO309 := hR2.own.evo0 hw304; refine ae_take 0 rfl (by kernel_rfl) (by kernel_rfl) (by kernel_rfl) rfl (fun _ hS => ex_move rfl) (Evo.refl [b] w303) ?_; refine ae_take 1 rfl (by kernel_rfl) (by kernel_rfl) (by kernel_rfl) rfl (fun _ hS => ex_nilCheck rfl) (Evo.refl [b] w303) ?_; refine ae_take 2 rfl (by kernel_rfl) (by kernel_rfl) (by kernel_rfl) rfl (fun _ hS => ex_fieldAddr rfl Try.fld41_1) (Evo.refl [b] w303) ?_; refine ae_take 4 rfl (by kernel_rfl) (by kernel_rfl) (by kernel_rfl) rfl (fun _ hS => ex_fieldAddr rfl Try.fld68_0) (Evo.refl [b] w303) ?_; refine ae_take 5 rfl (by kernel_rfl) (by kernel_rfl) (by kernel_rfl) rfl (fun _ hS => ex_load1 rfl Try.agg3 (cell_nth (hS.blk hB306 (hA1.symm.nmem1)) rfl)) (Evo.refl [b] w303) ?_; refine ae_loud [3] (by kernel_rfl) rfl ⟨?_, trivial⟩; refine a_step rfl ?_; refine wl_val rfl (ex_load1 rfl Try.agg3 (cell_nth hB308 rfl)) ?_; refine wl_nil (ae_next (.inl (Evo.refl [b] w303)) ?_); refine ae_take 6 rfl (by kernel_rfl) (by kernel_rfl) (by kernel_rfl) rfl (fun _ hS => ex_add_i64 rfl rfl (by omega) (by omega)) (Evo.refl [b] w303) ?_; refine ae_take 7 rfl (by kernel_rfl) (by kernel_rfl) (by kernel_rfl) rfl (fun _ hS => ex_nilCheck rfl) (Evo.refl [b] w303) ?_; refine ae_take 8 rfl (by kernel_rfl) (by kernel_rfl) (by kernel_rfl) rfl (fun _ hS => ex_fieldAddr rfl Try.fld41_1) (Evo.refl [b] w303) ?_; refine ae_loud [9] (by kernel_rfl) rfl ⟨?_, trivial⟩; refine a_step rfl ?_
        refine wl_store1 rfl rfl (by first | rfl | assumption) Try.size3 hB308 rfl fun w310 hB311 hw312 => ?_
        have hE313 := hE305.step hw312 (fun y hy => .inl (by rw [List.mem_singleton.1 hy]; simp))
        have hE314 := (Evo.refl [b] w303).step hw312 (fun y hy => .inl hy); have hB315 := hw312.blk hB306 hA1.symm.nmem1; have hB316 := hw312.blk hB307 hA2.symm.nmem1; have hO317 := hO309.evo hw312 hR2.ap.symm.own1
        try simp only [List.setIfInBounds_toArray, List.set_cons_zero, List.set_cons_succ, Nat.reduceAdd, Nat.zero_add, Nat.add_zero] at hB311
        refine wl_nil (ae_next (.inl hE314) ?_); refine ae_done (by kernel_rfl) (nrm_then ?_); refine cw_seq ?_; refine cw_region ?_; refine wl_m ?_; refine wl_val rfl (ex_nilCheck rfl) ?_; refine wl_val rfl (ex_fieldAddr rfl Try.fld41_3) ?_; refine wl_val rfl (ex_load1 rfl Try.agg3 (cell_nth hB311 rfl)) ?_; refine wl_val rfl (ex_add_i64 rfl rfl (by omega) (by omega)) ?_; refine wl_val rfl (ex_nilCheck rfl) ?_; refine wl_val rfl (ex_fieldAddr rfl Try.fld41_3) ?_; refine wl_store1 rfl rfl (by first | rfl | assumption) Try.size3 hB311 rfl fun w318 hB319 hw320 => ?_
        have hE321 := hE313.step hw320 (fun y hy => .inl (by rw [List.mem_singleton.1 hy]; simp))
        have hB322 := hw320.blk hB315 hA1.symm.nmem1; have hB323 := hw320.blk hB316 hA2.symm.nmem1; have hO324 := hO317.evo hw320 hR2.ap.symm.own1
        try simp only [List.setIfInBounds_toArray, List.set_cons_zero, List.set_cons_succ, Nat.reduceAdd, Nat.zero_add, Nat.add_zero] at hB319
        refine wl_nil (nrm_then ?_); refine cw_seq ?_; refine cw_region ?_; refine wl_m ?_; refine wl_val rfl (ex_fieldAddr rfl Try.fld68_2) ?_; refine wl_val rfl (ex_loadA (o := 2) rfl Try.agg38 Try.size38 (vs := [.bool o.thn.fold, .bool o.thn.lines, .bool o.thn.dots, .bool o.thn.lazy]) rfl (opv_flags hB322)) ?_; refine wl_val rfl (ex_nilCheck rfl) ?_; refine wl_val rfl (ex_fieldAddr rfl Try.fld41_2) ?_; refine wl_store4 (f1 := .bool o.thn.fold) (f2 := .bool o.thn.lines) (f3 := .bool o.thn.dots) (f4 := .bool o.thn.lazy) rfl rfl Try.size38 ⟨rfl, rfl, rfl, rfl, trivial⟩ hB319 fun w325 hB326 hw327 => ?_
        have hE328 := hE321.step hw327 (fun y hy => .inl (by rw [List.mem_singleton.1 hy]; simp))
        have hB329 := hw327.blk hB322 hA1.symm.nmem1; have hB330 := hw327.blk hB323 hA2.symm.nmem1; have hO331 := hO324.evo hw327 hR2.ap.symm.own1; refine wl_nil (nrm_then ?_); refine cw_seq ?_; refine cw_region ?_; refine wl_m ?_; refine wl_callP1 (vs := [_]) Try.goes9 rfl (hex (by omega) (st := ⟨st.pos + o.size, o.thn, st.opn + 1, st.names ++ [o.name]⟩) ⟨hB326, hO331, hR2.ne⟩ rfl hz2 hnl2 (hG.evo hE328 hgw) hGo2) rfl ?_ ?_
        ·skip
         intro pv wp hpp; obtain ⟨e9, hpe, rfl, hpw⟩ := hpp; exact And.intro rfl ⟨_, rfl, _, (br_go ho hno hne250 hc42 (fun h => hnf h.2)).trans (by rw [if_pos hc47, hpe]), rfl, (hE328).step hpw (nb_mem hnb2)⟩
        rintro rv w332 ⟨x, st2, hx, hw333, hmv, a3, c3, ob3, vs, bs, rfl, hOT, hFr, hR3, hnb3⟩; have hV9 := hE328; have hA63 := ap_ob hA53 (Lt.blk hB329) hnb3; have hA64 := ap_ob hA54 (Lt.blk hB330) hnb3; have hnb4 := hnb2.older hnb3 hV9.size; have hFr9 : Fr w bs := hFr.older hV9.size; have hE334 := hE328.step hw333 (nb_mem hnb2); have hB335 := hw333.blk hB329 (nm_2 hA1.symm hA53); have hB336 := hw333.blk hB330 (nm_2 hA2.symm hA54); obtain ⟨ra, rc, ka, kc, rfl⟩ := id hOT.nine; have hltx := hOT.lt; refine wl_alloc rfl Try.zero25 fun b6 w337 hB338 hs339 hw340 => ?_; have hsz_b6 := hs339; have hA341 := Apart.new (Lt.blk hB335) hs339; have hA342 := Apart.new (Lt.blk hB336) hs339; have hA343 := Apart.new (Lt.blk hR3.blk) hs339; have hA344 := Apart.new (Lt.own hR3.own) hs339; have hG345 := Ge.new hE334 hs339; have hE346 := hE334.then hw340; have hB347 := hw340.blk0 hB335; have hB348 := hw340.blk0 hB336; have hB349 := hw340.blk0 hR3.blk; have hO350 := hR3.own.evo0 hw340; have hF351 := hOT.evo0 hw340; refine wl_storeBlk rfl rfl Try.size25 hB338 rfl rfl ⟨by first | rfl | assumption, by first | rfl | assumption, by first | rfl | assumption, by first | rfl | assumption, by first | rfl | assumption, by first | rfl | assumption, by first | rfl | assumption, by first | rfl | assumption, by first | rfl | assumption, trivial⟩ fun w352 hB353 hw354 => ?_; have hE355 := hE346.step hw354 hG345.mem1; have hB356 := hw354.blk hB347 hA341.nmem1; have hB357 := hw354.blk hB348 hA342.nmem1; have hB358 := hw354.blk hB349 hA343.nmem1; have hO359 := hO350.evo hw354 hA344.own1
        have hF360 := hF351.evo hw354 (fun q hq h => by have h8 := hltx q hq; have h9 := List.mem_singleton.1 h; omega)
        try simp only [List.setIfInBounds_toArray, List.set_cons_zero, List.set_cons_succ, Nat.reduceAdd, Nat.zero_add, Nat.add_zero] at hB353
        refine wl_nil (nrm_then ?_); refine cw_seq ?_; refine cw_seq ?_; refine cw_region ?_; refine wl_m ?_; refine wl_call1 (vs := [_, _]) Try.goes14 rfl (take_ok ⟨hB358, hO359, hR3.ne⟩ (by omega) 41 (by decide)) rfl ?_; rintro _ w361 ⟨rfl, hw362, hR4⟩
        have hE363 := hE355.step hw362 (fun y hy => .inl (by rw [List.mem_singleton.1 hy]; simp))
        have hB364 := hw362.blk hB356 ((by first | exact hA1.symm.own1 | exact hA1.symm.nmem1)); have hB365 := hw362.blk hB357 ((by first | exact hA2.symm.own1 | exact hA2.symm.nmem1)); have hB366 := hF360.evo hw362 (fr_b hFr9 hbw (Nat.le_refl _)); have hB367 := hw362.blk hB353 ((by first | exact hA343.symm.own1 | exact hA343.symm.nmem1)); refine wl_val rfl (ex_not rfl) ?_; refine wl_nil (nrm_then ?_); refine cw_if rfl (fun hc77 => ?_) (fun hc77 => ?_)
        ·skip
         refine cw_region ?_; refine wl_callP1 (vs := [_]) Try.goes10 rfl (fail_ok 80) rfl ?_ ?_
         ·skip
          intro pv wp hpp; obtain ⟨rfl, hpw⟩ := hpp
          exact And.intro rfl ⟨_, rfl, _, (br_go ho hno hne250 hc42 (fun h => hnf h.2)).trans (by rw [if_pos hc47, hx]; exact if_neg hc77), rfl, (hE363).then hpw⟩
         intro _ _ hF; exact hF.elim
        ·skip
         have h41 : isB s st2.pos 41 := Classical.not_not.1 hc77; rw [if_pos h41] at hR4; have ho2 : st2.opn = st.opn + 1 := hmv.opn; have hle2 : st.pos + o.size ≤ st2.pos := hmv.le
         have ho3 : ((adv st2 1).opn : Int) - 1 = ((st2.opn - 1 : Nat) : Int) := by show ((st2.opn : Nat) : Int) - 1 = _; omega
         refine cw_skip (nrm_then ?_); refine cw_seq ?_; refine cw_region ?_; refine wl_m ?_; refine wl_val rfl (ex_nilCheck rfl) ?_; refine wl_val rfl (ex_fieldAddr rfl Try.fld41_3) ?_; refine wl_val rfl (ex_load1 rfl Try.agg3 (cell_nth hR4.blk rfl)) ?_; refine wl_val rfl (ex_sub_i64 rfl rfl (by omega) (by omega)) ?_; rw [ho3]; refine wl_val rfl (ex_nilCheck rfl) ?_; refine wl_val rfl (ex_fieldAddr rfl Try.fld41_3) ?_; refine wl_store1 rfl rfl (by first | rfl | assumption) Try.size3 hR4.blk rfl fun w370 hB371 hw372 => ?_
         have hE373 := hE363.step hw372 (fun y hy => .inl (by rw [List.mem_singleton.1 hy]; simp))
         have hB374 := hw372.blk hB364 hA1.symm.nmem1; have hB375 := hw372.blk hB365 hA2.symm.nmem1; have hF376 := hB366.evo hw372 (fr_b hFr9 hbw (Nat.le_refl _)); have hB377 := hw372.blk hB367 hA343.symm.nmem1; have hO378 := hR4.own.evo hw372 hR4.ap.symm.own1
         try simp only [List.setIfInBounds_toArray, List.set_cons_zero, List.set_cons_succ, Nat.reduceAdd, Nat.zero_add, Nat.add_zero] at hB371
         refine wl_nil (nrm_then ?_); refine cw_seq ?_; refine cw_region ?_; refine wl_m ?_; refine wl_val rfl (ex_loadBlk rfl Try.agg38 Try.size38 hB375 rfl) ?_; refine wl_val rfl (ex_nilCheck rfl) ?_; refine wl_val rfl (ex_fieldAddr rfl Try.fld41_2) ?_; refine wl_store4 (f1 := .bool st.now.fold) (f2 := .bool st.now.lines) (f3 := .bool st.now.dots) (f4 := .bool st.now.lazy) rfl rfl Try.size38 ⟨rfl, rfl, rfl, rfl, trivial⟩ hB371 fun w379 hB380 hw381 => ?_
         have hE382 := hE373.step hw381 (fun y hy => .inl (by rw [List.mem_singleton.1 hy]; simp))
         have hB383 := hw381.blk hB374 hA1.symm.nmem1; have hB384 := hw381.blk hB375 hA2.symm.nmem1; have hF385 := hF376.evo hw381 (fr_b hFr9 hbw (Nat.le_refl _)); have hB386 := hw381.blk hB377 hA343.symm.nmem1; have hO387 := hO378.evo hw381 hR4.ap.symm.own1; refine wl_nil (nrm_then ?_); refine cw_seq ?_; refine cw_seq ?_; refine cw_region ?_; refine wl_val rfl (ex_fieldAddr rfl Try.fld68_3) ?_; refine wl_val rfl (ex_load1 rfl Try.agg4 (cell_nth hB383 rfl)) ?_; refine wl_nil (nrm_then ?_); refine cw_ifb rfl (fun hc91 => ?_) (fun hc91 => ?_)
         ·skip
          have hOT9 := hF385; have hV22 := hE382; refine cw_region ?_; refine wl_m ?_; refine wl_val rfl (ex_fieldAddr rfl Try.fld68_1) ?_; refine wl_val rfl (ex_load1 rfl Try.agg9 (cell_nth hB383 rfl)) ?_; refine wl_val rfl (ex_loadBlk rfl Try.agg25 Try.size25 hB386 rfl) ?_; refine wl_bslice (vs := [_]) rfl Try.slice23 rfl rfl rfl rfl fun b96 w388 hO389 hs390 hw391 => ?_; have hA392 := Apart.new (Lt.blk hB383) hs390; have hA393 := Apart.new (Lt.blk hB384) hs390; have hA394 := Apart.new (Lt.blk hB386) hs390; have hA395 := Apart.new (Lt.blk hB380) hs390; have hA396 := Apart.new (Lt.own hO387) hs390; have hG397 := Ge.new hE382 hs390; have hG398 := Ge.new (Evo.refl ([b6]) w379) hs390; have hE399 := hE382.then hw391; have hE400 := (Evo.refl ([b6]) w379).then hw391; have hB401 := hw391.blk0 hB383; have hB402 := hw391.blk0 hB384; have hF403 := hF385.evo0 hw391; have hB404 := hw391.blk0 hB386; have hB405 := hw391.blk0 hB380; have hO406 := hO387.evo0 hw391; refine wl_val rfl (ex_build (vs := [(0, _), (6, _), (7, _), (8, _)]) Try.build25 rfl (cells := [_, _, _, _, _, _, _, _, _]) rfl) ?_; refine wl_storeBlk rfl rfl Try.size25 hB404 rfl rfl ⟨by first | rfl | assumption, by first | rfl | assumption, by first | rfl | assumption, by first | rfl | assumption, by first | rfl | assumption, by first | rfl | assumption, by first | rfl | assumption, by first | rfl | assumption, by first | rfl | assumption, trivial⟩ fun w407 hB408 hw409 => ?_; have hE410 := hE399.step hw409 hG345.mem1; have hE411 := hE400.step hw409 (fun y hy => .inl hy); have hB412 := hw409.blk hB401 hA341.nmem1; have hB413 := hw409.blk hB402 hA342.nmem1
          have hF414 := hF403.evo hw409 (fun q hq h => by have h8 := hltx q hq; have h9 := List.mem_singleton.1 h; omega)
          have hB415 := hw409.blk hB405 hA343.nmem1; have hO416 := hO406.evo hw409 hA344.own1; have hO417 := hO389.evo hw409 hA394.symm.own1
          try simp only [List.setIfInBounds_toArray, List.set_cons_zero, List.set_cons_succ, Nat.reduceAdd, Nat.zero_add, Nat.add_zero] at hB408
          refine wl_nil (nrm_then ?_); refine cw_seq ?_
          have hgr := ot_grp (n := (st.names.length : Int) + 1) (nm := o.name) hO417 hOT9 hFr9 (hG398 _ rfl) hE411 (fun q hq h => by have h8 := hltx q hq; have h9 := List.mem_singleton.1 h; omega) hV22.size (by omega)
          obtain ⟨hgT, hgF⟩ := hgr; have hV23 := hE410; refine cw_region ?_; refine wl_val rfl (ex_loadBlk rfl Try.agg25 Try.size25 hB408 rfl) ?_; refine wl_bslice (vs := [_]) rfl Try.slice23 rfl rfl rfl rfl fun b99 w418 hO419 hs420 hw421 => ?_; have hA422 := Apart.new (Lt.blk hB412) hs420; have hA423 := Apart.new (Lt.blk hB413) hs420; have hA424 := Apart.new (Lt.blk hB408) hs420; have hA425 := Apart.new (Lt.blk hB415) hs420; have hA426 := Apart.new (Lt.own hO416) hs420; have hA427 := Apart.new (Lt.own hO417) hs420; have hG428 := Ge.new hE410 hs420; have hG429 := Ge.new hE411 hs420; have hG430 := Ge.new (Evo.refl ([]) w407) hs420; have hE431 := hE410.then hw421; have hE432 := hE411.then hw421; have hE433 := (Evo.refl ([]) w407).then hw421; have hB434 := hw421.blk0 hB412; have hB435 := hw421.blk0 hB413; have hF436 := hF414.evo0 hw421; have hB437 := hw421.blk0 hB408; have hB438 := hw421.blk0 hB415; have hO439 := hO416.evo0 hw421; have hO440 := hO417.evo0 hw421; refine wl_a ?_; refine wl_nil (nrm_then ?_); refine cw_ret (bodyp_ret (body_ret1 rfl rfl ?_)); have hK := kout_one hO419 hgT hgF (hG430 _ rfl) hE433 (fun _ _ h => by cases h) hV23.size; obtain ⟨ka9, kc9, ko9, cs9, bs9, hv9, hk1, hk2, hk3⟩ := hK
          refine ⟨[rxGrp ((st.names.length : Int) + 1) o.name x], { st2 with pos := st2.pos + 1, opn := st2.opn - 1, now := st.now }, (br_go ho hno hne250 hc42 (fun h => hnf h.2)).trans (by rw [if_pos hc47, hx]; exact (if_pos h41).trans (by rw [if_pos hc47])), hE431, ⟨(by show st2.opn - 1 = st.opn; omega), (by show st.pos ≤ st2.pos + 1; omega), h41.asc (by decide) hmv.bd, hmv.nm⟩, (by show st.pos < st2.pos + 1; omega), (by show 1 + st.pos ≤ st2.pos + 1; omega), a3, c3, ob3, ka9, kc9, ko9, cs9, bs9, hv9, hk1, hk2, hk3, ⟨hB438, hO439, hR3.ne⟩, hnb4⟩
         ·skip
          rw [hc47] at hc91; cases hc91
       ·skip
        have hnc : ¬ o.capt = true := by rw [hc47]; simp
        refine cw_skip (nrm_then ?_); refine cw_seq ?_; refine cw_any (fun w0 w' => Evo [b] w0 w') (by kernel_rfl) (fun w441 hw442 => ?_); have hE443 := hV271.then hw442; have hB444 := hw442.blk0 hR1.blk; have hO445 := hR1.own.evo0 hw442; have hB446 := hw442.blk0 hb3; have hB447 := hw442.blk0 hb4; refine ae_take 0 rfl (by kernel_rfl) (by kernel_rfl) (by kernel_rfl) rfl (fun _ hS => ex_move rfl) (Evo.refl [b] w441) ?_; refine ae_take 1 rfl (by kernel_rfl) (by kernel_rfl) (by kernel_rfl) rfl (fun _ hS => ex_nilCheck rfl) (Evo.refl [b] w441) ?_; refine ae_take 2 rfl (by kernel_rfl) (by kernel_rfl) (by kernel_rfl) rfl (fun _ hS => ex_fieldAddr rfl Try.fld41_1) (Evo.refl [b] w441) ?_; refine ae_take 4 rfl (by kernel_rfl) (by kernel_rfl) (by kernel_rfl) rfl (fun _ hS => ex_fieldAddr rfl Try.fld68_0) (Evo.refl [b] w441) ?_; refine ae_take 5 rfl (by kernel_rfl) (by kernel_rfl) (by kernel_rfl) rfl (fun _ hS => ex_load1 rfl Try.agg3 (cell_nth (hS.blk hB446 (hA1.symm.nmem1)) rfl)) (Evo.refl [b] w441) ?_; refine ae_loud [3] (by kernel_rfl) rfl ⟨?_, trivial⟩; refine a_step rfl ?_; refine wl_val rfl (ex_load1 rfl Try.agg3 (cell_nth hB444 rfl)) ?_; refine wl_nil (ae_next (.inl (Evo.refl [b] w441)) ?_); refine ae_take 6 rfl (by kernel_rfl) (by kernel_rfl) (by kernel_rfl) rfl (fun _ hS => ex_add_i64 rfl rfl (by omega) (by omega)) (Evo.refl [b] w441) ?_; refine ae_take 7 rfl (by kernel_rfl) (by kernel_rfl) (by kernel_rfl) rfl (fun _ hS => ex_nilCheck rfl) (Evo.refl [b] w441) ?_; refine ae_take 8 rfl (by kernel_rfl) (by kernel_rfl) (by kernel_rfl) rfl (fun _ hS => ex_fieldAddr rfl Try.fld41_1) (Evo.refl [b] w441) ?_; refine ae_loud [9] (by kernel_rfl) rfl ⟨?_, trivial⟩; refine a_step rfl ?_
        refine wl_store1 rfl rfl (by first | rfl | assumption) Try.size3 hB444 rfl fun w448 hB449 hw450 => ?_
        have hE451 := hE443.step hw450 (fun y hy => .inl (by rw [List.mem_singleton.1 hy]; simp))
        have hE452 := (Evo.refl [b] w441).step hw450 (fun y hy => .inl hy); have hO453 := hO445.evo hw450 hR1.ap.symm.own1; have hB454 := hw450.blk hB446 hA1.symm.nmem1; have hB455 := hw450.blk hB447 hA2.symm.nmem1
        try simp only [List.setIfInBounds_toArray, List.set_cons_zero, List.set_cons_succ, Nat.reduceAdd, Nat.zero_add, Nat.add_zero] at hB449
        refine wl_nil (ae_next (.inl hE452) ?_); refine ae_done (by kernel_rfl) (nrm_then ?_); refine cw_seq ?_; refine cw_region ?_; refine wl_m ?_; refine wl_val rfl (ex_nilCheck rfl) ?_; refine wl_val rfl (ex_fieldAddr rfl Try.fld41_3) ?_; refine wl_val rfl (ex_load1 rfl Try.agg3 (cell_nth hB449 rfl)) ?_; refine wl_val rfl (ex_add_i64 rfl rfl (by omega) (by omega)) ?_; refine wl_val rfl (ex_nilCheck rfl) ?_; refine wl_val rfl (ex_fieldAddr rfl Try.fld41_3) ?_; refine wl_store1 rfl rfl (by first | rfl | assumption) Try.size3 hB449 rfl fun w456 hB457 hw458 => ?_
        have hE459 := hE451.step hw458 (fun y hy => .inl (by rw [List.mem_singleton.1 hy]; simp))
        have hO460 := hO453.evo hw458 hR1.ap.symm.own1; have hB461 := hw458.blk hB454 hA1.symm.nmem1; have hB462 := hw458.blk hB455 hA2.symm.nmem1
        try simp only [List.setIfInBounds_toArray, List.set_cons_zero, List.set_cons_succ, Nat.reduceAdd, Nat.zero_add, Nat.add_zero] at hB457
        refine wl_nil (nrm_then ?_); refine cw_seq ?_; refine cw_region ?_; refine wl_m ?_; refine wl_val rfl (ex_fieldAddr rfl Try.fld68_2) ?_; refine wl_val rfl (ex_loadA (o := 2) rfl Try.agg38 Try.size38 (vs := [.bool o.thn.fold, .bool o.thn.lines, .bool o.thn.dots, .bool o.thn.lazy]) rfl (opv_flags hB461)) ?_; refine wl_val rfl (ex_nilCheck rfl) ?_; refine wl_val rfl (ex_fieldAddr rfl Try.fld41_2) ?_; refine wl_store4 (f1 := .bool o.thn.fold) (f2 := .bool o.thn.lines) (f3 := .bool o.thn.dots) (f4 := .bool o.thn.lazy) rfl rfl Try.size38 ⟨rfl, rfl, rfl, rfl, trivial⟩ hB457 fun w463 hB464 hw465 => ?_
        have hE466 := hE459.step hw465 (fun y hy => .inl (by rw [List.mem_singleton.1 hy]; simp))
        have hO467 := hO460.evo hw465 hR1.ap.symm.own1; have hB468 := hw465.blk hB461 hA1.symm.nmem1; have hB469 := hw465.blk hB462 hA2.symm.nmem1; refine wl_nil (nrm_then ?_); refine cw_seq ?_; refine cw_region ?_; refine wl_m ?_; refine wl_callP1 (vs := [_]) Try.goes9 rfl (hex (by omega) (st := ⟨st.pos + o.size, o.thn, st.opn + 1, st.names⟩) ⟨hB464, hO467, hR1.ne⟩ rfl hz2 hnl (hG.evo hE466 hgw) hGo) rfl ?_ ?_
        ·skip
         intro pv wp hpp; obtain ⟨e9, hpe, rfl, hpw⟩ := hpp; exact And.intro rfl ⟨_, rfl, _, (br_go ho hno hne250 hc42 (fun h => hnc h.1)).trans (by rw [if_neg hnc, hpe]), rfl, (hE466).step hpw (nb_mem (show NB w ob ob from .inl rfl))⟩
        rintro rv w470 ⟨x, st2, hx, hw471, hmv, a3, c3, ob3, vs, bs, rfl, hOT, hFr, hR3, hnb3⟩; have hV9 := hE466; have hA63 := ap_ob hA3.symm (Lt.blk hB468) hnb3; have hA64 := ap_ob hA4.symm (Lt.blk hB469) hnb3; have hnb4 := (show NB w ob ob from .inl rfl).older hnb3 hV9.size; have hFr9 : Fr w bs := hFr.older hV9.size; have hE472 := hE466.step hw471 (nb_mem (show NB w ob ob from .inl rfl)); have hB473 := hw471.blk hB468 (nm_2 hA1.symm hA3.symm); have hB474 := hw471.blk hB469 (nm_2 hA2.symm hA4.symm); obtain ⟨ra, rc, ka, kc, rfl⟩ := id hOT.nine; have hltx := hOT.lt; refine wl_alloc rfl Try.zero25 fun b6 w475 hB476 hs477 hw478 => ?_; have hsz_b6 := hs477; have hA479 := Apart.new (Lt.blk hB473) hs477; have hA480 := Apart.new (Lt.blk hB474) hs477; have hA481 := Apart.new (Lt.blk hR3.blk) hs477; have hA482 := Apart.new (Lt.own hR3.own) hs477; have hG483 := Ge.new hE472 hs477; have hE484 := hE472.then hw478; have hB485 := hw478.blk0 hB473; have hB486 := hw478.blk0 hB474; have hB487 := hw478.blk0 hR3.blk; have hO488 := hR3.own.evo0 hw478; have hF489 := hOT.evo0 hw478; refine wl_storeBlk rfl rfl Try.size25 hB476 rfl rfl ⟨by first | rfl | assumption, by first | rfl | assumption, by first | rfl | assumption, by first | rfl | assumption, by first | rfl | assumption, by first | rfl | assumption, by first | rfl | assumption, by first | rfl | assumption, by first | rfl | assumption, trivial⟩ fun w490 hB491 hw492 => ?_; have hE493 := hE484.step hw492 hG483.mem1; have hB494 := hw492.blk hB485 hA479.nmem1; have hB495 := hw492.blk hB486 hA480.nmem1; have hB496 := hw492.blk hB487 hA481.nmem1; have hO497 := hO488.evo hw492 hA482.own1
        have hF498 := hF489.evo hw492 (fun q hq h => by have h8 := hltx q hq; have h9 := List.mem_singleton.1 h; omega)
        try simp only [List.setIfInBounds_toArray, List.set_cons_zero, List.set_cons_succ, Nat.reduceAdd, Nat.zero_add, Nat.add_zero] at hB491
        refine wl_nil (nrm_then ?_); refine cw_seq ?_; refine cw_seq ?_; refine cw_region ?_; refine wl_m ?_; refine wl_call1 (vs := [_, _]) Try.goes14 rfl (take_ok ⟨hB496, hO497, hR3.ne⟩ (by omega) 41 (by decide)) rfl ?_; rintro _ w499 ⟨rfl, hw500, hR4⟩
        have hE501 := hE493.step hw500 (fun y hy => .inl (by rw [List.mem_singleton.1 hy]; simp))
        have hB502 := hw500.blk hB494 ((by first | exact hA1.symm.own1 | exact hA1.symm.nmem1)); have hB503 := hw500.blk hB495 ((by first | exact hA2.symm.own1 | exact hA2.symm.nmem1)); have hB504 := hF498.evo hw500 (fr_b hFr9 hbw (Nat.le_refl _)); have hB505 := hw500.blk hB491 ((by first | exact hA481.symm.own1 | exact hA481.symm.nmem1)); refine wl_val rfl (ex_not rfl) ?_; refine wl_nil (nrm_then ?_); refine cw_if rfl (fun hc77 => ?_) (fun hc77 => ?_)
        ·skip
         refine cw_region ?_; refine wl_callP1 (vs := [_]) Try.goes10 rfl (fail_ok 80) rfl ?_ ?_
         ·skip
          intro pv wp hpp; obtain ⟨rfl, hpw⟩ := hpp
          exact And.intro rfl ⟨_, rfl, _, (br_go ho hno hne250 hc42 (fun h => hnc h.1)).trans (by rw [if_neg hnc, hx]; exact if_neg hc77), rfl, (hE501).then hpw⟩
         intro _ _ hF; exact hF.elim
        ·skip
         have h41 : isB s st2.pos 41 := Classical.not_not.1 hc77; rw [if_pos h41] at hR4; have ho2 : st2.opn = st.opn + 1 := hmv.opn; have hle2 : st.pos + o.size ≤ st2.pos := hmv.le
         have ho3 : ((adv st2 1).opn : Int) - 1 = ((st2.opn - 1 : Nat) : Int) := by show ((st2.opn : Nat) : Int) - 1 = _; omega
         refine cw_skip (nrm_then ?_); refine cw_seq ?_; refine cw_region ?_; refine wl_m ?_; refine wl_val rfl (ex_nilCheck rfl) ?_; refine wl_val rfl (ex_fieldAddr rfl Try.fld41_3) ?_; refine wl_val rfl (ex_load1 rfl Try.agg3 (cell_nth hR4.blk rfl)) ?_; refine wl_val rfl (ex_sub_i64 rfl rfl (by omega) (by omega)) ?_; rw [ho3]; refine wl_val rfl (ex_nilCheck rfl) ?_; refine wl_val rfl (ex_fieldAddr rfl Try.fld41_3) ?_; refine wl_store1 rfl rfl (by first | rfl | assumption) Try.size3 hR4.blk rfl fun w508 hB509 hw510 => ?_
         have hE511 := hE501.step hw510 (fun y hy => .inl (by rw [List.mem_singleton.1 hy]; simp))
         have hB512 := hw510.blk hB502 hA1.symm.nmem1; have hB513 := hw510.blk hB503 hA2.symm.nmem1; have hF514 := hB504.evo hw510 (fr_b hFr9 hbw (Nat.le_refl _)); have hB515 := hw510.blk hB505 hA481.symm.nmem1; have hO516 := hR4.own.evo hw510 hR4.ap.symm.own1
         try simp only [List.setIfInBounds_toArray, List.set_cons_zero, List.set_cons_succ, Nat.reduceAdd, Nat.zero_add, Nat.add_zero] at hB509
         refine wl_nil (nrm_then ?_); refine cw_seq ?_; refine cw_region ?_; refine wl_m ?_; refine wl_val rfl (ex_loadBlk rfl Try.agg38 Try.size38 hB513 rfl) ?_; refine wl_val rfl (ex_nilCheck rfl) ?_; refine wl_val rfl (ex_fieldAddr rfl Try.fld41_2) ?_; refine wl_store4 (f1 := .bool st.now.fold) (f2 := .bool st.now.lines) (f3 := .bool st.now.dots) (f4 := .bool st.now.lazy) rfl rfl Try.size38 ⟨rfl, rfl, rfl, rfl, trivial⟩ hB509 fun w517 hB518 hw519 => ?_
         have hE520 := hE511.step hw519 (fun y hy => .inl (by rw [List.mem_singleton.1 hy]; simp))
         have hB521 := hw519.blk hB512 hA1.symm.nmem1; have hB522 := hw519.blk hB513 hA2.symm.nmem1; have hF523 := hF514.evo hw519 (fr_b hFr9 hbw (Nat.le_refl _)); have hB524 := hw519.blk hB515 hA481.symm.nmem1; have hO525 := hO516.evo hw519 hR4.ap.symm.own1; refine wl_nil (nrm_then ?_); refine cw_seq ?_; refine cw_seq ?_; refine cw_region ?_; refine wl_val rfl (ex_fieldAddr rfl Try.fld68_3) ?_; refine wl_val rfl (ex_load1 rfl Try.agg4 (cell_nth hB521 rfl)) ?_; refine wl_nil (nrm_then ?_); refine cw_ifb rfl (fun hc91 => ?_) (fun hc91 => ?_)
         ·skip
          rw [hc47] at hc91; cases hc91
         ·skip
          refine cw_skip (nrm_then ?_); refine cw_seq ?_; have hgr : OT x _ _ bs ∧ Fr w bs := ⟨hF523, hFr9⟩; obtain ⟨hgT, hgF⟩ := hgr; have hV23 := hE520; refine cw_region ?_; refine wl_val rfl (ex_loadBlk rfl Try.agg25 Try.size25 hB524 rfl) ?_; refine wl_bslice (vs := [_]) rfl Try.slice23 rfl rfl rfl rfl fun b99 w526 hO527 hs528 hw529 => ?_; have hA530 := Apart.new (Lt.blk hB521) hs528; have hA531 := Apart.new (Lt.blk hB522) hs528; have hA532 := Apart.new (Lt.blk hB524) hs528; have hA533 := Apart.new (Lt.blk hB518) hs528; have hA534 := Apart.new (Lt.own hO525) hs528; have hG535 := Ge.new hE520 hs528; have hG536 := Ge.new (Evo.refl ([]) w517) hs528; have hE537 := hE520.then hw529; have hE538 := (Evo.refl ([]) w517).then hw529; have hB539 := hw529.blk0 hB521; have hB540 := hw529.blk0 hB522; have hF541 := hF523.evo0 hw529; have hB542 := hw529.blk0 hB524; have hB543 := hw529.blk0 hB518; have hO544 := hO525.evo0 hw529; refine wl_a ?_; refine wl_nil (nrm_then ?_); refine cw_ret (bodyp_ret (body_ret1 rfl rfl ?_)); have hK := kout_one hO527 hgT hgF (hG536 _ rfl) hE538 (fun _ _ h => by cases h) hV23.size; obtain ⟨ka9, kc9, ko9, cs9, bs9, hv9, hk1, hk2, hk3⟩ := hK
          refine ⟨[x], { st2 with pos := st2.pos + 1, opn := st2.opn - 1, now := st.now }, (br_go ho hno hne250 hc42 (fun h => hnc h.1)).trans (by rw [if_neg hnc, hx]; exact (if_pos h41).trans (by rw [if_neg hnc])), hE537, ⟨(by show st2.opn - 1 = st.opn; omega), (by show st.pos ≤ st2.pos + 1; omega), h41.asc (by decide) hmv.bd, hmv.nm⟩, (by show st.pos < st2.pos + 1; omega), (by show 1 + st.pos ≤ st2.pos + 1; omega), a3, c3, ob3, ka9, kc9, ko9, cs9, bs9, hv9, hk1, hk2, hk3, ⟨hB543, hO544, hR3.ne⟩, hnb4⟩
   ·skip
    refine wl_n ?_; refine wl_n ?_; refine wl_pf ?_; refine wl_nil (nrm_then ?_); refine cw_false rfl ?_; refine cw_skip (nrm_then ?_); refine cw_seq ?_; refine cw_seq ?_; have hno : ¬ (o.err = 0 ∧ o.sett = true) := fun h => hs16 h.1; refine cw_region ?_; refine wl_m ?_; refine wl_val rfl (ex_nilCheck rfl) ?_; refine wl_val rfl (ex_fieldAddr rfl Try.fld41_3) ?_; refine wl_val rfl (ex_load1 rfl Try.agg3 (cell_nth hR1.blk rfl)) ?_; refine wl_val rfl (ex_eql rfl rfl) ?_; refine wl_nil (nrm_then ?_); refine cw_if rfl (fun hc38 => ?_) (fun hc38 => ?_)
    ·skip
     refine cw_region ?_; refine wl_callP1 (vs := [_]) Try.goes10 rfl (fail_ok 3) rfl ?_ ?_
     ·skip
      intro pv wp hpp; obtain ⟨rfl, hpw⟩ := hpp; exact And.intro rfl ⟨_, rfl, _, br_deep ho hno (by omega), rfl, (hV271).then hpw⟩
     intro _ _ hF; exact hF.elim
    ·skip
     refine cw_skip (nrm_then ?_); refine cw_seq ?_; refine cw_seq ?_
     have hne250 : ¬ st.opn = 250 := by omega
     refine cw_region ?_; refine wl_val rfl (ex_fieldAddr rfl Try.fld68_5) ?_; refine wl_val rfl (ex_load1 rfl Try.agg26 (cell_nth hb3 rfl)) ?_; refine wl_val rfl (ex_neq rfl rfl) ?_; refine wl_nil (nrm_then ?_); refine cw_if rfl (fun hc42 => ?_) (fun hc42 => ?_)
     ·skip
      refine cw_region ?_; refine wl_val rfl (ex_fieldAddr rfl Try.fld68_5) ?_; refine wl_val rfl (ex_load1 rfl Try.agg26 (cell_nth hb3 rfl)) ?_; refine wl_callP1 (vs := [_]) Try.goes10 rfl (fail_ok o.err) rfl ?_ ?_
      ·skip
       intro pv wp hpp; obtain ⟨rfl, hpw⟩ := hpp; exact And.intro rfl ⟨_, rfl, _, br_err ho hno hne250 hc42, rfl, (hV271).then hpw⟩
      intro _ _ hF; exact hF.elim
     ·skip
      refine cw_skip (nrm_then ?_); refine cw_seq ?_; have herr : o.err = 0 := Classical.not_not.1 hc42; obtain ⟨hz1, hz2, hz3⟩ := hob0 herr; refine cw_region ?_; refine wl_a ?_; refine wl_nil (nrm_then ?_); refine cw_seq ?_; refine cw_seq ?_; refine cw_region ?_; refine wl_val rfl (ex_fieldAddr rfl Try.fld68_3) ?_; refine wl_val rfl (ex_load1 rfl Try.agg4 (cell_nth hb3 rfl)) ?_; refine wl_nil (nrm_then ?_); refine cw_ifb rfl (fun hc47 => ?_) (fun hc47 => ?_)
      ·skip
       have hVW9 := hV271; refine cw_region ?_; refine wl_m ?_; refine wl_val rfl (ex_fieldAddr rfl Try.fld68_1) ?_; refine wl_val rfl (ex_load1 rfl Try.agg9 (cell_nth hb3 rfl)) ?_; refine wl_callP1 (vs := [_, _]) Try.goes33 rfl (newGroup_ok ⟨hR1.blk, hR1.own, hR1.ne⟩ o.name hnl) rfl ?_ ?_
       ·skip
        intro pv wp hpp; obtain ⟨hfl, rfl, hpw⟩ := hpp; exact And.intro rfl ⟨_, rfl, _, br_full ho hno hne250 hc42 hc47 hfl, rfl, (hV271).then hpw⟩
       rintro _ w549 ⟨hnf, rfl, hw550, a2, c2, ob2, hR2, hnb⟩; have hA53 := ap_ob hA3.symm (Lt.blk hb3) hnb; have hA54 := ap_ob hA4.symm (Lt.blk hb4) hnb; have hGo2 := ap_ob hGo (glb_lt (hG.evo hV271 hgw)) hnb; have hnb2 : NB w ob ob2 := (show NB w ob ob from .inl rfl).older hnb hVW9.size; have hE551 := hV271.step hw550 (fun y hy => .inl hy); have hB552 := hw550.blk hb3 (nm_2 hA1.symm hA3.symm); have hB553 := hw550.blk hb4 (nm_2 hA2.symm hA4.symm); have hpp2 : ({ st with names := st.names ++ [o.name] } : PS).pos = st.pos := rfl; have hpo2 : ({ st with names := st.names ++ [o.name] } : PS).opn = st.opn := rfl
       have hnl2 : (st.names ++ [o.name]).length ≤ 100 := by rw [List.length_append]; have : st.names.length ≠ 100 := fun h => hnf (.inl h); simp; omega
       refine wl_a ?_; refine wl_nil (nrm_then ?_); refine cw_seq ?_; refine cw_any (fun w0 w' => Evo [b] w0 w') (by kernel_rfl) (fun w554 hw555 => ?_); have hE556 := hE551.then hw555; have hB557 := hw555.blk0 hB552; have hB558 := hw555.blk0 hB553; have hB559 := hw555.blk0 hR2.blk; have hO560 := hR2.own.evo0 hw555; refine ae_take 0 rfl (by kernel_rfl) (by kernel_rfl) (by kernel_rfl) rfl (fun _ hS => ex_move rfl) (Evo.refl [b] w554) ?_; refine ae_take 1 rfl (by kernel_rfl) (by kernel_rfl) (by kernel_rfl) rfl (fun _ hS => ex_nilCheck rfl) (Evo.refl [b] w554) ?_; refine ae_take 2 rfl (by kernel_rfl) (by kernel_rfl) (by kernel_rfl) rfl (fun _ hS => ex_fieldAddr rfl Try.fld41_1) (Evo.refl [b] w554) ?_; refine ae_take 4 rfl (by kernel_rfl) (by kernel_rfl) (by kernel_rfl) rfl (fun _ hS => ex_fieldAddr rfl Try.fld68_0) (Evo.refl [b] w554) ?_; refine ae_take 5 rfl (by kernel_rfl) (by kernel_rfl) (by kernel_rfl) rfl (fun _ hS => ex_load1 rfl Try.agg3 (cell_nth (hS.blk hB557 (hA1.symm.nmem1)) rfl)) (Evo.refl [b] w554) ?_; refine ae_loud [3] (by kernel_rfl) rfl ⟨?_, trivial⟩; refine a_step rfl ?_; refine wl_val rfl (ex_load1 rfl Try.agg3 (cell_nth hB559 rfl)) ?_; refine wl_nil (ae_next (.inl (Evo.refl [b] w554)) ?_); refine ae_take 6 rfl (by kernel_rfl) (by kernel_rfl) (by kernel_rfl) rfl (fun _ hS => ex_add_i64 rfl rfl (by omega) (by omega)) (Evo.refl [b] w554) ?_; refine ae_take 7 rfl (by kernel_rfl) (by kernel_rfl) (by kernel_rfl) rfl (fun _ hS => ex_nilCheck rfl) (Evo.refl [b] w554) ?_; refine ae_take 8 rfl (by kernel_rfl) (by kernel_rfl) (by kernel_rfl) rfl (fun _ hS => ex_fieldAddr rfl Try.fld41_1) (Evo.refl [b] w554) ?_; refine ae_loud [9] (by kernel_rfl) rfl ⟨?_, trivial⟩; refine a_step rfl ?_
       refine wl_store1 rfl rfl (by first | rfl | assumption) Try.size3 hB559 rfl fun w561 hB562 hw563 => ?_
       have hE564 := hE556.step hw563 (fun y hy => .inl (by rw [List.mem_singleton.1 hy]; simp))
       have hE565 := (Evo.refl [b] w554).step hw563 (fun y hy => .inl hy); have hB566 := hw563.blk hB557 hA1.symm.nmem1; have hB567 := hw563.blk hB558 hA2.symm.nmem1; have hO568 := hO560.evo hw563 hR2.ap.symm.own1
       try simp only [List.setIfInBounds_toArray, List.set_cons_zero, List.set_cons_succ, Nat.reduceAdd, Nat.zero_add, Nat.add_zero] at hB562
       refine wl_nil (ae_next (.inl hE565) ?_); refine ae_done (by kernel_rfl) (nrm_then ?_); refine cw_seq ?_; refine cw_region ?_; refine wl_m ?_; refine wl_val rfl (ex_nilCheck rfl) ?_; refine wl_val rfl (ex_fieldAddr rfl Try.fld41_3) ?_; refine wl_val rfl (ex_load1 rfl Try.agg3 (cell_nth hB562 rfl)) ?_; refine wl_val rfl (ex_add_i64 rfl rfl (by omega) (by omega)) ?_; refine wl_val rfl (ex_nilCheck rfl) ?_; refine wl_val rfl (ex_fieldAddr rfl Try.fld41_3) ?_; refine wl_store1 rfl rfl (by first | rfl | assumption) Try.size3 hB562 rfl fun w569 hB570 hw571 => ?_
       have hE572 := hE564.step hw571 (fun y hy => .inl (by rw [List.mem_singleton.1 hy]; simp))
       have hB573 := hw571.blk hB566 hA1.symm.nmem1; have hB574 := hw571.blk hB567 hA2.symm.nmem1; have hO575 := hO568.evo hw571 hR2.ap.symm.own1
       try simp only [List.setIfInBounds_toArray, List.set_cons_zero, List.set_cons_succ, Nat.reduceAdd, Nat.zero_add, Nat.add_zero] at hB570
       refine wl_nil (nrm_then ?_); refine cw_seq ?_; refine cw_region ?_; refine wl_m ?_; refine wl_val rfl (ex_fieldAddr rfl Try.fld68_2) ?_; refine wl_val rfl (ex_loadA (o := 2) rfl Try.agg38 Try.size38 (vs := [.bool o.thn.fold, .bool o.thn.lines, .bool o.thn.dots, .bool o.thn.lazy]) rfl (opv_flags hB573)) ?_; refine wl_val rfl (ex_nilCheck rfl) ?_; refine wl_val rfl (ex_fieldAddr rfl Try.fld41_2) ?_; refine wl_store4 (f1 := .bool o.thn.fold) (f2 := .bool o.thn.lines) (f3 := .bool o.thn.dots) (f4 := .bool o.thn.lazy) rfl rfl Try.size38 ⟨rfl, rfl, rfl, rfl, trivial⟩ hB570 fun w576 hB577 hw578 => ?_
       have hE579 := hE572.step hw578 (fun y hy => .inl (by rw [List.mem_singleton.1 hy]; simp))
       have hB580 := hw578.blk hB573 hA1.symm.nmem1; have hB581 := hw578.blk hB574 hA2.symm.nmem1; have hO582 := hO575.evo hw578 hR2.ap.symm.own1; refine wl_nil (nrm_then ?_); refine cw_seq ?_; refine cw_region ?_; refine wl_m ?_; refine wl_callP1 (vs := [_]) Try.goes9 rfl (hex (by omega) (st := ⟨st.pos + o.size, o.thn, st.opn + 1, st.names ++ [o.name]⟩) ⟨hB577, hO582, hR2.ne⟩ rfl hz2 hnl2 (hG.evo hE579 hgw) hGo2) rfl ?_ ?_
       ·skip
        intro pv wp hpp; obtain ⟨e9, hpe, rfl, hpw⟩ := hpp; exact And.intro rfl ⟨_, rfl, _, (br_go ho hno hne250 hc42 (fun h => hnf h.2)).trans (by rw [if_pos hc47, hpe]), rfl, (hE579).step hpw (nb_mem hnb2)⟩
       rintro rv w583 ⟨x, st2, hx, hw584, hmv, a3, c3, ob3, vs, bs, rfl, hOT, hFr, hR3, hnb3⟩; have hV9 := hE579; have hA63 := ap_ob hA53 (Lt.blk hB580) hnb3; have hA64 := ap_ob hA54 (Lt.blk hB581) hnb3; have hnb4 := hnb2.older hnb3 hV9.size; have hFr9 : Fr w bs := hFr.older hV9.size; have hE585 := hE579.step hw584 (nb_mem hnb2); have hB586 := hw584.blk hB580 (nm_2 hA1.symm hA53); have hB587 := hw584.blk hB581 (nm_2 hA2.symm hA54); obtain ⟨ra, rc, ka, kc, rfl⟩ := id hOT.nine; have hltx := hOT.lt; refine wl_alloc rfl Try.zero25 fun b6 w588 hB589 hs590 hw591 => ?_; have hsz_b6 := hs590; have hA592 := Apart.new (Lt.blk hB586) hs590; have hA593 := Apart.new (Lt.blk hB587) hs590; have hA594 := Apart.new (Lt.blk hR3.blk) hs590; have hA595 := Apart.new (Lt.own hR3.own) hs590; have hG596 := Ge.new hE585 hs590; have hE597 := hE585.then hw591; have hB598 := hw591.blk0 hB586; have hB599 := hw591.blk0 hB587; have hB600 := hw591.blk0 hR3.blk; have hO601 := hR3.own.evo0 hw591; have hF602 := hOT.evo0 hw591; refine wl_storeBlk rfl rfl Try.size25 hB589 rfl rfl ⟨by first | rfl | assumption, by first | rfl | assumption, by first | rfl | assumption, by first | rfl | assumption, by first | rfl | assumption, by first | rfl | assumption, by first | rfl | assumption, by first | rfl | assumption, by first | rfl | assumption, trivial⟩ fun w603 hB604 hw605 => ?_; have hE606 := hE597.step hw605 hG596.mem1; have hB607 := hw605.blk hB598 hA592.nmem1; have hB608 := hw605.blk hB599 hA593.nmem1; have hB609 := hw605.blk hB600 hA594.nmem1; have hO610 := hO601.evo hw605 hA595.own1
       have hF611 := hF602.evo hw605 (fun q hq h => by have h8 := hltx q hq; have h9 := List.mem_singleton.1 h; omega)
       try simp only [List.setIfInBounds_toArray, List.set_cons_zero, List.set_cons_succ, Nat.reduceAdd, Nat.zero_add, Nat.add_zero] at hB604
       refine wl_nil (nrm_then ?_); refine cw_seq ?_; refine cw_seq ?_; refine cw_region ?_; refine wl_m ?_; refine wl_call1 (vs := [_, _]) Try.goes14 rfl (take_ok ⟨hB609, hO610, hR3.ne⟩ (by omega) 41 (by decide)) rfl ?_; rintro _ w612 ⟨rfl, hw613, hR4⟩
       have hE614 := hE606.step hw613 (fun y hy => .inl (by rw [List.mem_singleton.1 hy]; simp))
       have hB615 := hw613.blk hB607 ((by first | exact hA1.symm.own1 | exact hA1.symm.nmem1)); have hB616 := hw613.blk hB608 ((by first | exact hA2.symm.own1 | exact hA2.symm.nmem1)); have hB617 := hF611.evo hw613 (fr_b hFr9 hbw (Nat.le_refl _)); have hB618 := hw613.blk hB604 ((by first | exact hA594.symm.own1 | exact hA594.symm.nmem1)); refine wl_val rfl (ex_not rfl) ?_; refine wl_nil (nrm_then ?_); refine cw_if rfl (fun hc77 => ?_) (fun hc77 => ?_)
       ·skip
        refine cw_region ?_; refine wl_callP1 (vs := [_]) Try.goes10 rfl (fail_ok 80) rfl ?_ ?_
        ·skip
         intro pv wp hpp; obtain ⟨rfl, hpw⟩ := hpp
         exact And.intro rfl ⟨_, rfl, _, (br_go ho hno hne250 hc42 (fun h => hnf h.2)).trans (by rw [if_pos hc47, hx]; exact if_neg hc77), rfl, (hE614).then hpw⟩
        intro _ _ hF; exact hF.elim
       ·skip
        have h41 : isB s st2.pos 41 := Classical.not_not.1 hc77; rw [if_pos h41] at hR4; have ho2 : st2.opn = st.opn + 1 := hmv.opn; have hle2 : st.pos + o.size ≤ st2.pos := hmv.le
        have ho3 : ((adv st2 1).opn : Int) - 1 = ((st2.opn - 1 : Nat) : Int) := by show ((st2.opn : Nat) : Int) - 1 = _; omega
        refine cw_skip (nrm_then ?_); refine cw_seq ?_; refine cw_region ?_; refine wl_m ?_; refine wl_val rfl (ex_nilCheck rfl) ?_; refine wl_val rfl (ex_fieldAddr rfl Try.fld41_3) ?_; refine wl_val rfl (ex_load1 rfl Try.agg3 (cell_nth hR4.blk rfl)) ?_; refine wl_val rfl (ex_sub_i64 rfl rfl (by omega) (by omega)) ?_; rw [ho3]; refine wl_val rfl (ex_nilCheck rfl) ?_; refine wl_val rfl (ex_fieldAddr rfl Try.fld41_3) ?_; refine wl_store1 rfl rfl (by first | rfl | assumption) Try.size3 hR4.blk rfl fun w621 hB622 hw623 => ?_
        have hE624 := hE614.step hw623 (fun y hy => .inl (by rw [List.mem_singleton.1 hy]; simp))
        have hB625 := hw623.blk hB615 hA1.symm.nmem1; have hB626 := hw623.blk hB616 hA2.symm.nmem1; have hF627 := hB617.evo hw623 (fr_b hFr9 hbw (Nat.le_refl _)); have hB628 := hw623.blk hB618 hA594.symm.nmem1; have hO629 := hR4.own.evo hw623 hR4.ap.symm.own1
        try simp only [List.setIfInBounds_toArray, List.set_cons_zero, List.set_cons_succ, Nat.reduceAdd, Nat.zero_add, Nat.add_zero] at hB622
        refine wl_nil (nrm_then ?_); refine cw_seq ?_; refine cw_region ?_; refine wl_m ?_; refine wl_val rfl (ex_loadBlk rfl Try.agg38 Try.size38 hB626 rfl) ?_; refine wl_val rfl (ex_nilCheck rfl) ?_; refine wl_val rfl (ex_fieldAddr rfl Try.fld41_2) ?_; refine wl_store4 (f1 := .bool st.now.fold) (f2 := .bool st.now.lines) (f3 := .bool st.now.dots) (f4 := .bool st.now.lazy) rfl rfl Try.size38 ⟨rfl, rfl, rfl, rfl, trivial⟩ hB622 fun w630 hB631 hw632 => ?_
        have hE633 := hE624.step hw632 (fun y hy => .inl (by rw [List.mem_singleton.1 hy]; simp))
        have hB634 := hw632.blk hB625 hA1.symm.nmem1; have hB635 := hw632.blk hB626 hA2.symm.nmem1; have hF636 := hF627.evo hw632 (fr_b hFr9 hbw (Nat.le_refl _)); have hB637 := hw632.blk hB628 hA594.symm.nmem1; have hO638 := hO629.evo hw632 hR4.ap.symm.own1; refine wl_nil (nrm_then ?_); refine cw_seq ?_; refine cw_seq ?_; refine cw_region ?_; refine wl_val rfl (ex_fieldAddr rfl Try.fld68_3) ?_; refine wl_val rfl (ex_load1 rfl Try.agg4 (cell_nth hB634 rfl)) ?_; refine wl_nil (nrm_then ?_); refine cw_ifb rfl (fun hc91 => ?_) (fun hc91 => ?_)
        ·skip
         have hOT9 := hF636; have hV22 := hE633; refine cw_region ?_; refine wl_m ?_; refine wl_val rfl (ex_fieldAddr rfl Try.fld68_1) ?_; refine wl_val rfl (ex_load1 rfl Try.agg9 (cell_nth hB634 rfl)) ?_; refine wl_val rfl (ex_loadBlk rfl Try.agg25 Try.size25 hB637 rfl) ?_; refine wl_bslice (vs := [_]) rfl Try.slice23 rfl rfl rfl rfl fun b96 w639 hO640 hs641 hw642 => ?_; have hA643 := Apart.new (Lt.blk hB634) hs641; have hA644 := Apart.new (Lt.blk hB635) hs641; have hA645 := Apart.new (Lt.blk hB637) hs641; have hA646 := Apart.new (Lt.blk hB631) hs641; have hA647 := Apart.new (Lt.own hO638) hs641; have hG648 := Ge.new hE633 hs641; have hG649 := Ge.new (Evo.refl ([b6]) w630) hs641; have hE650 := hE633.then hw642; have hE651 := (Evo.refl ([b6]) w630).then hw642; have hB652 := hw642.blk0 hB634; have hB653 := hw642.blk0 hB635; have hF654 := hF636.evo0 hw642; have hB655 := hw642.blk0 hB637; have hB656 := hw642.blk0 hB631; have hO657 := hO638.evo0 hw642; refine wl_val rfl (ex_build (vs := [(0, _), (6, _), (7, _), (8, _)]) Try.build25 rfl (cells := [_, _, _, _, _, _, _, _, _]) rfl) ?_; refine wl_storeBlk rfl rfl Try.size25 hB655 rfl rfl ⟨by first | rfl | assumption, by first | rfl | assumption, by first | rfl | assumption, by first | rfl | assumption, by first | rfl | assumption, by first | rfl | assumption, by first | rfl | assumption, by first | rfl | assumption, by first | rfl | assumption, trivial⟩ fun w658 hB659 hw660 => ?_; have hE661 := hE650.step hw660 hG596.mem1; have hE662 := hE651.step hw660 (fun y hy => .inl hy); have hB663 := hw660.blk hB652 hA592.nmem1; have hB664 := hw660.blk hB653 hA593.nmem1
         have hF665 := hF654.evo hw660 (fun q hq h => by have h8 := hltx q hq; have h9 := List.mem_singleton.1 h; omega)
         have hB666 := hw660.blk hB656 hA594.nmem1; have hO667 := hO657.evo hw660 hA595.own1; have hO668 := hO640.evo hw660 hA645.symm.own1
         try simp only [List.setIfInBounds_toArray, List.set_cons_zero, List.set_cons_succ, Nat.reduceAdd, Nat.zero_add, Nat.add_zero] at hB659
         refine wl_nil (nrm_then ?_); refine cw_seq ?_
         have hgr := ot_grp (n := (st.names.length : Int) + 1) (nm := o.name) hO668 hOT9 hFr9 (hG649 _ rfl) hE662 (fun q hq h => by have h8 := hltx q hq; have h9 := List.mem_singleton.1 h; omega) hV22.size (by omega)
         obtain ⟨hgT, hgF⟩ := hgr; have hV23 := hE661; refine cw_region ?_; refine wl_val rfl (ex_loadBlk rfl Try.agg25 Try.size25 hB659 rfl) ?_; refine wl_bslice (vs := [_]) rfl Try.slice23 rfl rfl rfl rfl fun b99 w669 hO670 hs671 hw672 => ?_; have hA673 := Apart.new (Lt.blk hB663) hs671; have hA674 := Apart.new (Lt.blk hB664) hs671; have hA675 := Apart.new (Lt.blk hB659) hs671; have hA676 := Apart.new (Lt.blk hB666) hs671; have hA677 := Apart.new (Lt.own hO667) hs671; have hA678 := Apart.new (Lt.own hO668) hs671; have hG679 := Ge.new hE661 hs671; have hG680 := Ge.new hE662 hs671; have hG681 := Ge.new (Evo.refl ([]) w658) hs671; have hE682 := hE661.then hw672; have hE683 := hE662.then hw672; have hE684 := (Evo.refl ([]) w658).then hw672; have hB685 := hw672.blk0 hB663; have hB686 := hw672.blk0 hB664; have hF687 := hF665.evo0 hw672; have hB688 := hw672.blk0 hB659; have hB689 := hw672.blk0 hB666; have hO690 := hO667.evo0 hw672; have hO691 := hO668.evo0 hw672; refine wl_a ?_; refine wl_nil (nrm_then ?_); refine cw_ret (bodyp_ret (body_ret1 rfl rfl ?_)); have hK := kout_one hO670 hgT hgF (hG681 _ rfl) hE684 (fun _ _ h => by cases h) hV23.size; obtain ⟨ka9, kc9, ko9, cs9, bs9, hv9, hk1, hk2, hk3⟩ := hK
         refine ⟨[rxGrp ((st.names.length : Int) + 1) o.name x], { st2 with pos := st2.pos + 1, opn := st2.opn - 1, now := st.now }, (br_go ho hno hne250 hc42 (fun h => hnf h.2)).trans (by rw [if_pos hc47, hx]; exact (if_pos h41).trans (by rw [if_pos hc47])), hE682, ⟨(by show st2.opn - 1 = st.opn; omega), (by show st.pos ≤ st2.pos + 1; omega), h41.asc (by decide) hmv.bd, hmv.nm⟩, (by show st.pos < st2.pos + 1; omega), (by show 1 + st.pos ≤ st2.pos + 1; omega), a3, c3, ob3, ka9, kc9, ko9, cs9, bs9, hv9, hk1, hk2, hk3, ⟨hB689, hO690, hR3.ne⟩, hnb4⟩
        ·skip
         rw [hc47] at hc91; cases hc91
      ·skip
       have hnc : ¬ o.capt = true := by rw [hc47]; simp
       refine cw_skip (nrm_then ?_); refine cw_seq ?_; refine cw_any (fun w0 w' => Evo [b] w0 w') (by kernel_rfl) (fun w692 hw693 => ?_); have hE694 := hV271.then hw693; have hB695 := hw693.blk0 hR1.blk; have hO696 := hR1.own.evo0 hw693; have hB697 := hw693.blk0 hb3; have hB698 := hw693.blk0 hb4; refine ae_take 0 rfl (by kernel_rfl) (by kernel_rfl) (by kernel_rfl) rfl (fun _ hS => ex_move rfl) (Evo.refl [b] w692) ?_; refine ae_take 1 rfl (by kernel_rfl) (by kernel_rfl) (by kernel_rfl) rfl (fun _ hS => ex_nilCheck rfl) (Evo.refl [b] w692) ?_; refine ae_take 2 rfl (by kernel_rfl) (by kernel_rfl) (by kernel_rfl) rfl (fun _ hS => ex_fieldAddr rfl Try.fld41_1) (Evo.refl [b] w692) ?_; refine ae_take 4 rfl (by kernel_rfl) (by kernel_rfl) (by kernel_rfl) rfl (fun _ hS => ex_fieldAddr rfl Try.fld68_0) (Evo.refl [b] w692) ?_; refine ae_take 5 rfl (by kernel_rfl) (by kernel_rfl) (by kernel_rfl) rfl (fun _ hS => ex_load1 rfl Try.agg3 (cell_nth (hS.blk hB697 (hA1.symm.nmem1)) rfl)) (Evo.refl [b] w692) ?_; refine ae_loud [3] (by kernel_rfl) rfl ⟨?_, trivial⟩; refine a_step rfl ?_; refine wl_val rfl (ex_load1 rfl Try.agg3 (cell_nth hB695 rfl)) ?_; refine wl_nil (ae_next (.inl (Evo.refl [b] w692)) ?_); refine ae_take 6 rfl (by kernel_rfl) (by kernel_rfl) (by kernel_rfl) rfl (fun _ hS => ex_add_i64 rfl rfl (by omega) (by omega)) (Evo.refl [b] w692) ?_; refine ae_take 7 rfl (by kernel_rfl) (by kernel_rfl) (by kernel_rfl) rfl (fun _ hS => ex_nilCheck rfl) (Evo.refl [b] w692) ?_; refine ae_take 8 rfl (by kernel_rfl) (by kernel_rfl) (by kernel_rfl) rfl (fun _ hS => ex_fieldAddr rfl Try.fld41_1) (Evo.refl [b] w692) ?_; refine ae_loud [9] (by kernel_rfl) rfl ⟨?_, trivial⟩; refine a_step rfl ?_; refine wl_store1 rfl rfl (by first | rfl | assumption) Try.size3 hB695 rfl fun w699 hB700 hw701 => ?_
       have hE702 := hE694.step hw701 (fun y hy => .inl (by rw [List.mem_singleton.1 hy]; simp))
       have hE703 := (Evo.refl [b] w692).step hw701 (fun y hy => .inl hy); have hO704 := hO696.evo hw701 hR1.ap.symm.own1; have hB705 := hw701.blk hB697 hA1.symm.nmem1; have hB706 := hw701.blk hB698 hA2.symm.nmem1
       try simp only [List.setIfInBounds_toArray, List.set_cons_zero, List.set_cons_succ, Nat.reduceAdd, Nat.zero_add, Nat.add_zero] at hB700
       refine wl_nil (ae_next (.inl hE703) ?_); refine ae_done (by kernel_rfl) (nrm_then ?_); refine cw_seq ?_; refine cw_region ?_; refine wl_m ?_; refine wl_val rfl (ex_nilCheck rfl) ?_; refine wl_val rfl (ex_fieldAddr rfl Try.fld41_3) ?_; refine wl_val rfl (ex_load1 rfl Try.agg3 (cell_nth hB700 rfl)) ?_; refine wl_val rfl (ex_add_i64 rfl rfl (by omega) (by omega)) ?_; refine wl_val rfl (ex_nilCheck rfl) ?_; refine wl_val rfl (ex_fieldAddr rfl Try.fld41_3) ?_; refine wl_store1 rfl rfl (by first | rfl | assumption) Try.size3 hB700 rfl fun w707 hB708 hw709 => ?_
       have hE710 := hE702.step hw709 (fun y hy => .inl (by rw [List.mem_singleton.1 hy]; simp))
       have hO711 := hO704.evo hw709 hR1.ap.symm.own1; have hB712 := hw709.blk hB705 hA1.symm.nmem1; have hB713 := hw709.blk hB706 hA2.symm.nmem1
       try simp only [List.setIfInBounds_toArray, List.set_cons_zero, List.set_cons_succ, Nat.reduceAdd, Nat.zero_add, Nat.add_zero] at hB708
       refine wl_nil (nrm_then ?_); refine cw_seq ?_; refine cw_region ?_; refine wl_m ?_; refine wl_val rfl (ex_fieldAddr rfl Try.fld68_2) ?_; refine wl_val rfl (ex_loadA (o := 2) rfl Try.agg38 Try.size38 (vs := [.bool o.thn.fold, .bool o.thn.lines, .bool o.thn.dots, .bool o.thn.lazy]) rfl (opv_flags hB712)) ?_; refine wl_val rfl (ex_nilCheck rfl) ?_; refine wl_val rfl (ex_fieldAddr rfl Try.fld41_2) ?_; refine wl_store4 (f1 := .bool o.thn.fold) (f2 := .bool o.thn.lines) (f3 := .bool o.thn.dots) (f4 := .bool o.thn.lazy) rfl rfl Try.size38 ⟨rfl, rfl, rfl, rfl, trivial⟩ hB708 fun w714 hB715 hw716 => ?_
       have hE717 := hE710.step hw716 (fun y hy => .inl (by rw [List.mem_singleton.1 hy]; simp))
       have hO718 := hO711.evo hw716 hR1.ap.symm.own1; have hB719 := hw716.blk hB712 hA1.symm.nmem1; have hB720 := hw716.blk hB713 hA2.symm.nmem1; refine wl_nil (nrm_then ?_); refine cw_seq ?_; refine cw_region ?_; refine wl_m ?_; refine wl_callP1 (vs := [_]) Try.goes9 rfl (hex (by omega) (st := ⟨st.pos + o.size, o.thn, st.opn + 1, st.names⟩) ⟨hB715, hO718, hR1.ne⟩ rfl hz2 hnl (hG.evo hE717 hgw) hGo) rfl ?_ ?_
       ·skip
        intro pv wp hpp; obtain ⟨e9, hpe, rfl, hpw⟩ := hpp; exact And.intro rfl ⟨_, rfl, _, (br_go ho hno hne250 hc42 (fun h => hnc h.1)).trans (by rw [if_neg hnc, hpe]), rfl, (hE717).step hpw (nb_mem (show NB w ob ob from .inl rfl))⟩
       rintro rv w721 ⟨x, st2, hx, hw722, hmv, a3, c3, ob3, vs, bs, rfl, hOT, hFr, hR3, hnb3⟩; have hV9 := hE717; have hA63 := ap_ob hA3.symm (Lt.blk hB719) hnb3; have hA64 := ap_ob hA4.symm (Lt.blk hB720) hnb3; have hnb4 := (show NB w ob ob from .inl rfl).older hnb3 hV9.size; have hFr9 : Fr w bs := hFr.older hV9.size; have hE723 := hE717.step hw722 (nb_mem (show NB w ob ob from .inl rfl)); have hB724 := hw722.blk hB719 (nm_2 hA1.symm hA3.symm); have hB725 := hw722.blk hB720 (nm_2 hA2.symm hA4.symm); obtain ⟨ra, rc, ka, kc, rfl⟩ := id hOT.nine; have hltx := hOT.lt; refine wl_alloc rfl Try.zero25 fun b6 w726 hB727 hs728 hw729 => ?_; have hsz_b6 := hs728; have hA730 := Apart.new (Lt.blk hB724) hs728; have hA731 := Apart.new (Lt.blk hB725) hs728; have hA732 := Apart.new (Lt.blk hR3.blk) hs728; have hA733 := Apart.new (Lt.own hR3.own) hs728; have hG734 := Ge.new hE723 hs728; have hE735 := hE723.then hw729; have hB736 := hw729.blk0 hB724; have hB737 := hw729.blk0 hB725; have hB738 := hw729.blk0 hR3.blk; have hO739 := hR3.own.evo0 hw729; have hF740 := hOT.evo0 hw729; refine wl_storeBlk rfl rfl Try.size25 hB727 rfl rfl ⟨by first | rfl | assumption, by first | rfl | assumption, by first | rfl | assumption, by first | rfl | assumption, by first | rfl | assumption, by first | rfl | assumption, by first | rfl | assumption, by first | rfl | assumption, by first | rfl | assumption, trivial⟩ fun w741 hB742 hw743 => ?_; have hE744 := hE735.step hw743 hG734.mem1; have hB745 := hw743.blk hB736 hA730.nmem1; have hB746 := hw743.blk hB737 hA731.nmem1; have hB747 := hw743.blk hB738 hA732.nmem1; have hO748 := hO739.evo hw743 hA733.own1
       have hF749 := hF740.evo hw743 (fun q hq h => by have h8 := hltx q hq; have h9 := List.mem_singleton.1 h; omega)
       try simp only [List.setIfInBounds_toArray, List.set_cons_zero, List.set_cons_succ, Nat.reduceAdd, Nat.zero_add, Nat.add_zero] at hB742
       refine wl_nil (nrm_then ?_); refine cw_seq ?_; refine cw_seq ?_; refine cw_region ?_; refine wl_m ?_; refine wl_call1 (vs := [_, _]) Try.goes14 rfl (take_ok ⟨hB747, hO748, hR3.ne⟩ (by omega) 41 (by decide)) rfl ?_; rintro _ w750 ⟨rfl, hw751, hR4⟩
       have hE752 := hE744.step hw751 (fun y hy => .inl (by rw [List.mem_singleton.1 hy]; simp))
       have hB753 := hw751.blk hB745 ((by first | exact hA1.symm.own1 | exact hA1.symm.nmem1)); have hB754 := hw751.blk hB746 ((by first | exact hA2.symm.own1 | exact hA2.symm.nmem1)); have hB755 := hF749.evo hw751 (fr_b hFr9 hbw (Nat.le_refl _)); have hB756 := hw751.blk hB742 ((by first | exact hA732.symm.own1 | exact hA732.symm.nmem1)); refine wl_val rfl (ex_not rfl) ?_; refine wl_nil (nrm_then ?_); refine cw_if rfl (fun hc77 => ?_) (fun hc77 => ?_)
       ·skip
        refine cw_region ?_; refine wl_callP1 (vs := [_]) Try.goes10 rfl (fail_ok 80) rfl ?_ ?_
        ·skip
         intro pv wp hpp; obtain ⟨rfl, hpw⟩ := hpp
         exact And.intro rfl ⟨_, rfl, _, (br_go ho hno hne250 hc42 (fun h => hnc h.1)).trans (by rw [if_neg hnc, hx]; exact if_neg hc77), rfl, (hE752).then hpw⟩
        intro _ _ hF; exact hF.elim
       ·skip
        have h41 : isB s st2.pos 41 := Classical.not_not.1 hc77; rw [if_pos h41] at hR4; have ho2 : st2.opn = st.opn + 1 := hmv.opn; have hle2 : st.pos + o.size ≤ st2.pos := hmv.le
        have ho3 : ((adv st2 1).opn : Int) - 1 = ((st2.opn - 1 : Nat) : Int) := by show ((st2.opn : Nat) : Int) - 1 = _; omega
        refine cw_skip (nrm_then ?_); refine cw_seq ?_; refine cw_region ?_; refine wl_m ?_; refine wl_val rfl (ex_nilCheck rfl) ?_; refine wl_val rfl (ex_fieldAddr rfl Try.fld41_3) ?_; refine wl_val rfl (ex_load1 rfl Try.agg3 (cell_nth hR4.blk rfl)) ?_; refine wl_val rfl (ex_sub_i64 rfl rfl (by omega) (by omega)) ?_; rw [ho3]; refine wl_val rfl (ex_nilCheck rfl) ?_; refine wl_val rfl (ex_fieldAddr rfl Try.fld41_3) ?_; refine wl_store1 rfl rfl (by first | rfl | assumption) Try.size3 hR4.blk rfl fun w759 hB760 hw761 => ?_
        have hE762 := hE752.step hw761 (fun y hy => .inl (by rw [List.mem_singleton.1 hy]; simp))
        have hB763 := hw761.blk hB753 hA1.symm.nmem1; have hB764 := hw761.blk hB754 hA2.symm.nmem1; have hF765 := hB755.evo hw761 (fr_b hFr9 hbw (Nat.le_refl _)); have hB766 := hw761.blk hB756 hA732.symm.nmem1; have hO767 := hR4.own.evo hw761 hR4.ap.symm.own1
        try simp only [List.setIfInBounds_toArray, List.set_cons_zero, List.set_cons_succ, Nat.reduceAdd, Nat.zero_add, Nat.add_zero] at hB760
        refine wl_nil (nrm_then ?_); refine cw_seq ?_; refine cw_region ?_; refine wl_m ?_; refine wl_val rfl (ex_loadBlk rfl Try.agg38 Try.size38 hB764 rfl) ?_; refine wl_val rfl (ex_nilCheck rfl) ?_; refine wl_val rfl (ex_fieldAddr rfl Try.fld41_2) ?_; refine wl_store4 (f1 := .bool st.now.fold) (f2 := .bool st.now.lines) (f3 := .bool st.now.dots) (f4 := .bool st.now.lazy) rfl rfl Try.size38 ⟨rfl, rfl, rfl, rfl, trivial⟩ hB760 fun w768 hB769 hw770 => ?_
        have hE771 := hE762.step hw770 (fun y hy => .inl (by rw [List.mem_singleton.1 hy]; simp))
        have hB772 := hw770.blk hB763 hA1.symm.nmem1; have hB773 := hw770.blk hB764 hA2.symm.nmem1; have hF774 := hF765.evo hw770 (fr_b hFr9 hbw (Nat.le_refl _)); have hB775 := hw770.blk hB766 hA732.symm.nmem1; have hO776 := hO767.evo hw770 hR4.ap.symm.own1; refine wl_nil (nrm_then ?_); refine cw_seq ?_; refine cw_seq ?_; refine cw_region ?_; refine wl_val rfl (ex_fieldAddr rfl Try.fld68_3) ?_; refine wl_val rfl (ex_load1 rfl Try.agg4 (cell_nth hB772 rfl)) ?_; refine wl_nil (nrm_then ?_); refine cw_ifb rfl (fun hc91 => ?_) (fun hc91 => ?_)
        ·skip
         rw [hc47] at hc91; cases hc91
        ·skip
         refine cw_skip (nrm_then ?_); refine cw_seq ?_; have hgr : OT x _ _ bs ∧ Fr w bs := ⟨hF774, hFr9⟩; obtain ⟨hgT, hgF⟩ := hgr; have hV23 := hE771; refine cw_region ?_; refine wl_val rfl (ex_loadBlk rfl Try.agg25 Try.size25 hB775 rfl) ?_; refine wl_bslice (vs := [_]) rfl Try.slice23 rfl rfl rfl rfl fun b99 w777 hO778 hs779 hw780 => ?_; have hA781 := Apart.new (Lt.blk hB772) hs779; have hA782 := Apart.new (Lt.blk hB773) hs779; have hA783 := Apart.new (Lt.blk hB775) hs779; have hA784 := Apart.new (Lt.blk hB769) hs779; have hA785 := Apart.new (Lt.own hO776) hs779; have hG786 := Ge.new hE771 hs779; have hG787 := Ge.new (Evo.refl ([]) w768) hs779; have hE788 := hE771.then hw780; have hE789 := (Evo.refl ([]) w768).then hw780; have hB790 := hw780.blk0 hB772; have hB791 := hw780.blk0 hB773; have hF792 := hF774.evo0 hw780; have hB793 := hw780.blk0 hB775; have hB794 := hw780.blk0 hB769; have hO795 := hO776.evo0 hw780; refine wl_a ?_; refine wl_nil (nrm_then ?_); refine cw_ret (bodyp_ret (body_ret1 rfl rfl ?_)); have hK := kout_one hO778 hgT hgF (hG787 _ rfl) hE789 (fun _ _ h => by cases h) hV23.size; obtain ⟨ka9, kc9, ko9, cs9, bs9, hv9, hk1, hk2, hk3⟩ := hK
         refine ⟨[x], { st2 with pos := st2.pos + 1, opn := st2.opn - 1, now := st.now }, (br_go ho hno hne250 hc42 (fun h => hnc h.1)).trans (by rw [if_neg hnc, hx]; exact (if_pos h41).trans (by rw [if_neg hnc])), hE788, ⟨(by show st2.opn - 1 = st.opn; omega), (by show st.pos ≤ st2.pos + 1; omega), h41.asc (by decide) hmv.bd, hmv.nm⟩, (by show st.pos < st2.pos + 1; omega), (by show 1 + st.pos ≤ st2.pos + 1; omega), a3, c3, ob3, ka9, kc9, ko9, cs9, bs9, hv9, hk1, hk2, hk3, ⟨hB794, hO795, hR3.ne⟩, hnb4⟩
end Go.Proofs.Ytljadkcojnlioaa
namespace Go.Proofs.Ytljadkcojnlioaa
open Go.Proofs
open Go.W Go.RowKit
attribute [local irreducible] Decidable.decide
set_option linter.unusedSimpArgs false
set_option linter.unusedVariables false
theorem Try.goes23 : Goes Try.prog 23 := ⟨_, Try.func23, by kernel_rfl, by kernel_rfl⟩
theorem Try.goes24 : Goes Try.prog 24 := ⟨_, Try.func24, by kernel_rfl, by kernel_rfl⟩
theorem Try.goes25 : Goes Try.prog 25 := ⟨_, Try.func25, by kernel_rfl, by kernel_rfl⟩
theorem Try.goes29 : Goes Try.prog 29 := ⟨_, Try.func29, by kernel_rfl, by kernel_rfl⟩
theorem pItems_b {s : ByteArray} : ∀ {f i j : Nat} {fst : Bool} {S T : Int → Prop}, pItems s f fst S i = .ok (T, j) → Bd s i → Bd s j ∧ i < j
  | 0, i, j, fst, S, T, h, _ => by cases h
  | f + 1, i, j, fst, S, T, h, hb => by
    rw [pItems] at h
    split at h
    · cases h
    · rename_i h0
      split at h
      · rename_i h1
        cases h
        exact ⟨(hb.asc (by omega) (by omega)).1, by omega⟩
      · cases h2 : pItem s i with
        | error e => rw [h2] at h; cases h
        | ok x =>
          obtain ⟨U, k⟩ := x
          rw [h2] at h
          obtain ⟨h3, h4⟩ := pItem_b h2 hb (by omega)
          obtain ⟨h5, h6⟩ := pItems_b h h3
          exact ⟨h5, by omega⟩
theorem pClass_b {s : ByteArray} {fl : Fl} {i j : Nat} {x : Rx} (h : pClass s fl i = .ok (x, j)) (hb : Bd s i) : Bd s j ∧ i < j := by
  unfold pClass at h
  cases h1 : pItems s (s.size + 1) true (fun _ => False) (if isB s i 94 then i + 1 else i) with
  | error e => rw [h1] at h; cases h
  | ok y =>
    obtain ⟨S, k⟩ := y
    rw [h1] at h
    cases h
    by_cases h2 : isB s i 94
    · rw [if_pos h2] at h1
      obtain ⟨h3, h4⟩ := pItems_b h1 (h2.asc (by decide) hb)
      exact ⟨h3, by omega⟩
    · rw [if_neg h2] at h1
      exact pItems_b h1 hb
section
variable {s : ByteArray} {ex : PS → PX Rx} {st : PS} {x : Rx} {j : Nat} {e : Int}
theorem pc_br (h : sb s st.pos = 40) : pPiece s ex st = pBrk s ex st := by unfold pPiece; rw [if_pos h]
theorem pc_cl (h : sb s st.pos = 91) (h2 : pClass s st.now (st.pos + 1) = .ok (x, j)) : pPiece s ex st = .ok ([x], pset st j) := by unfold pPiece; rw [if_neg (by omega), if_pos h, h2]; rfl
theorem pc_clE (h : sb s st.pos = 91) (h2 : pClass s st.now (st.pos + 1) = .error e) : pPiece s ex st = .error e := by unfold pPiece; rw [if_neg (by omega), if_pos h, h2]
theorem pc_es (h : sb s st.pos = 92) : pPiece s ex st = pEscape s st := by unfold pPiece; rw [if_neg (by omega), if_neg (by omega), if_pos h]
theorem pc_pl (h1 : ¬ sb s st.pos = 40) (h2 : ¬ sb s st.pos = 91) (h3 : ¬ sb s st.pos = 92) : pPiece s ex st = pPlain s st := by unfold pPiece; rw [if_neg h1, if_neg h2, if_neg h3]
theorem pl_all (h : (nextR s st.pos).1 = 46) (h2 : st.now.dots = true) : pPlain s st = .ok ([nodeS (rs [(0, 1114111)])], pset st (st.pos + (nextR s st.pos).2)) := by unfold pPlain; rw [if_pos h, if_pos h2]; rfl
theorem pl_dot (h : (nextR s st.pos).1 = 46) (h2 : ¬ st.now.dots = true) : pPlain s st = .ok ([nodeS (rs [(0, 9), (11, 1114111)])], pset st (st.pos + (nextR s st.pos).2)) := by unfold pPlain; rw [if_pos h, if_neg h2]; rfl
theorem pl_hat (h : (nextR s st.pos).1 = 94) : pPlain s st = .ok ([rxK (if st.now.lines = true then 10 else 8)], pset st (st.pos + (nextR s st.pos).2)) := by unfold pPlain; rw [if_neg (by omega), if_pos h]; rfl
theorem pl_dol (h : (nextR s st.pos).1 = 36) : pPlain s st = .ok ([rxK (if st.now.lines = true then 11 else 9)], pset st (st.pos + (nextR s st.pos).2)) := by unfold pPlain; rw [if_neg (by omega), if_neg (by omega), if_pos h]; rfl
theorem pl_lit (h : ¬ (nextR s st.pos).1 = 46) (h1 : ¬ (nextR s st.pos).1 = 94) (h2 : ¬ (nextR s st.pos).1 = 36) : pPlain s st = .ok ([litP st.now (nextR s st.pos).1], pset st (st.pos + (nextR s st.pos).2)) := by unfold pPlain; rw [if_neg h, if_neg h1, if_neg h2]; rfl
end
theorem PcPost.congr {b : Nat} {s : ByteArray} {pp qq : PS → PL} {st : PS} {ob : Option Nat} {w w' : World} {v : Value} (h : PcPost b s pp st ob w v w') (e : qq st = pp st) : PcPost b s qq st ob w v w' := by
  obtain ⟨l, st', h1, h2⟩ := h
  exact ⟨l, st', e.trans h1, h2⟩
theorem ExPan.congr {b : Nat} {α : Type} {pp qq : PS → PX α} {st : PS} {ob : Option Nat} {w w' : World} {v : Value} (h : ExPan b pp st ob w v w') (e : qq st = pp st) : ExPan b qq st ob w v w' := by
  obtain ⟨x, h1, h2⟩ := h
  exact ⟨x, e.trans h1, h2⟩
theorem PcPost.older {b : Nat} {s : ByteArray} {pp : PS → PL} {st : PS} {ob : Option Nat} {w w1 w' : World} {v : Value} (h : PcPost b s pp st ob w1 v w') (he : Evo [] w w1) : PcPost b s pp st ob w v w' := by
  obtain ⟨l, st', h1, h2, h3, h4, h5, a, c, o, ka, kc, ko, cs, bs, h6, h7, h8, h9, h10, h11⟩ := h
  exact ⟨l, st', h1, (he.any _).step h2 (fun y hy => .inl hy), h3, h4, h5, a, c, o, ka, kc, ko, cs, bs, h6, h7, h8, h9.older he.size, h10, (show NB w ob ob from .inl rfl).older h11 he.size⟩
theorem ExPan.older {b : Nat} {α : Type} {pp : PS → PX α} {st : PS} {ob : Option Nat} {w w1 w' : World} {v : Value} (h : ExPan b pp st ob w1 v w') (he : Evo [] w w1) : ExPan b pp st ob w v w' := by
  obtain ⟨e, h1, h2, h3⟩ := h
  exact ⟨e, h1, h2, (he.any _).step h3 (fun y hy => .inl hy)⟩
theorem PcPost.evo {b : Nat} {s : ByteArray} {pp : PS → PL} {st : PS} {ob : Option Nat} {w w' : World} {v : Value} (h : PcPost b s pp st ob w v w') : Evo (b :: ob.toList) w w' := by obtain ⟨l, st', h1, h2, _⟩ := h; exact h2
theorem piece_ok {ex : PS → PX Rx} {w : World} {b : Nat} {s : ByteArray} {st : PS} {a : Option Addr} {c : Nat} {ob : Option Nat} (hex : st.opn < 250 → ExHyp b s ex (st.opn + 1)) (hR : RdAt w b s st a c ob) (hs : s.size ≤ 4096) (hlt : st.pos < s.size) (hop : st.opn ≤ 250) (hb : Bd s st.pos) (hnl : st.names.length ≤ 100) (hG : Glb w) (hGo : Apart (some GMax) ob) :
    Calls Try.prog 19 #[.pointer (some ⟨b, 0, none⟩)] w (RetP (PcPost b s (pPiece s ex) st ob w) (ExPan b (pPiece s ex) st ob w)) := by
  have hap := hR.ap; have hgb : GMax ∉ [b] := fun h => hR.glb hG (List.mem_singleton.1 h).symm; obtain ⟨hn1, hn2, hn3, hr0, hr1⟩ := hb.next hlt; refine calls_of_cw (N := 71) Try.func19 rfl rfl rfl ?_; refine cw_seq ?_; refine cw_region ?_; refine wl_a ?_; refine wl_nil (nrm_then ?_); refine cw_seq ?_; refine cw_seq ?_; refine cw_quiet (by kernel_rfl) (by kernel_rfl) ?_; refine ql_val rfl (fun _ hq2 => ex_move rfl) ?_; refine ql_val rfl (fun _ hq2 => ex_nilCheck rfl) ?_; refine ql_val rfl (fun _ hq2 => ex_fieldAddr rfl Try.fld41_0) ?_; refine ql_val rfl (fun _ hq2 => ex_load1 rfl Try.agg9 (cell_nth (hq2.blk0 hR.blk) rfl)) ?_; refine ql_val rfl (fun _ hq2 => ex_move rfl) ?_; refine ql_val rfl (fun _ hq2 => ex_nilCheck rfl) ?_; refine ql_val rfl (fun _ hq2 => ex_fieldAddr rfl Try.fld41_1) ?_; refine ql_val rfl (fun _ hq2 => ex_load1 rfl Try.agg3 (cell_nth (hq2.blk0 hR.blk) rfl)) ?_; refine ql_val rfl (fun _ hq2 => ex_sidx (n := st.pos) rfl rfl Try.underlying9 rfl hlt) ?_; refine ql_nil (fun wq1 hq2 => nrm_then ?_); have hE3 := (Evo.refl [b] w).then hq2; have hE4 := (Evo.refl [] w).then hq2; have hB5 := hq2.blk0 hR.blk; have hO6 := hR.own.evo0 hq2; refine cw_block ?_; refine cw_seq ?_; refine cw_region ?_; refine wl_val rfl (ex_eql rfl rfl) ?_; refine wl_a ?_; refine wl_nil (nrm_then ?_); refine cw_if rfl (fun hc13 => ?_) (fun hc13 => ?_)
  ·skip
   refine cw_seq ?_; refine cw_region ?_; refine wl_m ?_; refine wl_callP1 (vs := [_]) Try.goes23 rfl (bracket_ok hex ⟨hB5, hO6, hR.ne⟩ hs ⟨hlt, by omega⟩ hop hb hnl (hG.evo hE3 hgb) hGo) rfl ?_ ?_
   ·skip
    intro pv wp hpp; exact And.intro rfl ⟨_, rfl, (ExPan.older hpp hE4).congr (pc_br (by omega))⟩
   rintro rv w7 hpc; have hw8 := hpc.evo; have hV9 := hE3; have hV0 := hE4; refine wl_a ?_; refine wl_nil (nrm_then ?_); refine cw_ret (ret_block (ret_then (bodyp_ret (body_ret1 rfl rfl ?_)))); exact (PcPost.older hpc hV0).congr (pc_br (by omega))
  ·skip
   refine cw_seq ?_; refine cw_region ?_; refine wl_val rfl (ex_eql rfl rfl) ?_; refine wl_a ?_; refine wl_nil (nrm_then ?_); refine cw_if rfl (fun hc17 => ?_) (fun hc17 => ?_)
   ·skip
    refine cw_seq ?_; refine cw_region ?_; refine wl_m ?_; refine wl_val rfl (ex_nilCheck rfl) ?_; refine wl_val rfl (ex_fieldAddr rfl Try.fld41_1) ?_; refine wl_val rfl (ex_load1 rfl Try.agg3 (cell_nth hB5 rfl)) ?_; refine wl_val rfl (ex_add_i64 rfl rfl (by omega) (by omega)) ?_; refine wl_val rfl (ex_nilCheck rfl) ?_; refine wl_val rfl (ex_fieldAddr rfl Try.fld41_1) ?_; refine wl_store1 rfl rfl (by first | rfl | assumption) Try.size3 hB5 rfl fun w9 hB10 hw11 => ?_; have hE12 := hE3.step hw11 (fun y hy => .inl hy); have hO14 := hO6.evo hw11 hap.symm.own1
    try simp only [List.setIfInBounds_toArray, List.set_cons_zero, List.set_cons_succ, Nat.reduceAdd, Nat.zero_add, Nat.add_zero] at hB10
    refine wl_nil (nrm_then ?_); refine cw_seq ?_; refine cw_region ?_; refine wl_m ?_; refine wl_callP1 (vs := [_]) Try.goes24 rfl (class_ok (st := pset st (st.pos + 1)) ⟨hB10, hO14, hR.ne⟩ (by omega) (hb.asc hlt (by omega)).1 (hG.evo hE12 hgb)) rfl ?_ ?_
    ·skip
     intro pv wp hpp; obtain ⟨e9, hpe, rfl, hpw⟩ := hpp; exact And.intro rfl ⟨_, rfl, pan_of (pc_clE (by omega) hpe) ((hE12).step hpw (fun y hy => .inl hy))⟩
    rintro rv w15 ⟨x, j, hx, hT, hw16, hR4⟩; have hcall9 := hw16; have hV9 := hE12; have hE17 := hE12.step hw16 (fun y hy => .inl hy); obtain ⟨hbj, hij⟩ := pClass_b hx (hb.asc hlt (by omega)).1; have hij2 : st.pos + 1 < j := hij; obtain ⟨vs, bx, rfl, hOT, hFx⟩ := hT; obtain ⟨ra, rc, ka, kc, rfl⟩ := id hOT.nine; refine wl_bslice (vs := [_]) rfl Try.slice23 rfl rfl rfl rfl fun b28 w18 hO19 hs20 hw21 => ?_; have hA22 := Apart.new (Lt.blk hR4.blk) hs20; have hA23 := Apart.new (Lt.own hR4.own) hs20; have hG24 := Ge.new hE17 hs20; have hG25 := Ge.new (Evo.refl [] w15) hs20; have hE26 := hE17.then hw21; have hE27 := (Evo.refl [] w15).then hw21; have hB28 := hw21.blk0 hR4.blk; have hO29 := hR4.own.evo0 hw21; refine wl_a ?_; refine wl_nil (nrm_then ?_); refine cw_ret (ret_block (ret_then (bodyp_ret (body_ret1 rfl rfl ?_))))
    exact pc_of (pp := pPiece s ex) hR (pc_cl (by omega) hx) (kout_one hO19 hOT (hFx.older hV9.size) (hG25 _ rfl) hE27 (fun b hb h => by cases h) (Nat.le_trans hV9.size hcall9.size)) hE26 ⟨hB28, hO29, hR4.ne⟩ rfl rfl hnl (by show st.pos < j; omega) hbj (by show 1 + st.pos ≤ j; omega)
   ·skip
    refine cw_seq ?_; refine cw_region ?_; refine wl_val rfl (ex_eql rfl rfl) ?_; refine wl_a ?_; refine wl_nil (nrm_then ?_); refine cw_if rfl (fun hc29 => ?_) (fun hc29 => ?_)
    ·skip
     refine cw_seq ?_; refine cw_region ?_; refine wl_m ?_; refine wl_callP1 (vs := [_]) Try.goes25 rfl (escape_ok ⟨hB5, hO6, hR.ne⟩ (by omega) hlt (by omega) hb (hG.evo hE3 hgb)) rfl ?_ ?_
     ·skip
      intro pv wp hpp; obtain ⟨e9, hpe, rfl, hpw⟩ := hpp; exact And.intro rfl ⟨_, rfl, pan_of ((pc_es (by omega)).trans hpe) ((hE3).step hpw (fun y hy => .inl hy))⟩
     rintro rv w30 ⟨l, st', hx, hK, hw31, hR5, ho, hnm, hp, hbd, hll⟩; have hV9 := hE3; have hE32 := hE3.step hw31 (fun y hy => .inl hy); refine wl_a ?_; refine wl_nil (nrm_then ?_); refine cw_ret (ret_block (ret_then (bodyp_ret (body_ret1 rfl rfl ?_)))); exact pc_of (pp := pPiece s ex) hR ((pc_es (by omega)).trans hx) (hK.older hV9.size) hE32 ⟨hR5.blk, hR5.own, hR5.ne⟩ ho hnm hnl hp hbd hll
    ·skip
     refine cw_skip (nrm_block (nrm_then ?_)); refine cw_seq ?_; have hpl : pPiece s ex st = pPlain s st := pc_pl (by omega) (by omega) (by omega); refine cw_region ?_; refine wl_m ?_; refine wl_call1 (vs := [_]) Try.goes26 rfl (rune_ok ⟨hB5, hO6, hR.ne⟩ (by omega) hb) rfl ?_; rintro _ w33 ⟨rfl, hw34, hR2⟩; have hE35 := hE3.step hw34 (fun y hy => .inl hy); refine wl_a ?_; refine wl_nil (nrm_then ?_); refine cw_seq ?_; refine cw_region ?_; refine wl_m ?_; refine wl_nil (nrm_then ?_); refine cw_block ?_; refine cw_seq ?_; refine cw_region ?_; refine wl_val rfl (ex_eql rfl rfl) ?_; refine wl_a ?_; refine wl_nil (nrm_then ?_); refine cw_if rfl (fun hc40 => ?_) (fun hc40 => ?_)
     ·skip
      refine cw_seq ?_; refine cw_seq ?_; refine cw_region ?_; refine wl_m ?_; refine wl_val rfl (ex_nilCheck rfl) ?_; refine wl_val rfl (ex_fieldAddr rfl Try.fld41_2) ?_; refine wl_val rfl (ex_fieldAddr rfl Try.fld38_2) ?_; refine wl_val rfl (ex_load1 rfl Try.agg4 (cell_nth hR2.blk rfl)) ?_; refine wl_nil (nrm_then ?_); refine cw_ifb rfl (fun hc46 => ?_) (fun hc46 => ?_)
      ·skip
       replace hc46 : st.now.dots = true := hc46; refine cw_seq ?_; refine cw_region ?_; refine wl_bslice (vs := [_, _]) rfl Try.slice77 rfl rfl rfl rfl fun b36 w37 hO38 hs39 hw40 => ?_; have hA41 := Apart.new (Lt.blk hR2.blk) hs39; have hA42 := Apart.new (Lt.own hR2.own) hs39; have hG43 := Ge.new hE35 hs39; have hE44 := hE35.then hw40; have hB45 := hw40.blk0 hR2.blk; have hO46 := hR2.own.evo0 hw40; refine wl_call1 (vs := [_]) Try.goes28 rfl (span_ok (es := [0, 1114111]) hO38 (by decide)) rfl ?_; rintro _ w47 ⟨a1, c1, ob1, rfl, hO1, hg1, hw48⟩; have hA49 := Apart.fresh (Lt.blk hB45) hg1; have hA50 := Apart.fresh (Lt.own hO46) hg1; have hA51 := Apart.fresh (Lt.own hO38) hg1; have hG52 := Ge.fresh hE44 hg1; have hE53 := hE44.then hw48; have hB54 := hw48.blk0 hB45; have hO55 := hO46.evo0 hw48; have hO56 := hO38.evo0 hw48; refine wl_call1 (vs := [_]) Try.goes27 rfl (node_ok (l := [(0, 1114111)]) (S := rs [(0, 1114111)]) hO1 (vr_lit (by kernel_rfl)) (by decide) (fun c => Iff.rfl)) rfl ?_; rintro rv w57 ⟨hT, hw58⟩; have hcall9 := hw58; have hV9 := hE53; have hE59 := hE53.then hw58; have hB60 := hw58.blk0 hB54; have hO61 := hO55.evo0 hw58; have hO62 := hO56.evo0 hw58; have hO63 := hO1.evo0 hw58; obtain ⟨vs, bx, rfl, hOT, hFx⟩ := hT; obtain ⟨ra, rc, ka, kc, rfl⟩ := id hOT.nine; refine wl_bslice (vs := [_]) rfl Try.slice23 rfl rfl rfl rfl fun b50 w64 hO65 hs66 hw67 => ?_; have hA68 := Apart.new (Lt.blk hB60) hs66; have hA69 := Apart.new (Lt.own hO61) hs66; have hA70 := Apart.new (Lt.own hO62) hs66; have hA71 := Apart.new (Lt.own hO63) hs66; have hG72 := Ge.new hE59 hs66; have hG73 := Ge.new (Evo.refl ([]) w57) hs66; have hE74 := hE59.then hw67; have hE75 := (Evo.refl ([]) w57).then hw67; have hB76 := hw67.blk0 hB60; have hO77 := hO61.evo0 hw67; have hO78 := hO62.evo0 hw67
       have hO79 := hO63.evo0 hw67; refine wl_a ?_; refine wl_nil (nrm_then ?_); refine cw_ret (ret_then (ret_block (bodyp_ret (body_ret1 rfl rfl ?_))))
       exact pc_of (pp := pPiece s ex) hR (hpl.trans (pl_all (by omega) hc46)) (kout_one hO65 hOT (hFx.older hV9.size) (hG73 _ rfl) hE75 (fun b hb h => by cases h) (Nat.le_trans hV9.size hcall9.size)) hE74 ⟨hB76, hO77, hR2.ne⟩ rfl rfl hnl (by show st.pos < st.pos + _; omega) hn3 (by show 1 + st.pos ≤ st.pos + _; omega)
      ·skip
       replace hc46 : st.now.dots = false := hc46; refine cw_skip (nrm_then ?_); refine cw_seq ?_; refine cw_region ?_; refine wl_bslice (vs := [_, _, _, _]) rfl Try.slice77 rfl rfl rfl rfl fun b80 w81 hO82 hs83 hw84 => ?_; have hA85 := Apart.new (Lt.blk hR2.blk) hs83; have hA86 := Apart.new (Lt.own hR2.own) hs83; have hG87 := Ge.new hE35 hs83; have hE88 := hE35.then hw84; have hB89 := hw84.blk0 hR2.blk; have hO90 := hR2.own.evo0 hw84; refine wl_call1 (vs := [_]) Try.goes28 rfl (span_ok (es := [0, 9, 11, 1114111]) hO82 (by decide)) rfl ?_; rintro _ w91 ⟨a1, c1, ob1, rfl, hO1, hg1, hw92⟩; have hA93 := Apart.fresh (Lt.blk hB89) hg1; have hA94 := Apart.fresh (Lt.own hO90) hg1; have hA95 := Apart.fresh (Lt.own hO82) hg1; have hG96 := Ge.fresh hE88 hg1; have hE97 := hE88.then hw92; have hB98 := hw92.blk0 hB89; have hO99 := hO90.evo0 hw92; have hO100 := hO82.evo0 hw92; refine wl_call1 (vs := [_]) Try.goes27 rfl (node_ok (l := [(0, 9), (11, 1114111)]) (S := rs [(0, 9), (11, 1114111)]) hO1 (vr_lit (by kernel_rfl)) (by decide) (fun c => Iff.rfl)) rfl ?_; rintro rv w101 ⟨hT, hw102⟩; have hcall9 := hw102; have hV9 := hE97; have hE103 := hE97.then hw102; have hB104 := hw102.blk0 hB98; have hO105 := hO99.evo0 hw102; have hO106 := hO100.evo0 hw102; have hO107 := hO1.evo0 hw102; obtain ⟨vs, bx, rfl, hOT, hFx⟩ := hT; obtain ⟨ra, rc, ka, kc, rfl⟩ := id hOT.nine; refine wl_bslice (vs := [_]) rfl Try.slice23 rfl rfl rfl rfl fun b54 w108 hO109 hs110 hw111 => ?_; have hA112 := Apart.new (Lt.blk hB104) hs110; have hA113 := Apart.new (Lt.own hO105) hs110; have hA114 := Apart.new (Lt.own hO106) hs110; have hA115 := Apart.new (Lt.own hO107) hs110; have hG116 := Ge.new hE103 hs110; have hG117 := Ge.new (Evo.refl ([]) w101) hs110; have hE118 := hE103.then hw111
       have hE119 := (Evo.refl ([]) w101).then hw111; have hB120 := hw111.blk0 hB104; have hO121 := hO105.evo0 hw111; have hO122 := hO106.evo0 hw111; have hO123 := hO107.evo0 hw111; refine wl_a ?_; refine wl_nil (nrm_then ?_); refine cw_ret (ret_block (bodyp_ret (body_ret1 rfl rfl ?_)))
       exact pc_of (pp := pPiece s ex) hR (hpl.trans (pl_dot (by omega) (by simp [hc46]))) (kout_one hO109 hOT (hFx.older hV9.size) (hG117 _ rfl) hE119 (fun b hb h => by cases h) (Nat.le_trans hV9.size hcall9.size)) hE118 ⟨hB120, hO121, hR2.ne⟩ rfl rfl hnl (by show st.pos < st.pos + _; omega) hn3 (by show 1 + st.pos ≤ st.pos + _; omega)
     ·skip
      refine cw_seq ?_; refine cw_region ?_; refine wl_val rfl (ex_eql rfl rfl) ?_; refine wl_a ?_; refine wl_nil (nrm_then ?_); refine cw_if rfl (fun hc55 => ?_) (fun hc55 => ?_)
      ·skip
       refine cw_seq ?_; refine cw_region ?_; refine wl_m ?_; refine wl_val rfl (ex_nilCheck rfl) ?_; refine wl_val rfl (ex_fieldAddr rfl Try.fld41_2) ?_; refine wl_val rfl (ex_fieldAddr rfl Try.fld38_1) ?_; refine wl_val rfl (ex_load1 rfl Try.agg4 (cell_nth hR2.blk rfl)) ?_; refine wl_call1 (vs := [_, _, _]) Try.goes29 rfl (one_ok 8 10 st.now.lines) rfl ?_; rintro rv w124 ⟨hK, hw125⟩; have hV9 := hE35; have hE126 := hE35.then hw125; have hB127 := hw125.blk0 hR2.blk; have hO128 := hR2.own.evo0 hw125; refine wl_a ?_; refine wl_nil (nrm_then ?_); refine cw_ret (ret_block (bodyp_ret (body_ret1 rfl rfl ?_)))
       exact pc_of (pp := pPiece s ex) hR (hpl.trans (pl_hat (by omega))) (hK.older hV9.size) hE126 ⟨hB127, hO128, hR2.ne⟩ rfl rfl hnl (by show st.pos < st.pos + _; omega) hn3 (by show 1 + st.pos ≤ st.pos + _; omega)
      ·skip
       refine cw_seq ?_; refine cw_region ?_; refine wl_val rfl (ex_eql rfl rfl) ?_; refine wl_a ?_; refine wl_nil (nrm_then ?_); refine cw_if rfl (fun hc63 => ?_) (fun hc63 => ?_)
       ·skip
        refine cw_seq ?_; refine cw_region ?_; refine wl_m ?_; refine wl_val rfl (ex_nilCheck rfl) ?_; refine wl_val rfl (ex_fieldAddr rfl Try.fld41_2) ?_; refine wl_val rfl (ex_fieldAddr rfl Try.fld38_1) ?_; refine wl_val rfl (ex_load1 rfl Try.agg4 (cell_nth hR2.blk rfl)) ?_; refine wl_call1 (vs := [_, _, _]) Try.goes29 rfl (one_ok 9 11 st.now.lines) rfl ?_; rintro rv w129 ⟨hK, hw130⟩; have hV9 := hE35; have hE131 := hE35.then hw130; have hB132 := hw130.blk0 hR2.blk; have hO133 := hR2.own.evo0 hw130; refine wl_a ?_; refine wl_nil (nrm_then ?_); refine cw_ret (ret_block (bodyp_ret (body_ret1 rfl rfl ?_)))
        exact pc_of (pp := pPiece s ex) hR (hpl.trans (pl_dol (by omega))) (hK.older hV9.size) hE131 ⟨hB132, hO133, hR2.ne⟩ rfl rfl hnl (by show st.pos < st.pos + _; omega) hn3 (by show 1 + st.pos ≤ st.pos + _; omega)
       ·skip
        refine cw_seq ?_; refine cw_region ?_; refine wl_m ?_; refine wl_m ?_; refine wl_call1 (vs := [_, _]) Try.goes30 rfl (lit_ok ⟨hR2.blk, hR2.own, hR2.ne⟩ (nextR s st.pos).1 hr0 hr1) rfl ?_; rintro rv w134 ⟨hT, hw135⟩; have hcall9 := hw135; have hV9 := hE35; have hE136 := hE35.then hw135; have hB137 := hw135.blk0 hR2.blk; have hO138 := hR2.own.evo0 hw135; obtain ⟨vs, bx, rfl, hOT, hFx⟩ := hT; obtain ⟨ra, rc, ka, kc, rfl⟩ := id hOT.nine; refine wl_bslice (vs := [_]) rfl Try.slice23 rfl rfl rfl rfl fun b39 w139 hO140 hs141 hw142 => ?_; have hA143 := Apart.new (Lt.blk hB137) hs141; have hA144 := Apart.new (Lt.own hO138) hs141; have hG145 := Ge.new hE136 hs141; have hG146 := Ge.new (Evo.refl ([]) w134) hs141; have hE147 := hE136.then hw142; have hE148 := (Evo.refl ([]) w134).then hw142; have hB149 := hw142.blk0 hB137; have hO150 := hO138.evo0 hw142; refine wl_a ?_; refine wl_nil (nrm_then ?_); refine cw_ret (ret_block (bodyp_ret (body_ret1 rfl rfl ?_)))
        exact pc_of (pp := pPiece s ex) hR (hpl.trans (pl_lit (by omega) (by omega) (by omega))) (kout_one hO140 hOT (hFx.older hV9.size) (hG146 _ rfl) hE148 (fun b hb h => by cases h) (Nat.le_trans hV9.size hcall9.size)) hE147 ⟨hB149, hO150, hR2.ne⟩ rfl rfl hnl (by show st.pos < st.pos + _; omega) hn3 (by show 1 + st.pos ≤ st.pos + _; omega)
end Go.Proofs.Ytljadkcojnlioaa
namespace Go.Proofs.Ytljadkcojnlioaa
open Go.Proofs Go.W Go.RowKit
set_option linter.unusedVariables false
set_option linter.unusedSimpArgs false
theorem pRep_b {s : ByteArray} {i nn : Nat} {lo hi : Int} (hb : Bd s i) (hi0 : i < s.size) (h : pRep (s.extract i s.size) = (lo, hi, nn)) : 0 ≤ lo ∧ lo ≤ 1001 ∧ -1 ≤ hi ∧ hi ≤ 1001 ∧ (nn ≠ 0 → i + nn ≤ s.size ∧ Bd s (i + nn)) := by
  have hrs := sub_sz (s := s) (a := i) (Nat.le_refl s.size)
  have e0 : sb (s.extract i s.size) 0 = sb s i := sb_from (by omega)
  have one : sb s i < 128 → i + 1 ≤ s.size ∧ Bd s (i + 1) := fun h => ⟨hi0, (hb.asc hi0 h).1⟩
  by_cases h1 : sb (s.extract i s.size) 0 = 42
  · rw [pr_star h1] at h; cases h
    exact ⟨by omega, by omega, by omega, by omega, fun _ => one (by omega)⟩
  · by_cases h2 : sb (s.extract i s.size) 0 = 43
    · rw [pr_plus h2] at h; cases h
      exact ⟨by omega, by omega, by omega, by omega, fun _ => one (by omega)⟩
    · by_cases h3 : sb (s.extract i s.size) 0 = 63
      · rw [pr_qu h3] at h; cases h
        exact ⟨by omega, by omega, by omega, by omega, fun _ => one (by omega)⟩
      · by_cases h4 : sb (s.extract i s.size) 0 = 123
        · have close : ∀ {k : Nat}, isB (s.extract i s.size) k 125 → i + (k + 1) ≤ s.size ∧ Bd s (i + (k + 1)) := fun {k} hk => by
            have hk1 := hk.1
            have h6 : sb s (i + k) = 125 := by rw [← sb_from (by omega)]; exact hk.2
            exact ⟨by omega, by rw [← Nat.add_assoc]; exact isB.asc (b := 125) ⟨by omega, h6⟩ (by decide) (bd_of_asc hb (by omega) (by omega) (by omega))⟩
          obtain ⟨lo1, j, hp1⟩ : ∃ lo1 j, pNum (s.extract i s.size) (s.extract i s.size).size 1 0 = (lo1, j) := ⟨_, _, rfl⟩
          have hb1 := pNum_b (r := s.extract i s.size) (f := (s.extract i s.size).size) (i := 1) (n := 0) (by omega) (by omega) (by omega)
          have hbr := pr_br h4 hp1
          rw [hp1] at hb1
          rw [h] at hbr
          replace hb1 : 0 ≤ lo1 ∧ lo1 ≤ 1001 ∧ 1 ≤ j ∧ j ≤ (s.extract i s.size).size := hb1
          split at hbr
          · rename_i hc
            have hb2 := pNum_b (r := s.extract i s.size) (f := (s.extract i s.size).size) (i := j + 1) (n := 0) (by omega) (by omega) (by have := hc.2.1; omega)
            split at hbr
            · rename_i hd
              obtain ⟨rfl, hx⟩ := Prod.mk.inj hbr
              obtain ⟨rfl, rfl⟩ := Prod.mk.inj hx
              refine ⟨hb1.1, hb1.2.1, ?_, ?_, fun _ => close hd⟩
              · split <;> omega
              · split <;> omega
            · cases hbr; exact ⟨by omega, by omega, by omega, by omega, fun h => absurd rfl h⟩
          · split at hbr
            · cases hbr; exact ⟨by omega, by omega, by omega, by omega, fun h => absurd rfl h⟩
            · rename_i hc
              obtain ⟨rfl, hx⟩ := Prod.mk.inj hbr
              obtain ⟨rfl, rfl⟩ := Prod.mk.inj hx
              have hd : isB (s.extract i s.size) j 125 := Classical.not_not.1 (fun h => hc (.inr h))
              exact ⟨hb1.1, hb1.2.1, by omega, by omega, fun _ => close hd⟩
        · rw [pr_no h1 h2 h3 h4] at h; cases h
          exact ⟨by omega, by omega, by omega, by omega, fun h => absurd rfl h⟩
section
variable {s : ByteArray} {ex : PS → PX Rx} {f : Nat} {l g : List Rx} {ah : Bool} {st st2 : PS} {e lo hi : Int} {nn : Nat}
theorem alt_end (h : s.size ≤ st.pos ∨ sb s st.pos = 124 ∨ sb s st.pos = 41) : pAlt s ex f l ah st = .ok (rowP 4 l, st) := by
  cases f with
  | zero => rfl
  | succ f => rw [pAlt, if_pos h]
theorem alt_pcE (h : ¬ (s.size ≤ st.pos ∨ sb s st.pos = 124 ∨ sb s st.pos = 41)) (hr : pRep (s.extract st.pos s.size) = (lo, hi, 0)) (hp : pPiece s ex st = .error e) : pAlt s ex (f + 1) l ah st = .error e := by
  rw [pAlt, if_neg h, hr]; simp only; rw [if_pos trivial, hp]
theorem alt_pc (h : ¬ (s.size ≤ st.pos ∨ sb s st.pos = 124 ∨ sb s st.pos = 41)) (hr : pRep (s.extract st.pos s.size) = (lo, hi, 0)) (hp : pPiece s ex st = .ok (g, st2)) : pAlt s ex (f + 1) l ah st = pAlt s ex f (l ++ g) (decide (0 < g.length)) st2 := by
  rw [pAlt, if_neg h, hr]; simp only; rw [if_pos trivial, hp]
theorem alt_rpE (h : ¬ (s.size ≤ st.pos ∨ sb s st.pos = 124 ∨ sb s st.pos = 41)) (hr : pRep (s.extract st.pos s.size) = (lo, hi, nn)) (hn : nn ≠ 0) (hc : ah = false ∨ 1000 < lo ∨ 1000 < hi ∨ (0 ≤ hi ∧ hi < lo)) : pAlt s ex (f + 1) l ah st = .error 82 := by
  rw [pAlt, if_neg h, hr]; simp only; rw [if_neg hn, if_pos hc]
theorem alt_rp1 (h : ¬ (s.size ≤ st.pos ∨ sb s st.pos = 124 ∨ sb s st.pos = 41)) (hr : pRep (s.extract st.pos s.size) = (lo, hi, nn)) (hn : nn ≠ 0) (hc : ¬ (ah = false ∨ 1000 < lo ∨ 1000 < hi ∨ (0 ≤ hi ∧ hi < lo))) (hq : isB s (st.pos + nn) 63) :
    pAlt s ex (f + 1) l ah st = pAlt s ex f (l.dropLast ++ [rxRep lo hi (!st.now.lazy) (l.getLastD (rxK 1))]) false { st with pos := st.pos + nn + 1 } := by
  rw [pAlt, if_neg h, hr]; simp only; rw [if_neg hn, if_neg hc, if_pos hq]
theorem alt_rp0 (h : ¬ (s.size ≤ st.pos ∨ sb s st.pos = 124 ∨ sb s st.pos = 41)) (hr : pRep (s.extract st.pos s.size) = (lo, hi, nn)) (hn : nn ≠ 0) (hc : ¬ (ah = false ∨ 1000 < lo ∨ 1000 < hi ∨ (0 ≤ hi ∧ hi < lo))) (hq : ¬ isB s (st.pos + nn) 63) :
    pAlt s ex (f + 1) l ah st = pAlt s ex f (l.dropLast ++ [rxRep lo hi st.now.lazy (l.getLastD (rxK 1))]) false { st with pos := st.pos + nn } := by
  rw [pAlt, if_neg h, hr]; simp only; rw [if_neg hn, if_neg hc, if_neg hq]
theorem alts_end (h : ¬ isB s st.pos 124) : pAlts s ex f l st = .ok (rowP 5 l, st) := by
  cases f with
  | zero => rfl
  | succ f => rw [pAlts, if_neg h]
theorem alts_err (h : isB s st.pos 124) (hp : pAlt s ex (s.size + 1) [] false (adv st 1) = .error e) : pAlts s ex (f + 1) l st = .error e := by
  rw [pAlts, if_pos h]; show (match pAlt s ex (s.size + 1) [] false (adv st 1) with | .error e => _ | .ok (x, st2) => _) = _; rw [hp]
theorem alts_go {x : Rx} (h : isB s st.pos 124) (hp : pAlt s ex (s.size + 1) [] false (adv st 1) = .ok (x, st2)) : pAlts s ex (f + 1) l st = pAlts s ex f (l ++ [x]) st2 := by
  rw [pAlts, if_pos h]; show (match pAlt s ex (s.size + 1) [] false (adv st 1) with | .error e => _ | .ok (x, st2) => _) = _; rw [hp]
end
theorem Fr.right {w : World} {b1 b2 : List Nat} (h : Fr w (b1 ++ b2)) : Fr w b2 := ⟨(List.nodup_append.1 h.nd).2.1, fun b hb => h.ge b (List.mem_append_right _ hb)⟩
theorem Fr.sub {w : World} {b1 b2 : List Nat} (h : Fr w b2) (hs : b1.Sublist b2) : Fr w b1 := ⟨h.nd.sublist hs, fun b hb => h.ge b (hs.subset hb)⟩
theorem Fr.insert {w w1 : World} {b0 b1 b2 : List Nat} {g : Nat} (h : Fr w (b0 ++ (b1 ++ b2))) (hl : ∀ b, b ∈ b0 ++ (b1 ++ b2) → b < w1.heap.size) (hg : w1.heap.size ≤ g) (hw : w.heap.size ≤ w1.heap.size) : Fr w (b0 ++ (b1 ++ (g :: b2))) := by
  have hp : (b0 ++ (b1 ++ (g :: b2))).Perm (g :: (b0 ++ (b1 ++ b2))) := by
    rw [← List.append_assoc, ← List.append_assoc]
    exact List.perm_middle
  refine ⟨hp.nodup_iff.2 (List.nodup_cons.2 ⟨fun hm => ?_, h.nd⟩), fun b hb => ?_⟩
  · have := hl g hm; omega
  · rcases List.mem_cons.1 (hp.mem_iff.1 hb) with rfl | hb
    · omega
    · exact h.ge b hb
theorem own_types {w : World} {e e2 : TypeId} {sz sz2 : Nat} {a a2 : Option Addr} {n n2 c c2 : Nat} {xs xs2 : List Value} {o o2 : Option Nat} (h : OwnS w e sz a n c xs o) (h2 : OwnS w e2 sz2 a2 n2 c2 xs2 o2) (hne : e ≠ e2) : Apart o o2 := fun g h3 h4 => by
  rcases h.2 with ⟨_, _, h5⟩ | ⟨g', _, cur, hg, _, hb, _⟩
  · rw [h5] at h3; cases h3
  · rcases h2.2 with ⟨_, _, h5⟩ | ⟨g2, _, cur2, hg2, _, hb2, _⟩
    · rw [h5] at h4; cases h4
    · rw [h3] at hg; cases hg
      rw [h4] at hg2; cases hg2
      rw [hb] at hb2
      injection hb2 with hb2
      injection hb2 with _ hb2
      exact hne hb2
theorem blk_types {w : World} {e e2 : TypeId} {sz2 : Nat} {a2 : Option Addr} {n2 c2 : Nat} {xs2 : List Value} {o2 : Option Nat} {b : Nat} {cs : Array Value} (h : w.heap[b]? = some (.cells cs e (0, 0))) (h2 : OwnS w e2 sz2 a2 n2 c2 xs2 o2) (hne : e ≠ e2) : Apart (some b) o2 := fun g h3 h4 => by
  cases h3
  rcases h2.2 with ⟨_, _, h5⟩ | ⟨g2, _, cur2, hg2, _, hb2, _⟩
  · rw [h5] at h4; cases h4
  · rw [h4] at hg2; cases hg2
    rw [h] at hb2
    injection hb2 with hb2
    injection hb2 with _ hb2
    exact hne hb2
theorem put_end {c1 c2 vs : List Value} (h : vs.length = c2.length) : putAt (c1 ++ c2) c1.length vs = c1 ++ vs := by
  unfold putAt
  rw [List.take_left, List.drop_append, h]
  simp
theorem last_cells {w : World} {g : Nat} {c1 c2 : List Value} (h : CellsAt w g 0 (c1 ++ c2)) : CellsAt w g (0 + c1.length) c2 := fun j v hj => by
  have h1 := h (c1.length + j) v (by rw [List.getElem?_append_right (by omega)]; simpa using hj)
  rw [← Nat.add_assoc] at h1
  exact h1
theorem snoc_rx {l : List Rx} (h : l ≠ []) : ∃ l' x, l = l' ++ [x] ∧ l.dropLast = l' ∧ (∀ d, l.getLastD d = x) := by
  rcases List.eq_nil_or_concat l with rfl | ⟨l', x, rfl⟩
  · exact (h rfl).elim
  · exact ⟨l', x, by simp, by simp, fun d => by simp⟩
theorem ot_rep {X : List Nat} {w1 w2 : World} {x : Rx} {vs : List Value} {bs : List Nat} {g : Nat} {lo hi : Int} {z : Bool} (hO : OwnS w2 25 9 (some ⟨g, 0, none⟩) 1 1 vs (some g)) (hT : OT x w1 vs bs) (he : Evo X w1 w2) (hx : ∀ b, b ∈ bs → b ∉ X) :
    OT (rxRep lo hi z x) w2 [iv 6, .int .i32 0, .slice none 0 0, iv lo, iv hi, .bool z, iv 0, .string ByteArray.empty, .slice (some ⟨g, 0, none⟩) 1 1] (g :: bs) := by
  unfold rxRep
  rw [OT]
  exact ⟨none, 0, none, _, 1, some g, vs, bs, rfl, OwnS.nil _ _ _, hO, OTs.single (hT.evo he hx), rfl, by simp, by show (0 : Nat) ≤ 1000000; omega, by simp⟩
end Go.Proofs.Ytljadkcojnlioaa
namespace Go.Proofs.Ytljadkcojnlioaa
open Go.Proofs
open Go.W Go.RowKit
attribute [local irreducible] Decidable.decide
set_option linter.unusedSimpArgs false
set_option linter.unusedVariables false
theorem Try.goes15 : Goes Try.prog 15 := ⟨_, Try.func15, by kernel_rfl, by kernel_rfl⟩
theorem Try.goes18 : Goes Try.prog 18 := ⟨_, Try.func18, by kernel_rfl, by kernel_rfl⟩
theorem Try.goes19 : Goes Try.prog 19 := ⟨_, Try.func19, by kernel_rfl, by kernel_rfl⟩
noncomputable def pAlt0 (s : ByteArray) (ex : PS → PX Rx) (st : PS) : PX Rx := pAlt s ex (s.size + 1) [] false st
structure AtG where
  f : Nat
  sx : PS
  l : List Rx
  ah : Bool
  n : Nat
  qa : Option Addr
  qc : Nat
  qo : Option Nat
  bs : List Nat
  na : Option Addr
  nc : Nat
  no : Option Nat
structure AtI (w wr : World) (b : Nat) (s : ByteArray) (ex : PS → PX Rx) (st : PS) (ob : Option Nat) (b2 : Nat) (x : AtG) : Prop where
  hr : RdAt wr b s x.sx x.na x.nc x.no
  mv : Mv s st x.sx
  eq : pAlt0 s ex st = pAlt s ex x.f x.l x.ah x.sx
  hf : s.size + 1 ≤ x.f + x.sx.pos
  kt : ∃ cs, OwnS wr 25 9 x.qa x.n x.qc cs x.qo ∧ OTs x.l wr cs x.bs
  fr : Fr w (x.qo.toList ++ x.bs)
  len : x.l.length + st.pos ≤ x.sx.pos
  ahl : x.ah = true → x.l ≠ []
  nb : NB w ob x.no
  hb2 : wr.heap[b2]? = some (.cells #[iv 0, .int .i32 0, .slice none 0 0, iv 0, iv 0, .bool false, iv 0, .string ByteArray.empty, .slice none 0 0] 25 (0, 0))
  g2 : Ge w (some b2)
  a2 : b2 ∉ x.qo.toList ++ x.bs
theorem own_ty {w : World} {e : TypeId} {sz : Nat} {a : Option Addr} {n c : Nat} {xs : List Value} {o : Option Nat} (h : OwnS w e sz a n c xs o) : ∀ g, g ∈ o.toList → ∃ cs, w.heap[g]? = some (.cells cs e (0, 0)) := fun g hg => by
  rcases h.2 with ⟨_, _, h5⟩ | ⟨g', _, cur, hg2, _, hb, _⟩
  · rw [h5] at hg; cases hg
  · rw [hg2] at hg
    rw [List.mem_singleton.1 hg]; exact ⟨_, hb⟩
mutual
theorem OT.types : ∀ {x : Rx} {w : World} {vs : List Value} {bs : List Nat}, OT x w vs bs → ∀ g, g ∈ bs → ∃ cs T, w.heap[g]? = some (.cells cs T (0, 0)) ∧ (T = 25 ∨ T = 66)
  | .mk k r rs mn mx lz cp nm ks, w, vs, bs, h => by
    rw [OT] at h
    obtain ⟨ra, rc, rb, ka, kc, kb, cs, bk, h1, h2, h3, h4, rfl, h5⟩ := h
    intro g hg
    rcases List.mem_append.1 hg with hg | hg
    · obtain ⟨c, hc⟩ := own_ty h2 g hg; exact ⟨c, _, hc, .inr rfl⟩
    · rcases List.mem_append.1 hg with hg | hg
      · obtain ⟨c, hc⟩ := own_ty h3 g hg; exact ⟨c, _, hc, .inl rfl⟩
      · exact OTs.types h4 g hg
theorem OTs.types : ∀ {l : List Rx} {w : World} {cs : List Value} {bs : List Nat}, OTs l w cs bs → ∀ g, g ∈ bs → ∃ cs T, w.heap[g]? = some (.cells cs T (0, 0)) ∧ (T = 25 ∨ T = 66)
  | [], w, cs, bs, h => by rw [OTs] at h; rw [h.2]; exact fun g hg => by cases hg
  | x :: l, w, cs, bs, h => by
    rw [OTs] at h
    obtain ⟨vs, cs', b1, b2, h1, rfl, h3, h4⟩ := h
    intro g hg
    rcases List.mem_append.1 hg with hg | hg
    · exact OT.types h3 g hg
    · exact OTs.types h4 g hg
end
theorem nm_rd {w : World} {b : Nat} {s : ByteArray} {st : PS} {a : Option Addr} {c : Nat} {ob : Option Nat} {qa : Option Addr} {n qc : Nat} {cs : List Value} {qo : Option Nat} {l : List Rx} {bs : List Nat} (hR : RdAt w b s st a c ob) (hO : OwnS w 25 9 qa n qc cs qo) (hT : OTs l w cs bs) : ∀ q, q ∈ qo.toList ++ bs → q ∉ b :: ob.toList := fun q hq hm => by
  have h1 : ∃ cs T, w.heap[q]? = some (.cells cs T (0, 0)) ∧ (T = 25 ∨ T = 66) := by
    rcases List.mem_append.1 hq with hq | hq
    · obtain ⟨c, hc⟩ := own_ty hO q hq; exact ⟨c, _, hc, .inl rfl⟩
    · exact hT.types q hq
  obtain ⟨c1, T, h1, hTT⟩ := h1
  rcases List.mem_cons.1 hm with rfl | hm
  · rw [hR.blk] at h1
    injection h1 with h1
    injection h1 with _ h1
    rw [← h1] at hTT
    exact absurd hTT (by decide +kernel)
  · obtain ⟨c2, h2⟩ := own_ty hR.own q hm
    rw [h2] at h1
    injection h1 with h1
    injection h1 with _ h1
    rw [← h1] at hTT
    exact absurd hTT (by decide +kernel)
theorem nin_grow {w2 : World} {q : Nat} {o o2 : Option Nat} {bs bx : List Nat} (h : q ∉ o.toList ++ bs) (hq : q < w2.heap.size) (hx : ∀ b, b ∈ bx → q ≠ b) (hob : o2 = o ∨ ∃ g, o2 = some g ∧ w2.heap.size ≤ g) : q ∉ o2.toList ++ (bs ++ bx) := fun hm => by
  rcases List.mem_append.1 hm with hm | hm
  · rcases hob with rfl | ⟨g, rfl, hg⟩
    · exact h (List.mem_append_left _ hm)
    · rw [List.mem_singleton.1 hm] at hq; omega
  · rcases List.mem_append.1 hm with hm | hm
    · exact h (List.mem_append_right _ hm)
    · exact hx q hm rfl
theorem own_putLast {w w' : World} {e : TypeId} {sz : Nat} {a : Option Addr} {n c k g : Nat} {c1 c2 vs : List Value} {ob : Option Nat} {cur : Array Value} {U : TypeId} (h : OwnS w e sz a n c (c1 ++ c2) ob) (hg : ob = some g) (hb : w.heap[g]? = some (.cells cur U (0, 0))) (hc1 : c1.length = k * sz) (hk : k < n) (hc2 : c2.length = sz) (hv : vs.length = sz)
    (hb' : w'.heap[g]? = some (.cells (cur.toList.take (0 + k * sz) ++ vs ++ cur.toList.drop (0 + k * sz + sz)).toArray U (0, 0))) : OwnS w' e sz a n c (c1 ++ vs) ob := by
  have h1 := OwnS.put h hg hb (o := 0 + k * sz) (by omega) hk hv hb'
  rw [Nat.zero_add, ← hc1, put_end (by omega)] at h1
  exact h1
theorem repeatQ_ok {w : World} {b : Nat} {s : ByteArray} {st : PS} {a : Option Addr} {c : Nat} {ob : Option Nat} {lo hi : Int} {nn : Nat} (hR : RdAt w b s st a c ob) (hs : s.size ≤ 1000000) (hlt : st.pos < s.size) (hrp : pRep (s.extract st.pos s.size) = (lo, hi, nn)) :
    Calls Try.prog 18 #[.pointer (some ⟨b, 0, none⟩)] w (Ret fun v w' => v = .tuple #[iv lo, iv hi, iv (nn : Nat)] ∧ Evo [] w w') := by
  have h := repeatP_ok hR hs hlt
  rw [hrp] at h
  exact h
theorem ap_nm {q : Nat} {o : Option Nat} {l : List Nat} (h : q ∉ o.toList ++ l) : Apart (some q) o := fun g h1 h2 => by cases h1; exact h (List.mem_append_left _ (by simp [h2]))
theorem evo_w {b : Nat} {o : Option Nat} : ∀ y, y ∈ [b] → y ∈ b :: o.toList := fun y hy => by rw [List.mem_singleton.1 hy]; simp
theorem alternative_ok {ex : PS → PX Rx} {w : World} {b : Nat} {s : ByteArray} {st : PS} {a : Option Addr} {c : Nat} {ob : Option Nat} (hex : st.opn < 250 → ExHyp b s ex (st.opn + 1)) (hR : RdAt w b s st a c ob) (hs : s.size ≤ 4096) (hop : st.opn ≤ 250) (hb : Bd s st.pos) (hnl : st.names.length ≤ 100) (hG : Glb w) (hGo : Apart (some GMax) ob) :
    Calls Try.prog 13 #[.pointer (some ⟨b, 0, none⟩)] w (RetP (ExPost b s (pAlt0 s ex) st ob w) (ExPan b (pAlt0 s ex) st ob w)) := by
  have hap := hR.ap; have hgb : GMax ∉ [b] := fun h => hR.glb hG (List.mem_singleton.1 h).symm; have hgw := gm_nm hgb hGo; have hbw : Lt w (some b) := Lt.blk hR.blk; have how : Lt w ob := Lt.own hR.own; refine calls_of_cw (N := 115) Try.func13 rfl rfl rfl ?_; refine cw_seq ?_; refine cw_region ?_; refine wl_alloc rfl Try.zero25 fun b2 w1 hB2 hs3 hw4 => ?_; have hsz_b2 := hs3; have hA5 := Apart.new (Lt.blk hR.blk) hs3; have hA6 := Apart.new (Lt.own hR.own) hs3; have hG7 := Ge.new (Evo.refl (b :: ob.toList) w) hs3; have hE8 := (Evo.refl (b :: ob.toList) w).then hw4; have hB9 := hw4.blk0 hR.blk; have hO10 := hR.own.evo0 hw4; refine wl_nil (nrm_then ?_); refine cw_seq ?_; refine cw_region ?_; refine wl_a ?_; refine wl_nil (nrm_then ?_); refine cw_seq ?_; refine cw_region ?_; refine wl_a ?_; refine wl_nil (nrm_then ?_); refine cw_seq ?_; refine cw_block ?_
  refine cw_loop (α := AtG) (⟨s.size + 1, st, [], false, 0, none, 0, none, [], a, c, ob⟩) (fun x => [(3, .slice x.qa x.n x.qc), (4, .bool x.ah)]) [(0, _), (2, _)] (fun x wr => Evo (b :: ob.toList) w wr ∧ (AtI w wr b s ex st ob b2 x)) (fun x => x.f) ⟨rfl, rfl, trivial⟩ ⟨rfl, rfl, trivial⟩ ⟨hE8, ⟨⟨hB9, hO10, hR.ne⟩, ⟨rfl, Nat.le_refl _, hb, hnl⟩, rfl, Nat.le_add_right _ _, ⟨[], OwnS.nil _ _ _, OTs.nil _⟩, Fr.nil _, (by show 0 + st.pos ≤ st.pos; omega), (fun h => by cases h), .inl rfl, hB2, hG7, List.not_mem_nil⟩⟩ ?_
  rintro ⟨f, sx, l, ah, n, qa, qc, qo, bs, na, nc, no⟩ wr11 ⟨hV12, ⟨hR1, hmv, heq, hfi, ⟨cs, hown, hts⟩, hfr, hlen, hahl, hnb, hb2, hg2, ha2⟩⟩; show CW _ _ _ _ [(3, .slice qa n qc), (4, .bool ah), (0, _), (2, _)] _
  try dsimp only at hR1
  try dsimp only at hmv
  try dsimp only at heq
  try dsimp only at hfi
  try dsimp only at cs
  try dsimp only at hown
  try dsimp only at hts
  try dsimp only at hfr
  try dsimp only at hlen
  try dsimp only at hahl
  try dsimp only at hnb
  try dsimp only at hb2
  try dsimp only at hg2
  try dsimp only at ha2
  have hA1 : Apart (some b) qo := ap_old hbw (fr_ge hfr); have hA2 := own_types hown hR1.own (by decide +kernel); have hA3 : Apart (some b) (some b2) := ap_old hbw hg2; have hA4 := blk_types hb2 hR1.own (by decide +kernel); have hA5 := ap_nm ha2; have hGo1 := ap_ob hGo (glb_lt hG) hnb; have hpl := hmv.bd.le; have hmle := hmv.le; have nmq := nm_rd hR1 hown hts; refine cw_seq ?_; refine cw_seq ?_; refine cw_quiet (by kernel_rfl) (by kernel_rfl) ?_; refine ql_val rfl (fun _ hq14 => ex_move rfl) ?_; refine ql_val rfl (fun _ hq14 => ex_nilCheck rfl) ?_; refine ql_val rfl (fun _ hq14 => ex_fieldAddr rfl Try.fld41_1) ?_; refine ql_val rfl (fun _ hq14 => ex_load1 rfl Try.agg3 (cell_nth (hq14.blk0 hR1.blk) rfl)) ?_; refine ql_val rfl (fun _ hq14 => ex_move rfl) ?_; refine ql_val rfl (fun _ hq14 => ex_nilCheck rfl) ?_; refine ql_val rfl (fun _ hq14 => ex_fieldAddr rfl Try.fld41_0) ?_; refine ql_val rfl (fun _ hq14 => ex_load1 rfl Try.agg9 (cell_nth (hq14.blk0 hR1.blk) rfl)) ?_; refine ql_val rfl (fun _ hq14 => ex_len_str rfl Try.underlying9 rfl) ?_; refine ql_val rfl (fun _ hq14 => ex_lss rfl rfl) ?_; refine ql_val rfl (fun _ hq14 => ex_move rfl) ?_; refine ql_split (t := 21) rfl (fun hs21 => ?_) (fun hs21 => ?_)
  ·skip
   refine ql_go rfl rfl rfl rfl ?_; refine ql_val rfl (fun _ hq14 => ex_move rfl) ?_; refine ql_go rfl rfl rfl rfl ?_; refine ql_val rfl (fun _ hq14 => ex_nilCheck rfl) ?_; refine ql_go rfl rfl rfl rfl ?_; refine ql_val rfl (fun _ hq14 => ex_fieldAddr rfl Try.fld41_0) ?_; refine ql_go rfl rfl rfl rfl ?_; refine ql_val rfl (fun _ hq14 => ex_load1 rfl Try.agg9 (cell_nth (hq14.blk0 hR1.blk) rfl)) ?_; refine ql_go rfl rfl rfl rfl ?_; refine ql_val rfl (fun _ hq14 => ex_move rfl) ?_; refine ql_go rfl rfl rfl rfl ?_; refine ql_val rfl (fun _ hq14 => ex_nilCheck rfl) ?_; refine ql_go rfl rfl rfl rfl ?_; refine ql_val rfl (fun _ hq14 => ex_fieldAddr rfl Try.fld41_1) ?_; refine ql_go rfl rfl rfl rfl ?_; refine ql_val rfl (fun _ hq14 => ex_load1 rfl Try.agg3 (cell_nth (hq14.blk0 hR1.blk) rfl)) ?_; refine ql_go rfl rfl rfl rfl ?_; refine ql_val rfl (fun _ hq14 => ex_sidx (n := sx.pos) rfl rfl Try.underlying9 rfl (by omega)) ?_; refine ql_go rfl rfl rfl rfl ?_; refine ql_val rfl (fun _ hq14 => ex_neq rfl rfl) ?_; refine ql_val rfl (fun _ hq14 => ex_pick_t rfl rfl) ?_; refine ql_val rfl (fun _ hq14 => ex_move rfl) ?_; refine ql_split (t := 33) rfl (fun hs33 => ?_) (fun hs33 => ?_)
   ·skip
    refine ql_go rfl rfl rfl rfl ?_; refine ql_val rfl (fun _ hq14 => ex_move rfl) ?_; refine ql_go rfl rfl rfl rfl ?_; refine ql_val rfl (fun _ hq14 => ex_nilCheck rfl) ?_; refine ql_go rfl rfl rfl rfl ?_; refine ql_val rfl (fun _ hq14 => ex_fieldAddr rfl Try.fld41_0) ?_; refine ql_go rfl rfl rfl rfl ?_; refine ql_val rfl (fun _ hq14 => ex_load1 rfl Try.agg9 (cell_nth (hq14.blk0 hR1.blk) rfl)) ?_; refine ql_go rfl rfl rfl rfl ?_; refine ql_val rfl (fun _ hq14 => ex_move rfl) ?_; refine ql_go rfl rfl rfl rfl ?_; refine ql_val rfl (fun _ hq14 => ex_nilCheck rfl) ?_; refine ql_go rfl rfl rfl rfl ?_; refine ql_val rfl (fun _ hq14 => ex_fieldAddr rfl Try.fld41_1) ?_; refine ql_go rfl rfl rfl rfl ?_; refine ql_val rfl (fun _ hq14 => ex_load1 rfl Try.agg3 (cell_nth (hq14.blk0 hR1.blk) rfl)) ?_; refine ql_go rfl rfl rfl rfl ?_; refine ql_val rfl (fun _ hq14 => ex_sidx (n := sx.pos) rfl rfl Try.underlying9 rfl (by omega)) ?_; refine ql_go rfl rfl rfl rfl ?_; refine ql_val rfl (fun _ hq14 => ex_neq rfl rfl) ?_; refine ql_val rfl (fun _ hq14 => ex_pick_t rfl rfl) ?_; refine ql_nil (fun wq13 hq14 => nrm_then ?_); have hE15 := hV12.then hq14; have hB16 := hq14.blk0 hR1.blk; have hO17 := hR1.own.evo0 hq14; have hO18 := hown.evo0 hq14; have hF19 := hts.evo0 hq14; have hB20 := hq14.blk0 hb2; refine cw_if rfl (fun hc44 => ?_) (fun hc44 => ?_)
    ·skip
     have hng : ¬ (s.size ≤ sx.pos ∨ sb s sx.pos = 124 ∨ sb s sx.pos = 41) := by omega
     obtain ⟨f', rfl⟩ : ∃ f', f = f' + 1 := ⟨f - 1, by omega⟩; obtain ⟨lo, hi, nn, hrp⟩ : ∃ lo hi nn, pRep (s.extract sx.pos s.size) = (lo, hi, nn) := ⟨_, _, _, rfl⟩; obtain ⟨hlo0, hlo1, hhi0, hhi1, hnn⟩ := pRep_b hmv.bd (by omega) hrp; have hopx : sx.opn = st.opn := hmv.opn
     have hex' : sx.opn < 250 → ExHyp b s ex (sx.opn + 1) := by rw [hopx]; exact hex
     refine cw_skip (nrm_then ?_); refine cw_block ?_; refine cw_seq ?_; refine cw_region ?_; refine wl_m ?_; refine wl_call1 (vs := [_]) Try.goes18 rfl (repeatQ_ok ⟨hB16, hO17, hR1.ne⟩ (by omega) (by omega) hrp) rfl ?_; rintro _ w21 ⟨rfl, hw22⟩; have hE23 := hE15.then hw22; have hB24 := hw22.blk0 hB16; have hO25 := hO17.evo0 hw22; have hO26 := hO18.evo0 hw22; have hF27 := hF19.evo0 hw22; have hB28 := hw22.blk0 hB20; refine wl_m ?_; refine wl_val rfl (ex_extract rfl rfl) ?_; refine wl_val rfl (ex_extract rfl rfl) ?_; refine wl_val rfl (ex_extract rfl rfl) ?_; refine wl_a ?_; refine wl_a ?_; refine wl_a ?_; refine wl_nil (nrm_then ?_); refine cw_seq ?_; refine cw_seq ?_; refine cw_region ?_; refine wl_m ?_; refine wl_val rfl (ex_eql rfl rfl) ?_; refine wl_nil (nrm_then ?_); refine cw_if rfl (fun hc52 => ?_) (fun hc52 => ?_)
     ·skip
      obtain rfl : nn = 0 := by omega
      refine cw_seq ?_; refine cw_region ?_; refine wl_m ?_; refine wl_callP1 (vs := [_]) Try.goes19 rfl (piece_ok hex' ⟨hB24, hO25, hR1.ne⟩ hs (by omega) (by omega) hmv.bd hmv.nm (hG.evo hE23 hgw) hGo1) rfl ?_ ?_
      ·skip
       intro pv wp hpp; obtain ⟨e9, hpe, rfl, hpw⟩ := hpp; exact And.intro rfl ⟨_, rfl, _, heq.trans (alt_pcE hng hrp hpe), rfl, (hE23).step hpw (nb_mem hnb)⟩
      rintro rv w29 ⟨g, st2, hx, hw30, hmv2, hp2, hl2, na3, nc3, no3, ka, kc, ko, cs2, bs2, rfl, hk1, hk2, hk3, hR3, hnb3⟩; have hcall9 := hw30; have hV9 := hE23; have hl1 := ots_lt hO26 hF27; have hnb4 := hnb.older hnb3 hV9.size; have hkg : ∀ q, q ∈ ko.toList ++ bs2 → _ ≤ q := hk3.ge; have hb2l := blk_lt hB28
      have hA73 : Apart ko qo := fun q h1 h2 => by have h3 := hkg q (List.mem_append_left _ (by simp [h1])); have h4 := hl1 q (List.mem_append_left _ (by simp [h2])); omega
      have hA76 : Apart ko (some b2) := fun q h1 h2 => by cases h2; have h3 := hkg b2 (List.mem_append_left _ (by simp [h1])); omega
      have hE31 := hE23.step hw30 (nb_mem hnb); have hB32 := hO26.evo hw30 (fun q hq => nmq q (List.mem_append_left _ (by simp [hq]))); have hB33 := hF27.evo hw30 (fun q hq => nmq q (List.mem_append_right _ hq)); have hB34 := hw30.blk hB28 (nm_2 hA3.symm hA4); have hA71 := own_types hB32 hR3.own (by decide +kernel); have hA72 := blk_types hB34 hR3.own (by decide +kernel); have hA74 := (blk_types hR3.blk hk1 (by decide +kernel)).symm; have hA75 := own_types hk1 hR3.own (by decide +kernel); refine wl_a ?_; refine wl_nil (nrm_then ?_); refine cw_seq ?_; refine cw_region ?_; refine wl_m ?_; refine wl_m ?_; have hPT9 := hk2; have hVV := (Evo.refl [] w29); have hb29 := blk_lt hB34
      refine wl_append rfl rfl rfl rfl Try.app23_23 hB32 (Src.ofOwn hk1 hk2.one) (by have h8 := own_tn hown hts; have h9 := hmv2.bd.le; omega) fun qa2 qc2 w37 qo2 hO2 hw40 hob41 => ?_
      have hA42 := hA5.app (Lt.blk hB34) hob41; have hA43 := hA1.app (Lt.blk hR3.blk) hob41; have hA44 := hA71.symm.app (Lt.own hR3.own) hob41; have hA45 := hA73.app (Lt.own hk1) hob41; have hG46 := (fr_ge hfr).app hE31 hob41; have hE47 := hE31.step hw40 (fr_ge hfr).mem; have hF49 := hB33.evo hw40 (fr_ap hfr); have hB50 := hw40.blk hB34 hA5.nmem; have hB51 := hw40.blk hR3.blk hA1.nmem; have hO52 := hR3.own.evo hw40 hA71.symm.own; have hO53 := hk1.evo hw40 hA73.own
      have hF54 := hk2.evo hw40 (fun q hq h => by have h8 := hkg q (List.mem_append_right _ hq); have h9 := hl1 q (List.mem_append_left _ h); omega)
      have hob2 := hob41; have hFr9 := Fr.grow hfr hl1 hk3.right (OTs.lt hPT9) hV9.size (Nat.le_trans hcall9.size hVV.size) hob2
      have hnin := nin_grow ha2 hb29 (fun q hq e => by have h8 := hkg q (List.mem_append_right _ hq); omega) hob2
      refine wl_a ?_; refine wl_nil (nrm_then ?_); refine cw_seq ?_; refine cw_region ?_; refine wl_m ?_; refine wl_val rfl (ex_len_slice rfl Try.underlying23 rfl) ?_; refine wl_val rfl (ex_gtr rfl rfl) ?_; refine wl_a ?_; refine wl_nil (nrm_then ?_); refine cw_exit (ex_then (ex_here (nrm_same ?_))); refine ⟨⟨f', st2, l ++ g, decide (0 < (g.length : Int)), n + g.length, qa2, qc2, qo2, bs ++ bs2, na3, nc3, no3⟩, ?_, ⟨rfl, rfl, trivial⟩, ⟨rfl, rfl, trivial⟩, hE47, ?_⟩
      · (try dsimp only); show f' < f' + 1; omega
      ·skip
       try dsimp only
       refine ⟨⟨hB51, hO52, hR3.ne⟩, ⟨hmv2.opn.trans hmv.opn, Nat.le_trans hmv.le hmv2.le, hmv2.bd, hmv2.nm⟩, heq.trans ((alt_pc hng hrp hx).trans ?_), (by show s.size + 1 ≤ f' + st2.pos; omega), ⟨_, hO2, OTs.app hF49 hF54⟩, hFr9, (by show (l ++ g).length + st.pos ≤ st2.pos; rw [List.length_append]; omega), ?_, hnb4, hB50, hg2, hnin⟩
       · rw [show decide (0 < (g.length : Int)) = decide (0 < g.length) from decide_eq_decide.2 (by omega)]
       · intro h h9; have h8 : 0 < (g.length : Int) := of_decide_eq_true h; have h7 := (List.append_eq_nil_iff.1 h9).2; rw [h7] at h8; exact absurd h8 (by decide +kernel)
     ·skip
      have hnn0 : nn ≠ 0 := by omega
      refine cw_skip (nrm_then ?_); refine cw_seq ?_; refine cw_seq ?_; refine cw_region ?_; refine wl_m ?_; refine wl_val rfl (ex_notb rfl) ?_; refine wl_m ?_; refine wl_splitb (t := 63) rfl (fun hs63 => ?_) (fun hs63 => ?_)
      ·skip
       replace hs63 := congrArg Bool.not hs63; simp only [Bool.not_not, Bool.not_true, Bool.not_false] at hs63; subst hs63
       refine wl_n ?_; refine wl_n ?_; refine wl_pt ?_; refine wl_m ?_; refine wl_n ?_; refine wl_n ?_; refine wl_pt ?_; refine wl_m ?_; refine wl_n ?_; refine wl_n ?_; refine wl_n ?_; refine wl_u ?_; refine wl_u ?_; refine wl_u ?_; refine wl_n ?_; refine wl_pt ?_; refine wl_nil (nrm_then ?_); refine cw_true rfl ?_; refine cw_region ?_; refine wl_callP1 (vs := [_]) Try.goes10 rfl (fail_ok 82) rfl ?_ ?_
       ·skip
        intro pv wp hpp; obtain ⟨rfl, hpw⟩ := hpp; exact And.intro rfl ⟨_, rfl, _, heq.trans (alt_rpE hng hrp hnn0 (.inl rfl)), rfl, (hE23).then hpw⟩
       intro _ _ hF; exact hF.elim
      ·skip
       replace hs63 := congrArg Bool.not hs63; simp only [Bool.not_not, Bool.not_true, Bool.not_false] at hs63; subst hs63
       refine wl_g ?_; refine wl_m ?_; refine wl_g ?_; refine wl_val rfl (ex_gtr rfl rfl) ?_; refine wl_pf ?_; refine wl_m ?_; refine wl_split (t := 67) rfl (fun hs67 => ?_) (fun hs67 => ?_)
       ·skip
        refine wl_n ?_; refine wl_n ?_; refine wl_pt ?_; refine wl_m ?_; refine wl_n ?_; refine wl_n ?_; refine wl_n ?_; refine wl_u ?_; refine wl_u ?_; refine wl_u ?_; refine wl_n ?_; refine wl_pt ?_; refine wl_nil (nrm_then ?_); refine cw_true rfl ?_; refine cw_region ?_; refine wl_callP1 (vs := [_]) Try.goes10 rfl (fail_ok 82) rfl ?_ ?_
        ·skip
         intro pv wp hpp; obtain ⟨rfl, hpw⟩ := hpp; exact And.intro rfl ⟨_, rfl, _, heq.trans (alt_rpE hng hrp hnn0 (.inr (by omega))), rfl, (hE23).then hpw⟩
        intro _ _ hF; exact hF.elim
       ·skip
        refine wl_g ?_; refine wl_m ?_; refine wl_g ?_; refine wl_val rfl (ex_gtr rfl rfl) ?_; refine wl_pf ?_; refine wl_m ?_; refine wl_split (t := 71) rfl (fun hs71 => ?_) (fun hs71 => ?_)
        ·skip
         refine wl_n ?_; refine wl_n ?_; refine wl_n ?_; refine wl_u ?_; refine wl_u ?_; refine wl_u ?_; refine wl_n ?_; refine wl_pt ?_; refine wl_nil (nrm_then ?_); refine cw_true rfl ?_; refine cw_region ?_; refine wl_callP1 (vs := [_]) Try.goes10 rfl (fail_ok 82) rfl ?_ ?_
         ·skip
          intro pv wp hpp; obtain ⟨rfl, hpw⟩ := hpp; exact And.intro rfl ⟨_, rfl, _, heq.trans (alt_rpE hng hrp hnn0 (.inr (by omega))), rfl, (hE23).then hpw⟩
         intro _ _ hF; exact hF.elim
        ·skip
         refine wl_g ?_; refine wl_m ?_; refine wl_g ?_; refine wl_val rfl (ex_geq rfl rfl) ?_; refine wl_g ?_; refine wl_m ?_; refine wl_split (t := 74) rfl (fun hs74 => ?_) (fun hs74 => ?_)
         ·skip
          refine wl_g ?_; refine wl_m ?_; refine wl_g ?_; refine wl_m ?_; refine wl_g ?_; refine wl_val rfl (ex_lss rfl rfl) ?_; refine wl_g ?_; refine wl_pt ?_; refine wl_pf ?_; refine wl_nil (nrm_then ?_); refine cw_if rfl (fun hc79 => ?_) (fun hc79 => ?_)
          ·skip
           refine cw_region ?_; refine wl_callP1 (vs := [_]) Try.goes10 rfl (fail_ok 82) rfl ?_ ?_
           ·skip
            intro pv wp hpp; obtain ⟨rfl, hpw⟩ := hpp; exact And.intro rfl ⟨_, rfl, _, heq.trans (alt_rpE hng hrp hnn0 (.inr (by omega))), rfl, (hE23).then hpw⟩
           intro _ _ hF; exact hF.elim
          ·skip
           refine cw_skip (nrm_then ?_); refine cw_seq ?_; obtain ⟨hnb1, hnb2⟩ := hnn hnn0
           have hcc : ¬ (true = false ∨ 1000 < lo ∨ 1000 < hi ∨ (0 ≤ hi ∧ hi < lo)) := by rintro (h | h | h | ⟨h, h'⟩); cases h; omega; omega; omega
           obtain ⟨l', x, hlx, hdl, hgl⟩ := snoc_rx (hahl rfl); have hne := own_tn hown hts
           have hn1 : n = l'.length + 1 := by rw [hne, hlx]; simp
           refine cw_region ?_; refine wl_m ?_; refine wl_val rfl (ex_nilCheck rfl) ?_; refine wl_val rfl (ex_fieldAddr rfl Try.fld41_1) ?_; refine wl_val rfl (ex_load1 rfl Try.agg3 (cell_nth hB24 rfl)) ?_; refine wl_m ?_; refine wl_val rfl (ex_add_i64 rfl rfl (by omega) (by omega)) ?_; refine wl_val rfl (ex_nilCheck rfl) ?_; refine wl_val rfl (ex_fieldAddr rfl Try.fld41_1) ?_; refine wl_store1 rfl rfl (by first | rfl | assumption) Try.size3 hB24 rfl fun w63 hB64 hw65 => ?_
           have hE66 := hE23.step hw65 (fun y hy => .inl (by rw [List.mem_singleton.1 hy]; simp))
           have hO67 := hO25.evo hw65 hR1.ap.symm.own1; have hO68 := hO26.evo hw65 hA1.symm.own1; have hF69 := hF27.evo hw65 (fun q hq h => nmq q (List.mem_append_right _ hq) (evo_w q h)); have hB70 := hw65.blk hB28 hA3.symm.nmem1
           try simp only [List.setIfInBounds_toArray, List.set_cons_zero, List.set_cons_succ, Nat.reduceAdd, Nat.zero_add, Nat.add_zero] at hB64
           refine wl_nil (nrm_then ?_); refine cw_seq ?_; refine cw_region ?_; refine wl_m ?_; refine wl_val rfl (ex_nilCheck rfl) ?_; refine wl_val rfl (ex_fieldAddr rfl Try.fld41_2) ?_; refine wl_val rfl (ex_fieldAddr rfl Try.fld38_3) ?_; refine wl_val rfl (ex_load1 rfl Try.agg4 (cell_nth hB64 rfl)) ?_; refine wl_a ?_; refine wl_nil (nrm_then ?_); refine cw_seq ?_; refine cw_seq ?_; refine cw_region ?_; refine wl_m ?_; refine wl_call1 (vs := [_, _]) Try.goes14 rfl (take_ok (st := pset sx (sx.pos + nn)) ⟨hB64, hO67, hR1.ne⟩ (by omega) 63 (by decide)) rfl ?_; rintro _ w71 ⟨rfl, hw72, hR7⟩
           have hE73 := hE66.step hw72 (fun y hy => .inl (by rw [List.mem_singleton.1 hy]; simp))
           have hB74 := hO68.evo hw72 ((by first | exact hA1.symm.own1 | exact hA1.symm.nmem1)); have hB75 := hF69.evo hw72 (fun q hq h => nmq q (List.mem_append_right _ hq) (evo_w q h)); have hB76 := hw72.blk hB70 ((by first | exact hA3.symm.own1 | exact hA3.symm.nmem1)); refine wl_nil (nrm_then ?_); refine cw_if rfl (fun hc95 => ?_) (fun hc95 => ?_)
           ·skip
            rw [if_pos hc95] at hR7; refine cw_region ?_; refine wl_m ?_; refine wl_val rfl (ex_notb rfl) ?_; refine wl_a ?_; refine wl_nil (nrm_then ?_); refine cw_seq ?_; refine cw_region ?_; refine wl_m ?_; refine wl_val rfl (ex_len_slice rfl Try.underlying23 rfl) ?_; refine wl_val rfl (ex_sub_i64 rfl rfl (by omega) (by omega)) ?_; refine wl_a ?_; refine wl_nil (nrm_then ?_); refine cw_seq ?_; have hts16 := hB75; rw [hlx] at hts16; obtain ⟨c1, c2, b1, bx, hcs, hbs, ht1, ht2⟩ := OTs.parts hts16; have hl16 := ots_lt hB74 hB75; have hV16 := hE73; have hb216 := blk_lt hB76; subst hcs; subst hbs; have hX := ht2.one'; obtain ⟨ra, rc, ka, kc, rfl⟩ := id hX.nine; obtain ⟨gq, hgq, haq, hcq⟩ := (hB74).cells (by omega); have hcl := last_cells hcq; have hc1l := ht1.len; rw [hc1l] at hcl; refine cw_region ?_; refine wl_m ?_; refine wl_m ?_; refine wl_m ?_; refine wl_m ?_; refine wl_m ?_; refine wl_m ?_; refine wl_m ?_; refine wl_val rfl (ex_indexAddrZA (n := l'.length) rfl rfl haq (by omega) Try.elem23 (by omega)) ?_; refine wl_val rfl (ex_loadA rfl Try.agg25 Try.size25 (vs := [_, _, _, _, _, _, _, _, _]) rfl (hcl.evo (Evo.refl [] w71) (by simp))) ?_; refine wl_bslice (vs := [_]) rfl Try.slice23 rfl rfl rfl rfl fun b110 w77 hO78 hs79 hw80 => ?_; have hA81 := Apart.new (Lt.own hB74) hs79; have hA82 := Apart.new (Lt.blk hB76) hs79; have hA83 := Apart.new (Lt.blk hR7.blk) hs79; have hA84 := Apart.new (Lt.own hR7.own) hs79; have hG85 := Ge.new hE73 hs79; have hG86 := Ge.new (Evo.refl [] w71) hs79; have hG87 := Ge.new (Evo.refl qo.toList w71) hs79; have hE88 := hE73.then hw80; have hE89 := (Evo.refl [] w71).then hw80; have hE90 := (Evo.refl qo.toList w71).then hw80; have hO91 := hB74.evo0 hw80; have hF92 := hB75.evo0 hw80; have hB93 := hw80.blk0 hB76; have hB94 := hw80.blk0 hR7.blk
            have hO95 := hR7.own.evo0 hw80; refine wl_val rfl (ex_build (vs := [(0, _), (3, _), (4, _), (5, _), (8, _)]) Try.build25 rfl (cells := [_, _, _, _, _, _, _, _, _]) rfl) ?_; have hG110 := hG86; refine wl_val rfl (ex_indexAddrZA (n := l'.length) rfl rfl haq (by omega) Try.elem23 (by omega)) ?_
            obtain ⟨g9, cur9, hg9, hx9, hcu9, hcs9, -⟩ := hO91.at (by omega)
            rw [haq] at hx9; cases hx9
            refine wl_storeG rfl rfl Try.size25 rfl (fun u hu => AllOne.mem (l := [_, _, _, _, _, _, _, _, _]) ⟨rfl, rfl, rfl, rfl, rfl, rfl, rfl, rfl, rfl, trivial⟩ u hu) hcu9 (by have h8 := (hO91).le; rw [hcs9]; omega) fun w96 hB97 hw98 => ?_
            replace hw98 := evo_ob hg9 hw98; have hO99 := own_putLast hO91 hg9 hcu9 hc1l (by omega) rfl rfl hB97; have hE100 := hE88.step hw98 (fr_ge hfr).mem; have hE102 := hE90.step hw98 (fun y hy => .inl hy); have hF103 := hF92.evo hw98 (fr_ap hfr); have hB104 := hw98.blk hB93 hA5.nmem; have hB105 := hw98.blk hB94 hA1.nmem; have hO106 := hO95.evo hw98 hA2.symm.own; have hO107 := hO78.evo hw98 hA81.symm.own; refine wl_nil (nrm_then ?_); refine cw_region ?_; refine wl_a ?_; refine wl_nil (nrm_block (nrm_same ?_)); refine ⟨⟨f', pset sx (sx.pos + nn + 1), l' ++ [rxRep lo hi (!sx.now.lazy) x], false, n, qa, qc, qo, b1 ++ (b110 :: bx), na, nc, no⟩, ?_, ⟨rfl, rfl, trivial⟩, ⟨rfl, rfl, trivial⟩, hE100, ?_⟩
            · (try dsimp only); show f' < f' + 1; omega
            ·skip
             try dsimp only
             have hRp := ot_rep (lo := lo) (hi := hi) (z := !sx.now.lazy) hO107 hX hE102 (fun q hq => fr_ap hfr q (List.mem_append_right _ hq)); have hge110 := hG110 _ rfl
             refine ⟨⟨hB105, hO106, hR7.ne⟩, ⟨hmv.opn, (by show st.pos ≤ sx.pos + nn + 1; omega), hc95.asc (by decide) hnb2, hmv.nm⟩, heq.trans ((alt_rp1 hng hrp hnn0 hcc hc95).trans (by rw [hdl, hgl]; rfl)), (by show s.size + 1 ≤ f' + (sx.pos + nn + 1); omega), ⟨_, hO99, OTs.app (ht1.evo hE102 (fun q hq => fr_ap hfr q (List.mem_append_left _ hq))) (OTs.single hRp)⟩, Fr.insert hfr hl16 hge110 hV16.size, ?_, (fun h => by cases h), hnb, hB104, hg2, ?_⟩
             · show (l' ++ [_]).length + st.pos ≤ sx.pos + nn + 1; rw [hlx] at hlen; rw [List.length_append] at hlen ⊢; simp at hlen ⊢; omega
             · intro hm; rcases List.mem_append.1 hm with hm | hm
               · exact ha2 (List.mem_append_left _ hm)
               · rcases List.mem_append.1 hm with hm | hm
                 · exact ha2 (List.mem_append_right _ (List.mem_append_left _ hm))
                 · rcases List.mem_cons.1 hm with hm | hm
                   · omega
                   · exact ha2 (List.mem_append_right _ (List.mem_append_right _ hm))
           ·skip
            rw [if_neg hc95] at hR7; refine cw_skip (nrm_then ?_); refine cw_seq ?_; refine cw_region ?_; refine wl_m ?_; refine wl_val rfl (ex_len_slice rfl Try.underlying23 rfl) ?_; refine wl_val rfl (ex_sub_i64 rfl rfl (by omega) (by omega)) ?_; refine wl_a ?_; refine wl_nil (nrm_then ?_); refine cw_seq ?_; have hts16 := hB75; rw [hlx] at hts16; obtain ⟨c1, c2, b1, bx, hcs, hbs, ht1, ht2⟩ := OTs.parts hts16; have hl16 := ots_lt hB74 hB75; have hV16 := hE73; have hb216 := blk_lt hB76; subst hcs; subst hbs; have hX := ht2.one'; obtain ⟨ra, rc, ka, kc, rfl⟩ := id hX.nine; obtain ⟨gq, hgq, haq, hcq⟩ := (hB74).cells (by omega); have hcl := last_cells hcq; have hc1l := ht1.len; rw [hc1l] at hcl; refine cw_region ?_; refine wl_m ?_; refine wl_m ?_; refine wl_m ?_; refine wl_m ?_; refine wl_m ?_; refine wl_m ?_; refine wl_m ?_; refine wl_val rfl (ex_indexAddrZA (n := l'.length) rfl rfl haq (by omega) Try.elem23 (by omega)) ?_; refine wl_val rfl (ex_loadA rfl Try.agg25 Try.size25 (vs := [_, _, _, _, _, _, _, _, _]) rfl (hcl.evo (Evo.refl [] w71) (by simp))) ?_; refine wl_bslice (vs := [_]) rfl Try.slice23 rfl rfl rfl rfl fun b110 w108 hO109 hs110 hw111 => ?_; have hA112 := Apart.new (Lt.own hB74) hs110; have hA113 := Apart.new (Lt.blk hB76) hs110; have hA114 := Apart.new (Lt.blk hR7.blk) hs110; have hA115 := Apart.new (Lt.own hR7.own) hs110; have hG116 := Ge.new hE73 hs110; have hG117 := Ge.new (Evo.refl [] w71) hs110; have hG118 := Ge.new (Evo.refl qo.toList w71) hs110; have hE119 := hE73.then hw111; have hE120 := (Evo.refl [] w71).then hw111; have hE121 := (Evo.refl qo.toList w71).then hw111; have hO122 := hB74.evo0 hw111; have hF123 := hB75.evo0 hw111; have hB124 := hw111.blk0 hB76; have hB125 := hw111.blk0 hR7.blk; have hO126 := hR7.own.evo0 hw111
            refine wl_val rfl (ex_build (vs := [(0, _), (3, _), (4, _), (5, _), (8, _)]) Try.build25 rfl (cells := [_, _, _, _, _, _, _, _, _]) rfl) ?_; have hG110 := hG117; refine wl_val rfl (ex_indexAddrZA (n := l'.length) rfl rfl haq (by omega) Try.elem23 (by omega)) ?_
            obtain ⟨g9, cur9, hg9, hx9, hcu9, hcs9, -⟩ := hO122.at (by omega)
            rw [haq] at hx9; cases hx9
            refine wl_storeG rfl rfl Try.size25 rfl (fun u hu => AllOne.mem (l := [_, _, _, _, _, _, _, _, _]) ⟨rfl, rfl, rfl, rfl, rfl, rfl, rfl, rfl, rfl, trivial⟩ u hu) hcu9 (by have h8 := (hO122).le; rw [hcs9]; omega) fun w127 hB128 hw129 => ?_
            replace hw129 := evo_ob hg9 hw129; have hO130 := own_putLast hO122 hg9 hcu9 hc1l (by omega) rfl rfl hB128; have hE131 := hE119.step hw129 (fr_ge hfr).mem; have hE133 := hE121.step hw129 (fun y hy => .inl hy); have hF134 := hF123.evo hw129 (fr_ap hfr); have hB135 := hw129.blk hB124 hA5.nmem; have hB136 := hw129.blk hB125 hA1.nmem; have hO137 := hO126.evo hw129 hA2.symm.own; have hO138 := hO109.evo hw129 hA112.symm.own; refine wl_nil (nrm_then ?_); refine cw_region ?_; refine wl_a ?_; refine wl_nil (nrm_block (nrm_same ?_)); refine ⟨⟨f', pset sx (sx.pos + nn), l' ++ [rxRep lo hi (sx.now.lazy) x], false, n, qa, qc, qo, b1 ++ (b110 :: bx), na, nc, no⟩, ?_, ⟨rfl, rfl, trivial⟩, ⟨rfl, rfl, trivial⟩, hE131, ?_⟩
            · (try dsimp only); show f' < f' + 1; omega
            ·skip
             try dsimp only
             have hRp := ot_rep (lo := lo) (hi := hi) (z := sx.now.lazy) hO138 hX hE133 (fun q hq => fr_ap hfr q (List.mem_append_right _ hq)); have hge110 := hG110 _ rfl
             refine ⟨⟨hB136, hO137, hR7.ne⟩, ⟨hmv.opn, (by show st.pos ≤ sx.pos + nn; omega), hnb2, hmv.nm⟩, heq.trans ((alt_rp0 hng hrp hnn0 hcc hc95).trans (by rw [hdl, hgl]; rfl)), (by show s.size + 1 ≤ f' + (sx.pos + nn); omega), ⟨_, hO130, OTs.app (ht1.evo hE133 (fun q hq => fr_ap hfr q (List.mem_append_left _ hq))) (OTs.single hRp)⟩, Fr.insert hfr hl16 hge110 hV16.size, ?_, (fun h => by cases h), hnb, hB135, hg2, ?_⟩
             · show (l' ++ [_]).length + st.pos ≤ sx.pos + nn; rw [hlx] at hlen; rw [List.length_append] at hlen ⊢; simp at hlen ⊢; omega
             · intro hm; rcases List.mem_append.1 hm with hm | hm
               · exact ha2 (List.mem_append_left _ hm)
               · rcases List.mem_append.1 hm with hm | hm
                 · exact ha2 (List.mem_append_right _ (List.mem_append_left _ hm))
                 · rcases List.mem_cons.1 hm with hm | hm
                   · omega
                   · exact ha2 (List.mem_append_right _ (List.mem_append_right _ hm))
         ·skip
          refine wl_n ?_; refine wl_n ?_; refine wl_n ?_; refine wl_g ?_; refine wl_pf ?_; refine wl_pf ?_; refine wl_nil (nrm_then ?_); refine cw_false rfl ?_; refine cw_skip (nrm_then ?_); refine cw_seq ?_; obtain ⟨hnb1, hnb2⟩ := hnn hnn0
          have hcc : ¬ (true = false ∨ 1000 < lo ∨ 1000 < hi ∨ (0 ≤ hi ∧ hi < lo)) := by rintro (h | h | h | ⟨h, h'⟩); cases h; omega; omega; omega
          obtain ⟨l', x, hlx, hdl, hgl⟩ := snoc_rx (hahl rfl); have hne := own_tn hown hts
          have hn1 : n = l'.length + 1 := by rw [hne, hlx]; simp
          refine cw_region ?_; refine wl_m ?_; refine wl_val rfl (ex_nilCheck rfl) ?_; refine wl_val rfl (ex_fieldAddr rfl Try.fld41_1) ?_; refine wl_val rfl (ex_load1 rfl Try.agg3 (cell_nth hB24 rfl)) ?_; refine wl_m ?_; refine wl_val rfl (ex_add_i64 rfl rfl (by omega) (by omega)) ?_; refine wl_val rfl (ex_nilCheck rfl) ?_; refine wl_val rfl (ex_fieldAddr rfl Try.fld41_1) ?_; refine wl_store1 rfl rfl (by first | rfl | assumption) Try.size3 hB24 rfl fun w139 hB140 hw141 => ?_
          have hE142 := hE23.step hw141 (fun y hy => .inl (by rw [List.mem_singleton.1 hy]; simp))
          have hO143 := hO25.evo hw141 hR1.ap.symm.own1; have hO144 := hO26.evo hw141 hA1.symm.own1; have hF145 := hF27.evo hw141 (fun q hq h => nmq q (List.mem_append_right _ hq) (evo_w q h)); have hB146 := hw141.blk hB28 hA3.symm.nmem1
          try simp only [List.setIfInBounds_toArray, List.set_cons_zero, List.set_cons_succ, Nat.reduceAdd, Nat.zero_add, Nat.add_zero] at hB140
          refine wl_nil (nrm_then ?_); refine cw_seq ?_; refine cw_region ?_; refine wl_m ?_; refine wl_val rfl (ex_nilCheck rfl) ?_; refine wl_val rfl (ex_fieldAddr rfl Try.fld41_2) ?_; refine wl_val rfl (ex_fieldAddr rfl Try.fld38_3) ?_; refine wl_val rfl (ex_load1 rfl Try.agg4 (cell_nth hB140 rfl)) ?_; refine wl_a ?_; refine wl_nil (nrm_then ?_); refine cw_seq ?_; refine cw_seq ?_; refine cw_region ?_; refine wl_m ?_; refine wl_call1 (vs := [_, _]) Try.goes14 rfl (take_ok (st := pset sx (sx.pos + nn)) ⟨hB140, hO143, hR1.ne⟩ (by omega) 63 (by decide)) rfl ?_; rintro _ w147 ⟨rfl, hw148, hR7⟩
          have hE149 := hE142.step hw148 (fun y hy => .inl (by rw [List.mem_singleton.1 hy]; simp))
          have hB150 := hO144.evo hw148 ((by first | exact hA1.symm.own1 | exact hA1.symm.nmem1)); have hB151 := hF145.evo hw148 (fun q hq h => nmq q (List.mem_append_right _ hq) (evo_w q h)); have hB152 := hw148.blk hB146 ((by first | exact hA3.symm.own1 | exact hA3.symm.nmem1)); refine wl_nil (nrm_then ?_); refine cw_if rfl (fun hc95 => ?_) (fun hc95 => ?_)
          ·skip
           rw [if_pos hc95] at hR7; refine cw_region ?_; refine wl_m ?_; refine wl_val rfl (ex_notb rfl) ?_; refine wl_a ?_; refine wl_nil (nrm_then ?_); refine cw_seq ?_; refine cw_region ?_; refine wl_m ?_; refine wl_val rfl (ex_len_slice rfl Try.underlying23 rfl) ?_; refine wl_val rfl (ex_sub_i64 rfl rfl (by omega) (by omega)) ?_; refine wl_a ?_; refine wl_nil (nrm_then ?_); refine cw_seq ?_; have hts16 := hB151; rw [hlx] at hts16; obtain ⟨c1, c2, b1, bx, hcs, hbs, ht1, ht2⟩ := OTs.parts hts16; have hl16 := ots_lt hB150 hB151; have hV16 := hE149; have hb216 := blk_lt hB152; subst hcs; subst hbs; have hX := ht2.one'; obtain ⟨ra, rc, ka, kc, rfl⟩ := id hX.nine; obtain ⟨gq, hgq, haq, hcq⟩ := (hB150).cells (by omega); have hcl := last_cells hcq; have hc1l := ht1.len; rw [hc1l] at hcl; refine cw_region ?_; refine wl_m ?_; refine wl_m ?_; refine wl_m ?_; refine wl_m ?_; refine wl_m ?_; refine wl_m ?_; refine wl_m ?_; refine wl_val rfl (ex_indexAddrZA (n := l'.length) rfl rfl haq (by omega) Try.elem23 (by omega)) ?_; refine wl_val rfl (ex_loadA rfl Try.agg25 Try.size25 (vs := [_, _, _, _, _, _, _, _, _]) rfl (hcl.evo (Evo.refl [] w147) (by simp))) ?_; refine wl_bslice (vs := [_]) rfl Try.slice23 rfl rfl rfl rfl fun b110 w153 hO154 hs155 hw156 => ?_; have hA157 := Apart.new (Lt.own hB150) hs155; have hA158 := Apart.new (Lt.blk hB152) hs155; have hA159 := Apart.new (Lt.blk hR7.blk) hs155; have hA160 := Apart.new (Lt.own hR7.own) hs155; have hG161 := Ge.new hE149 hs155; have hG162 := Ge.new (Evo.refl [] w147) hs155; have hG163 := Ge.new (Evo.refl qo.toList w147) hs155; have hE164 := hE149.then hw156; have hE165 := (Evo.refl [] w147).then hw156; have hE166 := (Evo.refl qo.toList w147).then hw156; have hO167 := hB150.evo0 hw156; have hF168 := hB151.evo0 hw156
           have hB169 := hw156.blk0 hB152; have hB170 := hw156.blk0 hR7.blk; have hO171 := hR7.own.evo0 hw156; refine wl_val rfl (ex_build (vs := [(0, _), (3, _), (4, _), (5, _), (8, _)]) Try.build25 rfl (cells := [_, _, _, _, _, _, _, _, _]) rfl) ?_; have hG110 := hG162; refine wl_val rfl (ex_indexAddrZA (n := l'.length) rfl rfl haq (by omega) Try.elem23 (by omega)) ?_
           obtain ⟨g9, cur9, hg9, hx9, hcu9, hcs9, -⟩ := hO167.at (by omega)
           rw [haq] at hx9; cases hx9
           refine wl_storeG rfl rfl Try.size25 rfl (fun u hu => AllOne.mem (l := [_, _, _, _, _, _, _, _, _]) ⟨rfl, rfl, rfl, rfl, rfl, rfl, rfl, rfl, rfl, trivial⟩ u hu) hcu9 (by have h8 := (hO167).le; rw [hcs9]; omega) fun w172 hB173 hw174 => ?_
           replace hw174 := evo_ob hg9 hw174; have hO175 := own_putLast hO167 hg9 hcu9 hc1l (by omega) rfl rfl hB173; have hE176 := hE164.step hw174 (fr_ge hfr).mem; have hE178 := hE166.step hw174 (fun y hy => .inl hy); have hF179 := hF168.evo hw174 (fr_ap hfr); have hB180 := hw174.blk hB169 hA5.nmem; have hB181 := hw174.blk hB170 hA1.nmem; have hO182 := hO171.evo hw174 hA2.symm.own; have hO183 := hO154.evo hw174 hA157.symm.own; refine wl_nil (nrm_then ?_); refine cw_region ?_; refine wl_a ?_; refine wl_nil (nrm_block (nrm_same ?_)); refine ⟨⟨f', pset sx (sx.pos + nn + 1), l' ++ [rxRep lo hi (!sx.now.lazy) x], false, n, qa, qc, qo, b1 ++ (b110 :: bx), na, nc, no⟩, ?_, ⟨rfl, rfl, trivial⟩, ⟨rfl, rfl, trivial⟩, hE176, ?_⟩
           · (try dsimp only); show f' < f' + 1; omega
           ·skip
            try dsimp only
            have hRp := ot_rep (lo := lo) (hi := hi) (z := !sx.now.lazy) hO183 hX hE178 (fun q hq => fr_ap hfr q (List.mem_append_right _ hq)); have hge110 := hG110 _ rfl
            refine ⟨⟨hB181, hO182, hR7.ne⟩, ⟨hmv.opn, (by show st.pos ≤ sx.pos + nn + 1; omega), hc95.asc (by decide) hnb2, hmv.nm⟩, heq.trans ((alt_rp1 hng hrp hnn0 hcc hc95).trans (by rw [hdl, hgl]; rfl)), (by show s.size + 1 ≤ f' + (sx.pos + nn + 1); omega), ⟨_, hO175, OTs.app (ht1.evo hE178 (fun q hq => fr_ap hfr q (List.mem_append_left _ hq))) (OTs.single hRp)⟩, Fr.insert hfr hl16 hge110 hV16.size, ?_, (fun h => by cases h), hnb, hB180, hg2, ?_⟩
            · show (l' ++ [_]).length + st.pos ≤ sx.pos + nn + 1; rw [hlx] at hlen; rw [List.length_append] at hlen ⊢; simp at hlen ⊢; omega
            · intro hm; rcases List.mem_append.1 hm with hm | hm
              · exact ha2 (List.mem_append_left _ hm)
              · rcases List.mem_append.1 hm with hm | hm
                · exact ha2 (List.mem_append_right _ (List.mem_append_left _ hm))
                · rcases List.mem_cons.1 hm with hm | hm
                  · omega
                  · exact ha2 (List.mem_append_right _ (List.mem_append_right _ hm))
          ·skip
           rw [if_neg hc95] at hR7; refine cw_skip (nrm_then ?_); refine cw_seq ?_; refine cw_region ?_; refine wl_m ?_; refine wl_val rfl (ex_len_slice rfl Try.underlying23 rfl) ?_; refine wl_val rfl (ex_sub_i64 rfl rfl (by omega) (by omega)) ?_; refine wl_a ?_; refine wl_nil (nrm_then ?_); refine cw_seq ?_; have hts16 := hB151; rw [hlx] at hts16; obtain ⟨c1, c2, b1, bx, hcs, hbs, ht1, ht2⟩ := OTs.parts hts16; have hl16 := ots_lt hB150 hB151; have hV16 := hE149; have hb216 := blk_lt hB152; subst hcs; subst hbs; have hX := ht2.one'; obtain ⟨ra, rc, ka, kc, rfl⟩ := id hX.nine; obtain ⟨gq, hgq, haq, hcq⟩ := (hB150).cells (by omega); have hcl := last_cells hcq; have hc1l := ht1.len; rw [hc1l] at hcl; refine cw_region ?_; refine wl_m ?_; refine wl_m ?_; refine wl_m ?_; refine wl_m ?_; refine wl_m ?_; refine wl_m ?_; refine wl_m ?_; refine wl_val rfl (ex_indexAddrZA (n := l'.length) rfl rfl haq (by omega) Try.elem23 (by omega)) ?_; refine wl_val rfl (ex_loadA rfl Try.agg25 Try.size25 (vs := [_, _, _, _, _, _, _, _, _]) rfl (hcl.evo (Evo.refl [] w147) (by simp))) ?_; refine wl_bslice (vs := [_]) rfl Try.slice23 rfl rfl rfl rfl fun b110 w184 hO185 hs186 hw187 => ?_; have hA188 := Apart.new (Lt.own hB150) hs186; have hA189 := Apart.new (Lt.blk hB152) hs186; have hA190 := Apart.new (Lt.blk hR7.blk) hs186; have hA191 := Apart.new (Lt.own hR7.own) hs186; have hG192 := Ge.new hE149 hs186; have hG193 := Ge.new (Evo.refl [] w147) hs186; have hG194 := Ge.new (Evo.refl qo.toList w147) hs186; have hE195 := hE149.then hw187; have hE196 := (Evo.refl [] w147).then hw187; have hE197 := (Evo.refl qo.toList w147).then hw187; have hO198 := hB150.evo0 hw187; have hF199 := hB151.evo0 hw187; have hB200 := hw187.blk0 hB152; have hB201 := hw187.blk0 hR7.blk; have hO202 := hR7.own.evo0 hw187
           refine wl_val rfl (ex_build (vs := [(0, _), (3, _), (4, _), (5, _), (8, _)]) Try.build25 rfl (cells := [_, _, _, _, _, _, _, _, _]) rfl) ?_; have hG110 := hG193; refine wl_val rfl (ex_indexAddrZA (n := l'.length) rfl rfl haq (by omega) Try.elem23 (by omega)) ?_
           obtain ⟨g9, cur9, hg9, hx9, hcu9, hcs9, -⟩ := hO198.at (by omega)
           rw [haq] at hx9; cases hx9
           refine wl_storeG rfl rfl Try.size25 rfl (fun u hu => AllOne.mem (l := [_, _, _, _, _, _, _, _, _]) ⟨rfl, rfl, rfl, rfl, rfl, rfl, rfl, rfl, rfl, trivial⟩ u hu) hcu9 (by have h8 := (hO198).le; rw [hcs9]; omega) fun w203 hB204 hw205 => ?_
           replace hw205 := evo_ob hg9 hw205; have hO206 := own_putLast hO198 hg9 hcu9 hc1l (by omega) rfl rfl hB204; have hE207 := hE195.step hw205 (fr_ge hfr).mem; have hE209 := hE197.step hw205 (fun y hy => .inl hy); have hF210 := hF199.evo hw205 (fr_ap hfr); have hB211 := hw205.blk hB200 hA5.nmem; have hB212 := hw205.blk hB201 hA1.nmem; have hO213 := hO202.evo hw205 hA2.symm.own; have hO214 := hO185.evo hw205 hA188.symm.own; refine wl_nil (nrm_then ?_); refine cw_region ?_; refine wl_a ?_; refine wl_nil (nrm_block (nrm_same ?_)); refine ⟨⟨f', pset sx (sx.pos + nn), l' ++ [rxRep lo hi (sx.now.lazy) x], false, n, qa, qc, qo, b1 ++ (b110 :: bx), na, nc, no⟩, ?_, ⟨rfl, rfl, trivial⟩, ⟨rfl, rfl, trivial⟩, hE207, ?_⟩
           · (try dsimp only); show f' < f' + 1; omega
           ·skip
            try dsimp only
            have hRp := ot_rep (lo := lo) (hi := hi) (z := sx.now.lazy) hO214 hX hE209 (fun q hq => fr_ap hfr q (List.mem_append_right _ hq)); have hge110 := hG110 _ rfl
            refine ⟨⟨hB212, hO213, hR7.ne⟩, ⟨hmv.opn, (by show st.pos ≤ sx.pos + nn; omega), hnb2, hmv.nm⟩, heq.trans ((alt_rp0 hng hrp hnn0 hcc hc95).trans (by rw [hdl, hgl]; rfl)), (by show s.size + 1 ≤ f' + (sx.pos + nn); omega), ⟨_, hO206, OTs.app (ht1.evo hE209 (fun q hq => fr_ap hfr q (List.mem_append_left _ hq))) (OTs.single hRp)⟩, Fr.insert hfr hl16 hge110 hV16.size, ?_, (fun h => by cases h), hnb, hB211, hg2, ?_⟩
            · show (l' ++ [_]).length + st.pos ≤ sx.pos + nn; rw [hlx] at hlen; rw [List.length_append] at hlen ⊢; simp at hlen ⊢; omega
            · intro hm; rcases List.mem_append.1 hm with hm | hm
              · exact ha2 (List.mem_append_left _ hm)
              · rcases List.mem_append.1 hm with hm | hm
                · exact ha2 (List.mem_append_right _ (List.mem_append_left _ hm))
                · rcases List.mem_cons.1 hm with hm | hm
                  · omega
                  · exact ha2 (List.mem_append_right _ (List.mem_append_right _ hm))
    ·skip
     refine cw_exit (ex_then (ex_then (ex_here (nrm_then ?_)))); refine cw_seq ?_; refine cw_region ?_; refine wl_m ?_; refine wl_call1 (vs := [_, _]) Try.goes15 rfl (row_ok 4 hO18 hF19 (by omega)) rfl ?_; rintro rv w215 ⟨⟨vs, bs', rfl, hOT, hsub⟩, hw216⟩; have hV9 := hE15; have hE217 := hE15.then hw216; have hB218 := hw216.blk0 hB16; have hO219 := hO17.evo0 hw216; have hO220 := hO18.evo0 hw216; have hF221 := hF19.evo0 hw216; have hB222 := hw216.blk0 hB20; obtain ⟨ra, rc, ka, kc, rfl⟩ := id hOT.nine; refine wl_storeBlk rfl rfl Try.size25 hB222 rfl rfl ⟨by first | rfl | assumption, by first | rfl | assumption, by first | rfl | assumption, by first | rfl | assumption, by first | rfl | assumption, by first | rfl | assumption, by first | rfl | assumption, by first | rfl | assumption, by first | rfl | assumption, trivial⟩ fun w223 hB224 hw225 => ?_; have hE226 := hE217.step hw225 hg2.mem1; have hE227 := (Evo.refl ([b2]) w215).step hw225 (fun y hy => .inl hy); have hB228 := hw225.blk hB218 hA3.nmem1; have hO229 := hO219.evo hw225 hA4.symm.own1; have hO230 := hO220.evo hw225 hA5.symm.own1
     have hF231 := hF221.evo hw225 (fun q hq h => ha2 (List.mem_append_right _ (by rw [← List.mem_singleton.1 h]; exact hq)))
     try simp only [List.setIfInBounds_toArray, List.set_cons_zero, List.set_cons_succ, Nat.reduceAdd, Nat.zero_add, Nat.add_zero] at hB224
     refine wl_nil (nrm_then ?_); refine cw_ret (bodyp_ret (body_retC1 rfl (ResOk.cellA rfl Try.agg25 Try.size25 hB224 rfl) ?_))
     exact ⟨rowP 4 l, sx, heq.trans (alt_end (by omega)), hE226, hmv, na, nc, no, _, bs', rfl, hOT.evo hE227 (fun q hq h => ha2 (by rw [← List.mem_singleton.1 h]; exact hsub.subset hq)), hfr.sub hsub, ⟨hB228, hO229, hR1.ne⟩, hnb⟩
   ·skip
    refine ql_no rfl rfl rfl rfl rfl rfl ?_; refine ql_no rfl rfl rfl rfl rfl rfl ?_; refine ql_no rfl rfl rfl rfl rfl rfl ?_; refine ql_no rfl rfl rfl rfl rfl rfl ?_; refine ql_no rfl rfl rfl rfl rfl rfl ?_; refine ql_no rfl rfl rfl rfl rfl rfl ?_; refine ql_no rfl rfl rfl rfl rfl rfl ?_; refine ql_no rfl rfl rfl rfl rfl rfl ?_; refine ql_no rfl rfl rfl rfl rfl rfl ?_; refine ql_no rfl rfl rfl rfl rfl rfl ?_; refine ql_val rfl (fun _ hq14 => ex_pick_f rfl rfl) ?_; refine ql_nil (fun wq13 hq14 => nrm_then ?_); have hE232 := hV12.then hq14; have hB233 := hq14.blk0 hR1.blk; have hO234 := hR1.own.evo0 hq14; have hO235 := hown.evo0 hq14; have hF236 := hts.evo0 hq14; have hB237 := hq14.blk0 hb2; refine cw_false rfl ?_; refine cw_exit (ex_then (ex_then (ex_here (nrm_then ?_)))); refine cw_seq ?_; refine cw_region ?_; refine wl_m ?_; refine wl_call1 (vs := [_, _]) Try.goes15 rfl (row_ok 4 hO235 hF236 (by omega)) rfl ?_; rintro rv w238 ⟨⟨vs, bs', rfl, hOT, hsub⟩, hw239⟩; have hV9 := hE232; have hE240 := hE232.then hw239; have hB241 := hw239.blk0 hB233; have hO242 := hO234.evo0 hw239; have hO243 := hO235.evo0 hw239; have hF244 := hF236.evo0 hw239; have hB245 := hw239.blk0 hB237; obtain ⟨ra, rc, ka, kc, rfl⟩ := id hOT.nine; refine wl_storeBlk rfl rfl Try.size25 hB245 rfl rfl ⟨by first | rfl | assumption, by first | rfl | assumption, by first | rfl | assumption, by first | rfl | assumption, by first | rfl | assumption, by first | rfl | assumption, by first | rfl | assumption, by first | rfl | assumption, by first | rfl | assumption, trivial⟩ fun w246 hB247 hw248 => ?_; have hE249 := hE240.step hw248 hg2.mem1; have hE250 := (Evo.refl ([b2]) w238).step hw248 (fun y hy => .inl hy); have hB251 := hw248.blk hB241 hA3.nmem1; have hO252 := hO242.evo hw248 hA4.symm.own1
    have hO253 := hO243.evo hw248 hA5.symm.own1
    have hF254 := hF244.evo hw248 (fun q hq h => ha2 (List.mem_append_right _ (by rw [← List.mem_singleton.1 h]; exact hq)))
    try simp only [List.setIfInBounds_toArray, List.set_cons_zero, List.set_cons_succ, Nat.reduceAdd, Nat.zero_add, Nat.add_zero] at hB247
    refine wl_nil (nrm_then ?_); refine cw_ret (bodyp_ret (body_retC1 rfl (ResOk.cellA rfl Try.agg25 Try.size25 hB247 rfl) ?_))
    exact ⟨rowP 4 l, sx, heq.trans (alt_end (by omega)), hE249, hmv, na, nc, no, _, bs', rfl, hOT.evo hE250 (fun q hq h => ha2 (by rw [← List.mem_singleton.1 h]; exact hsub.subset hq)), hfr.sub hsub, ⟨hB251, hO252, hR1.ne⟩, hnb⟩
  ·skip
   refine ql_no rfl rfl rfl rfl rfl rfl ?_; refine ql_no rfl rfl rfl rfl rfl rfl ?_; refine ql_no rfl rfl rfl rfl rfl rfl ?_; refine ql_no rfl rfl rfl rfl rfl rfl ?_; refine ql_no rfl rfl rfl rfl rfl rfl ?_; refine ql_no rfl rfl rfl rfl rfl rfl ?_; refine ql_no rfl rfl rfl rfl rfl rfl ?_; refine ql_no rfl rfl rfl rfl rfl rfl ?_; refine ql_no rfl rfl rfl rfl rfl rfl ?_; refine ql_no rfl rfl rfl rfl rfl rfl ?_; refine ql_val rfl (fun _ hq14 => ex_pick_f rfl rfl) ?_; refine ql_val rfl (fun _ hq14 => ex_move rfl) ?_; refine ql_no rfl rfl rfl rfl rfl rfl ?_; refine ql_no rfl rfl rfl rfl rfl rfl ?_; refine ql_no rfl rfl rfl rfl rfl rfl ?_; refine ql_no rfl rfl rfl rfl rfl rfl ?_; refine ql_no rfl rfl rfl rfl rfl rfl ?_; refine ql_no rfl rfl rfl rfl rfl rfl ?_; refine ql_no rfl rfl rfl rfl rfl rfl ?_; refine ql_no rfl rfl rfl rfl rfl rfl ?_; refine ql_no rfl rfl rfl rfl rfl rfl ?_; refine ql_no rfl rfl rfl rfl rfl rfl ?_; refine ql_val rfl (fun _ hq14 => ex_pick_f rfl rfl) ?_; refine ql_nil (fun wq13 hq14 => nrm_then ?_); have hE255 := hV12.then hq14; have hB256 := hq14.blk0 hR1.blk; have hO257 := hR1.own.evo0 hq14; have hO258 := hown.evo0 hq14; have hF259 := hts.evo0 hq14; have hB260 := hq14.blk0 hb2; refine cw_false rfl ?_; refine cw_exit (ex_then (ex_then (ex_here (nrm_then ?_)))); refine cw_seq ?_; refine cw_region ?_; refine wl_m ?_; refine wl_call1 (vs := [_, _]) Try.goes15 rfl (row_ok 4 hO258 hF259 (by omega)) rfl ?_; rintro rv w261 ⟨⟨vs, bs', rfl, hOT, hsub⟩, hw262⟩; have hV9 := hE255; have hE263 := hE255.then hw262; have hB264 := hw262.blk0 hB256; have hO265 := hO257.evo0 hw262; have hO266 := hO258.evo0 hw262; have hF267 := hF259.evo0 hw262; have hB268 := hw262.blk0 hB260; obtain ⟨ra, rc, ka, kc, rfl⟩ := id hOT.nine
   refine wl_storeBlk rfl rfl Try.size25 hB268 rfl rfl ⟨by first | rfl | assumption, by first | rfl | assumption, by first | rfl | assumption, by first | rfl | assumption, by first | rfl | assumption, by first | rfl | assumption, by first | rfl | assumption, by first | rfl | assumption, by first | rfl | assumption, trivial⟩ fun w269 hB270 hw271 => ?_; have hE272 := hE263.step hw271 hg2.mem1; have hE273 := (Evo.refl ([b2]) w261).step hw271 (fun y hy => .inl hy); have hB274 := hw271.blk hB264 hA3.nmem1; have hO275 := hO265.evo hw271 hA4.symm.own1; have hO276 := hO266.evo hw271 hA5.symm.own1
   have hF277 := hF267.evo hw271 (fun q hq h => ha2 (List.mem_append_right _ (by rw [← List.mem_singleton.1 h]; exact hq)))
   try simp only [List.setIfInBounds_toArray, List.set_cons_zero, List.set_cons_succ, Nat.reduceAdd, Nat.zero_add, Nat.add_zero] at hB270
   refine wl_nil (nrm_then ?_); refine cw_ret (bodyp_ret (body_retC1 rfl (ResOk.cellA rfl Try.agg25 Try.size25 hB270 rfl) ?_))
   exact ⟨rowP 4 l, sx, heq.trans (alt_end (by omega)), hE272, hmv, na, nc, no, _, bs', rfl, hOT.evo hE273 (fun q hq h => ha2 (by rw [← List.mem_singleton.1 h]; exact hsub.subset hq)), hfr.sub hsub, ⟨hB274, hO275, hR1.ne⟩, hnb⟩
end Go.Proofs.Ytljadkcojnlioaa
namespace Go.Proofs.Ytljadkcojnlioaa
open Go.Proofs
open Go.W Go.RowKit
attribute [local irreducible] Decidable.decide
set_option linter.unusedSimpArgs false
set_option linter.unusedVariables false
theorem Try.goes13 : Goes Try.prog 13 := ⟨_, Try.func13, by kernel_rfl, by kernel_rfl⟩
structure EtG where
  f : Nat
  sx : PS
  l : List Rx
  n : Nat
  qa : Option Addr
  qc : Nat
  qo : Option Nat
  bs : List Nat
  na : Option Addr
  nc : Nat
  no : Option Nat
structure EtI (w wr : World) (b : Nat) (s : ByteArray) (ex : PS → PX Rx) (st : PS) (ob : Option Nat) (b2 : Nat) (x : EtG) : Prop where
  hr : RdAt wr b s x.sx x.na x.nc x.no
  mv : Mv s st x.sx
  eq : pExpW s ex st = pAlts s ex x.f x.l x.sx
  hf : s.size + 1 ≤ x.f + x.sx.pos
  kt : ∃ cs, OwnS wr 25 9 x.qa x.n x.qc cs x.qo ∧ OTs x.l wr cs x.bs
  fr : Fr w (x.qo.toList ++ x.bs)
  len : x.l.length + st.pos ≤ x.sx.pos + 1
  nb : NB w ob x.no
  hb2 : wr.heap[b2]? = some (.cells #[iv 0, .int .i32 0, .slice none 0 0, iv 0, iv 0, .bool false, iv 0, .string ByteArray.empty, .slice none 0 0] 25 (0, 0))
  g2 : Ge w (some b2)
  a2 : b2 ∉ x.qo.toList ++ x.bs
theorem exp_err {s : ByteArray} {ex : PS → PX Rx} {st : PS} {e : Int} (h : pAlt0 s ex st = .error e) : pExpW s ex st = .error e := by
  unfold pExpW; unfold pAlt0 at h; rw [h]
theorem exp_go {s : ByteArray} {ex : PS → PX Rx} {st st2 : PS} {x : Rx} (h : pAlt0 s ex st = .ok (x, st2)) : pExpW s ex st = pAlts s ex (s.size + 1) [x] st2 := by
  unfold pExpW; unfold pAlt0 at h; rw [h]
theorem expression_step {ex : PS → PX Rx} {w : World} {b : Nat} {s : ByteArray} {st : PS} {a : Option Addr} {c : Nat} {ob : Option Nat} (hex : st.opn < 250 → ExHyp b s ex (st.opn + 1)) (hR : RdAt w b s st a c ob) (hs : s.size ≤ 4096) (hop : st.opn ≤ 250) (hb : Bd s st.pos) (hnl : st.names.length ≤ 100) (hG : Glb w) (hGo : Apart (some GMax) ob) :
    Calls Try.prog 9 #[.pointer (some ⟨b, 0, none⟩)] w (RetP (ExPost b s (pExpW s ex) st ob w) (ExPan b (pExpW s ex) st ob w)) := by
  have hap := hR.ap; have hgb : GMax ∉ [b] := fun h => hR.glb hG (List.mem_singleton.1 h).symm; have hgw := gm_nm hgb hGo; have hbw : Lt w (some b) := Lt.blk hR.blk; have how : Lt w ob := Lt.own hR.own; refine calls_of_cw (N := 16) Try.func9 rfl rfl rfl ?_; refine cw_seq ?_; refine cw_region ?_; refine wl_alloc rfl Try.zero25 fun b2 w1 hB2 hs3 hw4 => ?_; have hsz_b2 := hs3; have hA5 := Apart.new (Lt.blk hR.blk) hs3; have hA6 := Apart.new (Lt.own hR.own) hs3; have hG7 := Ge.new (Evo.refl (b :: ob.toList) w) hs3; have hE8 := (Evo.refl (b :: ob.toList) w).then hw4; have hB9 := hw4.blk0 hR.blk; have hO10 := hR.own.evo0 hw4; refine wl_nil (nrm_then ?_); refine cw_seq ?_; refine cw_region ?_; refine wl_m ?_; refine wl_callP1 (vs := [_]) Try.goes13 rfl (alternative_ok hex ⟨hB9, hO10, hR.ne⟩ hs hop hb hnl (hG.evo hE8 hgw) hGo) rfl ?_ ?_
  ·skip
   intro pv wp hpp; obtain ⟨e9, hpe, rfl, hpw⟩ := hpp; exact And.intro rfl ⟨_, rfl, _, exp_err hpe, rfl, (hE8).step hpw (nb_mem (show NB w ob ob from .inl rfl))⟩
  rintro rv w11 ⟨x, st1, hx, hw12, hmv1, na1, nc1, no1, vs, bx, rfl, hOT, hFx, hR1, hnb1⟩; have hcall9 := hw12; have hV9 := hE8; have hnb9 := (show NB w ob ob from .inl rfl).older hnb1 hV9.size; have hb2l := blk_lt hB2; have hxg : ∀ q, q ∈ bx → _ ≤ q := hFx.ge; have hE13 := hE8.step hw12 (nb_mem (show NB w ob ob from .inl rfl)); have hB14 := hw12.blk hB2 (nm_2 hA5.symm hA6.symm); obtain ⟨ra, rc, ka, kc, rfl⟩ := id hOT.nine; have hA12 := blk_types hB14 hR1.own (by decide +kernel); refine wl_bslice (vs := [_]) rfl Try.slice23 rfl rfl rfl rfl fun b6 w15 hO16 hs17 hw18 => ?_; have hA19 := Apart.new (Lt.blk hB14) hs17; have hA20 := Apart.new (Lt.blk hR1.blk) hs17; have hA21 := Apart.new (Lt.own hR1.own) hs17; have hG22 := Ge.new hE13 hs17; have hG23 := Ge.new (Evo.refl [] w11) hs17; have hE24 := hE13.then hw18; have hE25 := (Evo.refl [] w11).then hw18; have hB26 := hw18.blk0 hB14; have hB27 := hw18.blk0 hR1.blk; have hO28 := hR1.own.evo0 hw18; have hF29 := hOT.evo0 hw18; refine wl_a ?_; refine wl_nil (nrm_then ?_); refine cw_seq ?_; refine cw_block ?_
  refine cw_loop (α := EtG) (⟨s.size + 1, st1, [x], 1, some ⟨b6, 0, none⟩, 1, some b6, bx, na1, nc1, no1⟩) (fun x => [(3, .slice x.qa x.n x.qc)]) [(0, _), (2, _)] (fun x wr => Evo (b :: ob.toList) w wr ∧ (EtI w wr b s ex st ob b2 x)) (fun x => x.f) ⟨rfl, trivial⟩ ⟨rfl, rfl, trivial⟩ ⟨hE24, ⟨⟨hB27, hO28, hR1.ne⟩, hmv1, exp_go hx, Nat.le_add_right _ _, ⟨_, hO16, OTs.single hF29⟩, ⟨List.nodup_cons.2 ⟨fun h => (by have h8 := hOT.lt b6 h; have h9 := hG23 _ rfl; omega), hFx.nd⟩, fun q hq => by rcases List.mem_cons.1 hq with rfl | hq; (exact hG22 _ rfl); (have h8 := hxg q hq; have h7 := hV9.size; omega)⟩, (by show 1 + st.pos ≤ st1.pos + 1; have := hmv1.le; omega), hnb9, hB26, hG7, (fun h => by rcases List.mem_cons.1 h with h | h; (have h9 := hG23 _ rfl; have h7 := hcall9.size; omega); (have h8 := hxg b2 h; omega))⟩⟩ ?_
  rintro ⟨f, sx, l, n, qa, qc, qo, bs, na, nc, no⟩ wr30 ⟨hV31, ⟨hR2, hmv, heq, hfi, ⟨cs, hown, hts⟩, hfr, hlen, hnb, hb2, hg2, ha2⟩⟩; show CW _ _ _ _ [(3, .slice qa n qc), (0, _), (2, _)] _
  try dsimp only at hR2
  try dsimp only at hmv
  try dsimp only at heq
  try dsimp only at hfi
  try dsimp only at cs
  try dsimp only at hown
  try dsimp only at hts
  try dsimp only at hfr
  try dsimp only at hlen
  try dsimp only at hnb
  try dsimp only at hb2
  try dsimp only at hg2
  try dsimp only at ha2
  have hA1 : Apart (some b) qo := ap_old hbw (fr_ge hfr); have hA2 := own_types hown hR2.own (by decide +kernel); have hA3 : Apart (some b) (some b2) := ap_old hbw hg2; have hA4 := blk_types hb2 hR2.own (by decide +kernel); have hA5 := ap_nm ha2; have hGo1 := ap_ob hGo (glb_lt hG) hnb; have hpl := hmv.bd.le; have hmle := hmv.le; have nmq := nm_rd hR2 hown hts; refine cw_seq ?_; refine cw_seq ?_; refine cw_region ?_; refine wl_m ?_; refine wl_call1 (vs := [_, _]) Try.goes14 rfl (take_ok ⟨hR2.blk, hR2.own, hR2.ne⟩ (by omega) 124 (by decide)) rfl ?_; rintro _ w32 ⟨rfl, hw33, hR5⟩
  have hE34 := hV31.step hw33 (fun y hy => .inl (by rw [List.mem_singleton.1 hy]; simp))
  have hB35 := hown.evo hw33 ((by first | exact hA1.symm.own1 | exact hA1.symm.nmem1)); have hB36 := hts.evo hw33 (fun q hq h => nmq q (List.mem_append_right _ hq) (evo_w q h)); have hB37 := hw33.blk hb2 ((by first | exact hA3.symm.own1 | exact hA3.symm.nmem1)); refine wl_nil (nrm_then ?_); refine cw_if rfl (fun hc8 => ?_) (fun hc8 => ?_)
  ·skip
   rw [if_pos hc8] at hR5
   obtain ⟨f', rfl⟩ : ∃ f', f = f' + 1 := ⟨f - 1, by have := hc8.1; omega⟩
   have hopx : sx.opn = st.opn := hmv.opn
   have hex' : (adv sx 1).opn < 250 → ExHyp b s ex ((adv sx 1).opn + 1) := by show sx.opn < 250 → ExHyp b s ex (sx.opn + 1); rw [hopx]; exact hex
   have hbd1 : Bd s (adv sx 1).pos := hc8.asc (by decide) hmv.bd; refine cw_skip (nrm_then ?_); refine cw_block ?_; refine cw_region ?_; refine wl_m ?_; refine wl_m ?_
   refine wl_callP1 (vs := [_]) Try.goes13 rfl (alternative_ok hex' ⟨hR5.blk, hR5.own, hR5.ne⟩ hs (by show sx.opn ≤ 250; omega) hbd1 hmv.nm (hG.evo hE34 hgw) hGo1) rfl ?_ ?_
   ·skip
    intro pv wp hpp; obtain ⟨e9, hpe, rfl, hpw⟩ := hpp; exact And.intro rfl ⟨_, rfl, _, heq.trans (alts_err hc8 hpe), rfl, (hE34).step hpw (nb_mem hnb)⟩
   rintro rv w38 ⟨x, st3, hx, hw39, hmv3, na3, nc3, no3, vs, bx, rfl, hOT, hFx, hR3, hnb3⟩; have hcall9 := hw39; have hV9 := hE34; have hnb9 := hnb.older hnb3 hV9.size; have hb2l := blk_lt hB37; have hxg : ∀ q, q ∈ bx → _ ≤ q := hFx.ge; have hl1 := ots_lt hB35 hB36; have hE40 := hE34.step hw39 (nb_mem hnb); have hB41 := hB35.evo hw39 (fun q hq => nmq q (List.mem_append_left _ (by simp [hq]))); have hB42 := hB36.evo hw39 (fun q hq => nmq q (List.mem_append_right _ hq)); have hB43 := hw39.blk hB37 (nm_2 hA3.symm hA4); obtain ⟨ra, rc, ka, kc, rfl⟩ := id hOT.nine; have hA32 := blk_types hB43 hR3.own (by decide +kernel); have hA31 := own_types hB41 hR3.own (by decide +kernel); refine wl_bslice (vs := [_]) rfl Try.slice23 rfl rfl rfl rfl fun b44 w45 hO46 hs47 hw48 => ?_; have hA49 := Apart.new (Lt.own hB41) hs47; have hA50 := Apart.new (Lt.blk hB43) hs47; have hA51 := Apart.new (Lt.blk hR3.blk) hs47; have hA52 := Apart.new (Lt.own hR3.own) hs47; have hG53 := Ge.new hE40 hs47; have hG54 := Ge.new (Evo.refl [] w38) hs47; have hE55 := hE40.then hw48; have hE56 := (Evo.refl [] w38).then hw48; have hO57 := hB41.evo0 hw48; have hF58 := hB42.evo0 hw48; have hB59 := hw48.blk0 hB43; have hB60 := hw48.blk0 hR3.blk; have hO61 := hR3.own.evo0 hw48; have hF62 := hOT.evo0 hw48; have hLT9 := hF62; have hVV := hE56; have hb29 := blk_lt hB59
   refine wl_append rfl rfl rfl rfl Try.app23_23 hO57 (Src.ofOwn hO46 ⟨by first | rfl | assumption, by first | rfl | assumption, by first | rfl | assumption, by first | rfl | assumption, by first | rfl | assumption, by first | rfl | assumption, by first | rfl | assumption, by first | rfl | assumption, by first | rfl | assumption, trivial⟩) (by have h8 := own_tn hown hts; omega) fun qa2 qc2 w65 qo2 hO2 hw68 hob69 => ?_
   have hA70 := hA5.app (Lt.blk hB59) hob69; have hA71 := hA1.app (Lt.blk hB60) hob69; have hA72 := hA31.symm.app (Lt.own hO61) hob69; have hA73 := hA49.symm.app (Lt.own hO46) hob69; have hG74 := (fr_ge hfr).app hE55 hob69; have hE75 := hE55.step hw68 (fr_ge hfr).mem; have hF77 := hF58.evo hw68 (fr_ap hfr); have hB78 := hw68.blk hB59 hA5.nmem; have hB79 := hw68.blk hB60 hA1.nmem; have hO80 := hO61.evo hw68 hA31.symm.own
   have hF81 := hF62.evo hw68 (fun q hq h => by have h8 := hxg q hq; have h9 := hl1 q (List.mem_append_left _ h); omega)
   have hO82 := hO46.evo hw68 hA49.symm.own; have hob2 := hob69; have hFr9 := Fr.grow hfr hl1 hFx (OT.lt hLT9) hV9.size (Nat.le_trans hcall9.size hVV.size) hob2
   have hnin := nin_grow ha2 hb29 (fun q hq e => by have h8 := hxg q hq; omega) hob2
   refine wl_a ?_; refine wl_nil (nrm_block (nrm_same ?_)); refine ⟨⟨f', st3, l ++ [x], n + 1, qa2, qc2, qo2, bs ++ bx, na3, nc3, no3⟩, ?_, ⟨rfl, trivial⟩, ⟨rfl, rfl, trivial⟩, hE75, ?_⟩
   · (try dsimp only); show f' < f' + 1; omega
   ·skip
    try dsimp only
    have hle3 : sx.pos + 1 ≤ st3.pos := hmv3.le
    refine ⟨⟨hB79, hO80, hR3.ne⟩, ⟨hmv3.opn.trans hmv.opn, (by show st.pos ≤ st3.pos; omega), hmv3.bd, hmv3.nm⟩, heq.trans (alts_go hc8 hx), (by show s.size + 1 ≤ f' + st3.pos; omega), ⟨_, hO2, OTs.app hF77 (OTs.single hF81)⟩, hFr9, ?_, hnb9, hB78, hg2, hnin⟩
    show (l ++ [x]).length + st.pos ≤ st3.pos + 1; rw [List.length_append]; simp; omega
  ·skip
   rw [if_neg hc8] at hR5; refine cw_exit (ex_then (ex_then (ex_here (nrm_then ?_)))); refine cw_seq ?_; refine cw_region ?_; refine wl_m ?_; refine wl_call1 (vs := [_, _]) Try.goes15 rfl (row_ok 5 hB35 hB36 (by omega)) rfl ?_; rintro rv w83 ⟨⟨vs, bs', rfl, hOT, hsub⟩, hw84⟩; have hV9 := hE34; have hE85 := hE34.then hw84; have hO86 := hB35.evo0 hw84; have hF87 := hB36.evo0 hw84; have hB88 := hw84.blk0 hB37; have hB89 := hw84.blk0 hR5.blk; have hO90 := hR5.own.evo0 hw84; obtain ⟨ra, rc, ka, kc, rfl⟩ := id hOT.nine; refine wl_storeBlk rfl rfl Try.size25 hB88 rfl rfl ⟨by first | rfl | assumption, by first | rfl | assumption, by first | rfl | assumption, by first | rfl | assumption, by first | rfl | assumption, by first | rfl | assumption, by first | rfl | assumption, by first | rfl | assumption, by first | rfl | assumption, trivial⟩ fun w91 hB92 hw93 => ?_; have hE94 := hE85.step hw93 hg2.mem1; have hE95 := (Evo.refl ([b2]) w83).step hw93 (fun y hy => .inl hy); have hO96 := hO86.evo hw93 hA5.symm.own1
   have hF97 := hF87.evo hw93 (fun q hq h => ha2 (List.mem_append_right _ (by rw [← List.mem_singleton.1 h]; exact hq)))
   have hB98 := hw93.blk hB89 hA3.nmem1; have hO99 := hO90.evo hw93 hA4.symm.own1
   try simp only [List.setIfInBounds_toArray, List.set_cons_zero, List.set_cons_succ, Nat.reduceAdd, Nat.zero_add, Nat.add_zero] at hB92
   refine wl_nil (nrm_then ?_); refine cw_ret (bodyp_ret (body_retC1 rfl (ResOk.cellA rfl Try.agg25 Try.size25 hB92 rfl) ?_))
   exact ⟨rowP 5 l, sx, heq.trans (alts_end hc8), hE94, hmv, na, nc, no, _, bs', rfl, hOT.evo hE95 (fun q hq h => ha2 (by rw [← List.mem_singleton.1 h]; exact hsub.subset hq)), hfr.sub hsub, ⟨hB98, hO99, hR5.ne⟩, hnb⟩
theorem expression_ok {b : Nat} {s : ByteArray} (hs : s.size ≤ 4096) : ∀ (n m : Nat), m + n = 250 → ExHyp b s (pExp s n) m := by
  intro n
  induction n with
  | zero =>
    intro m hm
    unfold ExHyp
    intro w st a c ob hR ho hb hnl hG hGo
    exact expression_step (ex := fun _ => .error 3) (fun h => by omega) hR hs (by omega) hb hnl hG hGo
  | succ n ih =>
    intro m hm
    unfold ExHyp
    intro w st a c ob hR ho hb hnl hG hGo
    exact expression_step (ex := pExp s n) (fun h => by rw [ho]; exact ih (m + 1) (by omega)) hR hs (by omega) hb hnl hG hGo
end Go.Proofs.Ytljadkcojnlioaa
namespace Go.W
open Go.RowKit
set_option linter.unusedVariables false
set_option linter.unusedSimpArgs false
section
variable {P : Program} {σ : Env} {w : World}
def RecAs (u : FrameMode) (v : Value) (u' : FrameMode) : Prop :=
  ∀ (c₀ : Frame) (cs : List Frame), c₀.mode = u → (recoverD (c₀ :: cs) = some (v, { c₀ with mode := u' } :: cs)) ∨ (recoverD (c₀ :: cs) = none ∧ v = .nilIface ∧ u' = u)
theorem RecAs.ret : RecAs .returning .nilIface .returning := fun c cs h => .inr ⟨by simp [recoverD, h], rfl, rfl⟩
theorem RecAs.pan (v : Value) : RecAs (.panicking (pan v)) v (.panicking [{ v := v, recovered := true }]) := fun c cs h => .inl (by simp [recoverD, h])
theorem wpS_rec {Q : Exit → Act → List Frame → World → Prop} {id d d2 : Nat} {T T2 : TypeId} {p p2 : String} {e e2 : Array Edge} {a : Act} {c₀ : Frame} {cs : List Frame} {v : Value} {u u' : FrameMode}
    (hu : c₀.mode = u) (hr : RecAs u v u') (hd : d < a.tmps.size) (h : Q .normal ((a.put (some d) v).put (some d2) v) ({ c₀ with mode := u' } :: cs) w) :
    (Code.region id #[⟨some d, .call ⟨.builtin .recover, #[], #[]⟩, T, p, e, none⟩, ⟨some d2, .assign (.tmp d), T2, p2, e2, none⟩] false).wpS P Q a (c₀ :: cs) w := by
  refine wpS_region ?_
  have hget : ∀ v : Value, (a.put (some d) v).eval (.tmp d) = v := fun v => by
    simp [Act.put, Act.eval, hd]
  have hrun : (execOp a.eval ⟨some d, .call ⟨.builtin .recover, #[], #[]⟩, T, p, e, none⟩).run P w = .ok .recover w := by
    simp [execOp, resolve, builtin, invoke]
  have hrun2 : ∀ v : Value, (execOp (a.put (some d) v).eval ⟨some d2, .assign (.tmp d), T2, p2, e2, none⟩).run P w = .ok (.value v) w := fun v => by
    simp [execOp, hget]
  show wpOpsS P _ Q [0, 1] a (c₀ :: cs) w
  have hstep : ∀ (v : Value) (cs' : List Frame), Q .normal ((a.put (some d) v).put (some d2) v) cs' w → wpOpsS P #[⟨some d, .call ⟨.builtin .recover, #[], #[]⟩, T, p, e, none⟩, ⟨some d2, .assign (.tmp d), T2, p2, e2, none⟩] Q [1] (a.put (some d) v) cs' w := fun v cs' h => by
    simp only [wpOpsS]
    simp [Region.wanted, hrun2, Oper.upon, wpOpsS, h]
  rw [wpOpsS]
  simp only [Region.wanted, List.getElem?_toArray, List.getElem?_cons_zero, hrun, if_true]
  rcases hr c₀ cs hu with h1 | ⟨h1, rfl, rfl⟩
  · rw [h1]; exact hstep _ _ h
  · rw [h1]; subst hu; exact hstep _ _ h
theorem callsD_rec {f : FuncId} {fn : Func} {y : Code} {cap : List Value} {Φ : Value → World → Prop} {N id d d2 : Nat} {T T2 : TypeId} {p p2 : String} {e e2 : Array Edge} {v : Value} {u u' : FrameMode} (hr : RecAs u v u')
    (hf : P.funcs[f]? = some fn) (hb : fn.body = some (.seq (.region id #[⟨some d, .call ⟨.builtin .recover, #[], #[]⟩, T, p, e, none⟩, ⟨some d2, .assign (.tmp d), T2, p2, e2, none⟩] false) y)) (hN : fn.ntmps = N)
    (hle' : Nat.ble cap.length N = true) (hd : Nat.blt d N = true) (hd2 : Nat.blt d2 N = true)
    (h : CW P (N, []) y (bodyR P fn (Ret Φ)) ((d2, v) :: (d, v) :: paramEnv 0 cap) w) :
    CallsD P f cap.toArray u w (fun e u2 w' => (∃ vv, e = .returned vv ∧ Φ vv w') ∧ u2 = u') := by
  have hle : cap.length ≤ N := Nat.le_of_ble_eq_true hle'
  have hdN : d < N := of_decide_eq_true (by simpa using hd)
  have hdN2 : d2 < N := of_decide_eq_true (by simpa using hd2)
  have hfit : Fits (N, []) (paramEnv 0 cap) { tmps := cap.toArray ++ Array.replicate (fn.ntmps - cap.toArray.size) undef, defers := [] } := by
    refine ⟨?_, rfl, ?_⟩
    · simp [hN]; omega
    · intro t v hv
      obtain ⟨_, h2⟩ := paramEnv_get cap 0 t v hv
      simp only [Nat.sub_zero] at h2
      have hlt : t < cap.length := (List.getElem?_eq_some_iff.1 h2).1
      have h3 : cap[t] = v := by rw [List.getElem?_eq_getElem hlt] at h2; exact Option.some.inj h2
      simp [Array.getElem?_append, hlt, h3]
  refine callsD_of_wpS hf hb fun c₀ cs hu => wpS_seq (wpS_rec hu hr (by rw [hfit.1]; exact hdN) ?_)
  refine wpS_of_wp (wp_mono (h _ ((hfit.put hdN v).put hdN2 v)) ?_)
  intro ex a' w' hq
  cases ex with
  | normal => obtain ⟨N', σ', hf', hn, hk⟩ := hq; obtain ⟨v', h1, h2⟩ := hk a' (by rw [hf'.1, hf'.2.1]; exact hf'); exact ⟨hf'.2.1.trans hn, u', rfl, v', h1, h2, rfl⟩
  | ret => obtain ⟨N', σ', hf', hn, hk⟩ := hq; obtain ⟨v', h1, h2⟩ := hk a' (by rw [hf'.1, hf'.2.1]; exact hf'); exact ⟨hf'.2.1.trans hn, u', rfl, v', h1, h2, rfl⟩
  | panic ch => obtain ⟨N', σ', hf', hn, v', h1, h2⟩ := hq; cases h1
  | outgrown => obtain ⟨_, v', h1, h2⟩ := hq; cases h1
  | exit i => obtain ⟨_, _, _, hk⟩ := hq; exact hk
  | goto l => obtain ⟨_, _, _, hk⟩ := hq; exact hk
theorem leaves_two {n : Nat} {fn : Func} {r r' : ResultVar} {Φ : Value → World → Prop} {f : FuncId} {g : Func} {cap : Array Value} {u : FrameMode} (hr : fn.results = #[r, r']) (hg : P.funcs[f]? = some g) (hn : (g.name == "runtime.NumGoroutine") = false) (hb : g.body.isNone = false) (hu : u ≠ .run)
    (h : CallsD P f cap u w fun e u' w' => (∃ vv, e = .returned vv) ∧ settle u' = .returning ∧ ∃ v v', ResOk P σ w' r v ∧ ResOk P σ w' r' v' ∧ Φ (.tuple #[v, v']) w') :
    ∀ a, Fits (n, [dfr f cap]) σ a → Leaves P fn a.tmps (Ret Φ) [dfr f cap] u w := fun a ha => by
  refine leaves_one hg hn hb hu (h.mono ?_)
  rintro e u' w' ⟨⟨vv, rfl⟩, hs, v, v', h1, h2, h3⟩
  show Leaves P fn a.tmps (Ret Φ) [] (settle u') w'
  rw [hs]
  refine ⟨.tuple #[v, v'], ?_, _, rfl, h3⟩
  have ha' : Fits (a.tmps.size, a.defers) σ a := ⟨rfl, rfl, ha.2.2⟩
  rw [results_eq, hr]
  simp [h1 a ha', h2 a ha']
theorem body_retD0 {n : Nat} {fn : Func} {Φ : Value → World → Prop} (h : bodyR P fn (Ret Φ) .ret (n, []) σ w) : bodyRD P fn (Ret Φ) .ret (n, []) σ w := fun a ha => h.2 a (by rw [ha.1, ha.2.1]; exact ha)
end
end Go.W
namespace Go.Proofs.Ytljadkcojnlioaa
open Go.Proofs
open Go.W Go.RowKit
attribute [local irreducible] Decidable.decide
set_option linter.unusedSimpArgs false
set_option linter.unusedVariables false
theorem vnext_dec {s : ByteArray} {a : Nat} (ha : a < s.size) (h : (Utf8.decode s a).1 = 65533 → a + 3 ≤ s.size ∧ s.extract a (a + 3) = bstr [239, 191, 189]) :
    (nextR s a).1 = ((Utf8.decode s a).1 : Nat) ∧ (nextR s a).2 = (Utf8.decode s a).2 := by
  have h1 : ¬ ((Utf8.decode s a).1 = 65533 ∧ (Utf8.decode s a).2 = 1) := fun ⟨h1, h2⟩ => by
    have := (decode_repl s a h1 ha).2 (h h1)
    omega
  unfold nextR
  rw [if_pos ⟨ha, h1⟩]
  exact ⟨rfl, rfl⟩
theorem vdecode_pos {s : ByteArray} {a : Nat} (ha : a < s.size) : 0 < (Utf8.decode s a).2 := by
  rcases decode_cases s a ha with ⟨w, h1, h2, h3, hh, hd, h4, h5, -⟩ | ⟨h1, hd⟩ <;> rw [hd] <;> simp <;> omega
theorem vutf_here {s : ByteArray} {k : Nat} (hw : ∀ j, j < k → 0 < (nextR s (offs s j)).2) (h : ¬ offs s k < s.size) : Utf s k := ⟨Nat.le_antisymm (offs_le s k) (by omega), hw⟩
theorem vutf_bad {s : ByteArray} {k : Nat} (hw : ∀ j, j < k → 0 < (nextR s (offs s j)).2) (h1 : offs s k < s.size) (h2 : (nextR s (offs s k)).2 = 0) : ¬ ∃ N, Utf s N := by
  rintro ⟨N, hN⟩
  rcases Nat.lt_or_ge k N with h | h
  · have := hN.2 k h; omega
  · have h3 : offs s N ≤ offs s k := by
      rcases Nat.lt_or_ge N k with h' | h'
      · exact Nat.le_of_lt (offs_lt hw h' (Nat.le_refl _))
      · rw [Nat.le_antisymm h h']; exact Nat.le_refl _
    rw [hN.1] at h3; omega
structure VaI (w wr : World) (s : ByteArray) (it k : Nat) : Prop where
  hw : ∀ j, j < k → 0 < (nextR s (offs s j)).2
  hit : wr.heap[it]? = some (.stringIter s (offs s k))
  hge : Ge w (some it)
theorem uvalid_ok {w : World} (s : ByteArray) (hs : s.size ≤ 140737488355320) : Calls Try.prog 7 #[.string s] w (Ret fun v w' => ∃ b, v = .bool b ∧ (b = true ↔ ∃ N, Utf s N) ∧ Evo [] w w') := by
  refine calls_of_cw (N := 19) Try.func7 rfl rfl rfl ?_; refine cw_seq ?_; refine cw_region ?_; refine wl_a ?_; refine wl_nil (nrm_then ?_); refine cw_seq ?_; refine cw_seq ?_; refine cw_region ?_; refine wl_m ?_; refine wl_rangeS rfl rfl Try.underlying9 fun it w1 hB2 hs3 hw4 => ?_; have hG5 := Ge.new (Evo.refl [] w) hs3; have hE6 := (Evo.refl [] w).then hw4; refine wl_nil (nrm_then ?_); refine cw_block ?_; refine cw_loop (α := Nat) (0) (fun k => []) [(0, _), (6, _)] (fun k wr => Evo [] w wr ∧ (VaI w wr s it k)) (fun k => s.size - offs s k) trivial ⟨rfl, rfl, trivial⟩ ⟨hE6, ⟨fun j h => (by cases h), hB2, hG5⟩⟩ ?_; rintro k wr7 ⟨hV8, ⟨hw, hIt, hIg⟩⟩; show CW _ _ _ _ [(0, _), (6, _)] _; refine cw_seq ?_; refine cw_region ?_
  by_cases hn9 : offs s k < s.size
  ·skip
   refine wl_nextS rfl rfl hIt hn9 fun w10 hB11 hw12 => ?_; have hE13 := hV8.step hw12 hIg.mem1
   have hlt : offs s k < s.size := by omega
   refine wl_val rfl (ex_extract rfl rfl) ?_; refine wl_nil (nrm_then ?_); refine cw_seq ?_; refine cw_true rfl ?_; refine cw_skip (nrm_then ?_); refine cw_block ?_; refine cw_seq ?_; refine cw_region ?_; refine wl_val rfl (ex_extract rfl rfl) ?_; refine wl_val rfl (ex_extract rfl rfl) ?_; refine wl_a ?_; refine wl_a ?_; refine wl_nil (nrm_then ?_); refine cw_seq ?_; refine cw_region ?_; refine wl_m ?_; refine wl_val rfl (ex_eql rfl rfl) ?_; refine wl_m ?_; refine wl_split (t := 13) rfl (fun hs13 => ?_) (fun hs13 => ?_)
   ·skip
    refine wl_g ?_; refine wl_m ?_; refine wl_g ?_; refine wl_m ?_; refine wl_g ?_; refine wl_call1 (vs := [_, _]) Try.goes12 rfl (replaced_ok s (offs s k) (offs_le s k) (by omega)) rfl ?_; rintro _ w14 ⟨rfl, hw15⟩; have hE16 := hE13.then hw15; have hB17 := hw15.blk0 hB11; refine wl_g ?_; refine wl_val rfl (ex_not rfl) ?_; refine wl_pt ?_; refine wl_nil (nrm_then ?_); refine cw_if rfl (fun hc18 => ?_) (fun hc18 => ?_)
    ·skip
     refine cw_seq ?_; refine cw_region ?_; refine wl_a ?_; refine wl_nil (nrm_then ?_); refine cw_ret (ret_block (ret_then (ret_block (ret_then (body_ret1 rfl rfl ?_)))))
     exact ⟨false, rfl, by simp only [Bool.false_eq_true, false_iff]; exact vutf_bad hw hlt (by rw [nextR_bad hlt (by omega) (by simpa using hc18)]), hE16⟩
    ·skip
     refine cw_skip (nrm_block (nrm_same ?_)); refine ⟨(k + 1), ?_, trivial, ⟨rfl, rfl, trivial⟩, hE16, ?_⟩
     · (have hnd : (nextR s (offs s k)).1 = ((Utf8.decode s (offs s k)).1 : Nat) ∧ (nextR s (offs s k)).2 = (Utf8.decode s (offs s k)).2 := vnext_dec hlt (fun h => by first | (exfalso; omega) | simpa using hc18); have hdw := vdecode_pos hlt; have e0 : offs s (k + 1) = offs s k + (nextR s (offs s k)).2 := rfl; rw [e0, hnd.2]; omega)
     ·skip
      have hnd : (nextR s (offs s k)).1 = ((Utf8.decode s (offs s k)).1 : Nat) ∧ (nextR s (offs s k)).2 = (Utf8.decode s (offs s k)).2 := vnext_dec hlt (fun h => by first | (exfalso; omega) | simpa using hc18)
      have hdw := vdecode_pos hlt; have e0 : offs s (k + 1) = offs s k + (nextR s (offs s k)).2 := rfl; refine ⟨fun j hj => ?_, ?_, hIg⟩
      · by_cases e : j < k; exact hw j e; (obtain rfl : j = k := by omega); rw [hnd.2]; exact hdw
      · rw [e0, hnd.2]; exact hB17
   ·skip
    refine wl_n ?_; refine wl_n ?_; refine wl_n ?_; refine wl_n ?_; refine wl_pf ?_; refine wl_nil (nrm_then ?_); refine cw_false rfl ?_; refine cw_skip (nrm_block (nrm_same ?_)); refine ⟨(k + 1), ?_, trivial, ⟨rfl, rfl, trivial⟩, hE13, ?_⟩
    · (have hnd : (nextR s (offs s k)).1 = ((Utf8.decode s (offs s k)).1 : Nat) ∧ (nextR s (offs s k)).2 = (Utf8.decode s (offs s k)).2 := vnext_dec hlt (fun h => by first | (exfalso; omega) | simpa using hc18); have hdw := vdecode_pos hlt; have e0 : offs s (k + 1) = offs s k + (nextR s (offs s k)).2 := rfl; rw [e0, hnd.2]; omega)
    ·skip
     have hnd : (nextR s (offs s k)).1 = ((Utf8.decode s (offs s k)).1 : Nat) ∧ (nextR s (offs s k)).2 = (Utf8.decode s (offs s k)).2 := vnext_dec hlt (fun h => by first | (exfalso; omega) | simpa using hc18)
     have hdw := vdecode_pos hlt; have e0 : offs s (k + 1) = offs s k + (nextR s (offs s k)).2 := rfl; refine ⟨fun j hj => ?_, ?_, hIg⟩
     · by_cases e : j < k; exact hw j e; (obtain rfl : j = k := by omega); rw [hnd.2]; exact hdw
     · rw [e0, hnd.2]; exact hB11
  ·skip
   refine wl_nextE rfl rfl hIt hn9 ?_; refine wl_val rfl (ex_extract rfl rfl) ?_; refine wl_nil (nrm_then ?_); refine cw_seq ?_; refine cw_false rfl ?_; refine cw_exit (ex_then (ex_then (ex_here (nrm_then ?_)))); refine cw_seq ?_; refine cw_region ?_; refine wl_a ?_; refine wl_nil (nrm_then ?_); refine cw_ret (body_ret1 rfl rfl ?_)
   exact ⟨true, rfl, by simp only [true_iff]; exact ⟨k, vutf_here hw (by omega)⟩, hV8⟩
end Go.Proofs.Ytljadkcojnlioaa
namespace Go.Proofs.Ytljadkcojnlioaa
open Go.Proofs
open Go.W Go.RowKit
attribute [local irreducible] Decidable.decide
set_option linter.unusedSimpArgs false
set_option linter.unusedVariables false
theorem Try.fld34_0 : fieldB Try.prog 34 0 = some 0 := by kernel_rfl
theorem Try.size34 : sizeB Try.prog 34 = some 1 := by kernel_rfl
theorem Try.zero34 : zeroB Try.prog 34 = some #[.int .i64 0] := by kernel_rfl
theorem ex_binR {P : Program} {σ : Env} {w : World} {T : TypeId} {pos : String} {after : Array Edge} {dst : Option Nat} {g : Option (Nat × Bool)} {op : BinOp} {xt yt : TypeId} {x y : Operand} {a b r : Value} (hx : σ.ev x = some a) (hy : σ.ev y = some b) (h : ∀ w, (do eqGuard op xt x y a b; binOp op xt a b : Sem Value).run P w = .ok r w) : Ex P σ ⟨dst, .binOp op xt x y yt, T, pos, after, g⟩ w r w := fun ρ ha => by
  have h1 := h w
  simp only [Sem.run_bind] at h1
  simp only [execOp, ha _ _ hx, ha _ _ hy, Sem.run_bind, h1, Result.andThen_ok, Sem.run_pure]
theorem ex_tassert {P : Program} {σ : Env} {w : World} {T : TypeId} {pos : String} {after : Array Edge} {dst : Option Nat} {g : Option (Nat × Bool)} {xt ast : TypeId} {ok : Bool} {x : Operand} {a r : Value} (hx : σ.ev x = some a) (h : ∀ w, (Instr.typeAssert a xt ast ok).run P w = .ok r w) : Ex P σ ⟨dst, .typeAssert x xt ast ok, T, pos, after, g⟩ w r w := fun ρ ha => by
  simp [execOp, ha _ _ hx, h]
theorem recov_none {w : World} {x e : Value} : CallsD Try.prog 8 #[x, e] .returning w (fun e u2 w' => (∃ vv, e = .returned vv ∧ Evo [] w w') ∧ u2 = .returning) := by
  refine callsD_rec (N := 19) (RecAs.ret) Try.func8 rfl rfl rfl rfl rfl ?_
  refine cw_seq ?_
  refine cw_region ?_
  refine wl_m ?_
  refine wl_val rfl (ex_binR (r := .bool false) rfl rfl (fun w => by kernel_rfl)) ?_
  refine wl_nil (nrm_then ?_)
  refine cw_false rfl ?_
  refine cw_skip (body_end0 rfl ?_)
  exact (Evo.refl [] w)
theorem recov_some {w : World} {bx be : Nat} {c0 c1 c2 c3 c4 c5 c6 c7 c8 v0 : Value} {k : Int} (hx : w.heap[bx]? = some (.cells #[c0, c1, c2, c3, c4, c5, c6, c7, c8] 25 (0, 0))) (he : w.heap[be]? = some (.cells #[v0] 26 (0, 0))) (hne : Apart (some bx) (some be)) :
    CallsD Try.prog 8 #[.pointer (some ⟨bx, 0, none⟩), .pointer (some ⟨be, 0, none⟩)] (.panicking (pan (flt k))) w (fun e u2 w' => (∃ vv, e = .returned vv ∧ Evo [bx, be] w w' ∧ w'.heap[bx]? = some (.cells #[iv 0, .int .i32 0, .slice none 0 0, iv 0, iv 0, .bool false, iv 0, .string ByteArray.empty, .slice none 0 0] 25 (0, 0)) ∧ w'.heap[be]? = some (.cells #[iv k] 26 (0, 0))) ∧ u2 = .panicking [{ v := flt k, recovered := true }]) := by
  refine callsD_rec (N := 19) (RecAs.pan _) Try.func8 rfl rfl rfl rfl rfl ?_
  refine cw_seq ?_
  refine cw_region ?_
  refine wl_m ?_
  refine wl_val rfl (ex_binR (r := .bool true) rfl rfl (fun w => by kernel_rfl)) ?_
  refine wl_nil (nrm_then ?_)
  refine cw_true rfl ?_
  refine cw_seq ?_
  refine cw_region ?_
  refine wl_m ?_
  refine wl_val rfl (ex_tassert (r := .tuple #[.agg #[iv k], .bool true]) rfl (fun w => by kernel_rfl)) ?_
  refine wl_m ?_
  refine wl_val rfl (ex_extract rfl rfl) ?_
  refine wl_val rfl (ex_extract rfl rfl) ?_
  refine wl_alloc rfl Try.zero34 fun bf w1 hB2 hs3 hw4 => ?_
  have hsz_bf := hs3
  have hA5 := Apart.new (Lt.blk hx) hs3
  have hA6 := Apart.new (Lt.blk he) hs3
  have hG7 := Ge.new (Evo.refl [bx, be] w) hs3
  have hE8 := (Evo.refl [bx, be] w).then hw4
  have hB9 := hw4.blk0 hx
  have hB10 := hw4.blk0 he
  refine wl_storeBlk rfl rfl Try.size34 hB2 rfl rfl ⟨by first | rfl | assumption, trivial⟩ fun w11 hB12 hw13 => ?_
  have hE14 := hE8.step hw13 hG7.mem1
  have hB15 := hw13.blk hB9 hA5.nmem1
  have hB16 := hw13.blk hB10 hA6.nmem1
  refine wl_a ?_
  refine wl_nil (nrm_then ?_)
  refine cw_seq ?_
  refine cw_seq ?_
  refine cw_region ?_
  refine wl_m ?_
  refine wl_val rfl (ex_notb rfl) ?_
  refine wl_nil (nrm_then ?_)
  refine cw_false rfl ?_
  refine cw_skip (nrm_then ?_)
  refine cw_any (fun w0 w' => Evo [bx, be] w0 w') (by kernel_rfl) (fun w17 hw18 => ?_)
  have hE19 := hE14.then hw18
  have hB20 := hw18.blk0 hB15
  have hB21 := hw18.blk0 hB16
  have hB22 := hw18.blk0 hB12
  refine ae_take 0 rfl (by kernel_rfl) (by kernel_rfl) (by kernel_rfl) rfl (fun _ hS => ex_build (vs := []) Try.build25 rfl (cells := [_, _, _, _, _, _, _, _, _]) rfl) (Evo.refl [bx, be] w17) ?_
  refine ae_take 1 rfl (by kernel_rfl) (by kernel_rfl) (by kernel_rfl) rfl (fun _ hS => ex_fieldAddr rfl Try.fld34_0) (Evo.refl [bx, be] w17) ?_
  refine ae_take 2 rfl (by kernel_rfl) (by kernel_rfl) (by kernel_rfl) rfl (fun _ hS => ex_load1 rfl Try.agg26 (cell_nth (hS.blk hB22 ((nm_2 hA5.symm hA6.symm))) rfl)) (Evo.refl [bx, be] w17) ?_
  refine ae_loud [3] (by kernel_rfl) rfl ⟨?_, trivial⟩
  refine a_step rfl ?_
  refine wl_storeBlk rfl rfl Try.size25 hB20 rfl rfl ⟨by first | rfl | assumption, by first | rfl | assumption, by first | rfl | assumption, by first | rfl | assumption, by first | rfl | assumption, by first | rfl | assumption, by first | rfl | assumption, by first | rfl | assumption, by first | rfl | assumption, trivial⟩ fun w23 hB24 hw25 => ?_
  have hE26 := hE19.step hw25 (fun y hy => .inl (by rw [List.mem_singleton.1 hy]; simp))
  have hE27 := (Evo.refl [bx, be] w17).step hw25 (fun y hy => .inl (by rw [List.mem_singleton.1 hy]; simp))
  have hB28 := hw25.blk hB21 hne.symm.nmem1
  have hB29 := hw25.blk hB22 hA5.symm.nmem1
  refine wl_nil (ae_next (.inl hE27) ?_)
  refine ae_loud [4] (by kernel_rfl) rfl ⟨?_, trivial⟩
  refine a_step rfl ?_
  refine wl_store1 rfl rfl (by first | rfl | assumption) Try.size26 hB28 rfl fun w30 hB31 hw32 => ?_
  have hE33 := hE26.step hw32 (fun y hy => .inl (by rw [List.mem_singleton.1 hy]; simp))
  have hE34 := hE27.step hw32 (fun y hy => .inl (by rw [List.mem_singleton.1 hy]; simp))
  have hB35 := hw32.blk hB24 hne.nmem1
  have hB36 := hw32.blk hB29 hA6.symm.nmem1
  refine wl_nil (ae_next (.inl hE34) ?_)
  refine ae_done (by kernel_rfl) (body_end0 rfl ?_)
  exact ⟨hE33, hB35, hB31⟩
end Go.Proofs.Ytljadkcojnlioaa
namespace Go.Proofs.Ytljadkcojnlioaa
open Go.Proofs
open Go.W Go.RowKit
attribute [local irreducible] Decidable.decide
set_option linter.unusedSimpArgs false
set_option linter.unusedVariables false
theorem Try.build41 : Build Try.prog 41 #[(0, 1), (1, 1), (2, 4), (6, 1), (7, 1)] #[.string ByteArray.empty, .int .i64 0, .bool false, .bool false, .bool false, .bool false, .int .i64 0, .slice none 0 0] := ⟨_, .agg #[.string ByteArray.empty, .int .i64 0, .bool false, .bool false, .bool false, .bool false, .int .i64 0, .slice none 0 0], Try.underlying41, by kernel_rfl, rfl, fun w => by kernel_rfl⟩
theorem Try.goes7 : Goes Try.prog 7 := ⟨_, Try.func7, by kernel_rfl, by kernel_rfl⟩
theorem Try.zero26 : zeroB Try.prog 26 = some #[.int .i64 0] := by kernel_rfl
abbrev st0 : PS := ⟨0, ⟨false, false, false, false⟩, 0, []⟩
abbrev zRx : Value := .agg #[iv 0, .int .i32 0, .slice none 0 0, iv 0, iv 0, .bool false, iv 0, .string ByteArray.empty, .slice none 0 0]
section
variable {s : ByteArray} {e : Int} {x : Rx} {st : PS}
theorem pp_long (h : 4096 < s.size) : pParse s = .error 1 := by unfold pParse; rw [if_pos h]
theorem pp_utf (h : ¬ 4096 < s.size) (hU : ¬ ∃ N, Utf s N) : pParse s = .error 4 := by unfold pParse; rw [if_neg h, if_pos hU]
theorem pp_err (h : ¬ 4096 < s.size) (hU : ∃ N, Utf s N) (he : pExp s 250 st0 = .error e) : pParse s = .error e := by unfold pParse; rw [if_neg h, if_neg (not_not_intro hU), he]
theorem pp_open (h : ¬ 4096 < s.size) (hU : ∃ N, Utf s N) (he : pExp s 250 st0 = .ok (x, st)) (hp : st.pos < s.size) : pParse s = .error 80 := by unfold pParse; rw [if_neg h, if_neg (not_not_intro hU), he]; simp only [if_pos hp]
theorem pp_ok (h : ¬ 4096 < s.size) (hU : ∃ N, Utf s N) (he : pExp s 250 st0 = .ok (x, st)) (hp : ¬ st.pos < s.size) : pParse s = .ok x := by unfold pParse; rw [if_neg h, if_neg (not_not_intro hU), he]; simp only [if_neg hp]
end
def ParseOut (s : ByteArray) (w : World) (v : Value) (w' : World) : Prop :=
  Evo [] w w' ∧ ((∃ e, pParse s = .error e ∧ v = .tuple #[zRx, iv e]) ∨ ∃ x vs bs, pParse s = .ok x ∧ v = .tuple #[.agg vs.toArray, iv 0] ∧ OT x w' vs bs ∧ Fr w bs)
theorem parse_ok {w : World} (s : ByteArray) (hG : Glb w) : Calls Try.prog 4 #[.string s] w (Ret (ParseOut s w)) := by
  refine calls_of_cwD (N := 31) Try.func4 rfl rfl rfl ?_; refine cw_seq ?_; refine cw_region ?_; refine wl_alloc rfl Try.zero25 fun bx w1 hB2 hs3 hw4 => ?_; have hsz_bx := hs3; have hG5 := Ge.new (Evo.refl [] w) hs3; have hE6 := (Evo.refl [] w).then hw4; refine wl_alloc rfl Try.zero26 fun be w7 hB8 hs9 hw10 => ?_; have hsz_be := hs9; have hA11 := Apart.new (Lt.blk hB2) hs9; have hG12 := Ge.new hE6 hs9; have hE13 := hE6.then hw10; have hB14 := hw10.blk0 hB2; refine wl_nil (nrm_then ?_); refine cw_seq ?_; refine cw_seq ?_; refine cw_region ?_; refine wl_m ?_; refine wl_val rfl (ex_len_str rfl Try.underlying9 rfl) ?_; refine wl_val rfl (ex_gtr rfl rfl) ?_; refine wl_nil (nrm_then ?_); refine cw_if rfl (fun hc7 => ?_) (fun hc7 => ?_)
  ·skip
   refine cw_seq ?_; refine cw_region ?_; refine wl_val rfl (ex_build (vs := []) Try.build25 rfl (cells := [_, _, _, _, _, _, _, _, _]) rfl) ?_; refine wl_storeBlk rfl rfl Try.size25 hB14 rfl rfl ⟨by first | rfl | assumption, by first | rfl | assumption, by first | rfl | assumption, by first | rfl | assumption, by first | rfl | assumption, by first | rfl | assumption, by first | rfl | assumption, by first | rfl | assumption, by first | rfl | assumption, trivial⟩ fun w15 hB16 hw17 => ?_; have hE18 := hE13.step hw17 hG5.mem1; have hB19 := hw17.blk hB8 hA11.symm.nmem1; refine wl_store1 rfl rfl (by first | rfl | assumption) Try.size26 hB19 rfl fun w20 hB21 hw22 => ?_; have hE23 := hE18.step hw22 hG12.mem1; have hB24 := hw22.blk hB16 hA11.nmem1; refine wl_nil (nrm_then ?_); refine cw_ret (ret_then (body_retD0 (body_retC2 rfl (ResOk.cellA rfl Try.agg25 Try.size25 hB24 rfl) (ResOk.cell1 rfl Try.agg26 hB21 rfl) ?_))); exact ⟨hE23, .inl ⟨1, pp_long (by omega), rfl⟩⟩
  ·skip
   have hlen : ¬ 4096 < s.size := by omega
   refine cw_skip (nrm_then ?_); refine cw_seq ?_; refine cw_seq ?_; refine cw_region ?_; refine wl_m ?_; refine wl_call1 (vs := [_]) Try.goes7 rfl (uvalid_ok s (by omega)) rfl ?_; rintro _ w25 ⟨bU, rfl, hbU, hw26⟩; have hE27 := hE13.then hw26; have hB28 := hw26.blk0 hB14; have hB29 := hw26.blk0 hB8; refine wl_val rfl (ex_notb rfl) ?_; refine wl_nil (nrm_then ?_); refine cw_ifb rfl (fun hc11 => ?_) (fun hc11 => ?_)
   ·skip
    refine cw_seq ?_; refine cw_region ?_; refine wl_val rfl (ex_build (vs := []) Try.build25 rfl (cells := [_, _, _, _, _, _, _, _, _]) rfl) ?_; refine wl_storeBlk rfl rfl Try.size25 hB28 rfl rfl ⟨by first | rfl | assumption, by first | rfl | assumption, by first | rfl | assumption, by first | rfl | assumption, by first | rfl | assumption, by first | rfl | assumption, by first | rfl | assumption, by first | rfl | assumption, by first | rfl | assumption, trivial⟩ fun w30 hB31 hw32 => ?_; have hE33 := hE27.step hw32 hG5.mem1; have hB34 := hw32.blk hB29 hA11.symm.nmem1; refine wl_store1 rfl rfl (by first | rfl | assumption) Try.size26 hB34 rfl fun w35 hB36 hw37 => ?_; have hE38 := hE33.step hw37 hG12.mem1; have hB39 := hw37.blk hB31 hA11.nmem1; refine wl_nil (nrm_then ?_); refine cw_ret (ret_then (body_retD0 (body_retC2 rfl (ResOk.cellA rfl Try.agg25 Try.size25 hB39 rfl) (ResOk.cell1 rfl Try.agg26 hB36 rfl) ?_)))
    exact ⟨hE38, .inl ⟨4, pp_utf hlen (fun h => by have := hbU.2 h; simp_all), rfl⟩⟩
   ·skip
    have hU : ∃ N, Utf s N := hbU.1 (by simpa using hc11); refine cw_skip (nrm_then ?_); refine cw_seq ?_; refine cw_region ?_; refine wl_val rfl (ex_makeFunc (vs := [_, _]) rfl) ?_; refine wl_defer rfl ?_; refine wl_nil (nrm_then ?_); refine cw_seq ?_; refine cw_region ?_; refine wl_m ?_; refine wl_val rfl (ex_build (vs := [(0, _)]) Try.build41 rfl (cells := [_, _, _, _, _, _, _, _]) rfl) ?_; refine wl_boxA rfl rfl fun br w40 hB41 hs42 hw43 => ?_; have hsz_br := hs42; have hA44 := Apart.new (Lt.blk hB28) hs42; have hA45 := Apart.new (Lt.blk hB29) hs42; have hG46 := Ge.new hE27 hs42; have hE47 := hE27.then hw43; have hB48 := hw43.blk0 hB28; have hB49 := hw43.blk0 hB29; refine wl_a ?_; refine wl_nil (nrm_then ?_); refine cw_seq ?_; refine cw_region ?_; refine wl_m ?_
    refine wl_callP1 (vs := [_]) Try.goes9 rfl (expression_ok (by omega) 250 0 rfl (a := none) (c := 0) (ob := none) (st := st0) ⟨hB41, OwnS.nil _ _ _, fun g h => by cases h⟩ rfl (by obtain ⟨N, hN⟩ := hU; exact Bd.zero hN) (by show 0 ≤ 100; omega) (hG.evo hE47 (by simp)) (Apart.nil _)) rfl ?_ ?_
    ·skip
     intro pv wp hpp; obtain ⟨e9, hpe, rfl, hpw⟩ := hpp; refine leaves_two rfl Try.func8 (by kernel_rfl) rfl (by simp) ((recov_some (hpw.blk hB48 (by simpa using hA44.nmem1)) (hpw.blk hB49 (by simpa using hA45.nmem1)) hA11).mono ?_); rintro e9 u9 w9 ⟨⟨vv, rfl, hv9, hb9, hc9⟩, rfl⟩
     exact ⟨⟨vv, rfl⟩, rfl, _, _, ResOk.cellA rfl Try.agg25 Try.size25 hb9 rfl, ResOk.cell1 rfl Try.agg26 hc9 rfl, ((hE47).step hpw (fun y hy => hG46.mem1 y (by simpa using hy))).step hv9 (fun y hy => by rcases List.mem_cons.1 hy with rfl | hy; exact hG5.mem1 _ (by simp); exact hG12.mem1 _ hy), .inl ⟨_, pp_err hlen hU hpe, rfl⟩⟩
    rintro _ w50 ⟨x, st1, hx, h0w, hmv, na, nc, no, vs, bs, rfl, hOT, hFx, hR, hnb⟩; have hV9 := hE47; have hw51 : Evo [br] _ _ := h0w; obtain ⟨ra, rc, ka, kc, rfl⟩ := id hOT.nine; have hbxl := blk_lt hB48; have hbel := blk_lt hB49; have hE52 := hE47.step hw51 hG46.mem1; have hB53 := hw51.blk hB48 hA44.nmem1; have hB54 := hw51.blk hB49 hA45.nmem1; refine wl_storeBlk rfl rfl Try.size25 hB53 rfl rfl ⟨by first | rfl | assumption, by first | rfl | assumption, by first | rfl | assumption, by first | rfl | assumption, by first | rfl | assumption, by first | rfl | assumption, by first | rfl | assumption, by first | rfl | assumption, by first | rfl | assumption, trivial⟩ fun w55 hB56 hw57 => ?_; have hE58 := hE52.step hw57 hG5.mem1; have hB59 := hw57.blk hB54 hA11.symm.nmem1; have hB60 := hw57.blk hR.blk hA44.symm.nmem1
    have hF61 := hOT.evo hw57 (fun q hq h => by rw [List.mem_singleton.1 h] at hq; have h8 := hFx.ge _ hq; omega)
    refine wl_nil (nrm_then ?_); refine cw_seq ?_; refine cw_seq ?_; refine cw_quiet (by kernel_rfl) (by kernel_rfl) ?_; refine ql_val rfl (fun _ hq63 => ex_move rfl) ?_; refine ql_val rfl (fun _ hq63 => ex_nilCheck rfl) ?_; refine ql_val rfl (fun _ hq63 => ex_fieldAddr rfl Try.fld41_1) ?_; refine ql_val rfl (fun _ hq63 => ex_load1 rfl Try.agg3 (cell_nth (hq63.blk0 hB60) rfl)) ?_; refine ql_val rfl (fun _ hq63 => ex_move rfl) ?_; refine ql_val rfl (fun _ hq63 => ex_nilCheck rfl) ?_; refine ql_val rfl (fun _ hq63 => ex_fieldAddr rfl Try.fld41_0) ?_; refine ql_val rfl (fun _ hq63 => ex_load1 rfl Try.agg9 (cell_nth (hq63.blk0 hB60) rfl)) ?_; refine ql_val rfl (fun _ hq63 => ex_len_str rfl Try.underlying9 rfl) ?_; refine ql_val rfl (fun _ hq63 => ex_lss rfl rfl) ?_; refine ql_nil (fun wq62 hq63 => nrm_then ?_); have hE64 := hE58.then hq63; have hB65 := hq63.blk0 hB56; have hB66 := hq63.blk0 hB59; have hB67 := hq63.blk0 hB60; have hF68 := hF61.evo0 hq63; refine cw_if rfl (fun hc28 => ?_) (fun hc28 => ?_)
    ·skip
     refine cw_region ?_; refine wl_callP1 (vs := [_]) Try.goes10 rfl (fail_ok 80) rfl ?_ ?_
     ·skip
      intro pv wp hpp; obtain ⟨rfl, hpw⟩ := hpp; refine leaves_two rfl Try.func8 (by kernel_rfl) rfl (by simp) ((recov_some (hpw.blk hB65 (by simp)) (hpw.blk hB66 (by simp)) hA11).mono ?_); rintro e9 u9 w9 ⟨⟨vv, rfl, hv9, hb9, hc9⟩, rfl⟩
      exact ⟨⟨vv, rfl⟩, rfl, _, _, ResOk.cellA rfl Try.agg25 Try.size25 hb9 rfl, ResOk.cell1 rfl Try.agg26 hc9 rfl, ((hE64).then hpw).step hv9 (fun y hy => by rcases List.mem_cons.1 hy with rfl | hy; exact hG5.mem1 _ (by simp); exact hG12.mem1 _ hy), .inl ⟨_, pp_open hlen hU hx (by omega), rfl⟩⟩
     intro _ _ hF; exact hF.elim
    ·skip
     refine cw_skip (nrm_then ?_); refine cw_seq ?_; refine cw_region ?_; refine wl_val rfl (ex_loadBlk rfl Try.agg25 Try.size25 hB65 rfl) ?_; refine wl_storeBlk rfl rfl Try.size25 hB65 rfl rfl ⟨by first | rfl | assumption, by first | rfl | assumption, by first | rfl | assumption, by first | rfl | assumption, by first | rfl | assumption, by first | rfl | assumption, by first | rfl | assumption, by first | rfl | assumption, by first | rfl | assumption, trivial⟩ fun w71 hB72 hw73 => ?_; have hE74 := hE64.step hw73 hG5.mem1; have hB75 := hw73.blk hB66 hA11.symm.nmem1; have hB76 := hw73.blk hB67 hA44.symm.nmem1
     have hF77 := hF68.evo hw73 (fun q hq h => by rw [List.mem_singleton.1 h] at hq; have h8 := hFx.ge _ hq; omega)
     refine wl_store1 rfl rfl (by first | rfl | assumption) Try.size26 hB75 rfl fun w78 hB79 hw80 => ?_; have hE81 := hE74.step hw80 hG12.mem1; have hB82 := hw80.blk hB72 hA11.nmem1; have hB83 := hw80.blk hB76 hA45.symm.nmem1
     have hF84 := hF77.evo hw80 (fun q hq h => by rw [List.mem_singleton.1 h] at hq; have h8 := hFx.ge _ hq; omega)
     refine wl_nil (nrm_then ?_); refine cw_ret (?_); refine leaves_two rfl Try.func8 (by kernel_rfl) rfl (by simp) (recov_none.mono ?_); rintro e9 u9 w9 ⟨⟨vv, rfl, hv9⟩, rfl⟩; exact ⟨⟨vv, rfl⟩, rfl, _, _, ResOk.cellA rfl Try.agg25 Try.size25 (hv9.blk0 hB82) rfl, ResOk.cell1 rfl Try.agg26 (hv9.blk0 hB79) rfl, (hE81).then hv9, .inr ⟨x, _, bs, pp_ok hlen hU hx (by omega), rfl, hF84.evo0 hv9, hFx.older hV9.size⟩⟩
end Go.Proofs.Ytljadkcojnlioaa
namespace Go.Proofs.Ytljadkcojnlioaa
open Go.Proofs
open Go.W Go.RowKit
attribute [local irreducible] Decidable.decide
set_option linter.unusedSimpArgs false
set_option linter.unusedVariables false
end Go.Proofs.Ytljadkcojnlioaa
namespace Go.Proofs.Ytljadkcojnlioaa
open Go.W Go.RowKit
set_option linter.unusedVariables false
set_option linter.unusedSimpArgs false
instance (c : Int) : Decidable (wordI c) := by unfold wordI; infer_instance
end Go.Proofs.Ytljadkcojnlioaa
namespace Go.Proofs.Ytljadkcojnlioaa
open Go.Proofs
open Go.W Go.RowKit
attribute [local irreducible] Decidable.decide
set_option linter.unusedSimpArgs false
set_option linter.unusedVariables false
end Go.Proofs.Ytljadkcojnlioaa
namespace Go.Proofs.Ytljadkcojnlioaa
open Go.Proofs
open Go.W Go.RowKit
attribute [local irreducible] Decidable.decide
set_option linter.unusedSimpArgs false
set_option linter.unusedVariables false
theorem Try.make44 : makeB Try.prog 44 = some (5, 1, 1, #[.int .u8 0]) := by kernel_rfl
section
variable {P : Program} {σ : Env} {w : World} {dst : Option Nat} {T : TypeId} {pos : String} {after : Array Edge} {g : Option (Nat × Bool)}
end
end Go.Proofs.Ytljadkcojnlioaa
namespace Go.Proofs.Ytljadkcojnlioaa
open Go.Proofs
open Go.W Go.RowKit
attribute [local irreducible] Decidable.decide
set_option linter.unusedSimpArgs false
set_option linter.unusedVariables false
theorem ext_app {s : ByteArray} {a b c : Nat} (h1 : a ≤ b) (h2 : b ≤ c) : s.extract a c = s.extract a b ++ s.extract b c := by
  rw [ByteArray.extract_append_extract]
  congr 1 <;> omega
def CmI (a b : ByteArray) (be : Nat) (w1 : World) (pre : List Nat) (W : World) : Prop :=
  ∃ e : Nat, W.heap[be]? = some (.cells #[.int .i64 (e : Nat)] 3 (0, 0)) ∧ Evo [be] w1 W ∧ ((∃ k, pre = List.range k) → e = offs a pre.length ∧ e ≤ b.size ∧ a.extract 0 e = b.extract 0 e)
theorem CmI.own (a b : ByteArray) (be : Nat) (w1 : World) : OwnFrom w1.heap.size (CmI a b be w1) := fun _ _ _ _ ⟨e, h1, h2, h3⟩ hg hr =>
  ⟨e, blk_turn h1 hg (fun r e => (hr r e).2), evo_turn h2 hg (fun r e => (hr r e).1), h3⟩
def CmX (a b : ByteArray) (be : Nat) (w1 : World) (c : Code) (pre : List Nat) (W : World) : Prop := c = .exit 0 ∧ ∃ p x, pre = p ++ [x] ∧ (nextR b (offs a x)).1 ≠ (nextR a (offs a x)).1 ∧ CmI a b be w1 p W
theorem CmX.own (a b : ByteArray) (be : Nat) (w1 : World) (c : Code) : OwnFrom w1.heap.size (CmX a b be w1 c) := fun _ _ _ _ ⟨h1, p, x, h2, h4, h3⟩ hg hr => ⟨h1, p, x, h2, h4, CmI.own a b be w1 _ _ _ _ h3 hg hr⟩
end Go.Proofs.Ytljadkcojnlioaa
namespace Go.Proofs.Ytljadkcojnlioaa
open Go.Proofs Go.W Go.RowKit
set_option linter.unusedVariables false
set_option linter.unusedSimpArgs false
set_option linter.unusedSectionVars false
theorem toList_inj {a b : ByteArray} (h : a.toList = b.toList) : a = b := by
  rw [Go.ByteArray.toList_eq, Go.ByteArray.toList_eq] at h
  cases a; cases b
  simpa [Array.toList_inj] using h
theorem own_addr {w : World} {e : TypeId} {a : Option Addr} {n c : Nat} {xs : List Value} {g : Nat} (h : OwnS w e 1 a n c xs (some g)) : a = some ⟨g, 0, none⟩ := by
  rcases h.2 with ⟨_, _, h3⟩ | ⟨g', _, _, hg, hv, _⟩
  · cases h3
  · cases hg; cases hv; rfl
section
variable {α : Type} [Inhabited α] (enc : α → Value)
end
end Go.Proofs.Ytljadkcojnlioaa
namespace Go.Proofs.Ytljadkcojnlioaa
open Go.W Go.RowKit
set_option linter.unusedVariables false
set_option linter.unusedSimpArgs false
theorem hit_of {s : ByteArray} {a : Nat} (h : 0 < (nextR s a).2) : 1 ≤ (nextR s a).2 ∧ (nextR s a).2 ≤ 4 ∧ a + (nextR s a).2 ≤ s.size ∧ Hit s a (nextR s a).2 := by
  by_cases ha : a < s.size
  · rcases decode_cases s a ha with ⟨w, h1, h2, h3, hh, hd, h4, h5, -⟩ | ⟨h1, hd⟩
    · have hn := (next_hit h1 h2 h3 hh).1
      rw [hn]
      exact ⟨h1, h2, h3, hh⟩
    · unfold nextR at h
      rw [if_neg (fun e => e.2 (by rw [hd]; exact ⟨rfl, rfl⟩))] at h
      cases h
  · rw [next_out (by omega)] at h; cases h
theorem sub_size {s : ByteArray} {a b : Nat} (h : b ≤ s.size) : (s.extract a b).size = b - a := by
  rw [ByteArray.size_extract]; omega
theorem guess_sub {s : ByteArray} {a b p w : Nat} (hb : b ≤ s.size) (hw : 1 ≤ w) (hw4 : w ≤ 4) (hp : a + p + w ≤ b) : guessB (s.extract a b) p w = guessB s (a + p) w := by
  have e : ∀ k, k < w → sb (s.extract a b) (p + k) = sb s (a + p + k) := fun k hk => by
    rw [sb_extract hb (by omega), Nat.add_assoc]
  have e0 := e 0 (by omega)
  simp only [Nat.add_zero] at e0
  unfold guessB
  by_cases h1 : w = 1
  · simp only [h1, if_true]; rw [e0]
  have e1 := e 1 (by omega)
  by_cases h2 : w = 2
  · simp only [h2, if_true]; rw [e0, e1]
  have e2 := e 2 (by omega)
  by_cases h3 : w = 3
  · simp only [h3, if_true]; rw [e0, e1, e2]
  have h4 : w = 4 := by omega
  have e3 := e 3 (by omega)
  simp only [h4]; rw [e0, e1, e2, e3]
theorem hit_sub {s : ByteArray} {a b p w : Nat} (hb : b ≤ s.size) (hw : 1 ≤ w) (hw4 : w ≤ 4) (hp : a + p + w ≤ b) (h : Hit s (a + p) w) : Hit (s.extract a b) p w := by
  have hbb : bytesAt (s.extract a b) p w = bytesAt s (a + p) w := by
    unfold bytesAt
    apply List.map_congr_left
    intro k hk
    have hk2 : k < w := by simpa using hk
    rw [sb_extract hb (by omega), Nat.add_assoc]
  unfold Hit
  rw [guess_sub hb hw hw4 hp, hbb]
  exact h
theorem next_sub {s : ByteArray} {a b p : Nat} (hb : b ≤ s.size) (h : 0 < (nextR s (a + p)).2) (hp : a + p + (nextR s (a + p)).2 ≤ b) : nextR (s.extract a b) p = nextR s (a + p) := by
  obtain ⟨h1, h2, h3, h4⟩ := hit_of h
  have h7 := (next_hit h1 h2 h3 h4).1
  have h5 := hit_sub hb h1 h2 hp h4
  have h6 := (next_hit h1 h2 (by rw [sub_size hb]; omega) h5).1
  rw [guess_sub hb h1 h2 hp] at h6
  exact h6.trans h7.symm
theorem utf_sub {s : ByteArray} {N i j : Nat} (hU : Utf s N) (hij : i ≤ j) (hj : j ≤ N) : Utf (s.extract (offs s i) (offs s j)) (j - i) := by
  have hb := offs_le s j
  have ho : ∀ k, k ≤ j - i → offs s i + offs (s.extract (offs s i) (offs s j)) k = offs s (i + k) := by
    intro k
    induction k with
    | zero => intro _; rfl
    | succ k ih =>
      intro hk
      have h1 := ih (by omega)
      have h2 := hU.2 (i + k) (by omega)
      have h3 := offs_mono s (show i + k + 1 ≤ j by omega)
      rw [offs] at h3
      have h4 := next_sub (s := s) (a := offs s i) (p := offs (s.extract (offs s i) (offs s j)) k) hb (by rw [h1]; exact h2) (by rw [h1]; exact h3)
      rw [offs, h4, h1]
      rw [show i + (k + 1) = i + k + 1 from rfl, offs]
      omega
  refine ⟨?_, fun k hk => ?_⟩
  · have h1 := ho (j - i) (Nat.le_refl _)
    rw [show i + (j - i) = j by omega] at h1
    rw [sub_size hb]; omega
  · have h1 := ho k (by omega)
    have h2 := hU.2 (i + k) (by omega)
    have h3 := offs_mono s (show i + k + 1 ≤ j by omega)
    rw [offs] at h3
    rw [next_sub (s := s) hb (by rw [h1]; exact h2) (by rw [h1]; exact h3), h1]
    exact h2
def Fwd (N : Nat) (R : Nat → Nat → Prop) : Prop := ∀ i j, R i j → i ≤ N → i ≤ j ∧ j ≤ N
theorem it_fwd {N : Nat} {R : Nat → Nat → Prop} (h : Fwd N R) : ∀ c, Fwd N (It R c)
  | 0, i, j, e, hi => by cases e; exact ⟨Nat.le_refl _, hi⟩
  | c + 1, i, j, ⟨k, h1, h2⟩, hi => by
    have h3 := h i k h1 hi
    have h4 := it_fwd h c k j h2 h3.2
    omega
abbrev nob : ByteArray := ByteArray.mk #[]
def Hd (s : ByteArray) (N : Nat) (R : Nat → Nat → Prop) (t : ByteArray) (ex : Bool) : Prop :=
  ∀ i j, i ≤ N → R i j → offs s i + t.size ≤ offs s j ∧ s.extract (offs s i) (offs s i + t.size) = t ∧ (ex = true → offs s i + t.size = offs s j)
variable {s : ByteArray} {N : Nat} {R S : Nat → Nat → Prop} {t u : ByteArray} {ex fx : Bool}
theorem ext_nil (s : ByteArray) (a : Nat) : s.extract a (a + nob.size) = nob := by
  have h : (s.extract a (a + nob.size)).size = 0 := by rw [ByteArray.size_extract]; show min (a + 0) _ - a = 0; omega
  exact ByteArray.size_eq_zero_iff.1 h
theorem Hd.eps (h : ∀ i j, R i j → i = j) : Hd s N R nob true := fun i j hi hr => by
  obtain rfl := h i j hr
  exact ⟨Nat.le_refl _, ext_nil _ _, fun _ => rfl⟩
theorem Hd.none (h : Fwd N R) : Hd s N R nob false := fun i j hi hr => by
  have h1 := offs_mono s (h i j hr hi).1
  exact ⟨by show offs s i + 0 ≤ _; omega, ext_nil _ _, fun h => by cases h⟩
theorem Hd.congr (h : Hd s N R t ex) (e : ∀ i j, i ≤ N → S i j → R i j) : Hd s N S t ex := fun i j hi hr => h i j hi (e i j hi hr)
theorem Hd.seq (hf : Fwd N R) (h1 : Hd s N R t true) (h2 : Hd s N S u ex) : Hd s N (fun i j => ∃ k, R i k ∧ S k j) (t ++ u) ex := fun i j hi ⟨k, hr, hs⟩ => by
  have hk := hf i k hr hi
  have a := h1 i k hi hr
  have b := h2 k j hk.2 hs
  have hz : (t ++ u).size = t.size + u.size := ByteArray.size_append ..
  have e := a.2.2 rfl
  refine ⟨by omega, ?_, fun hx => by have := b.2.2 hx; omega⟩
  rw [ext_app (b := offs s i + t.size) (by omega) (by omega), a.2.1, hz, ← Nat.add_assoc, e, b.2.1]
theorem Hd.cut (hf : Fwd N R) (hg : Fwd N S) (h1 : Hd s N R t ex) : Hd s N (fun i j => ∃ k, R i k ∧ S k j) t false := fun i j hi ⟨k, hr, hs⟩ => by
  have hk := hf i k hr hi
  have a := h1 i k hi hr
  have b := offs_mono s (hg k j hs hk.2).1
  exact ⟨by omega, a.2.1, fun h => by cases h⟩
theorem Hd.alt (hU : Utf s N) (hf : Fwd N R) (hg : Fwd N S) (h1 : Hd s N R t ex) (h2 : Hd s N S u fx) {e : Nat} (e1 : e ≤ t.size) (e2 : e ≤ u.size) (e3 : t.extract 0 e = u.extract 0 e) (e4 : t = u → (∃ M, Utf t M) → e = t.size) :
    Hd s N (fun i j => R i j ∨ S i j) (t.extract 0 e) (ex && fx && decide (t = u)) := by
  have hz : (t.extract 0 e).size = e := by rw [sub_size e1]; omega
  have key : ∀ {R : Nat → Nat → Prop} {t : ByteArray} {ex : Bool}, Fwd N R → Hd s N R t ex → e ≤ t.size → ∀ i j, i ≤ N → R i j → offs s i + e ≤ offs s j ∧ s.extract (offs s i) (offs s i + e) = t.extract 0 e ∧ (ex = true → (∃ M, Utf t M) ∧ offs s i + t.size = offs s j) := by
    intro R t ex hf h1 e1 i j hi hr
    have a := h1 i j hi hr
    refine ⟨by omega, ?_, fun hx => ⟨?_, a.2.2 hx⟩⟩
    · have h3 := congrArg (fun z : ByteArray => z.extract 0 e) a.2.1
      simp only [ByteArray.extract_extract] at h3
      rw [← h3]
      congr 1
      omega
    · have h3 := hf i j hr hi
      refine ⟨j - i, ?_⟩
      have h4 := utf_sub hU h3.1 h3.2
      rw [← a.2.2 hx, a.2.1] at h4
      exact h4
  intro i j hi hr
  rw [hz]
  rcases hr with hr | hr
  · obtain ⟨a, b, c⟩ := key hf h1 e1 i j hi hr
    refine ⟨a, b, fun hx => ?_⟩
    simp only [Bool.and_eq_true, decide_eq_true_eq] at hx
    have h3 := c hx.1.1
    rw [e4 hx.2 h3.1]; exact h3.2
  · obtain ⟨a, b, c⟩ := key hg h2 e2 i j hi hr
    refine ⟨a, by rw [b, e3], fun hx => ?_⟩
    simp only [Bool.and_eq_true, decide_eq_true_eq] at hx
    have h3 := c hx.1.2
    obtain ⟨⟨_, _⟩, rfl⟩ := hx
    rw [e4 rfl h3.1]; exact h3.2
def brep (t : ByteArray) (c : Nat) : ByteArray := ⟨(Lib.repeatL t.data.toList c).toArray⟩
theorem brep_zero (t : ByteArray) : brep t 0 = nob := rfl
theorem brep_succ (t : ByteArray) (c : Nat) : brep t (c + 1) = t ++ brep t c := by
  apply ByteArray.ext
  simp [brep, Lib.repeatL]
theorem brep_size (t : ByteArray) (c : Nat) : (brep t c).size = c * t.size := by
  induction c with
  | zero => rw [brep_zero, Nat.zero_mul]; rfl
  | succ c ih => rw [brep_succ, ByteArray.size_append, ih, Nat.succ_mul, Nat.add_comm]
theorem brep_nob (c : Nat) : brep nob c = nob := by
  have h := brep_size nob c
  rw [show nob.size = 0 from rfl, Nat.mul_zero] at h
  exact ByteArray.size_eq_zero_iff.1 h
theorem Hd.it (hf : Fwd N R) (h : Hd s N R t true) : ∀ c, Hd s N (It R c) (brep t c) true
  | 0 => by rw [brep_zero]; exact Hd.eps fun i j e => e
  | c + 1 => by
    rw [brep_succ]
    exact (Hd.seq hf h (Hd.it hf h c)).congr fun i j _ h => h
def repHead (mn mx : Int) (t : ByteArray) (ex : Bool) : ByteArray × Bool :=
  if mx = 0 then (nob, true) else if mn = 0 then (nob, ex && decide (t = nob)) else if ¬ ex = true ∨ t = nob then (t, ex) else (brep t mn.toNat, decide (mx = mn))
theorem Hd.rep (hf : Fwd N R) (h : Hd s N R t ex) {mn mx : Int} (h0 : 0 ≤ mn) (h1 : mx = -1 ∨ mn ≤ mx) :
    Hd s N (fun i j => ∃ c, mn.toNat ≤ c ∧ (mx = -1 ∨ c ≤ mx.toNat) ∧ It R c i j) (repHead mn mx t ex).1 (repHead mn mx t ex).2 := by
  have hall : Fwd N (fun i j => ∃ c, mn.toNat ≤ c ∧ (mx = -1 ∨ c ≤ mx.toNat) ∧ It R c i j) := fun i j ⟨c, _, _, hc⟩ hi => it_fwd hf c i j hc hi
  have hnob : t = nob → ex = true → Hd s N (fun i j => ∃ c, mn.toNat ≤ c ∧ (mx = -1 ∨ c ≤ mx.toNat) ∧ It R c i j) nob true := fun e1 e2 i j hi ⟨c, _, _, hc⟩ => by
    subst e1 e2
    have := Hd.it hf h c i j hi hc
    rwa [brep_nob] at this
  unfold repHead
  by_cases c1 : mx = 0
  · rw [if_pos c1]
    refine Hd.eps fun i j ⟨c, _, h2, h3⟩ => ?_
    obtain rfl : c = 0 := by omega
    exact h3
  rw [if_neg c1]
  by_cases c2 : mn = 0
  · rw [if_pos c2]
    by_cases c3 : ex = true ∧ t = nob
    · rw [show (ex && decide (t = nob)) = true by simp [c3]]
      exact hnob c3.2 c3.1
    · rw [show (ex && decide (t = nob)) = false by simpa using c3]
      exact Hd.none hall
  rw [if_neg c2]
  by_cases c3 : ¬ ex = true ∨ t = nob
  · rw [if_pos c3]
    by_cases c4 : ex = true
    · have e := c3.resolve_left (fun h => h c4)
      show Hd s N _ t ex
      rw [c4, e]; exact hnob e c4
    · have e : ex = false := by simpa using c4
      show Hd s N _ t ex
      rw [e]
      intro i j hi ⟨c, h2, _, h3⟩
      obtain ⟨c, rfl⟩ : ∃ c', c = c' + 1 := ⟨c - 1, by omega⟩
      exact Hd.cut hf (it_fwd hf c) h i j hi h3
  · rw [if_neg c3]
    have e : ex = true := by by_cases h : ex = true; exact h; exact (c3 (.inl h)).elim
    subst e
    intro i j hi ⟨c, h2, h3, h4⟩
    have hm := Hd.it hf h mn.toNat
    by_cases c5 : c = mn.toNat
    · subst c5
      have := hm i j hi h4
      exact ⟨this.1, this.2.1, fun _ => this.2.2 rfl⟩
    · obtain ⟨d, rfl⟩ : ∃ d, c = mn.toNat + d := ⟨c - mn.toNat, by omega⟩
      have h5 := Hd.cut (it_fwd hf _) (it_fwd hf d) hm i j hi (It.add.1 h4)
      exact ⟨h5.1, h5.2.1, fun hx => by simp only [decide_eq_true_eq] at hx; omega⟩
end Go.Proofs.Ytljadkcojnlioaa
namespace Go.Proofs.Ytljadkcojnlioaa
open Go.W Go.RowKit
set_option linter.unusedVariables false
set_option linter.unusedSimpArgs false
theorem bstr_app (a b : List Nat) : bstr (a ++ b) = bstr a ++ bstr b := by
  apply ByteArray.ext
  simp [bstr]
theorem sb_bstr {l : List Nat} {k : Nat} (hk : k < l.length) (hl : ∀ b, b ∈ l → b < 256) : sb (bstr l) k = l[k] := by
  have hz : k < (bstr l).size := by rw [bstr_size]; exact hk
  have h1 := hl l[k] (List.getElem_mem hk)
  rw [sb_get _ _ hz]
  show ((bstr l).data[k]'(by exact hz)).toNat = _
  simp [bstr]
  omega
theorem formB_pos {r : Int} (h : IsR r) : 1 ≤ (formB r).length := by
  rw [formB, if_pos h]; unfold formN; repeat' split
  all_goals simp
theorem next_form {s : ByteArray} {a : Nat} {r : Int} (hr : IsR r) (hs : a + (formB r).length ≤ s.size) (h : ∀ k (hk : k < (formB r).length), sb s (a + k) = (formB r)[k]) : nextR s a = (r, (formB r).length) := by
  have hb : bytesAt s a (formB r).length = formB r := by
    apply List.ext_getElem
    · simp [bytesAt]
    · intro k h1 h2
      simp only [bytesAt, List.getElem_map, List.getElem_range]
      exact h k h2
  have hg : guessB s a (formB r).length = r := by
    obtain ⟨m, rfl⟩ := Int.eq_ofNat_of_zero_le hr.1
    have e : formB (m : Int) = formN m := by rw [formB, if_pos hr]; rfl
    rw [e] at h ⊢
    have hm : (m : Int) ≤ 1114111 := hr.2.1
    unfold formN at h ⊢
    by_cases c1 : m < 128
    · simp only [if_pos c1] at h ⊢
      have h0 := h 0 (by simp)
      simp at h0
      simp [guessB, h0]
    by_cases c2 : m < 2048
    · simp only [if_neg c1, if_pos c2] at h ⊢
      have h0 := h 0 (by simp); have h1 := h 1 (by simp)
      simp at h0 h1
      simp [guessB, h0, h1]; omega
    by_cases c3 : m < 65536
    · simp only [if_neg c1, if_neg c2, if_pos c3] at h ⊢
      have h0 := h 0 (by simp); have h1 := h 1 (by simp); have h2 := h 2 (by simp)
      simp at h0 h1 h2
      simp [guessB, h0, h1, h2]; omega
    · simp only [if_neg c1, if_neg c2, if_neg c3] at h ⊢
      have h0 := h 0 (by simp); have h1 := h 1 (by simp); have h2 := h 2 (by simp); have h3 := h 3 (by simp)
      simp at h0 h1 h2 h3
      simp [guessB, h0, h1, h2, h3]; omega
  have hh : Hit s a (formB r).length := by unfold Hit; rw [hg, hb]
  have := (next_hit (formB_pos hr) (formB_len r) hs hh).1
  rw [this, hg]
end Go.Proofs.Ytljadkcojnlioaa
namespace Go.Proofs.Ytljadkcojnlioaa
open Go.Proofs Go.W Go.RowKit
set_option linter.unusedVariables false
set_option linter.unusedSimpArgs false
def At (s : ByteArray) : Nat → List Nat → Prop
  | _, [] => True
  | i, b :: l => isB s i b ∧ At s (i + 1) l
theorem At.app {s : ByteArray} : ∀ {a b : List Nat} {i : Nat}, At s i (a ++ b) ↔ At s i a ∧ At s (i + a.length) b
  | [], b, i => by simp [At]
  | x :: a, b, i => by
    show (isB s i x ∧ At s (i + 1) (a ++ b)) ↔ (isB s i x ∧ At s (i + 1) a) ∧ At s (i + (x :: a).length) b
    rw [At.app (a := a), List.length_cons, show i + (a.length + 1) = i + 1 + a.length by omega, and_assoc]
theorem At.get {s : ByteArray} : ∀ {l : List Nat} {i : Nat}, At s i l → ∀ {k : Nat} (hk : k < l.length), isB s (i + k) l[k]
  | x :: l, i, h, 0, hk => h.1
  | x :: l, i, h, k + 1, hk => by
    have := At.get h.2 (k := k) (by simpa using hk)
    rw [show i + (k + 1) = i + 1 + k by omega]
    exact this
theorem At.of {s : ByteArray} : ∀ {l : List Nat} {i : Nat}, (∀ k (hk : k < l.length), isB s (i + k) l[k]) → At s i l
  | [], i, h => trivial
  | x :: l, i, h => ⟨h 0 (by simp), At.of fun k hk => by
    have := h (k + 1) (by simpa using hk)
    rw [show i + (k + 1) = i + 1 + k by omega] at this
    exact this⟩
theorem At.le {s : ByteArray} {l : List Nat} {i : Nat} (h : At s i l) (hl : l ≠ []) : i + l.length ≤ s.size := by
  have h1 : 0 < l.length := List.length_pos_iff.2 hl
  have := (h.get (k := l.length - 1) (by omega)).1
  omega
theorem isB.ne {s : ByteArray} {i a b : Nat} (h : isB s i a) (hab : a ≠ b) : ¬ isB s i b := fun h2 => hab (h.2.symm.trans h2.2)
theorem nx_asc {s : ByteArray} {i : Nat} (hi : i < s.size) (h : sb s i < 128) : nextR s i = (((sb s i : Nat) : Int), 1) := by
  have hr : IsR (sb s i : Nat) := ⟨by omega, by omega, by omega⟩
  have hf : formB (sb s i : Nat) = [sb s i] := by
    unfold formB
    rw [if_pos hr]
    unfold formN
    rw [if_pos (by omega)]
    simp
  have := next_form (s := s) (a := i) hr (by rw [hf]; simp; omega) (fun k hk => by
    have hk0 : k = 0 := by rw [hf] at hk; simp at hk; exact hk
    subst hk0
    simp [hf])
  rw [this, hf]
  rfl
theorem offs_asc {s : ByteArray} (h : ∀ k, k < s.size → sb s k < 128) : ∀ {k : Nat}, k ≤ s.size → offs s k = k
  | 0, _ => rfl
  | k + 1, hk => by
    have h1 := offs_asc h (k := k) (by omega)
    show offs s k + (nextR s (offs s k)).2 = k + 1
    rw [h1, nx_asc (by omega) (h k (by omega))]
theorem utf_asc {s : ByteArray} (h : ∀ k, k < s.size → sb s k < 128) : Utf s s.size := by
  refine ⟨offs_asc h (Nat.le_refl _), fun k hk => ?_⟩
  rw [offs_asc h (by omega), nx_asc hk (h k hk)]
  exact Nat.one_pos
theorem sb_first {s : ByteArray} {i : Nat} (h : i < s.size) : sb (s.extract i s.size) 0 = sb s i := by
  have := sb_from (s := s) (i := i) (k := 0) (by omega)
  simpa using this
theorem rep_no {s : ByteArray} {i : Nat} (h : i < s.size) (h1 : sb s i ≠ 42) (h2 : sb s i ≠ 43) (h3 : sb s i ≠ 63) (h4 : sb s i ≠ 123) : pRep (s.extract i s.size) = (0, 0, 0) := by
  have e := sb_first h
  exact pr_no (by rw [e]; exact h1) (by rw [e]; exact h2) (by rw [e]; exact h3) (by rw [e]; exact h4)
def Plain (c : Nat) : Prop := c < 128 ∧ c ≠ 36 ∧ c ≠ 40 ∧ c ≠ 41 ∧ c ≠ 42 ∧ c ≠ 43 ∧ c ≠ 46 ∧ c ≠ 63 ∧ c ≠ 91 ∧ c ≠ 92 ∧ c ≠ 94 ∧ c ≠ 123 ∧ c ≠ 124
instance (c : Nat) : Decidable (Plain c) := by unfold Plain; infer_instance
section
variable {s : ByteArray} {ex : PS → PX Rx} {f : Nat} {l g : List Rx} {ah : Bool} {st st2 : PS} {e : Int} {c : Nat}
theorem piece_char (h : isB s st.pos c) (hc : Plain c) : pPiece s ex st = .ok ([litP st.now c], pset st (st.pos + 1)) := by
  obtain ⟨h1, h2⟩ := h
  obtain ⟨c1, c2, c3, c4, c5, c6, c7, c8, c9, c10, c11, c12, c13⟩ := hc
  have hn := nx_asc h1 (by omega)
  rw [h2] at hn
  rw [pc_pl (by omega) (by omega) (by omega), pl_lit (by rw [hn]; show ¬ ((c : Nat) : Int) = 46; omega) (by rw [hn]; show ¬ ((c : Nat) : Int) = 94; omega) (by rw [hn]; show ¬ ((c : Nat) : Int) = 36; omega), hn]
theorem alt_piece (h : isB s st.pos c) (hc : c ≠ 41 ∧ c ≠ 42 ∧ c ≠ 43 ∧ c ≠ 63 ∧ c ≠ 123 ∧ c ≠ 124) (hp : pPiece s ex st = .ok (g, st2)) : pAlt s ex (f + 1) l ah st = pAlt s ex f (l ++ g) (decide (0 < g.length)) st2 := by
  obtain ⟨h1, h2⟩ := h
  exact alt_pc (lo := 0) (hi := 0) (by omega) (rep_no h1 (by omega) (by omega) (by omega) (by omega)) hp
theorem alt_pieceE (h : isB s st.pos c) (hc : c ≠ 41 ∧ c ≠ 42 ∧ c ≠ 43 ∧ c ≠ 63 ∧ c ≠ 123 ∧ c ≠ 124) (hp : pPiece s ex st = .error e) : pAlt s ex (f + 1) l ah st = .error e := by
  obtain ⟨h1, h2⟩ := h
  exact alt_pcE (lo := 0) (hi := 0) (by omega) (rep_no h1 (by omega) (by omega) (by omega) (by omega)) hp
theorem alt_char (h : isB s st.pos c) (hc : Plain c) : pAlt s ex (f + 1) l ah st = pAlt s ex f (l ++ [litP st.now c]) true (pset st (st.pos + 1)) := by
  have hc' := hc
  obtain ⟨c1, c2, c3, c4, c5, c6, c7, c8, c9, c10, c11, c12, c13⟩ := hc
  rw [alt_piece h ⟨by omega, by omega, by omega, by omega, by omega, by omega⟩ (piece_char h hc')]
  rfl
theorem open_colon {i : Nat} {fl : Fl} (h : At s i [40, 63, 58]) : pOpen s i fl = ⟨3, emp, fl, false, false, 0⟩ := by
  obtain ⟨h0, h1, h2, -⟩ := h
  unfold pOpen
  rw [if_neg (fun h => h ⟨h0, h1⟩), if_neg (fun h => isB.ne h2 (by decide) h.1), if_neg (isB.ne h2 (by decide)), if_pos h2]
theorem br_open (h : isB s st.pos 40) : pPiece s ex st = pBrk s ex st := pc_br h.2
theorem brk_colon {x : Rx} {p : Nat} {ns : List ByteArray} {fl : Fl} {o : Nat} (h : At s st.pos [40, 63, 58]) (ho : st.opn ≠ 250) (hx : ex ⟨st.pos + 3, st.now, st.opn + 1, st.names⟩ = .ok (x, ⟨p, fl, o + 1, ns⟩)) (hcl : isB s p 41) :
    pPiece s ex st = .ok ([x], ⟨p + 1, st.now, o, ns⟩) := by
  rw [br_open h.1, br_go (open_colon h) (by simp) ho (by simp) (by simp)]
  show (match ex ⟨st.pos + 3, st.now, st.opn + 1, st.names⟩ with | .error e => _ | .ok (x, st2) => _) = _
  rw [hx]
  simp only
  rw [if_pos hcl]
  rfl
theorem brk_colonE (h : At s st.pos [40, 63, 58]) (ho : st.opn ≠ 250) (hx : ex ⟨st.pos + 3, st.now, st.opn + 1, st.names⟩ = .error e) : pPiece s ex st = .error e := by
  rw [br_open h.1, br_go (open_colon h) (by simp) ho (by simp) (by simp)]
  show (match ex ⟨st.pos + 3, st.now, st.opn + 1, st.names⟩ with | .error e => _ | .ok (x, st2) => _) = _
  rw [hx]
theorem brk_deep (h : isB s st.pos 40) (ho : st.opn = 250) (hs : ¬ ((pOpen s st.pos st.now).err = 0 ∧ (pOpen s st.pos st.now).sett = true)) : pPiece s ex st = .error 3 := by
  rw [br_open h, br_deep rfl hs ho]
theorem pExp_ex (s : ByteArray) : ∀ n, ∃ ex, ∀ st, pExp s n st = pExpW s ex st
  | 0 => ⟨_, fun st => rfl⟩
  | n + 1 => ⟨pExp s n, fun st => rfl⟩
theorem expW_one {x : Rx} (h : pAlt s ex (s.size + 1) [] false st = .ok (x, st2)) (h2 : ¬ isB s st2.pos 124) : pExpW s ex st = .ok (x, st2) := by
  rw [exp_go (show pAlt0 s ex st = _ from h), alts_end h2]
  rfl
theorem expW_err (h : pAlt s ex (s.size + 1) [] false st = .error e) : pExpW s ex st = .error e := exp_err (show pAlt0 s ex st = _ from h)
end
end Go.Proofs.Ytljadkcojnlioaa
namespace Go.Proofs.Ytljadkcojnlioaa
open Go.Proofs Go.W Go.RowKit
set_option linter.unusedVariables false
set_option linter.unusedSimpArgs false
abbrev fl0 : Fl := ⟨false, false, false, false⟩
section
variable {s : ByteArray} {ex : PS → PX Rx} {n : Nat}
theorem run_a (hs : s.size = n) (hb : ∀ k, k < n → sb s k = 97) : ∀ (f k : Nat) (l : List Rx) (ah : Bool) (fl : Fl) (o : Nat) (ns : List ByteArray), k ≤ n → n + 1 ≤ f + k → ∃ x, pAlt s ex f l ah ⟨k, fl, o, ns⟩ = .ok (x, ⟨n, fl, o, ns⟩) := by
  intro f
  induction f with
  | zero => intro k l ah fl o ns h1 h2; omega
  | succ f ih =>
    intro k l ah fl o ns h1 h2
    rcases Nat.eq_or_lt_of_le h1 with rfl | h
    · exact ⟨_, alt_end (.inl (by show s.size ≤ k; omega))⟩
    · rw [alt_char (c := 97) (show isB s k 97 from ⟨by omega, hb k h⟩) (by decide)]
      exact ih (k + 1) _ _ fl o ns (by omega) (by omega)
theorem parse_a (hs : s.size = n) (hb : ∀ k, k < n → sb s k = 97) (hn : n ≤ 4096) : ∃ x, pParse s = .ok x := by
  obtain ⟨ex, he⟩ := pExp_ex s 250
  obtain ⟨x, hx⟩ := run_a (ex := ex) hs hb (s.size + 1) 0 [] false fl0 0 [] (Nat.zero_le _) (by omega)
  have h1 : pExp s 250 st0 = .ok (x, ⟨n, fl0, 0, []⟩) := by rw [he]; exact expW_one hx (fun h => by have := h.1; simp at this; omega)
  exact ⟨x, pp_ok (by omega) ⟨_, utf_asc fun k hk => by rw [hb k (by omega)]; decide⟩ h1 (by show ¬ n < s.size; omega)⟩
theorem deep (hs : s.size = 4 * n) (hO : ∀ i, i < n → At s (3 * i) [40, 63, 58]) (hC : ∀ j, j < n → isB s (3 * n + j) 41) (hn : n ≤ 250) : ∀ (m i : Nat), i + m = n → ∃ x, pExp s (250 - i) ⟨3 * i, fl0, i, []⟩ = .ok (x, ⟨3 * n + m, fl0, i, []⟩) := by
  intro m
  induction m with
  | zero =>
    intro i hi
    obtain rfl : i = n := by omega
    obtain ⟨ex, he⟩ := pExp_ex s (250 - i)
    rw [he]
    have hend : s.size ≤ 3 * i ∨ sb s (3 * i) = 41 := by
      rcases Nat.eq_zero_or_pos i with h | h
      · exact .inl (by omega)
      · exact .inr (hC 0 h).2
    have hnb : ¬ isB s (3 * i) 124 := fun h => by have := h.1; have := h.2; omega
    exact ⟨_, expW_one (st := ⟨3 * i, fl0, i, []⟩) (alt_end (by show s.size ≤ 3 * i ∨ sb s (3 * i) = 124 ∨ sb s (3 * i) = 41; omega)) hnb⟩
  | succ m ih =>
    intro i hi
    obtain ⟨x, hx⟩ := ih (i + 1) (by omega)
    obtain ⟨k, hk⟩ : ∃ k, 250 - i = k + 1 := ⟨249 - i, by omega⟩
    rw [show 250 - (i + 1) = k by omega] at hx
    rw [hk]
    show ∃ x, pExpW s (pExp s k) ⟨3 * i, fl0, i, []⟩ = _
    have hend : s.size ≤ 3 * n + (m + 1) ∨ sb s (3 * n + (m + 1)) = 41 := by
      rcases Nat.lt_or_ge (m + 1) n with h | h
      · exact .inr (hC (m + 1) h).2
      · exact .inl (by omega)
    have hp : pPiece s (pExp s k) ⟨3 * i, fl0, i, []⟩ = .ok ([x], ⟨3 * n + m + 1, fl0, i, []⟩) := brk_colon (o := i) (hO i (by omega)) (by show i ≠ 250; omega) hx (hC m (by omega))
    have ha := alt_piece (s := s) (ex := pExp s k) (f := s.size) (l := []) (ah := false) (st := ⟨3 * i, fl0, i, []⟩) (hO i (by omega)).1 (by decide) hp
    rw [alt_end (st := ⟨3 * n + m + 1, fl0, i, []⟩) (by show s.size ≤ 3 * n + m + 1 ∨ sb s (3 * n + m + 1) = 124 ∨ sb s (3 * n + m + 1) = 41; rw [Nat.add_assoc]; omega)] at ha
    exact ⟨_, expW_one ha (fun h => by have h1 := h.1; have h2 := h.2; simp only [Nat.add_assoc] at h1 h2; omega)⟩
theorem parse_deep (hs : s.size = 4 * n) (hO : ∀ i, i < n → At s (3 * i) [40, 63, 58]) (hC : ∀ j, j < n → isB s (3 * n + j) 41) (hA : ∀ k, k < s.size → sb s k < 128) (hn : n ≤ 250) : ∃ x, pParse s = .ok x := by
  obtain ⟨x, hx⟩ := deep hs hO hC hn n 0 (by omega)
  exact ⟨x, pp_ok (by omega) ⟨_, utf_asc hA⟩ hx (by show ¬ 3 * n + n < s.size; omega)⟩
theorem deepE (hO : ∀ i, i < 251 → At s (3 * i) [40, 63, 58]) : ∀ (m i : Nat), i + m = 250 → pExp s m ⟨3 * i, fl0, i, []⟩ = .error 3 := by
  intro m
  induction m with
  | zero =>
    intro i hi
    obtain rfl : i = 250 := by omega
    show pExpW s (fun _ => .error 3) _ = _
    refine expW_err (alt_pieceE (c := 40) (hO 250 (by omega)).1 (by decide) (brk_deep (hO 250 (by omega)).1 rfl ?_))
    rw [show pOpen s (3 * 250) fl0 = _ from open_colon (hO 250 (by omega))]
    simp
  | succ m ih =>
    intro i hi
    show pExpW s (pExp s m) _ = _
    exact expW_err (alt_pieceE (c := 40) (hO i (by omega)).1 (by decide) (brk_colonE (hO i (by omega)) (by show i ≠ 250; omega) (ih (i + 1) (by omega))))
theorem parse_deepE (hs : s.size ≤ 4096) (hO : ∀ i, i < 251 → At s (3 * i) [40, 63, 58]) (hA : ∀ k, k < s.size → sb s k < 128) : pParse s = .error 3 :=
  pp_err (by omega) ⟨_, utf_asc hA⟩ (deepE hO 250 0 (by omega))
theorem grp_piece {i : Nat} {ns : List ByteArray} {k : Nat} (h : At s i [40, 41]) (hl : ns.length ≠ 100) :
    pPiece s (pExp s k) ⟨i, fl0, 0, ns⟩ = .ok ([rxGrp ((ns.length : Int) + 1) emp (rxK 1)], ⟨i + 2, fl0, 0, ns ++ [emp]⟩) := by
  obtain ⟨ex, he⟩ := pExp_ex s k
  rw [br_open h.1, br_go (open_grp (fun h2 => isB.ne h.2.1 (by decide) h2.2)) (by simp) (by simp) (by simp) (fun h2 => h2.2.elim hl (fun h3 => h3.1 rfl))]
  show (match pExp s k ⟨i + 1, fl0, 0 + 1, if true = true then ns ++ [emp] else ns⟩ with | .error e => _ | .ok (x, st2) => _) = _
  rw [if_pos rfl, he, expW_one (alt_end (.inr (.inr h.2.1.2))) (isB.ne h.2.1 (by decide))]
  simp only
  rw [if_pos h.2.1]
  rfl
theorem grp_full {i : Nat} {ns : List ByteArray} {k : Nat} (h : At s i [40, 41]) (hl : ns.length = 100) : pPiece s ex ⟨i, fl0, 0, ns⟩ = .error 85 := by
  rw [br_open h.1, br_full (open_grp (fun h2 => isB.ne h.2.1 (by decide) h2.2)) (by simp) (by simp) (by simp) rfl (.inl hl)]
theorem grps (hs : s.size = 2 * n) (hO : ∀ i, i < n → At s (2 * i) [40, 41]) (hn : n ≤ 100) (k : Nat) : ∀ (f i : Nat) (l : List Rx) (ah : Bool) (ns : List ByteArray), i ≤ n → n + 1 ≤ f + i → ns.length = i → ∃ x ns', pAlt s (pExp s k) f l ah ⟨2 * i, fl0, 0, ns⟩ = .ok (x, ⟨2 * n, fl0, 0, ns'⟩) := by
  intro f
  induction f with
  | zero => intro i l ah ns h1 h2; omega
  | succ f ih =>
    intro i l ah ns h1 h2 h3
    rcases Nat.eq_or_lt_of_le h1 with rfl | h
    · exact ⟨_, _, alt_end (.inl (by show s.size ≤ 2 * i; omega))⟩
    · rw [alt_piece (c := 40) (hO i h).1 (by decide) (grp_piece (hO i h) (by omega))]
      exact ih (i + 1) _ _ _ (by omega) (by omega) (by simp [h3])
theorem parse_grps (hs : s.size = 2 * n) (hO : ∀ i, i < n → At s (2 * i) [40, 41]) (hA : ∀ k, k < s.size → sb s k < 128) (hn : n ≤ 100) : ∃ x, pParse s = .ok x := by
  obtain ⟨x, ns, hx⟩ := grps hs hO hn 249 (s.size + 1) 0 [] false [] (by omega) (by omega) rfl
  have h1 : pExp s 250 st0 = .ok (x, ⟨2 * n, fl0, 0, ns⟩) := expW_one hx (fun h => by have := h.1; simp at this; omega)
  exact ⟨x, pp_ok (by omega) ⟨_, utf_asc hA⟩ h1 (by show ¬ 2 * n < s.size; omega)⟩
theorem grpsE (hO : ∀ i, i < 101 → At s (2 * i) [40, 41]) (k : Nat) : ∀ (f i : Nat) (l : List Rx) (ah : Bool) (ns : List ByteArray), i ≤ 100 → 102 ≤ f + i → ns.length = i → pAlt s (pExp s k) f l ah ⟨2 * i, fl0, 0, ns⟩ = .error 85 := by
  intro f
  induction f with
  | zero => intro i l ah ns h1 h2; omega
  | succ f ih =>
    intro i l ah ns h1 h2 h3
    rcases Nat.eq_or_lt_of_le h1 with rfl | h
    · exact alt_pieceE (c := 40) (hO 100 (by omega)).1 (by decide) (grp_full (k := k) (hO 100 (by omega)) h3)
    · rw [alt_piece (c := 40) (hO i (by omega)).1 (by decide) (grp_piece (hO i (by omega)) (by omega))]
      exact ih (i + 1) _ _ _ (by omega) (by omega) (by simp [h3])
theorem parse_grpsE (hs : s.size ≤ 4096) (hs2 : 101 ≤ s.size) (hO : ∀ i, i < 101 → At s (2 * i) [40, 41]) (hA : ∀ k, k < s.size → sb s k < 128) : pParse s = .error 85 :=
  pp_err (by omega) ⟨_, utf_asc hA⟩ (expW_err (grpsE hO 249 (s.size + 1) 0 [] false [] (by omega) (by omega) rfl))
end
def tA (c : Nat) : ByteArray := bstr [97, 123, 49, 48, 48, c, 125]
theorem parse_g : ∃ x, pParse (tA 48) = .ok x := by
  have hsz : (tA 48).size = 7 := by decide +kernel
  have hA : ∀ k, k < (tA 48).size → sb (tA 48) k < 128 := by rw [hsz]; decide +kernel
  have h0 : isB (tA 48) 0 97 := by decide +kernel
  have hr : pRep ((tA 48).extract 1 (tA 48).size) = (1000, 1000, 6) := by decide +kernel
  have h1 : ∃ x, pAlt (tA 48) (pExp (tA 48) 249) 8 [] false st0 = .ok (x, ⟨7, fl0, 0, []⟩) := by
    rw [alt_char (c := 97) h0 (by decide), alt_rp0 (lo := 1000) (hi := 1000) (nn := 6) (st := pset st0 1) (by decide +kernel) hr (by decide) (by decide) (by decide +kernel)]
    exact ⟨_, alt_end (.inl (by decide +kernel))⟩
  obtain ⟨x, hx⟩ := h1
  have h2 : pExp (tA 48) 250 st0 = .ok (x, ⟨7, fl0, 0, []⟩) := (show pExpW (tA 48) (pExp (tA 48) 249) st0 = _ from expW_one (by rw [hsz]; exact hx) (by decide +kernel))
  exact ⟨x, pp_ok (by omega) ⟨_, utf_asc hA⟩ h2 (by show ¬ 7 < (tA 48).size; omega)⟩
theorem parse_gE : pParse (tA 49) = .error 82 := by
  have hsz : (tA 49).size = 7 := by decide +kernel
  have hA : ∀ k, k < (tA 49).size → sb (tA 49) k < 128 := by rw [hsz]; decide +kernel
  have h0 : isB (tA 49) 0 97 := by decide +kernel
  have hr : pRep ((tA 49).extract 1 (tA 49).size) = (1001, 1001, 6) := by decide +kernel
  have h1 : pAlt (tA 49) (pExp (tA 49) 249) 8 [] false st0 = .error 82 := by
    rw [alt_char (c := 97) h0 (by decide), alt_rpE (lo := 1001) (hi := 1001) (nn := 6) (st := pset st0 1) (by decide +kernel) hr (by decide) (by decide)]
  exact pp_err (by omega) ⟨_, utf_asc hA⟩ (show pExpW (tA 49) (pExp (tA 49) 249) st0 = _ from expW_err (by rw [hsz]; exact h1))
end Go.Proofs.Ytljadkcojnlioaa
namespace Go.W
set_option linter.unusedSimpArgs false
set_option linter.unusedVariables false
section
variable {P : Program} {σ : Env} {w : World} {dst : Option Nat} {T : TypeId} {pos : String} {after : Array Edge} {g : Option (Nat × Bool)}
theorem run_loadCells1 {b o : Nat} {vs : List Value} (h : ∀ j v, vs[j]? = some v → w.cell? ⟨b, o + j, none⟩ = some v) : (loadCells ⟨b, o, none⟩ vs.length).run P w = .ok vs.toArray w := by
  have := run_loadCellsFrom (P := P) (w := w) b o vs.length 0 #[] vs rfl (fun j v hj => by rw [Nat.zero_add]; exact h j v hj)
  simpa [loadCells] using this
def ncells (l : List Nat) : List Value := l.map fun c => Value.int .u8 (c : Nat)
theorem run_pushBytes : ∀ (l : List Nat) (s : ByteArray), l.foldl (fun r (n : Nat) => r.push (UInt8.ofNat ((n : Int)).toNat)) s = s ++ bstr l
  | [], s => by
    show s = s ++ ⟨#[]⟩
    apply ByteArray.ext; simp
  | c :: l, s => by
    rw [List.foldl_cons, run_pushBytes l]
    apply ByteArray.ext
    simp [bstr, ByteArray.data_push]
theorem ex_bytesStr {x : Operand} {t t' e : TypeId} {a : Option Addr} {n c : Nat} {l : List Nat} {ob : Option Nat} (hx : σ.ev x = some (.slice a n c)) (hs : P.underlying t = some (.slice e)) (he : P.underlying e = some (.int .u8)) (hd : P.underlying t' = some .string)
    (hO : ∃ ty, OwnS w ty 1 a n c (ncells l) ob) : Ex P σ ⟨dst, .convert t t' x, T, pos, after, g⟩ w (.string (bstr l)) w := fun ρ h => by
  obtain ⟨ty, hO⟩ := hO
  have hn : n = l.length := by have := hO.length; simp [ncells] at this; omega
  have h1 := run_convert_bytes_string (P := P) w t t' e a n c hs he hd
  have h2 : (Conv.bytesToString (.slice a n c)).run P w = .ok (.string (bstr l)) w := by
    rcases Nat.eq_zero_or_pos n with h0 | h0
    · have hl : l = [] := List.eq_nil_of_length_eq_zero (by omega)
      subst hl
      cases a with
      | none => rfl
      | some a =>
        have h3 := run_bytesToString (P := P) w a n c [] (by rw [h0]; simp [loadCells, loadCellsFrom])
        rw [h3]; rfl
    · obtain ⟨b, hb, ha, hc⟩ := hO.cells h0
      subst ha
      have h3 : (loadCells ⟨b, 0, none⟩ n).run P w = .ok ((l.map fun (c : Nat) => (c : Int)).map (Value.int .u8)).toArray w := by
        have h4 : ncells l = (l.map fun (c : Nat) => (c : Int)).map (Value.int .u8) := by simp [ncells, Function.comp_def]
        rw [← h4]
        have := run_loadCells1 (P := P) (w := w) (b := b) (o := 0) (vs := ncells l) (fun j v hj => hc j v hj)
        rw [show (ncells l).length = n by simp [ncells, hn]] at this
        exact this
      rw [run_bytesToString (P := P) w _ n c _ h3, List.foldl_map, run_pushBytes]
      congr 2
  simp only [execOp, h x _ hx, Sem.run_bind, h1, h2, Result.andThen_ok, Sem.run_pure]
end
theorem byteCells_bstr {l : List Nat} (h : ∀ b, b ∈ l → b < 256) : Lib.byteCells (bstr l).data.toList = ncells l := by
  simp only [Lib.byteCells, bstr, ncells, List.map_map]
  refine List.map_congr_left fun b hb => ?_
  have := h b hb
  simp [Nat.mod_eq_of_lt this]
theorem Src.strB {P : Program} {w : World} (s : ByteArray) : Src P w 1 (.string s) s.size (Lib.byteCells s.data.toList) :=
  ⟨fun _ => by simp [Builtin.lenOf], fun w2 _ => Lib.run_firstCells_string (P := P) (w := w2) 1 s, by rw [Lib.byteCells_length, Nat.mul_one]; rfl, fun u hu => by simp only [Lib.byteCells, List.mem_map] at hu; obtain ⟨b, _, rfl⟩ := hu; rfl⟩
theorem Src.bstr {P : Program} {w : World} {l : List Nat} (h : ∀ b, b ∈ l → b < 256) : Src P w 1 (.string (bstr l)) l.length (ncells l) := by
  have hsz : (Go.W.bstr l).size = l.length := by simp [Go.W.bstr, ByteArray.size]
  have h1 := Src.strB (P := P) (w := w) (Go.W.bstr l)
  rw [byteCells_bstr h, hsz] at h1
  exact h1
end Go.W
namespace Go.Proofs.Ytljadkcojnlioaa
open Go.Proofs
open Go.W Go.RowKit
attribute [local irreducible] Decidable.decide
set_option linter.unusedSimpArgs false
set_option linter.unusedVariables false
theorem Try.app44_9 : appB Try.prog 44 9 = some (5, 1, 1) := by kernel_rfl
def repN : Nat → List Nat → List Nat
  | 0, _ => []
  | k + 1, l => repN k l ++ l
theorem repN_len (l : List Nat) : ∀ k, (repN k l).length = k * l.length
  | 0 => by simp [repN]
  | k + 1 => by rw [repN, List.length_append, repN_len l k, Nat.succ_mul]
theorem ncells_app (a b : List Nat) : ncells (a ++ b) = ncells a ++ ncells b := by simp [ncells]
structure TmI (w wr : World) (l : List Nat) (k : Nat) (n : Nat) (a : Option Addr) (c : Nat) (ob : Option Nat) : Prop where
  hn : n = k * l.length
  own : OwnS wr 5 1 a n c (ncells (repN k l)) ob
  ge : Ge w ob
structure TmG where
  k : Nat
  n : Nat
  a : Option Addr
  c : Nat
  ob : Option Nat
theorem times_ok {w : World} (s : ByteArray) (l : List Nat) (hs : s = bstr l) (hl : ∀ b, b ∈ l → b < 256) (N : Nat) (hN : N ≤ 10000) (hll : l.length ≤ 100) :
    Calls Try.prog 5 #[.string s, .int .i64 (N : Nat)] w (Ret fun v w' => v = .string (bstr (repN N l)) ∧ Evo [] w w') := by
  have hsz : s.size = l.length := by rw [hs]; simp [bstr, ByteArray.size]
  have hb0 : N * l.length ≤ 1000000 := Nat.le_trans (Nat.mul_le_mul hN hll) (by decide)
  have hc0 : (N : Int) * (s.size : Int) = ((N * l.length : Nat) : Int) := by rw [hsz]; simp
  refine calls_of_cw (N := 22) Try.func5 rfl rfl rfl ?_; refine cw_seq ?_; refine cw_region ?_; refine wl_a ?_; refine wl_nil (nrm_then ?_); refine cw_seq ?_; refine cw_region ?_; refine wl_m ?_; refine wl_m ?_; refine wl_val rfl (ex_len_str rfl Try.underlying9 rfl) ?_
  refine wl_val rfl (ex_mul_i64 rfl rfl (by rw [hc0]; omega) (by rw [hc0]; omega)) ?_
  refine wl_make (len := 0) (c := N * l.length) rfl rfl rfl Try.make44 (by rfl) (by rw [hc0]) (by omega) (by decide) (by omega) (by omega) fun b0 w2 hO0 hs4 hw5 => ?_; have hG6 := Ge.new (Evo.refl [] w) hs4; have hE7 := (Evo.refl [] w).then hw5; refine wl_a ?_; refine wl_nil (nrm_then ?_); refine cw_seq ?_; refine cw_seq ?_; refine cw_region ?_; refine wl_a ?_; refine wl_nil (nrm_then ?_); refine cw_block ?_; refine cw_loop (α := TmG) (⟨0, 0, some ⟨b0, 0, none⟩, N * l.length, some b0⟩) (fun x => [(5, .slice x.a x.n x.c), (6, .int .i64 (x.k : Nat))]) [(0, _), (1, _), (4, _)] (fun x wr => Evo [] w wr ∧ (x.k ≤ N ∧ TmI w wr l x.k x.n x.a x.c x.ob)) (fun x => N - x.k) ⟨rfl, rfl, trivial⟩ ⟨rfl, rfl, rfl, trivial⟩ ⟨hE7, ⟨Nat.zero_le _, by simp, by simpa [repN, ncells, zeros] using hO0, hG6⟩⟩ ?_; rintro ⟨k, n, a, c, ob⟩ wr8 ⟨hV9, ⟨hkN, hn, hown, hge⟩⟩; show CW _ _ _ _ [(5, .slice a n c), (6, .int .i64 (k : Nat)), (0, _), (1, _), (4, _)] _
  try dsimp only at hkN
  try dsimp only at hn
  try dsimp only at hown
  try dsimp only at hge
  refine cw_seq ?_; refine cw_seq ?_; refine cw_region ?_; refine wl_m ?_; refine wl_m ?_; refine wl_val rfl (ex_lss rfl rfl) ?_; refine wl_nil (nrm_then ?_); refine cw_if rfl (fun hc14 => ?_) (fun hc14 => ?_)
  ·skip
   have hk2 : k * l.length + l.length ≤ N * l.length := by rw [← Nat.succ_mul]; exact Nat.mul_le_mul_right _ (by omega)
   refine cw_skip (nrm_then ?_); refine cw_seq ?_; refine cw_block ?_; refine cw_region ?_; refine wl_m ?_; refine wl_m ?_
   refine wl_append rfl rfl rfl rfl Try.app44_9 hown (by rw [hs]; exact Src.bstr hl) (by omega) fun a2 c2 w12 ob2 hO2 hw15 hob16 => ?_
   have hG17 := hge.app hV9 hob16; have hE18 := hV9.step hw15 hge.mem; refine wl_a ?_; refine wl_nil (nrm_block (nrm_then ?_)); refine cw_region ?_; refine wl_m ?_; refine wl_val rfl (ex_add_i64 rfl rfl (by omega) (by omega)) ?_; refine wl_a ?_; refine wl_nil (nrm_same ?_); refine ⟨⟨k + 1, n + l.length, a2, c2, ob2⟩, ?_, ⟨rfl, rfl, trivial⟩, ⟨rfl, rfl, rfl, trivial⟩, hE18, ?_⟩
   · (try dsimp only); omega
   ·skip
    try dsimp only
    refine ⟨by omega, by rw [hn, Nat.succ_mul], ?_, hG17⟩
    rw [repN, ncells_app]; exact hO2
  ·skip
   refine cw_exit (ex_then (ex_then (ex_here (nrm_then ?_)))); refine cw_seq ?_; refine cw_region ?_; refine wl_m ?_; refine wl_val rfl (ex_bytesStr (l := repN k l) (ob := ob) rfl Try.underlying44 Try.underlying5 Try.underlying9 ⟨_, hown⟩) ?_; refine wl_a ?_; refine wl_nil (nrm_then ?_); refine cw_ret (body_ret1 rfl rfl ?_)
   obtain rfl : k = N := by omega
   exact ⟨rfl, hV9⟩
end Go.Proofs.Ytljadkcojnlioaa
namespace Go.Proofs.Ytljadkcojnlioaa
open Go.Proofs
open Go.W Go.RowKit
attribute [local irreducible] Decidable.decide
set_option linter.unusedSimpArgs false
set_option linter.unusedVariables false
theorem Try.fld47_0 : fieldB Try.prog 47 0 = some 0 := by kernel_rfl
theorem Try.goes11 : Goes Try.prog 11 := ⟨_, Try.func11, by kernel_rfl, by kernel_rfl⟩
theorem Try.goes16 : Goes Try.prog 16 := ⟨_, Try.func16, by kernel_rfl, by kernel_rfl⟩
theorem Try.goes17 : Goes Try.prog 17 := ⟨_, Try.func17, by kernel_rfl, by kernel_rfl⟩
def StOk (st : St) : Prop := st.2.length ≤ st.1 ∧ st.1 ≤ 8194
theorem RRx.get {n : Nat} {X : List Nat} {w : World} {vs : List Value} {x : Rx} (h : RRx n X w vs x) : ∃ m ra rc ka kc, n = m + 1 ∧ vs = [iv x.kind, .int .i32 x.r, .slice ra x.ranges.length rc, iv x.min, iv x.max, .bool x.lazy, iv x.cap, .string x.name, .slice ka x.kids.length kc] ∧
    RSl 2 RRg X w (.slice ra x.ranges.length rc) x.ranges ∧ RSl 9 (RRx m) X w (.slice ka x.kids.length kc) x.kids ∧ x.ranges.length ≤ 140737488351232 ∧ x.name.size ≤ 140737488351232 ∧ x.kids.length ≤ 140737488351232 := by
  cases n with
  | zero => exact h.elim
  | succ n =>
    obtain ⟨vr, vk, h1, ⟨ra, rc, rfl, h2⟩, ⟨ka, kc, rfl, h3⟩, h4⟩ := h
    exact ⟨n, ra, rc, ka, kc, rfl, h1, ⟨ra, rc, rfl, h2⟩, ⟨ka, kc, rfl, h3⟩, h4⟩
set_option maxHeartbeats 4000000 in
theorem fine_step {n : Nat} (ih : ∀ (w : World) (jb : Nat) (st : St) (a : Option Addr) (c : Nat) (ob : Option Nat) (vs : List Value) (t : Rx) (b : Int), JAt w 47 jb st a c ob → RRx n (jb :: ob.toList) w vs t → StOk st → 0 ≤ b → b ≤ 251 →
      Calls Try.prog 11 #[.pointer (some ⟨jb, 0, none⟩), .agg vs.toArray, .int .i64 b] w (Ret fun v w' => ∃ r, v = .bool r ∧ r = (t.fine b st).isSome ∧ Evo (jb :: ob.toList) w w' ∧ ∀ st', t.fine b st = some st' → StOk st' ∧ ∃ a' c' ob', JAt w' 47 jb st' a' c' ob' ∧ ∀ g, ob' = some g → g ∈ ob.toList ∨ w.heap.size ≤ g))
    {w : World} {jb : Nat} {st : St} {a : Option Addr} {c : Nat} {ob : Option Nat} {vs : List Value} {t : Rx} {b : Int} (hJ : JAt w 47 jb st a c ob) (hx : RRx (n + 1) (jb :: ob.toList) w vs t) (hst : StOk st) (hb0 : 0 ≤ b) (hb1 : b ≤ 251) :
      Calls Try.prog 11 #[.pointer (some ⟨jb, 0, none⟩), .agg vs.toArray, .int .i64 b] w (Ret fun v w' => ∃ r, v = .bool r ∧ r = (t.fine b st).isSome ∧ Evo (jb :: ob.toList) w w' ∧ ∀ st', t.fine b st = some st' → StOk st' ∧ ∃ a' c' ob', JAt w' 47 jb st' a' c' ob' ∧ ∀ g, ob' = some g → g ∈ ob.toList ∨ w.heap.size ≤ g) := by
  obtain ⟨hB, hO, hne⟩ := hJ
  have hAJN : Apart (some jb) ob := fun g h1 h2 => by cases h1; exact hne jb h2 rfl
  have hlt := blk_lt hB; have hst1 := hst.1; have hst2 := hst.2
  have hXlt : ∀ y, y ∈ jb :: ob.toList → y < w.heap.size := fun y hy => by
    rcases List.mem_cons.1 hy with h | h
    · rw [h]; exact hlt
    · have : ob = some y := by simpa using h
      subst this; exact hO.lt
  have hx0 := hx; obtain ⟨m, ra, rc, ka, kc, hm, rfl, hrg, hk, bl1, bl2, bl3⟩ := hx.get
  obtain rfl : m = n := by omega
  obtain ⟨_, _, hke, hkc, e1⟩ := hk; cases hke; refine calls_of_cw (N := 57) Try.func11 rfl rfl rfl ?_; refine cw_seq ?_; refine cw_region ?_; refine wl_boxA rfl rfl fun b4 w1 hB2 hs3 hw4 => ?_; have hsz_b4 := hs3; have hA5 := Apart.new (Lt.blk hB) hs3; have hA6 := Apart.new (Lt.own hO) hs3; have hG7 := Ge.new (Evo.refl (jb :: ob.toList) w) hs3; have hE8 := (Evo.refl (jb :: ob.toList) w).then hw4; have hB9 := hw4.blk0 hB; have hO10 := hO.evo0 hw4; refine wl_a ?_; refine wl_nil (nrm_then ?_); refine cw_seq ?_; refine cw_region ?_; refine wl_m ?_; refine wl_val rfl (ex_nilCheck rfl) ?_; refine wl_val rfl (ex_fieldAddr rfl Try.fld47_0) ?_; refine wl_val rfl (ex_load1 rfl Try.agg3 (cell_nth hB9 rfl)) ?_; refine wl_val rfl (ex_add_i64 rfl rfl (by omega) (by omega)) ?_; refine wl_val rfl (ex_nilCheck rfl) ?_; refine wl_val rfl (ex_fieldAddr rfl Try.fld47_0) ?_; refine wl_store1 rfl rfl (by first | rfl | assumption) Try.size3 hB9 rfl fun w11 hB12 hw13 => ?_
  have hE14 := hE8.step hw13 (fun y hy => .inl (by rw [List.mem_singleton.1 hy]; exact List.mem_cons_self ..))
  have hO15 := hO10.evo hw13 hAJN.symm.own1; have hB16 := hw13.blk hB2 hA5.symm.nmem1
  try simp only [List.setIfInBounds_toArray, List.set_cons_zero, List.set_cons_succ, Nat.reduceAdd, Nat.zero_add, Nat.add_zero] at hB12
  refine wl_nil (nrm_then ?_); refine cw_seq ?_; refine cw_cut (α := Int) (fun z => [(2, .int .i64 z)]) [(0, _), (4, _), (6, _)] (fun z wr => Evo [] w11 wr ∧ (z = if t.kind = 7 then b + 1 else b)) ⟨rfl, rfl, rfl, trivial⟩ ?_ ?_
  ·skip
   refine cw_seq ?_; refine cw_region ?_; refine wl_val rfl (ex_fieldAddr rfl Try.fld25_0) ?_; refine wl_val rfl (ex_load1 rfl Try.agg3 (cell_nth hB16 rfl)) ?_; refine wl_val rfl (ex_eql rfl rfl) ?_; refine wl_nil (nrm_then ?_); refine cw_if rfl (fun hc19 => ?_) (fun hc19 => ?_)
   ·skip
    refine cw_region ?_; refine wl_m ?_; refine wl_val rfl (ex_add_i64 rfl rfl (by omega) (by omega)) ?_; refine wl_a ?_; refine wl_nil (nrm_same ?_); refine ⟨(b + 1), ⟨rfl, trivial⟩, ⟨rfl, rfl, rfl, trivial⟩, (Evo.refl [] w11), ?_⟩; rw [if_pos (by assumption)]
   ·skip
    refine cw_skip (nrm_same ?_); refine ⟨b, ⟨rfl, trivial⟩, ⟨rfl, rfl, rfl, trivial⟩, (Evo.refl [] w11), ?_⟩; rw [if_neg (by assumption)]
  ·skip
   rintro z w17 ⟨hV18, hz⟩; refine nrm_then ?_; show CW _ _ _ _ [(2, _), (0, _), (4, _), (6, _)] _; have hE19 := hE14.then hV18; have hB20 := hV18.blk0 hB12; have hO21 := hO15.evo0 hV18; have hB22 := hV18.blk0 hB16; refine cw_seq ?_; refine cw_seq ?_; refine cw_region ?_; refine wl_m ?_; refine wl_val rfl (ex_nilCheck rfl) ?_; refine wl_val rfl (ex_fieldAddr rfl Try.fld47_0) ?_; refine wl_val rfl (ex_load1 rfl Try.agg3 (cell_nth hB20 rfl)) ?_; refine wl_val rfl (ex_gtr rfl rfl) ?_; refine wl_m ?_; refine wl_split (t := 27) rfl (fun hs27 => ?_) (fun hs27 => ?_)
   ·skip
    refine wl_n ?_; refine wl_n ?_; refine wl_pt ?_; refine wl_m ?_; refine wl_n ?_; refine wl_n ?_; have hlt4 := Lt.blk hB22; have hszc := (hE19).size; refine wl_n ?_; refine wl_n ?_; refine wl_pt ?_; refine wl_nil (nrm_then ?_); refine cw_true rfl ?_; refine cw_seq ?_; refine cw_region ?_; refine wl_a ?_; refine wl_nil (nrm_then ?_); refine cw_ret (ret_then (body_ret1 rfl rfl ?_))
    have hno := fine_no (x := t) (b := b) (st := st) (fun h => by have := h.1; omega)
    exact ⟨false, rfl, by rw [hno]; rfl, hE19, fun st' h => by rw [hno] at h; cases h⟩
   ·skip
    refine wl_g ?_; refine wl_m ?_; refine wl_g ?_; refine wl_val rfl (ex_gtr rfl rfl) ?_; refine wl_pf ?_; refine wl_m ?_; refine wl_split (t := 31) rfl (fun hs31 => ?_) (fun hs31 => ?_)
    ·skip
     refine wl_n ?_; refine wl_n ?_; have hlt4 := Lt.blk hB22; have hszc := (hE19).size; refine wl_n ?_; refine wl_n ?_; refine wl_pt ?_; refine wl_nil (nrm_then ?_); refine cw_true rfl ?_; refine cw_seq ?_; refine cw_region ?_; refine wl_a ?_; refine wl_nil (nrm_then ?_); refine cw_ret (ret_then (body_ret1 rfl rfl ?_))
     have hno := fine_no (x := t) (b := b) (st := st) (fun h => by have := h.2.1; rw [← hz] at this; omega)
     exact ⟨false, rfl, by rw [hno]; rfl, hE19, fun st' h => by rw [hno] at h; cases h⟩
    ·skip
     refine wl_g ?_; refine wl_m ?_; refine wl_g ?_; refine wl_val rfl (ex_loadBlk rfl Try.agg25 Try.size25 hB22 rfl) ?_; have hlt4 := Lt.blk hB22; have hszc := (hE19).size; refine wl_g ?_
     refine wl_call1 (vs := [_, _]) Try.goes16 rfl (fields_ok (st := (st.1 + 1, st.2)) ⟨hB20, hO21, hne⟩ (RRx.pers _ _ _ _ _ _ hE19 hx0) (by simp only; omega)) rfl ?_
     rintro _ w23 ⟨fb, rfl, hfb, hw24, hfs⟩; have hE25 := hE19.step hw24 (fun y hy => .inl hy); have hB26 := hw24.blk hB22 (nmem2 hA5.symm hA6.symm); refine wl_g ?_; refine wl_val rfl (ex_notb rfl) ?_; refine wl_pf ?_; refine wl_nil (nrm_then ?_); refine cw_ifb rfl (fun hc36 => ?_) (fun hc36 => ?_)
     ·skip
      refine cw_seq ?_; refine cw_region ?_; refine wl_a ?_; refine wl_nil (nrm_then ?_); refine cw_ret (ret_then (body_ret1 rfl rfl ?_))
      have hno := fine_no (x := t) (b := b) (st := st) (fun h => by have := hfb.2 ⟨h.2.2.1, h.2.2.2⟩; rw [this] at hc36; cases hc36)
      exact ⟨false, rfl, by rw [hno]; rfl, hE25, fun st' h => by rw [hno] at h; cases h⟩
     ·skip
      obtain ⟨a2, c2, ob2, hJ2, hob2⟩ := hfs (by simpa using hc36); have hfb2 := hfb.1 (by simpa using hc36); have hA4 := ap_ob hA6.symm hlt4 hob2
      have hfin0 := fine_yes (x := t) (b := b) (st := st) ⟨by omega, by rw [← hz]; omega, hfb2.1, hfb2.2⟩
      have hst9 : StOk (st.1 + 1, if t.kind = 7 then st.2 ++ [t.name] else st.2) := ⟨by show (if t.kind = 7 then st.2 ++ [t.name] else st.2).length ≤ st.1 + 1; split; (rw [List.length_append]; simp; omega); omega, by show st.1 + 1 ≤ 8194; omega⟩
      have hg9 : ∀ g, ob2 = some g → g ∈ ob.toList ∨ w.heap.size ≤ g := fun g hg => by rcases hob2 with h | ⟨g', h1, h2⟩; left; rw [← h, hg]; simp; right; rw [hg] at h1; cases h1; exact Nat.le_trans hszc h2
      refine cw_skip (nrm_then ?_); refine cw_seq ?_; refine cw_seq ?_; refine cw_region ?_; refine wl_val rfl (ex_fieldAddr rfl Try.fld25_8) ?_; refine wl_val rfl (ex_load1 rfl Try.agg23 (cell_nth hB26 rfl)) ?_; refine wl_val rfl (ex_len_slice rfl Try.underlying23 rfl) ?_; refine wl_m ?_; refine wl_nil (nrm_then ?_); refine cw_block ?_
      refine cw_loop (α := Nat × St × Option Addr × Nat × Option Nat) ((0, (st.1 + 1, if t.kind = 7 then st.2 ++ [t.name] else st.2), a2, c2, ob2)) (fun x => [(40, .int .i64 (x.1 : Nat))]) [(0, _), (2, _), (4, _), (38, _), (39, _)] (fun x wr => Evo (jb :: ob.toList) w wr ∧ (x.1 ≤ t.kids.length ∧ StOk x.2.1 ∧ JAt wr 47 jb x.2.1 x.2.2.1 x.2.2.2.1 x.2.2.2.2 ∧ t.fine b st = fineKids (t.kids.drop x.1) t.kind z x.2.1 ∧ (∀ g, x.2.2.2.2 = some g → g ∈ ob.toList ∨ w.heap.size ≤ g) ∧ wr.heap[b4]? = some (.cells #[iv t.kind, .int .i32 t.r, .slice ra t.ranges.length rc, iv t.min, iv t.max, .bool t.lazy, iv t.cap, .string t.name, .slice ka t.kids.length kc] 25 (0, 0)) ∧ b4 ∉ jb :: x.2.2.2.2.toList)) (fun x => t.kids.length - x.1) ⟨rfl, trivial⟩ ⟨rfl, rfl, rfl, rfl, rfl, trivial⟩ ⟨hE25, ⟨Nat.zero_le _, hst9, ⟨hJ2.blk, hJ2.own, hJ2.ne⟩, by rw [hfin0, ← hz]; rfl, hg9, hB26, nmem2 hA5.symm hA4⟩⟩ ?_
      rintro ⟨j, s, a', c', o'⟩ wr27 ⟨hV28, ⟨hj, hsok, ⟨hB', hO', hne'⟩, hfin, hgo, hB4, hb4o⟩⟩; show CW _ _ _ _ [(40, .int .i64 (j : Nat)), (0, _), (2, _), (4, _), (38, _), (39, _)] _
      try dsimp only at hj
      try dsimp only at hsok
      try dsimp only at hB'
      try dsimp only at hO'
      try dsimp only at hne'
      try dsimp only at hfin
      try dsimp only at hgo
      try dsimp only at hB4
      try dsimp only at hb4o
      have hAJN' : Apart (some jb) o' := fun g h1 h2 => by cases h1; exact hne' jb h2 rfl
      have hA4J : Apart (some b4) (some jb) := fun g h1 h2 => by cases h1; cases h2; exact hb4o (by simp)
      have hA4N : Apart (some b4) o' := fun g h1 h2 => by cases h1; exact hb4o (by simp [h2])
      have hyo : ∀ y, y ∈ jb :: o'.toList → y ∈ jb :: ob.toList ∨ w.heap.size ≤ y := fun y hy => by rcases List.mem_cons.1 hy with h | h; left; rw [h]; simp; rcases hgo y (by simpa using h) with h1 | h1; left; exact List.mem_cons_of_mem _ h1; exact .inr h1
      skip
      refine cw_seq ?_; refine cw_region ?_; refine wl_val rfl (ex_lss rfl rfl) ?_; refine wl_nil (nrm_then ?_); refine cw_seq ?_; refine cw_if rfl (fun hc41 => ?_) (fun hc41 => ?_)
      ·skip
       have hj' : j < t.kids.length := by omega
       obtain ⟨b1, o1, vs1, ha1, hb1, hvl1, hc1, hrk⟩ := e1 j hj'; obtain ⟨m1, ra1, rc1, ka1, kc1, rfl, rfl, -⟩ := id hrk.get; refine cw_skip (nrm_then ?_); refine cw_seq ?_; refine cw_block ?_; refine cw_seq ?_; refine cw_region ?_
       refine wl_val rfl (ex_indexAddr (n := j) (by rw [ha1]; rfl) rfl Try.elem23 (by omega)) ?_
       refine wl_val rfl (ex_loadA rfl Try.agg25 Try.size25 (vs := [_, _, _, _, _, _, _, _, _]) rfl (hc1.evo hV28 hb1)) ?_; refine wl_alloc rfl Try.zero25 fun b8 w29 hB30 hs31 hw32 => ?_; have hsz_b8 := hs31; have hA33 := Apart.new (Lt.blk hB') hs31; have hA34 := Apart.new (Lt.own hO') hs31; have hA35 := Apart.new (Lt.blk hB4) hs31; have hG36 := Ge.new hV28 hs31; have hE37 := hV28.then hw32; have hB38 := hw32.blk0 hB'; have hO39 := hO'.evo0 hw32; have hB40 := hw32.blk0 hB4; refine wl_storeBlk rfl rfl Try.size25 hB30 rfl rfl ⟨by first | rfl | assumption, by first | rfl | assumption, by first | rfl | assumption, by first | rfl | assumption, by first | rfl | assumption, by first | rfl | assumption, by first | rfl | assumption, by first | rfl | assumption, by first | rfl | assumption, trivial⟩ fun w41 hB42 hw43 => ?_; have hE44 := hE37.step hw43 hG36.mem1; have hB45 := hw43.blk hB38 hA33.nmem1; have hO46 := hO39.evo hw43 hA34.own1; have hB47 := hw43.blk hB40 hA35.nmem1
       try simp only [List.setIfInBounds_toArray, List.set_cons_zero, List.set_cons_succ, Nat.reduceAdd, Nat.zero_add, Nat.add_zero] at hB42
       refine wl_nil (nrm_then ?_); refine cw_seq ?_; refine cw_region ?_; refine wl_a ?_; refine wl_nil (nrm_then ?_); refine cw_seq ?_; refine cw_seq ?_; refine cw_region ?_; refine wl_val rfl (ex_fieldAddr rfl Try.fld25_0) ?_; refine wl_val rfl (ex_load1 rfl Try.agg3 (cell_nth hB42 rfl)) ?_; refine wl_val rfl (ex_fieldAddr rfl Try.fld25_0) ?_; refine wl_val rfl (ex_load1 rfl Try.agg3 (cell_nth hB47 rfl)) ?_; refine wl_call1 (vs := [_, _]) Try.goes17 rfl (bracketed_ok t.kids[j].kind t.kind) rfl ?_; rintro _ w48 ⟨rfl, hw49⟩; have hE50 := hE44.then hw49; have hB51 := hw49.blk0 hB45; have hO52 := hO46.evo0 hw49; have hB53 := hw49.blk0 hB47; have hB54 := hw49.blk0 hB42; refine wl_nil (nrm_then ?_); refine cw_if rfl (fun hc48 => ?_) (fun hc48 => ?_)
       ·skip
        refine cw_region ?_; refine wl_a ?_; refine wl_nil (nrm_then ?_); refine cw_seq ?_; refine cw_region ?_; refine wl_m ?_; refine wl_val rfl (ex_loadBlk rfl Try.agg25 Try.size25 hB54 rfl) ?_; refine wl_m ?_; refine wl_m ?_; refine wl_val rfl (ex_add_i64 rfl rfl (by omega) (by omega)) ?_; have hsz54 := (hE50).size; have hlb4 := blk_lt hB53; refine wl_call1 (vs := [_, _, _]) Try.goes11 rfl (ih _ jb s a' c' o' _ t.kids[j] _ ⟨hB51, hO52, hne'⟩ (RRx.step hrk hE50 hyo hXlt) hsok (by omega) (by omega)) rfl ?_; rintro _ w55 ⟨r, rfl, hr, hw56, hs2⟩; have hE57 := hE50.step hw56 (hyo); have hB58 := hw56.blk hB53 (hb4o); have hB59 := hw56.blk hB54 (nmem2 hA33.symm hA34.symm); refine wl_val rfl (ex_notb rfl) ?_; refine wl_nil (nrm_then ?_); refine cw_ifb rfl (fun hc55 => ?_) (fun hc55 => ?_)
        ·skip
         refine cw_seq ?_; refine cw_region ?_; refine wl_a ?_; refine wl_nil (nrm_then ?_); refine cw_ret (ret_block (ret_then (ret_then (ret_block (ret_then (body_ret1 rfl rfl ?_)))))); rw [show (z + 1 : Int) = z + (if Brk t.kids[j].kind t.kind then 1 else 0) from by rw [if_pos hc48]] at hr hs2
         have hn : t.kids[j].fine (z + if Brk t.kids[j].kind t.kind then 1 else 0) s = none := by
           cases h : t.kids[j].fine (z + if Brk t.kids[j].kind t.kind then 1 else 0) s with
           | none => rfl
           | some s3 => rw [h] at hr; simp at hr; rw [hr] at hc55; cases hc55
         have hno : t.fine b st = none := by rw [hfin, fineKids_at hj', hn]
         exact ⟨false, rfl, by rw [hno]; rfl, hE57, fun st' h => by rw [hno] at h; cases h⟩
        ·skip
         rw [show (z + 1 : Int) = z + (if Brk t.kids[j].kind t.kind then 1 else 0) from by rw [if_pos hc48]] at hr hs2
         obtain ⟨s3, hs3⟩ := Option.isSome_iff_exists.1 (show (t.kids[j].fine _ s).isSome = true by rw [← hr]; simpa using hc55)
         obtain ⟨hsok3, a3, c3, o3, hJ3, ho3⟩ := hs2 s3 hs3
         have hg3 : ∀ g, o3 = some g → g ∈ ob.toList ∨ w.heap.size ≤ g := fun g hg => by rcases ho3 g hg with h | h; exact hgo g (by simpa using h); exact .inr (Nat.le_trans hsz54 h)
         have hb43 : b4 ∉ jb :: o3.toList := fun hm => by rcases List.mem_cons.1 hm with h | h; exact hb4o (by rw [h]; simp); rcases ho3 b4 (by simpa using h) with h1 | h1; exact hb4o (List.mem_cons_of_mem _ h1); omega
         refine cw_skip (nrm_block (nrm_then ?_)); refine cw_region ?_; refine wl_val rfl (ex_add_i64 rfl rfl (by omega) (by omega)) ?_; refine wl_m ?_; refine wl_nil (nrm_same ?_); refine ⟨(j + 1, s3, a3, c3, o3), ?_, ⟨rfl, trivial⟩, ⟨rfl, rfl, rfl, rfl, rfl, trivial⟩, hE57, ?_⟩
         · (try dsimp only); omega
         ·skip
          try dsimp only
          refine ⟨by omega, hsok3, ⟨hJ3.blk, hJ3.own, hJ3.ne⟩, ?_, hg3, hB58, hb43⟩; rw [hfin, fineKids_at hj', hs3]
       ·skip
        refine cw_skip (nrm_then ?_); refine cw_seq ?_; refine cw_region ?_; refine wl_m ?_; refine wl_val rfl (ex_loadBlk rfl Try.agg25 Try.size25 hB54 rfl) ?_; refine wl_m ?_; refine wl_m ?_; refine wl_val rfl (ex_add_i64 rfl rfl (by omega) (by omega)) ?_; have hsz54 := (hE50).size; have hlb4 := blk_lt hB53; refine wl_call1 (vs := [_, _, _]) Try.goes11 rfl (ih _ jb s a' c' o' _ t.kids[j] _ ⟨hB51, hO52, hne'⟩ (RRx.step hrk hE50 hyo hXlt) hsok (by omega) (by omega)) rfl ?_; rintro _ w60 ⟨r, rfl, hr, hw61, hs2⟩; have hE62 := hE50.step hw61 (hyo); have hB63 := hw61.blk hB53 (hb4o); have hB64 := hw61.blk hB54 (nmem2 hA33.symm hA34.symm); refine wl_val rfl (ex_notb rfl) ?_; refine wl_nil (nrm_then ?_); refine cw_ifb rfl (fun hc55 => ?_) (fun hc55 => ?_)
        ·skip
         refine cw_seq ?_; refine cw_region ?_; refine wl_a ?_; refine wl_nil (nrm_then ?_); refine cw_ret (ret_block (ret_then (ret_then (ret_block (ret_then (body_ret1 rfl rfl ?_)))))); rw [show (z + 0 : Int) = z + (if Brk t.kids[j].kind t.kind then 1 else 0) from by rw [if_neg hc48]] at hr hs2
         have hn : t.kids[j].fine (z + if Brk t.kids[j].kind t.kind then 1 else 0) s = none := by
           cases h : t.kids[j].fine (z + if Brk t.kids[j].kind t.kind then 1 else 0) s with
           | none => rfl
           | some s3 => rw [h] at hr; simp at hr; rw [hr] at hc55; cases hc55
         have hno : t.fine b st = none := by rw [hfin, fineKids_at hj', hn]
         exact ⟨false, rfl, by rw [hno]; rfl, hE62, fun st' h => by rw [hno] at h; cases h⟩
        ·skip
         rw [show (z + 0 : Int) = z + (if Brk t.kids[j].kind t.kind then 1 else 0) from by rw [if_neg hc48]] at hr hs2
         obtain ⟨s3, hs3⟩ := Option.isSome_iff_exists.1 (show (t.kids[j].fine _ s).isSome = true by rw [← hr]; simpa using hc55)
         obtain ⟨hsok3, a3, c3, o3, hJ3, ho3⟩ := hs2 s3 hs3
         have hg3 : ∀ g, o3 = some g → g ∈ ob.toList ∨ w.heap.size ≤ g := fun g hg => by rcases ho3 g hg with h | h; exact hgo g (by simpa using h); exact .inr (Nat.le_trans hsz54 h)
         have hb43 : b4 ∉ jb :: o3.toList := fun hm => by rcases List.mem_cons.1 hm with h | h; exact hb4o (by rw [h]; simp); rcases ho3 b4 (by simpa using h) with h1 | h1; exact hb4o (List.mem_cons_of_mem _ h1); omega
         refine cw_skip (nrm_block (nrm_then ?_)); refine cw_region ?_; refine wl_val rfl (ex_add_i64 rfl rfl (by omega) (by omega)) ?_; refine wl_m ?_; refine wl_nil (nrm_same ?_); refine ⟨(j + 1, s3, a3, c3, o3), ?_, ⟨rfl, trivial⟩, ⟨rfl, rfl, rfl, rfl, rfl, trivial⟩, hE62, ?_⟩
         · (try dsimp only); omega
         ·skip
          try dsimp only
          refine ⟨by omega, hsok3, ⟨hJ3.blk, hJ3.own, hJ3.ne⟩, ?_, hg3, hB63, hb43⟩; rw [hfin, fineKids_at hj', hs3]
      ·skip
       refine cw_exit (ex_then (ex_then (ex_here (nrm_then ?_)))); refine cw_seq ?_; refine cw_region ?_; refine wl_a ?_; refine wl_nil (nrm_then ?_); refine cw_ret (body_ret1 rfl rfl ?_)
       have hn : t.fine b st = some s := by rw [hfin, fineKids_end (by omega)]
       exact ⟨true, rfl, by rw [hn]; rfl, hV28, fun st' h => by rw [hn] at h; cases h; exact ⟨hsok, a', c', o', ⟨hB', hO', hne'⟩, hgo⟩⟩
end Go.Proofs.Ytljadkcojnlioaa
namespace Go.Proofs.Ytljadkcojnlioaa
open Go.Proofs
open Go.W Go.RowKit
attribute [local irreducible] Decidable.decide
set_option linter.unusedSimpArgs false
set_option linter.unusedVariables false
theorem Try.zero47 : zeroB Try.prog 47 = some #[.int .i64 0, .slice none 0 0] := by kernel_rfl
theorem fine_ok : ∀ {n : Nat} {w : World} {jb : Nat} {st : St} {a : Option Addr} {c : Nat} {ob : Option Nat} {vs : List Value} {t : Rx} {b : Int}, JAt w 47 jb st a c ob → RRx n (jb :: ob.toList) w vs t → StOk st → 0 ≤ b → b ≤ 251 →
      Calls Try.prog 11 #[.pointer (some ⟨jb, 0, none⟩), .agg vs.toArray, .int .i64 b] w (Ret fun v w' => ∃ r, v = .bool r ∧ r = (t.fine b st).isSome ∧ Evo (jb :: ob.toList) w w' ∧ ∀ st', t.fine b st = some st' → StOk st' ∧ ∃ a' c' ob', JAt w' 47 jb st' a' c' ob' ∧ ∀ g, ob' = some g → g ∈ ob.toList ∨ w.heap.size ≤ g)
  | 0, w, jb, st, a, c, ob, vs, t, b, hJ, hx, hs, h0, h1 => hx.elim
  | n + 1, w, jb, st, a, c, ob, vs, t, b, hJ, hx, hs, h0, h1 => fine_step (n := n) (fun w jb st a c ob vs t b hJ hx hs h0 h1 => fine_ok hJ hx hs h0 h1) hJ hx hs h0 h1
theorem JAt.new {w : World} {jb : Nat} {T : TypeId} (h : w.heap[jb]? = some (.cells #[iv 0, .slice none 0 0] T (0, 0))) : JAt w T jb (0, []) none 0 none := ⟨h, OwnS.nil _ _ _, fun g hg => by cases hg⟩
theorem valid_ok {n : Nat} {w : World} {vs : List Value} {t : Rx} (hx : RRx n [] w vs t) :
    Calls Try.prog 6 #[.agg vs.toArray] w (Ret fun v w' => ∃ r, v = .bool r ∧ (r = true ↔ t.Ok) ∧ Evo [] w w') := by
  have hx0 := hx; obtain ⟨m, ra, rc, ka, kc, hm, rfl, hrg, hk, bl1, bl2, bl3⟩ := hx.get; refine calls_of_cw (N := 6) Try.func6 rfl rfl rfl ?_; refine cw_seq ?_; refine cw_region ?_; refine wl_boxA rfl rfl fun b1 w2 hB3 hs4 hw5 => ?_; have hG6 := Ge.new (Evo.refl [] w) hs4; have hE7 := (Evo.refl [] w).then hw5; refine wl_a ?_; refine wl_nil (nrm_then ?_); refine cw_seq ?_; refine cw_region ?_; refine wl_alloc rfl Try.zero47 fun jb w8 hB9 hs10 hw11 => ?_; have hsz_jb := hs10; have hA12 := Apart.new (Lt.blk hB3) hs10; have hG13 := Ge.new hE7 hs10; have hE14 := hE7.then hw11; have hB15 := hw11.blk0 hB3; refine wl_val rfl (ex_loadBlk rfl Try.agg25 Try.size25 hB15 rfl) ?_; refine wl_call1 (vs := [_, _, _]) Try.goes11 rfl (fine_ok (st := (0, [])) (JAt.new hB9) (RRx.step hx0 hE14 hG13.mem1 (fun b hb => by cases hb)) ⟨Nat.le_refl _, by decide⟩ (by decide) (by decide)) rfl ?_; rintro _ w16 ⟨r, rfl, hr, hw17, -⟩; have hE18 := hE14.step hw17 (hG13.mem1); refine wl_a ?_; refine wl_nil (nrm_then ?_); refine cw_ret (body_ret1 rfl rfl ?_)
  exact ⟨r, rfl, by rw [hr, Option.isSome_iff_exists]; rfl, hE18⟩
end Go.Proofs.Ytljadkcojnlioaa
