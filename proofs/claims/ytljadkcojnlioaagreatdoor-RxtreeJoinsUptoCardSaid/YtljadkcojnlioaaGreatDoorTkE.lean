/- Joins: part 5 of 6 of what the law rests on. -/
import Derived.Test.YtljadkcojnlioaaGreatDoorTkD
set_option linter.unusedSectionVars false
set_option linter.unusedSimpArgs false
set_option linter.unusedVariables false
namespace Go.Proofs.YtljadkcojnlioaaGreatDoor
open Go.RowKit Go.W
attribute [local irreducible] Decidable.decide
theorem eP : gA Tryz.prog 64 3 = some 6 := by kernel_rfl
theorem mD : eY Tryz.prog 127 := ⟨_, Tryz.func127, by kernel_rfl, by kernel_rfl⟩
theorem uM : eY Tryz.prog 128 := ⟨_, Tryz.func128, by kernel_rfl, by kernel_rfl⟩
theorem nA : eY Tryz.prog 36 := ⟨_, Tryz.func36, by kernel_rfl, by kernel_rfl⟩
theorem mY : oJ Tryz.prog 62 = some #[.bool false, .bool false, .bool false, .bool false] := by kernel_rfl
structure BrG where
  b3 : Nat
  b4 : Nat
structure BrI (w wr : World) (b : Nat) (s : ByteArray) (st : PS) (a : Option Addr) (c : Nat) (ob : Option Nat) (x : BrG) : Prop where
  hr : RdAt wr b s st a c ob
  h3 : wr.heap[x.b3]? = some (.cells (opV (eA s st.pos st.now)) 159 (0, 0))
  h4 : wr.heap[x.b4]? = some (.cells #[.bool st.now.fold, .bool st.now.lines, .bool st.now.dots, .bool st.now.lazy] 62 (0, 0))
  g3 : Ge w (some x.b3)
  g4 : Ge w (some x.b4)
  a34 : Apart (some x.b3) (some x.b4)
theorem pC {w : World} {b : Nat} {o : Opn} {T : TypeId} {z : Nat × Nat} (h : w.heap[b]? = some (.cells (opV o) T z)) : ∀ j v, ([.bool o.thn.fold, .bool o.thn.lines, .bool o.thn.dots, .bool o.thn.lazy] : List Value)[j]? = some v → w.cell? ⟨b, 2 + j, none⟩ = some v
  | 0, v, e => by cases e; exact iJ h rfl
  | 1, v, e => by cases e; exact iJ h rfl
  | 2, v, e => by cases e; exact iJ h rfl
  | 3, v, e => by cases e; exact iJ h rfl
  | j + 4, v, e => by cases e
section
variable {s : ByteArray} {ex : PS → PX Rx} {st : PS} {o : Opn} {e : Int} {x : Rx} {st2 : PS}
theorem DG (ho : eA s st.pos st.now = o) (h : o.err = 0) (h2 : o.sett = true) : oH s ex st = .ok ([], { st with pos := st.pos + o.size, now := o.thn }) := by unfold oH; rw [ho]; exact if_pos ⟨h, h2⟩
theorem xE (ho : eA s st.pos st.now = o) (h : ¬ (o.err = 0 ∧ o.sett = true)) (h2 : st.opn = 250) : oH s ex st = .error 3 := by unfold oH; rw [ho]; exact (if_neg h).trans (if_pos h2)
theorem DJ (ho : eA s st.pos st.now = o) (h : ¬ (o.err = 0 ∧ o.sett = true)) (h2 : ¬ st.opn = 250) (h3 : o.err ≠ 0) : oH s ex st = .error o.err := by unfold oH; rw [ho]; exact (if_neg h).trans ((if_neg h2).trans (if_pos h3))
theorem tX (ho : eA s st.pos st.now = o) (h : ¬ (o.err = 0 ∧ o.sett = true)) (h2 : ¬ st.opn = 250) (h3 : ¬ o.err ≠ 0) (h4 : o.capt = true) (h5 : zK o.name st.names) : oH s ex st = .error 85 := by unfold oH; rw [ho]; exact (if_neg h).trans ((if_neg h2).trans ((if_neg h3).trans (if_pos ⟨h4, h5⟩)))
theorem kZ (ho : eA s st.pos st.now = o) (h : ¬ (o.err = 0 ∧ o.sett = true)) (h2 : ¬ st.opn = 250) (h3 : ¬ o.err ≠ 0) (h4 : ¬ (o.capt = true ∧ zK o.name st.names)) : oH s ex st = match ex ⟨st.pos + o.size, o.thn, st.opn + 1, if o.capt = true then st.names ++ [o.name] else st.names⟩ with
    | .error e => .error e
    | .ok (x, st2) => if isB s st2.pos 41 then
        .ok ([if o.capt = true then oY ((st.names.length : Int) + 1) o.name x else x], { st2 with pos := st2.pos + 1, opn := st2.opn - 1, now := st.now })
      else .error 80 := by unfold oH; rw [ho]; exact (if_neg h).trans ((if_neg h2).trans ((if_neg h3).trans (if_neg h4)))
end
theorem QT {X : List Nat} {w w1 w2 : World} {x : Rx} {vs : List Value} {bs : List Nat} {g : Nat} {n : Int} {nm : ByteArray} (hO : OwnS w2 27 9 (some ⟨g, 0, none⟩) 1 1 vs (some g)) (hT : OT x w1 vs bs) (hF : Fr w bs) (hg : w1.heap.size ≤ g) (he : Evo X w1 w2) (hx : ∀ b, b ∈ bs → b ∉ X) (hw : w.heap.size ≤ w1.heap.size) (hn : nm.size ≤ 1000000) :
    OT (oY n nm x) w2 [iv 7, .int .i32 0, .slice none 0 0, iv 0, iv 0, .bool false, iv n, .string nm, .slice (some ⟨g, 0, none⟩) 1 1] (g :: bs) ∧ Fr w (g :: bs) := by
  refine ⟨?_, ⟨List.nodup_cons.2 ⟨fun h => ?_, hF.nd⟩, fun b hb => ?_⟩⟩
  · unfold oY
    rw [OT]
    exact ⟨none, 0, none, _, 1, some g, vs, bs, rfl, OwnS.nil _ _ _, hO, OTs.single (hT.evo he hx), rfl, by simp, hn, by simp⟩
  · have := hT.lt g h; omega
  · rcases List.mem_cons.1 hb with rfl | hb
    · omega
    · exact hF.ge b hb
theorem sF {q b : Nat} {o : Option Nat} (h1 : Apart (some q) (some b)) (h2 : Apart (some q) o) : q ∉ b :: o.toList := fun h => by
  rcases List.mem_cons.1 h with rfl | h
  · exact h1 q rfl rfl
  · exact h2 q rfl (Option.mem_toList.1 h)
theorem CM {w : World} (h : Glb w) : Lt w (some oI) := fun g e => by
  cases e
  obtain ⟨m, hm⟩ := h
  rcases Nat.lt_or_ge oI w.heap.size with h1 | h1
  · exact h1
  · have h2 : w.heap[oI]? = none := Array.getElem?_eq_none h1
    simp [World.cell?, h2] at hm
theorem SO {b : Nat} {o : Option Nat} (h1 : oI ∉ [b]) (h2 : Apart (some oI) o) : oI ∉ b :: o.toList := fun h => by
  rcases List.mem_cons.1 h with e | h
  · exact h1 (by rw [e]; simp)
  · exact h2 _ rfl (Option.mem_toList.1 h)
theorem wG {w w1 : World} {b : Nat} {bs : List Nat} (h : Fr w1 bs) (hb : Lt w (some b)) (hw : w.heap.size ≤ w1.heap.size) : ∀ q, q ∈ bs → q ∉ [b] := fun q hq hm => by
  have h1 := h.ge q hq
  have h2 := hb b rfl
  rw [List.mem_singleton.1 hm] at h1; omega
theorem JO {ex : PS → PX Rx} {w : World} {b : Nat} {s : ByteArray} {st : PS} {a : Option Addr} {c : Nat} {ob : Option Nat} (hex : st.opn < 250 → sQ b s ex (st.opn + 1)) (hR : RdAt w b s st a c ob) (hs : s.size ≤ 4096) (h40 : isB s st.pos 40) (hop : st.opn ≤ 250) (hb : Bd s st.pos) (hnl : st.names.length ≤ 100) (hG : Glb w) (hGo : Apart (some oI) ob) :
    Calls Tryz.prog 109 #[.pointer (some ⟨b, 0, none⟩)] w (RetP (PcPost b s (oH s ex) st ob w) (ExPan b (oH s ex) st ob w)) := by
  have hap := hR.ap; have hgb : oI ∉ [b] := fun h => hR.glb hG (List.mem_singleton.1 h).symm; have hgw := SO hgb hGo; have hbw : Lt w (some b) := Lt.blk hR.blk; have how : Lt w ob := Lt.own hR.own; refine bJ (N := 100) Tryz.func109 rfl rfl rfl ?_; refine aE (aB (aM (aC (aA (aE (JL (α := BrG) (fun x => [(3, .pointer (some ⟨x.b3, 0, none⟩)), (4, .pointer (some ⟨x.b4, 0, none⟩))]) [(0, _), (2, _)] (fun x wr => Evo (b :: ob.toList) w wr ∧ (BrI w wr b s st a c ob x)) ⟨rfl, rfl, trivial⟩ ?_ ?_))))))
  ·refine iK (fun w0 w' => Evo [] w0 w') (by kernel_rfl) (fun w1 hw2 => ?_); have hE3 := (Evo.refl (b :: ob.toList) w).then hw2; have hB4 := hw2.blk0 hR.blk; have hO5 := hR.own.evo0 hw2; refine aet 0 rfl (fun _ hS => bO rfl) (Evo.refl [] w1) ?_; refine aet 2 rfl (fun _ hS => bO rfl) (Evo.refl [] w1) ?_; refine aet 3 rfl (fun _ hS => aP rfl) (Evo.refl [] w1) ?_; refine aet 4 rfl (fun _ hS => aD rfl eQ) (Evo.refl [] w1) ?_; refine aet 5 rfl (fun _ hS => eJ (o := 2) rfl iW dJ (vs := [.bool st.now.fold, .bool st.now.lines, .bool st.now.dots, .bool st.now.lazy]) rfl (yL (hS.blk0 hB4))) (Evo.refl [] w1) ?_; refine cP [1, 6, 7] (by kernel_rfl) rfl ⟨?_, ?_, ?_, trivial⟩
   ·refine cU rfl ?_; refine aK (vs := [_]) mD rfl (nZ ⟨hB4, hO5, hR.ne⟩ (by omega) h40.1) rfl ?_; rintro _ w6 ⟨rfl, hw7⟩; have hE8 := hE3.then hw7; have hE9 := (Evo.refl [] w1).then hw7; have hB10 := hw7.blk0 hB4; have hO11 := hO5.evo0 hw7; refine aC (cG (.inl hE9) ?_); refine cP [6, 7] (by kernel_rfl) rfl ⟨?_, ?_, trivial⟩
    ·refine cU rfl ?_; refine dA rfl jD fun b3 w12 hB13 hs14 hw15 => ?_; have hsz_b3 := hs14; have hE21 := hE9.then hw15; refine aC (cG (.inl hE21) ?_); refine cP [7] (by kernel_rfl) rfl ⟨?_, trivial⟩; refine cU rfl ?_; refine dA rfl mY fun b4 w24 hB25 hs26 hw27 => ?_; have hsz_b4 := hs26; have hA30 := Apart.new (Lt.blk hB13) hs26; have hG31 := Ge.new (hE8.then hw15) hs26; refine aC (cG (.inl (hE21.then hw27)) ?_); refine cP [8] (by kernel_rfl) rfl ⟨?_, trivial⟩; refine cU rfl ?_; refine bI rfl rfl bN (hw27.blk0 hB13) rfl rfl ⟨rfl, rfl, rfl, rfl, rfl, rfl, rfl, rfl, rfl, trivial⟩ fun w38 hB39 hw40 => ?_; have hE42 := (hE21.then hw27).step hw40 (Ge.new hE9 hs14).mem1
     try simp only [cR, Nat.reduceAdd] at hB39
     refine aC (cG (.inl hE42) ?_); refine cP [9] (by kernel_rfl) rfl ⟨?_, trivial⟩; refine cU rfl ?_; refine bI rfl rfl dJ (hw40.blk hB25 hA30.symm.nmem1) rfl rfl ⟨rfl, rfl, rfl, rfl, trivial⟩ fun w46 hB47 hw48 => ?_
     try simp only [cR, Nat.reduceAdd] at hB47
     refine aC (cG (.inl (hE42.step hw48 (Ge.new hE21 hs26).mem1)) ?_); refine fA (by kernel_rfl) (bY ?_); refine ⟨⟨b3, b4⟩, ⟨rfl, rfl, trivial⟩, ⟨rfl, rfl, trivial⟩, ((((hE8.then hw15).then hw27).step hw40 (Ge.new hE8 hs14).mem1).step hw48 hG31.mem1), ?_⟩; exact ⟨⟨(hw48.blk (hw40.blk (hw27.blk0 (hw15.blk0 hB10)) (Apart.new (Lt.blk hB10) hs14).nmem1) (Apart.new (Lt.blk (hw15.blk0 hB10)) hs26).nmem1), ((((hO11.evo0 hw15).evo0 hw27).evo hw40 (Apart.new (Lt.own hO11) hs14).own1).evo hw48 (Apart.new (Lt.own (hO11.evo0 hw15)) hs26).own1), hR.ne⟩, (hw48.blk hB39 hA30.nmem1), hB47, (Ge.new hE8 hs14), hG31, hA30⟩
    refine cU rfl ?_; refine dA rfl mY fun b4 w54 hB55 hs56 hw57 => ?_; have hsz_b4 := hs56; have hE63 := hE9.then hw57; refine aC (cG (.inl hE63) ?_); refine cP [6] (by kernel_rfl) rfl ⟨?_, trivial⟩; refine cU rfl ?_; refine dA rfl jD fun b3 w66 hB67 hs68 hw69 => ?_; have hsz_b3 := hs68; have hA72 := Apart.new (Lt.blk hB55) hs68; have hG73 := Ge.new (hE8.then hw57) hs68; refine aC (cG (.inl (hE63.then hw69)) ?_); refine cP [8] (by kernel_rfl) rfl ⟨?_, trivial⟩; refine cU rfl ?_; refine bI rfl rfl bN hB67 rfl rfl ⟨rfl, rfl, rfl, rfl, rfl, rfl, rfl, rfl, rfl, trivial⟩ fun w80 hB81 hw82 => ?_; have hE84 := (hE63.then hw69).step hw82 (Ge.new hE63 hs68).mem1
    try simp only [cR, Nat.reduceAdd] at hB81
    refine aC (cG (.inl hE84) ?_); refine cP [9] (by kernel_rfl) rfl ⟨?_, trivial⟩; refine cU rfl ?_; refine bI rfl rfl dJ (hw82.blk (hw69.blk0 hB55) hA72.nmem1) rfl rfl ⟨rfl, rfl, rfl, rfl, trivial⟩ fun w88 hB89 hw90 => ?_
    try simp only [cR, Nat.reduceAdd] at hB89
    refine aC (cG (.inl (hE84.step hw90 (Ge.new hE9 hs56).mem1)) ?_); refine fA (by kernel_rfl) (bY ?_); refine ⟨⟨b3, b4⟩, ⟨rfl, rfl, trivial⟩, ⟨rfl, rfl, trivial⟩, ((((hE8.then hw57).then hw69).step hw82 hG73.mem1).step hw90 (Ge.new hE8 hs56).mem1), ?_⟩; exact ⟨⟨(hw90.blk (hw82.blk (hw69.blk0 (hw57.blk0 hB10)) (Apart.new (Lt.blk (hw57.blk0 hB10)) hs68).nmem1) (Apart.new (Lt.blk hB10) hs56).nmem1), ((((hO11.evo0 hw57).evo0 hw69).evo hw82 (Apart.new (Lt.own (hO11.evo0 hw57)) hs68).own1).evo hw90 (Apart.new (Lt.own hO11) hs56).own1), hR.ne⟩, (hw90.blk hB81 hA72.symm.nmem1), hB89, hG73, (Ge.new hE8 hs56), hA72.symm⟩
   ·refine cU rfl ?_; refine dA rfl jD fun b3 w96 hB97 hs98 hw99 => ?_; have hsz_b3 := hs98; have hA100 := Apart.new (Lt.blk hB4) hs98; have hA101 := Apart.new (Lt.own hO5) hs98; have hG102 := Ge.new hE3 hs98; have hG103 := Ge.new (Evo.refl [] w1) hs98; have hE104 := hE3.then hw99; have hE105 := (Evo.refl [] w1).then hw99; have hB106 := hw99.blk0 hB4; have hO107 := hO5.evo0 hw99; refine aC (cG (.inl hE105) ?_); refine cP [1, 7] (by kernel_rfl) rfl ⟨?_, ?_, trivial⟩
    ·refine cU rfl ?_; refine aK (vs := [_]) mD rfl (nZ ⟨hB106, hO107, hR.ne⟩ (by omega) h40.1) rfl ?_; rintro _ w108 ⟨rfl, hw109⟩; have hE111 := hE105.then hw109; refine aC (cG (.inl hE111) ?_); refine cP [7] (by kernel_rfl) rfl ⟨?_, trivial⟩; refine cU rfl ?_; refine dA rfl mY fun b4 w115 hB116 hs117 hw118 => ?_; have hsz_b4 := hs117; have hA121 := Apart.new (Lt.blk (hw109.blk0 hB97)) hs117; have hG122 := Ge.new (hE104.then hw109) hs117; refine aC (cG (.inl (hE111.then hw118)) ?_); refine cP [8] (by kernel_rfl) rfl ⟨?_, trivial⟩; refine cU rfl ?_; refine bI rfl rfl bN (hw118.blk0 (hw109.blk0 hB97)) rfl rfl ⟨rfl, rfl, rfl, rfl, rfl, rfl, rfl, rfl, rfl, trivial⟩ fun w129 hB130 hw131 => ?_; have hE133 := (hE111.then hw118).step hw131 hG103.mem1
     try simp only [cR, Nat.reduceAdd] at hB130
     refine aC (cG (.inl hE133) ?_); refine cP [9] (by kernel_rfl) rfl ⟨?_, trivial⟩; refine cU rfl ?_; refine bI rfl rfl dJ (hw131.blk hB116 hA121.symm.nmem1) rfl rfl ⟨rfl, rfl, rfl, rfl, trivial⟩ fun w137 hB138 hw139 => ?_
     try simp only [cR, Nat.reduceAdd] at hB138
     refine aC (cG (.inl (hE133.step hw139 (Ge.new hE111 hs117).mem1)) ?_); refine fA (by kernel_rfl) (bY ?_); refine ⟨⟨b3, b4⟩, ⟨rfl, rfl, trivial⟩, ⟨rfl, rfl, trivial⟩, ((((hE104.then hw109).then hw118).step hw131 hG102.mem1).step hw139 hG122.mem1), ?_⟩; exact ⟨⟨(hw139.blk (hw131.blk (hw118.blk0 (hw109.blk0 hB106)) hA100.nmem1) (Apart.new (Lt.blk (hw109.blk0 hB106)) hs117).nmem1), ((((hO107.evo0 hw109).evo0 hw118).evo hw131 hA101.own1).evo hw139 (Apart.new (Lt.own (hO107.evo0 hw109)) hs117).own1), hR.ne⟩, (hw139.blk hB130 hA121.nmem1), hB138, hG102, hG122, hA121⟩
    refine cU rfl ?_; refine dA rfl mY fun b4 w145 hB146 hs147 hw148 => ?_; have hsz_b4 := hs147; have hA151 := Apart.new (Lt.blk hB97) hs147; refine aC (cG (.inl (hE105.then hw148)) ?_); refine cP [1] (by kernel_rfl) rfl ⟨?_, trivial⟩; refine cU rfl ?_; refine aK (vs := [_]) mD rfl (nZ ⟨(hw148.blk0 hB106), (hO107.evo0 hw148), hR.ne⟩ (by omega) h40.1) rfl ?_; rintro _ w159 ⟨rfl, hw160⟩; have hE162 := (hE105.then hw148).then hw160; refine aC (cG (.inl hE162) ?_); refine cP [8] (by kernel_rfl) rfl ⟨?_, trivial⟩; refine cU rfl ?_; refine bI rfl rfl bN (hw160.blk0 (hw148.blk0 hB97)) rfl rfl ⟨rfl, rfl, rfl, rfl, rfl, rfl, rfl, rfl, rfl, trivial⟩ fun w167 hB168 hw169 => ?_; have hE171 := hE162.step hw169 hG103.mem1
    try simp only [cR, Nat.reduceAdd] at hB168
    refine aC (cG (.inl hE171) ?_); refine cP [9] (by kernel_rfl) rfl ⟨?_, trivial⟩; refine cU rfl ?_; refine bI rfl rfl dJ (hw169.blk (hw160.blk0 hB146) hA151.symm.nmem1) rfl rfl ⟨rfl, rfl, rfl, rfl, trivial⟩ fun w175 hB176 hw177 => ?_
    try simp only [cR, Nat.reduceAdd] at hB176
    refine aC (cG (.inl (hE171.step hw177 (Ge.new hE105 hs147).mem1)) ?_); refine fA (by kernel_rfl) (bY ?_); refine ⟨⟨b3, b4⟩, ⟨rfl, rfl, trivial⟩, ⟨rfl, rfl, trivial⟩, ((((hE104.then hw148).then hw160).step hw169 hG102.mem1).step hw177 (Ge.new hE104 hs147).mem1), ?_⟩; exact ⟨⟨(hw177.blk (hw169.blk (hw160.blk0 (hw148.blk0 hB106)) hA100.nmem1) (Apart.new (Lt.blk hB106) hs147).nmem1), ((((hO107.evo0 hw148).evo0 hw160).evo hw169 hA101.own1).evo hw177 (Apart.new (Lt.own hO107) hs147).own1), hR.ne⟩, (hw177.blk hB168 hA151.nmem1), hB176, hG102, (Ge.new hE104 hs147), hA151⟩
   refine cU rfl ?_; refine dA rfl mY fun b4 w183 hB184 hs185 hw186 => ?_; have hsz_b4 := hs185; have hA187 := Apart.new (Lt.blk hB4) hs185; have hA188 := Apart.new (Lt.own hO5) hs185; have hG189 := Ge.new hE3 hs185; have hG190 := Ge.new (Evo.refl [] w1) hs185; have hE191 := hE3.then hw186; have hE192 := (Evo.refl [] w1).then hw186; have hB193 := hw186.blk0 hB4; have hO194 := hO5.evo0 hw186; refine aC (cG (.inl hE192) ?_); refine cP [1, 6] (by kernel_rfl) rfl ⟨?_, ?_, trivial⟩
   ·refine cU rfl ?_; refine aK (vs := [_]) mD rfl (nZ ⟨hB193, hO194, hR.ne⟩ (by omega) h40.1) rfl ?_; rintro _ w195 ⟨rfl, hw196⟩; have hE198 := hE192.then hw196; refine aC (cG (.inl hE198) ?_); refine cP [6] (by kernel_rfl) rfl ⟨?_, trivial⟩; refine cU rfl ?_; refine dA rfl jD fun b3 w202 hB203 hs204 hw205 => ?_; have hsz_b3 := hs204; have hA208 := Apart.new (Lt.blk (hw196.blk0 hB184)) hs204; have hG209 := Ge.new (hE191.then hw196) hs204; refine aC (cG (.inl (hE198.then hw205)) ?_); refine cP [8] (by kernel_rfl) rfl ⟨?_, trivial⟩; refine cU rfl ?_; refine bI rfl rfl bN hB203 rfl rfl ⟨rfl, rfl, rfl, rfl, rfl, rfl, rfl, rfl, rfl, trivial⟩ fun w216 hB217 hw218 => ?_; have hE220 := (hE198.then hw205).step hw218 (Ge.new hE198 hs204).mem1
    try simp only [cR, Nat.reduceAdd] at hB217
    refine aC (cG (.inl hE220) ?_); refine cP [9] (by kernel_rfl) rfl ⟨?_, trivial⟩; refine cU rfl ?_; refine bI rfl rfl dJ (hw218.blk (hw205.blk0 (hw196.blk0 hB184)) hA208.nmem1) rfl rfl ⟨rfl, rfl, rfl, rfl, trivial⟩ fun w224 hB225 hw226 => ?_
    try simp only [cR, Nat.reduceAdd] at hB225
    refine aC (cG (.inl (hE220.step hw226 hG190.mem1)) ?_); refine fA (by kernel_rfl) (bY ?_); refine ⟨⟨b3, b4⟩, ⟨rfl, rfl, trivial⟩, ⟨rfl, rfl, trivial⟩, ((((hE191.then hw196).then hw205).step hw218 hG209.mem1).step hw226 hG189.mem1), ?_⟩; exact ⟨⟨(hw226.blk (hw218.blk (hw205.blk0 (hw196.blk0 hB193)) (Apart.new (Lt.blk (hw196.blk0 hB193)) hs204).nmem1) hA187.nmem1), ((((hO194.evo0 hw196).evo0 hw205).evo hw218 (Apart.new (Lt.own (hO194.evo0 hw196)) hs204).own1).evo hw226 hA188.own1), hR.ne⟩, (hw226.blk hB217 hA208.symm.nmem1), hB225, hG209, hG189, hA208.symm⟩
   refine cU rfl ?_; refine dA rfl jD fun b3 w232 hB233 hs234 hw235 => ?_; have hsz_b3 := hs234; have hA238 := Apart.new (Lt.blk hB184) hs234; refine aC (cG (.inl (hE192.then hw235)) ?_); refine cP [1] (by kernel_rfl) rfl ⟨?_, trivial⟩; refine cU rfl ?_; refine aK (vs := [_]) mD rfl (nZ ⟨(hw235.blk0 hB193), (hO194.evo0 hw235), hR.ne⟩ (by omega) h40.1) rfl ?_; rintro _ w246 ⟨rfl, hw247⟩; have hE249 := (hE192.then hw235).then hw247; refine aC (cG (.inl hE249) ?_); refine cP [8] (by kernel_rfl) rfl ⟨?_, trivial⟩; refine cU rfl ?_; refine bI rfl rfl bN (hw247.blk0 hB233) rfl rfl ⟨rfl, rfl, rfl, rfl, rfl, rfl, rfl, rfl, rfl, trivial⟩ fun w254 hB255 hw256 => ?_; have hE258 := hE249.step hw256 (Ge.new hE192 hs234).mem1
   try simp only [cR, Nat.reduceAdd] at hB255
   refine aC (cG (.inl hE258) ?_); refine cP [9] (by kernel_rfl) rfl ⟨?_, trivial⟩; refine cU rfl ?_; refine bI rfl rfl dJ (hw256.blk (hw247.blk0 (hw235.blk0 hB184)) hA238.nmem1) rfl rfl ⟨rfl, rfl, rfl, rfl, trivial⟩ fun w262 hB263 hw264 => ?_
   try simp only [cR, Nat.reduceAdd] at hB263
   refine aC (cG (.inl (hE258.step hw264 hG190.mem1)) ?_); refine fA (by kernel_rfl) (bY ?_); refine ⟨⟨b3, b4⟩, ⟨rfl, rfl, trivial⟩, ⟨rfl, rfl, trivial⟩, ((((hE191.then hw235).then hw247).step hw256 (Ge.new hE191 hs234).mem1).step hw264 hG189.mem1), ?_⟩; exact ⟨⟨(hw264.blk (hw256.blk (hw247.blk0 (hw235.blk0 hB193)) (Apart.new (Lt.blk hB193) hs234).nmem1) hA187.nmem1), ((((hO194.evo0 hw235).evo0 hw247).evo hw256 (Apart.new (Lt.own hO194) hs234).own1).evo hw264 hA188.own1), hR.ne⟩, (hw264.blk hB255 hA238.symm.nmem1), hB263, (Ge.new hE191 hs234), hG189, hA238.symm⟩
  rintro ⟨b3, b4⟩ w270 ⟨hV271, ⟨hR1, hb3, hb4, hg3, hg4, ha34⟩⟩; refine aA ?_; show CW _ _ _ _ [(3, .pointer (some ⟨b3, 0, none⟩)), (4, .pointer (some ⟨b4, 0, none⟩)), (0, _), (2, _)] _
  try dsimp only at hR1
  try dsimp only at hb3
  try dsimp only at hb4
  try dsimp only at hg3
  try dsimp only at hg4
  try dsimp only at ha34
  have hA1 : Apart (some b) (some b3) := kW hbw hg3; have hA2 : Apart (some b) (some b4) := kW hbw hg4; have hA3 : Apart ob (some b3) := kW how hg3; have hA4 : Apart ob (some b4) := kW how hg4; have hob0 := rV (fl := st.now) hb h40; have hoe := pOpen_e (s := s) (i := st.pos) (fl := st.now)
  generalize ho : eA s st.pos st.now = o at *
  have hbdl := hb.le; refine aE (aE (aB (aF (aD rfl eU) (aF (aI rfl iX (aJ hb3 rfl)) (aF (bD rfl rfl) ?_))))); refine aG (aV (t := 16) rfl (fun hs16 => ?_) (fun hs16 => ?_))
  ·refine aQ (aF (aD rfl lA) (aQ (aF (aI rfl dX (aJ hb3 rfl)) (bH (aC (aA (fW rfl (fun hc19 => ?_) (fun hc19 => ?_))))))))
   ·obtain ⟨hz1, hz2, hz3⟩ := hob0 hs16; refine aE ?_; refine iK (fun w0 w' => Evo [b] w0 w') (by kernel_rfl) (fun w272 hw273 => ?_); refine aet 0 rfl (fun _ hS => bO rfl) (Evo.refl [b] w272) ?_; refine aet 1 rfl (fun _ hS => aP rfl) (Evo.refl [b] w272) ?_; refine aet 2 rfl (fun _ hS => aD rfl bE) (Evo.refl [b] w272) ?_; refine aet 4 rfl (fun _ hS => aD rfl fJ) (Evo.refl [b] w272) ?_; refine aet 5 rfl (fun _ hS => aI rfl aZ (aJ (hS.blk (hw273.blk0 hb3) (hA1.symm.nmem1)) rfl)) (Evo.refl [b] w272) ?_; refine cP [3] (by kernel_rfl) rfl ⟨?_, trivial⟩; refine cU rfl ?_; refine aF (aI rfl aZ (aJ (hw273.blk0 hR1.blk) rfl)) (aC (cG (.inl (Evo.refl [b] w272)) ?_)); refine aet 6 rfl (fun _ hS => bC rfl rfl (by omega) (by omega)) (Evo.refl [b] w272) ?_; refine aet 7 rfl (fun _ hS => aP rfl) (Evo.refl [b] w272) ?_; refine aet 8 rfl (fun _ hS => aD rfl bE) (Evo.refl [b] w272) ?_; refine cP [9] (by kernel_rfl) rfl ⟨?_, trivial⟩; refine cU rfl ?_; refine bG rfl rfl (rfl) bV (hw273.blk0 hR1.blk) rfl fun w279 hB280 hw281 => ?_
    have hE282 := (hV271.then hw273).step hw281 (fun y hy => .inl (by rw [List.mem_singleton.1 hy]; simp))
    try simp only [cR, Nat.reduceAdd] at hB280
    refine aC (cG (.inl ((Evo.refl [b] w272).step hw281 (fun y hy => .inl hy))) ?_); refine fA (by kernel_rfl) (aA ?_); refine aE (aB (aG (aF (aD rfl hZ) (aF (eJ (o := 2) rfl iW dJ (vs := [.bool o.thn.fold, .bool o.thn.lines, .bool o.thn.dots, .bool o.thn.lazy]) rfl (pC (hw281.blk (hw273.blk0 hb3) hA1.symm.nmem1))) ?_)))); refine aF (aP rfl) (aF (aD rfl eQ) (kR (f1 := .bool o.thn.fold) (f2 := .bool o.thn.lines) (f3 := .bool o.thn.dots) (f4 := .bool o.thn.lazy) rfl rfl dJ ⟨rfl, rfl, rfl, rfl, trivial⟩ hB280 fun w287 hB288 hw289 => ?_))
    have hE290 := hE282.step hw289 (fun y hy => .inl (by rw [List.mem_singleton.1 hy]; simp))
    refine aC (aA (aE (aB (aM (aC (aA (aO (aN (bS (br1 ?_))))))))))
    exact ⟨[], { st with pos := st.pos + o.size, now := o.thn }, DG ho hs16 hc19, hE290, ⟨rfl, Nat.le_add_right _ _, hz2, hnl⟩, (by show st.pos < st.pos + o.size; omega), (by show 0 + st.pos ≤ st.pos + o.size; omega), a, c, ob, none, 0, none, [], [], rfl, OwnS.nil _ _ _, OTs.nil _, Fr.nil _, ⟨hB288, (((hR1.own.evo0 hw273).evo hw281 hR1.ap.symm.own1).evo hw289 hR1.ap.symm.own1), hR.ne⟩, .inl rfl⟩
   refine aU (aA (aE (aE ?_)))
   have hno : ¬ (o.err = 0 ∧ o.sett = true) := fun h => by rw [h.2] at hc19; cases hc19
   refine aB (aG (aF (aP rfl) (aF (aD rfl eP) (aF (aI rfl aZ (aJ hR1.blk rfl)) (aF (bD rfl rfl) ?_))))); refine aC (aA (bF rfl (fun hc38 => ?_) (fun hc38 => ?_)))
   ·refine aB (bT (vs := [_]) cS rfl (eO 3) rfl ?_ ?_)
    ·intro pv wp hpp; obtain ⟨rfl, hpw⟩ := hpp; exact And.intro rfl ⟨_, rfl, _, xE ho hno (by omega), rfl, (hV271).then hpw⟩
    intro _ _ hF; exact hF.elim
   refine aU (aA (aE (aE ?_)))
   have hne250 : ¬ st.opn = 250 := by omega
   refine aB (aF (aD rfl eU) (aF (aI rfl iX (aJ hb3 rfl)) (aF (fX rfl rfl) ?_))); refine aC (aA (bF rfl (fun hc42 => ?_) (fun hc42 => ?_)))
   ·refine aB (aF (aD rfl eU) (aF (aI rfl iX (aJ hb3 rfl)) (bT (vs := [_]) cS rfl (eO o.err) rfl ?_ ?_)))
    ·intro pv wp hpp; obtain ⟨rfl, hpw⟩ := hpp; exact And.intro rfl ⟨_, rfl, _, DJ ho hno hne250 hc42, rfl, (hV271).then hpw⟩
    intro _ _ hF; exact hF.elim
   refine aU (aA (aE ?_)); have herr : o.err = 0 := Classical.not_not.1 hc42; obtain ⟨hz1, hz2, hz3⟩ := hob0 herr; refine aB (aM (aC (aA (aE (aE (aB (aF (aD rfl gD) (aF (aI rfl dX (aJ hb3 rfl)) (aC (aA (fW rfl (fun hc47 => ?_) (fun hc47 => ?_))))))))))))
   ·have hVW9 := hV271; refine aB (aG (aF (aD rfl iQ) (aF (aI rfl cJ (aJ hb3 rfl)) (bT (vs := [_, _]) uM rfl (vR ⟨hR1.blk, hR1.own, hR1.ne⟩ o.name hnl) rfl ?_ ?_))))
    ·intro pv wp hpp; obtain ⟨hfl, rfl, hpw⟩ := hpp; exact And.intro rfl ⟨_, rfl, _, tX ho hno hne250 hc42 hc47 hfl, rfl, (hV271).then hpw⟩
    rintro _ w298 ⟨hnf, rfl, hw299, a2, c2, ob2, hR2, hnb⟩; have hA53 := fM hA3.symm (Lt.blk hb3) hnb; have hA54 := fM hA4.symm (Lt.blk hb4) hnb; have hGo2 := fM hGo (CM (hG.evo hV271 hgw)) hnb; have hnb2 : NB w ob ob2 := (show NB w ob ob from .inl rfl).older hnb hVW9.size; have hpp2 : ({ st with names := st.names ++ [o.name] } : PS).pos = st.pos := rfl; have hpo2 : ({ st with names := st.names ++ [o.name] } : PS).opn = st.opn := rfl
    have hnl2 : (st.names ++ [o.name]).length ≤ 100 := by rw [List.length_append]; have : st.names.length ≠ 100 := fun h => hnf (.inl h); simp; omega
    refine aM (aC (aA (aE ?_))); refine iK (fun w0 w' => Evo [b] w0 w') (by kernel_rfl) (fun w303 hw304 => ?_); have hE305 := (hV271.step hw299 (fun y hy => .inl hy)).then hw304; have hB306 := hw304.blk0 (hw299.blk hb3 (sF hA1.symm hA3.symm)); refine aet 0 rfl (fun _ hS => bO rfl) (Evo.refl [b] w303) ?_; refine aet 1 rfl (fun _ hS => aP rfl) (Evo.refl [b] w303) ?_; refine aet 2 rfl (fun _ hS => aD rfl bE) (Evo.refl [b] w303) ?_; refine aet 4 rfl (fun _ hS => aD rfl fJ) (Evo.refl [b] w303) ?_; refine aet 5 rfl (fun _ hS => aI rfl aZ (aJ (hS.blk hB306 (hA1.symm.nmem1)) rfl)) (Evo.refl [b] w303) ?_; refine cP [3] (by kernel_rfl) rfl ⟨?_, trivial⟩; refine cU rfl ?_; refine aF (aI rfl aZ (aJ (hw304.blk0 hR2.blk) rfl)) (aC (cG (.inl (Evo.refl [b] w303)) ?_)); refine aet 6 rfl (fun _ hS => bC rfl rfl (by omega) (by omega)) (Evo.refl [b] w303) ?_; refine aet 7 rfl (fun _ hS => aP rfl) (Evo.refl [b] w303) ?_; refine aet 8 rfl (fun _ hS => aD rfl bE) (Evo.refl [b] w303) ?_; refine cP [9] (by kernel_rfl) rfl ⟨?_, trivial⟩; refine cU rfl ?_; refine bG rfl rfl (rfl) bV (hw304.blk0 hR2.blk) rfl fun w310 hB311 hw312 => ?_
    have hE313 := hE305.step hw312 (fun y hy => .inl (by rw [List.mem_singleton.1 hy]; simp))
    try simp only [cR, Nat.reduceAdd] at hB311
    refine aC (cG (.inl ((Evo.refl [b] w303).step hw312 (fun y hy => .inl hy))) ?_); refine fA (by kernel_rfl) (aA ?_); refine aE (aB (aG (aF (aP rfl) (aF (aD rfl eP) (aF (aI rfl aZ (aJ hB311 rfl)) ?_))))); refine aF (bC rfl rfl (by omega) (by omega)) ?_; refine aF (aP rfl) (aF (aD rfl eP) (bG rfl rfl (rfl) bV hB311 rfl fun w318 hB319 hw320 => ?_))
    have hE321 := hE313.step hw320 (fun y hy => .inl (by rw [List.mem_singleton.1 hy]; simp))
    have hB322 := hw320.blk (hw312.blk hB306 hA1.symm.nmem1) hA1.symm.nmem1
    try simp only [cR, Nat.reduceAdd] at hB319
    refine aC (aA (aE (aB (aG (aF (aD rfl hZ) (aF (eJ (o := 2) rfl iW dJ (vs := [.bool o.thn.fold, .bool o.thn.lines, .bool o.thn.dots, .bool o.thn.lazy]) rfl (pC hB322)) ?_)))))); refine aF (aP rfl) (aF (aD rfl eQ) (kR (f1 := .bool o.thn.fold) (f2 := .bool o.thn.lines) (f3 := .bool o.thn.dots) (f4 := .bool o.thn.lazy) rfl rfl dJ ⟨rfl, rfl, rfl, rfl, trivial⟩ hB319 fun w325 hB326 hw327 => ?_))
    have hE328 := hE321.step hw327 (fun y hy => .inl (by rw [List.mem_singleton.1 hy]; simp))
    have hB329 := hw327.blk hB322 hA1.symm.nmem1; have hB330 := hw327.blk (hw320.blk (hw312.blk (hw304.blk0 (hw299.blk hb4 (sF hA2.symm hA4.symm))) hA2.symm.nmem1) hA2.symm.nmem1) hA2.symm.nmem1; refine aC (aA (aE (aB (aG ?_)))); refine bT (vs := [_]) nA rfl (hex (by omega) (st := ⟨st.pos + o.size, o.thn, st.opn + 1, st.names ++ [o.name]⟩) ⟨hB326, ((((hR2.own.evo0 hw304).evo hw312 hR2.ap.symm.own1).evo hw320 hR2.ap.symm.own1).evo hw327 hR2.ap.symm.own1), hR2.ne⟩ rfl hz2 hnl2 (hG.evo hE328 hgw) hGo2) rfl ?_ ?_
    ·intro pv wp hpp; obtain ⟨e9, hpe, rfl, hpw⟩ := hpp; exact And.intro rfl ⟨_, rfl, _, (kZ ho hno hne250 hc42 (fun h => hnf h.2)).trans (by rw [if_pos hc47, hpe]), rfl, (hE328).step hpw (lV hnb2)⟩
    rintro rv w332 ⟨x, st2, hx, hw333, hmv, a3, c3, ob3, vs, bs, rfl, hOT, hFr, hR3, hnb3⟩; have hV9 := hE328; have hA63 := fM hA53 (Lt.blk hB329) hnb3; have hA64 := fM hA54 (Lt.blk hB330) hnb3; have hnb4 := hnb2.older hnb3 hV9.size; have hFr9 : Fr w bs := hFr.older hV9.size; have hE334 := hE328.step hw333 (lV hnb2); have hB335 := hw333.blk hB329 (sF hA1.symm hA53); have hB336 := hw333.blk hB330 (sF hA2.symm hA54); obtain ⟨ra, rc, ka, kc, rfl⟩ := id hOT.nine; have hltx := hOT.lt; refine dA rfl dS fun b6 w337 hB338 hs339 hw340 => ?_; have hsz_b6 := hs339; have hA343 := Apart.new (Lt.blk hR3.blk) hs339; have hA344 := Apart.new (Lt.own hR3.own) hs339; refine bI rfl rfl aY hB338 rfl rfl ⟨rfl, rfl, rfl, rfl, rfl, rfl, rfl, rfl, rfl, trivial⟩ fun w352 hB353 hw354 => ?_
    have hF360 := (hOT.evo0 hw340).evo hw354 (fun q hq h => by have h8 := hltx q hq; have h9 := List.mem_singleton.1 h; omega)
    try simp only [cR, Nat.reduceAdd] at hB353
    refine aC (aA (aE (aE (aB (aG ?_))))); refine aK (vs := [_, _]) iC rfl (lR ⟨(hw354.blk (hw340.blk0 hR3.blk) hA343.nmem1), ((hR3.own.evo0 hw340).evo hw354 hA344.own1), hR3.ne⟩ (by omega) 41 (by decide)) rfl ?_; rintro _ w361 ⟨rfl, hw362, hR4⟩
    have hE363 := ((hE334.then hw340).step hw354 (Ge.new hE334 hs339).mem1).step hw362 (fun y hy => .inl (by rw [List.mem_singleton.1 hy]; simp))
    have hB364 := hw362.blk (hw354.blk (hw340.blk0 hB335) (Apart.new (Lt.blk hB335) hs339).nmem1) ((by first | exact hA1.symm.own1 | exact hA1.symm.nmem1)); have hB365 := hw362.blk (hw354.blk (hw340.blk0 hB336) (Apart.new (Lt.blk hB336) hs339).nmem1) ((by first | exact hA2.symm.own1 | exact hA2.symm.nmem1)); have hB366 := hF360.evo hw362 (wG hFr9 hbw (Nat.le_refl _)); have hB367 := hw362.blk hB353 ((by first | exact hA343.symm.own1 | exact hA343.symm.nmem1)); refine aF (nE rfl) ?_; refine aC (aA (bF rfl (fun hc77 => ?_) (fun hc77 => ?_)))
    ·refine aB (bT (vs := [_]) cS rfl (eO 80) rfl ?_ ?_)
     ·intro pv wp hpp; obtain ⟨rfl, hpw⟩ := hpp
      exact And.intro rfl ⟨_, rfl, _, (kZ ho hno hne250 hc42 (fun h => hnf h.2)).trans (by rw [if_pos hc47, hx]; exact if_neg hc77), rfl, (hE363).then hpw⟩
     intro _ _ hF; exact hF.elim
    have h41 : isB s st2.pos 41 := Classical.not_not.1 hc77; rw [if_pos h41] at hR4; have ho2 : st2.opn = st.opn + 1 := hmv.opn; have hle2 : st.pos + o.size ≤ st2.pos := hmv.le
    have ho3 : ((adv st2 1).opn : Int) - 1 = ((st2.opn - 1 : Nat) : Int) := by show ((st2.opn : Nat) : Int) - 1 = _; omega
    refine aU (aA (aE (aB (aG (aF (aP rfl) (aF (aD rfl eP) (aF (aI rfl aZ (aJ hR4.blk rfl)) ?_))))))); refine aF (gK rfl rfl (by omega) (by omega)) ?_; rw [ho3]; refine aF (aP rfl) (aF (aD rfl eP) (bG rfl rfl (rfl) bV hR4.blk rfl fun w370 hB371 hw372 => ?_))
    have hE373 := hE363.step hw372 (fun y hy => .inl (by rw [List.mem_singleton.1 hy]; simp))
    try simp only [cR, Nat.reduceAdd] at hB371
    refine aC (aA (aE (aB (aG (aF (bX rfl iW dJ (hw372.blk hB365 hA2.symm.nmem1) rfl) (aF (aP rfl) (aF (aD rfl eQ) (kR (f1 := .bool st.now.fold) (f2 := .bool st.now.lines) (f3 := .bool st.now.dots) (f4 := .bool st.now.lazy) rfl rfl dJ ⟨rfl, rfl, rfl, rfl, trivial⟩ hB371 fun w379 hB380 hw381 => ?_))))))))
    have hE382 := hE373.step hw381 (fun y hy => .inl (by rw [List.mem_singleton.1 hy]; simp))
    have hB383 := hw381.blk (hw372.blk hB364 hA1.symm.nmem1) hA1.symm.nmem1; have hF385 := (hB366.evo hw372 (wG hFr9 hbw (Nat.le_refl _))).evo hw381 (wG hFr9 hbw (Nat.le_refl _)); have hB386 := hw381.blk (hw372.blk hB367 hA343.symm.nmem1) hA343.symm.nmem1; refine aC (aA (aE (aE (aB (aF (aD rfl gD) (aF (aI rfl dX (aJ hB383 rfl)) (aC (aA (fW rfl (fun hc91 => ?_) (fun hc91 => ?_))))))))))
    ·have hOT9 := hF385; have hV22 := hE382; refine aB (aG (aF (aD rfl iQ) (aF (aI rfl cJ (aJ hB383 rfl)) (aF (bX rfl bQ aY hB386 rfl) (bL (vs := [_]) rfl dD rfl rfl rfl rfl fun b96 w388 hO389 hs390 hw391 => ?_))))); refine aF (eN (vs := [(0, _), (6, _), (7, _), (8, _)]) dK rfl (cells := [_, _, _, _, _, _, _, _, _]) rfl) ?_; refine bI rfl rfl aY (hw391.blk0 hB386) rfl rfl ⟨rfl, rfl, rfl, rfl, rfl, rfl, rfl, rfl, rfl, trivial⟩ fun w407 hB408 hw409 => ?_; have hE410 := (hE382.then hw391).step hw409 (Ge.new hE334 hs339).mem1
     have hF414 := (hF385.evo0 hw391).evo hw409 (fun q hq h => by have h8 := hltx q hq; have h9 := List.mem_singleton.1 h; omega)
     try simp only [cR, Nat.reduceAdd] at hB408
     refine aC (aA (aE ?_))
     have hgr := QT (n := (st.names.length : Int) + 1) (nm := o.name) (hO389.evo hw409 (Apart.new (Lt.blk hB386) hs390).symm.own1) hOT9 hFr9 ((Ge.new (Evo.refl ([b6]) w379) hs390) _ rfl) (((Evo.refl ([b6]) w379).then hw391).step hw409 (fun y hy => .inl hy)) (fun q hq h => by have h8 := hltx q hq; have h9 := List.mem_singleton.1 h; omega) hV22.size (by omega)
     obtain ⟨hgT, hgF⟩ := hgr; have hV23 := hE410; refine aB (aF (bX rfl bQ aY hB408 rfl) (bL (vs := [_]) rfl dD rfl rfl rfl rfl fun b99 w418 hO419 hs420 hw421 => ?_)); refine aM (aC (aA (aO (bS (br1 ?_))))); have hK := iI hO419 hgT hgF ((Ge.new (Evo.refl ([]) w407) hs420) _ rfl) ((Evo.refl ([]) w407).then hw421) (fun _ _ h => by cases h) hV23.size; obtain ⟨ka9, kc9, ko9, cs9, bs9, hv9, hk1, hk2, hk3⟩ := hK
     refine ⟨[oY ((st.names.length : Int) + 1) o.name x], { st2 with pos := st2.pos + 1, opn := st2.opn - 1, now := st.now }, (kZ ho hno hne250 hc42 (fun h => hnf h.2)).trans (by rw [if_pos hc47, hx]; exact (if_pos h41).trans (by rw [if_pos hc47])), (hE410.then hw421), ⟨(by show st2.opn - 1 = st.opn; omega), (by show st.pos ≤ st2.pos + 1; omega), h41.asc (by decide) hmv.bd, hmv.nm⟩, (by show st.pos < st2.pos + 1; omega), (by show 1 + st.pos ≤ st2.pos + 1; omega), a3, c3, ob3, ka9, kc9, ko9, cs9, bs9, hv9, hk1, hk2, hk3, ⟨(hw421.blk0 (hw409.blk (hw391.blk0 hB380) hA343.nmem1)), (((((hR4.own.evo hw372 hR4.ap.symm.own1).evo hw381 hR4.ap.symm.own1).evo0 hw391).evo hw409 hA344.own1).evo0 hw421), hR3.ne⟩, hnb4⟩
    rw [hc47] at hc91; cases hc91
   have hnc : ¬ o.capt = true := by rw [hc47]; simp
   refine aU (aA (aE ?_)); refine iK (fun w0 w' => Evo [b] w0 w') (by kernel_rfl) (fun w441 hw442 => ?_); refine aet 0 rfl (fun _ hS => bO rfl) (Evo.refl [b] w441) ?_; refine aet 1 rfl (fun _ hS => aP rfl) (Evo.refl [b] w441) ?_; refine aet 2 rfl (fun _ hS => aD rfl bE) (Evo.refl [b] w441) ?_; refine aet 4 rfl (fun _ hS => aD rfl fJ) (Evo.refl [b] w441) ?_; refine aet 5 rfl (fun _ hS => aI rfl aZ (aJ (hS.blk (hw442.blk0 hb3) (hA1.symm.nmem1)) rfl)) (Evo.refl [b] w441) ?_; refine cP [3] (by kernel_rfl) rfl ⟨?_, trivial⟩; refine cU rfl ?_; refine aF (aI rfl aZ (aJ (hw442.blk0 hR1.blk) rfl)) (aC (cG (.inl (Evo.refl [b] w441)) ?_)); refine aet 6 rfl (fun _ hS => bC rfl rfl (by omega) (by omega)) (Evo.refl [b] w441) ?_; refine aet 7 rfl (fun _ hS => aP rfl) (Evo.refl [b] w441) ?_; refine aet 8 rfl (fun _ hS => aD rfl bE) (Evo.refl [b] w441) ?_; refine cP [9] (by kernel_rfl) rfl ⟨?_, trivial⟩; refine cU rfl ?_; refine bG rfl rfl (rfl) bV (hw442.blk0 hR1.blk) rfl fun w448 hB449 hw450 => ?_
   have hE451 := (hV271.then hw442).step hw450 (fun y hy => .inl (by rw [List.mem_singleton.1 hy]; simp))
   try simp only [cR, Nat.reduceAdd] at hB449
   refine aC (cG (.inl ((Evo.refl [b] w441).step hw450 (fun y hy => .inl hy))) ?_); refine fA (by kernel_rfl) (aA ?_); refine aE (aB (aG (aF (aP rfl) (aF (aD rfl eP) (aF (aI rfl aZ (aJ hB449 rfl)) ?_))))); refine aF (bC rfl rfl (by omega) (by omega)) ?_; refine aF (aP rfl) (aF (aD rfl eP) (bG rfl rfl (rfl) bV hB449 rfl fun w456 hB457 hw458 => ?_))
   have hE459 := hE451.step hw458 (fun y hy => .inl (by rw [List.mem_singleton.1 hy]; simp))
   have hB461 := hw458.blk (hw450.blk (hw442.blk0 hb3) hA1.symm.nmem1) hA1.symm.nmem1
   try simp only [cR, Nat.reduceAdd] at hB457
   refine aC (aA (aE (aB (aG (aF (aD rfl hZ) (aF (eJ (o := 2) rfl iW dJ (vs := [.bool o.thn.fold, .bool o.thn.lines, .bool o.thn.dots, .bool o.thn.lazy]) rfl (pC hB461)) ?_)))))); refine aF (aP rfl) (aF (aD rfl eQ) (kR (f1 := .bool o.thn.fold) (f2 := .bool o.thn.lines) (f3 := .bool o.thn.dots) (f4 := .bool o.thn.lazy) rfl rfl dJ ⟨rfl, rfl, rfl, rfl, trivial⟩ hB457 fun w463 hB464 hw465 => ?_))
   have hE466 := hE459.step hw465 (fun y hy => .inl (by rw [List.mem_singleton.1 hy]; simp))
   have hB468 := hw465.blk hB461 hA1.symm.nmem1; have hB469 := hw465.blk (hw458.blk (hw450.blk (hw442.blk0 hb4) hA2.symm.nmem1) hA2.symm.nmem1) hA2.symm.nmem1; refine aC (aA (aE (aB (aG ?_)))); refine bT (vs := [_]) nA rfl (hex (by omega) (st := ⟨st.pos + o.size, o.thn, st.opn + 1, st.names⟩) ⟨hB464, ((((hR1.own.evo0 hw442).evo hw450 hR1.ap.symm.own1).evo hw458 hR1.ap.symm.own1).evo hw465 hR1.ap.symm.own1), hR1.ne⟩ rfl hz2 hnl (hG.evo hE466 hgw) hGo) rfl ?_ ?_
   ·intro pv wp hpp; obtain ⟨e9, hpe, rfl, hpw⟩ := hpp; exact And.intro rfl ⟨_, rfl, _, (kZ ho hno hne250 hc42 (fun h => hnc h.1)).trans (by rw [if_neg hnc, hpe]), rfl, (hE466).step hpw (lV (show NB w ob ob from .inl rfl))⟩
   rintro rv w470 ⟨x, st2, hx, hw471, hmv, a3, c3, ob3, vs, bs, rfl, hOT, hFr, hR3, hnb3⟩; have hV9 := hE466; have hA63 := fM hA3.symm (Lt.blk hB468) hnb3; have hA64 := fM hA4.symm (Lt.blk hB469) hnb3; have hnb4 := (show NB w ob ob from .inl rfl).older hnb3 hV9.size; have hFr9 : Fr w bs := hFr.older hV9.size; have hE472 := hE466.step hw471 (lV (show NB w ob ob from .inl rfl)); have hB473 := hw471.blk hB468 (sF hA1.symm hA3.symm); have hB474 := hw471.blk hB469 (sF hA2.symm hA4.symm); obtain ⟨ra, rc, ka, kc, rfl⟩ := id hOT.nine; have hltx := hOT.lt; refine dA rfl dS fun b6 w475 hB476 hs477 hw478 => ?_; have hsz_b6 := hs477; have hA481 := Apart.new (Lt.blk hR3.blk) hs477; refine bI rfl rfl aY hB476 rfl rfl ⟨rfl, rfl, rfl, rfl, rfl, rfl, rfl, rfl, rfl, trivial⟩ fun w490 hB491 hw492 => ?_
   have hF498 := (hOT.evo0 hw478).evo hw492 (fun q hq h => by have h8 := hltx q hq; have h9 := List.mem_singleton.1 h; omega)
   try simp only [cR, Nat.reduceAdd] at hB491
   refine aC (aA (aE (aE (aB (aG ?_))))); refine aK (vs := [_, _]) iC rfl (lR ⟨(hw492.blk (hw478.blk0 hR3.blk) hA481.nmem1), ((hR3.own.evo0 hw478).evo hw492 (Apart.new (Lt.own hR3.own) hs477).own1), hR3.ne⟩ (by omega) 41 (by decide)) rfl ?_; rintro _ w499 ⟨rfl, hw500, hR4⟩
   have hE501 := ((hE472.then hw478).step hw492 (Ge.new hE472 hs477).mem1).step hw500 (fun y hy => .inl (by rw [List.mem_singleton.1 hy]; simp))
   have hB502 := hw500.blk (hw492.blk (hw478.blk0 hB473) (Apart.new (Lt.blk hB473) hs477).nmem1) ((by first | exact hA1.symm.own1 | exact hA1.symm.nmem1)); have hB503 := hw500.blk (hw492.blk (hw478.blk0 hB474) (Apart.new (Lt.blk hB474) hs477).nmem1) ((by first | exact hA2.symm.own1 | exact hA2.symm.nmem1)); have hB504 := hF498.evo hw500 (wG hFr9 hbw (Nat.le_refl _)); have hB505 := hw500.blk hB491 ((by first | exact hA481.symm.own1 | exact hA481.symm.nmem1)); refine aF (nE rfl) ?_; refine aC (aA (bF rfl (fun hc77 => ?_) (fun hc77 => ?_)))
   ·refine aB (bT (vs := [_]) cS rfl (eO 80) rfl ?_ ?_)
    ·intro pv wp hpp; obtain ⟨rfl, hpw⟩ := hpp
     exact And.intro rfl ⟨_, rfl, _, (kZ ho hno hne250 hc42 (fun h => hnc h.1)).trans (by rw [if_neg hnc, hx]; exact if_neg hc77), rfl, (hE501).then hpw⟩
    intro _ _ hF; exact hF.elim
   have h41 : isB s st2.pos 41 := Classical.not_not.1 hc77; rw [if_pos h41] at hR4; have ho2 : st2.opn = st.opn + 1 := hmv.opn; have hle2 : st.pos + o.size ≤ st2.pos := hmv.le
   have ho3 : ((adv st2 1).opn : Int) - 1 = ((st2.opn - 1 : Nat) : Int) := by show ((st2.opn : Nat) : Int) - 1 = _; omega
   refine aU (aA (aE (aB (aG (aF (aP rfl) (aF (aD rfl eP) (aF (aI rfl aZ (aJ hR4.blk rfl)) ?_))))))); refine aF (gK rfl rfl (by omega) (by omega)) ?_; rw [ho3]; refine aF (aP rfl) (aF (aD rfl eP) (bG rfl rfl (rfl) bV hR4.blk rfl fun w508 hB509 hw510 => ?_))
   have hE511 := hE501.step hw510 (fun y hy => .inl (by rw [List.mem_singleton.1 hy]; simp))
   try simp only [cR, Nat.reduceAdd] at hB509
   refine aC (aA (aE (aB (aG (aF (bX rfl iW dJ (hw510.blk hB503 hA2.symm.nmem1) rfl) (aF (aP rfl) (aF (aD rfl eQ) (kR (f1 := .bool st.now.fold) (f2 := .bool st.now.lines) (f3 := .bool st.now.dots) (f4 := .bool st.now.lazy) rfl rfl dJ ⟨rfl, rfl, rfl, rfl, trivial⟩ hB509 fun w517 hB518 hw519 => ?_))))))))
   have hE520 := hE511.step hw519 (fun y hy => .inl (by rw [List.mem_singleton.1 hy]; simp))
   refine aC (aA (aE (aE (aB (aF (aD rfl gD) (aF (aI rfl dX (aJ (hw519.blk (hw510.blk hB502 hA1.symm.nmem1) hA1.symm.nmem1) rfl)) (aC (aA (fW rfl (fun hc91 => ?_) (fun hc91 => ?_))))))))))
   ·rw [hc47] at hc91; cases hc91
   refine aU (aA (aE ?_)); have hgr : OT x _ _ bs ∧ Fr w bs := ⟨((hB504.evo hw510 (wG hFr9 hbw (Nat.le_refl _))).evo hw519 (wG hFr9 hbw (Nat.le_refl _))), hFr9⟩; obtain ⟨hgT, hgF⟩ := hgr; have hV23 := hE520; refine aB (aF (bX rfl bQ aY (hw519.blk (hw510.blk hB505 hA481.symm.nmem1) hA481.symm.nmem1) rfl) (bL (vs := [_]) rfl dD rfl rfl rfl rfl fun b99 w526 hO527 hs528 hw529 => ?_)); refine aM (aC (aA (aO (bS (br1 ?_))))); have hK := iI hO527 hgT hgF ((Ge.new (Evo.refl ([]) w517) hs528) _ rfl) ((Evo.refl ([]) w517).then hw529) (fun _ _ h => by cases h) hV23.size; obtain ⟨ka9, kc9, ko9, cs9, bs9, hv9, hk1, hk2, hk3⟩ := hK
   refine ⟨[x], { st2 with pos := st2.pos + 1, opn := st2.opn - 1, now := st.now }, (kZ ho hno hne250 hc42 (fun h => hnc h.1)).trans (by rw [if_neg hnc, hx]; exact (if_pos h41).trans (by rw [if_neg hnc])), (hE520.then hw529), ⟨(by show st2.opn - 1 = st.opn; omega), (by show st.pos ≤ st2.pos + 1; omega), h41.asc (by decide) hmv.bd, hmv.nm⟩, (by show st.pos < st2.pos + 1; omega), (by show 1 + st.pos ≤ st2.pos + 1; omega), a3, c3, ob3, ka9, kc9, ko9, cs9, bs9, hv9, hk1, hk2, hk3, ⟨(hw529.blk0 hB518), (((hR4.own.evo hw510 hR4.ap.symm.own1).evo hw519 hR4.ap.symm.own1).evo0 hw529), hR3.ne⟩, hnb4⟩
  refine aH (aH (aR (aC (aA (cO rfl ?_))))); refine aU (aA (aE (aE ?_))); have hno : ¬ (o.err = 0 ∧ o.sett = true) := fun h => hs16 h.1; refine aB (aG (aF (aP rfl) (aF (aD rfl eP) (aF (aI rfl aZ (aJ hR1.blk rfl)) (aF (bD rfl rfl) ?_))))); refine aC (aA (bF rfl (fun hc38 => ?_) (fun hc38 => ?_)))
  ·refine aB (bT (vs := [_]) cS rfl (eO 3) rfl ?_ ?_)
   ·intro pv wp hpp; obtain ⟨rfl, hpw⟩ := hpp; exact And.intro rfl ⟨_, rfl, _, xE ho hno (by omega), rfl, (hV271).then hpw⟩
   intro _ _ hF; exact hF.elim
  refine aU (aA (aE (aE ?_)))
  have hne250 : ¬ st.opn = 250 := by omega
  refine aB (aF (aD rfl eU) (aF (aI rfl iX (aJ hb3 rfl)) (aF (fX rfl rfl) ?_))); refine aC (aA (bF rfl (fun hc42 => ?_) (fun hc42 => ?_)))
  ·refine aB (aF (aD rfl eU) (aF (aI rfl iX (aJ hb3 rfl)) (bT (vs := [_]) cS rfl (eO o.err) rfl ?_ ?_)))
   ·intro pv wp hpp; obtain ⟨rfl, hpw⟩ := hpp; exact And.intro rfl ⟨_, rfl, _, DJ ho hno hne250 hc42, rfl, (hV271).then hpw⟩
   intro _ _ hF; exact hF.elim
  refine aU (aA (aE ?_)); have herr : o.err = 0 := Classical.not_not.1 hc42; obtain ⟨hz1, hz2, hz3⟩ := hob0 herr; refine aB (aM (aC (aA (aE (aE (aB (aF (aD rfl gD) (aF (aI rfl dX (aJ hb3 rfl)) (aC (aA (fW rfl (fun hc47 => ?_) (fun hc47 => ?_))))))))))))
  ·have hVW9 := hV271; refine aB (aG (aF (aD rfl iQ) (aF (aI rfl cJ (aJ hb3 rfl)) (bT (vs := [_, _]) uM rfl (vR ⟨hR1.blk, hR1.own, hR1.ne⟩ o.name hnl) rfl ?_ ?_))))
   ·intro pv wp hpp; obtain ⟨hfl, rfl, hpw⟩ := hpp; exact And.intro rfl ⟨_, rfl, _, tX ho hno hne250 hc42 hc47 hfl, rfl, (hV271).then hpw⟩
   rintro _ w549 ⟨hnf, rfl, hw550, a2, c2, ob2, hR2, hnb⟩; have hA53 := fM hA3.symm (Lt.blk hb3) hnb; have hA54 := fM hA4.symm (Lt.blk hb4) hnb; have hGo2 := fM hGo (CM (hG.evo hV271 hgw)) hnb; have hnb2 : NB w ob ob2 := (show NB w ob ob from .inl rfl).older hnb hVW9.size; have hpp2 : ({ st with names := st.names ++ [o.name] } : PS).pos = st.pos := rfl; have hpo2 : ({ st with names := st.names ++ [o.name] } : PS).opn = st.opn := rfl
   have hnl2 : (st.names ++ [o.name]).length ≤ 100 := by rw [List.length_append]; have : st.names.length ≠ 100 := fun h => hnf (.inl h); simp; omega
   refine aM (aC (aA (aE ?_))); refine iK (fun w0 w' => Evo [b] w0 w') (by kernel_rfl) (fun w554 hw555 => ?_); have hE556 := (hV271.step hw550 (fun y hy => .inl hy)).then hw555; have hB557 := hw555.blk0 (hw550.blk hb3 (sF hA1.symm hA3.symm)); refine aet 0 rfl (fun _ hS => bO rfl) (Evo.refl [b] w554) ?_; refine aet 1 rfl (fun _ hS => aP rfl) (Evo.refl [b] w554) ?_; refine aet 2 rfl (fun _ hS => aD rfl bE) (Evo.refl [b] w554) ?_; refine aet 4 rfl (fun _ hS => aD rfl fJ) (Evo.refl [b] w554) ?_; refine aet 5 rfl (fun _ hS => aI rfl aZ (aJ (hS.blk hB557 (hA1.symm.nmem1)) rfl)) (Evo.refl [b] w554) ?_; refine cP [3] (by kernel_rfl) rfl ⟨?_, trivial⟩; refine cU rfl ?_; refine aF (aI rfl aZ (aJ (hw555.blk0 hR2.blk) rfl)) (aC (cG (.inl (Evo.refl [b] w554)) ?_)); refine aet 6 rfl (fun _ hS => bC rfl rfl (by omega) (by omega)) (Evo.refl [b] w554) ?_; refine aet 7 rfl (fun _ hS => aP rfl) (Evo.refl [b] w554) ?_; refine aet 8 rfl (fun _ hS => aD rfl bE) (Evo.refl [b] w554) ?_; refine cP [9] (by kernel_rfl) rfl ⟨?_, trivial⟩; refine cU rfl ?_; refine bG rfl rfl (rfl) bV (hw555.blk0 hR2.blk) rfl fun w561 hB562 hw563 => ?_
   have hE564 := hE556.step hw563 (fun y hy => .inl (by rw [List.mem_singleton.1 hy]; simp))
   try simp only [cR, Nat.reduceAdd] at hB562
   refine aC (cG (.inl ((Evo.refl [b] w554).step hw563 (fun y hy => .inl hy))) ?_); refine fA (by kernel_rfl) (aA ?_); refine aE (aB (aG (aF (aP rfl) (aF (aD rfl eP) (aF (aI rfl aZ (aJ hB562 rfl)) ?_))))); refine aF (bC rfl rfl (by omega) (by omega)) ?_; refine aF (aP rfl) (aF (aD rfl eP) (bG rfl rfl (rfl) bV hB562 rfl fun w569 hB570 hw571 => ?_))
   have hE572 := hE564.step hw571 (fun y hy => .inl (by rw [List.mem_singleton.1 hy]; simp))
   have hB573 := hw571.blk (hw563.blk hB557 hA1.symm.nmem1) hA1.symm.nmem1
   try simp only [cR, Nat.reduceAdd] at hB570
   refine aC (aA (aE (aB (aG (aF (aD rfl hZ) (aF (eJ (o := 2) rfl iW dJ (vs := [.bool o.thn.fold, .bool o.thn.lines, .bool o.thn.dots, .bool o.thn.lazy]) rfl (pC hB573)) ?_)))))); refine aF (aP rfl) (aF (aD rfl eQ) (kR (f1 := .bool o.thn.fold) (f2 := .bool o.thn.lines) (f3 := .bool o.thn.dots) (f4 := .bool o.thn.lazy) rfl rfl dJ ⟨rfl, rfl, rfl, rfl, trivial⟩ hB570 fun w576 hB577 hw578 => ?_))
   have hE579 := hE572.step hw578 (fun y hy => .inl (by rw [List.mem_singleton.1 hy]; simp))
   have hB580 := hw578.blk hB573 hA1.symm.nmem1; have hB581 := hw578.blk (hw571.blk (hw563.blk (hw555.blk0 (hw550.blk hb4 (sF hA2.symm hA4.symm))) hA2.symm.nmem1) hA2.symm.nmem1) hA2.symm.nmem1; refine aC (aA (aE (aB (aG ?_)))); refine bT (vs := [_]) nA rfl (hex (by omega) (st := ⟨st.pos + o.size, o.thn, st.opn + 1, st.names ++ [o.name]⟩) ⟨hB577, ((((hR2.own.evo0 hw555).evo hw563 hR2.ap.symm.own1).evo hw571 hR2.ap.symm.own1).evo hw578 hR2.ap.symm.own1), hR2.ne⟩ rfl hz2 hnl2 (hG.evo hE579 hgw) hGo2) rfl ?_ ?_
   ·intro pv wp hpp; obtain ⟨e9, hpe, rfl, hpw⟩ := hpp; exact And.intro rfl ⟨_, rfl, _, (kZ ho hno hne250 hc42 (fun h => hnf h.2)).trans (by rw [if_pos hc47, hpe]), rfl, (hE579).step hpw (lV hnb2)⟩
   rintro rv w583 ⟨x, st2, hx, hw584, hmv, a3, c3, ob3, vs, bs, rfl, hOT, hFr, hR3, hnb3⟩; have hV9 := hE579; have hA63 := fM hA53 (Lt.blk hB580) hnb3; have hA64 := fM hA54 (Lt.blk hB581) hnb3; have hnb4 := hnb2.older hnb3 hV9.size; have hFr9 : Fr w bs := hFr.older hV9.size; have hE585 := hE579.step hw584 (lV hnb2); have hB586 := hw584.blk hB580 (sF hA1.symm hA53); have hB587 := hw584.blk hB581 (sF hA2.symm hA54); obtain ⟨ra, rc, ka, kc, rfl⟩ := id hOT.nine; have hltx := hOT.lt; refine dA rfl dS fun b6 w588 hB589 hs590 hw591 => ?_; have hsz_b6 := hs590; have hA594 := Apart.new (Lt.blk hR3.blk) hs590; have hA595 := Apart.new (Lt.own hR3.own) hs590; refine bI rfl rfl aY hB589 rfl rfl ⟨rfl, rfl, rfl, rfl, rfl, rfl, rfl, rfl, rfl, trivial⟩ fun w603 hB604 hw605 => ?_
   have hF611 := (hOT.evo0 hw591).evo hw605 (fun q hq h => by have h8 := hltx q hq; have h9 := List.mem_singleton.1 h; omega)
   try simp only [cR, Nat.reduceAdd] at hB604
   refine aC (aA (aE (aE (aB (aG ?_))))); refine aK (vs := [_, _]) iC rfl (lR ⟨(hw605.blk (hw591.blk0 hR3.blk) hA594.nmem1), ((hR3.own.evo0 hw591).evo hw605 hA595.own1), hR3.ne⟩ (by omega) 41 (by decide)) rfl ?_; rintro _ w612 ⟨rfl, hw613, hR4⟩
   have hE614 := ((hE585.then hw591).step hw605 (Ge.new hE585 hs590).mem1).step hw613 (fun y hy => .inl (by rw [List.mem_singleton.1 hy]; simp))
   have hB615 := hw613.blk (hw605.blk (hw591.blk0 hB586) (Apart.new (Lt.blk hB586) hs590).nmem1) ((by first | exact hA1.symm.own1 | exact hA1.symm.nmem1)); have hB616 := hw613.blk (hw605.blk (hw591.blk0 hB587) (Apart.new (Lt.blk hB587) hs590).nmem1) ((by first | exact hA2.symm.own1 | exact hA2.symm.nmem1)); have hB617 := hF611.evo hw613 (wG hFr9 hbw (Nat.le_refl _)); have hB618 := hw613.blk hB604 ((by first | exact hA594.symm.own1 | exact hA594.symm.nmem1)); refine aF (nE rfl) ?_; refine aC (aA (bF rfl (fun hc77 => ?_) (fun hc77 => ?_)))
   ·refine aB (bT (vs := [_]) cS rfl (eO 80) rfl ?_ ?_)
    ·intro pv wp hpp; obtain ⟨rfl, hpw⟩ := hpp
     exact And.intro rfl ⟨_, rfl, _, (kZ ho hno hne250 hc42 (fun h => hnf h.2)).trans (by rw [if_pos hc47, hx]; exact if_neg hc77), rfl, (hE614).then hpw⟩
    intro _ _ hF; exact hF.elim
   have h41 : isB s st2.pos 41 := Classical.not_not.1 hc77; rw [if_pos h41] at hR4; have ho2 : st2.opn = st.opn + 1 := hmv.opn; have hle2 : st.pos + o.size ≤ st2.pos := hmv.le
   have ho3 : ((adv st2 1).opn : Int) - 1 = ((st2.opn - 1 : Nat) : Int) := by show ((st2.opn : Nat) : Int) - 1 = _; omega
   refine aU (aA (aE (aB (aG (aF (aP rfl) (aF (aD rfl eP) (aF (aI rfl aZ (aJ hR4.blk rfl)) ?_))))))); refine aF (gK rfl rfl (by omega) (by omega)) ?_; rw [ho3]; refine aF (aP rfl) (aF (aD rfl eP) (bG rfl rfl (rfl) bV hR4.blk rfl fun w621 hB622 hw623 => ?_))
   have hE624 := hE614.step hw623 (fun y hy => .inl (by rw [List.mem_singleton.1 hy]; simp))
   try simp only [cR, Nat.reduceAdd] at hB622
   refine aC (aA (aE (aB (aG (aF (bX rfl iW dJ (hw623.blk hB616 hA2.symm.nmem1) rfl) (aF (aP rfl) (aF (aD rfl eQ) (kR (f1 := .bool st.now.fold) (f2 := .bool st.now.lines) (f3 := .bool st.now.dots) (f4 := .bool st.now.lazy) rfl rfl dJ ⟨rfl, rfl, rfl, rfl, trivial⟩ hB622 fun w630 hB631 hw632 => ?_))))))))
   have hE633 := hE624.step hw632 (fun y hy => .inl (by rw [List.mem_singleton.1 hy]; simp))
   have hB634 := hw632.blk (hw623.blk hB615 hA1.symm.nmem1) hA1.symm.nmem1; have hF636 := (hB617.evo hw623 (wG hFr9 hbw (Nat.le_refl _))).evo hw632 (wG hFr9 hbw (Nat.le_refl _)); have hB637 := hw632.blk (hw623.blk hB618 hA594.symm.nmem1) hA594.symm.nmem1; refine aC (aA (aE (aE (aB (aF (aD rfl gD) (aF (aI rfl dX (aJ hB634 rfl)) (aC (aA (fW rfl (fun hc91 => ?_) (fun hc91 => ?_))))))))))
   ·have hOT9 := hF636; have hV22 := hE633; refine aB (aG (aF (aD rfl iQ) (aF (aI rfl cJ (aJ hB634 rfl)) (aF (bX rfl bQ aY hB637 rfl) (bL (vs := [_]) rfl dD rfl rfl rfl rfl fun b96 w639 hO640 hs641 hw642 => ?_))))); refine aF (eN (vs := [(0, _), (6, _), (7, _), (8, _)]) dK rfl (cells := [_, _, _, _, _, _, _, _, _]) rfl) ?_; refine bI rfl rfl aY (hw642.blk0 hB637) rfl rfl ⟨rfl, rfl, rfl, rfl, rfl, rfl, rfl, rfl, rfl, trivial⟩ fun w658 hB659 hw660 => ?_; have hE661 := (hE633.then hw642).step hw660 (Ge.new hE585 hs590).mem1
    have hF665 := (hF636.evo0 hw642).evo hw660 (fun q hq h => by have h8 := hltx q hq; have h9 := List.mem_singleton.1 h; omega)
    try simp only [cR, Nat.reduceAdd] at hB659
    refine aC (aA (aE ?_))
    have hgr := QT (n := (st.names.length : Int) + 1) (nm := o.name) (hO640.evo hw660 (Apart.new (Lt.blk hB637) hs641).symm.own1) hOT9 hFr9 ((Ge.new (Evo.refl ([b6]) w630) hs641) _ rfl) (((Evo.refl ([b6]) w630).then hw642).step hw660 (fun y hy => .inl hy)) (fun q hq h => by have h8 := hltx q hq; have h9 := List.mem_singleton.1 h; omega) hV22.size (by omega)
    obtain ⟨hgT, hgF⟩ := hgr; have hV23 := hE661; refine aB (aF (bX rfl bQ aY hB659 rfl) (bL (vs := [_]) rfl dD rfl rfl rfl rfl fun b99 w669 hO670 hs671 hw672 => ?_)); refine aM (aC (aA (aO (bS (br1 ?_))))); have hK := iI hO670 hgT hgF ((Ge.new (Evo.refl ([]) w658) hs671) _ rfl) ((Evo.refl ([]) w658).then hw672) (fun _ _ h => by cases h) hV23.size; obtain ⟨ka9, kc9, ko9, cs9, bs9, hv9, hk1, hk2, hk3⟩ := hK
    refine ⟨[oY ((st.names.length : Int) + 1) o.name x], { st2 with pos := st2.pos + 1, opn := st2.opn - 1, now := st.now }, (kZ ho hno hne250 hc42 (fun h => hnf h.2)).trans (by rw [if_pos hc47, hx]; exact (if_pos h41).trans (by rw [if_pos hc47])), (hE661.then hw672), ⟨(by show st2.opn - 1 = st.opn; omega), (by show st.pos ≤ st2.pos + 1; omega), h41.asc (by decide) hmv.bd, hmv.nm⟩, (by show st.pos < st2.pos + 1; omega), (by show 1 + st.pos ≤ st2.pos + 1; omega), a3, c3, ob3, ka9, kc9, ko9, cs9, bs9, hv9, hk1, hk2, hk3, ⟨(hw672.blk0 (hw660.blk (hw642.blk0 hB631) hA594.nmem1)), (((((hR4.own.evo hw623 hR4.ap.symm.own1).evo hw632 hR4.ap.symm.own1).evo0 hw642).evo hw660 hA595.own1).evo0 hw672), hR3.ne⟩, hnb4⟩
   rw [hc47] at hc91; cases hc91
  have hnc : ¬ o.capt = true := by rw [hc47]; simp
  refine aU (aA (aE ?_)); refine iK (fun w0 w' => Evo [b] w0 w') (by kernel_rfl) (fun w692 hw693 => ?_); refine aet 0 rfl (fun _ hS => bO rfl) (Evo.refl [b] w692) ?_; refine aet 1 rfl (fun _ hS => aP rfl) (Evo.refl [b] w692) ?_; refine aet 2 rfl (fun _ hS => aD rfl bE) (Evo.refl [b] w692) ?_; refine aet 4 rfl (fun _ hS => aD rfl fJ) (Evo.refl [b] w692) ?_; refine aet 5 rfl (fun _ hS => aI rfl aZ (aJ (hS.blk (hw693.blk0 hb3) (hA1.symm.nmem1)) rfl)) (Evo.refl [b] w692) ?_; refine cP [3] (by kernel_rfl) rfl ⟨?_, trivial⟩; refine cU rfl ?_; refine aF (aI rfl aZ (aJ (hw693.blk0 hR1.blk) rfl)) (aC (cG (.inl (Evo.refl [b] w692)) ?_)); refine aet 6 rfl (fun _ hS => bC rfl rfl (by omega) (by omega)) (Evo.refl [b] w692) ?_; refine aet 7 rfl (fun _ hS => aP rfl) (Evo.refl [b] w692) ?_; refine aet 8 rfl (fun _ hS => aD rfl bE) (Evo.refl [b] w692) ?_; refine cP [9] (by kernel_rfl) rfl ⟨?_, trivial⟩; refine cU rfl ?_; refine bG rfl rfl (rfl) bV (hw693.blk0 hR1.blk) rfl fun w699 hB700 hw701 => ?_
  have hE702 := (hV271.then hw693).step hw701 (fun y hy => .inl (by rw [List.mem_singleton.1 hy]; simp))
  try simp only [cR, Nat.reduceAdd] at hB700
  refine aC (cG (.inl ((Evo.refl [b] w692).step hw701 (fun y hy => .inl hy))) ?_); refine fA (by kernel_rfl) (aA ?_); refine aE (aB (aG (aF (aP rfl) (aF (aD rfl eP) (aF (aI rfl aZ (aJ hB700 rfl)) ?_))))); refine aF (bC rfl rfl (by omega) (by omega)) ?_; refine aF (aP rfl) (aF (aD rfl eP) (bG rfl rfl (rfl) bV hB700 rfl fun w707 hB708 hw709 => ?_))
  have hE710 := hE702.step hw709 (fun y hy => .inl (by rw [List.mem_singleton.1 hy]; simp))
  have hB712 := hw709.blk (hw701.blk (hw693.blk0 hb3) hA1.symm.nmem1) hA1.symm.nmem1
  try simp only [cR, Nat.reduceAdd] at hB708
  refine aC (aA (aE (aB (aG (aF (aD rfl hZ) (aF (eJ (o := 2) rfl iW dJ (vs := [.bool o.thn.fold, .bool o.thn.lines, .bool o.thn.dots, .bool o.thn.lazy]) rfl (pC hB712)) ?_)))))); refine aF (aP rfl) (aF (aD rfl eQ) (kR (f1 := .bool o.thn.fold) (f2 := .bool o.thn.lines) (f3 := .bool o.thn.dots) (f4 := .bool o.thn.lazy) rfl rfl dJ ⟨rfl, rfl, rfl, rfl, trivial⟩ hB708 fun w714 hB715 hw716 => ?_))
  have hE717 := hE710.step hw716 (fun y hy => .inl (by rw [List.mem_singleton.1 hy]; simp))
  have hB719 := hw716.blk hB712 hA1.symm.nmem1; have hB720 := hw716.blk (hw709.blk (hw701.blk (hw693.blk0 hb4) hA2.symm.nmem1) hA2.symm.nmem1) hA2.symm.nmem1; refine aC (aA (aE (aB (aG ?_)))); refine bT (vs := [_]) nA rfl (hex (by omega) (st := ⟨st.pos + o.size, o.thn, st.opn + 1, st.names⟩) ⟨hB715, ((((hR1.own.evo0 hw693).evo hw701 hR1.ap.symm.own1).evo hw709 hR1.ap.symm.own1).evo hw716 hR1.ap.symm.own1), hR1.ne⟩ rfl hz2 hnl (hG.evo hE717 hgw) hGo) rfl ?_ ?_
  ·intro pv wp hpp; obtain ⟨e9, hpe, rfl, hpw⟩ := hpp; exact And.intro rfl ⟨_, rfl, _, (kZ ho hno hne250 hc42 (fun h => hnc h.1)).trans (by rw [if_neg hnc, hpe]), rfl, (hE717).step hpw (lV (show NB w ob ob from .inl rfl))⟩
  rintro rv w721 ⟨x, st2, hx, hw722, hmv, a3, c3, ob3, vs, bs, rfl, hOT, hFr, hR3, hnb3⟩; have hV9 := hE717; have hA63 := fM hA3.symm (Lt.blk hB719) hnb3; have hA64 := fM hA4.symm (Lt.blk hB720) hnb3; have hnb4 := (show NB w ob ob from .inl rfl).older hnb3 hV9.size; have hFr9 : Fr w bs := hFr.older hV9.size; have hE723 := hE717.step hw722 (lV (show NB w ob ob from .inl rfl)); have hB724 := hw722.blk hB719 (sF hA1.symm hA3.symm); have hB725 := hw722.blk hB720 (sF hA2.symm hA4.symm); obtain ⟨ra, rc, ka, kc, rfl⟩ := id hOT.nine; have hltx := hOT.lt; refine dA rfl dS fun b6 w726 hB727 hs728 hw729 => ?_; have hsz_b6 := hs728; have hA732 := Apart.new (Lt.blk hR3.blk) hs728; refine bI rfl rfl aY hB727 rfl rfl ⟨rfl, rfl, rfl, rfl, rfl, rfl, rfl, rfl, rfl, trivial⟩ fun w741 hB742 hw743 => ?_
  have hF749 := (hOT.evo0 hw729).evo hw743 (fun q hq h => by have h8 := hltx q hq; have h9 := List.mem_singleton.1 h; omega)
  try simp only [cR, Nat.reduceAdd] at hB742
  refine aC (aA (aE (aE (aB (aG ?_))))); refine aK (vs := [_, _]) iC rfl (lR ⟨(hw743.blk (hw729.blk0 hR3.blk) hA732.nmem1), ((hR3.own.evo0 hw729).evo hw743 (Apart.new (Lt.own hR3.own) hs728).own1), hR3.ne⟩ (by omega) 41 (by decide)) rfl ?_; rintro _ w750 ⟨rfl, hw751, hR4⟩
  have hE752 := ((hE723.then hw729).step hw743 (Ge.new hE723 hs728).mem1).step hw751 (fun y hy => .inl (by rw [List.mem_singleton.1 hy]; simp))
  have hB753 := hw751.blk (hw743.blk (hw729.blk0 hB724) (Apart.new (Lt.blk hB724) hs728).nmem1) ((by first | exact hA1.symm.own1 | exact hA1.symm.nmem1)); have hB754 := hw751.blk (hw743.blk (hw729.blk0 hB725) (Apart.new (Lt.blk hB725) hs728).nmem1) ((by first | exact hA2.symm.own1 | exact hA2.symm.nmem1)); have hB755 := hF749.evo hw751 (wG hFr9 hbw (Nat.le_refl _)); have hB756 := hw751.blk hB742 ((by first | exact hA732.symm.own1 | exact hA732.symm.nmem1)); refine aF (nE rfl) ?_; refine aC (aA (bF rfl (fun hc77 => ?_) (fun hc77 => ?_)))
  ·refine aB (bT (vs := [_]) cS rfl (eO 80) rfl ?_ ?_)
   ·intro pv wp hpp; obtain ⟨rfl, hpw⟩ := hpp
    exact And.intro rfl ⟨_, rfl, _, (kZ ho hno hne250 hc42 (fun h => hnc h.1)).trans (by rw [if_neg hnc, hx]; exact if_neg hc77), rfl, (hE752).then hpw⟩
   intro _ _ hF; exact hF.elim
  have h41 : isB s st2.pos 41 := Classical.not_not.1 hc77; rw [if_pos h41] at hR4; have ho2 : st2.opn = st.opn + 1 := hmv.opn; have hle2 : st.pos + o.size ≤ st2.pos := hmv.le
  have ho3 : ((adv st2 1).opn : Int) - 1 = ((st2.opn - 1 : Nat) : Int) := by show ((st2.opn : Nat) : Int) - 1 = _; omega
  refine aU (aA (aE (aB (aG (aF (aP rfl) (aF (aD rfl eP) (aF (aI rfl aZ (aJ hR4.blk rfl)) ?_))))))); refine aF (gK rfl rfl (by omega) (by omega)) ?_; rw [ho3]; refine aF (aP rfl) (aF (aD rfl eP) (bG rfl rfl (rfl) bV hR4.blk rfl fun w759 hB760 hw761 => ?_))
  have hE762 := hE752.step hw761 (fun y hy => .inl (by rw [List.mem_singleton.1 hy]; simp))
  try simp only [cR, Nat.reduceAdd] at hB760
  refine aC (aA (aE (aB (aG (aF (bX rfl iW dJ (hw761.blk hB754 hA2.symm.nmem1) rfl) (aF (aP rfl) (aF (aD rfl eQ) (kR (f1 := .bool st.now.fold) (f2 := .bool st.now.lines) (f3 := .bool st.now.dots) (f4 := .bool st.now.lazy) rfl rfl dJ ⟨rfl, rfl, rfl, rfl, trivial⟩ hB760 fun w768 hB769 hw770 => ?_))))))))
  have hE771 := hE762.step hw770 (fun y hy => .inl (by rw [List.mem_singleton.1 hy]; simp))
  refine aC (aA (aE (aE (aB (aF (aD rfl gD) (aF (aI rfl dX (aJ (hw770.blk (hw761.blk hB753 hA1.symm.nmem1) hA1.symm.nmem1) rfl)) (aC (aA (fW rfl (fun hc91 => ?_) (fun hc91 => ?_))))))))))
  ·rw [hc47] at hc91; cases hc91
  refine aU (aA (aE ?_)); have hgr : OT x _ _ bs ∧ Fr w bs := ⟨((hB755.evo hw761 (wG hFr9 hbw (Nat.le_refl _))).evo hw770 (wG hFr9 hbw (Nat.le_refl _))), hFr9⟩; obtain ⟨hgT, hgF⟩ := hgr; have hV23 := hE771; refine aB (aF (bX rfl bQ aY (hw770.blk (hw761.blk hB756 hA732.symm.nmem1) hA732.symm.nmem1) rfl) (bL (vs := [_]) rfl dD rfl rfl rfl rfl fun b99 w777 hO778 hs779 hw780 => ?_)); refine aM (aC (aA (aO (bS (br1 ?_))))); have hK := iI hO778 hgT hgF ((Ge.new (Evo.refl ([]) w768) hs779) _ rfl) ((Evo.refl ([]) w768).then hw780) (fun _ _ h => by cases h) hV23.size; obtain ⟨ka9, kc9, ko9, cs9, bs9, hv9, hk1, hk2, hk3⟩ := hK
  refine ⟨[x], { st2 with pos := st2.pos + 1, opn := st2.opn - 1, now := st.now }, (kZ ho hno hne250 hc42 (fun h => hnc h.1)).trans (by rw [if_neg hnc, hx]; exact (if_pos h41).trans (by rw [if_neg hnc])), (hE771.then hw780), ⟨(by show st2.opn - 1 = st.opn; omega), (by show st.pos ≤ st2.pos + 1; omega), h41.asc (by decide) hmv.bd, hmv.nm⟩, (by show st.pos < st2.pos + 1; omega), (by show 1 + st.pos ≤ st2.pos + 1; omega), a3, c3, ob3, ka9, kc9, ko9, cs9, bs9, hv9, hk1, hk2, hk3, ⟨(hw780.blk0 hB769), (((hR4.own.evo hw761 hR4.ap.symm.own1).evo hw770 hR4.ap.symm.own1).evo0 hw780), hR3.ne⟩, hnb4⟩
theorem EP : eY Tryz.prog 109 := ⟨_, Tryz.func109, by kernel_rfl, by kernel_rfl⟩
theorem EO : eY Tryz.prog 110 := ⟨_, Tryz.func110, by kernel_rfl, by kernel_rfl⟩
theorem EN : eY Tryz.prog 111 := ⟨_, Tryz.func111, by kernel_rfl, by kernel_rfl⟩
theorem uN : eY Tryz.prog 115 := ⟨_, Tryz.func115, by kernel_rfl, by kernel_rfl⟩
theorem tJ {s : ByteArray} : ∀ {f i j : Nat} {fst : Bool} {S T : Int → Prop}, eE s f fst S i = .ok (T, j) → Bd s i → Bd s j ∧ i < j
  | 0, i, j, fst, S, T, h, _ => by cases h
  | f + 1, i, j, fst, S, T, h, hb => by
    rw [eE] at h
    split at h
    · cases h
    · rename_i h0
      split at h
      · rename_i h1
        cases h
        exact ⟨(hb.asc (by omega) (by omega)).1, by omega⟩
      · cases h2 : iN s i with
        | error e => rw [h2] at h; cases h
        | ok x =>
          obtain ⟨U, k⟩ := x
          rw [h2] at h
          obtain ⟨h3, h4⟩ := pT h2 hb (by omega)
          obtain ⟨h5, h6⟩ := tJ h h3
          exact ⟨h5, by omega⟩
theorem tK {s : ByteArray} {fl : Fl} {i j : Nat} {x : Rx} (h : jH s fl i = .ok (x, j)) (hb : Bd s i) : Bd s j ∧ i < j := by
  unfold jH at h
  cases h1 : eE s (s.size + 1) true (fun _ => False) (if isB s i 94 then i + 1 else i) with
  | error e => rw [h1] at h; cases h
  | ok y =>
    obtain ⟨S, k⟩ := y
    rw [h1] at h
    cases h
    by_cases h2 : isB s i 94
    · rw [if_pos h2] at h1
      obtain ⟨h3, h4⟩ := tJ h1 (h2.asc (by decide) hb)
      exact ⟨h3, by omega⟩
    · rw [if_neg h2] at h1
      exact tJ h1 hb
section
variable {s : ByteArray} {ex : PS → PX Rx} {st : PS} {x : Rx} {j : Nat} {e : Int}
theorem QG (h : sb s st.pos = 40) : eM s ex st = oH s ex st := by unfold eM; rw [if_pos h]
theorem pc_cl (h : sb s st.pos = 91) (h2 : jH s st.now (st.pos + 1) = .ok (x, j)) : eM s ex st = .ok ([x], hY st j) := by unfold eM; rw [if_neg (by omega), if_pos h, h2]; rfl
theorem pc_clE (h : sb s st.pos = 91) (h2 : jH s st.now (st.pos + 1) = .error e) : eM s ex st = .error e := by unfold eM; rw [if_neg (by omega), if_pos h, h2]
theorem pc_es (h : sb s st.pos = 92) : eM s ex st = fV s st := by unfold eM; rw [if_neg (by omega), if_neg (by omega), if_pos h]
theorem pc_pl (h1 : ¬ sb s st.pos = 40) (h2 : ¬ sb s st.pos = 91) (h3 : ¬ sb s st.pos = 92) : eM s ex st = jG s st := by unfold eM; rw [if_neg h1, if_neg h2, if_neg h3]
theorem pl_all (h : (cE s st.pos).1 = 46) (h2 : st.now.dots = true) : jG s st = .ok ([kG (rs [(0, 1114111)])], hY st (st.pos + (cE s st.pos).2)) := by unfold jG; rw [if_pos h, if_pos h2]; rfl
theorem pl_dot (h : (cE s st.pos).1 = 46) (h2 : ¬ st.now.dots = true) : jG s st = .ok ([kG (rs [(0, 9), (11, 1114111)])], hY st (st.pos + (cE s st.pos).2)) := by unfold jG; rw [if_pos h, if_neg h2]; rfl
theorem pl_hat (h : (cE s st.pos).1 = 94) : jG s st = .ok ([rxK (if st.now.lines = true then 10 else 8)], hY st (st.pos + (cE s st.pos).2)) := by unfold jG; rw [if_neg (by omega), if_pos h]; rfl
theorem pl_dol (h : (cE s st.pos).1 = 36) : jG s st = .ok ([rxK (if st.now.lines = true then 11 else 9)], hY st (st.pos + (cE s st.pos).2)) := by unfold jG; rw [if_neg (by omega), if_neg (by omega), if_pos h]; rfl
theorem QB (h : ¬ (cE s st.pos).1 = 46) (h1 : ¬ (cE s st.pos).1 = 94) (h2 : ¬ (cE s st.pos).1 = 36) : jG s st = .ok ([lX st.now (cE s st.pos).1], hY st (st.pos + (cE s st.pos).2)) := by unfold jG; rw [if_neg h, if_neg h1, if_neg h2]; rfl
end
theorem PcPost.congr {b : Nat} {s : ByteArray} {pp qq : PS → PL} {st : PS} {ob : Option Nat} {w w' : World} {v : Value} (h : PcPost b s pp st ob w v w') (e : qq st = pp st) : PcPost b s qq st ob w v w' := by
  obtain ⟨l, st', h1, h2⟩ := h
  exact ⟨l, st', e.trans h1, h2⟩
theorem ExPan.congr {b : Nat} {α : Type} {pp qq : PS → PX α} {st : PS} {ob : Option Nat} {w w' : World} {v : Value} (h : ExPan b pp st ob w v w') (e : qq st = pp st) : ExPan b qq st ob w v w' := by
  obtain ⟨x, h1, h2⟩ := h
  exact ⟨x, e.trans h1, h2⟩
theorem PcPost.older {b : Nat} {s : ByteArray} {pp : PS → PL} {st : PS} {ob : Option Nat} {w w1 w' : World} {v : Value} (h : PcPost b s pp st ob w1 v w') (he : Evo [] w w1) : PcPost b s pp st ob w v w' := by
  obtain ⟨l, st', h1, h2, h3, h4, h5, a, c, o, ka, kc, ko, cs, bs, h6, h7, h8, h9, h10, h11⟩ := h
  exact ⟨l, st', h1, (he.any _).step h2 (fun y hy => .inl hy), h3, h4, h5, a, c, o, ka, kc, ko, cs, bs, h6, h7, h8, h9.older he.size, h10, (show NB w ob ob from .inl rfl).older h11 he.size⟩
theorem ExPan.older {b : Nat} {α : Type} {pp : PS → PX α} {st : PS} {ob : Option Nat} {w w1 w' : World} {v : Value} (h : ExPan b pp st ob w1 v w') (he : Evo [] w w1) : ExPan b pp st ob w v w' := by
  obtain ⟨e, h1, h2, h3⟩ := h
  exact ⟨e, h1, h2, (he.any _).step h3 (fun y hy => .inl hy)⟩
theorem PcPost.evo {b : Nat} {s : ByteArray} {pp : PS → PL} {st : PS} {ob : Option Nat} {w w' : World} {v : Value} (h : PcPost b s pp st ob w v w') : Evo (b :: ob.toList) w w' := by obtain ⟨l, st', h1, h2, _⟩ := h; exact h2
theorem QD {ex : PS → PX Rx} {w : World} {b : Nat} {s : ByteArray} {st : PS} {a : Option Addr} {c : Nat} {ob : Option Nat} (hex : st.opn < 250 → sQ b s ex (st.opn + 1)) (hR : RdAt w b s st a c ob) (hs : s.size ≤ 4096) (hlt : st.pos < s.size) (hop : st.opn ≤ 250) (hb : Bd s st.pos) (hnl : st.names.length ≤ 100) (hG : Glb w) (hGo : Apart (some oI) ob) :
    Calls Tryz.prog 87 #[.pointer (some ⟨b, 0, none⟩)] w (RetP (PcPost b s (eM s ex) st ob w) (ExPan b (eM s ex) st ob w)) := by
  have hap := hR.ap; have hgb : oI ∉ [b] := fun h => hR.glb hG (List.mem_singleton.1 h).symm; obtain ⟨hn1, hn2, hn3, hr0, hr1⟩ := hb.next hlt; refine bJ (N := 71) Tryz.func87 rfl rfl rfl ?_; refine aE (aB (aM (aC (aA (aE (aE ?_)))))); refine fH (by kernel_rfl) (by kernel_rfl) ?_; refine bM (fun _ hq2 => bO rfl) ?_; refine bM (fun _ hq2 => aP rfl) ?_; refine bM (fun _ hq2 => aD rfl dE) ?_; refine bM (fun _ hq2 => aI rfl cJ (aJ (hq2.blk0 hR.blk) rfl)) ?_; refine bM (fun _ hq2 => bO rfl) ?_; refine bM (fun _ hq2 => aP rfl) ?_; refine bM (fun _ hq2 => aD rfl bE) ?_; refine bM (fun _ hq2 => aI rfl aZ (aJ (hq2.blk0 hR.blk) rfl)) ?_; refine bM (fun _ hq2 => fL (n := st.pos) rfl rfl Tryz.underlying9 rfl hlt) ?_; refine fP (fun wq1 hq2 => aA ?_); have hE3 := (Evo.refl [b] w).then hq2; have hE4 := (Evo.refl [] w).then hq2; have hB5 := hq2.blk0 hR.blk; have hO6 := hR.own.evo0 hq2; refine bR (aE (aB (aF (bD rfl rfl) ?_))); refine aM (aC (aA (bF rfl (fun hc13 => ?_) (fun hc13 => ?_))))
  ·refine aE (aB (aG ?_)); refine bT (vs := [_]) EP rfl (JO hex ⟨hB5, hO6, hR.ne⟩ hs ⟨hlt, by omega⟩ hop hb hnl (hG.evo hE3 hgb) hGo) rfl ?_ ?_
   ·intro pv wp hpp; exact And.intro rfl ⟨_, rfl, (ExPan.older hpp hE4).congr (QG (by omega))⟩
   rintro rv w7 hpc; have hw8 := hpc.evo; have hV9 := hE3; refine aM (aC (aA (aO (aX (aN (bS (br1 ?_))))))); exact (PcPost.older hpc hE4).congr (QG (by omega))
  refine aE (aB (aF (bD rfl rfl) ?_)); refine aM (aC (aA (bF rfl (fun hc17 => ?_) (fun hc17 => ?_))))
  ·refine aE (aB (aG (aF (aP rfl) (aF (aD rfl bE) (aF (aI rfl aZ (aJ hB5 rfl)) ?_))))); refine aF (bC rfl rfl (by omega) (by omega)) ?_; refine aF (aP rfl) (aF (aD rfl bE) (bG rfl rfl (rfl) bV hB5 rfl fun w9 hB10 hw11 => ?_)); have hE12 := hE3.step hw11 (fun y hy => .inl hy)
   try simp only [cR, Nat.reduceAdd] at hB10
   refine aC (aA (aE (aB (aG ?_)))); refine bT (vs := [_]) EO rfl (TT (st := hY st (st.pos + 1)) ⟨hB10, (hO6.evo hw11 hap.symm.own1), hR.ne⟩ (by omega) (hb.asc hlt (by omega)).1 (hG.evo hE12 hgb)) rfl ?_ ?_
   ·intro pv wp hpp; obtain ⟨e9, hpe, rfl, hpw⟩ := hpp; exact And.intro rfl ⟨_, rfl, QJ (pc_clE (by omega) hpe) ((hE12).step hpw (fun y hy => .inl hy))⟩
   rintro rv w15 ⟨x, j, hx, hT, hw16, hR4⟩; have hcall9 := hw16; have hV9 := hE12; obtain ⟨hbj, hij⟩ := tK hx (hb.asc hlt (by omega)).1; have hij2 : st.pos + 1 < j := hij; obtain ⟨vs, bx, rfl, hOT, hFx⟩ := hT; obtain ⟨ra, rc, ka, kc, rfl⟩ := id hOT.nine; refine bL (vs := [_]) rfl dD rfl rfl rfl rfl fun b28 w18 hO19 hs20 hw21 => ?_; have hE26 := (hE12.step hw16 (fun y hy => .inl hy)).then hw21; have hB28 := hw21.blk0 hR4.blk; have hO29 := hR4.own.evo0 hw21; refine aM (aC (aA (aO (aX (aN (bS (br1 ?_)))))))
   exact xO (pp := eM s ex) hR (pc_cl (by omega) hx) (iI hO19 hOT (hFx.older hV9.size) ((Ge.new (Evo.refl [] w15) hs20) _ rfl) ((Evo.refl [] w15).then hw21) (fun b hb h => by cases h) (Nat.le_trans hV9.size hcall9.size)) hE26 ⟨hB28, hO29, hR4.ne⟩ rfl rfl hnl (by show st.pos < j; omega) hbj (by show 1 + st.pos ≤ j; omega)
  refine aE (aB (aF (bD rfl rfl) ?_)); refine aM (aC (aA (bF rfl (fun hc29 => ?_) (fun hc29 => ?_))))
  ·refine aE (aB (aG ?_)); refine bT (vs := [_]) EN rfl (OC ⟨hB5, hO6, hR.ne⟩ (by omega) hlt (by omega) hb (hG.evo hE3 hgb)) rfl ?_ ?_
   ·intro pv wp hpp; obtain ⟨e9, hpe, rfl, hpw⟩ := hpp; exact And.intro rfl ⟨_, rfl, QJ ((pc_es (by omega)).trans hpe) ((hE3).step hpw (fun y hy => .inl hy))⟩
   rintro rv w30 ⟨l, st', hx, hK, hw31, hR5, ho, hnm, hp, hbd, hll⟩; have hV9 := hE3; refine aM (aC (aA (aO (aX (aN (bS (br1 ?_))))))); exact xO (pp := eM s ex) hR ((pc_es (by omega)).trans hx) (hK.older hV9.size) (hE3.step hw31 (fun y hy => .inl hy)) ⟨hR5.blk, hR5.own, hR5.ne⟩ ho hnm hnl hp hbd hll
  refine aU (aW (aA (aE ?_))); have hpl : eM s ex st = jG s st := pc_pl (by omega) (by omega) (by omega); refine aB (aG ?_); refine aK (vs := [_]) nO rfl (wO ⟨hB5, hO6, hR.ne⟩ (by omega) hb) rfl ?_; rintro _ w33 ⟨rfl, hw34, hR2⟩; have hE35 := hE3.step hw34 (fun y hy => .inl hy); refine aM (aC (aA (aE (aB (aG (aC (aA (bR (aE (aB (aF (bD rfl rfl) ?_))))))))))); refine aM (aC (aA (bF rfl (fun hc40 => ?_) (fun hc40 => ?_))))
  ·refine aE (aE (aB (aG (aF (aP rfl) (aF (aD rfl eQ) (aF (aD rfl uR) (aF (aI rfl dX (aJ hR2.blk rfl)) (aC (aA (fW rfl (fun hc46 => ?_) (fun hc46 => ?_)))))))))))
   ·replace hc46 : st.now.dots = true := hc46; refine aE (aB (bL (vs := [_, _]) rfl bZ rfl rfl rfl rfl fun b36 w37 hO38 hs39 hw40 => ?_)); refine aK (vs := [_]) cA rfl (dQ (es := [0, 1114111]) hO38 (by decide)) rfl ?_; rintro _ w47 ⟨a1, c1, ob1, rfl, hO1, hg1, hw48⟩; have hE53 := (hE35.then hw40).then hw48; refine aK (vs := [_]) iL rfl (nI (l := [(0, 1114111)]) (S := rs [(0, 1114111)]) hO1 (iZ (by kernel_rfl)) (by decide) (fun c => Iff.rfl)) rfl ?_; rintro rv w57 ⟨hT, hw58⟩; have hcall9 := hw58; have hV9 := hE53; obtain ⟨vs, bx, rfl, hOT, hFx⟩ := hT; obtain ⟨ra, rc, ka, kc, rfl⟩ := id hOT.nine; refine bL (vs := [_]) rfl dD rfl rfl rfl rfl fun b50 w64 hO65 hs66 hw67 => ?_; have hE74 := (hE53.then hw58).then hw67; have hB76 := hw67.blk0 (hw58.blk0 (hw48.blk0 (hw40.blk0 hR2.blk))); have hO77 := (((hR2.own.evo0 hw40).evo0 hw48).evo0 hw58).evo0 hw67; refine aM (aC (aA (aO (aN (aX (bS (br1 ?_)))))))
    exact xO (pp := eM s ex) hR (hpl.trans (pl_all (by omega) hc46)) (iI hO65 hOT (hFx.older hV9.size) ((Ge.new (Evo.refl ([]) w57) hs66) _ rfl) ((Evo.refl ([]) w57).then hw67) (fun b hb h => by cases h) (Nat.le_trans hV9.size hcall9.size)) hE74 ⟨hB76, hO77, hR2.ne⟩ rfl rfl hnl (by show st.pos < st.pos + _; omega) hn3 (by show 1 + st.pos ≤ st.pos + _; omega)
   replace hc46 : st.now.dots = false := hc46; refine aU (aA (aE (aB (bL (vs := [_, _, _, _]) rfl bZ rfl rfl rfl rfl fun b80 w81 hO82 hs83 hw84 => ?_)))); refine aK (vs := [_]) cA rfl (dQ (es := [0, 9, 11, 1114111]) hO82 (by decide)) rfl ?_; rintro _ w91 ⟨a1, c1, ob1, rfl, hO1, hg1, hw92⟩; have hE97 := (hE35.then hw84).then hw92; refine aK (vs := [_]) iL rfl (nI (l := [(0, 9), (11, 1114111)]) (S := rs [(0, 9), (11, 1114111)]) hO1 (iZ (by kernel_rfl)) (by decide) (fun c => Iff.rfl)) rfl ?_; rintro rv w101 ⟨hT, hw102⟩; have hcall9 := hw102; have hV9 := hE97; obtain ⟨vs, bx, rfl, hOT, hFx⟩ := hT; obtain ⟨ra, rc, ka, kc, rfl⟩ := id hOT.nine; refine bL (vs := [_]) rfl dD rfl rfl rfl rfl fun b54 w108 hO109 hs110 hw111 => ?_; have hE118 := (hE97.then hw102).then hw111; have hB120 := hw111.blk0 (hw102.blk0 (hw92.blk0 (hw84.blk0 hR2.blk))); have hO121 := (((hR2.own.evo0 hw84).evo0 hw92).evo0 hw102).evo0 hw111; refine aM (aC (aA (aO (aX (bS (br1 ?_))))))
   exact xO (pp := eM s ex) hR (hpl.trans (pl_dot (by omega) (by simp [hc46]))) (iI hO109 hOT (hFx.older hV9.size) ((Ge.new (Evo.refl ([]) w101) hs110) _ rfl) ((Evo.refl ([]) w101).then hw111) (fun b hb h => by cases h) (Nat.le_trans hV9.size hcall9.size)) hE118 ⟨hB120, hO121, hR2.ne⟩ rfl rfl hnl (by show st.pos < st.pos + _; omega) hn3 (by show 1 + st.pos ≤ st.pos + _; omega)
  refine aE (aB (aF (bD rfl rfl) ?_)); refine aM (aC (aA (bF rfl (fun hc55 => ?_) (fun hc55 => ?_))))
  ·refine aE (aB (aG (aF (aP rfl) (aF (aD rfl eQ) (aF (aD rfl qJ) (aF (aI rfl dX (aJ hR2.blk rfl)) (aK (vs := [_, _, _]) uN rfl (QW 8 10 st.now.lines) rfl ?_))))))); rintro rv w124 ⟨hK, hw125⟩; have hV9 := hE35; refine aM (aC (aA (aO (aX (bS (br1 ?_))))))
   exact xO (pp := eM s ex) hR (hpl.trans (pl_hat (by omega))) (hK.older hV9.size) (hE35.then hw125) ⟨(hw125.blk0 hR2.blk), (hR2.own.evo0 hw125), hR2.ne⟩ rfl rfl hnl (by show st.pos < st.pos + _; omega) hn3 (by show 1 + st.pos ≤ st.pos + _; omega)
  refine aE (aB (aF (bD rfl rfl) ?_)); refine aM (aC (aA (bF rfl (fun hc63 => ?_) (fun hc63 => ?_))))
  ·refine aE (aB (aG (aF (aP rfl) (aF (aD rfl eQ) (aF (aD rfl qJ) (aF (aI rfl dX (aJ hR2.blk rfl)) (aK (vs := [_, _, _]) uN rfl (QW 9 11 st.now.lines) rfl ?_))))))); rintro rv w129 ⟨hK, hw130⟩; have hV9 := hE35; refine aM (aC (aA (aO (aX (bS (br1 ?_))))))
   exact xO (pp := eM s ex) hR (hpl.trans (pl_dol (by omega))) (hK.older hV9.size) (hE35.then hw130) ⟨(hw130.blk0 hR2.blk), (hR2.own.evo0 hw130), hR2.ne⟩ rfl rfl hnl (by show st.pos < st.pos + _; omega) hn3 (by show 1 + st.pos ≤ st.pos + _; omega)
  refine aE (aB (aG (aG (aK (vs := [_, _]) nN rfl (CE ⟨hR2.blk, hR2.own, hR2.ne⟩ (cE s st.pos).1 hr0 hr1) rfl ?_)))); rintro rv w134 ⟨hT, hw135⟩; have hcall9 := hw135; have hV9 := hE35; obtain ⟨vs, bx, rfl, hOT, hFx⟩ := hT; obtain ⟨ra, rc, ka, kc, rfl⟩ := id hOT.nine; refine bL (vs := [_]) rfl dD rfl rfl rfl rfl fun b39 w139 hO140 hs141 hw142 => ?_; have hE147 := (hE35.then hw135).then hw142; have hB149 := hw142.blk0 (hw135.blk0 hR2.blk); have hO150 := (hR2.own.evo0 hw135).evo0 hw142; refine aM (aC (aA (aO (aX (bS (br1 ?_))))))
  exact xO (pp := eM s ex) hR (hpl.trans (QB (by omega) (by omega) (by omega))) (iI hO140 hOT (hFx.older hV9.size) ((Ge.new (Evo.refl ([]) w134) hs141) _ rfl) ((Evo.refl ([]) w134).then hw142) (fun b hb h => by cases h) (Nat.le_trans hV9.size hcall9.size)) hE147 ⟨hB149, hO150, hR2.ne⟩ rfl rfl hnl (by show st.pos < st.pos + _; omega) hn3 (by show 1 + st.pos ≤ st.pos + _; omega)
end Go.Proofs.YtljadkcojnlioaaGreatDoor
namespace Go.Proofs.YtljadkcojnlioaaGreatDoor
open Go.RowKit Go.W
theorem BS {s : ByteArray} {i nn : Nat} {lo hi : Int} (hb : Bd s i) (hi0 : i < s.size) (h : kY (s.extract i s.size) = (lo, hi, nn)) : 0 ≤ lo ∧ lo ≤ 1001 ∧ -1 ≤ hi ∧ hi ≤ 1001 ∧ (nn ≠ 0 → i + nn ≤ s.size ∧ Bd s (i + nn)) := by
  have hrs := fU (s := s) (a := i) (Nat.le_refl s.size)
  have e0 : sb (s.extract i s.size) 0 = sb s i := gE (by omega)
  have one : sb s i < 128 → i + 1 ≤ s.size ∧ Bd s (i + 1) := fun h => ⟨hi0, (hb.asc hi0 h).1⟩
  by_cases h1 : sb (s.extract i s.size) 0 = 42
  · rw [KJ h1] at h; cases h
    exact ⟨by omega, by omega, by omega, by omega, fun _ => one (by omega)⟩
  · by_cases h2 : sb (s.extract i s.size) 0 = 43
    · rw [KL h2] at h; cases h
      exact ⟨by omega, by omega, by omega, by omega, fun _ => one (by omega)⟩
    · by_cases h3 : sb (s.extract i s.size) 0 = 63
      · rw [pr_qu h3] at h; cases h
        exact ⟨by omega, by omega, by omega, by omega, fun _ => one (by omega)⟩
      · by_cases h4 : sb (s.extract i s.size) 0 = 123
        · have close : ∀ {k : Nat}, isB (s.extract i s.size) k 125 → i + (k + 1) ≤ s.size ∧ Bd s (i + (k + 1)) := fun {k} hk => by
            have hk1 := hk.1
            have h6 : sb s (i + k) = 125 := by rw [← gE (by omega)]; exact hk.2
            exact ⟨by omega, by rw [← Nat.add_assoc]; exact isB.asc (b := 125) ⟨by omega, h6⟩ (by decide) (nU hb (by omega) (by omega) (by omega))⟩
          obtain ⟨lo1, j, hp1⟩ : ∃ lo1 j, gX (s.extract i s.size) (s.extract i s.size).size 1 0 = (lo1, j) := ⟨_, _, rfl⟩
          have hb1 := xS (r := s.extract i s.size) (f := (s.extract i s.size).size) (i := 1) (n := 0) (by omega) (by omega) (by omega)
          have hbr := pr_br h4 hp1
          rw [hp1] at hb1
          rw [h] at hbr
          replace hb1 : 0 ≤ lo1 ∧ lo1 ≤ 1001 ∧ 1 ≤ j ∧ j ≤ (s.extract i s.size).size := hb1
          split at hbr
          · rename_i hc
            have hb2 := xS (r := s.extract i s.size) (f := (s.extract i s.size).size) (i := j + 1) (n := 0) (by omega) (by omega) (by have := hc.2.1; omega)
            split at hbr
            · rename_i hd
              obtain ⟨rfl, hx⟩ := Prod.mk.inj hbr
              obtain ⟨rfl, rfl⟩ := Prod.mk.inj hx
              refine ⟨hb1.1, hb1.2.1, ?_, ?_, fun _ => close hd⟩
              · split <;> omega
              · split <;> omega
            · cases hbr; exact ⟨by omega, by omega, by omega, by omega, fun h => absurd rfl h⟩
          · split at hbr
            · cases hbr; exact ⟨by omega, by omega, by omega, by omega, fun h => absurd rfl h⟩
            · rename_i hc
              obtain ⟨rfl, hx⟩ := Prod.mk.inj hbr
              obtain ⟨rfl, rfl⟩ := Prod.mk.inj hx
              have hd : isB (s.extract i s.size) j 125 := Classical.not_not.1 (fun h => hc (.inr h))
              exact ⟨hb1.1, hb1.2.1, by omega, by omega, fun _ => close hd⟩
        · rw [PY h1 h2 h3 h4] at h; cases h
          exact ⟨by omega, by omega, by omega, by omega, fun h => absurd rfl h⟩
section
variable {s : ByteArray} {ex : PS → PX Rx} {f : Nat} {l g : List Rx} {ah : Bool} {st st2 : PS} {e lo hi : Int} {nn : Nat}
theorem lF (h : s.size ≤ st.pos ∨ sb s st.pos = 124 ∨ sb s st.pos = 41) : gZ s ex f l ah st = .ok (oZ 4 l, st) := by
  cases f with
  | zero => rfl
  | succ f => rw [gZ, if_pos h]
theorem tZ (h : ¬ (s.size ≤ st.pos ∨ sb s st.pos = 124 ∨ sb s st.pos = 41)) (hr : kY (s.extract st.pos s.size) = (lo, hi, 0)) (hp : eM s ex st = .error e) : gZ s ex (f + 1) l ah st = .error e := by
  rw [gZ, if_neg h, hr]; simp only; rw [if_pos trivial, hp]
theorem zB (h : ¬ (s.size ≤ st.pos ∨ sb s st.pos = 124 ∨ sb s st.pos = 41)) (hr : kY (s.extract st.pos s.size) = (lo, hi, 0)) (hp : eM s ex st = .ok (g, st2)) : gZ s ex (f + 1) l ah st = gZ s ex f (l ++ g) (decide (0 < g.length)) st2 := by
  rw [gZ, if_neg h, hr]; simp only; rw [if_pos trivial, hp]
theorem sD (h : ¬ (s.size ≤ st.pos ∨ sb s st.pos = 124 ∨ sb s st.pos = 41)) (hr : kY (s.extract st.pos s.size) = (lo, hi, nn)) (hn : nn ≠ 0) (hc : ah = false ∨ 1000 < lo ∨ 1000 < hi ∨ (0 ≤ hi ∧ hi < lo)) : gZ s ex (f + 1) l ah st = .error 82 := by
  rw [gZ, if_neg h, hr]; simp only; rw [if_neg hn, if_pos hc]
theorem sE (h : ¬ (s.size ≤ st.pos ∨ sb s st.pos = 124 ∨ sb s st.pos = 41)) (hr : kY (s.extract st.pos s.size) = (lo, hi, nn)) (hn : nn ≠ 0) (hc : ¬ (ah = false ∨ 1000 < lo ∨ 1000 < hi ∨ (0 ≤ hi ∧ hi < lo))) (hq : isB s (st.pos + nn) 63) :
    gZ s ex (f + 1) l ah st = gZ s ex f (l.dropLast ++ [iY lo hi (!st.now.lazy) (l.getLastD (rxK 1))]) false { st with pos := st.pos + nn + 1 } := by
  rw [gZ, if_neg h, hr]; simp only; rw [if_neg hn, if_neg hc, if_pos hq]
theorem tY (h : ¬ (s.size ≤ st.pos ∨ sb s st.pos = 124 ∨ sb s st.pos = 41)) (hr : kY (s.extract st.pos s.size) = (lo, hi, nn)) (hn : nn ≠ 0) (hc : ¬ (ah = false ∨ 1000 < lo ∨ 1000 < hi ∨ (0 ≤ hi ∧ hi < lo))) (hq : ¬ isB s (st.pos + nn) 63) :
    gZ s ex (f + 1) l ah st = gZ s ex f (l.dropLast ++ [iY lo hi st.now.lazy (l.getLastD (rxK 1))]) false { st with pos := st.pos + nn } := by
  rw [gZ, if_neg h, hr]; simp only; rw [if_neg hn, if_neg hc, if_neg hq]
theorem mX (h : ¬ isB s st.pos 124) : kV s ex f l st = .ok (oZ 5 l, st) := by
  cases f with
  | zero => rfl
  | succ f => rw [kV, if_neg h]
theorem rF (h : isB s st.pos 124) (hp : gZ s ex (s.size + 1) [] false (adv st 1) = .error e) : kV s ex (f + 1) l st = .error e := by
  rw [kV, if_pos h]; show (match gZ s ex (s.size + 1) [] false (adv st 1) with | .error e => _ | .ok (x, st2) => _) = _; rw [hp]
theorem sC {x : Rx} (h : isB s st.pos 124) (hp : gZ s ex (s.size + 1) [] false (adv st 1) = .ok (x, st2)) : kV s ex (f + 1) l st = kV s ex f (l ++ [x]) st2 := by
  rw [kV, if_pos h]; show (match gZ s ex (s.size + 1) [] false (adv st 1) with | .error e => _ | .ok (x, st2) => _) = _; rw [hp]
end
theorem Fr.right {w : World} {b1 b2 : List Nat} (h : Fr w (b1 ++ b2)) : Fr w b2 := ⟨(List.nodup_append.1 h.nd).2.1, fun b hb => h.ge b (List.mem_append_right _ hb)⟩
theorem Fr.sub {w : World} {b1 b2 : List Nat} (h : Fr w b2) (hs : b1.Sublist b2) : Fr w b1 := ⟨h.nd.sublist hs, fun b hb => h.ge b (hs.subset hb)⟩
theorem Fr.insert {w w1 : World} {b0 b1 b2 : List Nat} {g : Nat} (h : Fr w (b0 ++ (b1 ++ b2))) (hl : ∀ b, b ∈ b0 ++ (b1 ++ b2) → b < w1.heap.size) (hg : w1.heap.size ≤ g) (hw : w.heap.size ≤ w1.heap.size) : Fr w (b0 ++ (b1 ++ (g :: b2))) := by
  have hp : (b0 ++ (b1 ++ (g :: b2))).Perm (g :: (b0 ++ (b1 ++ b2))) := by
    rw [← List.append_assoc, ← List.append_assoc]
    exact List.perm_middle
  refine ⟨hp.nodup_iff.2 (List.nodup_cons.2 ⟨fun hm => ?_, h.nd⟩), fun b hb => ?_⟩
  · have := hl g hm; omega
  · rcases List.mem_cons.1 (hp.mem_iff.1 hb) with rfl | hb
    · omega
    · exact h.ge b hb
theorem uZ {w : World} {e e2 : TypeId} {sz sz2 : Nat} {a a2 : Option Addr} {n n2 c c2 : Nat} {xs xs2 : List Value} {o o2 : Option Nat} (h : OwnS w e sz a n c xs o) (h2 : OwnS w e2 sz2 a2 n2 c2 xs2 o2) (hne : e ≠ e2) : Apart o o2 := fun g h3 h4 => by
  rcases h.2 with ⟨_, _, h5⟩ | ⟨g', _, cur, hg, _, hb, _⟩
  · rw [h5] at h3; cases h3
  · rcases h2.2 with ⟨_, _, h5⟩ | ⟨g2, _, cur2, hg2, _, hb2, _⟩
    · rw [h5] at h4; cases h4
    · rw [h3] at hg; cases hg
      rw [h4] at hg2; cases hg2
      rw [hb] at hb2
      injection hb2 with hb2
      injection hb2 with _ hb2
      exact hne hb2
theorem BF {w : World} {e e2 : TypeId} {sz2 : Nat} {a2 : Option Addr} {n2 c2 : Nat} {xs2 : List Value} {o2 : Option Nat} {b : Nat} {cs : Array Value} (h : w.heap[b]? = some (.cells cs e (0, 0))) (h2 : OwnS w e2 sz2 a2 n2 c2 xs2 o2) (hne : e ≠ e2) : Apart (some b) o2 := fun g h3 h4 => by
  cases h3
  rcases h2.2 with ⟨_, _, h5⟩ | ⟨g2, _, cur2, hg2, _, hb2, _⟩
  · rw [h5] at h4; cases h4
  · rw [h4] at hg2; cases hg2
    rw [h] at hb2
    injection hb2 with hb2
    injection hb2 with _ hb2
    exact hne hb2
theorem put_end {c1 c2 vs : List Value} (h : vs.length = c2.length) : tH (c1 ++ c2) c1.length vs = c1 ++ vs := by
  unfold tH
  rw [List.take_left, List.drop_append, h]
  simp
theorem qB {w : World} {g : Nat} {c1 c2 : List Value} (h : CellsAt w g 0 (c1 ++ c2)) : CellsAt w g (0 + c1.length) c2 := fun j v hj => by
  have h1 := h (c1.length + j) v (by rw [List.getElem?_append_right (by omega)]; simpa using hj)
  rw [← Nat.add_assoc] at h1
  exact h1
theorem KF {l : List Rx} (h : l ≠ []) : ∃ l' x, l = l' ++ [x] ∧ l.dropLast = l' ∧ (∀ d, l.getLastD d = x) := by
  rcases List.eq_nil_or_concat l with rfl | ⟨l', x, rfl⟩
  · exact (h rfl).elim
  · exact ⟨l', x, by simp, by simp, fun d => by simp⟩
theorem BX {X : List Nat} {w1 w2 : World} {x : Rx} {vs : List Value} {bs : List Nat} {g : Nat} {lo hi : Int} {z : Bool} (hO : OwnS w2 27 9 (some ⟨g, 0, none⟩) 1 1 vs (some g)) (hT : OT x w1 vs bs) (he : Evo X w1 w2) (hx : ∀ b, b ∈ bs → b ∉ X) :
    OT (iY lo hi z x) w2 [iv 6, .int .i32 0, .slice none 0 0, iv lo, iv hi, .bool z, iv 0, .string ByteArray.empty, .slice (some ⟨g, 0, none⟩) 1 1] (g :: bs) := by
  unfold iY
  rw [OT]
  exact ⟨none, 0, none, _, 1, some g, vs, bs, rfl, OwnS.nil _ _ _, hO, OTs.single (hT.evo he hx), rfl, by simp, by show (0 : Nat) ≤ 1000000; omega, by simp⟩
end Go.Proofs.YtljadkcojnlioaaGreatDoor
namespace Go.Proofs.YtljadkcojnlioaaGreatDoor
open Go.RowKit Go.W
attribute [local irreducible] Decidable.decide
theorem oR : eY Tryz.prog 61 := ⟨_, Tryz.func61, by kernel_rfl, by kernel_rfl⟩
theorem HK : eY Tryz.prog 86 := ⟨_, Tryz.func86, by kernel_rfl, by kernel_rfl⟩
theorem HJ : eY Tryz.prog 87 := ⟨_, Tryz.func87, by kernel_rfl, by kernel_rfl⟩
noncomputable def mJ (s : ByteArray) (ex : PS → PX Rx) (st : PS) : PX Rx := gZ s ex (s.size + 1) [] false st
structure AtG where
  f : Nat
  sx : PS
  l : List Rx
  ah : Bool
  n : Nat
  qa : Option Addr
  qc : Nat
  qo : Option Nat
  bs : List Nat
  na : Option Addr
  nc : Nat
  no : Option Nat
structure AtI (w wr : World) (b : Nat) (s : ByteArray) (ex : PS → PX Rx) (st : PS) (ob : Option Nat) (b2 : Nat) (x : AtG) : Prop where
  hr : RdAt wr b s x.sx x.na x.nc x.no
  mv : Mv s st x.sx
  eq : mJ s ex st = gZ s ex x.f x.l x.ah x.sx
  hf : s.size + 1 ≤ x.f + x.sx.pos
  kt : ∃ cs, OwnS wr 27 9 x.qa x.n x.qc cs x.qo ∧ OTs x.l wr cs x.bs
  fr : Fr w (x.qo.toList ++ x.bs)
  len : x.l.length + st.pos ≤ x.sx.pos
  ahl : x.ah = true → x.l ≠ []
  nb : NB w ob x.no
  hb2 : wr.heap[b2]? = some (.cells #[iv 0, .int .i32 0, .slice none 0 0, iv 0, iv 0, .bool false, iv 0, .string ByteArray.empty, .slice none 0 0] 27 (0, 0))
  g2 : Ge w (some b2)
  a2 : b2 ∉ x.qo.toList ++ x.bs
theorem BW {w : World} {e : TypeId} {sz : Nat} {a : Option Addr} {n c : Nat} {xs : List Value} {o : Option Nat} (h : OwnS w e sz a n c xs o) : ∀ g, g ∈ o.toList → ∃ cs, w.heap[g]? = some (.cells cs e (0, 0)) := fun g hg => by
  rcases h.2 with ⟨_, _, h5⟩ | ⟨g', _, cur, hg2, _, hb, _⟩
  · rw [h5] at hg; cases hg
  · rw [hg2] at hg
    rw [List.mem_singleton.1 hg]; exact ⟨_, hb⟩
mutual
theorem OT.types : ∀ {x : Rx} {w : World} {vs : List Value} {bs : List Nat}, OT x w vs bs → ∀ g, g ∈ bs → ∃ cs T, w.heap[g]? = some (.cells cs T (0, 0)) ∧ (T = 27 ∨ T = 56)
  | .mk k r rs mn mx lz cp nm ks, w, vs, bs, h => by
    rw [OT] at h
    obtain ⟨ra, rc, rb, ka, kc, kb, cs, bk, h1, h2, h3, h4, rfl, h5⟩ := h
    intro g hg
    rcases List.mem_append.1 hg with hg | hg
    · obtain ⟨c, hc⟩ := BW h2 g hg; exact ⟨c, _, hc, .inr rfl⟩
    · rcases List.mem_append.1 hg with hg | hg
      · obtain ⟨c, hc⟩ := BW h3 g hg; exact ⟨c, _, hc, .inl rfl⟩
      · exact OTs.types h4 g hg
theorem OTs.types : ∀ {l : List Rx} {w : World} {cs : List Value} {bs : List Nat}, OTs l w cs bs → ∀ g, g ∈ bs → ∃ cs T, w.heap[g]? = some (.cells cs T (0, 0)) ∧ (T = 27 ∨ T = 56)
  | [], w, cs, bs, h => by rw [OTs] at h; rw [h.2]; exact fun g hg => by cases hg
  | x :: l, w, cs, bs, h => by
    rw [OTs] at h
    obtain ⟨vs, cs', b1, b2, h1, rfl, h3, h4⟩ := h
    intro g hg
    rcases List.mem_append.1 hg with hg | hg
    · exact OT.types h3 g hg
    · exact OTs.types h4 g hg
end
theorem nm_rd {w : World} {b : Nat} {s : ByteArray} {st : PS} {a : Option Addr} {c : Nat} {ob : Option Nat} {qa : Option Addr} {n qc : Nat} {cs : List Value} {qo : Option Nat} {l : List Rx} {bs : List Nat} (hR : RdAt w b s st a c ob) (hO : OwnS w 27 9 qa n qc cs qo) (hT : OTs l w cs bs) : ∀ q, q ∈ qo.toList ++ bs → q ∉ b :: ob.toList := fun q hq hm => by
  have h1 : ∃ cs T, w.heap[q]? = some (.cells cs T (0, 0)) ∧ (T = 27 ∨ T = 56) := by
    rcases List.mem_append.1 hq with hq | hq
    · obtain ⟨c, hc⟩ := BW hO q hq; exact ⟨c, _, hc, .inl rfl⟩
    · exact hT.types q hq
  obtain ⟨c1, T, h1, hTT⟩ := h1
  rcases List.mem_cons.1 hm with rfl | hm
  · rw [hR.blk] at h1
    injection h1 with h1
    injection h1 with _ h1
    rw [← h1] at hTT
    exact absurd hTT (by decide +kernel)
  · obtain ⟨c2, h2⟩ := BW hR.own q hm
    rw [h2] at h1
    injection h1 with h1
    injection h1 with _ h1
    rw [← h1] at hTT
    exact absurd hTT (by decide +kernel)
theorem FQ {w2 : World} {q : Nat} {o o2 : Option Nat} {bs bx : List Nat} (h : q ∉ o.toList ++ bs) (hq : q < w2.heap.size) (hx : ∀ b, b ∈ bx → q ≠ b) (hob : o2 = o ∨ ∃ g, o2 = some g ∧ w2.heap.size ≤ g) : q ∉ o2.toList ++ (bs ++ bx) := fun hm => by
  rcases List.mem_append.1 hm with hm | hm
  · rcases hob with rfl | ⟨g, rfl, hg⟩
    · exact h (List.mem_append_left _ hm)
    · rw [List.mem_singleton.1 hm] at hq; omega
  · rcases List.mem_append.1 hm with hm | hm
    · exact h (List.mem_append_right _ hm)
    · exact hx q hm rfl
theorem oM {w w' : World} {e : TypeId} {sz : Nat} {a : Option Addr} {n c k g : Nat} {c1 c2 vs : List Value} {ob : Option Nat} {cur : Array Value} {U : TypeId} (h : OwnS w e sz a n c (c1 ++ c2) ob) (hg : ob = some g) (hb : w.heap[g]? = some (.cells cur U (0, 0))) (hc1 : c1.length = k * sz) (hk : k < n) (hc2 : c2.length = sz) (hv : vs.length = sz)
    (hb' : w'.heap[g]? = some (.cells (cur.toList.take (0 + k * sz) ++ vs ++ cur.toList.drop (0 + k * sz + sz)).toArray U (0, 0))) : OwnS w' e sz a n c (c1 ++ vs) ob := by
  have h1 := OwnS.put h hg hb (o := 0 + k * sz) (by omega) hk hv hb'
  rw [Nat.zero_add, ← hc1, put_end (by omega)] at h1
  exact h1
theorem IE {w : World} {b : Nat} {s : ByteArray} {st : PS} {a : Option Addr} {c : Nat} {ob : Option Nat} {lo hi : Int} {nn : Nat} (hR : RdAt w b s st a c ob) (hs : s.size ≤ 1000000) (hlt : st.pos < s.size) (hrp : kY (s.extract st.pos s.size) = (lo, hi, nn)) :
    Calls Tryz.prog 86 #[.pointer (some ⟨b, 0, none⟩)] w (Ret fun v w' => v = .tuple #[iv lo, iv hi, iv (nn : Nat)] ∧ Evo [] w w') := by
  have h := IF hR hs hlt
  rw [hrp] at h
  exact h
theorem ap_nm {q : Nat} {o : Option Nat} {l : List Nat} (h : q ∉ o.toList ++ l) : Apart (some q) o := fun g h1 h2 => by cases h1; exact h (List.mem_append_left _ (by simp [h2]))
theorem GO {b : Nat} {o : Option Nat} : ∀ y, y ∈ [b] → y ∈ b :: o.toList := fun y hy => by rw [List.mem_singleton.1 hy]; simp
theorem rG {ex : PS → PX Rx} {w : World} {b : Nat} {s : ByteArray} {st : PS} {a : Option Addr} {c : Nat} {ob : Option Nat} (hex : st.opn < 250 → sQ b s ex (st.opn + 1)) (hR : RdAt w b s st a c ob) (hs : s.size ≤ 4096) (hop : st.opn ≤ 250) (hb : Bd s st.pos) (hnl : st.names.length ≤ 100) (hG : Glb w) (hGo : Apart (some oI) ob) :
    Calls Tryz.prog 59 #[.pointer (some ⟨b, 0, none⟩)] w (RetP (JS b s (mJ s ex) st ob w) (ExPan b (mJ s ex) st ob w)) := by
  have hap := hR.ap; have hgb : oI ∉ [b] := fun h => hR.glb hG (List.mem_singleton.1 h).symm; have hgw := SO hgb hGo; have hbw : Lt w (some b) := Lt.blk hR.blk; have how : Lt w ob := Lt.own hR.own; refine bJ (N := 115) Tryz.func59 rfl rfl rfl ?_; refine aE (aB (dA rfl dS fun b2 w1 hB2 hs3 hw4 => ?_)); have hsz_b2 := hs3; have hA5 := Apart.new (Lt.blk hR.blk) hs3; have hG7 := Ge.new (Evo.refl (b :: ob.toList) w) hs3; refine aC (aA (aE (aB (aM (aC (aA (aE (aB (aM (aC (aA (aE (bR ?_)))))))))))))
  refine eV (α := AtG) (⟨s.size + 1, st, [], false, 0, none, 0, none, [], a, c, ob⟩) (fun x => [(3, .slice x.qa x.n x.qc), (4, .bool x.ah)]) [(0, _), (2, _)] (fun x wr => Evo (b :: ob.toList) w wr ∧ (AtI w wr b s ex st ob b2 x)) (fun x => x.f) ⟨rfl, rfl, trivial⟩ ⟨rfl, rfl, trivial⟩ ⟨((Evo.refl (b :: ob.toList) w).then hw4), ⟨⟨(hw4.blk0 hR.blk), (hR.own.evo0 hw4), hR.ne⟩, ⟨rfl, Nat.le_refl _, hb, hnl⟩, rfl, Nat.le_add_right _ _, ⟨[], OwnS.nil _ _ _, OTs.nil _⟩, Fr.nil _, (by show 0 + st.pos ≤ st.pos; omega), (fun h => by cases h), .inl rfl, hB2, hG7, List.not_mem_nil⟩⟩ ?_
  rintro ⟨f, sx, l, ah, n, qa, qc, qo, bs, na, nc, no⟩ wr11 ⟨hV12, ⟨hR1, hmv, heq, hfi, ⟨cs, hown, hts⟩, hfr, hlen, hahl, hnb, hb2, hg2, ha2⟩⟩; show CW _ _ _ _ [(3, .slice qa n qc), (4, .bool ah), (0, _), (2, _)] _
  try dsimp only at hR1
  try dsimp only at hmv
  try dsimp only at heq
  try dsimp only at hfi
  try dsimp only at cs
  try dsimp only at hown
  try dsimp only at hts
  try dsimp only at hfr
  try dsimp only at hlen
  try dsimp only at hahl
  try dsimp only at hnb
  try dsimp only at hb2
  try dsimp only at hg2
  try dsimp only at ha2
  have hA1 : Apart (some b) qo := kW hbw (oO hfr); have hA2 := uZ hown hR1.own (by decide +kernel); have hA3 : Apart (some b) (some b2) := kW hbw hg2; have hA4 := BF hb2 hR1.own (by decide +kernel); have hA5 := ap_nm ha2; have hGo1 := fM hGo (CM hG) hnb; have hpl := hmv.bd.le; have hmle := hmv.le; have nmq := nm_rd hR1 hown hts; refine aE (aE ?_); refine fH (by kernel_rfl) (by kernel_rfl) ?_; refine bM (fun _ hq14 => bO rfl) ?_; refine bM (fun _ hq14 => aP rfl) ?_; refine bM (fun _ hq14 => aD rfl bE) ?_; refine bM (fun _ hq14 => aI rfl aZ (aJ (hq14.blk0 hR1.blk) rfl)) ?_; refine bM (fun _ hq14 => bO rfl) ?_; refine bM (fun _ hq14 => aP rfl) ?_; refine bM (fun _ hq14 => aD rfl dE) ?_; refine bM (fun _ hq14 => aI rfl cJ (aJ (hq14.blk0 hR1.blk) rfl)) ?_; refine bM (fun _ hq14 => cM rfl Tryz.underlying9 rfl) ?_; refine bM (fun _ hq14 => dF rfl rfl) ?_; refine bM (fun _ hq14 => bO rfl) ?_; refine kX (t := 21) rfl (fun hs21 => ?_) (fun hs21 => ?_)
  ·refine qlg ?_; refine bM (fun _ hq14 => bO rfl) ?_; refine qlg ?_; refine bM (fun _ hq14 => aP rfl) ?_; refine qlg ?_; refine bM (fun _ hq14 => aD rfl dE) ?_; refine qlg ?_; refine bM (fun _ hq14 => aI rfl cJ (aJ (hq14.blk0 hR1.blk) rfl)) ?_; refine qlg ?_; refine bM (fun _ hq14 => bO rfl) ?_; refine qlg ?_; refine bM (fun _ hq14 => aP rfl) ?_; refine qlg ?_; refine bM (fun _ hq14 => aD rfl bE) ?_; refine qlg ?_; refine bM (fun _ hq14 => aI rfl aZ (aJ (hq14.blk0 hR1.blk) rfl)) ?_; refine qlg ?_; refine bM (fun _ hq14 => fL (n := sx.pos) rfl rfl Tryz.underlying9 rfl (by omega)) ?_; refine qlg ?_; refine bM (fun _ hq14 => fX rfl rfl) ?_; refine bM (fun _ hq14 => hD rfl rfl) ?_; refine bM (fun _ hq14 => bO rfl) ?_; refine kX (t := 33) rfl (fun hs33 => ?_) (fun hs33 => ?_)
   ·refine qlg ?_; refine bM (fun _ hq14 => bO rfl) ?_; refine qlg ?_; refine bM (fun _ hq14 => aP rfl) ?_; refine qlg ?_; refine bM (fun _ hq14 => aD rfl dE) ?_; refine qlg ?_; refine bM (fun _ hq14 => aI rfl cJ (aJ (hq14.blk0 hR1.blk) rfl)) ?_; refine qlg ?_; refine bM (fun _ hq14 => bO rfl) ?_; refine qlg ?_; refine bM (fun _ hq14 => aP rfl) ?_; refine qlg ?_; refine bM (fun _ hq14 => aD rfl bE) ?_; refine qlg ?_; refine bM (fun _ hq14 => aI rfl aZ (aJ (hq14.blk0 hR1.blk) rfl)) ?_; refine qlg ?_; refine bM (fun _ hq14 => fL (n := sx.pos) rfl rfl Tryz.underlying9 rfl (by omega)) ?_; refine qlg ?_; refine bM (fun _ hq14 => fX rfl rfl) ?_; refine bM (fun _ hq14 => hD rfl rfl) ?_; refine fP (fun wq13 hq14 => aA ?_); have hE15 := hV12.then hq14; have hB16 := hq14.blk0 hR1.blk; have hO17 := hR1.own.evo0 hq14; have hF19 := hts.evo0 hq14; refine bF rfl (fun hc44 => ?_) (fun hc44 => ?_)
    ·have hng : ¬ (s.size ≤ sx.pos ∨ sb s sx.pos = 124 ∨ sb s sx.pos = 41) := by omega
     obtain ⟨f', rfl⟩ : ∃ f', f = f' + 1 := ⟨f - 1, by omega⟩; obtain ⟨lo, hi, nn, hrp⟩ : ∃ lo hi nn, kY (s.extract sx.pos s.size) = (lo, hi, nn) := ⟨_, _, _, rfl⟩; obtain ⟨hlo0, hlo1, hhi0, hhi1, hnn⟩ := BS hmv.bd (by omega) hrp; have hopx : sx.opn = st.opn := hmv.opn
     have hex' : sx.opn < 250 → sQ b s ex (sx.opn + 1) := by rw [hopx]; exact hex
     refine aU (aA (bR (aE (aB (aG ?_))))); refine aK (vs := [_]) HK rfl (IE ⟨hB16, hO17, hR1.ne⟩ (by omega) (by omega) hrp) rfl ?_; rintro _ w21 ⟨rfl, hw22⟩; have hE23 := hE15.then hw22; have hB24 := hw22.blk0 hB16; have hO25 := hO17.evo0 hw22; have hO26 := (hown.evo0 hq14).evo0 hw22; have hF27 := hF19.evo0 hw22; have hB28 := hw22.blk0 (hq14.blk0 hb2); refine aG (aF (cN rfl rfl) ?_); refine aF (cN rfl rfl) ?_; refine aF (cN rfl rfl) ?_; refine aM (aM (aM (aC (aA (aE (aE (aB (aG (aF (bD rfl rfl) ?_))))))))); refine aC (aA (bF rfl (fun hc52 => ?_) (fun hc52 => ?_)))
     ·obtain rfl : nn = 0 := by omega
      refine aE (aB (aG ?_)); refine bT (vs := [_]) HJ rfl (QD hex' ⟨hB24, hO25, hR1.ne⟩ hs (by omega) (by omega) hmv.bd hmv.nm (hG.evo hE23 hgw) hGo1) rfl ?_ ?_
      ·intro pv wp hpp; obtain ⟨e9, hpe, rfl, hpw⟩ := hpp; exact And.intro rfl ⟨_, rfl, _, heq.trans (tZ hng hrp hpe), rfl, (hE23).step hpw (lV hnb)⟩
      rintro rv w29 ⟨g, st2, hx, hw30, hmv2, hp2, hl2, na3, nc3, no3, ka, kc, ko, cs2, bs2, rfl, hk1, hk2, hk3, hR3, hnb3⟩; have hcall9 := hw30; have hV9 := hE23; have hl1 := oV hO26 hF27; have hnb4 := hnb.older hnb3 hV9.size; have hkg : ∀ q, q ∈ ko.toList ++ bs2 → _ ≤ q := hk3.ge; have hb2l := eW hB28
      have hA73 : Apart ko qo := fun q h1 h2 => by have h3 := hkg q (List.mem_append_left _ (by simp [h1])); have h4 := hl1 q (List.mem_append_left _ (by simp [h2])); omega
      have hA76 : Apart ko (some b2) := fun q h1 h2 => by cases h2; have h3 := hkg b2 (List.mem_append_left _ (by simp [h1])); omega
      have hB32 := hO26.evo hw30 (fun q hq => nmq q (List.mem_append_left _ (by simp [hq]))); have hB34 := hw30.blk hB28 (sF hA3.symm hA4); have hA71 := uZ hB32 hR3.own (by decide +kernel); refine aM (aC (aA (aE (aB (aG (aG ?_)))))); have hPT9 := hk2; have hVV := (Evo.refl [] w29); have hb29 := eW hB34
      refine dL rfl rfl rfl rfl kI hB32 (Src.ofOwn hk1 hk2.one) (by have h8 := qV hown hts; have h9 := hmv2.bd.le; omega) fun qa2 qc2 w37 qo2 hO2 hw40 hob41 => ?_
      have hF49 := (hF27.evo hw30 (fun q hq => nmq q (List.mem_append_right _ hq))).evo hw40 (qN hfr)
      have hF54 := hk2.evo hw40 (fun q hq h => by have h8 := hkg q (List.mem_append_right _ hq); have h9 := hl1 q (List.mem_append_left _ h); omega)
      have hob2 := hob41; have hFr9 := Fr.grow hfr hl1 hk3.right (OTs.lt hPT9) hV9.size (Nat.le_trans hcall9.size hVV.size) hob2
      have hnin := FQ ha2 hb29 (fun q hq e => by have h8 := hkg q (List.mem_append_right _ hq); omega) hob2
      refine aM (aC (aA (aE (aB (aG (aF (bK rfl Tryz.underlying25 rfl) ?_)))))); refine aF (gL rfl rfl) ?_; refine aM (aC (aA (dO (cD (dN (bY ?_)))))); refine ⟨⟨f', st2, l ++ g, decide (0 < (g.length : Int)), n + g.length, qa2, qc2, qo2, bs ++ bs2, na3, nc3, no3⟩, ?_, ⟨rfl, rfl, trivial⟩, ⟨rfl, rfl, trivial⟩, ((hE23.step hw30 (lV hnb)).step hw40 (oO hfr).mem), ?_⟩
      · (try dsimp only); show f' < f' + 1; omega
      try dsimp only
      refine ⟨⟨(hw40.blk hR3.blk hA1.nmem), (hR3.own.evo hw40 hA71.symm.own), hR3.ne⟩, ⟨hmv2.opn.trans hmv.opn, Nat.le_trans hmv.le hmv2.le, hmv2.bd, hmv2.nm⟩, heq.trans ((zB hng hrp hx).trans ?_), (by show s.size + 1 ≤ f' + st2.pos; omega), ⟨_, hO2, OTs.app hF49 hF54⟩, hFr9, (by show (l ++ g).length + st.pos ≤ st2.pos; rw [List.length_append]; omega), ?_, hnb4, (hw40.blk hB34 hA5.nmem), hg2, hnin⟩
      · rw [show decide (0 < (g.length : Int)) = decide (0 < g.length) from decide_eq_decide.2 (by omega)]
      · intro h h9; have h8 : 0 < (g.length : Int) := of_decide_eq_true h; have h7 := (List.append_eq_nil_iff.1 h9).2; rw [h7] at h8; exact absurd h8 (by decide +kernel)
     have hnn0 : nn ≠ 0 := by omega
     refine aU (aA (aE (aE (aB (aG (aF (fF rfl) ?_)))))); refine aG (gU (t := 63) rfl (fun hs63 => ?_) (fun hs63 => ?_))
     ·replace hs63 := congrArg Bool.not hs63; simp only [Bool.not_not, Bool.not_true, Bool.not_false] at hs63; subst hs63
      refine aH (aH (bH (aG (aH (aH (bH (aG (aH (aH (aH (fO ?_))))))))))); refine fO ?_; refine fO ?_; refine aH (bH (aC (aA (cV rfl ?_)))); refine aB (bT (vs := [_]) cS rfl (eO 82) rfl ?_ ?_)
      ·intro pv wp hpp; obtain ⟨rfl, hpw⟩ := hpp; exact And.intro rfl ⟨_, rfl, _, heq.trans (sD hng hrp hnn0 (.inl rfl)), rfl, (hE23).then hpw⟩
      intro _ _ hF; exact hF.elim
     replace hs63 := congrArg Bool.not hs63; simp only [Bool.not_not, Bool.not_true, Bool.not_false] at hs63; subst hs63
     refine aQ (aG (aQ (aF (gL rfl rfl) ?_))); refine aR (aG (aV (t := 67) rfl (fun hs67 => ?_) (fun hs67 => ?_)))
     ·refine aH (aH (bH (aG (aH (aH (aH (fO ?_))))))); refine fO ?_; refine fO ?_; refine aH (bH (aC (aA (cV rfl ?_)))); refine aB (bT (vs := [_]) cS rfl (eO 82) rfl ?_ ?_)
      ·intro pv wp hpp; obtain ⟨rfl, hpw⟩ := hpp; exact And.intro rfl ⟨_, rfl, _, heq.trans (sD hng hrp hnn0 (.inr (by omega))), rfl, (hE23).then hpw⟩
      intro _ _ hF; exact hF.elim
     refine aQ (aG (aQ (aF (gL rfl rfl) ?_))); refine aR (aG (aV (t := 71) rfl (fun hs71 => ?_) (fun hs71 => ?_)))
     ·refine aH (aH (aH (fO ?_))); refine fO ?_; refine fO ?_; refine aH (bH (aC (aA (cV rfl ?_)))); refine aB (bT (vs := [_]) cS rfl (eO 82) rfl ?_ ?_)
      ·intro pv wp hpp; obtain ⟨rfl, hpw⟩ := hpp; exact And.intro rfl ⟨_, rfl, _, heq.trans (sD hng hrp hnn0 (.inr (by omega))), rfl, (hE23).then hpw⟩
      intro _ _ hF; exact hF.elim
     refine aQ (aG (aQ (aF (gC rfl rfl) ?_))); refine aQ (aG (aV (t := 74) rfl (fun hs74 => ?_) (fun hs74 => ?_)))
     ·refine aQ (aG (aQ (aG (aQ (aF (dF rfl rfl) ?_))))); refine aQ (bH (aR (aC (aA (bF rfl (fun hc79 => ?_) (fun hc79 => ?_))))))
      ·refine aB (bT (vs := [_]) cS rfl (eO 82) rfl ?_ ?_)
       ·intro pv wp hpp; obtain ⟨rfl, hpw⟩ := hpp; exact And.intro rfl ⟨_, rfl, _, heq.trans (sD hng hrp hnn0 (.inr (by omega))), rfl, (hE23).then hpw⟩
       intro _ _ hF; exact hF.elim
      refine aU (aA (aE ?_)); obtain ⟨hnb1, hnb2⟩ := hnn hnn0
      have hcc : ¬ (true = false ∨ 1000 < lo ∨ 1000 < hi ∨ (0 ≤ hi ∧ hi < lo)) := by rintro (h | h | h | ⟨h, h'⟩); cases h; omega; omega; omega
      obtain ⟨l', x, hlx, hdl, hgl⟩ := KF (hahl rfl); have hne := qV hown hts
      have hn1 : n = l'.length + 1 := by rw [hne, hlx]; simp
      refine aB (aG (aF (aP rfl) (aF (aD rfl bE) (aF (aI rfl aZ (aJ hB24 rfl)) (aG ?_))))); refine aF (bC rfl rfl (by omega) (by omega)) ?_; refine aF (aP rfl) (aF (aD rfl bE) (bG rfl rfl (rfl) bV hB24 rfl fun w63 hB64 hw65 => ?_))
      have hE66 := hE23.step hw65 (fun y hy => .inl (by rw [List.mem_singleton.1 hy]; simp))
      have hF69 := hF27.evo hw65 (fun q hq h => nmq q (List.mem_append_right _ hq) (GO q h))
      try simp only [cR, Nat.reduceAdd] at hB64
      refine aC (aA (aE (aB (aG (aF (aP rfl) (aF (aD rfl eQ) (aF (aD rfl qI) (aF (aI rfl dX (aJ hB64 rfl)) (aM (aC (aA (aE (aE (aB (aG ?_))))))))))))))); refine aK (vs := [_, _]) iC rfl (lR (st := hY sx (sx.pos + nn)) ⟨hB64, (hO25.evo hw65 hR1.ap.symm.own1), hR1.ne⟩ (by omega) 63 (by decide)) rfl ?_; rintro _ w71 ⟨rfl, hw72, hR7⟩
      have hE73 := hE66.step hw72 (fun y hy => .inl (by rw [List.mem_singleton.1 hy]; simp))
      have hB74 := (hO26.evo hw65 hA1.symm.own1).evo hw72 ((by first | exact hA1.symm.own1 | exact hA1.symm.nmem1)); have hB75 := hF69.evo hw72 (fun q hq h => nmq q (List.mem_append_right _ hq) (GO q h)); have hB76 := hw72.blk (hw65.blk hB28 hA3.symm.nmem1) ((by first | exact hA3.symm.own1 | exact hA3.symm.nmem1)); refine aC (aA (bF rfl (fun hc95 => ?_) (fun hc95 => ?_)))
      ·rw [if_pos hc95] at hR7; refine aB (aG (aF (fF rfl) ?_)); refine aM (aC (aA (aE (aB (aG (aF (bK rfl Tryz.underlying25 rfl) ?_)))))); refine aF (gK rfl rfl (by omega) (by omega)) ?_; refine aM (aC (aA (aE ?_))); have hts16 := hB75; rw [hlx] at hts16; obtain ⟨c1, c2, b1, bx, hcs, hbs, ht1, ht2⟩ := OTs.parts hts16; have hl16 := oV hB74 hB75; have hV16 := hE73; have hb216 := eW hB76; subst hcs; subst hbs; have hX := ht2.one'; obtain ⟨ra, rc, ka, kc, rfl⟩ := id hX.nine; obtain ⟨gq, hgq, haq, hcq⟩ := (hB74).cells (by omega); have hcl := qB hcq; have hc1l := ht1.len; rw [hc1l] at hcl; refine aB (aG (aG (aG (aG (aG (aG (aG ?_))))))); refine aF (fR (n := l'.length) rfl rfl haq (by omega) dT (by omega)) ?_; refine aF (eJ rfl bQ aY (vs := [_, _, _, _, _, _, _, _, _]) rfl (hcl.evo (Evo.refl [] w71) (by simp))) ?_; refine bL (vs := [_]) rfl dD rfl rfl rfl rfl fun b110 w77 hO78 hs79 hw80 => ?_; have hO91 := hB74.evo0 hw80; refine aF (eN (vs := [(0, _), (3, _), (4, _), (5, _), (8, _)]) dK rfl (cells := [_, _, _, _, _, _, _, _, _]) rfl) ?_; have hG110 := (Ge.new (Evo.refl [] w71) hs79); refine aF (fR (n := l'.length) rfl rfl haq (by omega) dT (by omega)) ?_
       obtain ⟨g9, cur9, hg9, hx9, hcu9, hcs9, -⟩ := hO91.at (by omega)
       rw [haq] at hx9; cases hx9
       refine mL rfl rfl aY rfl (fun u hu => AllOne.mem (l := [_, _, _, _, _, _, _, _, _]) ⟨rfl, rfl, rfl, rfl, rfl, rfl, rfl, rfl, rfl, trivial⟩ u hu) hcu9 (by have h8 := (hO91).le; rw [hcs9]; omega) fun w96 hB97 hw98 => ?_
       replace hw98 := sY hg9 hw98; have hO99 := oM hO91 hg9 hcu9 hc1l (by omega) rfl rfl hB97; have hE102 := ((Evo.refl qo.toList w71).then hw80).step hw98 (fun y hy => .inl hy); have hB104 := hw98.blk (hw80.blk0 hB76) hA5.nmem; refine aC (aA (aB (aM (aC (aW (bY ?_)))))); refine ⟨⟨f', hY sx (sx.pos + nn + 1), l' ++ [iY lo hi (!sx.now.lazy) x], false, n, qa, qc, qo, b1 ++ (b110 :: bx), na, nc, no⟩, ?_, ⟨rfl, rfl, trivial⟩, ⟨rfl, rfl, trivial⟩, ((hE73.then hw80).step hw98 (oO hfr).mem), ?_⟩
       · (try dsimp only); show f' < f' + 1; omega
       try dsimp only
       have hRp := BX (lo := lo) (hi := hi) (z := !sx.now.lazy) (hO78.evo hw98 (Apart.new (Lt.own hB74) hs79).symm.own) hX hE102 (fun q hq => qN hfr q (List.mem_append_right _ hq)); have hge110 := hG110 _ rfl
       refine ⟨⟨(hw98.blk (hw80.blk0 hR7.blk) hA1.nmem), ((hR7.own.evo0 hw80).evo hw98 hA2.symm.own), hR7.ne⟩, ⟨hmv.opn, (by show st.pos ≤ sx.pos + nn + 1; omega), hc95.asc (by decide) hnb2, hmv.nm⟩, heq.trans ((sE hng hrp hnn0 hcc hc95).trans (by rw [hdl, hgl]; rfl)), (by show s.size + 1 ≤ f' + (sx.pos + nn + 1); omega), ⟨_, hO99, OTs.app (ht1.evo hE102 (fun q hq => qN hfr q (List.mem_append_left _ hq))) (OTs.single hRp)⟩, Fr.insert hfr hl16 hge110 hV16.size, ?_, (fun h => by cases h), hnb, hB104, hg2, ?_⟩
       · show (l' ++ [_]).length + st.pos ≤ sx.pos + nn + 1; rw [hlx] at hlen; rw [List.length_append] at hlen ⊢; simp at hlen ⊢; omega
       · intro hm; rcases List.mem_append.1 hm with hm | hm
         · exact ha2 (List.mem_append_left _ hm)
         · rcases List.mem_append.1 hm with hm | hm
           · exact ha2 (List.mem_append_right _ (List.mem_append_left _ hm))
           · rcases List.mem_cons.1 hm with hm | hm
             · omega
             · exact ha2 (List.mem_append_right _ (List.mem_append_right _ hm))
      rw [if_neg hc95] at hR7; refine aU (aA (aE (aB (aG (aF (bK rfl Tryz.underlying25 rfl) ?_))))); refine aF (gK rfl rfl (by omega) (by omega)) ?_; refine aM (aC (aA (aE ?_))); have hts16 := hB75; rw [hlx] at hts16; obtain ⟨c1, c2, b1, bx, hcs, hbs, ht1, ht2⟩ := OTs.parts hts16; have hl16 := oV hB74 hB75; have hV16 := hE73; have hb216 := eW hB76; subst hcs; subst hbs; have hX := ht2.one'; obtain ⟨ra, rc, ka, kc, rfl⟩ := id hX.nine; obtain ⟨gq, hgq, haq, hcq⟩ := (hB74).cells (by omega); have hcl := qB hcq; have hc1l := ht1.len; rw [hc1l] at hcl; refine aB (aG (aG (aG (aG (aG (aG (aG ?_))))))); refine aF (fR (n := l'.length) rfl rfl haq (by omega) dT (by omega)) ?_; refine aF (eJ rfl bQ aY (vs := [_, _, _, _, _, _, _, _, _]) rfl (hcl.evo (Evo.refl [] w71) (by simp))) ?_; refine bL (vs := [_]) rfl dD rfl rfl rfl rfl fun b110 w108 hO109 hs110 hw111 => ?_; have hO122 := hB74.evo0 hw111; refine aF (eN (vs := [(0, _), (3, _), (4, _), (5, _), (8, _)]) dK rfl (cells := [_, _, _, _, _, _, _, _, _]) rfl) ?_; have hG110 := (Ge.new (Evo.refl [] w71) hs110); refine aF (fR (n := l'.length) rfl rfl haq (by omega) dT (by omega)) ?_
      obtain ⟨g9, cur9, hg9, hx9, hcu9, hcs9, -⟩ := hO122.at (by omega)
      rw [haq] at hx9; cases hx9
      refine mL rfl rfl aY rfl (fun u hu => AllOne.mem (l := [_, _, _, _, _, _, _, _, _]) ⟨rfl, rfl, rfl, rfl, rfl, rfl, rfl, rfl, rfl, trivial⟩ u hu) hcu9 (by have h8 := (hO122).le; rw [hcs9]; omega) fun w127 hB128 hw129 => ?_
      replace hw129 := sY hg9 hw129; have hO130 := oM hO122 hg9 hcu9 hc1l (by omega) rfl rfl hB128; have hE133 := ((Evo.refl qo.toList w71).then hw111).step hw129 (fun y hy => .inl hy); have hB135 := hw129.blk (hw111.blk0 hB76) hA5.nmem; refine aC (aA (aB (aM (aC (aW (bY ?_)))))); refine ⟨⟨f', hY sx (sx.pos + nn), l' ++ [iY lo hi (sx.now.lazy) x], false, n, qa, qc, qo, b1 ++ (b110 :: bx), na, nc, no⟩, ?_, ⟨rfl, rfl, trivial⟩, ⟨rfl, rfl, trivial⟩, ((hE73.then hw111).step hw129 (oO hfr).mem), ?_⟩
      · (try dsimp only); show f' < f' + 1; omega
      try dsimp only
      have hRp := BX (lo := lo) (hi := hi) (z := sx.now.lazy) (hO109.evo hw129 (Apart.new (Lt.own hB74) hs110).symm.own) hX hE133 (fun q hq => qN hfr q (List.mem_append_right _ hq)); have hge110 := hG110 _ rfl
      refine ⟨⟨(hw129.blk (hw111.blk0 hR7.blk) hA1.nmem), ((hR7.own.evo0 hw111).evo hw129 hA2.symm.own), hR7.ne⟩, ⟨hmv.opn, (by show st.pos ≤ sx.pos + nn; omega), hnb2, hmv.nm⟩, heq.trans ((tY hng hrp hnn0 hcc hc95).trans (by rw [hdl, hgl]; rfl)), (by show s.size + 1 ≤ f' + (sx.pos + nn); omega), ⟨_, hO130, OTs.app (ht1.evo hE133 (fun q hq => qN hfr q (List.mem_append_left _ hq))) (OTs.single hRp)⟩, Fr.insert hfr hl16 hge110 hV16.size, ?_, (fun h => by cases h), hnb, hB135, hg2, ?_⟩
      · show (l' ++ [_]).length + st.pos ≤ sx.pos + nn; rw [hlx] at hlen; rw [List.length_append] at hlen ⊢; simp at hlen ⊢; omega
      · intro hm; rcases List.mem_append.1 hm with hm | hm
        · exact ha2 (List.mem_append_left _ hm)
        · rcases List.mem_append.1 hm with hm | hm
          · exact ha2 (List.mem_append_right _ (List.mem_append_left _ hm))
          · rcases List.mem_cons.1 hm with hm | hm
            · omega
            · exact ha2 (List.mem_append_right _ (List.mem_append_right _ hm))
     refine aH (aH (aH (aQ (aR (aR (aC (aA (cO rfl ?_)))))))); refine aU (aA (aE ?_)); obtain ⟨hnb1, hnb2⟩ := hnn hnn0
     have hcc : ¬ (true = false ∨ 1000 < lo ∨ 1000 < hi ∨ (0 ≤ hi ∧ hi < lo)) := by rintro (h | h | h | ⟨h, h'⟩); cases h; omega; omega; omega
     obtain ⟨l', x, hlx, hdl, hgl⟩ := KF (hahl rfl); have hne := qV hown hts
     have hn1 : n = l'.length + 1 := by rw [hne, hlx]; simp
     refine aB (aG (aF (aP rfl) (aF (aD rfl bE) (aF (aI rfl aZ (aJ hB24 rfl)) (aG ?_))))); refine aF (bC rfl rfl (by omega) (by omega)) ?_; refine aF (aP rfl) (aF (aD rfl bE) (bG rfl rfl (rfl) bV hB24 rfl fun w139 hB140 hw141 => ?_))
     have hE142 := hE23.step hw141 (fun y hy => .inl (by rw [List.mem_singleton.1 hy]; simp))
     have hF145 := hF27.evo hw141 (fun q hq h => nmq q (List.mem_append_right _ hq) (GO q h))
     try simp only [cR, Nat.reduceAdd] at hB140
     refine aC (aA (aE (aB (aG (aF (aP rfl) (aF (aD rfl eQ) (aF (aD rfl qI) (aF (aI rfl dX (aJ hB140 rfl)) (aM (aC (aA (aE (aE (aB (aG ?_))))))))))))))); refine aK (vs := [_, _]) iC rfl (lR (st := hY sx (sx.pos + nn)) ⟨hB140, (hO25.evo hw141 hR1.ap.symm.own1), hR1.ne⟩ (by omega) 63 (by decide)) rfl ?_; rintro _ w147 ⟨rfl, hw148, hR7⟩
     have hE149 := hE142.step hw148 (fun y hy => .inl (by rw [List.mem_singleton.1 hy]; simp))
     have hB150 := (hO26.evo hw141 hA1.symm.own1).evo hw148 ((by first | exact hA1.symm.own1 | exact hA1.symm.nmem1)); have hB151 := hF145.evo hw148 (fun q hq h => nmq q (List.mem_append_right _ hq) (GO q h)); have hB152 := hw148.blk (hw141.blk hB28 hA3.symm.nmem1) ((by first | exact hA3.symm.own1 | exact hA3.symm.nmem1)); refine aC (aA (bF rfl (fun hc95 => ?_) (fun hc95 => ?_)))
     ·rw [if_pos hc95] at hR7; refine aB (aG (aF (fF rfl) ?_)); refine aM (aC (aA (aE (aB (aG (aF (bK rfl Tryz.underlying25 rfl) ?_)))))); refine aF (gK rfl rfl (by omega) (by omega)) ?_; refine aM (aC (aA (aE ?_))); have hts16 := hB151; rw [hlx] at hts16; obtain ⟨c1, c2, b1, bx, hcs, hbs, ht1, ht2⟩ := OTs.parts hts16; have hl16 := oV hB150 hB151; have hV16 := hE149; have hb216 := eW hB152; subst hcs; subst hbs; have hX := ht2.one'; obtain ⟨ra, rc, ka, kc, rfl⟩ := id hX.nine; obtain ⟨gq, hgq, haq, hcq⟩ := (hB150).cells (by omega); have hcl := qB hcq; have hc1l := ht1.len; rw [hc1l] at hcl; refine aB (aG (aG (aG (aG (aG (aG (aG ?_))))))); refine aF (fR (n := l'.length) rfl rfl haq (by omega) dT (by omega)) ?_; refine aF (eJ rfl bQ aY (vs := [_, _, _, _, _, _, _, _, _]) rfl (hcl.evo (Evo.refl [] w147) (by simp))) ?_; refine bL (vs := [_]) rfl dD rfl rfl rfl rfl fun b110 w153 hO154 hs155 hw156 => ?_; have hO167 := hB150.evo0 hw156; refine aF (eN (vs := [(0, _), (3, _), (4, _), (5, _), (8, _)]) dK rfl (cells := [_, _, _, _, _, _, _, _, _]) rfl) ?_; have hG110 := (Ge.new (Evo.refl [] w147) hs155); refine aF (fR (n := l'.length) rfl rfl haq (by omega) dT (by omega)) ?_
      obtain ⟨g9, cur9, hg9, hx9, hcu9, hcs9, -⟩ := hO167.at (by omega)
      rw [haq] at hx9; cases hx9
      refine mL rfl rfl aY rfl (fun u hu => AllOne.mem (l := [_, _, _, _, _, _, _, _, _]) ⟨rfl, rfl, rfl, rfl, rfl, rfl, rfl, rfl, rfl, trivial⟩ u hu) hcu9 (by have h8 := (hO167).le; rw [hcs9]; omega) fun w172 hB173 hw174 => ?_
      replace hw174 := sY hg9 hw174; have hO175 := oM hO167 hg9 hcu9 hc1l (by omega) rfl rfl hB173; have hE178 := ((Evo.refl qo.toList w147).then hw156).step hw174 (fun y hy => .inl hy); have hB180 := hw174.blk (hw156.blk0 hB152) hA5.nmem; refine aC (aA (aB (aM (aC (aW (bY ?_)))))); refine ⟨⟨f', hY sx (sx.pos + nn + 1), l' ++ [iY lo hi (!sx.now.lazy) x], false, n, qa, qc, qo, b1 ++ (b110 :: bx), na, nc, no⟩, ?_, ⟨rfl, rfl, trivial⟩, ⟨rfl, rfl, trivial⟩, ((hE149.then hw156).step hw174 (oO hfr).mem), ?_⟩
      · (try dsimp only); show f' < f' + 1; omega
      try dsimp only
      have hRp := BX (lo := lo) (hi := hi) (z := !sx.now.lazy) (hO154.evo hw174 (Apart.new (Lt.own hB150) hs155).symm.own) hX hE178 (fun q hq => qN hfr q (List.mem_append_right _ hq)); have hge110 := hG110 _ rfl
      refine ⟨⟨(hw174.blk (hw156.blk0 hR7.blk) hA1.nmem), ((hR7.own.evo0 hw156).evo hw174 hA2.symm.own), hR7.ne⟩, ⟨hmv.opn, (by show st.pos ≤ sx.pos + nn + 1; omega), hc95.asc (by decide) hnb2, hmv.nm⟩, heq.trans ((sE hng hrp hnn0 hcc hc95).trans (by rw [hdl, hgl]; rfl)), (by show s.size + 1 ≤ f' + (sx.pos + nn + 1); omega), ⟨_, hO175, OTs.app (ht1.evo hE178 (fun q hq => qN hfr q (List.mem_append_left _ hq))) (OTs.single hRp)⟩, Fr.insert hfr hl16 hge110 hV16.size, ?_, (fun h => by cases h), hnb, hB180, hg2, ?_⟩
      · show (l' ++ [_]).length + st.pos ≤ sx.pos + nn + 1; rw [hlx] at hlen; rw [List.length_append] at hlen ⊢; simp at hlen ⊢; omega
      · intro hm; rcases List.mem_append.1 hm with hm | hm
        · exact ha2 (List.mem_append_left _ hm)
        · rcases List.mem_append.1 hm with hm | hm
          · exact ha2 (List.mem_append_right _ (List.mem_append_left _ hm))
          · rcases List.mem_cons.1 hm with hm | hm
            · omega
            · exact ha2 (List.mem_append_right _ (List.mem_append_right _ hm))
     rw [if_neg hc95] at hR7; refine aU (aA (aE (aB (aG (aF (bK rfl Tryz.underlying25 rfl) ?_))))); refine aF (gK rfl rfl (by omega) (by omega)) ?_; refine aM (aC (aA (aE ?_))); have hts16 := hB151; rw [hlx] at hts16; obtain ⟨c1, c2, b1, bx, hcs, hbs, ht1, ht2⟩ := OTs.parts hts16; have hl16 := oV hB150 hB151; have hV16 := hE149; have hb216 := eW hB152; subst hcs; subst hbs; have hX := ht2.one'; obtain ⟨ra, rc, ka, kc, rfl⟩ := id hX.nine; obtain ⟨gq, hgq, haq, hcq⟩ := (hB150).cells (by omega); have hcl := qB hcq; have hc1l := ht1.len; rw [hc1l] at hcl; refine aB (aG (aG (aG (aG (aG (aG (aG ?_))))))); refine aF (fR (n := l'.length) rfl rfl haq (by omega) dT (by omega)) ?_; refine aF (eJ rfl bQ aY (vs := [_, _, _, _, _, _, _, _, _]) rfl (hcl.evo (Evo.refl [] w147) (by simp))) ?_; refine bL (vs := [_]) rfl dD rfl rfl rfl rfl fun b110 w184 hO185 hs186 hw187 => ?_; have hO198 := hB150.evo0 hw187; refine aF (eN (vs := [(0, _), (3, _), (4, _), (5, _), (8, _)]) dK rfl (cells := [_, _, _, _, _, _, _, _, _]) rfl) ?_; have hG110 := (Ge.new (Evo.refl [] w147) hs186); refine aF (fR (n := l'.length) rfl rfl haq (by omega) dT (by omega)) ?_
     obtain ⟨g9, cur9, hg9, hx9, hcu9, hcs9, -⟩ := hO198.at (by omega)
     rw [haq] at hx9; cases hx9
     refine mL rfl rfl aY rfl (fun u hu => AllOne.mem (l := [_, _, _, _, _, _, _, _, _]) ⟨rfl, rfl, rfl, rfl, rfl, rfl, rfl, rfl, rfl, trivial⟩ u hu) hcu9 (by have h8 := (hO198).le; rw [hcs9]; omega) fun w203 hB204 hw205 => ?_
     replace hw205 := sY hg9 hw205; have hO206 := oM hO198 hg9 hcu9 hc1l (by omega) rfl rfl hB204; have hE209 := ((Evo.refl qo.toList w147).then hw187).step hw205 (fun y hy => .inl hy); have hB211 := hw205.blk (hw187.blk0 hB152) hA5.nmem; refine aC (aA (aB (aM (aC (aW (bY ?_)))))); refine ⟨⟨f', hY sx (sx.pos + nn), l' ++ [iY lo hi (sx.now.lazy) x], false, n, qa, qc, qo, b1 ++ (b110 :: bx), na, nc, no⟩, ?_, ⟨rfl, rfl, trivial⟩, ⟨rfl, rfl, trivial⟩, ((hE149.then hw187).step hw205 (oO hfr).mem), ?_⟩
     · (try dsimp only); show f' < f' + 1; omega
     try dsimp only
     have hRp := BX (lo := lo) (hi := hi) (z := sx.now.lazy) (hO185.evo hw205 (Apart.new (Lt.own hB150) hs186).symm.own) hX hE209 (fun q hq => qN hfr q (List.mem_append_right _ hq)); have hge110 := hG110 _ rfl
     refine ⟨⟨(hw205.blk (hw187.blk0 hR7.blk) hA1.nmem), ((hR7.own.evo0 hw187).evo hw205 hA2.symm.own), hR7.ne⟩, ⟨hmv.opn, (by show st.pos ≤ sx.pos + nn; omega), hnb2, hmv.nm⟩, heq.trans ((tY hng hrp hnn0 hcc hc95).trans (by rw [hdl, hgl]; rfl)), (by show s.size + 1 ≤ f' + (sx.pos + nn); omega), ⟨_, hO206, OTs.app (ht1.evo hE209 (fun q hq => qN hfr q (List.mem_append_left _ hq))) (OTs.single hRp)⟩, Fr.insert hfr hl16 hge110 hV16.size, ?_, (fun h => by cases h), hnb, hB211, hg2, ?_⟩
     · show (l' ++ [_]).length + st.pos ≤ sx.pos + nn; rw [hlx] at hlen; rw [List.length_append] at hlen ⊢; simp at hlen ⊢; omega
     · intro hm; rcases List.mem_append.1 hm with hm | hm
       · exact ha2 (List.mem_append_left _ hm)
       · rcases List.mem_append.1 hm with hm | hm
         · exact ha2 (List.mem_append_right _ (List.mem_append_left _ hm))
         · rcases List.mem_cons.1 hm with hm | hm
           · omega
           · exact ha2 (List.mem_append_right _ (List.mem_append_right _ hm))
    refine dO (cD (cD (dN (aA ?_)))); refine aE (aB (aG ?_)); refine aK (vs := [_, _]) oR rfl (BK 4 (hown.evo0 hq14) hF19 (by omega)) rfl ?_; rintro rv w215 ⟨⟨vs, bs', rfl, hOT, hsub⟩, hw216⟩; have hV9 := hE15; obtain ⟨ra, rc, ka, kc, rfl⟩ := id hOT.nine; refine bI rfl rfl aY (hw216.blk0 (hq14.blk0 hb2)) rfl rfl ⟨rfl, rfl, rfl, rfl, rfl, rfl, rfl, rfl, rfl, trivial⟩ fun w223 hB224 hw225 => ?_
    have hF231 := (hF19.evo0 hw216).evo hw225 (fun q hq h => ha2 (List.mem_append_right _ (by rw [← List.mem_singleton.1 h]; exact hq)))
    try simp only [cR, Nat.reduceAdd] at hB224
    refine aC (aA (aO (bS (cX rfl (ResOk.cellA rfl bQ aY hB224 rfl) ?_))))
    exact ⟨oZ 4 l, sx, heq.trans (lF (by omega)), ((hE15.then hw216).step hw225 hg2.mem1), hmv, na, nc, no, _, bs', rfl, hOT.evo ((Evo.refl ([b2]) w215).step hw225 (fun y hy => .inl hy)) (fun q hq h => ha2 (by rw [← List.mem_singleton.1 h]; exact hsub.subset hq)), hfr.sub hsub, ⟨(hw225.blk (hw216.blk0 hB16) hA3.nmem1), ((hO17.evo0 hw216).evo hw225 hA4.symm.own1), hR1.ne⟩, hnb⟩
   refine qln ?_; refine qln ?_; refine qln ?_; refine qln ?_; refine qln ?_; refine qln ?_; refine qln ?_; refine qln ?_; refine qln ?_; refine qln ?_; refine bM (fun _ hq14 => iE rfl rfl) ?_; refine fP (fun wq13 hq14 => aA ?_); refine cO rfl ?_; refine dO (cD (cD (dN (aA ?_)))); refine aE (aB (aG ?_)); refine aK (vs := [_, _]) oR rfl (BK 4 (hown.evo0 hq14) (hts.evo0 hq14) (by omega)) rfl ?_; rintro rv w238 ⟨⟨vs, bs', rfl, hOT, hsub⟩, hw239⟩; have hV9 := (hV12.then hq14); obtain ⟨ra, rc, ka, kc, rfl⟩ := id hOT.nine; refine bI rfl rfl aY (hw239.blk0 (hq14.blk0 hb2)) rfl rfl ⟨rfl, rfl, rfl, rfl, rfl, rfl, rfl, rfl, rfl, trivial⟩ fun w246 hB247 hw248 => ?_
   have hF254 := ((hts.evo0 hq14).evo0 hw239).evo hw248 (fun q hq h => ha2 (List.mem_append_right _ (by rw [← List.mem_singleton.1 h]; exact hq)))
   try simp only [cR, Nat.reduceAdd] at hB247
   refine aC (aA (aO (bS (cX rfl (ResOk.cellA rfl bQ aY hB247 rfl) ?_))))
   exact ⟨oZ 4 l, sx, heq.trans (lF (by omega)), (((hV12.then hq14).then hw239).step hw248 hg2.mem1), hmv, na, nc, no, _, bs', rfl, hOT.evo ((Evo.refl ([b2]) w238).step hw248 (fun y hy => .inl hy)) (fun q hq h => ha2 (by rw [← List.mem_singleton.1 h]; exact hsub.subset hq)), hfr.sub hsub, ⟨(hw248.blk (hw239.blk0 (hq14.blk0 hR1.blk)) hA3.nmem1), (((hR1.own.evo0 hq14).evo0 hw239).evo hw248 hA4.symm.own1), hR1.ne⟩, hnb⟩
  refine qln ?_; refine qln ?_; refine qln ?_; refine qln ?_; refine qln ?_; refine qln ?_; refine qln ?_; refine qln ?_; refine qln ?_; refine qln ?_; refine bM (fun _ hq14 => iE rfl rfl) ?_; refine bM (fun _ hq14 => bO rfl) ?_; refine qln ?_; refine qln ?_; refine qln ?_; refine qln ?_; refine qln ?_; refine qln ?_; refine qln ?_; refine qln ?_; refine qln ?_; refine qln ?_; refine bM (fun _ hq14 => iE rfl rfl) ?_; refine fP (fun wq13 hq14 => aA ?_); refine cO rfl ?_; refine dO (cD (cD (dN (aA ?_)))); refine aE (aB (aG ?_)); refine aK (vs := [_, _]) oR rfl (BK 4 (hown.evo0 hq14) (hts.evo0 hq14) (by omega)) rfl ?_; rintro rv w261 ⟨⟨vs, bs', rfl, hOT, hsub⟩, hw262⟩; have hV9 := (hV12.then hq14); obtain ⟨ra, rc, ka, kc, rfl⟩ := id hOT.nine; refine bI rfl rfl aY (hw262.blk0 (hq14.blk0 hb2)) rfl rfl ⟨rfl, rfl, rfl, rfl, rfl, rfl, rfl, rfl, rfl, trivial⟩ fun w269 hB270 hw271 => ?_
  have hF277 := ((hts.evo0 hq14).evo0 hw262).evo hw271 (fun q hq h => ha2 (List.mem_append_right _ (by rw [← List.mem_singleton.1 h]; exact hq)))
  try simp only [cR, Nat.reduceAdd] at hB270
  refine aC (aA (aO (bS (cX rfl (ResOk.cellA rfl bQ aY hB270 rfl) ?_))))
  exact ⟨oZ 4 l, sx, heq.trans (lF (by omega)), (((hV12.then hq14).then hw262).step hw271 hg2.mem1), hmv, na, nc, no, _, bs', rfl, hOT.evo ((Evo.refl ([b2]) w261).step hw271 (fun y hy => .inl hy)) (fun q hq h => ha2 (by rw [← List.mem_singleton.1 h]; exact hsub.subset hq)), hfr.sub hsub, ⟨(hw271.blk (hw262.blk0 (hq14.blk0 hR1.blk)) hA3.nmem1), (((hR1.own.evo0 hq14).evo0 hw262).evo hw271 hA4.symm.own1), hR1.ne⟩, hnb⟩
theorem vY : eY Tryz.prog 59 := ⟨_, Tryz.func59, by kernel_rfl, by kernel_rfl⟩
structure EtG where
  f : Nat
  sx : PS
  l : List Rx
  n : Nat
  qa : Option Addr
  qc : Nat
  qo : Option Nat
  bs : List Nat
  na : Option Addr
  nc : Nat
  no : Option Nat
structure EtI (w wr : World) (b : Nat) (s : ByteArray) (ex : PS → PX Rx) (st : PS) (ob : Option Nat) (b2 : Nat) (x : EtG) : Prop where
  hr : RdAt wr b s x.sx x.na x.nc x.no
  mv : Mv s st x.sx
  eq : iU s ex st = kV s ex x.f x.l x.sx
  hf : s.size + 1 ≤ x.f + x.sx.pos
  kt : ∃ cs, OwnS wr 27 9 x.qa x.n x.qc cs x.qo ∧ OTs x.l wr cs x.bs
  fr : Fr w (x.qo.toList ++ x.bs)
  len : x.l.length + st.pos ≤ x.sx.pos + 1
  nb : NB w ob x.no
  hb2 : wr.heap[b2]? = some (.cells #[iv 0, .int .i32 0, .slice none 0 0, iv 0, iv 0, .bool false, iv 0, .string ByteArray.empty, .slice none 0 0] 27 (0, 0))
  g2 : Ge w (some b2)
  a2 : b2 ∉ x.qo.toList ++ x.bs
theorem MA {s : ByteArray} {ex : PS → PX Rx} {st : PS} {e : Int} (h : mJ s ex st = .error e) : iU s ex st = .error e := by
  unfold iU; unfold mJ at h; rw [h]
theorem qC {s : ByteArray} {ex : PS → PX Rx} {st st2 : PS} {x : Rx} (h : mJ s ex st = .ok (x, st2)) : iU s ex st = kV s ex (s.size + 1) [x] st2 := by
  unfold iU; unfold mJ at h; rw [h]
theorem qO {ex : PS → PX Rx} {w : World} {b : Nat} {s : ByteArray} {st : PS} {a : Option Addr} {c : Nat} {ob : Option Nat} (hex : st.opn < 250 → sQ b s ex (st.opn + 1)) (hR : RdAt w b s st a c ob) (hs : s.size ≤ 4096) (hop : st.opn ≤ 250) (hb : Bd s st.pos) (hnl : st.names.length ≤ 100) (hG : Glb w) (hGo : Apart (some oI) ob) :
    Calls Tryz.prog 36 #[.pointer (some ⟨b, 0, none⟩)] w (RetP (JS b s (iU s ex) st ob w) (ExPan b (iU s ex) st ob w)) := by
  have hap := hR.ap; have hgb : oI ∉ [b] := fun h => hR.glb hG (List.mem_singleton.1 h).symm; have hgw := SO hgb hGo; have hbw : Lt w (some b) := Lt.blk hR.blk; have how : Lt w ob := Lt.own hR.own; refine bJ (N := 16) Tryz.func36 rfl rfl rfl ?_; refine aE (aB (dA rfl dS fun b2 w1 hB2 hs3 hw4 => ?_)); have hsz_b2 := hs3; have hA5 := Apart.new (Lt.blk hR.blk) hs3; have hG7 := Ge.new (Evo.refl (b :: ob.toList) w) hs3; have hE8 := (Evo.refl (b :: ob.toList) w).then hw4; refine aC (aA (aE (aB (aG (bT (vs := [_]) vY rfl (rG hex ⟨(hw4.blk0 hR.blk), (hR.own.evo0 hw4), hR.ne⟩ hs hop hb hnl (hG.evo hE8 hgw) hGo) rfl ?_ ?_)))))
  ·intro pv wp hpp; obtain ⟨e9, hpe, rfl, hpw⟩ := hpp; exact And.intro rfl ⟨_, rfl, _, MA hpe, rfl, (hE8).step hpw (lV (show NB w ob ob from .inl rfl))⟩
  rintro rv w11 ⟨x, st1, hx, hw12, hmv1, na1, nc1, no1, vs, bx, rfl, hOT, hFx, hR1, hnb1⟩; have hcall9 := hw12; have hV9 := hE8; have hnb9 := (show NB w ob ob from .inl rfl).older hnb1 hV9.size; have hb2l := eW hB2; have hxg : ∀ q, q ∈ bx → _ ≤ q := hFx.ge; have hE13 := hE8.step hw12 (lV (show NB w ob ob from .inl rfl)); obtain ⟨ra, rc, ka, kc, rfl⟩ := id hOT.nine; refine bL (vs := [_]) rfl dD rfl rfl rfl rfl fun b6 w15 hO16 hs17 hw18 => ?_; have hG22 := Ge.new hE13 hs17; have hG23 := Ge.new (Evo.refl [] w11) hs17; refine aM (aC (aA (aE (bR ?_))))
  refine eV (α := EtG) (⟨s.size + 1, st1, [x], 1, some ⟨b6, 0, none⟩, 1, some b6, bx, na1, nc1, no1⟩) (fun x => [(3, .slice x.qa x.n x.qc)]) [(0, _), (2, _)] (fun x wr => Evo (b :: ob.toList) w wr ∧ (EtI w wr b s ex st ob b2 x)) (fun x => x.f) ⟨rfl, trivial⟩ ⟨rfl, rfl, trivial⟩ ⟨(hE13.then hw18), ⟨⟨(hw18.blk0 hR1.blk), (hR1.own.evo0 hw18), hR1.ne⟩, hmv1, qC hx, Nat.le_add_right _ _, ⟨_, hO16, OTs.single (hOT.evo0 hw18)⟩, ⟨List.nodup_cons.2 ⟨fun h => (by have h8 := hOT.lt b6 h; have h9 := hG23 _ rfl; omega), hFx.nd⟩, fun q hq => by rcases List.mem_cons.1 hq with rfl | hq; (exact hG22 _ rfl); (have h8 := hxg q hq; have h7 := hV9.size; omega)⟩, (by show 1 + st.pos ≤ st1.pos + 1; have := hmv1.le; omega), hnb9, (hw18.blk0 (hw12.blk hB2 (sF hA5.symm (Apart.new (Lt.own hR.own) hs3).symm))), hG7, (fun h => by rcases List.mem_cons.1 h with h | h; (have h9 := hG23 _ rfl; have h7 := hcall9.size; omega); (have h8 := hxg b2 h; omega))⟩⟩ ?_
  rintro ⟨f, sx, l, n, qa, qc, qo, bs, na, nc, no⟩ wr30 ⟨hV31, ⟨hR2, hmv, heq, hfi, ⟨cs, hown, hts⟩, hfr, hlen, hnb, hb2, hg2, ha2⟩⟩; show CW _ _ _ _ [(3, .slice qa n qc), (0, _), (2, _)] _
  try dsimp only at hR2
  try dsimp only at hmv
  try dsimp only at heq
  try dsimp only at hfi
  try dsimp only at cs
  try dsimp only at hown
  try dsimp only at hts
  try dsimp only at hfr
  try dsimp only at hlen
  try dsimp only at hnb
  try dsimp only at hb2
  try dsimp only at hg2
  try dsimp only at ha2
  have hA1 : Apart (some b) qo := kW hbw (oO hfr); have hA3 : Apart (some b) (some b2) := kW hbw hg2; have hA4 := BF hb2 hR2.own (by decide +kernel); have hA5 := ap_nm ha2; have hGo1 := fM hGo (CM hG) hnb; have hpl := hmv.bd.le; have hmle := hmv.le; have nmq := nm_rd hR2 hown hts; refine aE (aE (aB (aG ?_))); refine aK (vs := [_, _]) iC rfl (lR ⟨hR2.blk, hR2.own, hR2.ne⟩ (by omega) 124 (by decide)) rfl ?_; rintro _ w32 ⟨rfl, hw33, hR5⟩
  have hE34 := hV31.step hw33 (fun y hy => .inl (by rw [List.mem_singleton.1 hy]; simp))
  have hB35 := hown.evo hw33 ((by first | exact hA1.symm.own1 | exact hA1.symm.nmem1)); have hB36 := hts.evo hw33 (fun q hq h => nmq q (List.mem_append_right _ hq) (GO q h)); have hB37 := hw33.blk hb2 ((by first | exact hA3.symm.own1 | exact hA3.symm.nmem1)); refine aC (aA (bF rfl (fun hc8 => ?_) (fun hc8 => ?_)))
  ·rw [if_pos hc8] at hR5
   obtain ⟨f', rfl⟩ : ∃ f', f = f' + 1 := ⟨f - 1, by have := hc8.1; omega⟩
   have hopx : sx.opn = st.opn := hmv.opn
   have hex' : (adv sx 1).opn < 250 → sQ b s ex ((adv sx 1).opn + 1) := by show sx.opn < 250 → sQ b s ex (sx.opn + 1); rw [hopx]; exact hex
   have hbd1 : Bd s (adv sx 1).pos := hc8.asc (by decide) hmv.bd; refine aU (aA (bR (aB (aG (aG ?_)))))
   refine bT (vs := [_]) vY rfl (rG hex' ⟨hR5.blk, hR5.own, hR5.ne⟩ hs (by show sx.opn ≤ 250; omega) hbd1 hmv.nm (hG.evo hE34 hgw) hGo1) rfl ?_ ?_
   ·intro pv wp hpp; obtain ⟨e9, hpe, rfl, hpw⟩ := hpp; exact And.intro rfl ⟨_, rfl, _, heq.trans (rF hc8 hpe), rfl, (hE34).step hpw (lV hnb)⟩
   rintro rv w38 ⟨x, st3, hx, hw39, hmv3, na3, nc3, no3, vs, bx, rfl, hOT, hFx, hR3, hnb3⟩; have hcall9 := hw39; have hV9 := hE34; have hnb9 := hnb.older hnb3 hV9.size; have hb2l := eW hB37; have hxg : ∀ q, q ∈ bx → _ ≤ q := hFx.ge; have hl1 := oV hB35 hB36; have hB41 := hB35.evo hw39 (fun q hq => nmq q (List.mem_append_left _ (by simp [hq]))); obtain ⟨ra, rc, ka, kc, rfl⟩ := id hOT.nine; have hA31 := uZ hB41 hR3.own (by decide +kernel); refine bL (vs := [_]) rfl dD rfl rfl rfl rfl fun b44 w45 hO46 hs47 hw48 => ?_; have hB59 := hw48.blk0 (hw39.blk hB37 (sF hA3.symm hA4)); have hLT9 := (hOT.evo0 hw48); have hVV := ((Evo.refl [] w38).then hw48); have hb29 := eW hB59
   refine dL rfl rfl rfl rfl kI (hB41.evo0 hw48) (Src.ofOwn hO46 ⟨rfl, rfl, rfl, rfl, rfl, rfl, rfl, rfl, rfl, trivial⟩) (by have h8 := qV hown hts; omega) fun qa2 qc2 w65 qo2 hO2 hw68 hob69 => ?_
   have hF77 := ((hB36.evo hw39 (fun q hq => nmq q (List.mem_append_right _ hq))).evo0 hw48).evo hw68 (qN hfr)
   have hF81 := (hOT.evo0 hw48).evo hw68 (fun q hq h => by have h8 := hxg q hq; have h9 := hl1 q (List.mem_append_left _ h); omega)
   have hob2 := hob69; have hFr9 := Fr.grow hfr hl1 hFx (OT.lt hLT9) hV9.size (Nat.le_trans hcall9.size hVV.size) hob2
   have hnin := FQ ha2 hb29 (fun q hq e => by have h8 := hxg q hq; omega) hob2
   refine aM (aC (aW (bY ?_))); refine ⟨⟨f', st3, l ++ [x], n + 1, qa2, qc2, qo2, bs ++ bx, na3, nc3, no3⟩, ?_, ⟨rfl, trivial⟩, ⟨rfl, rfl, trivial⟩, (((hE34.step hw39 (lV hnb)).then hw48).step hw68 (oO hfr).mem), ?_⟩
   · (try dsimp only); show f' < f' + 1; omega
   try dsimp only
   have hle3 : sx.pos + 1 ≤ st3.pos := hmv3.le
   refine ⟨⟨(hw68.blk (hw48.blk0 hR3.blk) hA1.nmem), ((hR3.own.evo0 hw48).evo hw68 hA31.symm.own), hR3.ne⟩, ⟨hmv3.opn.trans hmv.opn, (by show st.pos ≤ st3.pos; omega), hmv3.bd, hmv3.nm⟩, heq.trans (sC hc8 hx), (by show s.size + 1 ≤ f' + st3.pos; omega), ⟨_, hO2, OTs.app hF77 (OTs.single hF81)⟩, hFr9, ?_, hnb9, (hw68.blk hB59 hA5.nmem), hg2, hnin⟩
   show (l ++ [x]).length + st.pos ≤ st3.pos + 1; rw [List.length_append]; simp; omega
  rw [if_neg hc8] at hR5; refine dO (cD (cD (dN (aA ?_)))); refine aE (aB (aG ?_)); refine aK (vs := [_, _]) oR rfl (BK 5 hB35 hB36 (by omega)) rfl ?_; rintro rv w83 ⟨⟨vs, bs', rfl, hOT, hsub⟩, hw84⟩; have hV9 := hE34; obtain ⟨ra, rc, ka, kc, rfl⟩ := id hOT.nine; refine bI rfl rfl aY (hw84.blk0 hB37) rfl rfl ⟨rfl, rfl, rfl, rfl, rfl, rfl, rfl, rfl, rfl, trivial⟩ fun w91 hB92 hw93 => ?_
  have hF97 := (hB36.evo0 hw84).evo hw93 (fun q hq h => ha2 (List.mem_append_right _ (by rw [← List.mem_singleton.1 h]; exact hq)))
  try simp only [cR, Nat.reduceAdd] at hB92
  refine aC (aA (aO (bS (cX rfl (ResOk.cellA rfl bQ aY hB92 rfl) ?_))))
  exact ⟨oZ 5 l, sx, heq.trans (mX hc8), ((hE34.then hw84).step hw93 hg2.mem1), hmv, na, nc, no, _, bs', rfl, hOT.evo ((Evo.refl ([b2]) w83).step hw93 (fun y hy => .inl hy)) (fun q hq h => ha2 (by rw [← List.mem_singleton.1 h]; exact hsub.subset hq)), hfr.sub hsub, ⟨(hw93.blk (hw84.blk0 hR5.blk) hA3.nmem1), ((hR5.own.evo0 hw84).evo hw93 hA4.symm.own1), hR5.ne⟩, hnb⟩
theorem zP {b : Nat} {s : ByteArray} (hs : s.size ≤ 4096) : ∀ (n m : Nat), m + n = 250 → sQ b s (iD s n) m := by
  intro n
  induction n with
  | zero =>
    intro m hm
    unfold sQ
    intro w st a c ob hR ho hb hnl hG hGo
    exact qO (ex := fun _ => .error 3) (fun h => by omega) hR hs (by omega) hb hnl hG hGo
  | succ n ih =>
    intro m hm
    unfold sQ
    intro w st a c ob hR ho hb hnl hG hGo
    exact qO (ex := iD s n) (fun h => by rw [ho]; exact ih (m + 1) (by omega)) hR hs (by omega) hb hnl hG hGo
end Go.Proofs.YtljadkcojnlioaaGreatDoor
namespace Go.W
open Go.RowKit
section
variable {P : Program} {σ : Env} {w : World}
def RecAs (u : FrameMode) (v : Value) (u' : FrameMode) : Prop :=
  ∀ (c₀ : Frame) (cs : List Frame), c₀.mode = u → (recoverD (c₀ :: cs) = some (v, { c₀ with mode := u' } :: cs)) ∨ (recoverD (c₀ :: cs) = none ∧ v = .nilIface ∧ u' = u)
theorem RecAs.ret : RecAs .returning .nilIface .returning := fun c cs h => .inr ⟨by simp [recoverD, h], rfl, rfl⟩
theorem RecAs.pan (v : Value) : RecAs (.panicking (pan v)) v (.panicking [{ v := v, recovered := true }]) := fun c cs h => .inl (by simp [recoverD, h])
theorem wpS_rec {Q : Exit → Act → List Frame → World → Prop} {id d d2 : Nat} {T T2 : TypeId} {p p2 : String} {e e2 : Array Edge} {a : Act} {c₀ : Frame} {cs : List Frame} {v : Value} {u u' : FrameMode}
    (hu : c₀.mode = u) (hr : RecAs u v u') (hd : d < a.tmps.size) (h : Q .normal ((a.put (some d) v).put (some d2) v) ({ c₀ with mode := u' } :: cs) w) :
    (Code.region id #[⟨some d, .call ⟨.builtin .recover, #[], #[]⟩, T, p, e, none⟩, ⟨some d2, .assign (.tmp d), T2, p2, e2, none⟩] false).wpS P Q a (c₀ :: cs) w := by
  refine wpS_region ?_
  have hget : ∀ v : Value, (a.put (some d) v).eval (.tmp d) = v := fun v => by
    simp [Act.put, Act.eval, hd]
  have hrun : (execOp a.eval ⟨some d, .call ⟨.builtin .recover, #[], #[]⟩, T, p, e, none⟩).run P w = .ok .recover w := by
    simp [execOp, resolve, builtin, invoke]
  have hrun2 : ∀ v : Value, (execOp (a.put (some d) v).eval ⟨some d2, .assign (.tmp d), T2, p2, e2, none⟩).run P w = .ok (.value v) w := fun v => by
    simp [execOp, hget]
  show wpOpsS P _ Q [0, 1] a (c₀ :: cs) w
  have hstep : ∀ (v : Value) (cs' : List Frame), Q .normal ((a.put (some d) v).put (some d2) v) cs' w → wpOpsS P #[⟨some d, .call ⟨.builtin .recover, #[], #[]⟩, T, p, e, none⟩, ⟨some d2, .assign (.tmp d), T2, p2, e2, none⟩] Q [1] (a.put (some d) v) cs' w := fun v cs' h => by
    simp only [wpOpsS]
    simp [Region.wanted, hrun2, Oper.upon, wpOpsS, h]
  rw [wpOpsS]
  simp only [Region.wanted, List.getElem?_toArray, List.getElem?_cons_zero, hrun, if_true]
  rcases hr c₀ cs hu with h1 | ⟨h1, rfl, rfl⟩
  · rw [h1]; exact hstep _ _ h
  · rw [h1]; subst hu; exact hstep _ _ h
theorem yS {f : FuncId} {fn : Func} {y : Code} {cap : List Value} {Φ : Value → World → Prop} {N id d d2 : Nat} {T T2 : TypeId} {p p2 : String} {e e2 : Array Edge} {v : Value} {u u' : FrameMode} (hr : RecAs u v u')
    (hf : P.funcs[f]? = some fn) (hb : fn.body = some (.seq (.region id #[⟨some d, .call ⟨.builtin .recover, #[], #[]⟩, T, p, e, none⟩, ⟨some d2, .assign (.tmp d), T2, p2, e2, none⟩] false) y)) (hN : fn.ntmps = N)
    (hle' : Nat.ble cap.length N = true) (hd : Nat.blt d N = true) (hd2 : Nat.blt d2 N = true)
    (h : CW P (N, []) y (oE P fn (Ret Φ)) ((d2, v) :: (d, v) :: nY 0 cap) w) :
    CallsD P f cap.toArray u w (fun e u2 w' => (∃ vv, e = .returned vv ∧ Φ vv w') ∧ u2 = u') := by
  have hle : cap.length ≤ N := Nat.le_of_ble_eq_true hle'
  have hdN : d < N := of_decide_eq_true (by simpa using hd)
  have hdN2 : d2 < N := of_decide_eq_true (by simpa using hd2)
  have hfit : Fits (N, []) (nY 0 cap) { tmps := cap.toArray ++ Array.replicate (fn.ntmps - cap.toArray.size) undef, defers := [] } := by
    refine ⟨?_, rfl, ?_⟩
    · simp [hN]; omega
    · intro t v hv
      obtain ⟨_, h2⟩ := pS cap 0 t v hv
      simp only [Nat.sub_zero] at h2
      have hlt : t < cap.length := (List.getElem?_eq_some_iff.1 h2).1
      have h3 : cap[t] = v := by rw [List.getElem?_eq_getElem hlt] at h2; exact Option.some.inj h2
      simp [Array.getElem?_append, hlt, h3]
  refine callsD_of_wpS hf hb fun c₀ cs hu => wpS_seq (wpS_rec hu hr (by rw [hfit.1]; exact hdN) ?_)
  refine wpS_of_wp (wp_mono (h _ ((hfit.put hdN v).put hdN2 v)) ?_)
  intro ex a' w' hq
  cases ex with
  | normal => obtain ⟨N', σ', hf', hn, hk⟩ := hq; obtain ⟨v', h1, h2⟩ := hk a' (by rw [hf'.1, hf'.2.1]; exact hf'); exact ⟨hf'.2.1.trans hn, u', rfl, v', h1, h2, rfl⟩
  | ret => obtain ⟨N', σ', hf', hn, hk⟩ := hq; obtain ⟨v', h1, h2⟩ := hk a' (by rw [hf'.1, hf'.2.1]; exact hf'); exact ⟨hf'.2.1.trans hn, u', rfl, v', h1, h2, rfl⟩
  | panic ch => obtain ⟨N', σ', hf', hn, v', h1, h2⟩ := hq; cases h1
  | outgrown => obtain ⟨_, v', h1, h2⟩ := hq; cases h1
  | exit i => obtain ⟨_, _, _, hk⟩ := hq; exact hk
  | goto l => obtain ⟨_, _, _, hk⟩ := hq; exact hk
theorem sU {n : Nat} {fn : Func} {r r' : ResultVar} {Φ : Value → World → Prop} {f : FuncId} {g : Func} {cap : Array Value} {u : FrameMode} (hr : fn.results = #[r, r']) (hg : P.funcs[f]? = some g) (hn : (g.name == "runtime.NumGoroutine") = false) (hb : g.body.isNone = false) (hu : u ≠ .run)
    (h : CallsD P f cap u w fun e u' w' => (∃ vv, e = .returned vv) ∧ settle u' = .returning ∧ ∃ v v', ResOk P σ w' r v ∧ ResOk P σ w' r' v' ∧ Φ (.tuple #[v, v']) w') :
    ∀ a, Fits (n, [dfr f cap]) σ a → Leaves P fn a.tmps (Ret Φ) [dfr f cap] u w := fun a ha => by
  refine IZ hg hn hb hu (h.mono ?_)
  rintro e u' w' ⟨⟨vv, rfl⟩, hs, v, v', h1, h2, h3⟩
  show Leaves P fn a.tmps (Ret Φ) [] (settle u') w'
  rw [hs]
  refine ⟨.tuple #[v, v'], ?_, _, rfl, h3⟩
  have ha' : Fits (a.tmps.size, a.defers) σ a := ⟨rfl, rfl, ha.2.2⟩
  rw [pP, hr]
  simp [h1 a ha', h2 a ha']
theorem yV {n : Nat} {fn : Func} {Φ : Value → World → Prop} (h : oE P fn (Ret Φ) .ret (n, []) σ w) : TZ P fn (Ret Φ) .ret (n, []) σ w := fun a ha => h.2 a (by rw [ha.1, ha.2.1]; exact ha)
end
end Go.W
namespace Go.Proofs.YtljadkcojnlioaaGreatDoor
open Go.RowKit Go.W
attribute [local irreducible] Decidable.decide
theorem rR {s : ByteArray} {a : Nat} (ha : a < s.size) (h : (Utf8.decode s a).1 = 65533 → a + 3 ≤ s.size ∧ s.extract a (a + 3) = bstr [239, 191, 189]) :
    (cE s a).1 = ((Utf8.decode s a).1 : Nat) ∧ (cE s a).2 = (Utf8.decode s a).2 := by
  have h1 : ¬ ((Utf8.decode s a).1 = 65533 ∧ (Utf8.decode s a).2 = 1) := fun ⟨h1, h2⟩ => by
    have := (rB s a h1 ha).2 (h h1)
    omega
  unfold cE
  rw [if_pos ⟨ha, h1⟩]
  exact ⟨rfl, rfl⟩
theorem oK {s : ByteArray} {a : Nat} (ha : a < s.size) : 0 < (Utf8.decode s a).2 := by
  rcases gG s a ha with ⟨w, h1, h2, h3, hh, hd, h4, h5, -⟩ | ⟨h1, hd⟩ <;> rw [hd] <;> simp <;> omega
theorem MU {s : ByteArray} {k : Nat} (hw : ∀ j, j < k → 0 < (cE s (dP s j)).2) (h : ¬ dP s k < s.size) : Utf s k := ⟨Nat.le_antisymm (wT s k) (by omega), hw⟩
theorem OU {s : ByteArray} {k : Nat} (hw : ∀ j, j < k → 0 < (cE s (dP s j)).2) (h1 : dP s k < s.size) (h2 : (cE s (dP s k)).2 = 0) : ¬ ∃ N, Utf s N := by
  rintro ⟨N, hN⟩
  rcases Nat.lt_or_ge k N with h | h
  · have := hN.2 k h; omega
  · have h3 : dP s N ≤ dP s k := by
      rcases Nat.lt_or_ge N k with h' | h'
      · exact Nat.le_of_lt (offs_lt hw h' (Nat.le_refl _))
      · rw [Nat.le_antisymm h h']; exact Nat.le_refl _
    rw [hN.1] at h3; omega
structure VaI (w wr : World) (s : ByteArray) (it k : Nat) : Prop where
  hw : ∀ j, j < k → 0 < (cE s (dP s j)).2
  hit : wr.heap[it]? = some (.stringIter s (dP s k))
  hge : Ge w (some it)
theorem MV {w : World} (s : ByteArray) (hs : s.size ≤ 140737488355320) : Calls Tryz.prog 34 #[.string s] w (Ret fun v w' => ∃ b, v = .bool b ∧ (b = true ↔ ∃ N, Utf s N) ∧ Evo [] w w') := by
  refine bJ (N := 19) Tryz.func34 rfl rfl rfl ?_; refine aE (aB (aM (aC (aA (aE (aE (aB (aG (AB rfl rfl Tryz.underlying9 fun it w1 hB2 hs3 hw4 => ?_))))))))); have hG5 := Ge.new (Evo.refl [] w) hs3; refine aC (aA (bR ?_)); refine eV (α := Nat) (0) (fun k => []) [(0, _), (6, _)] (fun k wr => Evo [] w wr ∧ (VaI w wr s it k)) (fun k => s.size - dP s k) trivial ⟨rfl, rfl, trivial⟩ ⟨((Evo.refl [] w).then hw4), ⟨fun j h => (by cases h), hB2, hG5⟩⟩ ?_; rintro k wr7 ⟨hV8, ⟨hw, hIt, hIg⟩⟩; show CW _ _ _ _ [(0, _), (6, _)] _; refine aE (aB ?_)
  by_cases hn9 : dP s k < s.size
  ·refine EZ rfl rfl hIt hn9 fun w10 hB11 hw12 => ?_; have hE13 := hV8.step hw12 hIg.mem1
   have hlt : dP s k < s.size := by omega
   refine aF (cN rfl rfl) ?_; refine aC (aA (aE (cV rfl ?_))); refine aU (aA (bR (aE (aB (aF (cN rfl rfl) ?_))))); refine aF (cN rfl rfl) ?_; refine aM (aM (aC (aA (aE (aB (aG (aF (bD rfl rfl) ?_))))))); refine aG (aV (t := 13) rfl (fun hs13 => ?_) (fun hs13 => ?_))
   ·refine aQ (aG (aQ (aG (aQ ?_)))); refine aK (vs := [_, _]) vZ rfl (vP s (dP s k) (wT s k) (by omega)) rfl ?_; rintro _ w14 ⟨rfl, hw15⟩; have hB17 := hw15.blk0 hB11; refine aQ (aF (nE rfl) ?_); refine bH (aC (aA (bF rfl (fun hc18 => ?_) (fun hc18 => ?_))))
    ·refine aE (aB (aM (aC (aA (aO (aX (aN (aX (aN (br1 ?_))))))))))
     exact ⟨false, rfl, by simp only [Bool.false_eq_true, false_iff]; exact OU hw hlt (by rw [AN hlt (by omega) (by simpa using hc18)]), (hE13.then hw15)⟩
    refine aU (aW (bY ?_)); refine ⟨(k + 1), ?_, trivial, ⟨rfl, rfl, trivial⟩, (hE13.then hw15), ?_⟩
    · (have hnd : (cE s (dP s k)).1 = ((Utf8.decode s (dP s k)).1 : Nat) ∧ (cE s (dP s k)).2 = (Utf8.decode s (dP s k)).2 := rR hlt (fun h => by first | (exfalso; omega) | simpa using hc18); have hdw := oK hlt; have e0 : dP s (k + 1) = dP s k + (cE s (dP s k)).2 := rfl; rw [e0, hnd.2]; omega)
    have hnd : (cE s (dP s k)).1 = ((Utf8.decode s (dP s k)).1 : Nat) ∧ (cE s (dP s k)).2 = (Utf8.decode s (dP s k)).2 := rR hlt (fun h => by first | (exfalso; omega) | simpa using hc18)
    have hdw := oK hlt; have e0 : dP s (k + 1) = dP s k + (cE s (dP s k)).2 := rfl; refine ⟨fun j hj => ?_, ?_, hIg⟩
    · by_cases e : j < k; exact hw j e; (obtain rfl : j = k := by omega); rw [hnd.2]; exact hdw
    · rw [e0, hnd.2]; exact hB17
   refine aH (aH (aH (aH (aR (aC (aA (cO rfl ?_))))))); refine aU (aW (bY ?_)); refine ⟨(k + 1), ?_, trivial, ⟨rfl, rfl, trivial⟩, hE13, ?_⟩
   · (have hnd : (cE s (dP s k)).1 = ((Utf8.decode s (dP s k)).1 : Nat) ∧ (cE s (dP s k)).2 = (Utf8.decode s (dP s k)).2 := rR hlt (fun h => by first | (exfalso; omega) | simpa using hc18); have hdw := oK hlt; have e0 : dP s (k + 1) = dP s k + (cE s (dP s k)).2 := rfl; rw [e0, hnd.2]; omega)
   have hnd : (cE s (dP s k)).1 = ((Utf8.decode s (dP s k)).1 : Nat) ∧ (cE s (dP s k)).2 = (Utf8.decode s (dP s k)).2 := rR hlt (fun h => by first | (exfalso; omega) | simpa using hc18)
   have hdw := oK hlt; have e0 : dP s (k + 1) = dP s k + (cE s (dP s k)).2 := rfl; refine ⟨fun j hj => ?_, ?_, hIg⟩
   · by_cases e : j < k; exact hw j e; (obtain rfl : j = k := by omega); rw [hnd.2]; exact hdw
   · rw [e0, hnd.2]; exact hB11
  refine OP rfl rfl hIt hn9 ?_; refine aF (cN rfl rfl) ?_; refine aC (aA (aE (cO rfl ?_))); refine dO (cD (cD (dN (aA ?_)))); refine aE (aB (aM (aC (aA (aO (br1 ?_))))))
  exact ⟨true, rfl, by simp only [true_iff]; exact ⟨k, MU hw (by omega)⟩, hV8⟩
theorem ER : gA Tryz.prog 58 0 = some 0 := by kernel_rfl
theorem HH : iT Tryz.prog 58 = some 1 := by kernel_rfl
theorem HF : oJ Tryz.prog 58 = some #[.int .i64 0] := by kernel_rfl
theorem MD {P : Program} {σ : Env} {w : World} {T : TypeId} {pos : String} {after : Array Edge} {dst : Option Nat} {g : Option (Nat × Bool)} {op : BinOp} {xt yt : TypeId} {x y : Operand} {a b r : Value} (hx : σ.ev x = some a) (hy : σ.ev y = some b) (h : ∀ w, (do eqGuard op xt x y a b; binOp op xt a b : Sem Value).run P w = .ok r w) : Ex P σ ⟨dst, .binOp op xt x y yt, T, pos, after, g⟩ w r w := fun ρ ha => by
  have h1 := h w
  simp only [Sem.run_bind] at h1
  simp only [execOp, ha _ _ hx, ha _ _ hy, Sem.run_bind, h1, Result.andThen_ok, Sem.run_pure]
theorem JF {P : Program} {σ : Env} {w : World} {T : TypeId} {pos : String} {after : Array Edge} {dst : Option Nat} {g : Option (Nat × Bool)} {xt ast : TypeId} {ok : Bool} {x : Operand} {a r : Value} (hx : σ.ev x = some a) (h : ∀ w, (Instr.typeAssert a xt ast ok).run P w = .ok r w) : Ex P σ ⟨dst, .typeAssert x xt ast ok, T, pos, after, g⟩ w r w := fun ρ ha => by
  simp [execOp, ha _ _ hx, h]
theorem recov_none {w : World} {x e : Value} : CallsD Tryz.prog 35 #[x, e] .returning w (fun e u2 w' => (∃ vv, e = .returned vv ∧ Evo [] w w') ∧ u2 = .returning) := by
  refine yS (N := 19) (RecAs.ret) Tryz.func35 rfl rfl rfl rfl rfl ?_
  refine aE ?_
  refine aB ?_
  refine aG ?_
  refine jF rfl (MD (r := .bool false) rfl rfl (fun w => by kernel_rfl)) ?_
  refine aC (aA ?_)
  refine cO rfl ?_
  refine aU (cC rfl ?_)
  exact (Evo.refl [] w)
theorem xM {w : World} {bx be : Nat} {c0 c1 c2 c3 c4 c5 c6 c7 c8 v0 : Value} {k : Int} (hx : w.heap[bx]? = some (.cells #[c0, c1, c2, c3, c4, c5, c6, c7, c8] 27 (0, 0))) (he : w.heap[be]? = some (.cells #[v0] 28 (0, 0))) (hne : Apart (some bx) (some be)) :
    CallsD Tryz.prog 35 #[.pointer (some ⟨bx, 0, none⟩), .pointer (some ⟨be, 0, none⟩)] (.panicking (pan (flt k))) w (fun e u2 w' => (∃ vv, e = .returned vv ∧ Evo [bx, be] w w' ∧ w'.heap[bx]? = some (.cells #[iv 0, .int .i32 0, .slice none 0 0, iv 0, iv 0, .bool false, iv 0, .string ByteArray.empty, .slice none 0 0] 27 (0, 0)) ∧ w'.heap[be]? = some (.cells #[iv k] 28 (0, 0))) ∧ u2 = .panicking [{ v := flt k, recovered := true }]) := by
  refine yS (N := 19) (RecAs.pan _) Tryz.func35 rfl rfl rfl rfl rfl ?_
  refine aE ?_
  refine aB ?_
  refine aG ?_
  refine jF rfl (MD (r := .bool true) rfl rfl (fun w => by kernel_rfl)) ?_
  refine aC (aA ?_)
  refine cV rfl ?_
  refine aE ?_
  refine aB ?_
  refine aG ?_
  refine jF rfl (JF (r := .tuple #[.agg #[iv k], .bool true]) rfl (fun w => by kernel_rfl)) ?_
  refine aG ?_
  refine jF rfl (cN rfl rfl) ?_
  refine jF rfl (cN rfl rfl) ?_
  refine dA rfl HF fun bf w1 hB2 hs3 hw4 => ?_
  have hsz_bf := hs3
  have hA5 := Apart.new (Lt.blk hx) hs3
  have hA6 := Apart.new (Lt.blk he) hs3
  have hG7 := Ge.new (Evo.refl [bx, be] w) hs3
  have hE8 := (Evo.refl [bx, be] w).then hw4
  have hB9 := hw4.blk0 hx
  have hB10 := hw4.blk0 he
  refine bI rfl rfl HH hB2 rfl rfl ⟨by first | rfl | assumption, trivial⟩ fun w11 hB12 hw13 => ?_
  have hE14 := hE8.step hw13 hG7.mem1
  have hB15 := hw13.blk hB9 hA5.nmem1
  have hB16 := hw13.blk hB10 hA6.nmem1
  refine aM ?_
  refine aC (aA ?_)
  refine aE ?_
  refine aE ?_
  refine aB ?_
  refine aG ?_
  refine jF rfl (fF rfl) ?_
  refine aC (aA ?_)
  refine cO rfl ?_
  refine aU (aA ?_)
  refine iK (fun w0 w' => Evo [bx, be] w0 w') (by kernel_rfl) (fun w17 hw18 => ?_)
  have hE19 := hE14.then hw18
  have hB20 := hw18.blk0 hB15
  have hB21 := hw18.blk0 hB16
  have hB22 := hw18.blk0 hB12
  refine xG 0 rfl (by kernel_rfl) (by kernel_rfl) (by kernel_rfl) rfl (fun _ hS => eN (vs := []) dK rfl (cells := [_, _, _, _, _, _, _, _, _]) rfl) (Evo.refl [bx, be] w17) ?_
  refine xG 1 rfl (by kernel_rfl) (by kernel_rfl) (by kernel_rfl) rfl (fun _ hS => aD rfl ER) (Evo.refl [bx, be] w17) ?_
  refine xG 2 rfl (by kernel_rfl) (by kernel_rfl) (by kernel_rfl) rfl (fun _ hS => aI rfl iX (aJ (hS.blk hB22 ((sF hA5.symm hA6.symm))) rfl)) (Evo.refl [bx, be] w17) ?_
  refine cP [3] (by kernel_rfl) rfl ⟨?_, trivial⟩
  refine cU rfl ?_
  refine bI rfl rfl aY hB20 rfl rfl ⟨by first | rfl | assumption, by first | rfl | assumption, by first | rfl | assumption, by first | rfl | assumption, by first | rfl | assumption, by first | rfl | assumption, by first | rfl | assumption, by first | rfl | assumption, by first | rfl | assumption, trivial⟩ fun w23 hB24 hw25 => ?_
  have hE26 := hE19.step hw25 (fun y hy => .inl (by rw [List.mem_singleton.1 hy]; simp))
  have hE27 := (Evo.refl [bx, be] w17).step hw25 (fun y hy => .inl (by rw [List.mem_singleton.1 hy]; simp))
  have hB28 := hw25.blk hB21 hne.symm.nmem1
  have hB29 := hw25.blk hB22 hA5.symm.nmem1
  refine aC (cG (.inl hE27) ?_)
  refine cP [4] (by kernel_rfl) rfl ⟨?_, trivial⟩
  refine cU rfl ?_
  refine bG rfl rfl (by first | rfl | assumption) fT hB28 rfl fun w30 hB31 hw32 => ?_
  have hE33 := hE26.step hw32 (fun y hy => .inl (by rw [List.mem_singleton.1 hy]; simp))
  have hE34 := hE27.step hw32 (fun y hy => .inl (by rw [List.mem_singleton.1 hy]; simp))
  have hB35 := hw32.blk hB24 hne.nmem1
  have hB36 := hw32.blk hB29 hA6.symm.nmem1
  refine aC (cG (.inl hE34) ?_)
  refine fA (by kernel_rfl) (cC rfl ?_)
  exact ⟨hE33, hB35, hB31⟩
theorem ES : Build Tryz.prog 64 #[(0, 1), (1, 1), (2, 4), (6, 1), (7, 1)] #[.string ByteArray.empty, .int .i64 0, .bool false, .bool false, .bool false, .bool false, .int .i64 0, .slice none 0 0] := ⟨_, .agg #[.string ByteArray.empty, .int .i64 0, .bool false, .bool false, .bool false, .bool false, .int .i64 0, .slice none 0 0], Tryz.underlying64, by kernel_rfl, rfl, fun w => by kernel_rfl⟩
theorem HP : eY Tryz.prog 34 := ⟨_, Tryz.func34, by kernel_rfl, by kernel_rfl⟩
theorem HG : oJ Tryz.prog 28 = some #[.int .i64 0] := by kernel_rfl
abbrev st0 : PS := ⟨0, ⟨false, false, false, false⟩, 0, []⟩
abbrev zRx : Value := .agg #[iv 0, .int .i32 0, .slice none 0 0, iv 0, iv 0, .bool false, iv 0, .string ByteArray.empty, .slice none 0 0]
section
variable {s : ByteArray} {e : Int} {x : Rx} {st : PS}
theorem KN (h : 4096 < s.size) : fZ s = .error 1 := by unfold fZ; rw [if_pos h]
theorem pp_utf (h : ¬ 4096 < s.size) (hU : ¬ ∃ N, Utf s N) : fZ s = .error 4 := by unfold fZ; rw [if_neg h, if_pos hU]
theorem BQ (h : ¬ 4096 < s.size) (hU : ∃ N, Utf s N) (he : iD s 250 st0 = .error e) : fZ s = .error e := by unfold fZ; rw [if_neg h, if_neg (not_not_intro hU), he]
theorem pp_open (h : ¬ 4096 < s.size) (hU : ∃ N, Utf s N) (he : iD s 250 st0 = .ok (x, st)) (hp : st.pos < s.size) : fZ s = .error 80 := by unfold fZ; rw [if_neg h, if_neg (not_not_intro hU), he]; simp only [if_pos hp]
theorem KM (h : ¬ 4096 < s.size) (hU : ∃ N, Utf s N) (he : iD s 250 st0 = .ok (x, st)) (hp : ¬ st.pos < s.size) : fZ s = .ok x := by unfold fZ; rw [if_neg h, if_neg (not_not_intro hU), he]; simp only [if_neg hp]
end
def UN (s : ByteArray) (w : World) (v : Value) (w' : World) : Prop :=
  Evo [] w w' ∧ ((∃ e, fZ s = .error e ∧ v = .tuple #[zRx, iv e]) ∨ ∃ x vs bs, fZ s = .ok x ∧ v = .tuple #[.agg vs.toArray, iv 0] ∧ OT x w' vs bs ∧ Fr w bs)
theorem xP {w : World} (s : ByteArray) (hG : Glb w) : Calls Tryz.prog 11 #[.string s] w (Ret (UN s w)) := by
  refine DF (N := 31) Tryz.func11 rfl rfl rfl ?_; refine aE (aB (dA rfl dS fun bx w1 hB2 hs3 hw4 => ?_)); have hsz_bx := hs3; have hG5 := Ge.new (Evo.refl [] w) hs3; have hE6 := (Evo.refl [] w).then hw4; refine dA rfl HG fun be w7 hB8 hs9 hw10 => ?_; have hsz_be := hs9; have hA11 := Apart.new (Lt.blk hB2) hs9; have hG12 := Ge.new hE6 hs9; refine aC (aA (aE (aE (aB (aG (aF (cM rfl Tryz.underlying9 rfl) ?_)))))); refine aF (gL rfl rfl) ?_; refine aC (aA (bF rfl (fun hc7 => ?_) (fun hc7 => ?_)))
  ·refine aE (aB (aF (eN (vs := []) dK rfl (cells := [_, _, _, _, _, _, _, _, _]) rfl) ?_)); refine bI rfl rfl aY (hw10.blk0 hB2) rfl rfl ⟨rfl, rfl, rfl, rfl, rfl, rfl, rfl, rfl, rfl, trivial⟩ fun w15 hB16 hw17 => ?_; refine bG rfl rfl (rfl) fT (hw17.blk hB8 hA11.symm.nmem1) rfl fun w20 hB21 hw22 => ?_; refine aC (aA (aO (aN (yV (yW rfl (ResOk.cellA rfl bQ aY (hw22.blk hB16 hA11.nmem1) rfl) (ResOk.cell1 rfl iX hB21 rfl) ?_))))); exact ⟨(((hE6.then hw10).step hw17 hG5.mem1).step hw22 hG12.mem1), .inl ⟨1, KN (by omega), rfl⟩⟩
  have hlen : ¬ 4096 < s.size := by omega
  refine aU (aA (aE (aE (aB (aG ?_))))); refine aK (vs := [_]) HP rfl (MV s (by omega)) rfl ?_; rintro _ w25 ⟨bU, rfl, hbU, hw26⟩; have hE27 := (hE6.then hw10).then hw26; have hB28 := hw26.blk0 (hw10.blk0 hB2); have hB29 := hw26.blk0 hB8; refine aF (fF rfl) ?_; refine aC (aA (fW rfl (fun hc11 => ?_) (fun hc11 => ?_)))
  ·refine aE (aB (aF (eN (vs := []) dK rfl (cells := [_, _, _, _, _, _, _, _, _]) rfl) ?_)); refine bI rfl rfl aY hB28 rfl rfl ⟨rfl, rfl, rfl, rfl, rfl, rfl, rfl, rfl, rfl, trivial⟩ fun w30 hB31 hw32 => ?_; refine bG rfl rfl (rfl) fT (hw32.blk hB29 hA11.symm.nmem1) rfl fun w35 hB36 hw37 => ?_; refine aC (aA (aO (aN (yV (yW rfl (ResOk.cellA rfl bQ aY (hw37.blk hB31 hA11.nmem1) rfl) (ResOk.cell1 rfl iX hB36 rfl) ?_)))))
   exact ⟨((hE27.step hw32 hG5.mem1).step hw37 hG12.mem1), .inl ⟨4, pp_utf hlen (fun h => by have := hbU.2 h; simp_all), rfl⟩⟩
  have hU : ∃ N, Utf s N := hbU.1 (by simpa using hc11); refine aU (aA (aE (aB (aF (GN (vs := [_, _]) rfl) ?_)))); refine OQ rfl ?_; refine aC (aA (aE (aB (aG (aF (eN (vs := [(0, _)]) ES rfl (cells := [_, _, _, _, _, _, _, _]) rfl) ?_))))); refine kS rfl rfl fun br w40 hB41 hs42 hw43 => ?_; have hsz_br := hs42; have hA44 := Apart.new (Lt.blk hB28) hs42; have hA45 := Apart.new (Lt.blk hB29) hs42; have hE47 := hE27.then hw43; have hB48 := hw43.blk0 hB28; have hB49 := hw43.blk0 hB29; refine aM (aC (aA (aE (aB (aG ?_)))))
  refine bT (vs := [_]) nA rfl (zP (by omega) 250 0 rfl (a := none) (c := 0) (ob := none) (st := st0) ⟨hB41, OwnS.nil _ _ _, fun g h => by cases h⟩ rfl (by obtain ⟨N, hN⟩ := hU; exact Bd.zero hN) (by show 0 ≤ 100; omega) (hG.evo hE47 (by simp)) (Apart.nil _)) rfl ?_ ?_
  ·intro pv wp hpp; obtain ⟨e9, hpe, rfl, hpw⟩ := hpp; refine sU rfl Tryz.func35 (by kernel_rfl) rfl (by simp) ((xM (hpw.blk hB48 (by simpa using hA44.nmem1)) (hpw.blk hB49 (by simpa using hA45.nmem1)) hA11).mono ?_); rintro e9 u9 w9 ⟨⟨vv, rfl, hv9, hb9, hc9⟩, rfl⟩
   exact ⟨⟨vv, rfl⟩, rfl, _, _, ResOk.cellA rfl bQ aY hb9 rfl, ResOk.cell1 rfl iX hc9 rfl, ((hE47).step hpw (fun y hy => (Ge.new hE27 hs42).mem1 y (by simpa using hy))).step hv9 (fun y hy => by rcases List.mem_cons.1 hy with rfl | hy; exact hG5.mem1 _ (by simp); exact hG12.mem1 _ hy), .inl ⟨_, BQ hlen hU hpe, rfl⟩⟩
  rintro _ w50 ⟨x, st1, hx, h0w, hmv, na, nc, no, vs, bs, rfl, hOT, hFx, hR, hnb⟩; have hw51 : Evo [br] _ _ := h0w; obtain ⟨ra, rc, ka, kc, rfl⟩ := id hOT.nine; have hbxl := eW hB48; have hbel := eW hB49; refine bI rfl rfl aY (hw51.blk hB48 hA44.nmem1) rfl rfl ⟨rfl, rfl, rfl, rfl, rfl, rfl, rfl, rfl, rfl, trivial⟩ fun w55 hB56 hw57 => ?_; have hB60 := hw57.blk hR.blk hA44.symm.nmem1
  have hF61 := hOT.evo hw57 (fun q hq h => by rw [List.mem_singleton.1 h] at hq; have h8 := hFx.ge _ hq; omega)
  refine aC (aA (aE (aE ?_))); refine fH (by kernel_rfl) (by kernel_rfl) ?_; refine bM (fun _ hq63 => bO rfl) ?_; refine bM (fun _ hq63 => aP rfl) ?_; refine bM (fun _ hq63 => aD rfl bE) ?_; refine bM (fun _ hq63 => aI rfl aZ (aJ (hq63.blk0 hB60) rfl)) ?_; refine bM (fun _ hq63 => bO rfl) ?_; refine bM (fun _ hq63 => aP rfl) ?_; refine bM (fun _ hq63 => aD rfl dE) ?_; refine bM (fun _ hq63 => aI rfl cJ (aJ (hq63.blk0 hB60) rfl)) ?_; refine bM (fun _ hq63 => cM rfl Tryz.underlying9 rfl) ?_; refine bM (fun _ hq63 => dF rfl rfl) ?_; refine fP (fun wq62 hq63 => aA ?_); have hE64 := ((hE47.step hw51 (Ge.new hE27 hs42).mem1).step hw57 hG5.mem1).then hq63; have hB65 := hq63.blk0 hB56; have hB66 := hq63.blk0 (hw57.blk (hw51.blk hB49 hA45.nmem1) hA11.symm.nmem1); refine bF rfl (fun hc28 => ?_) (fun hc28 => ?_)
  ·refine aB (bT (vs := [_]) cS rfl (eO 80) rfl ?_ ?_)
   ·intro pv wp hpp; obtain ⟨rfl, hpw⟩ := hpp; refine sU rfl Tryz.func35 (by kernel_rfl) rfl (by simp) ((xM (hpw.blk hB65 (by simp)) (hpw.blk hB66 (by simp)) hA11).mono ?_); rintro e9 u9 w9 ⟨⟨vv, rfl, hv9, hb9, hc9⟩, rfl⟩
    exact ⟨⟨vv, rfl⟩, rfl, _, _, ResOk.cellA rfl bQ aY hb9 rfl, ResOk.cell1 rfl iX hc9 rfl, ((hE64).then hpw).step hv9 (fun y hy => by rcases List.mem_cons.1 hy with rfl | hy; exact hG5.mem1 _ (by simp); exact hG12.mem1 _ hy), .inl ⟨_, pp_open hlen hU hx (by omega), rfl⟩⟩
   intro _ _ hF; exact hF.elim
  refine aU (aA (aE (aB (aF (bX rfl bQ aY hB65 rfl) (bI rfl rfl aY hB65 rfl rfl ⟨rfl, rfl, rfl, rfl, rfl, rfl, rfl, rfl, rfl, trivial⟩ fun w71 hB72 hw73 => ?_)))))
  have hF77 := (hF61.evo0 hq63).evo hw73 (fun q hq h => by rw [List.mem_singleton.1 h] at hq; have h8 := hFx.ge _ hq; omega)
  refine bG rfl rfl (rfl) fT (hw73.blk hB66 hA11.symm.nmem1) rfl fun w78 hB79 hw80 => ?_
  have hF84 := hF77.evo hw80 (fun q hq h => by rw [List.mem_singleton.1 h] at hq; have h8 := hFx.ge _ hq; omega)
  refine aC (aA (aO (?_))); refine sU rfl Tryz.func35 (by kernel_rfl) rfl (by simp) (recov_none.mono ?_); rintro e9 u9 w9 ⟨⟨vv, rfl, hv9⟩, rfl⟩; exact ⟨⟨vv, rfl⟩, rfl, _, _, ResOk.cellA rfl bQ aY (hv9.blk0 (hw80.blk hB72 hA11.nmem1)) rfl, ResOk.cell1 rfl iX (hv9.blk0 hB79) rfl, (((hE64.step hw73 hG5.mem1).step hw80 hG12.mem1)).then hv9, .inr ⟨x, _, bs, KM hlen hU hx (by omega), rfl, hF84.evo0 hv9, hFx.older hE47.size⟩⟩
theorem FE (s : ByteArray) (k : Nat) : nW s (k + 1) = nW s k ++ [(cE s (dP s k)).1] := by
  unfold nW; rw [List.range_succ, List.map_append]; rfl
end Go.Proofs.YtljadkcojnlioaaGreatDoor
namespace Go.Proofs.YtljadkcojnlioaaGreatDoor
open Go.RowKit Go.W
instance (c : Int) : Decidable (EY c) := by unfold EY; infer_instance
end Go.Proofs.YtljadkcojnlioaaGreatDoor
namespace Go.Proofs.YtljadkcojnlioaaGreatDoor
open Go.RowKit Go.W
attribute [local irreducible] Decidable.decide
section
variable {P : Program} {σ : Env} {w : World} {dst : Option Nat} {T : TypeId} {pos : String} {after : Array Edge} {g : Option (Nat × Bool)}
end
def frm (rs : List Int) : List Nat := rs.flatMap dW
theorem SQ {rs : List Int} {k : Nat} (h : k < rs.length) : frm (rs.take (k + 1)) = frm (rs.take k) ++ dW rs[k] := by
  unfold frm; rw [List.take_add_one, List.getElem?_eq_getElem h, List.flatMap_append]; simp
theorem JD (rs : List Int) : ∀ b, b ∈ frm rs → b < 256 := fun b hb => by
  obtain ⟨r, _, h⟩ := List.mem_flatMap.1 hb
  exact tP r b h
theorem xY {s : ByteArray} {a : Nat} (h : 0 < (cE s a).2) : s.extract a (a + (cE s a).2) = bstr (dW (cE s a).1) ∧ (dW (cE s a).1).length = (cE s a).2 ∧ IsR (cE s a).1 := by
  by_cases ha : a < s.size
  · rcases gG s a ha with ⟨w, h1, h2, h3, hh, hd, h4, h5, -⟩ | ⟨h1, hd⟩
    · have hn := (jN h1 h2 h3 hh).1
      rw [hn]
      exact ⟨(SG h3).1 hh, CI hh, hit_isR h1 hh⟩
    · unfold cE at h
      rw [if_neg (fun e => e.2 (by rw [hd]; exact ⟨rfl, rfl⟩))] at h
      cases h
  · rw [pE (by omega)] at h; cases h
theorem LZ {s : ByteArray} {a b c : Nat} (h1 : a ≤ b) (h2 : b ≤ c) : s.extract a c = s.extract a b ++ s.extract b c := by
  rw [ByteArray.extract_append_extract]
  congr 1 <;> omega
def CmI (a b : ByteArray) (be : Nat) (w1 : World) (pre : List Nat) (W : World) : Prop :=
  ∃ e : Nat, W.heap[be]? = some (.cells #[.int .i64 (e : Nat)] 3 (0, 0)) ∧ Evo [be] w1 W ∧ ((∃ k, pre = List.range k) → e = dP a pre.length ∧ e ≤ b.size ∧ a.extract 0 e = b.extract 0 e)
theorem CmI.own (a b : ByteArray) (be : Nat) (w1 : World) : OwnFrom w1.heap.size (CmI a b be w1) := fun _ _ _ _ ⟨e, h1, h2, h3⟩ hg hr =>
  ⟨e, UA h1 hg (fun r e => (hr r e).2), TG h2 hg (fun r e => (hr r e).1), h3⟩
def CmX (a b : ByteArray) (be : Nat) (w1 : World) (c : Code) (pre : List Nat) (W : World) : Prop := c = .exit 0 ∧ ∃ p x, pre = p ++ [x] ∧ (cE b (dP a x)).1 ≠ (cE a (dP a x)).1 ∧ CmI a b be w1 p W
theorem CmX.own (a b : ByteArray) (be : Nat) (w1 : World) (c : Code) : OwnFrom w1.heap.size (CmX a b be w1 c) := fun _ _ _ _ ⟨h1, p, x, h2, h4, h3⟩ hg hr => ⟨h1, p, x, h2, h4, CmI.own a b be w1 _ _ _ _ h3 hg hr⟩
end Go.Proofs.YtljadkcojnlioaaGreatDoor
namespace Go.Proofs.YtljadkcojnlioaaGreatDoor
open Go.RowKit Go.W
theorem toList_inj {a b : ByteArray} (h : a.toList = b.toList) : a = b := by
  rw [Go.ByteArray.toList_eq, Go.ByteArray.toList_eq] at h
  cases a; cases b
  simpa [Array.toList_inj] using h
theorem FN {w : World} {e : TypeId} {a : Option Addr} {n c : Nat} {xs : List Value} {g : Nat} (h : OwnS w e 1 a n c xs (some g)) : a = some ⟨g, 0, none⟩ := by
  rcases h.2 with ⟨_, _, h3⟩ | ⟨g', _, _, hg, hv, _⟩
  · cases h3
  · cases hg; cases hv; rfl
section
variable {α : Type} [Inhabited α] (enc : α → Value)
end
theorem hit_of {s : ByteArray} {a : Nat} (h : 0 < (cE s a).2) : 1 ≤ (cE s a).2 ∧ (cE s a).2 ≤ 4 ∧ a + (cE s a).2 ≤ s.size ∧ Hit s a (cE s a).2 := by
  by_cases ha : a < s.size
  · rcases gG s a ha with ⟨w, h1, h2, h3, hh, hd, h4, h5, -⟩ | ⟨h1, hd⟩
    · have hn := (jN h1 h2 h3 hh).1
      rw [hn]
      exact ⟨h1, h2, h3, hh⟩
    · unfold cE at h
      rw [if_neg (fun e => e.2 (by rw [hd]; exact ⟨rfl, rfl⟩))] at h
      cases h
  · rw [pE (by omega)] at h; cases h
theorem xJ {s : ByteArray} {a b : Nat} (h : b ≤ s.size) : (s.extract a b).size = b - a := by
  rw [ByteArray.size_extract]; omega
theorem AS {s : ByteArray} {a b p w : Nat} (hb : b ≤ s.size) (hw : 1 ≤ w) (hw4 : w ≤ 4) (hp : a + p + w ≤ b) : dY (s.extract a b) p w = dY s (a + p) w := by
  have e : ∀ k, k < w → sb (s.extract a b) (p + k) = sb s (a + p + k) := fun k hk => by
    rw [dV hb (by omega), Nat.add_assoc]
  have e0 := e 0 (by omega)
  simp only [Nat.add_zero] at e0
  unfold dY
  by_cases h1 : w = 1
  · simp only [h1, if_true]; rw [e0]
  have e1 := e 1 (by omega)
  by_cases h2 : w = 2
  · simp only [h2, if_true]; rw [e0, e1]
  have e2 := e 2 (by omega)
  by_cases h3 : w = 3
  · simp only [h3, if_true]; rw [e0, e1, e2]
  have h4 : w = 4 := by omega
  have e3 := e 3 (by omega)
  simp only [h4]; rw [e0, e1, e2, e3]
theorem hit_sub {s : ByteArray} {a b p w : Nat} (hb : b ≤ s.size) (hw : 1 ≤ w) (hw4 : w ≤ 4) (hp : a + p + w ≤ b) (h : Hit s (a + p) w) : Hit (s.extract a b) p w := by
  have hbb : gH (s.extract a b) p w = gH s (a + p) w := by
    unfold gH
    apply List.map_congr_left
    intro k hk
    have hk2 : k < w := by simpa using hk
    rw [dV hb (by omega), Nat.add_assoc]
  unfold Hit
  rw [AS hb hw hw4 hp, hbb]
  exact h
theorem FS {s : ByteArray} {a b p : Nat} (hb : b ≤ s.size) (h : 0 < (cE s (a + p)).2) (hp : a + p + (cE s (a + p)).2 ≤ b) : cE (s.extract a b) p = cE s (a + p) := by
  obtain ⟨h1, h2, h3, h4⟩ := hit_of h
  have h7 := (jN h1 h2 h3 h4).1
  have h5 := hit_sub hb h1 h2 hp h4
  have h6 := (jN h1 h2 (by rw [xJ hb]; omega) h5).1
  rw [AS hb h1 h2 hp] at h6
  exact h6.trans h7.symm
theorem utf_sub {s : ByteArray} {N i j : Nat} (hU : Utf s N) (hij : i ≤ j) (hj : j ≤ N) : Utf (s.extract (dP s i) (dP s j)) (j - i) := by
  have hb := wT s j
  have ho : ∀ k, k ≤ j - i → dP s i + dP (s.extract (dP s i) (dP s j)) k = dP s (i + k) := by
    intro k
    induction k with
    | zero => intro _; rfl
    | succ k ih =>
      intro hk
      have h1 := ih (by omega)
      have h2 := hU.2 (i + k) (by omega)
      have h3 := lI s (show i + k + 1 ≤ j by omega)
      rw [dP] at h3
      have h4 := FS (s := s) (a := dP s i) (p := dP (s.extract (dP s i) (dP s j)) k) hb (by rw [h1]; exact h2) (by rw [h1]; exact h3)
      rw [dP, h4, h1]
      rw [show i + (k + 1) = i + k + 1 from rfl, dP]
      omega
  refine ⟨?_, fun k hk => ?_⟩
  · have h1 := ho (j - i) (Nat.le_refl _)
    rw [show i + (j - i) = j by omega] at h1
    rw [xJ hb]; omega
  · have h1 := ho k (by omega)
    have h2 := hU.2 (i + k) (by omega)
    have h3 := lI s (show i + k + 1 ≤ j by omega)
    rw [dP] at h3
    rw [FS (s := s) hb (by rw [h1]; exact h2) (by rw [h1]; exact h3), h1]
    exact h2
def Fwd (N : Nat) (R : Nat → Nat → Prop) : Prop := ∀ i j, R i j → i ≤ N → i ≤ j ∧ j ≤ N
theorem yF {N : Nat} {R : Nat → Nat → Prop} (h : Fwd N R) : ∀ c, Fwd N (It R c)
  | 0, i, j, e, hi => by cases e; exact ⟨Nat.le_refl _, hi⟩
  | c + 1, i, j, ⟨k, h1, h2⟩, hi => by
    have h3 := h i k h1 hi
    have h4 := yF h c k j h2 h3.2
    omega
abbrev nob : ByteArray := ByteArray.mk #[]
def Hd (s : ByteArray) (N : Nat) (R : Nat → Nat → Prop) (t : ByteArray) (ex : Bool) : Prop :=
  ∀ i j, i ≤ N → R i j → dP s i + t.size ≤ dP s j ∧ s.extract (dP s i) (dP s i + t.size) = t ∧ (ex = true → dP s i + t.size = dP s j)
variable {s : ByteArray} {N : Nat} {R S : Nat → Nat → Prop} {t u : ByteArray} {ex fx : Bool}
theorem LY (s : ByteArray) (a : Nat) : s.extract a (a + nob.size) = nob := by
  have h : (s.extract a (a + nob.size)).size = 0 := by rw [ByteArray.size_extract]; show min (a + 0) _ - a = 0; omega
  exact ByteArray.size_eq_zero_iff.1 h
theorem Hd.eps (h : ∀ i j, R i j → i = j) : Hd s N R nob true := fun i j hi hr => by
  obtain rfl := h i j hr
  exact ⟨Nat.le_refl _, LY _ _, fun _ => rfl⟩
theorem Hd.none (h : Fwd N R) : Hd s N R nob false := fun i j hi hr => by
  have h1 := lI s (h i j hr hi).1
  exact ⟨by show dP s i + 0 ≤ _; omega, LY _ _, fun h => by cases h⟩
theorem Hd.congr (h : Hd s N R t ex) (e : ∀ i j, i ≤ N → S i j → R i j) : Hd s N S t ex := fun i j hi hr => h i j hi (e i j hi hr)
theorem Hd.seq (hf : Fwd N R) (h1 : Hd s N R t true) (h2 : Hd s N S u ex) : Hd s N (fun i j => ∃ k, R i k ∧ S k j) (t ++ u) ex := fun i j hi ⟨k, hr, hs⟩ => by
  have hk := hf i k hr hi
  have a := h1 i k hi hr
  have b := h2 k j hk.2 hs
  have hz : (t ++ u).size = t.size + u.size := ByteArray.size_append ..
  have e := a.2.2 rfl
  refine ⟨by omega, ?_, fun hx => by have := b.2.2 hx; omega⟩
  rw [LZ (b := dP s i + t.size) (by omega) (by omega), a.2.1, hz, ← Nat.add_assoc, e, b.2.1]
theorem Hd.cut (hf : Fwd N R) (hg : Fwd N S) (h1 : Hd s N R t ex) : Hd s N (fun i j => ∃ k, R i k ∧ S k j) t false := fun i j hi ⟨k, hr, hs⟩ => by
  have hk := hf i k hr hi
  have a := h1 i k hi hr
  have b := lI s (hg k j hs hk.2).1
  exact ⟨by omega, a.2.1, fun h => by cases h⟩
theorem Hd.alt (hU : Utf s N) (hf : Fwd N R) (hg : Fwd N S) (h1 : Hd s N R t ex) (h2 : Hd s N S u fx) {e : Nat} (e1 : e ≤ t.size) (e2 : e ≤ u.size) (e3 : t.extract 0 e = u.extract 0 e) (e4 : t = u → (∃ M, Utf t M) → e = t.size) :
    Hd s N (fun i j => R i j ∨ S i j) (t.extract 0 e) (ex && fx && decide (t = u)) := by
  have hz : (t.extract 0 e).size = e := by rw [xJ e1]; omega
  have key : ∀ {R : Nat → Nat → Prop} {t : ByteArray} {ex : Bool}, Fwd N R → Hd s N R t ex → e ≤ t.size → ∀ i j, i ≤ N → R i j → dP s i + e ≤ dP s j ∧ s.extract (dP s i) (dP s i + e) = t.extract 0 e ∧ (ex = true → (∃ M, Utf t M) ∧ dP s i + t.size = dP s j) := by
    intro R t ex hf h1 e1 i j hi hr
    have a := h1 i j hi hr
    refine ⟨by omega, ?_, fun hx => ⟨?_, a.2.2 hx⟩⟩
    · have h3 := congrArg (fun z : ByteArray => z.extract 0 e) a.2.1
      simp only [ByteArray.extract_extract] at h3
      rw [← h3]
      congr 1
      omega
    · have h3 := hf i j hr hi
      refine ⟨j - i, ?_⟩
      have h4 := utf_sub hU h3.1 h3.2
      rw [← a.2.2 hx, a.2.1] at h4
      exact h4
  intro i j hi hr
  rw [hz]
  rcases hr with hr | hr
  · obtain ⟨a, b, c⟩ := key hf h1 e1 i j hi hr
    refine ⟨a, b, fun hx => ?_⟩
    simp only [Bool.and_eq_true, decide_eq_true_eq] at hx
    have h3 := c hx.1.1
    rw [e4 hx.2 h3.1]; exact h3.2
  · obtain ⟨a, b, c⟩ := key hg h2 e2 i j hi hr
    refine ⟨a, by rw [b, e3], fun hx => ?_⟩
    simp only [Bool.and_eq_true, decide_eq_true_eq] at hx
    have h3 := c hx.1.2
    obtain ⟨⟨_, _⟩, rfl⟩ := hx
    rw [e4 rfl h3.1]; exact h3.2
def HA (t : ByteArray) (c : Nat) : ByteArray := ⟨(Lib.repeatL t.data.toList c).toArray⟩
theorem BD (t : ByteArray) : HA t 0 = nob := rfl
theorem BE (t : ByteArray) (c : Nat) : HA t (c + 1) = t ++ HA t c := by
  apply ByteArray.ext
  simp [HA, Lib.repeatL]
theorem OI (t : ByteArray) (c : Nat) : (HA t c).size = c * t.size := by
  induction c with
  | zero => rw [BD, Nat.zero_mul]; rfl
  | succ c ih => rw [BE, ByteArray.size_append, ih, Nat.succ_mul, Nat.add_comm]
theorem TX (c : Nat) : HA nob c = nob := by
  have h := OI nob c
  rw [show nob.size = 0 from rfl, Nat.mul_zero] at h
  exact ByteArray.size_eq_zero_iff.1 h
theorem Hd.it (hf : Fwd N R) (h : Hd s N R t true) : ∀ c, Hd s N (It R c) (HA t c) true
  | 0 => by rw [BD]; exact Hd.eps fun i j e => e
  | c + 1 => by
    rw [BE]
    exact (Hd.seq hf h (Hd.it hf h c)).congr fun i j _ h => h
def BM (mn mx : Int) (t : ByteArray) (ex : Bool) : ByteArray × Bool :=
  if mx = 0 then (nob, true) else if mn = 0 then (nob, ex && decide (t = nob)) else if ¬ ex = true ∨ t = nob then (t, ex) else (HA t mn.toNat, decide (mx = mn))
theorem Hd.rep (hf : Fwd N R) (h : Hd s N R t ex) {mn mx : Int} (h0 : 0 ≤ mn) (h1 : mx = -1 ∨ mn ≤ mx) :
    Hd s N (fun i j => ∃ c, mn.toNat ≤ c ∧ (mx = -1 ∨ c ≤ mx.toNat) ∧ It R c i j) (BM mn mx t ex).1 (BM mn mx t ex).2 := by
  have hall : Fwd N (fun i j => ∃ c, mn.toNat ≤ c ∧ (mx = -1 ∨ c ≤ mx.toNat) ∧ It R c i j) := fun i j ⟨c, _, _, hc⟩ hi => yF hf c i j hc hi
  have hnob : t = nob → ex = true → Hd s N (fun i j => ∃ c, mn.toNat ≤ c ∧ (mx = -1 ∨ c ≤ mx.toNat) ∧ It R c i j) nob true := fun e1 e2 i j hi ⟨c, _, _, hc⟩ => by
    subst e1 e2
    have := Hd.it hf h c i j hi hc
    rwa [TX] at this
  unfold BM
  by_cases c1 : mx = 0
  · rw [if_pos c1]
    refine Hd.eps fun i j ⟨c, _, h2, h3⟩ => ?_
    obtain rfl : c = 0 := by omega
    exact h3
  rw [if_neg c1]
  by_cases c2 : mn = 0
  · rw [if_pos c2]
    by_cases c3 : ex = true ∧ t = nob
    · rw [show (ex && decide (t = nob)) = true by simp [c3]]
      exact hnob c3.2 c3.1
    · rw [show (ex && decide (t = nob)) = false by simpa using c3]
      exact Hd.none hall
  rw [if_neg c2]
  by_cases c3 : ¬ ex = true ∨ t = nob
  · rw [if_pos c3]
    by_cases c4 : ex = true
    · have e := c3.resolve_left (fun h => h c4)
      show Hd s N _ t ex
      rw [c4, e]; exact hnob e c4
    · have e : ex = false := by simpa using c4
      show Hd s N _ t ex
      rw [e]
      intro i j hi ⟨c, h2, _, h3⟩
      obtain ⟨c, rfl⟩ : ∃ c', c = c' + 1 := ⟨c - 1, by omega⟩
      exact Hd.cut hf (yF hf c) h i j hi h3
  · rw [if_neg c3]
    have e : ex = true := by by_cases h : ex = true; exact h; exact (c3 (.inl h)).elim
    subst e
    intro i j hi ⟨c, h2, h3, h4⟩
    have hm := Hd.it hf h mn.toNat
    by_cases c5 : c = mn.toNat
    · subst c5
      have := hm i j hi h4
      exact ⟨this.1, this.2.1, fun _ => this.2.2 rfl⟩
    · obtain ⟨d, rfl⟩ : ∃ d, c = mn.toNat + d := ⟨c - mn.toNat, by omega⟩
      have h5 := Hd.cut (yF hf _) (yF hf d) hm i j hi (It.add.1 h4)
      exact ⟨h5.1, h5.2.1, fun hx => by simp only [decide_eq_true_eq] at hx; omega⟩
end Go.Proofs.YtljadkcojnlioaaGreatDoor
namespace Go.Proofs.YtljadkcojnlioaaGreatDoor
open Go.RowKit Go.W
def VR (rs : List Int) : Prop := ∀ r, r ∈ rs → IsR r
abbrev txt (rs : List Int) : ByteArray := bstr (frm rs)
theorem CN (a b : List Int) : frm (a ++ b) = frm a ++ frm b := by unfold frm; rw [List.flatMap_append]
theorem TW (a b : List Nat) : bstr (a ++ b) = bstr a ++ bstr b := by
  apply ByteArray.ext
  simp [bstr]
theorem txt_app (a b : List Int) : txt (a ++ b) = txt a ++ txt b := by unfold txt; rw [CN, TW]
theorem FB (rs : List Int) : (txt rs).size = (frm rs).length := BC _
theorem wN {l : List Nat} {k : Nat} (hk : k < l.length) (hl : ∀ b, b ∈ l → b < 256) : sb (bstr l) k = l[k] := by
  have hz : k < (bstr l).size := by rw [BC]; exact hk
  have h1 := hl l[k] (List.getElem_mem hk)
  rw [qR _ _ hz]
  show ((bstr l).data[k]'(by exact hz)).toNat = _
  simp [bstr]
  omega
theorem AT {r : Int} (h : IsR r) : 1 ≤ (dW r).length := by
  rw [dW, if_pos h]; unfold jL; repeat' split
  all_goals simp
theorem AM {s : ByteArray} {a : Nat} {r : Int} (hr : IsR r) (hs : a + (dW r).length ≤ s.size) (h : ∀ k (hk : k < (dW r).length), sb s (a + k) = (dW r)[k]) : cE s a = (r, (dW r).length) := by
  have hb : gH s a (dW r).length = dW r := by
    apply List.ext_getElem
    · simp [gH]
    · intro k h1 h2
      simp only [gH, List.getElem_map, List.getElem_range]
      exact h k h2
  have hg : dY s a (dW r).length = r := by
    obtain ⟨m, rfl⟩ := Int.eq_ofNat_of_zero_le hr.1
    have e : dW (m : Int) = jL m := by rw [dW, if_pos hr]; rfl
    rw [e] at h ⊢
    have hm : (m : Int) ≤ 1114111 := hr.2.1
    unfold jL at h ⊢
    by_cases c1 : m < 128
    · simp only [if_pos c1] at h ⊢
      have h0 := h 0 (by simp)
      simp at h0
      simp [dY, h0]
    by_cases c2 : m < 2048
    · simp only [if_neg c1, if_pos c2] at h ⊢
      have h0 := h 0 (by simp); have h1 := h 1 (by simp)
      simp at h0 h1
      simp [dY, h0, h1]; omega
    by_cases c3 : m < 65536
    · simp only [if_neg c1, if_neg c2, if_pos c3] at h ⊢
      have h0 := h 0 (by simp); have h1 := h 1 (by simp); have h2 := h 2 (by simp)
      simp at h0 h1 h2
      simp [dY, h0, h1, h2]; omega
    · simp only [if_neg c1, if_neg c2, if_neg c3] at h ⊢
      have h0 := h 0 (by simp); have h1 := h 1 (by simp); have h2 := h 2 (by simp); have h3 := h 3 (by simp)
      simp at h0 h1 h2 h3
      simp [dY, h0, h1, h2, h3]; omega
  have hh : Hit s a (dW r).length := by unfold Hit; rw [hg, hb]
  have := (jN (AT hr) (rY r) hs hh).1
  rw [this, hg]
theorem FR {p q : List Int} {r : Int} (hr : IsR r) : cE (txt (p ++ r :: q)) (frm p).length = (r, (dW r).length) := by
  have e : frm (p ++ r :: q) = frm p ++ (dW r ++ frm q) := by rw [CN]; rfl
  have hlt : ∀ b, b ∈ frm (p ++ r :: q) → b < 256 := JD _
  refine AM hr ?_ fun k hk => ?_
  · rw [FB, e]; simp only [List.length_append]; omega
  · rw [wN (by rw [e]; simp only [List.length_append]; omega) hlt]
    simp only [e]
    rw [List.getElem_append_right (by omega), List.getElem_append_left (by omega)]
    simp
theorem FO {rs : List Int} (h : VR rs) : ∀ k, k ≤ rs.length → dP (txt rs) k = (frm (rs.take k)).length := by
  intro k
  induction k with
  | zero => intro _; rfl
  | succ k ih =>
    intro hk
    have h1 := ih (by omega)
    have hlt : k < rs.length := by omega
    have e : rs = rs.take k ++ rs[k] :: rs.drop (k + 1) := by simp
    have h2 := FR (p := rs.take k) (q := rs.drop (k + 1)) (h rs[k] (List.getElem_mem hlt))
    rw [← e] at h2
    rw [dP, h1, h2, SQ hlt, List.length_append]
theorem utf_txt {rs : List Int} (h : VR rs) : Utf (txt rs) rs.length ∧ nW (txt rs) rs.length = rs := by
  have hn : ∀ k (hk : k < rs.length), cE (txt rs) (dP (txt rs) k) = (rs[k], (dW rs[k]).length) := fun k hk => by
    have e : rs = rs.take k ++ rs[k] :: rs.drop (k + 1) := by simp
    have h2 := FR (p := rs.take k) (q := rs.drop (k + 1)) (h rs[k] (List.getElem_mem hk))
    rw [← e] at h2
    rw [FO h k (by omega)]
    exact h2
  refine ⟨⟨?_, fun k hk => ?_⟩, ?_⟩
  · rw [FO h _ (Nat.le_refl _), List.take_length, FB]
  · rw [hn k hk]; exact AT (h _ (List.getElem_mem hk))
  · apply List.ext_getElem
    · simp [nW]
    · intro k h1 h2
      simp only [nW, List.getElem_map, List.getElem_range]
      show (cE _ _).1 = _
      rw [hn k h2]
theorem PF {s : ByteArray} {N : Nat} (hU : Utf s N) : VR (nW s N) := fun r hr => by
  obtain ⟨k, hk, rfl⟩ := List.mem_map.1 hr
  exact (xY (hU.2 k (List.mem_range.1 hk))).2.2
theorem MW {s : ByteArray} {N : Nat} (hU : Utf s N) : txt (nW s N) = s := by
  have h : ∀ k, k ≤ N → txt (nW s k) = s.extract 0 (dP s k) := by
    intro k
    induction k with
    | zero => intro _; symm; exact ByteArray.size_eq_zero_iff.1 (by rw [ByteArray.size_extract]; show min 0 _ - 0 = 0; omega)
    | succ k ih =>
      intro hk
      have h1 := xY (hU.2 k (by omega))
      rw [FE, txt_app, ih (by omega), LZ (b := dP s k) (Nat.zero_le _) (lI s (Nat.le_succ k)), dP, h1.1]
      congr 1
      simp [txt, frm]
  rw [h N (Nat.le_refl _), hU.1]
  simp
def At (s : ByteArray) : Nat → List Nat → Prop
  | _, [] => True
  | i, b :: l => isB s i b ∧ At s (i + 1) l
theorem At.app {s : ByteArray} : ∀ {a b : List Nat} {i : Nat}, At s i (a ++ b) ↔ At s i a ∧ At s (i + a.length) b
  | [], b, i => by simp [At]
  | x :: a, b, i => by
    show (isB s i x ∧ At s (i + 1) (a ++ b)) ↔ (isB s i x ∧ At s (i + 1) a) ∧ At s (i + (x :: a).length) b
    rw [At.app (a := a), List.length_cons, show i + (a.length + 1) = i + 1 + a.length by omega, and_assoc]
theorem At.get {s : ByteArray} : ∀ {l : List Nat} {i : Nat}, At s i l → ∀ {k : Nat} (hk : k < l.length), isB s (i + k) l[k]
  | x :: l, i, h, 0, hk => h.1
  | x :: l, i, h, k + 1, hk => by
    have := At.get h.2 (k := k) (by simpa using hk)
    rw [show i + (k + 1) = i + 1 + k by omega]
    exact this
theorem At.of {s : ByteArray} : ∀ {l : List Nat} {i : Nat}, (∀ k (hk : k < l.length), isB s (i + k) l[k]) → At s i l
  | [], i, h => trivial
  | x :: l, i, h => ⟨h 0 (by simp), At.of fun k hk => by
    have := h (k + 1) (by simpa using hk)
    rw [show i + (k + 1) = i + 1 + k by omega] at this
    exact this⟩
theorem At.le {s : ByteArray} {l : List Nat} {i : Nat} (h : At s i l) (hl : l ≠ []) : i + l.length ≤ s.size := by
  have h1 : 0 < l.length := List.length_pos_iff.2 hl
  have := (h.get (k := l.length - 1) (by omega)).1
  omega
theorem isB.ne {s : ByteArray} {i a b : Nat} (h : isB s i a) (hab : a ≠ b) : ¬ isB s i b := fun h2 => hab (h.2.symm.trans h2.2)
theorem BY {s : ByteArray} {i : Nat} (hi : i < s.size) (h : sb s i < 128) : cE s i = (((sb s i : Nat) : Int), 1) := by
  have hr : IsR (sb s i : Nat) := ⟨by omega, by omega, by omega⟩
  have hf : dW (sb s i : Nat) = [sb s i] := by
    unfold dW
    rw [if_pos hr]
    unfold jL
    rw [if_pos (by omega)]
    simp
  have := AM (s := s) (a := i) hr (by rw [hf]; simp; omega) (fun k hk => by
    have hk0 : k = 0 := by rw [hf] at hk; simp at hk; exact hk
    subst hk0
    simp [hf])
  rw [this, hf]
  rfl
theorem xW {s : ByteArray} (h : ∀ k, k < s.size → sb s k < 128) : ∀ {k : Nat}, k ≤ s.size → dP s k = k
  | 0, _ => rfl
  | k + 1, hk => by
    have h1 := xW h (k := k) (by omega)
    show dP s k + (cE s (dP s k)).2 = k + 1
    rw [h1, BY (by omega) (h k (by omega))]
theorem JZ {s : ByteArray} (h : ∀ k, k < s.size → sb s k < 128) : Utf s s.size := by
  refine ⟨xW h (Nat.le_refl _), fun k hk => ?_⟩
  rw [xW h (by omega), BY hk (h k hk)]
  exact Nat.one_pos
theorem PD {s : ByteArray} {i : Nat} (h : i < s.size) : sb (s.extract i s.size) 0 = sb s i := by
  have := gE (s := s) (i := i) (k := 0) (by omega)
  simpa using this
theorem PO {s : ByteArray} {i : Nat} (h : i < s.size) (h1 : sb s i ≠ 42) (h2 : sb s i ≠ 43) (h3 : sb s i ≠ 63) (h4 : sb s i ≠ 123) : kY (s.extract i s.size) = (0, 0, 0) := by
  have e := PD h
  exact PY (by rw [e]; exact h1) (by rw [e]; exact h2) (by rw [e]; exact h3) (by rw [e]; exact h4)
def MR (c : Nat) : Prop := c < 128 ∧ c ≠ 36 ∧ c ≠ 40 ∧ c ≠ 41 ∧ c ≠ 42 ∧ c ≠ 43 ∧ c ≠ 46 ∧ c ≠ 63 ∧ c ≠ 91 ∧ c ≠ 92 ∧ c ≠ 94 ∧ c ≠ 123 ∧ c ≠ 124
instance (c : Nat) : Decidable (MR c) := by unfold MR; infer_instance
section
variable {s : ByteArray} {ex : PS → PX Rx} {f : Nat} {l g : List Rx} {ah : Bool} {st st2 : PS} {e : Int} {c : Nat}
theorem IK (h : isB s st.pos c) (hc : MR c) : eM s ex st = .ok ([lX st.now c], hY st (st.pos + 1)) := by
  obtain ⟨h1, h2⟩ := h
  obtain ⟨c1, c2, c3, c4, c5, c6, c7, c8, c9, c10, c11, c12, c13⟩ := hc
  have hn := BY h1 (by omega)
  rw [h2] at hn
  rw [pc_pl (by omega) (by omega) (by omega), QB (by rw [hn]; show ¬ ((c : Nat) : Int) = 46; omega) (by rw [hn]; show ¬ ((c : Nat) : Int) = 94; omega) (by rw [hn]; show ¬ ((c : Nat) : Int) = 36; omega), hn]
theorem nV (h : isB s st.pos c) (hc : c ≠ 41 ∧ c ≠ 42 ∧ c ≠ 43 ∧ c ≠ 63 ∧ c ≠ 123 ∧ c ≠ 124) (hp : eM s ex st = .ok (g, st2)) : gZ s ex (f + 1) l ah st = gZ s ex f (l ++ g) (decide (0 < g.length)) st2 := by
  obtain ⟨h1, h2⟩ := h
  exact zB (lo := 0) (hi := 0) (by omega) (PO h1 (by omega) (by omega) (by omega) (by omega)) hp
theorem tC (h : isB s st.pos c) (hc : c ≠ 41 ∧ c ≠ 42 ∧ c ≠ 43 ∧ c ≠ 63 ∧ c ≠ 123 ∧ c ≠ 124) (hp : eM s ex st = .error e) : gZ s ex (f + 1) l ah st = .error e := by
  obtain ⟨h1, h2⟩ := h
  exact tZ (lo := 0) (hi := 0) (by omega) (PO h1 (by omega) (by omega) (by omega) (by omega)) hp
theorem UF (h : isB s st.pos c) (hc : MR c) : gZ s ex (f + 1) l ah st = gZ s ex f (l ++ [lX st.now c]) true (hY st (st.pos + 1)) := by
  have hc' := hc
  obtain ⟨c1, c2, c3, c4, c5, c6, c7, c8, c9, c10, c11, c12, c13⟩ := hc
  rw [nV h ⟨by omega, by omega, by omega, by omega, by omega, by omega⟩ (IK h hc')]
  rfl
theorem xU {i : Nat} {fl : Fl} (h : At s i [40, 63, 58]) : eA s i fl = ⟨3, emp, fl, false, false, 0⟩ := by
  obtain ⟨h0, h1, h2, -⟩ := h
  unfold eA
  rw [if_neg (fun h => h ⟨h0, h1⟩), if_neg (fun h => isB.ne h2 (by decide) h.1), if_neg (isB.ne h2 (by decide)), if_pos h2]
theorem DI (h : isB s st.pos 40) : eM s ex st = oH s ex st := QG h.2
theorem OH {x : Rx} {p : Nat} {ns : List ByteArray} {fl : Fl} {o : Nat} (h : At s st.pos [40, 63, 58]) (ho : st.opn ≠ 250) (hx : ex ⟨st.pos + 3, st.now, st.opn + 1, st.names⟩ = .ok (x, ⟨p, fl, o + 1, ns⟩)) (hcl : isB s p 41) :
    eM s ex st = .ok ([x], ⟨p + 1, st.now, o, ns⟩) := by
  rw [DI h.1, kZ (xU h) (by simp) ho (by simp) (by simp)]
  show (match ex ⟨st.pos + 3, st.now, st.opn + 1, st.names⟩ with | .error e => _ | .ok (x, st2) => _) = _
  rw [hx]
  simp only
  rw [if_pos hcl]
  rfl
theorem JN (h : At s st.pos [40, 63, 58]) (ho : st.opn ≠ 250) (hx : ex ⟨st.pos + 3, st.now, st.opn + 1, st.names⟩ = .error e) : eM s ex st = .error e := by
  rw [DI h.1, kZ (xU h) (by simp) ho (by simp) (by simp)]
  show (match ex ⟨st.pos + 3, st.now, st.opn + 1, st.names⟩ with | .error e => _ | .ok (x, st2) => _) = _
  rw [hx]
theorem pExp_ex (s : ByteArray) : ∀ n, ∃ ex, ∀ st, iD s n st = iU s ex st
  | 0 => ⟨_, fun st => rfl⟩
  | n + 1 => ⟨iD s n, fun st => rfl⟩
theorem TB {x : Rx} (h : gZ s ex (s.size + 1) [] false st = .ok (x, st2)) (h2 : ¬ isB s st2.pos 124) : iU s ex st = .ok (x, st2) := by
  rw [qC (show mJ s ex st = _ from h), mX h2]
  rfl
theorem TD (h : gZ s ex (s.size + 1) [] false st = .error e) : iU s ex st = .error e := MA (show mJ s ex st = _ from h)
end
end Go.Proofs.YtljadkcojnlioaaGreatDoor
namespace Go.Proofs.YtljadkcojnlioaaGreatDoor
open Go.RowKit Go.W
attribute [local irreducible] Decidable.decide
theorem wB : eY Tryz.prog 48 := ⟨_, Tryz.func48, by kernel_rfl, by kernel_rfl⟩
theorem lN : eY Tryz.prog 50 := ⟨_, Tryz.func50, by kernel_rfl, by kernel_rfl⟩
theorem HO : eY Tryz.prog 72 := ⟨_, Tryz.func72, by kernel_rfl, by kernel_rfl⟩
theorem HN : eY Tryz.prog 73 := ⟨_, Tryz.func73, by kernel_rfl, by kernel_rfl⟩
theorem oQ : eY Tryz.prog 74 := ⟨_, Tryz.func74, by kernel_rfl, by kernel_rfl⟩
theorem HM : eY Tryz.prog 75 := ⟨_, Tryz.func75, by kernel_rfl, by kernel_rfl⟩
structure WcG where
  k : Nat
  o : Option Nat
structure WcI (w0 w wr : World) (b : Nat) (L : List Nat) (ob o : Option Nat) : Prop where
  bd : BdN wr b L o
  e0 : Evo [] w0 wr
  nb : o = ob ∨ ∃ g, o = some g ∧ w.heap.size ≤ g
  hu : Ge w0 o
theorem zM {w0 w : World} {b : Nat} {l : List Nat} {ob : Option Nat} {v : Value} {rs : List (Int × Int)} (hG : Gw w0) (hE0 : Evo [] w0 w) (hub : w0.heap.size ≤ b) (huo : Ge w0 ob) (h : BdN w b l ob) (hr : RSl 2 RRg [] w0 v rs) (hrg : RgB rs) (hl : l.length + 26 * rs.length ≤ 80000000) :
    Calls Tryz.prog 73 #[.pointer (some ⟨b, 0, none⟩), v] w (Ret fun v w' => Wr w b (l ++ zR rs) ob w') := by
  obtain ⟨ka, kc, rfl, hkc, e1⟩ := hr; refine bJ (N := 37) Tryz.func73 rfl rfl rfl ?_; refine aE (aE (aB (aG (aF (bK rfl Tryz.underlying24 rfl) ?_)))); refine aF (bD rfl rfl) ?_; refine aC (aA (bF rfl (fun hc8 => ?_) (fun hc8 => ?_)))
  ·refine aE (aB (aG ?_))
   refine aK (vs := [_, _]) bW rfl (cW h (m := TR) (by decide +kernel) (cB (by decide +kernel)) (by first | omega | simp only [List.length_append, List.length_cons, List.length_nil]; omega) (by decide)) rfl ?_
   rintro _ w1 ⟨obw1, hBDw1, hw2, hnb1⟩; have hV9 := (Evo.refl (b :: ob.toList) w); have hV90 := hE0; have hN1 := cY (Or.inl rfl) hnb1 hV9.size; have hU1 := dM huo hV90.size hnb1; refine aC (aA (aO (aN (vI rfl ?_)))); exact eL hBDw1 (by rw [zR, if_pos (List.length_eq_zero_iff.1 (by omega))]) ((Evo.refl (b :: ob.toList) w).step hw2 (cZ (Or.inl rfl))) hN1
  refine aU (aA (aE (aB (aG ?_))))
  refine aK (vs := [_, _]) bW rfl (cW h (m := [91]) (by decide +kernel) (cB (by decide +kernel)) (by first | omega | simp only [List.length_append, List.length_cons, List.length_nil]; omega) (by decide)) rfl ?_
  rintro _ w5 ⟨obw1, hBDw1, hw6, hnb1⟩; have hV9 := (Evo.refl (b :: ob.toList) w); have hV90 := hE0; have hN1 := cY (Or.inl rfl) hnb1 hV9.size; have hU1 := dM huo hV90.size hnb1; refine aC (aA (aE (aE (aB (aG (aF (bK rfl Tryz.underlying24 rfl) ?_)))))); refine aG (aC (aA (bR ?_))); refine eV (α := WcG) (⟨0, obw1⟩) (fun x => [(15, .int .i64 (x.k : Nat))]) [(0, _), (13, _), (14, _)] (fun x wr => Evo (b :: ob.toList) w wr ∧ (x.k ≤ rs.length ∧ WcI w0 w wr b (l ++ ([91] ++ (rs.take x.k).flatMap uV)) ob x.o)) (fun x => rs.length - x.k) ⟨rfl, trivial⟩ ⟨rfl, rfl, rfl, trivial⟩ ⟨((Evo.refl (b :: ob.toList) w).step hw6 (cZ (Or.inl rfl))), ⟨Nat.zero_le _, by simpa using hBDw1, (hE0.step hw6 (iA hub huo)), hN1, hU1⟩⟩ ?_; rintro ⟨k, o1⟩ wr9 ⟨hV10, ⟨hk, hBDl, hE0l, hNl, hUl⟩⟩; show CW _ _ _ _ [(15, .int .i64 (k : Nat)), (0, _), (13, _), (14, _)] _
  try dsimp only at hk
  try dsimp only at hBDl
  try dsimp only at hE0l
  try dsimp only at hNl
  try dsimp only at hUl
  refine aE (aB (aF (dF rfl rfl) ?_)); refine aC (aA (aE (bF rfl (fun hc16 => ?_) (fun hc16 => ?_))))
  ·have hk' : k < rs.length := by omega
   obtain ⟨b1, o1', vs1, ha1, hb1, hvl1, hc1, hrk⟩ := e1 k hk'; obtain rfl := hrk; obtain ⟨hr0, hr1, hr2⟩ := hrg _ (List.getElem_mem hk'); have hfl := wP (l := rs.take k) (fun g hg => hrg g (List.mem_of_mem_take hg)); rw [List.length_take] at hfl; have hb26 := (CX hr0 (show rs[k].1 ≤ 1114111 by omega)).1; refine aU (aA (aE (bR (aE (aB ?_)))))
   refine aF (gF (n := k) (by rw [ha1]; rfl) rfl fE (by omega)) ?_
   refine aF (eJ rfl kD fY (vs := [_, _]) rfl (hc1.evo hE0l (by simp))) ?_; refine dA rfl mZ fun b5 w11 hB12 hs13 hw14 => ?_; have hsz_b5 := hs13; have hF19 := hBDl.evo0 hw14
   have hAJ_b5 : Apart (some b5) (some b) := (Apart.new (fun g hg => by cases hg; exact hBDl.lt) hsz_b5).symm
   have hAO_b5 : Apart (some b5) o1 := (Apart.new hBDl.ltO hsz_b5).symm; refine bI rfl rfl fY hB12 rfl rfl ⟨rfl, rfl, trivial⟩ fun w20 hB21 hw22 => ?_; have hE23 := (hV10.then hw14).step hw22 (Ge.new hV10 hs13).mem1; have hE24 := (hE0l.then hw14).step hw22 (Ge.new hE0l hs13).mem1; refine aC (aA (aE (aB (aG (aF (aD rfl gJ) (aF (aI rfl cF (aJ hB21 rfl)) ?_))))))
   refine aK (vs := [_, _]) uQ rfl (vN hG hE24 hub hUl (hF19.evo hw22 (hAJ_b5).symm.nmem1 (hAO_b5).symm.own1) (by simp only [List.length_append, List.length_cons, List.length_nil]; omega) hr0 (by omega)) rfl ?_
   rintro _ w26 ⟨obw2, hBDw2, hw27, hnb2⟩; have hV9 := hE23; have hV90 := hE24; have hN2 := cY hNl hnb2 hV9.size; have hU2 := dM hUl hV90.size hnb2; have hAO2_b5 := fM hAO_b5 (Lt.blk hB21) hnb2; have hE28 := hE23.step hw27 (cZ hNl); have hE29 := hE24.step hw27 (iA hub hUl); have hB30 := hw27.blk hB21 (nF hAJ_b5 hAO_b5); refine aC (aA (aE (aB (aF (aD rfl fG) (aF (aI rfl cF (aJ hB30 rfl)) (aF (aD rfl gJ) (aF (aI rfl cF (aJ hB30 rfl)) (aF (gL rfl rfl) ?_)))))))); refine aC (aA (bF rfl (fun hc27 => ?_) (fun hc27 => ?_)))
   ·refine aE (aB (aG ?_))
    refine aK (vs := [_, _]) bW rfl (cW hBDw2 (m := [45]) (by decide +kernel) (cB (by decide +kernel)) (by first | omega | simp only [List.length_append, List.length_cons, List.length_nil]; omega) (by decide)) rfl ?_
    rintro _ w31 ⟨obw3, hBDw3, hw32, hnb3⟩; have hV9 := hE28; have hV90 := hE29; have hN3 := cY hN2 hnb3 hV9.size; have hU3 := dM hU2 hV90.size hnb3; have hE33 := hE28.step hw32 (cZ hN2); have hE34 := hE29.step hw32 (iA hub hU2); refine aC (aA (aB (aG (aF (aD rfl fG) (aF (aI rfl cF (aJ (hw32.blk hB30 (nF hAJ_b5 hAO2_b5)) rfl)) ?_)))))
    refine aK (vs := [_, _]) uQ rfl (vN hG hE34 hub hU3 hBDw3 (by simp only [List.length_append, List.length_cons, List.length_nil]; omega) (by omega) hr2) rfl ?_
    rintro _ w36 ⟨obw4, hBDw4, hw37, hnb4⟩; have hV9 := hE33; have hV90 := hE34; refine aC (aW (aA (aB ?_))); refine aF (bC rfl rfl (by omega) (by omega)) ?_; refine aG (aC (bY ?_)); refine ⟨⟨k + 1, obw4⟩, ?_, ⟨rfl, trivial⟩, ⟨rfl, rfl, rfl, trivial⟩, (hE33.step hw37 (cZ hN3)), ?_⟩
    · (try dsimp only); omega
    try dsimp only
    refine ⟨by omega, ?_, (hE34.step hw37 (iA hub hU3)), (cY hN3 hnb4 hV9.size), (dM hU3 hV90.size hnb4)⟩; have hfin := hBDw4
    rw [FF hk', uV, if_pos hc27]; simpa [List.append_assoc] using hfin
   refine aU (aW (aA (aB ?_))); refine aF (bC rfl rfl (by omega) (by omega)) ?_; refine aG (aC (bY ?_)); refine ⟨⟨k + 1, obw2⟩, ?_, ⟨rfl, trivial⟩, ⟨rfl, rfl, rfl, trivial⟩, hE28, ?_⟩
   · (try dsimp only); omega
   try dsimp only
   refine ⟨by omega, ?_, hE29, hN2, hU2⟩; have hfin := hBDw2
   rw [FF hk', uV, if_neg hc27]; simpa [List.append_assoc] using hfin
  have hfl := wP (l := rs.take k) (fun g hg => hrg g (List.mem_of_mem_take hg)); rw [List.length_take] at hfl; refine dO (cD (cD (dN (aA ?_)))); refine aB (aG ?_)
  refine aK (vs := [_, _]) bW rfl (cW hBDl (m := [93]) (by decide +kernel) (cB (by decide +kernel)) (by first | omega | simp only [List.length_append, List.length_cons, List.length_nil]; omega) (by decide)) rfl ?_
  rintro _ w41 ⟨obw2, hBDw2, hw42, hnb2⟩; have hV9 := hV10; have hV90 := hE0l; have hN2 := cY hNl hnb2 hV9.size; have hU2 := dM hUl hV90.size hnb2; refine aC (cC rfl ?_)
  exact eL hBDw2 (by rw [zR, if_neg (fun h9 => hc8 (by rw [h9]; rfl))]; obtain rfl : k = rs.length := (by omega); rw [List.take_length]; simp) (hV10.step hw42 (cZ hNl)) hN2
theorem brW_len (p : Prop) [Decidable p] (l : List Nat) : (brW p l).length ≤ l.length + 4 := by unfold brW; split <;> simp
theorem UC (k : Int) (f : Bool) : (yY k f).length ≤ 1 := by unfold yY; split <;> simp
theorem FC {lo hi : Int} (h0 : 0 ≤ lo) (h1 : lo ≤ 1000) (h2 : hi = -1 ∨ (lo ≤ hi ∧ hi ≤ 1000)) : (kE lo hi).length ≤ 12 := by
  have h3 := xC lo.toNat (by omega)
  unfold kE
  split
  · simp
  · split
    · simp
    · split
      · simp
      · split
        · simp; omega
        · have h4 := xC hi.toNat (by omega)
          split
          · simp; omega
          · simp; omega
mutual
theorem JX : ∀ (x : Rx), Good x → x.w.length + 5 ≤ x.ms
  | .mk k r rs mn mx lz cp nm ks, hg => by
    have hn := (eB _).1 hg.node
    have h1 := mV ks k true (fun y hy => hg.kid y hy)
    rw [Rx.w, Rx.ms, List.length_append, List.length_append]
    have h2 : (BP k r rs nm).length ≤ 20 + nm.size + 26 * rs.length := by
      unfold BP
      split
      · have := (LG (hn.lit1 (by assumption)) (hn.lit2 (by assumption))).1
        simp only [Rx.r] at this; omega
      · split
        · have := wP (RangesOk.b (hn.cls (by assumption)))
          simp only [Rx.ranges] at this
          unfold zR
          split
          · show 19 ≤ _; omega
          · rw [List.length_append, List.length_append]; simp only [List.length_cons, List.length_nil]; omega
        · split
          · split
            · simp; omega
            · simp [wU]; omega
          · split
            · simp; omega
            · split
              · simp; omega
              · split
                · simp; omega
                · split
                  · simp; omega
                  · split
                    · simp; omega
                    · split
                      · simp; omega
                      · simp
    have h3 : (BI k mn mx lz).length ≤ 13 := by
      unfold BI
      split
      · have := FC (hn.rep1 (by assumption)) (hn.rep2 (by assumption)) (hn.rep3 (by assumption))
        simp only [Rx.min, Rx.max] at this
        rw [List.length_append]
        split <;> simp <;> omega
      · split <;> simp
    omega
theorem mV : ∀ (l : List Rx) (k : Int) (f : Bool), (∀ x, x ∈ l → Good x) → (gM k f l).length ≤ kms l
  | [], k, f, _ => by rw [gM, kms]; simp
  | x :: xs, k, f, h => by
    rw [gM, kms, List.length_append, List.length_append]
    have h1 := JX x (h x (List.mem_cons_self ..))
    have h2 := mV xs k false (fun y hy => h y (List.mem_cons_of_mem _ hy))
    have h3 := brW_len (Brk x.kind k) x.w
    have h4 := UC k f
    omega
end
theorem pO {t : Rx} (hg : Good t) (h : ¬ (t.kind = 4 ∨ t.kind = 5 ∨ t.kind = 6 ∨ t.kind = 7)) : t.w = BP t.kind t.r t.ranges t.name := by
  rw [Rx.w_eq, hg.node.leaf h, gM, BI, if_neg (by omega), if_neg (by omega)]; simp
theorem OS {t : Rx} (h : t.kind = 4 ∨ t.kind = 5) : t.w = gM t.kind true t.kids := by
  rw [Rx.w_eq, BI, if_neg (by omega), if_neg (by omega)]
  rcases h with h | h <;> rw [h] <;> simp [BP]
theorem w_rep {t : Rx} (h : t.kind = 6) : t.w = gM t.kind true t.kids ++ kE t.min t.max ++ (if t.lazy = true then [63] else []) := by
  rw [Rx.w_eq, BI, if_pos h, h]; simp [BP]
theorem w_grp {t : Rx} (h : t.kind = 7) : t.w = [40] ++ (if t.name = ByteArray.mk #[] then [] else [63, 80, 60] ++ nmL t.name ++ [62]) ++ gM t.kind true t.kids ++ [41] := by
  rw [Rx.w_eq, h, BI, if_neg (by decide), if_pos rfl]; rfl
def WOK (n : Nat) : Prop := ∀ {w0 w : World} {b : Nat} {l : List Nat} {ob : Option Nat} {vs : List Value} {t : Rx} (hG : Gw w0) (hE0 : Evo [] w0 w) (hub : w0.heap.size ≤ b) (huo : Ge w0 ob) (h : BdN w b l ob) (hx : RRx n [] w0 vs t) (hg : Good t) (hl : l.length + t.ms ≤ 70000000),
    Calls Tryz.prog 50 #[.pointer (some ⟨b, 0, none⟩), .agg vs.toArray] w (Ret fun v w' => Wr w b (l ++ t.w) ob w')
theorem mS {n : Nat} (ih : WOK n) {w0 w : World} {b : Nat} {l : List Nat} {ob : Option Nat} {vs : List Value} {t : Rx} {k : Int} (hG : Gw w0) (hE0 : Evo [] w0 w) (hub : w0.heap.size ≤ b) (huo : Ge w0 ob) (h : BdN w b l ob) (hx : RRx n [] w0 vs t) (hg : Good t) (hl : l.length + t.ms + 3 ≤ 70000000) :
    Calls Tryz.prog 74 #[.pointer (some ⟨b, 0, none⟩), .agg vs.toArray, .int .i64 k] w (Ret fun v w' => Wr w b (l ++ brW (Brk t.kind k) t.w) ob w') := by
  have hx0 := hx; obtain ⟨m, ra, rc, ka, kc, hm, rfl, hrg, hk, bl1, bl2, bl3⟩ := hx.get; have hwl := JX t hg; refine bJ (N := 21) Tryz.func74 rfl rfl rfl ?_; refine aE (aB (kS rfl rfl fun b4 w1 hB2 hs3 hw4 => ?_)); have hsz_b4 := hs3; have hF9 := h.evo0 hw4
  have hAJ_b4 : Apart (some b4) (some b) := (Apart.new (fun g hg => by cases hg; exact h.lt) hsz_b4).symm
  have hAO_b4 : Apart (some b4) ob := (Apart.new h.ltO hsz_b4).symm; refine aC (aA (aE (aE (aB (aF (aD rfl eS) (aF (aI rfl aZ (aJ hB2 rfl)) (aG (aK (vs := [_, _]) vX rfl (tW t.kind k) rfl ?_)))))))); rintro _ w10 ⟨rfl, hw11⟩; have hE12 := ((Evo.refl (b :: ob.toList) w).then hw4).then hw11; have hE13 := (hE0.then hw4).then hw11; have hB15 := hw11.blk0 hB2; refine aF (fF rfl) ?_; refine aC (aA (fW rfl (fun hc10 => ?_) (fun hc10 => ?_)))
  ·refine aE (aB (aG (aF (bX rfl bQ aY hB15 rfl) ?_))); refine aK (vs := [_, _]) lN rfl (ih hG hE13 hub huo (hF9.evo0 hw11) hx0 hg (by omega)) rfl ?_; rintro _ w16 ⟨obw1, hBDw1, hw17, hnb1⟩; have hV9 := hE12; have hV90 := hE13; have hN1 := cY (Or.inl rfl) hnb1 hV9.size; have hU1 := dM huo hV90.size hnb1; have hAO1_b4 := fM hAO_b4 (Lt.blk hB15) hnb1; refine aC (aA (aO (aN (vI rfl ?_)))); exact eL hBDw1 (by rw [brW, if_neg (by simpa using hc10)]) (hE12.step hw17 (cZ (Or.inl rfl))) hN1
  refine aU (aA (aE (aB (aG ?_))))
  refine aK (vs := [_, _]) bW rfl (cW (hF9.evo0 hw11) (m := [40, 63, 58]) (by decide +kernel) (cB (by decide +kernel)) (by first | omega | simp only [List.length_append, List.length_cons, List.length_nil]; omega) (by decide)) rfl ?_
  rintro _ w21 ⟨obw1, hBDw1, hw22, hnb1⟩; have hV9 := hE12; have hV90 := hE13; have hN1 := cY (Or.inl rfl) hnb1 hV9.size; have hU1 := dM huo hV90.size hnb1; have hAO1_b4 := fM hAO_b4 (Lt.blk hB15) hnb1; have hE23 := hE12.step hw22 (cZ (Or.inl rfl)); have hE24 := hE13.step hw22 (iA hub huo); refine aC (aA (aE (aB (aG (aF (bX rfl bQ aY (hw22.blk hB15 (nF hAJ_b4 hAO_b4)) rfl) ?_)))))
  refine aK (vs := [_, _]) lN rfl (ih hG hE24 hub hU1 hBDw1 hx0 hg (by simp only [List.length_append, List.length_cons, List.length_nil]; omega)) rfl ?_
  rintro _ w26 ⟨obw2, hBDw2, hw27, hnb2⟩; have hV9 := hE23; have hV90 := hE24; have hN2 := cY hN1 hnb2 hV9.size; have hE28 := hE23.step hw27 (cZ hN1); refine aC (aA (aB (aG ?_)))
  refine aK (vs := [_, _]) bW rfl (cW hBDw2 (m := [41]) (by decide +kernel) (cB (by decide +kernel)) (by first | omega | simp only [List.length_append, List.length_cons, List.length_nil]; omega) (by decide)) rfl ?_
  rintro _ w31 ⟨obw3, hBDw3, hw32, hnb3⟩; have hV9 := hE28; have hV90 := (hE24.step hw27 (iA hub hU1)); refine aC (cC rfl ?_)
  exact eL hBDw3 (by rw [brW, if_pos (by simpa using hc10)]; simp) (hE28.step hw32 (cZ hN2)) (cY hN2 hnb3 hV9.size)
structure WkI (w0 w wr : World) (b b3 : Nat) (C : Array Value) (L : List Nat) (ob o : Option Nat) : Prop where
  bd : BdN wr b L o
  e0 : Evo [] w0 wr
  nb : o = ob ∨ ∃ g, o = some g ∧ w.heap.size ≤ g
  hu : Ge w0 o
  h3 : wr.heap[b3]? = some (.cells C 27 (0, 0))
  ao : Apart (some b3) o
set_option maxHeartbeats 8000000 in
theorem HX {n : Nat} (ih : WOK n) {w0 w : World} {b : Nat} {l : List Nat} {ob : Option Nat} {vs : List Value} {t : Rx} (hG : Gw w0) (hE0 : Evo [] w0 w) (hub : w0.heap.size ≤ b) (huo : Ge w0 ob) (h : BdN w b l ob) (hx : RRx (n + 1) [] w0 vs t) (hg : Good t) (hl : l.length + t.ms ≤ 70000000) :
    Calls Tryz.prog 50 #[.pointer (some ⟨b, 0, none⟩), .agg vs.toArray] w (Ret fun v w' => Wr w b (l ++ t.w) ob w') := by
  have hx0 := hx; obtain ⟨m, ra, rc, ka, kc, hm, rfl, hrg, hk, bl1, bl2, bl3⟩ := hx.get
  obtain rfl : m = n := by omega
  have hwl := JX t hg; have hn := (eB t).1 hg.node; have hms := Rx.ms_eq t; have hk' := hk; obtain ⟨_, _, hke, hkc, e1⟩ := hk'; cases hke; refine bJ (N := 122) Tryz.func50 rfl rfl rfl ?_; refine aE (aB (kS rfl rfl fun b3 w1 hB2 hs3 hw4 => ?_)); have hsz_b3 := hs3; have hE7 := (Evo.refl (b :: ob.toList) w).then hw4; have hE8 := hE0.then hw4; have hF9 := h.evo0 hw4
  have hAJ_b3 : Apart (some b3) (some b) := (Apart.new (fun g hg => by cases hg; exact h.lt) hsz_b3).symm
  have hAO_b3 : Apart (some b3) ob := (Apart.new h.ltO hsz_b3).symm; refine aC (aA (aE (aB (aF (aD rfl eS) (aF (aI rfl aZ (aJ hB2 rfl)) (aC (aA (bR (aE (aB (aF (bD rfl rfl) ?_))))))))))); refine aM (aC (aA (bF rfl (fun hc10 => ?_) (fun hc10 => ?_))))
  ·refine aB (aG ?_)
   refine aK (vs := [_, _]) bW rfl (cW hF9 (m := [92, 65]) (by decide +kernel) (cB (by decide +kernel)) (by first | omega | simp only [List.length_append, List.length_cons, List.length_nil]; omega) (by decide)) rfl ?_
   rintro _ w10 ⟨obw1, hBDw1, hw11, hnb1⟩; have hV9 := hE7; have hV90 := hE8; have hN1 := cY (Or.inl rfl) hnb1 hV9.size; have hU1 := dM huo hV90.size hnb1; have hAO1_b3 := fM hAO_b3 (Lt.blk hB2) hnb1; refine aC (aW (cC rfl ?_))
   exact eL hBDw1 (by rw [pO hg (by omega), show t.kind = 8 by omega]; rfl) (hE7.step hw11 (cZ (Or.inl rfl))) hN1
  refine aE (aB (aF (bD rfl rfl) ?_)); refine aM (aC (aA (bF rfl (fun hc14 => ?_) (fun hc14 => ?_))))
  ·refine aB (aG ?_)
   refine aK (vs := [_, _]) bW rfl (cW hF9 (m := [92, 122]) (by decide +kernel) (cB (by decide +kernel)) (by first | omega | simp only [List.length_append, List.length_cons, List.length_nil]; omega) (by decide)) rfl ?_
   rintro _ w15 ⟨obw1, hBDw1, hw16, hnb1⟩; have hV9 := hE7; have hV90 := hE8; have hN1 := cY (Or.inl rfl) hnb1 hV9.size; have hU1 := dM huo hV90.size hnb1; have hAO1_b3 := fM hAO_b3 (Lt.blk hB2) hnb1; refine aC (aW (cC rfl ?_))
   exact eL hBDw1 (by rw [pO hg (by omega), show t.kind = 9 by omega]; rfl) (hE7.step hw16 (cZ (Or.inl rfl))) hN1
  refine aE (aB (aF (bD rfl rfl) ?_)); refine aM (aC (aA (bF rfl (fun hc18 => ?_) (fun hc18 => ?_))))
  ·refine aB (aG ?_)
   refine aK (vs := [_, _]) bW rfl (cW hF9 (m := [94]) (by decide +kernel) (cB (by decide +kernel)) (by first | omega | simp only [List.length_append, List.length_cons, List.length_nil]; omega) (by decide)) rfl ?_
   rintro _ w20 ⟨obw1, hBDw1, hw21, hnb1⟩; have hV9 := hE7; have hV90 := hE8; have hN1 := cY (Or.inl rfl) hnb1 hV9.size; have hU1 := dM huo hV90.size hnb1; have hAO1_b3 := fM hAO_b3 (Lt.blk hB2) hnb1; refine aC (aW (cC rfl ?_))
   exact eL hBDw1 (by rw [pO hg (by omega), show t.kind = 10 by omega]; rfl) (hE7.step hw21 (cZ (Or.inl rfl))) hN1
  refine aE (aB (aF (bD rfl rfl) ?_)); refine aM (aC (aA (bF rfl (fun hc22 => ?_) (fun hc22 => ?_))))
  ·refine aB (aG ?_)
   refine aK (vs := [_, _]) bW rfl (cW hF9 (m := [36]) (by decide +kernel) (cB (by decide +kernel)) (by first | omega | simp only [List.length_append, List.length_cons, List.length_nil]; omega) (by decide)) rfl ?_
   rintro _ w25 ⟨obw1, hBDw1, hw26, hnb1⟩; have hV9 := hE7; have hV90 := hE8; have hN1 := cY (Or.inl rfl) hnb1 hV9.size; have hU1 := dM huo hV90.size hnb1; have hAO1_b3 := fM hAO_b3 (Lt.blk hB2) hnb1; refine aC (aW (cC rfl ?_))
   exact eL hBDw1 (by rw [pO hg (by omega), show t.kind = 11 by omega]; rfl) (hE7.step hw26 (cZ (Or.inl rfl))) hN1
  refine aE (aB (aF (bD rfl rfl) ?_)); refine aM (aC (aA (bF rfl (fun hc26 => ?_) (fun hc26 => ?_))))
  ·refine aB (aG ?_)
   refine aK (vs := [_, _]) bW rfl (cW hF9 (m := [92, 98]) (by decide +kernel) (cB (by decide +kernel)) (by first | omega | simp only [List.length_append, List.length_cons, List.length_nil]; omega) (by decide)) rfl ?_
   rintro _ w30 ⟨obw1, hBDw1, hw31, hnb1⟩; have hV9 := hE7; have hV90 := hE8; have hN1 := cY (Or.inl rfl) hnb1 hV9.size; have hU1 := dM huo hV90.size hnb1; have hAO1_b3 := fM hAO_b3 (Lt.blk hB2) hnb1; refine aC (aW (cC rfl ?_))
   exact eL hBDw1 (by rw [pO hg (by omega), show t.kind = 12 by omega]; rfl) (hE7.step hw31 (cZ (Or.inl rfl))) hN1
  refine aE (aB (aF (bD rfl rfl) ?_)); refine aM (aC (aA (bF rfl (fun hc30 => ?_) (fun hc30 => ?_))))
  ·refine aB (aG ?_)
   refine aK (vs := [_, _]) bW rfl (cW hF9 (m := [92, 66]) (by decide +kernel) (cB (by decide +kernel)) (by first | omega | simp only [List.length_append, List.length_cons, List.length_nil]; omega) (by decide)) rfl ?_
   rintro _ w35 ⟨obw1, hBDw1, hw36, hnb1⟩; have hV9 := hE7; have hV90 := hE8; have hN1 := cY (Or.inl rfl) hnb1 hV9.size; have hU1 := dM huo hV90.size hnb1; have hAO1_b3 := fM hAO_b3 (Lt.blk hB2) hnb1; refine aC (aW (cC rfl ?_))
   exact eL hBDw1 (by rw [pO hg (by omega), show t.kind = 13 by omega]; rfl) (hE7.step hw36 (cZ (Or.inl rfl))) hN1
  refine aE (aB (aF (bD rfl rfl) ?_)); refine aM (aC (aA (bF rfl (fun hc34 => ?_) (fun hc34 => ?_))))
  ·refine aB (aG (aF (aD rfl eR) (aF (aI rfl cF (aJ hB2 rfl)) ?_))); refine aK (vs := [_, _]) HO rfl (EX hG hE8 hub huo hF9 (by omega) (hn.lit1 (by omega)) (hn.lit2 (by omega))) rfl ?_; rintro _ w40 ⟨obw1, hBDw1, hw41, hnb1⟩; have hV9 := hE7; have hV90 := hE8; have hN1 := cY (Or.inl rfl) hnb1 hV9.size; have hU1 := dM huo hV90.size hnb1; have hAO1_b3 := fM hAO_b3 (Lt.blk hB2) hnb1; refine aC (aW (cC rfl ?_))
   exact eL hBDw1 (by rw [pO hg (by omega), show t.kind = 2 by omega]; rfl) (hE7.step hw41 (cZ (Or.inl rfl))) hN1
  refine aE (aB (aF (bD rfl rfl) ?_)); refine aM (aC (aA (bF rfl (fun hc40 => ?_) (fun hc40 => ?_))))
  ·refine aB (aG (aF (aD rfl dU) (aF (aI rfl fB (aJ hB2 rfl)) ?_))); refine aK (vs := [_, _]) HN rfl (zM hG hE8 hub huo hF9 hrg (RangesOk.b (hn.cls (by omega))) (by omega)) rfl ?_; rintro _ w45 ⟨obw1, hBDw1, hw46, hnb1⟩; have hV9 := hE7; have hV90 := hE8; have hN1 := cY (Or.inl rfl) hnb1 hV9.size; have hU1 := dM huo hV90.size hnb1; have hAO1_b3 := fM hAO_b3 (Lt.blk hB2) hnb1; refine aC (aW (cC rfl ?_))
   exact eL hBDw1 (by rw [pO hg (by omega), show t.kind = 3 by omega]; rfl) (hE7.step hw46 (cZ (Or.inl rfl))) hN1
  refine aE (aB (aF (bD rfl rfl) ?_)); refine aM (aC (aA (bF rfl (fun hc46 => ?_) (fun hc46 => ?_))))
  ·refine aE (aB (aF (aD rfl cH) (aF (aI rfl dB (aJ hB2 rfl)) (aF (bK rfl Tryz.underlying25 rfl) ?_)))); refine aG (aC (aA (bR ?_))); refine eV (α := WcG) (⟨0, ob⟩) (fun x => [(51, .int .i64 (x.k : Nat))]) [(0, _), (3, _), (49, _), (50, _)] (fun x wr => Evo (b :: ob.toList) w wr ∧ (x.k ≤ t.kids.length ∧ WkI w0 w wr b b3 _ (l ++ gM t.kind true (t.kids.take x.k)) ob x.o)) (fun x => t.kids.length - x.k) ⟨rfl, trivial⟩ ⟨rfl, rfl, rfl, rfl, trivial⟩ ⟨hE7, ⟨Nat.zero_le _, by simpa [gM] using hF9, hE8, Or.inl rfl, huo, hB2, hAO_b3⟩⟩ ?_; rintro ⟨k, o1⟩ wr50 ⟨hV51, ⟨hkj, hBDl, hE0l, hNl, hUl, hB3l, hA3l⟩⟩; show CW _ _ _ _ [(51, .int .i64 (k : Nat)), (0, _), (3, _), (49, _), (50, _)] _
   try dsimp only at hkj
   try dsimp only at hBDl
   try dsimp only at hE0l
   try dsimp only at hNl
   try dsimp only at hUl
   try dsimp only at hB3l
   try dsimp only at hA3l
   refine aE (aB (aF (dF rfl rfl) ?_)); refine aC (aA (aE (bF rfl (fun hc52 => ?_) (fun hc52 => ?_))))
   ·have hj' : k < t.kids.length := by omega
    obtain ⟨b1, o1', vs1, ha1, hb1, hvl1, hc1, hrk⟩ := e1 k hj'; obtain ⟨m1, ra1, rc1, ka1, kc1, rfl, rfl, -⟩ := id hrk.get; have hkt := qY hj'; have hkl := JB (l := t.kids) (k + 1); have hwl := mV (t.kids.take k) t.kind true (fun k hk => hg.kid k (List.mem_of_mem_take hk)); refine aU (aA (aE (bR (aE (aB (aG ?_))))))
    refine aF (gF (n := k) (by rw [ha1]; rfl) rfl dT (by omega)) ?_
    refine aF (eJ rfl bQ aY (vs := [_, _, _, _, _, _, _, _, _]) rfl (hc1.evo hE0l (by simp))) ?_; refine dA rfl dS fun b5 w52 hB53 hs54 hw55 => ?_; have hsz_b5 := hs54; have hF61 := hBDl.evo0 hw55
    have hAJ_b5 : Apart (some b5) (some b) := (Apart.new (fun g hg => by cases hg; exact hBDl.lt) hsz_b5).symm
    have hAO_b5 : Apart (some b5) o1 := (Apart.new hBDl.ltO hsz_b5).symm; refine aM (bI rfl rfl aY hB53 rfl rfl ⟨rfl, rfl, rfl, rfl, rfl, rfl, rfl, rfl, rfl, trivial⟩ fun w63 hB64 hw65 => ?_); have hE66 := (hV51.then hw55).step hw65 (Ge.new hV51 hs54).mem1; have hE67 := (hE0l.then hw55).step hw65 (Ge.new hE0l hs54).mem1; have hF68 := hF61.evo hw65 (hAJ_b5).symm.nmem1 (hAO_b5).symm.own1; have hB69 := hw65.blk (hw55.blk0 hB3l) (Apart.new (Lt.blk hB3l) hs54).nmem1
    try simp only [cR, Nat.reduceAdd] at hB64
    refine aC (aA (aE (aE (aB (aG (aF (gL rfl rfl) ?_)))))); refine aC (aA (bF rfl (fun hc57 => ?_) (fun hc57 => ?_)))
    ·refine aB (aG ?_)
     refine aK (vs := [_, _]) bW rfl (cW hF68 (m := [124]) (by decide +kernel) (cB (by decide +kernel)) (by first | omega | simp only [List.length_append, List.length_cons, List.length_nil]; omega) (by decide)) rfl ?_
     rintro _ w70 ⟨obw1, hBDw1, hw71, hnb1⟩; have hV9 := hE66; have hV90 := hE67; have hN1 := cY hNl hnb1 hV9.size; have hU1 := dM hUl hV90.size hnb1; have hAO1_b3 := fM hA3l (Lt.blk hB69) hnb1; have hAO1_b5 := fM hAO_b5 (Lt.blk hB64) hnb1; have hE72 := hE66.step hw71 (cZ hNl); have hE73 := hE67.step hw71 (iA hub hUl); have hB74 := hw71.blk hB69 (nF hAJ_b3 hA3l); refine aC (aA (aB (aG (aF (bX rfl bQ aY (hw71.blk hB64 (nF hAJ_b5 hAO_b5)) rfl) (aF (aD rfl eS) (aF (aI rfl aZ (aJ hB74 rfl)) ?_))))))
     refine aK (vs := [_, _, _]) oQ rfl (mS (k := t.kind) ih hG hE73 hub hU1 hBDw1 hrk (hg.kid _ (List.getElem_mem hj')) (by simp only [List.length_append, List.length_cons, List.length_nil]; omega)) rfl ?_
     rintro _ w76 ⟨obw2, hBDw2, hw77, hnb2⟩; have hV9 := hE72; have hV90 := hE73; have hN2 := cY hN1 hnb2 hV9.size; have hU2 := dM hU1 hV90.size hnb2; have hAO2_b3 := fM hAO1_b3 (Lt.blk hB74) hnb2; refine aC (aW (aA (aB ?_))); refine aF (bC rfl rfl (by omega) (by omega)) ?_; refine aG (aC (bY ?_)); refine ⟨⟨k + 1, obw2⟩, ?_, ⟨rfl, trivial⟩, ⟨rfl, rfl, rfl, rfl, trivial⟩, (hE72.step hw77 (cZ hN1)), ?_⟩
     · (try dsimp only); omega
     try dsimp only
     refine ⟨by omega, ?_, (hE73.step hw77 (iA hub hU1)), hN2, hU2, (hw77.blk hB74 (nF hAJ_b3 hAO1_b3)), hAO2_b3⟩; have hfin := hBDw2
     rw [oC hj', yY, if_pos ⟨by omega, decide_eq_false (by omega)⟩]; simpa [List.append_assoc] using hfin
    refine aU (aA (aB (aG (aF (bX rfl bQ aY hB64 rfl) (aF (aD rfl eS) (aF (aI rfl aZ (aJ hB69 rfl)) ?_))))))
    refine aK (vs := [_, _, _]) oQ rfl (mS (k := t.kind) ih hG hE67 hub hUl hF68 hrk (hg.kid _ (List.getElem_mem hj')) (by simp only [List.length_append, List.length_cons, List.length_nil]; omega)) rfl ?_
    rintro _ w82 ⟨obw1, hBDw1, hw83, hnb1⟩; have hV9 := hE66; have hV90 := hE67; have hN1 := cY hNl hnb1 hV9.size; have hU1 := dM hUl hV90.size hnb1; have hAO1_b3 := fM hA3l (Lt.blk hB69) hnb1; have hAO1_b5 := fM hAO_b5 (Lt.blk hB64) hnb1; refine aC (aW (aA (aB ?_))); refine aF (bC rfl rfl (by omega) (by omega)) ?_; refine aG (aC (bY ?_)); refine ⟨⟨k + 1, obw1⟩, ?_, ⟨rfl, trivial⟩, ⟨rfl, rfl, rfl, rfl, trivial⟩, (hE66.step hw83 (cZ hNl)), ?_⟩
    · (try dsimp only); omega
    try dsimp only
    refine ⟨by omega, ?_, (hE67.step hw83 (iA hub hUl)), hN1, hU1, (hw83.blk hB69 (nF hAJ_b3 hA3l)), hAO1_b3⟩; have hfin := hBDw1
    rw [oC hj', yY, if_neg (fun h9 => by have h8 := of_decide_eq_false h9.2; omega)]; simpa [List.append_assoc] using hfin
   refine dO (cD (cD (dN (aW (cC rfl ?_))))); exact eL hBDl (by rw [OS (t := t) (by omega), List.take_of_length_le (by omega)]) hV51 hNl
  refine aE (aB (aF (bD rfl rfl) ?_)); refine aM (aC (aA (bF rfl (fun hc66 => ?_) (fun hc66 => ?_))))
  ·refine aE (aB (aF (aD rfl cH) (aF (aI rfl dB (aJ hB2 rfl)) (aF (bK rfl Tryz.underlying25 rfl) ?_)))); refine aG (aC (aA (bR ?_))); refine eV (α := WcG) (⟨0, ob⟩) (fun x => [(71, .int .i64 (x.k : Nat))]) [(0, _), (3, _), (69, _), (70, _)] (fun x wr => Evo (b :: ob.toList) w wr ∧ (x.k ≤ t.kids.length ∧ WkI w0 w wr b b3 _ (l ++ gM t.kind true (t.kids.take x.k)) ob x.o)) (fun x => t.kids.length - x.k) ⟨rfl, trivial⟩ ⟨rfl, rfl, rfl, rfl, trivial⟩ ⟨hE7, ⟨Nat.zero_le _, by simpa [gM] using hF9, hE8, Or.inl rfl, huo, hB2, hAO_b3⟩⟩ ?_; rintro ⟨k, o1⟩ wr88 ⟨hV89, ⟨hkj, hBDl, hE0l, hNl, hUl, hB3l, hA3l⟩⟩; show CW _ _ _ _ [(71, .int .i64 (k : Nat)), (0, _), (3, _), (69, _), (70, _)] _
   try dsimp only at hkj
   try dsimp only at hBDl
   try dsimp only at hE0l
   try dsimp only at hNl
   try dsimp only at hUl
   try dsimp only at hB3l
   try dsimp only at hA3l
   refine aE (aB (aF (dF rfl rfl) ?_)); refine aC (aA (aE (bF rfl (fun hc72 => ?_) (fun hc72 => ?_))))
   ·have hj' : k < t.kids.length := by omega
    obtain ⟨b1, o1', vs1, ha1, hb1, hvl1, hc1, hrk⟩ := e1 k hj'; obtain ⟨m1, ra1, rc1, ka1, kc1, rfl, rfl, -⟩ := id hrk.get; have hkt := qY hj'; have hkl := JB (l := t.kids) (k + 1); have hwl := mV (t.kids.take k) t.kind true (fun k hk => hg.kid k (List.mem_of_mem_take hk)); refine aU (aA (aE (bR (aE (aB ?_)))))
    refine aF (gF (n := k) (by rw [ha1]; rfl) rfl dT (by omega)) ?_
    refine aF (eJ rfl bQ aY (vs := [_, _, _, _, _, _, _, _, _]) rfl (hc1.evo hE0l (by simp))) ?_; refine dA rfl dS fun b7 w90 hB91 hs92 hw93 => ?_; have hsz_b7 := hs92; have hF99 := hBDl.evo0 hw93
    have hAJ_b7 : Apart (some b7) (some b) := (Apart.new (fun g hg => by cases hg; exact hBDl.lt) hsz_b7).symm
    have hAO_b7 : Apart (some b7) o1 := (Apart.new hBDl.ltO hsz_b7).symm; refine bI rfl rfl aY hB91 rfl rfl ⟨rfl, rfl, rfl, rfl, rfl, rfl, rfl, rfl, rfl, trivial⟩ fun w101 hB102 hw103 => ?_; have hE104 := (hV89.then hw93).step hw103 (Ge.new hV89 hs92).mem1; have hE105 := (hE0l.then hw93).step hw103 (Ge.new hE0l hs92).mem1; have hB107 := hw103.blk (hw93.blk0 hB3l) (Apart.new (Lt.blk hB3l) hs92).nmem1
    try simp only [cR, Nat.reduceAdd] at hB102
    refine aC (aA (aB (aG (aF (bX rfl bQ aY hB102 rfl) (aF (aD rfl eS) (aF (aI rfl aZ (aJ hB107 rfl)) ?_))))))
    refine aK (vs := [_, _, _]) oQ rfl (mS (k := t.kind) ih hG hE105 hub hUl (hF99.evo hw103 (hAJ_b7).symm.nmem1 (hAO_b7).symm.own1) hrk (hg.kid _ (List.getElem_mem hj')) (by simp only [List.length_append, List.length_cons, List.length_nil]; omega)) rfl ?_
    rintro _ w108 ⟨obw1, hBDw1, hw109, hnb1⟩; have hV9 := hE104; have hV90 := hE105; have hN1 := cY hNl hnb1 hV9.size; have hU1 := dM hUl hV90.size hnb1; have hAO1_b3 := fM hA3l (Lt.blk hB107) hnb1; refine aC (aW (aA (aB ?_))); refine aF (bC rfl rfl (by omega) (by omega)) ?_; refine aG (aC (bY ?_)); refine ⟨⟨k + 1, obw1⟩, ?_, ⟨rfl, trivial⟩, ⟨rfl, rfl, rfl, rfl, trivial⟩, (hE104.step hw109 (cZ hNl)), ?_⟩
    · (try dsimp only); omega
    try dsimp only
    refine ⟨by omega, ?_, (hE105.step hw109 (iA hub hUl)), hN1, hU1, (hw109.blk hB107 (nF hAJ_b3 hA3l)), hAO1_b3⟩; have hfin := hBDw1
    rw [oC hj', yY, if_neg (fun h9 => by omega)]; simpa [List.append_assoc] using hfin
   refine dO (cD (cD (dN (aW (cC rfl ?_))))); exact eL hBDl (by rw [OS (t := t) (by omega), List.take_of_length_le (by omega)]) hV89 hNl
  refine aE (aB (aF (bD rfl rfl) ?_)); refine aM (aC (aA (bF rfl (fun hc81 => ?_) (fun hc81 => ?_))))
  ·have hl1 : t.kids.length = 1 := by have h1 := hn.rep4; have h2 := hn.grp; omega
   have hj' : 0 < t.kids.length := by omega
   obtain ⟨b1, o1', vs1, ha1, hb1, hvl1, hc1, hrk⟩ := e1 0 hj'; obtain ⟨m1, ra1, rc1, ka1, kc1, rfl, rfl, -⟩ := id hrk.get
   have hkw : gM t.kind true t.kids = brW (Brk t.kids[0].kind t.kind) t.kids[0].w := by have h1 := oC (k := t.kind) (l := t.kids) hj'; rw [List.take_of_length_le (by omega), List.take_zero, gM, List.nil_append] at h1; rw [h1]; simp [yY]
   have hms1 : kms t.kids = t.kids[0].ms := by have h1 := qY hj'; rw [List.take_of_length_le (by omega), List.take_zero, kms, Nat.zero_add] at h1; exact h1
   refine aE ?_; refine iK (fun w0 w' => Evo (b :: ob.toList) w0 w') (by kernel_rfl) (fun w114 hw115 => ?_); have hE117 := hE8.then hw115; have hB119 := hw115.blk0 hB2; refine aet 0 rfl (fun _ hS => bO rfl) (Evo.refl (b :: ob.toList) w114) ?_; refine aet 1 rfl (fun _ hS => aD rfl cH) (Evo.refl (b :: ob.toList) w114) ?_; refine aet 2 rfl (fun _ hS => aI rfl dB (aJ (hS.blk hB119 (nF hAJ_b3 hAO_b3)) rfl)) (Evo.refl (b :: ob.toList) w114) ?_
   refine aet 3 rfl (fun _ hS => gB (n := 0) (by rw [ha1]; rfl) rfl rfl dT (by omega)) (Evo.refl (b :: ob.toList) w114) ?_
   refine aet 4 rfl (fun _ hS => eJ rfl bQ aY (vs := [_, _, _, _, _, _, _, _, _]) rfl (hc1.evo (hE117.step hS (iA hub huo)) (by simp))) (Evo.refl (b :: ob.toList) w114) ?_; refine aet 5 rfl (fun _ hS => aD rfl eS) (Evo.refl (b :: ob.toList) w114) ?_; refine aet 6 rfl (fun _ hS => aI rfl aZ (aJ (hS.blk hB119 (nF hAJ_b3 hAO_b3)) rfl)) (Evo.refl (b :: ob.toList) w114) ?_; refine cP [7] (by kernel_rfl) rfl ⟨?_, trivial⟩; refine cU rfl ?_; refine aK (vs := [_, _, _]) oQ rfl (mS (k := t.kind) ih hG hE117 hub huo (hF9.evo0 hw115) hrk (hg.kid _ (List.getElem_mem hj')) (by omega)) rfl ?_; rintro _ w120 ⟨obw1, hBDw1, hw121, hnb1⟩; have hV9 := (hE7.then hw115); have hV90 := hE117; have hN1 := cY (Or.inl rfl) hnb1 hV9.size; have hU1 := dM huo hV90.size hnb1; have hAO1_b3 := fM hAO_b3 (Lt.blk hB119) hnb1; have hE122 := (hE7.then hw115).step hw121 (cZ (Or.inl rfl)); have hE123 := hE117.step hw121 (iA hub huo); have hB125 := hw121.blk hB119 (nF hAJ_b3 hAO_b3); refine aC (cG (.inl ((Evo.refl (b :: ob.toList) w114).step hw121 (fun y hy => .inl hy))) ?_); refine fA (by kernel_rfl) (aA ?_); refine aE (aB (aG (aF (aD rfl dH) (aF (aI rfl aZ (aJ hB125 rfl)) (aF (aD rfl dG) (aF (aI rfl aZ (aJ hB125 rfl)) ?_))))))
   refine aK (vs := [_, _, _]) HM rfl (zL hG hE123 hub hU1 hBDw1 (by rw [← hkw]; have h8 := mV t.kids t.kind true (fun k hk => hg.kid k hk); simp only [List.length_append]; omega) (hn.rep1 (by omega)) (hn.rep2 (by omega)) (hn.rep3 (by omega))) rfl ?_
   rintro _ w126 ⟨obw2, hBDw2, hw127, hnb2⟩; have hV9 := hE122; have hV90 := hE123; have hN2 := cY hN1 hnb2 hV9.size; have hU2 := dM hU1 hV90.size hnb2; have hAO2_b3 := fM hAO1_b3 (Lt.blk hB125) hnb2; have hE128 := hE122.step hw127 (cZ hN1); have hB130 := hw127.blk hB125 (nF hAJ_b3 hAO1_b3); refine aC (aA (aE (aB (aF (aD rfl eH) (aF (aI rfl dX (aJ hB130 rfl)) (aC (aA (fW rfl (fun hc98 => ?_) (fun hc98 => ?_)))))))))
   ·refine aB (aG ?_)
    refine aK (vs := [_, _]) bW rfl (cW hBDw2 (m := [63]) (by decide +kernel) (cB (by decide +kernel)) (by rw [← hkw]; have h8 := mV t.kids t.kind true (fun k hk => hg.kid k hk); have h7 := FC (hn.rep1 (by omega)) (hn.rep2 (by omega)) (hn.rep3 (by omega)); simp only [List.length_append]; omega) (by decide)) rfl ?_
    rintro _ w131 ⟨obw3, hBDw3, hw132, hnb3⟩; have hV9 := hE128; have hV90 := (hE123.step hw127 (iA hub hU1)); have hN3 := cY hN2 hnb3 hV9.size; have hU3 := dM hU2 hV90.size hnb3; have hAO3_b3 := fM hAO2_b3 (Lt.blk hB130) hnb3; refine aC (aW (cC rfl ?_))
    exact eL hBDw3 (by rw [w_rep (t := t) (by omega), hkw, if_pos hc98]; simp) (hE128.step hw132 (cZ hN2)) hN3
   refine aU (aW (cC rfl ?_))
   exact eL hBDw2 (by rw [w_rep (t := t) (by omega), hkw, if_neg (by rw [hc98]; simp)]; simp) hE128 hN2
  refine aE (aB (aF (bD rfl rfl) ?_)); refine aM (aC (aA (bF rfl (fun hc101 => ?_) (fun hc101 => ?_))))
  ·have hl1 : t.kids.length = 1 := by have h1 := hn.rep4; have h2 := hn.grp; omega
   have hj' : 0 < t.kids.length := by omega
   obtain ⟨b1, o1', vs1, ha1, hb1, hvl1, hc1, hrk⟩ := e1 0 hj'; obtain ⟨m1, ra1, rc1, ka1, kc1, rfl, rfl, -⟩ := id hrk.get
   have hkw : gM t.kind true t.kids = brW (Brk t.kids[0].kind t.kind) t.kids[0].w := by have h1 := oC (k := t.kind) (l := t.kids) hj'; rw [List.take_of_length_le (by omega), List.take_zero, gM, List.nil_append] at h1; rw [h1]; simp [yY]
   have hms1 : kms t.kids = t.kids[0].ms := by have h1 := qY hj'; rw [List.take_of_length_le (by omega), List.take_zero, kms, Nat.zero_add] at h1; exact h1
   have hkw7 := hkw
   rw [brW, if_neg (show ¬ Brk t.kids[0].kind t.kind by unfold Brk; omega)] at hkw7
   have hnl := wU t.name; refine aE (aB (aG ?_))
   refine aK (vs := [_, _]) bW rfl (cW hF9 (m := [40]) (by decide +kernel) (cB (by decide +kernel)) (by first | omega | simp only [List.length_append, List.length_cons, List.length_nil]; omega) (by decide)) rfl ?_
   rintro _ w136 ⟨obw1, hBDw1, hw137, hnb1⟩; have hV9 := hE7; have hV90 := hE8; have hN1 := cY (Or.inl rfl) hnb1 hV9.size; have hU1 := dM huo hV90.size hnb1; have hAO1_b3 := fM hAO_b3 (Lt.blk hB2) hnb1; have hE138 := hE7.step hw137 (cZ (Or.inl rfl)); have hE139 := hE8.step hw137 (iA hub huo); have hB140 := hw137.blk hB2 (nF hAJ_b3 hAO_b3); refine aC (aA (aE (aE (aB (aF (aD rfl eF) (aF (aI rfl cJ (aJ hB140 rfl)) (aF (tR rfl rfl) ?_))))))); refine aC (aA (bF rfl (fun hc107 => ?_) (fun hc107 => ?_)))
   ·refine aB (aG (aF (aD rfl eF) (aF (aI rfl cJ (aJ hB140 rfl)) ?_)))
    refine aF (cI rfl rfl (by show 3 + _ ≤ _; omega)) ?_
    refine aF (cI rfl rfl (by rw [ByteArray.size_append]; show 3 + _ + 1 ≤ _; omega)) ?_
    refine aK (vs := [_, _]) bW rfl (cW hBDw1 (m := [63, 80, 60] ++ nmL t.name ++ [62]) (by rw [← bap, ← bap, mU]; rfl) (((cB (by decide +kernel)).app (KB _)).app (cB (by decide +kernel))) (by simp only [List.length_append, List.length_cons, List.length_nil]; omega) (by simp only [List.length_append, List.length_cons, List.length_nil]; omega)) rfl ?_
    rintro _ w141 ⟨obw2, hBDw2, hw142, hnb2⟩; have hV9 := hE138; have hV90 := hE139; have hN2 := cY hN1 hnb2 hV9.size; have hU2 := dM hU1 hV90.size hnb2; have hAO2_b3 := fM hAO1_b3 (Lt.blk hB140) hnb2; have hE143 := hE138.step hw142 (cZ hN1); have hE144 := hE139.step hw142 (iA hub hU1); have hB145 := hw142.blk hB140 (nF hAJ_b3 hAO1_b3); refine aC (aA (aE (aB (aG (aF (aD rfl cH) (aF (aI rfl dB (aJ hB145 rfl)) ?_))))))
    refine aF (gB (n := 0) (by rw [ha1]; rfl) rfl rfl dT (by omega)) ?_
    refine aF (eJ rfl bQ aY (vs := [_, _, _, _, _, _, _, _, _]) rfl (hc1.evo hE144 (by simp))) ?_
    refine aK (vs := [_, _]) lN rfl (ih hG hE144 hub hU2 hBDw2 hrk (hg.kid _ (List.getElem_mem hj')) (by simp only [List.length_append, List.length_cons, List.length_nil]; omega)) rfl ?_
    rintro _ w146 ⟨obw3, hBDw3, hw147, hnb3⟩; have hV9 := hE143; have hV90 := hE144; have hN3 := cY hN2 hnb3 hV9.size; have hU3 := dM hU2 hV90.size hnb3; have hAO3_b3 := fM hAO2_b3 (Lt.blk hB145) hnb3; have hE148 := hE143.step hw147 (cZ hN2); refine aC (aA (aB (aG ?_)))
    refine aK (vs := [_, _]) bW rfl (cW hBDw3 (m := [41]) (by decide +kernel) (cB (by decide +kernel)) (by have h8 := mV t.kids t.kind true (fun k hk => hg.kid k hk); rw [hkw7] at h8; simp only [List.length_append, List.length_cons, List.length_nil]; omega) (by decide)) rfl ?_
    rintro _ w151 ⟨obw4, hBDw4, hw152, hnb4⟩; have hV9 := hE148; have hV90 := (hE144.step hw147 (iA hub hU2)); refine aC (aW (cC rfl ?_))
    exact eL hBDw4 (by rw [w_grp (t := t) (by omega), hkw7, if_neg (fun h9 => hc107 h9)]; simp) (hE148.step hw152 (cZ hN3)) (cY hN3 hnb4 hV9.size)
   refine aU (aA (aE (aB (aG (aF (aD rfl cH) (aF (aI rfl dB (aJ hB140 rfl)) ?_))))))
   refine aF (gB (n := 0) (by rw [ha1]; rfl) rfl rfl dT (by omega)) ?_
   refine aF (eJ rfl bQ aY (vs := [_, _, _, _, _, _, _, _, _]) rfl (hc1.evo hE139 (by simp))) ?_
   refine aK (vs := [_, _]) lN rfl (ih hG hE139 hub hU1 hBDw1 hrk (hg.kid _ (List.getElem_mem hj')) (by simp only [List.length_append, List.length_cons, List.length_nil]; omega)) rfl ?_
   rintro _ w156 ⟨obw2, hBDw2, hw157, hnb2⟩; have hV9 := hE138; have hV90 := hE139; have hN2 := cY hN1 hnb2 hV9.size; have hU2 := dM hU1 hV90.size hnb2; have hAO2_b3 := fM hAO1_b3 (Lt.blk hB140) hnb2; have hE158 := hE138.step hw157 (cZ hN1); refine aC (aA (aB (aG ?_)))
   refine aK (vs := [_, _]) bW rfl (cW hBDw2 (m := [41]) (by decide +kernel) (cB (by decide +kernel)) (by have h8 := mV t.kids t.kind true (fun k hk => hg.kid k hk); rw [hkw7] at h8; simp only [List.length_append, List.length_cons, List.length_nil]; omega) (by decide)) rfl ?_
   rintro _ w161 ⟨obw3, hBDw3, hw162, hnb3⟩; have hV9 := hE158; have hV90 := (hE139.step hw157 (iA hub hU1)); have hN3 := cY hN2 hnb3 hV9.size; have hU3 := dM hU2 hV90.size hnb3; have hAO3_b3 := fM hAO2_b3 (Lt.blk (hw157.blk hB140 (nF hAJ_b3 hAO1_b3))) hnb3; refine aC (aW (cC rfl ?_))
   exact eL hBDw3 (by rw [w_grp (t := t) (by omega), hkw7, if_pos (Classical.not_not.1 hc107)]; simp) (hE158.step hw162 (cZ hN2)) hN3
  refine aU (aW (cC rfl ?_))
  exact eL hF9 (by rw [pO hg (by omega), show t.kind = 1 by have := hn.kind1; have := hn.kind2; omega]; simp [BP]) hE7 (Or.inl rfl)
theorem AA (n : Nat) : WOK n := by
  induction n with
  | zero => unfold WOK; intro w0 w b l ob vs t _ _ _ _ _ hx; exact hx.elim
  | succ n ih => unfold WOK; intro w0 w b l ob vs t hG hE0 hub huo h hx hg hl; exact HX ih hG hE0 hub huo h hx hg hl
end Go.Proofs.YtljadkcojnlioaaGreatDoor
namespace Go.Proofs.YtljadkcojnlioaaGreatDoor
open Go.RowKit Go.W
mutual
def Rx.ln : Rx → Bool
  | .mk k r rs mn mx lz cp nm ks => decide (k = 10 ∨ k = 11) || lns ks
def lns : List Rx → Bool
  | [] => false
  | x :: xs => x.ln || lns xs
end
theorem Rx.ln_eq (x : Rx) : x.ln = (decide (x.kind = 10 ∨ x.kind = 11) || lns x.kids) := by cases x; rw [Rx.ln]; rfl
theorem SB {l : List Rx} {j : Nat} (hj : j < l.length) : lns (l.take (j + 1)) = (lns (l.take j) || l[j].ln) := by
  induction l generalizing j with
  | nil => cases hj
  | cons x l ih => cases j with
    | zero => simp [lns]
    | succ j => simp only [List.take_succ_cons, lns, List.getElem_cons_succ, ih (by simpa using hj), Bool.or_assoc]
theorem lns_yes {l : List Rx} {j : Nat} (hj : j < l.length) (h : l[j].ln = true) : lns l = true := by
  induction l generalizing j with
  | nil => cases hj
  | cons x l ih => cases j with
    | zero => rw [lns]; simp at h; simp [h]
    | succ j => rw [lns, ih (by simpa using hj) (by simpa using h)]; simp
def uS (t : Rx) : List Nat := (if t.ln = true then [40, 63, 109, 41] else []) ++ t.w
def ShowIs (t : Rx) (s : List Nat) (e : Int) : Prop := (¬ t.Ok ∧ s = [] ∧ e = 2) ∨ (t.Ok ∧ ((4096 < (uS t).length ∧ s = [] ∧ e = 1) ∨ ((uS t).length ≤ 4096 ∧ s = uS t ∧ e = 0)))
theorem ShowIs.uniq {t : Rx} {s s' : List Nat} {e e' : Int} (h : ShowIs t s e) (k : ShowIs t s' e') : s = s' ∧ e = e' := by
  rcases h with ⟨h1, rfl, rfl⟩ | ⟨h1, ⟨h2, rfl, rfl⟩ | ⟨h2, rfl, rfl⟩⟩ <;> rcases k with ⟨k1, rfl, rfl⟩ | ⟨k1, ⟨k2, rfl, rfl⟩ | ⟨k2, rfl, rfl⟩⟩ <;> first | exact ⟨rfl, rfl⟩ | exact absurd k1 h1 | exact absurd h1 k1 | omega
noncomputable def pG (t : Rx) : List ByteArray := match t.fine 0 (0, []) with
  | some st => st.2
  | none => []
theorem AP : ∀ {l : List Rx}, (∀ x, x ∈ l → Lo x.w) → ∀ (k : Int) (f : Bool), Lo (gM k f l)
  | [], _, k, f => by rw [gM]; intro b hb; cases hb
  | x :: xs, h, k, f => by
    rw [gM]
    refine (Lo.app ?_ ?_).app (AP (fun y hy => h y (List.mem_cons_of_mem _ hy)) k false)
    · unfold yY; split
      · exact cB (by decide +kernel)
      · intro b hb; cases hb
    · unfold brW; split
      · exact ((cB (by decide +kernel)).app (h x (List.mem_cons_self ..))).app (cB (by decide +kernel))
      · exact h x (List.mem_cons_self ..)
theorem timW_lo (lo hi : Int) : Lo (kE lo hi) := by
  have h1 := xD lo.toNat
  have h2 := xD hi.toNat
  unfold kE
  split
  · exact cB (by decide +kernel)
  · split
    · exact cB (by decide +kernel)
    · split
      · exact cB (by decide +kernel)
      · split
        · exact ((cB (by decide +kernel)).app h1).app (cB (by decide +kernel))
        · split
          · exact ((cB (by decide +kernel)).app h1).app (cB (by decide +kernel))
          · exact ((((cB (by decide +kernel)).app h1).app (cB (by decide +kernel))).app h2).app (cB (by decide +kernel))
theorem PM : ∀ {l : List (Int × Int)}, RgB l → Lo (l.flatMap uV)
  | [], _ => by intro b hb; cases hb
  | g :: l, h => by
    obtain ⟨h1, h2, h3⟩ := h g (List.mem_cons_self ..)
    rw [List.flatMap_cons]
    exact (KH h1 h2 h3).2.app (PM fun g hg => h g (List.mem_cons_of_mem _ hg))
theorem clsW_lo {l : List (Int × Int)} (h : RgB l) : Lo (zR l) := by
  unfold zR
  split
  · exact cB (by decide +kernel)
  · exact ((cB (by decide +kernel)).app (PM h)).app (cB (by decide +kernel))
theorem NT {x : Rx} (hg : Good x) : Lo x.w := by
  induction hg with
  | @mk x h1 h2 h3 ih =>
    have hn := (eB _).1 h1
    rw [Rx.w_eq]
    refine (Lo.app ?_ (AP ih _ _)).app ?_
    · unfold BP
      split
      · exact (LG (hn.lit1 (by assumption)) (hn.lit2 (by assumption))).2
      · split
        · exact clsW_lo (RangesOk.b (hn.cls (by assumption)))
        · split
          · refine Lo.app (cB (by decide +kernel)) ?_
            split
            · intro b hb; cases hb
            · exact ((cB (by decide +kernel)).app (KB _)).app (cB (by decide +kernel))
          · split
            · exact cB (by decide +kernel)
            · split
              · exact cB (by decide +kernel)
              · split
                · exact cB (by decide +kernel)
                · split
                  · exact cB (by decide +kernel)
                  · split
                    · exact cB (by decide +kernel)
                    · split
                      · exact cB (by decide +kernel)
                      · intro b hb; cases hb
    · unfold BI
      split
      · refine (timW_lo _ _).app ?_
        split
        · exact cB (by decide +kernel)
        · intro b hb; cases hb
      · split
        · exact cB (by decide +kernel)
        · intro b hb; cases hb
theorem KD {t : Rx} (hg : Good t) : Lo (uS t) := by
  unfold uS
  refine Lo.app ?_ (NT hg)
  split
  · exact cB (by decide +kernel)
  · intro b hb; cases hb
end Go.Proofs.YtljadkcojnlioaaGreatDoor
namespace Go.Proofs.YtljadkcojnlioaaGreatDoor
open Go.RowKit Go.W
attribute [local irreducible] Decidable.decide
theorem rO : eY Tryz.prog 24 := ⟨_, Tryz.func24, by kernel_rfl, by kernel_rfl⟩
theorem rK : eY Tryz.prog 43 := ⟨_, Tryz.func43, by kernel_rfl, by kernel_rfl⟩
theorem wA : eY Tryz.prog 51 := ⟨_, Tryz.func51, by kernel_rfl, by kernel_rfl⟩
theorem vU : oJ Tryz.prog 80 = some #[.pointer none, .slice none 0 0] := by kernel_rfl
theorem IY {n : Nat} (ih : ∀ {w : World} {vs : List Value} {t : Rx} (hx : RRx n [] w vs t), Calls Tryz.prog 48 #[.agg vs.toArray] w (Ret fun v w' => v = .bool t.ln ∧ Evo [] w w')) {w : World} {vs : List Value} {t : Rx} (hx : RRx (n + 1) [] w vs t) :
    Calls Tryz.prog 48 #[.agg vs.toArray] w (Ret fun v w' => v = .bool t.ln ∧ Evo [] w w') := by
  have hx0 := hx; obtain ⟨m, ra, rc, ka, kc, hm, rfl, hrg, hk, bl1, bl2, bl3⟩ := hx.get
  obtain rfl : m = n := by omega
  obtain ⟨_, _, hke, hkc, e1⟩ := hk; cases hke; refine bJ (N := 23) Tryz.func48 rfl rfl rfl ?_; refine aE (aB (kS rfl rfl fun b1x w1 hB2 hs3 hw4 => ?_)); have hsz_b1x := hs3; have hE6 := (Evo.refl [] w).then hw4; refine aM (aC (aA (aE (aE (aB (aF (aD rfl eS) (aF (aI rfl aZ (aJ hB2 rfl)) (aF (bD rfl rfl) ?_)))))))); refine aG (aV (t := 8) rfl (fun hs8 => ?_) (fun hs8 => ?_))
  ·refine aH (aH (aH (bH (aC (aA (cV rfl ?_)))))); refine aE (aB (aM (aC (aA (aO (aN (br1 ?_)))))))
   exact ⟨by rw [Rx.ln_eq, decide_eq_true (by omega)]; rfl, hE6⟩
  refine aQ (aF (aD rfl eS) (aQ (aF (aI rfl aZ (aJ hB2 rfl)) (aQ (aF (bD rfl rfl) ?_))))); refine aR (aC (aA (bF rfl (fun hc12 => ?_) (fun hc12 => ?_))))
  ·refine aE (aB (aM (aC (aA (aO (aN (br1 ?_)))))))
   exact ⟨by rw [Rx.ln_eq, decide_eq_true (by omega)]; rfl, hE6⟩
  refine aU (aA (aE (aE (aB (aF (aD rfl cH) (aF (aI rfl dB (aJ hB2 rfl)) (aF (bK rfl Tryz.underlying25 rfl) ?_))))))); refine aG (aC (aA (bR (eV (α := Nat) (0) (fun k => [(16, .int .i64 (k : Nat))]) [(14, _), (15, _)] (fun k wr => Evo [] w1 wr ∧ (k ≤ t.kids.length ∧ lns (t.kids.take k) = false)) (fun k => t.kids.length - k) ⟨rfl, trivial⟩ ⟨rfl, rfl, trivial⟩ ⟨Evo.refl _ _, ⟨Nat.zero_le _, rfl⟩⟩ ?_)))); rintro k wr7 ⟨hV8, ⟨hk0, hln⟩⟩; show CW _ _ _ _ [(16, _), (14, _), (15, _)] _; have hE9 := hE6.then hV8; refine aE (aB (aF (dF rfl rfl) ?_)); refine aC (aA (aE (bF rfl (fun hc17 => ?_) (fun hc17 => ?_))))
  ·have hj' : k < t.kids.length := by omega
   obtain ⟨b1, o1', vs1, ha1, hb1, hvl1, hc1, hrk⟩ := e1 k hj'; obtain ⟨m1, ra1, rc1, ka1, kc1, rfl, rfl, -⟩ := id hrk.get; refine aU (aA (aE (bR (aE (aB ?_)))))
   refine aF (gF (n := k) (by rw [ha1]; rfl) rfl dT (by omega)) ?_
   refine aF (eJ rfl bQ aY (vs := [_, _, _, _, _, _, _, _, _]) rfl (hc1.evo hE9 hb1)) ?_; refine dA rfl dS fun b4 w11 hB12 hs13 hw14 => ?_; have hsz_b4 := hs13; refine bI rfl rfl aY hB12 rfl rfl ⟨rfl, rfl, rfl, rfl, rfl, rfl, rfl, rfl, rfl, trivial⟩ fun w21 hB22 hw23 => ?_; have hE24 := (hE9.then hw14).step hw23 (Ge.new hE9 hs13).mem1
   try simp only [cR, Nat.reduceAdd] at hB22
   refine aC (aA (aE (aB (aF (bX rfl bQ aY hB22 rfl) (aK (vs := [_]) wB rfl (ih (RRx.pers _ _ _ _ _ _ hE24 hrk)) rfl ?_))))); rintro _ w27 ⟨rfl, hw28⟩; refine aC (aA (fW rfl (fun hc21 => ?_) (fun hc21 => ?_)))
   ·refine aE (aB (aM (aC (aA (aO (aX (aN (aN (aX (aN (br1 ?_))))))))))); exact ⟨by rw [Rx.ln_eq, lns_yes hj' hc21, Bool.or_true], (hE24.then hw28)⟩
   refine aU (aW (aA (aB ?_))); refine aF (bC rfl rfl (by omega) (by omega)) ?_; refine aG (aC (bY ?_)); refine ⟨k + 1, ?_, ⟨rfl, trivial⟩, ⟨rfl, rfl, trivial⟩, (((hV8.then hw14).step hw23 (Ge.new hV8 hs13).mem1).then hw28), ?_⟩
   · omega
   exact ⟨by omega, by rw [SB hj', hln, hc21]; rfl⟩
  refine dO (cD (cD (dN (aA ?_)))); refine aE (aB (aM (aC (aA (aO (br1 ?_)))))); rw [List.take_of_length_le (by omega)] at hln
  exact ⟨by rw [Rx.ln_eq, hln, decide_eq_false (by omega)]; rfl, hE9⟩
theorem FW : ∀ {n : Nat} {w : World} {vs : List Value} {t : Rx} (hx : RRx n [] w vs t), Calls Tryz.prog 48 #[.agg vs.toArray] w (Ret fun v w' => v = .bool t.ln ∧ Evo [] w w')
  | 0, w, vs, t, hx => hx.elim
  | n + 1, w, vs, t, hx => IY (n := n) (fun hx => FW hx) hx
theorem Show_ok {n : Nat} {w : World} {vs : List Value} {t : Rx} (hG : Gw w) (hx : RRx n [] w vs t) (hms : t.ms ≤ 60000000) :
    Calls Tryz.prog 19 #[.agg vs.toArray] w (Ret fun v w' => ∃ s e, ShowIs t s e ∧ v = .tuple #[.string (bstr s), iv e] ∧ Evo [] w w') := by
  have hx0 := hx; obtain ⟨m, ra, rc, ka, kc, hm, rfl, hrg, hk, bl1, bl2, bl3⟩ := hx.get; refine bJ (N := 16) Tryz.func19 rfl rfl rfl ?_; refine aE (aB (kS rfl rfl fun b1x w1 hB2 hs3 hw4 => ?_)); have hsz_b1x := hs3; have hE6 := (Evo.refl [] w).then hw4; refine aM (aM (aC (aA (aE (aE (aB (aF (bX rfl bQ aY hB2 rfl) (aK (vs := [_]) rO rfl (xH (RRx.pers _ _ _ _ _ _ hE6 hx0)) rfl ?_)))))))); rintro _ w7 ⟨r, rfl, hvr, hw8⟩; have hE9 := hE6.then hw8; refine aF (fF rfl) ?_; refine aC (aA (fW rfl (fun hc7 => ?_) (fun hc7 => ?_)))
  ·refine aE (aB (aM (aM (aC (aA (aO (aN (dC rfl rfl rfl ?_)))))))); exact ⟨[], 2, .inl ⟨fun h => (by simp [hvr.2 h] at hc7), rfl, rfl⟩, rfl, hE9⟩
  refine aU (aA (aE (aB ?_))); have hVs := hE9; have hok : t.Ok := hvr.1 (by simpa using hc7); have hgd := hok.good; have hwl := JX t hgd; have hxa := RRx.pers _ _ _ _ _ _ hVs hx0; have hGa := hG.evo0 hVs; refine dA rfl vU fun bb w11 hB12 hs13 hw14 => ?_; have hsz_bb := hs13; have hB20 := hw14.blk0 (hw8.blk0 hB2); have hub := Nat.le_of_eq hsz_bb; refine aC (aA (aE (aE (aB (aF (bX rfl bQ aY hB20 rfl) (aK (vs := [_]) wB rfl (FW (RRx.pers _ _ _ _ _ _ (hE9.then hw14) hx0)) rfl ?_)))))); rintro _ w21 ⟨rfl, hw22⟩; have hE23 := (hE9.then hw14).then hw22; have hE24 := ((Evo.refl [] w7).then hw14).then hw22; have hB25 := hw22.blk0 hB20; have hF26 := (BdN.new hB12).evo0 hw22; refine aC (aA (fW rfl (fun hc9 => ?_) (fun hc9 => ?_)))
  ·refine aB ?_; refine aK (vs := [_, _]) bW rfl (cW hF26 (m := [40, 63, 109, 41]) (by decide +kernel) (cB (by decide +kernel)) (Nat.zero_le _) (by decide)) rfl ?_; rintro _ w27 ⟨obw1, hBDw1, hw28, hnb1⟩; have hV90 := hE24; have hV91 := hE23; have hU1 := dM (Ge.nil _) hV90.size hnb1; have hAO1 := fM (Apart.nil _) (Lt.blk hB25) hnb1; have hE29 := hE23.step hw28 (fun y hy => (iA hub (Ge.nil _) y hy).imp id (fun h9 => Nat.le_trans hVs.size h9)); have hE30 := hE24.step hw28 (iA hub (Ge.nil _)); refine aC (aA (aE ?_))
   have hln9 : ([] ++ [40, 63, 109, 41] ++ t.w : List Nat) = uS t := by rw [uS, if_pos hc9]; rfl
   refine aB (aF (bX rfl bQ aY (hw28.blk hB25 (nF (Apart.new (Lt.blk (hw8.blk0 hB2)) hs13) (Apart.nil _))) rfl) ?_)
   refine aK (vs := [_, _]) lN rfl (AA _ hGa hE30 hub hU1 hBDw1 hxa hgd (by first | (show 0 + t.ms ≤ _; omega) | (show ([40, 63, 109, 41] : List Nat).length + t.ms ≤ _; simp; omega))) rfl ?_
   rintro _ w32 ⟨obw2, hBDw2, hw33, hnb2⟩; have hV90 := hE30; have hV91 := hE29; refine aC (aA (aE (aE (aB (aK (vs := [_]) wA rfl (ML hBDw2) rfl ?_))))); rintro _ w37 ⟨rfl, hw38⟩; have hE39 := (hE29.step hw33 (fun y hy => (iA hub hU1 y hy).imp id (fun h9 => Nat.le_trans hVs.size h9))).then hw38; refine aF (gL rfl rfl) ?_; refine aC (aA (bF rfl (fun hc14 => ?_) (fun hc14 => ?_)))
   ·refine aE (aB (aM (aM (aC (aA (aO (aN (dC rfl rfl rfl ?_)))))))); refine ⟨[], 1, .inr ⟨hok, .inl ⟨?_, rfl, rfl⟩⟩, rfl, hE39⟩
    rw [hln9] at hc14; omega
   refine aU (aA (aE (aB ?_)))
   refine aK (vs := [_]) rK rfl (sZ (hBDw2.evo0 hw38) (by rw [hln9]; exact KD hgd) (fun g hg => by have h9 := (dM hU1 hV90.size hnb2) g hg; omega)) rfl ?_
   rintro _ w43 ⟨rfl, hw44⟩; have hle9 := ((hE30.step hw33 (iA hub hU1)).then hw38).size; refine aM (aM (aC (aA (aO (dC rfl rfl rfl ?_))))); refine ⟨uS t, 0, .inr ⟨hok, .inr ⟨?_, rfl, rfl⟩⟩, (by rw [hln9]), (hE39.step hw44 (fun y hy => .inr (Nat.le_trans hVs.size (Nat.le_trans hub (CC.1 hy).2))))⟩
   rw [hln9] at hc14; omega
  refine aU (aA (aE ?_))
  have hln9 : ([] ++ t.w : List Nat) = uS t := by rw [uS, if_neg (by rw [hc9]; simp)]
  refine aB (aF (bX rfl bQ aY hB25 rfl) ?_)
  refine aK (vs := [_, _]) lN rfl (AA _ hGa hE24 hub (Ge.nil _) hF26 hxa hgd (by first | (show 0 + t.ms ≤ _; omega) | (show ([40, 63, 109, 41] : List Nat).length + t.ms ≤ _; simp; omega))) rfl ?_
  rintro _ w46 ⟨obw1, hBDw1, hw47, hnb1⟩; have hV90 := hE24; have hV91 := hE23; have hU1 := dM (Ge.nil _) hV90.size hnb1; have hAO1 := fM (Apart.nil _) (Lt.blk hB25) hnb1; have hE48 := hE23.step hw47 (fun y hy => (iA hub (Ge.nil _) y hy).imp id (fun h9 => Nat.le_trans hVs.size h9)); have hE49 := hE24.step hw47 (iA hub (Ge.nil _)); refine aC (aA (aE (aE (aB (aK (vs := [_]) wA rfl (ML hBDw1) rfl ?_))))); rintro _ w51 ⟨rfl, hw52⟩; refine aF (gL rfl rfl) ?_; refine aC (aA (bF rfl (fun hc14 => ?_) (fun hc14 => ?_)))
  ·refine aE (aB (aM (aM (aC (aA (aO (aN (dC rfl rfl rfl ?_)))))))); refine ⟨[], 1, .inr ⟨hok, .inl ⟨?_, rfl, rfl⟩⟩, rfl, (hE48.then hw52)⟩
   rw [hln9] at hc14; omega
  refine aU (aA (aE (aB ?_)))
  refine aK (vs := [_]) rK rfl (sZ (hBDw1.evo0 hw52) (by rw [hln9]; exact KD hgd) (fun g hg => by have h9 := hU1 g hg; omega)) rfl ?_
  rintro _ w57 ⟨rfl, hw58⟩; have hle9 := (hE49.then hw52).size; refine aM (aM (aC (aA (aO (dC rfl rfl rfl ?_))))); refine ⟨uS t, 0, .inr ⟨hok, .inr ⟨?_, rfl, rfl⟩⟩, (by rw [hln9]), ((hE48.then hw52).step hw58 (fun y hy => .inr (Nat.le_trans hVs.size (Nat.le_trans hub (CC.1 hy).2))))⟩
  rw [hln9] at hc14; omega
theorem BG {n : Nat} {w : World} {vs : List Value} {t : Rx} (hx : RRx n [] w vs t) :
    Calls Tryz.prog 26 #[.agg vs.toArray] w (Ret fun v w' => ∃ a c ob, v = .slice a (pG t).length c ∧ OwnS w' 9 1 a (pG t).length c ((pG t).map sv) ob ∧ Ge w ob ∧ (pG t).length ≤ 100000 ∧ Evo [] w w') := by
  have hx0 := hx; obtain ⟨m, ra, rc, ka, kc, hm, rfl, hrg, hk, bl1, bl2, bl3⟩ := hx.get; refine bJ (N := 13) Tryz.func26 rfl rfl rfl ?_; refine aE (aB (kS rfl rfl fun b1x w1 hB2 hs3 hw4 => ?_)); have hsz_b1x := hs3; have hE6 := (Evo.refl [] w).then hw4; refine aM (aC (aA (aE (aB (dA rfl uA fun jb w7 hB8 hs9 hw10 => ?_))))); have hsz_jb := hs9; have hE13 := hE6.then hw10; refine aM (aC (aA (aE (aE (aB (aG (aF (bX rfl bQ aY (hw10.blk0 hB2) rfl) ?_))))))); refine aK (vs := [_, _, _]) oT rfl (CO (st := (0, [])) (JAt.new hB8) (RRx.step hx0 hE13 (Ge.new hE6 hs9).mem1 (fun b hb => by cases hb)) ⟨Nat.le_refl _, by decide⟩ (by decide) (by decide)) rfl ?_; rintro _ w15 ⟨r, rfl, hr, hw16, hst⟩; have hsz9 := hE13.size; have hE17 := hE13.step hw16 ((Ge.new hE6 hs9).mem1); refine aF (fF rfl) ?_; refine aC (aA (fW rfl (fun hc8 => ?_) (fun hc8 => ?_)))
  ·refine aE (aB (aM (aC (aA (aO (aN (br1 ?_)))))))
   have hno : t.fine 0 (0, []) = none := by cases h9 : t.fine 0 (0, []) with | none => rfl | some z => rw [h9] at hr; rw [hr] at hc8; cases hc8
   have hgr : pG t = [] := by rw [pG, hno]
   rw [hgr]; exact ⟨none, 0, none, rfl, OwnS.nil _ _ _, Ge.nil _, Nat.zero_le _, hE17⟩
  obtain ⟨st', hst'⟩ := Option.isSome_iff_exists.1 (show (t.fine 0 (0, [])).isSome = true by rw [← hr]; simpa using hc8)
  obtain ⟨hs9, a2, c2, o2, hJ2, ho2⟩ := hst st' hst'
  have hgr : pG t = st'.2 := by rw [pG, hst']
  refine aU (aA (aE (aB (aG (aF (aP rfl) (aF (aD rfl lB) (aF (aI rfl kQ (aJ hJ2.blk rfl)) (aM (aC (aA (aO (br1 ?_)))))))))))); rw [hgr]
  refine ⟨a2, c2, o2, rfl, hJ2.own, fun g hg => ?_, by have := hs9.1; have := hs9.2; omega, hE17⟩
  rcases ho2 g hg with h9 | h9
  · cases h9
  · omega
structure CAt (w : World) (jb : Nat) (nodes caps : Nat) (ns : List ByteArray) (a : Option Addr) (c : Nat) (ob : Option Nat) : Prop where
  blk : w.heap[jb]? = some (.cells #[iv (nodes : Nat), iv (caps : Nat), .slice a ns.length c] 97 (0, 0))
  own : OwnS w 9 1 a ns.length c (ns.map sv) ob
  ne : ∀ g, ob = some g → g ≠ jb
theorem Brk.int (a k b : Int) : ∃ z, z = b + (if Brk a k then 1 else 0) := ⟨_, rfl⟩
theorem CAt.new {w : World} {jb : Nat} (h : w.heap[jb]? = some (.cells #[iv 0, iv 0, .slice none 0 0] 97 (0, 0))) : CAt w jb 0 0 [] none 0 none := ⟨h, OwnS.nil _ _ _, fun g hg => by cases hg⟩
theorem rL : eY Tryz.prog 42 := ⟨_, Tryz.func42, by kernel_rfl, by kernel_rfl⟩
def qc (c : Nat) : List Nat := if c ∈ NA then [92, c] else [c]
def qK (s : ByteArray) : Nat → List Nat
  | 0 => []
  | k + 1 => qK s k ++ qc (sb s k)
theorem BO (s : ByteArray) : ∀ k, (qK s k).length ≤ 2 * k
  | 0 => by simp [qK]
  | k + 1 => by have := BO s k; rw [qK, List.length_append]; unfold qc; split <;> simp <;> omega
theorem qK_lo (s : ByteArray) : ∀ k, Lo (qK s k)
  | 0 => fun b hb => by cases hb
  | k + 1 => by
    have h1 := jM s k
    rw [qK]
    refine (qK_lo s k).app ?_
    unfold qc
    split
    · intro b hb; simp at hb; omega
    · intro b hb; simp at hb; omega
theorem MY : ∀ m, m < 256 → (0 ≤ Lib.indexByte (ByteArray.mk #[92, 46, 43, 42, 63, 40, 41, 124, 91, 93, 123, 125, 94, 36]).data.toList (UInt8.ofNat m) ↔ m ∈ NA) := by decide +kernel
theorem MZ {w : World} (m : Nat) (hm : m < 256) : Calls Tryz.prog 41 #[.string (ByteArray.mk #[92, 46, 43, 42, 63, 40, 41, 124, 91, 93, 123, 125, 94, 36]), .int .u8 (m : Nat)] w (Ret fun v w' => ∃ z, v = .int .i64 z ∧ (0 ≤ z ↔ m ∈ NA) ∧ Evo [] w w') := by
  refine (kC _ _ w).mono ?_
  rintro e w' ⟨rfl, rfl⟩
  refine ⟨_, rfl, _, rfl, ?_, Evo.refl _ _⟩
  rw [← MY m hm]
  simp
structure QgG where
  k : Nat
  o : Option Nat
theorem UM {w : World} (s : ByteArray) (hs : s.size ≤ 30000000) :
    Calls Tryz.prog 14 #[.string s] w (Ret fun v w' => v = .string (bstr (qK s s.size)) ∧ Evo [] w w') := by
  refine bJ (N := 22) Tryz.func14 rfl rfl rfl ?_; refine aE (aB (aM (aC (aA (aE (aB (dA rfl vU fun bb w1 hB2 hs3 hw4 => ?_))))))); have hsz_bb := hs3; have hub := Nat.le_of_eq hsz_bb; refine aC (aA (aE (aE (aB (aG (aF (cM rfl Tryz.underlying9 rfl) ?_)))))); refine aG (aC (aA (bR (eV (α := QgG) (⟨0, none⟩) (fun x => [(7, .int .i64 (x.k : Nat))]) [(0, _), (2, _), (3, _), (6, _)] (fun x wr => Evo [] w wr ∧ (x.k ≤ s.size ∧ BdN wr bb (qK s x.k) x.o ∧ Ge w x.o)) (fun x => s.size - x.k) ⟨rfl, trivial⟩ ⟨rfl, rfl, rfl, rfl, trivial⟩ ⟨((Evo.refl [] w).then hw4), ⟨Nat.zero_le _, (BdN.new hB2), Ge.nil _⟩⟩ ?_)))); rintro ⟨k, o⟩ wr7 ⟨hV8, ⟨hk, hBDl, hul⟩⟩; show CW _ _ _ _ [(7, .int .i64 (k : Nat)), (0, _), (2, _), (3, _), (6, _)] _
  try dsimp only at hk
  try dsimp only at hBDl
  try dsimp only at hul
  refine aE (aB (aF (dF rfl rfl) ?_)); refine aC (aA (aE (bF rfl (fun hc8 => ?_) (fun hc8 => ?_))))
  ·have hk' : k < s.size := by omega
   refine aU (aA (aE (bR (aE (aB (aG (aM (aC (aA (aE (aE (aB (aG (aG (aF (fL (n := k) rfl rfl Tryz.underlying9 rfl hk') ?_))))))))))))))); refine aK (vs := [_, _]) oU rfl (MZ (sb s k) (jM s k)) rfl ?_; rintro _ w9 ⟨z, rfl, hz, hw10⟩; have hE11 := hV8.then hw10; refine aF (gC rfl rfl) ?_; refine aC (aA (bF rfl (fun hc14 => ?_) (fun hc14 => ?_)))
   ·refine aB ?_
    refine aK (vs := [_, _]) rL rfl (pN 92 (hBDl.evo0 hw10) (by have h9 := BO s k; omega)) rfl ?_
    rintro _ w13 ⟨obw1, hBDw1, hw14, hnb1⟩; have hV91 := hE11; have hU1 := dM hul hV91.size hnb1; have hE15 := hE11.step hw14 (iA hub hul); refine aC (aA (aB (aG (aG (aF (fL (n := k) rfl rfl Tryz.underlying9 rfl hk') ?_)))))
    refine aK (vs := [_, _]) rL rfl (pN (sb s k) hBDw1 (by have h9 := BO s k; first | omega | (rw [List.length_append]; simp; omega))) rfl ?_
    rintro _ w16 ⟨obw2, hBDw2, hw17, hnb2⟩; have hV91 := hE15; refine aC (aW (aA (aB ?_))); refine aF (bC rfl rfl (by omega) (by omega)) ?_; refine aG (aC (bY ?_)); refine ⟨⟨k + 1, obw2⟩, ?_, ⟨rfl, trivial⟩, ⟨rfl, rfl, rfl, rfl, trivial⟩, (hE15.step hw17 (iA hub hU1)), ?_⟩
    · (try dsimp only); omega
    try dsimp only
    have hfin := hBDw2; refine ⟨by omega, ?_, (dM hU1 hV91.size hnb2)⟩
    rw [qK, qc, if_pos (hz.1 (by omega))]; simpa [List.append_assoc] using hfin
   refine aU (aA (aB (aG (aG (aF (fL (n := k) rfl rfl Tryz.underlying9 rfl hk') ?_)))))
   refine aK (vs := [_, _]) rL rfl (pN (sb s k) (hBDl.evo0 hw10) (by have h9 := BO s k; first | omega | (rw [List.length_append]; simp; omega))) rfl ?_
   rintro _ w19 ⟨obw1, hBDw1, hw20, hnb1⟩; have hV91 := hE11; have hU1 := dM hul hV91.size hnb1; refine aC (aW (aA (aB ?_))); refine aF (bC rfl rfl (by omega) (by omega)) ?_; refine aG (aC (bY ?_)); refine ⟨⟨k + 1, obw1⟩, ?_, ⟨rfl, trivial⟩, ⟨rfl, rfl, rfl, rfl, trivial⟩, (hE11.step hw20 (iA hub hul)), ?_⟩
   · (try dsimp only); omega
   try dsimp only
   have hfin := hBDw1; refine ⟨by omega, ?_, hU1⟩
   rw [qK, qc, if_neg (fun h9 => by have := hz.2 h9; omega)]; simpa [List.append_assoc] using hfin
  obtain rfl : k = s.size := by omega
  refine dO (cD (cD (dN (aA ?_)))); refine aE (aB ?_)
  refine aK (vs := [_]) rK rfl (sZ hBDl (qK_lo s _) (fun g hg => by have h9 := hul g hg; omega)) rfl ?_
  rintro _ w22 ⟨rfl, hw23⟩; refine aM (aC (aA (aO (br1 ?_)))); exact ⟨rfl, (hV8.step hw23 (fun y hy => .inr (Nat.le_trans hub (CC.1 hy).2)))⟩
end Go.Proofs.YtljadkcojnlioaaGreatDoor
