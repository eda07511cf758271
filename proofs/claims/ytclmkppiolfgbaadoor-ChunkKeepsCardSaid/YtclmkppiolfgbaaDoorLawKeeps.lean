/- For every list of samples and all bounds the law ChunkKeeps answers true and leaves the list as it is: what is handed in stays as it is and is not kept, what is answered is new memory at each call. Condition: the table math/bits.deBruijn64tab holds what the text of the program lays there (the card ties it). -/
import Derived.Test.YtclmkppiolfgbaaDoorKq
import Derived.Test.YtclmkppiolfgbaaDoorLy
namespace Go.Proofs.YtclmkppiolfgbaaDoor
open Go.Proofs
open Go.W Go.ChangeShapes Go.WideShapes Go.ChangeAt Go.RowKit
set_option linter.unusedVariables false
attribute [local irreducible] Decidable.decide
set_option linter.unusedSimpArgs false
set_option linter.unusedVariables false
theorem Tryd.goes11 : Goes Tryd.prog 11 := ⟨_, Tryd.func11, by kernel_rfl, by kernel_rfl⟩
theorem Tryd.goes14 : Goes Tryd.prog 14 := ⟨_, Tryd.func14, by kernel_rfl, by kernel_rfl⟩
theorem Tryd.goes15 : Goes Tryd.prog 15 := ⟨_, Tryd.func15, by kernel_rfl, by kernel_rfl⟩
theorem Tryd.goes20 : Goes Tryd.prog 20 := ⟨_, Tryd.func20, by kernel_rfl, by kernel_rfl⟩
theorem Tryd.goes25 : Goes Tryd.prog 25 := ⟨_, Tryd.func25, by kernel_rfl, by kernel_rfl⟩
theorem Tryd.goes27 : Goes Tryd.prog 27 := ⟨_, Tryd.func27, by kernel_rfl, by kernel_rfl⟩
theorem Tryd.goes28 : Goes Tryd.prog 28 := ⟨_, Tryd.func28, by kernel_rfl, by kernel_rfl⟩
theorem Tryd.slice47 : sliceB Tryd.prog 47 = some (22, 1) := by kernel_rfl
theorem Tryd.slice48 : sliceB Tryd.prog 48 = some (24, 1) := by kernel_rfl


theorem own_inBn {w : World} {e : TypeId} {a : Option Addr} {n c m : Nat} {s t : List Nat} {ob : Option Nat} (h : OwnS w e 1 a n c ((s ++ t).map bv) ob) (h0 : 0 < n) (hn : s.length = m) : OwnS w e 1 a m c (s.map bv) ob := by subst hn; exact own_inB h h0
theorem own_inn {w : World} {e : TypeId} {a : Option Addr} {n c m : Nat} {s t : List Smp} {ob : Option Nat} (h : OwnS w e 3 a n c (srows (s ++ t)) ob) (h0 : 0 < n) (hn : s.length = m) : OwnS w e 3 a m c (srows s) ob := by subst hn; exact own_in h h0
theorem mkrow_one (s : Smp) : ∀ u, u ∈ srow s → u.oneCell' = true := fun u hu => by
  simp [srow] at hu; rcases hu with rfl | rfl | rfl <;> rfl

set_option maxHeartbeats 2000000 in
theorem walk_ok {X : List Nat} {w : World} {v0 : Value} {l : List Smp} {after upto : Int} (hs : RSl 3 RSmp X w v0 l) (hl : l.length * 24 ≤ 140737488351232) (ht : Tab w) :
    Calls Tryd.prog 8 #[v0, .int .i64 after, .int .i64 upto] w (Ret fun r w' => r = .bool true ∧ Evo [] w w') := by
  refine calls_of_cw (N := 285) Tryd.func8 rfl rfl rfl ?_
  refine cw_seq ?_
  refine cw_region ?_
  refine wl_val rfl (ex_assign rfl) ?_
  refine wl_nil (nrm_then ?_)
  refine cw_seq ?_
  refine cw_seq ?_
  refine cw_region ?_
  refine wl_call1 (vs := []) Tryd.goes11 rfl (alive_ok (Tab.evo ht (Evo.refl [] w) (by simp))) rfl ?_
  rintro _ w1 ⟨rfl, hw2⟩
  have hE3 := (Evo.refl [] w).then hw2
  refine wl_val rfl (ex_notb rfl) ?_
  refine wl_nil (nrm_then ?_)
  refine cw_false rfl ?_
  refine cw_skip (nrm_then ?_)
  refine cw_seq ?_
  refine cw_region ?_
  refine wl_val rfl (ex_move rfl) ?_
  refine wl_call1 (vs := [_]) Tryd.goes15 rfl (sorted_ok (RSl.evo RSmp.pers ((hE3).any _) hs) hl) rfl ?_
  rintro _ w4 ⟨a1, c1, ob1, s, rfl, hO1, hup, hso, hsl, hg1, hw5⟩
  have hE6 := hE3.then hw5
  have hs1 := own_smp (X := []) hO1 rfl hso (fun _ _ => by simp)
  have hfl := form_len s
  refine wl_val rfl (ex_assign rfl) ?_
  refine wl_nil (nrm_then ?_)
  refine cw_seq ?_
  refine cw_seq ?_
  refine cw_region ?_
  refine wl_val rfl (ex_move rfl) ?_
  refine wl_val rfl (ex_len_slice rfl Tryd.underlying22 rfl) ?_
  refine wl_val rfl (ex_gtr rfl rfl) ?_
  refine wl_nil (nrm_then ?_)
  refine cw_if rfl (fun hc41 => ?_) (fun hc41 => ?_)
  · skip
    refine cw_seq ?_
    refine cw_region ?_
    refine wl_val rfl (ex_assign rfl) ?_
    refine wl_nil (nrm_then ?_)
    refine cw_ret (ret_then (body_ret1 rfl rfl ?_))
    exact ⟨rfl, hE6⟩
  · skip
    have hvs : Valid s := ⟨by omega, hup, hso⟩
    refine cw_skip (nrm_then ?_)
    refine cw_seq ?_
    refine cw_region ?_
    refine wl_val rfl (ex_build (vs := [(0, _), (2, _)]) Tryd.build41 rfl (cells := [_, _, _]) rfl) ?_
    refine wl_alloc rfl Tryd.zero41 fun b7 w8 hB9 hs10 hw11 => ?_
    have hG12 := Ge.new hE6 hs10
    have hG13 := Ge.new (Evo.refl [] w4) hs10
    have hE14 := hE6.then hw11
    have hE15 := (Evo.refl [] w4).then hw11
    refine wl_storeBlk rfl rfl Tryd.size41 hB9 rfl rfl ⟨by first | rfl | assumption, by first | rfl | assumption, by first | rfl | assumption, trivial⟩ fun w16 hB17 hw18 => ?_
    have hE19 := hE14.step hw18 hG12.mem1
    have hE20 := hE15.step hw18 hG13.mem1
    refine wl_nil (nrm_then ?_)
    refine cw_seq ?_
    refine cw_cut (α := Option Addr × Nat × Option Nat) (fun y => [(9, .slice y.1 (0 + s.length + 3) y.2.1)]) [(1, _), (2, _), (6, _), (7, _), (8, _)] (fun y wr => Evo [] w16 wr ∧ (OwnS wr 41 3 y.1 (0 + s.length + 3) y.2.1 (srows (mixL s 0)) y.2.2 ∧ Ge w16 y.2.2)) ⟨rfl, rfl, rfl, rfl, rfl, trivial⟩ ?_ ?_
    · skip
      refine cw_any (fun w0 w' => Evo [] w0 w') (by kernel_rfl) (fun w21 hw22 => ?_)
      have hE23 := hE19.then hw22
      have hE24 := hE20.then hw22
      have hE25 := (Evo.refl [] w16).then hw22
      have hB26 := hw22.blk0 hB17
      refine ae_take 1 rfl (by kernel_rfl) (by kernel_rfl) (by kernel_rfl) rfl (fun _ hS => ex_move rfl) (Evo.refl [] w21) ?_
      refine ae_take 3 rfl (by kernel_rfl) (by kernel_rfl) (by kernel_rfl) rfl (fun _ hS => ex_loadBlk rfl Tryd.agg41 Tryd.size41 (hS.blk0 hB26) rfl) (Evo.refl [] w21) ?_
      refine ae_take 4 rfl (by kernel_rfl) (by kernel_rfl) (by kernel_rfl) rfl (fun _ hS => ex_loadBlk rfl Tryd.agg41 Tryd.size41 (hS.blk0 hB26) rfl) (Evo.refl [] w21) ?_
      refine ae_take 5 rfl (by kernel_rfl) (by kernel_rfl) (by kernel_rfl) rfl (fun _ hS => ex_loadBlk rfl Tryd.agg41 Tryd.size41 (hS.blk0 hB26) rfl) (Evo.refl [] w21) ?_
      refine ae_loud [0, 6] (by kernel_rfl) rfl ⟨?_, ?_, trivial⟩
      · skip
        refine a_step rfl ?_
        refine wl_bslice (vs := []) rfl Tryd.slice22 rfl rfl rfl rfl fun b27 w28 hO29 hs30 hw31 => ?_
        have hA32 := Apart.new (Lt.blk hB26) hs30
        have hG33 := Ge.new hE23 hs30
        have hG34 := Ge.new hE24 hs30
        have hG35 := Ge.new hE25 hs30
        have hG36 := Ge.new (Evo.refl [] w21) hs30
        have hE37 := hE23.then hw31
        have hE38 := hE24.then hw31
        have hE39 := hE25.then hw31
        have hE40 := (Evo.refl [] w21).then hw31
        have hB41 := hw31.blk0 hB26
        refine wl_nil (ae_next (.inl hE40) ?_)
        refine ae_loud [2, 6] (by kernel_rfl) rfl ⟨?_, ?_, trivial⟩
        · skip
          refine a_step rfl ?_
          refine wl_append rfl rfl rfl rfl Tryd.app22_22 hO29 (src_smp (RSl.evo RSmp.pers hE38 hs1)) (by omega) fun am cm w44 obm hOm hw47 hob48 => ?_
          have hA49 := hA32.app (Lt.blk hB41) hob48
          have hG50 := hG33.app hE37 hob48
          have hG51 := hG34.app hE38 hob48
          have hG52 := hG35.app hE39 hob48
          have hG53 := hG36.app hE40 hob48
          have hE54 := hE37.step hw47 hG33.mem
          have hE55 := hE38.step hw47 hG34.mem
          have hE56 := hE39.step hw47 hG35.mem
          have hE57 := hE40.step hw47 hG36.mem
          have hB58 := hw47.blk hB41 hA32.nmem
          refine wl_nil (ae_next (.inl hE57) ?_)
          refine ae_loud [6] (by kernel_rfl) rfl ⟨?_, trivial⟩
          refine a_step rfl ?_
          refine wl_bslice (vs := [_, _, _]) rfl Tryd.slice22 rfl rfl rfl rfl fun b59 w60 hO61 hs62 hw63 => ?_
          have hA64 := Apart.new (Lt.blk hB58) hs62
          have hA65 := Apart.new (Lt.own hOm) hs62
          have hG66 := Ge.new hE54 hs62
          have hG67 := Ge.new hE55 hs62
          have hG68 := Ge.new hE56 hs62
          have hG69 := Ge.new hE57 hs62
          have hE70 := hE54.then hw63
          have hE71 := hE55.then hw63
          have hE72 := hE56.then hw63
          have hE73 := hE57.then hw63
          have hB74 := hw63.blk0 hB58
          have hO75 := hOm.evo0 hw63
          refine wl_nil (ae_next (.inl hE73) ?_)
          refine ae_loud [7] (by kernel_rfl) rfl ⟨?_, trivial⟩
          refine a_step rfl ?_
          refine wl_append rfl rfl rfl rfl Tryd.app22_22 hO75 (Src.ofOwn hO61 ⟨by first | rfl | assumption, by first | rfl | assumption, by first | rfl | assumption, by first | rfl | assumption, by first | rfl | assumption, by first | rfl | assumption, by first | rfl | assumption, by first | rfl | assumption, by first | rfl | assumption, trivial⟩) (by omega) fun af cf w78 obf hOf hw81 hob82 => ?_
          have hA83 := hA49.app (Lt.blk hB74) hob82
          have hA84 := hA65.symm.app (Lt.own hO61) hob82
          have hG85 := hG50.app hE70 hob82
          have hG86 := hG51.app hE71 hob82
          have hG87 := hG52.app hE72 hob82
          have hG88 := hG53.app hE73 hob82
          have hE89 := hE70.step hw81 hG50.mem
          have hE90 := hE71.step hw81 hG51.mem
          have hE91 := hE72.step hw81 hG52.mem
          have hE92 := hE73.step hw81 hG53.mem
          have hB93 := hw81.blk hB74 hA49.nmem
          have hO94 := hO61.evo hw81 hA65.symm.own
          refine wl_nil (ae_next (.inl hE92) ?_)
          refine ae_take 8 rfl (by kernel_rfl) (by kernel_rfl) (by kernel_rfl) rfl (fun _ hS => ex_assign rfl) hE92 ?_
          refine ae_done (by kernel_rfl) (nrm_then ?_)
          refine ⟨(af, cf, obf), ⟨rfl, trivial⟩, ⟨rfl, rfl, rfl, rfl, rfl, trivial⟩, hE91, ?_⟩
          have h := hOf
          refine ⟨?_, hG87⟩
          rw [mix_zero, show srows (s ++ [m3, m3, m3]) = [] ++ srows s ++ (srow m3 ++ srow m3 ++ srow m3) by simp [srows]]
          exact h
        · skip
          refine a_step rfl ?_
          refine wl_bslice (vs := [_, _, _]) rfl Tryd.slice22 rfl rfl rfl rfl fun b95 w96 hO97 hs98 hw99 => ?_
          have hA100 := Apart.new (Lt.blk hB41) hs98
          have hA101 := Apart.new (Lt.own hO29) hs98
          have hG102 := Ge.new hE37 hs98
          have hG103 := Ge.new hE38 hs98
          have hG104 := Ge.new hE39 hs98
          have hG105 := Ge.new hE40 hs98
          have hE106 := hE37.then hw99
          have hE107 := hE38.then hw99
          have hE108 := hE39.then hw99
          have hE109 := hE40.then hw99
          have hB110 := hw99.blk0 hB41
          have hO111 := hO29.evo0 hw99
          refine wl_nil (ae_next (.inl hE109) ?_)
          refine ae_loud [2] (by kernel_rfl) rfl ⟨?_, trivial⟩
          refine a_step rfl ?_
          refine wl_append rfl rfl rfl rfl Tryd.app22_22 hO111 (src_smp (RSl.evo RSmp.pers hE107 hs1)) (by omega) fun am cm w114 obm hOm hw117 hob118 => ?_
          have hA119 := hA32.app (Lt.blk hB110) hob118
          have hA120 := hA101.symm.app (Lt.own hO97) hob118
          have hG121 := hG33.app hE106 hob118
          have hG122 := hG34.app hE107 hob118
          have hG123 := hG35.app hE108 hob118
          have hG124 := hG36.app hE109 hob118
          have hE125 := hE106.step hw117 hG33.mem
          have hE126 := hE107.step hw117 hG34.mem
          have hE127 := hE108.step hw117 hG35.mem
          have hE128 := hE109.step hw117 hG36.mem
          have hB129 := hw117.blk hB110 hA32.nmem
          have hO130 := hO97.evo hw117 hA101.symm.own
          refine wl_nil (ae_next (.inl hE128) ?_)
          refine ae_loud [7] (by kernel_rfl) rfl ⟨?_, trivial⟩
          refine a_step rfl ?_
          refine wl_append rfl rfl rfl rfl Tryd.app22_22 hOm (Src.ofOwn hO130 ⟨by first | rfl | assumption, by first | rfl | assumption, by first | rfl | assumption, by first | rfl | assumption, by first | rfl | assumption, by first | rfl | assumption, by first | rfl | assumption, by first | rfl | assumption, by first | rfl | assumption, trivial⟩) (by omega) fun af cf w133 obf hOf hw136 hob137 => ?_
          have hA138 := hA119.app (Lt.blk hB129) hob137
          have hA139 := hA120.app (Lt.own hO130) hob137
          have hG140 := hG121.app hE125 hob137
          have hG141 := hG122.app hE126 hob137
          have hG142 := hG123.app hE127 hob137
          have hG143 := hG124.app hE128 hob137
          have hE144 := hE125.step hw136 hG121.mem
          have hE145 := hE126.step hw136 hG122.mem
          have hE146 := hE127.step hw136 hG123.mem
          have hE147 := hE128.step hw136 hG124.mem
          have hB148 := hw136.blk hB129 hA119.nmem
          have hO149 := hO130.evo hw136 hA120.own
          refine wl_nil (ae_next (.inl hE147) ?_)
          refine ae_take 8 rfl (by kernel_rfl) (by kernel_rfl) (by kernel_rfl) rfl (fun _ hS => ex_assign rfl) hE147 ?_
          refine ae_done (by kernel_rfl) (nrm_then ?_)
          refine ⟨(af, cf, obf), ⟨rfl, trivial⟩, ⟨rfl, rfl, rfl, rfl, rfl, trivial⟩, hE146, ?_⟩
          have h := hOf
          refine ⟨?_, hG142⟩
          rw [mix_zero, show srows (s ++ [m3, m3, m3]) = [] ++ srows s ++ (srow m3 ++ srow m3 ++ srow m3) by simp [srows]]
          exact h
      · skip
        refine a_step rfl ?_
        refine wl_bslice (vs := [_, _, _]) rfl Tryd.slice22 rfl rfl rfl rfl fun b150 w151 hO152 hs153 hw154 => ?_
        have hA155 := Apart.new (Lt.blk hB26) hs153
        have hG156 := Ge.new hE23 hs153
        have hG157 := Ge.new hE24 hs153
        have hG158 := Ge.new hE25 hs153
        have hG159 := Ge.new (Evo.refl [] w21) hs153
        have hE160 := hE23.then hw154
        have hE161 := hE24.then hw154
        have hE162 := hE25.then hw154
        have hE163 := (Evo.refl [] w21).then hw154
        have hB164 := hw154.blk0 hB26
        refine wl_nil (ae_next (.inl hE163) ?_)
        refine ae_loud [0] (by kernel_rfl) rfl ⟨?_, trivial⟩
        refine a_step rfl ?_
        refine wl_bslice (vs := []) rfl Tryd.slice22 rfl rfl rfl rfl fun b165 w166 hO167 hs168 hw169 => ?_
        have hA170 := Apart.new (Lt.blk hB164) hs168
        have hA171 := Apart.new (Lt.own hO152) hs168
        have hG172 := Ge.new hE160 hs168
        have hG173 := Ge.new hE161 hs168
        have hG174 := Ge.new hE162 hs168
        have hG175 := Ge.new hE163 hs168
        have hE176 := hE160.then hw169
        have hE177 := hE161.then hw169
        have hE178 := hE162.then hw169
        have hE179 := hE163.then hw169
        have hB180 := hw169.blk0 hB164
        have hO181 := hO152.evo0 hw169
        refine wl_nil (ae_next (.inl hE179) ?_)
        refine ae_loud [2] (by kernel_rfl) rfl ⟨?_, trivial⟩
        refine a_step rfl ?_
        refine wl_append rfl rfl rfl rfl Tryd.app22_22 hO167 (src_smp (RSl.evo RSmp.pers hE177 hs1)) (by omega) fun am cm w184 obm hOm hw187 hob188 => ?_
        have hA189 := hA170.app (Lt.blk hB180) hob188
        have hA190 := hA171.app (Lt.own hO181) hob188
        have hG191 := hG172.app hE176 hob188
        have hG192 := hG173.app hE177 hob188
        have hG193 := hG174.app hE178 hob188
        have hG194 := hG175.app hE179 hob188
        have hE195 := hE176.step hw187 hG172.mem
        have hE196 := hE177.step hw187 hG173.mem
        have hE197 := hE178.step hw187 hG174.mem
        have hE198 := hE179.step hw187 hG175.mem
        have hB199 := hw187.blk hB180 hA170.nmem
        have hO200 := hO181.evo hw187 hA171.own
        refine wl_nil (ae_next (.inl hE198) ?_)
        refine ae_loud [7] (by kernel_rfl) rfl ⟨?_, trivial⟩
        refine a_step rfl ?_
        refine wl_append rfl rfl rfl rfl Tryd.app22_22 hOm (Src.ofOwn hO200 ⟨by first | rfl | assumption, by first | rfl | assumption, by first | rfl | assumption, by first | rfl | assumption, by first | rfl | assumption, by first | rfl | assumption, by first | rfl | assumption, by first | rfl | assumption, by first | rfl | assumption, trivial⟩) (by omega) fun af cf w203 obf hOf hw206 hob207 => ?_
        have hA208 := hA189.app (Lt.blk hB199) hob207
        have hA209 := hA190.app (Lt.own hO200) hob207
        have hG210 := hG191.app hE195 hob207
        have hG211 := hG192.app hE196 hob207
        have hG212 := hG193.app hE197 hob207
        have hG213 := hG194.app hE198 hob207
        have hE214 := hE195.step hw206 hG191.mem
        have hE215 := hE196.step hw206 hG192.mem
        have hE216 := hE197.step hw206 hG193.mem
        have hE217 := hE198.step hw206 hG194.mem
        have hB218 := hw206.blk hB199 hA189.nmem
        have hO219 := hO200.evo hw206 hA190.own
        refine wl_nil (ae_next (.inl hE217) ?_)
        refine ae_take 8 rfl (by kernel_rfl) (by kernel_rfl) (by kernel_rfl) rfl (fun _ hS => ex_assign rfl) hE217 ?_
        refine ae_done (by kernel_rfl) (nrm_then ?_)
        refine ⟨(af, cf, obf), ⟨rfl, trivial⟩, ⟨rfl, rfl, rfl, rfl, rfl, trivial⟩, hE216, ?_⟩
        have h := hOf
        refine ⟨?_, hG212⟩
        rw [mix_zero, show srows (s ++ [m3, m3, m3]) = [] ++ srows s ++ (srow m3 ++ srow m3 ++ srow m3) by simp [srows]]
        exact h
    · skip
      rintro ⟨af, cf, obf⟩ w220 ⟨hV221, ⟨hFU, hgf⟩⟩
      refine nrm_then ?_
      show CW _ _ _ _ [(9, .slice af (0 + s.length + 3) cf), (1, _), (2, _), (6, _), (7, _), (8, _)] _
      try dsimp only at hFU
      try dsimp only at hgf
      have hE222 := hE19.then hV221
      have hE223 := hE20.then hV221
      have hB224 := hV221.blk0 hB17
      have hgfw := Ge.fresh hE19 hgf
      have hgfp := Ge.fresh hE20 hgf
      have hcf := hFU.le
      refine cw_seq ?_
      refine cw_region ?_
      refine wl_val rfl (ex_move rfl) ?_
      refine wl_val rfl (ex_move rfl) ?_
      refine wl_val rfl (ex_len_slice rfl Tryd.underlying22 rfl) ?_
      refine wl_val rfl (ex_slice (l := 0) (h := s.length) (lv := none) (hv := some ((s.length : Nat) : Int)) rfl Tryd.underlying22 Tryd.size41 rfl rfl rfl rfl (Nat.zero_le _) (by omega) (by omega)) ?_
      rw [cut0, Nat.sub_zero, Nat.sub_zero]
      refine wl_val rfl (ex_assign rfl) ?_
      refine wl_nil (nrm_then ?_)
      refine cw_seq ?_
      refine cw_region ?_
      refine wl_val rfl (ex_move rfl) ?_
      refine wl_call1 (vs := [_]) Tryd.goes13 rfl (pack_new (own_smp (X := []) (own_in (s := s) (t := [m3, m3, m3]) (by rw [← mix_zero]; exact hFU) (by omega)) rfl hso (fun _ _ => by simp)) (by omega) (ht.evo hE222 (by simp))) rfl ?_
      rintro _ w225 ⟨aA, nA, cA, bsA, eA, obA, rfl, hOA, hbA, hgA, hPA, hw226⟩
      have hA227 := Apart.fresh (Lt.blk hB224) hgA
      have hA228 := Apart.fresh (Lt.own hFU) hgA
      have hG229 := Ge.fresh hE222 hgA
      have hG230 := Ge.fresh hE223 hgA
      have hE231 := hE222.then hw226
      have hE232 := hE223.then hw226
      have hB233 := hw226.blk0 hB224
      have hO234 := hFU.evo0 hw226
      obtain ⟨rfl, hpa⟩ := pack_val hvs hPA
      have hnA := own_len hOA
      have hlA := hpa.len
      refine wl_val rfl (ex_move rfl) ?_
      refine wl_val rfl (ex_extract rfl rfl) ?_
      refine wl_val rfl (ex_extract rfl rfl) ?_
      refine wl_val rfl (ex_assign rfl) ?_
      refine wl_val rfl (ex_assign rfl) ?_
      refine wl_nil (nrm_then ?_)
      refine cw_seq ?_
      refine cw_region ?_
      refine wl_val rfl (ex_move rfl) ?_
      refine wl_call1 (vs := [_]) Tryd.goes13 rfl (pack_new (own_smp (X := []) (own_in (s := s) (t := [m3, m3, m3]) (by rw [← mix_zero]; exact hO234) (by omega)) rfl hso (fun _ _ => by simp)) (by omega) (ht.evo hE231 (by simp))) rfl ?_
      rintro _ w235 ⟨aC, nC, cC, bsC, eC, obC, rfl, hOC, hbC, hgC, hPC, hw236⟩
      have hA237 := Apart.fresh (Lt.blk hB233) hgC
      have hA238 := Apart.fresh (Lt.own hO234) hgC
      have hA239 := Apart.fresh (Lt.own hOA) hgC
      have hG240 := Ge.fresh hE231 hgC
      have hG241 := Ge.fresh hE232 hgC
      have hE242 := hE231.then hw236
      have hE243 := hE232.then hw236
      have hB244 := hw236.blk0 hB233
      have hO245 := hO234.evo0 hw236
      have hO246 := hOA.evo0 hw236
      obtain ⟨rfl, hpc⟩ := pack_val hvs hPC
      obtain rfl : bsA = bsC := PacksN.uniq hpa hpc
      have hnC := own_len hOC
      refine wl_val rfl (ex_move rfl) ?_
      refine wl_val rfl (ex_extract rfl rfl) ?_
      refine wl_val rfl (ex_extract rfl rfl) ?_
      refine wl_val rfl (ex_assign rfl) ?_
      refine wl_val rfl (ex_assign rfl) ?_
      refine wl_nil (nrm_then ?_)
      refine cw_seq ?_
      refine cw_cut (α := Unit) (fun x => []) [(1, _), (2, _), (7, _), (10, _), (11, _), (13, _)] (fun x wr => Evo [] w235 wr ∧ (True)) ⟨rfl, rfl, rfl, rfl, rfl, rfl, trivial⟩ ?_ ?_
      · skip
        refine cw_seq ?_
        refine cw_any (fun w0 w' => Evo [] w0 w') (by kernel_rfl) (fun w247 hw248 => ?_)
        have hE249 := hE242.then hw248
        have hE250 := hE243.then hw248
        have hE251 := (Evo.refl [] w235).then hw248
        have hB252 := hw248.blk0 hB244
        have hO253 := hO245.evo0 hw248
        have hO254 := hO246.evo0 hw248
        have hO255 := hOC.evo0 hw248
        refine ae_take 0 rfl (by kernel_rfl) (by kernel_rfl) (by kernel_rfl) rfl (fun _ hS => ex_move rfl) (Evo.refl [] w247) ?_
        refine ae_take 1 rfl (by kernel_rfl) (by kernel_rfl) (by kernel_rfl) rfl (fun _ hS => ex_neq rfl rfl) (Evo.refl [] w247) ?_
        refine ae_take 2 rfl (by kernel_rfl) (by kernel_rfl) (by kernel_rfl) rfl (fun _ hS => ex_move rfl) (Evo.refl [] w247) ?_
        refine ae_split (t := 67) rfl (fun hs67 => ?_) (fun hs67 => ?_)
        · skip
          exact absurd rfl hs67
        · skip
          refine ae_takeG 3 rfl rfl rfl rfl rfl (by kernel_rfl) (by kernel_rfl) (by kernel_rfl) rfl (fun _ hS => ex_move rfl) (Evo.refl [] w247) ?_
          refine ae_takeG 4 rfl rfl rfl rfl rfl (by kernel_rfl) (by kernel_rfl) (by kernel_rfl) rfl (fun _ hS => ex_neq rfl rfl) (Evo.refl [] w247) ?_
          refine ae_take 5 rfl (by kernel_rfl) (by kernel_rfl) (by kernel_rfl) rfl (fun _ hS => ex_pick_f rfl rfl) (Evo.refl [] w247) ?_
          refine ae_take 6 rfl (by kernel_rfl) (by kernel_rfl) (by kernel_rfl) rfl (fun _ hS => ex_move rfl) (Evo.refl [] w247) ?_
          refine ae_split (t := 71) rfl (fun hs71 => ?_) (fun hs71 => ?_)
          · skip
            exact absurd rfl hs71
          · skip
            refine ae_takeG 7 rfl rfl rfl rfl rfl (by kernel_rfl) (by kernel_rfl) (by kernel_rfl) rfl (fun _ hS => ex_move rfl) (Evo.refl [] w247) ?_
            refine ae_takeG 8 rfl rfl rfl rfl rfl (by kernel_rfl) (by kernel_rfl) (by kernel_rfl) rfl (fun _ hS => ex_move rfl) (Evo.refl [] w247) ?_
            refine ae_loud [9] (by kernel_rfl) rfl ⟨?_, trivial⟩
            refine a_step rfl ?_
            refine wl_go rfl rfl rfl rfl ?_
            refine wl_call1 (vs := [_, _]) Tryd.goes14 rfl (same_ok (rbs (X := []) hO254 hbA (fun _ _ => by simp)) (rbs (X := []) hO255 hbA (fun _ _ => by simp))) rfl ?_
            rintro _ w256 ⟨rfl, hw257⟩
            have hE258 := hE249.then hw257
            have hE259 := hE250.then hw257
            have hE260 := hE251.then hw257
            have hE261 := (Evo.refl [] w247).then hw257
            have hB262 := hw257.blk0 hB252
            have hO263 := hO253.evo0 hw257
            have hO264 := hO254.evo0 hw257
            have hO265 := hO255.evo0 hw257
            refine wl_nil (ae_next (.inl hE261) ?_)
            refine ae_takeG 10 rfl rfl rfl rfl rfl (by kernel_rfl) (by kernel_rfl) (by kernel_rfl) rfl (fun _ hS => ex_not rfl) hE261 ?_
            refine ae_take 11 rfl (by kernel_rfl) (by kernel_rfl) (by kernel_rfl) rfl (fun _ hS => ex_pick_f rfl rfl) hE261 ?_
            refine ae_take 12 rfl (by kernel_rfl) (by kernel_rfl) (by kernel_rfl) rfl (fun _ hS => ex_move rfl) hE261 ?_
            refine ae_split (t := 77) rfl (fun hs77 => ?_) (fun hs77 => ?_)
            · skip
              exact absurd rfl hs77
            · skip
              refine ae_takeG 13 rfl rfl rfl rfl rfl (by kernel_rfl) (by kernel_rfl) (by kernel_rfl) rfl (fun _ hS => ex_move rfl) hE261 ?_
              refine ae_takeG 14 rfl rfl rfl rfl rfl (by kernel_rfl) (by kernel_rfl) (by kernel_rfl) rfl (fun _ hS => ex_move rfl) hE261 ?_
              refine ae_takeG 15 rfl rfl rfl rfl rfl (by kernel_rfl) (by kernel_rfl) (by kernel_rfl) rfl (fun _ hS => ex_len_slice rfl Tryd.underlying22 rfl) hE261 ?_
              refine ae_takeG 17 rfl rfl rfl rfl rfl (by kernel_rfl) (by kernel_rfl) (by kernel_rfl) rfl (fun _ hS => ex_move rfl) hE261 ?_
              refine ae_loud [16] (by kernel_rfl) rfl ⟨?_, trivial⟩
              refine a_step rfl ?_
              refine wl_go rfl rfl rfl rfl ?_
              refine wl_val rfl (ex_slice (l := 0) (h := s.length) (lv := none) (hv := some ((s.length : Nat) : Int)) rfl Tryd.underlying22 Tryd.size41 rfl rfl rfl rfl (Nat.zero_le _) (by omega) (by omega)) ?_
              rw [cut0, Nat.sub_zero, Nat.sub_zero]
              refine wl_nil (ae_next (.inl hE261) ?_)
              refine ae_loud [18] (by kernel_rfl) rfl ⟨?_, trivial⟩
              refine a_step rfl ?_
              refine wl_go rfl rfl rfl rfl ?_
              refine wl_call1 (vs := [_, _, _]) Tryd.goes20 rfl (alike_ok (own_smp (X := []) (own_in (s := s) (t := [m3, m3, m3]) (by rw [← mix_zero]; exact hO263) (by omega)) rfl hso (fun _ _ => by simp)) (RSl.evo RSmp.pers hE259 hs1) (Alike.refl _ _) (by omega)) rfl ?_
              rintro _ w266 ⟨rfl, hw267⟩
              have hE268 := hE258.then hw267
              have hE269 := hE259.then hw267
              have hE270 := hE260.then hw267
              have hE271 := hE261.then hw267
              have hB272 := hw267.blk0 hB262
              have hO273 := hO263.evo0 hw267
              have hO274 := hO264.evo0 hw267
              have hO275 := hO265.evo0 hw267
              refine wl_nil (ae_next (.inl hE271) ?_)
              refine ae_takeG 19 rfl rfl rfl rfl rfl (by kernel_rfl) (by kernel_rfl) (by kernel_rfl) rfl (fun _ hS => ex_notb rfl) hE271 ?_
              refine ae_take 20 rfl (by kernel_rfl) (by kernel_rfl) (by kernel_rfl) rfl (fun _ hS => ex_pick_f rfl rfl) hE271 ?_
              refine ae_take 21 rfl (by kernel_rfl) (by kernel_rfl) (by kernel_rfl) rfl (fun _ hS => ex_move rfl) hE271 ?_
              refine ae_takeG 22 rfl rfl rfl rfl rfl (by kernel_rfl) (by kernel_rfl) (by kernel_rfl) rfl (fun _ hS => ex_move rfl) hE271 ?_
              refine ae_takeG 23 rfl rfl rfl rfl rfl (by kernel_rfl) (by kernel_rfl) (by kernel_rfl) rfl (fun _ hS => ex_move rfl) hE271 ?_
              refine ae_takeG 24 rfl rfl rfl rfl rfl (by kernel_rfl) (by kernel_rfl) (by kernel_rfl) rfl (fun _ hS => ex_len_slice rfl Tryd.underlying22 rfl) hE271 ?_
              refine ae_takeG 26 rfl rfl rfl rfl rfl (by kernel_rfl) (by kernel_rfl) (by kernel_rfl) rfl (fun _ hS => ex_loadBlk rfl Tryd.agg41 Tryd.size41 (hS.blk0 hB252) rfl) hE271 ?_
              refine ae_takeG 27 rfl rfl rfl rfl rfl (by kernel_rfl) (by kernel_rfl) (by kernel_rfl) rfl (fun _ hS => ex_loadBlk rfl Tryd.agg41 Tryd.size41 (hS.blk0 hB252) rfl) hE271 ?_
              refine ae_takeG 28 rfl rfl rfl rfl rfl (by kernel_rfl) (by kernel_rfl) (by kernel_rfl) rfl (fun _ hS => ex_loadBlk rfl Tryd.agg41 Tryd.size41 (hS.blk0 hB252) rfl) hE271 ?_
              refine ae_loud [25, 29] (by kernel_rfl) rfl ⟨?_, ?_, trivial⟩
              · skip
                refine a_step rfl ?_
                refine wl_go rfl rfl rfl rfl ?_
                refine wl_val rfl (ex_slice (l := s.length) (h := 0 + s.length + 3) (lv := some ((s.length : Nat) : Int)) (hv := none) rfl Tryd.underlying22 Tryd.size41 rfl rfl rfl rfl (by omega) (by omega) (by omega)) ?_
                refine wl_nil (ae_next (.inl hE271) ?_)
                refine ae_loud [29] (by kernel_rfl) rfl ⟨?_, trivial⟩
                refine a_step rfl ?_
                refine wl_go rfl rfl rfl rfl ?_
                refine wl_bslice (vs := [_, _, _]) rfl Tryd.slice22 rfl rfl rfl rfl fun b276 w277 hO278 hs279 hw280 => ?_
                have hA281 := Apart.new (Lt.blk hB272) hs279
                have hA282 := Apart.new (Lt.own hO273) hs279
                have hA283 := Apart.new (Lt.own hO274) hs279
                have hA284 := Apart.new (Lt.own hO275) hs279
                have hG285 := Ge.new hE268 hs279
                have hG286 := Ge.new hE269 hs279
                have hG287 := Ge.new hE270 hs279
                have hG288 := Ge.new hE271 hs279
                have hE289 := hE268.then hw280
                have hE290 := hE269.then hw280
                have hE291 := hE270.then hw280
                have hE292 := hE271.then hw280
                have hB293 := hw280.blk0 hB272
                have hO294 := hO273.evo0 hw280
                have hO295 := hO274.evo0 hw280
                have hO296 := hO275.evo0 hw280
                refine wl_nil (ae_next (.inl hE292) ?_)
                refine ae_loud [30] (by kernel_rfl) rfl ⟨?_, trivial⟩
                refine a_step rfl ?_
                refine wl_go rfl rfl rfl rfl ?_
                refine wl_call1 (vs := [_, _, _]) Tryd.goes20 rfl (alike_ok (rsl_sub (own_smp (X := []) hO294 (by rw [mix_len (by omega)]; omega) (mix_ok hso 0) (fun _ _ => by simp)) (l := s.length) (h := 0 + s.length + 3) (by omega) (by rw [mix_len (by omega)]; omega)) (own_smp (X := []) (l := [m3, m3, m3]) hO278 rfl (fun x hx => by simp at hx; rw [hx]; exact m3_ok) (fun _ _ => by simp)) (by rw [mix_zero, List.drop_left, show 0 + s.length + 3 - s.length = 3 by omega]; exact Alike.refl _ _) (by rw [mix_zero, List.drop_left, List.length_take]; omega)) rfl ?_
                rintro _ w297 ⟨rfl, hw298⟩
                have hE299 := hE289.then hw298
                have hE300 := hE290.then hw298
                have hE301 := hE291.then hw298
                have hE302 := hE292.then hw298
                have hB303 := hw298.blk0 hB293
                have hO304 := hO294.evo0 hw298
                have hO305 := hO295.evo0 hw298
                have hO306 := hO296.evo0 hw298
                have hO307 := hO278.evo0 hw298
                refine wl_nil (ae_next (.inl hE302) ?_)
                refine ae_takeG 31 rfl rfl rfl rfl rfl (by kernel_rfl) (by kernel_rfl) (by kernel_rfl) rfl (fun _ hS => ex_notb rfl) hE302 ?_
                refine ae_take 32 rfl (by kernel_rfl) (by kernel_rfl) (by kernel_rfl) rfl (fun _ hS => ex_pick_f rfl rfl) hE302 ?_
                refine ae_done (by kernel_rfl) (nrm_then ?_)
                refine cw_false rfl ?_
                refine cw_skip (nrm_then ?_)
                refine ⟨(), trivial, ⟨rfl, rfl, rfl, rfl, rfl, rfl, trivial⟩, hE301, ?_⟩
                trivial
              · skip
                refine a_step rfl ?_
                refine wl_go rfl rfl rfl rfl ?_
                refine wl_bslice (vs := [_, _, _]) rfl Tryd.slice22 rfl rfl rfl rfl fun b308 w309 hO310 hs311 hw312 => ?_
                have hA313 := Apart.new (Lt.blk hB272) hs311
                have hA314 := Apart.new (Lt.own hO273) hs311
                have hA315 := Apart.new (Lt.own hO274) hs311
                have hA316 := Apart.new (Lt.own hO275) hs311
                have hG317 := Ge.new hE268 hs311
                have hG318 := Ge.new hE269 hs311
                have hG319 := Ge.new hE270 hs311
                have hG320 := Ge.new hE271 hs311
                have hE321 := hE268.then hw312
                have hE322 := hE269.then hw312
                have hE323 := hE270.then hw312
                have hE324 := hE271.then hw312
                have hB325 := hw312.blk0 hB272
                have hO326 := hO273.evo0 hw312
                have hO327 := hO274.evo0 hw312
                have hO328 := hO275.evo0 hw312
                refine wl_nil (ae_next (.inl hE324) ?_)
                refine ae_loud [25] (by kernel_rfl) rfl ⟨?_, trivial⟩
                refine a_step rfl ?_
                refine wl_go rfl rfl rfl rfl ?_
                refine wl_val rfl (ex_slice (l := s.length) (h := 0 + s.length + 3) (lv := some ((s.length : Nat) : Int)) (hv := none) rfl Tryd.underlying22 Tryd.size41 rfl rfl rfl rfl (by omega) (by omega) (by omega)) ?_
                refine wl_nil (ae_next (.inl hE324) ?_)
                refine ae_loud [30] (by kernel_rfl) rfl ⟨?_, trivial⟩
                refine a_step rfl ?_
                refine wl_go rfl rfl rfl rfl ?_
                refine wl_call1 (vs := [_, _, _]) Tryd.goes20 rfl (alike_ok (rsl_sub (own_smp (X := []) hO326 (by rw [mix_len (by omega)]; omega) (mix_ok hso 0) (fun _ _ => by simp)) (l := s.length) (h := 0 + s.length + 3) (by omega) (by rw [mix_len (by omega)]; omega)) (own_smp (X := []) (l := [m3, m3, m3]) hO310 rfl (fun x hx => by simp at hx; rw [hx]; exact m3_ok) (fun _ _ => by simp)) (by rw [mix_zero, List.drop_left, show 0 + s.length + 3 - s.length = 3 by omega]; exact Alike.refl _ _) (by rw [mix_zero, List.drop_left, List.length_take]; omega)) rfl ?_
                rintro _ w329 ⟨rfl, hw330⟩
                have hE331 := hE321.then hw330
                have hE332 := hE322.then hw330
                have hE333 := hE323.then hw330
                have hE334 := hE324.then hw330
                have hB335 := hw330.blk0 hB325
                have hO336 := hO326.evo0 hw330
                have hO337 := hO327.evo0 hw330
                have hO338 := hO328.evo0 hw330
                have hO339 := hO310.evo0 hw330
                refine wl_nil (ae_next (.inl hE334) ?_)
                refine ae_takeG 31 rfl rfl rfl rfl rfl (by kernel_rfl) (by kernel_rfl) (by kernel_rfl) rfl (fun _ hS => ex_notb rfl) hE334 ?_
                refine ae_take 32 rfl (by kernel_rfl) (by kernel_rfl) (by kernel_rfl) rfl (fun _ hS => ex_pick_f rfl rfl) hE334 ?_
                refine ae_done (by kernel_rfl) (nrm_then ?_)
                refine cw_false rfl ?_
                refine cw_skip (nrm_then ?_)
                refine ⟨(), trivial, ⟨rfl, rfl, rfl, rfl, rfl, rfl, trivial⟩, hE333, ?_⟩
                trivial
      · skip
        rintro x w340 ⟨hV341, _⟩
        refine nrm_then ?_
        show CW _ _ _ _ [(1, _), (2, _), (7, _), (10, _), (11, _), (13, _)] _
        have hE342 := hE242.then hV341
        have hE343 := hE243.then hV341
        have hB344 := hV341.blk0 hB244
        have hO345 := hO245.evo0 hV341
        have hO346 := hO246.evo0 hV341
        have hO347 := hOC.evo0 hV341
        refine cw_seq ?_
        refine cw_region ?_
        refine wl_bslice (vs := []) rfl Tryd.slice24 rfl rfl rfl rfl fun b348 w349 hO350 hs351 hw352 => ?_
        have hA353 := Apart.new (Lt.blk hB344) hs351
        have hA354 := Apart.new (Lt.own hO345) hs351
        have hA355 := Apart.new (Lt.own hO346) hs351
        have hA356 := Apart.new (Lt.own hO347) hs351
        have hG357 := Ge.new hE342 hs351
        have hG358 := Ge.new hE343 hs351
        have hE359 := hE342.then hw352
        have hE360 := hE343.then hw352
        have hB361 := hw352.blk0 hB344
        have hO362 := hO345.evo0 hw352
        have hO363 := hO346.evo0 hw352
        have hO364 := hO347.evo0 hw352
        refine wl_val rfl (ex_move rfl) ?_
        refine wl_append rfl rfl rfl rfl Tryd.app24_24 hO350 (src_byte (rbs (X := []) hO363 hbA (fun _ _ => by simp))) (by omega) fun aB cB w367 obB hOB hw370 hob371 => ?_
        have hA372 := hA353.app (Lt.blk hB361) hob371
        have hA373 := hA354.app (Lt.own hO362) hob371
        have hA374 := hA355.app (Lt.own hO363) hob371
        have hA375 := hA356.app (Lt.own hO364) hob371
        have hG376 := hG357.app hE359 hob371
        have hG377 := hG358.app hE360 hob371
        have hE378 := hE359.step hw370 hG357.mem
        have hE379 := hE360.step hw370 hG358.mem
        have hB380 := hw370.blk hB361 hA353.nmem
        have hO381 := hO362.evo hw370 hA354.own
        have hO382 := hO363.evo hw370 hA355.own
        have hO383 := hO364.evo hw370 hA356.own
        refine wl_val rfl (ex_assign rfl) ?_
        refine wl_nil (nrm_then ?_)
        refine cw_seq ?_
        refine cw_region ?_
        refine wl_bslice (vs := []) rfl Tryd.slice24 rfl rfl rfl rfl fun b384 w385 hO386 hs387 hw388 => ?_
        have hA389 := Apart.new (Lt.own hO381) hs387
        have hA390 := Apart.new (Lt.own hO382) hs387
        have hA391 := Apart.new (Lt.own hO383) hs387
        have hA392 := Apart.new (Lt.own hOB) hs387
        have hG393 := Ge.new hE378 hs387
        have hG394 := Ge.new hE379 hs387
        have hE395 := hE378.then hw388
        have hE396 := hE379.then hw388
        have hO397 := hO381.evo0 hw388
        have hO398 := hO382.evo0 hw388
        have hO399 := hO383.evo0 hw388
        have hO400 := hOB.evo0 hw388
        refine wl_val rfl (ex_move rfl) ?_
        refine wl_append rfl rfl rfl rfl Tryd.app24_24 hO386 (src_byte (rbs (X := []) hO398 hbA (fun _ _ => by simp))) (by omega) fun aw cw w403 obw hOw hw406 hob407 => ?_
        have hA408 := hA389.app (Lt.own hO397) hob407
        have hA409 := hA390.app (Lt.own hO398) hob407
        have hA410 := hA391.app (Lt.own hO399) hob407
        have hA411 := hA392.app (Lt.own hO400) hob407
        have hG412 := hG393.app hE395 hob407
        have hG413 := hG394.app hE396 hob407
        have hE414 := hE395.step hw406 hG393.mem
        have hE415 := hE396.step hw406 hG394.mem
        have hO416 := hO397.evo hw406 hA389.own
        have hO417 := hO398.evo hw406 hA390.own
        have hO418 := hO399.evo hw406 hA391.own
        have hO419 := hO400.evo hw406 hA392.own
        refine wl_bslice (vs := [_, _, _]) rfl Tryd.slice24 rfl rfl rfl rfl fun b420 w421 hO422 hs423 hw424 => ?_
        have hA425 := Apart.new (Lt.own hO416) hs423
        have hA426 := Apart.new (Lt.own hO417) hs423
        have hA427 := Apart.new (Lt.own hO418) hs423
        have hA428 := Apart.new (Lt.own hO419) hs423
        have hA429 := Apart.new (Lt.own hOw) hs423
        have hG430 := Ge.new hE414 hs423
        have hG431 := Ge.new hE415 hs423
        have hE432 := hE414.then hw424
        have hE433 := hE415.then hw424
        have hO434 := hO416.evo0 hw424
        have hO435 := hO417.evo0 hw424
        have hO436 := hO418.evo0 hw424
        have hO437 := hO419.evo0 hw424
        have hO438 := hOw.evo0 hw424
        refine wl_append rfl rfl rfl rfl Tryd.app24_24 hO438 (Src.ofOwn hO422 ⟨by first | rfl | assumption, by first | rfl | assumption, by first | rfl | assumption, trivial⟩) (by omega) fun aW cW w441 obW hOW hw444 hob445 => ?_
        have hA446 := hA408.app (Lt.own hO434) hob445
        have hA447 := hA409.app (Lt.own hO435) hob445
        have hA448 := hA410.app (Lt.own hO436) hob445
        have hA449 := hA411.app (Lt.own hO437) hob445
        have hA450 := hA429.symm.app (Lt.own hO422) hob445
        have hG451 := hG412.app hE432 hob445
        have hG452 := hG413.app hE433 hob445
        have hE453 := hE432.step hw444 hG412.mem
        have hE454 := hE433.step hw444 hG413.mem
        have hO455 := hO434.evo hw444 hA408.own
        have hO456 := hO435.evo hw444 hA409.own
        have hO457 := hO436.evo hw444 hA410.own
        have hO458 := hO437.evo hw444 hA411.own
        have hO459 := hO422.evo hw444 hA429.symm.own
        refine wl_val rfl (ex_assign rfl) ?_
        refine wl_nil (nrm_then ?_)
        refine cw_seq ?_
        have hW0 : OwnS w441 5 1 aW (0 + nA + 3) cW ((bsA ++ [7, 8, 9]).map bv) obW := by rw [List.map_append, ← hnA]; exact hOW
        have hcw := hW0.le
        refine cw_region ?_
        refine wl_val rfl (ex_move rfl) ?_
        refine wl_val rfl (ex_move rfl) ?_
        refine wl_val rfl (ex_len_slice rfl Tryd.underlying24 rfl) ?_
        refine wl_val rfl (ex_slice (l := 0) (h := nA) (lv := none) (hv := some ((nA : Nat) : Int)) rfl Tryd.underlying24 Tryd.size5 rfl rfl rfl rfl (Nat.zero_le _) (by omega) (by omega)) ?_
        rw [cut0, Nat.sub_zero, Nat.sub_zero]
        refine wl_val rfl (ex_assign rfl) ?_
        refine wl_nil (nrm_then ?_)
        refine cw_seq ?_
        refine cw_region ?_
        refine wl_val rfl (ex_move rfl) ?_
        refine wl_call1 (vs := [_]) Tryd.goes17 rfl (unpack_new (rbs (X := []) (own_inBn (s := bsA) (t := [7, 8, 9]) hW0 (by omega) hnA) hbA (fun _ _ => by simp)) (by omega) (ht.evo hE453 (by simp))) rfl ?_
        rintro _ w460 ⟨aX, nX, cX, xX, eX, obX, rfl, hOX, hnX, hxX, hgX, hUX, hw461⟩
        have hA462 := Apart.fresh (Lt.own hO455) hgX
        have hA463 := Apart.fresh (Lt.own hO456) hgX
        have hA464 := Apart.fresh (Lt.own hO457) hgX
        have hA465 := Apart.fresh (Lt.own hO458) hgX
        have hA466 := Apart.fresh (Lt.own hW0) hgX
        have hG467 := Ge.fresh hE453 hgX
        have hG468 := Ge.fresh hE454 hgX
        have hE469 := hE453.then hw461
        have hE470 := hE454.then hw461
        have hO471 := hO455.evo0 hw461
        have hO472 := hO456.evo0 hw461
        have hO473 := hO457.evo0 hw461
        have hO474 := hO458.evo0 hw461
        have hO475 := hW0.evo0 hw461
        have hbkX := UnpackIs.back hvs hpa hUX
        obtain ⟨rfl, rfl⟩ := hbkX
        have hulX := upk_len hUX
        refine wl_val rfl (ex_move rfl) ?_
        refine wl_val rfl (ex_extract rfl rfl) ?_
        refine wl_val rfl (ex_extract rfl rfl) ?_
        refine wl_val rfl (ex_assign rfl) ?_
        refine wl_val rfl (ex_assign rfl) ?_
        refine wl_nil (nrm_then ?_)
        refine cw_seq ?_
        refine cw_region ?_
        refine wl_val rfl (ex_move rfl) ?_
        refine wl_call1 (vs := [_]) Tryd.goes17 rfl (unpack_new (rbs (X := []) (own_inBn (s := bsA) (t := [7, 8, 9]) hO475 (by omega) hnA) hbA (fun _ _ => by simp)) (by omega) (ht.evo hE469 (by simp))) rfl ?_
        rintro _ w476 ⟨aY, nY, cY, xY, eY, obY, rfl, hOY, hnY, hxY, hgY, hUY, hw477⟩
        have hA478 := Apart.fresh (Lt.own hO471) hgY
        have hA479 := Apart.fresh (Lt.own hO472) hgY
        have hA480 := Apart.fresh (Lt.own hO473) hgY
        have hA481 := Apart.fresh (Lt.own hO474) hgY
        have hA482 := Apart.fresh (Lt.own hO475) hgY
        have hA483 := Apart.fresh (Lt.own hOX) hgY
        have hG484 := Ge.fresh hE469 hgY
        have hG485 := Ge.fresh hE470 hgY
        have hE486 := hE469.then hw477
        have hE487 := hE470.then hw477
        have hO488 := hO471.evo0 hw477
        have hO489 := hO472.evo0 hw477
        have hO490 := hO473.evo0 hw477
        have hO491 := hO474.evo0 hw477
        have hO492 := hO475.evo0 hw477
        have hO493 := hOX.evo0 hw477
        have hbkY := UnpackIs.back hvs hpa hUY
        obtain ⟨rfl, rfl⟩ := hbkY
        have hulY := upk_len hUY
        refine wl_val rfl (ex_move rfl) ?_
        refine wl_val rfl (ex_extract rfl rfl) ?_
        refine wl_val rfl (ex_extract rfl rfl) ?_
        refine wl_val rfl (ex_assign rfl) ?_
        refine wl_val rfl (ex_assign rfl) ?_
        refine wl_nil (nrm_then ?_)
        refine cw_seq ?_
        refine cw_region ?_
        refine wl_val rfl (ex_move rfl) ?_
        refine wl_val rfl (ex_move rfl) ?_
        refine wl_val rfl (ex_move rfl) ?_
        refine wl_call1 (vs := [_, _, _]) Tryd.goes27 rfl (between_new after upto (rbs (X := []) (own_inBn (s := bsA) (t := [7, 8, 9]) hO492 (by omega) hnA) hbA (fun _ _ => by simp)) (by omega) (ht.evo hE486 (by simp))) rfl ?_
        rintro _ w494 ⟨aU, nU, cU, oU, eU, obU, rfl, hUU, hOU, hnU, hxU, hgU, hw495⟩
        have hA496 := Apart.fresh (Lt.own hO488) hgU
        have hA497 := Apart.fresh (Lt.own hO489) hgU
        have hA498 := Apart.fresh (Lt.own hO490) hgU
        have hA499 := Apart.fresh (Lt.own hO491) hgU
        have hA500 := Apart.fresh (Lt.own hO492) hgU
        have hA501 := Apart.fresh (Lt.own hO493) hgU
        have hA502 := Apart.fresh (Lt.own hOY) hgU
        have hG503 := Ge.fresh hE486 hgU
        have hG504 := Ge.fresh hE487 hgU
        have hE505 := hE486.then hw495
        have hE506 := hE487.then hw495
        have hO507 := hO488.evo0 hw495
        have hO508 := hO489.evo0 hw495
        have hO509 := hO490.evo0 hw495
        have hO510 := hO491.evo0 hw495
        have hO511 := hO492.evo0 hw495
        have hO512 := hO493.evo0 hw495
        have hO513 := hOY.evo0 hw495
        have hbkU := UnpackIs.back hvs hpa hUU
        obtain ⟨rfl, rfl⟩ := hbkU
        have hulU := upk_len hUU
        have hblU := betw_len (after := after) (upto := upto) (l := s.map canon) (s.map canon).length
        rw [List.take_length] at hblU
        refine wl_val rfl (ex_move rfl) ?_
        refine wl_val rfl (ex_extract rfl rfl) ?_
        refine wl_val rfl (ex_extract rfl rfl) ?_
        refine wl_val rfl (ex_assign rfl) ?_
        refine wl_val rfl (ex_assign rfl) ?_
        refine wl_nil (nrm_then ?_)
        refine cw_seq ?_
        refine cw_region ?_
        refine wl_val rfl (ex_move rfl) ?_
        refine wl_val rfl (ex_move rfl) ?_
        refine wl_val rfl (ex_move rfl) ?_
        refine wl_call1 (vs := [_, _, _]) Tryd.goes27 rfl (between_new after upto (rbs (X := []) (own_inBn (s := bsA) (t := [7, 8, 9]) hO511 (by omega) hnA) hbA (fun _ _ => by simp)) (by omega) (ht.evo hE505 (by simp))) rfl ?_
        rintro _ w514 ⟨aV, nV, cV, oV, eV, obV, rfl, hUV, hOV, hnV, hxV, hgV, hw515⟩
        have hA516 := Apart.fresh (Lt.own hO507) hgV
        have hA517 := Apart.fresh (Lt.own hO508) hgV
        have hA518 := Apart.fresh (Lt.own hO509) hgV
        have hA519 := Apart.fresh (Lt.own hO510) hgV
        have hA520 := Apart.fresh (Lt.own hO511) hgV
        have hA521 := Apart.fresh (Lt.own hO512) hgV
        have hA522 := Apart.fresh (Lt.own hO513) hgV
        have hA523 := Apart.fresh (Lt.own hOU) hgV
        have hG524 := Ge.fresh hE505 hgV
        have hG525 := Ge.fresh hE506 hgV
        have hE526 := hE505.then hw515
        have hE527 := hE506.then hw515
        have hO528 := hO507.evo0 hw515
        have hO529 := hO508.evo0 hw515
        have hO530 := hO509.evo0 hw515
        have hO531 := hO510.evo0 hw515
        have hO532 := hO511.evo0 hw515
        have hO533 := hO512.evo0 hw515
        have hO534 := hO513.evo0 hw515
        have hO535 := hOU.evo0 hw515
        have hbkV := UnpackIs.back hvs hpa hUV
        obtain ⟨rfl, rfl⟩ := hbkV
        have hulV := upk_len hUV
        have hblV := betw_len (after := after) (upto := upto) (l := s.map canon) (s.map canon).length
        rw [List.take_length] at hblV
        refine wl_val rfl (ex_move rfl) ?_
        refine wl_val rfl (ex_extract rfl rfl) ?_
        refine wl_val rfl (ex_extract rfl rfl) ?_
        refine wl_val rfl (ex_assign rfl) ?_
        refine wl_val rfl (ex_assign rfl) ?_
        refine wl_nil (nrm_then ?_)
        refine cw_seq ?_
        refine cw_seq ?_
        have hg7 : (bsA ++ [7, 8, 9]).getD nA 0 = 7 := by rw [← hnA]; simp [List.getD_eq_getElem?_getD]
        have hg8 : (bsA ++ [7, 8, 9]).getD (nA + 1) 0 = 8 := by rw [← hnA]; simp [List.getD_eq_getElem?_getD]
        have hg9 : (bsA ++ [7, 8, 9]).getD (nA + 2) 0 = 9 := by rw [← hnA]; simp [List.getD_eq_getElem?_getD]
        obtain ⟨gW, hgW, haW, -⟩ := hO532.cells (by omega)
        refine cw_region ?_
        refine wl_val rfl (ex_move rfl) ?_
        refine wl_val rfl (ex_neq rfl rfl) ?_
        refine wl_val rfl (ex_move rfl) ?_
        refine wl_split (t := 136) rfl (fun hs136 => ?_) (fun hs136 => ?_)
        · skip
          exact absurd rfl hs136
        · skip
          refine wl_go rfl rfl rfl rfl ?_
          refine wl_val rfl (ex_move rfl) ?_
          refine wl_go rfl rfl rfl rfl ?_
          refine wl_val rfl (ex_neq rfl rfl) ?_
          refine wl_val rfl (ex_pick_f rfl rfl) ?_
          refine wl_val rfl (ex_move rfl) ?_
          refine wl_split (t := 140) rfl (fun hs140 => ?_) (fun hs140 => ?_)
          · skip
            exact absurd rfl hs140
          · skip
            refine wl_go rfl rfl rfl rfl ?_
            refine wl_val rfl (ex_move rfl) ?_
            refine wl_go rfl rfl rfl rfl ?_
            refine wl_val rfl (ex_neq rfl rfl) ?_
            refine wl_val rfl (ex_pick_f rfl rfl) ?_
            refine wl_val rfl (ex_move rfl) ?_
            refine wl_split (t := 144) rfl (fun hs144 => ?_) (fun hs144 => ?_)
            · skip
              exact absurd rfl hs144
            · skip
              refine wl_go rfl rfl rfl rfl ?_
              refine wl_val rfl (ex_move rfl) ?_
              refine wl_go rfl rfl rfl rfl ?_
              refine wl_val rfl (ex_neq rfl rfl) ?_
              refine wl_val rfl (ex_pick_f rfl rfl) ?_
              refine wl_val rfl (ex_move rfl) ?_
              refine wl_split (t := 148) rfl (fun hs148 => ?_) (fun hs148 => ?_)
              · skip
                exact absurd rfl hs148
              · skip
                refine wl_go rfl rfl rfl rfl ?_
                refine wl_val rfl (ex_move rfl) ?_
                refine wl_go rfl rfl rfl rfl ?_
                refine wl_val rfl (ex_move rfl) ?_
                refine wl_go rfl rfl rfl rfl ?_
                refine wl_val rfl (ex_len_slice rfl Tryd.underlying24 rfl) ?_
                refine wl_go rfl rfl rfl rfl ?_
                refine wl_val rfl (ex_slice (l := 0) (h := nA) (lv := none) (hv := some ((nA : Nat) : Int)) rfl Tryd.underlying24 Tryd.size5 rfl rfl rfl rfl (Nat.zero_le _) (by omega) (by omega)) ?_
                rw [cut0, Nat.sub_zero, Nat.sub_zero]
                refine wl_go rfl rfl rfl rfl ?_
                refine wl_val rfl (ex_move rfl) ?_
                refine wl_go rfl rfl rfl rfl ?_
                refine wl_call1 (vs := [_, _]) Tryd.goes14 rfl (same_ok (rbs (X := []) (own_inBn (s := bsA) (t := [7, 8, 9]) hO532 (by omega) hnA) hbA (fun _ _ => by simp)) (rbs (X := []) hO531 hbA (fun _ _ => by simp))) rfl ?_
                rintro _ w536 ⟨rfl, hw537⟩
                have hE538 := hE526.then hw537
                have hE539 := hE527.then hw537
                have hO540 := hO528.evo0 hw537
                have hO541 := hO529.evo0 hw537
                have hO542 := hO530.evo0 hw537
                have hO543 := hO531.evo0 hw537
                have hO544 := hO532.evo0 hw537
                have hO545 := hO533.evo0 hw537
                have hO546 := hO534.evo0 hw537
                have hO547 := hO535.evo0 hw537
                have hO548 := hOV.evo0 hw537
                refine wl_go rfl rfl rfl rfl ?_
                refine wl_val rfl (ex_not rfl) ?_
                refine wl_val rfl (ex_pick_f rfl rfl) ?_
                refine wl_val rfl (ex_move rfl) ?_
                refine wl_split (t := 157) rfl (fun hs157 => ?_) (fun hs157 => ?_)
                · skip
                  exact absurd rfl hs157
                · skip
                  refine wl_go rfl rfl rfl rfl ?_
                  refine wl_val rfl (ex_move rfl) ?_
                  refine wl_go rfl rfl rfl rfl ?_
                  refine wl_val rfl (ex_move rfl) ?_
                  refine wl_go rfl rfl rfl rfl ?_
                  refine wl_val rfl (ex_len_slice rfl Tryd.underlying24 rfl) ?_
                  refine wl_go rfl rfl rfl rfl ?_
                  refine wl_val rfl (ex_indexAddrZ (n := nA) (by first | (rw [haW]; done) | (rw [haW]; rfl)) rfl rfl Tryd.elem24 (by omega)) ?_
                  refine wl_go rfl rfl rfl rfl ?_
                  refine wl_val rfl (ex_load1 rfl Tryd.agg5 (own_byte hO544 haW (by simp; omega))) ?_
                  rw [hg7]
                  refine wl_go rfl rfl rfl rfl ?_
                  refine wl_val rfl (ex_neq rfl rfl) ?_
                  refine wl_val rfl (ex_pick_f rfl rfl) ?_
                  refine wl_val rfl (ex_move rfl) ?_
                  refine wl_split (t := 165) rfl (fun hs165 => ?_) (fun hs165 => ?_)
                  · skip
                    exfalso; omega
                  · skip
                    refine wl_go rfl rfl rfl rfl ?_
                    refine wl_val rfl (ex_move rfl) ?_
                    refine wl_go rfl rfl rfl rfl ?_
                    refine wl_val rfl (ex_move rfl) ?_
                    refine wl_go rfl rfl rfl rfl ?_
                    refine wl_val rfl (ex_len_slice rfl Tryd.underlying24 rfl) ?_
                    refine wl_go rfl rfl rfl rfl ?_
                    refine wl_val rfl (ex_add_i64 rfl rfl (by omega) (by omega)) ?_
                    refine wl_go rfl rfl rfl rfl ?_
                    refine wl_val rfl (ex_indexAddrZ (n := nA + 1) (by first | (rw [haW]; done) | (rw [haW]; rfl)) rfl rfl Tryd.elem24 (by omega)) ?_
                    refine wl_go rfl rfl rfl rfl ?_
                    refine wl_val rfl (ex_load1 rfl Tryd.agg5 (own_byte hO544 haW (by simp; omega))) ?_
                    rw [hg8]
                    refine wl_go rfl rfl rfl rfl ?_
                    refine wl_val rfl (ex_neq rfl rfl) ?_
                    refine wl_val rfl (ex_pick_f rfl rfl) ?_
                    refine wl_val rfl (ex_move rfl) ?_
                    refine wl_split (t := 174) rfl (fun hs174 => ?_) (fun hs174 => ?_)
                    · skip
                      exfalso; omega
                    · skip
                      refine wl_go rfl rfl rfl rfl ?_
                      refine wl_val rfl (ex_move rfl) ?_
                      refine wl_go rfl rfl rfl rfl ?_
                      refine wl_val rfl (ex_move rfl) ?_
                      refine wl_go rfl rfl rfl rfl ?_
                      refine wl_val rfl (ex_len_slice rfl Tryd.underlying24 rfl) ?_
                      refine wl_go rfl rfl rfl rfl ?_
                      refine wl_val rfl (ex_add_i64 rfl rfl (by omega) (by omega)) ?_
                      refine wl_go rfl rfl rfl rfl ?_
                      refine wl_val rfl (ex_indexAddrZ (n := nA + 2) (by first | (rw [haW]; done) | (rw [haW]; rfl)) rfl rfl Tryd.elem24 (by omega)) ?_
                      refine wl_go rfl rfl rfl rfl ?_
                      refine wl_val rfl (ex_load1 rfl Tryd.agg5 (own_byte hO544 haW (by simp; omega))) ?_
                      rw [hg9]
                      refine wl_go rfl rfl rfl rfl ?_
                      refine wl_val rfl (ex_neq rfl rfl) ?_
                      refine wl_val rfl (ex_pick_f rfl rfl) ?_
                      refine wl_nil (nrm_then ?_)
                      refine cw_if rfl (fun hc182 => ?_) (fun hc182 => ?_)
                      · skip
                        exfalso; omega
                      · skip
                        refine cw_skip (nrm_then ?_)
                        refine cw_seq ?_
                        refine cw_seq ?_
                        refine cw_region ?_
                        refine wl_val rfl (ex_move rfl) ?_
                        refine wl_val rfl (ex_move rfl) ?_
                        refine wl_call1 (vs := [_, _, _]) Tryd.goes20 rfl (alike_ok (own_smp (X := []) hO545 hnX hxX (fun _ _ => by simp)) (RSl.evo RSmp.pers hE539 hs1) (keep_alike s) (by omega)) rfl ?_
                        rintro _ w549 ⟨rfl, hw550⟩
                        have hE551 := hE538.then hw550
                        have hE552 := hE539.then hw550
                        have hO553 := hO540.evo0 hw550
                        have hO554 := hO541.evo0 hw550
                        have hO555 := hO542.evo0 hw550
                        have hO556 := hO543.evo0 hw550
                        have hO557 := hO544.evo0 hw550
                        have hO558 := hO545.evo0 hw550
                        have hO559 := hO546.evo0 hw550
                        have hO560 := hO547.evo0 hw550
                        have hO561 := hO548.evo0 hw550
                        refine wl_val rfl (ex_notb rfl) ?_
                        refine wl_val rfl (ex_move rfl) ?_
                        refine wl_go rfl rfl rfl rfl ?_
                        refine wl_val rfl (ex_move rfl) ?_
                        refine wl_go rfl rfl rfl rfl ?_
                        refine wl_val rfl (ex_move rfl) ?_
                        refine wl_go rfl rfl rfl rfl ?_
                        refine wl_call1 (vs := [_, _, _]) Tryd.goes20 rfl (alike_ok (own_smp (X := []) hO559 hnY hxY (fun _ _ => by simp)) (RSl.evo RSmp.pers hE552 hs1) (keep_alike s) (by omega)) rfl ?_
                        rintro _ w562 ⟨rfl, hw563⟩
                        have hE564 := hE551.then hw563
                        have hE565 := hE552.then hw563
                        have hO566 := hO553.evo0 hw563
                        have hO567 := hO554.evo0 hw563
                        have hO568 := hO555.evo0 hw563
                        have hO569 := hO556.evo0 hw563
                        have hO570 := hO557.evo0 hw563
                        have hO571 := hO558.evo0 hw563
                        have hO572 := hO559.evo0 hw563
                        have hO573 := hO560.evo0 hw563
                        have hO574 := hO561.evo0 hw563
                        refine wl_go rfl rfl rfl rfl ?_
                        refine wl_val rfl (ex_notb rfl) ?_
                        refine wl_val rfl (ex_pick_f rfl rfl) ?_
                        refine wl_val rfl (ex_move rfl) ?_
                        refine wl_go rfl rfl rfl rfl ?_
                        refine wl_val rfl (ex_move rfl) ?_
                        refine wl_go rfl rfl rfl rfl ?_
                        refine wl_val rfl (ex_move rfl) ?_
                        refine wl_go rfl rfl rfl rfl ?_
                        refine wl_call1 (vs := [_, _, _]) Tryd.goes20 rfl (alike_ok (own_smp (X := []) hO573 hnU hxU (fun _ _ => by simp)) (own_smp (X := []) hO574 hnV hxV (fun _ _ => by simp)) (Alike.refl _ _) (by omega)) rfl ?_
                        rintro _ w575 ⟨rfl, hw576⟩
                        have hE577 := hE564.then hw576
                        have hE578 := hE565.then hw576
                        have hO579 := hO566.evo0 hw576
                        have hO580 := hO567.evo0 hw576
                        have hO581 := hO568.evo0 hw576
                        have hO582 := hO569.evo0 hw576
                        have hO583 := hO570.evo0 hw576
                        have hO584 := hO571.evo0 hw576
                        have hO585 := hO572.evo0 hw576
                        have hO586 := hO573.evo0 hw576
                        have hO587 := hO574.evo0 hw576
                        refine wl_go rfl rfl rfl rfl ?_
                        refine wl_val rfl (ex_notb rfl) ?_
                        refine wl_val rfl (ex_pick_f rfl rfl) ?_
                        refine wl_val rfl (ex_move rfl) ?_
                        refine wl_go rfl rfl rfl rfl ?_
                        refine wl_val rfl (ex_move rfl) ?_
                        refine wl_go rfl rfl rfl rfl ?_
                        refine wl_val rfl (ex_move rfl) ?_
                        refine wl_go rfl rfl rfl rfl ?_
                        refine wl_val rfl (ex_move rfl) ?_
                        refine wl_go rfl rfl rfl rfl ?_
                        refine wl_val rfl (ex_move rfl) ?_
                        refine wl_go rfl rfl rfl rfl ?_
                        refine wl_bslice (vs := [_, _, _, _]) rfl Tryd.slice47 rfl rfl rfl rfl fun b588 w589 hO590 hs591 hw592 => ?_
                        have hA593 := Apart.new (Lt.own hO579) hs591
                        have hA594 := Apart.new (Lt.own hO580) hs591
                        have hA595 := Apart.new (Lt.own hO581) hs591
                        have hA596 := Apart.new (Lt.own hO582) hs591
                        have hA597 := Apart.new (Lt.own hO583) hs591
                        have hA598 := Apart.new (Lt.own hO584) hs591
                        have hA599 := Apart.new (Lt.own hO585) hs591
                        have hA600 := Apart.new (Lt.own hO586) hs591
                        have hA601 := Apart.new (Lt.own hO587) hs591
                        have hG602 := Ge.new hE577 hs591
                        have hG603 := Ge.new hE578 hs591
                        have hE604 := hE577.then hw592
                        have hE605 := hE578.then hw592
                        have hO606 := hO579.evo0 hw592
                        have hO607 := hO580.evo0 hw592
                        have hO608 := hO581.evo0 hw592
                        have hO609 := hO582.evo0 hw592
                        have hO610 := hO583.evo0 hw592
                        have hO611 := hO584.evo0 hw592
                        have hO612 := hO585.evo0 hw592
                        have hO613 := hO586.evo0 hw592
                        have hO614 := hO587.evo0 hw592
                        refine wl_go rfl rfl rfl rfl ?_
                        refine wl_call1 (vs := [_]) Tryd.goes28 rfl (separate_ok (N := 4) (S := (S4 ⟨aX, nX, cX, obX⟩ ⟨aY, nY, cY, obY⟩ ⟨aU, nU, cU, obU⟩ ⟨aV, nV, cV, obV⟩)) (by exact hO590) (fam4 (x := ⟨aX, nX, cX, obX⟩) (y := ⟨aY, nY, cY, obY⟩) (z := ⟨aU, nU, cU, obU⟩) (u := ⟨aV, nV, cV, obV⟩) hO611 hO612 hO613 hO614 hA483 hA501 hA521 hA502 hA522 hA523) (all4 hA598.symm hA599.symm hA600.symm hA601.symm) (all4 (show nX ≤ 1000000000 by omega) (show nY ≤ 1000000000 by omega) (show nU ≤ 1000000000 by omega) (show nV ≤ 1000000000 by omega)) (by omega)) rfl ?_
                        rintro _ w615 ⟨rfl, hw616⟩
                        have hE617 := hE604.step hw616 (fobs_ge (all4 hG467 hG484 hG503 hG524))
                        have hE618 := hE605.step hw616 (fobs_ge (all4 hG468 hG485 hG504 hG525))
                        have hB619 := hO606.evo hw616 (fobs_nmem (all4 hA462 hA478 hA496 hA516))
                        have hB620 := hO607.evo hw616 (fobs_nmem (all4 hA463 hA479 hA497 hA517))
                        have hB621 := hO608.evo hw616 (fobs_nmem (all4 hA464 hA480 hA498 hA518))
                        have hB622 := hO609.evo hw616 (fobs_nmem (all4 hA465 hA481 hA499 hA519))
                        have hB623 := hO610.evo hw616 (fobs_nmem (all4 hA466 hA482 hA500 hA520))
                        refine wl_go rfl rfl rfl rfl ?_
                        refine wl_val rfl (ex_notb rfl) ?_
                        refine wl_val rfl (ex_pick_f rfl rfl) ?_
                        refine wl_val rfl (ex_move rfl) ?_
                        refine wl_go rfl rfl rfl rfl ?_
                        refine wl_val rfl (ex_move rfl) ?_
                        refine wl_go rfl rfl rfl rfl ?_
                        refine wl_val rfl (ex_move rfl) ?_
                        refine wl_go rfl rfl rfl rfl ?_
                        refine wl_bslice (vs := [_, _]) rfl Tryd.slice48 rfl rfl rfl rfl fun b624 w625 hO626 hs627 hw628 => ?_
                        have hA629 := Apart.new (Lt.own hB619) hs627
                        have hA630 := Apart.new (Lt.own hB620) hs627
                        have hA631 := Apart.new (Lt.own hB621) hs627
                        have hA632 := Apart.new (Lt.own hB622) hs627
                        have hA633 := Apart.new (Lt.own hB623) hs627
                        have hG634 := Ge.new hE617 hs627
                        have hG635 := Ge.new hE618 hs627
                        have hE636 := hE617.then hw628
                        have hE637 := hE618.then hw628
                        have hO638 := hB619.evo0 hw628
                        have hO639 := hB620.evo0 hw628
                        have hO640 := hB621.evo0 hw628
                        have hO641 := hB622.evo0 hw628
                        have hO642 := hB623.evo0 hw628
                        refine wl_go rfl rfl rfl rfl ?_
                        refine wl_call1 (vs := [_]) Tryd.goes25 rfl (apart_ok (N := 2) (S := (S4 ⟨aA, nA, cA, obA⟩ ⟨aC, nC, cC, obC⟩ ⟨aC, nC, cC, obC⟩ ⟨aC, nC, cC, obC⟩)) (by exact hO626) (fam2 (x := ⟨aA, nA, cA, obA⟩) (y := ⟨aC, nC, cC, obC⟩) hO639 hO640 hA239) (all2 hA630.symm hA631.symm) (all2 (show nA ≤ 1000000000 by omega) (show nC ≤ 1000000000 by omega)) (by omega)) rfl ?_
                        rintro _ w643 ⟨rfl, hw644⟩
                        have hE645 := hE636.step hw644 (fobs_ge (all2 hG229 hG240))
                        have hE646 := hE637.step hw644 (fobs_ge (all2 hG230 hG241))
                        have hB647 := hO638.evo hw644 (fobs_nmem (all2 hA228 hA238))
                        have hB648 := hO641.evo hw644 (fobs_nmem (all2 hA374.symm hA375.symm))
                        have hB649 := hO642.evo hw644 (fobs_nmem (all2 hA447.symm hA448.symm))
                        refine wl_go rfl rfl rfl rfl ?_
                        refine wl_val rfl (ex_notb rfl) ?_
                        refine wl_val rfl (ex_pick_f rfl rfl) ?_
                        refine wl_nil (nrm_then ?_)
                        refine cw_false rfl ?_
                        refine cw_skip (nrm_then ?_)
                        refine cw_seq ?_
                        refine cw_seq ?_
                        refine cw_region ?_
                        refine wl_val rfl (ex_assign rfl) ?_
                        refine wl_nil (nrm_then ?_)
                        refine cw_block ?_
                        refine cw_loop (α := Nat) (0) (fun k => [(26, .int .i64 (k : Nat))]) [(7, _), (10, _), (15, _), (17, _)] (fun k wr => Evo obf.toList w643 wr ∧ (k ≤ s.length ∧ OwnS wr 41 3 af (0 + s.length + 3) cf (srows (mixL s k)) obf)) (fun k => s.length - k) ⟨rfl, trivial⟩ ⟨rfl, rfl, rfl, rfl, trivial⟩ ⟨Evo.refl _ _, ⟨Nat.zero_le _, hB647⟩⟩ ?_
                        rintro k wr650 ⟨hV651, ⟨hk, hFk⟩⟩
                        show CW _ _ _ _ [(26, _), (7, _), (10, _), (15, _), (17, _)] _
                        have hE652 := hE645.step hV651 (hgfw.mem)
                        have hE653 := hE646.step hV651 (hgfp.mem)
                        have hB654 := hB648.evo hV651 (hA373.symm.own)
                        have hB655 := hB649.evo hV651 (hA446.symm.own)
                        refine cw_seq ?_
                        refine cw_seq ?_
                        refine cw_region ?_
                        refine wl_val rfl (ex_move rfl) ?_
                        refine wl_val rfl (ex_move rfl) ?_
                        refine wl_val rfl (ex_len_slice rfl Tryd.underlying22 rfl) ?_
                        refine wl_val rfl (ex_lss rfl rfl) ?_
                        refine wl_nil (nrm_then ?_)
                        refine cw_if rfl (fun hc218 => ?_) (fun hc218 => ?_)
                        · skip
                          have hk' : k < s.length := by omega
                          refine cw_skip (nrm_then ?_)
                          refine cw_seq ?_
                          refine cw_block ?_
                          obtain ⟨g7, cu7, hg7, ha7, -, -, -⟩ := hFk.at (by omega)
                          obtain ⟨_, b7, o7, hb7', -, hc7⟩ := smp_at (own_smp (X := []) hFk (by rw [mix_len hk]; omega) (mix_ok hso k) (fun _ _ => by simp)) (k := k) (by rw [mix_len hk]; omega)
                          rw [mix_get hk'] at hc7
                          refine cw_any (fun w0 w' => Evo [] w0 w') (by kernel_rfl) (fun w656 hw657 => ?_)
                          have hE658 := hE652.then hw657
                          have hE659 := hE653.then hw657
                          have hE660 := hV651.then hw657
                          have hE661 := (Evo.refl [] wr650).then hw657
                          have hO662 := hB654.evo0 hw657
                          have hO663 := hB655.evo0 hw657
                          have hO664 := hFk.evo0 hw657
                          refine ae_take 0 rfl (by kernel_rfl) (by kernel_rfl) (by kernel_rfl) rfl (fun _ hS => ex_move rfl) (Evo.refl [] w656) ?_
                          refine ae_take 1 rfl (by kernel_rfl) (by kernel_rfl) (by kernel_rfl) rfl (fun _ hS => ex_move rfl) (Evo.refl [] w656) ?_
                          refine ae_take 2 rfl (by kernel_rfl) (by kernel_rfl) (by kernel_rfl) rfl (fun _ hS => ex_move rfl) (Evo.refl [] w656) ?_
                          refine ae_take 3 rfl (by kernel_rfl) (by kernel_rfl) (by kernel_rfl) rfl (fun _ hS => ex_move rfl) (Evo.refl [] w656) ?_
                          refine ae_take 4 rfl (by kernel_rfl) (by kernel_rfl) (by kernel_rfl) rfl (fun _ hS => ex_indexAddr (n := k) (by first | (rw [hb7']; done) | (rw [hb7']; rfl)) rfl Tryd.elem22 (by omega)) (Evo.refl [] w656) ?_
                          refine ae_take 5 rfl (by kernel_rfl) (by kernel_rfl) (by kernel_rfl) rfl (fun _ hS => ex_fieldAddr rfl Tryd.fld41_0) (Evo.refl [] w656) ?_
                          refine ae_take 6 rfl (by kernel_rfl) (by kernel_rfl) (by kernel_rfl) rfl (fun _ hS => ex_load1 rfl Tryd.agg2 ((hc7.evo (hE661.then hS) (by simp)) 0 _ rfl)) (Evo.refl [] w656) ?_
                          refine ae_take 7 rfl (by kernel_rfl) (by kernel_rfl) (by kernel_rfl) rfl (fun _ hS => ex_move rfl) (Evo.refl [] w656) ?_
                          refine ae_take 8 rfl (by kernel_rfl) (by kernel_rfl) (by kernel_rfl) rfl (fun _ hS => ex_move rfl) (Evo.refl [] w656) ?_
                          refine ae_take 9 rfl (by kernel_rfl) (by kernel_rfl) (by kernel_rfl) rfl (fun _ hS => ex_indexAddr (n := k) (by first | (rw [hb7']; done) | (rw [hb7']; rfl)) rfl Tryd.elem22 (by omega)) (Evo.refl [] w656) ?_
                          refine ae_take 10 rfl (by kernel_rfl) (by kernel_rfl) (by kernel_rfl) rfl (fun _ hS => ex_fieldAddr rfl Tryd.fld41_2) (Evo.refl [] w656) ?_
                          refine ae_take 11 rfl (by kernel_rfl) (by kernel_rfl) (by kernel_rfl) rfl (fun _ hS => ex_load1 rfl Tryd.agg4 ((hc7.evo (hE661.then hS) (by simp)) 2 _ rfl)) (Evo.refl [] w656) ?_
                          refine ae_take 12 rfl (by kernel_rfl) (by kernel_rfl) (by kernel_rfl) rfl (fun _ hS => ex_notb rfl) (Evo.refl [] w656) ?_
                          refine ae_take 13 rfl (by kernel_rfl) (by kernel_rfl) (by kernel_rfl) rfl (fun _ hS => ex_build (vs := [(0, _), (1, _), (2, _)]) Tryd.build41 rfl (cells := [_, _, _]) rfl) (Evo.refl [] w656) ?_
                          refine ae_take 14 rfl (by kernel_rfl) (by kernel_rfl) (by kernel_rfl) rfl (fun _ hS => ex_indexAddr (n := k) (by first | (rw [ha7]; done) | (rw [ha7]; rfl)) rfl Tryd.elem22 (by omega)) (Evo.refl [] w656) ?_
                          refine ae_loud [15] (by kernel_rfl) rfl ⟨?_, trivial⟩
                          refine a_step rfl ?_
                          obtain ⟨g6, cu6, hg6, ha6, hcu6, hcs6, -⟩ := hO664.at (by omega)
                          obtain rfl : g6 = g7 := Option.some.inj (hg6.symm.trans hg7)
                          refine wl_storeG (n := 3) rfl rfl Tryd.size41 rfl (fun u hu => mkrow_one (flp s[k]) u hu) hcu6 (inbN hO664 hcs6 (by omega)) fun w7 hb7 hw7 => ?_
                          replace hw7 := evo_ob hg6 hw7
                          have hF7 := OwnS.put (k := k) (vs := srow (flp s[k])) hO664 hg6 hcu6 (by omega) (by omega) rfl hb7
                          rw [mix_put hk'] at hF7
                          have hE665 := hE658.step hw7 hgfw.mem
                          have hE666 := hE659.step hw7 hgfp.mem
                          have hE667 := hE660.step hw7 (by intro y hy; left; simpa using hy)
                          have hO670 := hO662.evo hw7 hA373.symm.own
                          have hO671 := hO663.evo hw7 hA446.symm.own
                          refine wl_nil (ae_next (.inr (by kernel_rfl)) ?_)
                          refine ae_done (by kernel_rfl) (nrm_block (nrm_then ?_))
                          refine cw_region ?_
                          refine wl_val rfl (ex_move rfl) ?_
                          refine wl_val rfl (ex_add_i64 rfl rfl (by omega) (by omega)) ?_
                          refine wl_val rfl (ex_assign rfl) ?_
                          refine wl_nil (nrm_then ?_)
                          refine ⟨k + 1, ?_, ⟨rfl, trivial⟩, ⟨rfl, rfl, rfl, rfl, trivial⟩, hE667, ?_⟩
                          · omega
                          · skip
                            exact ⟨by omega, hF7⟩
                        · skip
                          have hks : k = s.length := by omega
                          subst hks
                          have hvf := flp_valid hvs
                          refine cw_exit (ex_then (ex_then (ex_here (nrm_then ?_))))
                          refine cw_seq ?_
                          refine cw_region ?_
                          refine wl_bslice (vs := []) rfl Tryd.slice22 rfl rfl rfl rfl fun b672 w673 hO674 hs675 hw676 => ?_
                          have hA677 := Apart.new (Lt.own hB654) hs675
                          have hA678 := Apart.new (Lt.own hB655) hs675
                          have hA679 := Apart.new (Lt.own hFk) hs675
                          have hG680 := Ge.new hE652 hs675
                          have hG681 := Ge.new hE653 hs675
                          have hG682 := Ge.new hV651 hs675
                          have hE683 := hE652.then hw676
                          have hE684 := hE653.then hw676
                          have hE685 := hV651.then hw676
                          have hO686 := hB654.evo0 hw676
                          have hO687 := hB655.evo0 hw676
                          have hO688 := hFk.evo0 hw676
                          refine wl_val rfl (ex_move rfl) ?_
                          refine wl_append rfl rfl rfl rfl Tryd.app22_22 hO674 (src_smp (own_smp (X := []) (own_inn (s := s.map flp) (t := [m3, m3, m3]) (m := s.length) (by rw [← mix_all]; exact hO688) (by omega) (by simp)) (by simp) hvf.ok (fun _ _ => by simp))) (by rw [List.length_map]; omega) fun aN cN w691 obN hON hw694 hob695 => ?_
                          have hA696 := hA677.app (Lt.own hO686) hob695
                          have hA697 := hA678.app (Lt.own hO687) hob695
                          have hA698 := hA679.app (Lt.own hO688) hob695
                          have hG699 := hG680.app hE683 hob695
                          have hG700 := hG681.app hE684 hob695
                          have hG701 := hG682.app hE685 hob695
                          have hE702 := hE683.step hw694 hG680.mem
                          have hE703 := hE684.step hw694 hG681.mem
                          have hE704 := hE685.step hw694 hG682.mem
                          have hO705 := hO686.evo hw694 hA677.own
                          have hO706 := hO687.evo hw694 hA678.own
                          have hO707 := hO688.evo hw694 hA679.own
                          refine wl_val rfl (ex_assign rfl) ?_
                          refine wl_nil (nrm_then ?_)
                          refine cw_seq ?_
                          refine cw_region ?_
                          refine wl_val rfl (ex_move rfl) ?_
                          refine wl_call1 (vs := [_]) Tryd.goes13 rfl (pack_new (own_smp (X := []) (own_inn (s := s.map flp) (t := [m3, m3, m3]) (m := s.length) (by rw [← mix_all]; exact hO707) (by omega) (by simp)) (by simp) hvf.ok (fun _ _ => by simp)) (by rw [List.length_map]; omega) (ht.evo hE702 (by simp))) rfl ?_
                          rintro _ w708 ⟨ap, np, cp, bsp, ep, obp, rfl, hOp, hbp, hgp, hPp, hw709⟩
                          have hA710 := Apart.fresh (Lt.own hO705) hgp
                          have hA711 := Apart.fresh (Lt.own hO706) hgp
                          have hA712 := Apart.fresh (Lt.own hO707) hgp
                          have hA713 := Apart.fresh (Lt.own hON) hgp
                          have hG714 := Ge.fresh hE702 hgp
                          have hG715 := Ge.fresh hE703 hgp
                          have hG716 := Ge.fresh hE704 hgp
                          have hE717 := hE702.then hw709
                          have hE718 := hE703.then hw709
                          have hE719 := hE704.then hw709
                          have hO720 := hO705.evo0 hw709
                          have hO721 := hO706.evo0 hw709
                          have hO722 := hO707.evo0 hw709
                          have hO723 := hON.evo0 hw709
                          obtain ⟨rfl, hpp⟩ := pack_val hvf hPp
                          refine wl_val rfl (ex_move rfl) ?_
                          refine wl_val rfl (ex_extract rfl rfl) ?_
                          refine wl_val rfl (ex_extract rfl rfl) ?_
                          refine wl_val rfl (ex_assign rfl) ?_
                          refine wl_val rfl (ex_assign rfl) ?_
                          refine wl_nil (nrm_then ?_)
                          refine cw_seq ?_
                          refine cw_region ?_
                          refine wl_val rfl (ex_move rfl) ?_
                          refine wl_call1 (vs := [_]) Tryd.goes13 rfl (pack_new (own_smp (X := []) (l := s.map flp) hO723 (by simp) hvf.ok (fun _ _ => by simp)) (by rw [List.length_map]; omega) (ht.evo hE717 (by simp))) rfl ?_
                          rintro _ w724 ⟨aq, nq, cq, bsq, eq, obq, rfl, hOq, hbq, hgq, hPq, hw725⟩
                          have hA726 := Apart.fresh (Lt.own hO720) hgq
                          have hA727 := Apart.fresh (Lt.own hO721) hgq
                          have hA728 := Apart.fresh (Lt.own hO722) hgq
                          have hA729 := Apart.fresh (Lt.own hO723) hgq
                          have hA730 := Apart.fresh (Lt.own hOp) hgq
                          have hG731 := Ge.fresh hE717 hgq
                          have hG732 := Ge.fresh hE718 hgq
                          have hG733 := Ge.fresh hE719 hgq
                          have hE734 := hE717.then hw725
                          have hE735 := hE718.then hw725
                          have hE736 := hE719.then hw725
                          have hO737 := hO720.evo0 hw725
                          have hO738 := hO721.evo0 hw725
                          have hO739 := hO722.evo0 hw725
                          have hO740 := hO723.evo0 hw725
                          have hO741 := hOp.evo0 hw725
                          obtain ⟨rfl, hpq⟩ := pack_val hvf hPq
                          obtain rfl : bsp = bsq := PacksN.uniq hpp hpq
                          refine wl_val rfl (ex_move rfl) ?_
                          refine wl_val rfl (ex_extract rfl rfl) ?_
                          refine wl_val rfl (ex_extract rfl rfl) ?_
                          refine wl_val rfl (ex_assign rfl) ?_
                          refine wl_val rfl (ex_assign rfl) ?_
                          refine wl_nil (nrm_then ?_)
                          refine cw_seq ?_
                          refine cw_seq ?_
                          refine cw_region ?_
                          refine wl_val rfl (ex_assign rfl) ?_
                          refine wl_nil (nrm_then ?_)
                          refine cw_block ?_
                          refine cw_loop (α := Nat) (0) (fun j => [(32, .int .i64 (j : Nat))]) [(7, _), (15, _), (17, _), (28, _), (30, _)] (fun j wr => Evo obW.toList w724 wr ∧ (j ≤ bsA.length ∧ OwnS wr 5 1 aW (0 + nA + 3) cW ((zlB bsA j).map bv) obW)) (fun j => bsA.length - j) ⟨rfl, trivial⟩ ⟨rfl, rfl, rfl, rfl, rfl, trivial⟩ ⟨Evo.refl _ _, ⟨Nat.zero_le _, by rw [zl_zero]; exact hO738⟩⟩ ?_
                          rintro j wr742 ⟨hV743, ⟨hj, hWj⟩⟩
                          show CW _ _ _ _ [(32, _), (7, _), (15, _), (17, _), (28, _), (30, _)] _
                          have hE744 := hE734.step hV743 (hG451.mem)
                          have hE745 := hE735.step hV743 (hG452.mem)
                          have hB746 := hO737.evo hV743 (hA449.own)
                          have hB747 := hO739.evo hV743 (hA446.own)
                          have hB748 := hO740.evo hV743 (hA697.symm.own)
                          have hB749 := hO741.evo hV743 (hA711.symm.own)
                          have hB750 := hOq.evo hV743 (hA727.symm.own)
                          refine cw_seq ?_
                          refine cw_seq ?_
                          refine cw_region ?_
                          refine wl_val rfl (ex_move rfl) ?_
                          refine wl_val rfl (ex_move rfl) ?_
                          refine wl_val rfl (ex_len_slice rfl Tryd.underlying24 rfl) ?_
                          refine wl_val rfl (ex_lss rfl rfl) ?_
                          refine wl_nil (nrm_then ?_)
                          refine cw_if rfl (fun hc252 => ?_) (fun hc252 => ?_)
                          · skip
                            have hj' : j < bsA.length := by omega
                            refine cw_skip (nrm_then ?_)
                            refine cw_seq ?_
                            refine cw_block ?_
                            refine cw_region ?_
                            refine wl_val rfl (ex_move rfl) ?_
                            refine wl_val rfl (ex_move rfl) ?_
                            refine wl_val rfl (ex_indexAddr (n := j) (by first | (rw [haW]; done) | (rw [haW]; rfl)) rfl Tryd.elem24 (by omega)) ?_
                            obtain ⟨g760, cur751, hg752, hx753, hcu754, hcs755, -⟩ := hWj.at (by omega)
                            rw [haW] at hx753; cases hx753
                            refine wl_store1L rfl rfl (rfl) Tryd.size5 hcu754 (hWj.inb hcs755 (k := j) (j := 0) (by omega) (by omega) (by omega)) fun w756 hB757 hw758 => ?_
                            replace hw758 := evo_ob hg752 hw758
                            have hO759 := hWj.set' hg752 hcu754 hB757
                            have hE761 := hE744.step hw758 hG451.mem
                            have hE762 := hE745.step hw758 hG452.mem
                            have hE763 := hV743.step hw758 (by intro y hy; left; simpa using hy)
                            have hO764 := hB746.evo hw758 hA449.own
                            have hO765 := hB747.evo hw758 hA446.own
                            have hO766 := hB748.evo hw758 hA697.symm.own
                            have hO767 := hB749.evo hw758 hA711.symm.own
                            have hO768 := hB750.evo hw758 hA727.symm.own
                            refine wl_nil (nrm_block (nrm_then ?_))
                            refine cw_region ?_
                            refine wl_val rfl (ex_move rfl) ?_
                            refine wl_val rfl (ex_add_i64 rfl rfl (by omega) (by omega)) ?_
                            refine wl_val rfl (ex_assign rfl) ?_
                            refine wl_nil (nrm_then ?_)
                            refine ⟨j + 1, ?_, ⟨rfl, trivial⟩, ⟨rfl, rfl, rfl, rfl, rfl, trivial⟩, hE763, ?_⟩
                            · omega
                            · skip
                              have h := hO759
                              refine ⟨by omega, ?_⟩
                              rw [← zl_set (by omega), ← set_byte]
                              rw [show 0 + j * 1 = j by omega] at h
                              exact h
                          · skip
                            have hjs : j = bsA.length := by omega
                            subst hjs
                            refine cw_exit (ex_then (ex_then (ex_here (nrm_then ?_))))
                            refine cw_seq ?_
                            refine cw_region ?_
                            refine wl_val rfl (ex_move rfl) ?_
                            refine wl_call1 (vs := [_]) Tryd.goes17 rfl (unpack_ok (rbs (X := []) (own_inBn (s := List.replicate bsA.length 0) (t := [7, 8, 9]) (m := nA) (by rw [← zl_all]; exact hWj) (by omega) (by rw [List.length_replicate, hnA])) (fun b hb => by rw [(List.mem_replicate.1 hb).2]; omega) (fun _ _ => by simp)) (by simp; omega) (ht.evo hE744 (by simp))) rfl ?_
                            rintro _ w769 ⟨vz, oz, ez, rfl, hsz, hUz, hw770⟩
                            have hE771 := hE744.then hw770
                            have hE772 := hE745.then hw770
                            have hE773 := hV743.then hw770
                            have hO774 := hB746.evo0 hw770
                            have hO775 := hB747.evo0 hw770
                            have hO776 := hB748.evo0 hw770
                            have hO777 := hB749.evo0 hw770
                            have hO778 := hB750.evo0 hw770
                            have hO779 := hWj.evo0 hw770
                            have hez := unp_zeros hUz
                            refine wl_val rfl (ex_move rfl) ?_
                            refine wl_val rfl (ex_extract rfl rfl) ?_
                            refine wl_val rfl (ex_extract rfl rfl) ?_
                            refine wl_val rfl (ex_assign rfl) ?_
                            refine wl_val rfl (ex_assign rfl) ?_
                            refine wl_nil (nrm_then ?_)
                            refine cw_seq ?_
                            refine cw_region ?_
                            refine wl_val rfl (ex_move rfl) ?_
                            refine wl_val rfl (ex_move rfl) ?_
                            refine wl_call1 (vs := [_, _]) Tryd.goes14 rfl (same_ok (rbs (X := []) hO777 hbp (fun _ _ => by simp)) (rbs (X := []) hO778 hbp (fun _ _ => by simp))) rfl ?_
                            rintro _ w780 ⟨rfl, hw781⟩
                            have hE782 := hE771.then hw781
                            have hE783 := hE772.then hw781
                            have hE784 := hE773.then hw781
                            have hO785 := hO774.evo0 hw781
                            have hO786 := hO775.evo0 hw781
                            have hO787 := hO776.evo0 hw781
                            have hO788 := hO777.evo0 hw781
                            have hO789 := hO778.evo0 hw781
                            have hO790 := hO779.evo0 hw781
                            refine wl_val rfl (ex_move rfl) ?_
                            refine wl_split (t := 266) rfl (fun hs266 => ?_) (fun hs266 => ?_)
                            · skip
                              refine wl_go rfl rfl rfl rfl ?_
                              refine wl_val rfl (ex_move rfl) ?_
                              refine wl_go rfl rfl rfl rfl ?_
                              refine wl_val rfl (ex_len_slice rfl Tryd.underlying22 rfl) ?_
                              refine wl_go rfl rfl rfl rfl ?_
                              refine wl_val rfl (ex_eql rfl rfl) ?_
                              refine wl_go rfl rfl rfl rfl ?_
                              refine wl_val rfl (ex_move rfl) ?_
                              refine wl_split (t := 270) rfl (fun hs270 => ?_) (fun hs270 => ?_)
                              · skip
                                refine wl_no rfl rfl rfl rfl rfl rfl ?_
                                refine wl_no rfl rfl rfl rfl rfl rfl ?_
                                refine wl_no rfl rfl rfl rfl rfl rfl ?_
                                refine wl_no rfl rfl rfl rfl rfl rfl ?_
                                refine wl_go rfl rfl rfl rfl ?_
                                refine wl_val rfl (ex_pick_t rfl rfl) ?_
                                refine wl_val rfl (ex_pick_t rfl rfl) ?_
                                refine wl_val rfl (ex_move rfl) ?_
                                refine wl_go rfl rfl rfl rfl ?_
                                refine wl_val rfl (ex_move rfl) ?_
                                refine wl_go rfl rfl rfl rfl ?_
                                refine wl_val rfl (ex_eql rfl rfl) ?_
                                refine wl_go rfl rfl rfl rfl ?_
                                refine wl_val rfl (ex_move rfl) ?_
                                refine wl_go rfl rfl rfl rfl ?_
                                refine wl_val rfl (ex_len_slice rfl Tryd.underlying24 rfl) ?_
                                refine wl_go rfl rfl rfl rfl ?_
                                refine wl_val rfl (ex_neq rfl rfl) ?_
                                refine wl_go rfl rfl rfl rfl ?_
                                refine wl_val rfl (ex_eqb rfl rfl Tryd.underlying4) ?_
                                refine wl_val rfl (ex_pick_t rfl rfl) ?_
                                refine wl_val rfl (ex_assign rfl) ?_
                                refine wl_nil (nrm_then ?_)
                                refine cw_ret (body_ret1 rfl rfl ?_)
                                have hfin : ez = 171 ↔ ¬ (nA : Int) = 3 := ⟨fun h => by have := hez.1 h; omega, fun h => hez.2 (by omega)⟩
                                exact ⟨congrArg Value.bool (decide_eq_true hfin), hE782⟩
                              · skip
                                refine wl_go rfl rfl rfl rfl ?_
                                refine wl_val rfl (ex_move rfl) ?_
                                refine wl_go rfl rfl rfl rfl ?_
                                refine wl_val rfl (ex_move rfl) ?_
                                refine wl_go rfl rfl rfl rfl ?_
                                refine wl_call1 (vs := [_, _]) Tryd.goes14 rfl (same_ok (rbs (X := []) hO788 hbp (fun _ _ => by simp)) (rbs (X := []) hO785 hbA (fun _ _ => by simp))) rfl ?_
                                rintro _ w791 ⟨rfl, hw792⟩
                                have hE793 := hE782.then hw792
                                have hE794 := hE783.then hw792
                                have hE795 := hE784.then hw792
                                have hO796 := hO785.evo0 hw792
                                have hO797 := hO786.evo0 hw792
                                have hO798 := hO787.evo0 hw792
                                have hO799 := hO788.evo0 hw792
                                have hO800 := hO789.evo0 hw792
                                have hO801 := hO790.evo0 hw792
                                refine wl_go rfl rfl rfl rfl ?_
                                refine wl_val rfl (ex_not rfl) ?_
                                refine wl_go rfl rfl rfl rfl ?_
                                refine wl_val rfl (ex_pick_f rfl rfl) ?_
                                refine wl_val rfl (ex_pick_t rfl rfl) ?_
                                refine wl_val rfl (ex_move rfl) ?_
                                refine wl_split (t := 277) rfl (fun hs277 => ?_) (fun hs277 => ?_)
                                · skip
                                  refine wl_go rfl rfl rfl rfl ?_
                                  refine wl_val rfl (ex_move rfl) ?_
                                  refine wl_go rfl rfl rfl rfl ?_
                                  refine wl_val rfl (ex_eql rfl rfl) ?_
                                  refine wl_go rfl rfl rfl rfl ?_
                                  refine wl_val rfl (ex_move rfl) ?_
                                  refine wl_go rfl rfl rfl rfl ?_
                                  refine wl_val rfl (ex_len_slice rfl Tryd.underlying24 rfl) ?_
                                  refine wl_go rfl rfl rfl rfl ?_
                                  refine wl_val rfl (ex_neq rfl rfl) ?_
                                  refine wl_go rfl rfl rfl rfl ?_
                                  refine wl_val rfl (ex_eqb rfl rfl Tryd.underlying4) ?_
                                  refine wl_val rfl (ex_pick_t rfl rfl) ?_
                                  refine wl_val rfl (ex_assign rfl) ?_
                                  refine wl_nil (nrm_then ?_)
                                  refine cw_ret (body_ret1 rfl rfl ?_)
                                  have hfin : ez = 171 ↔ ¬ (nA : Int) = 3 := ⟨fun h => by have := hez.1 h; omega, fun h => hez.2 (by omega)⟩
                                  exact ⟨congrArg Value.bool (decide_eq_true hfin), hE793⟩
                                · skip
                                  refine wl_no rfl rfl rfl rfl rfl rfl ?_
                                  refine wl_no rfl rfl rfl rfl rfl rfl ?_
                                  refine wl_no rfl rfl rfl rfl rfl rfl ?_
                                  refine wl_no rfl rfl rfl rfl rfl rfl ?_
                                  refine wl_no rfl rfl rfl rfl rfl rfl ?_
                                  refine wl_no rfl rfl rfl rfl rfl rfl ?_
                                  refine wl_val rfl (ex_pick_f rfl rfl) ?_
                                  refine wl_val rfl (ex_assign rfl) ?_
                                  refine wl_nil (nrm_then ?_)
                                  refine cw_ret (body_ret1 rfl rfl ?_)
                                  exact absurd hs277 (fun h => h (flip_ne hvs (by omega) hpa hpp))
                            · skip
                              refine wl_no rfl rfl rfl rfl rfl rfl ?_
                              refine wl_no rfl rfl rfl rfl rfl rfl ?_
                              refine wl_no rfl rfl rfl rfl rfl rfl ?_
                              refine wl_no rfl rfl rfl rfl rfl rfl ?_
                              refine wl_nou rfl rfl rfl rfl rfl ?_
                              refine wl_nou rfl rfl rfl rfl rfl ?_
                              refine wl_nou rfl rfl rfl rfl rfl ?_
                              refine wl_nou rfl rfl rfl rfl rfl ?_
                              refine wl_no rfl rfl rfl rfl rfl rfl ?_
                              refine wl_val rfl (ex_pick_f rfl rfl) ?_
                              refine wl_val rfl (ex_move rfl) ?_
                              refine wl_no rfl rfl rfl rfl rfl rfl ?_
                              refine wl_no rfl rfl rfl rfl rfl rfl ?_
                              refine wl_no rfl rfl rfl rfl rfl rfl ?_
                              refine wl_no rfl rfl rfl rfl rfl rfl ?_
                              refine wl_no rfl rfl rfl rfl rfl rfl ?_
                              refine wl_no rfl rfl rfl rfl rfl rfl ?_
                              refine wl_val rfl (ex_pick_f rfl rfl) ?_
                              refine wl_val rfl (ex_assign rfl) ?_
                              refine wl_nil (nrm_then ?_)
                              refine cw_ret (body_ret1 rfl rfl ?_)
                              exact absurd rfl hs266

set_option maxRecDepth 100000 in
theorem contract (H : Type) (enc : TypeId × Value → H) (W : World) (base : Nat) (args : Array Value) (ds gs : List (DataW H)) (before : List MemPlace)
    (hval : ∀ (j : Nat) t v, Tryd.f8.params[j]? = some t → args[j]? = some v → Value.okWide Tryd.prog W .any base t v)
    (hW : DataW.Whole enc Tryd.prog Tryd.f8.params.toList Rows.chunkKeepsSpec.vars false W args.toList ds gs before)
    (hsz : (DataW.weightsEach Tryd.prog (Tryd.f8.params.toList ++ Rows.chunkKeepsSpec.plain.varTypes Tryd.prog) (ds ++ gs)).all (· ≤ reachBytes) = true) (hL : laidMetH Tryd.prog laidL W) :
    Calls Tryd.prog 8 args W fun e W' => ∃ v, e = .returned v ∧ Rows.chunkKeepsSpec.post enc Tryd.prog Tryd.f8 false true false false W args v W' := by
  have hW' := hW
  obtain ⟨p, q, hA0, hV, rfl, hfz, hnd⟩ := hW
  have hA : DataW.TrodAll enc Tryd.prog W 0 (fun _ => true) true Tryd.f8.params.toList args.toList ds p := hA0
  rw [Tryd.params8] at hA hval hsz
  obtain ⟨v0, vs0, d0, ds0, p0, q0, hargs0, rfl, rfl, h0, r0⟩ := trodAll_cons hA
  obtain ⟨v1, vs1, d1, ds1, p1, q1, hargs1, rfl, rfl, h1, r1⟩ := trodAll_cons r0
  obtain ⟨v2, vs2, d2, ds2, p2, q2, hargs2, rfl, rfl, h2, r2⟩ := trodAll_cons r1
  obtain ⟨hn1, rfl, rfl⟩ := trodAll_nil r2
  subst hn1
  subst hargs2
  subst hargs1
  obtain rfl : args = #[v0, v1, v2] := by cases args; simp_all
  obtain ⟨rfl, rfl⟩ := trodVars_none hV
  have k0 := h0
  have k1 := h1
  have k2 := h2
  obtain ⟨l0, hs0, hb0⟩ := came Tryd.underlying22 opens22 (hval 0 22 _ rfl rfl) h0 (fun n hn => by have := List.all_eq_true.1 hsz n (DataW.weights_mem_each (j := 0) rfl rfl n hn); simpa using this)
  obtain ⟨n1, rfl, rfl, rfl, hr1⟩ := open_int Tryd.underlying2 (hval 1 2 _ rfl rfl) h1
  obtain ⟨n2, rfl, rfl, rfl, hr2⟩ := open_int Tryd.underlying2 (hval 2 2 _ rfl rfl) h2
  have hT : Tab W := table hL
  refine (walk_ok (after := n1) (upto := n2) hs0 hb0 hT).mono fun e W' ⟨v, he, hv, bel⟩ => ?_
  subst he hv
  exact ⟨_, rfl, _, _, _, [], _, [], hW', trodAll_mk1 (shut_bool Tryd.underlying4 _), (trodAll_cons_mk (Below.trod laidOut (by kernel_rfl) (of_decide_eq_true (by kernel_rfl)) k0 bel.below (trod_lt k0)) (trodAll_cons_mk (Below.trod laidOut (by kernel_rfl) (of_decide_eq_true (by kernel_rfl)) k1 bel.below (trod_lt k1)) (trodAll_cons_mk (Below.trod laidOut (by kernel_rfl) (of_decide_eq_true (by kernel_rfl)) k2 bel.below (trod_lt k2)) trodAll_mk0))), rfl, bel.below.frame _, fun h => by cases h⟩
theorem laid_met (os : Os) : laidMet Tryd.prog laidL ((laidWorld os #[]).forCall (fun _ _ => 0) ⟨#[], #[.slice none 0 0, .int .i64 0, .int .i64 0], []⟩).memory :=
  laidMet_of_run' 8 (by kernel_rfl) (by kernel_rfl)
theorem reads (os : Os) {H : Type} (enc : TypeId × Value → H) : ∃ places, DataW.whole enc Tryd.prog ((laidWorld os #[]).forCall (fun _ _ => 0) ⟨#[], #[.slice none 0 0, .int .i64 0, .int .i64 0], []⟩).memory Tryd.f8.params.toList Rows.chunkKeepsSpec.vars false (#[.slice none 0 0, .int .i64 0, .int .i64 0] : Array Value).toList 8 = some ([.nil, .lit (.int .i64 0), .lit (.int .i64 0)], [], places) :=
  ⟨[], by kernel_rfl⟩
set_option maxRecDepth 100000 in
theorem lifted (os : Os) (started : os.Started) (H : Type) (enc : TypeId × Value → H) (F : Stop.Interp) :
    ReturnsInHanded {} Tryd.checked os 8 .any ((OpenSpec.ofChange Rows.chunkKeepsSpec).preRow enc Tryd.prog Tryd.f8 Rows.chunkKeepsRow.domain false Rows.chunkKeepsRow.laid) (((OpenSpec.ofChange Rows.chunkKeepsSpec).at F).post enc Tryd.prog Tryd.f8 false true false false) := by
  obtain ⟨places, hx⟩ := reads os enc
  refine returnsInHanded_of_row (C := Tryd.checked) (s := OpenSpec.ofChange Rows.chunkKeepsSpec) own started (by kernel_rfl) Tryd.func8
    (witness_row_at (enc := enc) (C := Tryd.checked) false (laidWorld os #[]) #[.slice none 0 0, .int .i64 0, .int .i64 0] rfl (by kernel_rfl) (by kernel_rfl) (by kernel_rfl)
      (OpenSpec.preRow_of_cond 8 hx (by kernel_rfl) (fun k hk => by cases hk) (by kernel_rfl) (laid_met os))) ?_
  intro W base args ds gs before hval hW _ _ hsz hL _ _
  exact contract H enc W base args ds gs before hval hW hsz hL
theorem said : Rows.ChunkKeepsSaid :=
  OpenClaim.holds_of_cond 8 Tryd.f8 rfl rfl rfl rfl rfl rfl rfl ⟨rfl, rfl, rfl, rfl, rfl⟩ rfl rfl rfl rfl rfl (by kernel_rfl) Tryd.func8 (by kernel_rfl)
    (of_decide_eq_true (by kernel_rfl)) (by unfold Func.isWrapper; first | (rw [if_pos (by decide +kernel)]; kernel_rfl) | (rw [if_neg (by decide +kernel)]; exact ⟨rfl, rfl⟩))
    (fun os started H enc _ F => by rw [OpenClaim.pre_eq_preRow]; exact lifted os started H enc F)
theorem plain (f : FuncId) (fn : Func) (hf : Tryd.pinned.checked.prog.funcNamed "weir/weirlaw17.ChunkKeeps" = some f) (hfn : Tryd.pinned.checked.prog.funcs[f]? = some fn) :
    false = Tryd.pinned.checked.prog.looks [] ∧ ∀ (j : Nat) t, fn.params[j]? = some t → Tryd.pinned.checked.prog.wantsStandIn t = false := by
  obtain rfl : f = 8 := Option.some.inj ((show Tryd.prog.funcNamed "weir/weirlaw17.ChunkKeeps" = some 8 by kernel_rfl).symm.trans hf) |>.symm
  obtain rfl : fn = Tryd.f8 := (Option.some.inj (Tryd.func8.symm.trans hfn)).symm
  refine ⟨looks_off, fun j t ht => ?_⟩
  rw [Tryd.params8] at ht
  rcases j with _ | _ | _ | j
  · obtain rfl : t = 22 := by simpa using ht.symm
    exact (show Tryd.prog.wantsStandIn 22 = false by kernel_rfl)
  · obtain rfl : t = 2 := by simpa using ht.symm
    exact (show Tryd.prog.wantsStandIn 2 = false by kernel_rfl)
  · obtain rfl : t = 2 := by simpa using ht.symm
    exact (show Tryd.prog.wantsStandIn 2 = false by kernel_rfl)
  · simp at ht

theorem chunkKeeps_card : Rows.ChunkKeepsCardSaid :=
  Claim7.holds_tied_plain_at .later [] _ _ _ _ said (fun _ h => by cases h) (by kernel_rfl) (fun _ h => by cases h) chunkKeeps_row_tie rfl ⟨rfl, rfl⟩ (by kernel_rfl) rfl plain (by kernel_rfl)
#print axioms chunkKeeps_card

end Go.Proofs.YtclmkppiolfgbaaDoor
