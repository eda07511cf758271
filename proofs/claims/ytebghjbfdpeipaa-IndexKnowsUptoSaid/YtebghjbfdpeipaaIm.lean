/- The walk of the law IndexLists. -/
import Derived.Test.YtebghjbfdpeipaaIk
namespace Go.Proofs.Ytebghjbfdpeipaa
open Go.Proofs
open Go.W
attribute [local irreducible] Decidable.decide
set_option linter.unusedSimpArgs false
set_option linter.unusedVariables false
theorem Try.goes10 : Goes Try.prog 10 := ⟨_, Try.func10, by kernel_rfl, by kernel_rfl⟩
theorem Try.goes11 : Goes Try.prog 11 := ⟨_, Try.func11, by kernel_rfl, by kernel_rfl⟩
theorem Try.goes5 : Goes Try.prog 5 := ⟨_, Try.func5, by kernel_rfl, by kernel_rfl⟩
theorem Try.goes6 : Goes Try.prog 6 := ⟨_, Try.func6, by kernel_rfl, by kernel_rfl⟩
theorem Try.goes7 : Goes Try.prog 7 := ⟨_, Try.func7, by kernel_rfl, by kernel_rfl⟩
theorem Try.goes9 : Goes Try.prog 9 := ⟨_, Try.func9, by kernel_rfl, by kernel_rfl⟩


theorem same_tt {X Y : List Nat} {w : World} {v1 v2 : Value} {d1 d2 : List Int} (h1 : RSl 1 RZ X w v1 d1) (h2 : RSl 1 RZ Y w v2 d2) (hl : d1.length ≤ 140737488355328) (he : d1 = d2) : Calls Try.prog 5 #[v1, v2] w (Ret fun v w' => v = .bool true ∧ Evo [] w w') := by
  subst he
  exact (same_ok h1 h2 hl hl).mono fun _ _ ⟨v, he, hv, hw⟩ => ⟨v, he, by rw [hv, decide_eq_true rfl], hw⟩
theorem own_part {w : World} {e : TypeId} {a : Option Addr} {n c : Nat} {l r : List Int} {ob : Option Nat} (h : OwnS w e 1 a n c ((l ++ r).map iv) ob) : RSl 1 RZ [] w (.slice a l.length c) l := by
  have hn := own_n h
  have h1 := h.cut (m := l.length) (by rw [hn, List.length_append]; omega)
  rw [Nat.mul_one, List.map_append, List.take_left' (by simp)] at h1
  exact own_rz h1 (fun _ _ => by simp)

set_option maxHeartbeats 4000000 in
theorem law_ok {w : World} {va vb : Value} {la lb : List Int} (ha : RSl 1 RZ [] w va la) (hb : RSl 1 RZ [] w vb lb) (hla : la.length ≤ 1048576) (hlb : lb.length ≤ 1048576) : Calls Try.prog 3 #[va, vb] w (Ret fun r w' => r = .bool true ∧ Evo [] w w') := by
  have ha0 := ha
  have hb0 := hb
  obtain ⟨a1, c1, rfl, hc1, -⟩ := ha
  obtain ⟨a2, c2, rfl, hc2, -⟩ := hb
  refine calls_of_cw (N := 190) Try.func3 rfl rfl rfl ?_
  refine cw_seq ?_
  refine cw_region ?_
  refine wl_val rfl (ex_assign rfl) ?_
  refine wl_nil (nrm_then ?_)
  refine cw_seq ?_
  refine cw_seq ?_
  refine cw_region ?_
  refine wl_bslice (vs := [_, _, _]) rfl Try.slice22 rfl rfl rfl rfl fun b1 w2 hO3 hs4 hw5 => ?_
  have hG6 := Ge.new (Evo.refl [] w) hs4
  have hE7 := (Evo.refl [] w).then hw5
  refine wl_bslice (vs := [_, _, _]) rfl Try.slice22 rfl rfl rfl rfl fun b8 w9 hO10 hs11 hw12 => ?_
  have hA13 := Apart.new (Lt.own hO3) hs11
  have hG14 := Ge.new hE7 hs11
  have hE15 := hE7.then hw12
  have hO16 := hO3.evo0 hw12
  refine wl_call1 (vs := [_, _]) Try.goes6 rfl (and_ok (la := [3, 1, 3]) (lb := [3, 2, 1]) (own_rz (X := []) (l := [3, 1, 3]) hO16 (fun _ _ => by simp)) (own_rz (X := []) (l := [3, 2, 1]) hO10 (fun _ _ => by simp)) (by simp) (by simp)) rfl ?_
  rintro _ w17 ⟨lA0, ⟨aA0, cA0, oA0, rfl, hOA0, hGA0, hw18⟩, hsA0, hmA0, hlA0⟩
  have hA19 := Apart.fresh (Lt.own hO16) hGA0
  have hA20 := Apart.fresh (Lt.own hO10) hGA0
  have hG21 := Ge.fresh hE15 hGA0
  have hE22 := hE15.then hw18
  have hO23 := hO16.evo0 hw18
  have hO24 := hO10.evo0 hw18
  refine wl_bslice (vs := [_, _]) rfl Try.slice22 rfl rfl rfl rfl fun b25 w26 hO27 hs28 hw29 => ?_
  have hA30 := Apart.new (Lt.own hO23) hs28
  have hA31 := Apart.new (Lt.own hO24) hs28
  have hA32 := Apart.new (Lt.own hOA0) hs28
  have hG33 := Ge.new hE22 hs28
  have hE34 := hE22.then hw29
  have hO35 := hO23.evo0 hw29
  have hO36 := hO24.evo0 hw29
  have hO37 := hOA0.evo0 hw29
  refine wl_call1 (vs := [_, _]) Try.goes5 rfl (same_tt (own_rz (X := []) hO37 (fun _ _ => by simp)) (own_rz (X := []) (l := [1, 3]) hO27 (fun _ _ => by simp)) (by simp at hlA0; omega) (SR.ext hsA0 (by simp [SR]) (fun x => by rw [hmA0 x]; simp; omega))) rfl ?_
  rintro _ w38 ⟨rfl, hw39⟩
  have hE40 := hE34.then hw39
  have hO41 := hO35.evo0 hw39
  have hO42 := hO36.evo0 hw39
  have hO43 := hO37.evo0 hw39
  have hO44 := hO27.evo0 hw39
  refine wl_val rfl (ex_notb rfl) ?_
  refine wl_nil (nrm_then ?_)
  refine cw_false rfl ?_
  refine cw_skip (nrm_then ?_)
  refine cw_seq ?_
  refine cw_region ?_
  refine wl_val rfl (ex_move rfl) ?_
  refine wl_val rfl (ex_move rfl) ?_
  refine wl_call1 (vs := [_, _]) Try.goes7 rfl (refAnd_of (puts_ok (rz_any ha0 hE40) (by omega)) (puts_ok (rz_any hb0 hE40) (by omega)) (by omega) (by omega)) rfl ?_
  rintro _ w45 ⟨lRA, ⟨aRA, cRA, oRA, rfl, hORA, hGRA, hw46⟩, hsRA, hmRA, hlRA⟩
  have hA47 := Apart.fresh (Lt.own hO43) hGRA
  have hG48 := Ge.fresh hE40 hGRA
  have hE49 := hE40.then hw46
  have hO50 := hO43.evo0 hw46
  refine wl_val rfl (ex_move rfl) ?_
  refine wl_val rfl (ex_move rfl) ?_
  refine wl_call1 (vs := [_, _]) Try.goes8 rfl (refOr_of (puts_ok (rz_any ha0 hE49) (by omega)) (puts_ok (rz_any hb0 hE49) (by omega)) (by omega) (by omega)) rfl ?_
  rintro _ w51 ⟨lRO, ⟨aRO, cRO, oRO, rfl, hORO, hGRO, hw52⟩, hsRO, hmRO, hlRO⟩
  have hA53 := Apart.fresh (Lt.own hO50) hGRO
  have hA54 := Apart.fresh (Lt.own hORA) hGRO
  have hG55 := Ge.fresh hE49 hGRO
  have hE56 := hE49.then hw52
  have hO57 := hO50.evo0 hw52
  have hO58 := hORA.evo0 hw52
  refine wl_val rfl (ex_move rfl) ?_
  refine wl_val rfl (ex_move rfl) ?_
  refine wl_call1 (vs := [_, _]) Try.goes9 rfl (refWithout_of (puts_ok (rz_any ha0 hE56) (by omega)) (puts_ok (rz_any hb0 hE56) (by omega)) (by omega) (by omega)) rfl ?_
  rintro _ w59 ⟨lRW, ⟨aRW, cRW, oRW, rfl, hORW, hGRW, hw60⟩, hsRW, hmRW, hlRW⟩
  have hA61 := Apart.fresh (Lt.own hO57) hGRW
  have hA62 := Apart.fresh (Lt.own hO58) hGRW
  have hA63 := Apart.fresh (Lt.own hORO) hGRW
  have hG64 := Ge.fresh hE56 hGRW
  have hE65 := hE56.then hw60
  have hO66 := hO57.evo0 hw60
  have hO67 := hO58.evo0 hw60
  have hO68 := hORO.evo0 hw60
  refine wl_val rfl (ex_assign rfl) ?_
  refine wl_val rfl (ex_assign rfl) ?_
  refine wl_val rfl (ex_assign rfl) ?_
  refine wl_nil (nrm_then ?_)
  refine cw_seq ?_
  refine cw_region ?_
  refine wl_bslice (vs := []) rfl Try.slice22 rfl rfl rfl rfl fun b69 w70 hO71 hs72 hw73 => ?_
  have hA74 := Apart.new (Lt.own hO66) hs72
  have hA75 := Apart.new (Lt.own hO67) hs72
  have hA76 := Apart.new (Lt.own hO68) hs72
  have hA77 := Apart.new (Lt.own hORW) hs72
  have hG78 := Ge.new hE65 hs72
  have hE79 := hE65.then hw73
  have hO80 := hO66.evo0 hw73
  have hO81 := hO67.evo0 hw73
  have hO82 := hO68.evo0 hw73
  have hO83 := hORW.evo0 hw73
  refine wl_val rfl (ex_move rfl) ?_
  refine wl_append rfl rfl rfl rfl Try.app22_22 hO71 (src_rz ha0 ((hE79).any [])) (by omega) fun aX1 cX1 w86 oX1 hX1 hw89 hob90 => ?_
  have hA91 := hA74.app (Lt.own hO80) hob90
  have hA92 := hA75.app (Lt.own hO81) hob90
  have hA93 := hA76.app (Lt.own hO82) hob90
  have hA94 := hA77.app (Lt.own hO83) hob90
  have hG95 := hG78.app hE79 hob90
  have hE96 := hE79.step hw89 hG78.mem
  have hO97 := hO80.evo hw89 hA74.own
  have hO98 := hO81.evo hw89 hA75.own
  have hO99 := hO82.evo hw89 hA76.own
  have hO100 := hO83.evo hw89 hA77.own
  rw [Nat.zero_add]
  have hX2 := hX1
  rw [Nat.zero_add] at hX2
  refine wl_bslice (vs := [_, _]) rfl Try.slice22 rfl rfl rfl rfl fun b101 w102 hO103 hs104 hw105 => ?_
  have hA106 := Apart.new (Lt.own hO97) hs104
  have hA107 := Apart.new (Lt.own hO98) hs104
  have hA108 := Apart.new (Lt.own hO99) hs104
  have hA109 := Apart.new (Lt.own hO100) hs104
  have hA110 := Apart.new (Lt.own hX2) hs104
  have hG111 := Ge.new hE96 hs104
  have hE112 := hE96.then hw105
  have hO113 := hO97.evo0 hw105
  have hO114 := hO98.evo0 hw105
  have hO115 := hO99.evo0 hw105
  have hO116 := hO100.evo0 hw105
  have hO117 := hX2.evo0 hw105
  refine wl_append rfl rfl rfl rfl Try.app22_22 hO117 (Src.ofOwn hO103 ⟨rfl, rfl, trivial⟩) (by omega) fun aX cX w120 oX hX3 hw123 hob124 => ?_
  have hA125 := hA91.app (Lt.own hO113) hob124
  have hA126 := hA92.app (Lt.own hO114) hob124
  have hA127 := hA93.app (Lt.own hO115) hob124
  have hA128 := hA94.app (Lt.own hO116) hob124
  have hA129 := hA110.symm.app (Lt.own hO103) hob124
  have hG130 := hG95.app hE112 hob124
  have hE131 := hE112.step hw123 hG95.mem
  have hO132 := hO113.evo hw123 hA91.own
  have hO133 := hO114.evo hw123 hA92.own
  have hO134 := hO115.evo hw123 hA93.own
  have hO135 := hO116.evo hw123 hA94.own
  have hO136 := hO103.evo hw123 hA110.symm.own
  have hX : OwnS w120 3 1 aX (la.length + 2) cX ((la ++ [77, 78]).map iv) oX := by rw [List.map_append]; exact hX3
  refine wl_bslice (vs := []) rfl Try.slice22 rfl rfl rfl rfl fun b137 w138 hO139 hs140 hw141 => ?_
  have hA142 := Apart.new (Lt.own hO132) hs140
  have hA143 := Apart.new (Lt.own hO133) hs140
  have hA144 := Apart.new (Lt.own hO134) hs140
  have hA145 := Apart.new (Lt.own hO135) hs140
  have hA146 := Apart.new (Lt.own hO136) hs140
  have hA147 := Apart.new (Lt.own hX) hs140
  have hG148 := Ge.new hE131 hs140
  have hE149 := hE131.then hw141
  have hO150 := hO132.evo0 hw141
  have hO151 := hO133.evo0 hw141
  have hO152 := hO134.evo0 hw141
  have hO153 := hO135.evo0 hw141
  have hO154 := hO136.evo0 hw141
  have hO155 := hX.evo0 hw141
  refine wl_val rfl (ex_move rfl) ?_
  refine wl_append rfl rfl rfl rfl Try.app22_22 hO139 (src_rz hb0 ((hE149).any [])) (by omega) fun aY1 cY1 w158 oY1 hY1 hw161 hob162 => ?_
  have hA163 := hA142.app (Lt.own hO150) hob162
  have hA164 := hA143.app (Lt.own hO151) hob162
  have hA165 := hA144.app (Lt.own hO152) hob162
  have hA166 := hA145.app (Lt.own hO153) hob162
  have hA167 := hA146.app (Lt.own hO154) hob162
  have hA168 := hA147.app (Lt.own hO155) hob162
  have hG169 := hG148.app hE149 hob162
  have hE170 := hE149.step hw161 hG148.mem
  have hO171 := hO150.evo hw161 hA142.own
  have hO172 := hO151.evo hw161 hA143.own
  have hO173 := hO152.evo hw161 hA144.own
  have hO174 := hO153.evo hw161 hA145.own
  have hO175 := hO154.evo hw161 hA146.own
  have hO176 := hO155.evo hw161 hA147.own
  rw [Nat.zero_add]
  have hY2 := hY1
  rw [Nat.zero_add] at hY2
  refine wl_bslice (vs := [_, _]) rfl Try.slice22 rfl rfl rfl rfl fun b177 w178 hO179 hs180 hw181 => ?_
  have hA182 := Apart.new (Lt.own hO171) hs180
  have hA183 := Apart.new (Lt.own hO172) hs180
  have hA184 := Apart.new (Lt.own hO173) hs180
  have hA185 := Apart.new (Lt.own hO174) hs180
  have hA186 := Apart.new (Lt.own hO175) hs180
  have hA187 := Apart.new (Lt.own hO176) hs180
  have hA188 := Apart.new (Lt.own hY2) hs180
  have hG189 := Ge.new hE170 hs180
  have hE190 := hE170.then hw181
  have hO191 := hO171.evo0 hw181
  have hO192 := hO172.evo0 hw181
  have hO193 := hO173.evo0 hw181
  have hO194 := hO174.evo0 hw181
  have hO195 := hO175.evo0 hw181
  have hO196 := hO176.evo0 hw181
  have hO197 := hY2.evo0 hw181
  refine wl_append rfl rfl rfl rfl Try.app22_22 hO197 (Src.ofOwn hO179 ⟨rfl, rfl, trivial⟩) (by omega) fun aY cY w200 oY hY3 hw203 hob204 => ?_
  have hA205 := hA163.app (Lt.own hO191) hob204
  have hA206 := hA164.app (Lt.own hO192) hob204
  have hA207 := hA165.app (Lt.own hO193) hob204
  have hA208 := hA166.app (Lt.own hO194) hob204
  have hA209 := hA167.app (Lt.own hO195) hob204
  have hA210 := hA168.app (Lt.own hO196) hob204
  have hA211 := hA188.symm.app (Lt.own hO179) hob204
  have hG212 := hG169.app hE190 hob204
  have hE213 := hE190.step hw203 hG169.mem
  have hO214 := hO191.evo hw203 hA163.own
  have hO215 := hO192.evo hw203 hA164.own
  have hO216 := hO193.evo hw203 hA165.own
  have hO217 := hO194.evo hw203 hA166.own
  have hO218 := hO195.evo hw203 hA167.own
  have hO219 := hO196.evo hw203 hA168.own
  have hO220 := hO179.evo hw203 hA188.symm.own
  have hY : OwnS w200 3 1 aY (lb.length + 2) cY ((lb ++ [79, 80]).map iv) oY := by rw [List.map_append]; exact hY3
  refine wl_val rfl (ex_assign rfl) ?_
  refine wl_val rfl (ex_assign rfl) ?_
  refine wl_nil (nrm_then ?_)
  refine cw_seq ?_
  refine cw_quiet (by kernel_rfl) (by kernel_rfl) ?_
  refine ql_val rfl (fun _ hq222 => ex_move rfl) ?_
  refine ql_val rfl (fun _ hq222 => ex_move rfl) ?_
  refine ql_val rfl (fun _ hq222 => ex_len_slice rfl Try.underlying22 rfl) ?_
  refine ql_val rfl (fun _ hq222 => ex_ownTo (h := la.length) (hO219.evo0 hq222) rfl rfl Try.underlying22 Try.size3 rfl (by have := ((hO219.evo0 hq222)).le; omega)) ?_
  refine ql_val rfl (fun _ hq222 => ex_move rfl) ?_
  refine ql_val rfl (fun _ hq222 => ex_move rfl) ?_
  refine ql_val rfl (fun _ hq222 => ex_len_slice rfl Try.underlying22 rfl) ?_
  refine ql_val rfl (fun _ hq222 => ex_ownTo (h := lb.length) (hY.evo0 hq222) rfl rfl Try.underlying22 Try.size3 rfl (by have := ((hY.evo0 hq222)).le; omega)) ?_
  refine ql_val rfl (fun _ hq222 => ex_assign rfl) ?_
  refine ql_val rfl (fun _ hq222 => ex_assign rfl) ?_
  refine ql_nil (fun wq221 hq222 => nrm_then ?_)
  have hE223 := hE213.then hq222
  have hO224 := hO214.evo0 hq222
  have hO225 := hO215.evo0 hq222
  have hO226 := hO216.evo0 hq222
  have hO227 := hO217.evo0 hq222
  have hO228 := hO219.evo0 hq222
  have hO229 := hY.evo0 hq222
  refine cw_seq ?_
  refine cw_region ?_
  refine wl_val rfl (ex_move rfl) ?_
  refine wl_val rfl (ex_move rfl) ?_
  refine wl_call1 (vs := [_, _]) Try.goes6 rfl (and_ok (own_part hO228) (own_part hO229) (by omega) (by omega)) rfl ?_
  rintro _ w230 ⟨lGA, ⟨aGA, cGA, oGA, rfl, hOGA, hGGA, hw231⟩, hsGA, hmGA, hlGA⟩
  have hA232 := Apart.fresh (Lt.own hO224) hGGA
  have hA233 := Apart.fresh (Lt.own hO225) hGGA
  have hA234 := Apart.fresh (Lt.own hO226) hGGA
  have hA235 := Apart.fresh (Lt.own hO227) hGGA
  have hA236 := Apart.fresh (Lt.own hO228) hGGA
  have hA237 := Apart.fresh (Lt.own hO229) hGGA
  have hG238 := Ge.fresh hE223 hGGA
  have hE239 := hE223.then hw231
  have hO240 := hO224.evo0 hw231
  have hO241 := hO225.evo0 hw231
  have hO242 := hO226.evo0 hw231
  have hO243 := hO227.evo0 hw231
  have hO244 := hO228.evo0 hw231
  have hO245 := hO229.evo0 hw231
  refine wl_val rfl (ex_move rfl) ?_
  refine wl_val rfl (ex_move rfl) ?_
  refine wl_call1 (vs := [_, _]) Try.goes10 rfl (or_ok (own_part hO244) (own_part hO245) (by omega) (by omega)) rfl ?_
  rintro _ w246 ⟨lGO, ⟨aGO, cGO, oGO, rfl, hOGO, hGGO, hw247⟩, hsGO, hmGO, hlGO⟩
  have hA248 := Apart.fresh (Lt.own hO240) hGGO
  have hA249 := Apart.fresh (Lt.own hO241) hGGO
  have hA250 := Apart.fresh (Lt.own hO242) hGGO
  have hA251 := Apart.fresh (Lt.own hO243) hGGO
  have hA252 := Apart.fresh (Lt.own hO244) hGGO
  have hA253 := Apart.fresh (Lt.own hO245) hGGO
  have hA254 := Apart.fresh (Lt.own hOGA) hGGO
  have hG255 := Ge.fresh hE239 hGGO
  have hE256 := hE239.then hw247
  have hO257 := hO240.evo0 hw247
  have hO258 := hO241.evo0 hw247
  have hO259 := hO242.evo0 hw247
  have hO260 := hO243.evo0 hw247
  have hO261 := hO244.evo0 hw247
  have hO262 := hO245.evo0 hw247
  have hO263 := hOGA.evo0 hw247
  refine wl_val rfl (ex_move rfl) ?_
  refine wl_val rfl (ex_move rfl) ?_
  refine wl_call1 (vs := [_, _]) Try.goes11 rfl (without_ok (own_part hO261) (own_part hO262) (by omega) (by omega)) rfl ?_
  rintro _ w264 ⟨lGW, ⟨aGW, cGW, oGW, rfl, hOGW, hGGW, hw265⟩, hsGW, hmGW, hlGW⟩
  have hA266 := Apart.fresh (Lt.own hO257) hGGW
  have hA267 := Apart.fresh (Lt.own hO258) hGGW
  have hA268 := Apart.fresh (Lt.own hO259) hGGW
  have hA269 := Apart.fresh (Lt.own hO260) hGGW
  have hA270 := Apart.fresh (Lt.own hO261) hGGW
  have hA271 := Apart.fresh (Lt.own hO262) hGGW
  have hA272 := Apart.fresh (Lt.own hO263) hGGW
  have hA273 := Apart.fresh (Lt.own hOGO) hGGW
  have hG274 := Ge.fresh hE256 hGGW
  have hE275 := hE256.then hw265
  have hO276 := hO257.evo0 hw265
  have hO277 := hO258.evo0 hw265
  have hO278 := hO259.evo0 hw265
  have hO279 := hO260.evo0 hw265
  have hO280 := hO261.evo0 hw265
  have hO281 := hO262.evo0 hw265
  have hO282 := hO263.evo0 hw265
  have hO283 := hOGO.evo0 hw265
  refine wl_val rfl (ex_assign rfl) ?_
  refine wl_val rfl (ex_assign rfl) ?_
  refine wl_val rfl (ex_assign rfl) ?_
  refine wl_nil (nrm_then ?_)
  refine cw_seq ?_
  refine cw_seq ?_
  refine cw_region ?_
  refine wl_val rfl (ex_move rfl) ?_
  refine wl_val rfl (ex_move rfl) ?_
  refine wl_call1 (vs := [_, _]) Try.goes5 rfl (same_tt (own_rz (X := []) hO282 (fun _ _ => by simp)) (own_rz (X := []) hO277 (fun _ _ => by simp)) (by omega) (SR.ext hsGA hsRA (fun x => (hmGA x).trans (hmRA x).symm))) rfl ?_
  rintro _ w284 ⟨rfl, hw285⟩
  have hE286 := hE275.then hw285
  have hO287 := hO276.evo0 hw285
  have hO288 := hO277.evo0 hw285
  have hO289 := hO278.evo0 hw285
  have hO290 := hO279.evo0 hw285
  have hO291 := hO280.evo0 hw285
  have hO292 := hO281.evo0 hw285
  have hO293 := hO282.evo0 hw285
  have hO294 := hO283.evo0 hw285
  have hO295 := hOGW.evo0 hw285
  refine wl_val rfl (ex_notb rfl) ?_
  refine wl_val rfl (ex_move rfl) ?_
  refine wl_go rfl rfl rfl rfl ?_
  refine wl_val rfl (ex_move rfl) ?_
  refine wl_go rfl rfl rfl rfl ?_
  refine wl_val rfl (ex_move rfl) ?_
  refine wl_go rfl rfl rfl rfl ?_
  refine wl_call1 (vs := [_, _]) Try.goes5 rfl (same_tt (own_rz (X := []) hO294 (fun _ _ => by simp)) (own_rz (X := []) hO289 (fun _ _ => by simp)) (by omega) (SR.ext hsGO hsRO (fun x => (hmGO x).trans (hmRO x).symm))) rfl ?_
  rintro _ w296 ⟨rfl, hw297⟩
  have hE298 := hE286.then hw297
  have hO299 := hO287.evo0 hw297
  have hO300 := hO288.evo0 hw297
  have hO301 := hO289.evo0 hw297
  have hO302 := hO290.evo0 hw297
  have hO303 := hO291.evo0 hw297
  have hO304 := hO292.evo0 hw297
  have hO305 := hO293.evo0 hw297
  have hO306 := hO294.evo0 hw297
  have hO307 := hO295.evo0 hw297
  refine wl_go rfl rfl rfl rfl ?_
  refine wl_val rfl (ex_notb rfl) ?_
  refine wl_val rfl (ex_pick_f rfl rfl) ?_
  refine wl_val rfl (ex_move rfl) ?_
  refine wl_go rfl rfl rfl rfl ?_
  refine wl_val rfl (ex_move rfl) ?_
  refine wl_go rfl rfl rfl rfl ?_
  refine wl_val rfl (ex_move rfl) ?_
  refine wl_go rfl rfl rfl rfl ?_
  refine wl_call1 (vs := [_, _]) Try.goes5 rfl (same_tt (own_rz (X := []) hO307 (fun _ _ => by simp)) (own_rz (X := []) hO302 (fun _ _ => by simp)) (by omega) (SR.ext hsGW hsRW (fun x => (hmGW x).trans (hmRW x).symm))) rfl ?_
  rintro _ w308 ⟨rfl, hw309⟩
  have hE310 := hE298.then hw309
  have hO311 := hO299.evo0 hw309
  have hO312 := hO300.evo0 hw309
  have hO313 := hO301.evo0 hw309
  have hO314 := hO302.evo0 hw309
  have hO315 := hO303.evo0 hw309
  have hO316 := hO304.evo0 hw309
  have hO317 := hO305.evo0 hw309
  have hO318 := hO306.evo0 hw309
  have hO319 := hO307.evo0 hw309
  refine wl_go rfl rfl rfl rfl ?_
  refine wl_val rfl (ex_notb rfl) ?_
  refine wl_val rfl (ex_pick_f rfl rfl) ?_
  refine wl_val rfl (ex_move rfl) ?_
  refine wl_go rfl rfl rfl rfl ?_
  refine wl_val rfl (ex_move rfl) ?_
  refine wl_go rfl rfl rfl rfl ?_
  refine wl_val rfl (ex_move rfl) ?_
  refine wl_go rfl rfl rfl rfl ?_
  refine wl_call1 (vs := [_, _]) Try.goes5 rfl (same_tt (own_part hO315) (rz_any ha0 hE310) (by omega) rfl) rfl ?_
  rintro _ w320 ⟨rfl, hw321⟩
  have hE322 := hE310.then hw321
  have hO323 := hO311.evo0 hw321
  have hO324 := hO312.evo0 hw321
  have hO325 := hO313.evo0 hw321
  have hO326 := hO314.evo0 hw321
  have hO327 := hO315.evo0 hw321
  have hO328 := hO316.evo0 hw321
  have hO329 := hO317.evo0 hw321
  have hO330 := hO318.evo0 hw321
  have hO331 := hO319.evo0 hw321
  refine wl_go rfl rfl rfl rfl ?_
  refine wl_val rfl (ex_notb rfl) ?_
  refine wl_val rfl (ex_pick_f rfl rfl) ?_
  refine wl_val rfl (ex_move rfl) ?_
  refine wl_go rfl rfl rfl rfl ?_
  refine wl_val rfl (ex_move rfl) ?_
  refine wl_go rfl rfl rfl rfl ?_
  refine wl_val rfl (ex_move rfl) ?_
  refine wl_go rfl rfl rfl rfl ?_
  refine wl_call1 (vs := [_, _]) Try.goes5 rfl (same_tt (own_part hO328) (rz_any hb0 hE322) (by omega) rfl) rfl ?_
  rintro _ w332 ⟨rfl, hw333⟩
  have hE334 := hE322.then hw333
  have hO335 := hO323.evo0 hw333
  have hO336 := hO324.evo0 hw333
  have hO337 := hO325.evo0 hw333
  have hO338 := hO326.evo0 hw333
  have hO339 := hO327.evo0 hw333
  have hO340 := hO328.evo0 hw333
  have hO341 := hO329.evo0 hw333
  have hO342 := hO330.evo0 hw333
  have hO343 := hO331.evo0 hw333
  refine wl_go rfl rfl rfl rfl ?_
  refine wl_val rfl (ex_notb rfl) ?_
  refine wl_val rfl (ex_pick_f rfl rfl) ?_
  refine wl_nil (nrm_then ?_)
  refine cw_false rfl ?_
  refine cw_skip (nrm_then ?_)
  refine cw_seq ?_
  refine cw_seq ?_
  obtain ⟨gx0, -, hax0, hcx0⟩ := own_cell1 hO339 (k := la.length) (v := iv 77) (by simp)
  obtain ⟨gx1, -, hax1, hcx1⟩ := own_cell1 hO339 (k := la.length + 1) (v := iv 78) (by simp)
  obtain ⟨gy0, -, hay0, hcy0⟩ := own_cell1 hO340 (k := lb.length) (v := iv 79) (by simp)
  obtain ⟨gy1, -, hay1, hcy1⟩ := own_cell1 hO340 (k := lb.length + 1) (v := iv 80) (by simp)
  refine cw_region ?_
  refine wl_val rfl (ex_move rfl) ?_
  refine wl_val rfl (ex_move rfl) ?_
  refine wl_val rfl (ex_len_slice rfl Try.underlying22 rfl) ?_
  refine wl_val rfl (ex_indexAddrZ (n := la.length) (by rw [hax0]; rfl) rfl (by omega) Try.elem22 (by omega)) ?_
  refine wl_val rfl (ex_load1 rfl Try.agg3 hcx0) ?_
  refine wl_val rfl (ex_neq rfl rfl) ?_
  refine wl_val rfl (ex_move rfl) ?_
  refine wl_split (t := 95) rfl (fun hs95 => ?_) (fun hs95 => ?_)
  · skip
    exact absurd rfl hs95
  · skip
    refine wl_go rfl rfl rfl rfl ?_
    refine wl_val rfl (ex_move rfl) ?_
    refine wl_go rfl rfl rfl rfl ?_
    refine wl_val rfl (ex_move rfl) ?_
    refine wl_go rfl rfl rfl rfl ?_
    refine wl_val rfl (ex_len_slice rfl Try.underlying22 rfl) ?_
    refine wl_go rfl rfl rfl rfl ?_
    refine wl_val rfl (ex_add_i64 rfl rfl (by omega) (by omega)) ?_
    refine wl_go rfl rfl rfl rfl ?_
    refine wl_val rfl (ex_indexAddrZ (n := la.length + 1) (by rw [hax1]; rfl) rfl (by omega) Try.elem22 (by omega)) ?_
    refine wl_go rfl rfl rfl rfl ?_
    refine wl_val rfl (ex_load1 rfl Try.agg3 hcx1) ?_
    refine wl_go rfl rfl rfl rfl ?_
    refine wl_val rfl (ex_neq rfl rfl) ?_
    refine wl_val rfl (ex_pick_f rfl rfl) ?_
    refine wl_val rfl (ex_move rfl) ?_
    refine wl_split (t := 104) rfl (fun hs104 => ?_) (fun hs104 => ?_)
    · skip
      exact absurd rfl hs104
    · skip
      refine wl_go rfl rfl rfl rfl ?_
      refine wl_val rfl (ex_move rfl) ?_
      refine wl_go rfl rfl rfl rfl ?_
      refine wl_val rfl (ex_move rfl) ?_
      refine wl_go rfl rfl rfl rfl ?_
      refine wl_val rfl (ex_len_slice rfl Try.underlying22 rfl) ?_
      refine wl_go rfl rfl rfl rfl ?_
      refine wl_val rfl (ex_indexAddrZ (n := lb.length) (by rw [hay0]; rfl) rfl (by omega) Try.elem22 (by omega)) ?_
      refine wl_go rfl rfl rfl rfl ?_
      refine wl_val rfl (ex_load1 rfl Try.agg3 hcy0) ?_
      refine wl_go rfl rfl rfl rfl ?_
      refine wl_val rfl (ex_neq rfl rfl) ?_
      refine wl_val rfl (ex_pick_f rfl rfl) ?_
      refine wl_val rfl (ex_move rfl) ?_
      refine wl_split (t := 112) rfl (fun hs112 => ?_) (fun hs112 => ?_)
      · skip
        exact absurd rfl hs112
      · skip
        refine wl_go rfl rfl rfl rfl ?_
        refine wl_val rfl (ex_move rfl) ?_
        refine wl_go rfl rfl rfl rfl ?_
        refine wl_val rfl (ex_move rfl) ?_
        refine wl_go rfl rfl rfl rfl ?_
        refine wl_val rfl (ex_len_slice rfl Try.underlying22 rfl) ?_
        refine wl_go rfl rfl rfl rfl ?_
        refine wl_val rfl (ex_add_i64 rfl rfl (by omega) (by omega)) ?_
        refine wl_go rfl rfl rfl rfl ?_
        refine wl_val rfl (ex_indexAddrZ (n := lb.length + 1) (by rw [hay1]; rfl) rfl (by omega) Try.elem22 (by omega)) ?_
        refine wl_go rfl rfl rfl rfl ?_
        refine wl_val rfl (ex_load1 rfl Try.agg3 hcy1) ?_
        refine wl_go rfl rfl rfl rfl ?_
        refine wl_val rfl (ex_neq rfl rfl) ?_
        refine wl_val rfl (ex_pick_f rfl rfl) ?_
        refine wl_nil (nrm_then ?_)
        refine cw_if rfl (fun hc120 => ?_) (fun hc120 => ?_)
        · skip
          exact absurd rfl hc120
        · skip
          refine cw_skip (nrm_then ?_)
          refine cw_seq ?_
          refine cw_seq ?_
          refine cw_region ?_
          refine wl_val rfl (ex_assign rfl) ?_
          refine wl_nil (nrm_then ?_)
          refine cw_block ?_
          refine cw_loop (α := Nat) (0) (fun k => [(15, .int .i64 (k : Nat))]) [(0, _), (1, _), (4, _), (5, _), (6, _), (7, _), (10, _), (11, _), (12, _), (13, _), (14, _)] (fun k wr => Evo oX.toList w332 wr ∧ (k ≤ la.length ∧ ∃ xs, OwnS wr 3 1 aX (la.length + 2) cX xs oX)) (fun k => la.length - k) ⟨rfl, trivial⟩ ⟨rfl, rfl, rfl, rfl, rfl, rfl, rfl, rfl, rfl, rfl, rfl, trivial⟩ ⟨Evo.refl _ _, ⟨Nat.zero_le _, _, hO339⟩⟩ ?_
          rintro k wr344 ⟨hV345, ⟨hk, xs, hM0⟩⟩
          show CW _ _ _ _ [(15, _), (0, _), (1, _), (4, _), (5, _), (6, _), (7, _), (10, _), (11, _), (12, _), (13, _), (14, _)] _
          have hE346 := hE334.step hV345 (hG130.mem)
          have hB347 := hO335.evo hV345 (hA125.own)
          have hB348 := hO336.evo hV345 (hA126.own)
          have hB349 := hO337.evo hV345 (hA127.own)
          have hB350 := hO338.evo hV345 (hA128.own)
          have hB351 := hO340.evo hV345 (hA210.symm.own)
          have hB352 := hO341.evo hV345 (hA236.symm.own)
          have hB353 := hO342.evo hV345 (hA252.symm.own)
          have hB354 := hO343.evo hV345 (hA270.symm.own)
          refine cw_seq ?_
          refine cw_seq ?_
          refine cw_region ?_
          refine wl_val rfl (ex_move rfl) ?_
          refine wl_val rfl (ex_move rfl) ?_
          refine wl_val rfl (ex_len_slice rfl Try.underlying22 rfl) ?_
          refine wl_val rfl (ex_lss rfl rfl) ?_
          refine wl_nil (nrm_then ?_)
          refine cw_if rfl (fun hc124 => ?_) (fun hc124 => ?_)
          · skip
            have hk' : k < la.length := by omega
            obtain ⟨gx, cux, hgx, hax, -⟩ := (hM0).at (by omega)
            refine cw_skip (nrm_then ?_)
            refine cw_seq ?_
            refine cw_block ?_
            refine cw_region ?_
            refine wl_val rfl (ex_move rfl) ?_
            refine wl_val rfl (ex_move rfl) ?_
            refine wl_val rfl (ex_indexAddr (n := k) (by rw [hax]; rfl) rfl Try.elem22 (by omega)) ?_
            obtain ⟨g364, cur355, hg356, hx357, hcu358, hcs359, -⟩ := hM0.at (by omega)
            rw [hax] at hx357; cases hx357
            refine wl_store1L rfl rfl (rfl) Try.size3 hcu358 (hM0.inb hcs359 (k := k) (j := 0) (by omega) (by omega) (by omega)) fun w360 hB361 hw362 => ?_
            replace hw362 := evo_ob hg356 hw362
            have hO363 := hM0.set' hg356 hcu358 hB361
            have hE365 := hE346.step hw362 hG130.mem
            have hE366 := hV345.step hw362 (by intro y hy; left; simpa using hy)
            have hO367 := hB347.evo hw362 hA125.own
            have hO368 := hB348.evo hw362 hA126.own
            have hO369 := hB349.evo hw362 hA127.own
            have hO370 := hB350.evo hw362 hA128.own
            have hO371 := hB351.evo hw362 hA210.symm.own
            have hO372 := hB352.evo hw362 hA236.symm.own
            have hO373 := hB353.evo hw362 hA252.symm.own
            have hO374 := hB354.evo hw362 hA270.symm.own
            refine wl_nil (nrm_block (nrm_then ?_))
            refine cw_region ?_
            refine wl_val rfl (ex_move rfl) ?_
            refine wl_val rfl (ex_add_i64 rfl rfl (by omega) (by omega)) ?_
            refine wl_val rfl (ex_assign rfl) ?_
            refine wl_nil (nrm_same ?_)
            refine ⟨k + 1, ?_, ⟨rfl, trivial⟩, ⟨rfl, rfl, rfl, rfl, rfl, rfl, rfl, rfl, rfl, rfl, rfl, trivial⟩, hE366, ?_⟩
            · omega
            · skip
              exact ⟨by omega, _, hO363⟩
          · skip
            refine cw_exit (ex_then (ex_then (ex_here (nrm_then ?_))))
            refine cw_seq ?_
            refine cw_seq ?_
            refine cw_region ?_
            refine wl_val rfl (ex_assign rfl) ?_
            refine wl_nil (nrm_then ?_)
            refine cw_block ?_
            refine cw_loop (α := Nat) (0) (fun k => [(16, .int .i64 (k : Nat))]) [(0, _), (1, _), (4, _), (5, _), (6, _), (7, _), (11, _), (12, _), (13, _), (14, _)] (fun k wr => Evo oY.toList wr344 wr ∧ (k ≤ lb.length ∧ ∃ xs, OwnS wr 3 1 aY (lb.length + 2) cY xs oY)) (fun k => lb.length - k) ⟨rfl, trivial⟩ ⟨rfl, rfl, rfl, rfl, rfl, rfl, rfl, rfl, rfl, rfl, trivial⟩ ⟨Evo.refl _ _, ⟨Nat.zero_le _, _, hB351⟩⟩ ?_
            rintro k wr375 ⟨hV376, ⟨hk, xs, hM1⟩⟩
            show CW _ _ _ _ [(16, _), (0, _), (1, _), (4, _), (5, _), (6, _), (7, _), (11, _), (12, _), (13, _), (14, _)] _
            have hE377 := hE346.step hV376 (hG212.mem)
            have hB378 := hB347.evo hV376 (hA205.own)
            have hB379 := hB348.evo hV376 (hA206.own)
            have hB380 := hB349.evo hV376 (hA207.own)
            have hB381 := hB350.evo hV376 (hA208.own)
            have hB382 := hB352.evo hV376 (hA237.symm.own)
            have hB383 := hB353.evo hV376 (hA253.symm.own)
            have hB384 := hB354.evo hV376 (hA271.symm.own)
            have hB385 := hM0.evo hV376 (hA210.own)
            refine cw_seq ?_
            refine cw_seq ?_
            refine cw_region ?_
            refine wl_val rfl (ex_move rfl) ?_
            refine wl_val rfl (ex_move rfl) ?_
            refine wl_val rfl (ex_len_slice rfl Try.underlying22 rfl) ?_
            refine wl_val rfl (ex_lss rfl rfl) ?_
            refine wl_nil (nrm_then ?_)
            refine cw_if rfl (fun hc133 => ?_) (fun hc133 => ?_)
            · skip
              have hk' : k < lb.length := by omega
              obtain ⟨gx, cux, hgx, hax, -⟩ := (hM1).at (by omega)
              refine cw_skip (nrm_then ?_)
              refine cw_seq ?_
              refine cw_block ?_
              refine cw_region ?_
              refine wl_val rfl (ex_move rfl) ?_
              refine wl_val rfl (ex_move rfl) ?_
              refine wl_val rfl (ex_indexAddr (n := k) (by rw [hax]; rfl) rfl Try.elem22 (by omega)) ?_
              obtain ⟨g395, cur386, hg387, hx388, hcu389, hcs390, -⟩ := hM1.at (by omega)
              rw [hax] at hx388; cases hx388
              refine wl_store1L rfl rfl (rfl) Try.size3 hcu389 (hM1.inb hcs390 (k := k) (j := 0) (by omega) (by omega) (by omega)) fun w391 hB392 hw393 => ?_
              replace hw393 := evo_ob hg387 hw393
              have hO394 := hM1.set' hg387 hcu389 hB392
              have hE396 := hE377.step hw393 hG212.mem
              have hE397 := hV376.step hw393 (by intro y hy; left; simpa using hy)
              have hO398 := hB378.evo hw393 hA205.own
              have hO399 := hB379.evo hw393 hA206.own
              have hO400 := hB380.evo hw393 hA207.own
              have hO401 := hB381.evo hw393 hA208.own
              have hO402 := hB382.evo hw393 hA237.symm.own
              have hO403 := hB383.evo hw393 hA253.symm.own
              have hO404 := hB384.evo hw393 hA271.symm.own
              have hO405 := hB385.evo hw393 hA210.own
              refine wl_nil (nrm_block (nrm_then ?_))
              refine cw_region ?_
              refine wl_val rfl (ex_move rfl) ?_
              refine wl_val rfl (ex_add_i64 rfl rfl (by omega) (by omega)) ?_
              refine wl_val rfl (ex_assign rfl) ?_
              refine wl_nil (nrm_same ?_)
              refine ⟨k + 1, ?_, ⟨rfl, trivial⟩, ⟨rfl, rfl, rfl, rfl, rfl, rfl, rfl, rfl, rfl, rfl, trivial⟩, hE397, ?_⟩
              · omega
              · skip
                exact ⟨by omega, _, hO394⟩
            · skip
              refine cw_exit (ex_then (ex_then (ex_here (nrm_then ?_))))
              refine cw_seq ?_
              refine cw_seq ?_
              refine cw_region ?_
              refine wl_val rfl (ex_move rfl) ?_
              refine wl_val rfl (ex_move rfl) ?_
              refine wl_call1 (vs := [_, _]) Try.goes5 rfl (same_tt (own_rz (X := []) hB382 (fun _ _ => by simp)) (own_rz (X := []) hB379 (fun _ _ => by simp)) (by omega) (SR.ext hsGA hsRA (fun x => (hmGA x).trans (hmRA x).symm))) rfl ?_
              rintro _ w406 ⟨rfl, hw407⟩
              have hE408 := hE377.then hw407
              have hE409 := hV376.then hw407
              have hO410 := hB378.evo0 hw407
              have hO411 := hB379.evo0 hw407
              have hO412 := hB380.evo0 hw407
              have hO413 := hB381.evo0 hw407
              have hO414 := hB382.evo0 hw407
              have hO415 := hB383.evo0 hw407
              have hO416 := hB384.evo0 hw407
              have hO417 := hB385.evo0 hw407
              have hO418 := hM1.evo0 hw407
              refine wl_val rfl (ex_notb rfl) ?_
              refine wl_val rfl (ex_move rfl) ?_
              refine wl_go rfl rfl rfl rfl ?_
              refine wl_val rfl (ex_move rfl) ?_
              refine wl_go rfl rfl rfl rfl ?_
              refine wl_val rfl (ex_move rfl) ?_
              refine wl_go rfl rfl rfl rfl ?_
              refine wl_call1 (vs := [_, _]) Try.goes5 rfl (same_tt (own_rz (X := []) hO415 (fun _ _ => by simp)) (own_rz (X := []) hO412 (fun _ _ => by simp)) (by omega) (SR.ext hsGO hsRO (fun x => (hmGO x).trans (hmRO x).symm))) rfl ?_
              rintro _ w419 ⟨rfl, hw420⟩
              have hE421 := hE408.then hw420
              have hE422 := hE409.then hw420
              have hO423 := hO410.evo0 hw420
              have hO424 := hO411.evo0 hw420
              have hO425 := hO412.evo0 hw420
              have hO426 := hO413.evo0 hw420
              have hO427 := hO414.evo0 hw420
              have hO428 := hO415.evo0 hw420
              have hO429 := hO416.evo0 hw420
              have hO430 := hO417.evo0 hw420
              have hO431 := hO418.evo0 hw420
              refine wl_go rfl rfl rfl rfl ?_
              refine wl_val rfl (ex_notb rfl) ?_
              refine wl_val rfl (ex_pick_f rfl rfl) ?_
              refine wl_val rfl (ex_move rfl) ?_
              refine wl_go rfl rfl rfl rfl ?_
              refine wl_val rfl (ex_move rfl) ?_
              refine wl_go rfl rfl rfl rfl ?_
              refine wl_val rfl (ex_move rfl) ?_
              refine wl_go rfl rfl rfl rfl ?_
              refine wl_call1 (vs := [_, _]) Try.goes5 rfl (same_tt (own_rz (X := []) hO429 (fun _ _ => by simp)) (own_rz (X := []) hO426 (fun _ _ => by simp)) (by omega) (SR.ext hsGW hsRW (fun x => (hmGW x).trans (hmRW x).symm))) rfl ?_
              rintro _ w432 ⟨rfl, hw433⟩
              have hE434 := hE421.then hw433
              have hE435 := hE422.then hw433
              have hO436 := hO423.evo0 hw433
              have hO437 := hO424.evo0 hw433
              have hO438 := hO425.evo0 hw433
              have hO439 := hO426.evo0 hw433
              have hO440 := hO427.evo0 hw433
              have hO441 := hO428.evo0 hw433
              have hO442 := hO429.evo0 hw433
              have hO443 := hO430.evo0 hw433
              have hO444 := hO431.evo0 hw433
              refine wl_go rfl rfl rfl rfl ?_
              refine wl_val rfl (ex_notb rfl) ?_
              refine wl_val rfl (ex_pick_f rfl rfl) ?_
              refine wl_nil (nrm_then ?_)
              refine cw_false rfl ?_
              refine cw_skip (nrm_then ?_)
              refine cw_seq ?_
              refine cw_seq ?_
              refine cw_region ?_
              refine wl_val rfl (ex_assign rfl) ?_
              refine wl_nil (nrm_then ?_)
              refine cw_block ?_
              refine cw_loop (α := Nat) (0) (fun k => [(17, .int .i64 (k : Nat))]) [(0, _), (1, _), (4, _), (5, _), (6, _), (7, _), (12, _), (13, _), (14, _)] (fun k wr => Evo oGA.toList w432 wr ∧ (k ≤ lGA.length ∧ ∃ xs, OwnS wr 3 1 aGA (lGA.length) cGA xs oGA)) (fun k => lGA.length - k) ⟨rfl, trivial⟩ ⟨rfl, rfl, rfl, rfl, rfl, rfl, rfl, rfl, rfl, trivial⟩ ⟨Evo.refl _ _, ⟨Nat.zero_le _, _, hO440⟩⟩ ?_
              rintro k wr445 ⟨hV446, ⟨hk, xs, hM2⟩⟩
              show CW _ _ _ _ [(17, _), (0, _), (1, _), (4, _), (5, _), (6, _), (7, _), (12, _), (13, _), (14, _)] _
              have hE447 := hE434.step hV446 (hG238.mem)
              have hB448 := hO436.evo hV446 (hA232.own)
              have hB449 := hO437.evo hV446 (hA233.own)
              have hB450 := hO438.evo hV446 (hA234.own)
              have hB451 := hO439.evo hV446 (hA235.own)
              have hB452 := hO441.evo hV446 (hA254.symm.own)
              have hB453 := hO442.evo hV446 (hA272.symm.own)
              have hB454 := hO443.evo hV446 (hA236.own)
              have hB455 := hO444.evo hV446 (hA237.own)
              refine cw_seq ?_
              refine cw_seq ?_
              refine cw_region ?_
              refine wl_val rfl (ex_move rfl) ?_
              refine wl_val rfl (ex_move rfl) ?_
              refine wl_val rfl (ex_len_slice rfl Try.underlying22 rfl) ?_
              refine wl_val rfl (ex_lss rfl rfl) ?_
              refine wl_nil (nrm_then ?_)
              refine cw_if rfl (fun hc158 => ?_) (fun hc158 => ?_)
              · skip
                have hk' : k < lGA.length := by omega
                obtain ⟨gx, cux, hgx, hax, -⟩ := (hM2).at (by omega)
                refine cw_skip (nrm_then ?_)
                refine cw_seq ?_
                refine cw_block ?_
                refine cw_region ?_
                refine wl_val rfl (ex_move rfl) ?_
                refine wl_val rfl (ex_move rfl) ?_
                refine wl_val rfl (ex_indexAddr (n := k) (by rw [hax]; rfl) rfl Try.elem22 (by omega)) ?_
                obtain ⟨g465, cur456, hg457, hx458, hcu459, hcs460, -⟩ := hM2.at (by omega)
                rw [hax] at hx458; cases hx458
                refine wl_store1L rfl rfl (rfl) Try.size3 hcu459 (hM2.inb hcs460 (k := k) (j := 0) (by omega) (by omega) (by omega)) fun w461 hB462 hw463 => ?_
                replace hw463 := evo_ob hg457 hw463
                have hO464 := hM2.set' hg457 hcu459 hB462
                have hE466 := hE447.step hw463 hG238.mem
                have hE467 := hV446.step hw463 (by intro y hy; left; simpa using hy)
                have hO468 := hB448.evo hw463 hA232.own
                have hO469 := hB449.evo hw463 hA233.own
                have hO470 := hB450.evo hw463 hA234.own
                have hO471 := hB451.evo hw463 hA235.own
                have hO472 := hB452.evo hw463 hA254.symm.own
                have hO473 := hB453.evo hw463 hA272.symm.own
                have hO474 := hB454.evo hw463 hA236.own
                have hO475 := hB455.evo hw463 hA237.own
                refine wl_nil (nrm_block (nrm_then ?_))
                refine cw_region ?_
                refine wl_val rfl (ex_move rfl) ?_
                refine wl_val rfl (ex_add_i64 rfl rfl (by omega) (by omega)) ?_
                refine wl_val rfl (ex_assign rfl) ?_
                refine wl_nil (nrm_same ?_)
                refine ⟨k + 1, ?_, ⟨rfl, trivial⟩, ⟨rfl, rfl, rfl, rfl, rfl, rfl, rfl, rfl, rfl, trivial⟩, hE467, ?_⟩
                · omega
                · skip
                  exact ⟨by omega, _, hO464⟩
              · skip
                refine cw_exit (ex_then (ex_then (ex_here (nrm_then ?_))))
                refine cw_seq ?_
                refine cw_seq ?_
                refine cw_region ?_
                refine wl_val rfl (ex_assign rfl) ?_
                refine wl_nil (nrm_then ?_)
                refine cw_block ?_
                refine cw_loop (α := Nat) (0) (fun k => [(18, .int .i64 (k : Nat))]) [(0, _), (1, _), (4, _), (5, _), (6, _), (7, _), (13, _), (14, _)] (fun k wr => Evo oGW.toList wr445 wr ∧ (k ≤ lGW.length ∧ ∃ xs, OwnS wr 3 1 aGW (lGW.length) cGW xs oGW)) (fun k => lGW.length - k) ⟨rfl, trivial⟩ ⟨rfl, rfl, rfl, rfl, rfl, rfl, rfl, rfl, trivial⟩ ⟨Evo.refl _ _, ⟨Nat.zero_le _, _, hB453⟩⟩ ?_
                rintro k wr476 ⟨hV477, ⟨hk, xs, hM3⟩⟩
                show CW _ _ _ _ [(18, _), (0, _), (1, _), (4, _), (5, _), (6, _), (7, _), (13, _), (14, _)] _
                have hE478 := hE447.step hV477 (hG274.mem)
                have hB479 := hB448.evo hV477 (hA266.own)
                have hB480 := hB449.evo hV477 (hA267.own)
                have hB481 := hB450.evo hV477 (hA268.own)
                have hB482 := hB451.evo hV477 (hA269.own)
                have hB483 := hB452.evo hV477 (hA273.own)
                have hB484 := hB454.evo hV477 (hA270.own)
                have hB485 := hB455.evo hV477 (hA271.own)
                have hB486 := hM2.evo hV477 (hA272.own)
                refine cw_seq ?_
                refine cw_seq ?_
                refine cw_region ?_
                refine wl_val rfl (ex_move rfl) ?_
                refine wl_val rfl (ex_move rfl) ?_
                refine wl_val rfl (ex_len_slice rfl Try.underlying22 rfl) ?_
                refine wl_val rfl (ex_lss rfl rfl) ?_
                refine wl_nil (nrm_then ?_)
                refine cw_if rfl (fun hc167 => ?_) (fun hc167 => ?_)
                · skip
                  have hk' : k < lGW.length := by omega
                  obtain ⟨gx, cux, hgx, hax, -⟩ := (hM3).at (by omega)
                  refine cw_skip (nrm_then ?_)
                  refine cw_seq ?_
                  refine cw_block ?_
                  refine cw_region ?_
                  refine wl_val rfl (ex_move rfl) ?_
                  refine wl_val rfl (ex_move rfl) ?_
                  refine wl_val rfl (ex_indexAddr (n := k) (by rw [hax]; rfl) rfl Try.elem22 (by omega)) ?_
                  obtain ⟨g496, cur487, hg488, hx489, hcu490, hcs491, -⟩ := hM3.at (by omega)
                  rw [hax] at hx489; cases hx489
                  refine wl_store1L rfl rfl (rfl) Try.size3 hcu490 (hM3.inb hcs491 (k := k) (j := 0) (by omega) (by omega) (by omega)) fun w492 hB493 hw494 => ?_
                  replace hw494 := evo_ob hg488 hw494
                  have hO495 := hM3.set' hg488 hcu490 hB493
                  have hE497 := hE478.step hw494 hG274.mem
                  have hE498 := hV477.step hw494 (by intro y hy; left; simpa using hy)
                  have hO499 := hB479.evo hw494 hA266.own
                  have hO500 := hB480.evo hw494 hA267.own
                  have hO501 := hB481.evo hw494 hA268.own
                  have hO502 := hB482.evo hw494 hA269.own
                  have hO503 := hB483.evo hw494 hA273.own
                  have hO504 := hB484.evo hw494 hA270.own
                  have hO505 := hB485.evo hw494 hA271.own
                  have hO506 := hB486.evo hw494 hA272.own
                  refine wl_nil (nrm_block (nrm_then ?_))
                  refine cw_region ?_
                  refine wl_val rfl (ex_move rfl) ?_
                  refine wl_val rfl (ex_add_i64 rfl rfl (by omega) (by omega)) ?_
                  refine wl_val rfl (ex_assign rfl) ?_
                  refine wl_nil (nrm_same ?_)
                  refine ⟨k + 1, ?_, ⟨rfl, trivial⟩, ⟨rfl, rfl, rfl, rfl, rfl, rfl, rfl, rfl, trivial⟩, hE498, ?_⟩
                  · omega
                  · skip
                    exact ⟨by omega, _, hO495⟩
                · skip
                  refine cw_exit (ex_then (ex_then (ex_here (nrm_then ?_))))
                  refine cw_seq ?_
                  refine cw_region ?_
                  refine wl_val rfl (ex_move rfl) ?_
                  refine wl_val rfl (ex_move rfl) ?_
                  refine wl_call1 (vs := [_, _]) Try.goes5 rfl (same_tt (own_rz (X := []) hB483 (fun _ _ => by simp)) (own_rz (X := []) hB481 (fun _ _ => by simp)) (by omega) (SR.ext hsGO hsRO (fun x => (hmGO x).trans (hmRO x).symm))) rfl ?_
                  rintro _ w507 ⟨rfl, hw508⟩
                  have hE509 := hE478.then hw508
                  have hE510 := hV477.then hw508
                  have hO511 := hB479.evo0 hw508
                  have hO512 := hB480.evo0 hw508
                  have hO513 := hB481.evo0 hw508
                  have hO514 := hB482.evo0 hw508
                  have hO515 := hB483.evo0 hw508
                  have hO516 := hB484.evo0 hw508
                  have hO517 := hB485.evo0 hw508
                  have hO518 := hB486.evo0 hw508
                  have hO519 := hM3.evo0 hw508
                  refine wl_val rfl (ex_move rfl) ?_
                  refine wl_go rfl rfl rfl rfl ?_
                  refine wl_val rfl (ex_move rfl) ?_
                  refine wl_go rfl rfl rfl rfl ?_
                  refine wl_val rfl (ex_move rfl) ?_
                  refine wl_go rfl rfl rfl rfl ?_
                  refine wl_call1 (vs := [_, _]) Try.goes6 rfl (and_ok (rz_any ha0 hE509) (rz_any hb0 hE509) (by omega) (by omega)) rfl ?_
                  rintro _ w520 ⟨lHA, ⟨aHA, cHA, oHA, rfl, hOHA, hGHA, hw521⟩, hsHA, hmHA, hlHA⟩
                  have hA522 := Apart.fresh (Lt.own hO511) hGHA
                  have hA523 := Apart.fresh (Lt.own hO512) hGHA
                  have hA524 := Apart.fresh (Lt.own hO513) hGHA
                  have hA525 := Apart.fresh (Lt.own hO514) hGHA
                  have hA526 := Apart.fresh (Lt.own hO515) hGHA
                  have hA527 := Apart.fresh (Lt.own hO516) hGHA
                  have hA528 := Apart.fresh (Lt.own hO517) hGHA
                  have hA529 := Apart.fresh (Lt.own hO518) hGHA
                  have hA530 := Apart.fresh (Lt.own hO519) hGHA
                  have hG531 := Ge.fresh hE509 hGHA
                  have hG532 := Ge.fresh hE510 hGHA
                  have hE533 := hE509.then hw521
                  have hE534 := hE510.then hw521
                  have hO535 := hO511.evo0 hw521
                  have hO536 := hO512.evo0 hw521
                  have hO537 := hO513.evo0 hw521
                  have hO538 := hO514.evo0 hw521
                  have hO539 := hO515.evo0 hw521
                  have hO540 := hO516.evo0 hw521
                  have hO541 := hO517.evo0 hw521
                  have hO542 := hO518.evo0 hw521
                  have hO543 := hO519.evo0 hw521
                  refine wl_go rfl rfl rfl rfl ?_
                  refine wl_val rfl (ex_move rfl) ?_
                  refine wl_go rfl rfl rfl rfl ?_
                  refine wl_call1 (vs := [_, _]) Try.goes5 rfl (same_tt (own_rz (X := []) hOHA (fun _ _ => by simp)) (own_rz (X := []) hO536 (fun _ _ => by simp)) (by omega) (SR.ext hsHA hsRA (fun x => (hmHA x).trans (hmRA x).symm))) rfl ?_
                  rintro _ w544 ⟨rfl, hw545⟩
                  have hE546 := hE533.then hw545
                  have hE547 := hE534.then hw545
                  have hO548 := hO535.evo0 hw545
                  have hO549 := hO536.evo0 hw545
                  have hO550 := hO537.evo0 hw545
                  have hO551 := hO538.evo0 hw545
                  have hO552 := hO539.evo0 hw545
                  have hO553 := hO540.evo0 hw545
                  have hO554 := hO541.evo0 hw545
                  have hO555 := hO542.evo0 hw545
                  have hO556 := hO543.evo0 hw545
                  have hO557 := hOHA.evo0 hw545
                  refine wl_val rfl (ex_pick_t rfl rfl) ?_
                  refine wl_val rfl (ex_move rfl) ?_
                  refine wl_go rfl rfl rfl rfl ?_
                  refine wl_val rfl (ex_move rfl) ?_
                  refine wl_go rfl rfl rfl rfl ?_
                  refine wl_val rfl (ex_move rfl) ?_
                  refine wl_go rfl rfl rfl rfl ?_
                  refine wl_call1 (vs := [_, _]) Try.goes11 rfl (without_ok (rz_any ha0 hE546) (rz_any hb0 hE546) (by omega) (by omega)) rfl ?_
                  rintro _ w558 ⟨lHW, ⟨aHW, cHW, oHW, rfl, hOHW, hGHW, hw559⟩, hsHW, hmHW, hlHW⟩
                  have hA560 := Apart.fresh (Lt.own hO548) hGHW
                  have hA561 := Apart.fresh (Lt.own hO549) hGHW
                  have hA562 := Apart.fresh (Lt.own hO550) hGHW
                  have hA563 := Apart.fresh (Lt.own hO551) hGHW
                  have hA564 := Apart.fresh (Lt.own hO552) hGHW
                  have hA565 := Apart.fresh (Lt.own hO553) hGHW
                  have hA566 := Apart.fresh (Lt.own hO554) hGHW
                  have hA567 := Apart.fresh (Lt.own hO555) hGHW
                  have hA568 := Apart.fresh (Lt.own hO556) hGHW
                  have hA569 := Apart.fresh (Lt.own hO557) hGHW
                  have hG570 := Ge.fresh hE546 hGHW
                  have hG571 := Ge.fresh hE547 hGHW
                  have hE572 := hE546.then hw559
                  have hE573 := hE547.then hw559
                  have hO574 := hO548.evo0 hw559
                  have hO575 := hO549.evo0 hw559
                  have hO576 := hO550.evo0 hw559
                  have hO577 := hO551.evo0 hw559
                  have hO578 := hO552.evo0 hw559
                  have hO579 := hO553.evo0 hw559
                  have hO580 := hO554.evo0 hw559
                  have hO581 := hO555.evo0 hw559
                  have hO582 := hO556.evo0 hw559
                  have hO583 := hO557.evo0 hw559
                  refine wl_go rfl rfl rfl rfl ?_
                  refine wl_val rfl (ex_move rfl) ?_
                  refine wl_go rfl rfl rfl rfl ?_
                  refine wl_call1 (vs := [_, _]) Try.goes5 rfl (same_tt (own_rz (X := []) hOHW (fun _ _ => by simp)) (own_rz (X := []) hO577 (fun _ _ => by simp)) (by omega) (SR.ext hsHW hsRW (fun x => (hmHW x).trans (hmRW x).symm))) rfl ?_
                  rintro _ w584 ⟨rfl, hw585⟩
                  have hE586 := hE572.then hw585
                  have hE587 := hE573.then hw585
                  have hO588 := hO574.evo0 hw585
                  have hO589 := hO575.evo0 hw585
                  have hO590 := hO576.evo0 hw585
                  have hO591 := hO577.evo0 hw585
                  have hO592 := hO578.evo0 hw585
                  have hO593 := hO579.evo0 hw585
                  have hO594 := hO580.evo0 hw585
                  have hO595 := hO581.evo0 hw585
                  have hO596 := hO582.evo0 hw585
                  have hO597 := hO583.evo0 hw585
                  have hO598 := hOHW.evo0 hw585
                  refine wl_val rfl (ex_pick_t rfl rfl) ?_
                  refine wl_val rfl (ex_assign rfl) ?_
                  refine wl_nil (nrm_then ?_)
                  refine cw_ret (body_ret1 rfl rfl ?_)
                  exact ⟨rfl, hE586⟩

end Go.Proofs.Ytebghjbfdpeipaa
