/- The walks of Len, of, Ids, Names, Values, few, awake. -/
import Derived.Test.YtebghjbfdpeipaaJf
import Derived.Test.YtebghjbfdpeipaaJg
import Derived.Test.YtebghjbfdpeipaaIm
namespace Go.Proofs.Ytebghjbfdpeipaa
open Go.Proofs
open Go.W Go.RowKit
attribute [local irreducible] Decidable.decide
set_option linter.unusedSimpArgs false
set_option linter.unusedVariables false
theorem Try.build33 : Build Try.prog 33 #[(0, 1), (1, 1)] #[.string ByteArray.empty, .string ByteArray.empty] := ⟨_, .agg #[.string ByteArray.empty, .string ByteArray.empty], Try.underlying33, by kernel_rfl, rfl, fun w => by kernel_rfl⟩
theorem Try.fld49_0 : fieldB Try.prog 49 0 = some 0 := by kernel_rfl
theorem Try.goes13 : Goes Try.prog 13 := ⟨_, Try.func13, by kernel_rfl, by kernel_rfl⟩
theorem Try.goes14 : Goes Try.prog 14 := ⟨_, Try.func14, by kernel_rfl, by kernel_rfl⟩
theorem Try.goes24 : Goes Try.prog 24 := ⟨_, Try.func24, by kernel_rfl, by kernel_rfl⟩
theorem Try.goes25 : Goes Try.prog 25 := ⟨_, Try.func25, by kernel_rfl, by kernel_rfl⟩
theorem Try.goes28 : Goes Try.prog 28 := ⟨_, Try.func28, by kernel_rfl, by kernel_rfl⟩
theorem Try.goes29 : Goes Try.prog 29 := ⟨_, Try.func29, by kernel_rfl, by kernel_rfl⟩
theorem Try.goes30 : Goes Try.prog 30 := ⟨_, Try.func30, by kernel_rfl, by kernel_rfl⟩
theorem Try.goes31 : Goes Try.prog 31 := ⟨_, Try.func31, by kernel_rfl, by kernel_rfl⟩
theorem Try.goes32 : Goes Try.prog 32 := ⟨_, Try.func32, by kernel_rfl, by kernel_rfl⟩
theorem Try.slice25 : sliceB Try.prog 25 = some (31, 1) := by kernel_rfl
theorem Try.slice31 : sliceB Try.prog 31 = some (33, 2) := by kernel_rfl


section
variable {P : Program} {σ : Env} {w : World} {dst : Option Nat} {T : TypeId} {pos : String} {after : Array Edge} {g : Option (Nat × Bool)}
theorem ex_eqPs {x y : Operand} {t t' : TypeId} {a : Addr} (hx : σ.ev x = some (.pointer (some a))) (hy : σ.ev y = some (.pointer none)) (h : P.underlying t = some (.pointer (P.pointee t))) : Ex P σ ⟨dst, .binOp .eql t x y t', T, pos, after, g⟩ w (.bool false) w := fun ρ hρ => by
  have := Go.run_eql_pointer_nil (P := P) (w := w) t (some a) h
  simp [execOp, hρ x _ hx, hρ y _ hy, eqGuard, this]
theorem ex_eqPn {x y : Operand} {t t' : TypeId} (hx : σ.ev x = some (.pointer none)) (hy : σ.ev y = some (.pointer none)) (h : P.underlying t = some (.pointer (P.pointee t))) : Ex P σ ⟨dst, .binOp .eql t x y t', T, pos, after, g⟩ w (.bool true) w := fun ρ hρ => by
  have := Go.run_eql_pointer_nil (P := P) (w := w) t none h
  simp [execOp, hρ x _ hx, hρ y _ hy, eqGuard, this]
theorem ex_eqlT {x y : Operand} {t t' : TypeId} {k : IntKind} {m n : Int} (hx : σ.ev x = some (.int k m)) (hy : σ.ev y = some (.int k n)) (h : m = n) : Ex P σ ⟨dst, .binOp .eql t x y t', T, pos, after, g⟩ w (.bool true) w := by
  have := ex_eql (P := P) (σ := σ) (dst := dst) (T := T) (pos := pos) (after := after) (g := g) (w := w) (t := t) (t' := t') hx hy
  rwa [decide_eq_true h] at this
end
theorem Try.ptr27 : Try.prog.underlying 27 = some (.pointer (Try.prog.pointee 27)) := by kernel_rfl

theorem len_ok {w : World} {n0 bx N mb : Nat} {D : List En} (h : IxAt w n0 bx N mb D) : Calls Try.prog 25 #[.pointer (some ⟨bx, 0, none⟩)] w (Ret fun v w' => v = .int .i64 (N : Nat) ∧ Evo [] w w') := by
  refine calls_of_cw (N := 9) Try.func25 rfl rfl rfl ?_
  refine cw_seq ?_
  refine cw_region ?_
  refine wl_val rfl (ex_assign rfl) ?_
  refine wl_nil (nrm_then ?_)
  refine cw_seq ?_
  refine cw_seq ?_
  refine cw_region ?_
  refine wl_val rfl (ex_move rfl) ?_
  refine wl_val rfl (ex_eqPs rfl rfl Try.ptr27) ?_
  refine wl_nil (nrm_then ?_)
  refine cw_false rfl ?_
  refine cw_skip (nrm_then ?_)
  refine cw_seq ?_
  refine cw_region ?_
  refine wl_val rfl (ex_move rfl) ?_
  refine wl_val rfl (ex_nilCheck rfl) ?_
  refine wl_val rfl (ex_fieldAddr rfl Try.fld49_0) ?_
  refine wl_val rfl (ex_load1 rfl Try.agg3 (cell_nth (((Evo.refl [] w)).blk0 h.box) rfl)) ?_
  refine wl_val rfl (ex_assign rfl) ?_
  refine wl_nil (nrm_then ?_)
  refine cw_ret (body_ret1 rfl rfl ?_)
  exact ⟨rfl, (Evo.refl [] w)⟩

theorem of_ok {w : World} {n0 bx N mb : Nat} {D : List En} {T : List Tr} {e : En} (h : IxAt w n0 bx N mb D) (hK : Knows D T) (he : e ∈ D) : Calls Try.prog 29 #[.pointer (some ⟨bx, 0, none⟩), .string e.nm] w (Ret fun v w' => v = .map (some e.mb) ∧ Evo [] w w') := by
  refine calls_of_cw (N := 13) Try.func29 rfl rfl rfl ?_
  refine cw_seq ?_
  refine cw_region ?_
  refine wl_val rfl (ex_assign rfl) ?_
  refine wl_nil (nrm_then ?_)
  refine cw_seq ?_
  refine cw_seq ?_
  refine cw_region ?_
  refine wl_val rfl (ex_move rfl) ?_
  refine wl_val rfl (ex_eqPs rfl rfl Try.ptr27) ?_
  refine wl_nil (nrm_then ?_)
  refine cw_false rfl ?_
  refine cw_skip (nrm_then ?_)
  refine cw_seq ?_
  refine cw_region ?_
  refine wl_val rfl (ex_move rfl) ?_
  refine wl_val rfl (ex_nilCheck rfl) ?_
  refine wl_val rfl (ex_fieldAddr rfl Try.fld49_1) ?_
  refine wl_val rfl (ex_load1 rfl Try.agg47 (cell_nth (((Evo.refl [] w)).blk0 h.box) rfl)) ?_
  refine wl_val rfl (ex_move rfl) ?_
  refine wl_val rfl (ex_lookup_eq rfl rfl Try.underlying47 Try.underlying9 (z := .map none) (by kernel_rfl) (h.evo0 (Evo.refl [] w)).map (r := .map (some e.mb)) (by rw [hK.look he]; rfl)) ?_
  refine wl_val rfl (ex_assign rfl) ?_
  refine wl_nil (nrm_then ?_)
  refine cw_ret (body_ret1 rfl rfl ?_)
  exact ⟨rfl, (Evo.refl [] w)⟩

theorem ids_ok {w : World} {n0 bx N mb : Nat} {D : List En} {T : List Tr} {n v : ByteArray} (h : IxAt w n0 bx N mb D) (hK : Knows D T) (hn : ∃ t, t ∈ T ∧ t.1 = n) (hv : ¬ v = ByteArray.mk #[]) (hT : T.length ≤ 100000000) :
    Calls Try.prog 14 #[.pointer (some ⟨bx, 0, none⟩), .string n, .string v] w (Ret fun r w' => ∃ a c ob, r = .slice a (idsOf T n v).length c ∧ OwnS w' 3 1 a (idsOf T n v).length c ((idsOf T n v).map iv) ob ∧ Ge w ob ∧ Evo [] w w') := by
  obtain ⟨t, ht, rfl⟩ := hn
  obtain ⟨e, he, hen, -⟩ := hK.has t ht
  rw [← hen]
  clear hen
  have hlen := idsOf_le T e.nm v
  refine calls_of_cw (N := 18) Try.func14 rfl rfl rfl ?_
  refine cw_seq ?_
  refine cw_region ?_
  refine wl_val rfl (ex_assign rfl) ?_
  refine wl_nil (nrm_then ?_)
  refine cw_seq ?_
  refine cw_seq ?_
  refine cw_region ?_
  refine wl_val rfl (ex_move rfl) ?_
  refine wl_val rfl (ex_eqs rfl rfl) ?_
  refine wl_nil (nrm_then ?_)
  refine cw_if rfl (fun hc8 => ?_) (fun hc8 => ?_)
  · skip
    exact absurd hc8 hv
  · skip
    refine cw_skip (nrm_then ?_)
    refine cw_seq ?_
    refine cw_region ?_
    refine wl_val rfl (ex_move rfl) ?_
    refine wl_val rfl (ex_move rfl) ?_
    refine wl_call1 (vs := [_, _]) Try.goes29 rfl (of_ok h hK he) rfl ?_
    rintro _ w1 ⟨rfl, hw2⟩
    have hE3 := (Evo.refl [] w).then hw2
    have hem := (h.evo0 hE3).ent he
    obtain ⟨V1, o, V2, va, vn, vc, ids, ob, hvs, hgv, hown, -, -, hcase⟩ := hem.find v
    have hids := hK.ids_eq he hvs hcase
    subst hids
    have hvn := own_n hown
    refine wl_val rfl (ex_move rfl) ?_
    refine wl_val rfl (ex_lookup_eq rfl rfl Try.underlying51 Try.underlying9 (z := .slice none 0 0) (by kernel_rfl) hem.1 (r := .slice va vn vc) hgv) ?_
    refine wl_call1 (vs := [_]) Try.goes28 rfl (clone_own hown (by omega)) rfl ?_
    rintro _ w4 ⟨a, c, ob2, rfl, hO, hG, hw5⟩
    have hG6 := Ge.fresh hE3 hG
    have hE7 := hE3.then hw5
    refine wl_val rfl (ex_assign rfl) ?_
    refine wl_nil (nrm_then ?_)
    refine cw_ret (body_ret1 rfl rfl ?_)
    exact ⟨a, c, ob2, rfl, hO, hG6, hE7⟩

theorem mkeys31_ok {w : World} {m : Nat} : Calls Try.prog 31 #[.map (some m)] w (Ret fun v w' => ∃ b, v = .func (.func 46) #[] #[.pointer (some ⟨b, 0, none⟩)] ∧ w'.heap[b]? = some (.cells #[.map (some m)] 47 (0, 0)) ∧ Evo [] w w') := by
  refine calls_of_cw (N := 4) Try.func31 rfl rfl rfl ?_
  refine cw_seq ?_
  refine cw_region ?_
  refine wl_box1 rfl rfl rfl fun bs w1 hB2 hs3 hw4 => ?_
  have hsz_bs := hs3
  have hG5 := Ge.new (Evo.refl [] w) hs3
  have hE6 := (Evo.refl [] w).then hw4
  refine wl_val rfl (ex_assign rfl) ?_
  refine wl_nil (nrm_then ?_)
  refine cw_seq ?_
  refine cw_region ?_
  refine wl_val rfl (ex_makeFunc (vs := [_]) rfl) ?_
  refine wl_val rfl (ex_assign rfl) ?_
  refine wl_nil (nrm_then ?_)
  refine cw_ret (body_ret1 rfl rfl ?_)
  exact ⟨bs, rfl, hB2, hE6⟩

theorem mkeys32_ok {w : World} {m : Nat} : Calls Try.prog 32 #[.map (some m)] w (Ret fun v w' => ∃ b, v = .func (.func 47) #[] #[.pointer (some ⟨b, 0, none⟩)] ∧ w'.heap[b]? = some (.cells #[.map (some m)] 51 (0, 0)) ∧ Evo [] w w') := by
  refine calls_of_cw (N := 4) Try.func32 rfl rfl rfl ?_
  refine cw_seq ?_
  refine cw_region ?_
  refine wl_box1 rfl rfl rfl fun bs w1 hB2 hs3 hw4 => ?_
  have hsz_bs := hs3
  have hG5 := Ge.new (Evo.refl [] w) hs3
  have hE6 := (Evo.refl [] w).then hw4
  refine wl_val rfl (ex_assign rfl) ?_
  refine wl_nil (nrm_then ?_)
  refine cw_seq ?_
  refine cw_region ?_
  refine wl_val rfl (ex_makeFunc (vs := [_]) rfl) ?_
  refine wl_val rfl (ex_assign rfl) ?_
  refine wl_nil (nrm_then ?_)
  refine cw_ret (body_ret1 rfl rfl ?_)
  exact ⟨bs, rfl, hB2, hE6⟩

theorem names_ok {w : World} {n0 bx N mb : Nat} {D : List En} {T : List Tr} (h : IxAt w n0 bx N mb D) (hK : Knows D T) (hT : T.length ≤ 100000000) : Calls Try.prog 15 #[.pointer (some ⟨bx, 0, none⟩)] w (Ret fun v w' => ∃ (ys : List ByteArray) (a : Option Addr) (c : Nat) (ob : Option Nat), v = .slice a ys.length c ∧ ys.Perm (D.map En.nm) ∧ SRs ys ∧ OwnS w' 9 1 a ys.length c (ys.map sv) ob ∧ Ge w ob ∧ Evo [] w w') := by
  have hDl := hK.len_le
  refine calls_of_cw (N := 11) Try.func15 rfl rfl rfl ?_
  refine cw_seq ?_
  refine cw_region ?_
  refine wl_val rfl (ex_assign rfl) ?_
  refine wl_nil (nrm_then ?_)
  refine cw_seq ?_
  refine cw_seq ?_
  refine cw_region ?_
  refine wl_val rfl (ex_move rfl) ?_
  refine wl_val rfl (ex_eqPs rfl rfl Try.ptr27) ?_
  refine wl_nil (nrm_then ?_)
  refine cw_false rfl ?_
  refine cw_skip (nrm_then ?_)
  refine cw_seq ?_
  refine cw_region ?_
  refine wl_val rfl (ex_move rfl) ?_
  refine wl_val rfl (ex_nilCheck rfl) ?_
  refine wl_val rfl (ex_fieldAddr rfl Try.fld49_1) ?_
  refine wl_val rfl (ex_load1 rfl Try.agg47 (cell_nth (((Evo.refl [] w)).blk0 h.box) rfl)) ?_
  refine wl_call1 (vs := [_]) Try.goes31 rfl (mkeys31_ok) rfl ?_
  rintro _ w1 ⟨bs, rfl, hbs, hw2⟩
  have hE3 := (Evo.refl [] w).then hw2
  have hMM := (h.evo0 hE3).map
  refine wl_call1 (vs := [_]) Try.goes30 rfl (sorted_str (keys := D.map En.nm) Try.goes46 (by rw [List.length_map]; omega) (hK.nmN) (fun w1 h1 => by have h2 := (hMM).evo0 h1; have h3 := seq46 (w := w1) (w0 := w1) h1.size (h1.blk0 hbs) h2; rw [List.map_map] at h3; rw [List.length_map] at h3 ⊢; exact h3)) rfl ?_
  rintro _ w4 ⟨ys, a, c, ob, rfl, hP, hS, hO, hG, hw5⟩
  have hG6 := Ge.fresh hE3 hG
  have hE7 := hE3.then hw5
  refine wl_val rfl (ex_assign rfl) ?_
  refine wl_nil (nrm_then ?_)
  refine cw_ret (body_ret1 rfl rfl ?_)
  exact ⟨ys, a, c, ob, rfl, hP, hS, hO, hG6, hE7⟩

theorem values_ok' {w : World} {n0 bx N mb : Nat} {D : List En} {T : List Tr} {e : En} (h : IxAt w n0 bx N mb D) (hK : Knows D T) (he : e ∈ D) (hT : T.length ≤ 100000000) : Calls Try.prog 16 #[.pointer (some ⟨bx, 0, none⟩), .string e.nm] w (Ret fun v w' => ∃ (ys : List ByteArray) (a : Option Addr) (c : Nat) (ob : Option Nat), v = .slice a ys.length c ∧ ys.Perm (e.vs.map Vl.v) ∧ SRs ys ∧ OwnS w' 9 1 a ys.length c (ys.map sv) ob ∧ Ge w ob ∧ Evo [] w w') := by
  have hvl := hK.vs_le he
  have hcl := hK.cnt_le he
  refine calls_of_cw (N := 10) Try.func16 rfl rfl rfl ?_
  refine cw_seq ?_
  refine cw_region ?_
  refine wl_val rfl (ex_assign rfl) ?_
  refine wl_nil (nrm_then ?_)
  refine cw_seq ?_
  refine cw_region ?_
  refine wl_val rfl (ex_move rfl) ?_
  refine wl_val rfl (ex_move rfl) ?_
  refine wl_call1 (vs := [_, _]) Try.goes29 rfl (of_ok h hK he) rfl ?_
  rintro _ w1 ⟨rfl, hw2⟩
  have hE3 := (Evo.refl [] w).then hw2
  refine wl_call1 (vs := [_]) Try.goes32 rfl (mkeys32_ok) rfl ?_
  rintro _ w4 ⟨bs, rfl, hbs, hw5⟩
  have hE6 := hE3.then hw5
  have hMM := ((h.evo0 hE6).ent he).1
  refine wl_call1 (vs := [_]) Try.goes30 rfl (sorted_str (keys := e.vs.map Vl.v) Try.goes47 (by rw [List.length_map]; omega) (hK.vsN e he) (fun w1 h1 => by have h2 := (hMM).evo0 h1; have h3 := seq47 (w := w1) (w0 := w1) h1.size (h1.blk0 hbs) h2; rw [List.map_map] at h3; rw [List.length_map] at h3 ⊢; exact h3)) rfl ?_
  rintro _ w7 ⟨ys, a, c, ob, rfl, hP, hS, hO, hG, hw8⟩
  have hG9 := Ge.fresh hE6 hG
  have hE10 := hE6.then hw8
  refine wl_val rfl (ex_assign rfl) ?_
  refine wl_nil (nrm_then ?_)
  refine cw_ret (body_ret1 rfl rfl ?_)
  exact ⟨ys, a, c, ob, rfl, hP, hS, hO, hG9, hE10⟩


def few0 : List (List LB) := [[(ByteArray.mk #[95, 95, 110, 97, 109, 101, 95, 95], ByteArray.mk #[117, 112]), (ByteArray.mk #[106, 111, 98], ByteArray.mk #[97])], [(ByteArray.mk #[106, 111, 98], ByteArray.mk #[98])], []]
def lrow (l : LB) : List Value := [.string l.1, .string l.2]
theorem own_lbs {X : List Nat} {w : World} {e : TypeId} {a : Option Addr} {m c : Nat} {l : List LB} {ob : Option Nat} (h : OwnS w e 2 a m c (l.map lrow).flatten ob) (hl : l.length = m) (hz : ∀ d, d ∈ l → d.1.size ≤ 1000000000 ∧ d.2.size ≤ 1000000000) (hx : ∀ g, ob = some g → g ∉ X) : RSl 2 RLB X w (.slice a m c) l :=
  RSl.ofOwn (rows := l.map lrow) h ⟨by simp, fun k h1 h2 => by simp only [List.getElem_map]; exact ⟨rfl, rfl, hz _ (List.getElem_mem h1)⟩⟩ hl hx
theorem lb_ok2 {l : List LB} (h1 : ∀ i (h : i < l.length), LabelOk l[i].1 ∧ ¬ l[i].2 = ByteArray.empty ∧ utfOk l[i].2 = true) (h2 : ∀ i (h : i < l.length) j (hj : j < l.length), i = j + 1 → l[j].1.toList < l[i].1.toList) : lbOk l := fun i hi => ⟨(h1 i hi).1, (h1 i hi).2.1, (h1 i hi).2.2, fun j hj e => h2 i hi j hj e⟩

theorem few_ok {w : World} : Calls Try.prog 24 #[] w (Ret fun v w' => RSl 1 (RSlice 2 RLB) [] w' v few0 ∧ Evo [] w w') := by
  refine calls_of_cw (N := 7) Try.func24 rfl rfl rfl ?_
  refine cw_seq ?_
  refine cw_region ?_
  refine wl_val rfl (ex_assign rfl) ?_
  refine wl_nil (nrm_then ?_)
  refine cw_seq ?_
  refine cw_region ?_
  refine wl_val rfl (ex_build (vs := [(0, _), (1, _)]) Try.build33 rfl (cells := [_, _]) rfl) ?_
  refine wl_val rfl (ex_build (vs := [(0, _), (1, _)]) Try.build33 rfl (cells := [_, _]) rfl) ?_
  refine wl_bslice (vs := [_, _]) rfl Try.slice31 rfl rfl rfl rfl fun b1 w2 hO3 hs4 hw5 => ?_
  have hG6 := Ge.new (Evo.refl [] w) hs4
  have hE7 := (Evo.refl [] w).then hw5
  refine wl_val rfl (ex_build (vs := [(0, _), (1, _)]) Try.build33 rfl (cells := [_, _]) rfl) ?_
  refine wl_bslice (vs := [_]) rfl Try.slice31 rfl rfl rfl rfl fun b8 w9 hO10 hs11 hw12 => ?_
  have hA13 := Apart.new (Lt.own hO3) hs11
  have hG14 := Ge.new hE7 hs11
  have hE15 := hE7.then hw12
  have hO16 := hO3.evo0 hw12
  refine wl_bslice (vs := [_, _, _]) rfl Try.slice25 rfl rfl rfl rfl fun b17 w18 hO19 hs20 hw21 => ?_
  have hA22 := Apart.new (Lt.own hO16) hs20
  have hA23 := Apart.new (Lt.own hO10) hs20
  have hG24 := Ge.new hE15 hs20
  have hE25 := hE15.then hw21
  have hO26 := hO16.evo0 hw21
  have hO27 := hO10.evo0 hw21
  refine wl_val rfl (ex_assign rfl) ?_
  refine wl_nil (nrm_then ?_)
  refine cw_ret (body_ret1 rfl rfl ?_)
  have h1 := own_lbs (X := []) (l := [(ByteArray.mk #[95, 95, 110, 97, 109, 101, 95, 95], ByteArray.mk #[117, 112]), (ByteArray.mk #[106, 111, 98], ByteArray.mk #[97])]) hO26 rfl (by decide) (by simp)
  have h2 := own_lbs (X := []) (l := [(ByteArray.mk #[106, 111, 98], ByteArray.mk #[98])]) hO27 rfl (by decide) (by simp)
  have h3 : RSl 2 RLB [] w18 (.slice none 0 0) [] := ⟨none, 0, rfl, by simp, fun k hk => by simp at hk⟩
  refine ⟨RSl.ofOwn (rows := [[_], [_], [_]]) hO19 ⟨rfl, fun k hk hk2 => ?_⟩ rfl (by simp), hE25⟩
  match k, hk, hk2 with
  | 0, _, _ => exact ⟨rfl, _, rfl, h1⟩
  | 1, _, _ => exact ⟨rfl, _, rfl, h2⟩
  | 2, _, _ => exact ⟨rfl, _, rfl, h3⟩


theorem few_va : lbOk [(ByteArray.mk #[95, 95, 110, 97, 109, 101, 95, 95], ByteArray.mk #[117, 112]), (ByteArray.mk #[106, 111, 98], ByteArray.mk #[97])] := lb_ok2 (by decide +kernel) (by decide +kernel)
theorem few_vb : lbOk [(ByteArray.mk #[106, 111, 98], ByteArray.mk #[98])] := lb_ok2 (by decide +kernel) (by decide +kernel)
theorem few_vc : lbOk [] := lb_ok2 (by decide +kernel) (by decide +kernel)
theorem few_valid : ∀ i (h : i < few0.length), lbOk few0[i] := by
  intro i hi
  match i, hi with
  | 0, _ => exact few_va
  | 1, _ => exact few_vb
  | 2, _ => exact few_vc
theorem new_valid {w : World} {v : Value} {sets : List (List LB)} (hs : RSl 1 (RSlice 2 RLB) [] w v sets) (hl1 : sets.length ≤ 2000000) (hl2 : ∀ i (h : i < sets.length), sets[i].length ≤ 2000000) (hl3 : (rowsTo sets sets.length).length ≤ 100000000) (hv : ∀ i (h : i < sets.length), lbOk sets[i]) :
    Calls Try.prog 13 #[v] w (Ret fun r w' => ∃ bx mb D, r = .tuple #[.pointer (some ⟨bx, 0, none⟩), .int .i64 0] ∧ IxAt w' w.heap.size bx sets.length mb D ∧ Knows D (rowsTo sets sets.length) ∧ Evo [] w w') := by
  refine (new_ok hs hl1 hl2 hl3).mono ?_
  rintro e w' ⟨r, rfl, ⟨_, ⟨i, hi, hbad⟩, _⟩ | ⟨bx, mb, D, h1, _, h2, h3, h4⟩⟩
  · exact absurd (hv i hi) hbad
  · exact ⟨_, rfl, bx, mb, D, h1, h2, h3, h4⟩
theorem few_ids : idsOf (rowsTo few0 few0.length) (ByteArray.mk #[106, 111, 98]) (ByteArray.mk #[98]) = [1] := by decide +kernel
theorem few_rows : (rowsTo few0 few0.length).length = 3 := by decide +kernel

theorem awake_ok {w : World} : Calls Try.prog 12 #[] w (Ret fun v w' => v = .bool true ∧ Evo [] w w') := by
  refine calls_of_cw (N := 21) Try.func12 rfl rfl rfl ?_
  refine cw_seq ?_
  refine cw_region ?_
  refine wl_val rfl (ex_assign rfl) ?_
  refine wl_nil (nrm_then ?_)
  refine cw_seq ?_
  refine cw_region ?_
  refine wl_call1 (vs := []) Try.goes24 rfl (few_ok) rfl ?_
  rintro _ w1 ⟨hF, hw2⟩
  have hE3 := (Evo.refl [] w).then hw2
  refine wl_call1 (vs := [_]) Try.goes13 rfl (new_valid hF (by decide) (by decide) (by rw [few_rows]; decide) few_valid) rfl ?_
  rintro _ w4 ⟨bx, mb, D, rfl, hI, hK, hw5⟩
  have hG6 := Ge.fresh hE3 (Ge.nil _)
  have hE7 := hE3.then hw5
  have hI0 := hI
  refine wl_val rfl (ex_move rfl) ?_
  refine wl_val rfl (ex_extract rfl rfl) ?_
  refine wl_val rfl (ex_extract rfl rfl) ?_
  refine wl_val rfl (ex_assign rfl) ?_
  refine wl_val rfl (ex_assign rfl) ?_
  refine wl_nil (nrm_then ?_)
  refine cw_seq ?_
  refine cw_region ?_
  refine wl_val rfl (ex_move rfl) ?_
  refine wl_val rfl (ex_eqlT rfl rfl rfl) ?_
  refine wl_val rfl (ex_move rfl) ?_
  refine wl_go rfl rfl rfl rfl ?_
  refine wl_val rfl (ex_move rfl) ?_
  refine wl_go rfl rfl rfl rfl ?_
  refine wl_call1 (vs := [_]) Try.goes25 rfl (len_ok hI) rfl ?_
  rintro _ w8 ⟨rfl, hw9⟩
  have hE10 := hE7.then hw9
  have hF11 := hI.evo0 hw9
  refine wl_go rfl rfl rfl rfl ?_
  refine wl_val rfl (ex_eqlT rfl rfl rfl) ?_
  refine wl_val rfl (ex_pick_t rfl rfl) ?_
  refine wl_val rfl (ex_move rfl) ?_
  refine wl_go rfl rfl rfl rfl ?_
  refine wl_val rfl (ex_move rfl) ?_
  refine wl_go rfl rfl rfl rfl ?_
  refine wl_call1 (vs := [_, _, _]) Try.goes14 rfl (ids_ok hF11 hK ⟨(ByteArray.mk #[106, 111, 98], ByteArray.mk #[98], 1), mem_ids.1 (by rw [few_ids]; simp), rfl⟩ (by decide) (by rw [few_rows]; decide)) rfl ?_
  rintro _ w12 ⟨la, lc, lob, rfl, hO, hG, hw13⟩
  have hG14 := Ge.fresh hE10 hG
  have hE15 := hE10.then hw13
  have hF16 := hF11.evo0 hw13
  refine wl_go rfl rfl rfl rfl ?_
  refine wl_bslice (vs := [_]) rfl Try.slice22 rfl rfl rfl rfl fun b17 w18 hO19 hs20 hw21 => ?_
  have hA22 := Apart.new (Lt.own hO) hs20
  have hG23 := Ge.new hE15 hs20
  have hE24 := hE15.then hw21
  have hF25 := hF16.evo0 hw21
  have hO26 := hO.evo0 hw21
  refine wl_go rfl rfl rfl rfl ?_
  refine wl_call1 (vs := [_, _]) Try.goes5 rfl (same_tt (d1 := [1]) (d2 := [1]) (by have h := hO26; rw [few_ids] at h ⊢; exact own_rz (X := []) h (fun _ _ => by simp)) (own_rz (X := []) (l := [1]) hO19 (fun _ _ => by simp)) (by simp) rfl) rfl ?_
  rintro _ w27 ⟨rfl, hw28⟩
  have hE29 := hE24.then hw28
  have hF30 := hF25.evo0 hw28
  have hO31 := hO26.evo0 hw28
  have hO32 := hO19.evo0 hw28
  refine wl_val rfl (ex_pick_t rfl rfl) ?_
  refine wl_val rfl (ex_assign rfl) ?_
  refine wl_nil (nrm_then ?_)
  refine cw_ret (body_ret1 rfl rfl ?_)
  exact ⟨rfl, hE29⟩

end Go.Proofs.Ytebghjbfdpeipaa
