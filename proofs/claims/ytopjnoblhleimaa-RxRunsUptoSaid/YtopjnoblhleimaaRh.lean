/- The walks of finding and of Run: the slots out of the notes. -/
import Derived.Test.YtopjnoblhleimaaRg
namespace Go.Proofs.Ytopjnoblhleimaa
open Go.Proofs
open Go.W
attribute [local irreducible] Decidable.decide
set_option linter.unusedSimpArgs false
set_option linter.unusedVariables false
theorem Try.fld90_0 : fieldB Try.prog 90 0 = some 0 := by kernel_rfl
theorem Try.fld90_1 : fieldB Try.prog 90 1 = some 1 := by kernel_rfl
theorem Try.fld90_2 : fieldB Try.prog 90 2 = some 2 := by kernel_rfl
theorem Try.goes28 : Goes Try.prog 28 := ⟨_, Try.func28, by kernel_rfl, by kernel_rfl⟩
theorem Try.goes44 : Goes Try.prog 44 := ⟨_, Try.func44, by kernel_rfl, by kernel_rfl⟩
theorem Try.goes6 : Goes Try.prog 6 := ⟨_, Try.func6, by kernel_rfl, by kernel_rfl⟩


theorem ex_neqPN {P : Program} {σ : Env} {w : World} {dst : Option Nat} {T : TypeId} {pos : String} {after : Array Edge} {g : Option (Nat × Bool)} {x y : Operand} {t t' : TypeId} {q : Option Addr} (hx : σ.ev x = some (.pointer q)) (hy : σ.ev y = some (.pointer none)) (ht : P.underlying t = some (.pointer (P.pointee t))) :
    Ex P σ ⟨dst, .binOp .neq t x y t', T, pos, after, g⟩ w (.bool (!q.isNone)) w := fun ρ h => by
  simp [execOp, h x _ hx, h y _ hy, eqGuard, run_neq_pointer_nil (P := P) w t q ht]
theorem RNote.open {X : List Nat} {w : World} {q : Option Addr} {t : Notes} (h : RNote X w (.pointer q) t) (hq : (!q.isNone) = true) : ∃ b k a q' t', q = some ⟨b, 0, none⟩ ∧ t = (k, a) :: t' ∧ b ∉ X ∧ w.heap[b]? = some (.cells #[iv (k : Nat), iv (a : Nat), .pointer q'] 90 (0, 0)) ∧ RNote X w (.pointer q') t' := by
  cases h with
  | nil => simp at hq
  | cons hx hb h => obtain ⟨q', rfl⟩ := h.ptr; exact ⟨_, _, _, q', _, rfl, rfl, hx, hb, h⟩
theorem RNote.shut {X : List Nat} {w : World} {q : Option Addr} {t : Notes} (h : RNote X w (.pointer q) t) (hq : (!q.isNone) = false) : t = [] := by
  cases h with
  | nil => rfl
  | cons hx hb h => simp at hq
def NOk (n : Nat) (t : Notes) : Prop := ∀ q, q ∈ t → 2 ≤ q.1 ∧ q.1 < n
theorem save_ok {p : Prg} {s : ByteArray} {a i k o : Nat} (hsp : SoundP p) (h : mvOf p s a i = .save k o) : 2 ≤ k ∧ k < nSlots p := by
  unfold mvOf at h
  cases hi : p.insts[i]? with
  | none => rw [hi] at h; cases h
  | some c =>
    rw [hi] at h
    obtain ⟨hlt, hc⟩ := List.getElem?_eq_some_iff.1 hi
    have hs := hsp.2 i hlt hlt
    rw [hc] at hs
    obtain ⟨n1, n2, n3, n4, n5, n6, n7, n8, n9, n10⟩ := hs.1
    simp only [mvI] at h
    by_cases h1 : c.op = 1
    · rw [if_pos h1] at h; cases h
    · rw [if_neg h1] at h
      by_cases h2 : c.op = 2
      · rw [if_pos h2] at h; cases h
      · rw [if_neg h2] at h
        by_cases h3 : c.op = 3
        · rw [if_pos h3] at h; cases h
        · rw [if_neg h3] at h
          by_cases h4 : c.op = 4
          · rw [if_pos h4] at h
            have hk := n7 h4
            cases h
            unfold nSlots
            omega
          · rw [if_neg h4] at h
            split at h <;> cases h
theorem dr_ok {p : Prg} {s : ByteArray} (hsp : SoundP p) {g : List (Nat × Nat × Notes)} {W W' : Wt} {r : Option Notes} (h : Dr (mvOf p s) (nxtOf s) s.size g W r W') (hg : ∀ x, x ∈ g → NOk (nSlots p) x.2.2) : ∀ t, r = some t → NOk (nSlots p) t := by
  induction h with
  | nil => intro t ht; cases ht
  | seen _ _ ih => exact ih (fun x hx => hg x (List.mem_cons_of_mem _ hx))
  | found _ _ _ => intro t ht; cases ht; exact hg _ (List.mem_cons_self ..)
  | mat _ _ _ _ ih => exact ih (fun x hx => hg x (List.mem_cons_of_mem _ hx))
  | rune _ _ _ _ _ ih => exact ih (fun x hx => by rcases List.mem_cons.1 hx with rfl | hx; { have h9 := hg _ (List.mem_cons_self ..); exact h9 }; { exact hg x (List.mem_cons_of_mem _ hx) })
  | miss _ _ _ ih => exact ih (fun x hx => hg x (List.mem_cons_of_mem _ hx))
  | go _ _ _ ih => exact ih (fun x hx => by rcases List.mem_cons.1 hx with rfl | hx; { have h9 := hg _ (List.mem_cons_self ..); exact h9 }; { exact hg x (List.mem_cons_of_mem _ hx) })
  | split _ _ _ ih => exact ih (fun x hx => by rcases List.mem_cons.1 hx with rfl | hx; { have h9 := hg _ (List.mem_cons_self ..); exact h9 }; { rcases List.mem_cons.1 hx with rfl | hx; { have h9 := hg _ (List.mem_cons_self ..); exact h9 }; { exact hg x (List.mem_cons_of_mem _ hx) } })
  | save _ hm _ ih => exact ih (fun x hx => by rcases List.mem_cons.1 hx with rfl | hx; { intro q hq; rcases List.mem_cons.1 hq with rfl | hq; { exact save_ok hsp hm }; { have h9 := hg _ (List.mem_cons_self ..); exact h9 q hq } }; { exact hg x (List.mem_cons_of_mem _ hx) })
  | dead _ _ _ ih => exact ih (fun x hx => hg x (List.mem_cons_of_mem _ hx))
/-- The slots, from the notes' head on; what stands stays. -/
def fillN : List Int → Notes → List Int
  | sl, [] => sl
  | sl, (k, a) :: t => fillN (if sl.getD k 0 < 0 then sl.set k a else sl) t
theorem fill_get : ∀ (t : Notes) (sl : List Int), NOk sl.length t → (fillN sl t).length = sl.length ∧ ∀ k, k < sl.length → (fillN sl t)[k]? = some (if sl.getD k 0 < 0 then (match t.find? (fun q => q.1 == k) with | some q => (q.2 : Int) | none => sl.getD k 0) else sl.getD k 0)
  | [], sl, _ => ⟨rfl, fun k hk => by simp [fillN, hk]⟩
  | (j, a) :: t, sl, h => by
    have hj := h (j, a) (List.mem_cons_self ..)
    have hl : (if sl.getD j 0 < 0 then sl.set j a else sl).length = sl.length := by split <;> simp
    obtain ⟨h1, h2⟩ := fill_get t (if sl.getD j 0 < 0 then sl.set j a else sl) (by rw [hl]; exact fun q hq => h q (List.mem_cons_of_mem _ hq))
    refine ⟨by rw [fillN, h1, hl], fun k hk => ?_⟩
    rw [fillN, h2 k (by rw [hl]; exact hk)]
    congr 1
    have hg : ∀ (l : List Int) (hl2 : k < l.length), l.getD k 0 = l[k] := fun l hl2 => by simp [hl2]
    by_cases hjk : j = k
    · subst hjk
      by_cases h0 : sl.getD j 0 < 0
      · simp only [if_pos h0]
        have e : (sl.set j (a : Int)).getD j 0 = a := by simp [hk]
        rw [e, if_neg (by omega)]
        simp
      · simp only [if_neg h0]
    · have hb : (((j, a) : Nat × Nat).1 == k) = false := by simpa using hjk
      have e : (if sl.getD j 0 < 0 then sl.set j (a : Int) else sl).getD k 0 = sl.getD k 0 := by
        split
        · simp [List.getElem?_set, hjk]
        · rfl
      rw [e]
      simp only [List.find?_cons, hb]
theorem fill_find {n len : Nat} {t : Notes} (hn : 2 ≤ n) (h : NOk n t) : fillN (((List.replicate n (-1 : Int)).set 0 0).set 1 len) t = findOf n len (some t) := by
  have hl : (((List.replicate n (-1 : Int)).set 0 0).set 1 (len : Int)).length = n := by simp
  obtain ⟨h1, h2⟩ := fill_get t (((List.replicate n (-1 : Int)).set 0 0).set 1 len) (by rw [hl]; exact h)
  apply List.ext_getElem?
  intro k
  by_cases hk : k < n
  · rw [h2 k (by rw [hl]; exact hk)]
    have hnone : ∀ j, j < 2 → t.find? (fun q => q.1 == j) = none := fun j hj => by
      rw [List.find?_eq_none]
      intro q hq
      have := h q hq
      simp; omega
    simp only [findOf, slotsOf]
    by_cases k1 : k = 1
    · subst k1
      simp only [List.getD_eq_getElem?_getD]
      simp [hk]
      intro h; omega
    · by_cases k0 : k = 0
      · subst k0; simp [hk]
      · have e : (((List.replicate n (-1 : Int)).set 0 0).set 1 (len : Int)).getD k 0 = -1 := by simp [List.getElem?_set, Ne.symm k1, Ne.symm k0, hk]
        rw [e]
        simp [List.getElem?_set, Ne.symm k1, Ne.symm k0, hk, slotOf]
        cases List.find? (fun q => q.1 == k) t <;> rfl
  · rw [List.getElem?_eq_none (by rw [h1, hl]; omega), List.getElem?_eq_none (by simp [findOf, slotsOf]; omega)]
theorem rep_step {n k : Nat} (hk : k < n) : (List.replicate k (iv (-1)) ++ List.replicate (n - k) (iv 0)).set k (iv (-1)) = List.replicate (k + 1) (iv (-1)) ++ List.replicate (n - (k + 1)) (iv 0) := by
  rw [List.set_append_right _ _ (by simp)]
  simp only [List.length_replicate, Nat.sub_self]
  rw [show n - k = (n - (k + 1)) + 1 by omega, List.replicate_succ, List.set_cons_zero, List.replicate_succ' (n := k), List.append_assoc]
  rfl


theorem Try.ptr86 : Try.prog.underlying 86 = some (.pointer (Try.prog.pointee 86)) := by kernel_rfl
theorem zeros_rep (n : Nat) : zeros #[.int .i64 0] n = List.replicate 0 (iv (-1)) ++ List.replicate (n - 0) (iv 0) := by
  simp only [zeros, List.replicate_zero, List.nil_append, Nat.sub_zero]
  induction n with
  | zero => rfl
  | succ n ih => rw [List.replicate_succ, List.flatten_cons, ih, List.replicate_succ]; rfl

theorem finding_ok {X : List Nat} {w : World} {vs : List Value} {p : Prg} (hp : RPrg X w vs p) (hsp : SoundP p) (s : ByteArray) (hs : s.size ≤ 2097152) :
    Calls Try.prog 28 #[.agg vs.toArray, .string s] w (Ret fun v w' => ∃ a n c l ob, v = .slice a n c ∧ OwnS w' 3 1 a n c (List.map iv l) ob ∧ Ge w ob ∧ RunIs p s l ∧ Evo [] w w') := by
  have hp0 := hp
  obtain ⟨hok, pi0, pn0, rfl, hiv, hnv⟩ := hp
  have hst0 := hok.start
  have hgr := hok.groups
  have hil := hok.ilen
  have hnl := hok.nlen
  obtain ⟨a3, c3, rfl, hl3, e3⟩ := hiv
  obtain ⟨a4, c4, rfl, hl4, e4⟩ := hnv
  obtain ⟨hh1, hh2, hh3, hh4, hh5, hh6, hh7⟩ := hsp.1
  refine calls_of_cw (N := 64) Try.func28 rfl rfl rfl ?_
  refine cw_seq ?_
  refine cw_region ?_
  refine wl_boxA rfl rfl fun b1 w2 hB3 hs4 hw5 => ?_
  have hG6 := Ge.new (Evo.refl [] w) hs4
  have hE7 := (Evo.refl [] w).then hw5
  refine wl_val rfl (ex_assign rfl) ?_
  refine wl_nil (nrm_then ?_)
  refine cw_seq ?_
  refine cw_region ?_
  refine wl_val rfl (ex_loadBlk rfl Try.agg25 Try.size25 hB3 rfl) ?_
  refine wl_val rfl (ex_move rfl) ?_
  refine wl_call1 (vs := [_, _]) Try.goes44 rfl (search_ok (RPrg.pers _ _ _ _ _ ((hE7).any X) hp0) hsp s hs) rfl ?_
  rintro _ w8 ⟨nv, b, r, W', rfl, hpk, hres, hw9⟩
  have hE10 := hE7.then hw9
  have hB11 := hw9.blk0 hB3
  obtain ⟨W2, hdr, -⟩ := pk_dr (nxt_up s) (nxt_le s) _ 0 rfl hpk
  refine wl_val rfl (ex_move rfl) ?_
  refine wl_val rfl (ex_extract rfl rfl) ?_
  refine wl_val rfl (ex_extract rfl rfl) ?_
  refine wl_val rfl (ex_assign rfl) ?_
  refine wl_val rfl (ex_assign rfl) ?_
  refine wl_nil (nrm_then ?_)
  refine cw_seq ?_
  refine cw_seq ?_
  refine cw_region ?_
  refine wl_val rfl (ex_move rfl) ?_
  refine wl_val rfl (ex_notb rfl) ?_
  refine wl_nil (nrm_then ?_)
  refine cw_ifb rfl (fun hc17 => ?_) (fun hc17 => ?_)
  · skip
    have hr : r = none := by rcases hres with h | ⟨t, _, h, _⟩; { exact h.1 }; { rw [h] at hc17; cases hc17 }
    refine cw_seq ?_
    refine cw_region ?_
    refine wl_val rfl (ex_assign rfl) ?_
    refine wl_nil (nrm_then ?_)
    refine cw_ret (ret_then (body_ret1 rfl rfl ?_))
    exact ⟨none, 0, 0, [], none, rfl, OwnS.nil _ _ _, Ge.nil _, .inr ⟨hsp, none, W2, by rw [← hr]; exact hdr, rfl⟩, hE10⟩
  · skip
    obtain ⟨t0, hrt, hb, hNt⟩ : ∃ t, r = some t ∧ b = true ∧ RNote [] _ nv t := by rcases hres with h | h; { rw [h.2] at hc17; cases hc17 }; { exact h }
    obtain ⟨q0, rfl⟩ := hNt.ptr
    have hN : ((nSlots p : Nat) : Int) = 2 * (p.groups + 1) := by unfold nSlots; omega
    have hnok0 := dr_ok hsp hdr (by intro x hx; simp [here] at hx; subst hx; intro q hq; cases hq) t0 hrt
    obtain ⟨N, hNN⟩ : ∃ N, nSlots p = N := ⟨_, rfl⟩
    rw [hNN] at hN
    have hnok : NOk N t0 := by rw [← hNN]; exact hnok0
    refine cw_skip (nrm_then ?_)
    refine cw_seq ?_
    refine cw_region ?_
    refine wl_val rfl (ex_fieldAddr rfl Try.fld25_2) ?_
    refine wl_val rfl (ex_load1 rfl Try.agg3 (cell_nth hB11 rfl)) ?_
    refine wl_val rfl (ex_add_i64 rfl rfl (by omega) (by omega)) ?_
    refine wl_val rfl (ex_mul_i64 rfl rfl (by omega) (by omega)) ?_
    refine wl_make (len := N) (c := N) rfl rfl rfl Try.make33 (by omega) (by omega) (by omega) (by decide) (by omega) (by omega) fun gS w13 hS0 hs15 hw16 => ?_
    have hA17 := Apart.new (Lt.blk hB11) hs15
    have hG18 := Ge.new hE10 hs15
    have hG19 := Ge.new (Evo.refl [] w8) hs15
    have hE20 := hE10.then hw16
    have hE21 := (Evo.refl [] w8).then hw16
    have hB22 := hw16.blk0 hB11
    have hgS : Ge w (some gS) := hG18
    have hgS1 := hG19
    refine wl_val rfl (ex_assign rfl) ?_
    refine wl_nil (nrm_then ?_)
    refine cw_seq ?_
    refine cw_seq ?_
    refine cw_region ?_
    refine wl_val rfl (ex_move rfl) ?_
    refine wl_val rfl (ex_len_slice rfl Try.underlying33 rfl) ?_
    refine wl_val rfl (ex_move rfl) ?_
    refine wl_nil (nrm_then ?_)
    refine cw_block ?_
    refine cw_loop (α := Nat) (0) (fun k => [(25, .int .i64 (k : Nat))]) [(1, _), (4, _), (5, _), (7, _), (24, _)] (fun k wr => Evo [gS] w13 wr ∧ (k ≤ N ∧ OwnS wr 3 1 (some ⟨gS, 0, none⟩) N N (List.replicate k (iv (-1)) ++ List.replicate (N - k) (iv 0)) (some gS))) (fun k => N - k) ⟨rfl, trivial⟩ ⟨rfl, rfl, rfl, rfl, rfl, trivial⟩ ⟨Evo.refl _ _, ⟨Nat.zero_le _, by rw [zeros_rep] at hS0; exact hS0⟩⟩ ?_
    rintro k wr23 ⟨hV24, ⟨hk, hSk⟩⟩
    show CW _ _ _ _ [(25, _), (1, _), (4, _), (5, _), (7, _), (24, _)] _
    have hE25 := hE20.step hV24 (hgS.mem1)
    have hE26 := hE21.step hV24 (hgS1.mem1)
    refine cw_seq ?_
    refine cw_region ?_
    refine wl_val rfl (ex_lss rfl rfl) ?_
    refine wl_nil (nrm_then ?_)
    refine cw_seq ?_
    refine cw_if rfl (fun hc26 => ?_) (fun hc26 => ?_)
    · skip
      refine cw_skip (nrm_then ?_)
      refine cw_seq ?_
      refine cw_block ?_
      refine cw_seq ?_
      refine cw_region ?_
      refine wl_val rfl (ex_move rfl) ?_
      refine wl_val rfl (ex_assign rfl) ?_
      refine wl_nil (nrm_then ?_)
      refine cw_region ?_
      refine wl_val rfl (ex_move rfl) ?_
      refine wl_val rfl (ex_move rfl) ?_
      refine wl_val rfl (ex_indexAddr (n := k) rfl rfl Try.elem33 (by omega)) ?_
      obtain ⟨g36, cur27, hg28, hx29, hcu30, hcs31, -⟩ := hSk.at (by omega)
      cases hx29
      refine wl_store1L rfl rfl (rfl) Try.size3 hcu30 (hSk.inb hcs31 (k := k) (j := 0) (by omega) (by omega) (by omega)) fun w32 hB33 hw34 => ?_
      replace hw34 := evo_ob hg28 hw34
      have hO35 := hSk.set' hg28 hcu30 hB33
      have hE37 := hE25.step hw34 hG18.mem
      have hE38 := hE26.step hw34 hG19.mem
      have hE39 := hV24.step hw34 (by intro y hy; left; simpa using hy)
      have hS2 : OwnS w32 3 1 (some ⟨gS, 0, none⟩) N N ((List.replicate k (iv (-1)) ++ List.replicate (N - k) (iv 0)).set (0 + k * 1) (iv (-1))) (some gS) := hO35
      rw [show 0 + k * 1 = k by omega, rep_step (by omega)] at hS2
      refine wl_nil (nrm_block (nrm_then ?_))
      refine cw_region ?_
      refine wl_val rfl (ex_add_i64 rfl rfl (by omega) (by omega)) ?_
      refine wl_val rfl (ex_move rfl) ?_
      refine wl_nil (nrm_then ?_)
      refine ⟨k + 1, ?_, ⟨rfl, trivial⟩, ⟨rfl, rfl, rfl, rfl, rfl, trivial⟩, hE39, ?_⟩
      · omega
      · skip
        exact ⟨by omega, hS2⟩
    · skip
      have hkN : k = N := by omega
      have hS1 : OwnS wr23 3 1 (some ⟨gS, 0, none⟩) N N (List.map iv (List.replicate N (-1 : Int))) (some gS) := by have h := hSk; rw [hkN, Nat.sub_self, List.replicate_zero, List.append_nil, ← List.map_replicate (f := iv)] at h; exact h
      refine cw_exit (ex_then (ex_then (ex_here (nrm_then ?_))))
      refine cw_seq ?_
      refine cw_region ?_
      refine wl_val rfl (ex_move rfl) ?_
      refine wl_val rfl (ex_move rfl) ?_
      refine wl_val rfl (ex_move rfl) ?_
      refine wl_val rfl (ex_len_str rfl Try.underlying9 rfl) ?_
      refine wl_val rfl (ex_indexAddr (n := 0) rfl rfl Try.elem33 (by omega)) ?_
      obtain ⟨g49, cur40, hg41, hx42, hcu43, hcs44, -⟩ := hS1.at (by omega)
      cases hx42
      refine wl_store1L rfl rfl (rfl) Try.size3 hcu43 (hS1.inb hcs44 (k := 0) (j := 0) (by omega) (by omega) (by omega)) fun w45 hB46 hw47 => ?_
      replace hw47 := evo_ob hg41 hw47
      have hO48 := hS1.set' hg41 hcu43 hB46
      have hE50 := hE25.step hw47 hG18.mem
      have hE51 := hE26.step hw47 hG19.mem
      have hE52 := hV24.step hw47 (by intro y hy; left; simpa using hy)
      refine wl_val rfl (ex_indexAddr (n := 1) rfl rfl Try.elem33 (by omega)) ?_
      obtain ⟨g62, cur53, hg54, hx55, hcu56, hcs57, -⟩ := hO48.at (by omega)
      cases hx55
      refine wl_store1L rfl rfl (rfl) Try.size3 hcu56 (hO48.inb hcs57 (k := 1) (j := 0) (by omega) (by omega) (by omega)) fun w58 hB59 hw60 => ?_
      replace hw60 := evo_ob hg54 hw60
      have hO61 := hO48.set' hg54 hcu56 hB59
      have hE63 := hE50.step hw60 hG18.mem
      have hE64 := hE51.step hw60 hG19.mem
      have hE65 := hE52.step hw60 (by intro y hy; left; simpa using hy)
      have hS5 : OwnS w58 3 1 (some ⟨gS, 0, none⟩) N N (((List.map iv (List.replicate N (-1 : Int))).set (0 + 0 * 1) (iv 0)).set (0 + 1 * 1) (iv (s.size : Nat))) (some gS) := hO61
      rw [show 0 + 0 * 1 = 0 by rfl, show 0 + 1 * 1 = 1 by rfl, ← List.map_set, ← List.map_set] at hS5
      refine wl_nil (nrm_then ?_)
      refine cw_seq ?_
      refine cw_seq ?_
      refine cw_region ?_
      refine wl_val rfl (ex_move rfl) ?_
      refine wl_val rfl (ex_assign rfl) ?_
      refine wl_nil (nrm_then ?_)
      refine cw_block ?_
      refine cw_loop (α := Notes × Option Addr × List Int) ((t0, q0, ((List.replicate N (-1 : Int)).set 0 0).set 1 (s.size : Nat))) (fun x => [(9, .pointer x.2.1)]) [(4, _), (7, _)] (fun x wr => Evo [] w wr ∧ (OwnS wr 3 1 (some ⟨gS, 0, none⟩) N N (List.map iv x.2.2) (some gS) ∧ x.2.2.length = N ∧ RNote [gS] wr (.pointer x.2.1) x.1 ∧ NOk N x.1 ∧ fillN x.2.2 x.1 = findOf N s.size (some t0))) (fun x => x.1.length) ⟨rfl, trivial⟩ ⟨rfl, rfl, trivial⟩ ⟨hE63, ⟨hS5, by simp, (hNt.step hE64 (fun y hy => .inr (hgS1 y (by rw [List.mem_singleton.1 hy])))), hnok, fill_find (by omega) hnok⟩⟩ ?_
      rintro ⟨t, q, sl⟩ wr66 ⟨hV67, ⟨hS, hsl, hNt, hnk, hfl⟩⟩
      show CW _ _ _ _ [(9, .pointer q), (4, _), (7, _)] _
      try dsimp only at hS
      try dsimp only at hsl
      try dsimp only at hNt
      try dsimp only at hnk
      try dsimp only at hfl
      have hE68 := Evo.refl ([gS]) wr66
      refine cw_seq ?_
      refine cw_seq ?_
      refine cw_region ?_
      refine wl_val rfl (ex_move rfl) ?_
      refine wl_val rfl (ex_neqPN rfl rfl Try.ptr86) ?_
      refine wl_nil (nrm_then ?_)
      refine cw_ifb rfl (fun hc40 => ?_) (fun hc40 => ?_)
      · skip
        obtain ⟨nb, k, pa, q1, t1, rfl, rfl, hnx, hnb, hN1⟩ := hNt.open hc40
        have hns : Apart (some nb) (some gS) := fun y h1 h2 => by cases h1; cases h2; exact hnx (by simp)
        have hkN := hnk (k, pa) (List.mem_cons_self ..)
        dsimp only at hkN
        have hget : (List.map iv sl)[k]? = some (iv (sl.getD k 0)) := by simp [show k < sl.length by omega]
        refine cw_skip (nrm_then ?_)
        refine cw_seq ?_
        refine cw_block ?_
        refine cw_seq ?_
        refine cw_region ?_
        refine wl_val rfl (ex_move rfl) ?_
        refine wl_val rfl (ex_move rfl) ?_
        refine wl_val rfl (ex_nilCheck rfl) ?_
        refine wl_val rfl (ex_fieldAddr rfl Try.fld90_0) ?_
        refine wl_val rfl (ex_load1 rfl Try.agg3 (cell_nth hnb rfl)) ?_
        refine wl_val rfl (ex_indexAddr (n := k) rfl rfl Try.elem33 (by omega)) ?_
        refine wl_val rfl (ex_load1 rfl Try.agg3 (hS.get1 hget)) ?_
        refine wl_val rfl (ex_lss rfl rfl) ?_
        refine wl_nil (nrm_then ?_)
        refine cw_if rfl (fun hc52 => ?_) (fun hc52 => ?_)
        · skip
          refine cw_any (fun w0 w' => Evo [] w0 w') (by kernel_rfl) (fun w69 hw70 => ?_)
          have hE71 := hV67.then hw70
          have hE72 := hE68.then hw70
          have hO73 := hS.evo0 hw70
          have hB74 := hw70.blk0 hnb
          refine ae_take 0 rfl (by kernel_rfl) (by kernel_rfl) (by kernel_rfl) rfl (fun _ hS => ex_move rfl) (Evo.refl [] w69) ?_
          refine ae_take 1 rfl (by kernel_rfl) (by kernel_rfl) (by kernel_rfl) rfl (fun _ hS => ex_move rfl) (Evo.refl [] w69) ?_
          refine ae_take 2 rfl (by kernel_rfl) (by kernel_rfl) (by kernel_rfl) rfl (fun _ hS => ex_nilCheck rfl) (Evo.refl [] w69) ?_
          refine ae_take 3 rfl (by kernel_rfl) (by kernel_rfl) (by kernel_rfl) rfl (fun _ hS => ex_fieldAddr rfl Try.fld90_0) (Evo.refl [] w69) ?_
          refine ae_take 4 rfl (by kernel_rfl) (by kernel_rfl) (by kernel_rfl) rfl (fun _ hS => ex_load1 rfl Try.agg3 (cell_nth (hS.blk0 hB74) rfl)) (Evo.refl [] w69) ?_
          refine ae_take 5 rfl (by kernel_rfl) (by kernel_rfl) (by kernel_rfl) rfl (fun _ hS => ex_move rfl) (Evo.refl [] w69) ?_
          refine ae_take 6 rfl (by kernel_rfl) (by kernel_rfl) (by kernel_rfl) rfl (fun _ hS => ex_nilCheck rfl) (Evo.refl [] w69) ?_
          refine ae_take 7 rfl (by kernel_rfl) (by kernel_rfl) (by kernel_rfl) rfl (fun _ hS => ex_fieldAddr rfl Try.fld90_1) (Evo.refl [] w69) ?_
          refine ae_take 8 rfl (by kernel_rfl) (by kernel_rfl) (by kernel_rfl) rfl (fun _ hS => ex_load1 rfl Try.agg3 (cell_nth (hS.blk0 hB74) rfl)) (Evo.refl [] w69) ?_
          refine ae_take 9 rfl (by kernel_rfl) (by kernel_rfl) (by kernel_rfl) rfl (fun _ hS => ex_indexAddr (n := k) rfl rfl Try.elem33 (by omega)) (Evo.refl [] w69) ?_
          refine ae_loud [10] (by kernel_rfl) rfl ⟨?_, trivial⟩
          refine a_step rfl ?_
          obtain ⟨g84, cur75, hg76, hx77, hcu78, hcs79, -⟩ := hO73.at (by omega)
          cases hx77
          refine wl_store1L rfl rfl (rfl) Try.size3 hcu78 (hO73.inb hcs79 (k := k) (j := 0) (by omega) (by omega) (by omega)) fun w80 hB81 hw82 => ?_
          replace hw82 := evo_ob hg76 hw82
          have hO83 := hO73.set' hg76 hcu78 hB81
          have hE85 := hE71.step hw82 hgS.mem
          have hE86 := hE72.step hw82 (fun y hy => .inl (by simpa using hy))
          have hB88 := hw82.blk hB74 hns.nmem
          have hS3 : OwnS w80 3 1 (some ⟨gS, 0, none⟩) N N ((List.map iv sl).set (0 + k * 1) (iv (pa : Nat))) (some gS) := hO83
          rw [show 0 + k * 1 = k by omega, ← List.map_set] at hS3
          refine wl_nil (ae_next (.inr (by kernel_rfl)) ?_)
          refine ae_done (by kernel_rfl) (nrm_block (nrm_then ?_))
          refine cw_region ?_
          refine wl_val rfl (ex_move rfl) ?_
          refine wl_val rfl (ex_nilCheck rfl) ?_
          refine wl_val rfl (ex_fieldAddr rfl Try.fld90_2) ?_
          refine wl_val rfl (ex_load1 rfl Try.agg86 (cell_nth hB88 rfl)) ?_
          refine wl_val rfl (ex_assign rfl) ?_
          refine wl_nil (nrm_then ?_)
          refine ⟨(t1, q1, sl.set k pa), ?_, ⟨rfl, trivial⟩, ⟨rfl, rfl, trivial⟩, hE85, ?_⟩
          · (try dsimp only); simp
          · skip
            try dsimp only
            exact ⟨hS3, by rw [List.length_set]; exact hsl, hN1.step hE86 (fun y hy => .inl hy), fun q hq => hnk q (List.mem_cons_of_mem _ hq), by rw [← hfl, fillN, if_pos hc52]⟩
        · skip
          refine cw_skip (nrm_block (nrm_then ?_))
          refine cw_region ?_
          refine wl_val rfl (ex_move rfl) ?_
          refine wl_val rfl (ex_nilCheck rfl) ?_
          refine wl_val rfl (ex_fieldAddr rfl Try.fld90_2) ?_
          refine wl_val rfl (ex_load1 rfl Try.agg86 (cell_nth hnb rfl)) ?_
          refine wl_val rfl (ex_assign rfl) ?_
          refine wl_nil (nrm_then ?_)
          refine ⟨(t1, q1, sl), ?_, ⟨rfl, trivial⟩, ⟨rfl, rfl, trivial⟩, hV67, ?_⟩
          · (try dsimp only); simp
          · skip
            try dsimp only
            exact ⟨hS, hsl, hN1.step hE68 (fun y hy => .inl hy), fun q hq => hnk q (List.mem_cons_of_mem _ hq), by rw [← hfl, fillN, if_neg hc52]⟩
      · skip
        refine cw_exit (ex_then (ex_then (ex_here (nrm_then ?_))))
        refine cw_seq ?_
        refine cw_region ?_
        refine wl_val rfl (ex_move rfl) ?_
        refine wl_val rfl (ex_assign rfl) ?_
        refine wl_nil (nrm_then ?_)
        refine cw_ret (body_ret1 rfl rfl ?_)
        have hz := hNt.shut hc40
        subst hz
        exact ⟨_, _, _, sl, _, rfl, hS, hgS, .inr ⟨hsp, some t0, W2, by rw [← hrt]; exact hdr, by rw [hNN]; exact hfl⟩, hV67⟩

theorem run_ok {X : List Nat} {w : World} {vs : List Value} {p : Prg} (hp : RPrg X w vs p) (s : ByteArray) (hs : s.size ≤ 2097152) :
    Calls Try.prog 10 #[.agg vs.toArray, .string s] w (Ret fun v w' => ∃ a n c l ob, v = .slice a n c ∧ OwnS w' 3 1 a n c (List.map iv l) ob ∧ Ge w ob ∧ RunIs p s l ∧ Evo [] w w') := by
  have hp0 := hp
  obtain ⟨hok, pi0, pn0, rfl, hiv, hnv⟩ := hp
  refine calls_of_cw (N := 11) Try.func10 rfl rfl rfl ?_
  refine cw_seq ?_
  refine cw_region ?_
  refine wl_boxA rfl rfl fun b1 w2 hB3 hs4 hw5 => ?_
  have hG6 := Ge.new (Evo.refl [] w) hs4
  have hE7 := (Evo.refl [] w).then hw5
  refine wl_val rfl (ex_assign rfl) ?_
  refine wl_nil (nrm_then ?_)
  refine cw_seq ?_
  refine cw_seq ?_
  refine cw_region ?_
  refine wl_val rfl (ex_loadBlk rfl Try.agg25 Try.size25 hB3 rfl) ?_
  refine wl_call1 (vs := [_]) Try.goes6 rfl (Sound_ok (p := p) (RPrg.pers _ _ _ _ _ ((hE7).any X) hp0)) rfl ?_
  rintro _ w8 ⟨bi, rfl, hbi, hw9⟩
  have hE10 := hE7.then hw9
  have hB11 := hw9.blk0 hB3
  refine wl_val rfl (ex_notb rfl) ?_
  refine wl_nil (nrm_then ?_)
  refine cw_ifb rfl (fun hc7 => ?_) (fun hc7 => ?_)
  · skip
    refine cw_seq ?_
    refine cw_region ?_
    refine wl_val rfl (ex_assign rfl) ?_
    refine wl_nil (nrm_then ?_)
    refine cw_ret (ret_then (body_ret1 rfl rfl ?_))
    exact ⟨none, 0, 0, [], none, rfl, OwnS.nil _ _ _, Ge.nil _, .inl ⟨fun h => (by rw [hbi.2 h] at hc7; cases hc7), rfl⟩, hE10⟩
  · skip
    refine cw_skip (nrm_then ?_)
    refine cw_seq ?_
    refine cw_region ?_
    refine wl_val rfl (ex_loadBlk rfl Try.agg25 Try.size25 hB11 rfl) ?_
    refine wl_val rfl (ex_move rfl) ?_
    refine wl_call1 (vs := [_, _]) Try.goes28 rfl (finding_ok (RPrg.pers _ _ _ _ _ ((hE10).any X) hp0) (hbi.1 (by simpa using hc7)) s hs) rfl ?_
    rintro _ w12 ⟨a, n, c, l, ob, rfl, hO, hgo, hR, hw13⟩
    have hgo2 := Ge.fresh hE10 hgo
    have hE14 := hE10.then hw13
    have hB15 := hw13.blk0 hB11
    refine wl_val rfl (ex_assign rfl) ?_
    refine wl_nil (nrm_then ?_)
    refine cw_ret (body_ret1 rfl rfl ?_)
    exact ⟨a, n, c, l, ob, rfl, hO, hgo2, hR, hE14⟩

end Go.Proofs.Ytopjnoblhleimaa
