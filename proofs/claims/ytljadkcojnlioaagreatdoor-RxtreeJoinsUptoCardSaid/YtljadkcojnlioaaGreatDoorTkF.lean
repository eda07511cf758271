/- RxtreeJoins: two patterns in brackets, behind one another and as a choice, are read as the row and the choice of their trees. Conditions: what came in is of bulk at most 1048576 (the form Upto); the library's tables hold what the text of the program lays. -/
import Derived.Test.YtljadkcojnlioaaGreatDoorTkE
set_option linter.unusedSectionVars false
set_option linter.unusedSimpArgs false
set_option linter.unusedVariables false
namespace Go.Proofs.YtljadkcojnlioaaGreatDoor
open Go.RowKit Go.W
abbrev flz : Fl := ⟨false, false, false, false⟩
theorem IX {f : Fl} {c : Int} (hf : f.fold = false) (h0 : 0 ≤ c) (h1 : c ≤ 1114111) : lX f c = lT c := by
  rw [lX, if_neg (by rw [hf]; simp)]
  exact tL (m := [(c, c)]) (OG h0 h1) rfl rfl
theorem RN {a b : Int} (h0 : 0 ≤ a) (h1 : a < b) (h2 : b ≤ 1114111) {S : Int → Prop} (hS : ∀ c, S c ↔ a ≤ c ∧ c ≤ b) : kG S = jS [(a, b)] :=
  pD (rD (yR h0 (by omega) h2) fun c => by rw [jX, hS]) fun _ => by show ¬ a = b; omega
abbrev aL : List Nat := [97, 124, 91, 99, 45, 101, 93, 43, 63]
def aS : ByteArray := ByteArray.mk #[97, 124, 91, 99, 45, 101, 93, 43, 63]
def aT : Rx := lS 5 [lT 97, iY 1 (-1) true (jS [(99, 101)])]
theorem aS_size : aS.size = 9 := rfl
theorem UL : ∀ k, k < aS.size → sb aS k < 128 := by rw [aS_size]; decide +kernel
theorem nxA {k : Nat} (hk : k < 9) : cE aS k = (((sb aS k : Nat) : Int), 1) := BY hk (UL k hk)
theorem UK : jH aS flz 3 = .ok (jS [(99, 101)], 7) := by
  have h1 : jV aS 3 = .ok (99, 4) := by rw [tI (by decide +kernel), nxA (by decide)]; exact congrArg Except.ok (Prod.ext (show ((sb aS 3 : Nat) : Int) = 99 by decide +kernel) rfl)
  have h2 : jV aS 5 = .ok (101, 6) := by rw [tI (by decide +kernel), nxA (by decide)]; exact congrArg Except.ok (Prod.ext (show ((sb aS 5 : Nat) : Int) = 101 by decide +kernel) rfl)
  have h3 : gP aS 3 = .ok (rgS 99 101, 6) := by
    unfold gP
    rw [h1]
    simp only
    rw [if_pos (by decide +kernel), h2]
    simp only
    rw [if_neg (by decide)]
  have h4 : iN aS 3 = .ok (rgS 99 101, 6) := by
    unfold iN
    rw [if_neg (by decide +kernel)]
    unfold jA
    rw [if_neg (by decide +kernel), h3]
  have h5 : eE aS (aS.size + 1) true (fun _ => False) 3 = .ok (unS (fun _ => False) (rgS 99 101), 7) := by
    show eE aS 10 true (fun _ => False) 3 = _
    rw [eE, if_neg (by decide +kernel), if_neg (by decide), h4]
    simp only
    rw [eE, if_neg (by decide +kernel), if_pos (by decide +kernel)]
  unfold jH
  rw [if_neg (show ¬ isB aS 3 94 by decide +kernel), h5]
  simp only
  rw [if_neg (show ¬ isB aS 3 94 by decide +kernel), if_neg (by decide)]
  exact congrArg Except.ok (Prod.ext (RN (by decide) (by decide) (by decide) fun c => by unfold unS rgS; simp) rfl)
theorem UJ : fZ aS = .ok aT := by
  have e1 : gZ aS (iD aS 249) (aS.size + 1) [] false st0 = .ok (lT 97, ⟨1, flz, 0, []⟩) := by
    show gZ aS (iD aS 249) 10 [] false st0 = _
    rw [UF (c := 97) (by decide +kernel) (by decide), lF (st := hY st0 1) (.inr (.inl (by decide +kernel)))]
    show Except.ok (lX flz 97, _) = _
    rw [IX rfl (by decide) (by decide)]
    rfl
  have e2 : gZ aS (iD aS 249) (aS.size + 1) [] false (adv ⟨1, flz, 0, []⟩ 1) = .ok (iY 1 (-1) true (jS [(99, 101)]), ⟨9, flz, 0, []⟩) := by
    show gZ aS (iD aS 249) 10 [] false ⟨2, flz, 0, []⟩ = _
    rw [nV (c := 91) (st := ⟨2, flz, 0, []⟩) (by decide +kernel) (by decide) (pc_cl (by decide +kernel) UK)]
    have hr : kY (aS.extract 7 aS.size) = (1, -1, 1) := by decide +kernel
    rw [sE (lo := 1) (hi := -1) (nn := 1) (st := hY ⟨2, flz, 0, []⟩ 7) (by decide +kernel) hr (by decide) (by decide) (by decide +kernel), lF (.inl (by decide +kernel))]
    rfl
  have e3 : iD aS 250 st0 = .ok (aT, ⟨9, flz, 0, []⟩) := by
    show iU aS (iD aS 249) st0 = _
    rw [qC (show mJ aS (iD aS 249) st0 = _ from e1), sC (st := ⟨1, flz, 0, []⟩) (by decide +kernel) e2, mX (by decide +kernel)]
    rfl
  exact KM (by decide +kernel) ⟨_, JZ UL⟩ e3 (by decide +kernel)
def oS : ByteArray := ByteArray.mk #[40]
theorem SN {s : ByteArray} {ex : PS → PX Rx} {st st2 : PS} {x : Rx} (h : isB s st.pos 40) (hq : ¬ isB s (st.pos + 1) 63) (ho : st.opn ≠ 250) (hl : ¬ zK emp st.names) (hx : ex ⟨st.pos + 1, st.now, st.opn + 1, st.names ++ [emp]⟩ = .ok (x, st2)) (hc : ¬ isB s st2.pos 41) : eM s ex st = .error 80 := by
  rw [DI h, kZ (xT (fun h2 => hq h2.2)) (by simp) ho (by simp) (fun h3 => hl h3.2)]
  show (match ex ⟨st.pos + 1, st.now, st.opn + 1, if true = true then st.names ++ [emp] else st.names⟩ with | .error e => _ | .ok (x, st2) => _) = _
  rw [if_pos rfl, hx]
  simp only
  rw [if_neg hc]
theorem QX : fZ oS = .error 80 := by
  obtain ⟨ex, he⟩ := pExp_ex oS 249
  have e0 : iD oS 249 ⟨1, flz, 1, [emp]⟩ = .ok (rxK 1, ⟨1, flz, 1, [emp]⟩) := by
    rw [he]; exact TB (lF (.inl (by decide +kernel))) (by decide +kernel)
  have e1 : eM oS (iD oS 249) st0 = .error 80 := SN (st := st0) (st2 := ⟨1, flz, 1, [emp]⟩) (by decide +kernel) (by decide +kernel) (by decide) (fun h => h.elim (by decide) (fun h3 => h3.1 rfl)) e0 (by decide +kernel)
  have e2 : iD oS 250 st0 = .error 80 := by
    show iU oS (iD oS 249) st0 = _
    exact TD (tC (c := 40) (by decide +kernel) (by decide) e1)
  exact BQ (by decide +kernel) ⟨_, JZ (by decide +kernel)⟩ e2
theorem IU {c : Int} (h0 : 0 ≤ c) (h1 : c ≤ 1114111) : NodeP (lT c) := ⟨by show (1 : Int) ≤ 2; decide, by show (2 : Int) ≤ 13; decide, .inl rfl, .inr rfl, .inr ⟨rfl, rfl, rfl⟩, .inr ⟨rfl, rfl⟩, fun _ => ⟨h0, h1⟩, fun h => absurd (show (2 : Int) = 3 from h) (by decide), fun h => absurd (show (2 : Int) = 4 ∨ (2 : Int) = 5 from h) (by decide), fun h => absurd (show (2 : Int) = 6 from h) (by decide), fun h => absurd (show (2 : Int) = 7 from h) (by decide), fun _ => rfl⟩
theorem RL {l : List (Int × Int)} (h : RangesOk l) : NodeP (jS l) := ⟨by show (1 : Int) ≤ 3; decide, by show (3 : Int) ≤ 13; decide, .inr rfl, .inl rfl, .inr ⟨rfl, rfl, rfl⟩, .inr ⟨rfl, rfl⟩, fun h => absurd (show (3 : Int) = 2 from h) (by decide), fun _ => h, fun h => absurd (show (3 : Int) = 4 ∨ (3 : Int) = 5 from h) (by decide), fun h => absurd (show (3 : Int) = 6 from h) (by decide), fun h => absurd (show (3 : Int) = 7 from h) (by decide), fun _ => rfl⟩
theorem IT {k : Int} {l : List Rx} (hk : k = 4 ∨ k = 5) (hl : 2 ≤ l.length) : NodeP (lS k l) := ⟨by show (1 : Int) ≤ k; omega, by show k ≤ 13; omega, .inr rfl, .inr rfl, .inr ⟨rfl, rfl, rfl⟩, .inr ⟨rfl, rfl⟩, fun h => by have : k = 2 := h; omega, fun h => by have : k = 3 := h; omega, fun _ => hl, fun h => by have : k = 6 := h; omega, fun h => by have : k = 7 := h; omega, fun h => (h (by show k = 4 ∨ k = 5 ∨ k = 6 ∨ k = 7; omega)).elim⟩
theorem RJ {lo hi : Int} {z : Bool} {x : Rx} (h0 : 0 ≤ lo) (h1 : lo ≤ 1000) (h2 : hi = -1 ∨ (lo ≤ hi ∧ hi ≤ 1000)) : NodeP (iY lo hi z x) := ⟨by show (1 : Int) ≤ 6; decide, by show (6 : Int) ≤ 13; decide, .inr rfl, .inr rfl, .inl rfl, .inr ⟨rfl, rfl⟩, fun h => absurd (show (6 : Int) = 2 from h) (by decide), fun h => absurd (show (6 : Int) = 3 from h) (by decide), fun h => absurd (show (6 : Int) = 4 ∨ (6 : Int) = 5 from h) (by decide), fun _ => ⟨h0, h1, h2, rfl⟩, fun h => absurd (show (6 : Int) = 7 from h) (by decide), fun h => (h (.inr (.inr (.inl rfl)))).elim⟩
theorem rok_one {a b : Int} (h0 : 0 ≤ a) (h1 : a < b) (h2 : b ≤ 1114111) : RangesOk [(a, b)] := by
  refine ⟨fun i hi => ?_, fun _ => by show a ≠ b; omega⟩
  have hi0 : i = 0 := by simpa using hi
  subst hi0
  exact ⟨h0, by show a ≤ b; omega, h2, fun j hj e => by omega⟩
theorem sA {x : Rx} {b : Int} {st : St} (hp : NodeP x) (hk : rQ x.kind) (h7 : x.kind ≠ 7) (h1 : st.1 + 1 ≤ 8194) (hb : b ≤ 250) : x.fine b st = some (st.1 + 1, st.2) := by
  rw [mA ⟨h1, by rw [if_neg h7]; exact hb, hp, fun h => absurd h h7⟩, hp.leaf hk, eI, if_neg h7]
theorem aT_ok : aT.Ok := by
  have hl : ∀ b : Int, b ≤ 250 → ∀ st : St, st.1 + 1 ≤ 8194 → (lT 97).fine b st = some (st.1 + 1, st.2) := fun b hb st h => sA (IU (by decide) (by decide)) (by unfold rQ; decide) (by decide) h hb
  have hc : ∀ b : Int, b ≤ 250 → ∀ st : St, st.1 + 1 ≤ 8194 → (jS [(99, 101)]).fine b st = some (st.1 + 1, st.2) := fun b hb st h => sA (RL (rok_one (by decide) (by decide) (by decide))) (by unfold rQ; decide) (by decide) h hb
  refine ⟨(4, []), ?_⟩
  show (lS 5 [lT 97, iY 1 (-1) true (jS [(99, 101)])]).fine 0 (0, []) = _
  rw [mA ⟨by decide, by decide, IT (.inr rfl) (by decide), fun h => absurd (show (5 : Int) = 7 from h) (by decide)⟩]
  show eI [lT 97, iY 1 (-1) true (jS [(99, 101)])] 5 0 (1, []) = _
  rw [eI, if_neg (show ¬ Brk (lT 97).kind 5 by decide), hl _ (by decide) _ (by decide)]
  simp only
  rw [eI, if_neg (show ¬ Brk (iY 1 (-1) true (jS [(99, 101)])).kind 5 by decide), mA ⟨by decide, by decide, RJ (by decide) (by decide) (.inl rfl), fun h => absurd (show (6 : Int) = 7 from h) (by decide)⟩]
  show (match eI [jS [(99, 101)]] 6 0 (3, []) with | none => none | some st' => eI [] 5 0 st') = _
  rw [eI, if_neg (show ¬ Brk (jS [(99, 101)]).kind 6 by decide), hc _ (by decide) _ (by decide)]
  simp only
  rw [eI]
  simp only
  rw [eI]
theorem aT_txt : uS aT = aL := by
  have h1 : tS 99 = [99] := by rw [tS, if_pos (by decide), show (99 : Int) = ((99 : Nat) : Int) from rfl, lD (by decide)]; rfl
  have h2 : tS 101 = [101] := by rw [tS, if_pos (by decide), show (101 : Int) = ((101 : Nat) : Int) from rfl, lD (by decide)]; rfl
  have h3 : qX 97 = [97] := by rw [qX, if_neg (by decide), if_neg (by decide), show (97 : Int) = ((97 : Nat) : Int) from rfl, lD (by decide)]; rfl
  have h4 : zR [(99, 101)] = [91, 99, 45, 101, 93] := by rw [zR, if_neg (by simp)]; simp [uV, h1, h2]
  have h5 : (lT 97).w = [97] := by rw [Rx.w_eq]; show qX 97 ++ gM 2 true [] ++ [] = _; rw [h3, gM]; rfl
  have h6 : (jS [(99, 101)]).w = [91, 99, 45, 101, 93] := by rw [Rx.w_eq]; show zR [(99, 101)] ++ gM 3 true [] ++ [] = _; rw [h4, gM]; rfl
  have h7 : (iY 1 (-1) true (jS [(99, 101)])).w = [91, 99, 45, 101, 93, 43, 63] := by
    rw [Rx.w_eq]
    show [] ++ gM 6 true [jS [(99, 101)]] ++ ([43] ++ [63]) = _
    rw [gM, gM, h6]; rfl
  have h8 : aT.w = aL := by
    rw [Rx.w_eq]
    show [] ++ gM 5 true [lT 97, iY 1 (-1) true (jS [(99, 101)])] ++ [] = _
    rw [gM, gM, gM, h5, h7]; rfl
  have h9 : aT.ln = false := by
    rw [Rx.ln_eq]
    show (decide ((5 : Int) = 10 ∨ (5 : Int) = 11) || lns [lT 97, iY 1 (-1) true (jS [(99, 101)])]) = false
    rw [lns, lns, lns, Rx.ln_eq, Rx.ln_eq]
    show (_ || (decide ((2 : Int) = 10 ∨ (2 : Int) = 11) || lns [] || (decide ((6 : Int) = 10 ∨ (6 : Int) = 11) || lns [jS [(99, 101)]] || false))) = false
    rw [lns, lns, Rx.ln_eq]
    show (_ || (_ || false || (_ || (decide ((3 : Int) = 10 ∨ (3 : Int) = 11) || lns [] || lns []) || false))) = false
    rw [lns]; decide
  rw [uS, if_neg (by rw [h9]; simp), h8]; rfl
theorem zero_no {x : Rx} (h : x.kind = 0) : ¬ x.Ok := by
  rintro ⟨st, hs⟩
  rw [tQ (fun h2 => by have := h2.2.2.1.kind1; omega)] at hs
  cases hs
theorem aT_show {s : List Nat} {e : Int} (h : ShowIs aT s e) : s = aL ∧ e = 0 := by
  have h2 : ShowIs aT aL 0 := .inr ⟨aT_ok, .inr ⟨by rw [aT_txt]; decide, aT_txt.symm, rfl⟩⟩
  exact h.uniq h2
theorem rrx_up : ∀ {n : Nat} {X : List Nat} {w : World} {vs : List Value} {x : Rx}, RRx n X w vs x → RRx (n + 1) X w vs x := by
  intro n
  induction n with
  | zero => intro X w vs x h; exact h.elim
  | succ n ih =>
    rintro X w vs x ⟨vr, vk, h1, h2, ⟨a, c, hv, hc, h3⟩, h4⟩
    exact ⟨vr, vk, h1, h2, ⟨a, c, hv, hc, fun k hk => by obtain ⟨b, o, us, ha, hb, hl, hcs, hr⟩ := h3 k hk; exact ⟨b, o, us, ha, hb, hl, hcs, ih hr⟩⟩, h4⟩
theorem BJ {n m : Nat} {X : List Nat} {w : World} {vs : List Value} {x : Rx} (h : RRx n X w vs x) (hm : n ≤ m) : RRx m X w vs x := by
  induction hm with
  | refl => exact h
  | step _ ih => exact rrx_up ih
mutual
theorem OT.rrx : ∀ {x : Rx} {w : World} {vs : List Value} {bs X : List Nat}, OT x w vs bs → (∀ b, b ∈ bs → b ∉ X) → ∃ n, RRx n X w vs x
  | .mk k r rs mn mx lz cp nm ks, w, vs, bs, X, h, hX => by
    rw [OT] at h
    obtain ⟨ra, rc, rb, ka, kc, kb, cs, bk, h1, h2, h3, h4, rfl, h5, h6, h7⟩ := h
    obtain ⟨n, hn⟩ := OTs.rrx h4 (X := X) (fun b hb => hX b (List.mem_append_right _ (List.mem_append_right _ hb)))
    refine ⟨n + 1, _, _, h1, own_rrg h2 (fun g hg => hX g (by simp [hg])), ⟨ka, kc, rfl, h3.le, fun j hj => ?_⟩, by show rs.length ≤ _; omega, by show nm.size ≤ _; omega, by show ks.length ≤ _; omega⟩
    obtain ⟨us, hul, huc, hur⟩ := hn j hj
    have hj' : j < ks.length := hj
    obtain ⟨g, hg, ha, hc⟩ := h3.cells (by omega)
    refine ⟨g, 0, us, ha, hX g (by simp [hg]), hul, fun i v hi => ?_, hur⟩
    have := hc _ _ (huc i v hi)
    rw [← Nat.add_assoc] at this
    exact this
theorem OTs.rrx : ∀ {l : List Rx} {w : World} {cs : List Value} {bs X : List Nat}, OTs l w cs bs → (∀ b, b ∈ bs → b ∉ X) → ∃ n, ∀ k (hk : k < l.length), ∃ us, us.length = 9 ∧ (∀ j v, us[j]? = some v → cs[k * 9 + j]? = some v) ∧ RRx n X w us l[k]
  | [], w, cs, bs, X, h, hX => ⟨0, fun k hk => by cases hk⟩
  | x :: l, w, cs, bs, X, h, hX => by
    rw [OTs] at h
    obtain ⟨vs, cs', b1, b2, rfl, rfl, h3, h4⟩ := h
    obtain ⟨n1, hn1⟩ := OT.rrx h3 (X := X) (fun b hb => hX b (List.mem_append_left _ hb))
    obtain ⟨n2, hn2⟩ := OTs.rrx h4 (X := X) (fun b hb => hX b (List.mem_append_right _ hb))
    have hl9 : vs.length = 9 := by obtain ⟨ra, rc, ka, kc, rfl⟩ := h3.nine; rfl
    refine ⟨max n1 n2, fun k hk => ?_⟩
    cases k with
    | zero => exact ⟨vs, hl9, fun j v hj => by rw [Nat.zero_mul, Nat.zero_add, List.getElem?_append_left (List.getElem?_eq_some_iff.1 hj).1]; exact hj, BJ hn1 (Nat.le_max_left _ _)⟩
    | succ k =>
      obtain ⟨us, hu1, hu2, hu3⟩ := hn2 k (by simpa using hk)
      refine ⟨us, hu1, fun j v hj => ?_, BJ hu3 (Nat.le_max_right _ _)⟩
      rw [List.getElem?_append_right (by omega), show (k + 1) * 9 + j - vs.length = k * 9 + j by omega]
      exact hu2 j v hj
end
end Go.Proofs.YtljadkcojnlioaaGreatDoor
namespace Go.Proofs.YtljadkcojnlioaaGreatDoor
open Go.RowKit Go.W
attribute [local irreducible] Decidable.decide
theorem lO : eY Tryz.prog 11 := ⟨_, Tryz.func11, by kernel_rfl, by kernel_rfl⟩
theorem HS : eY Tryz.prog 14 := ⟨_, Tryz.func14, by kernel_rfl, by kernel_rfl⟩
theorem HR : eY Tryz.prog 19 := ⟨_, Tryz.func19, by kernel_rfl, by kernel_rfl⟩
theorem QI {w : World} {s : ByteArray} {x : Rx} (hG : Glb w) (h : fZ s = .ok x) : Calls Tryz.prog 11 #[.string s] w (Ret fun v w' => ∃ vs bs, v = .tuple #[.agg vs.toArray, iv 0] ∧ OT x w' vs bs ∧ Fr w bs ∧ Evo [] w w') := by
  refine (xP s hG).mono ?_
  rintro e w' ⟨v, rfl, hv, h1 | ⟨x2, vs, bs, h2, rfl, h4, h5⟩⟩
  · obtain ⟨e, h1, -⟩ := h1
    rw [h] at h1; cases h1
  · rw [h] at h2; cases h2
    exact ⟨_, rfl, vs, bs, rfl, h4, h5, hv⟩
theorem NH {w : World} {s : ByteArray} {e : Int} (hG : Glb w) (h : fZ s = .error e) : Calls Tryz.prog 11 #[.string s] w (Ret fun v w' => v = .tuple #[zRx, iv e] ∧ Evo [] w w') := by
  refine (xP s hG).mono ?_
  rintro e9 w' ⟨v, rfl, hv, h1 | ⟨x2, vs, bs, h2, rfl, h4, h5⟩⟩
  · obtain ⟨e2, h1, h3⟩ := h1
    rw [h] at h1; cases h1
    exact ⟨_, rfl, h3, hv⟩
  · rw [h] at h2; cases h2
def zX : Rx := .mk 0 0 [] 0 0 false 0 emp []
theorem zX_rx (X : List Nat) (w : World) : RRx 1 X w [iv 0, .int .i32 0, .slice none 0 0, iv 0, iv 0, .bool false, iv 0, .string ByteArray.empty, .slice none 0 0] zX := ⟨_, _, rfl, PK, PK, Nat.zero_le _, Nat.zero_le _, Nat.zero_le _⟩
theorem QQ {w : World} {e : TypeId} {a : Option Addr} {n c : Nat} {l : List ByteArray} {ob : Option Nat} (h : OwnS w e 1 a n c (l.map sv) ob) {k : Nat} (hk : k < l.length) : ∃ g, a = some ⟨g, 0, none⟩ ∧ w.cell? ⟨g, 0 + k * 1, none⟩ = some (.string l[k]) := by
  have hl : l.length = n * 1 := by have := h.length; simpa using this
  obtain ⟨g, hg, ha, hc⟩ := h.cells (by omega)
  refine ⟨g, ha, ?_⟩
  rw [Nat.mul_one]
  exact hc k _ (by simp [hk])
set_option maxHeartbeats 4000000 in
theorem UG {w : World} (hG : Gw w) : Calls Tryz.prog 10 #[] w (Ret fun v w' => v = .bool true ∧ Evo [] w w') := by
  refine bJ (N := 113) Tryz.func10 rfl rfl rfl ?_; refine aE (aB (aM (aC (aA (aE (aB (aK (vs := [_]) lO rfl (QI (s := aS) (hG.evo0 (Evo.refl [] w)).glb UJ) rfl ?_))))))); rintro _ w1 ⟨vs, bs, rfl, hOT, hFr, hw2⟩; have hE3 := (Evo.refl [] w).then hw2; obtain ⟨n1, hx1⟩ := hOT.rrx (X := []) (fun b _ h => by cases h); have hx1' := hx1; obtain ⟨m1, ra1, rc1, ka1, kc1, hm1, rfl, hrg1, hk1, -⟩ := hx1.get; obtain ⟨_, _, hke, -, e1⟩ := hk1; cases hke; obtain ⟨b1, o1, vs1, ha1, -, -, hc1, hr1⟩ := e1 0 (by decide); obtain ⟨m2, ra2, rc2, ka2, kc2, -, rfl, -⟩ := hr1.get; obtain ⟨b2, o2, vs2, ha2, -, -, hc2, hr2⟩ := e1 1 (by decide); obtain ⟨m3, ra3, rc3, ka3, kc3, -, rfl, -, hk3, -⟩ := hr2.get; obtain ⟨_, _, hke3, -, e3⟩ := hk3; cases hke3; obtain ⟨b4, o4, vs4, ha4, -, -, hc4, hr4⟩ := e3 0 (by decide); obtain ⟨m5, ra5, rc5, ka5, kc5, -, rfl, hrg5, -⟩ := hr4.get; obtain ⟨_, _, hke5, -, e5⟩ := hrg5; cases hke5; obtain ⟨b6, o6, vs6, ha6, -, -, hc6, hr6⟩ := e5 0 (by decide); obtain rfl := hr6; refine aG (aF (cN rfl rfl) ?_); refine aF (cN rfl rfl) ?_; refine dA rfl dS fun bx w4 hB5 hs6 hw7 => ?_; have hsz_bx := hs6; refine bI rfl rfl aY hB5 rfl rfl ⟨rfl, rfl, rfl, rfl, rfl, rfl, rfl, rfl, rfl, trivial⟩ fun w12 hB13 hw14 => ?_; have hE15 := (hE3.then hw7).step hw14 (Ge.new hE3 hs6).mem1; have hE16 := ((Evo.refl [] w1).then hw7).step hw14 (Ge.new (Evo.refl [] w1) hs6).mem1
  try simp only [cR, Nat.reduceAdd] at hB13
  refine aM (aC (aA (aE (aE (aB (aG ?_)))))); refine aF (fI (r := .bool false) rfl rfl (fun w => by kernel_rfl)) ?_; refine aG (aQ (aF (aD rfl eS) (aQ (aF (aI rfl aZ (aJ hB13 rfl)) (aQ ?_))))); refine aF (fI (r := .bool false) rfl rfl (fun w => by kernel_rfl)) ?_; refine aR (aG (aQ (aF (aD rfl cH) (aQ (aF (aI rfl dB (aJ hB13 rfl)) (aQ (aF (bK rfl Tryz.underlying25 rfl) ?_))))))); refine aQ ?_; refine aF (fI (r := .bool false) rfl rfl (fun w => by kernel_rfl)) ?_; refine aR (aG (aQ (aF (aD rfl cH) (aQ (aF (aI rfl dB (aJ hB13 rfl)) (aQ ?_))))))
  refine aF (gB (n := 0) (by rw [ha1]; rfl) rfl rfl dT (by decide)) ?_
  refine aQ (aF (aD rfl eR) (aQ ?_)); refine aF (aI rfl cF ((hE16).cell (hc1 1 _ rfl) (by simp))) ?_; refine aQ ?_; refine aF (fI (r := .bool false) rfl rfl (fun w => by kernel_rfl)) ?_; refine aR (aC (aA (cO rfl ?_))); refine aU (aA (aE (aB (aF (aD rfl cH) (aF (aI rfl dB (aJ hB13 rfl)) ?_)))))
  refine aF (gF (n := 1) (by rw [ha2]; rfl) rfl dT (by decide)) ?_
  refine aF (eJ rfl bQ aY (vs := [_, _, _, _, _, _, _, _, _]) rfl (hc2.evo hE16 (by simp))) ?_; refine dA rfl dS fun by9 w17 hB18 hs19 hw20 => ?_; have hsz_by9 := hs19; refine bI rfl rfl aY hB18 rfl rfl ⟨rfl, rfl, rfl, rfl, rfl, rfl, rfl, rfl, rfl, trivial⟩ fun w27 hB28 hw29 => ?_; have hE30 := (hE15.then hw20).step hw29 (Ge.new hE15 hs19).mem1; have hE31 := (hE16.then hw20).step hw29 (Ge.new hE16 hs19).mem1; have hB32 := hw29.blk (hw20.blk0 hB13) (Apart.new (Lt.blk hB13) hs19).nmem1
  try simp only [cR, Nat.reduceAdd] at hB28
  refine aC (aA (aE (aE (aB (aF (aD rfl eS) (aF (aI rfl aZ (aJ hB28 rfl)) ?_)))))); refine aF (fI (r := .bool false) rfl rfl (fun w => by kernel_rfl)) ?_; refine aG (aQ (aF (aD rfl dH) (aQ (aF (aI rfl aZ (aJ hB28 rfl)) (aQ ?_))))); refine aF (fI (r := .bool false) rfl rfl (fun w => by kernel_rfl)) ?_; refine aR (aG (aQ (aF (aD rfl dG) (aQ (aF (aI rfl aZ (aJ hB28 rfl)) (aQ ?_)))))); refine aF (fI (r := .bool false) rfl rfl (fun w => by kernel_rfl)) ?_; refine aR (aG (aQ (aF (aD rfl eH) (aQ (aF (aI rfl dX (aJ hB28 rfl)) (aQ (aF (fF rfl) ?_))))))); refine aR (aG (aQ (aF (aD rfl cH) (aQ (aF (aI rfl dB (aJ hB28 rfl)) (aQ (aF (bK rfl Tryz.underlying25 rfl) ?_))))))); refine aQ ?_; refine aF (fI (r := .bool false) rfl rfl (fun w => by kernel_rfl)) ?_; refine aR (aG (aQ (aF (aD rfl cH) (aQ (aF (aI rfl dB (aJ hB28 rfl)) (aQ ?_))))))
  refine aF (gB (n := 0) (by rw [ha4]; rfl) rfl rfl dT (by decide)) ?_
  refine aQ (aF (aD rfl dU) (aQ ?_)); refine aF (aI rfl fB ((hE31).cell (hc4 2 _ rfl) (by simp))) ?_; refine aQ (aF (bK rfl Tryz.underlying24 rfl) ?_); refine aQ ?_; refine aF (fI (r := .bool false) rfl rfl (fun w => by kernel_rfl)) ?_; refine aR (aG (aQ (aF (aD rfl cH) (aQ (aF (aI rfl dB (aJ hB28 rfl)) (aQ ?_))))))
  refine aF (gB (n := 0) (by rw [ha4]; rfl) rfl rfl dT (by decide)) ?_
  refine aQ (aF (aD rfl dU) (aQ ?_)); refine aF (aI rfl fB ((hE31).cell (hc4 2 _ rfl) (by simp))) ?_; refine aQ ?_
  refine aF (gB (n := 0) (by rw [ha6]; rfl) rfl rfl fE (by decide)) ?_
  refine aQ (aF (aD rfl fG) (aQ ?_)); refine aF (aI rfl cF ((hE31).cell (hc6 1 _ rfl) (by simp))) ?_; refine aQ ?_; refine aF (fI (r := .bool false) rfl rfl (fun w => by kernel_rfl)) ?_; refine aR (aC (aA (cO rfl ?_))); refine aU (aA (aE (aB (aF (bX rfl bQ aY hB32 rfl) ?_)))); refine aK (vs := [_]) HR rfl (Show_ok (hG.evo0 hE30) (RRx.pers _ _ _ _ _ _ hE31 hx1') (by decide +kernel)) rfl ?_; rintro _ w33 ⟨s, e, hsh, rfl, hw34⟩; obtain ⟨rfl, rfl⟩ := aT_show hsh; refine aG (aF (cN rfl rfl) ?_); refine aF (cN rfl rfl) ?_; refine aM (aM (aC (aA (aE (aB (aK (vs := [_]) lO rfl (NH (s := oS) (hG.evo0 (hE30.then hw34)).glb QX) rfl ?_)))))); rintro _ w39 ⟨rfl, hw40⟩; have hE41 := (hE30.then hw34).then hw40; have hE42 := (hE31.then hw34).then hw40; have hB43 := hw40.blk0 (hw34.blk0 hB32); refine aG (aF (cN rfl rfl) ?_); refine aF (cN rfl rfl) ?_; refine dA rfl dS fun b45 w46 hB47 hs48 hw49 => ?_; refine bI rfl rfl aY hB47 rfl rfl ⟨rfl, rfl, rfl, rfl, rfl, rfl, rfl, rfl, rfl, trivial⟩ fun w58 hB59 hw60 => ?_; refine aM (aC (aA (aE (aB (aG ?_))))); refine aF (fI (r := .bool true) rfl rfl (fun w => by kernel_rfl)) ?_; refine aG (aQ (aG (aQ ?_))); refine aF (fI (r := .bool true) rfl rfl (fun w => by kernel_rfl)) ?_; refine bH ?_
  refine aG (aQ (aG (aQ ?_))); refine aF (fI (r := .bool true) rfl rfl (fun w => by kernel_rfl)) ?_; refine bH (aG (aQ ?_)); refine aK (vs := [_]) HS rfl (UM _ (by decide +kernel)) rfl ?_; rintro _ w65 ⟨rfl, hw66⟩; refine aQ ?_; refine aF (fI (r := .bool true) rfl rfl (fun w => by kernel_rfl)) ?_; refine bH (aG (aQ (aF (bX rfl bQ aY (hw66.blk0 (hw60.blk (hw49.blk0 hB43) (Apart.new (Lt.blk hB43) hs48).nmem1)) rfl) (aQ (aK (vs := [_]) rO rfl (xH (RRx.pers _ _ _ _ _ _ (((hE42.then hw49).step hw60 (Ge.new hE42 hs48).mem1).then hw66) hx1')) rfl ?_))))); rintro _ w71 ⟨r, rfl, hr, hw72⟩; obtain rfl : r = true := hr.2 aT_ok; refine bH (aG (aQ (aF (eN (vs := []) dK rfl (cells := [_, _, _, _, _, _, _, _, _]) rfl) ?_))); refine aQ (aK (vs := [_]) rO rfl (xH (zX_rx [] _)) rfl ?_); rintro _ w77 ⟨r2, rfl, hr2, hw78⟩
  obtain rfl : r2 = false := by cases r2 with | false => rfl | true => exact (zero_no rfl (hr2.1 rfl)).elim
  refine aQ (aF (fF rfl) ?_); refine bH (aM (aC (aA (aO (br1 ?_))))); exact ⟨rfl, (((((hE41.then hw49).step hw60 (Ge.new hE41 hs48).mem1).then hw66).then hw72).then hw78)⟩
theorem rP : eY Tryz.prog 13 := ⟨_, Tryz.func13, by kernel_rfl, by kernel_rfl⟩
theorem JR : Tryz.prog.eqGuardType Tryz.prog.depth 56 = false := by kernel_rfl
theorem zV : Tryz.prog.underlying 56 = some (.struct (Tryz.prog.fieldsOf 56)) := by kernel_rfl
theorem OL (a b c d : Int) (w : World) : (Op.equal 56 (.agg #[.int .i32 a, .int .i32 b]) (.agg #[.int .i32 c, .int .i32 d])).run Tryz.prog w = .ok (decide (a = c ∧ b = d)) w := by
  unfold Op.equal Op.maxDepth
  rw [run_equalIn_struct w 9999 56 _ _ zV (by kernel_rfl)]
  by_cases h1 : a = c <;> by_cases h2 : b = d <;> simp [Op.eqFields, Program.fieldsOf, Tryz.underlying56, uU w cF, run_equalIn_int w _ 21 _ _ _ _ Tryz.underlying21, h1, h2]
theorem rx_ext : ∀ {a b : Rx}, a.kind = b.kind → a.r = b.r → a.ranges = b.ranges → a.min = b.min → a.max = b.max → a.lazy = b.lazy → a.cap = b.cap → a.name = b.name → a.kids = b.kids → a = b
  | .mk k r rs mn mx lz cp nm ks, .mk k' r' rs' mn' mx' lz' cp' nm' ks', h1, h2, h3, h4, h5, h6, h7, h8, h9 => by
    obtain rfl : k = k' := h1
    obtain rfl : r = r' := h2
    obtain rfl : rs = rs' := h3
    obtain rfl : mn = mn' := h4
    obtain rfl : mx = mx' := h5
    obtain rfl : lz = lz' := h6
    obtain rfl : cp = cp' := h7
    obtain rfl : nm = nm' := h8
    obtain rfl : ks = ks' := h9
    rfl
set_option maxHeartbeats 4000000 in
theorem JQ {n : Nat} (ih : ∀ {m : Nat} {w : World} {va vb : List Value} {a b : Rx} (ha : RRx n [] w va a) (hb : RRx m [] w vb b), Calls Tryz.prog 13 #[.agg va.toArray, .agg vb.toArray] w (Ret fun v w' => ∃ r, v = .bool r ∧ (r = true ↔ a = b) ∧ Evo [] w w')) {m : Nat} {w : World} {va vb : List Value} {a b : Rx} (ha : RRx (n + 1) [] w va a) (hb : RRx m [] w vb b) : Calls Tryz.prog 13 #[.agg va.toArray, .agg vb.toArray] w (Ret fun v w' => ∃ r, v = .bool r ∧ (r = true ↔ a = b) ∧ Evo [] w w') := by
  obtain ⟨n0, ra, rc, ka, kc, hn0, rfl, hrg, hk, bl1, bl2, bl3⟩ := ha.get; obtain ⟨m0, ra', rc', ka', kc', hm0, rfl, hrg', hk', bl1', bl2', bl3'⟩ := hb.get
  obtain rfl : n0 = n := by omega
  obtain ⟨_, _, hre, -, er⟩ := hrg; cases hre; obtain ⟨_, _, hre', -, er'⟩ := hrg'; cases hre'; obtain ⟨_, _, hke, -, ek⟩ := hk; cases hke; obtain ⟨_, _, hke', -, ek'⟩ := hk'; cases hke'; refine bJ (N := 107) Tryz.func13 rfl rfl rfl ?_; refine aE (aB (kS rfl rfl fun bA w1 hB2 hs3 hw4 => ?_)); have hsz_bA := hs3; refine kS rfl rfl fun bB w7 hB8 hs9 hw10 => ?_; have hsz_bB := hs9; have hE13 := ((Evo.refl [] w).then hw4).then hw10; have hB14 := hw10.blk0 hB2; refine aM (aC (aA (aE (aE (aB (aF (aD rfl eS) (aF (aI rfl aZ (aJ hB14 rfl)) (aF (aD rfl eS) (aF (aI rfl aZ (aJ hB8 rfl)) (aF (fX rfl rfl) ?_)))))))))); refine aG (aV (t := 12) rfl (fun hs12 => ?_) (fun hs12 => ?_))
  ·refine aH (aH (aH (aH (aH (bH (aG (aH (aH (aH (aH (aH (bH (aG (aH ?_)))))))))))))); refine aH (aH (aH (aH (bH (aG (aH (aH (aH (aH (aH (bH (aG (aH (aH ?_)))))))))))))); refine aH (aH (aH (bH (aG (aH (aH (aH (aH (aH (bH (aC (aA (cV rfl ?_))))))))))))); refine aE (aB (aM (aC (aA (aO (aN (br1 ?_)))))))
   exact ⟨false, rfl, (by simp only [Bool.false_eq_true, false_iff]; rintro rfl; exact hs12 rfl), hE13⟩
  refine aQ (aF (aD rfl eR) (aQ (aF (aI rfl cF (aJ hB14 rfl)) (aQ (aF (aD rfl eR) (aQ (aF (aI rfl cF (aJ hB8 rfl)) (aQ (aF (fX rfl rfl) ?_))))))))); refine aR (aG (aV (t := 19) rfl (fun hs19 => ?_) (fun hs19 => ?_)))
  ·refine aH (aH (aH (aH (aH (bH (aG (aH (aH (aH (aH (aH (bH (aG (aH ?_)))))))))))))); refine aH (aH (aH (aH (bH (aG (aH (aH (aH (aH (aH (bH (aG (aH (aH ?_)))))))))))))); refine aH (aH (aH (bH (aC (aA (cV rfl ?_)))))); refine aE (aB (aM (aC (aA (aO (aN (br1 ?_)))))))
   exact ⟨false, rfl, (by simp only [Bool.false_eq_true, false_iff]; rintro rfl; exact hs19 rfl), hE13⟩
  refine aQ (aF (aD rfl dH) (aQ (aF (aI rfl aZ (aJ hB14 rfl)) (aQ (aF (aD rfl dH) (aQ (aF (aI rfl aZ (aJ hB8 rfl)) (aQ (aF (fX rfl rfl) ?_))))))))); refine aR (aG (aV (t := 26) rfl (fun hs26 => ?_) (fun hs26 => ?_)))
  ·refine aH (aH (aH (aH (aH (bH (aG (aH (aH (aH (aH (aH (bH (aG (aH ?_)))))))))))))); refine aH (aH (aH (aH (bH (aG (aH (aH (aH (aH (aH (bH (aC (aA (cV rfl ?_)))))))))))))); refine aE (aB (aM (aC (aA (aO (aN (br1 ?_)))))))
   exact ⟨false, rfl, (by simp only [Bool.false_eq_true, false_iff]; rintro rfl; exact hs26 rfl), hE13⟩
  refine aQ (aF (aD rfl dG) (aQ (aF (aI rfl aZ (aJ hB14 rfl)) (aQ (aF (aD rfl dG) (aQ (aF (aI rfl aZ (aJ hB8 rfl)) (aQ (aF (fX rfl rfl) ?_))))))))); refine aR (aG (aV (t := 33) rfl (fun hs33 => ?_) (fun hs33 => ?_)))
  ·refine aH (aH (aH (aH (aH (bH (aG (aH (aH (aH (aH (aH (bH (aG (aH ?_)))))))))))))); refine aH (aH (aH (aH (bH (aC (aA (cV rfl ?_))))))); refine aE (aB (aM (aC (aA (aO (aN (br1 ?_)))))))
   exact ⟨false, rfl, (by simp only [Bool.false_eq_true, false_iff]; rintro rfl; exact hs33 rfl), hE13⟩
  refine aQ (aF (aD rfl eH) (aQ (aF (aI rfl dX (aJ hB14 rfl)) (aQ (aF (aD rfl eH) (aQ (aF (aI rfl dX (aJ hB8 rfl)) (aQ (aF (ex_neqB rfl rfl Tryz.underlying4) ?_))))))))); refine aR (aG (gU (t := 40) rfl (fun hs40 => ?_) (fun hs40 => ?_)))
  ·refine aH (aH (aH (aH (aH (bH (aG (aH (aH (aH (aH (aH (bH (aC (aA (cV rfl ?_))))))))))))))); refine aE (aB (aM (aC (aA (aO (aN (br1 ?_)))))))
   exact ⟨false, rfl, (by simp only [Bool.false_eq_true, false_iff]; rintro rfl; simp at hs40), hE13⟩
  refine aQ (aF (aD rfl eG) (aQ (aF (aI rfl aZ (aJ hB14 rfl)) (aQ (aF (aD rfl eG) (aQ (aF (aI rfl aZ (aJ hB8 rfl)) (aQ (aF (fX rfl rfl) ?_))))))))); refine aR (aG (aV (t := 47) rfl (fun hs47 => ?_) (fun hs47 => ?_)))
  ·refine aH (aH (aH (aH (aH (bH (aC (aA (cV rfl ?_)))))))); refine aE (aB (aM (aC (aA (aO (aN (br1 ?_)))))))
   exact ⟨false, rfl, (by simp only [Bool.false_eq_true, false_iff]; rintro rfl; exact hs47 rfl), hE13⟩
  refine aQ (aF (aD rfl eF) (aQ (aF (aI rfl cJ (aJ hB14 rfl)) (aQ (aF (aD rfl eF) (aQ (aF (aI rfl cJ (aJ hB8 rfl)) (aQ (aF (tR rfl rfl) ?_))))))))); refine aR (aC (aA (bF rfl (fun hc53 => ?_) (fun hc53 => ?_))))
  ·refine aE (aB (aM (aC (aA (aO (aN (br1 ?_)))))))
   exact ⟨false, rfl, (by simp only [Bool.false_eq_true, false_iff]; rintro rfl; exact hc53 rfl), hE13⟩
  refine aU (aA (aE (aE (aB (aF (aD rfl dU) (aF (aI rfl fB (aJ hB14 rfl)) (aF (bK rfl Tryz.underlying24 rfl) ?_))))))); refine aF (aD rfl dU) (aF (aI rfl fB (aJ hB8 rfl)) (aF (bK rfl Tryz.underlying24 rfl) ?_)); refine aF (fX rfl rfl) ?_; refine aG (aV (t := 61) rfl (fun hs61 => ?_) (fun hs61 => ?_))
  ·refine aH (aH (aH (aH (aH (aH (aH (bH (aC (aA (cV rfl ?_)))))))))); refine aE (aB (aM (aC (aA (aO (aN (br1 ?_)))))))
   exact ⟨false, rfl, (by simp only [Bool.false_eq_true, false_iff]; rintro rfl; exact hs61 rfl), hE13⟩
  refine aQ (aF (aD rfl cH) (aQ (aF (aI rfl dB (aJ hB14 rfl)) (aQ (aF (bK rfl Tryz.underlying25 rfl) ?_))))); refine aQ (aF (aD rfl cH) (aQ (aF (aI rfl dB (aJ hB8 rfl)) (aQ (aF (bK rfl Tryz.underlying25 rfl) ?_))))); refine aQ (aF (fX rfl rfl) ?_); refine aR (aC (aA (bF rfl (fun hc69 => ?_) (fun hc69 => ?_))))
  ·refine aE (aB (aM (aC (aA (aO (aN (br1 ?_)))))))
   exact ⟨false, rfl, (by simp only [Bool.false_eq_true, false_iff]; rintro rfl; exact hc69 rfl), hE13⟩
  refine aU (aA (aE (aE (aB (aM (aC (aA (bR ?_)))))))); refine eV (α := Nat) (0) (fun k => [(5, .int .i64 (k : Nat))]) [(2, _), (3, _)] (fun k wr => Evo [] w7 wr ∧ (k ≤ a.ranges.length ∧ ∀ j (h : j < a.ranges.length) (h2 : j < b.ranges.length), j < k → a.ranges[j] = b.ranges[j])) (fun k => a.ranges.length - k) ⟨rfl, trivial⟩ ⟨rfl, rfl, trivial⟩ ⟨Evo.refl _ _, ⟨Nat.zero_le _, fun j h h2 h3 => by cases h3⟩⟩ ?_; rintro k wr15 ⟨hV16, ⟨hk0, hsm⟩⟩; show CW _ _ _ _ [(5, _), (2, _), (3, _)] _; have hB18 := hV16.blk0 hB14; refine aE (aE (aB (aG (aF (aD rfl dU) (aF (aI rfl fB (aJ hB18 rfl)) (aF (bK rfl Tryz.underlying24 rfl) ?_)))))); refine aF (dF rfl rfl) ?_; refine aC (aA (bF rfl (fun hc74 => ?_) (fun hc74 => ?_)))
  ·have hk1 : k < a.ranges.length := by omega
   have hk2 : k < b.ranges.length := by omega
   obtain ⟨g1, o1, vs1, hg1, -, -, hc1, hr1⟩ := er k hk1; obtain ⟨g2, o2, vs2, hg2, -, -, hc2, hr2⟩ := er' k hk2; obtain rfl := hr1; obtain rfl := hr2; refine aU (aA (aE (bR (aE ?_)))); refine iK (fun w0 w' => Evo [] w0 w') (by kernel_rfl) (fun w20 hw21 => ?_); have hE22 := (hE13.then hV16).then hw21; refine aet 0 rfl (fun _ hS => aD rfl dU) (Evo.refl [] w20) ?_; refine aet 1 rfl (fun _ hS => aI rfl fB (aJ (hS.blk0 (hw21.blk0 hB18)) rfl)) (Evo.refl [] w20) ?_; refine aet 2 rfl (fun _ hS => bO rfl) (Evo.refl [] w20) ?_; refine aet 3 rfl (fun _ hS => eK (n := k) rfl rfl hg1 fE hk1) (Evo.refl [] w20) ?_; refine aet 4 rfl (fun _ hS => eJ rfl kD fY (vs := [_, _]) rfl (hc1.evo (hE22.then hS) (by simp))) (Evo.refl [] w20) ?_; refine aet 5 rfl (fun _ hS => aD rfl dU) (Evo.refl [] w20) ?_; refine aet 6 rfl (fun _ hS => aI rfl fB (aJ (hS.blk0 (hw21.blk0 (hV16.blk0 hB8))) rfl)) (Evo.refl [] w20) ?_; refine aet 7 rfl (fun _ hS => bO rfl) (Evo.refl [] w20) ?_; refine aet 8 rfl (fun _ hS => eK (n := k) rfl rfl hg2 fE hk2) (Evo.refl [] w20) ?_
   refine aet 9 rfl (fun _ hS => eJ rfl kD fY (vs := [_, _]) rfl (hc2.evo (hE22.then hS) (by simp))) (Evo.refl [] w20) ?_; refine aet 10 rfl (fun _ hS => ex_neqA rfl rfl JR (OL _ _ _ _)) (Evo.refl [] w20) ?_; refine fA (by kernel_rfl) (aA ?_); refine bF rfl (fun hc87 => ?_) (fun hc87 => ?_)
   ·refine aE (aB (aM (aC (aA (aO (aX (aN (aN (aX (aN (br1 ?_)))))))))))
    exact ⟨false, rfl, (by simp only [Bool.false_eq_true, false_iff]; rintro rfl; exact hc87 ⟨rfl, rfl⟩), hE22⟩
   refine aU (aW (aA (aB (aG ?_)))); refine aF (bC rfl rfl (by omega) (by omega)) ?_; refine aM (aC (bY ?_)); refine ⟨k + 1, ?_, ⟨rfl, trivial⟩, ⟨rfl, rfl, trivial⟩, (hV16.then hw21), ?_⟩
   · omega
   refine ⟨by omega, fun j h3 h4 h5 => ?_⟩
   by_cases e : j < k
   · exact hsm j h3 h4 e
   · obtain rfl : j = k := by omega
     have h9 := Classical.not_not.1 hc87; exact Prod.ext h9.1 h9.2
  refine dO (cD (cD (dN (aA ?_)))); refine aE (aE (aB (aM (aC (aA (bR ?_)))))); refine eV (α := Nat) (0) (fun j => [(6, .int .i64 (j : Nat))]) [(2, _), (3, _)] (fun j wr => Evo [] wr15 wr ∧ (j ≤ a.kids.length ∧ ∀ i (h : i < a.kids.length) (h2 : i < b.kids.length), i < j → a.kids[i] = b.kids[i])) (fun j => a.kids.length - j) ⟨rfl, trivial⟩ ⟨rfl, rfl, trivial⟩ ⟨Evo.refl _ _, ⟨Nat.zero_le _, fun j h h2 h3 => by cases h3⟩⟩ ?_; rintro j wr26 ⟨hV27, ⟨hj0, hsk⟩⟩; show CW _ _ _ _ [(6, _), (2, _), (3, _)] _; have hE28 := (hE13.then hV16).then hV27; refine aE (aE (aB (aG (aF (aD rfl cH) (aF (aI rfl dB (aJ (hV27.blk0 hB18) rfl)) (aF (bK rfl Tryz.underlying25 rfl) ?_)))))); refine aF (dF rfl rfl) ?_; refine aC (aA (bF rfl (fun hc92 => ?_) (fun hc92 => ?_)))
  ·have hj1 : j < a.kids.length := by omega
   have hj2 : j < b.kids.length := by omega
   obtain ⟨g1, o1, vs1, hg1, -, -, hc1, hr1⟩ := ek j hj1; obtain ⟨g2, o2, vs2, hg2, -, -, hc2, hr2⟩ := ek' j hj2; obtain ⟨m1, ra1, rc1, ka1, kc1, rfl, rfl, -⟩ := id hr1.get; obtain ⟨m2, ra2, rc2, ka2, kc2, -, rfl, -⟩ := id hr2.get; refine aU (aA (aE (bR (aE ?_)))); refine iK (fun w0 w' => Evo [] w0 w') (by kernel_rfl) (fun w32 hw33 => ?_); have hE34 := hE28.then hw33; refine aet 0 rfl (fun _ hS => aD rfl cH) (Evo.refl [] w32) ?_; refine aet 1 rfl (fun _ hS => aI rfl dB (aJ (hS.blk0 (hw33.blk0 (hV27.blk0 hB18))) rfl)) (Evo.refl [] w32) ?_; refine aet 2 rfl (fun _ hS => bO rfl) (Evo.refl [] w32) ?_; refine aet 3 rfl (fun _ hS => eK (n := j) rfl rfl hg1 dT hj1) (Evo.refl [] w32) ?_; refine aet 4 rfl (fun _ hS => eJ rfl bQ aY (vs := [_, _, _, _, _, _, _, _, _]) rfl (hc1.evo (hE34.then hS) (by simp))) (Evo.refl [] w32) ?_; refine aet 5 rfl (fun _ hS => aD rfl cH) (Evo.refl [] w32) ?_; refine aet 6 rfl (fun _ hS => aI rfl dB (aJ (hS.blk0 (hw33.blk0 (hV27.blk0 (hV16.blk0 hB8)))) rfl)) (Evo.refl [] w32) ?_; refine aet 7 rfl (fun _ hS => bO rfl) (Evo.refl [] w32) ?_
   refine aet 8 rfl (fun _ hS => eK (n := j) rfl rfl hg2 dT hj2) (Evo.refl [] w32) ?_; refine aet 9 rfl (fun _ hS => eJ rfl bQ aY (vs := [_, _, _, _, _, _, _, _, _]) rfl (hc2.evo (hE34.then hS) (by simp))) (Evo.refl [] w32) ?_; refine cP [10] (by kernel_rfl) rfl ⟨?_, trivial⟩; refine cU rfl ?_; refine aK (vs := [_, _]) rP rfl (ih (RRx.pers _ _ _ _ _ _ hE34 hr1) (RRx.pers _ _ _ _ _ _ hE34 hr2)) rfl ?_; rintro _ w39 ⟨r, rfl, hr, hw40⟩; have hE41 := hE34.then hw40; have hE44 := (Evo.refl [] w32).then hw40; refine aC (cG (.inl hE44) ?_); refine aet 11 rfl (fun _ hS => fF rfl) hE44 ?_; refine fA (by kernel_rfl) (aA ?_); refine fW rfl (fun hc106 => ?_) (fun hc106 => ?_)
   ·refine aE (aB (aM (aC (aA (aO (aX (aN (aN (aX (aN (br1 ?_)))))))))))
    exact ⟨false, rfl, (by simp only [Bool.false_eq_true, false_iff]; rintro rfl; rw [hr.2 rfl] at hc106; cases hc106), hE41⟩
   refine aU (aW (aA (aB (aG ?_)))); refine aF (bC rfl rfl (by omega) (by omega)) ?_; refine aM (aC (bY ?_)); refine ⟨(j + 1), ?_, ⟨rfl, trivial⟩, ⟨rfl, rfl, trivial⟩, ((hV27.then hw33).then hw40), ?_⟩
   · omega
   refine ⟨by omega, fun i h3 h4 h5 => ?_⟩
   by_cases e : i < j
   · exact hsk i h3 h4 e
   · obtain rfl : i = j := by omega
     exact hr.1 (by simpa using hc106)
  refine dO (cD (cD (dN (aA ?_)))); refine aE (aB (aM (aC (aA (aO (br1 ?_))))))
  refine ⟨true, rfl, by simp only [true_iff]; exact rx_ext (by omega) (by omega) (List.ext_getElem (by omega) fun i h3 h4 => hsm i h3 h4 (by omega)) (by omega) (by omega) (by simpa using hs40) (by omega) (Classical.not_not.1 hc53) (List.ext_getElem (by omega) fun i h3 h4 => hsk i h3 h4 (by omega)), hE28⟩
theorem zD : ∀ {n : Nat} {m : Nat} {w : World} {va vb : List Value} {a b : Rx} (ha : RRx n [] w va a) (hb : RRx m [] w vb b), Calls Tryz.prog 13 #[.agg va.toArray, .agg vb.toArray] w (Ret fun v w' => ∃ r, v = .bool r ∧ (r = true ↔ a = b) ∧ Evo [] w w')
  | 0, m, w, va, vb, a, b, ha, hb => ha.elim
  | n + 1, m, w, va, vb, a, b, ha, hb => JQ (n := n) (fun ha hb => zD ha hb) ha hb
end Go.Proofs.YtljadkcojnlioaaGreatDoor
namespace Go.Proofs.YtljadkcojnlioaaGreatDoor
open Go.RowKit Go.W
def Bdd (S : Int → Prop) : Prop := ∀ c, S c → 0 ≤ c ∧ c ≤ 1114111
theorem TV (S : Int → Prop) (M : Int) (hM : M = 1114112) : ∀ n : Nat, ∃ l, jR (M - n) l ∧ ∀ c, InR c l ↔ (M - n ≤ c ∧ c ≤ 1114111 ∧ S c)
  | 0 => ⟨[], trivial, fun c => ⟨fun h => (kO c h).elim, fun h => by omega⟩⟩
  | n + 1 => by
    obtain ⟨l, h1, h2⟩ := TV S M hM n
    have e : M - (n + 1 : Nat) = M - n - 1 := by omega
    by_cases hs : S (M - (n + 1 : Nat))
    · cases l with
      | nil =>
        refine ⟨[(M - (n + 1 : Nat), M - (n + 1 : Nat))], ⟨Int.le_refl _, Int.le_refl _, by omega, trivial⟩, fun c => ?_⟩
        rw [jX]
        constructor
        · intro h; obtain rfl : c = M - (n + 1 : Nat) := by simp only at h; omega
          exact ⟨by omega, by omega, hs⟩
        · rintro ⟨h3, h4, h5⟩
          by_cases hc : c = M - (n + 1 : Nat)
          · simp only; omega
          · exact (kO c ((h2 c).2 ⟨by omega, h4, h5⟩)).elim
      | cons g l =>
        obtain ⟨g1, g2, g3, g4⟩ := h1
        by_cases hg : g.1 = M - n
        · refine ⟨(M - (n + 1 : Nat), g.2) :: l, ⟨Int.le_refl _, by simp only; omega, g3, g4⟩, fun c => ?_⟩
          have h2c := h2 c
          rw [fQ] at h2c ⊢
          simp only
          constructor
          · intro h
            by_cases hc : c = M - (n + 1 : Nat)
            · exact ⟨by omega, by omega, by rw [hc]; exact hs⟩
            · have := h2c.1 (h.imp (fun h => ⟨by omega, h.2⟩) id)
              exact ⟨by omega, this.2⟩
          · rintro ⟨h3, h4, h5⟩
            by_cases hc : c = M - (n + 1 : Nat)
            · left; omega
            · rcases h2c.2 ⟨by omega, h4, h5⟩ with h | h
              · left; omega
              · exact .inr h
        · refine ⟨(M - (n + 1 : Nat), M - (n + 1 : Nat)) :: g :: l, ⟨Int.le_refl _, Int.le_refl _, by simp only; omega, by simp only; omega, g2, g3, g4⟩, fun c => ?_⟩
          have h2c := h2 c
          rw [fQ]
          simp only
          constructor
          · rintro (h | h)
            · obtain rfl : c = M - (n + 1 : Nat) := by omega
              exact ⟨by omega, by omega, hs⟩
            · have := h2c.1 h
              exact ⟨by omega, this.2⟩
          · rintro ⟨h3, h4, h5⟩
            by_cases hc : c = M - (n + 1 : Nat)
            · left; omega
            · exact .inr (h2c.2 ⟨by omega, h4, h5⟩)
    · refine ⟨l, DD h1 (by omega), fun c => ?_⟩
      rw [h2 c]
      constructor
      · rintro ⟨h3, h4⟩; exact ⟨by omega, h4⟩
      · rintro ⟨h3, h4, h5⟩
        have : c ≠ M - (n + 1 : Nat) := fun h => hs (by rw [← h]; exact h5)
        exact ⟨by omega, h4, h5⟩
theorem pK {S : Int → Prop} (hS : Bdd S) : sH (jP S) ∧ ∀ c, InR c (jP S) ↔ S c := by
  obtain ⟨l, h1, h2⟩ := TV S 1114112 rfl 1114112
  have h1' : sH l := by rw [show ((1114112 : Int) - (1114112 : Nat)) = 0 by omega] at h1; exact h1
  have h2' : ∀ c, InR c l ↔ S c := fun c => (h2 c).trans ⟨fun h => h.2.2, fun h => ⟨by have := (hS c h).1; omega, (hS c h).2, h⟩⟩
  rw [rD h1' h2']
  exact ⟨h1', h2'⟩
theorem qW (S : Int → Prop) : (∃ a, jP S = [(a, a)] ∧ kG S = lT a) ∨ (kG S = jS (jP S)) := by
  generalize h : jP S = l
  match l, h with
  | [], h => exact .inr (pD h (fun h1 => by simp at h1))
  | [(a, b)], h =>
    by_cases e : a = b
    · subst e; exact .inl ⟨a, rfl, tL h rfl rfl⟩
    · exact .inr (pD h (fun _ => e))
  | g :: g2 :: l, h => exact .inr (pD h (fun h1 => by simp at h1))
theorem mH {l : List (Int × Int)} (h : l.all (fun g => decide (0 ≤ g.1) && decide (g.2 ≤ 1114111)) = true) : Bdd (rs l) := by
  rintro c ⟨g, hg, h1⟩
  have := List.all_eq_true.1 h g hg
  simp at this
  omega
theorem wV (S : Int → Prop) : Bdd (tM S) := fun c h => ⟨h.1, h.2.1⟩
theorem yJ {S : Int → Prop} (h : Bdd S) : Bdd (nG S) := by
  rintro c (h1 | h1 | h1)
  · exact h c h1
  · omega
  · omega
theorem OV {S T : Int → Prop} (h1 : Bdd S) (h2 : Bdd T) : Bdd (unS S T) := fun c h => h.elim (h1 c) (h2 c)
theorem LJ {c : Nat} {S : Int → Prop} (h : tO c = some S) : Bdd S := by
  unfold tO at h
  repeat' split at h
  all_goals first | (cases h; done) | (cases h; exact wV _) | (cases h; exact mH (by decide))
theorem lZ {p : Prop} [Decidable p] {A S : Int → Prop} {o : Option (Int → Prop)} (h : (if p then some A else o) = some S) (hA : Bdd A) (ho : o = some S → Bdd S) : Bdd S := by
  by_cases hp : p
  · rw [if_pos hp] at h; cases h; exact hA
  · rw [if_neg hp] at h; exact ho h
theorem namS_bd {n : ByteArray} {S : Int → Prop} (h : jO n = some S) : Bdd S :=
  (fun h => lZ h (mH (by decide)) (fun h => lZ h (mH (by decide)) (fun h => lZ h (mH (by decide)) (fun h => lZ h (mH (by decide)) (fun h => lZ h (mH (by decide)) (fun h => lZ h (mH (by decide)) (fun h => lZ h (mH (by decide)) (fun h => lZ h (mH (by decide)) (fun h => lZ h (mH (by decide)) (fun h => lZ h (mH (by decide)) (fun h => lZ h (mH (by decide)) (fun h => lZ h (mH (by decide)) (fun h => lZ h (mH (by decide)) (fun h => lZ h (mH (by decide)) (fun h => by cases h))))))))))))))) h
theorem ID {a b : Int} (h0 : 0 ≤ a) (h1 : b ≤ 1114111) : Bdd (rgS a b) := fun c h => by unfold rgS at h; omega
theorem AG {s : ByteArray} {i j : Nat} {S : Int → Prop} (h : gP s i = .ok (S, j)) (hb : Bd s i) (hi : i < s.size) : Bdd S := by
  unfold gP at h
  cases h1 : jV s i with
  | error e => rw [h1] at h; cases h
  | ok p =>
    obtain ⟨lo, m⟩ := p
    obtain ⟨b1, b2, b3, b4⟩ := jU h1 hb hi
    rw [h1] at h
    simp only at h
    split at h
    · rename_i hd
      cases h3 : jV s (m + 1) with
      | error e => rw [h3] at h; cases h
      | ok q =>
        obtain ⟨hi9, m2⟩ := q
        rw [h3] at h
        simp only at h
        split at h
        · cases h
        · have b5 := (b1.asc hd.1.1 (by rw [hd.1.2]; decide)).1
          have b6 := jU h3 b5 hd.2.1
          cases h
          exact ID b3 b6.2.2.2
    · cases h; exact ID b3 b4
theorem AJ {s : ByteArray} {i j : Nat} {S : Int → Prop} (h : jA s i = .ok (S, j)) (hb : Bd s i) (hi : i < s.size) : Bdd S := by
  unfold jA at h
  split at h
  · split at h
    · cases h; exact LJ (by assumption)
    · exact AG h hb hi
  · exact AG h hb hi
theorem QO {s : ByteArray} {i j : Nat} {S : Int → Prop} (h : iN s i = .ok (S, j)) (hb : Bd s i) (hi : i < s.size) : Bdd S := by
  unfold iN at h
  split at h
  · split at h
    · exact AJ h hb hi
    · split at h
      · split at h
        · cases h
        · cases h; exact wV _
      · split at h
        · cases h
        · cases h; exact namS_bd (by assumption)
  · exact AJ h hb hi
theorem AI {s : ByteArray} : ∀ {f i j : Nat} {fst : Bool} {S T : Int → Prop}, eE s f fst S i = .ok (T, j) → Bd s i → Bdd S → Bdd T
  | 0, i, j, fst, S, T, h, hb, hS => by rw [eE] at h; cases h
  | f + 1, i, j, fst, S, T, h, hb, hS => by
    rw [eE] at h
    split at h
    · cases h
    · split at h
      · cases h; exact hS
      · split at h
        · cases h
        · rename_i h1
          exact AI h (pT h1 hb (by omega)).1 (OV hS (QO h1 hb (by omega)))
def Pc (o : Int) (ns ns' : List ByteArray) (q : Nat) (x : Rx) (K : Int → Prop) : Prop :=
  ∀ k, K k → ∀ (b : Int) (c : Nat), b ≤ o → c + q ≤ 8194 → x.fine (b + if Brk x.kind k then 1 else 0) (c, ns) = some (c + q, ns')
abbrev KA : Int → Prop := fun _ => True
abbrev KR : Int → Prop := fun k => k ≠ 6
abbrev KE : Int → Prop := fun k => k = 5 ∨ k = 7
theorem Pc.mono {o : Int} {ns ns' : List ByteArray} {q : Nat} {x : Rx} {K L : Int → Prop} (h : Pc o ns ns' q x K) (hL : ∀ k, L k → K k) : Pc o ns ns' q x L := fun k hk => h k (hL k hk)
theorem Pc.fine {o : Int} {ns ns' : List ByteArray} {q : Nat} {x : Rx} {K : Int → Prop} (h : Pc o ns ns' q x K) (h7 : K 7) {b : Int} {c : Nat} (hb : b ≤ o) (hc : c + q ≤ 8194) : x.fine b (c, ns) = some (c + q, ns') := by
  have := h 7 h7 b c hb hc
  rw [if_neg (by unfold Brk; omega), Int.add_zero] at this
  exact this
theorem FX {a : Int} (h : a ≠ 4 ∧ a ≠ 5 ∧ a ≠ 6 ∧ a ≠ 7) : rQ a := by unfold rQ; omega
theorem brk_no {a k : Int} (h : a ≠ 1 ∧ a ≠ 4 ∧ a ≠ 5 ∧ a ≠ 6) : ¬ Brk a k := by unfold Brk; omega
section
variable {o : Int} {ns ns' : List ByteArray} {q : Nat} {x : Rx}
theorem wR (hp : NodeP x) (hl : rQ x.kind) (h1 : x.kind ≠ 1) (ho : o ≤ 250) : Pc o ns ns 1 x KA := by
  intro k _ b c hb hc
  unfold rQ at hl
  rw [if_neg (by unfold Brk; omega), Int.add_zero]
  exact sA (st := (c, ns)) hp hl (by omega) hc (by omega)
theorem np_k {k : Int} (h : k = 1 ∨ (8 ≤ k ∧ k ≤ 13)) : NodeP (rxK k) := ⟨by show (1 : Int) ≤ k; omega, by show k ≤ 13; omega, .inr rfl, .inr rfl, .inr ⟨rfl, rfl, rfl⟩, .inr ⟨rfl, rfl⟩, fun h9 => by have : k = 2 := h9; omega, fun h9 => by have : k = 3 := h9; omega, fun h9 => by have : k = 4 ∨ k = 5 := h9; omega, fun h9 => by have : k = 6 := h9; omega, fun h9 => by have : k = 7 := h9; omega, fun _ => rfl⟩
theorem QF (ho : o ≤ 250) : Pc o ns ns 1 (rxK 1) KE := by
  intro k hk b c hb hc
  rw [if_neg (show ¬ Brk (rxK 1).kind k by show ¬ Brk 1 k; unfold Brk; have : k = 5 ∨ k = 7 := hk; omega), Int.add_zero]
  exact sA (st := (c, ns)) (np_k (.inl rfl)) (FX (a := 1) (by decide)) (by show (1 : Int) ≠ 7; decide) hc (by omega)
theorem FI {k : Int} (h : 8 ≤ k ∧ k ≤ 13) (ho : o ≤ 250) : Pc o ns ns 1 (rxK k) KA := wR (np_k (.inr h)) (FX (a := k) (by omega)) (by show k ≠ 1; omega) ho
theorem GZ {l : List (Int × Int)} (h : sH l) (h1 : ∀ h : l.length = 1, l[0].1 ≠ l[0].2) : RangesOk l := by
  have key : ∀ (l : List (Int × Int)) (d : Int), 0 ≤ d → jR d l → ∀ i (h : i < l.length), d ≤ l[i].1 ∧ l[i].1 ≤ l[i].2 ∧ l[i].2 ≤ 1114111 ∧ ∀ j (hj : j < l.length), i = j + 1 → l[j].2 + 1 < l[i].1 := by
    intro l
    induction l with
    | nil => intro d hd hc i hi; cases hi
    | cons g l ih =>
      rintro d hd ⟨c1, c2, c3, c4⟩ i hi
      cases i with
      | zero => exact ⟨c1, c2, c3, fun j hj e => by omega⟩
      | succ i =>
        obtain ⟨e1, e2, e3, e4⟩ := ih (g.2 + 2) (by omega) c4 i (by simpa using hi)
        refine ⟨by simp only [List.getElem_cons_succ]; omega, e2, e3, fun j hj e => ?_⟩
        cases j with
        | zero =>
          obtain rfl : i = 0 := by omega
          simp only [List.getElem_cons_zero, List.getElem_cons_succ]
          omega
        | succ j => exact e4 j (by simpa using hj) (by omega)
  exact ⟨fun i hi => by have := key l 0 (Int.le_refl _) h i hi; exact ⟨by omega, this.2⟩, h1⟩
theorem rU {S : Int → Prop} (hS : Bdd S) (ho : o ≤ 250) : Pc o ns ns 1 (kG S) KA := by
  rcases qW S with ⟨a, h, e⟩ | e
  · have := (pK hS).1
    rw [h] at this
    obtain ⟨c1, c2, c3, -⟩ := this
    rw [e]
    exact wR (IU c1 c3) (FX (a := 2) (by decide)) (by show (2 : Int) ≠ 1; decide) ho
  · by_cases h1 : ∃ a, jP S = [(a, a)]
    · obtain ⟨a, ha⟩ := h1
      have := tL (S := S) ha rfl rfl
      rw [this]
      have hc := (pK hS).1
      rw [ha] at hc
      obtain ⟨c1, c2, c3, -⟩ := hc
      exact wR (IU c1 c3) (FX (a := 2) (by decide)) (by show (2 : Int) ≠ 1; decide) ho
    · rw [e]
      refine wR (RL (GZ (pK hS).1 fun hl => ?_)) (FX (a := 3) (by decide)) (by show (3 : Int) ≠ 1; decide) ho
      intro h9
      obtain ⟨g, hg⟩ := List.length_eq_one_iff.1 hl
      refine h1 ⟨g.1, ?_⟩
      simp only [hg, List.getElem_cons_zero] at h9
      rw [hg]
      exact congrArg (fun z => [z]) (Prod.ext rfl h9.symm)
theorem CF {c : Int} (h0 : 0 ≤ c) (h1 : c ≤ 1114111) : Bdd (fun x => x = c) := fun x hx => by subst hx; exact ⟨h0, h1⟩
theorem IL {f : Fl} {c : Int} (h0 : 0 ≤ c) (h1 : c ≤ 1114111) (ho : o ≤ 250) : Pc o ns ns 1 (lX f c) KA := by
  rw [litS]
  split
  · exact rU (yJ (CF h0 h1)) ho
  · exact rU (CF h0 h1) ho
theorem pc_wrap (h : ∀ (b : Int) (c : Nat), b ≤ o + 1 → c + q ≤ 8194 → x.fine b (c, ns) = some (c + q, ns')) : Pc o ns ns' q x KA := by
  intro k _ b c hb hc
  refine h _ c ?_ hc
  split <;> omega
theorem QE {nm : ByteArray} (h : ∀ (b : Int) (c : Nat), b ≤ o + 1 → c + q ≤ 8194 → x.fine b (c, ns ++ [nm]) = some (c + q, ns')) (ho : o + 1 ≤ 250) (hg : nP ((ns.length : Int) + 1) nm ns) : Pc o ns ns' (q + 1) (oY ((ns.length : Int) + 1) nm x) KA := by
  intro k _ b c hb hc
  rw [if_neg (show ¬ Brk (oY ((ns.length : Int) + 1) nm x).kind k from brk_no (a := 7) (by decide)), Int.add_zero]
  have hp : NodeP (oY ((ns.length : Int) + 1) nm x) := ⟨by show (1 : Int) ≤ 7; decide, by show (7 : Int) ≤ 13; decide, .inr rfl, .inr rfl, .inr ⟨rfl, rfl, rfl⟩, .inl rfl, fun h9 => absurd (show (7 : Int) = 2 from h9) (by decide), fun h9 => absurd (show (7 : Int) = 3 from h9) (by decide), fun h9 => absurd (show (7 : Int) = 4 ∨ (7 : Int) = 5 from h9) (by decide), fun h9 => absurd (show (7 : Int) = 6 from h9) (by decide), fun _ => rfl, fun h9 => (h9 (.inr (.inr (.inr rfl)))).elim⟩
  rw [mA (st := (c, ns)) ⟨by show c + 1 ≤ 8194; omega, by show (if (7 : Int) = 7 then b + 1 else b) ≤ 250; rw [if_pos rfl]; omega, hp, fun _ => hg⟩]
  show eI [x] 7 (if (7 : Int) = 7 then b + 1 else b) (c + 1, if (7 : Int) = 7 then ns ++ [nm] else ns) = _
  rw [if_pos rfl, if_pos rfl, eI, if_neg (by unfold Brk; omega), Int.add_zero, h (b + 1) (c + 1) (by omega) (by omega)]
  simp only
  rw [eI]
  exact congrArg some (Prod.ext (by simp only; omega) rfl)
theorem pc_rep {lo hi : Int} {z : Bool} (h : Pc o ns ns' q x KA) (ho : o ≤ 250) (h0 : 0 ≤ lo) (h1 : lo ≤ 1000) (h2 : hi = -1 ∨ (lo ≤ hi ∧ hi ≤ 1000)) : Pc o ns ns' (q + 1) (iY lo hi z x) KR := by
  intro k hk b c hb hc
  rw [if_neg (show ¬ Brk (iY lo hi z x).kind k by show ¬ Brk 6 k; unfold Brk; have : k ≠ 6 := hk; omega), Int.add_zero]
  rw [mA ⟨by show c + 1 ≤ 8194; omega, by show (if (6 : Int) = 7 then b + 1 else b) ≤ 250; rw [if_neg (by decide)]; omega, RJ h0 h1 h2, fun h9 => absurd (show (6 : Int) = 7 from h9) (by decide)⟩]
  show eI [x] 6 (if (6 : Int) = 7 then b + 1 else b) (c + 1, if (6 : Int) = 7 then _ else ns) = _
  rw [if_neg (by decide), if_neg (by decide), eI, h 6 trivial b (c + 1) hb (by omega)]
  simp only
  rw [eI]
  exact congrArg some (Prod.ext (by simp only; omega) rfl)
end
def Ps (K : Int → Prop) (o : Int) : List Rx → List ByteArray → List ByteArray → Nat → Prop
  | [], ns, ns', q => ns' = ns ∧ q = 0
  | x :: l, ns, ns', q => ∃ n1 q1 q2, q = q1 + q2 ∧ Pc o ns n1 q1 x K ∧ Ps K o l n1 ns' q2
section
variable {K : Int → Prop} {o : Int}
theorem Ps.one {x : Rx} {ns ns' : List ByteArray} {q : Nat} (h : Pc o ns ns' q x K) : Ps K o [x] ns ns' q := ⟨ns', q, 0, rfl, h, rfl, rfl⟩
theorem Ps.app : ∀ {l m : List Rx} {ns n1 ns' : List ByteArray} {q1 q2 : Nat}, Ps K o l ns n1 q1 → Ps K o m n1 ns' q2 → Ps K o (l ++ m) ns ns' (q1 + q2)
  | [], m, ns, n1, ns', q1, q2, ⟨h1, h2⟩, h => by subst h1 h2; rw [List.nil_append, Nat.zero_add]; exact h
  | x :: l, m, ns, n1, ns', q1, q2, ⟨n2, a, b, e, h1, h2⟩, h => ⟨n2, a, b + q2, by omega, h1, h2.app h⟩
theorem Ps.kids {k : Int} (hk : K k) : ∀ {l : List Rx} {ns ns' : List ByteArray} {q : Nat}, Ps K o l ns ns' q → ∀ (b : Int) (c : Nat), b ≤ o → c + q ≤ 8194 → eI l k b (c, ns) = some (c + q, ns')
  | [], ns, ns', q, ⟨h1, h2⟩, b, c, hb, hc => by subst h1 h2; rw [eI]; rfl
  | x :: l, ns, ns', q, ⟨n2, a, d, e, h1, h2⟩, b, c, hb, hc => by
    rw [eI, h1 k hk b c hb (by omega)]
    simp only
    rw [Ps.kids hk h2 b (c + a) hb (by omega)]
    exact congrArg some (Prod.ext (by simp only; omega) rfl)
theorem row4 {l : List Rx} {ns ns' : List ByteArray} {q : Nat} (h : Ps KR o l ns ns' q) (ho : o ≤ 250) : ∃ q', Pc o ns ns' q' (oZ 4 l) KE ∧ (l.length = 0 → q' = 1) ∧ (l.length = 1 → q' = q) ∧ q' ≤ q + 1 := by
  match l, h with
  | [], ⟨h1, h2⟩ => subst h1; exact ⟨1, QF ho, fun _ => rfl, (fun h => by cases h), by omega⟩
  | [x], ⟨n1, a, b, e, h1, h2, h3⟩ =>
    subst h2 h3
    exact ⟨a, h1.mono fun k hk => by show k ≠ 6; have : k = 5 ∨ k = 7 := hk; omega, (fun h => by cases h), fun _ => by omega, by omega⟩
  | x :: y :: l, h =>
    refine ⟨q + 1, ?_, (fun h => by simp at h), (fun h => by simp at h), Nat.le_refl _⟩
    intro k hk b c hb hc
    have hk' : k = 5 ∨ k = 7 := hk
    show (lS 4 (x :: y :: l)).fine _ _ = _
    rw [show (oZ 4 (x :: y :: l)).kind = 4 from rfl, if_neg (by unfold Brk; omega), Int.add_zero]
    rw [mA ⟨by show c + 1 ≤ 8194; omega, by show (if (4 : Int) = 7 then b + 1 else b) ≤ 250; rw [if_neg (by decide)]; omega, IT (.inl rfl) (by simp), fun h9 => absurd (show (4 : Int) = 7 from h9) (by decide)⟩]
    show eI (x :: y :: l) 4 (if (4 : Int) = 7 then b + 1 else b) (c + 1, if (4 : Int) = 7 then _ else ns) = _
    rw [if_neg (by decide), if_neg (by decide), h.kids (k := 4) (by show (4 : Int) ≠ 6; decide) b (c + 1) hb (by omega)]
    exact congrArg some (Prod.ext (by simp only; omega) rfl)
theorem row5 {l : List Rx} {ns ns' : List ByteArray} {q : Nat} (h : Ps KE o l ns ns' q) (hl : 1 ≤ l.length) (ho : o ≤ 250) : ∃ q', (∀ (b : Int) (c : Nat), b ≤ o → c + q' ≤ 8194 → (oZ 5 l).fine b (c, ns) = some (c + q', ns')) ∧ (l.length = 1 → q' = q) ∧ q' ≤ q + 1 := by
  match l, h with
  | [x], ⟨n1, a, b, e, h1, h2, h3⟩ =>
    subst h2 h3
    exact ⟨a, fun b c hb hc => h1.fine (.inr rfl) hb hc, fun _ => by omega, by omega⟩
  | x :: y :: l, h =>
    refine ⟨q + 1, fun b c hb hc => ?_, (fun h => by simp at h), Nat.le_refl _⟩
    show (lS 5 (x :: y :: l)).fine _ _ = _
    rw [mA ⟨by show c + 1 ≤ 8194; omega, by show (if (5 : Int) = 7 then b + 1 else b) ≤ 250; rw [if_neg (by decide)]; omega, IT (.inr rfl) (by simp), fun h9 => absurd (show (5 : Int) = 7 from h9) (by decide)⟩]
    show eI (x :: y :: l) 5 (if (5 : Int) = 7 then b + 1 else b) (c + 1, if (5 : Int) = 7 then _ else ns) = _
    rw [if_neg (by decide), if_neg (by decide), h.kids (k := 5) (.inl rfl) b (c + 1) hb (by omega)]
    exact congrArg some (Prod.ext (by simp only; omega) rfl)
end
structure Sh (s t : ByteArray) (i i' : Nat) : Prop where
  le : i ≤ s.size
  sz : s.size + i' = t.size + i
  eq : ∀ k, sb s (i + k) = sb t (i' + k)
section
variable {s t : ByteArray} {i i' : Nat}
theorem Sh.add (h : Sh s t i i') (n : Nat) (hn : i + n ≤ s.size) : Sh s t (i + n) (i' + n) := ⟨hn, by have := h.sz; omega, fun k => by rw [Nat.add_assoc, Nat.add_assoc]; exact h.eq (n + k)⟩
theorem Sh.at0 (h : Sh s t i i') : sb s i = sb t i' := h.eq 0
theorem Sh.lt (h : Sh s t i i') (k : Nat) : i + k < s.size ↔ i' + k < t.size := by have := h.sz; omega
theorem Sh.lt0 (h : Sh s t i i') : i < s.size ↔ i' < t.size := h.lt 0
theorem Sh.isB (h : Sh s t i i') (k b : Nat) : isB s (i + k) b ↔ isB t (i' + k) b := by
  unfold Go.Proofs.YtljadkcojnlioaaGreatDoor.isB
  rw [h.lt k, h.eq k]
theorem Sh.isB0 (h : Sh s t i i') (b : Nat) : Go.Proofs.YtljadkcojnlioaaGreatDoor.isB s i b ↔ Go.Proofs.YtljadkcojnlioaaGreatDoor.isB t i' b := h.isB 0 b
theorem Sh.bytes (h : Sh s t i i') (n : Nat) : gH s i n = gH t i' n := by
  unfold gH
  exact List.map_congr_left fun k _ => h.eq k
theorem Sh.guess (h : Sh s t i i') (n : Nat) : dY s i n = dY t i' n := by
  unfold dY
  rw [h.at0, h.eq 1, h.eq 2, h.eq 3]
theorem Sh.hit (h : Sh s t i i') (n : Nat) : Hit s i n ↔ Hit t i' n := by unfold Hit; rw [h.guess, h.bytes]
theorem Sh.next (h : Sh s t i i') : cE s i = cE t i' := by
  have hz := h.sz
  by_cases hw : ∃ n, 1 ≤ n ∧ n ≤ 4 ∧ i + n ≤ s.size ∧ Hit s i n
  · obtain ⟨n, h1, h2, h3, h4⟩ := hw
    rw [(jN h1 h2 h3 h4).1, (jN h1 h2 (by omega) ((h.hit n).1 h4)).1, h.guess]
  · rw [mN fun n h1 h2 h3 h4 => hw ⟨n, h1, h2, h3, h4⟩, mN fun n h1 h2 h3 h4 => hw ⟨n, h1, h2, by omega, (h.hit n).2 h4⟩]
theorem Sh.step (h : Sh s t i i') : Sh s t (i + (cE s i).2) (i' + (cE s i).2) := h.add _ (by
  rcases oA s i with e | e
  · rw [e]; exact h.le
  · exact e.2.2.2.2)
theorem Sh.hexD {d j : Nat} (h : Sh s t i i') (h1 : gS s i = .ok (d, j)) : gS t i' = .ok (d, i' + 1) ∧ j = i + 1 ∧ Sh s t (i + 1) (i' + 1) := by
  unfold gS at h1 ⊢
  split at h1
  · rename_i hi
    rw [if_pos (h.lt0.1 hi), ← h.at0]
    split at h1
    · cases h1
      rename_i e
      try rw [e]
      exact ⟨rfl, rfl, h.add 1 hi⟩
    · cases h1
  · cases h1
theorem Sh.hexL : ∀ {f n m i i' j : Nat}, Sh s t i i' → kF s f n i = .ok (m, j) → ∃ j', kF t f n i' = .ok (m, j') ∧ Sh s t j j'
  | 0, n, m, i, i', j, h, h1 => by rw [kF] at h1; cases h1
  | f + 1, n, m, i, i', j, h, h1 => by
    rw [kF] at h1 ⊢
    split at h1
    · rename_i hb
      cases h1
      rw [if_pos ((h.isB0 125).1 hb)]
      exact ⟨_, rfl, h.add 1 hb.1⟩
    · rename_i hb
      rw [if_neg (fun h9 => hb ((h.isB0 125).2 h9))]
      split at h1
      · cases h1
      · rename_i d j0 e
        obtain ⟨e1, rfl, e3⟩ := h.hexD e
        rw [e1]
        simp only
        split at h1
        · cases h1
        · rename_i hc
          rw [if_neg hc]
          exact Sh.hexL e3 h1
theorem Sh.hex {n j : Nat} (h : Sh s t i i') (h1 : nD s i = .ok (n, j)) : ∃ j', nD t i' = .ok (n, j') ∧ Sh s t j j' := by
  unfold nD at h1 ⊢
  split at h1
  · rename_i hb
    rw [if_pos ((h.isB0 123).1 hb)]
    have h2 := h.add 1 hb.1
    split at h1
    · cases h1
    · rename_i d j0 e
      obtain ⟨e1, rfl, e3⟩ := h2.hexD e
      rw [e1]
      simp only
      rw [show t.size + 1 - (i' + 1 + 1) = s.size + 1 - (i + 1 + 1) by have := h.sz; have := h.le; have := e3.le; omega]
      exact Sh.hexL e3 h1
  · rename_i hb
    rw [if_neg (fun h9 => hb ((h.isB0 123).2 h9))]
    split at h1
    · cases h1
    · rename_i d j0 e
      obtain ⟨e1, rfl, e3⟩ := h.hexD e
      rw [e1]
      simp only
      split at h1
      · cases h1
      · rename_i d2 j2 e2
        obtain ⟨e4, rfl, e5⟩ := e3.hexD e2
        rw [e4]
        cases h1
        exact ⟨_, rfl, e5⟩
theorem Sh.esc {n j : Nat} (h : Sh s t i i') (h1 : lP s i = .ok (n, j)) : ∃ j', lP t i' = .ok (n, j') ∧ Sh s t j j' := by
  have hz := h.sz
  unfold lP at h1 ⊢
  split at h1
  · cases h1
  · rename_i hc
    rw [if_neg (by omega), ← h.eq 1]
    have h2 := h.add 2 (by omega)
    split at h1
    · rename_i e
      try rw [e]
      cases h1
      exact ⟨_, rfl, h2⟩
    · rename_i e
      try rw [e]
      try simp only
      split at h1
      · rename_i e2
        rw [if_pos e2]
        exact h2.hex h1
      · rename_i e2
        rw [if_neg e2]
        split at h1
        · cases h1
        · rename_i e3
          rw [if_neg e3]; cases h1
          exact ⟨_, rfl, h2⟩
theorem Sh.one {r : Int} {j : Nat} (h : Sh s t i i') (h1 : jV s i = .ok (r, j)) : ∃ j', jV t i' = .ok (r, j') ∧ Sh s t j j' := by
  unfold jV at h1 ⊢
  rw [← h.at0]
  split at h1
  · rename_i e
    rw [if_pos e]
    split at h1
    · rename_i e1
      obtain ⟨j', e2, e3⟩ := h.esc e1
      cases h1
      rw [e2]
      exact ⟨_, rfl, e3⟩
    · cases h1
  · rename_i e
    rw [if_neg e, ← h.next]
    cases h1
    exact ⟨_, rfl, h.step⟩
theorem Sh.range {S : Int → Prop} {j : Nat} (h : Sh s t i i') (h1 : gP s i = .ok (S, j)) : ∃ j', gP t i' = .ok (S, j') ∧ Sh s t j j' := by
  unfold gP at h1 ⊢
  split at h1
  · cases h1
  · rename_i lo j0 e
    obtain ⟨j1, e1, e2⟩ := h.one e
    rw [e1]
    simp only
    have hcon : (Go.Proofs.YtljadkcojnlioaaGreatDoor.isB s j0 45 ∧ j0 + 1 < s.size ∧ sb s (j0 + 1) ≠ 93) ↔ (Go.Proofs.YtljadkcojnlioaaGreatDoor.isB t j1 45 ∧ j1 + 1 < t.size ∧ sb t (j1 + 1) ≠ 93) := by
      rw [e2.isB0 45, e2.lt 1, e2.eq 1]
    split at h1
    · rename_i hd
      rw [if_pos (hcon.1 hd)]
      split at h1
      · cases h1
      · rename_i hi j2 e3
        obtain ⟨j3, e4, e5⟩ := (e2.add 1 hd.1.1).one e3
        rw [e4]
        simp only
        split at h1
        · cases h1
        · rename_i hc
          rw [if_neg hc]; cases h1
          exact ⟨_, rfl, e5⟩
    · rename_i hd
      rw [if_neg (fun h9 => hd (hcon.2 h9))]; cases h1
      exact ⟨_, rfl, e2⟩
theorem Sh.itemR {S : Int → Prop} {j : Nat} (h : Sh s t i i') (h1 : jA s i = .ok (S, j)) : ∃ j', jA t i' = .ok (S, j') ∧ Sh s t j j' := by
  have hcon : (i + 1 < s.size ∧ sb s i = 92) ↔ (i' + 1 < t.size ∧ sb t i' = 92) := by rw [h.lt 1, h.at0]
  unfold jA at h1 ⊢
  split at h1
  · rename_i hd
    rw [if_pos (hcon.1 hd), ← h.eq 1]
    split at h1
    · rename_i e
      try rw [e]
      cases h1
      exact ⟨_, rfl, h.add 2 hd.1⟩
    · rename_i e
      try rw [e]
      exact h.range h1
  · rename_i hd
    rw [if_neg (fun h9 => hd (hcon.2 h9))]
    exact h.range h1
theorem Sh.occ (h : Sh s t i i') (a b k : Nat) : Occ s a b (i + k) ↔ Occ t a b (i' + k) := by
  unfold Occ
  rw [Nat.add_assoc, Nat.add_assoc, h.lt (k + 1), h.eq k, h.eq (k + 1)]
theorem Sh.find (h : Sh s t i i') (a b : Nat) : (∀ k, iG s a b s.size i = some k → ∃ n, k = i + n ∧ iG t a b t.size i' = some (i' + n) ∧ k + 1 < s.size) ∧ (iG s a b s.size i = none → iG t a b t.size i' = none) := by
  obtain ⟨p1, p2⟩ := lE s a b s.size i (by omega)
  obtain ⟨q1, q2⟩ := lE t a b t.size i' (by omega)
  refine ⟨fun k hk => ?_, fun hn => ?_⟩
  · obtain ⟨k1, k2, k3⟩ := p1 k hk
    obtain ⟨n, rfl⟩ := Nat.exists_eq_add_of_le k1
    refine ⟨n, rfl, ?_, k2.1⟩
    cases hq : iG t a b t.size i' with
    | none => exact (q2 hq (i' + n) (by omega) ((h.occ a b n).1 k2)).elim
    | some k' =>
      obtain ⟨m1, m2, m3⟩ := q1 k' hq
      obtain ⟨m, rfl⟩ := Nat.exists_eq_add_of_le m1
      rcases Nat.lt_trichotomy m n with hl | rfl | hl
      · exact (k3 (i + m) (by omega) (by omega) ((h.occ a b m).2 m2)).elim
      · rfl
      · exact (m3 (i' + n) (by omega) (by omega) ((h.occ a b n).1 k2)).elim
  · cases hq : iG t a b t.size i' with
    | none => rfl
    | some k' =>
      obtain ⟨m1, m2, m3⟩ := q1 k' hq
      obtain ⟨m, rfl⟩ := Nat.exists_eq_add_of_le m1
      exact (p2 hn (i + m) (by omega) ((h.occ a b m).2 m2)).elim
theorem Sh.sub (h : Sh s t i i') {a b : Nat} (hb : i + b ≤ s.size) : s.extract (i + a) (i + b) = t.extract (i' + a) (i' + b) := by
  have hz := h.sz
  have e1 : (s.extract (i + a) (i + b)).size = b - a := by rw [ByteArray.size_extract]; omega
  have e2 : (t.extract (i' + a) (i' + b)).size = b - a := by rw [ByteArray.size_extract]; omega
  refine tA (by rw [e1, e2]) fun k hk => ?_
  rw [e1] at hk
  rw [dV hb (by omega), dV (by omega) (by omega), Nat.add_assoc, Nat.add_assoc]
  exact h.eq (a + k)
theorem Sh.item {S : Int → Prop} {j : Nat} (h : Sh s t i i') (h1 : iN s i = .ok (S, j)) : ∃ j', iN t i' = .ok (S, j') ∧ Sh s t j j' := by
  have hcon : (Go.Proofs.YtljadkcojnlioaaGreatDoor.isB s i 91 ∧ Go.Proofs.YtljadkcojnlioaaGreatDoor.isB s (i + 1) 58) ↔ (Go.Proofs.YtljadkcojnlioaaGreatDoor.isB t i' 91 ∧ Go.Proofs.YtljadkcojnlioaaGreatDoor.isB t (i' + 1) 58) := by rw [h.isB0, h.isB 1]
  unfold iN at h1 ⊢
  split at h1
  · rename_i hd
    rw [if_pos (hcon.1 hd)]
    obtain ⟨f1, f2⟩ := (h.add 2 (by have := hd.2.1; omega)).find 58 93
    split at h1
    · rename_i e
      rw [f2 e]
      exact h.itemR h1
    · rename_i k e
      obtain ⟨n, rfl, e1, e2⟩ := f1 k e
      rw [e1]
      simp only
      have hc2 : (i + 2 < i + 2 + n ∧ sb s (i + 2) = 94) ↔ (i' + 2 < i' + 2 + n ∧ sb t (i' + 2) = 94) := by rw [h.eq 2]; omega
      have h9 := h.add (2 + n + 2) (by omega)
      split at h1
      · rename_i hq
        rw [if_pos (hc2.1 hq), Nat.add_assoc i' 2 n, ← h.sub (a := 3) (b := 2 + n) (by omega)]
        rw [Nat.add_assoc i 2 n] at h1
        split at h1
        · cases h1
        · rename_i e3
          try rw [e3]
          cases h1
          exact ⟨_, rfl, h9⟩
      · rename_i hq
        rw [if_neg (fun h8 => hq (hc2.2 h8)), Nat.add_assoc i' 2 n, ← h.sub (a := 2) (b := 2 + n) (by omega)]
        rw [Nat.add_assoc i 2 n] at h1
        split at h1
        · cases h1
        · rename_i e3
          try rw [e3]
          cases h1
          exact ⟨_, rfl, h9⟩
  · rename_i hd
    rw [if_neg (fun h9 => hd (hcon.2 h9))]
    exact h.itemR h1
theorem Sh.items : ∀ {f i i' j : Nat} {fst : Bool} {S T : Int → Prop}, Sh s t i i' → eE s f fst S i = .ok (T, j) → ∃ j', eE t f fst S i' = .ok (T, j') ∧ Sh s t j j'
  | 0, i, i', j, fst, S, T, h, h1 => by rw [eE] at h1; cases h1
  | f + 1, i, i', j, fst, S, T, h, h1 => by
    have hz := h.sz
    rw [eE] at h1 ⊢
    split at h1
    · cases h1
    · rename_i hc
      rw [if_neg (by omega), ← h.at0]
      split at h1
      · rename_i hd
        rw [if_pos hd]; cases h1
        exact ⟨_, rfl, h.add 1 (by omega)⟩
      · rename_i hd
        rw [if_neg hd]
        split at h1
        · cases h1
        · rename_i e
          obtain ⟨j2, e2, e3⟩ := h.item e
          rw [e2]
          exact Sh.items e3 h1
end
theorem sW {s : ByteArray} : ∀ {f g i j : Nat} {fst : Bool} {S T : Int → Prop}, f ≤ g → eE s f fst S i = .ok (T, j) → eE s g fst S i = .ok (T, j)
  | 0, g, i, j, fst, S, T, h, h1 => by rw [eE] at h1; cases h1
  | f + 1, 0, i, j, fst, S, T, h, h1 => by omega
  | f + 1, g + 1, i, j, fst, S, T, h, h1 => by
    rw [eE] at h1 ⊢
    split at h1
    · cases h1
    · rename_i hc
      rw [if_neg hc]
      split at h1
      · rename_i hd
        rw [if_pos hd]; exact h1
      · rename_i hd
        rw [if_neg hd]
        split at h1
        · cases h1
        · rename_i e
          try rw [e]
          exact sW (by omega) h1
theorem HC {r : Int} (h0 : 0 ≤ r) (h : r < 128) : dW r = [r.toNat] := by
  rw [dW, if_pos ⟨h0, by omega, by omega⟩, jL, if_pos (by omega)]
theorem form_hi {r : Int} (h : 128 ≤ r) : ∀ b, b ∈ dW r → 128 ≤ b := by
  intro b hb
  unfold dW at hb
  split at hb
  · unfold jL at hb
    rw [if_neg (by omega)] at hb
    split at hb
    · simp at hb; omega
    · split at hb
      · simp at hb; omega
      · simp at hb; omega
  · cases hb
section
variable {s : ByteArray} {ex : PS → PX Rx} {st : PS}
end
section
variable {s : ByteArray} {ex : PS → PX Rx}
theorem NO {i k : Nat} (hk : 1 ≤ k) (h : k < (cE s i).2) : 128 ≤ sb s (i + k) := by
  obtain ⟨h1, h2, h3⟩ := xY (s := s) (a := i) (by omega)
  have hle : i + (cE s i).2 ≤ s.size := by
    rcases oA s i with e | e
    · rw [e] at h; exact absurd h (Nat.not_lt_zero _)
    · exact e.2.2.2.2
  have hb : sb s (i + k) = (dW (cE s i).1)[k]'(by omega) := by
    rw [← dV (s := s) (a := i) (b := i + (cE s i).2) (k := k) hle (by omega), h1, wN (by omega) (tP _)]
  have hm := List.getElem_mem (l := dW (cE s i).1) (n := k) (by omega)
  rw [← hb] at hm
  rcases Int.lt_or_le (cE s i).1 128 with h5 | h5
  · have h7 := congrArg List.length (HC h3.1 h5); simp at h7; omega
  · exact form_hi h5 _ hm
theorem KP {fl : Fl} {e : Nat} (he : sb s e < 128) : ∀ {f i : Nat} {l : List Rx}, i ≤ e → (kM s fl e f l i).2 ≤ e
  | 0, i, l, h => h
  | f + 1, i, l, h => by
    rw [kM]
    split
    · rename_i hi
      refine KP he ?_
      rcases Nat.lt_or_ge e (i + (cE s i).2) with h9 | h9
      · have := NO (s := s) (i := i) (k := e - i) (by omega) (by omega)
        rw [show i + (e - i) = e by omega] at this
        omega
      · exact h9
    · exact h
end
theorem Ps.mono {K L : Int → Prop} {o : Int} (hL : ∀ k, L k → K k) : ∀ {l : List Rx} {ns ns' : List ByteArray} {q : Nat}, Ps K o l ns ns' q → Ps L o l ns ns' q
  | [], ns, ns', q, h => h
  | x :: l, ns, ns', q, ⟨n2, a, d, e, h1, h2⟩ => ⟨n2, a, d, e, h1.mono hL, Ps.mono hL h2⟩
theorem Ps.last {K : Int → Prop} {o : Int} : ∀ {l : List Rx} {ns ns' : List ByteArray} {q : Nat}, Ps K o l ns ns' q → l ≠ [] → ∃ l0 y n1 qa qb, l = l0 ++ [y] ∧ Ps K o l0 ns n1 qa ∧ Pc o n1 ns' qb y K ∧ q = qa + qb
  | [x], ns, ns', q, ⟨n1, a, d, e, h1, h2, h3⟩, _ => by subst h2 h3; exact ⟨[], x, ns, 0, a, rfl, ⟨rfl, rfl⟩, h1, by omega⟩
  | x :: y :: l, ns, ns', q, ⟨n1, a, d, e, h1, h2⟩, _ => by
    obtain ⟨l0, z, n2, qa, qb, e1, e2, e3, e4⟩ := Ps.last h2 (by simp)
    exact ⟨x :: l0, z, n2, a + qa, qb, by rw [e1]; rfl, ⟨n1, a, qa, rfl, h1, e2⟩, e3, by omega⟩
def wI (s : ByteArray) (ex : PS → PX Rx) (n : Nat) : Prop := ∀ st x st', st.opn = n → Bd s st.pos → st.names.length ≤ 100 → ex st = .ok (x, st') →
  ∃ q, (∀ (b : Int) (c : Nat), b ≤ n → c + q ≤ 8194 → x.fine b (c, st.names) = some (c + q, st'.names)) ∧ q + 2 * st.pos ≤ 2 * st'.pos + 1 ∧ st.pos ≤ st'.pos ∧ Bd s st'.pos ∧ st'.opn = n ∧ st'.names.length ≤ 100
def tE (s : ByteArray) (st st2 : PS) (g : List Rx) : Prop := ∃ q, Ps KA st.opn g st.names st2.names q ∧ q + g.length + 2 * st.pos ≤ 2 * st2.pos ∧ st.pos < st2.pos ∧ Bd s st2.pos ∧ st2.opn = st.opn ∧ st2.names.length ≤ 100
section
variable {s : ByteArray} {ex : PS → PX Rx} {st : PS}
theorem qT {x : Rx} {j : Nat} (ho : st.opn ≤ 250) (hn : st.names.length ≤ 100) (h : Pc st.opn st.names st.names 1 x KA) (hj : st.pos < j) (hb : Bd s j) : tE s st (hY st j) [x] :=
  ⟨1, Ps.one h, by show 1 + 1 + 2 * st.pos ≤ 2 * j; omega, hj, hb, rfl, hn⟩
theorem KO : ∀ {f j k : Nat}, j ≤ k → k < gV s f j → iS (sb s k)
  | 0, j, k, h, h2 => by rw [gV] at h2; omega
  | f + 1, j, k, h, h2 => by
    rw [gV] at h2
    split at h2
    · rename_i hw
      by_cases e : j = k
      · subst e; exact hw.2
      · exact KO (by omega) h2
    · omega
theorem oB : zJ emp := fun j hj => absurd hj (Nat.not_lt_zero _)
theorem AH {i h : Nat} {fl : Fl} : zJ (kU s i h fl).name := by
  unfold kU
  split
  · exact oB
  · rename_i hc
    have hb : isB s (gV s s.size (i + h)) 62 := Classical.not_not.1 (fun h9 => hc (.inr h9))
    intro j hj
    have hj' : j < (s.extract (i + h) (gV s s.size (i + h))).size := hj
    rw [ByteArray.size_extract] at hj'
    have := hb.1
    have hge : i + h ≤ gV s s.size (i + h) := qU
    show iS (sb (s.extract (i + h) (gV s s.size (i + h))) j)
    rw [dV (by omega) (by omega)]
    exact KO (f := s.size) (j := i + h) (by omega) (by omega)
theorem AF {i : Nat} : ∀ {f j : Nat} {b m : Bool} {n : Int} {fl : Fl}, zJ (iB s i f j b n m fl).name
  | 0, j, b, m, n, fl => oB
  | f + 1, j, b, m, n, fl => by
    rw [iB]
    repeat' split
    all_goals first | exact AF | exact oB
theorem IM {i : Nat} {fl : Fl} : zJ (eA s i fl).name := by
  unfold eA
  split
  · exact oB
  · split
    · exact AH
    · split
      · exact AH
      · split
        · exact oB
        · exact AF
theorem BU {fl : Fl} {e : Nat} {o : Int} {ns : List ByteArray} (ho : o ≤ 250) (he : e ≤ s.size) : ∀ {f i : Nat} {l : List Rx}, Bd s i → Ps KA o l ns ns l.length → Ps KA o (kM s fl e f l i).1 ns ns (kM s fl e f l i).1.length ∧ i + (kM s fl e f l i).1.length ≤ (kM s fl e f l i).2 + l.length ∧ Bd s (kM s fl e f l i).2 ∧ (e ≤ i + f → e ≤ (kM s fl e f l i).2)
  | 0, i, l, hb, h => ⟨h, Nat.le_refl _, hb, fun h => h⟩
  | f + 1, i, l, hb, h => by
    rw [kM]
    split
    · rename_i hi
      obtain ⟨n1, n2, n3, n4, n5⟩ := hb.next (by omega)
      have h1 : Ps KA o (l ++ [lX fl (cE s i).1]) ns ns (l ++ [lX fl (cE s i).1]).length := by
        rw [List.length_append]; exact h.app (Ps.one (IL n4 n5 ho))
      obtain ⟨a1, a2, a3, a4⟩ := BU (fl := fl) (e := e) (f := f) ho he n3 h1
      refine ⟨a1, ?_, a3, fun h9 => a4 (by omega)⟩
      rw [List.length_append] at a2
      simp only [List.length_singleton] at a2
      omega
    · rename_i hi
      exact ⟨h, Nat.le_refl _, hb, fun _ => by show e ≤ i; omega⟩
theorem quote_i {g : List Rx} {st2 : PS} (h : mM s st = .ok (g, st2)) (hb : Bd s (st.pos + 2)) (ho : st.opn ≤ 250) (hn : st.names.length ≤ 100) : tE s st st2 g := by
  have ho' : (st.opn : Int) ≤ 250 := by omega
  have hle := hb.le
  unfold mM at h
  split at h
  · rename_i e he
    cases h
    obtain ⟨f1, f2, f3⟩ := (lE s 92 69 s.size (st.pos + 2) (by omega)).1 e he
    obtain ⟨a1, a2, a3, a4⟩ := BU (s := s) (fl := st.now) (e := e) (o := st.opn) (ns := st.names) (f := s.size) (i := st.pos + 2) (l := []) ho' (by have := f2.1; omega) hb ⟨rfl, rfl⟩
    have h9 := KP (s := s) (fl := st.now) (e := e) (by rw [f2.2.1]; decide) (f := s.size) (i := st.pos + 2) (l := []) f1
    have h8 := a4 (by have := f2.1; omega)
    have h7 : (kM s st.now e s.size [] (st.pos + 2)).2 = e := by omega
    refine ⟨_, a1, ?_, ?_, ?_, rfl, hn⟩
    · simp only [List.length_nil] at a2
      show _ + _ + 2 * st.pos ≤ 2 * ((kM s st.now e s.size [] (st.pos + 2)).2 + 2)
      omega
    · show st.pos < (kM s st.now e s.size [] (st.pos + 2)).2 + 2
      omega
    · show Bd s ((kM s st.now e s.size [] (st.pos + 2)).2 + 2)
      rw [h7] at a3 ⊢
      have b1 := (a3.asc (by have := f2.1; omega) (by rw [f2.2.1]; decide)).1
      exact (b1.asc f2.1 (by rw [f2.2.2]; decide)).1
  · cases h
    obtain ⟨a1, a2, a3, a4⟩ := BU (s := s) (fl := st.now) (e := s.size) (o := st.opn) (ns := st.names) (f := s.size) (i := st.pos + 2) (l := []) ho' (Nat.le_refl _) hb ⟨rfl, rfl⟩
    simp only [List.length_nil] at a2
    refine ⟨_, a1, ?_, ?_, a3, rfl, hn⟩
    · show _ + _ + 2 * st.pos ≤ 2 * (kM s st.now s.size s.size [] (st.pos + 2)).2
      omega
    · show st.pos < (kM s st.now s.size s.size [] (st.pos + 2)).2
      omega
theorem TK {g : List Rx} {st2 : PS} (h : fV s st = .ok (g, st2)) (h92 : sb s st.pos = 92) (hb : Bd s st.pos) (hp : st.pos < s.size) (ho : st.opn ≤ 250) (hn : st.names.length ≤ 100) : tE s st st2 g := by
  have ho' : (st.opn : Int) ≤ 250 := by omega
  have b1 := (hb.asc hp (by rw [h92]; decide)).1
  unfold fV at h
  split at h
  · cases h
  · rename_i hsz
    have b2 : sb s (st.pos + 1) < 128 → Bd s (st.pos + 2) := fun h9 => (b1.asc (by omega) h9).1
    split at h
    · cases h; exact qT ho hn (FI (by decide) ho') (by omega) (b2 (by omega))
    · split at h
      · cases h; exact qT ho hn (FI (by decide) ho') (by omega) (b2 (by omega))
      · split at h
        · cases h; exact qT ho hn (FI (by decide) ho') (by omega) (b2 (by omega))
        · split at h
          · cases h; exact qT ho hn (FI (by decide) ho') (by omega) (b2 (by omega))
          · split at h
            · exact quote_i h (b2 (by omega)) ho hn
            · split at h
              · rename_i S hS
                cases h; exact qT ho hn (rU (LJ hS) ho') (by omega) (b2 (LH hS))
              · split at h
                · cases h
                · rename_i v j he
                  cases h
                  obtain ⟨e1, e2, e3⟩ := BV he hb h92
                  exact qT ho hn (IL (by omega) (by omega) ho') e2 e1
theorem plain_i {g : List Rx} {st2 : PS} (h : jG s st = .ok (g, st2)) (hb : Bd s st.pos) (hp : st.pos < s.size) (ho : st.opn ≤ 250) (hn : st.names.length ≤ 100) : tE s st st2 g := by
  have ho' : (st.opn : Int) ≤ 250 := by omega
  obtain ⟨n1, n2, n3, n4, n5⟩ := hb.next hp
  unfold jG at h
  cases h
  refine qT ho hn ?_ (by omega) n3
  split
  · split
    · exact rU (mH (by decide)) ho'
    · exact rU (mH (by decide)) ho'
  · split
    · split
      · exact FI (by decide) ho'
      · exact FI (by decide) ho'
    · split
      · split
        · exact FI (by decide) ho'
        · exact FI (by decide) ho'
      · exact IL n4 n5 ho'
theorem class_i {x : Rx} {j : Nat} (h : jH s st.now (st.pos + 1) = .ok (x, j)) (hb : Bd s (st.pos + 1)) (ho : st.opn ≤ 250) (hn : st.names.length ≤ 100) : tE s st (hY st j) [x] := by
  have ho' : (st.opn : Int) ≤ 250 := by omega
  have hcb := tK h hb
  refine qT ho hn ?_ (by omega) hcb.1
  cases hi : eE s (s.size + 1) true (fun _ => False) (if isB s (st.pos + 1) 94 then st.pos + 1 + 1 else st.pos + 1) with
  | error e => rw [tV hi] at h; cases h
  | ok q =>
    obtain ⟨C, j2⟩ := q
    rw [rC hi] at h
    cases h
    have hb2 : Bd s (if isB s (st.pos + 1) 94 then st.pos + 1 + 1 else st.pos + 1) := by
      split
      · rename_i h9; exact (hb.asc h9.1 (by rw [h9.2]; decide)).1
      · exact hb
    have hC := AI hi hb2 (fun c hc => hc.elim)
    refine rU ?_ ho'
    split
    · exact wV _
    · split
      · exact yJ hC
      · exact hC
theorem brk_i {g : List Rx} {st2 : PS} (h : oH s ex st = .ok (g, st2)) (h40 : isB s st.pos 40) (hb : Bd s st.pos) (ho : st.opn ≤ 250) (hn : st.names.length ≤ 100) (hex : st.opn < 250 → wI s ex (st.opn + 1)) : tE s st st2 g := by
  unfold oH at h
  simp only at h
  split at h
  · rename_i hs
    cases h
    obtain ⟨o1, o2, o3⟩ := rV hb h40 hs.1
    exact ⟨0, ⟨rfl, rfl⟩, by show 0 + 0 + 2 * st.pos ≤ 2 * (st.pos + _); omega, by show st.pos < st.pos + _; omega, o2, rfl, hn⟩
  · split at h
    · cases h
    · rename_i h250
      split at h
      · cases h
      · rename_i herr
        obtain ⟨o1, o2, o3⟩ := rV (fl := st.now) hb h40 (Classical.not_not.1 herr)
        split at h
        · cases h
        · rename_i hful
          split at h
          · cases h
          · rename_i x st3 hx
            split at h
            · rename_i hcl
              cases h
              have hlt : st.opn < 250 := by omega
              obtain ⟨q, q1, q2, q3, q4, q5, q6⟩ := hex hlt _ x st3 rfl o2 (by
                show (if (eA s st.pos st.now).capt = true then _ else _ : List ByteArray).length ≤ 100
                split
                · rename_i hc
                  have : st.names.length ≠ 100 := fun h9 => hful ⟨hc, .inl h9⟩
                  rw [List.length_append]; simp; omega
                · exact hn) hx
              have q2' : q + 2 * (st.pos + (eA s st.pos st.now).size) ≤ 2 * st3.pos + 1 := q2
              have q3' : st.pos + (eA s st.pos st.now).size ≤ st3.pos := q3
              have hb3 : Bd s (st3.pos + 1) := (q4.asc hcl.1 (by rw [hcl.2]; decide)).1
              by_cases hc : (eA s st.pos st.now).capt = true
              · simp only [if_pos hc] at q1 ⊢
                have hl : st.names.length ≠ 100 := fun h9 => hful ⟨hc, .inl h9⟩
                have hg : nP ((st.names.length : Int) + 1) (eA s st.pos st.now).name st.names := ⟨rfl, by omega, IM, by
                  by_cases he : (eA s st.pos st.now).name = emp
                  · exact .inl he
                  · exact .inr (fun h9 => hful ⟨hc, .inr ⟨he, h9⟩⟩)⟩
                refine ⟨q + 1, Ps.one (QE (fun b c hb hc => q1 b c (by push_cast; omega) hc) (by omega) hg), ?_, ?_, hb3, ?_, q6⟩
                · show q + 1 + 1 + 2 * st.pos ≤ 2 * (st3.pos + 1); omega
                · show st.pos < st3.pos + 1; omega
                · show st3.opn - 1 = st.opn; omega
              · simp only [if_neg hc] at q1 ⊢
                refine ⟨q, Ps.one (pc_wrap (fun b c hb hc => q1 b c (by push_cast; omega) hc)), ?_, ?_, hb3, ?_, q6⟩
                · show q + 1 + 2 * st.pos ≤ 2 * (st3.pos + 1); omega
                · show st.pos < st3.pos + 1; omega
                · show st3.opn - 1 = st.opn; omega
            · cases h
theorem BR {g : List Rx} {st2 : PS} (h : eM s ex st = .ok (g, st2)) (hb : Bd s st.pos) (hp : st.pos < s.size) (ho : st.opn ≤ 250) (hn : st.names.length ≤ 100) (hex : st.opn < 250 → wI s ex (st.opn + 1)) : tE s st st2 g := by
  unfold eM at h
  split at h
  · rename_i hc; exact brk_i h ⟨hp, hc⟩ hb ho hn hex
  · split at h
    · rename_i hc
      split at h
      · cases h
      · rename_i x j hx
        cases h
        exact class_i hx ((hb.asc hp (by rw [hc]; decide)).1) ho hn
    · split at h
      · rename_i hc; exact TK h hc hb hp ho hn
      · exact plain_i h hb hp ho hn
end
structure AltI (s : ByteArray) (o : Nat) (ns0 : List ByteArray) (p0 : Nat) (l : List Rx) (st : PS) (q : Nat) : Prop where
  ps : Ps KR o l ns0 st.names q
  cnt : q + l.length + 2 * p0 ≤ 2 * st.pos
  ge : p0 ≤ st.pos
  bd : Bd s st.pos
  opn : st.opn = o
  nm : st.names.length ≤ 100
def LastI (o : Nat) (ns0 : List ByteArray) (l : List Rx) (st : PS) (q : Nat) : Prop := ∃ l0 y n1 qa qb, l = l0 ++ [y] ∧ Ps KR o l0 ns0 n1 qa ∧ Pc o n1 st.names qb y KA ∧ q = qa + qb
section
variable {s : ByteArray} {ex : PS → PX Rx} {o : Nat} {ns0 : List ByteArray} {p0 : Nat}
theorem MP (ho : o ≤ 250) (hex : o < 250 → wI s ex (o + 1)) : ∀ (f : Nat) (l : List Rx) (ah : Bool) (st st' : PS) (x : Rx) (q : Nat), AltI s o ns0 p0 l st q → (ah = true → LastI o ns0 l st q) → gZ s ex f l ah st = .ok (x, st') →
    ∃ l' q', x = oZ 4 l' ∧ AltI s o ns0 p0 l' st' q' ∧ st.pos ≤ st'.pos
  | 0, l, ah, st, st', x, q, h, hl, h1 => by rw [gZ] at h1; cases h1; exact ⟨l, q, rfl, h, Nat.le_refl _⟩
  | f + 1, l, ah, st, st', x, q, h, hl, h1 => by
    rw [gZ] at h1
    split at h1
    · cases h1; exact ⟨l, q, rfl, h, Nat.le_refl _⟩
    · rename_i hend
      have hp : st.pos < s.size := by omega
      generalize hr : kY (s.extract st.pos s.size) = rr at h1
      obtain ⟨lo, hi, nn⟩ := rr
      obtain ⟨r1, r2, r3, r4, r5⟩ := BS h.bd hp hr
      simp only at h1
      split at h1
      · split at h1
        · cases h1
        · rename_i g st2 hpc
          obtain ⟨qg, g1, g2, g3, g4, g5, g6⟩ := BR hpc h.bd hp (by rw [h.opn]; exact ho) h.nm (by rw [h.opn]; exact hex)
          rw [h.opn] at g1
          have hc := h.cnt
          have hge := h.ge
          have hN : AltI s o ns0 p0 (l ++ g) st2 (q + qg) := ⟨h.ps.app (g1.mono fun k _ => trivial), by rw [List.length_append]; omega, by omega, g4, by rw [g5, h.opn], g6⟩
          obtain ⟨l', q', e1, e2, e3⟩ := MP ho hex f _ _ _ _ _ _ hN (fun ha => by
            have hg : g ≠ [] := fun h9 => by rw [h9] at ha; exact absurd (of_decide_eq_true ha) (Nat.lt_irrefl 0)
            obtain ⟨g0, y, n1, qa, qb, b1, b2, b3, b4⟩ := g1.last hg
            exact ⟨l ++ g0, y, n1, q + qa, qb, by rw [b1, List.append_assoc], h.ps.app (b2.mono fun k _ => trivial), b3, by omega⟩) h1
          exact ⟨l', q', e1, e2, by omega⟩
      · rename_i hn
        obtain ⟨r6, r7⟩ := r5 hn
        split at h1
        · cases h1
        · rename_i hc
          have hah : ah = true := by cases ah with | true => rfl | false => exact (hc (.inl rfl)).elim
          obtain ⟨l0, y, n1, qa, qb, b1, b2, b3, b4⟩ := hl hah
          have hdl : l.dropLast = l0 := by rw [b1, List.dropLast_concat]
          have hgl : l.getLastD (rxK 1) = y := by rw [b1]; simp
          have hlen : l.length = l0.length + 1 := by rw [b1]; simp
          have hcnt := h.cnt
          have hge := h.ge
          have key : ∀ z, Ps KR o (l0 ++ [iY lo hi z y]) ns0 st.names (qa + (qb + 1)) := fun z => b2.app (Ps.one (pc_rep b3 (by omega) r1 (by omega) (by omega)))
          rw [hdl, hgl] at h1
          split at h1
          · rename_i hq
            have hbq := (r7.asc hq.1 (by rw [hq.2]; decide)).1
            obtain ⟨l', q', e1, e2, e3⟩ := MP ho hex f _ _ _ _ _ _ (⟨key _, by simp; omega, by show p0 ≤ st.pos + nn + 1; omega, hbq, h.opn, h.nm⟩ : AltI s o ns0 p0 _ { st with pos := st.pos + nn + 1 } _) (fun h9 => by cases h9) h1
            exact ⟨l', q', e1, e2, Nat.le_trans (by show st.pos ≤ st.pos + nn + 1; omega) e3⟩
          · obtain ⟨l', q', e1, e2, e3⟩ := MP ho hex f _ _ _ _ _ _ (⟨key _, by simp; omega, by show p0 ≤ st.pos + nn; omega, r7, h.opn, h.nm⟩ : AltI s o ns0 p0 _ { st with pos := st.pos + nn } _) (fun h9 => by cases h9) h1
            exact ⟨l', q', e1, e2, Nat.le_trans (by show st.pos ≤ st.pos + nn; omega) e3⟩
theorem DL (ho : o ≤ 250) (hex : o < 250 → wI s ex (o + 1)) {st st' : PS} {x : Rx} {f : Nat} (hb : Bd s st.pos) (hop : st.opn = o) (hn : st.names.length ≤ 100) (h : gZ s ex f [] false st = .ok (x, st')) :
    ∃ q, Pc o st.names st'.names q x KE ∧ q + 2 * st.pos ≤ 2 * st'.pos + 1 ∧ st.pos ≤ st'.pos ∧ Bd s st'.pos ∧ st'.opn = o ∧ st'.names.length ≤ 100 := by
  obtain ⟨l, q, rfl, e2, e3⟩ := MP (ns0 := st.names) (p0 := st.pos) ho hex f [] false st st' x 0 ⟨⟨rfl, rfl⟩, by simp, Nat.le_refl _, hb, hop, hn⟩ (fun h => by cases h) h
  obtain ⟨q', r1, r2, r3, r4⟩ := row4 e2.ps (by omega)
  have hc := e2.cnt
  refine ⟨q', r1, ?_, e3, e2.bd, e2.opn, e2.nm⟩
  rcases Nat.lt_trichotomy l.length 1 with h9 | h9 | h9
  · have := r2 (by omega); omega
  · have := r3 h9; omega
  · omega
structure AltsI (s : ByteArray) (o : Nat) (ns0 : List ByteArray) (p0 : Nat) (l : List Rx) (st : PS) (q : Nat) : Prop where
  ps : Ps KE o l ns0 st.names q
  cnt : q + l.length + 2 * p0 ≤ 2 * st.pos + 2
  ge : p0 ≤ st.pos
  bd : Bd s st.pos
  opn : st.opn = o
  nm : st.names.length ≤ 100
  ne : 1 ≤ l.length
theorem UE (ho : o ≤ 250) (hex : o < 250 → wI s ex (o + 1)) : ∀ (f : Nat) (l : List Rx) (st st' : PS) (x : Rx) (q : Nat), AltsI s o ns0 p0 l st q → kV s ex f l st = .ok (x, st') → ∃ l' q', x = oZ 5 l' ∧ AltsI s o ns0 p0 l' st' q'
  | 0, l, st, st', x, q, h, h1 => by rw [kV] at h1; cases h1; exact ⟨l, q, rfl, h⟩
  | f + 1, l, st, st', x, q, h, h1 => by
    rw [kV] at h1
    split at h1
    · rename_i hb
      split at h1
      · cases h1
      · rename_i y st2 hy
        obtain ⟨q2, r1, r2, r3, r4, r5, r6⟩ := DL ho hex (st := { st with pos := st.pos + 1 }) ((h.bd.asc hb.1 (by rw [hb.2]; decide)).1) h.opn h.nm hy
        have hc := h.cnt
        have hge := h.ge
        have r2' : q2 + 2 * (st.pos + 1) ≤ 2 * st2.pos + 1 := r2
        have r3' : st.pos + 1 ≤ st2.pos := r3
        exact UE ho hex f _ _ _ _ (q + q2) ⟨h.ps.app (Ps.one r1), by rw [List.length_append]; simp; omega, by omega, r4, r5, r6, by rw [List.length_append]; simp⟩ h1
    · cases h1; exact ⟨l, q, rfl, h⟩
theorem TC (ho : o ≤ 250) (hex : o < 250 → wI s ex (o + 1)) : wI s (iU s ex) o := by
  intro st x st' hop hb hn h
  unfold iU at h
  split at h
  · cases h
  · rename_i y st2 hy
    obtain ⟨q, r1, r2, r3, r4, r5, r6⟩ := DL ho hex hb hop hn hy
    obtain ⟨l, q', rfl, e⟩ := UE (ns0 := st.names) (p0 := st.pos) ho hex _ _ _ _ _ q ⟨Ps.one r1, by simp; omega, r3, r4, r5, r6, by simp⟩ h
    obtain ⟨q2, f1, f2, f3⟩ := row5 e.ps e.ne (by omega)
    have hc := e.cnt
    refine ⟨q2, f1, ?_, e.ge, e.bd, e.opn, e.nm⟩
    rcases Nat.lt_or_ge 1 l.length with h9 | h9
    · omega
    · have := f2 (by have := e.ne; omega); have := e.ne; omega
end
theorem AY (s : ByteArray) : ∀ n, n ≤ 250 → wI s (iD s n) (250 - n)
  | 0, _ => TC (ex := fun _ => .error 3) (o := 250) (Nat.le_refl _) (fun h => absurd h (Nat.lt_irrefl _))
  | n + 1, h => by
    have h1 := AY s n (by omega)
    have h2 : wI s (iU s (iD s n)) (250 - (n + 1)) := TC (by omega) (fun _ => by rw [show 250 - (n + 1) + 1 = 250 - n by omega]; exact h1)
    exact h2
theorem nX {s : ByteArray} {x : Rx} (h : fZ s = .ok x) : x.Ok ∧ ∃ st', iD s 250 st0 = .ok (x, st') ∧ s.size ≤ st'.pos ∧ Bd s st'.pos ∧ ∃ q, x.fine 0 (0, []) = some (q, st'.names) := by
  unfold fZ at h
  split at h
  · cases h
  · rename_i hz
    split at h
    · cases h
    · rename_i hU
      obtain ⟨N, hU⟩ := Classical.not_not.1 hU
      split at h
      · cases h
      · rename_i x0 st hx
        split at h
        · cases h
        · rename_i hend
          cases h
          obtain ⟨q, q1, q2, q3, q4, q5, q6⟩ := AY s 250 (Nat.le_refl _) st0 x st rfl (Bd.zero hU) (Nat.zero_le _) hx
          have hle := q4.le
          have hf := q1 0 0 (by simp) (by have : q + 2 * 0 ≤ 2 * st.pos + 1 := q2; omega)
          rw [Nat.zero_add] at hf
          exact ⟨⟨_, hf⟩, st, hx, by omega, q4, q, hf⟩
section
variable {s : ByteArray}
end
section
variable {s : ByteArray}
end
section
variable {s : ByteArray}
end
section
variable {s : ByteArray} {ex : PS → PX Rx} {bb : Bool} {o : Nat} {ns : List ByteArray} {i : Nat}
end
def Fb (b : Nat) : Prop := b ≠ 63 ∧ b ≠ 42 ∧ b ≠ 43 ∧ b ≠ 123 ∧ b ≠ 124 ∧ b ≠ 41
instance (b : Nat) : Decidable (Fb b) := by unfold Fb; infer_instance
section
variable {s : ByteArray} {o : Nat} {bb : Bool} {i n : Nat} {y : Rx} {ns ns' : List ByteArray}
end
def Rend (s : ByteArray) (j : Nat) : Prop := s.size ≤ j ∨ isB s j 124 ∨ isB s j 41
def Endp (s : ByteArray) (j : Nat) : Prop := s.size ≤ j ∨ isB s j 41
theorem Endp.r {s : ByteArray} {j : Nat} (h : Endp s j) : Rend s j := h.imp id .inr
theorem Rend.end {s : ByteArray} {j : Nat} (h : Rend s j) : s.size ≤ j ∨ sb s j = 124 ∨ sb s j = 41 := h.imp id (Or.imp (·.2) (·.2))
theorem Endp.nb {s : ByteArray} {j : Nat} (h : Endp s j) : ¬ isB s j 124 := fun h9 => by
  rcases h with h | h
  · have := h9.1; omega
  · exact isB.ne h (by decide) h9
section
variable {s : ByteArray} {bb : Bool}
end
section
variable {s : ByteArray} {bb : Bool}
end
def Uf (L : List Nat) : Prop := ∃ l, VR l ∧ L = frm l
theorem Uf.nil : Uf [] := ⟨[], (fun x hx => by cases hx), rfl⟩
theorem Uf.app {a b : List Nat} : Uf a → Uf b → Uf (a ++ b) := fun ⟨l, h1, h2⟩ ⟨m, h3, h4⟩ => ⟨l ++ m, fun x hx => (List.mem_append.1 hx).elim (h1 x) (h3 x), by rw [CN, h2, h4]⟩
theorem Uf.form {c : Int} (h : IsR c) : Uf (dW c) := ⟨[c], fun x hx => by simp at hx; subst hx; exact h, by show _ = dW c ++ []; rw [List.append_nil]⟩
theorem Uf.asc : ∀ {L : List Nat}, (∀ b, b ∈ L → b < 128) → Uf L
  | [], _ => Uf.nil
  | b :: L, h => by
    have hb := h b (by simp)
    have h1 : Uf (dW (b : Int)) := Uf.form ⟨by omega, by omega, by omega⟩
    rw [HC (by omega) (by omega)] at h1
    exact h1.app (Uf.asc fun x hx => h x (by simp [hx]))
section
variable {s : ByteArray} {bb : Bool}
end
def NZ {α : Type} (r : Except Int α) : Prop := ∀ e, r = .error e → e ≠ 0
theorem lJ {α : Type} (a : α) : NZ (.ok a : Except Int α) := fun e h => by cases h
theorem gT {α : Type} {e : Int} (h : e ≠ 0) : NZ (.error e : Except Int α) := fun e' h' => by cases h'; exact h
theorem NZ.ne {α : Type} {r : Except Int α} {e : Int} (h : NZ r) (k : r = .error e) : e ≠ 0 := h e k
theorem KW (s : ByteArray) (i : Nat) : NZ (gS s i) := by
  unfold gS
  repeat' split
  all_goals first | exact lJ _ | exact gT (by decide)
theorem KU (s : ByteArray) : ∀ f n i, NZ (kF s f n i)
  | 0, n, i => gT (by decide)
  | f + 1, n, i => by
    unfold kF
    repeat' split
    all_goals first | exact lJ _ | exact KU s f _ _ | exact gT (by decide) | exact gT ((KW _ _).ne (by assumption))
theorem nz_hex (s : ByteArray) (i : Nat) : NZ (nD s i) := by
  unfold nD
  repeat' split
  all_goals first | exact lJ _ | exact KU _ _ _ _ | exact gT (by decide) | exact gT ((KW _ _).ne (by assumption))
theorem RG (s : ByteArray) (i : Nat) : NZ (lP s i) := by
  unfold lP
  repeat' split
  all_goals first | exact lJ _ | exact nz_hex _ _ | exact gT (by decide)
theorem nz_one (s : ByteArray) (i : Nat) : NZ (jV s i) := by
  unfold jV
  repeat' split
  all_goals first | exact lJ _ | exact gT (by decide) | exact gT ((RG _ _).ne (by assumption))
theorem QY (s : ByteArray) (i : Nat) : NZ (gP s i) := by
  unfold gP
  repeat' split
  all_goals first | exact lJ _ | exact gT (by decide) | exact gT ((nz_one _ _).ne (by assumption))
theorem RE (s : ByteArray) (i : Nat) : NZ (jA s i) := by
  unfold jA
  repeat' split
  all_goals first | exact lJ _ | exact QY _ _
theorem nz_item (s : ByteArray) (i : Nat) : NZ (iN s i) := by
  unfold iN
  repeat' split
  all_goals first | exact lJ _ | exact RE _ _ | exact gT (by decide)
theorem FP (s : ByteArray) : ∀ f b S i, NZ (eE s f b S i)
  | 0, b, S, i => gT (by decide)
  | f + 1, b, S, i => by
    unfold eE
    repeat' split
    all_goals first | exact lJ _ | exact FP s f _ _ _ | exact gT (by decide) | exact gT ((nz_item _ _).ne (by assumption))
theorem RH (s : ByteArray) (fl : Fl) (i : Nat) : NZ (jH s fl i) := by
  unfold jH
  split
  · exact gT ((FP _ _ _ _ _).ne (by assumption))
  · exact lJ _
theorem nz_brk {s : ByteArray} {ex : PS → PX Rx} (h : ∀ st, NZ (ex st)) (st : PS) : NZ (oH s ex st) := by
  unfold oH
  dsimp only
  repeat' split
  all_goals first | exact lJ _ | exact gT (by decide) | exact gT (by assumption) | exact gT ((h _).ne (by assumption))
theorem QZ (s : ByteArray) (st : PS) : NZ (mM s st) := by
  unfold mM
  split <;> exact lJ _
theorem NL (s : ByteArray) (st : PS) : NZ (fV s st) := by
  unfold fV
  repeat' split
  all_goals first | exact lJ _ | exact QZ _ _ | exact gT (by decide) | exact gT ((RG _ _).ne (by assumption))
theorem RA {s : ByteArray} {ex : PS → PX Rx} (h : ∀ st, NZ (ex st)) (st : PS) : NZ (eM s ex st) := by
  unfold eM
  repeat' split
  all_goals first | exact lJ _ | exact nz_brk h _ | exact NL _ _ | exact gT ((RH _ _ _).ne (by assumption)) | (unfold jG; exact lJ _)
theorem IR {s : ByteArray} {ex : PS → PX Rx} (h : ∀ st, NZ (ex st)) : ∀ f l ah st, NZ (gZ s ex f l ah st)
  | 0, l, ah, st => lJ _
  | f + 1, l, ah, st => by
    unfold gZ
    dsimp only
    repeat' split
    all_goals first | exact lJ _ | exact IR h f _ _ _ | exact gT (by decide) | exact gT ((RA h _).ne (by assumption))
theorem KY {s : ByteArray} {ex : PS → PX Rx} (h : ∀ st, NZ (ex st)) : ∀ f l st, NZ (kV s ex f l st)
  | 0, l, st => lJ _
  | f + 1, l, st => by
    unfold kV
    repeat' split
    all_goals first | exact lJ _ | exact KY h f _ _ | exact gT ((IR h _ _ _ _).ne (by assumption))
theorem KX {s : ByteArray} {ex : PS → PX Rx} (h : ∀ st, NZ (ex st)) (st : PS) : NZ (iU s ex st) := by
  unfold iU
  split
  · exact gT ((IR h _ _ _ _).ne (by assumption))
  · exact KY h _ _ _
theorem RF (s : ByteArray) : ∀ n st, NZ (iD s n st)
  | 0, st => KX (fun _ => gT (by decide)) st
  | n + 1, st => KX (RF s n) st
theorem RD (s : ByteArray) : NZ (fZ s) := by
  unfold fZ
  repeat' split
  all_goals first | exact lJ _ | exact gT (by decide) | exact gT ((RF _ _ _).ne (by assumption))
structure Cs (s t : ByteArray) (d i i' : Nat) : Prop where
  le : i ≤ s.size
  off : i' = i + d
  sz : s.size + d < t.size
  eq : ∀ k, i + k < s.size → sb t (i' + k) = sb s (i + k)
  cl : ∀ k, i + k = s.size → sb t (i' + k) = 41
section
variable {s t : ByteArray} {d i i' : Nat}
theorem Cs.add (h : Cs s t d i i') (n : Nat) (hn : i + n ≤ s.size) : Cs s t d (i + n) (i' + n) := ⟨hn, by have := h.off; omega, h.sz, fun k hk => by rw [Nat.add_assoc, Nat.add_assoc]; exact h.eq (n + k) (by omega), fun k hk => by rw [Nat.add_assoc]; exact h.cl (n + k) (by omega)⟩
theorem Cs.at0 (h : Cs s t d i i') (hi : i < s.size) : sb t i' = sb s i := h.eq 0 hi
theorem Cs.lt (h : Cs s t d i i') (k : Nat) (hi : i + k ≤ s.size) : i' + k < t.size := by have := h.sz; have := h.off; omega
theorem Cs.lt0 (h : Cs s t d i i') : i' < t.size := by have := h.sz; have := h.off; have := h.le; omega
theorem Cs.isB (h : Cs s t d i i') (k b : Nat) (hi : i + k ≤ s.size) (hb : b ≠ 41) : isB t (i' + k) b ↔ isB s (i + k) b := by
  unfold Go.Proofs.YtljadkcojnlioaaGreatDoor.isB
  constructor
  · rintro ⟨h1, h2⟩
    rcases Nat.lt_or_ge (i + k) s.size with h3 | h3
    · exact ⟨h3, by rw [← h.eq k h3]; exact h2⟩
    · rw [h.cl k (by omega)] at h2; omega
  · rintro ⟨h1, h2⟩
    exact ⟨h.lt k hi, by rw [h.eq k h1]; exact h2⟩
theorem Cs.isB0 (h : Cs s t d i i') (b : Nat) (hb : b ≠ 41) : Go.Proofs.YtljadkcojnlioaaGreatDoor.isB t i' b ↔ Go.Proofs.YtljadkcojnlioaaGreatDoor.isB s i b := h.isB 0 b h.le hb
theorem Cs.guess (h : Cs s t d i i') {n : Nat} (h1 : 1 ≤ n) (hn : i + n ≤ s.size) (h4 : n ≤ 4) : dY t i' n = dY s i n := by
  unfold dY
  have e0 := h.at0 (by omega)
  by_cases c1 : n = 1
  · rw [if_pos c1, if_pos c1, e0]
  by_cases c2 : n = 2
  · rw [if_neg c1, if_pos c2, if_neg c1, if_pos c2, e0, h.eq 1 (by omega)]
  by_cases c3 : n = 3
  · rw [if_neg c1, if_neg c2, if_pos c3, if_neg c1, if_neg c2, if_pos c3, e0, h.eq 1 (by omega), h.eq 2 (by omega)]
  · rw [if_neg c1, if_neg c2, if_neg c3, if_neg c1, if_neg c2, if_neg c3, e0, h.eq 1 (by omega), h.eq 2 (by omega), h.eq 3 (by omega)]
theorem Cs.hit (h : Cs s t d i i') {n : Nat} (h1 : 1 ≤ n) (hn : i + n ≤ s.size) (h4 : n ≤ 4) (hh : Hit s i n) : Hit t i' n := by
  unfold Hit at hh ⊢
  rw [h.guess h1 hn h4, hh]
  unfold gH
  exact List.map_congr_left fun k hk => (h.eq k (by have := List.mem_range.1 hk; omega)).symm
theorem Cs.next (h : Cs s t d i i') (hb : Bd s i) (hi : i < s.size) : cE t i' = cE s i := by
  have h0 := (hb.next hi).1
  by_cases hw : ∃ n, 1 ≤ n ∧ n ≤ 4 ∧ i + n ≤ s.size ∧ Hit s i n
  · obtain ⟨n, h1, h2, h3, h4⟩ := hw
    have hz := h.sz
    have ho := h.off
    rw [(jN h1 h2 h3 h4).1, (jN h1 h2 (by omega) (h.hit h1 h3 h2 h4)).1, h.guess h1 h3 h2]
  · rw [mN fun n h1 h2 h3 h4 => hw ⟨n, h1, h2, h3, h4⟩] at h0
    exact absurd h0 (Nat.lt_irrefl 0)
theorem Cs.hexD {v j : Nat} (h : Cs s t d i i') (h1 : gS s i = .ok (v, j)) : gS t i' = .ok (v, i' + 1) ∧ j = i + 1 ∧ Cs s t d (i + 1) (i' + 1) := by
  unfold gS at h1 ⊢
  split at h1
  · rename_i hi
    rw [if_pos (h.lt0), h.at0 hi]
    split at h1
    · cases h1
      rename_i e
      try rw [e]
      exact ⟨rfl, rfl, h.add 1 hi⟩
    · cases h1
  · cases h1
theorem Cs.hexL : ∀ {f g n m i i' j : Nat}, f ≤ g → Cs s t d i i' → kF s f n i = .ok (m, j) → ∃ j', kF t g n i' = .ok (m, j') ∧ Cs s t d j j'
  | 0, g, n, m, i, i', j, hg, h, h1 => by rw [kF] at h1; cases h1
  | f + 1, 0, n, m, i, i', j, hg, h, h1 => by omega
  | f + 1, g + 1, n, m, i, i', j, hg, h, h1 => by
    rw [kF] at h1 ⊢
    split at h1
    · rename_i hb
      cases h1
      rw [if_pos ((h.isB0 125 (by decide)).2 hb)]
      exact ⟨_, rfl, h.add 1 hb.1⟩
    · rename_i hb
      rw [if_neg (fun h9 => hb ((h.isB0 125 (by decide)).1 h9))]
      split at h1
      · cases h1
      · rename_i v j0 e
        obtain ⟨e1, rfl, e3⟩ := h.hexD e
        rw [e1]
        simp only
        split at h1
        · cases h1
        · rename_i hc
          rw [if_neg hc]
          exact Cs.hexL (by omega) e3 h1
theorem Cs.hex {n j : Nat} (h : Cs s t d i i') (h1 : nD s i = .ok (n, j)) : ∃ j', nD t i' = .ok (n, j') ∧ Cs s t d j j' := by
  unfold nD at h1 ⊢
  split at h1
  · rename_i hb
    rw [if_pos ((h.isB0 123 (by decide)).2 hb)]
    have h2 := h.add 1 hb.1
    split at h1
    · cases h1
    · rename_i v j0 e
      obtain ⟨e1, rfl, e3⟩ := h2.hexD e
      rw [e1]
      simp only
      exact Cs.hexL (by have := h.sz; have := h.off; omega) e3 h1
  · rename_i hb
    rw [if_neg (fun h9 => hb ((h.isB0 123 (by decide)).1 h9))]
    split at h1
    · cases h1
    · rename_i v j0 e
      obtain ⟨e1, rfl, e3⟩ := h.hexD e
      rw [e1]
      simp only
      split at h1
      · cases h1
      · rename_i d2 j2 e2
        obtain ⟨e4, rfl, e5⟩ := e3.hexD e2
        rw [e4]
        cases h1
        exact ⟨_, rfl, e5⟩
theorem Cs.esc {n j : Nat} (h : Cs s t d i i') (h1 : lP s i = .ok (n, j)) : ∃ j', lP t i' = .ok (n, j') ∧ Cs s t d j j' := by
  unfold lP at h1 ⊢
  split at h1
  · cases h1
  · rename_i hc
    have hl := h.lt 1 (by omega)
    rw [if_neg (by omega), h.eq 1 (by omega)]
    have h2 := h.add 2 (by omega)
    split at h1
    · rename_i e
      try rw [e]
      cases h1
      exact ⟨_, rfl, h2⟩
    · rename_i e
      try rw [e]
      try simp only
      split at h1
      · rename_i e2
        rw [if_pos e2]
        exact h2.hex h1
      · rename_i e2
        rw [if_neg e2]
        split at h1
        · cases h1
        · rename_i e3
          rw [if_neg e3]; cases h1
          exact ⟨_, rfl, h2⟩
theorem Cs.one {r : Int} {j : Nat} (h : Cs s t d i i') (hb : Bd s i) (hi : i < s.size) (h1 : jV s i = .ok (r, j)) : ∃ j', jV t i' = .ok (r, j') ∧ Cs s t d j j' := by
  unfold jV at h1 ⊢
  rw [h.at0 hi]
  split at h1
  · rename_i e
    rw [if_pos e]
    split at h1
    · rename_i e1
      obtain ⟨j', e2, e3⟩ := h.esc e1
      cases h1
      rw [e2]
      exact ⟨_, rfl, e3⟩
    · cases h1
  · rename_i e
    rw [if_neg e, h.next hb hi]
    cases h1
    exact ⟨_, rfl, h.add _ (hb.next hi).2.1⟩
def MS (s : ByteArray) (j : Nat) : Prop := j < s.size ∧ (sb s j = 93 ∨ j + 1 < s.size)
theorem Cs.range {S : Int → Prop} {j : Nat} (h : Cs s t d i i') (hb : Bd s i) (hi : i < s.size) (hg : MS s j) (h1 : gP s i = .ok (S, j)) : ∃ j', gP t i' = .ok (S, j') ∧ Cs s t d j j' := by
  unfold gP at h1 ⊢
  split at h1
  · cases h1
  · rename_i lo j0 e
    obtain ⟨j1, e1, e2⟩ := h.one hb hi e
    obtain ⟨b1, b2, -, -⟩ := jU e hb hi
    rw [e1]
    simp only
    split at h1
    · rename_i hd
      have hd' : Go.Proofs.YtljadkcojnlioaaGreatDoor.isB t j1 45 ∧ j1 + 1 < t.size ∧ sb t (j1 + 1) ≠ 93 := ⟨(e2.isB0 45 (by decide)).2 hd.1, e2.lt 1 hd.1.1, by rw [e2.eq 1 hd.2.1]; exact hd.2.2⟩
      rw [if_pos hd']
      have b3 : Bd s (j0 + 1) := (b1.asc hd.1.1 (by rw [hd.1.2]; decide)).1
      split at h1
      · cases h1
      · rename_i hi' j2 e3
        obtain ⟨j3, e4, e5⟩ := (e2.add 1 hd.1.1).one b3 hd.2.1 e3
        rw [e4]
        simp only
        split at h1
        · cases h1
        · rename_i hc
          rw [if_neg hc]; cases h1
          exact ⟨_, rfl, e5⟩
    · rename_i hd
      cases h1
      have hd' : ¬ (Go.Proofs.YtljadkcojnlioaaGreatDoor.isB t j1 45 ∧ j1 + 1 < t.size ∧ sb t (j1 + 1) ≠ 93) := by
        rintro ⟨g1, g2, g3⟩
        have g4 := (e2.isB0 45 (by decide)).1 g1
        have g5 : j + 1 < s.size := hg.2.resolve_left (by rw [g4.2]; decide)
        rw [e2.eq 1 g5] at g3
        exact hd ⟨g4, g5, g3⟩
      rw [if_neg hd']
      exact ⟨_, rfl, e2⟩
theorem Cs.itemR {S : Int → Prop} {j : Nat} (h : Cs s t d i i') (hb : Bd s i) (hi : i < s.size) (hg : MS s j) (h1 : jA s i = .ok (S, j)) : ∃ j', jA t i' = .ok (S, j') ∧ Cs s t d j j' := by
  unfold jA at h1 ⊢
  split at h1
  · rename_i hd
    have hd' : i' + 1 < t.size ∧ sb t i' = 92 := ⟨h.lt 1 (by omega), by rw [h.at0 hi]; exact hd.2⟩
    rw [if_pos hd', h.eq 1 hd.1]
    split at h1
    · rename_i e
      try rw [e]
      cases h1
      exact ⟨_, rfl, h.add 2 hd.1⟩
    · rename_i e
      try rw [e]
      exact h.range hb hi hg h1
  · rename_i hd
    by_cases e92 : sb s i = 92
    · exfalso
      have hz : s.size ≤ i + 1 := Nat.le_of_not_lt fun h9 => hd ⟨h9, e92⟩
      have he : lP s i = .error 83 := by unfold lP; rw [if_pos hz]
      have ho : jV s i = .error 83 := by unfold jV; rw [if_pos e92, he]
      unfold gP at h1
      rw [ho] at h1
      cases h1
    · rw [if_neg (fun h9 => e92 (by rw [← h.at0 hi]; exact h9.2))]
      exact h.range hb hi hg h1
theorem Cs.occ (h : Cs s t d i i') (a b k : Nat) (hk : i + (k + 1) < s.size) : Occ t a b (i' + k) ↔ Occ s a b (i + k) := by
  unfold Occ
  have h1 := h.lt (k + 1) (by omega)
  rw [Nat.add_assoc, Nat.add_assoc, h.eq k (by omega), h.eq (k + 1) hk]
  exact ⟨fun h9 => ⟨hk, h9.2⟩, fun h9 => ⟨h1, h9.2⟩⟩
theorem Cs.find (h : Cs s t d i i') (hz : t.size = s.size + d + 1) (a b : Nat) (hb : b ≠ 41) : (∀ k, iG s a b s.size i = some k → ∃ n, k = i + n ∧ iG t a b t.size i' = some (i' + n) ∧ k + 1 < s.size) ∧ (iG s a b s.size i = none → iG t a b t.size i' = none) := by
  obtain ⟨p1, p2⟩ := lE s a b s.size i (by omega)
  obtain ⟨q1, q2⟩ := lE t a b t.size i' (by omega)
  have ho := h.off
  have back : ∀ m, Occ t a b (i' + m) → Occ s a b (i + m) := fun m hm => by
    have h1 := hm.1
    rcases Nat.lt_or_ge (i + (m + 1)) s.size with h2 | h2
    · exact (h.occ a b m h2).1 hm
    · have h3 := hm.2.2
      rw [Nat.add_assoc, h.cl (m + 1) (by omega)] at h3
      omega
  have forth : ∀ m, Occ s a b (i + m) → Occ t a b (i' + m) := fun m hm => (h.occ a b m (by have := hm.1; omega)).2 hm
  refine ⟨fun k hk => ?_, fun hn => ?_⟩
  · obtain ⟨k1, k2, k3⟩ := p1 k hk
    obtain ⟨n, rfl⟩ := Nat.exists_eq_add_of_le k1
    refine ⟨n, rfl, ?_, k2.1⟩
    cases hq : iG t a b t.size i' with
    | none => exact (q2 hq (i' + n) (by omega) (forth n k2)).elim
    | some k' =>
      obtain ⟨m1, m2, m3⟩ := q1 k' hq
      obtain ⟨m, rfl⟩ := Nat.exists_eq_add_of_le m1
      rcases Nat.lt_trichotomy m n with hl | rfl | hl
      · exact (k3 (i + m) (by omega) (by omega) (back m m2)).elim
      · rfl
      · exact (m3 (i' + n) (by omega) (by omega) (forth n k2)).elim
  · cases hq : iG t a b t.size i' with
    | none => rfl
    | some k' =>
      obtain ⟨m1, m2, m3⟩ := q1 k' hq
      obtain ⟨m, rfl⟩ := Nat.exists_eq_add_of_le m1
      exact (p2 hn (i + m) (by omega) (back m m2)).elim
theorem Cs.sub (h : Cs s t d i i') {a b : Nat} (hb : i + b ≤ s.size) : t.extract (i' + a) (i' + b) = s.extract (i + a) (i + b) := by
  have hz := h.sz
  have ho := h.off
  have e1 : (s.extract (i + a) (i + b)).size = b - a := by rw [ByteArray.size_extract]; omega
  have e2 : (t.extract (i' + a) (i' + b)).size = b - a := by rw [ByteArray.size_extract]; omega
  refine tA (by rw [e1, e2]) fun k hk => ?_
  rw [e2] at hk
  rw [dV hb (by omega), dV (by omega) (by omega), Nat.add_assoc, Nat.add_assoc]
  exact h.eq (a + k) (by omega)
def zH (s t : ByteArray) (d : Nat) : Prop := (∀ k, ¬ Occ s 91 58 k) ∨ t.size = s.size + d + 1
theorem Cs.item {S : Int → Prop} {j : Nat} (h : Cs s t d i i') (hN : zH s t d) (hb : Bd s i) (hi : i < s.size) (hg : MS s j) (h1 : iN s i = .ok (S, j)) : ∃ j', iN t i' = .ok (S, j') ∧ Cs s t d j j' := by
  have hcon : (Go.Proofs.YtljadkcojnlioaaGreatDoor.isB t i' 91 ∧ Go.Proofs.YtljadkcojnlioaaGreatDoor.isB t (i' + 1) 58) ↔ (Go.Proofs.YtljadkcojnlioaaGreatDoor.isB s i 91 ∧ Go.Proofs.YtljadkcojnlioaaGreatDoor.isB s (i + 1) 58) := by rw [h.isB0 91 (by decide), h.isB 1 58 (by omega) (by decide)]
  unfold iN at h1 ⊢
  split at h1
  · rename_i hd
    have hz : t.size = s.size + d + 1 := hN.resolve_left fun h9 => h9 i ⟨hd.2.1, hd.1.2, hd.2.2⟩
    rw [if_pos (hcon.2 hd)]
    obtain ⟨f1, f2⟩ := (h.add 2 (by have := hd.2.1; omega)).find hz 58 93 (by decide)
    split at h1
    · rename_i e
      rw [f2 e]
      exact h.itemR hb hi hg h1
    · rename_i k e
      obtain ⟨n, rfl, e1, e2⟩ := f1 k e
      rw [e1]
      simp only
      have hc2 : (i' + 2 < i' + 2 + n ∧ sb t (i' + 2) = 94) ↔ (i + 2 < i + 2 + n ∧ sb s (i + 2) = 94) := by rw [h.eq 2 (by omega)]; omega
      have h9 := h.add (2 + n + 2) (by omega)
      split at h1
      · rename_i hq
        rw [if_pos (hc2.2 hq), Nat.add_assoc i' 2 n, h.sub (a := 3) (b := 2 + n) (by omega)]
        rw [Nat.add_assoc i 2 n] at h1
        split at h1
        · cases h1
        · rename_i e3
          try rw [e3]
          cases h1
          exact ⟨_, rfl, h9⟩
      · rename_i hq
        rw [if_neg (fun h8 => hq (hc2.1 h8)), Nat.add_assoc i' 2 n, h.sub (a := 2) (b := 2 + n) (by omega)]
        rw [Nat.add_assoc i 2 n] at h1
        split at h1
        · cases h1
        · rename_i e3
          try rw [e3]
          cases h1
          exact ⟨_, rfl, h9⟩
  · rename_i hd
    rw [if_neg (fun h9 => hd (hcon.1 h9))]
    exact h.itemR hb hi hg h1
theorem yE : ∀ {f i j : Nat} {S T : Int → Prop}, Bd s i → eE s f false S i = .ok (T, j) → MS s i
  | 0, i, j, S, T, hb, h1 => by rw [eE] at h1; cases h1
  | f + 1, i, j, S, T, hb, h1 => by
    rw [eE] at h1
    split at h1
    · cases h1
    · rename_i hc
      refine ⟨by omega, ?_⟩
      split at h1
      · rename_i hd; exact .inl hd.2
      · split at h1
        · cases h1
        · rename_i U j2 e
          obtain ⟨b1, b2⟩ := pT e hb (by omega)
          have := (yE b1 h1).1
          exact .inr (by omega)
theorem Cs.items : ∀ {f i i' j : Nat} {fst : Bool} {S T : Int → Prop}, zH s t d → Bd s i → Cs s t d i i' → eE s f fst S i = .ok (T, j) → ∃ j', eE t f fst S i' = .ok (T, j') ∧ Cs s t d j j'
  | 0, i, i', j, fst, S, T, hN, hb, h, h1 => by rw [eE] at h1; cases h1
  | f + 1, i, i', j, fst, S, T, hN, hb, h, h1 => by
    have hz := h.sz
    have ho := h.off
    rw [eE] at h1 ⊢
    split at h1
    · cases h1
    · rename_i hc
      have hi : i < s.size := by omega
      rw [if_neg (by omega), h.at0 hi]
      split at h1
      · rename_i hd
        rw [if_pos hd]; cases h1
        exact ⟨_, rfl, h.add 1 (by omega)⟩
      · rename_i hd
        rw [if_neg hd]
        split at h1
        · cases h1
        · rename_i U j2 e
          obtain ⟨b1, b2⟩ := pT e hb hi
          obtain ⟨j2, e2, e3⟩ := h.item hN hb hi (yE b1 h1) e
          rw [e2]
          exact Cs.items hN b1 e3 h1
theorem Cs.cls {fl : Fl} {x : Rx} {j : Nat} (hN : zH s t d) (hb : Bd s i) (h : Cs s t d i i') (h1 : jH s fl i = .ok (x, j)) : ∃ j', jH t fl i' = .ok (x, j') ∧ Cs s t d j j' := by
  have hc : Go.Proofs.YtljadkcojnlioaaGreatDoor.isB t i' 94 ↔ Go.Proofs.YtljadkcojnlioaaGreatDoor.isB s i 94 := h.isB0 94 (by decide)
  have hz := h.sz
  cases hi : eE s (s.size + 1) true (fun _ => False) (if Go.Proofs.YtljadkcojnlioaaGreatDoor.isB s i 94 then i + 1 else i) with
  | error e => rw [tV hi] at h1; cases h1
  | ok q =>
    obtain ⟨C, j2⟩ := q
    rw [rC hi] at h1
    cases h1
    by_cases h94 : Go.Proofs.YtljadkcojnlioaaGreatDoor.isB s i 94
    · rw [if_pos h94] at hi
      obtain ⟨j', e1, e2⟩ := (h.add 1 h94.1).items hN ((hb.asc h94.1 (by rw [h94.2]; decide)).1) hi
      have e3 := sW (g := t.size + 1) (by omega) e1
      refine ⟨j', ?_, e2⟩
      rw [rC (by rw [if_pos (hc.2 h94)]; exact e3), if_pos (hc.2 h94), if_pos h94]
    · rw [if_neg h94] at hi
      obtain ⟨j', e1, e2⟩ := h.items hN hb hi
      have e3 := sW (g := t.size + 1) (by omega) e1
      refine ⟨j', ?_, e2⟩
      rw [rC (by rw [if_neg (fun h9 => h94 (hc.1 h9))]; exact e3), if_neg (fun h9 => h94 (hc.1 h9)), if_neg h94]
theorem Cs.word : ∀ {f g i i' : Nat}, s.size ≤ i + f → t.size ≤ i' + g → Cs s t d i i' → gV t g i' = gV s f i + d ∧ gV s f i ≤ s.size
  | 0, g, i, i', hf, hg, h => by
    have e : i = s.size := by have := h.le; omega
    have h1 := h.cl 0 e
    have h2 := h.off
    rw [iR (fun h9 => by have := h9.2; rw [show sb t i' = 41 from h1] at this; revert this; decide)]
    exact ⟨by show i' = i + d; exact h2, h.le⟩
  | f + 1, g, i, i', hf, hg, h => by
    by_cases hw : i < s.size ∧ iS (sb s i)
    · have hl := h.lt0
      obtain ⟨g, rfl⟩ : ∃ g', g = g' + 1 := ⟨g - 1, by omega⟩
      rw [xQ hw.1 hw.2, xQ hl (by rw [h.at0 hw.1]; exact hw.2)]
      exact Cs.word (by omega) (by omega) (h.add 1 hw.1)
    · rw [iR hw]
      refine ⟨?_, h.le⟩
      rw [iR ?_]
      · exact h.off
      · rintro ⟨h1, h2⟩
        rcases Nat.lt_or_ge i s.size with h3 | h3
        · rw [h.at0 h3] at h2; exact hw ⟨h3, h2⟩
        · have h4 := h.cl 0 (by have := h.le; omega)
          rw [show sb t i' = 41 from h4] at h2
          revert h2; decide
theorem Cs.name {n : Nat} {fl : Fl} (h : Cs s t d i i') (hn : i + n ≤ s.size) (he : (kU s i n fl).err = 0) : kU t i' n fl = kU s i n fl := by
  have h1 := h.add n hn
  have ho := h.off
  obtain ⟨w1, w2⟩ := h1.word (f := s.size) (g := t.size) (by omega) (by omega)
  unfold kU at he ⊢
  split at he
  · cases he
  · rename_i hc
    have hb : Go.Proofs.YtljadkcojnlioaaGreatDoor.isB s (gV s s.size (i + n)) 62 := Classical.not_not.1 (fun h9 => hc (.inr h9))
    generalize e : gV s s.size (i + n) = k at *
    have hge : i + n ≤ k := by rw [← e]; exact qU
    obtain ⟨m, rfl⟩ := Nat.exists_eq_add_of_le hge
    have hk : Go.Proofs.YtljadkcojnlioaaGreatDoor.isB t (i' + n + m) 62 := (h1.isB m 62 w2 (by decide)).2 hb
    have w3 : gV t t.size (i' + n) = i' + n + m := by rw [w1]; omega
    rw [w3, if_neg (fun h9 => h9.elim (fun h8 => hc (.inl (by omega))) (fun h8 => h8 hk)), if_neg hc]
    have hs := h.sub (a := n) (b := n + m) (by omega)
    rw [← Nat.add_assoc, ← Nat.add_assoc] at hs
    rw [hs, show i' + n + m + 1 - i' = i + n + m + 1 - i by omega]
theorem Cs.set {p p' : Nat} (hp : p' = p + d) : ∀ {f g i i' : Nat} {b m : Bool} {n : Int} {fl : Fl}, f ≤ g → Cs s t d i i' → (iB s p f i b n m fl).err = 0 → iB t p' g i' b n m fl = iB s p f i b n m fl
  | 0, g, i, i', b, m, n, fl, hg, h, he => by rw [iB] at he; cases he
  | f + 1, 0, i, i', b, m, n, fl, hg, h, he => by omega
  | f + 1, g + 1, i, i', b, m, n, fl, hg, h, he => by
    have ho := h.off
    rw [iB] at he ⊢
    rw [iB]
    split at he
    · cases he
    · rename_i hz
      have hi : i < s.size := by omega
      have hl := h.lt0
      rw [if_neg (by omega), if_neg hz, h.at0 hi]
      have h2 := h.add 1 hi
      split at he
      · rename_i c; rw [if_pos c, if_pos c]; exact Cs.set hp (by omega) h2 he
      · rename_i c; rw [if_neg c, if_neg c]
        split at he
        · rename_i c; rw [if_pos c, if_pos c]; exact Cs.set hp (by omega) h2 he
        · rename_i c; rw [if_neg c, if_neg c]
          split at he
          · rename_i c; rw [if_pos c, if_pos c]; exact Cs.set hp (by omega) h2 he
          · rename_i c; rw [if_neg c, if_neg c]
            split at he
            · rename_i c; rw [if_pos c, if_pos c]; exact Cs.set hp (by omega) h2 he
            · rename_i c; rw [if_neg c, if_neg c]
              split at he
              · rename_i c; rw [if_pos c, if_pos c]
                split at he
                · cases he
                · rename_i c; rw [if_neg c, if_neg c]; exact Cs.set hp (by omega) h2 he
              · rename_i c; rw [if_neg c, if_neg c]
                split at he
                · rename_i c; rw [if_pos c, if_pos c, show i' + 1 - p' = i + 1 - p by omega]
                · cases he
theorem Cs.open_ {fl : Fl} (h : Cs s t d i i') (h40 : Go.Proofs.YtljadkcojnlioaaGreatDoor.isB s i 40) (he : (eA s i fl).err = 0) : eA t i' fl = eA s i fl := by
  have i1 := h40.1
  have b1 := h.isB0 40 (by decide)
  have b2 := h.isB 1 63 (by omega) (by decide)
  unfold eA at he ⊢
  by_cases c1 : Go.Proofs.YtljadkcojnlioaaGreatDoor.isB s i 40 ∧ Go.Proofs.YtljadkcojnlioaaGreatDoor.isB s (i + 1) 63
  · have i2 := c1.2.1
    have n1 : ¬ ¬ (Go.Proofs.YtljadkcojnlioaaGreatDoor.isB s i 40 ∧ Go.Proofs.YtljadkcojnlioaaGreatDoor.isB s (i + 1) 63) := fun h9 => h9 c1
    have n2 : ¬ ¬ (Go.Proofs.YtljadkcojnlioaaGreatDoor.isB t i' 40 ∧ Go.Proofs.YtljadkcojnlioaaGreatDoor.isB t (i' + 1) 63) := fun h9 => h9 (by rw [b1, b2]; exact c1)
    rw [if_neg n1] at he
    rw [if_neg n2, if_neg n1]
    have b3 := h.isB 2 80 (by omega) (by decide)
    have b4 := h.isB 2 60 (by omega) (by decide)
    have b5 := h.isB 2 58 (by omega) (by decide)
    by_cases c2 : Go.Proofs.YtljadkcojnlioaaGreatDoor.isB s (i + 2) 80 ∧ Go.Proofs.YtljadkcojnlioaaGreatDoor.isB s (i + 3) 60
    · have c2' : Go.Proofs.YtljadkcojnlioaaGreatDoor.isB t (i' + 2) 80 ∧ Go.Proofs.YtljadkcojnlioaaGreatDoor.isB t (i' + 3) 60 := ⟨b3.2 c2.1, (h.isB 3 60 (by have := c2.2.1; omega) (by decide)).2 c2.2⟩
      rw [if_pos c2] at he
      rw [if_pos c2, if_pos c2']
      exact h.name (by have := c2.2.1; omega) he
    · have c2' : ¬ (Go.Proofs.YtljadkcojnlioaaGreatDoor.isB t (i' + 2) 80 ∧ Go.Proofs.YtljadkcojnlioaaGreatDoor.isB t (i' + 3) 60) := fun h9 => c2 ⟨b3.1 h9.1, (h.isB 3 60 (by have := (b3.1 h9.1).1; omega) (by decide)).1 h9.2⟩
      rw [if_neg c2] at he
      rw [if_neg c2, if_neg c2']
      by_cases c3 : Go.Proofs.YtljadkcojnlioaaGreatDoor.isB s (i + 2) 60
      · rw [if_pos c3] at he
        rw [if_pos c3, if_pos (b4.2 c3)]
        exact h.name (by have := c3.1; omega) he
      · have c3' : ¬ Go.Proofs.YtljadkcojnlioaaGreatDoor.isB t (i' + 2) 60 := fun h9 => c3 (b4.1 h9)
        rw [if_neg c3] at he
        rw [if_neg c3, if_neg c3']
        by_cases c4 : Go.Proofs.YtljadkcojnlioaaGreatDoor.isB s (i + 2) 58
        · rw [if_pos c4, if_pos (b5.2 c4)]
        · have c4' : ¬ Go.Proofs.YtljadkcojnlioaaGreatDoor.isB t (i' + 2) 58 := fun h9 => c4 (b5.1 h9)
          rw [if_neg c4] at he
          rw [if_neg c4, if_neg c4']
          exact Cs.set h.off (by have := h.sz; omega) (h.add 2 (by omega)) he
  · have n2 : ¬ (Go.Proofs.YtljadkcojnlioaaGreatDoor.isB t i' 40 ∧ Go.Proofs.YtljadkcojnlioaaGreatDoor.isB t (i' + 1) 63) := by rw [b1, b2]; exact c1
    rw [if_pos c1, if_pos n2]
theorem IS : ∀ {f i : Nat} {n : Int}, i ≤ s.size → i ≤ (gX s f i n).2 ∧ (gX s f i n).2 ≤ s.size
  | 0, i, n, h => ⟨Nat.le_refl _, h⟩
  | f + 1, i, n, h => by
    rw [gX]
    split
    · rename_i hc
      have := IS (f := f) (n := min (n * 10 + ((sb s i : Int) - 48)) 1001) (show i + 1 ≤ s.size from hc.1)
      exact ⟨by omega, this.2⟩
    · exact ⟨Nat.le_refl _, h⟩
theorem xX {f i : Nat} {n : Int} (h : ¬ (i < s.size ∧ OD (sb s i))) : gX s f i n = (n, i) := by
  cases f with
  | zero => rfl
  | succ f => rw [gX, if_neg h]
theorem Cs.num : ∀ {f g i i' : Nat} {n : Int}, s.size ≤ i + f → t.size ≤ i' + g → Cs s t d i i' → (gX t g i' n).1 = (gX s f i n).1 ∧ (gX t g i' n).2 = (gX s f i n).2 + d
  | 0, g, i, i', n, hf, hg, h => by
    have e : i = s.size := by have := h.le; omega
    have h1 := h.cl 0 e
    rw [xX (s := t) (fun h9 => by have := h9.2; rw [show sb t i' = 41 from h1] at this; revert this; decide)]
    exact ⟨rfl, h.off⟩
  | f + 1, g, i, i', n, hf, hg, h => by
    by_cases hw : i < s.size ∧ OD (sb s i)
    · have hl := h.lt0
      obtain ⟨g, rfl⟩ : ∃ g', g = g' + 1 := ⟨g - 1, by omega⟩
      rw [gX, gX, if_pos hw, if_pos ⟨hl, by rw [h.at0 hw.1]; exact hw.2⟩, h.at0 hw.1]
      exact Cs.num (by omega) (by omega) (h.add 1 hw.1)
    · rw [xX hw, xX (s := t) ?_]
      · exact ⟨rfl, h.off⟩
      · rintro ⟨h1, h2⟩
        rcases Nat.lt_or_ge i s.size with h3 | h3
        · rw [h.at0 h3] at h2; exact hw ⟨h3, h2⟩
        · have h4 := h.cl 0 (by have := h.le; omega)
          rw [show sb t i' = 41 from h4] at h2
          revert h2; decide
end
theorem Cs.rep0 {r u : ByteArray} (h : Cs r u 0 0 0) (h0 : 0 < r.size) : kY u = kY r := by
  have e0 : sb u 0 = sb r 0 := h.at0 h0
  have h1 : Cs r u 0 1 1 := h.add 1 h0
  obtain ⟨n1, n2⟩ := h1.num (f := r.size) (g := u.size) (n := 0) (by omega) (by omega)
  have n3 := (IS (f := r.size) (n := 0) (show 1 ≤ r.size from h0)).2
  have hN : gX u u.size 1 0 = gX r r.size 1 0 := Prod.ext n1 (by rw [n2, Nat.add_zero])
  have key : ∀ k b, k ≤ r.size → b ≠ 41 → (Go.Proofs.YtljadkcojnlioaaGreatDoor.isB u k b ↔ Go.Proofs.YtljadkcojnlioaaGreatDoor.isB r k b) := fun k b hk hb => by
    have := h.isB k b (by omega) hb
    rw [Nat.zero_add] at this; exact this
  unfold kY
  rw [e0, hN]
  generalize gX r r.size 1 0 = q at n3
  have k44 := key q.2 44 n3 (by decide)
  have k125 := key q.2 125 n3 (by decide)
  by_cases c1 : 1 < q.2 ∧ Go.Proofs.YtljadkcojnlioaaGreatDoor.isB r q.2 44
  · have hq := c1.2.1
    have h2 : Cs r u 0 (q.2 + 1) (q.2 + 1) := by
      have := h.add (q.2 + 1) (by omega)
      rw [Nat.zero_add] at this; exact this
    obtain ⟨m1, m2⟩ := h2.num (f := r.size) (g := u.size) (n := 0) (by omega) (by omega)
    have m3 := (IS (f := r.size) (n := 0) (show q.2 + 1 ≤ r.size from hq)).2
    have hM : gX u u.size (q.2 + 1) 0 = gX r r.size (q.2 + 1) 0 := Prod.ext m1 (by rw [m2, Nat.add_zero])
    rw [hM]
    have k2 := key (gX r r.size (q.2 + 1) 0).2 125 m3 (by decide)
    have c1' : 1 < q.2 ∧ Go.Proofs.YtljadkcojnlioaaGreatDoor.isB u q.2 44 := ⟨c1.1, k44.2 c1.2⟩
    simp only [if_pos c1, if_pos c1', k2]
  · have c1' : ¬ (1 < q.2 ∧ Go.Proofs.YtljadkcojnlioaaGreatDoor.isB u q.2 44) := by rw [k44]; exact c1
    simp only [if_neg c1, if_neg c1', k125]
theorem Cs.rep {s t : ByteArray} {d i i' : Nat} (h : Cs s t d i i') (hi : i < s.size) : kY (t.extract i' t.size) = kY (s.extract i s.size) := by
  have hz := h.sz
  have ho := h.off
  have z1 : (s.extract i s.size).size = s.size - i := by rw [ByteArray.size_extract]; omega
  have z2 : (t.extract i' t.size).size = t.size - i' := by rw [ByteArray.size_extract]; omega
  refine Cs.rep0 ⟨Nat.zero_le _, rfl, by rw [z1, z2]; omega, fun k hk => ?_, fun k hk => ?_⟩ (by rw [z1]; omega)
  · rw [z1] at hk
    rw [Nat.zero_add, gE (by omega), gE (by omega)]
    exact h.eq k (by omega)
  · rw [z1] at hk
    rw [Nat.zero_add, gE (by omega)]
    exact h.cl k (by omega)
mutual
def Rx.mv (n : Int) : Rx → Rx
  | .mk k r rs mn mx lz cp nm ks => .mk k r rs mn mx lz (if k = 7 then cp + n else cp) nm (mvs n ks)
def mvs (n : Int) : List Rx → List Rx
  | [] => []
  | x :: xs => x.mv n :: mvs n xs
end
theorem pX (n : Int) : ∀ l, mvs n l = l.map (Rx.mv n)
  | [] => by rw [mvs]; rfl
  | x :: l => by rw [mvs, pX n l]; rfl
theorem wW (n : Int) (a b : List Rx) : mvs n (a ++ b) = mvs n a ++ mvs n b := by rw [pX, pX, pX, List.map_append]
theorem pY (n : Int) (a : List Rx) : (mvs n a).length = a.length := by rw [pX, List.length_map]
theorem LE {n k r mn mx cp : Int} {rs : List (Int × Int)} {lz : Bool} {nm : ByteArray} (h : k ≠ 7) : (Rx.mk k r rs mn mx lz cp nm []).mv n = .mk k r rs mn mx lz cp nm [] := by rw [Rx.mv, mvs, if_neg h]
theorem RV {n k : Int} (h : k ≠ 7) : (rxK k).mv n = rxK k := LE h
theorem wX (n : Int) (S : Int → Prop) : (kG S).mv n = kG S := by
  rcases qW S with ⟨a, -, e⟩ | e <;> rw [e] <;> exact LE (by decide)
theorem RU (n : Int) (f : Fl) (c : Int) : (lX f c).mv n = lX f c := wX n _
theorem mv_rep (n lo hi : Int) (z : Bool) (x : Rx) : (iY lo hi z x).mv n = iY lo hi z (x.mv n) := by
  unfold iY; rw [Rx.mv, mvs, mvs, if_neg (by decide)]
theorem mv_grp (n c : Int) (nm : ByteArray) (x : Rx) : (oY c nm x).mv n = oY (c + n) nm (x.mv n) := by
  unfold oY; rw [Rx.mv, mvs, mvs, if_pos rfl]
theorem RS {n k : Int} (h : k ≠ 7) : ∀ l, (oZ k l).mv n = oZ k (mvs n l)
  | [] => by rw [mvs]; exact RV (by decide)
  | [x] => by rw [mvs, mvs]; rfl
  | x :: y :: l => by
    rw [mvs, mvs]
    show (lS k (x :: y :: l)).mv n = lS k (x.mv n :: y.mv n :: mvs n l)
    unfold lS; rw [Rx.mv, if_neg h, mvs, mvs]
mutual
theorem LD : ∀ x : Rx, x.mv 0 = x
  | .mk k r rs mn mx lz cp nm ks => by rw [Rx.mv, FT ks]; split <;> simp
theorem FT : ∀ l : List Rx, mvs 0 l = l
  | [] => by rw [mvs]
  | x :: l => by rw [mvs, LD x, FT l]
end
theorem lW (n : Int) (x : Rx) : mvs n [x] = [x.mv n] := by rw [mvs, mvs]
theorem LC (n lo hi : Int) (z : Bool) (l : List Rx) : mvs n (l.dropLast ++ [iY lo hi z (l.getLastD (rxK 1))]) = (mvs n l).dropLast ++ [iY lo hi z ((mvs n l).getLastD (rxK 1))] := by
  rw [wW, lW, mv_rep, pX, pX]
  rcases List.eq_nil_or_concat l with rfl | ⟨m, y, rfl⟩
  · rw [List.map_nil]
    show _ ++ [iY lo hi z ((rxK 1).mv n)] = _
    rw [RV (by decide)]; rfl
  · simp
def cb (s : ByteArray) : Nat → Nat
  | 0 => 0
  | i + 1 => cb s i + if sb s i = 40 then 1 else 0
theorem sO (s : ByteArray) {i : Nat} : ∀ {j : Nat}, i ≤ j → cb s i ≤ cb s j
  | 0, h => by rw [Nat.le_zero.1 h]; exact Nat.le_refl _
  | j + 1, h => by
    rcases Nat.lt_or_ge i (j + 1) with h1 | h1
    · have := sO s (i := i) (j := j) (by omega)
      rw [cb]; omega
    · rw [show i = j + 1 by omega]; exact Nat.le_refl _
theorem cb_go {s : ByteArray} {i j : Nat} (h : sb s i = 40) (hj : i < j) : cb s i + 1 ≤ cb s j := by
  have := sO s (i := i + 1) (j := j) hj
  rw [cb, if_pos h] at this
  exact this
def Meet (ns m : List ByteArray) : Prop := ∃ x, x ∈ m ∧ x ≠ emp ∧ x ∈ ns
theorem Meet.nil {ns : List ByteArray} : ¬ Meet ns [] := fun ⟨x, h, _⟩ => by cases h
theorem Meet.app {ns a b : List ByteArray} : Meet ns (a ++ b) ↔ Meet ns a ∨ Meet ns b :=
  ⟨fun ⟨x, h, h2⟩ => (List.mem_append.1 h).elim (fun h => .inl ⟨x, h, h2⟩) (fun h => .inr ⟨x, h, h2⟩), fun h => h.elim (fun ⟨x, h, h2⟩ => ⟨x, List.mem_append_left _ h, h2⟩) (fun ⟨x, h, h2⟩ => ⟨x, List.mem_append_right _ h, h2⟩)⟩
structure SR (s t : ByteArray) (d : Nat) (ns0 : List ByteArray) (st st' : PS) : Prop where
  cs : Cs s t d st.pos st'.pos
  now : st'.now = st.now
  opn : st'.opn = st.opn + 1
  nm : st'.names = ns0 ++ st.names
structure IvS (s : ByteArray) (o : Nat) (st : PS) : Prop where
  opn : st.opn = o
  ob : o ≤ cb s st.pos
  nb : st.names.length ≤ cb s st.pos
  bd : Bd s st.pos
theorem SR.mk' {s t : ByteArray} {d : Nat} {ns0 : List ByteArray} {st st' : PS} {j j' : Nat} (h : SR s t d ns0 st st') (hc : Cs s t d j j') : SR s t d ns0 { st with pos := j } { st' with pos := j' } := ⟨hc, h.now, h.opn, h.nm⟩
theorem IvS.mk' {s : ByteArray} {o : Nat} {st : PS} {j : Nat} (h : IvS s o st) (hj : st.pos ≤ j) (hb : Bd s j) : IvS s o { st with pos := j } := ⟨h.opn, Nat.le_trans h.ob (sO s hj), Nat.le_trans h.nb (sO s hj), hb⟩
section
variable {s t : ByteArray} {d : Nat} {ns0 : List ByteArray}
def CtxR {α : Type} (s t : ByteArray) (d : Nat) (ns0 : List ByteArray) (st st2 : PS) (r : PX α) (a : α) : Prop :=
  ∃ m, st2.names = st.names ++ m ∧ (Meet ns0 m → r = .error 85) ∧ (¬ Meet ns0 m → ∃ st2', r = .ok (a, st2') ∧ SR s t d ns0 st2 st2')
theorem CtxR.same {α : Type} {st st2 st2' : PS} {r : PX α} {a : α} (hn : st2.names = st.names) (h : r = .ok (a, st2')) (hS : SR s t d ns0 st2 st2') : CtxR s t d ns0 st st2 r a :=
  ⟨[], by rw [hn, List.append_nil], fun h9 => (Meet.nil h9).elim, fun _ => ⟨st2', h, hS⟩⟩
theorem Cs.jump {i i' j : Nat} (h : Cs s t d i i') (hj : i ≤ j) (hz : j ≤ s.size) : Cs s t d j (j + d) := by
  obtain ⟨n, rfl⟩ := Nat.exists_eq_add_of_le hj
  have h1 := h.add n hz
  rw [show i + n + d = i' + n by have := h.off; omega]
  exact h1
theorem CtxR.of {α : Type} {st st0 st2 : PS} {r : PX α} {a : α} (h : CtxR s t d ns0 st st2 r a) (hn : st.names = st0.names) : CtxR s t d ns0 st0 st2 r a := by
  unfold CtxR at h ⊢; rw [← hn]; exact h
theorem CtxR.join {α β : Type} {st st' st1 st2 : PS} {r : PX α} {a : α} {q : PX β} {q' : PS → PX β} {b : β} (h : CtxR s t d ns0 st st1 r a) (hc : Cs s t d st.pos st'.pos) (hle : st.pos ≤ st1.pos) (hz : st1.pos ≤ s.size)
    (he : r = .error 85 → q = .error 85) (hq : ∀ st1', r = .ok (a, st1') → q = q' st1') (hk : ∀ st1', SR s t d ns0 st1 st1' → CtxR s t d ns0 st1 st2 (q' st1') b) : CtxR s t d ns0 st st2 q b := by
  obtain ⟨m, e, h1, h2⟩ := h
  by_cases hm : Meet ns0 m
  · obtain ⟨m2, e2, -⟩ := hk ⟨st1.pos + d, st1.now, st1.opn + 1, ns0 ++ st1.names⟩ ⟨hc.jump hle hz, rfl, rfl, rfl⟩
    exact ⟨m ++ m2, by rw [e2, e, List.append_assoc], fun _ => he (h1 hm), fun h9 => (h9 (Meet.app.2 (.inl hm))).elim⟩
  · obtain ⟨st1', e1, hS⟩ := h2 hm
    obtain ⟨m2, e2, h3, h4⟩ := hk st1' hS
    rw [hq st1' e1]
    exact ⟨m ++ m2, by rw [e2, e, List.append_assoc], fun h9 => h3 ((Meet.app.1 h9).resolve_left hm), fun h9 => h4 fun h8 => h9 (Meet.app.2 (.inr h8))⟩
def UP (s t : ByteArray) (d : Nat) (ns0 : List ByteArray) (exs ext : PS → PX Rx) (o : Nat) : Prop :=
  ∀ st st' x st2, IvS s o st → SR s t d ns0 st st' → exs st = .ok (x, st2) → IvS s o st2 ∧ st.pos ≤ st2.pos ∧ CtxR s t d ns0 st st2 (ext st') (x.mv ns0.length)
def zI (s : ByteArray) : Prop := ∀ k, ¬ Occ s 92 81 k
theorem JM {st st' st2 : PS} {g : List Rx} (hQ : zI s) (hS : SR s t d ns0 st st') (hi : st.pos < s.size) (h92 : sb s st.pos = 92) (h : fV s st = .ok (g, st2)) :
    ∃ j j', st2 = { st with pos := j } ∧ fV t st' = .ok (g, { st' with pos := j' }) ∧ Cs s t d j j' ∧ ∀ n, mvs n g = g := by
  have hc := hS.cs
  unfold fV at h ⊢
  split at h
  · cases h
  · rename_i hz
    have hl := hc.lt 1 (by omega)
    have h2 := hc.add 2 (by omega)
    rw [if_neg (by omega), hc.eq 1 (by omega)]
    have leaf : ∀ k : Int, k ≠ 7 → ∀ n, mvs n [rxK k] = [rxK k] := fun k hk n => by rw [lW, RV hk]
    split at h
    · rename_i c; rw [if_pos c]; cases h; exact ⟨_, _, rfl, rfl, h2, leaf _ (by decide)⟩
    · rename_i c; rw [if_neg c]
      split at h
      · rename_i c; rw [if_pos c]; cases h; exact ⟨_, _, rfl, rfl, h2, leaf _ (by decide)⟩
      · rename_i c; rw [if_neg c]
        split at h
        · rename_i c; rw [if_pos c]; cases h; exact ⟨_, _, rfl, rfl, h2, leaf _ (by decide)⟩
        · rename_i c; rw [if_neg c]
          split at h
          · rename_i c; rw [if_pos c]; cases h; exact ⟨_, _, rfl, rfl, h2, leaf _ (by decide)⟩
          · rename_i c; rw [if_neg c]
            split at h
            · rename_i c; exact (hQ st.pos ⟨by omega, h92, c⟩).elim
            · rename_i c; rw [if_neg c]
              split at h
              · rename_i S e
                try rw [e]
                cases h
                exact ⟨_, _, rfl, rfl, h2, fun n => by rw [lW, wX]⟩
              · rename_i e
                try rw [e]
                try simp only
                split at h
                · cases h
                · rename_i v j he
                  obtain ⟨j', e1, e2⟩ := hc.esc he
                  rw [e1]
                  cases h
                  rw [hS.now]
                  exact ⟨_, _, rfl, rfl, e2, fun n => by rw [lW, RU]⟩
theorem OE {st st' st2 : PS} {g : List Rx} (hS : SR s t d ns0 st st') (hb : Bd s st.pos) (hi : st.pos < s.size) (h : jG s st = .ok (g, st2)) :
    ∃ j j', st2 = { st with pos := j } ∧ jG t st' = .ok (g, { st' with pos := j' }) ∧ Cs s t d j j' ∧ ∀ n, mvs n g = g := by
  have hc := hS.cs
  unfold jG at h ⊢
  cases h
  rw [hc.next hb hi, hS.now]
  refine ⟨_, _, rfl, rfl, hc.add _ (hb.next hi).2.1, fun n => ?_⟩
  rw [lW]
  congr 1
  split
  · split <;> exact wX _ _
  · split
    · exact RV (by split <;> decide)
    · split
      · exact RV (by split <;> decide)
      · exact RU _ _ _
theorem ctx_brk {exs ext : PS → PX Rx} {o : Nat} (h100 : ns0.length + cb s s.size ≤ 100) (hcx : UP s t d ns0 exs ext (o + 1)) {st st' st2 : PS} {g : List Rx} (hI : IvS s o st) (hS : SR s t d ns0 st st') (h40 : isB s st.pos 40) (h : oH s exs st = .ok (g, st2)) :
    IvS s o st2 ∧ st.pos < st2.pos ∧ CtxR s t d ns0 st st2 (oH t ext st') (mvs ns0.length g) := by
  have hc := hS.cs
  have hcb : cb s st.pos + 1 ≤ cb s s.size := cb_go h40.2 h40.1
  have ho := hI.ob
  have hnb := hI.nb
  by_cases hset : (eA s st.pos st.now).err = 0 ∧ (eA s st.pos st.now).sett = true
  · rw [DG rfl hset.1 hset.2] at h
    cases h
    obtain ⟨b1, b2, -⟩ := rV hI.bd h40 hset.1
    have hop : eA t st'.pos st'.now = eA s st.pos st.now := by rw [hS.now]; exact hc.open_ h40 hset.1
    refine ⟨⟨hI.opn, Nat.le_trans ho (sO s (Nat.le_add_right _ _)), Nat.le_trans hnb (sO s (Nat.le_add_right _ _)), b2⟩, by show st.pos < st.pos + _; omega, ?_⟩
    refine CtxR.same rfl (st2' := { st' with pos := st'.pos + (eA s st.pos st.now).size, now := (eA s st.pos st.now).thn }) ?_ ⟨hc.add _ b2.le, rfl, hS.opn, hS.nm⟩
    rw [DG hop hset.1 hset.2, mvs]
  · by_cases h250 : st.opn = 250
    · rw [xE rfl hset h250] at h; cases h
    by_cases herr : (eA s st.pos st.now).err ≠ 0
    · rw [DJ rfl hset h250 herr] at h; cases h
    have he0 : (eA s st.pos st.now).err = 0 := Classical.not_not.1 herr
    by_cases hful : (eA s st.pos st.now).capt = true ∧ zK (eA s st.pos st.now).name st.names
    · rw [tX rfl hset h250 herr hful.1 hful.2] at h; cases h
    rw [kZ rfl hset h250 herr hful] at h
    obtain ⟨b1, b2, -⟩ := rV hI.bd h40 he0
    have hop : eA t st'.pos st'.now = eA s st.pos st.now := by rw [hS.now]; exact hc.open_ h40 he0
    generalize eA s st.pos st.now = O at *
    have hlt : st.pos < st.pos + O.size := by omega
    have hgo := cb_go h40.2 hlt
    split at h
    · cases h
    · rename_i x st3 hx
      split at h
      · rename_i hcl
        have hI1 : IvS s (o + 1) ⟨st.pos + O.size, O.thn, st.opn + 1, if O.capt = true then st.names ++ [O.name] else st.names⟩ := ⟨by show st.opn + 1 = _; rw [hI.opn], by show o + 1 ≤ cb s (st.pos + O.size); omega, by
          show (if O.capt = true then st.names ++ [O.name] else st.names).length ≤ cb s (st.pos + O.size)
          split
          · rw [List.length_append]; simp only [List.length_singleton]; omega
          · omega, b2⟩
        have hS1 : SR s t d ns0 ⟨st.pos + O.size, O.thn, st.opn + 1, if O.capt = true then st.names ++ [O.name] else st.names⟩ ⟨st'.pos + O.size, O.thn, st'.opn + 1, if O.capt = true then st'.names ++ [O.name] else st'.names⟩ := ⟨hc.add _ b2.le, rfl, by show st'.opn + 1 = st.opn + 1 + 1; rw [hS.opn], by
          show (if O.capt = true then st'.names ++ [O.name] else st'.names) = ns0 ++ (if O.capt = true then st.names ++ [O.name] else st.names)
          rw [hS.nm]
          split
          · rw [List.append_assoc]
          · rfl⟩
        obtain ⟨hI3, hle, m, e1, e2, e3⟩ := hcx _ _ _ _ hI1 hS1 hx
        have hle' : st.pos + O.size ≤ st3.pos := hle
        have hcl1 := hcl.1
        have hs250 : ¬ st'.opn = 250 := by rw [hS.opn, hI.opn]; omega
        have e1' : st3.names = (if O.capt = true then st.names ++ [O.name] else st.names) ++ m := e1
        have hb3 : Bd s (st3.pos + 1) := (hI3.bd.asc hcl.1 (by rw [hcl.2]; decide)).1
        cases h
        refine ⟨⟨by show st3.opn - 1 = o; rw [hI3.opn]; omega, ?_, Nat.le_trans hI3.nb (sO s (Nat.le_succ _)), hb3⟩, by show st.pos < st3.pos + 1; omega, ?_⟩
        · show o ≤ cb s (st3.pos + 1)
          exact Nat.le_trans ho (sO s (by omega))
        by_cases hcap : O.capt = true
        · rw [if_pos hcap] at e1' hS1
          refine ⟨[O.name] ++ m, by show st3.names = _; rw [e1', List.append_assoc], ?_, ?_⟩
          · intro hm
            by_cases hn : O.name ≠ emp ∧ O.name ∈ ns0
            · exact tX hop hset hs250 herr hcap (.inr ⟨hn.1, by rw [hS.nm]; exact List.mem_append_left _ hn.2⟩)
            · have hnf : ¬ (O.capt = true ∧ zK O.name st'.names) := by
                rintro ⟨-, h9 | ⟨h8, h9⟩⟩
                · rw [hS.nm, List.length_append] at h9; omega
                · rw [hS.nm] at h9
                  rcases List.mem_append.1 h9 with h7 | h7
                  · exact hn ⟨h8, h7⟩
                  · exact hful ⟨hcap, .inr ⟨h8, h7⟩⟩
              have hm2 : Meet ns0 m := (Meet.app.1 hm).resolve_left fun ⟨y, y1, y2, y3⟩ => by
                rw [List.mem_singleton] at y1; subst y1; exact hn ⟨y2, y3⟩
              rw [kZ hop hset hs250 herr hnf, e2 hm2]
          · intro hm
            have hn : ¬ (O.name ≠ emp ∧ O.name ∈ ns0) := fun h9 => hm (Meet.app.2 (.inl ⟨O.name, by simp, h9.1, h9.2⟩))
            have hnf : ¬ (O.capt = true ∧ zK O.name st'.names) := by
              rintro ⟨-, h9 | ⟨h8, h9⟩⟩
              · rw [hS.nm, List.length_append] at h9; omega
              · rw [hS.nm] at h9
                rcases List.mem_append.1 h9 with h7 | h7
                · exact hn ⟨h8, h7⟩
                · exact hful ⟨hcap, .inr ⟨h8, h7⟩⟩
            obtain ⟨st3', e4, hS3⟩ := e3 fun h9 => hm (Meet.app.2 (.inr h9))
            have hcl' : isB t st3'.pos 41 := ⟨hS3.cs.lt 0 (by omega), by rw [hS3.cs.at0 hcl1]; exact hcl.2⟩
            refine ⟨{ st3' with pos := st3'.pos + 1, opn := st3'.opn - 1, now := st'.now }, ?_, ⟨hS3.cs.add 1 hcl1, hS.now, ?_, hS3.nm⟩⟩
            · rw [kZ hop hset hs250 herr hnf, e4]
              simp only
              rw [if_pos hcl', lW, if_pos hcap, if_pos hcap, mv_grp, hS.nm, List.length_append]
              rw [show ((ns0.length + st.names.length : Nat) : Int) + 1 = (st.names.length : Int) + 1 + ns0.length by omega]
            · show st3'.opn - 1 = st3.opn - 1 + 1
              rw [hS3.opn, hI3.opn]; omega
        · rw [if_neg hcap] at e1' hS1
          have hnf : ¬ (O.capt = true ∧ zK O.name st'.names) := fun h9 => hcap h9.1
          refine ⟨m, e1', ?_, ?_⟩
          · intro hm
            rw [kZ hop hset hs250 herr hnf, e2 hm]
          · intro hm
            obtain ⟨st3', e4, hS3⟩ := e3 hm
            have hcl' : isB t st3'.pos 41 := ⟨hS3.cs.lt 0 (by omega), by rw [hS3.cs.at0 hcl1]; exact hcl.2⟩
            refine ⟨{ st3' with pos := st3'.pos + 1, opn := st3'.opn - 1, now := st'.now }, ?_, ⟨hS3.cs.add 1 hcl1, hS.now, ?_, hS3.nm⟩⟩
            · rw [kZ hop hset hs250 herr hnf, e4]
              simp only
              rw [if_pos hcl', lW, if_neg hcap, if_neg hcap]
            · show st3'.opn - 1 = st3.opn - 1 + 1
              rw [hS3.opn, hI3.opn]; omega
      · cases h
theorem OF {exs ext : PS → PX Rx} {o : Nat} (hN : zH s t d) (hQ : zI s) (h100 : ns0.length + cb s s.size ≤ 100) (hcx : UP s t d ns0 exs ext (o + 1)) (hex : wI s exs (o + 1)) {st st' st2 : PS} {g : List Rx} (hI : IvS s o st) (hS : SR s t d ns0 st st') (hi : st.pos < s.size) (h : eM s exs st = .ok (g, st2)) :
    IvS s o st2 ∧ st.pos < st2.pos ∧ CtxR s t d ns0 st st2 (eM t ext st') (mvs ns0.length g) := by
  have hc := hS.cs
  have hcm := sO s (Nat.le_of_lt hi)
  have ho := hI.ob
  have hnb := hI.nb
  obtain ⟨q, -, -, g3, g4, g5, g6⟩ := BR h hI.bd hi (by rw [hI.opn]; omega) (by omega) (by rw [hI.opn]; exact fun _ => hex)
  have fin : ∀ r : PL, (∃ j j', st2 = { st with pos := j } ∧ r = .ok (g, { st' with pos := j' }) ∧ Cs s t d j j' ∧ ∀ n, mvs n g = g) → IvS s o st2 ∧ st.pos < st2.pos ∧ CtxR s t d ns0 st st2 r (mvs ns0.length g) := by
    rintro r ⟨j, j', e1, e2, e3, e4⟩
    subst e1
    refine ⟨hI.mk' (Nat.le_of_lt g3) g4, g3, CtxR.same rfl (st2' := { st' with pos := j' }) ?_ (hS.mk' e3)⟩
    rw [e2, e4]
  unfold eM at h ⊢
  rw [hc.at0 hi]
  split at h
  · rename_i c; rw [if_pos c]; exact ctx_brk h100 hcx hI hS ⟨hi, c⟩ h
  · rename_i c; rw [if_neg c]
    split at h
    · rename_i c; rw [if_pos c]
      split at h
      · cases h
      · rename_i x j hx
        cases h
        obtain ⟨j', e1, e2⟩ := (hc.add 1 hi).cls hN ((hI.bd.asc hi (by rw [c]; decide)).1) hx
        rw [hS.now, e1]
        have hm : ∀ n, mvs n [x] = [x] := fun n => by
          rw [lW]
          unfold jH at hx
          split at hx
          · cases hx
          · cases hx; rw [wX]
        exact fin _ ⟨j, j', rfl, by rw [hS.now], e2, hm⟩
    · rename_i c; rw [if_neg c]
      split at h
      · rename_i c; rw [if_pos c]; exact fin _ (JM hQ hS hi c h)
      · rename_i c; rw [if_neg c]; exact fin _ (OE hS hI.bd hi h)
section
variable {exs ext : PS → PX Rx} {o : Nat} (hN : zH s t d) (hQ : zI s) (h100 : ns0.length + cb s s.size ≤ 100) (hcx : UP s t d ns0 exs ext (o + 1)) (hex : wI s exs (o + 1))
include hN hQ h100 hcx hex
theorem tU : ∀ (f g : Nat) (l : List Rx) (ah : Bool) (st st' st2 : PS) (x : Rx), IvS s o st → SR s t d ns0 st st' → s.size < st.pos + f → t.size < st'.pos + g → gZ s exs f l ah st = .ok (x, st2) →
    IvS s o st2 ∧ st.pos ≤ st2.pos ∧ CtxR s t d ns0 st st2 (gZ t ext g (mvs ns0.length l) ah st') (x.mv ns0.length)
  | 0, g, l, ah, st, st', st2, x, hI, hS, hf, hg, h => by have := hI.bd.le; omega
  | f + 1, 0, l, ah, st, st', st2, x, hI, hS, hf, hg, h => by have := hS.cs.lt 0 hS.cs.le; omega
  | f + 1, g + 1, l, ah, st, st', st2, x, hI, hS, hf, hg, h => by
    have hc := hS.cs
    have hle := hc.le
    have hl0 := hc.lt 0 hle
    by_cases hend : s.size ≤ st.pos ∨ sb s st.pos = 124 ∨ sb s st.pos = 41
    · rw [lF hend] at h
      cases h
      have hend' : t.size ≤ st'.pos ∨ sb t st'.pos = 124 ∨ sb t st'.pos = 41 := by
        rcases Nat.lt_or_ge st.pos s.size with h9 | h9
        · rw [hc.at0 h9]; exact .inr (hend.resolve_left (by omega))
        · exact .inr (.inr (hc.cl 0 (by omega)))
      exact ⟨hI, Nat.le_refl _, CtxR.same rfl (by rw [lF hend', RS (by decide)]) hS⟩
    · have hi : st.pos < s.size := by omega
      have hend' : ¬ (t.size ≤ st'.pos ∨ sb t st'.pos = 124 ∨ sb t st'.pos = 41) := by rw [hc.at0 hi]; omega
      have hrep := hc.rep hi
      generalize hr : kY (s.extract st.pos s.size) = rr at hrep
      obtain ⟨lo, hi', nn⟩ := rr
      obtain ⟨-, -, -, -, r5⟩ := BS hI.bd hi hr
      by_cases hn : nn = 0
      · subst hn
        cases hp : eM s exs st with
        | error e => rw [tZ hend hr hp] at h; cases h
        | ok q =>
          obtain ⟨gl, st1⟩ := q
          rw [zB hend hr hp] at h
          obtain ⟨hI1, hlt, hR⟩ := OF hN hQ h100 hcx hex hI hS hi hp
          have key : ∀ st1', SR s t d ns0 st1 st1' → IvS s o st2 ∧ st1.pos ≤ st2.pos ∧ CtxR s t d ns0 st1 st2 (gZ t ext g (mvs ns0.length (l ++ gl)) (decide (0 < gl.length)) st1') (x.mv ns0.length) := fun st1' hS1 =>
            tU f g _ _ _ _ _ _ hI1 hS1 (by omega) (by have := hS1.cs.off; have := hc.off; omega) h
          obtain ⟨k1, k2, -⟩ := key ⟨st1.pos + d, st1.now, st1.opn + 1, ns0 ++ st1.names⟩ ⟨hc.jump (Nat.le_of_lt hlt) hI1.bd.le, rfl, rfl, rfl⟩
          refine ⟨k1, by omega, hR.join hc (Nat.le_of_lt hlt) hI1.bd.le (fun h9 => tZ hend' hrep h9) (fun st1' e1 => ?_) (fun st1' hS1 => (key st1' hS1).2.2)⟩
          rw [zB hend' hrep e1, ← wW, pY]
      · obtain ⟨r6, r7⟩ := r5 hn
        by_cases hcd : ah = false ∨ 1000 < lo ∨ 1000 < hi' ∨ (0 ≤ hi' ∧ hi' < lo)
        · rw [sD hend hr hn hcd] at h; cases h
        have hq := hc.isB nn 63 r6 (by decide)
        have c2 := hc.add nn r6
        by_cases hb : isB s (st.pos + nn) 63
        · rw [sE hend hr hn hcd hb] at h
          rw [sE hend' hrep hn hcd (hq.2 hb), ← LC, hS.now]
          obtain ⟨k1, k2, k3⟩ := tU f g _ _ _ _ _ _ (hI.mk' (j := st.pos + nn + 1) (by omega) ((r7.asc hb.1 (by rw [hb.2]; decide)).1)) (hS.mk' (c2.add 1 hb.1)) (by show s.size < st.pos + nn + 1 + f; omega) (by show t.size < st'.pos + nn + 1 + g; omega) h
          rw [hS.now] at k3
          exact ⟨k1, Nat.le_trans (by show st.pos ≤ st.pos + nn + 1; omega) k2, k3.of rfl⟩
        · rw [tY hend hr hn hcd hb] at h
          rw [tY hend' hrep hn hcd (fun h9 => hb (hq.1 h9)), ← LC, hS.now]
          obtain ⟨k1, k2, k3⟩ := tU f g _ _ _ _ _ _ (hI.mk' (j := st.pos + nn) (by omega) r7) (hS.mk' c2) (by show s.size < st.pos + nn + f; omega) (by show t.size < st'.pos + nn + g; omega) h
          rw [hS.now] at k3
          exact ⟨k1, Nat.le_trans (by show st.pos ≤ st.pos + nn; omega) k2, k3.of rfl⟩
theorem GX : ∀ (f g : Nat) (l : List Rx) (st st' st2 : PS) (x : Rx), IvS s o st → SR s t d ns0 st st' → s.size < st.pos + f → t.size < st'.pos + g → kV s exs f l st = .ok (x, st2) →
    IvS s o st2 ∧ st.pos ≤ st2.pos ∧ CtxR s t d ns0 st st2 (kV t ext g (mvs ns0.length l) st') (x.mv ns0.length)
  | 0, g, l, st, st', st2, x, hI, hS, hf, hg, h => by have := hI.bd.le; omega
  | f + 1, 0, l, st, st', st2, x, hI, hS, hf, hg, h => by have := hS.cs.lt 0 hS.cs.le; omega
  | f + 1, g + 1, l, st, st', st2, x, hI, hS, hf, hg, h => by
    have hc := hS.cs
    have hb := hc.isB0 124 (by decide)
    by_cases h124 : isB s st.pos 124
    · have hI0 : IvS s o (adv st 1) := hI.mk' (by show st.pos ≤ st.pos + 1; omega) ((hI.bd.asc h124.1 (by rw [h124.2]; decide)).1)
      have hS0 : SR s t d ns0 (adv st 1) (adv st' 1) := hS.mk' (hc.add 1 h124.1)
      cases hp : gZ s exs (s.size + 1) [] false (adv st 1) with
      | error e => rw [rF h124 hp] at h; cases h
      | ok q =>
        obtain ⟨y, st1⟩ := q
        rw [sC h124 hp] at h
        obtain ⟨hI1, hle, hR⟩ := tU hN hQ h100 hcx hex (s.size + 1) (t.size + 1) [] false _ _ _ _ hI0 hS0 (by omega) (by omega) hp
        rw [mvs] at hR
        have hle' : st.pos + 1 ≤ st1.pos := hle
        have key : ∀ st1', SR s t d ns0 st1 st1' → IvS s o st2 ∧ st1.pos ≤ st2.pos ∧ CtxR s t d ns0 st1 st2 (kV t ext g (mvs ns0.length (l ++ [y])) st1') (x.mv ns0.length) := fun st1' hS1 =>
          GX f g _ _ _ _ _ hI1 hS1 (by omega) (by have := hS1.cs.off; have := hc.off; omega) h
        obtain ⟨k1, k2, -⟩ := key ⟨st1.pos + d, st1.now, st1.opn + 1, ns0 ++ st1.names⟩ ⟨hc.jump (by omega) hI1.bd.le, rfl, rfl, rfl⟩
        have hR' : CtxR s t d ns0 st st1 (gZ t ext (t.size + 1) [] false (adv st' 1)) (y.mv ns0.length) := hR
        refine ⟨k1, by omega, hR'.join hc (by omega) hI1.bd.le (fun h9 => rF (hb.2 h124) h9) (fun st1' e1 => ?_) (fun st1' hS1 => (key st1' hS1).2.2)⟩
        rw [sC (hb.2 h124) e1, wW, lW]
    · rw [mX h124] at h
      cases h
      exact ⟨hI, Nat.le_refl _, CtxR.same rfl (by rw [mX (fun h9 => h124 (hb.1 h9)), RS (by decide)]) hS⟩
theorem GW : UP s t d ns0 (iU s exs) (iU t ext) o := by
  intro st st' x st2 hI hS h
  have hc := hS.cs
  cases hp : mJ s exs st with
  | error e =>
    unfold mJ at hp
    unfold iU at h
    rw [hp] at h
    cases h
  | ok q =>
    obtain ⟨y, st1⟩ := q
    rw [qC hp] at h
    obtain ⟨hI1, hle, hR⟩ := tU hN hQ h100 hcx hex (s.size + 1) (t.size + 1) [] false _ _ _ _ hI hS (by omega) (by omega) hp
    rw [mvs] at hR
    have key : ∀ st1', SR s t d ns0 st1 st1' → IvS s o st2 ∧ st1.pos ≤ st2.pos ∧ CtxR s t d ns0 st1 st2 (kV t ext (t.size + 1) (mvs ns0.length [y]) st1') (x.mv ns0.length) := fun st1' hS1 =>
      GX hN hQ h100 hcx hex (s.size + 1) (t.size + 1) _ _ _ _ _ hI1 hS1 (by omega) (by omega) h
    obtain ⟨k1, k2, -⟩ := key ⟨st1.pos + d, st1.now, st1.opn + 1, ns0 ++ st1.names⟩ ⟨hc.jump hle hI1.bd.le, rfl, rfl, rfl⟩
    refine ⟨k1, by omega, hR.join hc hle hI1.bd.le (fun h9 => ?_) (fun st1' e1 => ?_) (fun st1' hS1 => (key st1' hS1).2.2)⟩
    · unfold iU; rw [h9]
    · rw [qC e1, lW]
end
theorem MF (hN : zH s t d) (hQ : zI s) (h100 : ns0.length + cb s s.size ≤ 100) : ∀ k o, o + k = 100 → UP s t d ns0 (iD s (150 + k)) (iD t (149 + k)) o
  | 0, o, ho => by
    refine GW (exs := iD s 149) (ext := iD t 148) hN hQ h100 ?_ ?_
    · intro st st' x st2 hI hS h
      have h1 := hI.ob
      have h2 := sO s hI.bd.le
      omega
    · have := AY s 149 (by decide)
      rw [show o = 100 by omega]
      exact this
  | k + 1, o, ho => by
    refine GW (exs := iD s (150 + k)) (ext := iD t (149 + k)) hN hQ h100 (MF hN hQ h100 k (o + 1) (by omega)) ?_
    have := AY s (150 + k) (by omega)
    rw [show o + 1 = 250 - (150 + k) by omega]
    exact this
end
theorem nmL_lo (s : ByteArray) : ∀ b, b ∈ nmL s → b < 256 := KB _
theorem uf_of {s : ByteArray} (h : ∃ N, Utf s N) : Uf (nmL s) := by
  obtain ⟨N, hU⟩ := h
  refine ⟨nW s N, PF hU, ?_⟩
  have h1 : bstr (frm (nW s N)) = bstr (nmL s) := by rw [mU]; exact MW hU
  exact ((yU (JD _) (nmL_lo s)).1 h1).symm
theorem utf_of {L : List Nat} (h : Uf L) : ∃ N, Utf (bstr L) N := by
  obtain ⟨l, h1, rfl⟩ := h
  exact ⟨_, (utf_txt h1).1⟩
theorem lo_of {L : List Nat} (h : Uf L) : ∀ b, b ∈ L → b < 256 := by
  obtain ⟨l, h1, rfl⟩ := h
  exact JD l
theorem yZ {p l r : List Nat} (h : ∀ b, b ∈ p ++ (l ++ r) → b < 256) : At (bstr (p ++ (l ++ r))) p.length l := by
  refine At.of fun k hk => ⟨by rw [bsz, List.length_append, List.length_append]; omega, ?_⟩
  rw [wN (by rw [List.length_append, List.length_append]; omega) h, List.getElem_append_right (by omega), List.getElem_append_left (by omega)]
  congr 1; omega
theorem cs_of {p l r : List Nat} (h : ∀ b, b ∈ p ++ (l ++ 41 :: r) → b < 256) : Cs (bstr l) (bstr (p ++ (l ++ 41 :: r))) p.length 0 p.length := by
  have hl : ∀ b, b ∈ l → b < 256 := fun b hb => h b (by simp [hb])
  have z1 := bsz l
  refine ⟨Nat.zero_le _, by omega, by rw [bsz, bsz]; simp; omega, fun k hk => ?_, fun k hk => ?_⟩
  · rw [Nat.zero_add] at hk ⊢
    have hk' : k < l.length := by omega
    have := (yZ (p := p) (l := l) (r := 41 :: r) h).get (k := k) hk'
    rw [this.2, wN hk' hl]
  · have hk' : k = l.length := by omega
    have h2 := yZ (p := p ++ l) (l := [41]) (r := r) (by rw [List.append_assoc]; exact h)
    rw [List.append_assoc] at h2
    have := h2.1.2
    rw [List.length_append, ← hk'] at this
    exact this
theorem FJ {s : ByteArray} {x : Rx} {st : PS} (h : iD s 250 st0 = .ok (x, st)) (hz : s.size ≤ st.pos) (hb : Bd s st.pos) : st.pos = s.size := Nat.le_antisymm hb.le hz
theorem yD {s t : ByteArray} {d p : Nat} {ns0 : List ByteArray} {x : Rx} {st1 : PS} (hN : zH s t d) (hQ : zI s) (h100 : ns0.length + cb s s.size ≤ 100) (hC : Cs s t d 0 d) (hU : ∃ N, Utf s N)
    (hx : iD s 250 st0 = .ok (x, st1)) (hend : st1.pos = s.size) (hat : At t p [40, 63, 58]) (hp : p + 3 = d) :
    st1.names.length ≤ cb s s.size ∧ (Meet ns0 st1.names → eM t (iD t 249) ⟨p, flz, 0, ns0⟩ = .error 85) ∧
    (¬ Meet ns0 st1.names → eM t (iD t 249) ⟨p, flz, 0, ns0⟩ = .ok ([x.mv ns0.length], ⟨d + s.size + 1, flz, 0, ns0 ++ st1.names⟩)) := by
  obtain ⟨N, hU⟩ := hU
  have hI : IvS s 0 st0 := ⟨rfl, Nat.zero_le _, Nat.zero_le _, Bd.zero hU⟩
  have hS : SR s t d ns0 st0 ⟨d, flz, 1, ns0⟩ := ⟨hC, rfl, rfl, by show ns0 = ns0 ++ []; rw [List.append_nil]⟩
  obtain ⟨hI1, -, m, e1, e2, e3⟩ := MF hN hQ h100 100 0 rfl st0 ⟨d, flz, 1, ns0⟩ x st1 hI hS hx
  have e1' : st1.names = m := e1
  have hnb := hI1.nb
  rw [hend] at hnb
  refine ⟨hnb, ?_⟩
  rw [e1']
  have earg : (⟨p + 3, flz, 0 + 1, ns0⟩ : PS) = ⟨d, flz, 1, ns0⟩ := by rw [hp]
  refine ⟨fun hm => JN (st := ⟨p, flz, 0, ns0⟩) hat (show (0 : Nat) ≠ 250 by decide) ((congrArg (iD t 249) earg).trans (e2 hm)), fun hm => ?_⟩
  obtain ⟨⟨p2, f2, o2, n2⟩, e4, hS2⟩ := e3 hm
  have c1 : p2 = d + s.size := by have h9 : p2 = st1.pos + d := hS2.cs.off; omega
  have c2 : o2 = 1 := by have h9 := hS2.opn; rw [hI1.opn] at h9; exact h9
  have c3 : n2 = ns0 ++ m := by have h9 := hS2.nm; rw [e1'] at h9; exact h9
  subst c1 c2 c3
  have hcl : isB t (d + s.size) 41 := ⟨by have := hC.sz; omega, hC.cl s.size (Nat.zero_add _)⟩
  exact OH (st := ⟨p, flz, 0, ns0⟩) hat (show (0 : Nat) ≠ 250 by decide) ((congrArg (iD t 249) earg).trans e4) hcl
theorem vD {x : Rx} {q : Nat} {ns : List ByteArray} (h : x.fine 0 (0, []) = some (q, ns)) : pG x = ns := by unfold pG; rw [h]
theorem joins {a b : ByteArray} {x y : Rx} (ha : fZ a = .ok x) (hb : fZ b = .ok y) (hQa : zI a) (hQb : zI b) (hSa : ∀ k, ¬ Occ a 91 58 k) (hz : a.size + b.size ≤ 4000) (hc : cb a a.size + cb b b.size ≤ 100) :
    (Meet (pG x) (pG y) → fZ (bstr ([40, 63, 58] ++ (nmL a ++ (41 :: ([40, 63, 58] ++ (nmL b ++ [41])))))) = .error 85 ∧ fZ (bstr ([40, 63, 58] ++ (nmL a ++ (41 :: ([124, 40, 63, 58] ++ (nmL b ++ [41])))))) = .error 85) ∧
    (¬ Meet (pG x) (pG y) → fZ (bstr ([40, 63, 58] ++ (nmL a ++ (41 :: ([40, 63, 58] ++ (nmL b ++ [41])))))) = .ok (lS 4 [x, y.mv (pG x).length]) ∧ fZ (bstr ([40, 63, 58] ++ (nmL a ++ (41 :: ([124, 40, 63, 58] ++ (nmL b ++ [41])))))) = .ok (lS 5 [x, y.mv (pG x).length])) := by
  obtain ⟨-, sa, a1, a2, a3, qa, a4⟩ := nX ha
  obtain ⟨-, sb', b1, b2, b3, qb, b4⟩ := nX hb
  have a5 := FJ a1 a2 a3
  have b5 := FJ b1 b2 b3
  rw [vD a4, vD b4]
  have hUa : ∃ N, Utf a N := by obtain ⟨N, _, h, _⟩ := a3; exact ⟨N, h⟩
  have hUb : ∃ N, Utf b N := by obtain ⟨N, _, h, _⟩ := b3; exact ⟨N, h⟩
  have la := wU a
  have lb := wU b
  have fa := uf_of hUa
  have fb := uf_of hUb
  have key : ∀ (m : List Nat), Uf m → m.length ≤ 1 → ∀ T, T = bstr ([40, 63, 58] ++ (nmL a ++ (41 :: (m ++ ([40, 63, 58] ++ (nmL b ++ [41])))))) →
      (∃ N, Utf T N) ∧ ¬ 4096 < T.size ∧ T.size = a.size + b.size + 8 + m.length ∧ isB T 0 40 ∧ At T (a.size + 4) m ∧ isB T (a.size + 4 + m.length) 40 ∧
      eM T (iD T 249) ⟨0, flz, 0, []⟩ = .ok ([x], ⟨a.size + 4, flz, 0, sa.names⟩) ∧
      (Meet sa.names sb'.names → eM T (iD T 249) ⟨a.size + 4 + m.length, flz, 0, sa.names⟩ = .error 85) ∧
      (¬ Meet sa.names sb'.names → eM T (iD T 249) ⟨a.size + 4 + m.length, flz, 0, sa.names⟩ = .ok ([y.mv sa.names.length], ⟨T.size, flz, 0, sa.names ++ sb'.names⟩)) := by
    intro m hm hml T hT
    have hU : Uf ([40, 63, 58] ++ (nmL a ++ (41 :: (m ++ ([40, 63, 58] ++ (nmL b ++ [41])))))) := (Uf.asc (by decide)).app (fa.app ((Uf.asc (L := [41]) (by decide)).app (hm.app ((Uf.asc (by decide)).app (fb.app (Uf.asc (by decide)))))))
    have hlo := lo_of hU
    have hzT : T.size = a.size + b.size + 8 + m.length := by
      rw [hT, bsz]
      simp only [List.length_append, List.length_cons, List.length_nil, la, lb]
      omega
    have e0 : At T 0 [40, 63, 58] := by
      have := yZ (p := []) (l := [40, 63, 58]) (r := nmL a ++ (41 :: (m ++ ([40, 63, 58] ++ (nmL b ++ [41]))))) hlo
      rw [hT]; exact this
    have eC : Cs a T 3 0 3 := by
      have := cs_of (p := [40, 63, 58]) (l := nmL a) (r := m ++ ([40, 63, 58] ++ (nmL b ++ [41]))) hlo
      rw [mU] at this
      rw [hT]; exact this
    have em : At T (a.size + 4) m := by
      have := yZ (p := [40, 63, 58] ++ (nmL a ++ [41])) (l := m) (r := [40, 63, 58] ++ (nmL b ++ [41])) (by simpa using hlo)
      rw [show ([40, 63, 58] ++ (nmL a ++ [41]) : List Nat).length = a.size + 4 by simp only [List.length_append, List.length_cons, List.length_nil, la]; omega] at this
      rw [hT]; simpa using this
    have e1 : At T (a.size + 4 + m.length) [40, 63, 58] := by
      have := yZ (p := [40, 63, 58] ++ (nmL a ++ ([41] ++ m))) (l := [40, 63, 58]) (r := nmL b ++ [41]) (by simpa using hlo)
      rw [show ([40, 63, 58] ++ (nmL a ++ ([41] ++ m)) : List Nat).length = a.size + 4 + m.length by simp only [List.length_append, List.length_cons, List.length_nil, la]; omega] at this
      rw [hT]; simpa using this
    have eD : Cs b T (a.size + 7 + m.length) 0 (a.size + 7 + m.length) := by
      have := cs_of (p := [40, 63, 58] ++ (nmL a ++ ([41] ++ (m ++ [40, 63, 58])))) (l := nmL b) (r := []) (by simpa using hlo)
      rw [mU, show ([40, 63, 58] ++ (nmL a ++ ([41] ++ (m ++ [40, 63, 58]))) : List Nat).length = a.size + 7 + m.length by simp only [List.length_append, List.length_cons, List.length_nil, la]; omega] at this
      rw [hT]; simpa using this
    obtain ⟨n1, -, n3⟩ := yD (ns0 := []) (.inl hSa) hQa (by simp only [List.length_nil]; omega) eC hUa a1 a5 e0 rfl
    obtain ⟨n4, n5, n6⟩ := yD (ns0 := sa.names) (.inr (by omega)) hQb (by omega) eD hUb b1 b5 e1 (by omega)
    have n3' := n3 fun ⟨z, _, _, h9⟩ => by cases h9
    have hmz : ((([] : List ByteArray).length : Nat) : Int) = 0 := rfl
    rw [hmz, LD, List.nil_append, show 3 + a.size + 1 = a.size + 4 by omega] at n3'
    rw [show a.size + 7 + m.length + b.size + 1 = T.size by omega] at n6
    exact ⟨by rw [hT]; exact utf_of hU, by omega, hzT, e0.1, em, e1.1, n3', n5, n6⟩
  obtain ⟨c1, c2, c3, c4, -, c6, c7, c8, c9⟩ := key [] Uf.nil (by decide) _ rfl
  obtain ⟨d1, d2, d3, d4, d5, d6, d7, d8, d9⟩ := key [124] (Uf.asc (by decide)) (by decide) _ rfl
  simp only [List.length_nil, Nat.add_zero, List.nil_append] at c1 c2 c3 c4 c6 c7 c8 c9
  simp only [List.length_cons, List.length_nil, Nat.zero_add, List.cons_append, List.nil_append] at d1 d2 d3 d4 d5 d6 d7 d8 d9 ⊢
  simp only [List.cons_append, List.nil_append] at c1 c2 c3 c4 c6 c7 c8 c9
  generalize bstr (40 :: 63 :: 58 :: (nmL a ++ 41 :: 40 :: 63 :: 58 :: (nmL b ++ [41]))) = P at *
  generalize bstr (40 :: 63 :: 58 :: (nmL a ++ 41 :: 124 :: 40 :: 63 :: 58 :: (nmL b ++ [41]))) = Q at *
  have o40 : (40 : Nat) ≠ 41 ∧ (40 : Nat) ≠ 42 ∧ (40 : Nat) ≠ 43 ∧ (40 : Nat) ≠ 63 ∧ (40 : Nat) ≠ 123 ∧ (40 : Nat) ≠ 124 := by decide
  have p1 : ∀ f, gZ P (iD P 249) (f + 1) [] false st0 = gZ P (iD P 249) f [x] true ⟨a.size + 4, flz, 0, sa.names⟩ := fun f => nV (st := st0) c4 o40 c7
  have q1 : ∀ f, gZ Q (iD Q 249) (f + 1) [] false st0 = gZ Q (iD Q 249) f [x] true ⟨a.size + 4, flz, 0, sa.names⟩ := fun f => nV (st := st0) d4 o40 d7
  have q2 : mJ Q (iD Q 249) st0 = .ok (x, ⟨a.size + 4, flz, 0, sa.names⟩) := by
    unfold mJ
    rw [q1, lF (st := ⟨a.size + 4, flz, 0, sa.names⟩) (.inr (.inl d5.1.2))]; rfl
  obtain ⟨g, hg⟩ : ∃ g, P.size = g + 1 := ⟨P.size - 1, by omega⟩
  obtain ⟨k, hk⟩ : ∃ k, Q.size = k + 1 := ⟨Q.size - 1, by omega⟩
  refine ⟨fun hm => ⟨BQ c2 c1 ?_, BQ d2 d1 ?_⟩, fun hm => ⟨KM (st := ⟨P.size, flz, 0, sa.names ++ sb'.names⟩) c2 c1 ?_ (Nat.lt_irrefl _), KM (st := ⟨Q.size, flz, 0, sa.names ++ sb'.names⟩) d2 d1 ?_ (Nat.lt_irrefl _)⟩⟩
  · show iU P (iD P 249) st0 = _
    unfold iU
    rw [p1, hg, tC (st := ⟨a.size + 4, flz, 0, sa.names⟩) c6 o40 (c8 hm)]
  · show iU Q (iD Q 249) st0 = _
    rw [qC q2]
    exact rF (st := ⟨a.size + 4, flz, 0, sa.names⟩) d5.1 (tC (st := ⟨a.size + 4 + 1, flz, 0, sa.names⟩) d6 o40 (d8 hm))
  · show iU P (iD P 249) st0 = _
    have p2 : mJ P (iD P 249) st0 = .ok (lS 4 [x, y.mv sa.names.length], ⟨P.size, flz, 0, sa.names ++ sb'.names⟩) := by
      unfold mJ
      rw [p1, hg, nV (st := ⟨a.size + 4, flz, 0, sa.names⟩) c6 o40 (c9 hm), lF (st := ⟨P.size, flz, 0, sa.names ++ sb'.names⟩) (.inl (Nat.le_refl _)), hg]; rfl
    rw [qC p2, mX (st := ⟨P.size, flz, 0, sa.names ++ sb'.names⟩) (fun h9 => absurd h9.1 (Nat.lt_irrefl _))]
    rfl
  · show iU Q (iD Q 249) st0 = _
    rw [qC q2]
    have q3 : gZ Q (iD Q 249) (Q.size + 1) [] false (adv ⟨a.size + 4, flz, 0, sa.names⟩ 1) = .ok (y.mv sa.names.length, ⟨Q.size, flz, 0, sa.names ++ sb'.names⟩) := by
      have h1 := nV (f := Q.size) (l := []) (ah := false) (st := ⟨a.size + 4 + 1, flz, 0, sa.names⟩) d6 o40 (d9 hm)
      refine h1.trans ?_
      rw [lF (st := ⟨Q.size, flz, 0, sa.names ++ sb'.names⟩) (.inl (Nat.le_refl _))]; rfl
    rw [sC (st := ⟨a.size + 4, flz, 0, sa.names⟩) d5.1 q3, mX (st := ⟨Q.size, flz, 0, sa.names ++ sb'.names⟩) (fun h9 => absurd h9.1 (Nat.lt_irrefl _))]
    rfl
def cnt (p : Int × Int → Bool) : List (Int × Int) → Nat
  | [] => 0
  | g :: l => (if p g = true then 1 else 0) + cnt p l
theorem TQ (p : Int × Int → Bool) : ∀ l, cnt p l ≤ l.length
  | [] => Nat.le_refl _
  | g :: l => by
    have := TQ p l
    rw [cnt, List.length_cons]
    split <;> omega
theorem TP {p q : Int × Int → Bool} (h : ∀ g, q g = true → p g = true) : ∀ l, cnt q l ≤ cnt p l
  | [] => Nat.le_refl _
  | g :: l => by
    have := TP h l
    have hg := h g
    rw [cnt, cnt]
    split <;> split <;> first | omega | (rename_i a b; exact (b (hg a)).elim)
theorem MG {p q : Int × Int → Bool} (h : ∀ g, q g = true → p g = true) {x : Int × Int} (hp : p x = true) (hq : ¬ q x = true) : ∀ {l}, x ∈ l → cnt q l + 1 ≤ cnt p l
  | g :: l, hx => by
    rw [cnt, cnt]
    rcases List.mem_cons.1 hx with rfl | hx
    · have := TP h l
      rw [if_neg hq, if_pos hp]
      omega
    · have := MG h hp hq hx
      have hg := h g
      split <;> split <;> first | omega | (rename_i a b; exact (b (hg a)).elim)
theorem MJ {S : Int → Prop} {l : List (Int × Int)} (hl : ∀ c, InR c l ↔ S c) : ∀ {m : List (Int × Int)} {b : Int}, jR b m → (∀ c, b - 1 ≤ c → (S c ↔ InR c m)) → m.length ≤ cnt (fun g => decide (b ≤ g.1)) l
  | [], b, _, _ => Nat.zero_le _
  | g :: m, b, hc, hm => by
    rw [jR] at hc
    obtain ⟨c1, c2, c3, c4⟩ := hc
    have hS : S g.1 := (hm g.1 (by omega)).2 (fQ.2 (.inl ⟨Int.le_refl _, c2⟩))
    obtain ⟨x, hx, x1, x2⟩ := (hl g.1).2 hS
    have hx1 : ¬ x.1 < g.1 := fun h9 => by
      have h8 : S (g.1 - 1) := (hl _).1 ⟨x, hx, by omega, by omega⟩
      rcases fQ.1 ((hm _ (by omega)).1 h8) with h7 | h7
      · omega
      · have := mB c4 h7; omega
    have ih := MJ hl (m := m) c4 fun c h9 => by
      rw [hm c (by omega), fQ]
      exact ⟨fun h8 => h8.resolve_left (by omega), .inr⟩
    have h1 := MG (p := fun g' => decide (b ≤ g'.1)) (q := fun g' => decide (g.2 + 2 ≤ g'.1)) (fun g' h9 => by simp at h9 ⊢; omega) (x := x) (by simp; omega) (by simp; omega) hx
    rw [List.length_cons]
    omega
def Iw (k : Nat) (S : Int → Prop) : Prop := Bdd S ∧ ∃ l : List (Int × Int), l.length ≤ k ∧ ∀ c, InR c l ↔ S c
section
variable {k m : Nat} {S T : Int → Prop}
theorem Iw.can (h : Iw k S) : (jP S).length ≤ k := by
  obtain ⟨hb, l, h1, h2⟩ := h
  obtain ⟨c1, c2⟩ := pK hb
  refine Nat.le_trans (MJ h2 c1 fun c hc => (c2 c).symm) (Nat.le_trans (TQ _ l) h1)
theorem Iw.mono (h : Iw k S) (hk : k ≤ m) : Iw m S := by
  obtain ⟨hb, l, h1, h2⟩ := h
  exact ⟨hb, l, by omega, h2⟩
theorem mK {l : List (Int × Int)} (h : l.all (fun g => decide (0 ≤ g.1) && decide (g.2 ≤ 1114111)) = true) (hk : l.length ≤ k) : Iw k (rs l) := ⟨mH h, l, hk, fun c => Iff.rfl⟩
theorem Iw.un (h : Iw k S) (h2 : Iw m T) : Iw (k + m) (unS S T) := by
  obtain ⟨hb, l, h1, h2'⟩ := h
  obtain ⟨gb, l2, g1, g2⟩ := h2
  exact ⟨OV hb gb, l ++ l2, by rw [List.length_append]; omega, fun c => by rw [mT, h2', g2]; exact Iff.rfl⟩
theorem Iw.fold (h : Iw k S) : Iw (3 * k) (nG S) := by
  obtain ⟨hb, l, h1, h2⟩ := h
  refine ⟨yJ hb, l ++ pI l, by have := rZ l; rw [List.length_append]; omega, fun c => ?_⟩
  rw [foldL_in, show (fun c => InR c l) = S from funext fun c => propext (h2 c)]
theorem GE : ∀ (l : List (Int × Int)) (b : Int), (oW b l).length ≤ l.length + 1
  | [], b => by rw [oW]; split <;> simp
  | g :: l, b => by
    have := GE l (g.2 + 1)
    rw [oW, List.length_append, List.length_cons]
    split <;> simp <;> omega
theorem Iw.neg (h : Iw k S) : Iw (k + 1) (tM S) := by
  have hl := h.can
  obtain ⟨c1, c2⟩ := pK h.1
  obtain ⟨-, g2⟩ := xA (l := jP S) (b := 0) (d := 0) (Int.le_refl _) (Int.le_refl _) c1
  refine ⟨wV S, oW 0 (jP S), by have := GE (jP S) 0; omega, fun c => ?_⟩
  rw [g2, c2]; exact Iff.rfl
theorem iw_rg {a b : Int} (h0 : 0 ≤ a) (h1 : b ≤ 1114111) : Iw 1 (rgS a b) := ⟨ID h0 h1, [(a, b)], Nat.le_refl _, fun c => by rw [jX]; exact Iff.rfl⟩
theorem iw_eq {c : Int} (h0 : 0 ≤ c) (h1 : c ≤ 1114111) : Iw 1 (fun x => x = c) := ⟨CF h0 h1, [(c, c)], Nat.le_refl _, fun x => by rw [jX]; show c ≤ x ∧ x ≤ c ↔ x = c; omega⟩
theorem LI {c : Nat} (h : tO c = some S) : Iw 6 S := by
  unfold tO at h
  repeat' split at h
  all_goals first | (cases h; done) | (cases h; exact (Iw.neg (mK (k := 5) (by decide) (by decide)))) | (cases h; exact mK (by decide) (by decide))
theorem lY {p : Prop} [Decidable p] {A : Int → Prop} {o : Option (Int → Prop)} (h : (if p then some A else o) = some S) (hA : Iw k A) (ho : o = some S → Iw k S) : Iw k S := by
  by_cases hp : p
  · rw [if_pos hp] at h; cases h; exact hA
  · rw [if_neg hp] at h; exact ho h
theorem LB {n : ByteArray} (h : jO n = some S) : Iw 5 S :=
  (fun h => lY h (mK (by decide) (by decide)) (fun h => lY h (mK (by decide) (by decide)) (fun h => lY h (mK (by decide) (by decide)) (fun h => lY h (mK (by decide) (by decide)) (fun h => lY h (mK (by decide) (by decide)) (fun h => lY h (mK (by decide) (by decide)) (fun h => lY h (mK (by decide) (by decide)) (fun h => lY h (mK (by decide) (by decide)) (fun h => lY h (mK (by decide) (by decide)) (fun h => lY h (mK (by decide) (by decide)) (fun h => lY h (mK (by decide) (by decide)) (fun h => lY h (mK (by decide) (by decide)) (fun h => lY h (mK (by decide) (by decide)) (fun h => lY h (mK (by decide) (by decide)) (fun h => by cases h))))))))))))))) h
theorem FH {s : ByteArray} {i j : Nat} (h : gP s i = .ok (S, j)) (hb : Bd s i) (hi : i < s.size) : Iw 6 S := by
  unfold gP at h
  cases h1 : jV s i with
  | error e => rw [h1] at h; cases h
  | ok p =>
    obtain ⟨lo, m⟩ := p
    obtain ⟨b1, b2, b3, b4⟩ := jU h1 hb hi
    rw [h1] at h
    simp only at h
    split at h
    · rename_i hd
      cases h3 : jV s (m + 1) with
      | error e => rw [h3] at h; cases h
      | ok q =>
        obtain ⟨hi9, m2⟩ := q
        rw [h3] at h
        simp only at h
        split at h
        · cases h
        · have b5 := (b1.asc hd.1.1 (by rw [hd.1.2]; decide)).1
          have b6 := jU h3 b5 hd.2.1
          cases h
          exact (iw_rg b3 b6.2.2.2).mono (by decide)
    · cases h; exact (iw_rg b3 b4).mono (by decide)
theorem FZ {s : ByteArray} {i j : Nat} (h : jA s i = .ok (S, j)) (hb : Bd s i) (hi : i < s.size) : Iw 6 S := by
  unfold jA at h
  split at h
  · split at h
    · cases h; exact LI (by assumption)
    · exact FH h hb hi
  · exact FH h hb hi
theorem item_iw {s : ByteArray} {i j : Nat} (h : iN s i = .ok (S, j)) (hb : Bd s i) (hi : i < s.size) : Iw 6 S := by
  unfold iN at h
  split at h
  · split at h
    · exact FZ h hb hi
    · split at h
      · split at h
        · cases h
        · cases h; exact (LB (by assumption)).neg
      · split at h
        · cases h
        · cases h; exact (LB (by assumption)).mono (by decide)
  · exact FZ h hb hi
theorem FY {s : ByteArray} : ∀ {f i j k : Nat} {fst : Bool} {S T : Int → Prop}, eE s f fst S i = .ok (T, j) → Bd s i → Iw k S → Iw (k + 6 * (j - i)) T
  | 0, i, j, k, fst, S, T, h, hb, hS => by rw [eE] at h; cases h
  | f + 1, i, j, k, fst, S, T, h, hb, hS => by
    rw [eE] at h
    split at h
    · cases h
    · split at h
      · cases h; exact hS.mono (by omega)
      · split at h
        · cases h
        · rename_i U j1 h1
          obtain ⟨b1, b2⟩ := pT h1 hb (by omega)
          have := (tJ h b1).2
          exact (FY h b1 (hS.un (item_iw h1 hb (by omega)))).mono (by omega)
theorem TM : emp.size = 0 := rfl
theorem ms_k (c : Int) : (rxK c).ms = 40 := rfl
theorem ms_cls (l : List (Int × Int)) : (jS l).ms = 40 + 26 * l.length := by rw [Rx.ms_eq]; show 40 + emp.size + 26 * l.length + kms [] = _; rw [TM, kms]; omega
theorem ms_lit (c : Int) : (lT c).ms = 40 := rfl
theorem ms_rep (lo hi : Int) (z : Bool) (x : Rx) : (iY lo hi z x).ms = 40 + x.ms := by rw [Rx.ms_eq]; show 40 + emp.size + 26 * 0 + kms [x] = _; rw [TM, kms, kms]; omega
theorem ms_grp (c : Int) (nm : ByteArray) (x : Rx) : (oY c nm x).ms = 40 + nm.size + x.ms := by rw [Rx.ms_eq]; show 40 + nm.size + 26 * 0 + kms [x] = _; rw [kms, kms]; omega
theorem pZ (h : Iw k S) : (kG S).ms ≤ 40 + 26 * k := by
  rcases qW S with ⟨a, -, e⟩ | e
  · rw [e, ms_lit]; omega
  · rw [e, ms_cls]; have := h.can; omega
theorem CB {f : Fl} {c : Int} (h0 : 0 ≤ c) (h1 : c ≤ 1114111) : (lX f c).ms ≤ 118 := by
  rw [litS]
  split
  · exact pZ (k := 3) (iw_eq h0 h1).fold
  · exact Nat.le_trans (pZ (k := 1) (iw_eq h0 h1)) (by decide)
theorem rX : ∀ (a b : List Rx), kms (a ++ b) = kms a + kms b
  | [], b => by rw [List.nil_append, kms, Nat.zero_add]
  | x :: a, b => by rw [List.cons_append, kms, kms, rX a b]; omega
theorem lC (x : Rx) : kms [x] = x.ms := by rw [kms, kms, Nat.add_zero]
theorem BZ (c : Int) : ∀ l, (oZ c l).ms ≤ 40 + kms l
  | [] => by rw [kms]; exact Nat.le_refl 40
  | [x] => by rw [lC]; show x.ms ≤ _; omega
  | x :: y :: l => by
    show (lS c (x :: y :: l)).ms ≤ _
    rw [Rx.ms_eq]; show 40 + emp.size + 26 * 0 + kms (x :: y :: l) ≤ _; rw [TM]; omega
theorem LM (lo hi : Int) (z : Bool) (l : List Rx) : kms (l.dropLast ++ [iY lo hi z (l.getLastD (rxK 1))]) ≤ kms l + 80 := by
  rw [rX, lC, ms_rep]
  rcases List.eq_nil_or_concat l with rfl | ⟨m, y, rfl⟩
  · show kms [] + (40 + (rxK 1).ms) ≤ _
    rw [ms_k]; omega
  · simp only [List.concat_eq_append, List.dropLast_concat, List.getLastD_concat]
    rw [rX, lC]; omega
end
section
variable {s : ByteArray}
theorem TS {fl : Fl} {i j : Nat} {x : Rx} (h : jH s fl i = .ok (x, j)) (hb : Bd s i) : x.ms ≤ 1000 * (j - i) := by
  have hij := (tK h hb).2
  unfold jH at h
  split at h
  · cases h
  · rename_i C j2 hi
    cases h
    have key : ∀ i2, i ≤ i2 → Bd s i2 → eE s (s.size + 1) true (fun _ => False) i2 = .ok (C, j) → Iw (6 * (j - i)) C := fun i2 h1 h2 h3 =>
      (FY h3 h2 (k := 0) ⟨fun c hc => hc.elim, [], Nat.le_refl _, fun c => ⟨fun h9 => (kO c h9).elim, fun h9 => h9.elim⟩⟩).mono (by omega)
    have hC : Iw (6 * (j - i)) C := by
      split at hi
      · rename_i h9; exact key _ (Nat.le_succ i) ((hb.asc h9.1 (by rw [h9.2]; decide)).1) hi
      · exact key i (Nat.le_refl _) hb hi
    have hF : Iw (18 * (j - i)) (if fl.fold = true then nG C else C) := by
      split
      · exact hC.fold.mono (by omega)
      · exact hC.mono (by omega)
    by_cases h94 : isB s i 94
    · rw [if_pos h94]
      exact Nat.le_trans (pZ hF.neg) (by omega)
    · rw [if_neg h94]
      exact Nat.le_trans (pZ hF) (by omega)
theorem IH {fl : Fl} {e : Nat} (he : e ≤ s.size) : ∀ {f i : Nat} {l : List Rx}, Bd s i → kms (kM s fl e f l i).1 + 1000 * i ≤ kms l + 1000 * (kM s fl e f l i).2
  | 0, i, l, hb => Nat.le_refl _
  | f + 1, i, l, hb => by
    rw [kM]
    split
    · rename_i hi
      obtain ⟨n1, n2, n3, n4, n5⟩ := hb.next (by omega)
      have h1 := IH (fl := fl) he (f := f) (l := l ++ [lX fl (cE s i).1]) n3
      have h2 := CB (f := fl) n4 n5
      rw [rX, lC] at h1
      omega
    · exact Nat.le_refl _
theorem PP {st st2 : PS} {g : List Rx} (h : mM s st = .ok (g, st2)) (hb : Bd s (st.pos + 2)) : kms g + 1000 * st.pos ≤ 1000 * st2.pos := by
  unfold mM at h
  split at h
  · rename_i e he
    cases h
    obtain ⟨f1, f2, f3⟩ := (lE s 92 69 s.size (st.pos + 2) (by have := hb.le; omega)).1 e he
    have h1 := IH (fl := st.now) (e := e) (by have := f2.1; omega) (f := s.size) (l := []) hb
    rw [kms] at h1
    show _ ≤ 1000 * ((kM s st.now e s.size [] (st.pos + 2)).2 + 2)
    omega
  · cases h
    have h1 := IH (fl := st.now) (e := s.size) (Nat.le_refl _) (f := s.size) (l := []) hb
    rw [kms] at h1
    show _ ≤ 1000 * (kM s st.now s.size s.size [] (st.pos + 2)).2
    omega
theorem OB {st st2 : PS} {g : List Rx} (h : fV s st = .ok (g, st2)) (h92 : sb s st.pos = 92) (hb : Bd s st.pos) (hp : st.pos < s.size) : kms g + 1000 * st.pos ≤ 1000 * st2.pos := by
  have b1 := (hb.asc hp (by rw [h92]; decide)).1
  have leaf : ∀ k : Int, kms [rxK k] + 1000 * st.pos ≤ 1000 * (st.pos + 2) := fun k => by rw [lC, ms_k]; omega
  unfold fV at h
  split at h
  · cases h
  · rename_i hsz
    split at h
    · cases h; exact leaf _
    · split at h
      · cases h; exact leaf _
      · split at h
        · cases h; exact leaf _
        · split at h
          · cases h; exact leaf _
          · split at h
            · exact PP h ((b1.asc (by omega) (by omega)).1)
            · split at h
              · rename_i S hS
                cases h
                have := pZ (LI hS)
                rw [lC]
                show _ ≤ 1000 * (st.pos + 2)
                omega
              · split at h
                · cases h
                · rename_i v j he
                  cases h
                  obtain ⟨e1, e2, e3⟩ := BV he hb h92
                  have := CB (f := st.now) (c := (v : Int)) (by omega) (by omega)
                  rw [lC]
                  show _ ≤ 1000 * j
                  omega
theorem QA {st st2 : PS} {g : List Rx} (h : jG s st = .ok (g, st2)) (hb : Bd s st.pos) (hp : st.pos < s.size) : kms g + 1000 * st.pos ≤ 1000 * st2.pos := by
  obtain ⟨n1, n2, n3, n4, n5⟩ := hb.next hp
  unfold jG at h
  cases h
  rw [lC]
  have key : ∀ x : Rx, x.ms ≤ 118 → x.ms + 1000 * st.pos ≤ 1000 * (st.pos + (cE s st.pos).2) := fun x hx => by omega
  refine key _ ?_
  split
  · split
    · exact Nat.le_trans (pZ (k := 2) (mK (by decide) (by decide))) (by decide)
    · exact Nat.le_trans (pZ (k := 2) (mK (by decide) (by decide))) (by decide)
  · split
    · rw [ms_k]; decide
    · split
      · rw [ms_k]; decide
      · exact CB n4 n5
def ON (s : ByteArray) (ex : PS → PX Rx) (n : Nat) : Prop := ∀ st x st', st.opn = n → Bd s st.pos → st.names.length ≤ 100 → ex st = .ok (x, st') → x.ms + 1000 * st.pos ≤ 1000 * st'.pos + 80
theorem QV {i : Nat} {fl : Fl} : (eA s i fl).name.size ≤ (eA s i fl).size := by
  have hn : ∀ h, (kU s i h fl).name.size ≤ (kU s i h fl).size := fun h => by
    unfold kU
    split
    · exact Nat.zero_le _
    · show (s.extract (i + h) (gV s s.size (i + h))).size ≤ gV s s.size (i + h) + 1 - i
      rw [ByteArray.size_extract]
      have : i + h ≤ gV s s.size (i + h) := qU
      omega
  have hs : ∀ {f j : Nat} {b m : Bool} {n : Int} {fl : Fl}, (iB s i f j b n m fl).name.size = 0 := by
    intro f
    induction f with
    | zero => intro j b m n fl; rfl
    | succ f ih =>
      intro j b m n fl
      rw [iB]
      repeat' split
      all_goals first | exact ih | rfl
  unfold eA
  split
  · exact Nat.zero_le _
  · split
    · exact hn 4
    · split
      · exact hn 3
      · split
        · exact Nat.zero_le _
        · rw [hs]; exact Nat.zero_le _
theorem brk_sz {ex : PS → PX Rx} {st st2 : PS} {g : List Rx} (h : oH s ex st = .ok (g, st2)) (h40 : isB s st.pos 40) (hb : Bd s st.pos) (hn : st.names.length ≤ 100) (hex : ON s ex (st.opn + 1)) : kms g + 1000 * st.pos ≤ 1000 * st2.pos := by
  have hnz := QV (s := s) (i := st.pos) (fl := st.now)
  by_cases hset : (eA s st.pos st.now).err = 0 ∧ (eA s st.pos st.now).sett = true
  · rw [DG rfl hset.1 hset.2] at h
    cases h
    show kms [] + 1000 * st.pos ≤ 1000 * (st.pos + _)
    rw [kms]; omega
  · by_cases h250 : st.opn = 250
    · rw [xE rfl hset h250] at h; cases h
    by_cases herr : (eA s st.pos st.now).err ≠ 0
    · rw [DJ rfl hset h250 herr] at h; cases h
    by_cases hful : (eA s st.pos st.now).capt = true ∧ zK (eA s st.pos st.now).name st.names
    · rw [tX rfl hset h250 herr hful.1 hful.2] at h; cases h
    rw [kZ rfl hset h250 herr hful] at h
    obtain ⟨b1, b2, -⟩ := rV hb h40 (Classical.not_not.1 herr)
    generalize eA s st.pos st.now = O at *
    split at h
    · cases h
    · rename_i x st3 hx
      split at h
      · cases h
        have h1 := hex _ x st3 rfl b2 (by
          show (if O.capt = true then st.names ++ [O.name] else st.names).length ≤ 100
          split
          · rename_i hc
            have : st.names.length ≠ 100 := fun h9 => hful ⟨hc, .inl h9⟩
            rw [List.length_append]; simp; omega
          · exact hn) hx
        have h2 : x.ms + 1000 * (st.pos + O.size) ≤ 1000 * st3.pos + 80 := h1
        rw [lC]
        show _ ≤ 1000 * (st3.pos + 1)
        split
        · rw [ms_grp]; omega
        · omega
      · cases h
theorem QC {ex : PS → PX Rx} {st st2 : PS} {g : List Rx} (h : eM s ex st = .ok (g, st2)) (hb : Bd s st.pos) (hp : st.pos < s.size) (hn : st.names.length ≤ 100) (hex : ON s ex (st.opn + 1)) : kms g + 1000 * st.pos ≤ 1000 * st2.pos := by
  unfold eM at h
  split at h
  · rename_i hc; exact brk_sz h ⟨hp, hc⟩ hb hn hex
  · split at h
    · rename_i hc
      split at h
      · cases h
      · rename_i x j hx
        cases h
        have hb1 := (hb.asc hp (by rw [hc]; decide)).1
        have h1 := TS hx hb1
        have h2 := (tK hx hb1).2
        rw [lC]
        show _ ≤ 1000 * j
        omega
    · split at h
      · rename_i hc; exact OB h hc hb hp
      · exact QA h hb hp
section
variable {ex : PS → PX Rx} {o : Nat} (ho : o ≤ 250) (hex : o < 250 → wI s ex (o + 1)) (hsz : ON s ex (o + 1))
include ho hex hsz
theorem zA : ∀ (f : Nat) (l : List Rx) (ah : Bool) (st st' : PS) (x : Rx) (p0 : Nat), st.opn = o → Bd s st.pos → st.names.length ≤ 100 → kms l + 1000 * p0 ≤ 1000 * st.pos → gZ s ex f l ah st = .ok (x, st') → x.ms + 1000 * p0 ≤ 1000 * st'.pos + 40
  | 0, l, ah, st, st', x, p0, h1, h2, h3, h4, h => by rw [gZ] at h; cases h; have := BZ 4 l; omega
  | f + 1, l, ah, st, st', x, p0, h1, h2, h3, h4, h => by
    by_cases hend : s.size ≤ st.pos ∨ sb s st.pos = 124 ∨ sb s st.pos = 41
    · rw [lF hend] at h; cases h; have := BZ 4 l; omega
    have hp : st.pos < s.size := by omega
    generalize hr : kY (s.extract st.pos s.size) = rr
    obtain ⟨lo, hi, nn⟩ := rr
    obtain ⟨-, -, -, -, r5⟩ := BS h2 hp hr
    by_cases hn : nn = 0
    · subst hn
      cases hpc : eM s ex st with
      | error e => rw [tZ hend hr hpc] at h; cases h
      | ok q =>
        obtain ⟨g, st2⟩ := q
        rw [zB hend hr hpc] at h
        obtain ⟨q, -, -, g3, g4, g5, g6⟩ := BR hpc h2 hp (by rw [h1]; exact ho) h3 (by rw [h1]; exact hex)
        have hg := QC hpc h2 hp h3 (by rw [h1]; exact hsz)
        exact zA f _ _ _ _ _ p0 (by rw [g5, h1]) g4 g6 (by rw [rX]; omega) h
    · obtain ⟨r6, r7⟩ := r5 hn
      by_cases hcd : ah = false ∨ 1000 < lo ∨ 1000 < hi ∨ (0 ≤ hi ∧ hi < lo)
      · rw [sD hend hr hn hcd] at h; cases h
      by_cases hb : isB s (st.pos + nn) 63
      · rw [sE hend hr hn hcd hb] at h
        have := LM lo hi (!st.now.lazy) l
        exact zA f _ _ { st with pos := st.pos + nn + 1 } _ _ p0 h1 ((r7.asc hb.1 (by rw [hb.2]; decide)).1) h3 (by show _ ≤ 1000 * (st.pos + nn + 1); omega) h
      · rw [tY hend hr hn hcd hb] at h
        have := LM lo hi st.now.lazy l
        exact zA f _ _ { st with pos := st.pos + nn } _ _ p0 h1 r7 h3 (by show _ ≤ 1000 * (st.pos + nn); omega) h
theorem MO : ∀ (f : Nat) (l : List Rx) (st st' : PS) (x : Rx) (p0 : Nat), st.opn = o → Bd s st.pos → st.names.length ≤ 100 → kms l + 1000 * p0 ≤ 1000 * st.pos + 40 → kV s ex f l st = .ok (x, st') → x.ms + 1000 * p0 ≤ 1000 * st'.pos + 80
  | 0, l, st, st', x, p0, h1, h2, h3, h4, h => by rw [kV] at h; cases h; have := BZ 5 l; omega
  | f + 1, l, st, st', x, p0, h1, h2, h3, h4, h => by
    by_cases hb : isB s st.pos 124
    · cases hp : gZ s ex (s.size + 1) [] false (adv st 1) with
      | error e => rw [rF hb hp] at h; cases h
      | ok q =>
        obtain ⟨y, st2⟩ := q
        rw [sC hb hp] at h
        have hb1 := (h2.asc hb.1 (by rw [hb.2]; decide)).1
        have hy := zA ho hex hsz _ _ _ (adv st 1) _ _ (st.pos + 1) h1 hb1 h3 (by rw [kms]; show 0 + 1000 * (st.pos + 1) ≤ 1000 * (st.pos + 1); omega) hp
        obtain ⟨q2, r1, r2, r3, r4, r5, r6⟩ := DL ho hex (st := adv st 1) hb1 h1 h3 hp
        exact MO f _ _ _ _ p0 r5 r4 r6 (by rw [rX, lC]; omega) h
    · rw [mX hb] at h; cases h; have := BZ 5 l; omega
theorem MB : ON s (iU s ex) o := by
  intro st x st' h1 h2 h3 h
  cases hp : mJ s ex st with
  | error e => unfold mJ at hp; unfold iU at h; rw [hp] at h; cases h
  | ok q =>
    obtain ⟨y, st2⟩ := q
    rw [qC hp] at h
    have hy := zA ho hex hsz _ _ _ _ _ _ st.pos h1 h2 h3 (by rw [kms]; omega) hp
    obtain ⟨q2, r1, r2, r3, r4, r5, r6⟩ := DL ho hex h2 h1 h3 hp
    exact MO ho hex hsz _ _ _ _ _ st.pos r5 r4 r6 (by rw [lC]; omega) h
end
theorem TA : ∀ n, n ≤ 250 → ON s (iD s n) (250 - n)
  | 0, _ => MB (ex := fun _ => .error 3) (o := 250) (Nat.le_refl _) (fun h => absurd h (Nat.lt_irrefl _)) (fun st x st' _ _ _ h => by cases h)
  | n + 1, h => by
    have h1 := AY s n (by omega)
    have h2 := TA n (by omega)
    have h3 : ON s (iU s (iD s n)) (250 - (n + 1)) := MB (by omega) (fun _ => by rw [show 250 - (n + 1) + 1 = 250 - n by omega]; exact h1) (by rw [show 250 - (n + 1) + 1 = 250 - n by omega]; exact h2)
    exact h3
theorem QH {x : Rx} (h : fZ s = .ok x) : x.ms ≤ 4096080 := by
  obtain ⟨-, st, h1, h2, h3, -⟩ := nX h
  have hz : ¬ 4096 < s.size := fun h9 => by rw [KN h9] at h; cases h
  obtain ⟨N, k, hU, -⟩ := id h3
  have := TA 250 (Nat.le_refl _) st0 x st rfl (Bd.zero hU) (Nat.zero_le _) h1
  have h4 : x.ms + 1000 * 0 ≤ 1000 * st.pos + 80 := this
  have := h3.le
  omega
end
end Go.Proofs.YtljadkcojnlioaaGreatDoor
namespace Go.Proofs.YtljadkcojnlioaaGreatDoor
open Go.RowKit Go.W
attribute [local irreducible] Decidable.decide
theorem rM : eY Tryz.prog 30 := ⟨_, Tryz.func30, by kernel_rfl, by kernel_rfl⟩
theorem yG {w : World} (s : ByteArray) (a b : Nat) (hs : s.size ≤ 2000000) :
    Calls Tryz.prog 27 #[.string s, .int .u8 (a : Nat), .int .u8 (b : Nat)] w (Ret fun v w' => ∃ r, v = .bool r ∧ (r = false → ∀ k, ¬ Occ s a b k) ∧ Evo [] w w') := by
  refine bJ (N := 28) Tryz.func27 rfl rfl rfl ?_; refine aE (aB (aM (aC (aA (aE (aE (aB (aM (aC (aA (bR (eV (α := Nat) (0) (fun k => [(7, .int .i64 (k : Nat))]) [(0, _), (1, _), (2, _)] (fun k wr => Evo [] w wr ∧ (k ≤ s.size ∧ ∀ j, j < k → ¬ Occ s a b j)) (fun k => s.size - k) ⟨rfl, trivial⟩ ⟨rfl, rfl, rfl, trivial⟩ ⟨(Evo.refl [] w), ⟨Nat.zero_le _, fun j hj => absurd hj (Nat.not_lt_zero _)⟩⟩ ?_)))))))))))); rintro k wr1 ⟨hV2, ⟨hk, hno⟩⟩; show CW _ _ _ _ [(7, _), (0, _), (1, _), (2, _)] _; refine aE (aE (aB (aG ?_))); refine aF (bC rfl rfl (by omega) (by omega)) ?_; refine aG (aF (cM rfl Tryz.underlying9 rfl) ?_); refine aF (dF rfl rfl) ?_; refine aC (aA (bF rfl (fun hc12 => ?_) (fun hc12 => ?_)))
  ·refine aU (aA (aE (bR (aE (aB (aG (aG ?_))))))); refine aF (fL (n := k) rfl rfl Tryz.underlying9 rfl (by omega)) ?_; refine aG (aF (bD rfl rfl) ?_); refine aG (aV (t := 20) rfl (fun hs20 => ?_) (fun hs20 => ?_))
   ·refine aQ (aG (aQ (aG (aQ ?_)))); refine aF (bC rfl rfl (by omega) (by omega)) ?_; refine aQ ?_; refine aF (fL (n := k + 1) rfl rfl Tryz.underlying9 rfl (by omega)) ?_; refine aQ (aG (aQ (aF (bD rfl rfl) ?_))); refine bH (aC (aA (bF rfl (fun hc27 => ?_) (fun hc27 => ?_))))
    ·refine aE (aB (aM (aC (aA (aO (aX (aN (aN (aX (aN (br1 ?_))))))))))); exact ⟨true, rfl, (fun h9 => by cases h9), hV2⟩
    refine aU (aW (aA (aB (aG ?_)))); refine aF (bC rfl rfl (by omega) (by omega)) ?_; refine aM (aC (bY ?_)); refine ⟨k + 1, ?_, ⟨rfl, trivial⟩, ⟨rfl, rfl, rfl, trivial⟩, hV2, ?_⟩
    · omega
    refine ⟨by omega, fun j hj => ?_⟩
    rcases Nat.lt_or_ge j k with h9 | h9
    · exact hno j h9
    obtain rfl : j = k := by omega
    rintro ⟨h8, h7, h6⟩; exact absurd h7 (by omega)
   refine aH (aH (aH (aH (aH (aH (aR (aC (aA (cO rfl ?_))))))))); refine aU (aW (aA (aB (aG ?_)))); refine aF (bC rfl rfl (by omega) (by omega)) ?_; refine aM (aC (bY ?_)); refine ⟨k + 1, ?_, ⟨rfl, trivial⟩, ⟨rfl, rfl, rfl, trivial⟩, hV2, ?_⟩
   · omega
   refine ⟨by omega, fun j hj => ?_⟩
   rcases Nat.lt_or_ge j k with h9 | h9
   · exact hno j h9
   obtain rfl : j = k := by omega
   rintro ⟨h8, h7, h6⟩; exact absurd h7 (by omega)
  refine dO (cD (cD (dN (aA ?_)))); refine aE (aB (aM (aC (aA (aO (br1 ?_)))))); refine ⟨false, rfl, fun _ j => ?_, hV2⟩
  rcases Nat.lt_or_ge j k with h9 | h9
  · exact hno j h9
  · exact fun h8 => by have := h8.1; omega
theorem MI (s : ByteArray) : ∀ i, cb s i ≤ i
  | 0 => Nat.le_refl _
  | i + 1 => by have := MI s i; rw [cb]; split <;> omega
theorem RP {w : World} (s : ByteArray) (hs : s.size ≤ 2000000) :
    Calls Tryz.prog 28 #[.string s] w (Ret fun v w' => v = .int .i64 (cb s s.size : Nat) ∧ Evo [] w w') := by
  refine bJ (N := 18) Tryz.func28 rfl rfl rfl ?_; refine aE (aB (aM (aC (aA (aE (aB (aM (aC (aA (aE (aE (aB (aM (aC (aA (bR (eV (α := Nat × Nat) ((0, 0)) (fun x => [(3, .int .i64 (x.2 : Nat)), (4, .int .i64 (x.1 : Nat))]) [(0, _), (2, _)] (fun x wr => Evo [] w wr ∧ (x.1 ≤ s.size ∧ x.2 = cb s x.1)) (fun x => s.size - x.1) ⟨rfl, rfl, trivial⟩ ⟨rfl, rfl, trivial⟩ ⟨(Evo.refl [] w), ⟨Nat.zero_le _, rfl⟩⟩ ?_))))))))))))))))); rintro ⟨k, n⟩ wr1 ⟨hV2, ⟨hk, hn⟩⟩; show CW _ _ _ _ [(3, .int .i64 (n : Nat)), (4, .int .i64 (k : Nat)), (0, _), (2, _)] _
  try dsimp only at hk
  try dsimp only at hn
  have hcl := MI s k; refine aE (aE (aB (aG (aG (aF (cM rfl Tryz.underlying9 rfl) ?_))))); refine aF (dF rfl rfl) ?_; refine aC (aA (bF rfl (fun hc8 => ?_) (fun hc8 => ?_)))
  ·refine aU (aA (aE (bR (aE (aB (aG (aG ?_))))))); refine aF (fL (n := k) rfl rfl Tryz.underlying9 rfl (by omega)) ?_; refine aF (bD rfl rfl) ?_; refine aC (aA (bF rfl (fun hc14 => ?_) (fun hc14 => ?_)))
   ·refine aB (aG ?_); refine aF (bC rfl rfl (by omega) (by omega)) ?_; refine aM (aC (aW (aA (aB (aG ?_))))); refine aF (bC rfl rfl (by omega) (by omega)) ?_; refine aM (aC (bY ?_)); refine ⟨(k + 1, n + 1), ?_, ⟨rfl, rfl, trivial⟩, ⟨rfl, rfl, trivial⟩, hV2, ?_⟩
    · (try dsimp only); omega
    try dsimp only
    refine ⟨by omega, ?_⟩; rw [hn, cb, if_pos (by omega)]
   refine aU (aW (aA (aB (aG ?_)))); refine aF (bC rfl rfl (by omega) (by omega)) ?_; refine aM (aC (bY ?_)); refine ⟨(k + 1, n), ?_, ⟨rfl, rfl, trivial⟩, ⟨rfl, rfl, trivial⟩, hV2, ?_⟩
   · (try dsimp only); omega
   try dsimp only
   refine ⟨by omega, ?_⟩; rw [hn, cb, if_neg (by omega)]
   rfl
  have hke : k = s.size := by omega
  refine dO (cD (cD (dN (aA ?_)))); refine aE (aB (aG (aM (aC (aA (aO (br1 ?_))))))); exact ⟨by rw [hn, hke], hV2⟩
theorem vW : RZ Tryz.prog 25 = some (27, 9, 112, #[.int .i64 0, .int .i32 0, .slice none 0 0, .int .i64 0, .int .i64 0, .bool false, .int .i64 0, .string ByteArray.empty, .slice none 0 0]) := by kernel_rfl
theorem ms_pos (x : Rx) : 40 ≤ x.ms := by rw [Rx.ms_eq]; omega
theorem LN : ∀ l : List Rx, l.length ≤ kms l
  | [] => Nat.le_refl _
  | x :: l => by have := LN l; have := ms_pos x; rw [kms, List.length_cons]; omega
theorem LO {l : List Rx} {j : Nat} (hj : j < l.length) : l[j].ms ≤ kms l := by have := qY hj; have := JB (l := l) (j + 1); omega
theorem kids_ms (x : Rx) : kms x.kids + 40 ≤ x.ms := by rw [Rx.ms_eq]; omega
theorem FU {n : Int} {l : List Rx} {j : Nat} (hj : j < l.length) : mvs n (l.take (j + 1)) = mvs n (l.take j) ++ [l[j].mv n] := by rw [List.take_succ_eq_append_getElem hj, wW, lW]
theorem mv_eq (n : Int) (x : Rx) : x.mv n = .mk x.kind x.r x.ranges x.min x.max x.lazy (if x.kind = 7 then x.cap + n else x.cap) x.name (mvs n x.kids) := by cases x; rw [Rx.mv]; rfl
def RxL (n : Nat) (X : List Nat) (w : World) (cs : List Value) (l : List Rx) : Prop := cs.length = l.length * 9 ∧ ∀ k (hk : k < l.length), ∃ us, us.length = 9 ∧ (∀ j v, us[j]? = some v → cs[k * 9 + j]? = some v) ∧ RRx n X w us l[k]
section
variable {n : Nat} {X Y : List Nat} {w w' : World} {cs : List Value} {l : List Rx}
theorem RxL.evo (h : RxL n X w cs l) (he : Evo Y w w') (hy : ∀ y, y ∈ Y → y ∈ X) : RxL n X w' cs l :=
  ⟨h.1, fun k hk => by obtain ⟨us, a, b, c⟩ := h.2 k hk; exact ⟨us, a, b, RRx.pers _ _ _ _ _ _ (he.mono hy) c⟩⟩
theorem RxL.evo0 (h : RxL n X w cs l) (he : Evo [] w w') : RxL n X w' cs l := h.evo he (fun y hy => by cases hy)
theorem RxL.step (h : RxL n X w cs l) (he : Evo X w w') (hy : ∀ y, y ∈ Y → y ∈ X ∨ w.heap.size ≤ y) (hb : ∀ b, b ∈ X → b < w.heap.size) : RxL n Y w' cs l :=
  ⟨h.1, fun k hk => by obtain ⟨us, a, b, c⟩ := h.2 k hk; exact ⟨us, a, b, c.step he hy hb⟩⟩
theorem RxL.less (h : RxL n X w cs l) (hy : ∀ y, y ∈ Y → y ∈ X) : RxL n Y w cs l :=
  ⟨h.1, fun k hk => by obtain ⟨us, a, b, c⟩ := h.2 k hk; exact ⟨us, a, b, RRx.fresh n X Y w _ _ (fun y h => .inl (hy y h)) c⟩⟩
theorem RxL.nil : RxL n X w [] [] := ⟨rfl, fun k hk => by cases hk⟩
theorem RxL.one {vs : List Value} {x : Rx} (h : RRx n X w vs x) (h9 : vs.length = 9) : RxL n X w vs [x] := ⟨by rw [h9]; rfl, fun k hk => by
  have e : k = 0 := by simpa using hk
  subst e
  exact ⟨vs, h9, fun j v hj => by rw [Nat.zero_mul, Nat.zero_add]; exact hj, h⟩⟩
theorem RxL.app {cs' : List Value} {l' : List Rx} (h : RxL n X w cs l) (h2 : RxL n X w cs' l') : RxL n X w (cs ++ cs') (l ++ l') := by
  refine ⟨by rw [List.length_append, List.length_append, h.1, h2.1, Nat.add_mul], fun k hk => ?_⟩
  rcases Nat.lt_or_ge k l.length with h9 | h9
  · obtain ⟨us, a, b, c⟩ := h.2 k h9
    refine ⟨us, a, fun j v hj => ?_, by rw [List.getElem_append_left h9]; exact c⟩
    have := b j v hj
    rw [List.getElem?_append_left (List.getElem?_eq_some_iff.1 this).1]
    exact this
  · have hk' : k - l.length < l'.length := by rw [List.length_append] at hk; omega
    obtain ⟨us, a, b, c⟩ := h2.2 (k - l.length) hk'
    refine ⟨us, a, fun j v hj => ?_, by rw [List.getElem_append_right h9]; exact c⟩
    have := b j v hj
    have h1 := h.1
    rw [List.getElem?_append_right (by omega), show k * 9 + j - cs.length = (k - l.length) * 9 + j by omega]
    exact this
theorem RxL.rsl {a : Option Addr} {c : Nat} {ob : Option Nat} (h : RxL n X w cs l) (hO : OwnS w 27 9 a l.length c cs ob) (hX : ∀ g, ob = some g → g ∉ X) : RSl 9 (RRx n) X w (.slice a l.length c) l := by
  refine ⟨a, c, rfl, hO.le, fun j hj => ?_⟩
  obtain ⟨us, hul, huc, hur⟩ := h.2 j hj
  obtain ⟨g, hg, ha, hc⟩ := hO.cells (by omega)
  refine ⟨g, 0, us, ha, hX g hg, hul, fun i v hi => ?_, hur⟩
  have := hc _ _ (huc i v hi)
  rw [← Nat.add_assoc] at this
  exact this
end
structure MvG where
  j : Nat
  a : Option Addr
  c : Nat
  cs : List Value
  ob : Option Nat
theorem SP {w : World} {ob : Option Nat} (h : Ge w ob) : ∀ y, y ∈ ob.toList → w.heap.size ≤ y := fun y hy => by
  cases ob with
  | none => cases hy
  | some g => rw [List.mem_singleton.1 hy]; exact h g rfl
theorem MN {w : World} {ob ob' : Option Nat} (h : ob' = ob ∨ ∃ g, ob' = some g ∧ w.heap.size ≤ g) {X : List Nat} : ∀ y, y ∈ ob'.toList ++ X → y ∈ ob.toList ++ X ∨ w.heap.size ≤ y := fun y hy => by
  rcases List.mem_append.1 hy with hy | hy
  · rcases h with rfl | ⟨g, rfl, hg⟩
    · exact .inl (List.mem_append_left _ hy)
    · rw [List.mem_singleton.1 hy]; exact .inr hg
  · exact .inl (List.mem_append_right _ hy)
set_option maxHeartbeats 4000000 in
theorem IW {m : Nat} (ih : ∀ {X : List Nat} {w : World} {vs : List Value} {t : Rx} {q : Nat} (hx : RRx m X w vs t) (hX : ∀ b, b ∈ X → b < w.heap.size) (hgd : Good t) (hms : t.ms ≤ 5000000) (hq : q ≤ 1000), Calls Tryz.prog 30 #[.agg vs.toArray, .int .i64 (q : Nat)] w (Ret fun v w' => ∃ us, v = .agg us.toArray ∧ RRx m X w' us (t.mv q) ∧ Evo [] w w')) {X : List Nat} {w : World} {vs : List Value} {t : Rx} {q : Nat} (hx : RRx (m + 1) X w vs t) (hX : ∀ b, b ∈ X → b < w.heap.size) (hgd : Good t) (hms : t.ms ≤ 5000000) (hq : q ≤ 1000) : Calls Tryz.prog 30 #[.agg vs.toArray, .int .i64 (q : Nat)] w (Ret fun v w' => ∃ us, v = .agg us.toArray ∧ RRx (m + 1) X w' us (t.mv q) ∧ Evo [] w w') := by
  have hx0 := hx; obtain ⟨m0, xa, xc, ka, kc, hm, rfl, hrg, hk, bl1, bl2, bl3⟩ := hx.get
  obtain rfl : m0 = m := by omega
  obtain ⟨_, _, hke, hkc, e1⟩ := hk; cases hke; have hkm := kids_ms t; have hkl := LN t.kids; have hcap := hgd.capb; refine bJ (N := 39) Tryz.func30 rfl rfl rfl ?_; refine aE (aB (kS rfl rfl fun b2 w1 hB2 hs3 hw4 => ?_)); have hsz_b2 := hs3; have hG5 := Ge.new (Evo.refl [] w) hs3; have hE6 := (Evo.refl [] w).then hw4; refine dA rfl dS fun b4 w7 hB8 hs9 hw10 => ?_; have hsz_b4 := hs9; have hA11 := Apart.new (Lt.blk hB2) hs9; have hE13 := hE6.then hw10; have hB14 := hw10.blk0 hB2; have hg2 := hG5; have hg4 := (Ge.new hE6 hs9); refine aC (aA (aE (aE (aB (aF (aD rfl eS) (aF (aI rfl aZ (aJ hB14 rfl)) (aF (bD rfl rfl) ?_))))))); refine aC (aA (bF rfl (fun hc9 => ?_) (fun hc9 => ?_)))
  ·refine aB (aF (aD rfl eG) (aF (aI rfl aZ (aJ hB14 rfl)) (aG ?_)))
   refine aF (CV (r := t.cap + q) rfl rfl rfl (by have := hcap hc9; omega) (by have := hcap hc9; omega)) ?_
   refine aF (aD rfl eG) (bG rfl rfl (rfl) bV hB14 rfl fun w15 hB16 hw17 => ?_); have hE18 := hE13.step hw17 hG5.mem1; have hB19 := hw17.blk hB8 hA11.symm.nmem1
   try simp only [cR, Nat.reduceAdd] at hB16
   refine aC (aA (aE (aB (aF (aD rfl cH) (aF (aI rfl dB (aJ hB16 rfl)) (aF (bK rfl Tryz.underlying25 rfl) ?_)))))); refine JW (len := 0) (c := t.kids.length) rfl rfl rfl vW (by rfl) (by omega) (by omega) (by decide) (by omega) (by omega) fun b0 w21 hO0 hs23 hw24 => ?_; refine aM (aC (aA (aE (aE (aB (aM (aC (aA (bR ?_)))))))))
   refine eV (α := MvG) (⟨0, some ⟨b0, 0, none⟩, t.kids.length, [], some b0⟩) (fun x => [(5, .slice x.a x.j x.c), (6, .int .i64 (x.j : Nat))]) [(1, _), (2, _), (4, _)] (fun x wr => Evo [] w wr ∧ (x.j ≤ t.kids.length ∧ OwnS wr 27 9 x.a x.j x.c x.cs x.ob ∧ Ge w x.ob ∧ RxL m0 (x.ob.toList ++ (b2 :: b4 :: X)) wr x.cs (mvs q (t.kids.take x.j)) ∧ wr.heap[b2]? = some (.cells #[iv t.kind, .int .i32 t.r, .slice xa t.ranges.length xc, iv t.min, iv t.max, .bool t.lazy, iv (t.cap + q), .string t.name, .slice ka t.kids.length kc] 27 (0, 0)) ∧ Apart (some b2) x.ob ∧ wr.heap[b4]? = some (.cells #[iv 0, .int .i32 0, .slice none 0 0, iv 0, iv 0, .bool false, iv 0, .string ByteArray.empty, .slice none 0 0] 27 (0, 0)) ∧ Apart (some b4) x.ob)) (fun x => t.kids.length - x.j) ⟨rfl, rfl, trivial⟩ ⟨rfl, rfl, rfl, trivial⟩ ⟨(hE18.then hw24), ⟨Nat.zero_le _, by simpa [sI] using hO0, (Ge.new hE18 hs23), by rw [List.take_zero, mvs]; exact RxL.nil, (hw24.blk0 hB16), (Apart.new (Lt.blk hB16) hs23), (hw24.blk0 hB19), (Apart.new (Lt.blk hB19) hs23)⟩⟩ ?_
   rintro ⟨j, a, c, cs, ob⟩ wr31 ⟨hV32, ⟨hj, hown, hge, hKT, hb2, hab, hb4, hab4⟩⟩; show CW _ _ _ _ [(5, .slice a j c), (6, .int .i64 (j : Nat)), (1, _), (2, _), (4, _)] _
   try dsimp only at hj
   try dsimp only at hown
   try dsimp only at hge
   try dsimp only at hKT
   try dsimp only at hb2
   try dsimp only at hab
   try dsimp only at hb4
   try dsimp only at hab4
   refine aE (aE (aB (aG (aF (aD rfl cH) (aF (aI rfl dB (aJ hb2 rfl)) (aF (bK rfl Tryz.underlying25 rfl) ?_)))))); refine aF (dF rfl rfl) ?_; refine aC (aA (bF rfl (fun hc23 => ?_) (fun hc23 => ?_)))
   ·have hj' : j < t.kids.length := by omega
    obtain ⟨b1, o1, vs1, ha1, hb1, hvl1, hc1, hrk⟩ := e1 j hj'; obtain ⟨m1, ra1, rc1, ka1, kc1, hm1, rfl, -⟩ := id hrk.get; refine aU (aA (aE (bR (aB (aG (aF (aD rfl cH) (aF (aI rfl dB (aJ hb2 rfl)) (aG ?_))))))))
    refine aF (gF (n := j) (by rw [ha1]; rfl) rfl dT hj') ?_
    refine aF (eJ rfl bQ aY (vs := [_, _, _, _, _, _, _, _, _]) rfl (hc1.evo hV32 (by simp))) ?_; refine aG ?_
    refine aK (vs := [_, _]) rM rfl (ih (X := ob.toList ++ (b2 :: b4 :: X)) (hrk.step ((hV32).mono (fun b hb => by cases hb)) (fun y hy => (List.mem_append.1 hy).elim (fun h => .inr (SP hge y h)) (fun h => by rcases List.mem_cons.1 h with rfl | h; exact .inr (hg2 _ rfl); rcases List.mem_cons.1 h with rfl | h; exact .inr (hg4 _ rfl); exact .inl h)) hX) (fun b hb => (List.mem_append.1 hb).elim (pV hown b) (fun h => by rcases List.mem_cons.1 h with rfl | h; exact eW hb2; rcases List.mem_cons.1 h with rfl | h; exact eW hb4; exact Nat.lt_of_lt_of_le (hX b h) (hV32).size)) (hgd.kid _ (List.getElem_mem hj')) (by have := LO hj'; omega) hq) rfl ?_
    rintro _ w33 ⟨us, rfl, hus, hw34⟩; obtain ⟨m9, ra9, rc9, ka9, kc9, -, rfl, -⟩ := id hus.get; have hLT0 := RxL.one hus rfl; refine bL (vs := [_]) rfl dD rfl rfl rfl rfl fun b40 w41 hO42 hs43 hw44 => ?_; have hE49 := (hV32.then hw34).then hw44; have hO50 := (hown.evo0 hw34).evo0 hw44; have hB52 := hw44.blk0 (hw34.blk0 hb2); have hB53 := hw44.blk0 (hw34.blk0 hb4); have hKT9 := ((hKT.evo0 hw34).evo0 hw44); have hLT9 := (hLT0.evo0 hw44)
    have hlt9 : ∀ b, b ∈ ob.toList ++ (b2 :: b4 :: X) → b < _ := fun b hb => (List.mem_append.1 hb).elim (pV hO50 b) (fun h => by rcases List.mem_cons.1 h with rfl | h; exact eW hB52; rcases List.mem_cons.1 h with rfl | h; exact eW hB53; exact Nat.lt_of_lt_of_le (hX b h) (hE49).size)
    refine dL rfl rfl rfl rfl kI hO50 (Src.ofOwn hO42 ⟨rfl, rfl, rfl, rfl, rfl, rfl, rfl, rfl, rfl, trivial⟩) (by omega) fun a2 c2 w57 ob2 hO59 hw60 hob61 => ?_; have hKT8 := (hKT9.app hLT9).step (hw60.mono (fun b hb => List.mem_append_left _ hb)) (MN hob61) hlt9; refine aM (aC (aW (aA (aB (aG ?_))))); refine aF (bC rfl rfl (by omega) (by omega)) ?_; refine aM (aC (bY ?_)); refine ⟨⟨j + 1, a2, c2, cs ++ [iv (t.kids[j].mv q).kind, .int .i32 (t.kids[j].mv q).r, .slice ra9 (t.kids[j].mv q).ranges.length rc9, iv (t.kids[j].mv q).min, iv (t.kids[j].mv q).max, .bool (t.kids[j].mv q).lazy, iv (t.kids[j].mv q).cap, .string (t.kids[j].mv q).name, .slice ka9 (t.kids[j].mv q).kids.length kc9], ob2⟩, ?_, ⟨rfl, rfl, trivial⟩, ⟨rfl, rfl, rfl, trivial⟩, (hE49.step hw60 hge.mem), ?_⟩
    · (try dsimp only); omega
    try dsimp only
    exact ⟨by omega, hO59, (hge.app hE49 hob61), by rw [FU hj']; exact hKT8, (hw60.blk hB52 hab.nmem), (hab.app (Lt.blk hB52) hob61), (hw60.blk hB53 hab4.nmem), (hab4.app (Lt.blk hB53) hob61)⟩
   obtain rfl : j = t.kids.length := by omega
   rw [List.take_length] at hKT; refine dO (cD (cD (dN (aA ?_)))); refine aE (aB (aG (aF (aD rfl cH) (bG rfl rfl (rfl) rI hb2 rfl fun w72 hB73 hw74 => ?_)))); have hF77 := hKT.evo hw74 (fun q hq => List.mem_append_right _ (by simp [List.mem_singleton.1 hq]))
   try simp only [cR, Nat.reduceAdd] at hB73
   refine aC (aA (aE (aB (aF (bX rfl bQ aY hB73 rfl) (bI rfl rfl aY (hw74.blk hb4 hA11.symm.nmem1) rfl rfl ⟨rfl, rfl, rfl, rfl, rfl, rfl, rfl, rfl, rfl, trivial⟩ fun w79 hB80 hw81 => ?_))))); have hE82 := (hV32.step hw74 hg2.mem1).step hw81 hg4.mem1; have hF84 := hF77.evo hw81 (fun q hq => List.mem_append_right _ (by simp [List.mem_singleton.1 hq]))
   try simp only [cR, Nat.reduceAdd] at hB80
   refine aC (aA (aO (cX rfl (ResOk.cellA rfl bQ aY hB80 rfl) ?_))); refine ⟨_, rfl, ?_, hE82⟩; rw [mv_eq, if_pos hc9]
   refine ⟨_, _, rfl, RSl.evo RRg.pers ((hE82).mono (fun b hb => by cases hb)) hrg, ?_, bl1, bl2, by show (mvs q t.kids).length ≤ _; rw [pY]; exact bl3⟩
   have h7 := RxL.less (Y := X) hF84 (fun y hy => List.mem_append_right _ (by simp [hy]))
   have h8 := RxL.rsl h7 (by rw [pY]; exact ((hown.evo hw74 hab.symm.own1).evo hw81 hab4.symm.own1)) (fun g hg hx => by have := hge g hg; have := hX g hx; omega)
   rw [pY] at h8; exact h8
  refine aU (aA (aE (aB (aF (aD rfl cH) (aF (aI rfl dB (aJ hB14 rfl)) (aF (bK rfl Tryz.underlying25 rfl) ?_)))))); refine JW (len := 0) (c := t.kids.length) rfl rfl rfl vW (by rfl) (by omega) (by omega) (by decide) (by omega) (by omega) fun b0 w87 hO0 hs89 hw90 => ?_; refine aM (aC (aA (aE (aE (aB (aM (aC (aA (bR ?_)))))))))
  refine eV (α := MvG) (⟨0, some ⟨b0, 0, none⟩, t.kids.length, [], some b0⟩) (fun x => [(5, .slice x.a x.j x.c), (6, .int .i64 (x.j : Nat))]) [(1, _), (2, _), (4, _)] (fun x wr => Evo [] w wr ∧ (x.j ≤ t.kids.length ∧ OwnS wr 27 9 x.a x.j x.c x.cs x.ob ∧ Ge w x.ob ∧ RxL m0 (x.ob.toList ++ (b2 :: b4 :: X)) wr x.cs (mvs q (t.kids.take x.j)) ∧ wr.heap[b2]? = some (.cells #[iv t.kind, .int .i32 t.r, .slice xa t.ranges.length xc, iv t.min, iv t.max, .bool t.lazy, iv t.cap, .string t.name, .slice ka t.kids.length kc] 27 (0, 0)) ∧ Apart (some b2) x.ob ∧ wr.heap[b4]? = some (.cells #[iv 0, .int .i32 0, .slice none 0 0, iv 0, iv 0, .bool false, iv 0, .string ByteArray.empty, .slice none 0 0] 27 (0, 0)) ∧ Apart (some b4) x.ob)) (fun x => t.kids.length - x.j) ⟨rfl, rfl, trivial⟩ ⟨rfl, rfl, rfl, trivial⟩ ⟨(hE13.then hw90), ⟨Nat.zero_le _, by simpa [sI] using hO0, (Ge.new hE13 hs89), by rw [List.take_zero, mvs]; exact RxL.nil, (hw90.blk0 hB14), (Apart.new (Lt.blk hB14) hs89), (hw90.blk0 hB8), (Apart.new (Lt.blk hB8) hs89)⟩⟩ ?_
  rintro ⟨j, a, c, cs, ob⟩ wr97 ⟨hV98, ⟨hj, hown, hge, hKT, hb2, hab, hb4, hab4⟩⟩; show CW _ _ _ _ [(5, .slice a j c), (6, .int .i64 (j : Nat)), (1, _), (2, _), (4, _)] _
  try dsimp only at hj
  try dsimp only at hown
  try dsimp only at hge
  try dsimp only at hKT
  try dsimp only at hb2
  try dsimp only at hab
  try dsimp only at hb4
  try dsimp only at hab4
  refine aE (aE (aB (aG (aF (aD rfl cH) (aF (aI rfl dB (aJ hb2 rfl)) (aF (bK rfl Tryz.underlying25 rfl) ?_)))))); refine aF (dF rfl rfl) ?_; refine aC (aA (bF rfl (fun hc23 => ?_) (fun hc23 => ?_)))
  ·have hj' : j < t.kids.length := by omega
   obtain ⟨b1, o1, vs1, ha1, hb1, hvl1, hc1, hrk⟩ := e1 j hj'; obtain ⟨m1, ra1, rc1, ka1, kc1, hm1, rfl, -⟩ := id hrk.get; refine aU (aA (aE (bR (aB (aG (aF (aD rfl cH) (aF (aI rfl dB (aJ hb2 rfl)) (aG ?_))))))))
   refine aF (gF (n := j) (by rw [ha1]; rfl) rfl dT hj') ?_
   refine aF (eJ rfl bQ aY (vs := [_, _, _, _, _, _, _, _, _]) rfl (hc1.evo hV98 (by simp))) ?_; refine aG ?_
   refine aK (vs := [_, _]) rM rfl (ih (X := ob.toList ++ (b2 :: b4 :: X)) (hrk.step ((hV98).mono (fun b hb => by cases hb)) (fun y hy => (List.mem_append.1 hy).elim (fun h => .inr (SP hge y h)) (fun h => by rcases List.mem_cons.1 h with rfl | h; exact .inr (hg2 _ rfl); rcases List.mem_cons.1 h with rfl | h; exact .inr (hg4 _ rfl); exact .inl h)) hX) (fun b hb => (List.mem_append.1 hb).elim (pV hown b) (fun h => by rcases List.mem_cons.1 h with rfl | h; exact eW hb2; rcases List.mem_cons.1 h with rfl | h; exact eW hb4; exact Nat.lt_of_lt_of_le (hX b h) (hV98).size)) (hgd.kid _ (List.getElem_mem hj')) (by have := LO hj'; omega) hq) rfl ?_
   rintro _ w99 ⟨us, rfl, hus, hw100⟩; obtain ⟨m9, ra9, rc9, ka9, kc9, -, rfl, -⟩ := id hus.get; have hLT0 := RxL.one hus rfl; refine bL (vs := [_]) rfl dD rfl rfl rfl rfl fun b106 w107 hO108 hs109 hw110 => ?_; have hE115 := (hV98.then hw100).then hw110; have hO116 := (hown.evo0 hw100).evo0 hw110; have hB118 := hw110.blk0 (hw100.blk0 hb2); have hB119 := hw110.blk0 (hw100.blk0 hb4); have hKT9 := ((hKT.evo0 hw100).evo0 hw110); have hLT9 := (hLT0.evo0 hw110)
   have hlt9 : ∀ b, b ∈ ob.toList ++ (b2 :: b4 :: X) → b < _ := fun b hb => (List.mem_append.1 hb).elim (pV hO116 b) (fun h => by rcases List.mem_cons.1 h with rfl | h; exact eW hB118; rcases List.mem_cons.1 h with rfl | h; exact eW hB119; exact Nat.lt_of_lt_of_le (hX b h) (hE115).size)
   refine dL rfl rfl rfl rfl kI hO116 (Src.ofOwn hO108 ⟨rfl, rfl, rfl, rfl, rfl, rfl, rfl, rfl, rfl, trivial⟩) (by omega) fun a2 c2 w123 ob2 hO125 hw126 hob127 => ?_; have hKT8 := (hKT9.app hLT9).step (hw126.mono (fun b hb => List.mem_append_left _ hb)) (MN hob127) hlt9; refine aM (aC (aW (aA (aB (aG ?_))))); refine aF (bC rfl rfl (by omega) (by omega)) ?_; refine aM (aC (bY ?_)); refine ⟨⟨j + 1, a2, c2, cs ++ [iv (t.kids[j].mv q).kind, .int .i32 (t.kids[j].mv q).r, .slice ra9 (t.kids[j].mv q).ranges.length rc9, iv (t.kids[j].mv q).min, iv (t.kids[j].mv q).max, .bool (t.kids[j].mv q).lazy, iv (t.kids[j].mv q).cap, .string (t.kids[j].mv q).name, .slice ka9 (t.kids[j].mv q).kids.length kc9], ob2⟩, ?_, ⟨rfl, rfl, trivial⟩, ⟨rfl, rfl, rfl, trivial⟩, (hE115.step hw126 hge.mem), ?_⟩
   · (try dsimp only); omega
   try dsimp only
   exact ⟨by omega, hO125, (hge.app hE115 hob127), by rw [FU hj']; exact hKT8, (hw126.blk hB118 hab.nmem), (hab.app (Lt.blk hB118) hob127), (hw126.blk hB119 hab4.nmem), (hab4.app (Lt.blk hB119) hob127)⟩
  obtain rfl : j = t.kids.length := by omega
  rw [List.take_length] at hKT; refine dO (cD (cD (dN (aA ?_)))); refine aE (aB (aG (aF (aD rfl cH) (bG rfl rfl (rfl) rI hb2 rfl fun w138 hB139 hw140 => ?_)))); have hF143 := hKT.evo hw140 (fun q hq => List.mem_append_right _ (by simp [List.mem_singleton.1 hq]))
  try simp only [cR, Nat.reduceAdd] at hB139
  refine aC (aA (aE (aB (aF (bX rfl bQ aY hB139 rfl) (bI rfl rfl aY (hw140.blk hb4 hA11.symm.nmem1) rfl rfl ⟨rfl, rfl, rfl, rfl, rfl, rfl, rfl, rfl, rfl, trivial⟩ fun w145 hB146 hw147 => ?_))))); have hE148 := (hV98.step hw140 hg2.mem1).step hw147 hg4.mem1; have hF150 := hF143.evo hw147 (fun q hq => List.mem_append_right _ (by simp [List.mem_singleton.1 hq]))
  try simp only [cR, Nat.reduceAdd] at hB146
  refine aC (aA (aO (cX rfl (ResOk.cellA rfl bQ aY hB146 rfl) ?_))); refine ⟨_, rfl, ?_, hE148⟩; rw [mv_eq, if_neg hc9]
  refine ⟨_, _, rfl, RSl.evo RRg.pers ((hE148).mono (fun b hb => by cases hb)) hrg, ?_, bl1, bl2, by show (mvs q t.kids).length ≤ _; rw [pY]; exact bl3⟩
  have h7 := RxL.less (Y := X) hF150 (fun y hy => List.mem_append_right _ (by simp [hy]))
  have h8 := RxL.rsl h7 (by rw [pY]; exact ((hown.evo hw140 hab.symm.own1).evo hw147 hab4.symm.own1)) (fun g hg hx => by have := hge g hg; have := hX g hx; omega)
  rw [pY] at h8; exact h8
theorem FV : ∀ {m : Nat} {X : List Nat} {w : World} {vs : List Value} {t : Rx} {q : Nat} (hx : RRx m X w vs t) (hX : ∀ b, b ∈ X → b < w.heap.size) (hgd : Good t) (hms : t.ms ≤ 5000000) (hq : q ≤ 1000), Calls Tryz.prog 30 #[.agg vs.toArray, .int .i64 (q : Nat)] w (Ret fun v w' => ∃ us, v = .agg us.toArray ∧ RRx m X w' us (t.mv q) ∧ Evo [] w w')
  | 0, X, w, vs, t, q, hx, hX, hgd, hms, hq => hx.elim
  | m + 1, X, w, vs, t, q, hx, hX, hgd, hms, hq => IW (m := m) (fun hx hX hgd hms hq => FV hx hX hgd hms hq) hx hX hgd hms hq
theorem meet_ok {w : World} {e1 e2 : TypeId} {a a' : Option Addr} {c c' : Nat} {l m : List ByteArray} {o o' : Option Nat} (h1 : OwnS w e1 1 a l.length c (l.map sv) o) (h2 : OwnS w e2 1 a' m.length c' (m.map sv) o') (hl : l.length ≤ 1000000) (hm : m.length ≤ 1000000) :
    Calls Tryz.prog 29 #[.slice a l.length c, .slice a' m.length c'] w (Ret fun v w' => ∃ r, v = .bool r ∧ (r = true ↔ Meet l m) ∧ Evo [] w w') := by
  refine bJ (N := 35) Tryz.func29 rfl rfl rfl ?_; refine aE (aB (aM (aC (aA (aE (aE (aB (aM (aC (aA (bR ?_))))))))))); refine eV (α := Nat) (0) (fun k => [(5, .int .i64 (k : Nat))]) [(0, _), (1, _)] (fun k wr => Evo [] w wr ∧ (k ≤ l.length ∧ ∀ j (h : j < l.length), j < k → l[j] ≠ emp → l[j] ∉ m)) (fun k => l.length - k) ⟨rfl, trivial⟩ ⟨rfl, rfl, trivial⟩ ⟨Evo.refl _ _, ⟨Nat.zero_le _, fun j h h2 => by cases h2⟩⟩ ?_; rintro k wr1 ⟨hV2, ⟨hk0, hsm⟩⟩; show CW _ _ _ _ [(5, _), (0, _), (1, _)] _; have hE3 := (Evo.refl [] w).then hV2; refine aE (aE (aB (aG (aG (aF (bK rfl Tryz.underlying22 rfl) ?_))))); refine aF (dF rfl rfl) ?_; refine aC (aA (bF rfl (fun hc10 => ?_) (fun hc10 => ?_)))
  ·have hk1 : k < l.length := by omega
   obtain ⟨g1, ha1, hc1⟩ := QQ h1 hk1; refine aU (aA (aE (bR (aE (aB (aM (aC (aA (bR ?_))))))))); refine eV (α := Nat) (0) (fun i => [(6, .int .i64 (i : Nat))]) [(0, _), (1, _), (5, _)] (fun i wr => Evo [] wr1 wr ∧ (i ≤ m.length ∧ ∀ j (h : j < m.length), j < i → l[k] ≠ emp → l[k] ≠ m[j])) (fun i => m.length - i) ⟨rfl, trivial⟩ ⟨rfl, rfl, rfl, trivial⟩ ⟨Evo.refl _ _, ⟨Nat.zero_le _, fun j h h2 => by cases h2⟩⟩ ?_; rintro i wr4 ⟨hV5, ⟨hi0, hin⟩⟩; show CW _ _ _ _ [(6, _), (0, _), (1, _), (5, _)] _; refine aE (aE (aB (aG (aG (aF (bK rfl Tryz.underlying22 rfl) ?_))))); refine aF (dF rfl rfl) ?_; refine aC (aA (bF rfl (fun hc16 => ?_) (fun hc16 => ?_)))
   ·have hk2 : i < m.length := by omega
    obtain ⟨g2, ha2, hc2⟩ := QQ h2 hk2; refine aU (aA (aE (bR (aE ?_)))); refine iK (fun w0 w' => Evo [] w0 w') (by kernel_rfl) (fun w8 hw9 => ?_); have hE10 := (hE3.then hV5).then hw9; refine aet 0 rfl (fun _ hS => bO rfl) (Evo.refl [] w8) ?_; refine aet 1 rfl (fun _ hS => bO rfl) (Evo.refl [] w8) ?_; refine aet 2 rfl (fun _ hS => eK (n := k) rfl (by rfl) ha1 nB hk1) (Evo.refl [] w8) ?_; refine aet 3 rfl (fun _ hS => aI rfl cJ (((hE10.then hS)).cell hc1 (by simp))) (Evo.refl [] w8) ?_; refine aet 4 rfl (fun _ hS => tR rfl rfl) (Evo.refl [] w8) ?_; refine aet 5 rfl (fun _ hS => bO rfl) (Evo.refl [] w8) ?_; refine UI (t := 24) rfl (fun hs24 => ?_) (fun hs24 => ?_)
    ·refine mC 6 rfl rfl rfl rfl rfl (by kernel_rfl) (by kernel_rfl) (by kernel_rfl) rfl (fun _ hS => bO rfl) (Evo.refl [] w8) ?_; refine mC 7 rfl rfl rfl rfl rfl (by kernel_rfl) (by kernel_rfl) (by kernel_rfl) rfl (fun _ hS => bO rfl) (Evo.refl [] w8) ?_; refine mC 8 rfl rfl rfl rfl rfl (by kernel_rfl) (by kernel_rfl) (by kernel_rfl) rfl (fun _ hS => eK (n := k) rfl (by rfl) ha1 nB hk1) (Evo.refl [] w8) ?_; refine mC 9 rfl rfl rfl rfl rfl (by kernel_rfl) (by kernel_rfl) (by kernel_rfl) rfl (fun _ hS => aI rfl cJ (((hE10.then hS)).cell hc1 (by simp))) (Evo.refl [] w8) ?_; refine mC 10 rfl rfl rfl rfl rfl (by kernel_rfl) (by kernel_rfl) (by kernel_rfl) rfl (fun _ hS => bO rfl) (Evo.refl [] w8) ?_; refine mC 11 rfl rfl rfl rfl rfl (by kernel_rfl) (by kernel_rfl) (by kernel_rfl) rfl (fun _ hS => bO rfl) (Evo.refl [] w8) ?_; refine mC 12 rfl rfl rfl rfl rfl (by kernel_rfl) (by kernel_rfl) (by kernel_rfl) rfl (fun _ hS => eK (n := i) rfl (by rfl) ha2 nB hk2) (Evo.refl [] w8) ?_; refine mC 13 rfl rfl rfl rfl rfl (by kernel_rfl) (by kernel_rfl) (by kernel_rfl) rfl (fun _ hS => aI rfl cJ (((hE10.then hS)).cell hc2 (by simp))) (Evo.refl [] w8) ?_; refine mC 14 rfl rfl rfl rfl rfl (by kernel_rfl) (by kernel_rfl) (by kernel_rfl) rfl (fun _ hS => gQ rfl rfl) (Evo.refl [] w8) ?_; refine aet 15 rfl (fun _ hS => hD rfl rfl) (Evo.refl [] w8) ?_; refine fA (by kernel_rfl) (aA ?_); refine bF rfl (fun hc34 => ?_) (fun hc34 => ?_)
     ·refine aE (aB (aM (aC (aA (aO (aX (aN (aN (aX (aX (aN (aN (aX (aN (br1 ?_)))))))))))))))
      exact ⟨true, rfl, ⟨fun _ => ⟨l[k], by rw [show l[k] = m[i] from hc34]; exact List.getElem_mem hk2, hs24, List.getElem_mem hk1⟩, fun _ => rfl⟩, hE10⟩
     refine aU (aW (aA (aB (aG ?_)))); refine aF (bC rfl rfl (by omega) (by omega)) ?_; refine aM (aC (bY ?_)); refine ⟨(i + 1), ?_, ⟨rfl, trivial⟩, ⟨rfl, rfl, rfl, trivial⟩, (hV5.then hw9), ?_⟩
     · omega
     refine ⟨by omega, fun j h3 h4 h5 h6 => ?_⟩
     by_cases e : j < i
     · exact hin j h3 e h5 h6
     · obtain rfl : j = i := by omega
       exact hc34 h6
    refine DN 6 rfl (Evo.refl [] w8) ?_; refine DN 7 rfl (Evo.refl [] w8) ?_; refine DN 8 rfl (Evo.refl [] w8) ?_; refine DN 9 rfl (Evo.refl [] w8) ?_; refine DN 10 rfl (Evo.refl [] w8) ?_; refine DN 11 rfl (Evo.refl [] w8) ?_; refine DN 12 rfl (Evo.refl [] w8) ?_; refine DN 13 rfl (Evo.refl [] w8) ?_; refine DN 14 rfl (Evo.refl [] w8) ?_; refine aet 15 rfl (fun _ hS => iE rfl rfl) (Evo.refl [] w8) ?_; refine fA (by kernel_rfl) (aA ?_); refine cO rfl ?_; refine aU (aW (aA (aB (aG ?_)))); refine aF (bC rfl rfl (by omega) (by omega)) ?_; refine aM (aC (bY ?_)); refine ⟨(i + 1), ?_, ⟨rfl, trivial⟩, ⟨rfl, rfl, rfl, trivial⟩, (hV5.then hw9), ?_⟩
    · omega
    refine ⟨by omega, fun j h3 h4 h5 h6 => ?_⟩
    by_cases e : j < i
    · exact hin j h3 e h5 h6
    · obtain rfl : j = i := by omega
      exact hs24 h5
   refine dO (cD (cD (dN (aW (aA ?_))))); refine aB (aG ?_); refine aF (bC rfl rfl (by omega) (by omega)) ?_; refine aM (aC (bY ?_)); refine ⟨k + 1, ?_, ⟨rfl, trivial⟩, ⟨rfl, rfl, trivial⟩, (hV2.then hV5), ?_⟩
   · omega
   refine ⟨by omega, fun j h3 h4 h5 h6 => ?_⟩
   by_cases e : j < k
   · exact hsm j h3 e h5 h6
   · obtain rfl : j = k := by omega
     obtain ⟨i9, hi9, e9⟩ := List.getElem_of_mem h6; exact hin i9 hi9 (by omega) h5 e9.symm
  refine dO (cD (cD (dN (aA ?_)))); refine aE (aB (aM (aC (aA (aO (br1 ?_)))))); refine ⟨false, rfl, ⟨fun h => (by cases h), fun ⟨x, x1, x2, x3⟩ => ?_⟩, hE3⟩; obtain ⟨j, hj, rfl⟩ := List.getElem_of_mem x3; exact (hsm j hj (by omega) x2 x1).elim
theorem HT : eY Tryz.prog 10 := ⟨_, Tryz.func10, by kernel_rfl, by kernel_rfl⟩
theorem pR {w : World} {s : ByteArray} (hG : Glb w) : Calls Tryz.prog 11 #[.string s] w (Ret fun v w' => ∃ vs n x e, v = .tuple #[.agg vs.toArray, iv e] ∧ RRx n [] w' vs x ∧ ((fZ s = .ok x ∧ e = 0) ∨ (fZ s = .error e ∧ e ≠ 0)) ∧ Evo [] w w') := by
  refine (xP s hG).mono ?_
  rintro e w' ⟨v, rfl, hv, h1 | ⟨x2, vs, bs, h2, rfl, h4, h5⟩⟩
  · obtain ⟨e, h1, rfl⟩ := h1
    exact ⟨_, rfl, _, 1, zX, e, rfl, zX_rx [] w', .inr ⟨h1, (RD s).ne h1⟩, hv⟩
  · obtain ⟨n, hn⟩ := h4.rrx (X := []) (fun b _ h => by cases h)
    exact ⟨_, rfl, vs, n, x2, 0, rfl, hn, .inl ⟨h2, rfl⟩, hv⟩
theorem wD : eY Tryz.prog 26 := ⟨_, Tryz.func26, by kernel_rfl, by kernel_rfl⟩
theorem rN : eY Tryz.prog 27 := ⟨_, Tryz.func27, by kernel_rfl, by kernel_rfl⟩
theorem wC : eY Tryz.prog 28 := ⟨_, Tryz.func28, by kernel_rfl, by kernel_rfl⟩
theorem HQ : eY Tryz.prog 29 := ⟨_, Tryz.func29, by kernel_rfl, by kernel_rfl⟩
theorem cat_eq (a b : ByteArray) : ByteArray.mk #[40, 63, 58] ++ a ++ ByteArray.mk #[41, 40, 63, 58] ++ b ++ ByteArray.mk #[41] = bstr ([40, 63, 58] ++ (nmL a ++ (41 :: ([40, 63, 58] ++ (nmL b ++ [41]))))) := by
  have h1 : ByteArray.mk #[40, 63, 58] = bstr [40, 63, 58] := by decide +kernel
  have h2 : ByteArray.mk #[41, 40, 63, 58] = bstr [41, 40, 63, 58] := by decide +kernel
  have h3 : ByteArray.mk #[41] = bstr [41] := by decide +kernel
  have ha := mU a
  have hb := mU b
  rw [h1, h2, h3]
  generalize nmL a = la at *
  generalize nmL b = lb at *
  subst ha hb
  simp only [bap, List.append_assoc, List.cons_append, List.nil_append]
theorem alt_eq (a b : ByteArray) : ByteArray.mk #[40, 63, 58] ++ a ++ ByteArray.mk #[41, 124, 40, 63, 58] ++ b ++ ByteArray.mk #[41] = bstr ([40, 63, 58] ++ (nmL a ++ (41 :: ([124, 40, 63, 58] ++ (nmL b ++ [41]))))) := by
  have h1 : ByteArray.mk #[40, 63, 58] = bstr [40, 63, 58] := by decide +kernel
  have h2 : ByteArray.mk #[41, 124, 40, 63, 58] = bstr [41, 124, 40, 63, 58] := by decide +kernel
  have h3 : ByteArray.mk #[41] = bstr [41] := by decide +kernel
  have ha := mU a
  have hb := mU b
  rw [h1, h2, h3]
  generalize nmL a = la at *
  generalize nmL b = lb at *
  subst ha hb
  simp only [bap, List.append_assoc, List.cons_append, List.nil_append]
theorem qP : (ByteArray.mk #[40, 63, 58]).size = 3 ∧ (ByteArray.mk #[41, 40, 63, 58]).size = 4 ∧ (ByteArray.mk #[41, 124, 40, 63, 58]).size = 5 ∧ (ByteArray.mk #[41]).size = 1 := ⟨rfl, rfl, rfl, rfl⟩
theorem grp_le {s : ByteArray} {x : Rx} (h : fZ s = .ok x) : (pG x).length ≤ 100 := by
  obtain ⟨-, st, h1, h2, h3, q, h4⟩ := nX h
  obtain ⟨N, k, hU, -⟩ := h3
  obtain ⟨-, -, -, -, -, -, h6⟩ := AY s 250 (Nat.le_refl _) st0 x st rfl (Bd.zero hU) (Nat.zero_le _) h1
  rw [vD h4]; exact h6
theorem PE {n m : Nat} {w : World} {vs us cs : List Value} {x y : Rx} {a : Option Addr} {c : Nat} {ob : Option Nat} {k : Int} (hx : RRx n [] w vs x) (hy : RRx m [] w us y) (hc : cs = vs ++ us) (hO : OwnS w 27 9 a 2 c cs ob) :
    ∃ N, RRx N [] w [iv k, .int .i32 0, .slice none 0 0, iv 0, iv 0, .bool false, iv 0, .string ByteArray.empty, .slice a 2 c] (lS k [x, y]) := by
  subst hc
  have h1 : RxL (max n m) [] w vs [x] := RxL.one (BJ hx (Nat.le_max_left _ _)) (by obtain ⟨_, ra, rc, ka, kc, -, rfl, -⟩ := hx.get; rfl)
  have h2 : RxL (max n m) [] w us [y] := RxL.one (BJ hy (Nat.le_max_right _ _)) (by obtain ⟨_, ra, rc, ka, kc, -, rfl, -⟩ := hy.get; rfl)
  have h3 := RxL.rsl (h1.app h2) hO (fun g _ h => by cases h)
  exact ⟨max n m + 1, _, _, rfl, PK, h3, Nat.zero_le _, Nat.zero_le _, by show 2 ≤ _; omega⟩
set_option maxHeartbeats 4000000 in
theorem NR {w : World} (a b : ByteArray) (hG : Gw w) (hsa : a.size ≤ 2000000) (hsb : b.size ≤ 2000000) :
    Calls Tryz.prog 8 #[.string a, .string b] w (Ret fun v w' => v = .bool true ∧ Evo [] w w') := by
  have hca := MI a a.size; have hcb := MI b b.size; refine bJ (N := 117) Tryz.func8 rfl rfl rfl ?_; refine aE (aB (aM (aC (aA (aE (aE (aB (aK (vs := []) HT rfl (UG (hG.evo0 (Evo.refl [] w))) rfl ?_)))))))); rintro _ w1 ⟨rfl, hw2⟩; have hE3 := (Evo.refl [] w).then hw2; refine aF (fF rfl) ?_; refine aC (aA (cO rfl ?_)); refine aU (aA (aE (aB (aG (aK (vs := [_]) lO rfl (pR (s := a) (hG.evo0 hE3).glb) rfl ?_))))); rintro _ w4 ⟨v1, n1, x1, e1, rfl, hx1, hp1, hw5⟩; have hx1' := hx1; obtain ⟨m1, ra1, rc1, ka1, kc1, hm1, rfl, -⟩ := hx1.get; refine aG (aF (cN rfl rfl) ?_); refine aF (cN rfl rfl) ?_; refine dA rfl dS fun bx w7 hB8 hs9 hw10 => ?_; have hsz_bx := hs9; refine bI rfl rfl aY hB8 rfl rfl ⟨rfl, rfl, rfl, rfl, rfl, rfl, rfl, rfl, rfl, trivial⟩ fun w15 hB16 hw17 => ?_; have hE18 := ((hE3.then hw5).then hw10).step hw17 (Ge.new (hE3.then hw5) hs9).mem1
  try simp only [cR, Nat.reduceAdd] at hB16
  refine aM (aC (aA (aE (aB (aG (aK (vs := [_]) lO rfl (pR (s := b) (hG.evo0 hE18).glb) rfl ?_)))))); rintro _ w20 ⟨v2, n2, x2, e2, rfl, hx2, hp2, hw21⟩; have hE23 := (((Evo.refl [] w4).then hw10).step hw17 (Ge.new (Evo.refl [] w4) hs9).mem1).then hw21; have hx2' := hx2; obtain ⟨m2, ra2, rc2, ka2, kc2, hm2, rfl, -⟩ := hx2.get; refine aG (aF (cN rfl rfl) ?_); refine aF (cN rfl rfl) ?_; refine dA rfl dS fun by9 w25 hB26 hs27 hw28 => ?_; have hsz_by9 := hs27; refine bI rfl rfl aY hB26 rfl rfl ⟨rfl, rfl, rfl, rfl, rfl, rfl, rfl, rfl, rfl, trivial⟩ fun w37 hB38 hw39 => ?_; have hE40 := ((hE18.then hw21).then hw28).step hw39 (Ge.new (hE18.then hw21) hs27).mem1
  try simp only [cR, Nat.reduceAdd] at hB38
  refine aM (aC (aA (aE (aE (aB (aG (aF (fX rfl rfl) ?_))))))); refine aG (aV (t := 30) rfl (fun hs30 => ?_) (fun hs30 => ?_))
  ·refine aH (aH (bH (aG (aH (aH (bH (aG (aH (aH (bH (aG (aH (aH (bH ?_)))))))))))))); refine aC (aA (cV rfl ?_)); refine aE (aB (aM (aC (aA (aO (aN (br1 ?_))))))); exact ⟨rfl, hE40⟩
  refine aQ (aG (aQ (aF (fX rfl rfl) ?_))); refine aR (aG (aV (t := 34) rfl (fun hs34 => ?_) (fun hs34 => ?_)))
  ·refine aH (aH (bH (aG (aH (aH (bH (aG (aH (aH (bH (aC (aA (cV rfl ?_))))))))))))); refine aE (aB (aM (aC (aA (aO (aN (br1 ?_))))))); exact ⟨rfl, hE40⟩
  refine aQ (aG (aQ (aK (vs := [_, _, _]) rN rfl (yG a 92 81 hsa) rfl ?_))); rintro _ w44 ⟨r1, rfl, hr1, hw45⟩; refine aR (aG (gU (t := 38) rfl (fun hs38 => ?_) (fun hs38 => ?_)))
  ·refine aH (aH (bH (aG (aH (aH (bH (aC (aA (cV rfl ?_))))))))); refine aE (aB (aM (aC (aA (aO (aN (br1 ?_))))))); exact ⟨rfl, (hE40.then hw45)⟩
  refine aQ (aG (aQ (aK (vs := [_, _, _]) rN rfl (yG a 91 58 hsa) rfl ?_))); rintro _ w51 ⟨r2, rfl, hr2, hw52⟩; have hE53 := (hE40.then hw45).then hw52; refine aR (aG (gU (t := 42) rfl (fun hs42 => ?_) (fun hs42 => ?_)))
  ·refine aH (aH (bH (aC (aA (cV rfl ?_))))); refine aE (aB (aM (aC (aA (aO (aN (br1 ?_))))))); exact ⟨rfl, hE53⟩
  refine aQ (aG (aQ (aK (vs := [_, _, _]) rN rfl (yG b 92 81 hsb) rfl ?_))); rintro _ w58 ⟨r3, rfl, hr3, hw59⟩; have hE60 := hE53.then hw59; refine aR (aC (aA (fW rfl (fun hc45 => ?_) (fun hc45 => ?_))))
  ·refine aE (aB (aM (aC (aA (aO (aN (br1 ?_))))))); exact ⟨rfl, hE60⟩
  have hpa : fZ a = .ok x1 := (hp1.resolve_right (fun h9 => h9.2 (Classical.not_not.1 hs30))).1; have hpb : fZ b = .ok x2 := (hp2.resolve_right (fun h9 => h9.2 (Classical.not_not.1 hs34))).1; refine aU (aA (aE (aE (aB (aG (aF (cM rfl Tryz.underlying9 rfl) ?_)))))); refine aG (aF (cM rfl Tryz.underlying9 rfl) ?_); refine aF (bC rfl rfl (by omega) (by omega)) ?_; refine aF (gL rfl rfl) ?_; refine aG (aV (t := 52) rfl (fun hs52 => ?_) (fun hs52 => ?_))
  ·refine aH (aH (aH (aH (aH (aH (bH (aC (aA (cV rfl ?_))))))))); refine aE (aB (aM (aC (aA (aO (aN (br1 ?_))))))); exact ⟨rfl, hE60⟩
  refine aQ (aG (aQ (aK (vs := [_]) wC rfl (RP a hsa) rfl ?_))); rintro _ w65 ⟨rfl, hw66⟩; refine aQ (aG (aQ (aK (vs := [_]) wC rfl (RP b hsb) rfl ?_))); rintro _ w72 ⟨rfl, hw73⟩; have hE74 := (hE60.then hw66).then hw73; refine aQ ?_; refine aF (bC rfl rfl (by omega) (by omega)) ?_; refine aQ (aF (gL rfl rfl) ?_); refine aR (aC (aA (bF rfl (fun hc59 => ?_) (fun hc59 => ?_))))
  ·refine aE (aB (aM (aC (aA (aO (aN (br1 ?_))))))); exact ⟨rfl, hE74⟩
  have hj := joins hpa hpb (hr1 (by simpa using hs38)) (hr3 (by simpa using hc45)) (hr2 (by simpa using hs42)) (by omega) (by omega); refine aU (aA (aE ?_)); refine iK (fun w0 w' => Evo [] w0 w') (by kernel_rfl) (fun w79 hw80 => ?_); have hE82 := (((((((hE23.then hw28).step hw39 (Ge.new hE23 hs27).mem1).then hw45).then hw52).then hw59).then hw66).then hw73).then hw80; have hB84 := hw80.blk0 (hw73.blk0 (hw66.blk0 (hw59.blk0 (hw52.blk0 (hw45.blk0 (hw39.blk (hw28.blk0 (hw21.blk0 hB16)) (Apart.new (Lt.blk (hw21.blk0 hB16)) hs27).nmem1)))))); have hB85 := hw80.blk0 (hw73.blk0 (hw66.blk0 (hw59.blk0 (hw52.blk0 (hw45.blk0 hB38))))); refine aet 0 rfl (fun _ hS => bX rfl bQ aY (hS.blk0 hB84) rfl) (Evo.refl [] w79) ?_; refine aet 2 rfl (fun _ hS => bX rfl bQ aY (hS.blk0 hB85) rfl) (Evo.refl [] w79) ?_; refine cP [1] (by kernel_rfl) rfl ⟨?_, trivial⟩; refine cU rfl ?_; refine aK (vs := [_]) wD rfl (BG (RRx.pers _ _ _ _ _ _ hE82 hx1')) rfl ?_; rintro _ w86 ⟨a1, c1, o1, rfl, hG1, hg1, hgl1, hw87⟩; have hE90 := (((((((((Evo.refl [] w20).then hw28).step hw39 (Ge.new (Evo.refl [] w20) hs27).mem1).then hw45).then hw52).then hw59).then hw66).then hw73).then hw80).then hw87; have hE91 := (Evo.refl [] w79).then hw87; refine aC (cG (.inl hE91) ?_); refine cP [3] (by kernel_rfl) rfl ⟨?_, trivial⟩; refine cU rfl ?_; refine aK (vs := [_]) wD rfl (BG (RRx.pers _ _ _ _ _ _ hE90 hx2')) rfl ?_; rintro _ w94 ⟨a2, c2, o2, rfl, hG2, hg2, hgl2, hw95⟩; have hE96 := ((hE74.then hw80).then hw87).then hw95; have hE99 := hE91.then hw95
  refine aC (cG (.inl hE99) ?_); refine aet 4 rfl (fun _ hS => eT rfl) hE99 ?_; refine aet 5 rfl (fun _ hS => eT rfl) hE99 ?_; refine fA (by kernel_rfl) (aA ?_); refine aE (aB (aG ?_))
  refine aF (cI rfl rfl (by have := qP; (try simp only [ByteArray.size_append]); omega)) ?_
  refine aF (cI rfl rfl (by have := qP; (try simp only [ByteArray.size_append]); omega)) ?_
  refine aG ?_
  refine aF (cI rfl rfl (by have := qP; (try simp only [ByteArray.size_append]); omega)) ?_
  refine aF (cI rfl rfl (by have := qP; (try simp only [ByteArray.size_append]); omega)) ?_
  rw [cat_eq]; refine aK (vs := [_]) lO rfl (pR (s := bstr ([40, 63, 58] ++ (nmL a ++ (41 :: ([40, 63, 58] ++ (nmL b ++ [41])))))) (hG.evo0 hE96).glb) rfl ?_; rintro _ w103 ⟨v3, n3, x3, e3, rfl, hx3, hp3, hw104⟩; have hE106 := ((hE82.then hw87).then hw95).then hw104; have hE107 := (hE90.then hw95).then hw104; have hB108 := hw104.blk0 (hw95.blk0 (hw87.blk0 hB84)); have hB109 := hw104.blk0 (hw95.blk0 (hw87.blk0 hB85)); have hO110 := (hG1.evo0 hw95).evo0 hw104; have hx3' := hx3; obtain ⟨m3, ra3, rc3, ka3, kc3, hm3, rfl, -⟩ := hx3.get; refine aG (aF (cN rfl rfl) ?_); refine aF (cN rfl rfl) ?_; refine dA rfl dS fun bp w112 hB113 hs114 hw115 => ?_; have hsz_bp := hs114; refine bI rfl rfl aY hB113 rfl rfl ⟨rfl, rfl, rfl, rfl, rfl, rfl, rfl, rfl, rfl, trivial⟩ fun w132 hB133 hw134 => ?_; have hE135 := ((hE96.then hw104).then hw115).step hw134 (Ge.new (hE96.then hw104) hs114).mem1
  try simp only [cR, Nat.reduceAdd] at hB133
  refine aM (aC (aA (aE (aB (aG ?_)))))
  refine aF (cI rfl rfl (by have := qP; (try simp only [ByteArray.size_append]); omega)) ?_
  refine aF (cI rfl rfl (by have := qP; (try simp only [ByteArray.size_append]); omega)) ?_
  refine aG ?_
  refine aF (cI rfl rfl (by have := qP; (try simp only [ByteArray.size_append]); omega)) ?_
  refine aF (cI rfl rfl (by have := qP; (try simp only [ByteArray.size_append]); omega)) ?_
  rw [alt_eq]; refine aK (vs := [_]) lO rfl (pR (s := bstr ([40, 63, 58] ++ (nmL a ++ (41 :: ([124, 40, 63, 58] ++ (nmL b ++ [41])))))) (hG.evo0 hE135).glb) rfl ?_; rintro _ w143 ⟨v4, n4, x4, e4, rfl, hx4, hp4, hw144⟩; have hE146 := ((hE106.then hw115).step hw134 (Ge.new hE106 hs114).mem1).then hw144; have hE147 := ((hE107.then hw115).step hw134 (Ge.new hE107 hs114).mem1).then hw144; have hE148 := (((Evo.refl [] w103).then hw115).step hw134 (Ge.new (Evo.refl [] w103) hs114).mem1).then hw144; have hB149 := hw144.blk0 (hw134.blk (hw115.blk0 hB108) (Apart.new (Lt.blk hB108) hs114).nmem1); have hB150 := hw144.blk0 (hw134.blk (hw115.blk0 hB109) (Apart.new (Lt.blk hB109) hs114).nmem1); have hO151 := ((hO110.evo0 hw115).evo hw134 (Apart.new (Lt.own hO110) hs114).own1).evo0 hw144; have hO152 := (((hG2.evo0 hw104).evo0 hw115).evo hw134 (Apart.new (Lt.own (hG2.evo0 hw104)) hs114).own1).evo0 hw144; have hx4' := hx4; obtain ⟨m4, ra4, rc4, ka4, kc4, hm4, rfl, -⟩ := hx4.get; refine aG (aF (cN rfl rfl) ?_); refine aF (cN rfl rfl) ?_; refine dA rfl dS fun bq w154 hB155 hs156 hw157 => ?_; have hsz_bq := hs156; refine bI rfl rfl aY hB155 rfl rfl ⟨rfl, rfl, rfl, rfl, rfl, rfl, rfl, rfl, rfl, trivial⟩ fun w178 hB179 hw180 => ?_
  try simp only [cR, Nat.reduceAdd] at hB179
  refine aM (aC (aA (aE (aE (aB (aG (aG ?_))))))); refine aK (vs := [_, _]) HQ rfl (meet_ok ((hO151.evo0 hw157).evo hw180 (Apart.new (Lt.own hO151) hs156).own1) ((hO152.evo0 hw157).evo hw180 (Apart.new (Lt.own hO152) hs156).own1) (by omega) (by omega)) rfl ?_; rintro _ w191 ⟨r4, rfl, hr4, hw192⟩; have hE193 := (((hE135.then hw144).then hw157).step hw180 (Ge.new (hE135.then hw144) hs156).mem1).then hw192; refine aC (aA (fW rfl (fun hc86 => ?_) (fun hc86 => ?_)))
  ·obtain ⟨hq3, hq4⟩ := hj.1 (hr4.1 (by simpa using hc86))
   obtain rfl : e3 = 85 := by rcases hp3 with h9 | h9; (rw [hq3] at h9; cases h9.1); (rw [hq3] at h9; cases h9.1; rfl)
   obtain rfl : e4 = 85 := by rcases hp4 with h9 | h9; (rw [hq4] at h9; cases h9.1); (rw [hq4] at h9; cases h9.1; rfl)
   refine aE (aB (aG ?_)); refine aF (fI (r := .bool true) rfl rfl (fun w => by kernel_rfl)) ?_; refine aG (aQ (aG (aQ ?_))); refine aF (fI (r := .bool true) rfl rfl (fun w => by kernel_rfl)) ?_; refine bH (aM (aC (aA (aO (aN (br1 ?_)))))); exact ⟨rfl, hE193⟩
  obtain ⟨hq3, hq4⟩ := hj.2 (fun h9 => by simp [hr4.2 h9] at hc86)
  obtain ⟨hqq3, rfl⟩ := hp3.resolve_right (fun h9 => by rw [hq3] at h9; cases h9.1)
  have hx3e : x3 = lS 4 [x1, x2.mv (pG x1).length] := by rw [hq3] at hqq3; exact (Except.ok.inj hqq3).symm
  obtain ⟨hqq4, rfl⟩ := hp4.resolve_right (fun h9 => by rw [hq4] at h9; cases h9.1)
  have hx4e : x4 = lS 5 [x1, x2.mv (pG x1).length] := by rw [hq4] at hqq4; exact (Except.ok.inj hqq4).symm
  refine aU (aA (aE ?_)); refine iK (fun w0 w' => Evo [] w0 w') (by kernel_rfl) (fun w204 hw205 => ?_); refine aet 0 rfl (fun _ hS => bX rfl bQ aY (hS.blk0 (hw205.blk0 (hw192.blk0 (hw180.blk (hw157.blk0 hB149) (Apart.new (Lt.blk hB149) hs156).nmem1)))) rfl) (Evo.refl [] w204) ?_; refine aet 1 rfl (fun _ hS => bX rfl bQ aY (hS.blk0 (hw205.blk0 (hw192.blk0 (hw180.blk (hw157.blk0 hB150) (Apart.new (Lt.blk hB150) hs156).nmem1)))) rfl) (Evo.refl [] w204) ?_; refine aet 2 rfl (fun _ hS => bO rfl) (Evo.refl [] w204) ?_; refine aet 3 rfl (fun _ hS => bK rfl Tryz.underlying22 rfl) (Evo.refl [] w204) ?_; refine cP [4] (by kernel_rfl) rfl ⟨?_, trivial⟩; refine cU rfl ?_
  refine aK (vs := [_, _]) rM rfl (FV (X := []) (q := (pG x1).length) (RRx.pers _ _ _ _ _ _ ((((hE147.then hw157).step hw180 (Ge.new hE147 hs156).mem1).then hw192).then hw205) hx2') (fun b h => by cases h) (Rx.Ok.good (nX hpb).1) (Nat.le_trans (QH hpb) (by decide)) (by have := grp_le hpa; omega)) rfl ?_
  rintro _ w217 ⟨us, rfl, hx5, hw218⟩; have hE224 := (Evo.refl [] w204).then hw218; have hx5' := hx5; obtain ⟨m5, ra5, rc5, ka5, kc5, hm5, rfl, -⟩ := hx5.get; refine aC (cG (.inl hE224) ?_); refine cP [5] (by kernel_rfl) rfl ⟨?_, trivial⟩; refine cU rfl ?_; refine bL (vs := [_, _]) rfl dD rfl rfl rfl rfl fun K w231 hO232 hs233 hw234 => ?_; have hE249 := (((((hE146.then hw157).step hw180 (Ge.new hE146 hs156).mem1).then hw192).then hw205).then hw218).then hw234; have hE254 := (Evo.refl [] w217).then hw234; refine aC (cG (.inl (hE224.then hw234)) ?_); refine aet 6 rfl (fun _ hS => eT rfl) (hE224.then hw234) ?_; refine fA (by kernel_rfl) (aA ?_); refine aE (aB (aG ?_)); refine aF (fI (r := .bool true) rfl rfl (fun w => by kernel_rfl)) ?_; refine aG (aQ (aG (aQ ?_))); refine aF (fI (r := .bool true) rfl rfl (fun w => by kernel_rfl)) ?_; refine bH (aG (aQ (aF (bX rfl bQ aY (hw234.blk0 (hw218.blk0 (hw205.blk0 (hw192.blk0 (hw180.blk (hw157.blk0 (hw144.blk0 hB133)) (Apart.new (Lt.blk (hw144.blk0 hB133)) hs156).nmem1))))) rfl) (aQ (aG (aQ (aF (eN (vs := [(0, _), (8, _)]) dK rfl (cells := [_, _, _, _, _, _, _, _, _]) rfl) ?_))))))); obtain ⟨N1, hrow1⟩ := PE (k := 4) (RRx.pers _ _ _ _ _ _ hE249 hx1') (RRx.pers _ _ _ _ _ _ hE254 hx5') rfl hO232; refine aQ ?_
  refine aK (vs := [_, _]) rP rfl (zD (RRx.pers _ _ _ _ _ _ ((((((hE148.then hw157).step hw180 (Ge.new hE148 hs156).mem1).then hw192).then hw205).then hw218).then hw234) hx3') hrow1) rfl ?_; rintro _ w261 ⟨r6, rfl, hr6, hw262⟩; have hE264 := hE249.then hw262; have hE268 := hE254.then hw262; have hO275 := hO232.evo0 hw262; obtain rfl : r6 = true := hr6.2 hx3e; refine bH (aG (aQ (aF (bX rfl bQ aY (hw262.blk0 (hw234.blk0 (hw218.blk0 (hw205.blk0 (hw192.blk0 hB179))))) rfl) (aQ (aG (aQ (aF (eN (vs := [(0, _), (8, _)]) dK rfl (cells := [_, _, _, _, _, _, _, _, _]) rfl) ?_))))))); obtain ⟨N2, hrow2⟩ := PE (k := 5) (RRx.pers _ _ _ _ _ _ hE264 hx1') (RRx.pers _ _ _ _ _ _ hE268 hx5') rfl hO275; refine aQ (aK (vs := [_, _]) rP rfl (zD (RRx.pers _ _ _ _ _ _ ((((((((Evo.refl [] w143).then hw157).step hw180 (Ge.new (Evo.refl [] w143) hs156).mem1).then hw192).then hw205).then hw218).then hw234).then hw262) hx4') hrow2) rfl ?_); rintro _ w276 ⟨r7, rfl, hr7, hw277⟩; obtain rfl : r7 = true := hr7.2 hx4e; refine bH (aM (aC (aA (aO (br1 ?_))))); exact ⟨rfl, (((((hE193.then hw205).then hw218).then hw234).then hw262).then hw277)⟩
end Go.Proofs.YtljadkcojnlioaaGreatDoor
namespace Go.Proofs.YtljadkcojnlioaaGreatDoor
open Go.ChangeAt Go.ChangeShapes Go.RowKit Go.W Go.WideShapes
set_option maxRecDepth 100000 in
theorem TO (H : Type) (enc : TypeId × Value → H) (W : World) (base : Nat) (args : Array Value) (ds gs : List (DataW H)) (before : List MemPlace)
    (hval : ∀ (j : Nat) t v, Tryz.f8.params[j]? = some t → args[j]? = some v → Value.okWide Tryz.prog W .any base t v)
    (hW : DataW.Whole enc Tryz.prog Tryz.f8.params.toList Rows.rxtreeJoinsSpec.vars false W args.toList ds gs before) (hk : Rows.uptoSmall H (ds ++ gs) = true)
    (hsz : (DataW.weightsEach Tryz.prog (Tryz.f8.params.toList ++ Rows.rxtreeJoinsSpec.plain.varTypes Tryz.prog) (ds ++ gs)).all (· ≤ reachBytes) = true) (hG : Gw W) :
    Calls Tryz.prog 8 args W fun e W' => ∃ v, e = .returned v ∧ Rows.rxtreeJoinsSpec.post enc Tryz.prog Tryz.f8 false true false false W args v W' := by
  have hW' := hW
  obtain ⟨p, q, hA0, hV, rfl, hfz, hnd⟩ := hW
  have hA : DataW.TrodAll enc Tryz.prog W 0 (fun _ => true) true Tryz.f8.params.toList args.toList ds p := hA0
  rw [Tryz.params8] at hA hval hsz
  obtain ⟨v0, vs0, d0, ds0, p0, q0, hargs0, rfl, rfl, h0, r0⟩ := trodAll_cons hA
  obtain ⟨v1, vs1, d1, ds1, p1, q1, hargs1, rfl, rfl, h1, r1⟩ := trodAll_cons r0
  obtain ⟨hn1, rfl, rfl⟩ := trodAll_nil r1
  subst hn1
  subst hargs1
  obtain rfl : args = #[v0, v1] := by cases args; simp_all
  obtain ⟨rfl, rfl⟩ := trodVars_none hV
  have hbk := of_decide_eq_true hk
  simp only [List.append_nil, List.cons_append, List.nil_append, Rows.uptoBulkAll] at hbk
  have k0 := h0
  have lt0 : ∀ x ∈ p0, x.block < W.heap.size := by obtain ⟨m, hm⟩ := k0; exact DataW.trod_lt m _ _ _ hm
  obtain ⟨f0, hf0⟩ := h0
  obtain ⟨s0, ⟨hc0, hs0⟩, -⟩ := xV f0 Tryz.underlying9 H enc W f0 _ _ (Nat.le_refl _) hf0 (fun n hn => by have := List.all_eq_true.1 hsz n (DataW.weights_mem_each (j := 0) rfl rfl n hn); simpa using this) (by simp only; omega)
  obtain ⟨z0, rfl⟩ := okWide_string Tryz.underlying9 (hval 0 9 _ rfl rfl)
  simp [Value.cells] at hc0
  subst hc0
  have k1 := h1
  have lt1 : ∀ x ∈ p1, x.block < W.heap.size := by obtain ⟨m, hm⟩ := k1; exact DataW.trod_lt m _ _ _ hm
  obtain ⟨f1, hf1⟩ := h1
  obtain ⟨s1, ⟨hc1, hs1⟩, -⟩ := xV f1 Tryz.underlying9 H enc W f1 _ _ (Nat.le_refl _) hf1 (fun n hn => by have := List.all_eq_true.1 hsz n (DataW.weights_mem_each (j := 1) rfl rfl n hn); simpa using this) (by simp only; omega)
  obtain ⟨z1, rfl⟩ := okWide_string Tryz.underlying9 (hval 1 9 _ rfl rfl)
  simp [Value.cells] at hc1
  subst hc1
  refine (NR z0 z1 hG (by omega) (by omega)).mono fun e W' ⟨v, he, hv, bel⟩ => ?_
  subst he hv
  exact ⟨_, rfl, _, _, _, [], _, [], hW', trodAll_mk1 (shut_bool Tryz.underlying4 _), (trodAll_cons_mk (Below.trod LL (by kernel_rfl) (of_decide_eq_true (by kernel_rfl)) k0 bel.below lt0) (trodAll_cons_mk (Below.trod LL (by kernel_rfl) (of_decide_eq_true (by kernel_rfl)) k1 bel.below lt1) trodAll_mk0)), rfl, bel.below.frame _, fun h => by cases h⟩
theorem SC (os : Os) : laidMet Tryz.prog laidL ((vC os).forCall (fun _ _ => 0) ⟨#[], #[.string ByteArray.empty, .string ByteArray.empty], []⟩).memory :=
  laidMet_of_run' 8 (by kernel_rfl) (by kernel_rfl)
theorem reads (os : Os) {H : Type} (enc : TypeId × Value → H) : ∃ places, DataW.whole enc Tryz.prog ((vC os).forCall (fun _ _ => 0) ⟨#[], #[.string ByteArray.empty, .string ByteArray.empty], []⟩).memory Tryz.f8.params.toList Rows.rxtreeJoinsSpec.vars false (#[.string ByteArray.empty, .string ByteArray.empty] : Array Value).toList 8 = some ([.lit (.string []), .lit (.string [])], [], places) :=
  ⟨[], by kernel_rfl⟩
set_option maxRecDepth 100000 in
theorem lifted (os : Os) (started : os.Started) (H : Type) (enc : TypeId × Value → H) (F : Stop.Interp) :
    ReturnsInHanded {} Tryz.checked os 8 .any ((Rows.OpenSpec.upto Rows.rxtreeJoinsSpec).preRow enc Tryz.prog Tryz.f8 Rows.rxtreeJoinsUptoRow.domain false Rows.rxtreeJoinsUptoRow.laid) (((Rows.OpenSpec.upto Rows.rxtreeJoinsSpec).at F).post enc Tryz.prog Tryz.f8 false true false false) := by
  obtain ⟨places, hx⟩ := reads os enc
  refine returnsInHanded_of_row (C := Tryz.checked) (s := (Rows.OpenSpec.upto Rows.rxtreeJoinsSpec)) own started (by kernel_rfl) Tryz.func8
    (witness_row_at (enc := enc) (C := Tryz.checked) false (vC os) #[.string ByteArray.empty, .string ByteArray.empty] rfl (by kernel_rfl) (by kernel_rfl) (by kernel_rfl)
      (OpenSpec.preRow_of_cond 8 hx (by kernel_rfl) (fun k hk => by cases hk; kernel_rfl) (by kernel_rfl) (SC os))) ?_
  intro W base args ds gs before hval hW _ hk hsz hL hsh _
  exact TO H enc W base args ds gs before hval hW (hk _ rfl) hsz (gw_of hL hsh)
theorem said : Rows.RxtreeJoinsUptoSaid :=
  OpenClaim.holds_of_cond 8 Tryz.f8 rfl rfl rfl rfl rfl rfl rfl ⟨rfl, rfl, rfl, rfl, rfl⟩ rfl rfl rfl rfl rfl (by kernel_rfl) Tryz.func8 (by kernel_rfl)
    (of_decide_eq_true (by kernel_rfl)) (by unfold Func.isWrapper; first | (rw [if_pos (by decide +kernel)]; kernel_rfl) | (rw [if_neg (by decide +kernel)]; exact ⟨rfl, rfl⟩))
    (fun os started H enc _ F => by rw [OpenClaim.pre_eq_preRow]; exact lifted os started H enc F)
theorem plain (f : FuncId) (fn : Func) (hf : Tryz.pinned.checked.prog.funcNamed "weir/weirlaw08.RxtreeJoins" = some f) (hfn : Tryz.pinned.checked.prog.funcs[f]? = some fn) :
    true = Tryz.pinned.checked.prog.looks [] ∧ ∀ (j : Nat) t, fn.params[j]? = some t → Tryz.pinned.checked.prog.wantsStandIn t = false := by
  obtain rfl : f = 8 := Option.some.inj ((show Tryz.prog.funcNamed "weir/weirlaw08.RxtreeJoins" = some 8 by kernel_rfl).symm.trans hf) |>.symm
  obtain rfl : fn = Tryz.f8 := (Option.some.inj (Tryz.func8.symm.trans hfn)).symm
  refine ⟨SA, fun j t ht => ?_⟩
  rw [Tryz.params8] at ht
  rcases j with _ | _ | j
  · obtain rfl : t = 9 := by simpa using ht.symm
    exact (show Tryz.prog.wantsStandIn 9 = false by kernel_rfl)
  · obtain rfl : t = 9 := by simpa using ht.symm
    exact (show Tryz.prog.wantsStandIn 9 = false by kernel_rfl)
  · simp at ht
theorem rxtreeJoins_card : Rows.RxtreeJoinsUptoCardSaid :=
  Claim7.holds_tied_plain_at .later [] _ _ _ _ said (fun _ h => by cases h) (by kernel_rfl) (fun _ h => by cases h) rxtreeJoinsUpto_row_tie rfl ⟨rfl, rfl⟩ (by kernel_rfl) rfl plain (by kernel_rfl)
#print axioms rxtreeJoins_card
end Go.Proofs.YtljadkcojnlioaaGreatDoor
